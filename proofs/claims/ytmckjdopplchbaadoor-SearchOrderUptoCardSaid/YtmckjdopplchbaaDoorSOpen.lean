/- Lemmas that the claim is proved from: what calls of functions of the program come to (contracts), and plain laws. Each lemma bears its own conditions. -/
import Derived.Test.YtmckjdopplchbaaDoorTOpen2
import Derived.Test.YtmckjdopplchbaaDoorSRD
import Derived.Deep.Slices
namespace Go.Proofs.YtmckjdopplchbaaDoor
set_option linter.unusedVariables false
set_option linter.unusedSimpArgs false
open Go.ChangeShapes Go.WideShapes Go.ChangeAt Go.RowKit Go.Deep

section
variable {H : Type} {enc : TypeId × Value → H} {w : World}

theorem open_strs_cell {fuel : Nat} {c : Value} {x : DataW H × List MemPlace} (h : DataW.trod enc Tryd.prog w 0 (fun _ => true) true fuel 29 [c] = some x) :
    ∃ g, Strs w c g ∧ bytesN g + g.length ≤ Rows.uptoBulk x.1 := by
  rcases open_strings Tryd.underlying29 Tryd.underlying9 cellsString h with ⟨hcs, hx⟩ | ⟨a, n, cap, ss, hcs, _, hl, hm, hz, hx, hcell, hsz⟩
  · simp at hcs
    subst hcs
    exact ⟨[], ⟨.none, 0, 0, 0, rfl, by simp, fun h => absurd h (by simp), by simp, fun i hi => absurd hi (by simp)⟩, by simp [bytesN]⟩
  · simp at hcs
    subst hcs
    simp only [if_true] at hz
    have hlen : ((ss.take n).map (·.data.toList)).length = n := by rw [List.length_map, List.length_take]; omega
    refine ⟨(ss.take n).map (·.data.toList), ⟨some a, a.block, a.off, cap, by rw [hlen], by rw [hlen]; unfold maxLen at hm; omega, fun h0 => ?_, by rw [hlen]; exact hl, fun i hi => ?_⟩, ?_⟩
    · rw [hlen] at h0
      rw [← plain_addr (hcell 0 (by omega))]
    · rw [hlen] at hi
      have h1 := hcell i (by omega)
      have h2 := plain_addr (hcell 0 (by omega))
      rw [h2, Addr.add_lit] at h1
      rw [h1]
      have hi2 : i < ss.length := by omega
      simp [snth, List.getD, List.getElem?_take, hi, hi2]
    · have hx1 : x.1 = .slice (Go.ChangeShapes.strs (ss.take n)) (Go.ChangeShapes.strs (ss.drop n)) := congrArg Prod.fst hx
      rw [hx1, Rows.uptoBulk, bulk_strs, hlen, List.length_take]
      omega
theorem open_str_cell {fuel : Nat} {c : Value} {x : DataW H × List MemPlace} (h : DataW.trod enc Tryd.prog w 0 (fun _ => true) true fuel 9 [c] = some x) :
    ∃ l : List UInt8, c = .string ⟨l.toArray⟩ ∧ ByteArray.size ⟨l.toArray⟩ ≤ maxLen ∧ l.length ≤ Rows.uptoBulk x.1 := by
  obtain ⟨s, hcs, rfl, hz⟩ := DataW.trod_string Tryd.underlying9 h
  simp at hcs
  subst hcs
  obtain ⟨l, rfl⟩ := text_of s
  exact ⟨l, rfl, hz, by simp [Rows.uptoBulk]⟩

theorem two_of {α : Type} {l : List α} (h : l.length = 2) : ∃ a b, l = [a, b] := by
  match l, h with
  | [a, b], _ => exact ⟨a, b, rfl⟩
theorem cellsKnown : Tryd.prog.cellsOf 75 = 2 := by kernel_rfl
theorem cellsEnv : Tryd.prog.cellsOf 38 = 2 := by kernel_rfl
theorem cellsStrs : Tryd.prog.cellsOf 29 = 1 := by kernel_rfl
theorem cellsKnowns : Tryd.prog.cellsOf 36 = 1 := by kernel_rfl
theorem cellsWant : Tryd.prog.cellsOf 40 = 5 := by kernel_rfl
theorem bulk_count : ∀ l : List (DataW H), l.length ≤ Rows.uptoBulkAll l
  | [] => by simp
  | d :: l => by
    have := bulk_count l
    have h1 : 1 ≤ Rows.uptoBulk d := by cases d with
      | lit x => cases x <;> simp [Rows.uptoBulk]
      | _ => simp [Rows.uptoBulk]
    simp only [Rows.uptoBulkAll, List.length_cons]
    omega

theorem open_knowns_cell {fuel : Nat} {c : Value} {x : DataW H × List MemPlace} (h : DataW.trod enc Tryd.prog w 0 (fun _ => true) true fuel 36 [c] = some x) :
    ∃ ks, PairsB w.heap.size w c ks ∧ ks.length ≤ Rows.uptoBulk x.1 := by
  rcases open_slice Tryd.underlying36 h with ⟨hcs, hx⟩ | ⟨a, n, cap, m, q, D, Pl, hcs, _, hl, hm, hmm, hx, hi⟩
  · simp at hcs
    subst hcs
    exact ⟨[], pairsB_nil _ _, by simp⟩
  · simp at hcs
    subst hcs
    simp only [if_true] at hmm
    subst hmm
    have each : ∀ i, i < m → ∃ k1 k2 : List UInt8, w.cell? (a.add (i * 2)) = some (.string ⟨k1.toArray⟩) ∧ w.cell? (a.add (i * 2 + 1)) = some (.string ⟨k2.toArray⟩) := fun i hin => by
      obtain ⟨cs', hc, ht⟩ := hi i hin
      rw [cellsKnown] at hc
      obtain ⟨_, hcl, hat⟩ := World.cells?_some hc
      obtain ⟨ys, n', _, _, _, hyl, hf⟩ := DataW.trod_struct Tryd.underlying75 ht
      obtain ⟨d0, d1, rfl⟩ := two_of hcl
      obtain ⟨y0, y1, rfl⟩ := two_of hyl
      · · have f0 := hf 0 _ rfl
          have f1 := hf 1 _ rfl
          simp only [cellsString, List.drop_zero, List.take_succ_cons, List.take_zero, List.drop_succ_cons, List.getElem?_cons_zero, List.getElem?_cons_succ] at f0 f1
          obtain ⟨k1, e1, _⟩ := open_str_cell f0
          obtain ⟨k2, e2, _⟩ := open_str_cell f1
          have a0 := hat 0 (by omega)
          have a1 := hat 1 (by omega)
          subst e1
          subst e2
          rw [Go.Deep.add_add] at a0 a1
          exact ⟨k1, k2, a0, a1⟩
    have hf : ∃ f : Nat → List UInt8 × List UInt8, ∀ i, i < m → w.cell? (a.add (i * 2)) = some (.string ⟨(f i).1.toArray⟩) ∧ w.cell? (a.add (i * 2 + 1)) = some (.string ⟨(f i).2.toArray⟩) :=
      ⟨fun i => if hin : i < m then ((each i hin).choose, (each i hin).choose_spec.choose) else ([], []), fun i hin => by
        simp only [dif_pos hin]
        exact (each i hin).choose_spec.choose_spec⟩
    obtain ⟨f, hf⟩ := hf
    have hlen : ((List.range n).map f).length = n := by simp
    refine ⟨(List.range n).map f, ⟨some a, a.block, a.off, m, by rw [hlen], by rw [hlen]; unfold maxLen at hm; omega, fun h0 => ?_, by rw [hlen]; exact hl, fun h0 => ?_, fun i hin => ?_⟩, ?_⟩
    · rw [hlen] at h0
      have := (hf 0 (by omega)).1
      rw [Nat.zero_mul] at this
      rw [← plain_addr this]
    · rw [hlen] at h0
      have := (hf 0 (by omega)).1
      rw [Nat.zero_mul, plain_addr this, Addr.add_lit] at this
      exact World.block_lt_of_cell? _ ⟨a.block, a.off + 0, none⟩ this
    · rw [hlen] at hin
      have h0 := (hf 0 (by omega)).1
      rw [Nat.zero_mul] at h0
      have hp := plain_addr h0
      have h1 := hf i (by omega)
      rw [hp, Addr.add_lit, Addr.add_lit] at h1
      simpa [pkey, pval, List.getD, hin, Nat.add_assoc] using h1
    · rw [hlen]
      have hx1 : x.1 = .slice ((List.range n).map D) ((List.range (m - n)).map fun j => D (n + j)) := congrArg Prod.fst hx
      rw [hx1, Rows.uptoBulk]
      have := bulk_count ((List.range n).map D)
      simp at this
      omega

/-- the argument of the search's laws -/
theorem open_want {base : Nat} {v : Value} {d : DataW H} {p : List MemPlace} (hv : Value.okWide Tryd.prog w .any base 40 v) (h : DataW.Trod enc Tryd.prog w 0 (fun _ => true) true 40 v d p) :
    ∃ (name o : List UInt8) (rpv pv cv : Value) (rp ps : List (List UInt8)) (ks : List (List UInt8 × List UInt8)), v = .agg #[.string ⟨name.toArray⟩, .string ⟨o.toArray⟩, rpv, pv, cv] ∧ StrsB w.heap.size w rpv rp ∧ StrsB w.heap.size w pv ps ∧ PairsB w.heap.size w cv ks ∧
      ByteArray.size ⟨o.toArray⟩ ≤ maxLen ∧ name.length + rp.length + ps.length + ks.length ≤ Rows.uptoBulk d := by
  obtain ⟨cs, rfl, hsz⟩ := okWide_struct Tryd.underlying40 hv
  obtain ⟨l⟩ := cs
  match l, hsz.trans cellsWant with
  | [c0, c1, c2, c3, c4], _ =>
    obtain ⟨fuel, hf⟩ := h
    obtain ⟨xs, n, _, hx, _, hlen, hg⟩ := DataW.trod_struct Tryd.underlying40 hf
    match xs, hlen with
    | [y0, y1, y2, y3], _ =>
      have g0 := hg 0 _ rfl
      have g1 := hg 1 _ rfl
      have g2 := hg 2 _ rfl
      have g3 := hg 3 _ rfl
      simp only [Value.cells, cellsString, cellsStrs, cellsEnv, List.drop_zero, List.take_succ_cons, List.take_zero, List.drop_succ_cons, List.getElem?_cons_zero, List.getElem?_cons_succ] at g0 g1 g2 g3
      obtain ⟨name, e0, _, b0⟩ := open_str_cell g0
      obtain ⟨o, e1, z1, b1⟩ := open_str_cell g1
      obtain ⟨rp, s2, b2⟩ := open_strs_cell g2
      obtain ⟨zs, n', _, hz, _, hzl, hh⟩ := DataW.trod_struct Tryd.underlying38 g3
      match zs, hzl with
      | [z3, z4], _ =>
        have h3 := hh 0 _ rfl
        have h4 := hh 1 _ rfl
        simp only [cellsStrs, cellsKnowns, List.drop_zero, List.take_succ_cons, List.take_zero, List.drop_succ_cons, List.getElem?_cons_zero, List.getElem?_cons_succ] at h3 h4
        obtain ⟨ps, s3, b3⟩ := open_strs_cell h3
        obtain ⟨ks, s4, b4⟩ := open_knowns_cell h4
        have hd : d = .agg [y0.1, y1.1, y2.1, y3.1] := congrArg Prod.fst hx
        have hy : y3.1 = .agg [z3.1, z4.1] := congrArg Prod.fst hz
        refine ⟨name, o, c2, c3, c4, rp, ps, ks, by rw [e0, e1], s2.toB, s3.toB, s4, z1, ?_⟩
        rw [hd]
        simp only [Rows.uptoBulk, Rows.uptoBulkAll, hy]
        omega

theorem arg_want {v : Value} {d : DataW H} {ps : List MemPlace} {W' : World} (h : DataW.Trod enc Tryd.prog w 0 (fun _ => true) true 40 v d ps) (hb : Below w.heap.size w W') (hlt : ∀ x ∈ ps, x.block < w.heap.size) :
    DataW.Trod enc Tryd.prog W' 0 (fun b => decide (b < w.heap.size)) true 40 v d ps := Below.trod laidOut (by kernel_rfl) (of_decide_eq_true (by kernel_rfl)) h hb hlt
end

end Go.Proofs.YtmckjdopplchbaaDoor
