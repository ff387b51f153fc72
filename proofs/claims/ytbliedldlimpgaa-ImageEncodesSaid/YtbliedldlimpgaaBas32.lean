/- From a reading of an argument of the type api.Image to the words of the walks: its elements, and the whole. -/
import Derived.Test.YtbliedldlimpgaaBas15
import Derived.Test.YtbliedldlimpgaaRows
import Derived.ProofKit
import Derived.OpenShut
import Derived.Carry
import Derived.Deep.Matrix
import Derived.Deep.Slices

/- From a reading of an argument of the type api.Image to the words of the walks. -/
namespace Go.Proofs.Ytbliedldlimpgaa
set_option linter.unusedVariables false
set_option linter.unusedSimpArgs false
open Go.ChangeShapes Go.WideShapes Go.ChangeAt Go.RowKit Go.Deep

theorem own : ownKnob Try.prog.godebug = none := by kernel_rfl
theorem laidOut : laidOutB Try.prog = true := by kernel_rfl
theorem wf_i64 {n : Int} (h : (Lit.int .i64 n).wf = true) : -9223372036854775808 ≤ n ∧ n ≤ 9223372036854775807 := by
  simp [Lit.wf, IntKind.min, IntKind.max, IntKind.signed, IntKind.bits] at h
  omega
theorem wf_u64 {n : Int} (h : (Lit.int .u64 n).wf = true) : 0 ≤ n ∧ n < 18446744073709551616 := by
  simp [Lit.wf, IntKind.min, IntKind.max, IntKind.signed, IntKind.bits] at h
  omega
theorem wf_u8 {n : Int} (h : (Lit.int .u8 n).wf = true) : 0 ≤ n ∧ n < 256 := by
  simp [Lit.wf, IntKind.min, IntKind.max, IntKind.signed, IntKind.bits] at h
  omega
theorem bulk_count {H : Type} : ∀ l : List (DataW H), l.length ≤ Rows.uptoBulkAll l
  | [] => by simp
  | d :: l => by
    have := bulk_count l
    have h1 : 1 ≤ Rows.uptoBulk d := by cases d with
      | lit x => cases x <;> simp [Rows.uptoBulk]
      | _ => simp [Rows.uptoBulk]
    simp only [Rows.uptoBulkAll, List.length_cons]
    omega
theorem bulk_mem {H : Type} {d : DataW H} : ∀ {l : List (DataW H)}, d ∈ l → Rows.uptoBulk d ≤ Rows.uptoBulkAll l
  | [], h => by cases h
  | x :: l, h => by
    simp only [Rows.uptoBulkAll]
    rcases List.mem_cons.1 h with rfl | h
    · omega
    · have := bulk_mem h; omega

theorem weights_mem {H : Type} {P : Program} {e : TypeId} {d : DataW H} {k : Nat} : ∀ {l : List (DataW H)}, d ∈ l → k ∈ DataW.weights P e d → k ∈ DataW.weightsAll P e l
  | [], h, _ => by cases h
  | x :: l, h, hk => by
    rw [DataW.weightsAll]
    rcases List.mem_cons.1 h with rfl | h
    · exact List.mem_append_left _ hk
    · exact List.mem_append_right _ (weights_mem h hk)
section
variable {H : Type} {enc : TypeId × Value → H} {w : World}

theorem open_listW {α : Type} {K : Kind α} {t e : TypeId} {P : α → DataW H → Prop} (ht : Try.prog.underlying t = some (.slice e)) (hk : Try.prog.cellsOf e = K.k) (hk0 : 0 < K.k)
    (el : ∀ (fuel : Nat) (cs : List Value) (x : DataW H × List MemPlace), cs.length = K.k → DataW.trod enc Try.prog w 0 (fun _ => true) true fuel e cs = some x → ∃ y, K.R (· < w.heap.size) w y cs ∧ P y x.1)
    {fuel : Nat} {c : Value} {x : DataW H × List MemPlace} (h : DataW.trod enc Try.prog w 0 (fun _ => true) true fuel t [c] = some x) :
    ∃ l, LB K (· < w.heap.size) w c l ∧ l.length ≤ Rows.uptoBulk x.1 ∧ (0 < l.length → ∃ k ∈ DataW.weights Try.prog t x.1, l.length * Try.prog.bytesOf e ≤ k) ∧ ∀ y ∈ l, ∃ d : DataW H, P y d ∧ Rows.uptoBulk d ≤ Rows.uptoBulk x.1 ∧ ∀ k ∈ DataW.weights Try.prog e d, k ∈ DataW.weights Try.prog t x.1 := by
  rcases open_slice ht h with ⟨hcs, hx⟩ | ⟨a, n, cap, m, q, D, Pl, hcs, _, hl, hm, hmm, hx, hi⟩
  · simp at hcs
    subst hcs
    exact ⟨[], LB.nil _ _ _, by simp, fun h => absurd h (by simp), fun y hy => (by cases hy)⟩
  · simp at hcs
    subst hcs
    simp only [if_true] at hmm
    subst hmm
    have each : ∀ i, i < m → ∃ y, ∃ row, K.R (· < w.heap.size) w y row ∧ (∀ j u, row[j]? = some u → w.cell? ((a.add (i * K.k)).add j) = some u) ∧ P y (D i) ∧ row.length = K.k := fun i hin => by
      obtain ⟨cs', hc, ht'⟩ := hi i hin
      rw [hk] at hc
      obtain ⟨_, hcl, hat⟩ := World.cells?_some hc
      obtain ⟨y, hy, hp⟩ := el _ _ _ hcl ht'
      refine ⟨y, cs', hy, fun j u hu => ?_, hp, hcl⟩
      have hj : j < K.k := by rw [← hcl]; exact (List.getElem?_eq_some_iff.1 hu).1
      rw [hat j hj]; exact hu
    have plain : 0 < n → a = ⟨a.block, a.off, none⟩ ∧ a.block < w.heap.size := fun h0 => by
      obtain ⟨y, row, _, hat, _, hrl⟩ := each 0 (by omega)
      obtain ⟨u, hu⟩ : ∃ u, row[0]? = some u := ⟨_, List.getElem?_eq_getElem (by omega)⟩
      have h1 := hat 0 u hu
      have h2 := World.cell?_spot h1
      have h3 := World.block_lt_of_cell? _ _ h1
      obtain ⟨b, o, s⟩ := a
      have : s = none := by simpa [Addr.add] using h2
      subst this
      exact ⟨rfl, by simpa [Addr.add] using h3⟩
    let f : Fin n → α := fun i => (each i.1 (by omega)).choose
    have hf : ∀ i : Fin n, ∃ row, K.R (· < w.heap.size) w (f i) row ∧ (∀ j u, row[j]? = some u → w.cell? ((a.add (i.1 * K.k)).add j) = some u) ∧ P (f i) (D i.1) ∧ row.length = K.k := fun i => (each i.1 (by omega)).choose_spec
    have hx1 : x.1 = .slice ((List.range n).map D) ((List.range (m - n)).map fun j => D (n + j)) := congrArg Prod.fst hx
    have hbk : Rows.uptoBulkAll ((List.range n).map D) < Rows.uptoBulk x.1 := by
      rw [hx1, Rows.uptoBulk]; omega
    have hwt : DataW.weights Try.prog t x.1 = (((List.range n).map D).length + ((List.range (m - n)).map fun j => D (n + j)).length) * Try.prog.bytesOf e :: (DataW.weightsAll Try.prog e ((List.range n).map D) ++ DataW.weightsAll Try.prog e ((List.range (m - n)).map fun j => D (n + j))) := by
      rw [hx1]
      simp only [DataW.weights, ht]
    refine ⟨List.ofFn f, ⟨some a, a.block, a.off, m, by simp, by simp; unfold maxLen at hm; omega, fun h0 => ?_, ⟨by simpa using hl, fun h => by cases h⟩, fun h0 => ?_, fun i y hy => ?_⟩, ?_, fun h0 => ?_, fun y hy => ?_⟩
    · simp at h0
      rw [← (plain h0).1]
    · simp at h0
      exact (plain h0).2
    · rw [List.getElem?_ofFn] at hy
      split at hy
      · rename_i hin
        cases hy
        obtain ⟨row, h1, h2, _, _⟩ := hf ⟨i, hin⟩
        refine ⟨row, h1, fun j u hu => ?_⟩
        have h3 := h2 j u hu
        obtain ⟨h4, _⟩ := plain (by omega)
        rw [h4, Addr.add_lit, Addr.add_lit] at h3
        exact h3
      · cases hy
    · have := bulk_count ((List.range n).map D)
      simp at this ⊢
      omega
    · refine ⟨_, by rw [hwt]; exact List.mem_cons_self, ?_⟩
      simp only [List.length_ofFn, List.length_map, List.length_range]
      exact Nat.mul_le_mul_right _ (Nat.le_add_right _ _)
    · obtain ⟨i, rfl⟩ := List.mem_ofFn.1 hy
      obtain ⟨_, _, _, hp, _⟩ := hf i
      have hm1 : D i.1 ∈ (List.range n).map D := List.mem_map.2 ⟨i.1, by simp, rfl⟩
      refine ⟨D i.1, hp, ?_, fun k hk => ?_⟩
      · have := bulk_mem hm1
        omega
      · rw [hwt]
        exact List.mem_cons_of_mem _ (List.mem_append_left _ (weights_mem hm1 hk))
theorem open_list {α : Type} {K : Kind α} {t e : TypeId} {P : α → DataW H → Prop} (ht : Try.prog.underlying t = some (.slice e)) (hk : Try.prog.cellsOf e = K.k) (hk0 : 0 < K.k)
    (el : ∀ (fuel : Nat) (cs : List Value) (x : DataW H × List MemPlace), cs.length = K.k → DataW.trod enc Try.prog w 0 (fun _ => true) true fuel e cs = some x → ∃ y, K.R (· < w.heap.size) w y cs ∧ P y x.1)
    {fuel : Nat} {c : Value} {x : DataW H × List MemPlace} (h : DataW.trod enc Try.prog w 0 (fun _ => true) true fuel t [c] = some x) :
    ∃ l, LB K (· < w.heap.size) w c l ∧ l.length ≤ Rows.uptoBulk x.1 ∧ ∀ y ∈ l, ∃ d : DataW H, P y d ∧ Rows.uptoBulk d ≤ Rows.uptoBulk x.1 := by
  obtain ⟨l, h1, h2, _, h4⟩ := open_listW ht hk hk0 el h
  exact ⟨l, h1, h2, fun y hy => by obtain ⟨d, a, b, _⟩ := h4 y hy; exact ⟨d, a, b⟩⟩

theorem el_int {t : TypeId} (ht : Try.prog.underlying t = some (.int .i64)) (fuel : Nat) (cs : List Value) (x : DataW H × List MemPlace) (h : DataW.trod enc Try.prog w 0 (fun _ => true) true fuel t cs = some x) : ∃ y : Int, cs = [.int .i64 y] ∧ I64 y := by
  obtain ⟨n, rfl, rfl, hw⟩ := DataW.trod_int ht h
  exact ⟨n, rfl, wf_i64 hw⟩
theorem el_str {t : TypeId} (ht : Try.prog.underlying t = some .string) (fuel : Nat) (cs : List Value) (x : DataW H × List MemPlace) (h : DataW.trod enc Try.prog w 0 (fun _ => true) true fuel t cs = some x) : ∃ l : List UInt8, cs = [.string ⟨l.toArray⟩] ∧ l.length ≤ 9223372036854775807 ∧ l.length ≤ Rows.uptoBulk x.1 := by
  obtain ⟨s, rfl, rfl, hz⟩ := DataW.trod_string ht h
  obtain ⟨⟨d⟩⟩ := s
  exact ⟨d, rfl, hz, Nat.le_succ _⟩
theorem el_bool {t : TypeId} (ht : Try.prog.underlying t = some .bool) (fuel : Nat) (cs : List Value) (x : DataW H × List MemPlace) (h : DataW.trod enc Try.prog w 0 (fun _ => true) true fuel t cs = some x) : ∃ b, cs = [.bool b] := by
  obtain ⟨b, rfl, rfl⟩ := DataW.trod_bool ht h
  exact ⟨b, rfl⟩

theorem open_intsL {fuel : Nat} {c : Value} {x : DataW H × List MemPlace} (h : DataW.trod enc Try.prog w 0 (fun _ => true) true fuel 35 [c] = some x) : ∃ l, LB kInt (· < w.heap.size) w c l ∧ l.length ≤ Rows.uptoBulk x.1 ∧ ∀ y ∈ l, I64 y := by
  obtain ⟨l, h1, h2, h3⟩ := open_list (K := kInt) (P := fun y _ => I64 y) Try.underlying35 (by kernel_rfl) (by decide) (fun fuel cs x _ h => el_int Try.underlying3 fuel cs x h) h
  exact ⟨l, h1, h2, fun y hy => (h3 y hy).choose_spec.1⟩
theorem open_bytesL {fuel : Nat} {c : Value} {x : DataW H × List MemPlace} (h : DataW.trod enc Try.prog w 0 (fun _ => true) true fuel 36 [c] = some x) : ∃ l, LB kByte (· < w.heap.size) w c l ∧ l.length ≤ Rows.uptoBulk x.1 := by
  obtain ⟨l, h1, h2, h3⟩ := open_list (K := kByte) (P := fun y _ => True) Try.underlying36 (by kernel_rfl) (by decide) (fun fuel cs x _ h => by
    obtain ⟨n, rfl, rfl, hw⟩ := DataW.trod_int Try.underlying5 h
    have := wf_u8 hw
    refine ⟨UInt8.ofNat n.toNat, ?_, trivial⟩
    have e : ((UInt8.ofNat n.toNat).toNat : Int) = n := by
      rw [UInt8.toNat_ofNat']
      omega
    show [Value.int .u8 n] = [Value.int .u8 _]
    rw [e]) h
  exact ⟨l, h1, h2⟩
theorem open_wordsL {fuel : Nat} {c : Value} {x : DataW H × List MemPlace} (h : DataW.trod enc Try.prog w 0 (fun _ => true) true fuel 28 [c] = some x) : ∃ l, LB kWord (· < w.heap.size) w c l ∧ l.length ≤ Rows.uptoBulk x.1 ∧ ∀ y ∈ l, 0 ≤ y ∧ y < 18446744073709551616 := by
  obtain ⟨l, h1, h2, h3⟩ := open_list (K := kWord) (P := fun y _ => 0 ≤ y ∧ y < 18446744073709551616) Try.underlying28 (by kernel_rfl) (by decide) (fun fuel cs x _ h => by
    obtain ⟨n, rfl, rfl, hw⟩ := DataW.trod_int Try.underlying63 h
    exact ⟨n, rfl, wf_u64 hw⟩) h
  exact ⟨l, h1, h2, fun y hy => (h3 y hy).choose_spec.1⟩
theorem open_strsL {fuel : Nat} {c : Value} {x : DataW H × List MemPlace} (h : DataW.trod enc Try.prog w 0 (fun _ => true) true fuel 25 [c] = some x) : ∃ l, LB kStr (· < w.heap.size) w c l ∧ l.length ≤ Rows.uptoBulk x.1 := by
  obtain ⟨l, h1, h2, h3⟩ := open_list (K := kStr) (P := fun y _ => True) Try.underlying25 (by kernel_rfl) (by decide) (fun fuel cs x _ h => by
    obtain ⟨l, rfl, hz, _⟩ := el_str Try.underlying9 fuel cs x h
    exact ⟨l, ⟨rfl, hz⟩, trivial⟩) h
  exact ⟨l, h1, h2⟩
theorem open_intsW {fuel : Nat} {c : Value} {x : DataW H × List MemPlace} (h : DataW.trod enc Try.prog w 0 (fun _ => true) true fuel 35 [c] = some x) : ∃ l, LB kInt (· < w.heap.size) w c l ∧ l.length ≤ Rows.uptoBulk x.1 ∧ (0 < l.length → ∃ k ∈ DataW.weights Try.prog 35 x.1, l.length * Try.prog.bytesOf 3 ≤ k) := by
  obtain ⟨l, h1, h2, h3, _⟩ := open_listW (K := kInt) (P := fun y _ => I64 y) Try.underlying35 (by kernel_rfl) (by decide) (fun fuel cs x _ h => el_int Try.underlying3 fuel cs x h) h
  exact ⟨l, h1, h2, h3⟩
theorem open_bytesW {fuel : Nat} {c : Value} {x : DataW H × List MemPlace} (h : DataW.trod enc Try.prog w 0 (fun _ => true) true fuel 36 [c] = some x) : ∃ l, LB kByte (· < w.heap.size) w c l ∧ (0 < l.length → ∃ k ∈ DataW.weights Try.prog 36 x.1, l.length * Try.prog.bytesOf 5 ≤ k) := by
  obtain ⟨l, h1, h2, h3, _⟩ := open_listW (K := kByte) (P := fun y _ => True) Try.underlying36 (by kernel_rfl) (by decide) (fun fuel cs x _ h => by
    obtain ⟨n, rfl, rfl, hw⟩ := DataW.trod_int Try.underlying5 h
    have := wf_u8 hw
    refine ⟨UInt8.ofNat n.toNat, ?_, trivial⟩
    have e : ((UInt8.ofNat n.toNat).toNat : Int) = n := by
      rw [UInt8.toNat_ofNat']
      omega
    show [Value.int .u8 n] = [Value.int .u8 _]
    rw [e]) h
  exact ⟨l, h1, h3⟩
theorem open_chainsL {fuel : Nat} {c : Value} {x : DataW H × List MemPlace} (h : DataW.trod enc Try.prog w 0 (fun _ => true) true fuel 27 [c] = some x) : ∃ l, LB kInts (· < w.heap.size) w c l ∧ l.length ≤ Rows.uptoBulk x.1 ∧ ∀ y ∈ l, y.length ≤ Rows.uptoBulk x.1 ∧ (0 < y.length → ∃ k ∈ DataW.weights Try.prog 27 x.1, y.length * Try.prog.bytesOf 3 ≤ k) := by
  obtain ⟨l, h1, h2, _, h3⟩ := open_listW (K := kInts) (P := fun y d => y.length ≤ Rows.uptoBulk d ∧ (0 < y.length → ∃ k ∈ DataW.weights Try.prog 35 d, y.length * Try.prog.bytesOf 3 ≤ k)) Try.underlying27 (by kernel_rfl) (by decide) (fun fuel cs x hl h => by
    match cs, hl with
    | [c], _ =>
      obtain ⟨l, h1, h2, h3⟩ := open_intsW h
      exact ⟨l, ⟨c, rfl, h1⟩, h2, h3⟩) h
  exact ⟨l, h1, h2, fun y hy => by
    obtain ⟨d, ⟨h4, h6⟩, h5, h7⟩ := h3 y hy
    refine ⟨by omega, fun h0 => ?_⟩
    obtain ⟨k, hk, hk2⟩ := h6 h0
    exact ⟨k, h7 k hk, hk2⟩⟩
end

end Go.Proofs.Ytbliedldlimpgaa

namespace Go.Proofs.Ytbliedldlimpgaa
set_option linter.unusedVariables false
set_option linter.unusedSimpArgs false
open Go.ChangeShapes Go.WideShapes Go.ChangeAt Go.RowKit Go.Deep

theorem cInt : Try.prog.cellsOf 3 = 1 := by kernel_rfl
theorem bInt : Try.prog.bytesOf 3 = 8 := by kernel_rfl
theorem cStr : Try.prog.cellsOf 9 = 1 := by kernel_rfl
theorem cBool : Try.prog.cellsOf 4 = 1 := by kernel_rfl
theorem cPerm : Try.prog.cellsOf 67 = 1 := by kernel_rfl
theorem cFlags : Try.prog.cellsOf 22 = 1 := by kernel_rfl
theorem cSymKind : Try.prog.cellsOf 51 = 1 := by kernel_rfl
theorem cVis : Try.prog.cellsOf 52 = 1 := by kernel_rfl
theorem cRelocKind : Try.prog.cellsOf 55 = 1 := by kernel_rfl
theorem cBytes : Try.prog.cellsOf 36 = 1 := by kernel_rfl
theorem cStrings : Try.prog.cellsOf 25 = 1 := by kernel_rfl
theorem cInts : Try.prog.cellsOf 35 = 1 := by kernel_rfl
theorem cRows : Try.prog.cellsOf 27 = 1 := by kernel_rfl
theorem cWords : Try.prog.cellsOf 28 = 1 := by kernel_rfl
theorem cSegs : Try.prog.cellsOf 23 = 1 := by kernel_rfl
theorem cNeeds : Try.prog.cellsOf 24 = 1 := by kernel_rfl
theorem cSyms : Try.prog.cellsOf 26 = 1 := by kernel_rfl
theorem cRelocs : Try.prog.cellsOf 33 = 1 := by kernel_rfl
theorem cSlots : Try.prog.cellsOf 34 = 1 := by kernel_rfl
theorem cTable : Try.prog.cellsOf 32 = 3 := by kernel_rfl
theorem cFilter : Try.prog.cellsOf 30 = 2 := by kernel_rfl
theorem cImage : Try.prog.cellsOf 38 = 15 := by kernel_rfl

section
variable {H : Type} {enc : TypeId × Value → H} {w : World}

set_option maxRecDepth 100000 in
theorem el_seg (fuel : Nat) (cs : List Value) (x : DataW H × List MemPlace) (hl : cs.length = 4) (h : DataW.trod enc Try.prog w 0 (fun _ => true) true fuel 72 cs = some x) : ∃ y, kSeg.R (· < w.heap.size) w y cs ∧ (I64 y.at_ ∧ I64 y.size ∧ I64 y.perm) := by
  match cs, hl with
  | [c0, c1, c2, c3], _ =>
    obtain ⟨ys, n, _, _, _, hyl, hf⟩ := DataW.trod_struct Try.underlying72 h
    match ys, hyl with
    | [y0, y1, y2, y3], _ =>
      have f0 := hf 0 _ rfl
      have f1 := hf 1 _ rfl
      have f2 := hf 2 _ rfl
      have f3 := hf 3 _ rfl
      simp only [cInt, cStr, cBool, cPerm, cFlags, cSymKind, cVis, cRelocKind, cBytes, cStrings, cInts, cRows, cWords, cSegs, cNeeds, cSyms, cRelocs, cSlots, cTable, cFilter, List.drop_zero, List.take_succ_cons, List.take_zero, List.drop_succ_cons, List.getElem?_cons_zero, List.getElem?_cons_succ] at f0 f1 f2 f3
      obtain ⟨n0, e0, i0⟩ := el_int Try.underlying3 _ _ _ f0
      cases e0
      obtain ⟨n1, e1, i1⟩ := el_int Try.underlying3 _ _ _ f1
      cases e1
      obtain ⟨n3, e3, i3⟩ := el_int Try.underlying67 _ _ _ f3
      cases e3
      obtain ⟨l, h2, _⟩ := open_bytesL f2
      exact ⟨⟨n0, n1, l, n3⟩, ⟨c2, rfl, h2⟩, i0, i1, i3⟩
set_option maxRecDepth 100000 in
theorem el_need (fuel : Nat) (cs : List Value) (x : DataW H × List MemPlace) (hl : cs.length = 2) (h : DataW.trod enc Try.prog w 0 (fun _ => true) true fuel 81 cs = some x) : ∃ y, kNeed.R (· < w.heap.size) w y cs ∧ True := by
  match cs, hl with
  | [c0, c1], _ =>
    obtain ⟨ys, n, _, _, _, hyl, hf⟩ := DataW.trod_struct Try.underlying81 h
    match ys, hyl with
    | [y0, y1], _ =>
      have f0 := hf 0 _ rfl
      have f1 := hf 1 _ rfl
      simp only [cInt, cStr, cBool, cPerm, cFlags, cSymKind, cVis, cRelocKind, cBytes, cStrings, cInts, cRows, cWords, cSegs, cNeeds, cSyms, cRelocs, cSlots, cTable, cFilter, List.drop_zero, List.take_succ_cons, List.take_zero, List.drop_succ_cons, List.getElem?_cons_zero, List.getElem?_cons_succ] at f0 f1
      obtain ⟨s, e0, hz, _⟩ := el_str Try.underlying9 _ _ _ f0
      cases e0
      obtain ⟨l, h2, _⟩ := open_strsL f1
      exact ⟨⟨s, l⟩, ⟨c1, rfl, h2, hz⟩, trivial⟩
set_option maxRecDepth 100000 in
theorem el_sym (fuel : Nat) (cs : List Value) (x : DataW H × List MemPlace) (hl : cs.length = 9) (h : DataW.trod enc Try.prog w 0 (fun _ => true) true fuel 54 cs = some x) : ∃ y, kSym.R (· < w.heap.size) w y cs ∧ True := by
  match cs, hl with
  | [c0, c1, c2, c3, c4, c5, c6, c7, c8], _ =>
    obtain ⟨ys, n, _, _, _, hyl, hf⟩ := DataW.trod_struct Try.underlying54 h
    match ys, hyl with
    | [y0, y1, y2, y3, y4, y5, y6, y7, y8], _ =>
      have f0 := hf 0 _ rfl
      have f1 := hf 1 _ rfl
      have f2 := hf 2 _ rfl
      have f3 := hf 3 _ rfl
      have f4 := hf 4 _ rfl
      have f5 := hf 5 _ rfl
      have f6 := hf 6 _ rfl
      have f7 := hf 7 _ rfl
      have f8 := hf 8 _ rfl
      simp only [cInt, cStr, cBool, cPerm, cFlags, cSymKind, cVis, cRelocKind, cBytes, cStrings, cInts, cRows, cWords, cSegs, cNeeds, cSyms, cRelocs, cSlots, cTable, cFilter, List.drop_zero, List.take_succ_cons, List.take_zero, List.drop_succ_cons, List.getElem?_cons_zero, List.getElem?_cons_succ] at f0 f1 f2 f3 f4 f5 f6 f7 f8
      obtain ⟨s0, e0, z0, _⟩ := el_str Try.underlying9 _ _ _ f0
      cases e0
      obtain ⟨s1, e1, z1, _⟩ := el_str Try.underlying9 _ _ _ f1
      cases e1
      obtain ⟨b2, e2⟩ := el_bool Try.underlying4 _ _ _ f2
      cases e2
      obtain ⟨b4, e4⟩ := el_bool Try.underlying4 _ _ _ f4
      cases e4
      obtain ⟨b6, e6⟩ := el_bool Try.underlying4 _ _ _ f6
      cases e6
      obtain ⟨n3, e3, i3⟩ := el_int Try.underlying51 _ _ _ f3
      cases e3
      obtain ⟨n5, e5, i5⟩ := el_int Try.underlying52 _ _ _ f5
      cases e5
      obtain ⟨n7, e7, i7⟩ := el_int Try.underlying3 _ _ _ f7
      cases e7
      obtain ⟨n8, e8, i8⟩ := el_int Try.underlying3 _ _ _ f8
      cases e8
      exact ⟨⟨s0, s1, b2, n3, b4, n5, b6, n7, n8⟩, ⟨rfl, ⟨z0, z1, i3, i5, i7, i8⟩⟩, trivial⟩
set_option maxRecDepth 100000 in
theorem el_reloc (fuel : Nat) (cs : List Value) (x : DataW H × List MemPlace) (hl : cs.length = 4) (h : DataW.trod enc Try.prog w 0 (fun _ => true) true fuel 57 cs = some x) : ∃ y, kRel.R (· < w.heap.size) w y cs ∧ RelOk y := by
  match cs, hl with
  | [c0, c1, c2, c3], _ =>
    obtain ⟨ys, n, _, _, _, hyl, hf⟩ := DataW.trod_struct Try.underlying57 h
    match ys, hyl with
    | [y0, y1, y2, y3], _ =>
      have f0 := hf 0 _ rfl
      have f1 := hf 1 _ rfl
      have f2 := hf 2 _ rfl
      have f3 := hf 3 _ rfl
      simp only [cInt, cStr, cBool, cPerm, cFlags, cSymKind, cVis, cRelocKind, cBytes, cStrings, cInts, cRows, cWords, cSegs, cNeeds, cSyms, cRelocs, cSlots, cTable, cFilter, List.drop_zero, List.take_succ_cons, List.take_zero, List.drop_succ_cons, List.getElem?_cons_zero, List.getElem?_cons_succ] at f0 f1 f2 f3
      obtain ⟨n0, e0, i0⟩ := el_int Try.underlying3 _ _ _ f0
      cases e0
      obtain ⟨n1, e1, i1⟩ := el_int Try.underlying55 _ _ _ f1
      cases e1
      obtain ⟨n2, e2, i2⟩ := el_int Try.underlying3 _ _ _ f2
      cases e2
      obtain ⟨n3, e3, i3⟩ := el_int Try.underlying3 _ _ _ f3
      cases e3
      exact ⟨⟨n0, n1, n2, n3⟩, rfl, i2, i0, i3⟩
set_option maxRecDepth 100000 in
theorem el_slot (fuel : Nat) (cs : List Value) (x : DataW H × List MemPlace) (hl : cs.length = 3) (h : DataW.trod enc Try.prog w 0 (fun _ => true) true fuel 69 cs = some x) : ∃ y, kSlot.R (· < w.heap.size) w y cs ∧ SlotOk y := by
  match cs, hl with
  | [c0, c1, c2], _ =>
    obtain ⟨ys, n, _, _, _, hyl, hf⟩ := DataW.trod_struct Try.underlying69 h
    match ys, hyl with
    | [y0, y1, y2], _ =>
      have f0 := hf 0 _ rfl
      have f1 := hf 1 _ rfl
      have f2 := hf 2 _ rfl
      simp only [cInt, cStr, cBool, cPerm, cFlags, cSymKind, cVis, cRelocKind, cBytes, cStrings, cInts, cRows, cWords, cSegs, cNeeds, cSyms, cRelocs, cSlots, cTable, cFilter, List.drop_zero, List.take_succ_cons, List.take_zero, List.drop_succ_cons, List.getElem?_cons_zero, List.getElem?_cons_succ] at f0 f1 f2
      obtain ⟨n0, e0, i0⟩ := el_int Try.underlying3 _ _ _ f0
      cases e0
      obtain ⟨n1, e1, i1⟩ := el_int Try.underlying3 _ _ _ f1
      cases e1
      obtain ⟨n2, e2, i2⟩ := el_int Try.underlying3 _ _ _ f2
      cases e2
      exact ⟨⟨n0, n1, n2⟩, rfl, i1, i0, i2⟩
theorem chains_max {S : Nat → Prop} {w : World} {v : Value} {l : List (List Int)} (h : LB kInts S w v l) : ∀ c ∈ l, c.length ≤ 9223372036854775807 := by
  obtain ⟨ba, bb, boff, bcap, rfl, hm, hc, hat⟩ := h.at
  intro c hcc
  obtain ⟨k, hk⟩ := List.getElem?_of_mem hcc
  obtain ⟨cv, g, hl⟩ := hat.ints1 k c hk
  exact hl.max
set_option maxRecDepth 100000 in
/-- the argument of the image's laws -/
theorem open_image {base : Nat} {v : Value} {d : DataW H} {p : List MemPlace} (hv : Value.okWide Try.prog w .any base 38 v) (h : DataW.Trod enc Try.prog w 0 (fun _ => true) true 38 v d p) :
    ∃ vv im, v = .agg (imgCells vv im) ∧ ImgM (· < w.heap.size) w vv im ∧ ∀ c ∈ im.buckets, c.length ≤ Rows.uptoBulk d ∧ ((∀ k ∈ DataW.weights Try.prog 38 d, k ≤ reachBytes) → c.length ≤ 140737488351232) := by
  obtain ⟨cs, rfl, hsz⟩ := okWide_struct Try.underlying38 hv
  obtain ⟨l⟩ := cs
  match l, hsz.trans cImage with
  | [c0, c1, c2, c3, c4, c5, c6, c7, c8, c9, c10, c11, c12, c13, c14], _ =>
    obtain ⟨fuel, hf⟩ := h
    obtain ⟨xs, n, _, hx, _, hlen, hg⟩ := DataW.trod_struct Try.underlying38 hf
    match xs, hlen with
    | [y0, y1, y2, y3, y4, y5, y6, y7, y8, y9, y10, y11, y12], _ =>
      have hd : d = .agg [y0.1, y1.1, y2.1, y3.1, y4.1, y5.1, y6.1, y7.1, y8.1, y9.1, y10.1, y11.1, y12.1] := congrArg Prod.fst hx
      have hb6 : Rows.uptoBulk y6.1 ≤ Rows.uptoBulk d := by
        rw [hd]
        simp only [Rows.uptoBulk, Rows.uptoBulkAll]
        omega
      have f0 := hg 0 _ rfl
      have f1 := hg 1 _ rfl
      have f2 := hg 2 _ rfl
      have f3 := hg 3 _ rfl
      have f4 := hg 4 _ rfl
      have f5 := hg 5 _ rfl
      have f6 := hg 6 _ rfl
      have f7 := hg 7 _ rfl
      have f8 := hg 8 _ rfl
      have f9 := hg 9 _ rfl
      have f10 := hg 10 _ rfl
      have f11 := hg 11 _ rfl
      have f12 := hg 12 _ rfl
      simp only [Value.cells, cInt, cStr, cBool, cPerm, cFlags, cSymKind, cVis, cRelocKind, cBytes, cStrings, cInts, cRows, cWords, cSegs, cNeeds, cSyms, cRelocs, cSlots, cTable, cFilter, List.drop_zero, List.take_succ_cons, List.take_zero, List.drop_succ_cons, List.getElem?_cons_zero, List.getElem?_cons_succ] at f0 f1 f2 f3 f4 f5 f6 f7 f8 f9 f10 f11 f12
      obtain ⟨name, e0, z0, _⟩ := el_str Try.underlying9 _ _ _ f0
      cases e0
      obtain ⟨flags, e1, i1⟩ := el_int Try.underlying22 _ _ _ f1
      cases e1
      obtain ⟨segs, h2, _, g2⟩ := open_list (K := kSeg) (P := fun y _ => I64 y.at_ ∧ I64 y.size ∧ I64 y.perm) Try.underlying23 (by kernel_rfl) (by decide) (fun fuel cs x hl h => el_seg fuel cs x hl h) f2
      obtain ⟨needs, h3, _, _⟩ := open_list (K := kNeed) (P := fun _ _ => True) Try.underlying24 (by kernel_rfl) (by decide) (fun fuel cs x hl h => el_need fuel cs x hl h) f3
      obtain ⟨runPath, h4, _⟩ := open_strsL f4
      obtain ⟨syms, h5, _, _⟩ := open_list (K := kSym) (P := fun _ _ => True) Try.underlying26 (by kernel_rfl) (by decide) (fun fuel cs x hl h => el_sym fuel cs x hl h) f5
      obtain ⟨zs, n', _, hz, _, hzl, hh⟩ := DataW.trod_struct Try.underlying32 f6
      obtain ⟨relocs, h7, _, g7⟩ := open_list (K := kRel) (P := fun y _ => RelOk y) Try.underlying33 (by kernel_rfl) (by decide) (fun fuel cs x hl h => el_reloc fuel cs x hl h) f7
      obtain ⟨slots, h8, _, g8⟩ := open_list (K := kSlot) (P := fun y _ => SlotOk y) Try.underlying34 (by kernel_rfl) (by decide) (fun fuel cs x hl h => el_slot fuel cs x hl h) f8
      obtain ⟨init, h9, _, g9⟩ := open_intsL f9
      obtain ⟨fini, h10, _, g10⟩ := open_intsL f10
      obtain ⟨tls, h11, _⟩ := open_bytesL f11
      obtain ⟨tlsSize, e12, i12⟩ := el_int Try.underlying3 _ _ _ f12
      cases e12
      match zs, hzl with
      | [z0', z1], _ =>
        have q0 := hh 0 _ rfl
        have q1 := hh 1 _ rfl
        simp only [cInt, cStr, cBool, cPerm, cFlags, cSymKind, cVis, cRelocKind, cBytes, cStrings, cInts, cRows, cWords, cSegs, cNeeds, cSyms, cRelocs, cSlots, cTable, cFilter, List.drop_zero, List.take_succ_cons, List.take_zero, List.drop_succ_cons, List.getElem?_cons_zero, List.getElem?_cons_succ] at q0 q1
        have hd6 : y6.1 = .agg [z0'.1, z1.1] := congrArg Prod.fst hz
        have hw6 : ∀ k ∈ DataW.weights Try.prog 32 y6.1, k ∈ DataW.weights Try.prog 38 d := fun k hk => by
          rw [hd]
          simp only [DataW.weights, Try.underlying38, List.map_cons, List.map_nil, DataW.weightsEach, List.mem_append]
          simp only [hk, true_or, or_true]
        have hw0 : ∀ k ∈ DataW.weights Try.prog 27 z0'.1, k ∈ DataW.weights Try.prog 32 y6.1 := fun k hk => by
          rw [hd6]
          simp only [DataW.weights, Try.underlying32, List.map_cons, List.map_nil, DataW.weightsEach, List.mem_append]
          simp only [hk, true_or, or_true]
        have hb0 : Rows.uptoBulk z0'.1 ≤ Rows.uptoBulk d := by
          refine Nat.le_trans ?_ hb6
          rw [hd6]
          simp only [Rows.uptoBulk, Rows.uptoBulkAll]
          omega
        obtain ⟨buckets, hbk, _, gbk⟩ := open_chainsL q0
        obtain ⟨us, n'', _, _, _, hul, hu⟩ := DataW.trod_struct Try.underlying30 q1
        match us, hul with
        | [u0, u1], _ =>
          have r0 := hu 0 _ rfl
          have r1 := hu 1 _ rfl
          simp only [cInt, cStr, cBool, cPerm, cFlags, cSymKind, cVis, cRelocKind, cBytes, cStrings, cInts, cRows, cWords, cSegs, cNeeds, cSyms, cRelocs, cSlots, cTable, cFilter, List.drop_zero, List.take_succ_cons, List.take_zero, List.drop_succ_cons, List.getElem?_cons_zero, List.getElem?_cons_succ] at r0 r1
          obtain ⟨words, hwd, _, gwd⟩ := open_wordsL r0
          obtain ⟨shift, es, is⟩ := el_int Try.underlying3 _ _ _ r1
          cases es
          exact ⟨⟨c2, c3, c4, c5, c6, c7, c9, c10, c11, c12, c13⟩, ⟨name, flags, segs, needs, runPath, syms, buckets, words, shift, relocs, slots, init, fini, tls, tlsSize⟩, rfl,
            { name := z0
              flags := i1
              segs := h2
              segsR := fun s hs => (g2 s hs).choose_spec.1
              needed := h3
              runPath := h4
              syms := h5
              buckets := hbk
              bucketsL := chains_max hbk
              words := hwd
              wordsR := gwd
              shift := is
              relocs := h7
              relocsR := fun s hs => (g7 s hs).choose_spec.1
              slots := h8
              slotsR := fun s hs => (g8 s hs).choose_spec.1
              init := h9
              initR := g9
              fini := h10
              finiR := g10
              tls := h11
              tlsSize := i12 }, fun c hc => ⟨Nat.le_trans (gbk c hc).1 hb0, fun hre => by
                rcases Nat.eq_zero_or_pos c.length with h0 | h0
                · omega
                · obtain ⟨k, hk, hk2⟩ := (gbk c hc).2 h0
                  have h3 := hre k (hw6 k (hw0 k hk))
                  rw [bInt] at hk2
                  unfold reachBytes at h3
                  omega⟩⟩
end

end Go.Proofs.Ytbliedldlimpgaa
