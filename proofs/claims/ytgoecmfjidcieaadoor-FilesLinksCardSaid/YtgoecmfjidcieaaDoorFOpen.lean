/- From readings of the arguments of the laws on stores to the words of the walks: acts, bytes, texts. -/
import Derived.Test.YtgoecmfjidcieaaDoorTOpen
import Derived.Test.YtgoecmfjidcieaaDoorFK8
import Derived.Deep.Slices
namespace Go.Proofs.YtgoecmfjidcieaaDoor
set_option linter.unusedVariables false
set_option linter.unusedSimpArgs false
open Go.ChangeShapes Go.WideShapes Go.ChangeAt Go.RowKit Go.Deep

section
variable {H : Type} {enc : TypeId × Value → H} {w : World}

theorem plain_addrF {w : World} {a : Addr} {v : Value} (h : w.cell? (a.add 0) = some v) : a = ⟨a.block, a.off, .none⟩ := by
  obtain ⟨b, o, s⟩ := a
  have : s = .none := by simpa [Addr.add] using World.cell?_spot h
  subst this
  rfl
theorem wf_u8 {n : Int} (h : (Lit.int .u8 n).wf = true) : 0 ≤ n ∧ n < 256 := by
  simp [Lit.wf, IntKind.min, IntKind.max, IntKind.signed, IntKind.bits] at h
  omega
theorem weights_mem {P : Program} {e : TypeId} {d : DataW H} {k : Nat} : ∀ {l : List (DataW H)}, d ∈ l → k ∈ DataW.weights P e d → k ∈ DataW.weightsAll P e l
  | [], h, _ => by cases h
  | x :: l, h, hk => by
    rw [DataW.weightsAll]
    rcases List.mem_cons.1 h with rfl | h
    · exact List.mem_append_left _ hk
    · exact List.mem_append_right _ (weights_mem h hk)
theorem cellsByte : Tryd.prog.cellsOf 5 = 1 := by kernel_rfl
theorem cellsBytes : Tryd.prog.cellsOf 28 = 1 := by kernel_rfl
theorem cellsIntF : Tryd.prog.cellsOf 3 = 1 := by kernel_rfl
theorem cellsStringF : Tryd.prog.cellsOf 9 = 1 := by kernel_rfl
theorem cellsAct : Tryd.prog.cellsOf 43 = 4 := by kernel_rfl
theorem bytesOfByte : Tryd.prog.bytesOf 5 = 1 := by kernel_rfl
theorem bytesOfAct : Tryd.prog.bytesOf 43 = 64 := by kernel_rfl

theorem open_bytesV {fuel : Nat} {c : Value} {x : DataW H × List MemPlace} (h : DataW.trod enc Tryd.prog w 0 (fun _ => true) true fuel 28 [c] = some x) :
    ∃ l, BytesV w c l ∧ (0 < l.length → ∃ k ∈ DataW.weights Tryd.prog 28 x.1, l.length ≤ k) := by
  rcases open_slice1 Tryd.underlying28 cellsByte h with ⟨hcs, hx⟩ | ⟨a, n, cap, m, q, V, D, Pl, hcs, _, hl, hm, hmm, hx, hi⟩
  · simp at hcs
    subst hcs
    exact ⟨[], Or.inl ⟨rfl, _, _, rfl⟩, fun h => by cases h⟩
  · simp at hcs
    subst hcs
    simp only [if_true] at hmm
    subst hmm
    have each : ∀ i, i < m → ∃ y : UInt8, w.cell? (a.add i) = some (.int .u8 (y.toNat : Int)) := fun i hin => by
      obtain ⟨h1, h2⟩ := hi i hin
      obtain ⟨z, hz, _, hw⟩ := DataW.trod_int Tryd.underlying5 h2
      simp at hz
      have hb := wf_u8 hw
      refine ⟨UInt8.ofNat z.toNat, ?_⟩
      rw [h1, hz]
      have e : ((UInt8.ofNat z.toNat).toNat : Int) = z := by rw [UInt8.toNat_ofNat']; omega
      rw [e]
    have hf : ∃ f : Nat → UInt8, ∀ i, i < m → w.cell? (a.add i) = some (.int .u8 ((f i).toNat : Int)) :=
      ⟨fun i => if hin : i < m then (each i hin).choose else 0, fun i hin => by simp only [dif_pos hin]; exact (each i hin).choose_spec⟩
    obtain ⟨f, hf⟩ := hf
    have hlen : ((List.range n).map f).length = n := by simp
    refine ⟨(List.range n).map f, ?_, fun h0 => ?_⟩
    · by_cases h0 : n = 0
      · subst h0; exact Or.inl ⟨rfl, _, _, rfl⟩
      · have hp := plain_addrF (hf 0 (by omega))
        refine Or.inr ⟨a.block, a.off, m, by rw [hlen, ← hp], fun j hj => ?_⟩
        rw [hlen] at hj
        have h1 := hf j (by omega)
        rw [hp, Addr.add_lit] at h1
        rw [h1]; simp
    · have hx1 : x.1 = .slice ((List.range n).map D) ((List.range (m - n)).map fun j => D (n + j)) := congrArg Prod.fst hx
      refine ⟨(((List.range n).map D).length + ((List.range (m - n)).map fun j => D (n + j)).length) * Tryd.prog.bytesOf 5, ?_, ?_⟩
      · rw [hx1]; simp only [DataW.weights, Tryd.underlying28]; exact List.mem_cons_self
      · rw [hlen, bytesOfByte]; simp only [List.length_map, List.length_range]; omega
theorem open_str_one {fuel : Nat} {c : Value} {x : DataW H × List MemPlace} (h : DataW.trod enc Tryd.prog w 0 (fun _ => true) true fuel 9 [c] = some x) : ∃ l : List UInt8, c = .string ⟨l.toArray⟩ := by
  obtain ⟨s, hcs, rfl, hz⟩ := DataW.trod_string Tryd.underlying9 h
  simp at hcs
  subst hcs
  obtain ⟨l, rfl⟩ := text_of s
  exact ⟨l, rfl⟩

theorem four_of {α : Type} {l : List α} (h : l.length = 4) : ∃ a b c d, l = [a, b, c, d] := by
  match l, h with
  | [a, b, c, d], _ => exact ⟨a, b, c, d, rfl⟩
theorem reach_eq {k : Nat} (h : k ≤ reachBytes) : k ≤ 140737488351232 := h
set_option maxRecDepth 100000 in
/-- an act, as its four cells -/
theorem open_act4 {fuel : Nat} {cs : List Value} {x : DataW H × List MemPlace} (hl : cs.length = 4) (h : DataW.trod enc Tryd.prog w 0 (fun _ => true) true fuel 43 cs = some x) :
    ∃ (y : ActL) (bv : Value), cs = [.int .i64 y.what, .string ⟨y.a.toArray⟩, .string ⟨y.b.toArray⟩, bv] ∧ BytesV w bv y.bytes ∧ (0 < y.bytes.length → ∃ k ∈ DataW.weights Tryd.prog 43 x.1, y.bytes.length ≤ k) := by
  obtain ⟨c0, c1, c2, c3, rfl⟩ := four_of hl
  · obtain ⟨xs, n, _, hx, _, hlen, hg⟩ := DataW.trod_struct Tryd.underlying43 h
    obtain ⟨y0, y1, y2, y3, rfl⟩ := four_of hlen
    · have g0 := hg 0 _ rfl
      have g1 := hg 1 _ rfl
      have g2 := hg 2 _ rfl
      have g3 := hg 3 _ rfl
      simp only [cellsStringF, cellsIntF, cellsBytes, List.drop_zero, List.take_succ_cons, List.take_zero, List.drop_succ_cons, List.getElem?_cons_zero, List.getElem?_cons_succ] at g0 g1 g2 g3
      obtain ⟨d, hd, _, _⟩ := DataW.trod_int Tryd.underlying3 g0
      change List.take (Tryd.prog.cellsOf 3) [c0, c1, c2, c3] = _ at hd
      rw [cellsIntF] at hd
      simp at hd
      obtain ⟨p, hp⟩ := open_str_one g1
      obtain ⟨q, hq⟩ := open_str_one g2
      obtain ⟨b, hb, hw⟩ := open_bytesV g3
      subst hd
      subst hp
      subst hq
      refine ⟨⟨d, p, q, b⟩, c3, rfl, hb, fun h0 => ?_⟩
      obtain ⟨k, hk, hle⟩ := hw h0
      have hx1 : x.1 = .agg [y0.1, y1.1, y2.1, y3.1] := congrArg Prod.fst hx
      refine ⟨k, ?_, hle⟩
      rw [hx1]
      simp only [DataW.weights, Tryd.underlying43, List.map_cons, List.map_nil, DataW.weightsEach, List.mem_append]
      exact Or.inr (Or.inr (Or.inr (Or.inl hk)))

set_option maxRecDepth 100000 in
theorem open_acts {fuel : Nat} {c : Value} {x : DataW H × List MemPlace} (h : DataW.trod enc Tryd.prog w 0 (fun _ => true) true fuel 27 [c] = some x) (hsz : ∀ k ∈ DataW.weights Tryd.prog 27 x.1, k ≤ reachBytes) :
    ∃ l, Acts w c l := by
  rcases open_slice Tryd.underlying27 h with ⟨hcs, hx⟩ | ⟨a, n, cap, m, q, D, Pl, hcs, _, hl, hm, hmm, hx, hi⟩
  · simp at hcs
    subst hcs
    exact ⟨[], .none, 0, 0, 0, rfl, by simp, fun h => (by cases h), fun i x hx => (by cases hx)⟩
  · simp at hcs
    subst hcs
    simp only [if_true] at hmm
    subst hmm
    have hx1 : x.1 = .slice ((List.range n).map D) ((List.range (m - n)).map fun j => D (n + j)) := congrArg Prod.fst hx
    have hwt : DataW.weights Tryd.prog 27 x.1 = (((List.range n).map D).length + ((List.range (m - n)).map fun j => D (n + j)).length) * Tryd.prog.bytesOf 43 :: (DataW.weightsAll Tryd.prog 43 ((List.range n).map D) ++ DataW.weightsAll Tryd.prog 43 ((List.range (m - n)).map fun j => D (n + j))) := by
      rw [hx1]; simp only [DataW.weights, Tryd.underlying27]
    have hn : n ≤ 4611686018427387000 := by
      have h1 := reach_eq (hsz _ (by rw [hwt]; exact List.mem_cons_self))
      rw [bytesOfAct] at h1
      simp only [List.length_map, List.length_range] at h1
      omega
    have each : ∀ i, i < n → ∃ y : ActL, ∀ blk off, a = ⟨blk, off, none⟩ → ActAt w blk (off + i * 4) y := fun i hin => by
      obtain ⟨cs', hc, ht⟩ := hi i (by omega)
      rw [cellsAct] at hc
      obtain ⟨_, hcl, hat⟩ := World.cells?_some hc
      obtain ⟨y, bv, hcs, hb, hw⟩ := open_act4 hcl ht
      refine ⟨y, fun blk off ha => ?_⟩
      have hj : ∀ j u, cs'[j]? = some u → w.cell? ⟨blk, off + i * 4 + j, none⟩ = some u := fun j u hu => by
        have hjl : j < 4 := by rw [← hcl]; exact (List.getElem?_eq_some_iff.1 hu).1
        have h1 := hat j hjl
        rw [ha, Addr.add_lit, Addr.add_lit] at h1
        rw [h1]; exact hu
      subst hcs
      refine ⟨bv, hj 0 _ rfl, hj 1 _ rfl, hj 2 _ rfl, hj 3 _ rfl, hb, ?_⟩
      by_cases h0 : 0 < y.bytes.length
      · obtain ⟨k, hk, hle⟩ := hw h0
        have hm1 : D i ∈ (List.range n).map D := List.mem_map.2 ⟨i, by simpa using hin, rfl⟩
        have := reach_eq (hsz k (by rw [hwt]; exact List.mem_cons_of_mem _ (List.mem_append_left _ (weights_mem hm1 hk))))
        omega
      · omega
    have plain : 0 < n → a = ⟨a.block, a.off, none⟩ := fun h0 => by
      obtain ⟨cs', hc, _⟩ := hi 0 (by omega)
      rw [cellsAct] at hc
      obtain ⟨_, hcl, hat⟩ := World.cells?_some hc
      have h1 := hat 0 (by omega)
      rw [Nat.zero_mul] at h1
      obtain ⟨u, hu⟩ : ∃ u, cs'[0]? = some u := ⟨_, List.getElem?_eq_getElem (by omega)⟩
      rw [hu] at h1
      have h2 := World.cell?_spot h1
      obtain ⟨b, o, s⟩ := a
      have : s = none := by simpa [Addr.add] using h2
      subst this
      rfl
    have hf : ∃ f : Nat → ActL, ∀ i, i < n → ∀ blk off, a = ⟨blk, off, none⟩ → ActAt w blk (off + i * 4) (f i) :=
      ⟨fun i => if hin : i < n then (each i hin).choose else ⟨0, [], [], []⟩, fun i hin => by simp only [dif_pos hin]; exact (each i hin).choose_spec⟩
    obtain ⟨f, hf⟩ := hf
    have hlen : ((List.range n).map f).length = n := by simp
    refine ⟨(List.range n).map f, some a, a.block, a.off, m, by rw [hlen], by rw [hlen]; exact hn, fun h0 => ?_, fun i y hy => ?_⟩
    · rw [hlen] at h0
      rw [← plain h0]
    · have hin : i < n := by
        have := (List.getElem?_eq_some_iff.1 hy).1
        rwa [hlen] at this
      have hyf : f i = y := by simpa [hin] using hy
      rw [← hyf]
      exact hf i hin _ _ (plain (by omega))

set_option maxRecDepth 100000 in
/-- an act as an argument -/
theorem open_act {base : Nat} {v : Value} {d : DataW H} {p : List MemPlace} (hv : Value.okWide Tryd.prog w .any base 43 v) (h : DataW.Trod enc Tryd.prog w 0 (fun _ => true) true 43 v d p) (hsz : ∀ k ∈ DataW.weights Tryd.prog 43 d, k ≤ reachBytes) :
    ∃ (y : ActL) (bv : Value), v = .agg #[.int .i64 y.what, .string ⟨y.a.toArray⟩, .string ⟨y.b.toArray⟩, bv] ∧ BytesV w bv y.bytes ∧ y.bytes.length ≤ 140737488355328 := by
  obtain ⟨cs, rfl, hl⟩ := okWide_struct Tryd.underlying43 hv
  obtain ⟨l⟩ := cs
  obtain ⟨fuel, hf⟩ := h
  obtain ⟨y, bv, hcs, hb, hw⟩ := open_act4 (show l.length = 4 from (hl.trans cellsAct)) (by simpa [Value.cells] using hf)
  subst hcs
  refine ⟨y, bv, rfl, hb, ?_⟩
  by_cases h0 : 0 < y.bytes.length
  · obtain ⟨k, hk, hle⟩ := hw h0
    have := reach_eq (hsz k hk)
    omega
  · omega
theorem open_strsV {a0 : Option Addr} {n0 c0 : Nat} {d : DataW H} {p : List MemPlace} (h : DataW.Trod enc Tryd.prog w 0 (fun _ => true) true 44 (.slice a0 n0 c0) d p) : ∃ l, Strs w (.slice a0 n0 c0) l := by
  obtain ⟨fuel, hf⟩ := h
  rcases open_slice1 Tryd.underlying44 cellsStringF (cs := [.slice a0 n0 c0]) hf with ⟨hcs, hx⟩ | ⟨a, n, cap, m, q, V, D, Pl, hcs, _, hl, hm, hmm, hx, hi⟩
  · have hv : (.slice a0 n0 c0 : Value) = .slice none 0 0 := by simpa using hcs
    rw [hv]
    exact ⟨[], .none, 0, 0, 0, rfl, by simp, fun h => (by cases h), by simp, fun i hi => (by cases hi)⟩
  · have hv : (.slice a0 n0 c0 : Value) = .slice (some a) n cap := by simpa using hcs
    rw [hv]
    simp only [if_true] at hmm
    subst hmm
    have each : ∀ i, i < m → ∃ y : List UInt8, w.cell? (a.add i) = some (.string ⟨y.toArray⟩) := fun i hin => by
      obtain ⟨h1, h2⟩ := hi i hin
      obtain ⟨y, hy⟩ := open_str_one h2
      exact ⟨y, by rw [h1, hy]⟩
    have hff : ∃ f : Nat → List UInt8, ∀ i, i < m → w.cell? (a.add i) = some (.string ⟨(f i).toArray⟩) :=
      ⟨fun i => if hin : i < m then (each i hin).choose else [], fun i hin => by simp only [dif_pos hin]; exact (each i hin).choose_spec⟩
    obtain ⟨f, hff⟩ := hff
    have hlen : ((List.range n).map f).length = n := by simp
    refine ⟨(List.range n).map f, some a, a.block, a.off, m, by rw [hlen], by rw [hlen]; unfold maxLen at hm; omega, fun h0 => ?_, by rw [hlen]; exact hl, fun i hin => ?_⟩
    · rw [hlen] at h0; rw [← plain_addrF (hff 0 (by omega))]
    · rw [hlen] at hin
      have h1 := hff i (by omega)
      rw [plain_addrF (hff 0 (by omega)), Addr.add_lit] at h1
      rw [h1]
      simp [snth, List.getD, hin]
end

end Go.Proofs.YtgoecmfjidcieaaDoor
