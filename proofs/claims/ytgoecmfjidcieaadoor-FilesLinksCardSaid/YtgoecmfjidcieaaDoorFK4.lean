/- Lent, Back: bytes that are lent out and looked at again -/
import Derived.Test.YtgoecmfjidcieaaDoorFK1
import Derived.Laws.CopyOwn
import Derived.Deep.DeepCutAuto
namespace Go.Proofs.YtgoecmfjidcieaaDoor
set_option linter.unusedVariables false
set_option linter.unusedSimpArgs false
open Go.RowKit

def bvs (l : List UInt8) : List Value := l.map fun c => Value.int .u8 (c.toNat : Int)
theorem bvs_length (l : List UInt8) : (bvs l).length = l.length := by simp [bvs]
theorem bvs_at (l : List UInt8) (j : Nat) (h : j < l.length) : (bvs l)[j]? = some (.int .u8 (l[j].toNat : Int)) := by simp [bvs, h]
theorem info_byte : (Tryd.prog.info? 5).map (fun i => (i.zero, i.size, i.bytes)) = some (some (.int .u8 0), 1, 1) := by kernel_rfl
theorem BytesV.src {w w1 : World} {a : Option Addr} {c0 : Nat} {l : List UInt8} (h : BytesV w (.slice a l.length c0) l) (hb : Below w.heap.size w w1) (h0 : 0 < (bvs l).length) : ∃ ad, a = some ad ∧ ∀ j v, (bvs l)[j]? = some v → w1.cell? (ad.add j) = some v := by
  rcases h.below hb with ⟨rfl, _, c, hv⟩ | ⟨g, off, cap, hv, hc⟩
  · simp [bvs] at h0
  · simp only [Value.slice.injEq] at hv
    refine ⟨⟨g, off, none⟩, hv.1, fun j v hj => ?_⟩
    have hjl : j < l.length := by
      rcases Nat.lt_or_ge j l.length with h | h
      · exact h
      · rw [List.getElem?_eq_none (by rw [bvs_length]; exact h)] at hj; cases hj
    rw [bvs_at l j hjl] at hj
    obtain rfl := Option.some.inj hj
    have e1 : (⟨g, off, none⟩ : Addr).add j = ⟨g, off + j, none⟩ := by unfold Addr.add; split <;> simp_all
    rw [e1]; exact hc j hjl
theorem heap_set {w : World} {g k : Nat} {xs : List Value} {t : TypeId} (h : w.heap[g]? = some (.cells xs.toArray t (0, 0))) (u : Value) : (w.setCell ⟨g, k, none⟩ u).heap[g]? = some (.cells (xs.set k u).toArray t (0, 0)) := by
  simp [World.setCell, Array.getElem?_modify, h]
theorem take_set_succ (xs : List Value) (k : Nat) (u : Value) (h : k < xs.length) : (xs.set k u).take (k + 1) = xs.take k ++ [u] := by
  rw [List.take_succ_eq_append_getElem (by simpa using h)]
  simp [List.take_set_of_le]
theorem heap_cell {w : World} {g k : Nat} {xs : List Value} {t : TypeId} {v : Value} (h : w.heap[g]? = some (.cells xs.toArray t (0, 0))) (hv : xs[k]? = some v) : w.cell? ⟨g, k, none⟩ = some v := by
  rw [Lib.cell_of_heap h]; simpa using hv

theorem copy_run (w : World) (g n N : Nat) (a : Option Addr) (c0 : Nat) (cur cs : List Value) (hg : w.heap[g]? = some (.cells cur.toArray 5 (0, 0))) (hN : cur.length = N) (hn : n ≤ N) (hcs : cs.length = n)
    (hsrc : 0 < cs.length → ∃ ad, a = some ad ∧ ∀ j v, cs[j]? = some v → w.cell? (ad.add j) = some v) (h1 : ∀ v ∈ cs, v.oneCell' = true) :
    ∃ w2, (Builtin.copy_ #[28, 28] 3 #[.slice (some ⟨g, 0, none⟩) N N, .slice a n c0]).run Tryd.prog w = .ok (.int .i64 n) w2 ∧ w2.heap[g]? = some (.cells (splice cur 0 cs).toArray 5 (0, 0)) ∧ Below g w w2 := by
  by_cases h0 : cs.length = 0
  · obtain rfl : cs = [] := List.eq_nil_of_length_eq_zero h0
    simp only [List.length_nil] at hcs
    subst hcs
    exact ⟨w, run_copy_none (P := Tryd.prog) w 28 28 3 5 _ a _ _ _ _ Tryd.underlying28 (by kernel_rfl) (by simp), by simpa [splice] using hg, Below.refl _ _⟩
  · obtain ⟨ad, rfl, hs⟩ := hsrc (by omega)
    subst hcs
    refine ⟨_, run_copy_row (P := Tryd.prog) w 28 28 3 5 g 0 N N ad cs.length c0 cur.toArray 5 cs Tryd.underlying28 (by kernel_rfl) hg (Nat.min_eq_left hn).symm hs (by simp; omega) h1, ?_, Go.below_setRow (Below.refl _ _) (Nat.le_refl _) _⟩
    simpa [splice] using setRow_heap w g _ _ 5 _ hg

set_option maxHeartbeats 8000000 in
set_option maxRecDepth 100000 in
theorem lent_any (w : World) (v : Value) (l : List UInt8) (hv : BytesV w v l) (hl : l.length ≤ 140737488355328) :
    Calls Tryd.prog 43 #[v] w fun e w' => ∃ g, e = .returned (.slice (some ⟨g, 0, none⟩) l.length (l.length + 3)) ∧ w.heap.size ≤ g ∧ w'.heap[g]? = some (.cells (bvs (l ++ [201, 201, 201])).toArray 5 (0, 0)) ∧ Below w.heap.size w w' := by
  obtain ⟨a, c0, rfl⟩ := hv.form
  obtain ⟨i0, hi, hz0, hz1, hz2⟩ := info_parts info_byte
  have Hv := Lib.hid hv
  obtain ⟨n, hn⟩ : ∃ n, n = l.length := ⟨_, rfl⟩
  have Hn := Lib.hid hn
  obtain ⟨cs, hcs⟩ : ∃ cs, cs = bvs l := ⟨_, rfl⟩
  have Hcl : Hid (cs.length = n) := Lib.hid (by rw [hcs, hn, bvs_length])
  have Hone : Hid (∀ v ∈ cs, v.oneCell' = true) := Lib.hid (by rw [hcs]; intro v hv; simp [bvs] at hv; obtain ⟨c, _, rfl⟩ := hv; rfl)
  have Hsrc : Hid (∀ w1, Below w.heap.size w w1 → 0 < cs.length → ∃ ad, a = some ad ∧ ∀ j v, cs[j]? = some v → w1.cell? (ad.add j) = some v) := Lib.hid (fun w1 hb h0 => by rw [hcs] at h0 ⊢; exact hv.src hb h0)
  have Hcs := Lib.hid hcs
  rw [← hn] at hl ⊢
  clear hv hn hcs
  go_enter Tryd.func43, Tryd.ntmps43
  go_wp2_with (at_make; refine wpList_make_full _ rfl _ _ 28 rfl w.heap.size 5 i0 (.int .u8 0) 1 Tryd.underlying28 hi hz0 hz1 .i64 .i64 _ _ (n + 3) rfl rfl (by omega) (by omega) (by rw [hz2]; omega) (by unfold maxLen; omega) (Nat.le_refl _) ?_; intro w1 hrow1 hg1)
  obtain ⟨cur, Hcur, HcurL⟩ : ∃ cur : List Value, Hid (w1.heap[w.heap.size]? = some (.cells cur.toArray 5 (0, 0))) ∧ Hid (cur.length = n + 3) := by
    rcases hrow1.2 with ⟨h, _⟩ | ⟨g, cap, cur, h, _, hh, _, _, hs, _⟩
    · cases h
    · cases h; exact ⟨cur.toList, Lib.hid (by simpa using hh), Lib.hid (by simpa using hs)⟩
  have HB1 := Lib.hid ((Below.refl w.heap.size w).grown hg1 (Nat.le_refl _) (fun j hj => by cases hj))
  clear hrow1 hg1
  obtain ⟨w2, hrun, hc2, hb2⟩ := copy_run w1 w.heap.size n (n + 3) a c0 cur cs Hcur.out HcurL.out (by omega) Hcl.out (fun h0 => Hsrc.out _ HB1.out h0) Hone.out
  have Hc2' : Hid (∃ xs : List Value, xs.length = n + 3 ∧ xs.take n = cs ∧ w2.heap[w.heap.size]? = some (.cells xs.toArray 5 (0, 0))) := Lib.hid ⟨splice cur 0 cs, by rw [length_splice _ _ _ (by rw [Hcl.out, HcurL.out]; omega)]; exact HcurL.out, by simp [splice, ← Hcl.out], hc2⟩
  have HB := Lib.hid (HB1.out.trans hb2)
  clear hc2 hb2 HB1 Hcur
  rw [hrun]
  simp only [Result.andThen]
  rw [Oper.upon_value]
  clear hrun
  go_wp2
  go_loopw [4] (fun i wr => ∃ (j : Nat) (xs : List Value), i = .int .i64 ((n + j : Nat) : Int) ∧ j ≤ 3 ∧ xs.length = n + 3 ∧ xs.take (n + j) = cs ++ List.replicate j (.int .u8 201) ∧ wr.heap[w.heap.size]? = some (.cells xs.toArray 5 (0, 0)) ∧ Below w.heap.size w wr) (fun i _ => n + 3 - (intOf i).toNat)
  case atStart =>
    obtain ⟨xs, h1, h2, h3⟩ := Hc2'.out
    exact ⟨0, xs, by simp, by omega, h1, by simpa using h2, h3, HB.out⟩
  case round =>
    clear Hc2' HB
    obtain ⟨j, xs, rfl, hj, hxl, htk, hhp, hbel⟩ := hrel
    have Htk := Lib.hid htk
    have Hhp := Lib.hid hhp
    have Hbel := Lib.hid hbel
    have Hxl := Lib.hid hxl
    obtain ⟨q, hq⟩ : ∃ q, q = n + j := ⟨_, rfl⟩
    by_cases hlt : j < 3
    · obtain ⟨u, hu⟩ : ∃ u, xs[q]? = some u := ⟨_, List.getElem?_eq_getElem (by omega)⟩
      have hc := heap_cell hhp hu
      have hf := Lib.frozen_of_heap hhp q
      have Hnew := Lib.hid (heap_set (k := q) hhp (.int .u8 201))
      have Hb2 := Lib.hid (hbel.setCell (p := ⟨w.heap.size, q, none⟩) (Nat.le_refl _) (.int .u8 201))
      have hqn : q < n + 3 := by omega
      have Hq := Lib.hid hq
      rw [← hq]
      clear htk hhp hbel hu hxl hq
      go_wp2
      go_roundw
      case rel => exact ⟨j + 1, xs.set q (.int .u8 201), by have := Hq.out; go_num, by omega, by rw [List.length_set]; exact Hxl.out, by
        have e1 : n + (j + 1) = q + 1 := by rw [Hq.out]; omega
        rw [e1, take_set_succ _ _ _ (by rw [Hxl.out]; exact hqn), List.replicate_succ', ← List.append_assoc, ← Htk.out, Hq.out], Hnew.out, Hb2.out⟩
      case measure => simp [intOf]; omega
    · have hj3 : j = 3 := by omega
      subst hj3
      have HR : Hid (wr.heap[w.heap.size]? = some (.cells (bvs (l ++ [201, 201, 201])).toArray 5 (0, 0))) := Lib.hid (by
        rw [hhp]
        have e2 : xs = bvs (l ++ [201, 201, 201]) := by
          rw [List.take_of_length_le (by omega)] at htk
          rw [htk, Hcs.out]; simp [bvs, List.replicate]
        rw [e2])
      clear htk hhp hbel hxl
      go_wp2
      go_ret
      exact ⟨_, rfl, Nat.le_refl _, HR.out, Hbel.out⟩

theorem grown_set {w w' : World} {g : Nat} (h : w.grownBy w' (some g)) (k : Nat) (u : Value) : w.grownBy (w'.setCell ⟨g, k, none⟩ u) (some g) :=
  ⟨h.os, h.tape, h.output, by simpa using h.size, fun i hi hne => (Below.heap_setCell w' ⟨g, k, none⟩ u i (fun e => hne (by rw [e]))).trans (h.block i hi hne)⟩

set_option maxHeartbeats 8000000 in
set_option maxRecDepth 100000 in
theorem back_any (w : World) (g : Nat) (v : Value) (l : List UInt8) (hg : w.heap[g]? = some (.cells (bvs (l ++ [201, 201, 201])).toArray 5 (0, 0))) (hv : BytesV w v l) (hne : ∀ g2 off cap, v = .slice (some ⟨g2, off, none⟩) l.length cap → 0 < l.length → g2 ≠ g) (hl : l.length ≤ 140737488355328) :
    Calls Tryd.prog 44 #[.slice (some ⟨g, 0, none⟩) l.length (l.length + 3), v] w fun e w' => e = .returned (.bool true) ∧ w.grownBy w' (some g) := by
  obtain ⟨a, c0, rfl⟩ := hv.form
  have Hbl : Hid (∀ wr, w.grownBy wr (some g) → ∀ k (hk : k < l.length), ∃ g2 off, a = some ⟨g2, off, none⟩ ∧ wr.cell? ⟨g2, off + k, none⟩ = some (.int .u8 (l[k].toNat : Int))) := Lib.hid (fun wr hgr k hk => by
    rcases hv with ⟨rfl, _, c, hx⟩ | ⟨g2, off, cap, hx, hc⟩
    · cases hk
    · have h2 := hne g2 off cap hx (by omega)
      simp only [Value.slice.injEq] at hx
      refine ⟨g2, off, hx.1, ?_⟩
      have h1 := hc k hk
      have hlt := World.block_lt_of_cell? _ _ h1
      exact (World.cell?_of_block (w := w) (a := ⟨g2, off + k, none⟩) (hgr.block g2 hlt (fun e => h2 (Option.some.inj e)))).trans h1)
  have HO : Hid (∀ k (hk : k < l.length), (bvs (l ++ [201, 201, 201]))[k]? = some (.int .u8 (l[k].toNat : Int))) := Lib.hid (fun k hk => by
    rw [bvs_at _ k (by simp; omega)]; simp [List.getElem_append_left hk])
  have HO2 : Hid (∀ k, l.length ≤ k → k < l.length + 3 → (bvs (l ++ [201, 201, 201]))[k]? = some (.int .u8 201)) := Lib.hid (fun k h1 h2 => by
    rw [bvs_at _ k (by simp; omega)]
    obtain ⟨j, rfl⟩ : ∃ j, k = l.length + j := ⟨k - l.length, by omega⟩
    have : j = 0 ∨ j = 1 ∨ j = 2 := by omega
    rcases this with rfl | rfl | rfl <;> simp [List.getElem_append_right])
  have HL : Hid ((bvs (l ++ [201, 201, 201])).length = l.length + 3) := Lib.hid (by rw [bvs_length]; simp)
  have Hg := Lib.hid hg
  clear hv hne hg
  generalize bvs (l ++ [201, 201, 201]) = O at *
  obtain ⟨n, hn⟩ : ∃ n, n = l.length := ⟨_, rfl⟩
  have Hn := Lib.hid hn
  rw [← hn] at hl HO2 HL ⊢
  clear hn
  go_enter Tryd.func44, Tryd.ntmps44
  go_wp2
  go_loopw [6, 7] (fun ok i wr => ∃ (k : Nat) (xs : List Value), ok = .bool true ∧ i = .int .i64 k ∧ k ≤ n + 3 ∧ xs.length = n + 3 ∧ (∀ j, k ≤ j → xs[j]? = O[j]?) ∧ wr.heap[g]? = some (.cells xs.toArray 5 (0, 0)) ∧ w.grownBy wr (some g)) (fun _ i _ => n + 3 - (intOf i).toNat)
  case atStart => exact ⟨0, O, rfl, rfl, by omega, HL.out, fun _ _ => rfl, Hg.out, World.grownBy.refl _ _⟩
  case round =>
    clear Hg
    obtain ⟨k, xs, rfl, rfl, hk, hxl, hxo, hhp, hgr⟩ := hrel
    have Hgr := Lib.hid hgr
    have Hhp := Lib.hid hhp
    have Hxl := Lib.hid hxl
    have Hxo := Lib.hid hxo
    have hf := Lib.frozen_of_heap hhp k
    by_cases hlt : k < n + 3
    · by_cases hkn : k < n
      · have hkl : k < l.length := by rw [← Hn.out]; exact hkn
        obtain ⟨g2, off, rfl, hb⟩ := Hbl.out wr hgr k hkl
        have hc := heap_cell hhp ((hxo k (Nat.le_refl _)).trans (HO.out k hkl))
        have Hnew := Lib.hid (fun u => heap_set (k := k) hhp u)
        have Hg2 := Lib.hid (fun u => grown_set hgr k u)
        generalize (l[k].toNat : Int) = cz at *
        clear hhp hgr hxl hxo hkl
        go_wp2
        go_roundw
        case rel => exact ⟨k + 1, xs.set k _, rfl, by go_num, by omega, by rw [List.length_set]; exact Hxl.out, fun j hj => by rw [List.getElem?_set_ne (by omega)]; exact Hxo.out j (by omega), Hnew.out _, Hg2.out _⟩
        case measure => simp [intOf]; omega
      · have hc := heap_cell hhp ((hxo k (Nat.le_refl _)).trans (HO2.out k (by omega) hlt))
        have Hnew := Lib.hid (fun u => heap_set (k := k) hhp u)
        have Hg2 := Lib.hid (fun u => grown_set hgr k u)
        clear hhp hgr hxl hxo
        go_wp2
        go_roundw
        case rel => exact ⟨k + 1, xs.set k _, rfl, by go_num, by omega, by rw [List.length_set]; exact Hxl.out, fun j hj => by rw [List.getElem?_set_ne (by omega)]; exact Hxo.out j (by omega), Hnew.out _, Hg2.out _⟩
        case measure => simp [intOf]; omega
    · clear hhp hgr hxl hxo hf
      go_wp2
      go_ret
      exact ⟨rfl, Hgr.out⟩

end Go.Proofs.YtgoecmfjidcieaaDoor
