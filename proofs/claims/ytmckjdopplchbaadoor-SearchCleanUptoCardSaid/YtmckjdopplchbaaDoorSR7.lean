/- Lemmas that the claim is proved from: what calls of functions of the program come to (contracts), and plain laws. Each lemma bears its own conditions. -/
import Derived.Test.YtmckjdopplchbaaDoorSR6
import Derived.Test.YtmckjdopplchbaaDoorPH1
import Derived.Deep.RegionHeld3
import Derived.Deep.AppendLies
import Derived.Deep.RegionLaw
import Derived.OwnWalk
import Derived.StillTactics
import Derived.Laws.Pointers
namespace Go.Proofs.YtmckjdopplchbaaDoor
set_option linter.unusedVariables false
set_option linter.unusedSimpArgs false
open Go.RowKit

theorem info_cknown : (Tryd.prog.info? 73).map (fun i => (i.zero, i.size, i.bytes)) = some (some (.agg #[.string ⟨#[]⟩, .string ⟨#[]⟩]), 2, 32) := by kernel_rfl

def pairCells : List (List UInt8 × List UInt8) → List Value
  | [] => []
  | k :: ks => .string ⟨k.1.toArray⟩ :: .string ⟨k.2.toArray⟩ :: pairCells ks
theorem pairCells_length : ∀ ks, (pairCells ks).length = ks.length * 2
  | [] => rfl
  | k :: ks => by simp [pairCells, pairCells_length ks]; omega
theorem pairCells_append : ∀ a b, pairCells (a ++ b) = pairCells a ++ pairCells b
  | [], b => rfl
  | k :: a, b => by simp [pairCells, pairCells_append a b]
theorem pairCells_get : ∀ (ks : List (List UInt8 × List UInt8)) (i : Nat), i < ks.length → (pairCells ks)[i * 2]? = some (.string ⟨(pkey ks i).toArray⟩) ∧ (pairCells ks)[i * 2 + 1]? = some (.string ⟨(pval ks i).toArray⟩)
  | [], i, h => absurd h (by simp)
  | k :: ks, 0, _ => by simp [pairCells, pkey, pval]
  | k :: ks, i + 1, h => by
    have ih := pairCells_get ks i (by simpa using h)
    have e1 : (i + 1) * 2 = i * 2 + 1 + 1 := by omega
    have k1 : pkey (k :: ks) (i + 1) = pkey ks i := by simp [pkey, List.getD]
    have k2 : pval (k :: ks) (i + 1) = pval ks i := by simp [pval, List.getD]
    rw [e1, k1, k2, pairCells]
    simpa using ih
def OwnP (B : Nat) (w : World) (v : Value) (ks : List (List UInt8 × List UInt8)) : Prop := w.ownsRow B 73 2 v ks.length (pairCells ks)
theorem OwnP.form {B : Nat} {w : World} {v : Value} {ks : List (List UInt8 × List UInt8)} (h : OwnP B w v ks) : ∃ a c, v = .slice a ks.length c := by
  rcases h.2 with ⟨rfl, h0⟩ | ⟨g, cap, cur, rfl, _⟩
  · exact ⟨none, 0, by rw [h0]⟩
  · exact ⟨_, _, rfl⟩
theorem OwnP.pairs {B : Nat} {w : World} {v : Value} {ks : List (List UInt8 × List UInt8)} (h : OwnP B w v ks) : PairsB w.heap.size w v ks := by
  have h' := h
  obtain ⟨h1, h2⟩ := h
  have hlt := World.ownsRow.lt h'
  rcases h2 with ⟨rfl, h0⟩ | ⟨g, cap, cur, rfl, hg, hh, hle, hcap, hs, ht⟩
  · obtain rfl : ks = [] := List.eq_nil_of_length_eq_zero h0
    exact ⟨none, 0, 0, 0, rfl, by simp, fun h => absurd h (by simp), by simp, fun h => absurd h (by simp), fun i hi => absurd hi (by simp)⟩
  · refine ⟨some ⟨g, 0, none⟩, g, 0, cap, rfl, by unfold maxLen at hcap; omega, fun _ => rfl, hle, fun _ => (hlt g rfl).2, fun i hi => ?_⟩
    have hp := pairCells_get ks i hi
    have c1 := World.ownsRow.cells h' (g := g) rfl (i * 2) _ hp.1
    have c2 := World.ownsRow.cells h' (g := g) rfl (i * 2 + 1) _ hp.2
    simp [Addr.add_lit] at c1 c2
    exact ⟨by simpa using c1, by simpa [Nat.add_assoc] using c2⟩

set_option maxHeartbeats 4000000 in
set_option maxRecDepth 100000 in
theorem env_any (w : World) (a1 : Option Addr) (n1 c1 : Nat) (cv : Value) (ks : List (List UInt8 × List UInt8)) (hc : PairsB w.heap.size w cv ks) (hl : ks.length ≤ 16777216) :
    Calls Tryd.prog 24 #[.agg #[.slice a1 n1 c1, cv]] w fun e w' => ∃ u, e = .returned (.agg #[.slice a1 n1 c1, u]) ∧ PairsB w'.heap.size w' u ks ∧ Below w.heap.size w w' := by
  obtain ⟨i0, hi0, hz0, hz1, hz2⟩ := info_parts info_cknown
  obtain ⟨a, b, off, cap, rfl, hmx, ha, _, hblt, hc⟩ := hc
  have Hc := Lib.hid hc
  clear hc
  go_enter Tryd.func24, Tryd.ntmps24
  go_wp2
  go_loopw [4] (fun i wr => ∃ (k : Nat) (x : Value), i = .int .i64 k ∧ k ≤ ks.length ∧ wr.heap[w.heap.size + 1]? = some (.cells #[.slice none 0 0, .slice none 0 0] 47 (0, 0)) ∧ wr.heap[w.heap.size + 1 + 1]? = some (.cells #[.slice a1 n1 c1, x] 47 (0, 0)) ∧ OwnP (w.heap.size + 1 + 1 + 1) wr x (ks.take k) ∧
      wr.cell? ⟨w.heap.size, 1, none⟩ = some (.slice a ks.length cap) ∧ Below w.heap.size w wr) (fun i _ => ks.length - (intOf i).toNat)
  case atStart => exact ⟨0, _, rfl, Nat.zero_le _, by rw [Lib.alloc_old _ _ _ (by simp)]; simpa only [World.size_alloc] using heap_alloc_new (w.alloc _) _, by simpa only [World.size_alloc] using heap_alloc_new ((w.alloc _).alloc _) _, World.ownsRow_nil _ _ _ _, by go_simp, (((Below.refl _ _).alloc (Nat.le_refl _) _).alloc (by simp) _).alloc (by simp; omega) _⟩
  case round =>
    obtain ⟨k, x, rfl, hk, hr, hx, hown, hcv, hbel⟩ := hrel
    have Hr := Lib.hid hr
    clear hr
    have Hx := Lib.hid hx
    have Hown := Lib.hid hown
    have Hbel := Lib.hid hbel
    have hBr := hbel.size
    by_cases hlt : k < ks.length
    · obtain ⟨xa, xc, hxe⟩ := hown.form
      rw [List.length_take, Nat.min_eq_left hk] at hxe
      subst hxe
      obtain rfl := ha (by omega)
      have gc : wr.cell? ⟨b, off + k * 2, none⟩ = some (.string ⟨(pkey ks k).toArray⟩) := by
        rw [hbel.cell (p := ⟨b, off + k * 2, none⟩) (hblt (by omega))]; exact (Hc.out k hlt).1
      have gc2 : wr.cell? ⟨b, off + k * 2 + 1, none⟩ = some (.string ⟨(pval ks k).toArray⟩) := by
        rw [hbel.cell (p := ⟨b, off + k * 2 + 1, none⟩) (hblt (by omega))]; exact (Hc.out k hlt).2
      have cx : wr.cell? ⟨w.heap.size + 1 + 1, 1, none⟩ = some (.slice xa k xc) := by rw [Lib.cell_of_heap hx]; rfl
      have fx : wr.frozen? ⟨w.heap.size + 1 + 1, 1, none⟩ = false := Lib.frozen_of_heap hx 1
      have Ht := Lib.hid (pkey_take ks k hlt)
      have Hs2 : Hid (∀ (o : Obj), ((wr.alloc o).drew).ownsRow (w.heap.size + 1 + 1 + 1) 73 2 (.slice xa k xc) k (pairCells (ks.take k))) := Lib.hid (fun o => by
        have h := Hown.out
        rw [OwnP, List.length_take, Nat.min_eq_left hk] at h
        exact (World.ownsRow.alloc h o))
      have hB3 : w.heap.size + 1 + 1 + 1 ≤ wr.heap.size := by
        rcases Nat.lt_or_ge (w.heap.size + 1 + 1) wr.heap.size with h' | h'
        · omega
        · rw [Array.getElem?_eq_none h'] at hx; cases hx
      have Hne : Hid (∀ i, i < w.heap.size + 1 + 1 + 1 → some i ≠ Value.ownBlock (.slice xa k xc)) := Lib.hid (fun i hi e => by
        have := World.ownsRow.lt (Hs2.out (.cells #[] 0)) _ e.symm
        omega)
      have Hxa : Hid (∀ o : Obj, ((wr.alloc o).drew).heap[w.heap.size + 1 + 1]? = some (.cells #[.slice a1 n1 c1, .slice xa k xc] 47 (0, 0))) := Lib.hid (fun o => by
        rw [← hx]; exact Lib.alloc_old wr o _ (by omega))
      have cx2 : ∀ o : Obj, (wr.alloc o).cell? ⟨w.heap.size + 1 + 1, 1, none⟩ = some (.slice xa k xc) := fun o => by
        have h : (wr.alloc o).heap[w.heap.size + 1 + 1]? = some (.cells #[.slice a1 n1 c1, .slice xa k xc] 47 (0, 0)) := Hxa.out o
        rw [Lib.cell_of_heap h]; rfl
      have hi0' : (0 : Int) ≤ (k : Int) := Int.natCast_nonneg _
      have hi1 : (k : Int) < (ks.length : Int) := by omega
      clear hx hown hbel
      generalize pkey ks k = p at *
      generalize pval ks k = q at *
      go_wp2_with fail
      refine wp_region_phase 17 (by kernel_rfl) (by kernel_rfl) ?_
      simp only [List.take_succ_cons, List.take_zero, List.drop_succ_cons, List.drop_zero]
      refine wpAny_of_held (S := fun w' => w'.cell? ⟨w.heap.size + 1 + 1, 1, none⟩ = some (.slice xa k xc) ∧ w'.cell? ⟨w.heap.size, 1, none⟩ = some (.slice (some ⟨b, off, none⟩) ks.length cap) ∧ w'.cell? ⟨b, off + k * 2, none⟩ = some (.string ⟨p.toArray⟩) ∧ w'.cell? ⟨b, off + k * 2 + 1, none⟩ = some (.string ⟨q.toArray⟩)) _ _ _ _ ?_
      have hHeld : (fun w' : World => w'.cell? ⟨w.heap.size + 1 + 1, 1, none⟩ = some (.slice xa k xc) ∧ w'.cell? ⟨w.heap.size, 1, none⟩ = some (.slice (some ⟨b, off, none⟩) ks.length cap) ∧ w'.cell? ⟨b, off + k * 2, none⟩ = some (.string ⟨p.toArray⟩) ∧ w'.cell? ⟨b, off + k * 2 + 1, none⟩ = some (.string ⟨q.toArray⟩)) wr.drew := ⟨cx, hcv, gc, gc2⟩
      show wpAnyH _ _ _ _ _ _ _ _ wr.drew
      refine wpAnyH_take (i := 0) (v := ?_) rfl (by kernel_rfl) (by kernel_rfl) (by kernel_rfl) (fun _ _ _ h => h) (Or.inl ⟨by rfl, ?_⟩) hHeld ?_
      rotate_left
      · (intro w hSw; (try dsimp only at hSw); go_simp; try with_reducible rfl)
      try simp only [Act.put, List.setIfInBounds_toArray, List.set_cons_zero, List.set_cons_succ]
      refine wpAnyH_take (i := 1) (v := ?_) rfl (by kernel_rfl) (by kernel_rfl) (by kernel_rfl) (fun _ _ _ h => h) (Or.inl ⟨by rfl, ?_⟩) hHeld ?_
      rotate_left
      · (intro w hSw; (try dsimp only at hSw); go_simp; try with_reducible rfl)
      try simp only [Act.put, List.setIfInBounds_toArray, List.set_cons_zero, List.set_cons_succ]
      refine wpAnyH_take (i := 2) (v := ?_) rfl (by kernel_rfl) (by kernel_rfl) (by kernel_rfl) (fun _ _ _ h => h) (Or.inl ⟨by rfl, ?_⟩) hHeld ?_
      rotate_left
      · (intro w hSw; (try dsimp only at hSw); go_simp; try with_reducible rfl)
      try simp only [Act.put, List.setIfInBounds_toArray, List.set_cons_zero, List.set_cons_succ]
      refine wpAnyH_take (i := 3) (v := ?_) rfl (by kernel_rfl) (by kernel_rfl) (by kernel_rfl) (fun _ _ _ h => h) (Or.inl ⟨by rfl, ?_⟩) hHeld ?_
      rotate_left
      · (intro w hSw; (try dsimp only at hSw); go_simp; try with_reducible rfl)
      try simp only [Act.put, List.setIfInBounds_toArray, List.set_cons_zero, List.set_cons_succ]
      refine wpAnyH_take (i := 4) (v := ?_) rfl (by kernel_rfl) (by kernel_rfl) (by kernel_rfl) (fun _ _ _ h => h) (Or.inl ⟨by rfl, ?_⟩) hHeld ?_
      rotate_left
      · (intro w hSw; (try dsimp only at hSw); go_simp; try with_reducible rfl)
      try simp only [Act.put, List.setIfInBounds_toArray, List.set_cons_zero, List.set_cons_succ]
      refine wpAnyH_take (i := 5) (v := ?_) rfl (by kernel_rfl) (by kernel_rfl) (by kernel_rfl) (fun _ _ _ h => h) (Or.inl ⟨by rfl, ?_⟩) hHeld ?_
      rotate_left
      · (intro w hSw; (try dsimp only at hSw); go_simp; try with_reducible rfl)
      try simp only [Act.put, List.setIfInBounds_toArray, List.set_cons_zero, List.set_cons_succ]
      refine wpAnyH_take (i := 6) (v := ?_) rfl (by kernel_rfl) (by kernel_rfl) (by kernel_rfl) (fun _ _ _ h => h) (Or.inl ⟨by rfl, ?_⟩) hHeld ?_
      rotate_left
      · (intro w hSw; (try dsimp only at hSw); go_simp; try with_reducible rfl)
      try simp only [Act.put, List.setIfInBounds_toArray, List.set_cons_zero, List.set_cons_succ]
      refine wpAnyH_take (i := 7) (v := ?_) rfl (by kernel_rfl) (by kernel_rfl) (by kernel_rfl) (fun _ _ _ h => h) (Or.inl ⟨by rfl, ?_⟩) hHeld ?_
      rotate_left
      · (intro w hSw; (try dsimp only at hSw); go_simp; try with_reducible rfl)
      try simp only [Act.put, List.setIfInBounds_toArray, List.set_cons_zero, List.set_cons_succ]
      refine wpAnyH_take (i := 8) (v := ?_) rfl (by kernel_rfl) (by kernel_rfl) (by kernel_rfl) (fun _ _ _ h => h) (Or.inl ⟨by rfl, ?_⟩) hHeld ?_
      rotate_left
      · (intro w hSw; (try dsimp only at hSw); go_simp; try with_reducible rfl)
      try simp only [Act.put, List.setIfInBounds_toArray, List.set_cons_zero, List.set_cons_succ]
      refine wpAnyH_take (i := 9) (v := ?_) rfl (by kernel_rfl) (by kernel_rfl) (by kernel_rfl) (fun _ _ _ h => h) (Or.inl ⟨by rfl, ?_⟩) hHeld ?_
      rotate_left
      · (intro w hSw; (try dsimp only at hSw); go_simp; try with_reducible rfl)
      try simp only [Act.put, List.setIfInBounds_toArray, List.set_cons_zero, List.set_cons_succ]
      refine wpAnyH_take (i := 10) (v := ?_) rfl (by kernel_rfl) (by kernel_rfl) (by kernel_rfl) (fun _ _ _ h => h) (Or.inl ⟨by rfl, ?_⟩) hHeld ?_
      rotate_left
      · (intro w hSw; (try dsimp only at hSw); go_simp; try with_reducible rfl)
      try simp only [Act.put, List.setIfInBounds_toArray, List.set_cons_zero, List.set_cons_succ]
      refine wpAnyH_take (i := 11) (v := ?_) rfl (by kernel_rfl) (by kernel_rfl) (by kernel_rfl) (fun _ _ _ h => h) (Or.inl ⟨by rfl, ?_⟩) hHeld ?_
      rotate_left
      · (intro w hSw; (try dsimp only at hSw); go_simp; try with_reducible rfl)
      try simp only [Act.put, List.setIfInBounds_toArray, List.set_cons_zero, List.set_cons_succ]
      refine wpAnyH_take (i := 12) (v := ?_) rfl (by kernel_rfl) (by kernel_rfl) (by kernel_rfl) (fun _ _ _ h => h) (Or.inl ⟨by rfl, ?_⟩) hHeld ?_
      rotate_left
      · (intro w hSw; (try dsimp only at hSw); go_simp; try with_reducible rfl)
      try simp only [Act.put, List.setIfInBounds_toArray, List.set_cons_zero, List.set_cons_succ]
      refine wpAnyH_take (i := 13) (v := ?_) rfl (by kernel_rfl) (by kernel_rfl) (by kernel_rfl) (fun _ _ _ h => h) (Or.inl ⟨by rfl, ?_⟩) hHeld ?_
      rotate_left
      · (intro w hSw; (try dsimp only at hSw); go_simp; try with_reducible rfl)
      try simp only [Act.put, List.setIfInBounds_toArray, List.set_cons_zero, List.set_cons_succ]
      refine wpAnyH_take (i := 14) (v := ?_) rfl (by kernel_rfl) (by kernel_rfl) (by kernel_rfl) (fun _ _ _ h => h) (Or.inl ⟨by rfl, ?_⟩) hHeld ?_
      rotate_left
      · (intro w hSw; (try dsimp only at hSw); go_simp; try with_reducible rfl)
      try simp only [Act.put, List.setIfInBounds_toArray, List.set_cons_zero, List.set_cons_succ]
      refine wpAnyH_ready (rs := [15]) (by kernel_rfl) (by simp) ?_
      refine AllReadyH.cons rfl (fun K hK => ?_) AllReadyH.nil
      go_simp
      refine hK.out _ _ ?_ (fun hHeld => ?_)
      · (exact ⟨cx2 _, by rw [World.cell?_drew]; exact (World.cell?_alloc_lt wr _ _ (by simp; omega)).trans hcv, by rw [World.cell?_drew]; exact (World.cell?_alloc_lt wr _ _ (by simp; omega)).trans gc, by rw [World.cell?_drew]; exact (World.cell?_alloc_lt wr _ _ (by simp; omega)).trans gc2⟩)
      clear hK K
      try simp only [Act.put, List.setIfInBounds_toArray, List.set_cons_zero, List.set_cons_succ]
      refine wpAnyH_ready (rs := [16]) (by kernel_rfl) (by simp) ?_
      refine AllReadyH.cons rfl (fun K hK => ?_) AllReadyH.nil
      refine step_append_lies _ (by rfl) _ _ _ (by rfl) (w.heap.size + 1 + 1 + 1) 73 i0 _ 2 32 Tryd.underlying45 hi0 hz0 hz1 hz2 rfl (by omega) (.slice xa k xc) k (pairCells (ks.take k)) (by rfl) (Hs2.out _)
        ⟨wr.heap.size, 0, none⟩ 1 1 [.string ⟨p.toArray⟩, .string ⟨q.toArray⟩] (by rfl) (by rfl) (World.news_of_block (cs := #[.string ⟨p.toArray⟩, .string ⟨q.toArray⟩]) (t := 73) (fr := (0, 0)) (heap_alloc_new wr _)) (by simp [Value.oneCell'])
        (by omega) (by unfold maxLen; omega) (by omega) (by simp; omega) (wr.heap.size + 1) (by simp) ?_
      intro gg cc w1 hown1 hgrow hat hlt1
      have hx1 : w1.heap[w.heap.size + 1 + 1]? = some (.cells #[.slice a1 n1 c1, .slice xa k xc] 47 (0, 0)) := by
        rw [hgrow.block _ (by simp; omega) (Hne.out _ (by omega))]
        exact Hxa.out _
      have cx1 : w1.cell? ⟨w.heap.size + 1 + 1, 1, none⟩ = some (.slice xa k xc) := by rw [Lib.cell_of_heap hx1]; rfl
      have fx1 : w1.frozen? ⟨w.heap.size + 1 + 1, 1, none⟩ = false := Lib.frozen_of_heap hx1 1
      have hfar : ∀ a : Addr, a.block < w.heap.size + 1 → w1.cell? a = wr.cell? a := fun a h => by
        rw [World.cell?_of_block (hgrow.block a.block (by simp; omega) (Hne.out _ (by omega)))]
        exact World.cell?_alloc_lt wr _ _ (by omega)
      have cv1 := (hfar ⟨w.heap.size, 1, none⟩ (by simp)).trans hcv
      refine hK.out _ _ ⟨cx1, cv1, (hfar _ (by simp; omega)).trans gc, (hfar _ (by simp; omega)).trans gc2⟩ (fun hHeld => ?_)
      clear hK K
      try simp only [Act.put, List.setIfInBounds_toArray, List.set_cons_zero, List.set_cons_succ]
      refine wpAnyH_done (by kernel_rfl) ?_ _
      simp only [phaseQ]
      have Hg : Hid (OwnP (w.heap.size + 1 + 1 + 1) w1 (.slice (some ⟨gg, 0, none⟩) (k + 1) cc) (ks.take (k + 1))) := Lib.hid (by
        rw [Ht.out, OwnP, List.length_append, List.length_take, Nat.min_eq_left hk, pairCells_append]
        exact hown1)
      have Hb1 := Lib.hid (((Hbel.out.alloc hBr _).drew).grown hgrow (by simp; omega) (fun i e => by
        have := World.ownsRow.lt (Hs2.out (.cells #[] 0)) _ e
        omega))
      have Hx1 := Lib.hid hx1
      have Hr1 : Hid (w1.heap[w.heap.size + 1]? = some (.cells #[.slice none 0 0, .slice none 0 0] 47 (0, 0))) := Lib.hid (by
        rw [hgrow.block _ (by simp; omega) (Hne.out _ (by omega)), ← Hr.out]; exact Lib.alloc_old wr _ _ (by omega))
      clear hown1 hgrow hat hx1 hfar hHeld cx2 hcv cx fx gc gc2
      go_wp2
      go_roundw
      case rel => exact ⟨k + 1, _, by go_num, by omega, by rw [Below.heap_setCell _ _ _ _ (by simp)]; exact Hr1.out, by simp [World.setCell, Array.getElem?_modify, Hx1.out], ownsRow_setCell_below Hg.out (show w.heap.size + 1 + 1 < w.heap.size + 1 + 1 + 1 by omega) _, by
        rw [World.cell?_setCell_other _ _ _ _ (by simp)]; exact cv1, Hb1.out.setCell (p := ⟨w.heap.size + 1 + 1, 1, none⟩) (by simp; omega) _⟩
      case measure => simp [intOf]; omega
    · have hs : OwnP (w.heap.size + 1 + 1 + 1) wr x ks := by
        have h := hown
        rw [List.take_of_length_le (by omega)] at h
        exact h
      have Hs := Lib.hid hs
      have c0 : wr.cell? ⟨w.heap.size + 1 + 1, 0, none⟩ = some (.slice a1 n1 c1) := by rw [Lib.cell_of_heap hx]; rfl
      have cx : wr.cell? ⟨w.heap.size + 1 + 1, 1, none⟩ = some x := by rw [Lib.cell_of_heap hx]; rfl
      have r0 : wr.cell? ⟨w.heap.size + 1, 0, none⟩ = some (.slice none 0 0) := by rw [Lib.cell_of_heap Hr.out]; rfl
      have r1 : wr.cell? ⟨w.heap.size + 1, 1, none⟩ = some (.slice none 0 0) := by rw [Lib.cell_of_heap Hr.out]; rfl
      have q0 : wr.frozen? ⟨w.heap.size + 1, 0, none⟩ = false := Lib.frozen_of_heap Hr.out 0
      have q1 : wr.frozen? ⟨w.heap.size + 1, 1, none⟩ = false := Lib.frozen_of_heap Hr.out 1
      obtain ⟨xa, xc, hxe⟩ := hs.form
      subst hxe
      clear hown hbel hs hx Hown Hx
      go_wp2
      refine bodyPost_ret (v := .agg #[.slice a1 n1 c1, .slice xa ks.length xc]) (by simp [results, Tryd.results24, go_sem, r0, r1]) rfl ⟨_, rfl, OwnP.pairs (ownsRow_setCell_below (ownsRow_setCell_below Hs.out (show w.heap.size + 1 < w.heap.size + 1 + 1 + 1 by omega) _) (show w.heap.size + 1 < w.heap.size + 1 + 1 + 1 by omega) _), ?_⟩
      exact (Hbel.out.setCell (p := ⟨w.heap.size + 1, 0, none⟩) (by simp) _).setCell (p := ⟨w.heap.size + 1, 1, none⟩) (by simp) _

end Go.Proofs.YtmckjdopplchbaaDoor
