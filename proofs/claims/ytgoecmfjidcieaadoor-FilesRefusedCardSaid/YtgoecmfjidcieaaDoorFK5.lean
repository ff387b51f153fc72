/- Copy, Also, Remove -/
import Derived.Test.YtgoecmfjidcieaaDoorFK3
import Derived.Shelf.SlMaps.Clone
import Derived.Deep.RegionHeld3
namespace Go.Proofs.YtgoecmfjidcieaaDoor
set_option linter.unusedVariables false
set_option linter.unusedSimpArgs false
open Go.RowKit

set_option maxHeartbeats 2000000 in
set_option maxRecDepth 100000 in
theorem mclone_any (b : Nat) (es : Array MapEntry) (clock : Nat) (w : World) (hb : w.heap[b]? = some (.map es clock)) :
    Calls Tryd.prog 42 #[.map (some b)] w fun e w' => e = .returned (.map (some w.heap.size)) ∧ w' = w.alloc (.map es clock) := by
  have hq := fun w => run_eql_map_nil_sl (P := Tryd.prog) w 64 _ _ (some b) Tryd.underlying64
  go_enter Tryd.func42, Tryd.ntmps42
  go_wp2
  rw [run_callFunc_extern Tryd.func54 (by kernel_rfl) (by kernel_rfl) (by kernel_rfl) (e := Extern.MapsClone.clone) (by kernel_rfl), run_maps_clone_sl w 64 hb]
  simp only [Result.andThen]
  rw [Oper.upon_value]
  go_wp2
  rw [run_typeAssert_map_sl _ 64 20 _ _ _ Tryd.underlying64]
  simp only [Result.andThen]
  rw [Oper.upon_value]
  go_wp2
  go_ret
  exact ⟨rfl, rfl⟩

set_option maxHeartbeats 4000000 in
set_option maxRecDepth 100000 in
theorem copy_any (w : World) (s b : Nat) (st : StL) (hM : SM s b w st) :
    Calls Tryd.prog 22 #[.pointer (some ⟨s, 0, none⟩)] w fun e w' => ∃ s2 b2, e = .returned (.pointer (some ⟨s2, 0, none⟩)) ∧ SM s2 b2 w' st ∧ w.heap.size ≤ s2 ∧ w.heap.size ≤ b2 ∧ Below w.heap.size w w' := by
  obtain ⟨D, ⟨es, clock, hb, hown⟩, hrep⟩ := hM.map
  have s0 := hM.cell0
  have s1 := hM.cell1
  have hslt := hM.lt
  have HC := Lib.hid (mclone_any b es clock w.drew hb)
  have Hfit := Lib.hid hown
  have Hrep := Lib.hid hrep
  clear hM hown hrep hb
  go_enter Tryd.func22, Tryd.ntmps22
  go_wp2_with fail
  refine wp_region_held_drew (S := fun w' => w'.cell? ⟨s, 0, none⟩ = some (.map (some b)) ∧ w'.cell? ⟨s, 1, none⟩ = some (.int .i64 st.last)) (by kernel_rfl) ⟨s0, s1⟩ (fun hHeld => ?_)
  have HB0 := Lib.hid ((Below.refl w.heap.size w).drew)
  have Hvs := Lib.hid (show w.heap.size = w.drew.heap.size from rfl)
  generalize w.drew = vd at *
  refine wpAnyH_take (i := 0) (v := ?_) rfl (by kernel_rfl) (by kernel_rfl) (by kernel_rfl) (fun _ _ _ h => h) (Or.inl ⟨by rfl, ?_⟩) hHeld ?_
  rotate_left
  · (intro w hSw; (try dsimp only at hSw); go_simp; try with_reducible rfl)
  simp only [List.getElem_toArray, List.getElem_cons_zero, List.getElem_cons_succ, Act.put, List.setIfInBounds_toArray, List.set_cons_zero, List.set_cons_succ]
  refine wpAnyH_take (i := 1) (v := ?_) rfl (by kernel_rfl) (by kernel_rfl) (by kernel_rfl) (fun _ _ _ h => h) (Or.inl ⟨by rfl, ?_⟩) hHeld ?_
  rotate_left
  · (intro w hSw; (try dsimp only at hSw); go_simp; try with_reducible rfl)
  simp only [List.getElem_toArray, List.getElem_cons_zero, List.getElem_cons_succ, Act.put, List.setIfInBounds_toArray, List.set_cons_zero, List.set_cons_succ]
  refine wpAnyH_take (i := 2) (v := ?_) rfl (by kernel_rfl) (by kernel_rfl) (by kernel_rfl) (fun _ _ _ h => h) (Or.inl ⟨by rfl, ?_⟩) hHeld ?_
  rotate_left
  · (intro w hSw; (try dsimp only at hSw); go_simp; try with_reducible rfl)
  simp only [List.getElem_toArray, List.getElem_cons_zero, List.getElem_cons_succ, Act.put, List.setIfInBounds_toArray, List.set_cons_zero, List.set_cons_succ]
  refine wpAnyH_take (i := 3) (v := ?_) rfl (by kernel_rfl) (by kernel_rfl) (by kernel_rfl) (fun _ _ _ h => h) (Or.inl ⟨by rfl, ?_⟩) hHeld ?_
  rotate_left
  · (intro w hSw; (try dsimp only at hSw); go_simp; try with_reducible rfl)
  simp only [List.getElem_toArray, List.getElem_cons_zero, List.getElem_cons_succ, Act.put, List.setIfInBounds_toArray, List.set_cons_zero, List.set_cons_succ]
  refine wpAnyH_take (i := 5) (v := ?_) rfl (by kernel_rfl) (by kernel_rfl) (by kernel_rfl) (fun _ _ _ h => h) (Or.inl ⟨by rfl, ?_⟩) hHeld ?_
  rotate_left
  · (intro w hSw; (try dsimp only at hSw); go_simp; try with_reducible rfl)
  simp only [List.getElem_toArray, List.getElem_cons_zero, List.getElem_cons_succ, Act.put, List.setIfInBounds_toArray, List.set_cons_zero, List.set_cons_succ]
  refine wpAnyH_take (i := 6) (v := ?_) rfl (by kernel_rfl) (by kernel_rfl) (by kernel_rfl) (fun _ _ _ h => h) (Or.inl ⟨by rfl, ?_⟩) hHeld ?_
  rotate_left
  · (intro w hSw; (try dsimp only at hSw); go_simp; try with_reducible rfl)
  simp only [List.getElem_toArray, List.getElem_cons_zero, List.getElem_cons_succ, Act.put, List.setIfInBounds_toArray, List.set_cons_zero, List.set_cons_succ]
  refine wpAnyH_take (i := 7) (v := ?_) rfl (by kernel_rfl) (by kernel_rfl) (by kernel_rfl) (fun _ _ _ h => h) (Or.inl ⟨by rfl, ?_⟩) hHeld ?_
  rotate_left
  · (intro w hSw; (try dsimp only at hSw); go_simp; try with_reducible rfl)
  simp only [List.getElem_toArray, List.getElem_cons_zero, List.getElem_cons_succ, Act.put, List.setIfInBounds_toArray, List.set_cons_zero, List.set_cons_succ]
  refine wpAnyH_take (i := 8) (v := ?_) rfl (by kernel_rfl) (by kernel_rfl) (by kernel_rfl) (fun _ _ _ h => h) (Or.inl ⟨by rfl, ?_⟩) hHeld ?_
  rotate_left
  · (intro w hSw; (try dsimp only at hSw); go_simp; try with_reducible rfl)
  simp only [List.getElem_toArray, List.getElem_cons_zero, List.getElem_cons_succ, Act.put, List.setIfInBounds_toArray, List.set_cons_zero, List.set_cons_succ]
  refine wpAnyH_ready (rs := [4]) (by kernel_rfl) (by simp) ?_
  refine AllReadyH.cons rfl (fun K hK => ?_) AllReadyH.nil
  go_simp
  refine HC.out.mono ?_
  rintro e v1 ⟨rfl, rfl⟩
  refine hK.out _ _ (by obtain ⟨h0, h1⟩ := hHeld; exact ⟨(World.cell?_alloc_lt _ _ _ (World.block_lt_of_cell? _ _ h0)).trans h0, (World.cell?_alloc_lt _ _ _ (World.block_lt_of_cell? _ _ h1)).trans h1⟩) (fun hHeld => ?_)
  clear hK K
  try simp only [Act.put, List.setIfInBounds_toArray, List.set_cons_zero, List.set_cons_succ]
  refine wpAnyH_take (i := 9) (v := ?_) rfl (by kernel_rfl) (by kernel_rfl) (by kernel_rfl) (fun _ _ _ h => h) (Or.inl ⟨by rfl, ?_⟩) hHeld ?_
  rotate_left
  · (intro w hSw; (try dsimp only at hSw); go_simp; try with_reducible rfl)
  simp only [List.getElem_toArray, List.getElem_cons_zero, List.getElem_cons_succ, Act.put, List.setIfInBounds_toArray, List.set_cons_zero, List.set_cons_succ]
  refine wpAnyH_ready (rs := [10]) (by kernel_rfl) (by simp) ?_
  refine AllReadyH.cons rfl (fun K hK => ?_) AllReadyH.nil
  go_simp
  refine hK.out _ _ (by obtain ⟨h0, h1⟩ := hHeld; exact ⟨(World.cell?_alloc_lt _ _ _ (World.block_lt_of_cell? _ _ h0)).trans h0, (World.cell?_alloc_lt _ _ _ (World.block_lt_of_cell? _ _ h1)).trans h1⟩) (fun hHeld => ?_)
  clear hK K
  try simp only [Act.put, List.setIfInBounds_toArray, List.set_cons_zero, List.set_cons_succ]
  refine wpAnyH_take (i := 11) (v := ?_) rfl (by kernel_rfl) (by kernel_rfl) (by kernel_rfl) (fun _ _ _ h => h) (Or.inl ⟨by rfl, ?_⟩) hHeld ?_
  rotate_left
  · (intro w hSw; (try dsimp only at hSw); go_simp; try with_reducible rfl)
  simp only [List.getElem_toArray, List.getElem_cons_zero, List.getElem_cons_succ, Act.put, List.setIfInBounds_toArray, List.set_cons_zero, List.set_cons_succ]
  refine wpAnyH_done (by kernel_rfl) ?_ _
  go_wp2
  go_ret
  refine ⟨vd.heap.size + 1, vd.heap.size, rfl, ⟨by have := heap_alloc_new (vd.alloc (.map es clock)) (.cells #[.map (some vd.heap.size), .int .i64 st.last] 66); simpa using this, ⟨D, ⟨es, clock, ?_, Hfit.out⟩, Hrep.out⟩, by simp⟩, by rw [Hvs.out]; simp, by rw [Hvs.out]; exact Nat.le_refl _, (HB0.out.alloc (by rw [Hvs.out]; exact Nat.le_refl _) _).alloc (by rw [Hvs.out]; simp) _⟩
  rw [heap_alloc_old _ _ (h := by simp)]
  exact heap_alloc_new _ _

theorem realL_ne {st : StL} {path : List UInt8} (h : (realL st path).2 = 0) : (realL st path).1 ≠ [] := by
  unfold realL at h ⊢
  cases ha : absL path with
  | none => rw [ha] at h; cases h
  | some l =>
    rw [ha] at h
    simp only at h ⊢
    split at h
    · rename_i h1; rw [if_pos h1]; exact walk_ne l [47] 0 (by simp) h1
    · rename_i h1; simp only at h; exact absurd h h1

set_option maxHeartbeats 8000000 in
set_option maxRecDepth 100000 in
theorem also_any (m : Int) (w : World) (s b : Nat) (st : StL) (path of_ : List UInt8) (hm : w.cell? ⟨0, 0, none⟩ = some (.int .i64 m)) (hM : SM s b w st) (hok : OkA st) :
    Calls Tryd.prog 17 #[.pointer (some ⟨s, 0, none⟩), .string ⟨path.toArray⟩, .string ⟨of_.toArray⟩] w fun e w' => e = .returned (.int .i64 (alsoL st path of_).1) ∧ SM s b w' (alsoL st path of_).2 ∧ w.grownBy w' (some b) := by
  have HP := Lib.hid (place_any m w s b st path hm hM hok.st)
  have h0lt : 0 < w.heap.size := World.block_lt_of_cell? _ _ hm
  have HR0 : Hid (∀ w', Below w.heap.size w w' → _) := Lib.hid (fun w' hb => real_any m w' s b st of_ ((hb.cell (p := ⟨0, 0, none⟩) h0lt).trans hm) (hM.below hb) hok.st)
  have hpl := placeL_len st path
  have hrl := realL_len st of_
  have hc := hok.st.count
  have HM := Lib.hid hM
  clear hm hM hok
  unfold alsoL
  generalize placeL st path = R at *
  obtain ⟨p, n, e⟩ := R
  generalize realL st of_ = R2 at *
  obtain ⟨q, f⟩ := R2
  simp only at hpl hrl HR0 ⊢
  obtain ⟨o, ho⟩ : ∃ o, o = st.get q := ⟨_, rfl⟩
  have HP2 : Hid (Calls Tryd.prog 38 #[.pointer (some ⟨s, 0, none⟩), .string ⟨path.toArray⟩] w fun e' w' => e' = .returned (.tuple #[.string ⟨p.toArray⟩, .agg #[.int .i64 n.kind, .int .i64 n.id, .string ⟨n.bytes.toArray⟩, .string ⟨n.dest.toArray⟩], .int .i64 e]) ∧ Below w.heap.size w w') := HP
  have HL : Hid (∀ w', SM s b w' st → (Instr.lookup 64 (.map (some b)) (.string ⟨q.toArray⟩) false).run Tryd.prog w' = .ok (.agg #[.int .i64 o.kind, .int .i64 o.id, .string ⟨o.bytes.toArray⟩, .string ⟨o.dest.toArray⟩]) w') := Lib.hid (fun w' hs => by rw [ho]; exact hs.look1 q (by omega))
  rw [← ho]
  clear HP ho
  by_cases he : e ≠ 0
  · have heb : (e != 0) = true := by simp [he]
    rw [if_pos he]
    clear he
    go_enter Tryd.func17, Tryd.ntmps17
    go_wp2_with fail
    refine HP2.out.mono ?_
    rintro e' w2 ⟨rfl, hb⟩
    have HS := Lib.hid ((HM.out.below hb).alloc (.cells #[.int .i64 n.kind, .int .i64 n.id, .string ⟨n.bytes.toArray⟩, .string ⟨n.dest.toArray⟩] 58))
    have HG := Lib.hid (grown_none (b := b) (grown_of_below (hb.alloc hb.size (.cells #[.int .i64 n.kind, .int .i64 n.id, .string ⟨n.bytes.toArray⟩, .string ⟨n.dest.toArray⟩] 58))))
    clear hb
    go_wp2
    go_ret
    exact ⟨rfl, HS.out, HG.out⟩
  · have heb : (e != 0) = false := by simpa using he
    rw [if_neg he]
    clear he
    by_cases hk : n.kind ≠ 0
    · have hkb : (n.kind != 0) = true := by simp [hk]
      rw [if_pos hk]
      clear hk
      go_enter Tryd.func17, Tryd.ntmps17
      go_wp2_with fail
      refine HP2.out.mono ?_
      rintro e' w2 ⟨rfl, hb⟩
      have HS := Lib.hid ((HM.out.below hb).alloc (.cells #[.int .i64 n.kind, .int .i64 n.id, .string ⟨n.bytes.toArray⟩, .string ⟨n.dest.toArray⟩] 58))
      have HG := Lib.hid (grown_none (b := b) (grown_of_below (hb.alloc hb.size (.cells #[.int .i64 n.kind, .int .i64 n.id, .string ⟨n.bytes.toArray⟩, .string ⟨n.dest.toArray⟩] 58))))
      clear hb
      go_wp2
      go_ret
      exact ⟨rfl, HS.out, HG.out⟩
    · have hkb : (n.kind != 0) = false := by simpa using hk
      rw [if_neg hk]
      clear hk
      have HR2 := HR0
      clear HR0
      by_cases hf : f ≠ 0
      · have hfb : (f != 0) = true := by simp [hf]
        rw [if_pos hf]
        clear hf
        go_enter Tryd.func17, Tryd.ntmps17
        go_wp2_with fail
        refine HP2.out.mono ?_
        rintro e' w2 ⟨rfl, hb⟩
        have hba := hb.alloc hb.size (.cells #[.int .i64 n.kind, .int .i64 n.id, .string ⟨n.bytes.toArray⟩, .string ⟨n.dest.toArray⟩] 58)
        have HX := Lib.hid (HR2.out _ hba)
        have HB := Lib.hid hba
        clear hb hba
        go_wp2_with fail
        refine HX.out.mono ?_
        rintro e' w3 ⟨rfl, hb⟩
        have hbt := HB.out.trans (hb.mono HB.out.size)
        have HS := Lib.hid (HM.out.below hbt)
        have HG := Lib.hid (grown_none (b := b) (grown_of_below hbt))
        clear hb hbt
        go_wp2
        go_ret
        exact ⟨rfl, HS.out, HG.out⟩
      · have hfb : (f != 0) = false := by simpa using hf
        rw [if_neg hf]
        clear hf
        by_cases hd : o.kind = 2
        · have hdb : (o.kind == 2) = true := by simp [hd]
          rw [if_pos hd]
          clear hd
          go_enter Tryd.func17, Tryd.ntmps17
          go_wp2_with fail
          refine HP2.out.mono ?_
          rintro e' w2 ⟨rfl, hb⟩
          have hba := hb.alloc hb.size (.cells #[.int .i64 n.kind, .int .i64 n.id, .string ⟨n.bytes.toArray⟩, .string ⟨n.dest.toArray⟩] 58)
          have HX := Lib.hid (HR2.out _ hba)
          have HB := Lib.hid hba
          clear hb hba
          go_wp2_with fail
          refine HX.out.mono ?_
          rintro e' w3 ⟨rfl, hb⟩
          have hbt := HB.out.trans (hb.mono HB.out.size)
          have HS := Lib.hid (HM.out.below hbt)
          have HG := Lib.hid (grown_none (b := b) (grown_of_below hbt))
          have s0 := HS.out.cell0
          have hlk := HL.out _ HS.out
          have hfd := field0 o.kind o.id ⟨o.bytes.toArray⟩ ⟨o.dest.toArray⟩ w3
          clear hb hbt
          go_wp2
          go_ret
          exact ⟨rfl, HS.out, HG.out⟩
        · have hdb : (o.kind == 2) = false := by simp [hd]
          rw [if_neg hd]
          clear hd
          go_enter Tryd.func17, Tryd.ntmps17
          go_wp2_with fail
          refine HP2.out.mono ?_
          rintro e' w2 ⟨rfl, hb⟩
          have hba := hb.alloc hb.size (.cells #[.int .i64 n.kind, .int .i64 n.id, .string ⟨n.bytes.toArray⟩, .string ⟨n.dest.toArray⟩] 58)
          have HX := Lib.hid (HR2.out _ hba)
          have HB := Lib.hid hba
          clear hb hba
          go_wp2_with fail
          refine HX.out.mono ?_
          rintro e' w3 ⟨rfl, hb⟩
          have hbt := HB.out.trans (hb.mono HB.out.size)
          have HS := Lib.hid (HM.out.below hbt)
          have HG := Lib.hid (grown_of_below hbt)
          have s0 := HS.out.cell0
          have hlk := HL.out _ HS.out
          have hfd := field0 o.kind o.id ⟨o.bytes.toArray⟩ ⟨o.dest.toArray⟩ w3
          have HF := Lib.hid (fresh_any w3 s b st p o HS.out hc hpl)
          clear hb hbt
          go_wp2_with fail
          refine HF.out.mono ?_
          rintro e' w4 ⟨rfl, hS, hG⟩
          have HS4 := Lib.hid hS
          have HG4 := Lib.hid (grown_trans HG.out hG)
          clear hS hG
          go_wp2
          go_ret
          exact ⟨rfl, HS4.out, HG4.out⟩

theorem SM.delM {s b : Nat} {w : World} {st : StL} (h : SM s b w st) (p : List UInt8) (hp : p.length ≤ 1099511627776) (ty : TypeId) :
    ∃ w', (Builtin.delete_ #[64, 9] ty #[.map (some b), .string ⟨p.toArray⟩]).run Tryd.prog w = .ok (.tuple #[]) w' ∧ SM s b w' (st.del p) ∧ w.grownBy w' (some b) := by
  obtain ⟨D, h1, h2⟩ := h.map
  obtain ⟨w', hrun, hown, ht⟩ := h1.drop kString (t := 64) Tryd.underlying64 (keyS hp) ty
  have hgr := ht.grown
  refine ⟨w', hrun, ⟨?_, ⟨_, ?_, h2.del p⟩, h.ne⟩, hgr⟩
  · rw [hgr.block s h.lt (fun e => h.ne (Option.some.inj e))]; exact h.ex
  · have := ownsMap_tight hown
    rw [(h2.del p).size] at this
    exact this

set_option maxHeartbeats 8000000 in
set_option maxRecDepth 100000 in
theorem remove_any (m : Int) (w : World) (s b : Nat) (st : StL) (path : List UInt8) (hm : w.cell? ⟨0, 0, none⟩ = some (.int .i64 m)) (hM : SM s b w st) (hok : OkA st) :
    Calls Tryd.prog 18 #[.pointer (some ⟨s, 0, none⟩), .string ⟨path.toArray⟩] w fun e w' => e = .returned (.int .i64 (removeL st path).1) ∧ SM s b w' (removeL st path).2 ∧ w.grownBy w' (some b) := by
  have HP := Lib.hid (place_any m w s b st path hm hM hok.st)
  have HU0 : Hid (∀ w' p, SM s b w' st → _) := Lib.hid (fun w' p hs => funder_any w' s b st p hs hok)
  have hpl := placeL_len st path
  have HM := Lib.hid hM
  clear hm hM hok
  unfold removeL
  generalize placeL st path = R at *
  obtain ⟨p, n, e⟩ := R
  simp only at hpl ⊢
  have HP2 : Hid (Calls Tryd.prog 38 #[.pointer (some ⟨s, 0, none⟩), .string ⟨path.toArray⟩] w fun e' w' => e' = .returned (.tuple #[.string ⟨p.toArray⟩, .agg #[.int .i64 n.kind, .int .i64 n.id, .string ⟨n.bytes.toArray⟩, .string ⟨n.dest.toArray⟩], .int .i64 e]) ∧ Below w.heap.size w w') := HP
  clear HP
  by_cases he : e ≠ 0
  · have heb : (e != 0) = true := by simp [he]
    rw [if_pos he]
    clear he
    go_enter Tryd.func18, Tryd.ntmps18
    go_wp2_with fail
    refine HP2.out.mono ?_
    rintro e' w2 ⟨rfl, hb⟩
    have HS := Lib.hid ((HM.out.below hb).alloc (.cells #[.int .i64 n.kind, .int .i64 n.id, .string ⟨n.bytes.toArray⟩, .string ⟨n.dest.toArray⟩] 58))
    have HG := Lib.hid (grown_none (b := b) (grown_of_below (hb.alloc hb.size (.cells #[.int .i64 n.kind, .int .i64 n.id, .string ⟨n.bytes.toArray⟩, .string ⟨n.dest.toArray⟩] 58))))
    clear hb
    go_wp2
    go_ret
    exact ⟨rfl, HS.out, HG.out⟩
  · have heb : (e != 0) = false := by simpa using he
    rw [if_neg he]
    clear he
    by_cases hk : n.kind = 0
    · have hkb : (n.kind == 0) = true := by simp [hk]
      rw [if_pos hk]
      clear hk
      go_enter Tryd.func18, Tryd.ntmps18
      go_wp2_with fail
      refine HP2.out.mono ?_
      rintro e' w2 ⟨rfl, hb⟩
      have HS := Lib.hid ((HM.out.below hb).alloc (.cells #[.int .i64 n.kind, .int .i64 n.id, .string ⟨n.bytes.toArray⟩, .string ⟨n.dest.toArray⟩] 58))
      have HG := Lib.hid (grown_none (b := b) (grown_of_below (hb.alloc hb.size (.cells #[.int .i64 n.kind, .int .i64 n.id, .string ⟨n.bytes.toArray⟩, .string ⟨n.dest.toArray⟩] 58))))
      clear hb
      go_wp2
      go_ret
      exact ⟨rfl, HS.out, HG.out⟩
    · have hkb : (n.kind == 0) = false := by simp [hk]
      rw [if_neg hk]
      clear hk
      by_cases h2 : n.kind = 2
      · have h2b : (n.kind == 2) = true := by simp [h2]
        by_cases hne : noneUnder st p
        · rw [if_neg (fun h => h.2 hne)]
          have Hne := Lib.hid hne
          clear h2 hne
          go_enter Tryd.func18, Tryd.ntmps18
          go_wp2_with fail
          refine HP2.out.mono ?_
          rintro e' w2 ⟨rfl, hb⟩
          have hba := hb.alloc hb.size (.cells #[.int .i64 n.kind, .int .i64 n.id, .string ⟨n.bytes.toArray⟩, .string ⟨n.dest.toArray⟩] 58)
          have HS := Lib.hid (HM.out.below hba)
          have HB := Lib.hid hba
          have HU := Lib.hid (HU0.out _ p HS.out)
          clear hb hba
          go_wp2_with fail
          refine HU.out.mono ?_
          rintro e' w3 ⟨v, l, rfl, hown, hund, hlen, hb3⟩
          have hbt := HB.out.trans (hb3.mono HB.out.size)
          have HS3 := Lib.hid (HM.out.below hbt)
          have HG3 := Lib.hid (grown_of_below hbt)
          obtain ⟨a, c, rfl⟩ := hown.form
          have h0 : l = [] := hund.none.2 Hne.out
          subst h0
          clear hown hund hb3 hbt hlen
          simp only [List.length_nil]
          have s0 := HS3.out.cell0
          obtain ⟨w4, hrun, hM4, hg4⟩ := HS3.out.delM p (by omega) 0
          have HM4 := Lib.hid hM4
          have HG4 := Lib.hid (grown_trans HG3.out hg4)
          clear hM4 hg4
          go_wp2
          go_ret
          exact ⟨rfl, HM4.out, HG4.out⟩
        · rw [if_pos ⟨h2, hne⟩]
          have Hne := Lib.hid hne
          clear h2 hne
          go_enter Tryd.func18, Tryd.ntmps18
          go_wp2_with fail
          refine HP2.out.mono ?_
          rintro e' w2 ⟨rfl, hb⟩
          have hba := hb.alloc hb.size (.cells #[.int .i64 n.kind, .int .i64 n.id, .string ⟨n.bytes.toArray⟩, .string ⟨n.dest.toArray⟩] 58)
          have HS := Lib.hid (HM.out.below hba)
          have HB := Lib.hid hba
          have HU := Lib.hid (HU0.out _ p HS.out)
          clear hb hba
          go_wp2_with fail
          refine HU.out.mono ?_
          rintro e' w3 ⟨v, l, rfl, hown, hund, hlen, hb3⟩
          have hbt := HB.out.trans (hb3.mono HB.out.size)
          have HS3 := Lib.hid (HM.out.below hbt)
          have HG3 := Lib.hid (grown_of_below hbt)
          obtain ⟨a, c, rfl⟩ := hown.form
          have h0 : 0 < l.length := List.length_pos_iff.2 (fun h => Hne.out (hund.none.1 h))
          obtain ⟨n0, hn0⟩ : ∃ n0, n0 = l.length := ⟨_, rfl⟩
          rw [← hn0] at h0 ⊢
          clear hown hund hb3 hbt hlen hn0
          go_wp2
          go_ret
          exact ⟨rfl, HS3.out, grown_none HG3.out⟩
      · have h2b : (n.kind == 2) = false := by simp [h2]
        rw [if_neg (fun h => h2 h.1)]
        clear h2
        go_enter Tryd.func18, Tryd.ntmps18
        go_wp2_with fail
        refine HP2.out.mono ?_
        rintro e' w2 ⟨rfl, hb⟩
        have hba := hb.alloc hb.size (.cells #[.int .i64 n.kind, .int .i64 n.id, .string ⟨n.bytes.toArray⟩, .string ⟨n.dest.toArray⟩] 58)
        have HS := Lib.hid (HM.out.below hba)
        have HG := Lib.hid (grown_of_below hba)
        have s0 := HS.out.cell0
        obtain ⟨w4, hrun, hM4, hg4⟩ := HS.out.delM p (by omega) 0
        have HM4 := Lib.hid hM4
        have HG4 := Lib.hid (grown_trans HG.out hg4)
        clear hb hba hM4 hg4
        go_wp2
        go_ret
        exact ⟨rfl, HM4.out, HG4.out⟩

end Go.Proofs.YtgoecmfjidcieaaDoor
