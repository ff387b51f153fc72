/- place at any path (tools/gen_place.py prints this) -/
import Derived.Test.YtgoecmfjidcieaaDoorFS6
namespace Go.Proofs.YtgoecmfjidcieaaDoor
set_option linter.unusedVariables false
set_option linter.unusedSimpArgs false
open Go.RowKit

set_option maxHeartbeats 4000000 in
set_option maxRecDepth 100000 in
theorem place_none (w : World) (s : Nat) (path : List UInt8)
    (hpar : ∀ w', Below w.heap.size w w' → Calls Tryd.prog 28 #[.string ⟨path.toArray⟩] w' fun e w'' => ∃ v, e = .returned (.tuple #[v, .bool false]) ∧ OwnS w'.heap.size w'' v [] ∧ Below w'.heap.size w' w'') :
    Calls Tryd.prog 38 #[.pointer (some ⟨s, 0, none⟩), .string ⟨path.toArray⟩] w fun e' w' => e' = .returned (.tuple #[.string ⟨#[]⟩, .agg #[.int .i64 0, .int .i64 0, .string ⟨#[]⟩, .string ⟨#[]⟩], .int .i64 30]) ∧ Below w.heap.size w w' := by
  have hsz := size_mk' path
  have HPar := Lib.hid hpar
  clear hpar
  go_enter Tryd.func38, Tryd.ntmps38
  go_wp2_with fail
  have hb0 := (Below.refl _ w).alloc (Nat.le_refl w.heap.size) (.cells #[.int .i64 0, .int .i64 0, .string ⟨#[]⟩, .string ⟨#[]⟩] 58)
  refine (HPar.out _ hb0).mono ?_
  rintro e w2 ⟨v, rfl, hown, hb⟩
  have hbs := hb.size
  rw [World.size_alloc] at hbs
  have hbw := hb0.trans (hb.mono (by simp))
  have Hcc : Hid (w2.heap[w.heap.size]? = some (.cells #[.int .i64 0, .int .i64 0, .string ⟨#[]⟩, .string ⟨#[]⟩] 58)) := Lib.hid ((hb.block w.heap.size (by simp)).trans (MapKept.heap_alloc w _).1)
  have Hbw := Lib.hid hbw
  clear hb hown hbw hb0
  go_wp2_with (refine wpList_store_row rfl 58 (.tmp 5) (.tmp 27) rfl w.heap.size (#[.int .i64 0, .int .i64 0, .string ⟨#[]⟩, .string ⟨#[]⟩]) rfl rfl _ _ Hcc.out (by kernel_rfl) rfl (by simp [Value.oneCell']) ?_)
  go_wp2_with fail
  have FR := Lib.hid (setRow_heap _ w.heap.size _ (#[.int .i64 0, .int .i64 0, .string ⟨#[]⟩, .string ⟨#[]⟩]) _ _ Hcc.out)
  refine bodyPost_ret (results_tmp_row_tmp rfl _ _ w.heap.size _ _ _ _ rfl FR.out Tryd.underlying58 rfl (by kernel_rfl)) rfl ?_
  exact ⟨rfl, below_setRow Hbw.out _ _ (Nat.le_refl _)⟩

set_option maxHeartbeats 4000000 in
set_option maxRecDepth 100000 in
theorem place_head (w : World) (s : Nat) (path : List UInt8) (l : List (List UInt8))
    (hpar : ∀ w', Below w.heap.size w w' → Calls Tryd.prog 28 #[.string ⟨path.toArray⟩] w' fun e w'' => ∃ v, e = .returned (.tuple #[v, .bool true]) ∧ OwnS w'.heap.size w'' v l ∧ Below w'.heap.size w' w'')
    (h0 : path.head? ≠ some 47) :
    Calls Tryd.prog 38 #[.pointer (some ⟨s, 0, none⟩), .string ⟨path.toArray⟩] w fun e' w' => e' = .returned (.tuple #[.string ⟨#[]⟩, .agg #[.int .i64 0, .int .i64 0, .string ⟨#[]⟩, .string ⟨#[]⟩], .int .i64 30]) ∧ Below w.heap.size w w' := by
  have hsz := size_mk' path
  have HPar := Lib.hid hpar
  clear hpar
  cases path with
  | nil =>
    clear h0
    go_enter Tryd.func38, Tryd.ntmps38
    go_wp2_with fail
    have hb0 := (Below.refl _ w).alloc (Nat.le_refl w.heap.size) (.cells #[.int .i64 0, .int .i64 0, .string ⟨#[]⟩, .string ⟨#[]⟩] 58)
    refine (HPar.out _ hb0).mono ?_
    rintro e w2 ⟨v, rfl, hown, hb⟩
    have hbs := hb.size
    rw [World.size_alloc] at hbs
    have hbw := hb0.trans (hb.mono (by simp))
    have Hcc : Hid (w2.heap[w.heap.size]? = some (.cells #[.int .i64 0, .int .i64 0, .string ⟨#[]⟩, .string ⟨#[]⟩] 58)) := Lib.hid ((hb.block w.heap.size (by simp)).trans (MapKept.heap_alloc w _).1)
    have Hbw := Lib.hid hbw
    clear hb hown hbw hb0
    go_wp2_with (refine wpList_store_row rfl 58 (.tmp 5) (.tmp 27) rfl w.heap.size (#[.int .i64 0, .int .i64 0, .string ⟨#[]⟩, .string ⟨#[]⟩]) rfl rfl _ _ Hcc.out (by kernel_rfl) rfl (by simp [Value.oneCell']) ?_)
    go_wp2_with fail
    have FR := Lib.hid (setRow_heap _ w.heap.size _ (#[.int .i64 0, .int .i64 0, .string ⟨#[]⟩, .string ⟨#[]⟩]) _ _ Hcc.out)
    refine bodyPost_ret (results_tmp_row_tmp rfl _ _ w.heap.size _ _ _ _ rfl FR.out Tryd.underlying58 rfl (by kernel_rfl)) rfl ?_
    exact ⟨rfl, below_setRow Hbw.out _ _ (Nat.le_refl _)⟩
  | cons c tl =>
    have hx : (⟨(c :: tl).toArray⟩ : ByteArray)[0]'(by simp [ByteArray.size]) = c := rfl
    have hc' : ((c.toNat : Int) != 47) = true := by
      have : c.toNat ≠ 47 := fun e => h0 (congrArg some (UInt8.toNat_inj.1 e))
      simp; omega
    have hxl : (c :: tl).length = tl.length + 1 := rfl
    clear h0
    go_enter Tryd.func38, Tryd.ntmps38
    go_wp2_with fail
    have hb0 := (Below.refl _ w).alloc (Nat.le_refl w.heap.size) (.cells #[.int .i64 0, .int .i64 0, .string ⟨#[]⟩, .string ⟨#[]⟩] 58)
    refine (HPar.out _ hb0).mono ?_
    rintro e w2 ⟨v, rfl, hown, hb⟩
    have hbs := hb.size
    rw [World.size_alloc] at hbs
    have hbw := hb0.trans (hb.mono (by simp))
    have Hcc : Hid (w2.heap[w.heap.size]? = some (.cells #[.int .i64 0, .int .i64 0, .string ⟨#[]⟩, .string ⟨#[]⟩] 58)) := Lib.hid ((hb.block w.heap.size (by simp)).trans (MapKept.heap_alloc w _).1)
    have Hbw := Lib.hid hbw
    clear hb hown hbw hb0
    go_wp2_with (refine wpList_store_row rfl 58 (.tmp 5) (.tmp 27) rfl w.heap.size (#[.int .i64 0, .int .i64 0, .string ⟨#[]⟩, .string ⟨#[]⟩]) rfl rfl _ _ Hcc.out (by kernel_rfl) rfl (by simp [Value.oneCell']) ?_)
    go_wp2_with fail
    have FR := Lib.hid (setRow_heap _ w.heap.size _ (#[.int .i64 0, .int .i64 0, .string ⟨#[]⟩, .string ⟨#[]⟩]) _ _ Hcc.out)
    refine bodyPost_ret (results_tmp_row_tmp rfl _ _ w.heap.size _ _ _ _ rfl FR.out Tryd.underlying58 rfl (by kernel_rfl)) rfl ?_
    exact ⟨rfl, below_setRow Hbw.out _ _ (Nat.le_refl _)⟩

set_option maxHeartbeats 4000000 in
set_option maxRecDepth 100000 in
theorem place_root (w : World) (s : Nat) (path : List UInt8) (l : List (List UInt8)) (hl : l = [])
    (hpar : ∀ w', Below w.heap.size w w' → Calls Tryd.prog 28 #[.string ⟨path.toArray⟩] w' fun e w'' => ∃ v, e = .returned (.tuple #[v, .bool true]) ∧ OwnS w'.heap.size w'' v l ∧ Below w'.heap.size w' w'')
    (h0 : path.head? = some 47) :
    Calls Tryd.prog 38 #[.pointer (some ⟨s, 0, none⟩), .string ⟨path.toArray⟩] w fun e' w' => e' = .returned (.tuple #[.string ⟨#[]⟩, .agg #[.int .i64 0, .int .i64 0, .string ⟨#[]⟩, .string ⟨#[]⟩], .int .i64 30]) ∧ Below w.heap.size w w' := by
  subst hl
  have hsz := size_mk' path
  have HPar := Lib.hid hpar
  clear hpar
  obtain ⟨c, tl, rfl⟩ : ∃ c tl, path = c :: tl := by cases path with
    | nil => cases h0
    | cons c tl => exact ⟨c, tl, rfl⟩
  simp only [List.head?_cons, Option.some.injEq] at h0
  subst h0
  have hx : (⟨((47 : UInt8) :: tl).toArray⟩ : ByteArray)[0]'(by simp [ByteArray.size]) = 47 := rfl
  have hc' : (((47 : UInt8).toNat : Int) != 47) = false := by decide
  have hxl : ((47 : UInt8) :: tl).length = tl.length + 1 := rfl
  go_enter Tryd.func38, Tryd.ntmps38
  go_wp2_with fail
  have hb0 := (Below.refl _ w).alloc (Nat.le_refl w.heap.size) (.cells #[.int .i64 0, .int .i64 0, .string ⟨#[]⟩, .string ⟨#[]⟩] 58)
  refine (HPar.out _ hb0).mono ?_
  rintro e w2 ⟨v, rfl, hown, hb⟩
  have hbs := hb.size
  rw [World.size_alloc] at hbs
  have hbw := hb0.trans (hb.mono (by simp))
  have Hcc : Hid (w2.heap[w.heap.size]? = some (.cells #[.int .i64 0, .int .i64 0, .string ⟨#[]⟩, .string ⟨#[]⟩] 58)) := Lib.hid ((hb.block w.heap.size (by simp)).trans (MapKept.heap_alloc w _).1)
  have Hbw := Lib.hid hbw
  obtain ⟨a1, c1, rfl⟩ := hown.form
  clear hb hown hbw hb0
  go_wp2_with (refine wpList_store_row rfl 58 (.tmp 5) (.tmp 40) rfl w.heap.size (#[.int .i64 0, .int .i64 0, .string ⟨#[]⟩, .string ⟨#[]⟩]) rfl rfl _ _ Hcc.out (by kernel_rfl) rfl (by simp [Value.oneCell']) ?_)
  go_wp2_with fail
  have FR := Lib.hid (setRow_heap _ w.heap.size _ (#[.int .i64 0, .int .i64 0, .string ⟨#[]⟩, .string ⟨#[]⟩]) _ _ Hcc.out)
  refine bodyPost_ret (results_tmp_row_tmp rfl _ _ w.heap.size _ _ _ _ rfl FR.out Tryd.underlying58 rfl (by kernel_rfl)) rfl ?_
  exact ⟨rfl, below_setRow Hbw.out _ _ (Nat.le_refl _)⟩

set_option maxHeartbeats 4000000 in
set_option maxRecDepth 100000 in
theorem place_up (w : World) (s : Nat) (path : List UInt8) (l : List (List UInt8)) (hl : l.length ≤ 1000) (hne : l ≠ []) (hla : l.getLast? = some [46, 46])
    (hpar : ∀ w', Below w.heap.size w w' → Calls Tryd.prog 28 #[.string ⟨path.toArray⟩] w' fun e w'' => ∃ v, e = .returned (.tuple #[v, .bool true]) ∧ OwnS w'.heap.size w'' v l ∧ Below w'.heap.size w' w'')
    (h0 : path.head? = some 47) :
    Calls Tryd.prog 38 #[.pointer (some ⟨s, 0, none⟩), .string ⟨path.toArray⟩] w fun e' w' => e' = .returned (.tuple #[.string ⟨#[]⟩, .agg #[.int .i64 0, .int .i64 0, .string ⟨#[]⟩, .string ⟨#[]⟩], .int .i64 30]) ∧ Below w.heap.size w w' := by
  have hsz := size_mk' path
  have HPar := Lib.hid hpar
  clear hpar
  obtain ⟨c, tl, rfl⟩ : ∃ c tl, path = c :: tl := by cases path with
    | nil => cases h0
    | cons c tl => exact ⟨c, tl, rfl⟩
  simp only [List.head?_cons, Option.some.injEq] at h0
  subst h0
  have hx : (⟨((47 : UInt8) :: tl).toArray⟩ : ByteArray)[0]'(by simp [ByteArray.size]) = 47 := rfl
  have hc' : (((47 : UInt8).toNat : Int) != 47) = false := by decide
  have hxl : ((47 : UInt8) :: tl).length = tl.length + 1 := rfl
  have hll : 0 < l.length := List.length_pos_iff.2 hne
  have hl0 : (l.length == 0) = false := by simp; omega
  have hl00 : ((l.length : Int) == 0) = false := by simp; omega
  have hlg : l.getLast? = some (snth l (l.length - 1)) := by
    rw [List.getLast?_eq_getElem?, List.getElem?_eq_getElem (by omega), snth_eq l _ (by omega)]
  have e1 : ((l.length : Int) - 1).toNat = l.length - 1 := by omega
  have hlb : (snth l (l.length - 1) == [46, 46]) = true := by rw [hlg] at hla; simpa using hla
  clear hne hla hlg
  go_enter Tryd.func38, Tryd.ntmps38
  go_wp2_with fail
  have hb0 := (Below.refl _ w).alloc (Nat.le_refl w.heap.size) (.cells #[.int .i64 0, .int .i64 0, .string ⟨#[]⟩, .string ⟨#[]⟩] 58)
  refine (HPar.out _ hb0).mono ?_
  rintro e w2 ⟨v, rfl, hown, hb⟩
  have hbs := hb.size
  rw [World.size_alloc] at hbs
  have hbw := hb0.trans (hb.mono (by simp))
  have Hcc : Hid (w2.heap[w.heap.size]? = some (.cells #[.int .i64 0, .int .i64 0, .string ⟨#[]⟩, .string ⟨#[]⟩] 58)) := Lib.hid ((hb.block w.heap.size (by simp)).trans (MapKept.heap_alloc w _).1)
  have Hbw := Lib.hid hbw
  obtain ⟨a1, b1, off1, cap1, rfl, hm1, ha1, hcap1, hcl⟩ := hown.strs
  obtain rfl := ha1 hll
  have gc := hcl (l.length - 1) (by omega)
  clear hcl hb hown hbw hb0
  go_wp2_with (refine wpList_store_row rfl 58 (.tmp 5) (.tmp 40) rfl w.heap.size (#[.int .i64 0, .int .i64 0, .string ⟨#[]⟩, .string ⟨#[]⟩]) rfl rfl _ _ Hcc.out (by kernel_rfl) rfl (by simp [Value.oneCell']) ?_)
  go_wp2_with fail
  have FR := Lib.hid (setRow_heap _ w.heap.size _ (#[.int .i64 0, .int .i64 0, .string ⟨#[]⟩, .string ⟨#[]⟩]) _ _ Hcc.out)
  refine bodyPost_ret (results_tmp_row_tmp rfl _ _ w.heap.size _ _ _ _ rfl FR.out Tryd.underlying58 rfl (by kernel_rfl)) rfl ?_
  exact ⟨rfl, below_setRow Hbw.out _ _ (Nat.le_refl _)⟩

set_option maxHeartbeats 4000000 in
set_option maxRecDepth 100000 in
theorem place_lost (w : World) (s : Nat) (path : List UInt8) (l : List (List UInt8)) (e : Int) (hl : l.length ≤ 1000) (hne : l ≠ []) (hla : l.getLast? ≠ some [46, 46])
    (hpar : ∀ w', Below w.heap.size w w' → Calls Tryd.prog 28 #[.string ⟨path.toArray⟩] w' fun e w'' => ∃ v, e = .returned (.tuple #[v, .bool true]) ∧ OwnS w'.heap.size w'' v l ∧ Below w'.heap.size w' w'')
    (h0 : path.head? = some 47)
    (hw : ∀ (w' : World) (v : Value), Below w.heap.size w w' → Strs w' v l → Calls Tryd.prog 41 #[.pointer (some ⟨s, 0, none⟩), v, .bool false] w' fun e' w'' => e' = .returned (.tuple #[.string ⟨#[]⟩, .int .i64 e]) ∧ Below w'.heap.size w' w'') (he : e ≠ 0) :
    Calls Tryd.prog 38 #[.pointer (some ⟨s, 0, none⟩), .string ⟨path.toArray⟩] w fun e' w' => e' = .returned (.tuple #[.string ⟨#[]⟩, .agg #[.int .i64 0, .int .i64 0, .string ⟨#[]⟩, .string ⟨#[]⟩], .int .i64 e]) ∧ Below w.heap.size w w' := by
  have hsz := size_mk' path
  have HPar := Lib.hid hpar
  clear hpar
  obtain ⟨c, tl, rfl⟩ : ∃ c tl, path = c :: tl := by cases path with
    | nil => cases h0
    | cons c tl => exact ⟨c, tl, rfl⟩
  simp only [List.head?_cons, Option.some.injEq] at h0
  subst h0
  have hx : (⟨((47 : UInt8) :: tl).toArray⟩ : ByteArray)[0]'(by simp [ByteArray.size]) = 47 := rfl
  have hc' : (((47 : UInt8).toNat : Int) != 47) = false := by decide
  have hxl : ((47 : UInt8) :: tl).length = tl.length + 1 := rfl
  have hll : 0 < l.length := List.length_pos_iff.2 hne
  have hl0 : (l.length == 0) = false := by simp; omega
  have hl00 : ((l.length : Int) == 0) = false := by simp; omega
  have hlg : l.getLast? = some (snth l (l.length - 1)) := by
    rw [List.getLast?_eq_getElem?, List.getElem?_eq_getElem (by omega), snth_eq l _ (by omega)]
  have e1 : ((l.length : Int) - 1).toNat = l.length - 1 := by omega
  have hlb : (snth l (l.length - 1) == [46, 46]) = false := by rw [hlg] at hla; simpa using hla
  have HW := Lib.hid hw
  have heb : (e != 0) = true := by simp [he]
  clear hne hla hlg hw he
  go_enter Tryd.func38, Tryd.ntmps38
  go_wp2_with fail
  have hb0 := (Below.refl _ w).alloc (Nat.le_refl w.heap.size) (.cells #[.int .i64 0, .int .i64 0, .string ⟨#[]⟩, .string ⟨#[]⟩] 58)
  refine (HPar.out _ hb0).mono ?_
  rintro e w2 ⟨v, rfl, hown, hb⟩
  have hbs := hb.size
  rw [World.size_alloc] at hbs
  have hbw := hb0.trans (hb.mono (by simp))
  have Hcc : Hid (w2.heap[w.heap.size]? = some (.cells #[.int .i64 0, .int .i64 0, .string ⟨#[]⟩, .string ⟨#[]⟩] 58)) := Lib.hid ((hb.block w.heap.size (by simp)).trans (MapKept.heap_alloc w _).1)
  have Hbw := Lib.hid hbw
  have HX := Lib.hid (HW.out w2 v hbw hown.strs)
  obtain ⟨a1, b1, off1, cap1, rfl, hm1, ha1, hcap1, hcl⟩ := hown.strs
  obtain rfl := ha1 hll
  have gc := hcl (l.length - 1) (by omega)
  clear hcl hb hown hbw hb0
  go_wp2_with fail
  refine HX.out.mono ?_
  rintro e w3 ⟨rfl, hb3⟩
  have hb3s := hb3.size
  have Hb3 := Lib.hid (Hbw.out.trans (hb3.mono (show w.heap.size ≤ w2.heap.size by omega)))
  have Hcc3 := Lib.hid ((hb3.block w.heap.size (by omega)).trans Hcc.out)
  clear hb3 Hcc gc
  go_wp2_with (refine wpList_store_row rfl 58 (.tmp 5) (.tmp 53) rfl w.heap.size (#[.int .i64 0, .int .i64 0, .string ⟨#[]⟩, .string ⟨#[]⟩]) rfl rfl _ _ Hcc3.out (by kernel_rfl) rfl (by simp [Value.oneCell']) ?_)
  go_wp2_with fail
  have FR := Lib.hid (setRow_heap _ w.heap.size _ (#[.int .i64 0, .int .i64 0, .string ⟨#[]⟩, .string ⟨#[]⟩]) _ _ Hcc3.out)
  refine bodyPost_ret (results_tmp_row_tmp rfl _ _ w.heap.size _ _ _ _ rfl FR.out Tryd.underlying58 rfl (by kernel_rfl)) rfl ?_
  exact ⟨rfl, below_setRow Hb3.out _ _ (Nat.le_refl _)⟩

theorem place_any (m : Int) (w : World) (s b : Nat) (st : StL) (path : List UInt8) (hm : w.cell? ⟨0, 0, none⟩ = some (.int .i64 m)) (hM : SM s b w st) (hok : OkSt st) :
    Calls Tryd.prog 38 #[.pointer (some ⟨s, 0, none⟩), .string ⟨path.toArray⟩] w fun e w' => e = .returned (.tuple #[.string ⟨(placeL st path).1.toArray⟩, nodeV (placeL st path).2.1, .int .i64 (placeL st path).2.2]) ∧ Below w.heap.size w w' := by
  have h0lt : 0 < w.heap.size := World.block_lt_of_cell? _ _ hm
  have hpar := fun w' (hb : Below w.heap.size w w') => parts_any m w' path ((hb.cell (p := ⟨0, 0, none⟩) h0lt).trans hm)
  cases hp : partsL path with
  | none =>
    rw [hp] at hpar
    have ha : absL path = none := by unfold absL; split <;> first | exact hp | rfl
    have hpl : placeL st path = ([], NodeL.zero, 30) := by rw [placeL, ha]
    rw [hpl]
    exact place_none w s path hpar
  | some l =>
    rw [hp] at hpar
    by_cases h0 : path.head? = some 47
    · have ha : absL path = some l := by rw [absL, if_pos h0, hp]
      have hwt := absL_weight ha
      have hll := length_weight l
      have hpl : placeL st path = if l = [] ∨ l.getLast? = some [46, 46] then ([], NodeL.zero, 30)
        else if (walkL st.has false l [47] 0).2 ≠ 0 ∧ (walkL st.has false l [47] 0).1 = [] then ([], NodeL.zero, (walkL st.has false l [47] 0).2)
        else ((walkL st.has false l [47] 0).1, st.get (walkL st.has false l [47] 0).1, 0) := by rw [placeL, ha]
      rw [hpl]
      by_cases hn : l = []
      · rw [if_pos (Or.inl hn)]
        exact place_root w s path l hn hpar h0
      · by_cases hu : l.getLast? = some [46, 46]
        · rw [if_pos (Or.inr hu)]
          exact place_up w s path l (by omega) hn hu hpar h0
        · rw [if_neg (by rintro (h | h); exact hn h; exact hu h)]
          have hw := fun (w' : World) (v : Value) (hb : Below w.heap.size w w') (hv : Strs w' v l) => walk_any m w' s b st v l false ((hb.cell (p := ⟨0, 0, none⟩) h0lt).trans hm) (hM.below hb) hok hv hwt
          have hlen := walkL_len st.has false l [47] 0
          simp only [List.length_singleton] at hlen
          generalize walkL st.has false l [47] 0 = W at *
          obtain ⟨p, e⟩ := W
          simp only at hw hlen ⊢
          by_cases he : e ≠ 0 ∧ p = []
          · rw [if_pos he]
            obtain ⟨he, rfl⟩ := he
            exact place_lost w s path l e (by omega) hn hu hpar h0 hw he
          · rw [if_neg he]
            exact place_on w s b st path l p e hM (by omega) (by omega) hpar h0 hn hu hw he
    · have ha : absL path = none := if_neg h0
      have hpl : placeL st path = ([], NodeL.zero, 30) := by rw [placeL, ha]
      rw [hpl]
      exact place_head w s path l hpar h0

end Go.Proofs.YtgoecmfjidcieaaDoor
