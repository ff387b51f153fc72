/- the law FilesIdem, walked -/
import Derived.Test.YtgoecmfjidcieaaDoorFSD
namespace Go.Proofs.YtgoecmfjidcieaaDoor
set_option linter.unusedVariables false
set_option linter.unusedSimpArgs false
open Go.RowKit

set_option maxHeartbeats 4000000 in
set_option maxRecDepth 100000 in
theorem law_idem (m : Int) (w : World) (path : List UInt8) (hm : w.cell? ⟨0, 0, none⟩ = some (.int .i64 m)) :
    Calls Tryd.prog 4 #[.string ⟨path.toArray⟩] w fun e w' => e = .returned (.bool true) ∧ Below w.heap.size w w' := by
  have h0 : 0 < w.heap.size := World.block_lt_of_cell? _ _ hm
  have Hm : Hid (∀ w', Below w.heap.size w w' → w'.cell? ⟨0, 0, none⟩ = some (.int .i64 m)) := Lib.hid (fun w' hb => (hb.cell (p := ⟨0, 0, none⟩) h0).trans hm)
  have HA := Lib.hid (awake_any m w hm)
  have HC : Hid (∀ w', _ → _) := Lib.hid (fun w' => clean_any m w' path)
  clear hm
  have hsz := size_mk' path
  by_cases he : (cleanL path).2 = 0
  · obtain ⟨hi, hl1, hl2, hh⟩ := cleanL_idem he
    have hw1 : withinL path = (upL (cleanL path).1, 0) := by rw [withinL, if_pos he]
    have hw2 : withinL (cleanL path).1 = (upL (cleanL path).1, 0) := by rw [withinL, hi]; rfl
    have HD : Hid (∀ w', _ → _) := Lib.hid (fun w' => clean_any m w' (cleanL path).1)
    have HE : Hid (∀ w', _ → _) := Lib.hid (fun w' => within_any m w' (cleanL path).1)
    have HF : Hid (∀ w', _ → _) := Lib.hid (fun w' => within_any m w' path)
    rw [hi] at HD
    rw [hw2] at HE
    rw [hw1] at HF
    rw [he] at HC
    clear hi hw1 hw2 he
    generalize (cleanL path).1 = c at *
    generalize upL c = d at *
    have hcs := size_mk' c
    obtain ⟨c0, tl, rfl⟩ : ∃ c0 tl, c = c0 :: tl := by cases c with
      | nil => cases hh
      | cons c0 tl => exact ⟨c0, tl, rfl⟩
    simp only [List.head?_cons, Option.some.injEq] at hh
    subst hh
    have hx : (⟨((47 : UInt8) :: tl).toArray⟩ : ByteArray)[0]'(by simp [ByteArray.size]) = 47 := rfl
    have hc' : (((47 : UInt8).toNat : Int) == 47) = true := by decide
    have hxl : ((47 : UInt8) :: tl).length = tl.length + 1 := rfl
    go_enter Tryd.func4, Tryd.ntmps4
    go_wp2_with fail
    refine HA.out.mono ?_
    rintro e w1 ⟨rfl, hb1⟩
    have B1 := Lib.hid hb1
    clear hb1
    go_wp2_with fail
    refine (HC.out w1 (Hm.out _ B1.out)).mono ?_
    rintro e w2 ⟨rfl, hb⟩
    have B2 := Lib.hid (B1.out.trans (hb.mono B1.out.size))
    clear hb
    go_wp2_with fail
    refine (HD.out w2 (Hm.out _ B2.out)).mono ?_
    rintro e w3 ⟨rfl, hb⟩
    have B3 := Lib.hid (B2.out.trans (hb.mono B2.out.size))
    clear hb
    go_wp2_with fail
    refine (HE.out w3 (Hm.out _ B3.out)).mono ?_
    rintro e w4 ⟨rfl, hb⟩
    have B4 := Lib.hid (B3.out.trans (hb.mono B3.out.size))
    clear hb
    go_wp2_with fail
    refine (HF.out w4 (Hm.out _ B4.out)).mono ?_
    rintro e w5 ⟨rfl, hb⟩
    have B5 := Lib.hid (B4.out.trans (hb.mono B4.out.size))
    clear hb
    go_wp2
    go_ret
    exact ⟨by simp, B5.out⟩
  · have hb2 := cleanL_bad he
    rw [hb2] at HC
    clear he hb2
    go_enter Tryd.func4, Tryd.ntmps4
    go_wp2_with fail
    refine HA.out.mono ?_
    rintro e w1 ⟨rfl, hb1⟩
    have B1 := Lib.hid hb1
    clear hb1
    go_wp2_with fail
    refine (HC.out w1 (Hm.out _ B1.out)).mono ?_
    rintro e w2 ⟨rfl, hb⟩
    have B2 := Lib.hid (B1.out.trans (hb.mono B1.out.size))
    clear hb
    go_wp2
    go_ret
    exact ⟨by simp, B2.out⟩

end Go.Proofs.YtgoecmfjidcieaaDoor
