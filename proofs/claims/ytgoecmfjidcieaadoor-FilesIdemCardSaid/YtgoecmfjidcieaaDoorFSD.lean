/- the law FilesCleans, walked -/
import Derived.Test.YtgoecmfjidcieaaDoorFSC
namespace Go.Proofs.YtgoecmfjidcieaaDoor
set_option linter.unusedVariables false
set_option linter.unusedSimpArgs false
open Go.RowKit

set_option maxHeartbeats 4000000 in
set_option maxRecDepth 100000 in
theorem law_cleans (m : Int) (w : World) (path : List UInt8) (hm : w.cell? ⟨0, 0, none⟩ = some (.int .i64 m)) :
    Calls Tryd.prog 3 #[.string ⟨path.toArray⟩] w fun e w' => e = .returned (.bool true) ∧ Below w.heap.size w w' := by
  have h0 : 0 < w.heap.size := World.block_lt_of_cell? _ _ hm
  have Hm : Hid (∀ w', Below w.heap.size w w' → w'.cell? ⟨0, 0, none⟩ = some (.int .i64 m)) := Lib.hid (fun w' hb => (hb.cell (p := ⟨0, 0, none⟩) h0).trans hm)
  have HA := Lib.hid (awake_any m w hm)
  have HC : Hid (∀ w', _ → _) := Lib.hid (fun w' => clean_any m w' path)
  have HD : Hid (∀ w', _) := Lib.hid (fun w' => cclean_any w' path)
  have HE : Hid (∀ w', _ → _) := Lib.hid (fun w' => within_any m w' path)
  have HF : Hid (∀ w', _) := Lib.hid (fun w' => cwithin_any w' path)
  clear hm
  generalize (cleanL path).1 = c1 at *
  generalize (cleanL path).2 = c2 at *
  generalize (withinL path).1 = d1 at *
  generalize (withinL path).2 = d2 at *
  go_enter Tryd.func3, Tryd.ntmps3
  go_wp2_with fail
  refine HA.out.mono ?_
  rintro e w1 ⟨rfl, hb1⟩
  have B1 := Lib.hid hb1
  clear hb1
  go_wp2_with fail
  refine (HC.out w1 (Hm.out _ B1.out)).mono ?_
  rintro e w2 ⟨rfl, hb⟩
  have B2 := Lib.hid (B1.out.trans (hb.mono B1.out.size))
  clear hb
  go_wp2_with fail
  refine (HD.out w2).mono ?_
  rintro e w3 ⟨rfl, hb⟩
  have B3 := Lib.hid (B2.out.trans (hb.mono B2.out.size))
  clear hb
  go_wp2_with fail
  refine (HE.out w3 (Hm.out _ B3.out)).mono ?_
  rintro e w4 ⟨rfl, hb⟩
  have B4 := Lib.hid (B3.out.trans (hb.mono B3.out.size))
  clear hb
  go_wp2_with fail
  refine (HF.out w4).mono ?_
  rintro e w5 ⟨rfl, hb⟩
  have B5 := Lib.hid (B4.out.trans (hb.mono B4.out.size))
  clear hb
  go_wp2
  go_ret
  exact ⟨by simp, B5.out⟩

end Go.Proofs.YtgoecmfjidcieaaDoor
