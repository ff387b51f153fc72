/- the law FilesKeeps, walked -/
import Derived.Test.YtgoecmfjidcieaaDoorFK8
import Derived.Test.YtgoecmfjidcieaaDoorFL1
namespace Go.Proofs.YtgoecmfjidcieaaDoor
set_option linter.unusedVariables false
set_option linter.unusedSimpArgs false
open Go.RowKit

theorem read_of_file {st : StL} {path : List UInt8} {n : NodeL} (h : fileL st path = (n, 0)) : readL st path = (n.bytes, 0) := by unfold readL; rw [h]; rfl
theorem play_ok (l : List ActL) : OkA (playL StL.new l) := OkA.new.play l
theorem play_lt (l : List ActL) (h : l.length ≤ 4611686018427387000) : (playL StL.new l).last < 4611686018427387904 := by
  have h1 := play_last StL.new l
  have h3 : StL.new.last = 0 := rfl
  omega
theorem put_ok {st : StL} (h : OkA st) (path b : List UInt8) : OkA (putL st path b).2 := h.does ⟨2, path, [], b⟩
theorem also_ok {st : StL} (h : OkA st) (path b : List UInt8) : OkA (alsoL st path b).2 := h.does ⟨3, path, b, []⟩
theorem sym_ok {st : StL} (h : OkA st) (path b : List UInt8) : OkA (symL st path b).2 := h.does ⟨4, path, b, []⟩
theorem remove_ok {st : StL} (h : OkA st) (path : List UInt8) : OkA (removeL st path).2 := h.does ⟨5, path, [], []⟩

set_option maxHeartbeats 16000000 in
set_option maxRecDepth 100000 in
theorem law_keeps (m : Int) (w : World) (v bv : Value) (l : List ActL) (path bytes other : List UInt8) (hm : w.cell? ⟨0, 0, none⟩ = some (.int .i64 m)) (hv : Acts w v l) (hb : BytesV w bv bytes) :
    Calls Tryd.prog 5 #[v, .string ⟨path.toArray⟩, bv, .string ⟨other.toArray⟩] w fun e w' => e = .returned (.bool true) ∧ Below w.heap.size w w' := by
  have Hm := Lib.hid hm
  have HA := Lib.hid (awake_any m w hm)
  have HPl : Hid (∀ w', Below w.heap.size w w' → _) := Lib.hid (fun w' hb' => played_any m w' v l ((hb'.cell (p := ⟨0, 0, none⟩) (World.block_lt_of_cell? _ _ hm)).trans hm) (hv.below hb'))
  have Hbv : Hid (∀ w', Below w.heap.size w w' → BytesV w' bv bytes) := Lib.hid (fun w' h => hb.below h)
  obtain ⟨ba, bc, rfl⟩ := hb.form
  obtain ⟨n, hn⟩ : ∃ n, n = bytes.length := ⟨_, rfl⟩
  have hlen : l.length ≤ 4611686018427387000 := by obtain ⟨_, _, _, _, _, h, _⟩ := hv; exact h
  obtain ⟨va, vn, vc, rfl⟩ : ∃ va vn vc, v = .slice va vn vc := by obtain ⟨a, _, _, c, h, _⟩ := hv; exact ⟨a, _, c, h⟩
  have Hok := Lib.hid (play_ok l)
  have Hlt := Lib.hid (play_lt l hlen)
  have HN := Lib.hid hn
  rw [← hn] at Hbv ⊢
  clear hm hv hb hlen hn
  generalize playL StL.new l = st at *
  have HK : Hid ((putL st path bytes).1 = 0 → Keeps st path other bytes) := Lib.hid (keeps Hok.out)
  have Hok1 := Lib.hid (put_ok Hok.out path bytes)
  have Hok2 := Lib.hid (also_ok Hok1.out other path)
  have Hok3 := Lib.hid (remove_ok Hok2.out path)
  go_enter Tryd.func5, Tryd.ntmps5
  go_wp2_with fail
  refine HA.out.mono ?_
  rintro e w1 ⟨rfl, hb1⟩
  have HX := Lib.hid (HPl.out w1 hb1)
  have HB1 := Lib.hid hb1
  clear hb1
  go_wp2_with fail
  refine HX.out.mono ?_
  rintro e w2 ⟨s, b, rfl, hmd⟩
  have HM2 : Hid (Made w s b w2 st) := Lib.hid ⟨hmd.sm, HB1.out.trans (hmd.bel.mono HB1.out.size), Nat.le_trans HB1.out.size hmd.s0, Nat.le_trans HB1.out.size hmd.b0⟩
  have HC := Lib.hid (find_any m w2 s b st path (HM2.out.cell Hm.out) hmd.sm Hok.out.st)
  clear hmd HX HPl HA HB1
  have hold := Lib.hid (fun h => (HK.out h).old)
  generalize fileL st path = F0 at *
  obtain ⟨n0, e0⟩ := F0
  try simp only at HC
  go_wp2_with fail
  refine HC.out.mono ?_
  rintro e w3 ⟨rfl, hb3⟩
  have HM3 := Lib.hid (HM2.out.below hb3)
  have HC3 := Lib.hid (put_any m w3 s b st path bytes (.slice ba bytes.length bc) (HM3.out.cell Hm.out) HM3.out.sm Hok.out.st Hlt.out (by rw [← HN.out]; exact Hbv.out w3 HM3.out.bel))
  clear hb3 HC HM2
  rw [← HN.out] at HC3
  by_cases hr : (putL st path bytes).1 = 0
  case neg =>
    generalize putL st path bytes = P at *
    obtain ⟨r, st1⟩ := P
    try simp only at hr HC3
    have hrb : (r != 0) = true := by simp [hr]
    clear hr
    go_wp2_with fail
    refine HC3.out.mono ?_
    rintro e w4 ⟨rfl, hS, hT⟩
    have HM4 := Lib.hid (HM3.out.turn hT hS)
    clear hS hT
    go_wp2
    go_ret
    exact ⟨rfl, HM4.out.bel⟩
  have hK := HK.out hr
  have hf1 := hK.file
  have Hal := Lib.hid hK.also
  have Hold := Lib.hid (hold.out hr)
  try simp only at Hold
  obtain ⟨i1, hi1⟩ : ∃ i1, i1 = st.last + 1 := ⟨_, rfl⟩
  rw [← hi1] at hf1 Hal Hold
  have Hr := Lib.hid hr
  clear hK HK hold hi1 hr
  generalize putL st path bytes = P at *
  obtain ⟨r, st1⟩ := P
  try simp only at HC3 hf1 Hr Hal Hok1 Hok2 Hok3
  have hr : r = 0 := Hr.out
  subst hr
  go_wp2_with fail
  refine HC3.out.mono ?_
  rintro e w4 ⟨rfl, hS, hT⟩
  have HM4 := Lib.hid (HM3.out.turn hT hS)
  have hR4 := read_any m w4 s b st1 path (HM4.out.cell Hm.out) HM4.out.sm Hok1.out.st
  rw [read_of_file hf1] at hR4
  have HR4 := Lib.hid hR4
  have Hf1 := Lib.hid hf1
  clear hS hT hR4 hf1 HC3 HM3
  go_wp2_with fail
  refine HR4.out.mono ?_
  rintro e w5 ⟨x5, rfl, hx5, hb5⟩
  have HM5 := Lib.hid (HM4.out.below hb5)
  have hF5 := find_any m w5 s b st1 path (HM5.out.cell Hm.out) HM5.out.sm Hok1.out.st
  rw [Hf1.out] at hF5
  have HF5 := Lib.hid hF5
  have Hx5 := Lib.hid hx5
  obtain ⟨a5, c5, rfl⟩ := hx5.form
  clear hb5 hF5 hx5 HR4 HM4
  go_wp2_with fail
  refine HF5.out.mono ?_
  rintro e w6 ⟨rfl, hb6⟩
  have HM6 := Lib.hid (HM5.out.below hb6)
  have hc1 := (Hx5.out.below hb6).conv
  have hc2 := (Hbv.out w6 HM6.out.bel).conv
  try simp only at hc1
  have HA6 := Lib.hid (also_any m w6 s b st1 other path (HM6.out.cell Hm.out) HM6.out.sm Hok1.out)
  clear hb6 HF5 HM5 Hf1
  have hbb2 : (bytes != bytes) = false := by simp
  have hbb3 : (bytes == bytes) = true := by simp
  have he0 : (e0 == 0) = false ∨ ((e0 == 0) = true ∧ ¬ (i1 ≤ n0.id)) := by
    by_cases h : e0 = 0
    · right; exact ⟨by simp [h], by have := Hold.out h; omega⟩
    · left; simp [h]
  generalize n0.id = i0 at *
  go_upto_region 10 with fail
  go_cut [75] from 54 to 76 (fun v75 wx => v75 = .bool false ∧ w6 = wx)
  case first =>
    rcases he0 with h0 | ⟨h0, h1⟩
    · go_wp2
      go_meet
      exact ⟨rfl, rfl⟩
    · go_wp2
      go_meet
      exact ⟨by rw [decide_eq_false (show ¬ i1 ≤ i0 by omega)], rfl⟩
  case rest =>
  obtain ⟨rfl, hwx⟩ := hcut
  obtain rfl := hwx
  clear hc1 hc2 he0
  by_cases hr : (alsoL st1 other path).1 = 0
  case neg =>
    generalize alsoL st1 other path = P at *
    obtain ⟨r, st2⟩ := P
    try simp only at hr HA6
    have hrb : (r != 0) = true := by simp [hr]
    clear hr
    go_wp2_with fail
    refine HA6.out.mono ?_
    rintro e w7 ⟨rfl, hS, hG⟩
    have HM7 := Lib.hid (HM6.out.turn (Turn2.of_grown hG) hS)
    clear hS hG
    go_wp2
    go_ret
    exact ⟨rfl, HM7.out.bel⟩
  obtain ⟨hf2, hrm, hf3⟩ := Hal.out hr
  have Hr := Lib.hid hr
  clear Hal hr
  generalize alsoL st1 other path = P at *
  obtain ⟨r, st2⟩ := P
  try simp only at HA6 hf2 hrm hf3 Hr Hok2 Hok3
  have hr : r = 0 := Hr.out
  subst hr
  have Hf2 := Lib.hid hf2
  have Hf3 := Lib.hid hf3
  have Hrm := Lib.hid hrm
  clear hf2 hf3 hrm
  go_wp2_with fail
  refine HA6.out.mono ?_
  rintro e w7 ⟨rfl, hS, hG⟩
  have HM7 := Lib.hid (HM6.out.turn (Turn2.of_grown hG) hS)
  have hR7 := read_any m w7 s b st2 other (HM7.out.cell Hm.out) HM7.out.sm Hok2.out.st
  rw [read_of_file Hf2.out] at hR7
  have HR7 := Lib.hid hR7
  clear hS hG hR7 HA6 HM6
  go_wp2_with fail
  refine HR7.out.mono ?_
  rintro e w8 ⟨x8, rfl, hx8, hb8⟩
  have HM8 := Lib.hid (HM7.out.below hb8)
  have hF8 := find_any m w8 s b st2 other (HM8.out.cell Hm.out) HM8.out.sm Hok2.out.st
  rw [Hf2.out] at hF8
  have HF8 := Lib.hid hF8
  have Hx8 := Lib.hid hx8
  obtain ⟨a8, c8, rfl⟩ := hx8.form
  clear hb8 hF8 hx8 HR7 HM7
  try simp only at Hx8 HF8
  go_wp2_with fail
  refine HF8.out.mono ?_
  rintro e w9 ⟨rfl, hb9⟩
  have HM9 := Lib.hid (HM8.out.below hb9)
  have hc1 := (Hx8.out.below hb9).conv
  have hc2 := (Hbv.out w9 HM9.out.bel).conv
  have hii : (i1 != i1) = false := by simp
  have hii2 : (i1 == i1) = true := by simp
  have hRm := remove_any m w9 s b st2 path (HM9.out.cell Hm.out) HM9.out.sm Hok2.out
  rw [Hrm.out] at hRm
  have HRm := Lib.hid hRm
  clear hb9 HF8 HM8 hRm
  go_wp2_with fail
  refine HRm.out.mono ?_
  rintro e w10 ⟨rfl, hS, hG⟩
  have HM10 := Lib.hid (HM9.out.turn (Turn2.of_grown hG) hS)
  have hR10 := read_any m w10 s b _ other (HM10.out.cell Hm.out) HM10.out.sm Hok3.out.st
  rw [read_of_file Hf3.out] at hR10
  have HR10 := Lib.hid hR10
  clear hS hG hR10 HRm HM9 hc1 hc2
  go_wp2_with fail
  refine HR10.out.mono ?_
  rintro e w11 ⟨x11, rfl, hx11, hb11⟩
  have HM11 := Lib.hid (HM10.out.below hb11)
  have hF11 := find_any m w11 s b _ other (HM11.out.cell Hm.out) HM11.out.sm Hok3.out.st
  rw [Hf3.out] at hF11
  have HF11 := Lib.hid hF11
  have Hx11 := Lib.hid hx11
  obtain ⟨a11, c11, rfl⟩ := hx11.form
  clear hb11 hF11 hx11 HR10 HM10
  try simp only at Hx11 HF11
  go_wp2_with fail
  refine HF11.out.mono ?_
  rintro e w12 ⟨rfl, hb12⟩
  have HM12 := Lib.hid (HM11.out.below hb12)
  have hc1 := (Hx11.out.below hb12).conv
  have hc2 := (Hbv.out w12 HM12.out.bel).conv
  clear hb12 HF11 HM11
  go_wp2
  go_ret
  exact ⟨rfl, HM12.out.bel⟩

end Go.Proofs.YtgoecmfjidcieaaDoor
