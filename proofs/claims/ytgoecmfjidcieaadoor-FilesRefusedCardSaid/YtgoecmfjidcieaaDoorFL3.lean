/- the law FilesLinks, walked -/
import Derived.Test.YtgoecmfjidcieaaDoorFL2
namespace Go.Proofs.YtgoecmfjidcieaaDoor
set_option linter.unusedVariables false
set_option linter.unusedSimpArgs false
open Go.RowKit

theorem file_of_real {st : StL} {p q : List UInt8} (h : realL st p = realL st q) : fileL st p = fileL st q := by unfold fileL; rw [h]
theorem realL_bad {st : StL} {p : List UInt8} (h : (realL st p).2 ≠ 0) : (realL st p).1 = [] := by
  unfold realL at h ⊢
  cases ha : absL p with
  | none => rfl
  | some l =>
    rw [ha] at h
    simp only at h ⊢
    split at h
    · exact absurd rfl h
    · rename_i h1; rw [if_neg h1]

set_option maxHeartbeats 16000000 in
set_option maxRecDepth 100000 in
theorem law_links (m : Int) (w : World) (v : Value) (l : List ActL) (to_ : List UInt8) (hm : w.cell? ⟨0, 0, none⟩ = some (.int .i64 m)) (hv : Acts w v l) (htl : ByteArray.size ⟨to_.toArray⟩ ≤ maxLen) :
    Calls Tryd.prog 6 #[v, .string ⟨to_.toArray⟩] w fun e w' => e = .returned (.bool true) ∧ Below w.heap.size w w' := by
  have Hm := Lib.hid hm
  have HA := Lib.hid (awake_any m w hm)
  have HPl : Hid (∀ w', Below w.heap.size w w' → _) := Lib.hid (fun w' hb' => played_any m w' v l ((hb'.cell (p := ⟨0, 0, none⟩) (World.block_lt_of_cell? _ _ hm)).trans hm) (hv.below hb'))
  obtain ⟨va, vn, vc, rfl⟩ : ∃ va vn vc, v = .slice va vn vc := by obtain ⟨a, _, _, c, h, _⟩ := hv; exact ⟨a, _, c, h⟩
  have Hok := Lib.hid (play_ok l)
  have hsz := size_mk' to_
  rw [hsz] at htl
  clear hm hv
  generalize playL StL.new l = st at *
  have HK : Hid (to_.head? = some 47 → (symL st oneLink to_).1 = 0 → Links st to_) := Lib.hid (fun h1 h2 => links h1 h2)
  have Hok1 := Lib.hid (sym_ok Hok.out oneLink to_)
  unfold maxLen at htl
  have hcase : to_ = [] ∨ ∃ c tl, to_ = c :: tl := by
    cases to_ with
    | nil => exact Or.inl rfl
    | cons c tl => exact Or.inr ⟨c, tl, rfl⟩
  rcases hcase with rfl | ⟨c, tl, rfl⟩
  · go_enter Tryd.func6, Tryd.ntmps6
    go_wp2_with fail
    refine HA.out.mono ?_
    rintro e w1 ⟨rfl, hb1⟩
    have HX := Lib.hid (HPl.out w1 hb1)
    have HB1 := Lib.hid hb1
    clear hb1
    go_wp2_with fail
    refine HX.out.mono ?_
    rintro e w2 ⟨s, b, rfl, hmd⟩
    have HM2 : Hid (Made w s b w2 st) := Lib.hid ⟨hmd.sm, HB1.out.trans (hmd.bel.mono HB1.out.size), Nat.le_trans HB1.out.size hmd.s0, Nat.le_trans HB1.out.size hmd.b0⟩
    clear hmd HX HPl HA HB1
    go_wp2
    go_ret
    exact ⟨rfl, HM2.out.bel⟩
  have hxl : (c :: tl).length = tl.length + 1 := rfl
  have hx : (⟨(c :: tl).toArray⟩ : ByteArray)[0]'(by simp [ByteArray.size]) = c := rfl
  have hl0 : ((((c :: tl).length : Nat) : Int) == 0) = false := by simp; omega
  by_cases hc : c = 47
  case neg =>
    have hcb : ((c.toNat : Int) != 47) = true := by
      have : c.toNat ≠ 47 := fun e => hc (UInt8.toNat_inj.1 e)
      simp; omega
    clear hc
    go_enter Tryd.func6, Tryd.ntmps6
    go_wp2_with fail
    refine HA.out.mono ?_
    rintro e w1 ⟨rfl, hb1⟩
    have HX := Lib.hid (HPl.out w1 hb1)
    have HB1 := Lib.hid hb1
    clear hb1
    go_wp2_with fail
    refine HX.out.mono ?_
    rintro e w2 ⟨s, b, rfl, hmd⟩
    have HM2 : Hid (Made w s b w2 st) := Lib.hid ⟨hmd.sm, HB1.out.trans (hmd.bel.mono HB1.out.size), Nat.le_trans HB1.out.size hmd.s0, Nat.le_trans HB1.out.size hmd.b0⟩
    clear hmd HX HPl HA HB1
    go_wp2
    go_ret
    exact ⟨rfl, HM2.out.bel⟩
  have hcb : ((c.toNat : Int) != 47) = false := by subst hc; decide
  have HK2 : Hid ((symL st oneLink (c :: tl)).1 = 0 → Links st (c :: tl)) := Lib.hid (HK.out (by rw [hc]; rfl))
  clear hc HK
  obtain ⟨t, ht⟩ : ∃ t, t = c :: tl := ⟨_, rfl⟩
  have HSm : Hid (∀ (w' : World) s b, Made w s b w' st → Calls Tryd.prog 19 #[.pointer (some ⟨s, 0, none⟩), .string ⟨#[47, 111, 110, 101, 46, 108, 105, 110, 107]⟩, .string ⟨(c :: tl).toArray⟩] w' fun e w'' => e = .returned (.int .i64 (symL st oneLink t).1) ∧ SM s b w'' (symL st oneLink t).2 ∧ w'.grownBy w'' (some b)) :=
    Lib.hid (fun w' s b h => by rw [ht]; exact sym_any m w' s b st oneLink (c :: tl) (h.cell Hm.out) h.sm Hok.out.st)
  rw [← ht] at HK2
  by_cases hr : (symL st oneLink t).1 = 0
  case neg =>
    generalize symL st oneLink t = P at *
    obtain ⟨r, st1⟩ := P
    try simp only at hr HSm
    have hrb : (r != 0) = true := by simp [hr]
    clear hr
    go_enter Tryd.func6, Tryd.ntmps6
    go_wp2_with fail
    refine HA.out.mono ?_
    rintro e w1 ⟨rfl, hb1⟩
    have HX := Lib.hid (HPl.out w1 hb1)
    have HB1 := Lib.hid hb1
    clear hb1
    go_wp2_with fail
    refine HX.out.mono ?_
    rintro e w2 ⟨s, b, rfl, hmd⟩
    have HM2 : Hid (Made w s b w2 st) := Lib.hid ⟨hmd.sm, HB1.out.trans (hmd.bel.mono HB1.out.size), Nat.le_trans HB1.out.size hmd.s0, Nat.le_trans HB1.out.size hmd.b0⟩
    have HS2 := Lib.hid (HSm.out w2 s b HM2.out)
    clear hmd HX HPl HA HB1
    go_wp2_with fail
    refine HS2.out.mono ?_
    rintro e w3 ⟨rfl, hS, hG⟩
    have HM3 := Lib.hid (HM2.out.turn (Turn2.of_grown hG) hS)
    clear hS hG
    go_wp2
    go_ret
    exact ⟨rfl, HM3.out.bel⟩
  have hL := HK2.out hr
  have Hr := Lib.hid hr
  clear HK2 hr
  have Hbad := Lib.hid hL.bad
  have Hsame := Lib.hid hL.same
  have Hkind := Lib.hid hL.kind
  clear hL
  rw [← ht] at Hok1
  generalize symL st oneLink t = P at *
  obtain ⟨r, st1⟩ := P
  try simp only at HSm Hbad Hsame Hkind Hok1 Hr
  have hr : r = 0 := Hr.out
  subst hr
  have HR1 : Hid (∀ (w' : World) s b, Made w s b w' st1 → Calls Tryd.prog 20 #[.pointer (some ⟨s, 0, none⟩), .string ⟨(c :: tl).toArray⟩] w' fun e w'' => e = .returned (.tuple #[.string ⟨(realL st1 t).1.toArray⟩, .int .i64 (realL st1 t).2]) ∧ Below w'.heap.size w' w'') :=
    Lib.hid (fun w' s b h => by rw [ht]; exact real_any m w' s b st1 (c :: tl) (h.cell Hm.out) h.sm Hok1.out.st)
  have HR2 : Hid (∀ (w' : World) s b, Made w s b w' st1 → Calls Tryd.prog 20 #[.pointer (some ⟨s, 0, none⟩), .string ⟨#[47, 111, 110, 101, 46, 108, 105, 110, 107]⟩] w' fun e w'' => e = .returned (.tuple #[.string ⟨(realL st1 oneLink).1.toArray⟩, .int .i64 (realL st1 oneLink).2]) ∧ Below w'.heap.size w' w'') :=
    Lib.hid (fun w' s b h => real_any m w' s b st1 oneLink (h.cell Hm.out) h.sm Hok1.out.st)
  have HF1 : Hid (∀ (w' : World) s b, Made w s b w' st1 → Calls Tryd.prog 14 #[.pointer (some ⟨s, 0, none⟩), .string ⟨(c :: tl).toArray⟩] w' fun e w'' => e = .returned (.tuple #[.int .i64 (fileL st1 t).1.id, .int .i64 (fileL st1 t).2]) ∧ Below w'.heap.size w' w'') :=
    Lib.hid (fun w' s b h => by rw [ht]; exact find_any m w' s b st1 (c :: tl) (h.cell Hm.out) h.sm Hok1.out.st)
  have HF2 : Hid (∀ (w' : World) s b, Made w s b w' st1 → Calls Tryd.prog 14 #[.pointer (some ⟨s, 0, none⟩), .string ⟨#[47, 111, 110, 101, 46, 108, 105, 110, 107]⟩] w' fun e w'' => e = .returned (.tuple #[.int .i64 (fileL st1 oneLink).1.id, .int .i64 (fileL st1 oneLink).2]) ∧ Below w'.heap.size w' w'') :=
    Lib.hid (fun w' s b h => find_any m w' s b st1 oneLink (h.cell Hm.out) h.sm Hok1.out.st)
  have HKd : Hid (∀ (w' : World) s b, Made w s b w' st1 → Calls Tryd.prog 21 #[.pointer (some ⟨s, 0, none⟩), .string ⟨#[47, 111, 110, 101, 46, 108, 105, 110, 107]⟩] w' fun e w'' => e = .returned (.int .i64 3) ∧ Below w'.heap.size w' w'') :=
    Lib.hid (fun w' s b h => by have := kind_any m w' s b st1 oneLink (h.cell Hm.out) h.sm Hok1.out; rw [Hkind.out] at this; exact this)
  -- what is told of the two paths
  have hways : ((realL st1 t).2 ≠ 0 ∧ (realL st1 oneLink).2 ≠ 0 ∧ (realL st1 oneLink).1 = []) ∨ ((realL st1 t).2 = 0 ∧ (realL st1 oneLink).2 = 0 ∧ (realL st1 oneLink).1 = (realL st1 t).1 ∧ fileL st1 oneLink = fileL st1 t) ∨ ((realL st1 t).2 = 0 ∧ (realL st1 oneLink).2 = 35) := by
    by_cases h : (realL st1 t).2 = 0
    · rcases Hsame.out h with h1 | h1
      · exact Or.inr (Or.inl ⟨h, by rw [h1]; exact h, by rw [h1], file_of_real h1⟩)
      · exact Or.inr (Or.inr ⟨h, h1⟩)
    · obtain ⟨h1, h2⟩ := Hbad.out h
      exact Or.inl ⟨h, h1, h2⟩
  clear Hbad Hsame Hkind Hr ht
  generalize realL st1 t = A1 at *
  generalize realL st1 oneLink = A2 at *
  generalize fileL st1 t = F1 at *
  generalize fileL st1 oneLink = F2 at *
  obtain ⟨p1, e1⟩ := A1
  obtain ⟨p2, e2⟩ := A2
  obtain ⟨n1, f1⟩ := F1
  obtain ⟨n2, f2⟩ := F2
  simp only at hways HR1 HR2 HF1 HF2
  go_enter Tryd.func6, Tryd.ntmps6
  go_wp2_with fail
  refine HA.out.mono ?_
  rintro e w1 ⟨rfl, hb1⟩
  have HX := Lib.hid (HPl.out w1 hb1)
  have HB1 := Lib.hid hb1
  clear hb1
  go_wp2_with fail
  refine HX.out.mono ?_
  rintro e w2 ⟨s, b, rfl, hmd⟩
  have HM2 : Hid (Made w s b w2 st) := Lib.hid ⟨hmd.sm, HB1.out.trans (hmd.bel.mono HB1.out.size), Nat.le_trans HB1.out.size hmd.s0, Nat.le_trans HB1.out.size hmd.b0⟩
  have HS2 := Lib.hid (HSm.out w2 s b HM2.out)
  clear hmd HX HPl HA HB1 HSm
  go_wp2_with fail
  refine HS2.out.mono ?_
  rintro e w3 ⟨rfl, hS, hG⟩
  have HM3 := Lib.hid (HM2.out.turn (Turn2.of_grown hG) hS)
  have HC3 := Lib.hid (HR1.out w3 s b HM3.out)
  clear hS hG HM2 HS2
  go_wp2_with fail
  refine HC3.out.mono ?_
  rintro e w4 ⟨rfl, hb4⟩
  have HM4 := Lib.hid (HM3.out.below hb4)
  have HC4 := Lib.hid (HR2.out w4 s b HM4.out)
  clear hb4 HM3 HC3
  rcases hways with ⟨h1, h2, h3⟩ | ⟨h1, h2, h3, h4⟩ | ⟨h1, h2⟩
  · have h1b : (e1 != 0) = true := by simp [h1]
    have h2b : (e2 != 0) = true := by simp [h2]
    subst h3
    clear h1 h2
    go_wp2_with fail
    refine HC4.out.mono ?_
    rintro e w5 ⟨rfl, hb5⟩
    have HM5 := Lib.hid (HM4.out.below hb5)
    clear hb5
    go_wp2
    go_ret
    exact ⟨rfl, HM5.out.bel⟩
  · subst h1
    subst h2
    subst h3
    obtain ⟨hn12, hf12⟩ := Prod.mk.inj h4
    subst hn12
    subst hf12
    have hpp : (p2 == p2) = true := by simp
    generalize n2.id = i2 at *
    have hii : (i2 == i2) = true := by simp
    have hff : (f2 == f2) = true := by simp
    clear h4
    go_wp2_with fail
    refine HC4.out.mono ?_
    rintro e w5 ⟨rfl, hb5⟩
    have HM5 := Lib.hid (HM4.out.below hb5)
    have HC5 := Lib.hid (HF1.out w5 s b HM5.out)
    clear hb5 HM4 HC4
    go_wp2_with fail
    refine HC5.out.mono ?_
    rintro e w6 ⟨rfl, hb6⟩
    have HM6 := Lib.hid (HM5.out.below hb6)
    have HC6 := Lib.hid (HF2.out w6 s b HM6.out)
    clear hb6 HM5 HC5
    go_wp2_with fail
    refine HC6.out.mono ?_
    rintro e w7 ⟨rfl, hb7⟩
    have HM7 := Lib.hid (HM6.out.below hb7)
    have HC7 := Lib.hid (HKd.out w7 s b HM7.out)
    clear hb7 HM6 HC6
    go_wp2_with fail
    refine HC7.out.mono ?_
    rintro e w8 ⟨rfl, hb8⟩
    have HM8 := Lib.hid (HM7.out.below hb8)
    clear hb8
    go_wp2
    go_ret
    exact ⟨rfl, HM8.out.bel⟩
  · subst h1
    subst h2
    generalize n2.id = i2 at *
    generalize n1.id = i1 at *
    go_wp2_with fail
    refine HC4.out.mono ?_
    rintro e w5 ⟨rfl, hb5⟩
    have HM5 := Lib.hid (HM4.out.below hb5)
    have HC5 := Lib.hid (HF1.out w5 s b HM5.out)
    clear hb5 HM4 HC4
    go_wp2_with fail
    refine HC5.out.mono ?_
    rintro e w6 ⟨rfl, hb6⟩
    have HM6 := Lib.hid (HM5.out.below hb6)
    have HC6 := Lib.hid (HF2.out w6 s b HM6.out)
    clear hb6 HM5 HC5
    go_wp2_with fail
    refine HC6.out.mono ?_
    rintro e w7 ⟨rfl, hb7⟩
    have HM7 := Lib.hid (HM6.out.below hb7)
    have HC7 := Lib.hid (HKd.out w7 s b HM7.out)
    clear hb7 HM6 HC6
    go_wp2_with fail
    refine HC7.out.mono ?_
    rintro e w8 ⟨rfl, hb8⟩
    have HM8 := Lib.hid (HM7.out.below hb8)
    clear hb8
    go_wp2
    go_ret
    exact ⟨rfl, HM8.out.bel⟩

end Go.Proofs.YtgoecmfjidcieaaDoor
