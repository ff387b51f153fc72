/- Lemmas that the claim is proved from: what calls of functions of the program come to (contracts), and plain laws. Each lemma bears its own conditions. -/
import Derived.Test.YtjnahiomnaedeaaGW12
import Derived.Test.YtjnahiomnaedeaaGW5
namespace Go.Proofs.Ytjnahiomnaedeaa
set_option linter.unusedVariables false
set_option linter.unusedSimpArgs false
open Go.RowKit

/-- w' is w after some draws -/
def Al (w w' : World) : Prop := ∃ m, w' = w.drewN m
theorem Al.refl (w : World) : Al w w := ⟨0, rfl⟩
theorem Al.drewN {w w' : World} (h : Al w w') (n : Nat) : Al w (w'.drewN n) := by obtain ⟨m, rfl⟩ := h; exact ⟨m + n, World.drewN_drewN _ _ _⟩
theorem Al.heap {w w' : World} (h : Al w w') : w'.heap = w.heap := by obtain ⟨m, rfl⟩ := h; rfl
theorem Al.cell {w w' : World} (h : Al w w') {a : Addr} {v : Value} (hc : w.cell? a = some v) : w'.cell? a = some v := by obtain ⟨m, rfl⟩ := h; exact hc
theorem Al.ints {w w' : World} (h : Al w w') {v : Value} {xs : List Int} (hc : Ints w v xs) : Ints w' v xs := by obtain ⟨m, rfl⟩ := h; exact hc
theorem Al.below {B : Nat} {w0 w w' : World} (h : Al w w') (hb : Below B w0 w) : Below B w0 w' := by obtain ⟨m, rfl⟩ := h; exact below_drewN hb m
/-- a callee that only reads, inside a region that draws -/
theorem quiet_has {w : World} {v : Value} {xs : List Int} (h : Ints w v xs) (n : Int) (m : Nat) :
    Calls Try.prog 17 #[v, .int .i64 n] (w.drewN m) fun e w'' => e = .returned (.bool (decide (n ∈ xs))) ∧ ∃ m', w'' = w.drewN m' :=
  (has_any (w.drewN m) v xs n h).mono fun _ _ ⟨h1, h2⟩ => ⟨h1, m, h2.symm⟩

theorem few_le' {g : List (List Int)} (h : fewB g = true) : edgesN g ≤ 5000 := by simp [fewB] at h; omega

set_option maxHeartbeats 2000000 in
theorem goes_head (w : World) (ev u : Value) (g : List (List Int)) (roots : List Int) (he : IntRows w ev g) (hu : Ints w u roots) (h : fewB g = false ∨ (fewB g = true ∧ 3000 < roots.length)) :
    Calls Try.prog 7 #[ev, u] w fun e w' => e = .returned (.bool true) ∧ Below w.heap.size w w' := by
  obtain ⟨a, b, off, cap, rfl, hum, ha, hc⟩ := hu
  have He := Lib.hid he
  clear he hc ha
  rcases h with hf | ⟨hf, hl⟩
  all_goals
    go_enter Try.func7, Try.ntmps7
    go_wp2_with (first
      | (go_at_call 9; refine (awake_any _).mono ?_; rintro e w1 ⟨rfl, hb1⟩; have Hb1 := Lib.hid hb1; clear hb1)
      | (go_at_call 10; refine (few_any _ _ g (He.out.below Hb1.out)).mono ?_; rintro e w' ⟨rfl, rfl⟩))
    go_ret
    exact ⟨rfl, Hb1.out⟩

set_option maxHeartbeats 2000000 in
theorem goes_no (w : World) (ev u : Value) (g : List (List Int)) (roots : List Int) (he : IntRows w ev g) (hu : Ints w u roots) (hf : fewB g = true) (hl : ¬ 3000 < roots.length) (hm : mayB g roots = false) :
    Calls Try.prog 7 #[ev, u] w fun e w' => e = .returned (.bool true) ∧ Below w.heap.size w w' := by
  have Hu := Lib.hid hu
  obtain ⟨a, b, off, cap, rfl, hum, ha, hc⟩ := hu
  have He := Lib.hid he
  have Hm := Lib.hid hm
  rw [mayB] at hm
  clear he hc ha
  cases hr : rightB g
  · clear hm
    have hq : (rightE g == 0) = false := by rw [rightE_no hr]; rfl
    go_enter Try.func7, Try.ntmps7
    go_wp2_with (first
      | (go_at_call 9; refine (awake_any _).mono ?_; rintro e w1 ⟨rfl, hb1⟩; have Hb1 := Lib.hid hb1; clear hb1)
      | (go_at_call 10; refine (few_any _ _ g (He.out.below Hb1.out)).mono ?_; rintro e w' ⟨rfl, rfl⟩)
      | (go_at_call 16; refine (breadth_no _ _ _ g roots (He.out.below Hb1.out) (Hu.out.below Hb1.out) Hm.out).mono ?_; rintro e w2 ⟨rfl, rfl⟩)
      | (go_at_call 18; refine (reach_no _ _ _ g roots (He.out.below Hb1.out) (Hu.out.below Hb1.out) Hm.out).mono ?_; rintro e w2 ⟨rfl, rfl⟩)
      | (go_at_call 19; refine (gright_any _ _ g (He.out.below Hb1.out)).mono ?_; rintro e w' ⟨rfl, rfl⟩)
      | (go_at_call 12; refine (rright_any _ _ g (He.out.below Hb1.out)).mono ?_; rintro e w' ⟨rfl, rfl⟩))
    go_ret
    exact ⟨rfl, Hb1.out⟩
  · have hd : nodesB g.length roots = false := by rw [hr] at hm; simpa using hm
    have hq : (rightE g == 0) = true := by rw [rightE_yes hr]; rfl
    clear hm
    go_enter Try.func7, Try.ntmps7
    go_wp2_with (first
      | (go_at_call 9; refine (awake_any _).mono ?_; rintro e w1 ⟨rfl, hb1⟩; have Hb1 := Lib.hid hb1; clear hb1)
      | (go_at_call 10; refine (few_any _ _ g (He.out.below Hb1.out)).mono ?_; rintro e w' ⟨rfl, rfl⟩)
      | (go_at_call 16; refine (breadth_no _ _ _ g roots (He.out.below Hb1.out) (Hu.out.below Hb1.out) Hm.out).mono ?_; rintro e w2 ⟨rfl, rfl⟩)
      | (go_at_call 18; refine (reach_no _ _ _ g roots (He.out.below Hb1.out) (Hu.out.below Hb1.out) Hm.out).mono ?_; rintro e w2 ⟨rfl, rfl⟩)
      | (go_at_call 19; refine (gright_any _ _ g (He.out.below Hb1.out)).mono ?_; rintro e w' ⟨rfl, rfl⟩)
      | (go_at_call 12; refine (rright_any _ _ g (He.out.below Hb1.out)).mono ?_; rintro e w' ⟨rfl, rfl⟩)
      | (go_at_call 13; refine (nodes_any _ _ _ g roots (He.out.below Hb1.out) (Hu.out.below Hb1.out)).mono ?_; rintro e w' ⟨rfl, rfl⟩))
    go_ret
    exact ⟨rfl, Hb1.out⟩

set_option maxHeartbeats 2000000 in
theorem goes_yes (w : World) (ev u : Value) (g : List (List Int)) (roots : List Int) (he : IntRows w ev g) (hu : Ints w u roots) (hf : fewB g = true) (hl : ¬ 3000 < roots.length) (hm : mayB g roots = true) :
    Calls Try.prog 7 #[ev, u] w fun e w' => e = .returned (.bool true) ∧ Below w.heap.size w w' := by
  have hfe := few_le' hf
  have Hu := Lib.hid hu
  obtain ⟨a, b, off, cap, rfl, hum, ha, hc⟩ := hu
  have Hev := Lib.hid he
  obtain ⟨ea, eb, eoff, ecap, rfl, hem, -, -⟩ := he
  have Hm := Lib.hid hm
  rw [mayB, Bool.and_eq_true] at hm
  obtain ⟨hd, hr⟩ := hm
  have Hg := Lib.hid (rightB_iff.1 hr)
  have Hd := Lib.hid hd
  have hgl := Hg.out.size
  have hq : (rightE g == 0) = true := by rw [rightE_yes hr]; rfl
  clear hc ha
  go_enter Try.func7, Try.ntmps7
  go_wp2_with (first
    | (go_at_call 9; refine (awake_any _).mono ?_; rintro e w1 ⟨rfl, hb1⟩; have Hb1 := Lib.hid hb1; clear hb1)
    | (go_at_call 10; refine (few_any _ _ g (Hev.out.below Hb1.out)).mono ?_; rintro e w' ⟨rfl, rfl⟩))
  refine (breadth_yes _ _ _ g roots (Hev.out.below Hb1.out) (Hu.out.below Hb1.out) Hm.out (by omega) hfe).mono ?_
  rintro e w2 ⟨r2, rfl, hown2, hb2⟩
  have Hown2 := Lib.hid hown2.ints
  have Hb2 := Lib.hid (Hb1.out.trans (hb2.mono Hb1.out.size))
  clear hown2 hb2
  go_wp2_with fail
  refine (reach_yes _ _ _ g roots (Hev.out.below Hb2.out) (Hu.out.below Hb2.out) Hm.out (by omega) hfe).mono ?_
  rintro e w3 ⟨r3, rfl, hown3, hb3⟩
  obtain ⟨q, rfl, hq1, hrow⟩ := hown3
  have Hown23 := Lib.hid (Hown2.out.below hb3)
  have Hb3 := Lib.hid (Hb2.out.trans (hb3.mono Hb2.out.size))
  have Hrow := Lib.hid hrow
  have hqs := hrow.lt
  clear hb3 hrow
  go_wp2_with (first
    | (go_at_call 19; refine (gright_any _ _ g (Hev.out.below Hb3.out)).mono ?_; rintro e w' ⟨rfl, rfl⟩)
    | (go_at_call 12; refine (rright_any _ _ g (Hev.out.below Hb3.out)).mono ?_; rintro e w' ⟨rfl, rfl⟩)
    | (go_at_call 13; refine (nodes_any _ _ _ g roots (Hev.out.below Hb3.out) (Hu.out.below Hb3.out)).mono ?_; rintro e w' ⟨rfl, rfl⟩)
    | (go_at_call 20; refine (rbreadth_any _ _ _ g roots (Hev.out.below Hb3.out) (Hu.out.below Hb3.out) Hg.out Hd.out (by omega) hfe).mono ?_; rintro e w4 ⟨r4, rfl, hown4, hb4⟩; have Hown4 := Lib.hid hown4.ints; have Hown24 := Lib.hid (Hown23.out.below hb4); have Hb4 := Lib.hid (Hb3.out.trans (hb4.mono Hb3.out.size)); have Hrow4 := Lib.hid (Hrow.out.of_block (hb4.block q hqs)); clear hown4 hb4)
    | (go_at_call 14; refine (same_yes _ _ _ _ _ Hown24.out Hown4.out rfl).mono ?_; rintro e w5 ⟨rfl, m, rfl⟩))
  have Hm : Hid (Al w4 (w4.drewN m)) := ⟨m, rfl⟩
  generalize w4.drewN m = w5 at *
  go_loopw [11] (fun i wr => ∃ k : Nat, k ≤ g.length ∧ i = .int .i64 k ∧ Al w4 wr) (fun i _ => g.length - (intOf i).toNat)
  case atStart => exact ⟨0, Nat.zero_le _, rfl, Hm.out⟩
  case round =>
    obtain ⟨k, hk, rfl, hal⟩ := hrel
    have Hal := Lib.hid hal
    clear hal
    by_cases hlt : k < g.length
    · have gc := Hal.out.cell (Hrow4.out.cell hlt)
      have Hh := Lib.hid (Hal.out.ints Hown4.out)
      go_wp2_with fail
      go_quiet ((go_at_call 17; exact quiet_has Hh.out _ _))
      go_wp2
      go_roundw
      case rel => exact ⟨k + 1, by omega, by go_num, Hal.out.drewN _⟩
      case measure => simp [intOf]; omega
    · go_wp2
      go_ret
      exact ⟨rfl, Hal.out.below Hb4.out⟩

theorem goes_any (w : World) (ev u : Value) (g : List (List Int)) (roots : List Int) (he : IntRows w ev g) (hu : Ints w u roots) (hnil : NilOk u) :
    Calls Try.prog 7 #[ev, u] w fun e w' => e = .returned (.bool true) ∧ Below w.heap.size w w' := by
  cases hf : fewB g
  · exact goes_head w ev u g roots he hu (Or.inl hf)
  · by_cases hl : 3000 < roots.length
    · exact goes_head w ev u g roots he hu (Or.inr ⟨hf, hl⟩)
    · cases hm : mayB g roots
      · exact goes_no w ev u g roots he hu hf hl hm
      · exact goes_yes w ev u g roots he hu hf hl hm

end Go.Proofs.Ytjnahiomnaedeaa
