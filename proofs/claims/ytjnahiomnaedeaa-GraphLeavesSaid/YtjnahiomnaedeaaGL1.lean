/- Lemmas that the claim is proved from: what calls of functions of the program come to (contracts), and plain laws. Each lemma bears its own conditions. -/
import Derived.Test.YtjnahiomnaedeaaGW12
import Derived.Test.YtjnahiomnaedeaaGW7
import Derived.Test.YtjnahiomnaedeaaGW5
namespace Go.Proofs.Ytjnahiomnaedeaa
set_option linter.unusedVariables false
set_option linter.unusedSimpArgs false
open Go.RowKit

theorem mayB_cons (g : List (List Int)) (root : Int) (done : List Int) : mayB g (root :: done) = (nodesB g.length [root] && (nodesB g.length done && rightB g)) := by
  simp [mayB, nodesB, Bool.and_assoc]

theorem few_le {g : List (List Int)} (h : fewB g = true) : edgesN g ≤ 5000 := by simp [fewB] at h; omega

theorem len_zero_int (n : Nat) (h : n = 0) : ((n : Int) == 0) = true := by subst h; rfl

set_option maxHeartbeats 1000000 in
theorem leaves_head (w : World) (ev u : Value) (g : List (List Int)) (root : Int) (done : List Int) (he : IntRows w ev g) (hu : Ints w u done) (h : fewB g = false ∨ 3000 < done.length) :
    Calls Try.prog 3 #[ev, .int .i64 root, u] w fun e w' => e = .returned (.bool true) ∧ Below w.heap.size w w' := by
  obtain ⟨a, b, off, cap, rfl, hum, ha, hc⟩ := hu
  have He := Lib.hid he
  clear he hc ha
  cases hf : fewB g
  · go_enter Try.func3, Try.ntmps3
    go_wp2_with (first
      | (go_at_call 9; refine (awake_any _).mono ?_; rintro e w1 ⟨rfl, hb1⟩; have Hb1 := Lib.hid hb1; clear hb1)
      | (go_at_call 10; refine (few_any _ _ g (He.out.below Hb1.out)).mono ?_; rintro e w' ⟨rfl, rfl⟩))
    go_ret
    exact ⟨rfl, Hb1.out⟩
  · have hl : 3000 < done.length := by rcases h with h | h; · rw [hf] at h; cases h
                                       · exact h
    go_enter Try.func3, Try.ntmps3
    go_wp2_with (first
      | (go_at_call 9; refine (awake_any _).mono ?_; rintro e w1 ⟨rfl, hb1⟩; have Hb1 := Lib.hid hb1; clear hb1)
      | (go_at_call 10; refine (few_any _ _ g (He.out.below Hb1.out)).mono ?_; rintro e w' ⟨rfl, rfl⟩))
    go_ret
    exact ⟨rfl, Hb1.out⟩

set_option maxHeartbeats 2000000 in
theorem leaves_no (w : World) (ev u : Value) (g : List (List Int)) (root : Int) (done : List Int) (he : IntRows w ev g) (hu : Ints w u done) (hnil : NilOk u) (hf : fewB g = true) (hl : ¬ 3000 < done.length) (hm : mayB g (root :: done) = false) :
    Calls Try.prog 3 #[ev, .int .i64 root, u] w fun e w' => e = .returned (.bool true) ∧ Below w.heap.size w w' := by
  have Hu := Lib.hid hu
  obtain ⟨a, b, off, cap, rfl, hum, ha, hc⟩ := hu
  have He := Lib.hid he
  have Hnil := Lib.hid hnil
  have Hm := Lib.hid hm
  rw [mayB_cons] at hm
  clear he hc ha hnil
  cases hr : rightB g
  · clear hm
    go_enter Try.func3, Try.ntmps3
    go_wp2_with (first
      | (go_at_call 9; refine (awake_any _).mono ?_; rintro e w1 ⟨rfl, hb1⟩; have Hb1 := Lib.hid hb1; clear hb1)
      | (go_at_call 10; refine (few_any _ _ g (He.out.below Hb1.out)).mono ?_; rintro e w' ⟨rfl, rfl⟩)
      | (go_at_call 11; refine (post_no _ _ _ g root done (He.out.below Hb1.out) (Hu.out.below Hb1.out) Hnil.out Hm.out (by omega)).mono ?_; rintro e w2 ⟨rfl, hb2⟩; have Hb2 := Lib.hid (Hb1.out.trans (hb2.mono Hb1.out.size)); clear hb2)
      | (go_at_call 12; refine (rright_any _ _ g (He.out.below Hb2.out)).mono ?_; rintro e w' ⟨rfl, rfl⟩))
    go_ret
    exact ⟨rfl, Hb2.out⟩
  · cases hd : nodesB g.length done
    · clear hm
      go_enter Try.func3, Try.ntmps3
      go_wp2_with (first
        | (go_at_call 9; refine (awake_any _).mono ?_; rintro e w1 ⟨rfl, hb1⟩; have Hb1 := Lib.hid hb1; clear hb1)
        | (go_at_call 10; refine (few_any _ _ g (He.out.below Hb1.out)).mono ?_; rintro e w' ⟨rfl, rfl⟩)
        | (go_at_call 11; refine (post_no _ _ _ g root done (He.out.below Hb1.out) (Hu.out.below Hb1.out) Hnil.out Hm.out (by omega)).mono ?_; rintro e w2 ⟨rfl, hb2⟩; have Hb2 := Lib.hid (Hb1.out.trans (hb2.mono Hb1.out.size)); clear hb2)
        | (go_at_call 12; refine (rright_any _ _ g (He.out.below Hb2.out)).mono ?_; rintro e w' ⟨rfl, rfl⟩)
        | (go_at_call 13; refine (nodes_any _ _ _ g done (He.out.below Hb2.out) (Hu.out.below Hb2.out)).mono ?_; rintro e w' ⟨rfl, rfl⟩))
      go_ret
      exact ⟨rfl, Hb2.out⟩
    · have hn : nodesB g.length [root] = false := by rw [hr, hd] at hm; simpa using hm
      clear hm
      go_enter Try.func3, Try.ntmps3
      go_wp2_with (first
        | (go_at_call 9; refine (awake_any _).mono ?_; rintro e w1 ⟨rfl, hb1⟩; have Hb1 := Lib.hid hb1; clear hb1)
        | (go_at_call 10; refine (few_any _ _ g (He.out.below Hb1.out)).mono ?_; rintro e w' ⟨rfl, rfl⟩)
        | (go_at_call 11; refine (post_no _ _ _ g root done (He.out.below Hb1.out) (Hu.out.below Hb1.out) Hnil.out Hm.out (by omega)).mono ?_; rintro e w2 ⟨rfl, hb2⟩; have Hb2 := Lib.hid (Hb1.out.trans (hb2.mono Hb1.out.size)); clear hb2)
        | (go_at_call 12; refine (rright_any _ _ g (He.out.below Hb2.out)).mono ?_; rintro e w' ⟨rfl, rfl⟩))
      refine (nodes_any _ _ _ g done (He.out.below Hb2.out) (Hu.out.below Hb2.out)).mono ?_
      rintro e w' ⟨rfl, rfl⟩
      go_wp2_with fail
      have hz : Own 0 (w2.alloc (.cells #[.int .i64 root] 3)) _ [root] := own_lit (Nat.zero_le _) [root] _ 1 rfl rfl (by omega)
      have hb3 := Hb2.out.alloc Hb2.out.size (.cells #[.int .i64 root] 3)
      refine (nodes_any _ _ _ g [root] (He.out.below hb3) hz.ints).mono ?_
      rintro e w' ⟨rfl, rfl⟩
      clear hz
      go_wp2
      go_ret
      exact ⟨rfl, hb3⟩

set_option maxHeartbeats 2000000 in
theorem leaves_yes (w : World) (ev u : Value) (g : List (List Int)) (root : Int) (done : List Int) (he : IntRows w ev g) (hu : Ints w u done) (hnil : NilOk u) (hf : fewB g = true) (hl : ¬ 3000 < done.length) (hm : mayB g (root :: done) = true) :
    Calls Try.prog 3 #[ev, .int .i64 root, u] w fun e w' => e = .returned (.bool true) ∧ Below w.heap.size w w' := by
  have Hu := Lib.hid hu
  obtain ⟨a, b, off, cap, rfl, hum, ha, hc⟩ := hu
  have He := Lib.hid he
  have Hnil := Lib.hid hnil
  have Hm := Lib.hid hm
  have hfe := few_le hf
  rw [mayB_cons] at hm
  simp only [Bool.and_eq_true] at hm
  obtain ⟨hn, hd, hr⟩ := hm
  have Hg := Lib.hid (rightB_iff.1 hr)
  have Hroot : Hid (0 ≤ root ∧ root < (g.length : Int)) := by have := nodesB_iff.1 hn; exact this root (by simp)
  have Hd := Lib.hid hd
  clear he hc ha hnil
  go_enter Try.func3, Try.ntmps3
  go_wp2_with (first
    | (go_at_call 9; refine (awake_any _).mono ?_; rintro e w1 ⟨rfl, hb1⟩; have Hb1 := Lib.hid hb1; clear hb1)
    | (go_at_call 10; refine (few_any _ _ g (He.out.below Hb1.out)).mono ?_; rintro e w' ⟨rfl, rfl⟩)
    | (go_at_call 11; refine (post_yes _ _ _ g root done (He.out.below Hb1.out) (Hu.out.below Hb1.out) Hnil.out Hm.out (by omega) hfe).mono ?_; rintro e w2 ⟨r2, rfl, hown2, hb2⟩; have Hown2 := Lib.hid hown2; have Hb2 := Lib.hid (Hb1.out.trans (hb2.mono Hb1.out.size)); clear hb2 hown2)
    | (go_at_call 12; refine (rright_any _ _ g (He.out.below Hb2.out)).mono ?_; rintro e w' ⟨rfl, rfl⟩))
  refine (nodes_any _ _ _ g done (He.out.below Hb2.out) (Hu.out.below Hb2.out)).mono ?_
  rintro e w' ⟨rfl, rfl⟩
  go_wp2_with fail
  have hz : Own 0 (w2.alloc (.cells #[.int .i64 root] 3)) _ [root] := own_lit (Nat.zero_le _) [root] _ 1 rfl rfl (by omega)
  have Hb3 := Lib.hid (Hb2.out.alloc Hb2.out.size (.cells #[.int .i64 root] 3))
  have Hown3 := Lib.hid (Hown2.out.alloc (.cells #[.int .i64 root] 3))
  refine (nodes_any _ _ _ g [root] (He.out.below Hb3.out) hz.ints).mono ?_
  rintro e w' ⟨rfl, rfl⟩
  clear hz
  go_wp2_with (first
    | (go_at_call 15; refine (rpost_any _ _ _ g root done (He.out.below Hb3.out) (Hu.out.below Hb3.out) Hg.out Hd.out Hroot.out (by omega) hfe).mono ?_; rintro e w4 ⟨r4, rfl, hown4, hb4⟩; have Hown4 := Lib.hid hown4; have Hb4 := Lib.hid hb4; clear hown4 hb4)
    | (go_at_call 14; refine (same_yes _ _ _ _ _ (Hown3.out.ints.below Hb4.out) Hown4.out.ints rfl).mono ?_; rintro e w5 ⟨rfl, m, rfl⟩))
  go_ret
  exact ⟨rfl, below_drewN (Hb3.out.trans (Hb4.out.mono Hb3.out.size)) m⟩

theorem leaves_any (w : World) (ev u : Value) (g : List (List Int)) (root : Int) (done : List Int) (he : IntRows w ev g) (hu : Ints w u done) (hnil : NilOk u) :
    Calls Try.prog 3 #[ev, .int .i64 root, u] w fun e w' => e = .returned (.bool true) ∧ Below w.heap.size w w' := by
  by_cases hl : 3000 < done.length
  · exact leaves_head w ev u g root done he hu (Or.inr hl)
  · cases hf : fewB g
    · exact leaves_head w ev u g root done he hu (Or.inl hf)
    · cases hm : mayB g (root :: done)
      · exact leaves_no w ev u g root done he hu hnil hf hl hm
      · exact leaves_yes w ev u g root done he hu hnil hf hl hm

end Go.Proofs.Ytjnahiomnaedeaa
