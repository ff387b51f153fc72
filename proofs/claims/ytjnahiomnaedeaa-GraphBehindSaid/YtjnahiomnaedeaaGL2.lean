/- Lemmas that the claim is proved from: what calls of functions of the program come to (contracts), and plain laws. Each lemma bears its own conditions. -/
import Derived.Test.YtjnahiomnaedeaaGW12
namespace Go.Proofs.Ytjnahiomnaedeaa
set_option linter.unusedVariables false
set_option linter.unusedSimpArgs false
open Go.RowKit

theorem mayB_cons (g : List (List Int)) (root : Int) (done : List Int) : mayB g (root :: done) = (nodesB g.length [root] && (nodesB g.length done && rightB g)) := by
  simp [mayB, nodesB, Bool.and_assoc]
theorem few_le {g : List (List Int)} (h : fewB g = true) : edgesN g ≤ 5000 := by simp [fewB] at h; omega
theorem Own.nilOk {B : Nat} {w : World} {v : Value} {xs : List Int} (h : Own B w v xs) : NilOk v := by
  rintro n c rfl
  rcases h.2 with ⟨h1, _⟩ | ⟨g, cap, cur, h1, _⟩
  · simp at h1; omega
  · simp at h1
theorem mayB_root {g : List (List Int)} {x : Int} {l : List Int} (h : mayB g (x :: l) = true) : RightG g ∧ (0 ≤ x ∧ x < g.length) ∧ nodesB g.length l = true := by
  rw [mayB_cons] at h
  simp only [Bool.and_eq_true] at h
  exact ⟨rightB_iff.1 h.2.2, by have := nodesB_iff.1 h.1; exact this x (by simp), h.2.1⟩
theorem postL_ok {g : List (List Int)} (hg : RightG g) {root : Int} {done : List Int} (hd : nodesB g.length done = true) (hn : 0 ≤ root ∧ root < g.length) : (∀ x ∈ postL g root done, 0 ≤ x ∧ x < g.length) ∧ (postL g root done).length ≤ g.length := by
  have hgood := (V_grow hg (s := (onceL [] done, [])) (good_roots hd) hn).1
  obtain ⟨t, u, h1, h2, h3, _⟩ := V_tells hg (s := (onceL [] done, [])) (good_roots hd) hn
  refine ⟨?_, ?_⟩
  · intro x hx
    rw [postL, h2] at hx
    have hx' : x ∈ u := (h3 x).1 (by simpa using hx)
    refine hgood.ok x ?_
    rw [h1]; exact List.mem_append_right _ hx'
  · have h5 := out_le hg (f := g.length + 1) (s := (onceL [] done, [])) (good_roots hd) hn (by omega) (by simp)
    have h6 := hgood.len
    unfold postL V at *
    omega

set_option maxHeartbeats 2000000 in
/-- the arms of the law, by what the two first calls answer -/
theorem twice_few (w : World) (ev : Value) (g : List (List Int)) (root other : Int) (he : IntRows w ev g) (hf : fewB g = false) :
    Calls Try.prog 6 #[ev, .int .i64 root, .int .i64 other] w fun e w' => e = .returned (.bool true) ∧ Below w.heap.size w w' := by
  have He := Lib.hid he
  clear he
  go_enter Try.func6, Try.ntmps6
  go_wp2_with (first
    | (go_at_call 9; refine (awake_any _).mono ?_; rintro e w1 ⟨rfl, hb1⟩; have Hb1 := Lib.hid hb1; clear hb1)
    | (go_at_call 10; refine (few_any _ _ g (He.out.below Hb1.out)).mono ?_; rintro e w' ⟨rfl, rfl⟩))
  go_ret
  exact ⟨rfl, Hb1.out⟩

set_option maxHeartbeats 2000000 in
theorem twice_no (w : World) (ev : Value) (g : List (List Int)) (root other : Int) (he : IntRows w ev g) (hf : fewB g = true) (hm : mayB g [root] = false) :
    Calls Try.prog 6 #[ev, .int .i64 root, .int .i64 other] w fun e w' => e = .returned (.bool true) ∧ Below w.heap.size w w' := by
  have He := Lib.hid he
  have Hm := Lib.hid hm
  have hn : Ints w (.slice none 0 0) [] := (Own.nil 0 w).ints
  have Hn : Hid (∀ w' : World, Ints w' (.slice none 0 0) []) := fun w' => (Own.nil 0 w').ints
  have hk : NilOk (.slice none 0 0) := (Own.nil 0 w).nilOk
  have Hk := Lib.hid hk
  clear he hm hn hk
  go_enter Try.func6, Try.ntmps6
  go_wp2_with (first
    | (go_at_call 9; refine (awake_any _).mono ?_; rintro e w1 ⟨rfl, hb1⟩; have Hb1 := Lib.hid hb1; clear hb1)
    | (go_at_call 10; refine (few_any _ _ g (He.out.below Hb1.out)).mono ?_; rintro e w' ⟨rfl, rfl⟩))
  refine (post_no _ _ _ g root [] (He.out.below Hb1.out) (Hn.out _) Hk.out Hm.out (by simp)).mono ?_
  rintro e w2 ⟨rfl, hb2⟩
  have Hb2 := Lib.hid (Hb1.out.trans (hb2.mono Hb1.out.size))
  clear hb2
  go_wp2_with fail
  have hany : ∀ (x : Int) (w2 : World), Below w.heap.size w w2 → Calls Try.prog 11 #[ev, .int .i64 x, .slice none 0 0] w2 fun e w' => ∃ (r : Option Addr × Nat × Nat) (k : Int), e = .returned (.tuple #[.slice r.1 r.2.1 r.2.2, .int .i64 k]) ∧ (k = 0 ∨ k = 130) ∧ Below w.heap.size w w' := by
    intro x w2 hb
    cases hm : mayB g [x]
    · exact (post_no _ _ _ g x [] (He.out.below hb) (Hn.out _) Hk.out hm (by simp)).mono fun e w' ⟨h1, h2⟩ => ⟨(none, 0, 0), 130, h1, Or.inr rfl, hb.trans (h2.mono hb.size)⟩
    · exact (post_yes _ _ _ g x [] (He.out.below hb) (Hn.out _) Hk.out hm (by simp) (few_le hf)).mono fun e w' ⟨r, h1, h2, h3⟩ => by
        obtain ⟨a, b, off, cap, rfl, _⟩ := h2.ints
        exact ⟨(a, _, cap), 0, h1, Or.inl rfl, hb.trans (h3.mono hb.size)⟩
  have Hany := Lib.hid hany
  clear hany
  refine (Hany.out other _ Hb2.out).mono ?_
  rintro e w3 ⟨r3, k3, rfl, hk3, hb3⟩
  have Hb3 := Lib.hid hb3
  clear hb3 Hb2
  go_wp2_with fail
  refine (Hany.out root _ Hb3.out).mono ?_
  rintro e w4 ⟨r4, k4, rfl, hk4, hb4⟩
  have Hb4 := Lib.hid hb4
  clear hb4 Hb3
  go_wp2
  go_ret
  exact ⟨rfl, Hb4.out⟩

set_option maxHeartbeats 2000000 in
theorem twice_odd (w : World) (ev : Value) (g : List (List Int)) (root other : Int) (he : IntRows w ev g) (hf : fewB g = true) (hm : mayB g [root] = true) (hm2 : mayB g (other :: postL g root []) = false) :
    Calls Try.prog 6 #[ev, .int .i64 root, .int .i64 other] w fun e w' => e = .returned (.bool true) ∧ Below w.heap.size w w' := by
  obtain ⟨hg, hr, -⟩ := mayB_root hm
  obtain ⟨hok, hlen⟩ := postL_ok hg (done := []) (by rfl) hr
  have hgl := hg.size
  have hm3 : mayB g (root :: postL g root []) = true := by
    have h1 := hm
    rw [mayB_cons] at h1 ⊢
    simp only [Bool.and_eq_true] at h1 ⊢
    exact ⟨h1.1, nodesB_iff.2 hok, h1.2.2⟩
  obtain ⟨L, hL⟩ : ∃ L, L = postL g root [] := ⟨_, rfl⟩
  rw [← hL] at hm2 hm3 hlen hok
  have HL := Lib.hid hL
  have He := Lib.hid he
  have Hm := Lib.hid hm
  have Hm2 := Lib.hid hm2
  have Hm3 := Lib.hid hm3
  have Hn : Hid (∀ w' : World, Ints w' (.slice none 0 0) []) := fun w' => (Own.nil 0 w').ints
  have hk : NilOk (.slice none 0 0) := (Own.nil 0 w).nilOk
  have Hk := Lib.hid hk
  clear he hm hk hm2 hm3 hL hok
  go_enter Try.func6, Try.ntmps6
  go_wp2_with (first
    | (go_at_call 9; refine (awake_any _).mono ?_; rintro e w1 ⟨rfl, hb1⟩; have Hb1 := Lib.hid hb1; clear hb1)
    | (go_at_call 10; refine (few_any _ _ g (He.out.below Hb1.out)).mono ?_; rintro e w' ⟨rfl, rfl⟩))
  refine (post_yes _ _ _ g root [] (He.out.below Hb1.out) (Hn.out _) Hk.out Hm.out (by simp) (few_le hf)).mono ?_
  rintro e w2 ⟨r2, rfl, hown2, hb2⟩
  rw [← HL.out] at hown2
  have Hown2 := Lib.hid hown2
  have Hb2 := Lib.hid (Hb1.out.trans (hb2.mono Hb1.out.size))
  clear hb2 hown2
  go_wp2_with fail
  refine (post_no _ _ _ g other L (He.out.below Hb2.out) Hown2.out.ints Hown2.out.nilOk Hm2.out (by omega)).mono ?_
  rintro e w3 ⟨rfl, hb3⟩
  have Hown3 := Lib.hid (Hown2.out.ints.below hb3)
  have Hb3 := Lib.hid (Hb2.out.trans (hb3.mono Hb2.out.size))
  clear hb3
  go_wp2_with fail
  refine (post_yes _ _ _ g root L (He.out.below Hb3.out) Hown3.out Hown2.out.nilOk Hm3.out (by omega) (few_le hf)).mono ?_
  rintro e w4 ⟨r4, rfl, hown4, hb4⟩
  have Hb4 := Lib.hid (Hb3.out.trans (hb4.mono Hb3.out.size))
  clear hb4 hown4
  go_wp2
  go_ret
  exact ⟨rfl, Hb4.out⟩

set_option maxHeartbeats 2000000 in
theorem twice_yes (w : World) (ev : Value) (g : List (List Int)) (root other : Int) (he : IntRows w ev g) (hf : fewB g = true) (hm : mayB g [root] = true) (hm2 : mayB g (other :: postL g root []) = true) :
    Calls Try.prog 6 #[ev, .int .i64 root, .int .i64 other] w fun e w' => e = .returned (.bool true) ∧ Below w.heap.size w w' := by
  obtain ⟨hg, hr, -⟩ := mayB_root hm
  obtain ⟨-, ho, hnl⟩ := mayB_root hm2
  obtain ⟨hok, hlen⟩ := postL_ok hg (done := []) (by rfl) hr
  have hgl := hg.size
  have hm3 : mayB g (root :: postL g root []) = true := by
    have h1 := hm
    rw [mayB_cons] at h1 ⊢
    simp only [Bool.and_eq_true] at h1 ⊢
    exact ⟨h1.1, nodesB_iff.2 hok, h1.2.2⟩
  have hnew := postL_new hg hnl ho
  have hempty : postL g root (postL g root []) = [] := postL_seen (postL_root hg hr)
  obtain ⟨L, hL⟩ : ∃ L, L = postL g root [] := ⟨_, rfl⟩
  rw [← hL] at hm2 hm3 hlen hok hnew hempty
  obtain ⟨M, hM⟩ : ∃ M, M = postL g other L := ⟨_, rfl⟩
  rw [← hM] at hnew
  have HL := Lib.hid hL
  have HM := Lib.hid hM
  have He := Lib.hid he
  have Hm := Lib.hid hm
  have Hm2 := Lib.hid hm2
  have Hm3 := Lib.hid hm3
  have Hnew := Lib.hid hnew
  have Hempty := Lib.hid hempty
  have Hn : Hid (∀ w' : World, Ints w' (.slice none 0 0) []) := fun w' => (Own.nil 0 w').ints
  have hk : NilOk (.slice none 0 0) := (Own.nil 0 w).nilOk
  have Hk := Lib.hid hk
  clear he hm hk hm2 hm3 hL hok hM hnew hempty hnl
  go_enter Try.func6, Try.ntmps6
  go_wp2_with (first
    | (go_at_call 9; refine (awake_any _).mono ?_; rintro e w1 ⟨rfl, hb1⟩; have Hb1 := Lib.hid hb1; clear hb1)
    | (go_at_call 10; refine (few_any _ _ g (He.out.below Hb1.out)).mono ?_; rintro e w' ⟨rfl, rfl⟩))
  refine (post_yes _ _ _ g root [] (He.out.below Hb1.out) (Hn.out _) Hk.out Hm.out (by simp) (few_le hf)).mono ?_
  rintro e w2 ⟨r2, rfl, hown2, hb2⟩
  rw [← HL.out] at hown2
  have Hown2 := Lib.hid hown2
  have Hb2 := Lib.hid (Hb1.out.trans (hb2.mono Hb1.out.size))
  clear hb2 hown2
  go_wp2_with fail
  refine (post_yes _ _ _ g other L (He.out.below Hb2.out) Hown2.out.ints Hown2.out.nilOk Hm2.out (by omega) (few_le hf)).mono ?_
  rintro e w3 ⟨r3, rfl, hown3, hb3⟩
  rw [← HM.out] at hown3
  have Hown23 := Lib.hid (Hown2.out.ints.below hb3)
  have Hown3 := Lib.hid hown3
  have Hb3 := Lib.hid (Hb2.out.trans (hb3.mono Hb2.out.size))
  clear hb3 hown3
  go_wp2_with fail
  refine (post_yes _ _ _ g root L (He.out.below Hb3.out) Hown23.out Hown2.out.nilOk Hm3.out (by omega) (few_le hf)).mono ?_
  rintro e w4 ⟨r4, rfl, hown4, hb4⟩
  rw [Hempty.out] at hown4
  have Hown24 := Lib.hid (Hown23.out.below hb4)
  obtain ⟨a3, b3, off3, cap3, rfl, hm3', ha3, hc3⟩ := Hown3.out.ints.below hb4
  obtain ⟨a4, b4', off4, cap4, rfl, -, -, -⟩ := hown4.ints
  have Hc3 := Lib.hid hc3
  have Hb4 := Lib.hid (Hb3.out.trans (hb4.mono Hb3.out.size))
  clear hb4 hown4 hc3
  go_wp2_with fail
  go_loop [14] (fun i => ∃ k : Nat, k ≤ M.length ∧ i = .int .i64 k) (fun i => M.length - (intOf i).toNat)
  case atStart => exact ⟨0, Nat.zero_le _, rfl⟩
  case round =>
    obtain ⟨k, hk, rfl⟩ := hrel
    by_cases hlt : k < M.length
    · obtain rfl := ha3 (by omega)
      have gc := Hc3.out k hlt
      have hno : nth M k ∉ L := Hnew.out _ (nth_mem M k hlt)
      go_wp2_with (go_at_call 17; refine (has_any _ _ L _ Hown24.out).mono ?_; rintro e w' ⟨rfl, rfl⟩)
      go_round
      case rel => exact ⟨k + 1, by omega, by go_num⟩
      case measure => simp [intOf]; omega
    · go_wp2
      go_ret
      exact ⟨rfl, Hb4.out⟩

theorem twice_any (w : World) (ev : Value) (g : List (List Int)) (root other : Int) (he : IntRows w ev g) :
    Calls Try.prog 6 #[ev, .int .i64 root, .int .i64 other] w fun e w' => e = .returned (.bool true) ∧ Below w.heap.size w w' := by
  cases hf : fewB g
  · exact twice_few w ev g root other he hf
  · cases hm : mayB g [root]
    · exact twice_no w ev g root other he hf hm
    · cases hm2 : mayB g (other :: postL g root [])
      · exact twice_odd w ev g root other he hf hm hm2
      · exact twice_yes w ev g root other he hf hm hm2

end Go.Proofs.Ytjnahiomnaedeaa
