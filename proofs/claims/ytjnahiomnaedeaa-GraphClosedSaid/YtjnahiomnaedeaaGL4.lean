/- Lemmas that the claim is proved from: what calls of functions of the program come to (contracts), and plain laws. Each lemma bears its own conditions. -/
import Derived.Test.YtjnahiomnaedeaaGL3
namespace Go.Proofs.Ytjnahiomnaedeaa
set_option linter.unusedVariables false
set_option linter.unusedSimpArgs false
open Go.RowKit

/-- a slice of bools, read as a function -/
theorem mayB_right {g : List (List Int)} {l : List Int} (h : mayB g l = true) : RightG g ∧ nodesB g.length l = true := by
  rw [mayB, Bool.and_eq_true] at h; exact ⟨rightB_iff.1 h.2, h.1⟩

/-- what is led to leads nowhere else -/
theorem breadthL_closed {g : List (List Int)} (hg : RightG g) {roots : List Int} (hr : nodesB g.length roots = true) : ∀ x ∈ breadthL g roots, ∀ y ∈ rowI g x, y ∈ breadthL g roots := by
  have key := (breadthL_inv hg hr (fun out i => ∀ k, k < i → k < out.length → ∀ y ∈ rowI g (nth out k), y ∈ out) (fun k hk => absurd hk (Nat.not_lt_zero _)) ?_).2
  · intro x hx y hy
    obtain ⟨k, hk, rfl⟩ := mem_iff_nth.1 hx
    exact key k hk hk y hy
  · intro out i _ hi h k hk hkl y hy
    obtain ⟨t, ht⟩ := prefix_onceL (rowI g (nth out i)) out
    have hko : k < out.length := by omega
    have e : nth (onceL out (rowI g (nth out i))) k = nth out k := by rw [ht, nth_append_left _ _ _ hko]
    rw [e] at hy
    by_cases hki : k = i
    · subst hki; exact mem_onceL.2 (Or.inr hy)
    · exact mem_onceL.2 (Or.inl (h k (by omega) hko y hy))
/-- it is the least such -/
theorem breadthL_least {g : List (List Int)} (hg : RightG g) {roots : List Int} (hr : nodesB g.length roots = true) (S : Int → Prop) (h0 : ∀ x ∈ roots, S x) (hs : ∀ x, S x → ∀ y ∈ rowI g x, S y) : ∀ x ∈ breadthL g roots, S x := by
  refine (breadthL_inv hg hr (fun out _ => ∀ x ∈ out, S x) ?_ ?_).2
  · intro x hx
    rcases mem_onceL.1 hx with h | h
    · simp at h
    · exact h0 x h
  · intro out i _ hi h x hx
    rcases mem_onceL.1 hx with h1 | h1
    · exact h x h1
    · exact hs _ (h _ (nth_mem out i hi)) x h1
theorem breadthL_more {g : List (List Int)} (hg : RightG g) {a b : List Int} (ha : nodesB g.length a = true) (hab : nodesB g.length (a ++ b) = true) : ∀ x ∈ breadthL g a, x ∈ breadthL g (a ++ b) :=
  breadthL_least hg ha _ (fun x hx => breadthL_roots hg hab x (List.mem_append_left _ hx)) (breadthL_closed hg hab)

set_option maxHeartbeats 2000000 in
theorem closed_head (w : World) (ev u v : Value) (g : List (List Int)) (a b : List Int) (he : IntRows w ev g) (hu : Ints w u a) (hv : Ints w v b) (h : fewB g = false ∨ (fewB g = true ∧ 1000 < a.length) ∨ (fewB g = true ∧ ¬ 1000 < a.length ∧ 1000 < b.length)) :
    Calls Try.prog 8 #[ev, u, v] w fun e w' => e = .returned (.bool true) ∧ Below w.heap.size w w' := by
  obtain ⟨ua, ub, uoff, ucap, rfl, -, -, -⟩ := hu
  obtain ⟨va, vb, voff, vcap, rfl, -, -, -⟩ := hv
  have He := Lib.hid he
  clear he
  rcases h with hf | ⟨hf, hl⟩ | ⟨hf, hl, hl2⟩
  all_goals
    go_enter Try.func8, Try.ntmps8
    go_wp2_with (first
      | (go_at_call 9; refine (awake_any _).mono ?_; rintro e w1 ⟨rfl, hb1⟩; have Hb1 := Lib.hid hb1; clear hb1)
      | (go_at_call 10; refine (few_any _ _ g (He.out.below Hb1.out)).mono ?_; rintro e w' ⟨rfl, rfl⟩))
    go_ret
    exact ⟨rfl, Hb1.out⟩

set_option maxHeartbeats 2000000 in
theorem closed_go (w : World) (ev u v : Value) (g : List (List Int)) (a b : List Int) (he : IntRows w ev g) (hu : Ints w u a) (hun : NilOk u) (hv : Ints w v b) (hvn : NilOk v) (hf : fewB g = true) (hl : ¬ 1000 < a.length) (hl2 : ¬ 1000 < b.length) :
    Calls Try.prog 8 #[ev, u, v] w fun e w' => e = .returned (.bool true) ∧ Below w.heap.size w w' := by
  have hfe := few_le' hf
  have Hu := Lib.hid hu
  have Hv := Lib.hid hv
  have Hev := Lib.hid he
  have Hun := Lib.hid hun
  have Hvn := Lib.hid hvn
  have Her := Lib.hid he.toB
  obtain ⟨ua, ub, uoff, ucap, rfl, -, -, -⟩ := hu
  obtain ⟨va, vb, voff, vcap, rfl, -, -, -⟩ := hv
  obtain ⟨ea, eb, eoff, ecap, rfl, hem, -, -⟩ := he
  clear hun hvn
  go_enter Try.func8, Try.ntmps8
  go_wp2_with (first
    | (go_at_call 9; refine (awake_any _).mono ?_; rintro e w1 ⟨rfl, hb1⟩; have Hb1 := Lib.hid hb1; clear hb1)
    | (go_at_call 10; refine (few_any _ _ g (Hev.out.below Hb1.out)).mono ?_; rintro e w' ⟨rfl, rfl⟩)
    | (at_builtin; refine wpList_appendN _ rfl (.tmp 30) (.tmp 31) rfl w.heap.size _ [] rfl (Own.nil _ _) _ a rfl (Hu.out.below Hb1.out) Hun.out (by simp; omega) Hb1.out.size ?_))
  rintro v2 w2 hown2 - hb2
  have Hown2 := Lib.hid hown2
  have Hb2 := Lib.hid (Hb1.out.trans hb2)
  clear hown2 hb2
  go_wp2_with (at_builtin; refine wpList_appendN _ rfl (.tmp 33) (.tmp 34) rfl w.heap.size _ a rfl Hown2.out _ b rfl (Hv.out.below Hb2.out) Hvn.out (by omega) Hb2.out.size ?_)
  rintro v3 w3 hown3 - hb3
  have Hown3 := Lib.hid hown3.ints
  have Hb3 := Lib.hid (Hb2.out.trans hb3)
  clear hown3 hb3 Hown2
  cases hm : mayB g a
  · have hm2 : mayB g (a ++ b) = false := by
      rw [mayB] at hm ⊢
      rw [nodesB, List.all_append]
      rw [nodesB] at hm
      revert hm
      cases a.all (okNode g.length) <;> cases rightB g <;> simp
    have Hm := Lib.hid hm
    have Hm2 := Lib.hid hm2
    clear hm hm2
    go_wp2_with fail
    refine (reach_no _ _ _ g a (Hev.out.below Hb3.out) (Hu.out.below Hb3.out) Hm.out).mono ?_
    rintro e w' ⟨rfl, rfl⟩
    go_wp2_with fail
    refine (reach_no _ _ _ g (a ++ b) (Hev.out.below Hb3.out) Hown3.out Hm2.out).mono ?_
    rintro e w' ⟨rfl, rfl⟩
    go_wp2
    go_ret
    exact ⟨rfl, Hb3.out⟩
  · have Hm := Lib.hid hm
    obtain ⟨hg, hna⟩ := mayB_right hm
    have hgl := hg.size
    clear hm
    cases hm2 : mayB g (a ++ b)
    · have Hm2 := Lib.hid hm2
      clear hm2
      go_wp2_with fail
      refine (reach_yes _ _ _ g a (Hev.out.below Hb3.out) (Hu.out.below Hb3.out) Hm.out (by omega) hfe).mono ?_
      rintro e w4 ⟨r4, rfl, hown4, hb4⟩
      obtain ⟨q4, rfl, hq4, hrow4⟩ := hown4
      have Hb4 := Lib.hid (Hb3.out.trans (hb4.mono Hb3.out.size))
      have Hown34 := Lib.hid (Hown3.out.below hb4)
      clear hb4 hrow4
      go_wp2_with fail
      refine (reach_no _ _ _ g (a ++ b) (Hev.out.below Hb4.out) Hown34.out Hm2.out).mono ?_
      rintro e w' ⟨rfl, rfl⟩
      go_wp2
      go_ret
      exact ⟨rfl, Hb4.out⟩
    · have Hm2 := Lib.hid hm2
      obtain ⟨-, hnab⟩ := mayB_right hm2
      have hmore := breadthL_more hg hna hnab
      have hclosed := breadthL_closed hg hna
      obtain ⟨X, hX⟩ : ∃ X, X = breadthL g a := ⟨_, rfl⟩
      obtain ⟨Y, hY⟩ : ∃ Y, Y = breadthL g (a ++ b) := ⟨_, rfl⟩
      rw [← hX] at hclosed
      rw [← hX, ← hY] at hmore
      have HX := Lib.hid hX
      have HY := Lib.hid hY
      have Hmore := Lib.hid hmore
      have Hclosed := Lib.hid hclosed
      clear hm2 hX hY hmore hclosed hna hnab
      go_wp2_with fail
      refine (reach_yes _ _ _ g a (Hev.out.below Hb3.out) (Hu.out.below Hb3.out) Hm.out (by omega) hfe).mono ?_
      rintro e w4 ⟨r4, rfl, hown4, hb4⟩
      rw [← HX.out] at hown4
      obtain ⟨q4, rfl, hq4, hrow4⟩ := hown4
      have Hb4 := Lib.hid (Hb3.out.trans (hb4.mono Hb3.out.size))
      have Hown34 := Lib.hid (Hown3.out.below hb4)
      clear hb4
      go_wp2_with fail
      refine (reach_yes _ _ _ g (a ++ b) (Hev.out.below Hb4.out) Hown34.out Hm2.out (by simp; omega) hfe).mono ?_
      rintro e w5 ⟨r5, rfl, hown5, hb5⟩
      rw [← HY.out] at hown5
      obtain ⟨q5, rfl, hq5, hrow5⟩ := hown5
      have Hb5 := Lib.hid (Hb4.out.trans (hb5.mono Hb4.out.size))
      have Hrow4 := Lib.hid (hrow4.of_block (hb5.block q4 hrow4.lt))
      have Hrow5 := Lib.hid hrow5
      clear hb5 hrow4 hrow5
      obtain ⟨ea', eb', eoff', ecap', hev', -, hea, hebl, hec⟩ := Her.out.below Hb5.out
      simp only [Value.slice.injEq] at hev'
      obtain ⟨rfl, -, rfl⟩ := hev'
      have Hec := Lib.hid hec
      clear hec
      go_wp2_with fail
      go_loop [13] (fun i => ∃ k : Nat, k ≤ g.length ∧ i = .int .i64 k) (fun i => g.length - (intOf i).toNat)
      case atStart => exact ⟨0, Nat.zero_le _, rfl⟩
      case round =>
        obtain ⟨k, hk, rfl⟩ := hrel
        by_cases hlt : k < g.length
        · obtain rfl := hea (by omega)
          obtain ⟨rv, ce, hrow⟩ := Hec.out k hlt
          obtain ⟨ra, rb, roff, rcap, rfl, hrm, hra, hrb, hrc⟩ := hrow
          have Hrc := Lib.hid hrc
          have c4 := Hrow4.out.cell hlt
          have c5 := Hrow5.out.cell hlt
          clear hrc
          by_cases hx : (k : Int) ∈ X
          · have hy : (k : Int) ∈ Y := Hmore.out _ hx
            have Hcl := Lib.hid (Hclosed.out _ hx)
            go_wp2_with fail
            go_loop [14] (fun i => ∃ j : Nat, j ≤ (row g k).length ∧ i = .int .i64 j) (fun i => (row g k).length - (intOf i).toNat)
            case atStart => exact ⟨0, Nat.zero_le _, rfl⟩
            case round =>
              obtain ⟨j, hj, rfl⟩ := hrel
              by_cases hlt2 : j < (row g k).length
              · obtain rfl := hra (by omega)
                have gc := Hrc.out j hlt2
                have hok := hg.row k _ (nth_mem _ j hlt2)
                have hz : nth (row g k) j ∈ X := Hcl.out _ (nth_mem (row g k) j hlt2)
                obtain ⟨z, hz'⟩ : ∃ z : Nat, nth (row g k) j = (z : Int) := ⟨(nth (row g k) j).toNat, by omega⟩
                have hzl : z < g.length := by omega
                rw [hz'] at hz gc
                have c6 := Hrow4.out.cell hzl
                clear hz' hok
                go_wp2
                go_round
                case rel => exact ⟨j + 1, by omega, by go_num⟩
                case measure => simp [intOf]; omega
              · go_wp2
                go_round
                case rel => exact ⟨k + 1, by omega, by go_num⟩
                case measure => simp [intOf]; omega
          · go_wp2_with fail
            go_loop [14] (fun i => ∃ j : Nat, j ≤ (row g k).length ∧ i = .int .i64 j) (fun i => (row g k).length - (intOf i).toNat)
            case atStart => exact ⟨0, Nat.zero_le _, rfl⟩
            case round =>
              obtain ⟨j, hj, rfl⟩ := hrel
              by_cases hlt2 : j < (row g k).length
              · obtain rfl := hra (by omega)
                go_wp2
                go_round
                case rel => exact ⟨j + 1, by omega, by go_num⟩
                case measure => simp [intOf]; omega
              · go_wp2
                go_round
                case rel => exact ⟨k + 1, by omega, by go_num⟩
                case measure => simp [intOf]; omega
        · go_wp2
          go_ret
          exact ⟨rfl, Hb5.out⟩

theorem closed_any (w : World) (ev u v : Value) (g : List (List Int)) (a b : List Int) (he : IntRows w ev g) (hu : Ints w u a) (hun : NilOk u) (hv : Ints w v b) (hvn : NilOk v) :
    Calls Try.prog 8 #[ev, u, v] w fun e w' => e = .returned (.bool true) ∧ Below w.heap.size w w' := by
  cases hf : fewB g
  · exact closed_head w ev u v g a b he hu hv (Or.inl hf)
  · by_cases hl : 1000 < a.length
    · exact closed_head w ev u v g a b he hu hv (Or.inr (Or.inl ⟨hf, hl⟩))
    · by_cases hl2 : 1000 < b.length
      · exact closed_head w ev u v g a b he hu hv (Or.inr (Or.inr ⟨hf, hl, hl2⟩))
      · exact closed_go w ev u v g a b he hu hun hv hvn hf hl hl2

end Go.Proofs.Ytjnahiomnaedeaa
