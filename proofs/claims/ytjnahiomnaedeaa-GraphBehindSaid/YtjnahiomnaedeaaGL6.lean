/- Lemmas that the claim is proved from: what calls of functions of the program come to (contracts), and plain laws. Each lemma bears its own conditions. -/
import Derived.Test.YtjnahiomnaedeaaGL5
import Derived.Test.YtjnahiomnaedeaaGL2
import Derived.Deep.RegionWith
namespace Go.Proofs.Ytjnahiomnaedeaa
set_option linter.unusedVariables false
set_option linter.unusedSimpArgs false
open Go.RowKit

set_option maxHeartbeats 2000000 in
theorem behind_head (w : World) (ev u : Value) (g : List (List Int)) (root : Int) (done : List Int) (he : IntRows w ev g) (hu : Ints w u done) (h : fewB g = false ∨ (fewB g = true ∧ 1000 < done.length)) :
    Calls Try.prog 5 #[ev, .int .i64 root, u] w fun e w' => e = .returned (.bool true) ∧ Below w.heap.size w w' := by
  obtain ⟨a, b, off, cap, rfl, hum, ha, hc⟩ := hu
  have He := Lib.hid he
  clear he hc ha
  rcases h with hf | ⟨hf, hl⟩
  all_goals
    go_enter Try.func5, Try.ntmps5
    go_wp2_with (first
      | (go_at_call 9; refine (awake_any _).mono ?_; rintro e w1 ⟨rfl, hb1⟩; have Hb1 := Lib.hid hb1; clear hb1)
      | (go_at_call 10; refine (few_any _ _ g (He.out.below Hb1.out)).mono ?_; rintro e w' ⟨rfl, rfl⟩))
    go_ret
    exact ⟨rfl, Hb1.out⟩

set_option maxHeartbeats 2000000 in
theorem behind_no (w : World) (ev u : Value) (g : List (List Int)) (root : Int) (done : List Int) (he : IntRows w ev g) (hu : Ints w u done) (hnil : NilOk u) (hf : fewB g = true) (hl : ¬ 1000 < done.length) (hm : mayB g (root :: done) = false) :
    Calls Try.prog 5 #[ev, .int .i64 root, u] w fun e w' => e = .returned (.bool true) ∧ Below w.heap.size w w' := by
  have Hu := Lib.hid hu
  obtain ⟨a, b, off, cap, rfl, hum, ha, hc⟩ := hu
  have He := Lib.hid he
  have Hm := Lib.hid hm
  have Hnil := Lib.hid hnil
  clear he hc ha hm hnil
  go_enter Try.func5, Try.ntmps5
  go_wp2_with (first
    | (go_at_call 9; refine (awake_any _).mono ?_; rintro e w1 ⟨rfl, hb1⟩; have Hb1 := Lib.hid hb1; clear hb1)
    | (go_at_call 10; refine (few_any _ _ g (He.out.below Hb1.out)).mono ?_; rintro e w' ⟨rfl, rfl⟩)
    | (go_at_call 11; refine (post_no _ _ _ g root done (He.out.below Hb1.out) (Hu.out.below Hb1.out) Hnil.out Hm.out (by omega)).mono ?_; rintro e w2 ⟨rfl, hb2⟩; have Hb2 := Lib.hid (Hb1.out.trans (hb2.mono Hb1.out.size)); clear hb2))
  go_ret
  exact ⟨rfl, Hb2.out⟩

theorem dag_of {g : List (List Int)} (h : ∀ r, r < g.length → ∀ y ∈ row g r, (r : Int) < y) : ∀ x, 0 ≤ x ∧ x < (g.length : Int) → ∀ y ∈ rowI g x, x < y := by
  intro x hx y hy
  have := h x.toNat (by omega) y hy
  omega

set_option maxRecDepth 100000 in
set_option maxHeartbeats 4000000 in
theorem behind_yes (w : World) (ev u : Value) (g : List (List Int)) (root : Int) (done : List Int) (he : IntRows w ev g) (hu : Ints w u done) (hnil : NilOk u) (hf : fewB g = true) (hl : ¬ 1000 < done.length) (hm : mayB g (root :: done) = true) :
    Calls Try.prog 5 #[ev, .int .i64 root, u] w fun e w' => e = .returned (.bool true) ∧ Below w.heap.size w w' := by
  have hfe := few_le' hf
  obtain ⟨hg, hroot, hdn⟩ := mayB_root hm
  have hbeh := fun hdag => postL_behind hg hdn hroot hdag
  have hlast := fun h => postL_last hg hdn hroot h
  have hseen := fun (h : root ∈ done) => postL_seen (g := g) h
  obtain ⟨hok, hlen⟩ := postL_ok hg hdn hroot
  have hpy := fun w1 (hb : Below w.heap.size w w1) => post_yes w1 ev u g root done (he.below hb) (hu.below hb) hnil hm (by omega) hfe
  obtain ⟨L, hL⟩ : ∃ L, L = postL g root done := ⟨_, rfl⟩
  rw [← hL] at hbeh hlast hseen hok hlen hpy
  have Hpy := Lib.hid hpy
  have Hbeh := Lib.hid hbeh
  have Hlast := Lib.hid hlast
  have Hseen := Lib.hid hseen
  have Hok := Lib.hid hok
  have Hu := Lib.hid hu
  have Hev := Lib.hid he
  have hgl := hg.size
  have Her := Lib.hid he.toB
  obtain ⟨a, b, off, cap, rfl, hum, -, -⟩ := hu
  obtain ⟨ea, eb, eoff, ecap, rfl, hem, -, -⟩ := he
  clear hm hpy hbeh hlast hseen hok hL hdn hroot hnil
  go_enter Try.func5, Try.ntmps5
  go_wp2_with (first
    | (go_at_call 9; refine (awake_any _).mono ?_; rintro e w1 ⟨rfl, hb1⟩; have Hb1 := Lib.hid hb1; clear hb1)
    | (go_at_call 10; refine (few_any _ _ g (Hev.out.below Hb1.out)).mono ?_; rintro e w' ⟨rfl, rfl⟩)
    | (go_at_call 11; refine (Hpy.out _ Hb1.out).mono ?_; rintro e w2 ⟨r2, rfl, hown2, hb2⟩; have Hb2 := Lib.hid (Hb1.out.trans (hb2.mono Hb1.out.size)); clear hb2; have Hown2 := Lib.hid hown2; obtain ⟨la, lb, loff, lcap, rfl, hlm, hla, hlc⟩ := hown2.ints; have Hlc := Lib.hid hlc; clear hown2 hlc))
  have hlcap := Hown2.out.capOk
  have HLe := Lib.hid Hown2.out.ints
  have Hud := Lib.hid (Hu.out.below Hb2.out)
  obtain ⟨ea', eb', eoff', ecap', hev', -, hea, hebl, hec⟩ := Her.out.below Hb2.out
  simp only [Value.slice.injEq] at hev'
  obtain ⟨rfl, -, rfl⟩ := hev'
  have Hec := Lib.hid hec
  clear hec
  go_loop [10] (fun i => ∃ k : Nat, k ≤ g.length ∧ i = .int .i64 k ∧ ∀ r, r < k → ∀ y ∈ row g r, (r : Int) < y) (fun i => g.length - (intOf i).toNat)
  case atStart => exact ⟨0, Nat.zero_le _, rfl, fun r hr => absurd hr (Nat.not_lt_zero _)⟩
  case round =>
    obtain ⟨k, hk, rfl, hdag⟩ := hrel
    have Hdag := Lib.hid hdag
    clear hdag
    by_cases hlt : k < g.length
    · obtain rfl := hea (by omega)
      obtain ⟨rv, ce, hrow⟩ := Hec.out k hlt
      obtain ⟨ra, rb, roff, rcap, rfl, hrm, hra, -, hrc⟩ := hrow
      have Hrc := Lib.hid hrc
      clear hrc
      go_wp2_with fail
      go_loop [11] (fun i => ∃ j : Nat, j ≤ (row g k).length ∧ i = .int .i64 j ∧ ∀ t, t < j → (k : Int) < nth (row g k) t) (fun i => (row g k).length - (intOf i).toNat)
      case atStart => exact ⟨0, Nat.zero_le _, rfl, fun t ht => absurd ht (Nat.not_lt_zero _)⟩
      case round =>
        obtain ⟨j, hj, rfl, hin⟩ := hrel
        have Hin := Lib.hid hin
        clear hin
        by_cases hlt2 : j < (row g k).length
        · obtain rfl := hra (by omega)
          have gc := Hrc.out j hlt2
          by_cases hle : nth (row g k) j ≤ (k : Int)
          · go_wp2
            go_ret
            exact ⟨rfl, Hb2.out⟩
          · go_wp2
            go_round
            case rel =>
              refine ⟨j + 1, by omega, by go_num, fun t ht => ?_⟩
              by_cases e : t = j
              · rw [e]; omega
              · exact Hin.out t (by omega)
            case measure => simp [intOf]; omega
        · go_wp2
          go_round
          case rel =>
            refine ⟨k + 1, by omega, by go_num, fun r hr => ?_⟩
            by_cases e : r = k
            · intro y hy
              rw [e] at hy ⊢
              obtain ⟨t, ht, rfl⟩ := mem_iff_nth.1 hy
              exact Hin.out t (by omega)
            · exact Hdag.out r (by omega)
          case measure => simp [intOf]; omega
    · have HB := Lib.hid (Hbeh.out (dag_of (fun r hr => Hdag.out r (by omega))))
      clear Hdag Hbeh
      go_wp2_with fail
      go_loopw [12] (fun i wr => ∃ m : Nat, m ≤ L.length ∧ i = .int .i64 m ∧ Al w2 wr) (fun i _ => L.length - (intOf i).toNat)
      case atStart => exact ⟨0, Nat.zero_le _, rfl, Al.refl _⟩
      case round =>
        obtain ⟨m, hm, rfl, hal⟩ := hrel
        have Hal := Lib.hid hal
        clear hal
        by_cases hltm : m < L.length
        · obtain rfl := hla (by omega)
          have gc := Hal.out.cell (Hlc.out m hltm)
          obtain ⟨x, hx⟩ : ∃ x, x = nth L m := ⟨_, rfl⟩
          have hxL : x ∈ L := hx ▸ nth_mem L m hltm
          have hno : x ∉ L.take m := hx ▸ nth_notin_take HB.out.1 hltm
          obtain ⟨hnd, hx0, hx1⟩ := HB.out.2.1 x hxL
          obtain ⟨X, rfl⟩ : ∃ X : Nat, x = (X : Int) := ⟨x.toNat, by omega⟩
          have hXl : X < g.length := by omega
          rw [← hx] at gc
          have Hx := Lib.hid hx.symm
          have Hh := Lib.hid (Hal.out.ints (HLe.out.head m hm))
          have Hdd := Lib.hid (Hal.out.ints Hud.out)
          have hmc : m ≤ lcap := by omega
          have HB2 : Hid (∀ y ∈ row g X, y ∈ L.take m ∨ y ∈ done) := by
            intro y hy
            have h1 := HB.out.2.2 m hltm y (by rw [Hx.out]; exact hy)
            refine h1.imp ?_ id
            rintro ⟨j, hj, rfl⟩
            rw [mem_iff_nth]
            exact ⟨j, by rw [List.length_take]; omega, by simp [nth, List.getD, List.getElem?_take, hj]⟩
          obtain rfl := hea (by omega)
          obtain ⟨rv, ce, hrow⟩ := Hec.out X hXl
          obtain ⟨ra, rb, roff, rcap, rfl, hrm, hra, -, hrc⟩ := hrow
          have Hrc := Lib.hid hrc
          have ce2 := Hal.out.cell ce
          clear hrc ce hx hxL
          go_wp2_with fail
          go_quiet ((first | (go_at_call_of 17 (done.length); exact quiet_has Hdd.out _ _) | (go_at_call 17; exact quiet_has Hh.out _ _)))
          go_wp2_with fail
          obtain ⟨wm, hwm⟩ : ∃ wm : World, wm = wr.drewN nq := ⟨_, rfl⟩
          have Hal4 := Lib.hid (show Al w2 wm by rw [hwm]; exact Hal.out.drewN _)
          have Hh4 := Lib.hid (show Ints wm (.slice (some ⟨lb, loff, none⟩) m lcap) (L.take m) by rw [hwm]; exact Hh.out)
          have Hd4 := Lib.hid (show Ints wm (.slice a done.length cap) done by rw [hwm]; exact Hdd.out)
          have gc4 : wm.cell? ⟨lb, loff + m, none⟩ = some (.int .i64 (X : Int)) := by rw [hwm]; exact gc
          have ce4 : wm.cell? ⟨eb', eoff' + X, none⟩ = some (.slice ra (row g X).length rcap) := by rw [hwm]; exact ce2
          rw [← hwm]
          clear hwm gc ce2
          go_loop [13] (fun i => ∃ j : Nat, j ≤ (row g X).length ∧ i = .int .i64 j) (fun i => (row g X).length - (intOf i).toNat)
          case atStart => exact ⟨0, Nat.zero_le _, rfl⟩
          case round =>
            obtain ⟨j, hj, rfl⟩ := hrel
            by_cases hltj : j < (row g X).length
            · obtain rfl := hra (by omega)
              have gj := Hal4.out.cell (Hrc.out j hltj)
              have hto := HB2.out _ (nth_mem (row g X) j hltj)
              by_cases hin : nth (row g X) j ∈ L.take m
              · clear hto
                go_wp2_with (go_at_call 17; refine (has_any _ _ (L.take m) _ Hh4.out).mono ?_; rintro e w' ⟨rfl, rfl⟩)
                go_round
                case rel => exact ⟨j + 1, by omega, by go_num⟩
                case measure => simp [intOf]; omega
              · have hin2 : nth (row g X) j ∈ done := hto.resolve_left hin
                clear hto
                go_wp2_with fail
                refine (has_any _ _ (L.take m) _ Hh4.out).mono ?_
                rintro e w' ⟨rfl, rfl⟩
                go_wp2_with fail
                refine (has_any _ _ done _ Hd4.out).mono ?_
                rintro e w' ⟨rfl, rfl⟩
                go_wp2_with fail
                go_round
                case rel => exact ⟨j + 1, by omega, by go_num⟩
                case measure => simp [intOf]; omega
            · go_wp2
              go_roundw
              case rel => exact ⟨m + 1, by omega, by go_num, Hal4.out⟩
              case measure => simp [intOf]; omega
        · have Hdd := Lib.hid (Hal.out.ints Hud.out)
          have Hbw := Lib.hid (Hal.out.below Hb2.out)
          by_cases hrd : root ∈ done
          · have hnil := Hseen.out hrd
            obtain rfl := hnil
            go_wp2_with (go_at_call 17; refine (has_any _ _ done _ Hdd.out).mono ?_; rintro e w' ⟨rfl, rfl⟩)
            go_ret
            exact ⟨rfl, Hbw.out⟩
          · obtain ⟨t, ht⟩ := Hlast.out hrd
            have hpos : 0 < L.length := by rw [ht]; simp
            have hne : ((L.length : Int) == 0) = false := by rw [beq_eq_false_iff_ne]; omega
            obtain rfl := hla hpos
            have glast := Hal.out.cell (Hlc.out (L.length - 1) (by omega))
            have hl1 : nth L (L.length - 1) = root := by
              have e : L.length - 1 = t.length := by rw [ht]; simp
              rw [e, ht, nth_append_right]
            rw [hl1] at glast
            clear hl1 ht
            go_wp2_with (go_at_call 17; refine (has_any _ _ done _ Hdd.out).mono ?_; rintro e w' ⟨rfl, rfl⟩)
            go_ret
            exact ⟨rfl, Hbw.out⟩

theorem behind_any (w : World) (ev u : Value) (g : List (List Int)) (root : Int) (done : List Int) (he : IntRows w ev g) (hu : Ints w u done) (hnil : NilOk u) :
    Calls Try.prog 5 #[ev, .int .i64 root, u] w fun e w' => e = .returned (.bool true) ∧ Below w.heap.size w w' := by
  cases hf : fewB g
  · exact behind_head w ev u g root done he hu (Or.inl hf)
  · by_cases hl : 1000 < done.length
    · exact behind_head w ev u g root done he hu (Or.inr ⟨hf, hl⟩)
    · cases hm : mayB g (root :: done)
      · exact behind_no w ev u g root done he hu hnil hf hl hm
      · exact behind_yes w ev u g root done he hu hnil hf hl hm

end Go.Proofs.Ytjnahiomnaedeaa
