/- Lemmas that the claim is proved from: what calls of functions of the program come to (contracts), and plain laws. Each lemma bears its own conditions. -/
import Derived.Test.YtjnahiomnaedeaaGL3
namespace Go.Proofs.Ytjnahiomnaedeaa
set_option linter.unusedVariables false
set_option linter.unusedSimpArgs false
open Go.RowKit

/-- a part of a slice from its head on -/
theorem Ints.head {w : World} {a : Option Addr} {n cap : Nat} {xs : List Int} (h : Ints w (.slice a n cap) xs) (k : Nat) (hk : k ≤ xs.length) : Ints w (.slice a k cap) (xs.take k) := by
  obtain ⟨a', b, off, cap', hv, hm, ha, hc⟩ := h
  simp only [Value.slice.injEq] at hv
  obtain ⟨rfl, rfl, rfl⟩ := hv
  have hl : (xs.take k).length = k := by rw [List.length_take]; omega
  refine ⟨a, b, off, cap, by rw [hl], by rw [hl]; omega, fun h0 => ha (by omega), fun i hi => ?_⟩
  rw [hl] at hi
  rw [hc i (by omega)]
  simp [nth, List.getD, List.getElem?_take, hi]
theorem Ints.cap {w : World} {a : Option Addr} {n cap : Nat} {xs : List Int} (h : Ints w (.slice a n cap) xs) : n = xs.length := by
  obtain ⟨a', b, off, cap', hv, hm, ha, hc⟩ := h
  simp only [Value.slice.injEq] at hv
  exact hv.2.1
theorem Own.capOk {B : Nat} {w : World} {a : Option Addr} {n cap : Nat} {xs : List Int} (h : Own B w (.slice a n cap) xs) : xs.length ≤ cap := by
  rcases h.2 with ⟨h1, h0⟩ | ⟨g, cap', cur, h1, _, _, hnc, _⟩
  · omega
  · simp at h1; omega
theorem nth_notin_take {l : List Int} (h : l.Nodup) {k : Nat} (hk : k < l.length) : nth l k ∉ l.take k := by
  intro hm
  obtain ⟨j, hj, e⟩ := mem_iff_nth.1 hm
  rw [List.length_take] at hj
  have e2 : nth (l.take k) j = nth l j := by
    simp [nth, List.getD, List.getElem?_take, show j < k by omega]
  rw [e2, nth_eq _ _ (by omega), nth_eq _ _ hk] at e
  have := (List.getElem_inj h).1 e
  omega

set_option maxHeartbeats 2000000 in
theorem once_head (w : World) (ev u : Value) (g : List (List Int)) (roots : List Int) (he : IntRows w ev g) (hu : Ints w u roots) (h : fewB g = false ∨ (fewB g = true ∧ 3000 < roots.length)) :
    Calls Try.prog 4 #[ev, u] w fun e w' => e = .returned (.bool true) ∧ Below w.heap.size w w' := by
  obtain ⟨a, b, off, cap, rfl, hum, ha, hc⟩ := hu
  have He := Lib.hid he
  clear he hc ha
  rcases h with hf | ⟨hf, hl⟩
  all_goals
    go_enter Try.func4, Try.ntmps4
    go_wp2_with (first
      | (go_at_call 9; refine (awake_any _).mono ?_; rintro e w1 ⟨rfl, hb1⟩; have Hb1 := Lib.hid hb1; clear hb1)
      | (go_at_call 10; refine (few_any _ _ g (He.out.below Hb1.out)).mono ?_; rintro e w' ⟨rfl, rfl⟩))
    go_ret
    exact ⟨rfl, Hb1.out⟩

set_option maxHeartbeats 2000000 in
theorem once_no (w : World) (ev u : Value) (g : List (List Int)) (roots : List Int) (he : IntRows w ev g) (hu : Ints w u roots) (hf : fewB g = true) (hl : ¬ 3000 < roots.length) (hm : mayB g roots = false) :
    Calls Try.prog 4 #[ev, u] w fun e w' => e = .returned (.bool true) ∧ Below w.heap.size w w' := by
  have Hu := Lib.hid hu
  obtain ⟨a, b, off, cap, rfl, hum, ha, hc⟩ := hu
  have He := Lib.hid he
  have Hm := Lib.hid hm
  clear he hc ha hm
  go_enter Try.func4, Try.ntmps4
  go_wp2_with (first
    | (go_at_call 9; refine (awake_any _).mono ?_; rintro e w1 ⟨rfl, hb1⟩; have Hb1 := Lib.hid hb1; clear hb1)
    | (go_at_call 10; refine (few_any _ _ g (He.out.below Hb1.out)).mono ?_; rintro e w' ⟨rfl, rfl⟩)
    | (go_at_call 16; refine (breadth_no _ _ _ g roots (He.out.below Hb1.out) (Hu.out.below Hb1.out) Hm.out).mono ?_; rintro e w2 ⟨rfl, rfl⟩))
  go_ret
  exact ⟨rfl, Hb1.out⟩

/-- led to by one of the first k -/
def ledB (g : List (List Int)) (l : List Int) (x : Int) (k : Nat) : Bool := (l.take k).any (fun y => decide (x ∈ rowI g y))
theorem ledB_succ (g : List (List Int)) (l : List Int) (x : Int) (k : Nat) (h : k < l.length) : ledB g l x (k + 1) = (ledB g l x k || decide (x ∈ rowI g (nth l k))) := by
  rw [ledB, take_succ_nth l k h, List.any_append]; simp [ledB]
theorem ledB_yes {g : List (List Int)} {l : List Int} {x : Int} {k j : Nat} (hj : j < k) (hk : k ≤ l.length) (h : x ∈ rowI g (nth l j)) : ledB g l x k = true := by
  rw [ledB, List.any_eq_true]
  refine ⟨nth l j, ?_, by simpa using h⟩
  rw [mem_iff_nth]
  exact ⟨j, by rw [List.length_take]; omega, by simp [nth, List.getD, List.getElem?_take, hj]⟩

set_option maxHeartbeats 4000000 in
theorem once_yes (w : World) (ev u : Value) (g : List (List Int)) (roots : List Int) (he : IntRows w ev g) (hu : Ints w u roots) (hf : fewB g = true) (hl : ¬ 3000 < roots.length) (hm : mayB g roots = true) :
    Calls Try.prog 4 #[ev, u] w fun e w' => e = .returned (.bool true) ∧ Below w.heap.size w w' := by
  have hfe := few_le' hf
  have hm0 := hm
  rw [mayB, Bool.and_eq_true] at hm0
  obtain ⟨hd, hr⟩ := hm0
  have hg := rightB_iff.1 hr
  have hgood := breadthL_good hg hd
  have hled := breadthL_led hg hd
  have hroots := breadthL_roots hg hd
  have hby := fun w1 (hb : Below w.heap.size w w1) => breadth_yes w1 ev u g roots (he.below hb) (hu.below hb) hm (by omega) hfe
  obtain ⟨L, hL⟩ : ∃ L, L = breadthL g roots := ⟨_, rfl⟩
  rw [← hL] at hgood hled hroots
  rw [← hL] at hby
  have Hby := Lib.hid hby
  have Hgood := Lib.hid hgood
  have Hled := Lib.hid hled
  have Hroots := Lib.hid hroots
  have Hu := Lib.hid hu
  have Hev := Lib.hid he
  have hgl := hg.size
  have hLl := hgood.len
  have Her := Lib.hid he.toB
  have Hur := Lib.hid hu.toB
  obtain ⟨a, b, off, cap, rfl, hum, -, -⟩ := hu
  obtain ⟨ea, eb, eoff, ecap, rfl, hem, -, -⟩ := he
  clear hm hd hr hgood hled hroots hby hL
  go_enter Try.func4, Try.ntmps4
  go_wp2_with (first
    | (go_at_call 9; refine (awake_any _).mono ?_; rintro e w1 ⟨rfl, hb1⟩; have Hb1 := Lib.hid hb1; clear hb1)
    | (go_at_call 10; refine (few_any _ _ g (Hev.out.below Hb1.out)).mono ?_; rintro e w' ⟨rfl, rfl⟩)
    | (go_at_call 16; refine (Hby.out _ Hb1.out).mono ?_; rintro e w2 ⟨r2, rfl, hown2, hb2⟩; have Hb2 := Lib.hid (Hb1.out.trans (hb2.mono Hb1.out.size)); clear hb2; have Hown2 := Lib.hid hown2; obtain ⟨la, lb, loff, lcap, rfl, hlm, hla, hlc⟩ := hown2.ints; have Hlc := Lib.hid hlc; clear hown2 hlc))
  have hlcap := Hown2.out.capOk
  have hLe := Hown2.out.ints
  have HLe := Lib.hid hLe
  clear hLe
  go_loopw [8] (fun i wr => ∃ k : Nat, k ≤ L.length ∧ i = .int .i64 k ∧ Al w2 wr) (fun i _ => L.length - (intOf i).toNat)
  case atStart => exact ⟨0, Nat.zero_le _, rfl, Al.refl _⟩
  case round =>
    obtain ⟨k, hk, rfl, hal⟩ := hrel
    have Hal := Lib.hid hal
    clear hal
    by_cases hlt : k < L.length
    · obtain rfl := hla (by omega)
      have gc := Hal.out.cell (Hlc.out k hlt)
      have Hur2 := Lib.hid (Hal.out.ints (Hur.out.ints.below Hb2.out))
      obtain ⟨x, hx⟩ : ∃ x, x = nth L k := ⟨_, rfl⟩
      have hxok := Hgood.out.ok _ (nth_mem L k hlt)
      have Hno : Hid (x ∉ L.take k) := hx ▸ nth_notin_take Hgood.out.nodup hlt
      have Hend : Hid ((decide (x ∈ roots) || ledB g L x k) = true) := by
        rw [hx]
        rcases Hled.out k hlt with h1 | ⟨j, hj, h1⟩
        · show (_ || _) = true; simp [h1]
        · show (_ || _) = true; rw [ledB_yes hj (by omega) h1]; simp
      rw [← hx] at gc
      have Hx := Lib.hid hx.symm
      clear hx hxok
      go_wp2_with (go_at_call 17; refine (has_any _ _ roots _ Hur2.out).mono ?_; rintro e w' ⟨rfl, rfl⟩)
      obtain ⟨wo, rfl⟩ : ∃ wo : World, wo = wr := ⟨_, rfl⟩
      go_loopw [9, 10] (fun led i wq => ∃ j : Nat, j ≤ k ∧ i = .int .i64 j ∧ led = .bool (decide (x ∈ roots) || ledB g L x j) ∧ Al w2 wq) (fun _ i _ => k - (intOf i).toNat)
      case atStart => exact ⟨0, Nat.zero_le _, rfl, by simp [ledB], Hal.out⟩
      case round =>
        obtain ⟨j, hj, rfl, rfl, hal2⟩ := hrel
        have Hal2 := Lib.hid hal2
        have gk := Hal2.out.cell (Hlc.out k hlt)
        rw [show nth L k = x from Hx.out] at gk
        clear hal2
        by_cases hjk : j < k
        · obtain ⟨bl, hbl⟩ : ∃ bl, bl = (decide (x ∈ roots) || ledB g L x j) := ⟨_, rfl⟩
          rw [← hbl]
          have Hs : Hid ((decide (x ∈ roots) || ledB g L x (j + 1)) = (bl || decide (x ∈ rowI g (nth L j)))) := by
            show _ = _; rw [ledB_succ g L x j (by omega), hbl, Bool.or_assoc]
          clear hbl
          cases bl
          · have gj := Hal2.out.cell (Hlc.out j (by omega))
            have hok := Hgood.out.ok _ (nth_mem L j (by omega))
            obtain ⟨z, hz⟩ : ∃ z : Nat, nth L j = (z : Int) := ⟨(nth L j).toNat, by omega⟩
            have hzl : z < g.length := by omega
            rw [hz] at Hs gj
            clear hz hok
            obtain ⟨ea', eb', eoff', ecap', hev', -, hea, hebl, hec⟩ := Her.out.below Hb2.out
            simp only [Value.slice.injEq] at hev'
            obtain ⟨rfl, -, rfl⟩ := hev'
            obtain rfl := hea (by omega)
            obtain ⟨rv, ce, hrow⟩ := hec z hzl
            have ce2 := Hal2.out.cell ce
            have Hrow : Hid (Ints wr rv (rowI g (z : Int))) := Hal2.out.ints hrow.ints
            clear hec ce hrow
            go_wp2_with fail
            go_quiet ((go_at_call 17; exact quiet_has Hrow.out _ _))
            go_wp2
            go_roundw
            case rel => exact ⟨j + 1, by omega, by go_num, by rw [Hs.out]; simp, Hal2.out.drewN _⟩
            case measure => simp [intOf]; omega
          · go_wp2_with fail
            go_quiet (fail)
            go_wp2
            go_roundw
            case rel => exact ⟨j + 1, by omega, by go_num, by rw [Hs.out]; simp, Hal2.out.drewN _⟩
            case measure => simp [intOf]; omega
        · obtain rfl : j = k := by omega
          rw [Hend.out]
          have hkc : j ≤ lcap := by omega
          have hjk2 : ¬ ((j : Int) < (j : Int)) := by omega
          have hno : x ∉ L.take j := Hno.out
          have Hh := Lib.hid (Hal2.out.ints (HLe.out.head j (by omega)))
          go_wp2_with fail
          go_quiet ((go_at_call 17; exact quiet_has Hh.out _ _))
          go_wp2
          go_roundw
          case rel => exact ⟨j + 1, by omega, by go_num, Hal2.out.drewN _⟩
          case measure => simp [intOf]; omega
    · have Hal3 := Lib.hid (Hal.out.ints HLe.out)
      have Hbw := Lib.hid (Hal.out.below Hb2.out)
      obtain ⟨a', b', off', cap', hv', -, ha', -, hc'⟩ := Hur.out.below Hbw.out
      simp only [Value.slice.injEq] at hv'
      obtain ⟨rfl, -, rfl⟩ := hv'
      have Hc' := Lib.hid hc'
      clear hc'
      go_wp2_with fail
      go_loop [11] (fun i => ∃ j : Nat, j ≤ roots.length ∧ i = .int .i64 j) (fun i => roots.length - (intOf i).toNat)
      case atStart => exact ⟨0, Nat.zero_le _, rfl⟩
      case round =>
        obtain ⟨j, hj, rfl⟩ := hrel
        by_cases hlt2 : j < roots.length
        · obtain rfl := ha' (by omega)
          have gj := Hc'.out j hlt2
          have hin : nth roots j ∈ L := Hroots.out _ (nth_mem roots j hlt2)
          go_wp2_with (go_at_call 17; refine (has_any _ _ L _ Hal3.out).mono ?_; rintro e w' ⟨rfl, rfl⟩)
          go_round
          case rel => exact ⟨j + 1, by omega, by go_num⟩
          case measure => simp [intOf]; omega
        · go_wp2
          go_ret
          exact ⟨rfl, Hbw.out⟩

theorem once_law (w : World) (ev u : Value) (g : List (List Int)) (roots : List Int) (he : IntRows w ev g) (hu : Ints w u roots) (hnil : NilOk u) :
    Calls Try.prog 4 #[ev, u] w fun e w' => e = .returned (.bool true) ∧ Below w.heap.size w w' := by
  cases hf : fewB g
  · exact once_head w ev u g roots he hu (Or.inl hf)
  · by_cases hl : 3000 < roots.length
    · exact once_head w ev u g roots he hu (Or.inr ⟨hf, hl⟩)
    · cases hm : mayB g roots
      · exact once_no w ev u g roots he hu hf hl hm
      · exact once_yes w ev u g roots he hu hf hl hm

end Go.Proofs.Ytjnahiomnaedeaa
