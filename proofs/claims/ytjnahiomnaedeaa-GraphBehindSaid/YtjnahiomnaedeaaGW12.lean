/- Lemmas that the claim is proved from: what calls of functions of the program come to (contracts), and plain laws. Each lemma bears its own conditions. -/
import Derived.Test.YtjnahiomnaedeaaGW9
import Derived.Test.YtjnahiomnaedeaaGW11
import Derived.WalkSmall
namespace Go.Proofs.Ytjnahiomnaedeaa
set_option linter.unusedVariables false
set_option linter.unusedSimpArgs false
open Go.RowKit

theorem own_lit {B : Nat} {w : World} (hB : B ≤ w.heap.size) (xs : List Int) (cs : Array Value) (n : Nat) (hn : xs.length = n) (hcs : cs.toList = xs.map (Value.int .i64)) (hm : n ≤ 1000000) :
    Own B (w.alloc (.cells cs 3)) (.slice (some ⟨w.heap.size, 0, none⟩) n n) xs := by
  have := World.ownsRow_lit (size := 1) (e := 3) (base := B) w cs n hB (by unfold maxLen; omega) (by have := congrArg List.length hcs; simp at this; omega)
  rw [hcs] at this
  subst hn
  exact this

theorem same_yes (w : World) (v u : Value) (xs ys : List Int) (hx : Ints w v xs) (hy : Ints w u ys) (h : xs = ys) :
    Calls Try.prog 14 #[v, u] w fun e w' => e = .returned (.bool true) ∧ ∃ m, w' = w.drewN m :=
  (same_any w v u xs ys hx hy).mono fun _ _ ⟨he, hw⟩ => ⟨by rw [he, h]; simp, hw⟩

def G4 : List (List Int) := [[1, 2], [3], [3], [0]]
theorem g4_b : breadthL G4 [0] = [0, 1, 2, 3] := by decide +kernel
theorem g4_p : postL G4 0 [] = [3, 1, 2, 0] := by decide +kernel
theorem g4_q : postL G4 0 [1] = [3, 2, 0] := by decide +kernel

theorem rows_g4 (w : World) : IntRows (((((w.alloc (.cells #[.int .i64 1, .int .i64 2] 3)).alloc (.cells #[.int .i64 3] 3)).alloc (.cells #[.int .i64 3] 3)).alloc (.cells #[.int .i64 0] 3)).alloc
    (.cells #[.slice (some ⟨w.heap.size, 0, none⟩) 2 2, .slice (some ⟨w.heap.size + 1, 0, none⟩) 1 1, .slice (some ⟨w.heap.size + 1 + 1, 0, none⟩) 1 1, .slice (some ⟨w.heap.size + 1 + 1 + 1, 0, none⟩) 1 1] 23))
    (.slice (some ⟨w.heap.size + 1 + 1 + 1 + 1, 0, none⟩) 4 4) G4 := by
  refine ⟨some ⟨w.heap.size + 1 + 1 + 1 + 1, 0, none⟩, w.heap.size + 1 + 1 + 1 + 1, 0, 4, rfl, by simp [G4], fun _ => rfl, ?_⟩
  intro i hi
  have h0 : Own 0 (w.alloc (.cells #[.int .i64 1, .int .i64 2] 3)) _ [1, 2] := own_lit (Nat.zero_le _) [1, 2] _ 2 rfl rfl (by omega)
  have h1 : Own 0 ((w.alloc (.cells #[.int .i64 1, .int .i64 2] 3)).alloc (.cells #[.int .i64 3] 3)) _ [3] := own_lit (Nat.zero_le _) [3] _ 1 rfl rfl (by omega)
  have h2 : Own 0 (((w.alloc (.cells #[.int .i64 1, .int .i64 2] 3)).alloc (.cells #[.int .i64 3] 3)).alloc (.cells #[.int .i64 3] 3)) _ [3] := own_lit (Nat.zero_le _) [3] _ 1 rfl rfl (by omega)
  have h3 : Own 0 ((((w.alloc (.cells #[.int .i64 1, .int .i64 2] 3)).alloc (.cells #[.int .i64 3] 3)).alloc (.cells #[.int .i64 3] 3)).alloc (.cells #[.int .i64 0] 3)) _ [0] := own_lit (Nat.zero_le _) [0] _ 1 rfl rfl (by omega)
  simp only [World.size_alloc] at h0 h1 h2 h3
  match i, hi with
  | 0, _ => exact ⟨_, by rw [World.cell?_alloc_at _ _ _ _ (by simp)]; rfl, ((((h0.alloc _).alloc _).alloc _).alloc _).ints⟩
  | 1, _ => exact ⟨_, by rw [World.cell?_alloc_at _ _ _ _ (by simp)]; rfl, (((h1.alloc _).alloc _).alloc _).ints⟩
  | 2, _ => exact ⟨_, by rw [World.cell?_alloc_at _ _ _ _ (by simp)]; rfl, ((h2.alloc _).alloc _).ints⟩
  | 3, _ => exact ⟨_, by rw [World.cell?_alloc_at _ _ _ _ (by simp)]; rfl, (h3.alloc _).ints⟩
  | i + 4, h => simp [G4] at h; omega

set_option maxHeartbeats 800000 in
theorem awake_any (w : World) : Calls Try.prog 9 #[] w fun e w' => e = .returned (.bool true) ∧ Below w.heap.size w w' := by
  go_enter Try.func9, Try.ntmps9
  go_wp2_with fail
  have hR := rows_g4 w
  have hb0 : Below w.heap.size w (((((w.alloc (.cells #[.int .i64 1, .int .i64 2] 3)).alloc (.cells #[.int .i64 3] 3)).alloc (.cells #[.int .i64 3] 3)).alloc (.cells #[.int .i64 0] 3)).alloc
    (.cells #[.slice (some ⟨w.heap.size, 0, none⟩) 2 2, .slice (some ⟨w.heap.size + 1, 0, none⟩) 1 1, .slice (some ⟨w.heap.size + 1 + 1, 0, none⟩) 1 1, .slice (some ⟨w.heap.size + 1 + 1 + 1, 0, none⟩) 1 1] 23)) :=
    (((((Below.refl _ _).alloc (Nat.le_refl _) _).alloc (by simp) _).alloc (by simp; omega) _).alloc (by simp; omega) _).alloc (by simp; omega) _
  have hs0 : w.heap.size + 1 + 1 + 1 + 1 + 1 = (((((w.alloc (.cells #[.int .i64 1, .int .i64 2] 3)).alloc (.cells #[.int .i64 3] 3)).alloc (.cells #[.int .i64 3] 3)).alloc (.cells #[.int .i64 0] 3)).alloc
    (.cells #[.slice (some ⟨w.heap.size, 0, none⟩) 2 2, .slice (some ⟨w.heap.size + 1, 0, none⟩) 1 1, .slice (some ⟨w.heap.size + 1 + 1, 0, none⟩) 1 1, .slice (some ⟨w.heap.size + 1 + 1 + 1, 0, none⟩) 1 1] 23)).heap.size := by simp
  generalize (((((w.alloc (.cells #[.int .i64 1, .int .i64 2] 3)).alloc (.cells #[.int .i64 3] 3)).alloc (.cells #[.int .i64 3] 3)).alloc (.cells #[.int .i64 0] 3)).alloc
    (.cells #[.slice (some ⟨w.heap.size, 0, none⟩) 2 2, .slice (some ⟨w.heap.size + 1, 0, none⟩) 1 1, .slice (some ⟨w.heap.size + 1 + 1, 0, none⟩) 1 1, .slice (some ⟨w.heap.size + 1 + 1 + 1, 0, none⟩) 1 1] 23)) = W at *
  rw [hs0]
  clear hs0
  generalize Value.slice (some ⟨w.heap.size + 1 + 1 + 1 + 1, 0, none⟩) 4 4 = ev at *
  have hz : Own W.heap.size (W.alloc (.cells #[.int .i64 0] 3)) _ [0] := own_lit (Nat.le_refl _) [0] _ 1 rfl rfl (by omega)
  have hR1 := hR.below ((Below.refl W.heap.size W).alloc (Nat.le_refl _) (.cells #[.int .i64 0] 3))
  have Hb1 := Lib.hid (hb0.alloc hb0.size (.cells #[.int .i64 0] 3))
  refine (breadth_yes _ _ _ G4 [0] hR1 hz.ints (by decide +kernel) (by decide) (by decide +kernel)).mono ?_
  rintro e w1 ⟨r1, rfl, hown1, hbel1⟩
  have HR1 := Lib.hid (hR1.below hbel1)
  have Hown1 := Lib.hid (hown1.ints)
  have Hbe1 := Lib.hid (Hb1.out.trans (hbel1.mono Hb1.out.size))
  clear hR1 hown1 hbel1 hR hb0 hz Hb1
  go_wp2_with fail
  refine (post_yes _ _ _ G4 0 [] HR1.out (Own.nil 0 _).ints (by rintro n c h; simp at h; omega) (by decide +kernel) (by decide) (by decide +kernel)).mono ?_
  rintro e w2 ⟨r2, rfl, hown2, hbel2⟩
  have HR2 := Lib.hid (HR1.out.below hbel2)
  have Hown2 := Lib.hid (hown2.ints)
  have Hown12 := Lib.hid (Hown1.out.below hbel2)
  have Hbe2 := Lib.hid (Hbe1.out.trans (hbel2.mono Hbe1.out.size))
  clear hown2 hbel2 HR1 Hown1 Hbe1
  go_wp2_with fail
  have hz : Own w2.heap.size (w2.alloc (.cells #[.int .i64 1] 3)) _ [1] := own_lit (Nat.le_refl _) [1] _ 1 rfl rfl (by omega)
  have ha2 := (Below.refl w2.heap.size w2).alloc (Nat.le_refl _) (.cells #[.int .i64 1] 3)
  refine (post_yes _ _ _ G4 0 [1] (HR2.out.below ha2) hz.ints (by rintro n c h; simp at h) (by decide +kernel) (by decide) (by decide +kernel)).mono ?_
  rintro e w3 ⟨r3, rfl, hown3, hbel3⟩
  have hbel23 : Below w2.heap.size w2 w3 := ha2.trans (hbel3.mono (by simp))
  have Hown3 := Lib.hid (hown3.ints)
  have Hown13 := Lib.hid (Hown12.out.below hbel23)
  have Hown23 := Lib.hid (Hown2.out.below hbel23)
  have Hbe3 := Lib.hid (Hbe2.out.trans (hbel23.mono Hbe2.out.size))
  clear hown3 hbel3 HR2 Hown12 Hown2 Hbe2 hz ha2 hbel23
  go_wp2_with fail
  have hz1 : Own w3.heap.size (w3.alloc (.cells #[.int .i64 0, .int .i64 1, .int .i64 2, .int .i64 3] 3)) _ [0, 1, 2, 3] := own_lit (Nat.le_refl _) [0, 1, 2, 3] _ 4 rfl rfl (by omega)
  refine (same_yes _ _ _ _ [0, 1, 2, 3] (Hown13.out.below ((Below.refl _ _).alloc (Nat.le_refl _) _)) hz1.ints g4_b).mono ?_
  rintro e w4 ⟨rfl, m, rfl⟩
  clear hz1
  go_wp2_with fail
  have hba : Below w3.heap.size w3 (((w3.alloc (.cells #[.int .i64 0, .int .i64 1, .int .i64 2, .int .i64 3] 3)).drewN m).alloc (.cells #[.int .i64 3, .int .i64 1, .int .i64 2, .int .i64 0] 3)) :=
    (below_drewN ((Below.refl _ _).alloc (Nat.le_refl _) _) m).alloc (by simp) _
  have hz2 : Own 0 (((w3.alloc (.cells #[.int .i64 0, .int .i64 1, .int .i64 2, .int .i64 3] 3)).drewN m).alloc (.cells #[.int .i64 3, .int .i64 1, .int .i64 2, .int .i64 0] 3)) _ [3, 1, 2, 0] := own_lit (Nat.zero_le _) [3, 1, 2, 0] _ 4 rfl rfl (by omega)
  simp only [World.heap_drewN, World.size_alloc] at hz2
  refine (same_yes _ _ _ _ [3, 1, 2, 0] (Hown23.out.below hba) hz2.ints g4_p).mono ?_
  rintro e w5 ⟨rfl, m2, rfl⟩
  clear hz2
  go_wp2_with fail
  have hz3 : Own 0 (((((w3.alloc (.cells #[.int .i64 0, .int .i64 1, .int .i64 2, .int .i64 3] 3)).drewN m).alloc (.cells #[.int .i64 3, .int .i64 1, .int .i64 2, .int .i64 0] 3)).drewN m2).alloc (.cells #[.int .i64 3, .int .i64 2, .int .i64 0] 3)) _ [3, 2, 0] := own_lit (Nat.zero_le _) [3, 2, 0] _ 3 rfl rfl (by omega)
  simp only [World.heap_drewN, World.size_alloc] at hz3
  refine (same_yes _ _ _ _ [3, 2, 0] (Hown3.out.below ((below_drewN hba m2).alloc (by simp; omega) _)) hz3.ints g4_q).mono ?_
  rintro e w6 ⟨rfl, m3, rfl⟩
  clear hz3
  go_wp2
  go_ret
  exact ⟨rfl, Hbe3.out.trans (below_drewN (((below_drewN hba m2).alloc (by simp; omega) _).mono Hbe3.out.size) m3)⟩

end Go.Proofs.Ytjnahiomnaedeaa
