import Derived.Test.YtbjddfeihhdpoaaGreatDoorVi
import Derived.Test.YtbjddfeihhdpoaaGreatDoorVj
import Derived.Test.YtbjddfeihhdpoaaGreatDoorVk
import Derived.Test.YtbjddfeihhdpoaaGreatDoorVl
import Derived.Test.YtbjddfeihhdpoaaGreatDoorVm
import Derived.Below
set_option linter.unusedVariables false
set_option linter.unusedSimpArgs false
namespace Go.Proofs.YtbjddfeihhdpoaaGreatDoor
open Go

theorem chkR_ok {r : Option (EX × T AT × AH)} (e : chkR r = true) : ∃ F h, r = some (.ret, F, h) ∧ resultsA Tryz.prog Tryz.f3 F h = some (.o (.c (.v (.bool true)))) := by
  unfold chkR at e
  split at e
  · rename_i F h
    split at e
    · rename_i hr; exact ⟨F, h, rfl, hr⟩
    · cases e
  · cases e
/-- the whole law: it answers true -/
theorem full_trip (n0 : Nat) (hn : n0 < 256) : ∃ F h, Trip n0 50 c3 F0 H0 .ret F h ∧ resultsA Tryz.prog Tryz.f3 F h = some (.o (.c (.v (.bool true)))) := by
  obtain ⟨F, h, e9, hr⟩ := chkR_ok k9
  refine ⟨F, h, ?_, hr⟩
  have t9 : Trip n0 50 q7 (fOf s6F) (hOf s6n s6H) .ret F h := Trip.of_eval d7 (Nat.le_refl _) e9
  have e8 : l2 n0 = true := by
    have h4 : n0 / 64 < 4 := by omega
    have hi : n0 = 64 * (n0 / 64) + n0 % 64 := by omega
    have hm : n0 % 64 < 64 := by omega
    have hc : n0 / 64 = 0 ∨ n0 / 64 = 1 ∨ n0 / 64 = 2 ∨ n0 / 64 = 3 := by omega
    rcases hc with hc | hc | hc | hc <;> rw [hc] at hi
    · have := allN_ok k8_0 (n0 % 64) hm; rw [hi]; exact this
    · have := allN_ok k8_1 (n0 % 64) hm; rw [hi]; exact this
    · have := allN_ok k8_2 (n0 % 64) hm; rw [hi]; exact this
    · have := allN_ok k8_3 (n0 % 64) hm; rw [hi]; exact this
  have t8 : Trip n0 50 (.seq p6 q7) (fOf s5F) (hOf s5n s5H) .ret F h := Trip.num (t := 1) rfl (Trip.then d6 (Nat.le_refl _) e8 t9)
  have t7 : Trip n0 50 (.seq p5 (.seq p6 q7)) (fOf s4F) (hOf s4n s4H) .ret F h := Trip.then d5 (Nat.le_refl _) k7 t8
  obtain ⟨F1, h1, l6, t6⟩ := Trip.last (n0 := n0) d4b (Nat.le_refl _) k6 t7
  have m7 := LTrip.then d4b (Nat.le_refl _) k5_7 l6
  have m6 := LTrip.then d4b (Nat.le_refl _) k5_6 m7
  have m5 := LTrip.then d4b (Nat.le_refl _) k5_5 m6
  have m4 := LTrip.then d4b (Nat.le_refl _) k5_4 m5
  have m3 := LTrip.then d4b (Nat.le_refl _) k5_3 m4
  have m2 := LTrip.then d4b (Nat.le_refl _) k5_2 m3
  have m1 := LTrip.then d4b (Nat.le_refl _) k5_1 m2
  have m0 := LTrip.then d4b (Nat.le_refl _) k5_0 m1
  have t4 : Trip n0 50 (.seq p4 (.block 0 (.loop b4))) (fOf s2F) (hOf s2n s2H) .normal F1 h1 := Trip.then d4 (Nat.le_refl _) k4 m0.block
  rw [shape3]
  exact Trip.then d0 (Nat.le_refl _) k0 (Trip.then d1 (Nat.le_refl _) k1 (Trip.then d2 (Nat.le_refl _) k2 (Trip.then d3 (Nat.le_refl _) k3 (t4.seq t6))))
/-- WorldFull, called: whatever the setup's cells and the act's are -/
theorem full_any (w : World) {n0 : Nat} {ss aa : Array Value} (hn : n0 < 256) (hs : ss.size = 4) (hs1 : ∀ v ∈ ss.toList, v.oneCell' = true) (ha : aa.size = 7) (ha1 : ∀ v ∈ aa.toList, v.oneCell' = true) :
    Calls Tryz.prog 3 #[.agg ss, .int .u8 n0, .agg aa] w fun e w' => e = .returned (.bool true) ∧ RowKit.Below w.heap.size w w' := by
  obtain ⟨F, h, tr, hr⟩ := full_trip n0 hn
  have huk : ∀ (l : List Value) (ι : Map), (∀ v ∈ l, v.oneCell' = true) → All2 (AC.den ι) (List.replicate l.length .uk) l := by
    intro l ι
    induction l with
    | nil => intro _; trivial
    | cons v l ih => exact fun hv => ⟨hv v (List.mem_cons_self ..), ih fun u hu => hv u (List.mem_cons_of_mem _ hu)⟩
  have hι : (fun b => if b = 0 then some (n0, 0) else none : Map) 0 = some (n0, 0) := rfl
  have R : Rel (fun b => if b = 0 then some (n0, 0) else none) H0 w := ⟨fun b k hb => by (rw [show H0.t = .e from rfl, T.get_e] at hb; cases hb), fun b c k j r y z hb => by (rw [show H0.t = .e from rfl, T.get_e] at hb; cases hb), fun b hb => by
    have hb : 1 ≤ b := hb
    rw [if_neg (by omega)]⟩
  refine (callsIn_wide (n := 0)).1 (callsIn_of_wp Tryz.func3 body3 trivial ?_)
  refine tr 0 _ [] _ _ w hι R ⟨bind_rel (vs := #[.agg ss, .int .u8 n0, .agg aa]) _ ⟨⟨ss.toList, rfl, ?_⟩, ⟨n0, 0, rfl, rfl⟩, ⟨aa.toList, rfl, ?_⟩, trivial⟩, by kernel_rfl, rfl⟩ fun κ a1 w1 hE R1 K1 r1 => ?_
  · have := huk ss.toList (fun b => if b = 0 then some (n0, 0) else none) hs1
    rw [Array.length_toList, hs] at this
    exact this
  · have := huk aa.toList (fun b => if b = 0 then some (n0, 0) else none) ha1
    rw [Array.length_toList, ha] at this
    exact this
  · obtain ⟨u, h1, h2⟩ := resultsA_ok R1 r1.frm hr
    obtain ⟨rfl, _⟩ := h2
    refine ⟨r1.defs, _, h1, rfl, K1.2.2.2.1, K1.2.2.2.2.1, K1.2.2.2.2.2, K1.1.1, fun k hk => (K1.1.2 k hk fun ⟨b, j, z, hb, _⟩ => ?_).1⟩
    rw [show H0.t = .e from rfl, T.get_e] at hb; cases hb
end Go.Proofs.YtbjddfeihhdpoaaGreatDoor
