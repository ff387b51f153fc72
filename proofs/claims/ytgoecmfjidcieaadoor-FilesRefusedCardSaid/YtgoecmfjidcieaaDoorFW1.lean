/- Lemmas that the claim is proved from: what calls of functions of the program come to (contracts), and plain laws. Each lemma bears its own conditions. -/
import Derived.Test.YtgoecmfjidcieaaDoorSMem
import Derived.Test.YtgoecmfjidcieaaDoorFPlain
import Derived.Laws.IdiomStrings
import Derived.BigQuiet
namespace Go.Proofs.YtgoecmfjidcieaaDoor
set_option linter.unusedVariables false
set_option linter.unusedSimpArgs false
open Go.RowKit

set_option maxHeartbeats 2000000 in
set_option maxRecDepth 100000 in
theorem letter_any (w : World) (c : UInt8) :
    Calls Tryd.prog 50 #[.int .u8 c.toNat] w fun e w' => e = .returned (.bool (letterB c)) ∧ w' = w := by
  unfold letterB letterN
  generalize (c.toNat : Int) = n
  go_enter Tryd.func50, Tryd.ntmps50
  go_wp2
  all_goals go_ret
  all_goals (refine ⟨?_, rfl⟩; refine congrArg (fun b => Ending.returned (Value.bool b)) (?_ : _ = _); (rw [Bool.eq_iff_iff] <;> simp <;> omega))

theorem size_mk' (l : List UInt8) : ByteArray.size ⟨l.toArray⟩ = l.length := by simp [ByteArray.size]
theorem all_take_succ (p : List UInt8) (k : Nat) (h : k < p.length) (ha : (p.take k).all letterB = true) (hc : letterB p[k] = true) : (p.take (k + 1)).all letterB = true := by
  rw [List.take_succ_eq_append_getElem h, List.all_append, ha]
  simp [hc]
theorem right_no (p : List UInt8) (k : Nat) (h : k < p.length) (hc : letterB p[k] = false) : rightB p = false := by
  have : p.all letterB = false := by
    rw [List.all_eq_false]
    exact ⟨p[k], List.getElem_mem h, by simp [hc]⟩
  simp [rightB, this]

set_option maxHeartbeats 4000000 in
set_option maxRecDepth 100000 in
theorem right_any (w : World) (p : List UInt8) (hp : p.length ≤ 1000000) :
    Calls Tryd.prog 47 #[.string ⟨p.toArray⟩] w fun e w' => e = .returned (.bool (rightB p)) ∧ Below w.heap.size w w' := by
  have hsz := size_mk' p
  have hconv := run_bytes_of_string (P := Tryd.prog) w 9 28 5 ⟨p.toArray⟩ Tryd.underlying9 Tryd.underlying28 Tryd.underlying5
  rw [hsz] at hconv
  have Hcells : Hid (∀ k (h : k < p.length), (w.drew.alloc (.cells (bytesRow ⟨p.toArray⟩ (grownCap w p.length 0 5)) 5 ((bytesRow ⟨p.toArray⟩ (grownCap w p.length 0 5)).size, (bytesRow ⟨p.toArray⟩ (grownCap w p.length 0 5)).size + 1))).cell? ⟨w.heap.size, k, none⟩ = some (.int .u8 p[k].toNat)) := Lib.hid (by
    intro k h
    have hh : (w.drew.alloc (.cells (bytesRow ⟨p.toArray⟩ (grownCap w p.length 0 5)) 5 ((bytesRow ⟨p.toArray⟩ (grownCap w p.length 0 5)).size, (bytesRow ⟨p.toArray⟩ (grownCap w p.length 0 5)).size + 1))).heap[w.heap.size]? = _ := heap_alloc_new w.drew _
    simp only [World.cell?, hh]
    exact bytesRow_at ⟨p.toArray⟩ _ k (by simpa using h))
  have Hbel : Hid (Below w.heap.size w (w.drew.alloc (.cells (bytesRow ⟨p.toArray⟩ (grownCap w p.length 0 5)) 5 ((bytesRow ⟨p.toArray⟩ (grownCap w p.length 0 5)).size, (bytesRow ⟨p.toArray⟩ (grownCap w p.length 0 5)).size + 1)))) := Lib.hid (((Below.refl _ w).drew).alloc (Nat.le_refl _) _)
  generalize (w.drew.alloc (.cells (bytesRow ⟨p.toArray⟩ (grownCap w p.length 0 5)) 5 ((bytesRow ⟨p.toArray⟩ (grownCap w p.length 0 5)).size, (bytesRow ⟨p.toArray⟩ (grownCap w p.length 0 5)).size + 1))) = w1 at *
  generalize grownCap w p.length 0 5 = gc at *
  go_enter Tryd.func47, Tryd.ntmps47
  go_wp2_with fail
  go_loop [8] (fun i => ∃ k : Nat, k ≤ p.length ∧ i = .int .i64 k ∧ (p.take k).all letterB = true) (fun i => p.length - (intOf i).toNat)
  case atStart => exact ⟨0, Nat.zero_le _, rfl, by simp⟩
  case round =>
    obtain ⟨k, hk, rfl, hall⟩ := hrel
    have Hall := Lib.hid hall
    clear hall hconv
    by_cases hlt : k < p.length
    · have g := Hcells.out k hlt
      obtain ⟨c, hcx⟩ : ∃ c, p[k] = c := ⟨_, rfl⟩
      rw [hcx] at g
      have Hyes : Hid (letterB c = true → (p.take (k + 1)).all letterB = true) := Lib.hid (fun h => all_take_succ p k hlt Hall.out (by rw [hcx]; exact h))
      have Hno : Hid (letterB c = false → rightB p = false) := Lib.hid (fun h => right_no p k hlt (by rw [hcx]; exact h))
      have Hdef : Hid (letterB c = letterN c.toNat) := Lib.hid rfl
      clear hcx
      generalize (c.toNat : Int) = n at *
      generalize letterB c = bl at *
      cases bl with
      | true =>
        have Hy := Lib.hid (Hyes.out rfl)
        clear Hyes Hno
        go_wp2
        all_goals try (exfalso; have := Hdef.out; simp [letterN] at this; (try simp only [beq_eq_false_iff_ne, bne_eq_false_iff_eq, beq_iff_eq, ne_eq] at *); omega)
        all_goals go_round
        all_goals first | exact ⟨k + 1, by omega, by go_num, Hy.out⟩ | (simp [intOf]; done) | (simp [intOf]; omega)
      | false =>
        have Hn := Lib.hid (Hno.out rfl)
        clear Hyes Hno
        go_wp2
        all_goals try (exfalso; have := Hdef.out; simp [letterN] at this; (try simp only [beq_eq_false_iff_ne, bne_eq_false_iff_eq, beq_iff_eq, ne_eq] at *); omega)
        all_goals go_ret
        all_goals exact ⟨by rw [Hn.out]; rfl, Hbel.out⟩
    · have hall : p.all letterB = true := by have := Hall.out; rw [List.take_of_length_le (by omega)] at this; exact this
      have hr : rightB p = decide (p.length ≤ 64) := by simp [rightB, hall]
      have Hr := Lib.hid hr
      clear hr hall
      go_wp2
      go_ret
      exact ⟨by rw [Hr.out]; simp; omega, Hbel.out⟩

end Go.Proofs.YtgoecmfjidcieaaDoor
