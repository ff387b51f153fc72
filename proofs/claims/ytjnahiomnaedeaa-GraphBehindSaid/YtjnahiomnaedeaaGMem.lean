/-
  Words on memory that the walks of this seat share: what a slice of ints, and a slice of such slices, reads as; and small laws on lists.
-/
import Derived.WalkKit
import Derived.Lib.Hide
import Derived.OneCell
import Derived.Deep.OwnRows
namespace Go.Proofs.Ytjnahiomnaedeaa
set_option linter.unusedVariables false
set_option linter.unusedSimpArgs false
open Go.RowKit

/-- element i of a list of ints, behind a name that simp leaves alone -/
def nth (xs : List Int) (i : Nat) : Int := xs.getD i 0
def row (g : List (List Int)) (i : Nat) : List Int := g.getD i []

/-- In w the slice value v reads as the ints xs. -/
def Ints (w : World) (v : Value) (xs : List Int) : Prop :=
  ∃ (a : Option Addr) (b off cap : Nat), v = .slice a xs.length cap ∧ xs.length ≤ 9223372036854775807 ∧ (0 < xs.length → a = some ⟨b, off, none⟩) ∧
    ∀ i, i < xs.length → w.cell? ⟨b, off + i, none⟩ = some (.int .i64 (nth xs i))

/-- In w the value v is a slice of slices of ints that reads as g. -/
def IntRows (w : World) (v : Value) (g : List (List Int)) : Prop :=
  ∃ (a : Option Addr) (b off cap : Nat), v = .slice a g.length cap ∧ g.length ≤ 9223372036854775807 ∧ (0 < g.length → a = some ⟨b, off, none⟩) ∧
    ∀ i, i < g.length → ∃ rv, w.cell? ⟨b, off + i, none⟩ = some rv ∧ Ints w rv (row g i)

theorem nth_eq (xs : List Int) (i : Nat) (h : i < xs.length) : nth xs i = xs[i] := by simp [nth, List.getD, h]
theorem row_eq (g : List (List Int)) (i : Nat) (h : i < g.length) : row g i = g[i] := by simp [row, List.getD, h]
theorem nth_mem (xs : List Int) (i : Nat) (h : i < xs.length) : nth xs i ∈ xs := by rw [nth_eq xs i h]; exact List.getElem_mem h
theorem row_mem (g : List (List Int)) (i : Nat) (h : i < g.length) : row g i ∈ g := by rw [row_eq g i h]; exact List.getElem_mem h

theorem take_succ_nth (xs : List Int) (k : Nat) (h : k < xs.length) : xs.take (k + 1) = xs.take k ++ [nth xs k] := by
  rw [List.take_succ_eq_append_getElem h, nth_eq xs k h]
theorem take_succ_row (g : List (List Int)) (k : Nat) (h : k < g.length) : g.take (k + 1) = g.take k ++ [row g k] := by
  rw [List.take_succ_eq_append_getElem h, row_eq g k h]

theorem all_end {α : Type} (xs : List α) (p : α → Bool) (k : Nat) (hk : ¬ k < xs.length) (h : (xs.take k).all p = true) : xs.all p = true := by
  rwa [List.take_of_length_le (by omega)] at h
theorem all_step_nth (xs : List Int) (p : Int → Bool) (k : Nat) (hk : k < xs.length) (h : (xs.take k).all p = true) (h' : p (nth xs k) = true) : (xs.take (k + 1)).all p = true := by
  rw [take_succ_nth xs k hk, List.all_append, h]; simp [h']
theorem all_step_row (g : List (List Int)) (p : List Int → Bool) (k : Nat) (hk : k < g.length) (h : (g.take k).all p = true) (h' : p (row g k) = true) : (g.take (k + 1)).all p = true := by
  rw [take_succ_row g k hk, List.all_append, h]; simp [h']
theorem all_no_nth (xs : List Int) (p : Int → Bool) (k : Nat) (hk : k < xs.length) (h' : p (nth xs k) = false) : xs.all p = false := by
  rw [List.all_eq_false]; exact ⟨_, nth_mem xs k hk, by simp [h']⟩
theorem all_no_row (g : List (List Int)) (p : List Int → Bool) (k : Nat) (hk : k < g.length) (h' : p (row g k) = false) : g.all p = false := by
  rw [List.all_eq_false]; exact ⟨_, row_mem g k hk, by simp [h']⟩

/-- What reads so reads so behind whatever leaves old memory as it was. -/
theorem Ints.below {w w' : World} {v : Value} {xs : List Int} (h : Ints w v xs) (hb : Below w.heap.size w w') : Ints w' v xs := by
  obtain ⟨a, b, off, cap, hv, hm, ha, hc⟩ := h
  exact ⟨a, b, off, cap, hv, hm, ha, fun i hi => by rw [hb.cell (p := ⟨b, off + i, none⟩) (World.block_lt_of_cell? _ _ (hc i hi))]; exact hc i hi⟩
theorem IntRows.below {w w' : World} {v : Value} {g : List (List Int)} (h : IntRows w v g) (hb : Below w.heap.size w w') : IntRows w' v g := by
  obtain ⟨a, b, off, cap, hv, hm, ha, hc⟩ := h
  refine ⟨a, b, off, cap, hv, hm, ha, fun i hi => ?_⟩
  obtain ⟨rv, h1, h2⟩ := hc i hi
  exact ⟨rv, by rw [hb.cell (p := ⟨b, off + i, none⟩) (World.block_lt_of_cell? _ _ h1)]; exact h1, h2.below hb⟩

/-! plain functions -/
def okNode (n : Nat) (x : Int) : Bool := decide (0 ≤ x ∧ x < n)
def nodesB (n : Nat) (l : List Int) : Bool := l.all (okNode n)
def rightB (g : List (List Int)) : Bool := decide (g.length ≤ 256) && g.all (nodesB g.length)

theorem okNode_no_lt {n : Nat} {x : Int} (h : x < 0) : okNode n x = false := by simp [okNode]; omega
theorem okNode_no_ge {n : Nat} {x : Int} (h : (n : Int) ≤ x) : okNode n x = false := by simp [okNode]; omega
theorem okNode_yes {n : Nat} {x : Int} (h : 0 ≤ x) (h' : x < n) : okNode n x = true := by simp [okNode]; omega

end Go.Proofs.Ytjnahiomnaedeaa
