/- Lemmas that the claim is proved from: what calls of functions of the program come to (contracts), and plain laws. Each lemma bears its own conditions. -/
import Derived.Lib.IndexMore
import Derived.Lib.Strings
import Derived.Lib.UnsafeStr
namespace Go.Proofs.YtmckjdopplchbaaDoor
set_option linter.unusedVariables false
set_option linter.unusedSimpArgs false
open Go.RowKit

def wORIGIN : List UInt8 := [79, 82, 73, 71, 73, 78]
def wLIB : List UInt8 := [76, 73, 66]
def wlib : List UInt8 := [108, 105, 98]

/-- what a text becomes, k of its bytes being passed over first -/
def exp (o : List UInt8) : Nat → List UInt8 → Option (List UInt8)
  | _, [] => some []
  | k + 1, _ :: l => exp o k l
  | 0, c :: l =>
    if c ≠ 36 then (exp o 0 l).map (c :: ·)
    else if wORIGIN.isPrefixOf l then (exp o 6 l).map (o ++ ·)
    else if wLIB.isPrefixOf l then (exp o 3 l).map (wlib ++ ·)
    else none

theorem exp_nil (o : List UInt8) (k : Nat) : exp o k [] = some [] := by cases k <;> rfl
theorem exp_drop (o : List UInt8) : ∀ (l : List UInt8) (k : Nat), exp o k l = exp o 0 (l.drop k)
  | [], k => by simp [exp_nil]
  | c :: l, 0 => rfl
  | c :: l, k + 1 => by simp [exp]; exact exp_drop o l k
theorem exp_other (o : List UInt8) (c : UInt8) (l : List UInt8) (h : c ≠ 36) : exp o 0 (c :: l) = (exp o 0 l).map (c :: ·) := by simp [exp, h]
theorem exp_origin (o l : List UInt8) (h : wORIGIN.isPrefixOf l = true) : exp o 0 (36 :: l) = (exp o 0 (l.drop 6)).map (o ++ ·) := by
  rw [exp, if_neg (by simp), if_pos h, exp_drop]
theorem exp_lib (o l : List UInt8) (h : wORIGIN.isPrefixOf l = false) (h' : wLIB.isPrefixOf l = true) : exp o 0 (36 :: l) = (exp o 0 (l.drop 3)).map (wlib ++ ·) := by
  rw [exp, if_neg (by simp), if_neg (by simp [h]), if_pos h', exp_drop]
theorem exp_bad (o l : List UInt8) (h : wORIGIN.isPrefixOf l = false) (h' : wLIB.isPrefixOf l = false) : exp o 0 (36 :: l) = none := by
  rw [exp, if_neg (by simp), if_neg (by simp [h]), if_neg (by simp [h'])]
theorem exp_head (o : List UInt8) : ∀ (h r : List UInt8), 36 ∉ h → exp o 0 (h ++ r) = (exp o 0 r).map (h ++ ·)
  | [], r, _ => by simp
  | c :: h, r, hn => by
    simp only [List.mem_cons, not_or] at hn
    rw [List.cons_append, exp_other _ _ _ (fun e => hn.1 e.symm), exp_head o h r hn.2]
    cases exp o 0 r <;> simp
theorem exp_plain (o h : List UInt8) (hn : 36 ∉ h) : exp o 0 h = some h := by
  have := exp_head o h [] hn
  simpa [exp_nil] using this

def fin (r : Option (List UInt8)) : List UInt8 × Int :=
  match r with
  | none => ([], 110)
  | some x => if x.length ≤ 200 then (x, 0) else ([], 2)
def expandL (text o : List UInt8) : List UInt8 × Int := if text.length ≤ 200 then fin (exp o 0 text) else ([], 2)

/-- what strings.Cut at the dollar's byte gives -/
theorem cut_dollar (l : List UInt8) (c : UInt8) :
    (∃ h t, l = h ++ c :: t ∧ c ∉ h ∧ Lib.cut l [c] = (h, t, true)) ∨ (c ∉ l ∧ Lib.cut l [c] = (l, [], false)) := by
  have key : ∀ j, Lib.occAt l [c] j = true ↔ l[j]? = some c := by
    intro j
    unfold Lib.occAt
    rw [List.isPrefixOf_iff_prefix]
    constructor
    · rintro ⟨t, ht⟩
      have := congrArg (·[0]?) ht
      simpa using this.symm
    · intro h
      refine ⟨l.drop (j + 1), ?_⟩
      obtain ⟨h1, h2⟩ := List.getElem?_eq_some_iff.1 h
      rw [List.drop_eq_getElem_cons h1, h2]
      rfl
  rcases Lib.index_spec l [c] with ⟨h1, h2⟩ | ⟨i, h1, h2, h3, h4⟩
  · right
    refine ⟨fun hm => ?_, by simp [Lib.cut, h1]⟩
    obtain ⟨j, hj, hc⟩ := List.getElem_of_mem hm
    have := (key j).2 (by simp [hj, hc])
    rw [h2 j (by omega)] at this
    exact absurd this (by simp)
  · left
    have hi := (key i).1 h3
    obtain ⟨hi1, hi2⟩ := List.getElem?_eq_some_iff.1 hi
    refine ⟨l.take i, l.drop (i + 1), ?_, fun hm => ?_, by simp [Lib.cut, h1]⟩
    · rw [← hi2, ← List.drop_eq_getElem_cons hi1, List.take_append_drop]
    · obtain ⟨j, hj, hc⟩ := List.getElem_of_mem hm
      simp only [List.length_take] at hj
      rw [List.getElem_take] at hc
      have := (key j).2 (List.getElem?_eq_some_iff.2 ⟨by omega, hc⟩)
      rw [h4 j (by omega)] at this
      exact absurd this (by simp)

end Go.Proofs.YtmckjdopplchbaaDoor
