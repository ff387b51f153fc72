/- the document's examples, plain -/
import Derived.Test.YtgoecmfjidcieaaDoorFSA
namespace Go.Proofs.YtgoecmfjidcieaaDoor
set_option linter.unusedVariables false
set_option linter.unusedSimpArgs false

def walkF (N : List UInt8 → Option NodeL) (last : Bool) : Nat → List (List UInt8) → List UInt8 → Nat → Option (List UInt8 × Int)
  | 0, _, _, _ => none
  | _ + 1, [], a, _ => some (a, 0)
  | f + 1, p :: r, a, k =>
    if p = [46, 46] then walkF N last f r (upL a) k
    else match N (joinL a p) with
      | none => some (if r = [] then (joinL a p, 31) else ([], 31))
      | some n =>
        if n.kind = 3 ∧ (last = true ∨ r ≠ []) then
          if 8 ≤ k then some ([], 35)
          else walkF N last f ((partsL n.dest).getD [] ++ r) (if n.dest.head? = some 47 then [47] else a) (k + 1)
        else if n.kind ≠ 2 ∧ r ≠ [] then some ([], 34)
        else walkF N last f r (joinL a p) k
theorem walkF_eq (N : List UInt8 → Option NodeL) (last : Bool) : ∀ (f : Nat) (todo : List (List UInt8)) (a : List UInt8) (k : Nat) (x : List UInt8 × Int), walkF N last f todo a k = some x → walkL N last todo a k = x
  | 0, _, _, _, _, h => by cases h
  | f + 1, [], a, k, x, h => by rw [walkL_nil]; exact Option.some.inj h
  | f + 1, p :: r, a, k, x, h => by
    rw [walkF] at h
    by_cases h1 : p = [46, 46]
    · rw [if_pos h1] at h
      subst h1
      rw [walkL_up]
      exact walkF_eq N last f _ _ _ _ h
    · rw [if_neg h1] at h
      cases hn : N (joinL a p) with
      | none =>
        rw [hn] at h
        rw [walkL_none h1 hn]
        exact Option.some.inj h
      | some n =>
        rw [hn] at h
        simp only at h
        by_cases h2 : n.kind = 3 ∧ (last = true ∨ r ≠ [])
        · rw [if_pos h2] at h
          by_cases h3 : 8 ≤ k
          · rw [if_pos h3] at h
            rw [walkL_loop h1 hn h2.1 h2.2 h3]
            exact Option.some.inj h
          · rw [if_neg h3] at h
            rw [walkL_link h1 hn h2.1 h2.2 h3]
            exact walkF_eq N last f _ _ _ _ h
        · rw [if_neg h2] at h
          by_cases h4 : n.kind ≠ 2 ∧ r ≠ []
          · rw [if_pos h4] at h
            rw [walkL_file h1 hn h2 h4.1 h4.2]
            exact Option.some.inj h
          · rw [if_neg h4] at h
            rw [walkL_on h1 hn h2 h4]
            exact walkF_eq N last f _ _ _ _ h

def ex1 : StL := (StL.new.put [47, 120] ⟨1, 1, [98], []⟩).up
def ex2 : StL := (ex1.put [47, 120] ⟨1, 2, [99], []⟩).up
def ex3 : StL := ex2.put [47, 100] ⟨2, 0, [], []⟩
def ex4 : StL := ex3.put [47, 100, 47, 108] ⟨3, 0, [], [46, 46, 47, 120]⟩
def ex5 : StL := ex4.put [47, 108] ⟨3, 0, [], [108]⟩

theorem place_of {st : StL} {path : List UInt8} {l : List (List UInt8)} {p : List UInt8} {e : Int} {n : NodeL} (ha : absL path = some l) (hl : ¬ (l = [] ∨ l.getLast? = some [46, 46])) (hw : walkF st.has false 40 l [47] 0 = some (p, e)) (hp : p ≠ []) (hn : st.get p = n) :
    placeL st path = (p, n, 0) := by
  rw [placeL, ha]
  simp only
  rw [if_neg hl, walkF_eq _ _ _ _ _ _ _ hw, if_neg (fun h => hp h.2), hn]
theorem real_of {st : StL} {path : List UInt8} {l : List (List UInt8)} {p : List UInt8} (ha : absL path = some l) (hw : walkF st.has true 40 l [47] 0 = some (p, 0)) : realL st path = (p, 0) := by
  rw [realL, ha]
  simp only
  rw [walkF_eq _ _ _ _ _ _ _ hw, if_pos rfl]
theorem real_not {st : StL} {path : List UInt8} {l : List (List UInt8)} {p : List UInt8} {e : Int} (ha : absL path = some l) (hw : walkF st.has true 40 l [47] 0 = some (p, e)) (he : e ≠ 0) : realL st path = ([], e) := by
  rw [realL, ha]
  simp only
  rw [walkF_eq _ _ _ _ _ _ _ hw, if_neg he]

theorem ax : absL [47, 120] = some [[120]] := by decide
theorem ad : absL [47, 100] = some [[100]] := by decide
theorem adl : absL [47, 100, 47, 108] = some [[100], [108]] := by decide
theorem al : absL [47, 108] = some [[108]] := by decide

theorem put1 : putL StL.new [47, 120] [98] = (0, ex1) := by
  have h : placeL StL.new [47, 120] = ([47, 120], NodeL.zero, 0) := place_of ax (by decide) (e := 31) (by kernel_rfl) (by simp) (by kernel_rfl)
  unfold putL
  rw [h]
  rfl
theorem put2 : putL ex1 [47, 120] [99] = (0, ex2) := by
  have h : placeL ex1 [47, 120] = ([47, 120], ⟨1, 1, [98], []⟩, 0) := place_of ax (by decide) (e := 0) (by kernel_rfl) (by simp) (by kernel_rfl)
  unfold putL
  rw [h]
  rfl
theorem find3 : fileL ex2 [47, 120] = (⟨1, 2, [99], []⟩, 0) := by
  have h : realL ex2 [47, 120] = ([47, 120], 0) := real_of ax (by kernel_rfl)
  unfold fileL
  rw [h]
  rfl
theorem mkdir4 : mkdirL ex2 [47, 100] = (0, ex3) := by
  have h : placeL ex2 [47, 100] = ([47, 100], NodeL.zero, 0) := place_of ad (by decide) (e := 31) (by kernel_rfl) (by simp) (by kernel_rfl)
  unfold mkdirL
  rw [h]
  rfl
theorem sym5 : symL ex3 [47, 100, 47, 108] [46, 46, 47, 120] = (0, ex4) := by
  have h : placeL ex3 [47, 100, 47, 108] = ([47, 100, 47, 108], NodeL.zero, 0) := place_of adl (by decide) (e := 31) (by kernel_rfl) (by simp) (by kernel_rfl)
  unfold symL
  rw [h]
  rfl
theorem read6 : readL ex4 [47, 100, 47, 108] = ([99], 0) := by
  have h : realL ex4 [47, 100, 47, 108] = ([47, 120], 0) := real_of adl (by kernel_rfl)
  unfold readL fileL
  rw [h]
  rfl
theorem sym7 : symL ex4 [47, 108] [108] = (0, ex5) := by
  have h : placeL ex4 [47, 108] = ([47, 108], NodeL.zero, 0) := place_of al (by decide) (e := 31) (by kernel_rfl) (by simp) (by kernel_rfl)
  unfold symL
  rw [h]
  rfl
theorem read8 : readL ex5 [47, 108] = ([], 35) := by
  have h : realL ex5 [47, 108] = ([], 35) := real_not (p := []) al (by kernel_rfl) (by decide)
  unfold readL fileL
  rw [h]
  rfl

end Go.Proofs.YtgoecmfjidcieaaDoor
