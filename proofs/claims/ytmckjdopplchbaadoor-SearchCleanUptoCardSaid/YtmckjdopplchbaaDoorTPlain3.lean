/- Lemmas that the claim is proved from: what calls of functions of the program come to (contracts), and plain laws. Each lemma bears its own conditions. -/
import Derived.Test.YtmckjdopplchbaaDoorTPlain2
import Derived.Lib.Join
namespace Go.Proofs.YtmckjdopplchbaaDoor
set_option linter.unusedVariables false
set_option linter.unusedSimpArgs false
open Go.RowKit

def nz (xs : List (List UInt8)) : List (List UInt8) := xs.filter (fun x => decide (x ≠ []))
def joinL : List (List UInt8) → List UInt8
  | [] => []
  | [x] => x
  | x :: y :: r => x ++ 58 :: joinL (y :: r)
theorem joinL_eq : ∀ xs : List (List UInt8), Lib.join xs [58] = joinL xs
  | [] => rfl
  | [x] => by simp [Lib.join, joinL, List.intercalate]
  | x :: y :: r => by
    have ih := joinL_eq (y :: r)
    simp only [Lib.join, List.intercalate, List.intersperse_cons_cons, List.flatten_cons] at ih ⊢
    rw [ih, joinL]; simp
theorem joinL_merge (a b : List UInt8) (r : List (List UInt8)) : joinL ((a ++ 58 :: b) :: r) = joinL (a :: b :: r) := by
  cases r with
  | nil => rfl
  | cons c r => simp [joinL]
/-- the reference's Join -/
def rj : List UInt8 → List (List UInt8) → List UInt8
  | out, [] => out
  | out, p :: ps => rj ((if p ≠ [] ∧ out ≠ [] then out ++ [58] else out) ++ p) ps
theorem rj_eq : ∀ (ps : List (List UInt8)) (out : List UInt8), rj out ps = if out = [] then joinL (nz ps) else joinL (out :: nz ps)
  | [], out => by
    by_cases h : out = [] <;> simp [rj, nz, joinL, h]
  | p :: ps, out => by
    rw [rj, rj_eq ps]
    by_cases hp : p = []
    · subst hp; simp [nz]
    · by_cases ho : out = []
      · subst ho; simp [hp, nz, joinL]
      · have e : nz (p :: ps) = p :: nz ps := by simp [nz, hp]
        rw [e]
        simp only [hp, ho, ne_eq, not_false_eq_true, and_self, if_true, if_false]
        rw [if_neg (by simp [ho]), List.append_assoc]
        exact joinL_merge out p (nz ps)
theorem rj_nil (ps : List (List UInt8)) : rj [] ps = joinL (nz ps) := by rw [rj_eq]; simp
theorem rj_snoc (p : List UInt8) : ∀ (ps : List (List UInt8)) (out : List UInt8), rj out (ps ++ [p]) = (if p ≠ [] ∧ rj out ps ≠ [] then rj out ps ++ [58] else rj out ps) ++ p
  | [], out => rfl
  | q :: ps, out => by rw [List.cons_append, rj, rj_snoc p ps, rj]

theorem pcs_pieces : ∀ (l cur : List UInt8), 58 ∉ cur → ∀ q ∈ pcs cur l, q ≠ [] ∧ 58 ∉ q
  | [], cur, hc, q, hq => by
    rw [pcs] at hq
    by_cases h : cur = []
    · simp [h] at hq
    · simp [h] at hq; subst hq; exact ⟨h, hc⟩
  | c :: l, cur, hc, q, hq => by
    rw [pcs] at hq
    by_cases h : c = 58
    · rw [if_pos h] at hq
      by_cases h' : cur = []
      · rw [if_pos h'] at hq; exact pcs_pieces l [] (by simp) q hq
      · rw [if_neg h'] at hq
        rcases List.mem_cons.1 hq with rfl | hq
        · exact ⟨h', hc⟩
        · exact pcs_pieces l [] (by simp) q hq
    · rw [if_neg h] at hq
      exact pcs_pieces l (cur ++ [c]) (by simp only [List.mem_append, List.mem_singleton, not_or]; exact ⟨hc, fun e => h e.symm⟩) q hq
theorem pcs_len : ∀ (l cur : List UInt8), (pcs cur l).length ≤ l.length + 1
  | [], cur => by rw [pcs]; split <;> simp
  | c :: l, cur => by
    rw [pcs]
    have h1 := pcs_len l []
    have h2 := pcs_len l (cur ++ [c])
    split
    · split
      · simp; omega
      · simp; omega
    · simp; omega
theorem splitL_len (l : List UInt8) : (splitL l).length ≤ l.length + 1 := pcs_len l []
theorem joinL_cons_len (x : List UInt8) (r : List (List UInt8)) : (joinL (x :: r)).length ≤ x.length + 1 + (joinL r).length := by
  cases r with
  | nil => simp [joinL]
  | cons y r => simp [joinL]; omega
theorem joinL_pcs_len : ∀ (l cur : List UInt8), (joinL (pcs cur l)).length ≤ cur.length + l.length
  | [], cur => by rw [pcs]; split <;> simp [joinL]
  | c :: l, cur => by
    rw [pcs]
    have h1 := joinL_pcs_len l []
    have h2 := joinL_pcs_len l (cur ++ [c])
    simp at h1 h2
    split
    · split
      · simp; omega
      · have := joinL_cons_len cur (pcs [] l); simp; omega
    · simp; omega
theorem join_split_len (l : List UInt8) : (joinL (splitL l)).length ≤ l.length := by
  have := joinL_pcs_len l []
  simpa [splitL] using this
theorem split_join : ∀ (qs : List (List UInt8)), (∀ q ∈ qs, q ≠ [] ∧ 58 ∉ q) → splitL (joinL qs) = qs
  | [], _ => rfl
  | [x], h => by
    obtain ⟨h1, h2⟩ := h x (by simp)
    have := pcs_head x [] [] h2
    simp only [List.append_nil, List.nil_append] at this
    rw [joinL, splitL, this, pcs, if_neg h1]
  | x :: y :: r, h => by
    obtain ⟨h1, h2⟩ := h x (by simp)
    rw [joinL, splitL, pcs_head x [] _ h2, List.nil_append, pcs, if_pos rfl, if_neg h1]
    have := split_join (y :: r) (fun q hq => h q (List.mem_cons_of_mem _ hq))
    rw [splitL] at this
    rw [this]
theorem split_pieces (l : List UInt8) : ∀ q ∈ splitL l, q ≠ [] ∧ 58 ∉ q := pcs_pieces l [] (by simp)
theorem nz_split (l : List UInt8) : nz (splitL l) = splitL l := by
  rw [nz, List.filter_eq_self]
  intro q hq
  simpa using (split_pieces l q hq).1

def bytesN (xs : List (List UInt8)) : Nat := (xs.map List.length).sum
theorem bytesN_snoc (xs : List (List UInt8)) (x : List UInt8) : bytesN (xs ++ [x]) = bytesN xs + x.length := by simp [bytesN]
theorem bytesN_take (xs : List (List UInt8)) (k : Nat) : bytesN (xs.take k) ≤ bytesN xs := by
  conv => rhs; rw [← List.take_append_drop k xs]
  simp only [bytesN, List.map_append, List.sum_append]; omega
theorem bytesN_mem {xs : List (List UInt8)} {x : List UInt8} (h : x ∈ xs) : x.length ≤ bytesN xs := by
  induction xs with
  | nil => simp at h
  | cons y r ih =>
    simp only [bytesN, List.map_cons, List.sum_cons]
    rcases List.mem_cons.1 h with rfl | h
    · omega
    · have := ih h; simp only [bytesN] at this; omega
theorem bytesN_nz (xs : List (List UInt8)) : bytesN (nz xs) ≤ bytesN xs := by
  induction xs with
  | nil => simp [nz]
  | cons y r ih =>
    by_cases hy : y = []
    · subst hy; simpa [nz, bytesN] using ih
    · have e : nz (y :: r) = y :: nz r := by simp [nz, hy]
      rw [e]; simp only [bytesN, List.map_cons, List.sum_cons] at ih ⊢; omega
theorem joinL_len : ∀ xs : List (List UInt8), (joinL xs).length ≤ bytesN xs + xs.length
  | [] => by simp [joinL]
  | x :: r => by
    have h1 := joinL_cons_len x r
    have h2 := joinL_len r
    simp only [bytesN, List.map_cons, List.sum_cons, List.length_cons] at h2 ⊢; omega
theorem rj_len (xs : List (List UInt8)) (k : Nat) : (rj [] (xs.take k)).length ≤ bytesN xs + xs.length := by
  rw [rj_nil]
  have h1 := joinL_len (nz (xs.take k))
  have h2 := bytesN_nz (xs.take k)
  have h3 := bytesN_take xs k
  have h4 : (nz (xs.take k)).length ≤ (xs.take k).length := List.length_filter_le _ _
  rw [List.length_take] at h4
  omega

end Go.Proofs.YtmckjdopplchbaaDoor
