/- Lemmas that the claim is proved from: what calls of functions of the program come to (contracts), and plain laws. Each lemma bears its own conditions. -/
import Derived.Test.YtgoecmfjidcieaaDoorFPlain
namespace Go.Proofs.YtgoecmfjidcieaaDoor
set_option linter.unusedVariables false
set_option linter.unusedSimpArgs false

/-- bytes and one more for each -/
def weight : List (List UInt8) → Nat
  | [] => 0
  | x :: l => x.length + 1 + weight l
theorem weight_append : ∀ a b, weight (a ++ b) = weight a + weight b
  | [], b => by simp [weight]
  | x :: a, b => by simp [weight, weight_append a b]; omega
theorem weight_dropLast : ∀ a, weight a.dropLast ≤ weight a
  | [] => by simp [weight]
  | [x] => by simp [weight]
  | x :: y :: a => by
    have := weight_dropLast (y :: a)
    simp only [List.dropLast_cons_cons, weight] at this ⊢
    omega
theorem weight_filter (p : List UInt8 → Bool) : ∀ a, weight (a.filter p) ≤ weight a
  | [] => by simp [weight]
  | x :: a => by
    have := weight_filter p a
    rw [List.filter_cons]
    split
    · simp only [weight]; omega
    · simp only [weight]; omega
theorem weight_lexF : ∀ ps out, weight (lexF out ps) ≤ weight out + weight ps
  | [], out => by simp [lexF, weight]
  | p :: ps, out => by
    rw [lexF]
    have h1 := weight_lexF ps (if p ≠ [46, 46] then out ++ [p] else out.dropLast)
    have h2 := weight_dropLast out
    split at h1
    · rw [weight_append] at h1; simp only [weight] at h1 ⊢; rename_i h; rw [if_pos h]; omega
    · rename_i h; rw [if_neg h]; simp only [weight]; omega
theorem weight_pcA (sep : UInt8) : ∀ l cur, weight (pcA sep cur l) = cur.length + l.length + 1
  | [], cur => by simp [pcA, weight]
  | c :: l, cur => by
    rw [pcA]
    split
    · rw [weight, weight_pcA sep l []]; simp; omega
    · rw [weight_pcA sep l]; simp; omega
theorem length_intercalate : ∀ r : List (List UInt8), r ≠ [] → ([47].intercalate r).length + 1 = weight r
  | [], h => absurd rfl h
  | [x], _ => by simp [List.intercalate, weight]
  | x :: y :: r, _ => by
    have := length_intercalate (y :: r) (by simp)
    simp only [List.intercalate, List.intersperse, List.flatten_cons, List.length_append, weight] at this ⊢
    simp at this ⊢
    omega
theorem pcA_sep (sep : UInt8) : ∀ l cur, sep ∉ cur → ∀ q ∈ pcA sep cur l, sep ∉ q
  | [], cur, h, q, hq => by simp [pcA] at hq; subst hq; exact h
  | c :: l, cur, h, q, hq => by
    rw [pcA] at hq
    split at hq
    · rcases List.mem_cons.1 hq with rfl | hq
      · exact h
      · exact pcA_sep sep l [] (by simp) q hq
    · rename_i hc
      exact pcA_sep sep l (cur ++ [c]) (by simp [h]; exact fun e => hc e.symm) q hq
theorem pcA_intercalate : ∀ r : List (List UInt8), r ≠ [] → (∀ x ∈ r, (47 : UInt8) ∉ x) → pcA 47 [] ([47].intercalate r) = r
  | [], h, _ => absurd rfl h
  | [x], _, hx => by
    have := pcA_head 47 x [] [] (hx x (by simp))
    simp only [List.append_nil, List.nil_append] at this
    simp [List.intercalate, this, pcA]
  | x :: y :: r, _, hx => by
    have ih := pcA_intercalate (y :: r) (by simp) (fun z hz => hx z (by simp [hz]))
    have e : [47].intercalate (x :: y :: r) = x ++ 47 :: [47].intercalate (y :: r) := by
      simp [List.intercalate, List.intersperse]
    rw [e, pcA_head 47 x [] _ (hx x (by simp)), List.nil_append, pcA, if_pos rfl, ih]
theorem lexF_from : ∀ ps out q, q ∈ lexF out ps → q ∈ out ∨ q ∈ ps ∧ q ≠ [46, 46]
  | [], out, q, h => Or.inl h
  | p :: ps, out, q, h => by
    rw [lexF] at h
    rcases lexF_from ps _ q h with h | ⟨h1, h2⟩
    · split at h
      · rename_i hp
        rcases List.mem_append.1 h with h | h
        · exact Or.inl h
        · simp at h; subst h; exact Or.inr ⟨by simp, hp⟩
      · exact Or.inl (List.dropLast_subset _ h)
    · exact Or.inr ⟨by simp [h1], h2⟩
theorem lexF_same : ∀ ps out, (∀ q ∈ ps, q ≠ [46, 46]) → lexF out ps = out ++ ps
  | [], out, _ => by simp [lexF]
  | p :: ps, out, h => by
    rw [lexF, if_pos (h p (by simp)), lexF_same ps _ (fun q hq => h q (by simp [hq]))]
    simp

theorem partsL_inv {path : List UInt8} {l : List (List UInt8)} (h : partsL path = some l) : path.length ≤ 200 ∧ (pcA 47 [] path).all rightB = true ∧ l = (pcA 47 [] path).filter keepB := by
  unfold partsL at h
  split at h
  · rename_i hc
    exact ⟨hc.1, hc.2, (Option.some.inj h).symm⟩
  · cases h
theorem cleanL_ok {path : List UInt8} (h : (cleanL path).2 = 0) : ∃ l, partsL path = some l ∧ path.head? = some 47 ∧ cleanL path = (wholeL (lexF [] l), 0) := by
  unfold cleanL at h ⊢
  split at h
  · simp at h
  · rename_i l hl
    split at h
    · rename_i hh
      exact ⟨l, hl, hh, by rw [if_pos hh]⟩
    · simp at h
theorem cleanL_bad {path : List UInt8} (h : (cleanL path).2 ≠ 0) : cleanL path = ([], 30) := by
  unfold cleanL at h ⊢
  split at h
  · rfl
  · rename_i l hl
    split at h
    · exact absurd rfl h
    · rename_i hh; simp only [if_neg hh]

/-- what the parts of a path that may be, without ways up, are -/
structure RightParts (r : List (List UInt8)) : Prop where
  right : ∀ q ∈ r, rightB q = true
  keep : ∀ q ∈ r, keepB q = true
  noUp : ∀ q ∈ r, q ≠ [46, 46]
  noSep : ∀ q ∈ r, (47 : UInt8) ∉ q
theorem rightParts_of {path : List UInt8} {l : List (List UInt8)} (h : partsL path = some l) : RightParts (lexF [] l) := by
  obtain ⟨_, h2, rfl⟩ := partsL_inv h
  have hm : ∀ q ∈ lexF [] ((pcA 47 [] path).filter keepB), q ∈ pcA 47 [] path ∧ keepB q = true ∧ q ≠ [46, 46] := fun q hq => by
    rcases lexF_from _ _ q hq with h | ⟨h, h'⟩
    · cases h
    · rw [List.mem_filter] at h
      exact ⟨h.1, h.2, h'⟩
  exact ⟨fun q hq => (List.all_eq_true.1 h2) q (hm q hq).1, fun q hq => (hm q hq).2.1, fun q hq => (hm q hq).2.2, fun q hq => pcA_sep 47 path [] (by simp) q (hm q hq).1⟩
theorem weight_of {path : List UInt8} {l : List (List UInt8)} (h : partsL path = some l) (hh : path.head? = some 47) : weight (lexF [] l) ≤ path.length := by
  obtain ⟨_, _, rfl⟩ := partsL_inv h
  have h1 := weight_lexF ((pcA 47 [] path).filter keepB) []
  cases path with
  | nil => cases hh
  | cons c p =>
    simp only [List.head?_cons, Option.some.injEq] at hh
    subst hh
    have e : pcA 47 [] (47 :: p) = [] :: pcA 47 [] p := by rw [pcA, if_pos rfl]
    have h2 := weight_filter keepB (pcA 47 [] p)
    have h3 := weight_pcA 47 p []
    rw [e] at h1 ⊢
    have e2 : (([] : List UInt8) :: pcA 47 [] p).filter keepB = (pcA 47 [] p).filter keepB := by rw [List.filter_cons]; simp [keepB]
    rw [e2] at h1 ⊢
    simp only [weight] at h1
    simp only [List.length_nil, List.length_cons] at h3 ⊢
    omega
theorem whole_length (r : List (List UInt8)) : (wholeL r).length = max 1 (weight r) := by
  cases r with
  | nil => simp [wholeL, List.intercalate, weight]
  | cons x r =>
    have := length_intercalate (x :: r) (by simp)
    rw [wholeL, List.length_cons, this]
    simp only [weight]
    omega
/-- a path that is whole again, of parts that may be -/
theorem partsL_whole {r : List (List UInt8)} (hr : RightParts r) (hl : max 1 (weight r) ≤ 200) : partsL (wholeL r) = some r := by
  have hlen := whole_length r
  unfold partsL
  have e : pcA 47 [] (wholeL r) = [] :: (if r = [] then [[]] else r) := by
    rw [wholeL, pcA, if_pos rfl]
    congr 1
    cases r with
    | nil => simp [List.intercalate, pcA]
    | cons x r =>
      rw [if_neg (by simp)]
      exact pcA_intercalate (x :: r) (by simp) hr.noSep
  have hall : (pcA 47 [] (wholeL r)).all rightB = true := by
    rw [e, List.all_cons]
    simp only [Bool.and_eq_true]
    refine ⟨by decide, ?_⟩
    by_cases h : r = []
    · rw [if_pos h]; decide
    · rw [if_neg h]
      exact List.all_eq_true.2 hr.right
  rw [if_pos ⟨by omega, hall⟩, e]
  congr 1
  by_cases h : r = []
  · subst h
    simp [keepB]
  · rw [if_neg h, List.filter_cons]
    simp only [keepB, ne_eq, not_true_eq_false, decide_false, Bool.false_and, Bool.false_eq_true, if_false]
    exact List.filter_eq_self.2 hr.keep
theorem cleanL_whole {r : List (List UInt8)} (hr : RightParts r) (hl : max 1 (weight r) ≤ 200) : cleanL (wholeL r) = (wholeL r, 0) := by
  unfold cleanL
  rw [partsL_whole hr hl]
  simp only
  rw [if_pos (by simp [wholeL]), lexF_same r [] hr.noUp, List.nil_append]
/-- a path that was cleaned stays as it is -/
theorem cleanL_idem {path : List UInt8} (h : (cleanL path).2 = 0) : cleanL (cleanL path).1 = ((cleanL path).1, 0) ∧ 1 ≤ (cleanL path).1.length ∧ (cleanL path).1.length ≤ path.length ∧ (cleanL path).1.head? = some 47 := by
  obtain ⟨l, h1, h2, h3⟩ := cleanL_ok h
  have hr := rightParts_of h1
  have hw := weight_of h1 h2
  have hp := (partsL_inv h1).1
  have hpl : 1 ≤ path.length := by cases path with
    | nil => cases h2
    | cons _ _ => simp
  have hlen := whole_length (lexF [] l)
  rw [h3]
  exact ⟨cleanL_whole hr (by omega), by simp only; omega, by simp only; omega, by simp [wholeL]⟩

end Go.Proofs.YtgoecmfjidcieaaDoor
