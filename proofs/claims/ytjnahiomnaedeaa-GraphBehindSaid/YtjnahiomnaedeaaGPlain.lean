/-
  Plain laws on graphs, walks in breadth and in depth. No program in sight.
-/
import Derived.Test.YtjnahiomnaedeaaGMem
namespace Go.Proofs.Ytjnahiomnaedeaa
set_option linter.unusedVariables false
set_option linter.unusedSimpArgs false

def addL (l : List Int) (n : Int) : List Int := if n ∈ l then l else l ++ [n]
def onceL (xs ys : List Int) : List Int := ys.foldl addL xs
theorem onceL_snoc (xs ys : List Int) (k : Nat) (h : k < ys.length) : onceL xs (ys.take (k + 1)) = addL (onceL xs (ys.take k)) (nth ys k) := by
  rw [take_succ_nth ys k h, onceL, List.foldl_append]; rfl
theorem addL_len (l : List Int) (n : Int) : (addL l n).length ≤ l.length + 1 := by
  unfold addL; split <;> simp
theorem onceL_cons (xs : List Int) (y : Int) (ys : List Int) : onceL xs (y :: ys) = onceL (addL xs y) ys := rfl
theorem onceL_nil (xs : List Int) : onceL xs [] = xs := rfl
theorem onceL_len (ys : List Int) : ∀ xs, (onceL xs ys).length ≤ xs.length + ys.length := by
  induction ys with
  | nil => intro xs; simp [onceL]
  | cons y ys ih =>
    intro xs
    have h1 := ih (addL xs y)
    have h2 := addL_len xs y
    rw [onceL_cons]; simp only [List.length_cons] at h1 ⊢
    omega

theorem mem_addL {l : List Int} {n x : Int} : x ∈ addL l n ↔ x ∈ l ∨ x = n := by
  unfold addL; split
  · constructor
    · exact Or.inl
    · rintro (h | rfl) <;> assumption
  · simp
theorem mem_onceL {ys : List Int} : ∀ {xs : List Int} {x : Int}, x ∈ onceL xs ys ↔ x ∈ xs ∨ x ∈ ys := by
  induction ys with
  | nil => intro xs x; simp [onceL]
  | cons y ys ih => intro xs x; rw [onceL_cons, ih, mem_addL, List.mem_cons, or_assoc]
theorem nodup_addL {l : List Int} {n : Int} (h : l.Nodup) : (addL l n).Nodup := by
  unfold addL; split
  · exact h
  · rename_i hn
    rw [List.nodup_append]
    refine ⟨h, by simp, ?_⟩
    intro a ha b hb; simp at hb; subst hb
    intro e; subst e; exact hn ha
theorem nodup_onceL {ys : List Int} : ∀ {xs : List Int}, xs.Nodup → (onceL xs ys).Nodup := by
  induction ys with
  | nil => intro xs h; exact h
  | cons y ys ih => intro xs h; rw [onceL_cons]; exact ih (nodup_addL h)
theorem prefix_addL (l : List Int) (n : Int) : ∃ t, addL l n = l ++ t := by
  unfold addL; split
  · exact ⟨[], by simp⟩
  · exact ⟨_, rfl⟩
theorem prefix_onceL (ys : List Int) : ∀ xs, ∃ t, onceL xs ys = xs ++ t := by
  induction ys with
  | nil => intro xs; exact ⟨[], by simp [onceL]⟩
  | cons y ys ih =>
    intro xs
    obtain ⟨t, ht⟩ := prefix_addL xs y
    obtain ⟨t', ht'⟩ := ih (addL xs y)
    exact ⟨t ++ t', by rw [onceL_cons, ht', ht, List.append_assoc]⟩

theorem okNode_iff {n : Nat} {x : Int} : okNode n x = true ↔ 0 ≤ x ∧ x < n := by simp [okNode]
theorem nodesB_iff {n : Nat} {l : List Int} : nodesB n l = true ↔ ∀ x ∈ l, 0 ≤ x ∧ x < n := by simp [nodesB, List.all_eq_true, okNode_iff]

/-- all nodes below n, none twice -/
structure Good (n : Nat) (l : List Int) : Prop where
  nodup : l.Nodup
  ok : ∀ x ∈ l, 0 ≤ x ∧ x < n

theorem Good.len {n : Nat} {l : List Int} (h : Good n l) : l.length ≤ n := by
  have h1 : l.length ≤ ((List.range n).map Int.ofNat).length := by
    refine List.Nodup.length_le_of_subset h.nodup ?_
    intro x hx
    obtain ⟨h0, h1⟩ := h.ok x hx
    exact List.mem_map.2 ⟨x.toNat, List.mem_range.2 (by omega), by show ((x.toNat : Nat) : Int) = x; omega⟩
  simpa using h1
theorem Good.nil (n : Nat) : Good n [] := ⟨List.nodup_nil, by simp⟩
theorem Good.once {n : Nat} {l ys : List Int} (h : Good n l) (hy : ∀ x ∈ ys, 0 ≤ x ∧ x < n) : Good n (onceL l ys) :=
  ⟨nodup_onceL h.nodup, fun x hx => (mem_onceL.1 hx).elim (h.ok x) (hy x)⟩
theorem Good.add {n : Nat} {l : List Int} {y : Int} (h : Good n l) (hy : 0 ≤ y ∧ y < n) : Good n (addL l y) :=
  ⟨nodup_addL h.nodup, fun x hx => (mem_addL.1 hx).elim (h.ok x) (fun e => e ▸ hy)⟩
theorem Good.snoc {n : Nat} {l : List Int} {y : Int} (h : Good n l) (hy : 0 ≤ y ∧ y < n) (hn : y ∉ l) : Good n (l ++ [y]) := by
  have := h.add hy; rwa [addL, if_neg hn] at this

def rowI (g : List (List Int)) (x : Int) : List Int := row g x.toNat

/-- a right graph -/
structure RightG (g : List (List Int)) : Prop where
  size : g.length ≤ 256
  ok : ∀ l ∈ g, ∀ x ∈ l, 0 ≤ x ∧ x < g.length
theorem rightB_iff {g : List (List Int)} : rightB g = true ↔ RightG g := by
  simp only [rightB, Bool.and_eq_true, decide_eq_true_eq, List.all_eq_true, nodesB_iff]
  exact ⟨fun ⟨a, b⟩ => ⟨a, b⟩, fun ⟨a, b⟩ => ⟨a, b⟩⟩
theorem RightG.row {g : List (List Int)} (h : RightG g) (i : Nat) : ∀ x ∈ row g i, 0 ≤ x ∧ x < g.length := by
  intro x hx
  by_cases hi : i < g.length
  · exact h.ok _ (row_mem g i hi) x hx
  · simp [Go.Proofs.Ytjnahiomnaedeaa.row, List.getD, hi] at hx
theorem RightG.rowI {g : List (List Int)} (h : RightG g) (y : Int) : ∀ x ∈ rowI g y, 0 ≤ x ∧ x < g.length := h.row _

/-! ### in breadth -/
def bfsL (g : List (List Int)) : Nat → List Int → Nat → List Int
  | 0, out, _ => out
  | f + 1, out, i => if i < out.length then bfsL g f (onceL out (rowI g (nth out i))) (i + 1) else out
def breadthL (g : List (List Int)) (roots : List Int) : List Int := bfsL g (g.length + 1) (onceL [] roots) 0

theorem bfsL_end {g : List (List Int)} {f : Nat} {out : List Int} {i : Nat} (h : ¬ i < out.length) : bfsL g f out i = out := by
  cases f with
  | zero => rfl
  | succ f => rw [bfsL, if_neg h]
theorem bfsL_step {g : List (List Int)} {f : Nat} {out : List Int} {i : Nat} (h : i < out.length) : bfsL g (f + 1) out i = bfsL g f (onceL out (rowI g (nth out i))) (i + 1) := by
  rw [bfsL, if_pos h]

/-- What every state of the walk has, the walk's end has. -/
theorem bfsL_inv {g : List (List Int)} (hg : RightG g) (P : List Int → Nat → Prop) (hs : ∀ out i, Good g.length out → i < out.length → P out i → P (onceL out (rowI g (nth out i))) (i + 1)) :
    ∀ f out i, Good g.length out → i ≤ out.length → g.length < f + i → P out i → ∃ r, bfsL g f out i = r ∧ Good g.length r ∧ P r r.length := by
  intro f
  induction f with
  | zero =>
    intro out i hgood hi hf
    have := hgood.len; omega
  | succ f ih =>
    intro out i hgood hi hf hP
    by_cases hlt : i < out.length
    · rw [bfsL_step hlt]
      obtain ⟨t, ht⟩ := prefix_onceL (rowI g (nth out i)) out
      exact ih _ _ (hgood.once (hg.rowI _)) (by rw [ht, List.length_append]; omega) (by omega) (hs out i hgood hlt hP)
    · rw [bfsL_end hlt]
      obtain rfl : i = out.length := by omega
      exact ⟨out, rfl, hgood, hP⟩

theorem good_roots {g : List (List Int)} {roots : List Int} (hr : nodesB g.length roots = true) : Good g.length (onceL [] roots) := (Good.nil _).once (nodesB_iff.1 hr)

theorem breadthL_inv {g : List (List Int)} (hg : RightG g) {roots : List Int} (hr : nodesB g.length roots = true) (P : List Int → Nat → Prop) (h0 : P (onceL [] roots) 0)
    (hs : ∀ out i, Good g.length out → i < out.length → P out i → P (onceL out (rowI g (nth out i))) (i + 1)) : Good g.length (breadthL g roots) ∧ P (breadthL g roots) (breadthL g roots).length := by
  obtain ⟨r, h1, h2, h3⟩ := bfsL_inv hg P hs (g.length + 1) (onceL [] roots) 0 (good_roots hr) (Nat.zero_le _) (by omega) h0
  unfold breadthL; rw [h1]; exact ⟨h2, h3⟩

theorem breadthL_good {g : List (List Int)} (hg : RightG g) {roots : List Int} (hr : nodesB g.length roots = true) : Good g.length (breadthL g roots) :=
  (breadthL_inv hg hr (fun _ _ => True) trivial (fun _ _ _ _ _ => trivial)).1

theorem nth_append_left (a b : List Int) (i : Nat) (h : i < a.length) : nth (a ++ b) i = nth a i := by
  rw [nth_eq _ _ (by rw [List.length_append]; omega), nth_eq _ _ h, List.getElem_append_left h]

theorem mem_iff_nth {l : List Int} {x : Int} : x ∈ l ↔ ∃ i, i < l.length ∧ nth l i = x := by
  constructor
  · intro h
    obtain ⟨i, hi, rfl⟩ := List.mem_iff_getElem.1 h
    exact ⟨i, hi, nth_eq l i hi⟩
  · rintro ⟨i, hi, rfl⟩; exact nth_mem l i hi

/-- the roots are told -/
theorem breadthL_roots {g : List (List Int)} (hg : RightG g) {roots : List Int} (hr : nodesB g.length roots = true) : ∀ x ∈ roots, x ∈ breadthL g roots := by
  refine (breadthL_inv hg hr (fun out _ => ∀ x ∈ roots, x ∈ out) (fun x hx => mem_onceL.2 (Or.inr hx)) ?_).2
  intro out i _ _ h x hx
  exact mem_onceL.2 (Or.inl (h x hx))
/-- each one is a root, or led to by one ahead of it -/
theorem breadthL_led {g : List (List Int)} (hg : RightG g) {roots : List Int} (hr : nodesB g.length roots = true) :
    ∀ j, j < (breadthL g roots).length → nth (breadthL g roots) j ∈ roots ∨ ∃ k, k < j ∧ nth (breadthL g roots) j ∈ rowI g (nth (breadthL g roots) k) := by
  refine (breadthL_inv hg hr (fun out _ => ∀ j, j < out.length → nth out j ∈ roots ∨ ∃ k, k < j ∧ nth out j ∈ rowI g (nth out k)) ?_ ?_).2
  · intro j hj
    rcases mem_onceL.1 (nth_mem _ j hj) with h | h
    · simp at h
    · exact Or.inl h
  · intro out i hgd hi h j hj
    obtain ⟨t, ht⟩ := prefix_onceL (rowI g (nth out i)) out
    by_cases hjo : j < out.length
    · rw [ht, nth_append_left _ _ _ hjo]
      rcases h j hjo with h1 | ⟨k, hk, h1⟩
      · exact Or.inl h1
      · exact Or.inr ⟨k, hk, by rw [nth_append_left _ _ _ (by omega)]; exact h1⟩
    · refine Or.inr ⟨i, by omega, ?_⟩
      have hnew : nth (onceL out (rowI g (nth out i))) j ∉ out := by
        intro hm
        obtain ⟨q, hq, e⟩ := mem_iff_nth.1 hm
        have hnd := nodup_onceL (ys := rowI g (nth out i)) hgd.nodup
        have e2 : nth (onceL out (rowI g (nth out i))) q = nth (onceL out (rowI g (nth out i))) j := by rw [← e]; rw [ht, nth_append_left _ _ _ hq]
        have hql : q < (onceL out (rowI g (nth out i))).length := by rw [ht, List.length_append]; omega
        rw [nth_eq _ _ hql, nth_eq _ _ hj] at e2
        have := (List.getElem_inj hnd).1 e2
        omega
      rcases mem_onceL.1 (nth_mem _ j hj) with h1 | h1
      · exact absurd h1 hnew
      · rw [show nth (onceL out (rowI g (nth out i))) i = nth out i by rw [ht, nth_append_left _ _ _ hi]]; exact h1

end Go.Proofs.Ytjnahiomnaedeaa
