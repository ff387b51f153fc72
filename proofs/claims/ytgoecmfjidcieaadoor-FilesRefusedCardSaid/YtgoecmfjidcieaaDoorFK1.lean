/- plain: how walks of two stores that part at one plain name agree -/
import Derived.Test.YtgoecmfjidcieaaDoorFSC
namespace Go.Proofs.YtgoecmfjidcieaaDoor
set_option linter.unusedVariables false
set_option linter.unusedSimpArgs false
open Go.RowKit

/-- neither a directory nor a link -/
def Flat (o : Option NodeL) : Prop := ∀ n, o = some n → n.kind ≠ 2 ∧ n.kind ≠ 3

theorem walk_same {N N' : List UInt8 → Option NodeL} {x : List UInt8} (hN : ∀ q, q ≠ x → N' q = N q) (h1 : Flat (N x)) (last : Bool) (todo : List (List UInt8)) (a : List UInt8) (k : Nat)
    (hp : (walkL N last todo a k).1 ≠ []) (hx : (walkL N last todo a k).1 ≠ x ∨ (walkL N last todo a k).2 = 0 ∧ todo = []) : walkL N' last todo a k = walkL N last todo a k := by
  match todo with
  | [] => rw [walkL_nil, walkL_nil]
  | p :: r =>
    have hx' : (walkL N last (p :: r) a k).1 ≠ x := by rcases hx with h | ⟨_, h⟩; exact h; cases h
    by_cases hu : p = [46, 46]
    · subst hu
      rw [walkL_up] at hp hx' ⊢
      rw [walkL_up]
      exact walk_same hN h1 last r (upL a) k hp (Or.inl hx')
    · by_cases hq : joinL a p = x
      · exfalso
        cases hn : N (joinL a p) with
        | none =>
          rw [walkL_none hu hn] at hp hx'
          by_cases hr : r = []
          · rw [if_pos hr] at hx'; exact hx' hq
          · rw [if_neg hr] at hp; exact hp rfl
        | some n =>
          have hf := h1 n (by rw [← hq]; exact hn)
          have h3 : ¬ (n.kind = 3 ∧ (last = true ∨ r ≠ [])) := fun h => hf.2 h.1
          by_cases hr : r = []
          · rw [walkL_on hu hn h3 (fun h => h.2 hr), hr, walkL_nil] at hx'; exact hx' hq
          · rw [walkL_file hu hn h3 hf.1 hr] at hp; exact hp rfl
      · have hj := hN _ hq
        cases hn : N (joinL a p) with
        | none => rw [walkL_none hu hn, walkL_none hu (hj.trans hn)]
        | some n =>
          have hn' := hj.trans hn
          by_cases h3 : n.kind = 3 ∧ (last = true ∨ r ≠ [])
          · by_cases h8 : 8 ≤ k
            · rw [walkL_loop hu hn h3.1 h3.2 h8, walkL_loop hu hn' h3.1 h3.2 h8]
            · rw [walkL_link hu hn h3.1 h3.2 h8] at hp hx' ⊢
              rw [walkL_link hu hn' h3.1 h3.2 h8]
              exact walk_same hN h1 last _ _ (k + 1) hp (Or.inl hx')
          · by_cases h2 : n.kind ≠ 2 ∧ r ≠ []
            · rw [walkL_file hu hn h3 h2.1 h2.2, walkL_file hu hn' h3 h2.1 h2.2]
            · rw [walkL_on hu hn h3 h2] at hp hx' ⊢
              rw [walkL_on hu hn' h3 h2]
              exact walk_same hN h1 last r _ k hp (Or.inl hx')
termination_by (9 - k, todo.length)
decreasing_by all_goals (simp_wf; first | (apply Prod.Lex.right; simp) | (apply Prod.Lex.left; omega) | omega)

theorem walk_at {N N' : List UInt8 → Option NodeL} {x : List UInt8} (hN : ∀ q, q ≠ x → N' q = N q) (h1 : Flat (N x)) (h2 : (N' x).isSome = true) (hf : Flat (N' x)) (last last' : Bool) (hl : last = true → last' = true) (hx : x ≠ []) (todo : List (List UInt8)) (a : List UInt8) (k : Nat)
    (hp : (walkL N last todo a k).1 = x) : walkL N' last' todo a k = (x, 0) := by
  match todo with
  | [] => rw [walkL_nil] at hp ⊢; rw [← hp]
  | p :: r =>
    by_cases hu : p = [46, 46]
    · subst hu
      rw [walkL_up] at hp ⊢
      exact walk_at hN h1 h2 hf last last' hl hx r (upL a) k hp
    · by_cases hq : joinL a p = x
      · obtain ⟨n', hn'⟩ := Option.isSome_iff_exists.1 h2
        have hf' := hf n' hn'
        rw [← hq] at hn'
        have h3' : ¬ (n'.kind = 3 ∧ (last' = true ∨ r ≠ [])) := fun h => hf'.2 h.1
        by_cases hr : r = []
        · rw [walkL_on hu hn' h3' (fun h => h.2 hr), hr, walkL_nil, hq]
        · exfalso
          cases hn : N (joinL a p) with
          | none => rw [walkL_none hu hn, if_neg hr] at hp; exact hx hp.symm
          | some n =>
            have hg := h1 n (by rw [← hq]; exact hn)
            rw [walkL_file hu hn (fun h => hg.2 h.1) hg.1 hr] at hp; exact hx hp.symm
      · have hj := hN _ hq
        cases hn : N (joinL a p) with
        | none =>
          exfalso
          rw [walkL_none hu hn] at hp
          by_cases hr : r = []
          · rw [if_pos hr] at hp; exact hq hp
          · rw [if_neg hr] at hp; exact hx hp.symm
        | some n =>
          have hn' := hj.trans hn
          by_cases h3 : n.kind = 3 ∧ (last = true ∨ r ≠ [])
          · have h3' : last' = true ∨ r ≠ [] := h3.2.imp hl id
            by_cases h8 : 8 ≤ k
            · rw [walkL_loop hu hn h3.1 h3.2 h8] at hp; exact absurd hp.symm hx
            · rw [walkL_link hu hn h3.1 h3.2 h8] at hp
              rw [walkL_link hu hn' h3.1 h3' h8]
              exact walk_at hN h1 h2 hf last last' hl hx _ _ (k + 1) hp
          · by_cases hr : r = []
            · exfalso
              rw [walkL_on hu hn h3 (fun h => h.2 hr), hr, walkL_nil] at hp
              exact hq hp
            · have h33 : n.kind ≠ 3 := fun h => h3 ⟨h, Or.inr hr⟩
              by_cases h4 : n.kind = 2
              · rw [walkL_on hu hn h3 (fun h => h.1 h4)] at hp
                rw [walkL_on hu hn' (fun h => h33 h.1) (fun h => h.1 h4)]
                exact walk_at hN h1 h2 hf last last' hl hx r _ k hp
              · rw [walkL_file hu hn h3 h4 hr] at hp; exact absurd hp.symm hx
termination_by (9 - k, todo.length)
decreasing_by all_goals (simp_wf; first | (apply Prod.Lex.right; simp) | (apply Prod.Lex.left; omega) | omega)

/-- one link more: the same, or a loop -/
theorem walk_more (N : List UInt8 → Option NodeL) (last : Bool) (todo : List (List UInt8)) (a : List UInt8) (k : Nat) : walkL N last todo a (k + 1) = walkL N last todo a k ∨ walkL N last todo a (k + 1) = ([], 35) := by
  match todo with
  | [] => left; rw [walkL_nil, walkL_nil]
  | p :: r =>
    by_cases hu : p = [46, 46]
    · subst hu
      rw [walkL_up, walkL_up]
      exact walk_more N last r (upL a) k
    · cases hn : N (joinL a p) with
      | none => left; rw [walkL_none hu hn, walkL_none hu hn]
      | some n =>
        by_cases h3 : n.kind = 3 ∧ (last = true ∨ r ≠ [])
        · by_cases h8 : 8 ≤ k + 1
          · right; rw [walkL_loop hu hn h3.1 h3.2 h8]
          · rw [walkL_link hu hn h3.1 h3.2 h8, walkL_link hu hn h3.1 h3.2 (by omega)]
            exact walk_more N last _ _ (k + 1)
        · by_cases h2 : n.kind ≠ 2 ∧ r ≠ []
          · left; rw [walkL_file hu hn h3 h2.1 h2.2, walkL_file hu hn h3 h2.1 h2.2]
          · rw [walkL_on hu hn h3 h2, walkL_on hu hn h3 h2]
            exact walk_more N last r _ k
termination_by (9 - k, todo.length)
decreasing_by all_goals (simp_wf; first | (apply Prod.Lex.right; simp) | (apply Prod.Lex.left; omega) | omega)

/-- a walk that goes well stands somewhere -/
theorem walk_ne {N : List UInt8 → Option NodeL} {last : Bool} (todo : List (List UInt8)) (a : List UInt8) (k : Nat) (ha : a ≠ []) (h : (walkL N last todo a k).2 = 0) : (walkL N last todo a k).1 ≠ [] := by
  match todo with
  | [] => rw [walkL_nil]; exact ha
  | p :: r =>
    by_cases hu : p = [46, 46]
    · subst hu
      rw [walkL_up] at h ⊢
      exact walk_ne r (upL a) k (upL_ne ha) h
    · cases hn : N (joinL a p) with
      | none =>
        rw [walkL_none hu hn] at h
        by_cases hr : r = []
        · rw [if_pos hr] at h; cases h
        · rw [if_neg hr] at h; cases h
      | some n =>
        by_cases h3 : n.kind = 3 ∧ (last = true ∨ r ≠ [])
        · by_cases h8 : 8 ≤ k
          · rw [walkL_loop hu hn h3.1 h3.2 h8] at h; cases h
          · rw [walkL_link hu hn h3.1 h3.2 h8] at h ⊢
            exact walk_ne _ _ (k + 1) (by split <;> simp [ha]) h
        · by_cases h2 : n.kind ≠ 2 ∧ r ≠ []
          · rw [walkL_file hu hn h3 h2.1 h2.2] at h; cases h
          · rw [walkL_on hu hn h3 h2] at h ⊢
            exact walk_ne r _ k (joinL_ne a p ha) h
termination_by (9 - k, todo.length)
decreasing_by all_goals (simp_wf; first | (apply Prod.Lex.right; simp) | (apply Prod.Lex.left; omega) | omega)

theorem placeL_ne {st : StL} {path : List UInt8} (h : (placeL st path).2.2 = 0) : (placeL st path).1 ≠ [] := by
  unfold placeL at h ⊢
  cases ha : absL path with
  | none => rw [ha] at h; cases h
  | some l =>
    rw [ha] at h
    simp only at h ⊢
    split at h
    · cases h
    · rename_i h1
      split at h
      · rename_i h2; simp only at h; exact absurd h h2.1
      · rename_i h2
        rw [if_neg h1, if_neg h2]
        simp only
        intro h3
        refine h2 ⟨fun h4 => ?_, h3⟩
        exact walk_ne (N := st.has) (last := false) l [47] 0 (by simp) h4 h3
theorem placeL_get {st : StL} {path : List UInt8} (h : (placeL st path).2.2 = 0) : (placeL st path).2.1 = st.get (placeL st path).1 := by
  unfold placeL at h ⊢
  cases ha : absL path with
  | none => rw [ha] at h; cases h
  | some l =>
    rw [ha] at h
    simp only at h ⊢
    split at h
    · cases h
    · rename_i h1
      split at h
      · rename_i h2; simp only at h; exact absurd h h2.1
      · rename_i h2
        rw [if_neg h1, if_neg h2]

end Go.Proofs.YtgoecmfjidcieaaDoor
