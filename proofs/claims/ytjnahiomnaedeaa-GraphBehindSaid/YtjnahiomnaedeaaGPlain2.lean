/-
  Plain laws on walks in depth. No program in sight.
-/
import Derived.Test.YtjnahiomnaedeaaGPlain
namespace Go.Proofs.Ytjnahiomnaedeaa
set_option linter.unusedVariables false
set_option linter.unusedSimpArgs false

/-- what was entered, what was left -/
abbrev DS := List Int × List Int
def visitL (g : List (List Int)) : Nat → DS → Int → DS
  | 0, s, _ => s
  | f + 1, s, n => if n ∈ s.1 then s else (((rowI g n).foldl (visitL g f) (s.1 ++ [n], s.2)).1, ((rowI g n).foldl (visitL g f) (s.1 ++ [n], s.2)).2 ++ [n])
def V (g : List (List Int)) (s : DS) (n : Int) : DS := visitL g (g.length + 1) s n
def postL (g : List (List Int)) (root : Int) (done : List Int) : List Int := (V g (onceL [] done, []) root).2

theorem visitL_seen {g : List (List Int)} {f : Nat} {s : DS} {n : Int} (h : n ∈ s.1) : visitL g f s n = s := by
  cases f with
  | zero => rfl
  | succ f => rw [visitL, if_pos h]
theorem visitL_enter {g : List (List Int)} {f : Nat} {s : DS} {n : Int} (h : n ∉ s.1) :
    visitL g (f + 1) s n = (((rowI g n).foldl (visitL g f) (s.1 ++ [n], s.2)).1, ((rowI g n).foldl (visitL g f) (s.1 ++ [n], s.2)).2 ++ [n]) := by
  rw [visitL, if_neg h]

/-- the principle -/
theorem visit_ind {g : List (List Int)} (hg : RightG g) (P : DS → Int → DS → Prop) (PL : DS → List Int → DS → Prop)
    (hseen : ∀ (s : DS) (n : Int), Good g.length s.1 → 0 ≤ n ∧ n < g.length → n ∈ s.1 → P s n s)
    (henter : ∀ (s : DS) (n : Int) (s1 : DS), Good g.length s.1 → 0 ≤ n ∧ n < g.length → n ∉ s.1 → PL (s.1 ++ [n], s.2) (rowI g n) s1 → P s n (s1.1, s1.2 ++ [n]))
    (hnil : ∀ s : DS, Good g.length s.1 → PL s [] s)
    (hcons : ∀ (s : DS) (m : Int) (l : List Int) (s1 s2 : DS), Good g.length s.1 → 0 ≤ m ∧ m < g.length → P s m s1 → Good g.length s1.1 → PL s1 l s2 → PL s (m :: l) s2) :
    ∀ (f : Nat) (s : DS) (n : Int), Good g.length s.1 → 0 ≤ n ∧ n < g.length → g.length < f + s.1.length → P s n (visitL g f s n) ∧ Good g.length (visitL g f s n).1 ∧ s.1.length ≤ (visitL g f s n).1.length := by
  intro f
  induction f with
  | zero => intro s n hgood hn hf; have := hgood.len; omega
  | succ f ih =>
    intro s n hgood hn hf
    by_cases hmem : n ∈ s.1
    · rw [visitL_seen hmem]; exact ⟨hseen s n hgood hn hmem, hgood, Nat.le_refl _⟩
    · rw [visitL_enter hmem]
      have key : ∀ (l : List Int) (s0 : DS), (∀ x ∈ l, 0 ≤ x ∧ x < (g.length : Int)) → Good g.length s0.1 → g.length < f + s0.1.length →
          PL s0 l (l.foldl (visitL g f) s0) ∧ Good g.length (l.foldl (visitL g f) s0).1 ∧ s0.1.length ≤ (l.foldl (visitL g f) s0).1.length := by
        intro l
        induction l with
        | nil => intro s0 _ h0 _; exact ⟨hnil s0 h0, h0, Nat.le_refl _⟩
        | cons m l ihl =>
          intro s0 hl h0 hf0
          obtain ⟨p1, p2, p3⟩ := ih s0 m h0 (hl m (List.mem_cons_self)) hf0
          obtain ⟨q1, q2, q3⟩ := ihl (visitL g f s0 m) (fun x hx => hl x (List.mem_cons_of_mem _ hx)) p2 (by omega)
          exact ⟨hcons s0 m l _ _ h0 (hl m (List.mem_cons_self)) p1 p2 q1, q2, Nat.le_trans p3 q3⟩
      obtain ⟨k1, k2, k3⟩ := key (rowI g n) (s.1 ++ [n], s.2) (hg.rowI n) (hgood.snoc hn hmem) (by simp; omega)
      exact ⟨henter s n _ hgood hn hmem k1, k2, by simp at k3 ⊢; omega⟩

theorem foldl_congr_inv {α β : Type} (F G : α → β → α) (I : α → Prop) : ∀ (l : List β) (s : α), (∀ s x, I s → x ∈ l → F s x = G s x ∧ I (F s x)) → I s → l.foldl F s = l.foldl G s ∧ I (l.foldl F s) := by
  intro l
  induction l with
  | nil => intro s _ h; exact ⟨rfl, h⟩
  | cons x l ih =>
    intro s h hI
    obtain ⟨e, hI'⟩ := h s x hI (List.mem_cons_self)
    simp only [List.foldl_cons]
    rw [← e]
    exact ih (F s x) (fun s y hs hy => h s y hs (List.mem_cons_of_mem _ hy)) hI'

theorem visitL_grow {g : List (List Int)} (hg : RightG g) {f : Nat} {s : DS} {n : Int} (h : Good g.length s.1) (hn : 0 ≤ n ∧ n < g.length) (hf : g.length < f + s.1.length) :
    Good g.length (visitL g f s n).1 ∧ s.1.length ≤ (visitL g f s n).1.length :=
  (visit_ind hg (fun _ _ _ => True) (fun _ _ _ => True) (fun _ _ _ _ _ => trivial) (fun _ _ _ _ _ _ _ => trivial) (fun _ _ => trivial) (fun _ _ _ _ _ _ _ _ _ _ => trivial) f s n h hn hf).2

/-- enough fuel is enough -/
theorem visitL_fuel {g : List (List Int)} (hg : RightG g) : ∀ (f f' : Nat) (s : DS) (n : Int), Good g.length s.1 → 0 ≤ n ∧ n < g.length → g.length < f + s.1.length → g.length < f' + s.1.length → visitL g f s n = visitL g f' s n := by
  intro f
  induction f with
  | zero => intro f' s n h hn hf; have := h.len; omega
  | succ f ih =>
    intro f' s n h hn hf hf'
    cases f' with
    | zero => have := h.len; omega
    | succ f' =>
      by_cases hmem : n ∈ s.1
      · rw [visitL_seen hmem, visitL_seen hmem]
      · rw [visitL_enter hmem, visitL_enter hmem]
        have key := foldl_congr_inv (visitL g f) (visitL g f') (fun s0 => Good g.length s0.1 ∧ s.1.length + 1 ≤ s0.1.length) (rowI g n) (s.1 ++ [n], s.2)
          (fun s0 x hs0 hx => by
            have hx' := hg.rowI n x hx
            refine ⟨ih f' s0 x hs0.1 hx' (by have := hs0.2; omega) (by have := hs0.2; omega), ?_⟩
            obtain ⟨g1, g2⟩ := visitL_grow hg hs0.1 hx' (f := f) (by have := hs0.2; omega)
            exact ⟨g1, Nat.le_trans hs0.2 g2⟩)
          ⟨h.snoc hn hmem, by simp⟩
        rw [key.1]

theorem V_seen {g : List (List Int)} {s : DS} {n : Int} (h : n ∈ s.1) : V g s n = s := visitL_seen h
theorem V_enter {g : List (List Int)} (hg : RightG g) {s : DS} {n : Int} (hs : Good g.length s.1) (hn : 0 ≤ n ∧ n < g.length) (h : n ∉ s.1) :
    V g s n = (((rowI g n).foldl (V g) (s.1 ++ [n], s.2)).1, ((rowI g n).foldl (V g) (s.1 ++ [n], s.2)).2 ++ [n]) := by
  have key := foldl_congr_inv (visitL g g.length) (V g) (fun s0 => Good g.length s0.1 ∧ 1 ≤ s0.1.length) (rowI g n) (s.1 ++ [n], s.2)
    (fun s0 x hs0 hx => by
      have hx' := hg.rowI n x hx
      obtain ⟨g1, g2⟩ := visitL_grow hg hs0.1 hx' (f := g.length) (by have := hs0.2; omega)
      exact ⟨visitL_fuel hg _ _ s0 x hs0.1 hx' (by have := hs0.2; omega) (by omega), g1, by have := hs0.2; omega⟩)
    ⟨hs.snoc hn h, by simp⟩
  rw [V, visitL_enter h, key.1]
theorem V_grow {g : List (List Int)} (hg : RightG g) {s : DS} {n : Int} (h : Good g.length s.1) (hn : 0 ≤ n ∧ n < g.length) : Good g.length (V g s n).1 ∧ s.1.length ≤ (V g s n).1.length :=
  visitL_grow hg h hn (by omega)

/-! ### the row of nodes that were entered -/
def fin (g : List (List Int)) : List (Int × Nat) → DS → DS
  | [], s => s
  | (n, j) :: r, s => fin g r ((((rowI g n).drop j).foldl (V g) s).1, (((rowI g n).drop j).foldl (V g) s).2 ++ [n])

theorem fin_left {g : List (List Int)} {n : Int} {j : Nat} {r : List (Int × Nat)} {s : DS} (h : (rowI g n).length ≤ j) : fin g ((n, j) :: r) s = fin g r (s.1, s.2 ++ [n]) := by
  rw [fin, List.drop_eq_nil_of_le h]; rfl
theorem drop_nth (l : List Int) (j : Nat) (h : j < l.length) : l.drop j = nth l j :: l.drop (j + 1) := by
  rw [nth_eq l j h]; exact List.drop_eq_getElem_cons h
theorem fin_seen {g : List (List Int)} {n : Int} {j : Nat} {r : List (Int × Nat)} {s : DS} (h : j < (rowI g n).length) (hs : nth (rowI g n) j ∈ s.1) : fin g ((n, j) :: r) s = fin g ((n, j + 1) :: r) s := by
  rw [fin, fin, drop_nth _ _ h, List.foldl_cons, V_seen hs]
theorem fin_enter {g : List (List Int)} (hg : RightG g) {n : Int} {j : Nat} {r : List (Int × Nat)} {s : DS} (hgood : Good g.length s.1) (h : j < (rowI g n).length) (hs : nth (rowI g n) j ∉ s.1) :
    fin g ((n, j) :: r) s = fin g ((nth (rowI g n) j, 0) :: (n, j + 1) :: r) (s.1 ++ [nth (rowI g n) j], s.2) := by
  have hn := hg.rowI n _ (nth_mem _ j h)
  rw [fin, drop_nth _ _ h, List.foldl_cons, V_enter hg hgood hn hs, fin, List.drop_zero, fin]
theorem fin_start {g : List (List Int)} (hg : RightG g) {n : Int} {s : DS} (hgood : Good g.length s.1) (hn : 0 ≤ n ∧ n < g.length) (hs : n ∉ s.1) : V g s n = fin g [(n, 0)] (s.1 ++ [n], s.2) := by
  rw [V_enter hg hgood hn hs, fin, List.drop_zero, fin]

/-! ### what a walk in depth leaves -/
theorem V_tells {g : List (List Int)} (hg : RightG g) {s : DS} {n : Int} (h : Good g.length s.1) (hn : 0 ≤ n ∧ n < g.length) :
    ∃ t u, (V g s n).1 = s.1 ++ u ∧ (V g s n).2 = s.2 ++ t ∧ (∀ x, x ∈ t ↔ x ∈ u) ∧ n ∈ (V g s n).1 := by
  refine (visit_ind hg (fun s n s' => ∃ t u, s'.1 = s.1 ++ u ∧ s'.2 = s.2 ++ t ∧ (∀ x, x ∈ t ↔ x ∈ u) ∧ n ∈ s'.1)
    (fun s _ s' => ∃ t u, s'.1 = s.1 ++ u ∧ s'.2 = s.2 ++ t ∧ (∀ x, x ∈ t ↔ x ∈ u)) ?_ ?_ ?_ ?_ (g.length + 1) s n h hn (by omega)).1
  · intro s n _ _ hmem; exact ⟨[], [], by simp, by simp, by simp, hmem⟩
  · rintro s n s1 _ _ _ ⟨t, u, h1, h2, h3⟩
    refine ⟨t ++ [n], n :: u, by simp [h1], by simp [h2], ?_, by simp [h1]⟩
    intro x; simp [h3 x, or_comm]
  · intro s _; exact ⟨[], [], by simp, by simp, by simp⟩
  · rintro s m l s1 s2 _ _ ⟨t, u, h1, h2, h3, _⟩ _ ⟨t', u', h1', h2', h3'⟩
    refine ⟨t ++ t', u ++ u', by rw [h1', h1, List.append_assoc], by rw [h2', h2, List.append_assoc], ?_⟩
    intro x; simp [h3 x, h3' x]

theorem postL_seen {g : List (List Int)} {root : Int} {done : List Int} (h : root ∈ done) : postL g root done = [] := by
  rw [postL, V_seen (mem_onceL.2 (Or.inr h))]
/-- what is left was not done -/
theorem postL_new {g : List (List Int)} (hg : RightG g) {root : Int} {done : List Int} (hd : nodesB g.length done = true) (hn : 0 ≤ root ∧ root < g.length) : ∀ x ∈ postL g root done, x ∉ done := by
  obtain ⟨t, u, h1, h2, h3, _⟩ := V_tells hg (s := (onceL [] done, [])) (good_roots hd) hn
  intro x hx hxd
  have hgood := (V_grow hg (s := (onceL [] done, [])) (good_roots hd) hn).1
  rw [h1] at hgood
  have hx' : x ∈ u := (h3 x).1 (by rw [postL, h2] at hx; simpa using hx)
  have := hgood.nodup
  rw [List.nodup_append] at this
  exact this.2.2 x (mem_onceL.2 (Or.inr hxd)) x hx' rfl
theorem postL_root {g : List (List Int)} (hg : RightG g) {root : Int} (hn : 0 ≤ root ∧ root < g.length) : root ∈ postL g root [] := by
  obtain ⟨t, u, h1, h2, h3, h4⟩ := V_tells hg (s := (onceL [] [], [])) (Good.nil _) hn
  rw [h1] at h4
  rw [postL, h2]
  simp only [onceL_nil, List.nil_append] at h4 ⊢
  exact (h3 root).2 h4

/-! ### where nothing leads back -/
structure BInv (g : List (List Int)) (D : List Int) (s : DS) : Prop where
  done : ∀ x ∈ D, x ∈ s.1
  out : ∀ x ∈ s.2, x ∈ s.1 ∧ x ∉ D
  nodup : s.2.Nodup
  behind : ∀ i, i < s.2.length → ∀ y ∈ rowI g (nth s.2 i), (∃ j, j < i ∧ nth s.2 j = y) ∨ y ∈ D
def gray (D : List Int) (s : DS) (x : Int) : Prop := x ∈ s.1 ∧ x ∉ s.2 ∧ x ∉ D

theorem nth_append_right (a : List Int) (x : Int) : nth (a ++ [x]) a.length = x := by simp [nth, List.getD]

theorem V_behind {g : List (List Int)} (hg : RightG g) (D : List Int) (hdag : ∀ x, 0 ≤ x ∧ x < (g.length : Int) → ∀ y ∈ rowI g x, x < y) {s : DS} {n : Int} (h : Good g.length s.1) (hn : 0 ≤ n ∧ n < g.length)
    (hi : BInv g D s) (hgr : ∀ x, gray D s x → x < n) : BInv g D (V g s n) := by
  have key := (visit_ind hg (fun s n s' => BInv g D s → (∀ x, gray D s x → x < n) → BInv g D s' ∧ (∀ x, gray D s' x ↔ gray D s x) ∧ (n ∈ s'.2 ∨ n ∈ D) ∧ (∀ x ∈ s.2, x ∈ s'.2))
    (fun s l s' => BInv g D s → (∀ x, gray D s x → ∀ m ∈ l, x < m) → BInv g D s' ∧ (∀ x, gray D s' x ↔ gray D s x) ∧ (∀ m ∈ l, m ∈ s'.2 ∨ m ∈ D) ∧ (∀ x ∈ s.2, x ∈ s'.2)) ?_ ?_ ?_ ?_ (g.length + 1) s n h hn (by omega)).1
  · exact (key hi hgr).1
  · intro s n _ _ hmem hi hgr
    refine ⟨hi, fun _ => Iff.rfl, ?_, fun _ hx => hx⟩
    by_cases h1 : n ∈ s.2
    · exact Or.inl h1
    · by_cases h2 : n ∈ D
      · exact Or.inr h2
      · have := hgr n ⟨hmem, h1, h2⟩; omega
  · intro s n s1 hgood hn hmem hpl hi hgr
    have hnout : n ∉ s.2 := fun hx => hmem (hi.out n hx).1
    have hnD : n ∉ D := fun hx => hmem (hi.done n hx)
    have hg0 : ∀ x, gray D (s.1 ++ [n], s.2) x ↔ gray D s x ∨ x = n := by
      intro x
      simp only [gray, List.mem_append, List.mem_singleton]
      constructor
      · rintro ⟨h1 | h1, h2, h3⟩
        · exact Or.inl ⟨h1, h2, h3⟩
        · exact Or.inr h1
      · rintro (⟨h1, h2, h3⟩ | rfl)
        · exact ⟨Or.inl h1, h2, h3⟩
        · exact ⟨Or.inr rfl, hnout, hnD⟩
    obtain ⟨j1, j2, j3, j4⟩ := hpl ⟨fun x hx => List.mem_append_left _ (hi.done x hx), fun x hx => ⟨List.mem_append_left _ (hi.out x hx).1, (hi.out x hx).2⟩, hi.nodup, hi.behind⟩
      (by
        intro x hx m hm
        have h1 := hdag n hn m hm
        rcases (hg0 x).1 hx with h2 | rfl
        · have := hgr x h2; omega
        · exact h1)
    have hn1 : gray D s1 n := (j2 n).2 ((hg0 n).2 (Or.inr rfl))
    refine ⟨⟨j1.done, ?_, ?_, ?_⟩, ?_, ?_, ?_⟩
    · intro x hx
      rcases List.mem_append.1 hx with h1 | h1
      · exact j1.out x h1
      · rw [List.mem_singleton.1 h1]; exact ⟨hn1.1, hn1.2.2⟩
    · show (s1.2 ++ [n]).Nodup
      rw [List.nodup_append]
      refine ⟨j1.nodup, by simp, ?_⟩
      intro a ha b hb e
      rw [List.mem_singleton.1 hb] at e; subst e; exact hn1.2.1 ha
    · intro i hlt y hy
      simp only [List.length_append, List.length_singleton] at hlt
      simp only at hy ⊢
      by_cases hi1 : i < s1.2.length
      · rw [nth_append_left _ _ _ hi1] at hy
        rcases j1.behind i hi1 y hy with ⟨j, hj, e⟩ | h2
        · exact Or.inl ⟨j, hj, by rw [nth_append_left _ _ _ (by omega)]; exact e⟩
        · exact Or.inr h2
      · obtain rfl : i = s1.2.length := by omega
        rw [nth_append_right] at hy
        rcases j3 y hy with h2 | h2
        · obtain ⟨j, hj, e⟩ := mem_iff_nth.1 h2
          exact Or.inl ⟨j, hj, by rw [nth_append_left _ _ _ hj]; exact e⟩
        · exact Or.inr h2
    · intro x
      constructor
      · rintro ⟨h1, h2, h3⟩
        simp only [List.mem_append, List.mem_singleton, not_or] at h2
        rcases (hg0 x).1 ((j2 x).1 ⟨h1, h2.1, h3⟩) with h4 | h4
        · exact h4
        · exact absurd h4 h2.2
      · intro hx
        have h1 := (j2 x).2 ((hg0 x).2 (Or.inl hx))
        refine ⟨h1.1, ?_, h1.2.2⟩
        simp only [List.mem_append, List.mem_singleton, not_or]
        exact ⟨h1.2.1, fun e => hmem (e ▸ hx.1)⟩
    · exact Or.inl (by simp)
    · intro x hx; exact List.mem_append_left _ (j4 x hx)
  · intro s _ hi _; exact ⟨hi, fun _ => Iff.rfl, by simp, fun _ hx => hx⟩
  · intro s m l s1 s2 _ _ hp _ hpl hi hgr
    obtain ⟨a1, a2, a3, a4⟩ := hp hi (fun x hx => hgr x hx m (List.mem_cons_self))
    obtain ⟨b1, b2, b3, b4⟩ := hpl a1 (fun x hx y hy => hgr x ((a2 x).1 hx) y (List.mem_cons_of_mem _ hy))
    refine ⟨b1, fun x => (b2 x).trans (a2 x), ?_, fun x hx => b4 x (a4 x hx)⟩
    intro y hy
    rcases List.mem_cons.1 hy with rfl | h1
    · exact a3.imp (b4 _) id
    · exact b3 y h1

theorem postL_behind {g : List (List Int)} (hg : RightG g) {done : List Int} (hd : nodesB g.length done = true) {root : Int} (hn : 0 ≤ root ∧ root < g.length)
    (hdag : ∀ x, 0 ≤ x ∧ x < (g.length : Int) → ∀ y ∈ rowI g x, x < y) :
    (postL g root done).Nodup ∧ (∀ x ∈ postL g root done, x ∉ done ∧ 0 ≤ x ∧ x < g.length) ∧
    (∀ i, i < (postL g root done).length → ∀ y ∈ rowI g (nth (postL g root done) i), (∃ j, j < i ∧ nth (postL g root done) j = y) ∨ y ∈ done) := by
  have h := V_behind hg (onceL [] done) hdag (s := (onceL [] done, [])) (good_roots hd) hn ⟨fun _ hx => hx, by simp, by simp, by simp⟩ (by rintro x ⟨h1, _, h2⟩; exact absurd h1 h2)
  have hgood := (V_grow hg (s := (onceL [] done, [])) (good_roots hd) hn).1
  refine ⟨h.nodup, fun x hx => ⟨fun hxd => (h.out x hx).2 (mem_onceL.2 (Or.inr hxd)), hgood.ok x (h.out x hx).1⟩, ?_⟩
  intro i hi y hy
  refine (h.behind i hi y hy).imp id (fun h1 => ?_)
  rcases mem_onceL.1 h1 with h2 | h2
  · simp at h2
  · exact h2
theorem postL_last {g : List (List Int)} (hg : RightG g) {done : List Int} (hd : nodesB g.length done = true) {root : Int} (hn : 0 ≤ root ∧ root < g.length) (h : root ∉ done) :
    ∃ t, postL g root done = t ++ [root] := by
  have hr : root ∉ (onceL [] done) := fun h1 => by
    rcases mem_onceL.1 h1 with h2 | h2
    · simp at h2
    · exact h h2
  exact ⟨_, by rw [postL, V_enter hg (s := (onceL [] done, [])) (good_roots hd) hn hr]⟩

end Go.Proofs.Ytjnahiomnaedeaa
