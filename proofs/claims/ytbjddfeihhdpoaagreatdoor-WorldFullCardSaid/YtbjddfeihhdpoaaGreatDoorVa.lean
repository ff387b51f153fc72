import Derived.Orders
import Derived.LoopN
import Derived.Tactics
import Derived.Laws.World
import Derived.Laws.Append
import Derived.Laws.Slices
import Derived.Laws.Tables
import GoSem.Dispatch
import GoSem.Core.Region
set_option linter.unusedVariables false
set_option linter.unusedSimpArgs false
namespace Go.Proofs.YtbjddfeihhdpoaaGreatDoor
open Go

/-- a tree keyed by numbers -/
inductive T (α : Type) where
  | e
  | n (v : Option α) (l r : T α)
noncomputable def T.get {α : Type} (t : T α) : Nat → Option α :=
  T.rec (motive := fun _ => Nat → Option α) (fun _ => none) (fun v _ _ gl gr k => Nat.rec (motive := fun _ => Option α) v (fun k _ => Bool.rec (motive := fun _ => Option α) (gr (Nat.div k 2)) (gl (Nat.div k 2)) (Nat.beq (Nat.mod k 2) 0)) k) t
noncomputable def T.put' {α : Type} (d : Nat) : T α → Nat → Option α → T α :=
  Nat.rec (motive := fun _ => T α → Nat → Option α → T α) (fun t _ _ => t) (fun _ ih t => T.rec (motive := fun _ => Nat → Option α → T α)
    (fun k => Nat.rec (motive := fun _ => Option α → T α) (fun x => .n x .e .e) (fun k _ x => Bool.rec (motive := fun _ => T α) (.n none .e (ih .e (Nat.div k 2) x)) (.n none (ih .e (Nat.div k 2) x) .e) (Nat.beq (Nat.mod k 2) 0)) k)
    (fun v l r _ _ k => Nat.rec (motive := fun _ => Option α → T α) (fun x => .n x l r) (fun k _ x => Bool.rec (motive := fun _ => T α) (.n v l (ih r (Nat.div k 2) x)) (.n v (ih l (Nat.div k 2) x) r) (Nat.beq (Nat.mod k 2) 0)) k) t) d
noncomputable def T.put {α : Type} (x : Option α) (d : Nat) (t : T α) (k : Nat) : T α := T.put' d t k x
noncomputable def T.set {α : Type} (t : T α) (k : Nat) (x : α) : T α := T.put' (k + 1) t k (some x)
noncomputable def T.del {α : Type} (t : T α) (k : Nat) : T α := T.put' (k + 1) t k none

theorem T.get_e {α : Type} (j : Nat) : (T.e : T α).get j = none := rfl
theorem T.get_n0 {α : Type} (v : Option α) (l r : T α) : (T.n v l r).get 0 = v := rfl
theorem T.get_ns {α : Type} (v : Option α) (l r : T α) (j : Nat) : (T.n v l r).get (j + 1) = bif Nat.beq (j % 2) 0 then l.get (j / 2) else r.get (j / 2) := by
  show Bool.rec (motive := fun _ => Option α) _ _ (Nat.beq (j % 2) 0) = _
  cases Nat.beq (j % 2) 0 <;> rfl
theorem T.get_put {α : Type} (x : Option α) : ∀ (d : Nat) (t : T α) (k j : Nat), k < d → (T.put x d t k).get j = if j = k then x else t.get j := by
  intro d
  induction d with
  | zero => intro t k j h; omega
  | succ d ih =>
    intro t k j h
    obtain ⟨v, l, r, hp, hg⟩ : ∃ v l r, T.put x (d + 1) t k = (match k with
        | 0 => .n x l r
        | k + 1 => bif Nat.beq (k % 2) 0 then .n v (T.put x d l (k / 2)) r else .n v l (T.put x d r (k / 2))) ∧ ∀ j, t.get j = (T.n v l r).get j := by
      cases t with
      | e => exact ⟨none, .e, .e, by cases k with
          | zero => rfl
          | succ k => show Bool.rec (motive := fun _ => T α) _ _ (Nat.beq (k % 2) 0) = bif Nat.beq (k % 2) 0 then _ else _; cases Nat.beq (k % 2) 0 <;> rfl, fun j => by
          cases j with
          | zero => rfl
          | succ j => rw [T.get_ns]; cases Nat.beq _ 0 <;> rfl⟩
      | n v l r => exact ⟨v, l, r, by cases k with
          | zero => rfl
          | succ k => show Bool.rec (motive := fun _ => T α) _ _ (Nat.beq (k % 2) 0) = bif Nat.beq (k % 2) 0 then _ else _; cases Nat.beq (k % 2) 0 <;> rfl, fun j => rfl⟩
    rw [hp, hg]
    have hb : ∀ m : Nat, (Nat.beq (m % 2) 0 = true ∧ m % 2 = 0) ∨ (Nat.beq (m % 2) 0 = false ∧ m % 2 = 1) := fun m => by
      rcases (by omega : m % 2 = 0 ∨ m % 2 = 1) with h | h
      · exact .inl ⟨by rw [h]; rfl, h⟩
      · exact .inr ⟨by rw [h]; rfl, h⟩
    cases k with
    | zero => cases j <;> simp [T.get_n0, T.get_ns]
    | succ k =>
      have hk : k / 2 < d := by omega
      rcases hb k with ⟨h0, g0⟩ | ⟨h0, g0⟩ <;> simp only [h0, cond_true, cond_false] <;> cases j with
      | zero => simp [T.get_n0]
      | succ j =>
        rw [T.get_ns, T.get_ns]
        rcases hb j with ⟨h1, g1⟩ | ⟨h1, g1⟩ <;> simp only [h1, cond_true, cond_false, ih _ _ _ hk]
        all_goals first
          | (have : (j / 2 = k / 2) ↔ (j + 1 = k + 1) := by omega
             simp only [this])
          | (rw [if_neg (by omega)])
theorem T.get_set {α : Type} (t : T α) (k j : Nat) (x : α) : (t.set k x).get j = if j = k then some x else t.get j := T.get_put _ _ _ _ _ (by omega)
theorem T.get_del {α : Type} (t : T α) (k j : Nat) : (t.del k).get j = if j = k then none else t.get j := T.get_put _ _ _ _ _ (by omega)

/-- a list as a tree -/
def evens {α : Type} : List α → List α
  | a :: _ :: l => a :: evens l
  | l => l
def odds {α : Type} : List α → List α
  | _ :: b :: l => b :: odds l
  | _ => []
def mkT {α : Type} : Nat → List α → T α
  | d + 1, a :: l => .n (some a) (mkT d (evens l)) (mkT d (odds l))
  | _, _ => .e
theorem evens_get {α : Type} : ∀ (l : List α) (k : Nat), (evens l)[k]? = l[2 * k]?
  | [], k => by simp [evens]
  | [a], k => by cases k <;> simp [evens]
  | a :: b :: l, 0 => rfl
  | a :: b :: l, k + 1 => by rw [evens, List.getElem?_cons_succ, evens_get l k]; rfl
theorem odds_get {α : Type} : ∀ (l : List α) (k : Nat), (odds l)[k]? = l[2 * k + 1]?
  | [], k => by simp [odds]
  | [a], k => by simp [odds]
  | a :: b :: l, 0 => rfl
  | a :: b :: l, k + 1 => by rw [odds, List.getElem?_cons_succ, odds_get l k]; rfl
theorem evens_len {α : Type} : ∀ (l : List α), (evens l).length ≤ l.length
  | [] => by simp [evens]
  | [_] => by simp [evens]
  | _ :: _ :: l => by have := evens_len l; simp only [evens, List.length_cons]; omega
theorem odds_len {α : Type} : ∀ (l : List α), (odds l).length ≤ l.length
  | [] => by simp [odds]
  | [_] => by simp [odds]
  | _ :: _ :: l => by have := odds_len l; simp only [odds, List.length_cons]; omega
theorem mkT_get {α : Type} : ∀ (d : Nat) (l : List α) (k : Nat), l.length ≤ d → (mkT d l).get k = l[k]?
  | 0, [], k, _ => rfl
  | 0, _ :: _, _, h => by simp at h
  | d + 1, [], k, _ => rfl
  | d + 1, a :: l, 0, _ => rfl
  | d + 1, a :: l, k + 1, h => by
    have h1 := evens_len l; have h2 := odds_len l
    have h3 : l.length ≤ d := by simpa using h
    rw [mkT, T.get_ns, List.getElem?_cons_succ]
    rcases (by omega : k % 2 = 0 ∨ k % 2 = 1) with e | e
    · rw [e]; show (mkT d (evens l)).get (k / 2) = _
      rw [mkT_get d _ _ (by omega), evens_get]; congr 1; omega
    · rw [e]; show (mkT d (odds l)).get (k / 2) = _
      rw [mkT_get d _ _ (by omega), odds_get]; congr 1; omega
end Go.Proofs.YtbjddfeihhdpoaaGreatDoor
namespace Go.Proofs.YtbjddfeihhdpoaaGreatDoor
open Go

/-- a cell as it is known: a value as it stands; a place in a block that the run has made; a slice of it; a map; a closure; a slice without room; a map in an interface; a loop's yield; whatever it may be; a small number by name -/
inductive AC where
  | v (x : Value)
  | p (b o : Nat)
  | s (b o n e : Nat)
  | m (b : Nat)
  | f (g : FuncId) (a c : List (Nat × Nat))
  | nz (b : Nat)
  | ne (b : Nat)
  | ni (t : TypeId) (b : Nat)
  | y (b : Nat)
  | uk
  | qn (b : Nat)
/-- a value -/
inductive AV where
  | c (x : AC)
  | g (l : List AC)
/-- what a temporary holds -/
inductive AT where
  | o (x : AV)
  | t (l : List AV)

/-- two lists, element by element -/
def All2 {α β : Type} (R : α → β → Prop) : List α → List β → Prop
  | [], [] => True
  | a :: l, b :: m => R a b ∧ All2 R l m
  | _, _ => False
theorem All2.mono {α β : Type} {R S : α → β → Prop} (h : ∀ a b, R a b → S a b) : ∀ {l : List α} {m : List β}, All2 R l m → All2 S l m
  | [], [], _ => trivial
  | _ :: _, _ :: _, hh => ⟨h _ _ hh.1, hh.2.mono h⟩
  | [], _ :: _, hh => hh.elim
  | _ :: _, [], hh => hh.elim
theorem All2.length {α β : Type} {R : α → β → Prop} : ∀ {l : List α} {m : List β}, All2 R l m → l.length = m.length
  | [], [], _ => rfl
  | _ :: _, _ :: _, hh => congrArg (· + 1) hh.2.length
  | [], _ :: _, hh => hh.elim
  | _ :: _, [], hh => hh.elim
theorem All2.get {α β : Type} {R : α → β → Prop} : ∀ {l : List α} {m : List β} (i : Nat) {a : α}, All2 R l m → l[i]? = some a → ∃ b, m[i]? = some b ∧ R a b
  | [], [], _, _, _, h => by simp at h
  | a :: l, b :: m, 0, x, hh, h => by simp at h; subst h; exact ⟨b, rfl, hh.1⟩
  | a :: l, b :: m, i + 1, x, hh, h => by simpa using All2.get i hh.2 (by simpa using h)
  | [], _ :: _, _, _, hh, _ => hh.elim
  | _ :: _, [], _, _, hh, _ => hh.elim
theorem All2.append {α β : Type} {R : α → β → Prop} : ∀ {l : List α} {m : List β} {l' : List α} {m' : List β}, All2 R l m → All2 R l' m' → All2 R (l ++ l') (m ++ m')
  | [], [], _, _, _, h' => h'
  | _ :: _, _ :: _, _, _, h, h' => ⟨h.1, h.2.append h'⟩
  | [], _ :: _, _, _, h, _ => h.elim
  | _ :: _, [], _, _, h, _ => h.elim
theorem All2.take {α β : Type} {R : α → β → Prop} : ∀ (n : Nat) {l : List α} {m : List β}, All2 R l m → All2 R (l.take n) (m.take n)
  | 0, _, _, _ => by simp [All2]
  | n + 1, [], [], _ => by simp [All2]
  | n + 1, _ :: _, _ :: _, h => ⟨h.1, h.2.take n⟩
  | _, [], _ :: _, h => h.elim
  | _, _ :: _, [], h => h.elim
theorem All2.drop {α β : Type} {R : α → β → Prop} : ∀ (n : Nat) {l : List α} {m : List β}, All2 R l m → All2 R (l.drop n) (m.drop n)
  | 0, _, _, h => by simpa using h
  | n + 1, [], [], _ => by simp [All2]
  | n + 1, _ :: _, _ :: _, h => by simpa using h.2.drop n
  | _, [], _ :: _, h => h.elim
  | _, _ :: _, [], h => h.elim
theorem All2.of_get {α β : Type} {R : α → β → Prop} : ∀ {l : List α} {m : List β}, l.length = m.length → (∀ (i : Nat) a b, l[i]? = some a → m[i]? = some b → R a b) → All2 R l m
  | [], [], _, _ => trivial
  | a :: l, b :: m, hl, h => ⟨h 0 a b rfl rfl, All2.of_get (Nat.succ.inj hl) (fun i x y hx hy => h (i + 1) x y (by simpa using hx) (by simpa using hy))⟩
  | [], _ :: _, hl, _ => by simp at hl
  | _ :: _, [], hl, _ => by simp at hl

/-- where the blocks of the run lie, and how many cells they have -/
abbrev Map := Nat → Option (Nat × Nat)
def PtrAt (ι : Map) (x : Nat × Nat) (y : Value) : Prop := ∃ r z, ι x.1 = some (r, z) ∧ y = .pointer (some ⟨r, x.2, none⟩)
def AC.den (ι : Map) : AC → Value → Prop
  | .v x, u => u = x ∧ x.oneCell' = true
  | .p b o, u => ∃ r z, ι b = some (r, z) ∧ u = .pointer (some ⟨r, o, none⟩)
  | .s b o n e, u => ∃ r z k, ι b = some (r, z) ∧ u = .slice (some ⟨r, o, none⟩) n k ∧ n ≤ k ∧ o + k * e = z
  | .m b, u => ∃ r z, ι b = some (r, z) ∧ u = .map (some r)
  | .f g a c, u => ∃ m l, u = .func (.func g) ⟨m⟩ ⟨l⟩ ∧ All2 (PtrAt ι) a m ∧ All2 (PtrAt ι) c l
  | .nz b, u => ∃ r z o, ι b = some (r, z) ∧ u = .slice (some ⟨r, o, none⟩) 0 0
  | .ne b, u => ∃ r z o k, ι b = some (r, z) ∧ u = .slice (some ⟨r, o, none⟩) 0 k
  | .ni t b, u => ∃ r z, ι b = some (r, z) ∧ u = .iface t (.map (some r))
  | .y b, u => ∃ r z, ι b = some (r, z) ∧ u = .func (.yield r) #[] #[]
  | .uk, u => u.oneCell' = true
  | .qn b, u => ∃ r z, ι b = some (r, z) ∧ u = .int .u8 r
def AV.den (ι : Map) : AV → Value → Prop
  | .c x, u => x.den ι u
  | .g l, u => ∃ m, u = .agg ⟨m⟩ ∧ All2 (AC.den ι) l m
def AT.den (ι : Map) : AT → Value → Prop
  | .o x, u => x.den ι u
  | .t l, u => ∃ m, u = .tuple ⟨m⟩ ∧ All2 (AV.den ι) l m
def Ext (ι κ : Map) : Prop := ∀ b x, ι b = some x → κ b = some x
theorem Ext.refl (ι : Map) : Ext ι ι := fun _ _ h => h
theorem Ext.trans {ι κ μ : Map} (h : Ext ι κ) (h' : Ext κ μ) : Ext ι μ := fun b x e => h' b x (h b x e)
theorem AC.den.ext {ι κ : Map} (h : Ext ι κ) : ∀ {x : AC} {u : Value}, x.den ι u → x.den κ u
  | .v _, _, hh => hh
  | .p _ _, _, ⟨r, z, e, hu⟩ => ⟨r, z, h _ _ e, hu⟩
  | .s _ _ _ _, _, ⟨r, z, k, e, hu⟩ => ⟨r, z, k, h _ _ e, hu⟩
  | .m _, _, ⟨r, z, e, hu⟩ => ⟨r, z, h _ _ e, hu⟩
  | .f _ _ _, _, ⟨q, l, hu, hm, hl⟩ => ⟨q, l, hu, hm.mono (fun _ _ ⟨r, z, e, hy⟩ => ⟨r, z, h _ _ e, hy⟩), hl.mono (fun _ _ ⟨r, z, e, hy⟩ => ⟨r, z, h _ _ e, hy⟩)⟩
  | .nz _, _, ⟨r, z, o, e, hu⟩ => ⟨r, z, o, h _ _ e, hu⟩
  | .ne _, _, ⟨r, z, o, k, e, hu⟩ => ⟨r, z, o, k, h _ _ e, hu⟩
  | .ni _ _, _, ⟨r, z, e, hu⟩ => ⟨r, z, h _ _ e, hu⟩
  | .y _, _, ⟨r, z, e, hu⟩ => ⟨r, z, h _ _ e, hu⟩
  | .uk, _, hu => hu
  | .qn _, _, ⟨r, z, e, hu⟩ => ⟨r, z, h _ _ e, hu⟩
theorem AV.den.ext {ι κ : Map} (h : Ext ι κ) : ∀ {x : AV} {u : Value}, x.den ι u → x.den κ u
  | .c _, _, hh => AC.den.ext h hh
  | .g _, _, ⟨m, hu, hl⟩ => ⟨m, hu, hl.mono (fun _ _ e => AC.den.ext h e)⟩
theorem AT.den.ext {ι κ : Map} (h : Ext ι κ) : ∀ {x : AT} {u : Value}, x.den ι u → x.den κ u
  | .o _, _, hh => AV.den.ext h hh
  | .t _, _, ⟨m, hu, hl⟩ => ⟨m, hu, hl.mono (fun _ _ e => AV.den.ext h e)⟩
theorem AC.den.one {ι : Map} : ∀ {x : AC} {u : Value}, x.den ι u → u.oneCell' = true
  | .v _, _, hh => by rw [hh.1]; exact hh.2
  | .p _ _, _, ⟨_, _, _, hu⟩ => by rw [hu]; rfl
  | .s _ _ _ _, _, ⟨_, _, _, _, hu, _⟩ => by rw [hu]; rfl
  | .m _, _, ⟨_, _, _, hu⟩ => by rw [hu]; rfl
  | .f _ _ _, _, ⟨_, _, hu, _⟩ => by rw [hu]; rfl
  | .nz _, _, ⟨_, _, _, _, hu⟩ => by rw [hu]; rfl
  | .ne _, _, ⟨_, _, _, _, _, hu⟩ => by rw [hu]; rfl
  | .ni _ _, _, ⟨_, _, _, hu⟩ => by rw [hu]; rfl
  | .y _, _, ⟨_, _, _, hu⟩ => by rw [hu]; rfl
  | .uk, _, hu => hu
  | .qn _, _, ⟨_, _, _, hu⟩ => by rw [hu]; rfl
/-- the cells of a value -/
def AV.cells : AV → List AC
  | .c x => [x]
  | .g l => l
theorem Value.cells_one {u : Value} (h : u.oneCell' = true) : u.cells = #[u] := by cases u <;> simp_all [Value.cells, Value.oneCell']
theorem AV.den.cells {ι : Map} : ∀ {x : AV} {u : Value}, x.den ι u → All2 (AC.den ι) x.cells u.cells.toList
  | .c _, u, hh => by rw [Value.cells_one (AC.den.one hh)]; exact ⟨hh, trivial⟩
  | .g _, _, ⟨m, hu, hl⟩ => by rw [hu]; exact hl

/-- an entry of a map: its key as it stands -/
structure AE where
  k : Value
  v : AV
  born : Nat
/-- a block -/
inductive Blk where
  | cells (c : T AC) (n : Nat) (t : TypeId)
  | map (l : List AE) (clock : Nat)
  | iter (m : Option Nat) (since : Nat) (seen : List Nat) (last : Nat)
  | sit (s : ByteArray) (pos : Nat)
def Blk.ok (ι : Map) (z : Nat) : Blk → Option Obj → Prop
  | .cells c n t, o => ∃ a f, o = some (.cells a t f) ∧ a.size = z ∧ n ≤ z ∧ (f.1 = f.2 ∨ z ≤ f.1) ∧ ∀ (i : Nat) (x : AC), i < n → c.get i = some x → ∃ u, a[i]? = some u ∧ x.den ι u
  | .map l c, o => ∃ a, o = some (.map a c) ∧ All2 (fun (x : AE) (e : MapEntry) => e.key = x.k ∧ e.born = x.born ∧ x.v.den ι e.val) l a.toList
  | .iter m s l k, o => ∃ q, o = some (.mapIter q s ⟨l⟩ k) ∧ (match m, q with | none, none => True | some b, some r => ∃ z, ι b = some (r, z) | _, _ => False)
  | .sit s k, o => o = some (.stringIter s k)
theorem Blk.ok.ext {ι κ : Map} (h : Ext ι κ) {z : Nat} {o : Option Obj} : ∀ {k : Blk}, k.ok ι z o → k.ok κ z o
  | .cells _ _ _, ⟨a, f, ho, hz, hl, hf, hx⟩ => ⟨a, f, ho, hz, hl, hf, fun i x hi e => let ⟨u, hu, hd⟩ := hx i x hi e; ⟨u, hu, hd.ext h⟩⟩
  | .map _ _, ⟨a, ho, hl⟩ => ⟨a, ho, hl.mono (fun _ _ ⟨h1, h2, h3⟩ => ⟨h1, h2, h3.ext h⟩)⟩
  | .iter m _ _ _, ⟨q, ho, hm⟩ => ⟨q, ho, by
      cases m <;> cases q <;> simp_all
      obtain ⟨z, hz⟩ := hm
      exact ⟨z, h _ _ hz⟩⟩
  | .sit _ _, ho => ho

/-- the blocks of the run: as they are known; the next number -/
structure AH where
  t : T Blk
  n : Nat
/-- the world holds what is known -/
structure Rel (ι : Map) (h : AH) (w : World) : Prop where
  blk : ∀ b k, h.t.get b = some k → ∃ r z, ι b = some (r, z) ∧ k.ok ι z w.heap[r]?
  inj : ∀ b c k j r y z, h.t.get b = some k → h.t.get c = some j → ι b = some (r, y) → ι c = some (r, z) → b = c
  fresh : ∀ b, h.n ≤ b → ι b = none
theorem Blk.ok.some {ι : Map} {z : Nat} {k : Blk} {w : World} {r : Nat} (h : k.ok ι z w.heap[r]?) : r < w.heap.size := by
  rcases Nat.lt_or_ge r w.heap.size with hr | hr
  · exact hr
  · rw [Array.getElem?_eq_none hr] at h
    cases k with
    | cells c n t => obtain ⟨a, f, ho, _⟩ := h; cases ho
    | map l c => obtain ⟨a, ho, _⟩ := h; cases ho
    | iter m s l k => obtain ⟨q, ho, _⟩ := h; cases ho
    | sit s k => cases h
/-- is block r one of the run's? -/
def Trk (ι : Map) (h : AH) (r : Nat) : Prop := ∃ b k z, h.t.get b = some k ∧ ι b = some (r, z)
/-- from one state to a later one: what is not the run's stays as it is -/
def Keep0 (ι : Map) (h : AH) (w : World) (κ : Map) (h' : AH) (w' : World) : Prop :=
  w.heap.size ≤ w'.heap.size ∧ ∀ r, r < w.heap.size → ¬ Trk ι h r → w'.heap[r]? = w.heap[r]? ∧ ¬ Trk κ h' r
theorem Keep0.refl (ι : Map) (h : AH) (w : World) : Keep0 ι h w ι h w := ⟨Nat.le_refl _, fun _ _ h => ⟨rfl, h⟩⟩
theorem Keep0.trans {ι κ μ : Map} {h h' h'' : AH} {w w' w'' : World} (a : Keep0 ι h w κ h' w') (b : Keep0 κ h' w' μ h'' w'') : Keep0 ι h w μ h'' w'' :=
  ⟨Nat.le_trans a.1 b.1, fun r hr ht => by
    obtain ⟨e1, t1⟩ := a.2 r hr ht
    obtain ⟨e2, t2⟩ := b.2 r (Nat.lt_of_lt_of_le hr a.1) t1
    exact ⟨e2.trans e1, t2⟩⟩
theorem Rel.of_heap {ι : Map} {h : AH} {w w' : World} (R : Rel ι h w) (e : w'.heap = w.heap) : Rel ι h w' :=
  ⟨fun b k hb => by rw [e]; exact R.blk b k hb, R.inj, R.fresh⟩
theorem Keep0.of_heap {ι : Map} {h : AH} {w w' : World} (e : w'.heap = w.heap) : Keep0 ι h w ι h w' :=
  ⟨by rw [e]; exact Nat.le_refl _, fun r hr ht => ⟨by rw [e], ht⟩⟩
/-- nothing was written, nothing asked of the system -/
def Calm (w w' : World) : Prop := w'.os = w.os ∧ w'.tape = w.tape ∧ w'.output = w.output
theorem Calm.refl (w : World) : Calm w w := ⟨rfl, rfl, rfl⟩
theorem Calm.trans {w w' w'' : World} (a : Calm w w') (b : Calm w' w'') : Calm w w'' := ⟨b.1.trans a.1, b.2.1.trans a.2.1, b.2.2.trans a.2.2⟩
/-- .. and no number that is given out gets another block -/
def Keep (ι : Map) (h : AH) (w : World) (κ : Map) (h' : AH) (w' : World) : Prop := Keep0 ι h w κ h' w' ∧ h.n ≤ h'.n ∧ (∀ b, b < h.n → κ b = ι b) ∧ Calm w w'
theorem Keep.refl (ι : Map) (h : AH) (w : World) : Keep ι h w ι h w := ⟨.refl .., Nat.le_refl _, fun _ _ => rfl, .refl _⟩
theorem Keep.trans {ι κ μ : Map} {h h' h'' : AH} {w w' w'' : World} (a : Keep ι h w κ h' w') (b : Keep κ h' w' μ h'' w'') : Keep ι h w μ h'' w'' :=
  ⟨a.1.trans b.1, Nat.le_trans a.2.1 b.2.1, fun c hc => (b.2.2.1 c (Nat.lt_of_lt_of_le hc a.2.1)).trans (a.2.2.1 c hc), a.2.2.2.trans b.2.2.2⟩
theorem Keep.of_heap {ι : Map} {h : AH} {w w' : World} (e : w'.heap = w.heap) (c : Calm w w' := by exact ⟨rfl, rfl, rfl⟩) : Keep ι h w ι h w' := ⟨.of_heap e, Nat.le_refl _, fun _ _ => rfl, c⟩

/-- where a new block lies -/
def Map.add (ι : Map) (b r z : Nat) : Map := fun c => if c = b then some (r, z) else ι c
theorem Map.add_ext {ι : Map} {b r z : Nat} (h : ι b = none) : Ext ι (ι.add b r z) := fun c x e => by
  unfold Map.add
  split
  · rename_i hc; rw [hc, h] at e; cases e
  · exact e
theorem Map.add_self (ι : Map) (b r z : Nat) : ι.add b r z b = some (r, z) := if_pos rfl
/-- a new block, behind all that there are -/
theorem Rel.alloc0 {ι : Map} {h : AH} {w : World} (R : Rel ι h w) (b z : Nat) (k : Blk) (o : Obj) (n : Nat) (hb : ι b = none) (hn : h.n ≤ n) (hbn : b < n)
    (hk : k.ok (ι.add b w.heap.size z) z (some o)) : Rel (ι.add b w.heap.size z) ⟨h.t.set b k, n⟩ (w.alloc o) ∧ Keep0 ι h w (ι.add b w.heap.size z) ⟨h.t.set b k, n⟩ (w.alloc o) := by
  have hx := Map.add_ext (r := w.heap.size) (z := z) hb
  have hold : ∀ r, r < w.heap.size → (w.alloc o).heap[r]? = w.heap[r]? := fun r hr => by
    simp only [World.alloc, Array.getElem?_push]; rw [if_neg (by omega)]
  have hnew : (w.alloc o).heap[w.heap.size]? = some o := Array.getElem?_push_size
  refine ⟨⟨fun c j hc => ?_, fun c d j j' r y y' hc hd ec ed => ?_, fun c hc => ?_⟩, ?_, fun r hr ht => ⟨hold r hr, ?_⟩⟩
  · simp only [T.get_set] at hc
    split at hc
    · rename_i e; subst e; cases hc
      exact ⟨_, _, Map.add_self _ _ _ _, by rw [hnew]; exact hk⟩
    · obtain ⟨r, z', e, hj⟩ := R.blk c j hc
      exact ⟨r, z', hx _ _ e, by rw [hold r hj.some]; exact hj.ext hx⟩
  · simp only [T.get_set] at hc hd
    unfold Map.add at ec ed
    split at hc <;> split at hd
    · rename_i e1 e2; rw [e1, e2]
    · rename_i e1 e2
      rw [if_pos e1] at ec; rw [if_neg e2] at ed; cases ec
      obtain ⟨r', z', e, hj⟩ := R.blk d j' hd
      rw [ed] at e; cases e
      have := hj.some; omega
    · rename_i e1 e2
      rw [if_neg e1] at ec; rw [if_pos e2] at ed; cases ed
      obtain ⟨r', z', e, hj⟩ := R.blk c j hc
      rw [ec] at e; cases e
      have := hj.some; omega
    · rename_i e1 e2
      rw [if_neg e1] at ec; rw [if_neg e2] at ed
      exact R.inj c d j j' r y y' hc hd ec ed
  · unfold Map.add
    have hc : n ≤ c := hc
    rw [if_neg (by omega)]
    exact R.fresh c (by omega)
  · rw [World.size_alloc]; omega
  · rintro ⟨c, j, y, hc, ec⟩
    simp only [T.get_set] at hc
    unfold Map.add at ec
    split at hc
    · rename_i e; rw [if_pos e] at ec; cases ec; omega
    · rename_i e; rw [if_neg e] at ec; exact ht ⟨c, j, y, hc, ec⟩
theorem Rel.alloc {ι : Map} {h : AH} {w : World} (R : Rel ι h w) (b z : Nat) (k : Blk) (o : Obj) (n : Nat) (hb : ι b = none) (hn : h.n ≤ n) (hbn : b < n)
    (hk : k.ok (ι.add b w.heap.size z) z (some o)) (hbh : h.n ≤ b := by omega) : Rel (ι.add b w.heap.size z) ⟨h.t.set b k, n⟩ (w.alloc o) ∧ Keep ι h w (ι.add b w.heap.size z) ⟨h.t.set b k, n⟩ (w.alloc o) :=
  let ⟨A, B⟩ := R.alloc0 b z k o n hb hn hbn hk
  ⟨A, B, hn, fun c hc => if_neg (by omega), rfl, rfl, rfl⟩
/-- a block of the run becomes another one in its place -/
theorem Rel.put {ι : Map} {h : AH} {w w' : World} (R : Rel ι h w) {b r z : Nat} {k k' : Blk} (hb : h.t.get b = some k) (hr : ι b = some (r, z))
    (hk : k'.ok ι z w'.heap[r]?) (hw : ∀ q, q ≠ r → w'.heap[q]? = w.heap[q]?) (hs : w'.heap.size = w.heap.size) (hc : Calm w w' := by exact ⟨rfl, rfl, rfl⟩) :
    Rel ι ⟨h.t.set b k', h.n⟩ w' ∧ Keep ι h w ι ⟨h.t.set b k', h.n⟩ w' := by
  refine ⟨⟨fun c j hc => ?_, fun c d j j' q y y' hc hd ec ed => ?_, R.fresh⟩, ⟨by omega, fun q hq ht => ⟨hw q (fun e => ht ⟨b, k, z, hb, by rw [e]; exact hr⟩), ?_⟩⟩, Nat.le_refl _, fun _ _ => rfl, hc⟩
  · simp only [T.get_set] at hc
    split at hc
    · rename_i e; subst e; cases hc; exact ⟨r, z, hr, hk⟩
    · rename_i e
      obtain ⟨q, y, eq, hj⟩ := R.blk c j hc
      refine ⟨q, y, eq, ?_⟩
      rw [hw q (fun e' => e (R.inj c b j k r y z hc hb (by rw [← e']; exact eq) hr))]
      exact hj
  · have hh : ∀ c j, (h.t.set b k').get c = some j → ∃ i, h.t.get c = some i := fun c j hc => by
      rw [T.get_set] at hc
      split at hc
      · rename_i e; exact ⟨k, by rw [e]; exact hb⟩
      · exact ⟨j, hc⟩
    obtain ⟨i, hi⟩ := hh c j hc
    obtain ⟨i', hi'⟩ := hh d j' hd
    exact R.inj c d i i' q y y' hi hi' ec ed
  · rintro ⟨c, j, y, hc, ec⟩
    simp only [T.get_set] at hc
    split at hc
    · rename_i e; exact ht ⟨b, k, y, hb, by rw [← e]; exact ec⟩
    · exact ht ⟨c, j, y, hc, ec⟩

end Go.Proofs.YtbjddfeihhdpoaaGreatDoor
namespace Go.Proofs.YtbjddfeihhdpoaaGreatDoor
open Go

/-- the program's tables, as trees -/
noncomputable def tyT (P : Program) : T TypeInfo := mkT P.types.size P.types.toList
noncomputable def fnT (P : Program) : T Func := mkT P.funcs.size P.funcs.toList
noncomputable def inf (P : Program) (t : TypeId) : Option TypeInfo := (tyT P).get t
noncomputable def und (P : Program) (t : TypeId) : Option TypeDesc := match inf P t with
  | some i => match i.desc with
    | .named _ u => match inf P u with
      | some j => some j.desc
      | none => none
    | d => some d
  | none => none
/-- a value of the text -/
def AV.of : Value → Option AV
  | .agg cs => match cs.toList.all Value.oneCell' with
    | true => some (.g (cs.toList.map .v))
    | false => none
  | .tuple _ => none
  | x => some (.c (.v x))
def AT.of : Value → Option AT
  | .tuple vs => (vs.toList.mapM AV.of).map .t
  | x => (AV.of x).map .o
def AC.val : AC → Option Value
  | .v x => some x
  | _ => none
def AV.val : AV → Option Value
  | .c x => x.val
  | .g l => (l.mapM AC.val).map fun m => .agg ⟨m⟩
def AT.val : AT → Option Value
  | .o x => x.val
  | .t l => (l.mapM AV.val).map fun m => .tuple ⟨m⟩
/-- an operand -/
noncomputable def opd (F : T AT) (x : Operand) : Option AT := Operand.rec (motive := fun _ => T AT → Option AT)
  (fun t F => F.get t) (fun v _ => AT.of v) (fun g _ => some (.o (.c (.v (.pointer (some ⟨g, 0, none⟩)))))) (fun f _ => some (.o (.c (.v (.func (.func f) #[] #[]))))) x F
def one' : Option AT → Option AC
  | some (.o (.c a)) => some a
  | _ => none
noncomputable def one (F : T AT) (x : Operand) : Option AC := one' (opd F x)
noncomputable def opv (F : T AT) (x : Operand) : Option Value := match opd F x with
  | some a => a.val
  | none => none
def nat' : Option AC → Option Nat
  | some (.v (.int _ (.ofNat n))) => some n
  | _ => none
noncomputable def opn (F : T AT) (x : Operand) : Option Nat := nat' (one F x)
def av' : Option AT → Option AV
  | some (.o v) => some v
  | _ => none
noncomputable def opo (F : T AT) (x : Operand) : Option AV := av' (opd F x)
/-- an operation that asks nothing of the world -/
def pr (P : Program) : Nat → Sem Next → Option Value
  | n + 1, s => match s with
    | .pure (.value v) => some v
    | .program k => pr P n (k P)
    | .mark _ k => pr P n k
    | .choose q k => bif q.forced then pr P n (k 0) else none
    | _ => none
  | 0, _ => none
def noSel : Op → Bool
  | .select _ _ => false
  | _ => true
noncomputable def allV (F : T AT) : List Operand → Bool
  | [] => true
  | x :: l => match opv F x with
    | some _ => allV F l
    | none => false
noncomputable def lite0 (P : Program) (F : T AT) (o : Oper) : Option AT :=
  match noSel o.op && allV F o.op.operands.toList with
  | true => match pr P 60 (execOp (fun x => (opv F x).getD undef) o) with
    | some v => AT.of v
    | none => none
  | false => none
noncomputable def isAggT (P : Program) (t : TypeId) : Option Bool := match und P t with
  | some (.struct _) | some (.array _ _) => some true
  | some _ => some false
  | none => none
noncomputable def szT (P : Program) (t : TypeId) : Option Nat := match inf P t with
  | some i => some i.size
  | none => none
/-- so many cells from k on -/
noncomputable def gets (c : T AC) : Nat → Nat → Option (List AC)
  | 0, _ => some []
  | z + 1, k => match c.get k with
    | some x => match gets c z (k + 1) with
      | some l => some (x :: l)
      | none => none
    | none => none
noncomputable def puts : List AC → T AC → Nat → T AC
  | [], c, _ => c
  | x :: l, c, k => puts l (c.set k x) (k + 1)
def blk (l : List AC) (t : TypeId) : Blk := .cells (mkT l.length l) l.length t
noncomputable def rdB (P : Program) (t : TypeId) (c : T AC) (n k : Nat) : Option AV := match isAggT P t with
  | some true => match szT P t with
    | some z => match Nat.ble (k + z) n with
      | true => match gets c z k with
        | some l => some (.g l)
        | none => none
      | false => none
    | none => none
  | some false => match Nat.blt k n with
    | true => match c.get k with
      | some x => some (.c x)
      | none => none
    | false => none
  | none => none
noncomputable def rd (P : Program) (t : TypeId) (l : List AC) (k : Nat) : Option AV := match isAggT P t with
  | some true => match szT P t with
    | some z => match Nat.beq ((l.drop k).take z).length z with
      | true => some (.g ((l.drop k).take z))
      | false => none
    | none => none
  | some false => match l[k]? with
    | some x => some (.c x)
    | none => none
  | none => none
noncomputable def zeroT (P : Program) (t : TypeId) : Option AV := match inf P t with
  | some i => match i.zero with
    | some v => AV.of v
    | none => none
  | none => none
def splice (l : List AC) (k : Nat) (m : List AC) : List AC := l.take k ++ m ++ l.drop (k + m.length)
def afill (place : Nat → Option (Nat × Nat)) (l : List AC) : List (Nat × AV) → Option (List AC)
  | [] => some l
  | (i, v) :: rest => match place i with
    | none => none
    | some (k, z) => match Nat.beq v.cells.length z && Nat.ble (k + z) l.length with
      | true => afill place (splice l k v.cells) rest
      | false => none
noncomputable def parts (F : T AT) : List (Nat × Operand) → Option (List (Nat × AV))
  | [] => some []
  | x :: l => match opo F x.2, parts F l with
    | some v, some m => some ((x.1, v) :: m)
    | _, _ => none
noncomputable def places (P : Program) : List Field → Option (List (Nat × Nat))
  | [] => some []
  | f :: l => match szT P f.type, places P l with
    | some s, some m => some ((f.offset, s) :: m)
    | _, _ => none
noncomputable def abuild (P : Program) (F : T AT) (t : TypeId) (ps : Array (Nat × Operand)) : Option AV :=
  match zeroT P t, und P t, parts F ps.toList with
  | some z, some (.array _ e), some m => match szT P e with
    | some s => match afill (fun i => some (i * s, s)) z.cells m with
      | some l => some (.g l)
      | none => none
    | none => none
  | some z, some (.struct fs), some m => match places P fs.toList with
    | some q => match afill (fun i => q[i]?) z.cells m with
      | some l => some (.g l)
      | none => none
    | none => none
  | _, _, _ => none
noncomputable def bnd (F : T AT) (d : Nat) : Option Operand → Option Nat
  | none => some d
  | some x => opn F x
/-- what an operation comes to -/
inductive Res where
  | no
  | v (x : AT)
  | m (k : Blk) (x : AT)
  | h (h : AH) (x : AT)
  | c (f : FuncId) (l : List AT)
def rv : Option AT → Res
  | some x => .v x
  | none => .no
def ro : Option AV → Res
  | some x => .v (.o x)
  | none => .no
def rc : Option AC → Res
  | some x => .v (.o (.c x))
  | none => .no
def rh : Option AH → Res
  | some h => .h h (.t [])
  | none => .no
def boolA (b : Bool) : AT := .o (.c (.v (.bool b)))
def intA (k : IntKind) (n : Int) : AT := .o (.c (.v (.int k n)))
noncomputable def oPick (F : T AT) (c a b : Operand) : Res := match one F c with
  | some (.v (.bool true)) => rv (opd F a)
  | some (.v (.bool false)) => rv (opd F b)
  | _ => .no
noncomputable def oExtract (P : Program) (F : T AT) (o : Oper) (x : Operand) (i : Nat) : Res := match opd F x with
  | some (.t l) => ro l[i]?
  | _ => .no
noncomputable def oLoad (P : Program) (h : AH) (F : T AT) (t : TypeId) (a : Operand) : Res := match one F a with
  | some (.p b k) => match h.t.get b with
    | some (.cells c n _) => ro (rdB P t c n k)
    | _ => .no
  | _ => .no
noncomputable def oField' (P : Program) (fs : Array Field) (b k i : Nat) : Res := match fs[i]? with
  | some f => match szT P f.type with
    | some (_ + 1) => .v (.o (.c (.p b (k + f.offset))))
    | _ => .no
  | none => .no
noncomputable def oFieldAddr (P : Program) (F : T AT) (o : Oper) (s : TypeId) (x : Operand) (i : Nat) : Res := match one F x with
  | some (.p b k) => match und P s with
    | some (.struct fs) => oField' P fs b k i
    | _ => .no
  | _ => .no
noncomputable def oIndexAddr (P : Program) (F : T AT) (t : TypeId) (x i : Operand) : Res := match one F x, opn F i with
  | some (.s b k n s), some j => match Nat.blt j n with
    | true => match und P t with
      | some (.slice e) => match szT P e with
        | some z => match Nat.beq z s with
          | true => .v (.o (.c (.p b (k + j * s))))
          | false => .no
        | none => .no
      | _ => .no
    | false => .no
  | some (.p b k), some j => match und P t with
    | some (.array n e) => match szT P e, Nat.blt j n with
      | some z, true => .v (.o (.c (.p b (k + j * z))))
      | _, _ => .no
    | _ => .no
  | _, _ => .no
def refLike : AC → Bool
  | .v _ => false
  | .y _ => false
  | .uk => false
  | .qn _ => false
  | _ => true
def nilLike : AC → Bool
  | .v (.pointer none) => true
  | .v (.slice none _ _) => true
  | .v (.map none) => true
  | .v .nilFunc => true
  | .v .nilIface => true
  | _ => false
noncomputable def oNil (P : Program) (F : T AT) (o : Oper) (x : Operand) : Res := match one F x with
  | some a => match refLike a with
    | true => .v (.o (.c a))
    | false => rv (lite0 P F o)
  | none => rv (lite0 P F o)
noncomputable def oField (P : Program) (F : T AT) (o : Oper) (t : TypeId) (x : Operand) (i : Nat) : Res := match opd F x with
  | some (.o (.g l)) => match und P t with
    | some (.struct fs) => match fs[i]? with
      | some f => ro (rd P f.type l f.offset)
      | none => .no
    | _ => .no
  | _ => .no
noncomputable def oIndex (P : Program) (F : T AT) (o : Oper) (t : TypeId) (x i : Operand) : Res := match opd F x, opn F i with
  | some (.o (.c (.v (.string s)))), some j => match s.data.toList[j]?, und P t with
    | some b, some .string => .v (intA .u8 b.toNat)
    | _, _ => .no
  | some (.o (.g l)), some j => match und P t with
    | some (.array n e) => match szT P e, Nat.blt j n with
      | some z, true => ro (rd P e l (j * z))
      | _, _ => .no
    | _ => .no
  | _, _ => .no
noncomputable def oSlice (P : Program) (F : T AT) (o : Oper) (t : TypeId) (x : Operand) (lo hi mx : Option Operand) : Res := match one F x with
  | some (.s b q n s) => match und P t, bnd F 0 lo, bnd F n hi with
    | some (.slice e), some l, some h => match szT P e with
      | some z => match Nat.beq z s && Nat.ble l h && Nat.ble h n with
        | true => match mx with
          | none => match Nat.blt l n with
            | true => .v (.o (.c (.s b (q + l * s) (h - l) s)))
            | false => .v (.o (.c (.ne b)))
          | some m => match opn F m with
            | some m => match Nat.beq m l && Nat.beq h l && hi.isSome with
              | true => .v (.o (.c (.nz b)))
              | false => .no
            | none => .no
        | false => .no
      | none => .no
    | _, _, _ => .no
  | some (.nz b) => match bnd F 0 lo, bnd F 0 hi, mx with
    | some 0, some 0, none => match und P t with
      | some (.slice e) => match szT P e with
        | some _ => .v (.o (.c (.nz b)))
        | none => .no
      | _ => .no
    | some 0, some 0, some m => match und P t, opn F m, hi with
      | some (.slice e), some 0, some _ => match szT P e with
        | some _ => .v (.o (.c (.nz b)))
        | none => .no
      | _, _, _ => .no
    | _, _, _ => .no
  | some (.ne b) => match bnd F 0 lo, bnd F 0 hi, mx with
    | some 0, some 0, none => match und P t with
      | some (.slice e) => match szT P e with
        | some _ => .v (.o (.c (.ne b)))
        | none => .no
      | _ => .no
    | some 0, some 0, some m => match und P t, opn F m, hi with
      | some (.slice e), some 0, some _ => match szT P e with
        | some _ => .v (.o (.c (.nz b)))
        | none => .no
      | _, _, _ => .no
    | _, _, _ => .no
  | _ => rv (lite0 P F o)
def natEq : List Nat → List Nat → Bool
  | [], [] => true
  | a :: l, b :: m => match Nat.beq a b with
    | true => natEq l m
    | false => false
  | _, _ => false
def strEq (a b : ByteArray) : Bool := natEq (a.data.toList.map (·.toNat)) (b.data.toList.map (·.toNat))
def kindN : IntKind → Nat
  | .i8 => 0 | .i16 => 1 | .i32 => 2 | .i64 => 3 | .u8 => 4 | .u16 => 5 | .u32 => 6 | .u64 => 7
def intLt : Int → Int → Bool
  | .ofNat a, .ofNat b => Nat.blt a b
  | .negSucc _, .ofNat _ => true
  | .ofNat _, .negSucc _ => false
  | .negSucc a, .negSucc b => Nat.blt b a
def intEq : Int → Int → Bool
  | .ofNat a, .ofNat b => Nat.beq a b
  | .negSucc a, .negSucc b => Nat.beq a b
  | _, _ => false
/-- the key's kinds that are looked at -/
def keyEq : Value → Value → Option Bool
  | .int k a, .int j b => match Nat.beq (kindN k) (kindN j) with
    | true => some (intEq a b)
    | false => none
  | .string a, .string b => some (strEq a b)
  | .bool a, .bool b => some (a == b)
  | _, _ => none
def keyOk : TypeDesc → Value → Bool
  | .int _, .int _ _ => true
  | .string, .string _ => true
  | .bool, .bool _ => true
  | _, _ => false
def afind (k : Value) : List AE → Nat → Option (Option (Nat × AV))
  | [], _ => some none
  | e :: es, i => match keyEq k e.k with
    | some true => some (some (i, e.v))
    | some false => afind k es (i + 1)
    | none => none
def lookR (ok : Bool) (v : AV) (there : Bool) : Res := match ok with
  | true => .v (.t [v, .c (.v (.bool there))])
  | false => .v (.o v)
noncomputable def oLookup (P : Program) (h : AH) (F : T AT) (t : TypeId) (x i : Operand) (ok : Bool) : Res :=
  match und P t, one F x, opv F i with
  | some (.map kt et), some m, some k => match und P kt, zeroT P et with
    | some kd, some z => match keyOk kd k with
      | true => match m with
        | .m b => match h.t.get b with
          | some (.map es _) => match afind k es 0 with
            | some (some (_, v)) => lookR ok v true
            | some none => lookR ok z false
            | none => .no
          | _ => .no
        | .v (.map none) => lookR ok z false
        | _ => .no
      | false => .no
    | _, _ => .no
  | _, _, _ => .no
def bytesOf : List AC → Option (List UInt8)
  | [] => some []
  | .v (.int .u8 (.ofNat n)) :: l => match bytesOf l with
    | some m => some (UInt8.ofNat n :: m)
    | none => none
  | _ => none
noncomputable def bytesIn (c : T AC) (n k : Nat) : Option (List UInt8) := match gets c n k with
  | some l => bytesOf l
  | none => none
/-- equality of places -/
noncomputable def eqA (P : Program) (t : TypeId) (a b : AC) : Option Bool := match a, b with
  | .v (.pointer none), .p _ _ => match und P t with | some (.pointer _) => some false | _ => none
  | .p _ _, .v (.pointer none) => match und P t with | some (.pointer _) => some false | _ => none
  | .p b k, .p c j => match und P t with
    | some (.pointer e) => match Nat.beq b c, szT P e with
      | true, some (_ + 1) => some (Nat.beq k j)
      | _, _ => none
    | _ => none
  | .v (.slice none _ _), .s _ _ _ _ => match und P t with | some (.slice _) => some false | _ => none
  | .s _ _ _ _, .v (.slice none _ _) => match und P t with | some (.slice _) => some false | _ => none
  | .nz _, .v (.slice none _ _) => match und P t with | some (.slice _) => some false | _ => none
  | .ne _, .v (.slice none _ _) => match und P t with | some (.slice _) => some false | _ => none
  | .m _, .v (.map none) => match und P t with | some (.map _ _) => some false | _ => none
  | .f _ _ _, .v .nilFunc => match und P t with | some (.func _ _ _) => some false | _ => none
  | _, _ => none
def wrapF (k : IntKind) (n : Int) : Int := match k, n with
  | .i64, .ofNat m => match Nat.blt m 9223372036854775808 with
    | true => n
    | false => k.wrap n
  | .u8, .ofNat m => .ofNat (m % 256)
  | _, _ => k.wrap n
def intOp (op : BinOp) (k : IntKind) (a b : Int) : Option AT := match op with
  | .add => some (intA k (wrapF k (a + b)))
  | .sub => some (intA k (wrapF k (a - b)))
  | .mul => some (intA k (wrapF k (a * b)))
  | .eql => some (boolA (intEq a b))
  | .neq => some (boolA (!(intEq a b)))
  | .lss => some (boolA (intLt a b))
  | .leq => some (boolA (!(intLt b a)))
  | .gtr => some (boolA (intLt b a))
  | .geq => some (boolA (!(intLt a b)))
  | _ => none
noncomputable def orLite (P : Program) (F : T AT) (o : Oper) : Option AT → Res
  | some x => .v x
  | none => rv (lite0 P F o)
noncomputable def oBin (P : Program) (F : T AT) (o : Oper) (op : BinOp) (t : TypeId) (x y : Operand) : Res := match one F x, one F y with
  | some (.v (.int k a)), some (.v (.int j b)) => match Nat.beq (kindN k) (kindN j) with
    | true => orLite P F o (intOp op k a b)
    | false => rv (lite0 P F o)
  | some (.v (.string a)), some (.v (.string b)) => match op with
    | .eql => .v (boolA (strEq a b))
    | .neq => .v (boolA (!(strEq a b)))
    | _ => rv (lite0 P F o)
  | some a, some b => match op with
    | .eql => match eqA P t a b with
      | some r => .v (boolA r)
      | none => rv (lite0 P F o)
    | .neq => match eqA P t a b with
      | some r => .v (boolA (!r))
      | none => rv (lite0 P F o)
    | _ => rv (lite0 P F o)
  | _, _ => rv (lite0 P F o)
def toPlace : Option AV → Option (Nat × Nat)
  | some (.c (.p b o)) => some (b, o)
  | _ => none
noncomputable def caps (F : T AT) : List Operand → Option (List (Nat × Nat))
  | [] => some []
  | x :: l => match toPlace (opo F x), caps F l with
    | some a, some m => some (a :: m)
    | _, _ => none
noncomputable def oMakeFunc (P : Program) (F : T AT) (o : Oper) (fn : Fn) (a c : Array Operand) : Res := match fn with
  | .func g => match caps F a.toList, caps F c.toList with
    | some m, some l => .v (.o (.c (.f g m l)))
    | _, _ => .no
  | _ => .no
noncomputable def oIface (P : Program) (F : T AT) (o : Oper) (t : TypeId) (x : Operand) : Res := match one F x with
  | some (.m b) => match und P t with
    | some (.map _ _) => .v (.o (.c (.ni t b)))
    | _ => .no
  | _ => rv (lite0 P F o)
noncomputable def oAssert (P : Program) (F : T AT) (x : Operand) (t : TypeId) (ok : Bool) : Res := match one F x, ok with
  | some (.ni u b), false => match Nat.beq u t, und P t with
    | true, some (.map _ _) => .v (.o (.c (.m b)))
    | _, _ => .no
  | _, _ => .no
noncomputable def oConvert (P : Program) (h : AH) (F : T AT) (id : Nat) (o : Oper) (src dst : TypeId) (x : Operand) : Res := match one F x, und P src, und P dst with
  | some (.v (.int _ n)), some _, some (.int k) => .v (intA k (wrapF k n))
  | some (.v (.string s)), some .string, some .string => .v (.o (.c (.v (.string s))))
  | some (.s b k n 1), some (.slice e), some .string => match und P e, h.t.get b with
    | some (.int .u8), some (.cells c m _) => match Nat.ble (k + n) m, bytesIn c n k with
      | true, some m => .v (.o (.c (.v (.string ⟨⟨m⟩⟩))))
      | _, _ => .no
    | _, _ => .no
  | some (.v (.string s)), some .string, some (.slice e) => match und P e with
    | some (.int .u8) => .m (blk (s.data.toList.map fun b => .v (.int .u8 b.toNat)) e) (.o (.c (.s id 0 s.size 1)))
    | _ => .no
  | some (.s b k n s), some (.slice _), some (.slice e) => match und P e, h.t.get b with
    | some (.int .u8), some (.cells _ _ _) => match Nat.beq src dst with
      | true => .h h (.o (.c (.s b k n s)))
      | false => .no
    | _, _ => .no
  | some (.p b k), some (.pointer u), some .unsafePointer => match h.t.get b, szT P u with
    | some (.cells _ n _), some (_ + 1) => match Nat.blt k n with
      | true => .v (.o (.c (.p b k)))
      | false => .no
    | _, _ => .no
  | some (.p b 0), some .unsafePointer, some (.pointer u) => match h.t.get b, szT P u with
    | some (.cells _ n e), some (z + 1) => match Nat.beq e u && Nat.ble (z + 1) n with
      | true => .v (.o (.c (.p b 0)))
      | false => .no
    | _, _ => .no
  | _, _, _ => rv (lite0 P F o)
noncomputable def oAlloc (P : Program) (id : Nat) (t : TypeId) : Res := match zeroT P t with
  | some z => .m (blk z.cells t) (.o (.c (.p id 0)))
  | none => .no
noncomputable def oBox (F : T AT) (id : Nat) (t : TypeId) (x : Operand) : Res := match opo F x with
  | some v => .m (blk v.cells t) (.o (.c (.p id 0)))
  | none => .no
noncomputable def oBuildSlice' (P : Program) (F : T AT) (id : Nat) (e : TypeId) (n : Nat) (ps : Array (Nat × Operand)) : Res := match parts F ps.toList, szT P e, zeroT P e with
  | some m, some (s + 1), some z => match Nat.ble (n * (s + 1)) 16777216 && Nat.beq z.cells.length (s + 1), afill (fun i => some (i * (s + 1), s + 1)) (List.replicate n z.cells).flatten m with
    | true, some l => .m (blk l e) (.o (.c (.s id 0 n (s + 1))))
    | _, _ => .no
  | _, _, _ => .no
noncomputable def oBuildSlice (P : Program) (F : T AT) (id : Nat) (t : TypeId) (n : Nat) (ps : Array (Nat × Operand)) : Res := match und P t with
  | some (.slice e) => match n with
    | 0 => match ps.toList, szT P e with
      | [], some _ => .m (blk [] e) (.o (.c (.nz id)))
      | _, _ => .no
    | n + 1 => oBuildSlice' P F id e (n + 1) ps
  | _ => .no
noncomputable def bytesOk (P : Program) (e : TypeId) (k : Nat) : Bool := match inf P e with
  | some i => Nat.ble (i.bytes * k) 281474976710656
  | none => false
noncomputable def oMakeSlice (P : Program) (F : T AT) (id : Nat) (t : TypeId) (l c : Operand) : Res := match und P t, opn F l, opn F c with
  | some (.slice e), some n, some k => match szT P e, zeroT P e with
    | some (s + 1), some z => match Nat.ble n k && Nat.ble k 1048576 && Nat.beq z.cells.length (s + 1) && bytesOk P e k with
      | true => .m (blk (List.replicate n z.cells).flatten e) (.o (.c (.s id 0 n (s + 1))))
      | false => .no
    | _, _ => .no
  | _, _, _ => .no
noncomputable def oMakeMap (P : Program) (F : T AT) (id : Nat) (t : TypeId) (r : Option Operand) : Res := match und P t, bnd F 0 r with
  | some (.map _ _), some _ => .m (.map [] 0) (.o (.c (.m id)))
  | _, _ => .no
/-- the cells of a slice's n elements -/
noncomputable def elems (h : AH) : AC → Option (Nat × List AC)
  | .v (.slice none 0 0) => some (0, [])
  | .nz _ => some (0, [])
  | .ne _ => some (0, [])
  | .s b o n e => match h.t.get b with
    | some (.cells c m _) => match Nat.ble (o + n * e) m, gets c (n * e) o with
      | true, some l => some (n, l)
      | _, _ => none
    | _ => none
  | .v (.string s) => some (s.size, s.data.toList.map fun b => .v (.int .u8 b.toNat))
  | _ => none
noncomputable def growOk (P : Program) (e : TypeId) (z need : Nat) : Bool := match zeroT P e with
  | some v => Nat.beq v.cells.length z && bytesOk P e (2 * need)
  | none => false
noncomputable def grow (h : AH) (e : TypeId) (n z : Nat) (c : T AC) (m : Nat) (t : T Blk) : Res := .h ⟨t.set h.n (.cells c m e), h.n + 1⟩ (.o (.c (.s h.n 0 n z)))
noncomputable def growP (P : Program) (h : AH) (e : TypeId) (m z : Nat) (c : List AC) : Res := match growOk P e z m with
  | true => grow h e m z (mkT c.length c) c.length h.t
  | false => .no
noncomputable def appendS (P : Program) (h : AH) (e : TypeId) (z b o n f m : Nat) (l : List AC) : Res := match Nat.beq f z && Nat.ble n 1048576 && growOk P e z (n + m), h.t.get b with
  | true, some (.cells c q u) => match Nat.ble (o + (n + m) * f) q with
    | true => .h ⟨h.t.set b (.cells (puts l c (o + n * f)) q u), h.n⟩ (.o (.c (.s b o (n + m) f)))
    | false => match Nat.beq o 0 && Nat.beq q (n * f) && Nat.beq u e with
      | true => grow h e (n + m) f (puts l c q) (q + m * f) (h.t.del b)
      | false => .no
  | _, _ => .no
noncomputable def appendA (P : Program) (h : AH) (e : TypeId) (z : Nat) (s : AC) : Option (Nat × List AC) → Res
  | some (0, _ :: _) => .no
  | some (0, []) => match s with
    | .v (.slice none 0 0) => .v (.o (.c s))
    | .nz _ => .v (.o (.c s))
    | .ne _ => .v (.o (.c s))
    | .s _ _ _ f => match Nat.beq f z with
      | true => .v (.o (.c s))
      | false => .no
    | _ => .no
  | some (m + 1, c) => match Nat.beq c.length ((m + 1) * z) && Nat.ble ((m + 1) * z) 1048576 with
    | true => match s with
      | .v (.slice none 0 0) => growP P h e (m + 1) z c
      | .nz _ => growP P h e (m + 1) z c
      | .s b o n f => appendS P h e z b o n f (m + 1) c
      | _ => .no
    | false => .no
  | none => .no
noncomputable def srcOk (P : Program) (u : TypeId) : Bool := match und P u with
  | some (.slice _) => true
  | some .string => true
  | _ => false
noncomputable def oAppend (P : Program) (h : AH) (F : T AT) (args : List Operand) (ts : List TypeId) : Res := match args, ts with
  | [s, x], t :: u :: _ => match one F s, one F x, und P t, srcOk P u with
    | some s, some x, some (.slice e), true => match szT P e with
      | some (z + 1) => appendA P h e (z + 1) s (elems h x)
      | _ => .no
    | _, _, _, _ => .no
  | _, _ => .no
noncomputable def storeA (P : Program) (h : AH) (t : TypeId) (a : Option AC) (v : Option AV) : Option AH := match a, v with
  | some (.p b k), some v => match h.t.get b, szT P t with
    | some (.cells c n u), some z => match Nat.beq v.cells.length z && Nat.ble (k + z) n with
      | true => some ⟨h.t.set b (.cells (puts v.cells c k) n u), h.n⟩
      | false => none
    | _, _ => none
  | _, _ => none
noncomputable def oUpdate (P : Program) (h : AH) (F : T AT) (t : TypeId) (m k x : Operand) : Res :=
  match und P t, one F m, opv F k, opo F x with
  | some (.map kt _), some (.m b), some k, some v => match und P kt, h.t.get b with
    | some kd, some (.map es c) => match keyOk kd k, afind k es 0 with
      | true, some (some (i, _)) => .h ⟨h.t.set b (.map (es.modify i fun e => { e with k := k, v := v }) c), h.n⟩ (.t [])
      | true, some none => .h ⟨h.t.set b (.map (es ++ [⟨k, v, c⟩]) (c + 1)), h.n⟩ (.t [])
      | _, _ => .no
    | _, _ => .no
  | _, _, _, _ => .no
noncomputable def copyS (h : AH) (z n : Nat) (c : List AC) (d : AC) : Res := match d with
  | .s b o k f => match Nat.beq f z && Nat.beq c.length (n * z), h.t.get b with
    | true, some (.cells q m u) => match Nat.ble (o + (min n k) * f) m with
      | true => .h ⟨h.t.set b (.cells (puts (c.take ((min n k) * f)) q o) m u), h.n⟩ (intA .i64 (.ofNat (min n k)))
      | false => .no
    | _, _ => .no
  | _ => .no
noncomputable def oCopy (P : Program) (h : AH) (F : T AT) (args : List Operand) (ts : List TypeId) : Res := match args, ts with
  | [d, x], t :: _ => match one F d, one F x, und P t with
    | some d, some x, some (.slice e) => match szT P e, elems h x with
      | some (z + 1), some (n, c) => copyS h (z + 1) n c d
      | _, _ => .no
    | _, _, _ => .no
  | _, _ => .no
noncomputable def oUnsafeString (P : Program) (h : AH) (F : T AT) (args : List Operand) (ts : List TypeId) : Res := match args, ts with
  | [x, n], t :: _ => match one F x, opn F n with
    | some (.p b k), some (n + 1) => match h.t.get b, und P t with
      | some (.cells c m e), some (.pointer u) => match Nat.ble (k + (n + 1)) m && Nat.beq e u && Nat.ble (n + 1) 1048576, szT P u, bytesIn c (n + 1) k with
        | true, some 1, some m => .h ⟨h.t.del b, h.n⟩ (.o (.c (.v (.string ⟨⟨m⟩⟩))))
        | _, _, _ => .no
      | _, _ => .no
    | _, _ => .no
  | _, _ => .no
noncomputable def oLen (P : Program) (h : AH) (F : T AT) (args : List Operand) (ts : List TypeId) : Res := match args, ts with
  | [x], t :: _ => match one F x, und P t with
    | some (.s _ _ n _), some (.slice _) => .v (intA .i64 (.ofNat n))
    | some (.nz _), some (.slice _) => .v (intA .i64 0)
    | some (.ne _), some (.slice _) => .v (intA .i64 0)
    | some (.v (.slice _ n _)), some (.slice _) => .v (intA .i64 (.ofNat n))
    | some (.v (.string s)), some .string => .v (intA .i64 (.ofNat s.size))
    | some (.v (.map none)), some (.map _ _) => .v (intA .i64 0)
    | some (.m b), some (.map _ _) => match h.t.get b with
      | some (.map es _) => .v (intA .i64 (.ofNat es.length))
      | _ => .no
    | _, _ => .no
  | _, _ => .no
noncomputable def oSliceData (F : T AT) (args : List Operand) : Option AT := match args with
  | [x] => match one F x with
    | some (.s b k (_ + 1) _) => some (.o (.c (.p b k)))
    | _ => none
  | _ => none
noncomputable def oBuiltin (P : Program) (h : AH) (F : T AT) (o : Oper) (b : Builtin) (args : List Operand) (ts : List TypeId) : Res := match b with
  | .append => oAppend P h F args ts
  | .copy => oCopy P h F args ts
  | .len => oLen P h F args ts
  | .unsafeString => match oUnsafeString P h F args ts with
    | .no => rv (lite0 P F o)
    | r => r
  | .unsafeSliceData => orLite P F o (oSliceData F args)
  | _ => rv (lite0 P F o)
noncomputable def oRange (P : Program) (h : AH) (F : T AT) (id : Nat) (t : TypeId) (x : Operand) : Res := match und P t, one F x with
  | some (.map _ _), some (.m b) => match h.t.get b with
    | some (.map _ c) => .h ⟨h.t.set h.n (.iter (some b) c [] c), h.n + 1⟩ (.o (.c (.p h.n 0)))
    | _ => .no
  | _, _ => .no
/-- the next entry: of a map that has none -/
noncomputable def oNext (h : AH) (F : T AT) (x : Operand) (str : Bool) : Res := match one F x, str with
  | some (.p b 0), false => match h.t.get b with
    | some (.iter (some m) _ _ _) => match h.t.get m with
      | some (.map [] _) => .v (.t [.c (.v (.bool false))])
      | _ => .no
    | _ => .no
  | _, _ => .no
noncomputable def args' (F : T AT) : List Operand → Option (List AT)
  | [] => some []
  | x :: l => match opd F x, args' F l with
    | some a, some m => some (a :: m)
    | _, _ => none
def ptrs (l : List (Nat × Nat)) : List AT := l.map fun x => .o (.c (.p x.1 x.2))
/-- a function of the model's own -/
noncomputable def ext (P : Program) (h : AH) (F : T AT) (o : Oper) (name : String) (l : List AT) : Res := match l with
  | [.o (.c (.ni t b))] => match name == "maps.clone", h.t.get b with
    | true, some (.map es c) => .h ⟨h.t.set h.n (.map es c), h.n + 1⟩ (.o (.c (.ni t h.n)))
    | _, _ => .no
  | [.o (.c (.p b k))] => match name == "internal/abi.NoEscape" with
    | true => .v (.o (.c (.p b k)))
    | false => .no
  | _ => rv (lite0 P F o)
noncomputable def callF (P : Program) (h : AH) (F : T AT) (o : Oper) (g : FuncId) (l : List AT) : Res := match (fnT P).get g with
  | some fn => match fn.body with
    | some _ => .c g l
    | none => ext P h F o fn.name l
  | none => .no
noncomputable def oCall (P : Program) (h : AH) (F : T AT) (o : Oper) (c : Call) : Res := match c.callee with
  | .value f => match one F f, args' F c.args.toList with
    | some (.v (.func (.func g) ⟨[]⟩ ⟨[]⟩)), some l => callF P h F o g l
    | some (.f g a k), some l => callF P h F o g (ptrs a ++ l ++ ptrs k)
    | _, _ => .no
  | .builtin b => oBuiltin P h F o b c.args.toList c.argTypes.toList
  | _ => .no
abbrev OpF := Program → AH → T AT → Nat → Oper → Res
noncomputable def opC (op : Op) : OpF := Op.rec (motive := fun _ => OpF)
  (fun x _ _ F _ _ => rv (opd F x)) -- move
  (fun x _ _ F _ _ => rv (opd F x)) -- assign
  (fun c a b _ _ F _ _ => oPick F c a b) -- pick
  (fun t P _ _ id _ => oAlloc P id t) -- alloc
  (fun t x _ _ F id _ => oBox F id t x) -- box
  (fun t ps P _ F _ _ => ro (abuild P F t ps)) -- build
  (fun t n ps P _ F id _ => oBuildSlice P F id t n ps) -- buildSlice
  (fun t m k x P h F _ _ => oUpdate P h F t m k x) -- insert
  (fun t a P h F _ _ => oLoad P h F t a) -- load
  (fun t a x P h F _ _ => rh (storeA P h t (one F a) (opo F x))) -- store
  (fun _ _ _ _ _ _ => .no) -- ready
  (fun _ _ _ _ _ _ => .no) -- waits
  (fun x P _ F _ o => oNil P F o x) -- nilCheck
  (fun op t x y _ P _ F _ o => oBin P F o op t x y) -- binOp
  (fun _ _ _ P _ F _ o => rv (lite0 P F o)) -- unOp
  (fun a b x P h F id o => oConvert P h F id o a b x) -- convert
  (fun _ _ _ _ _ _ _ => .no) -- sliceToArrayPointer
  (fun t x P _ F _ o => oIface P F o t x) -- makeInterface
  (fun f a c P _ F _ o => oMakeFunc P F o f a c) -- makeFunc
  (fun t r P _ F id _ => oMakeMap P F id t r) -- makeMap
  (fun _ _ _ _ _ _ _ => .no) -- makeChan
  (fun t l c P _ F id _ => oMakeSlice P F id t l c) -- makeSlice
  (fun t x l h m P _ F _ o => oSlice P F o t x l h m) -- slice
  (fun t x i P _ F _ o => oFieldAddr P F o t x i) -- fieldAddr
  (fun t x i P _ F _ o => oField P F o t x i) -- field
  (fun t x i P _ F _ _ => oIndexAddr P F t x i) -- indexAddr
  (fun t x i P _ F _ o => oIndex P F o t x i) -- index
  (fun t x i ok P h F _ _ => oLookup P h F t x i ok) -- lookup
  (fun t m k x P h F _ _ => oUpdate P h F t m k x) -- mapUpdate
  (fun _ _ _ _ _ _ _ _ => .no) -- mapEntry
  (fun _ _ _ _ _ _ _ _ _ => .no) -- entryStore
  (fun t x P h F id _ => oRange P h F id t x) -- range
  (fun x s _ h F _ _ => oNext h F x s) -- next
  (fun _ _ _ _ _ _ => .no) -- entry
  (fun x _ t ok P _ F _ _ => oAssert P F x t ok) -- typeAssert
  (fun x i P _ F _ o => oExtract P F o x i) -- extract
  (fun c P h F _ o => oCall P h F o c) -- call
  (fun _ _ _ _ _ _ => .no) -- go
  (fun _ _ _ _ _ _ => .no) -- defer
  (fun _ _ _ _ _ _ => .no) -- panic
  (fun _ _ _ _ _ _ _ => .no) -- send
  (fun _ _ _ _ _ _ _ _ => .no) -- recv
  (fun _ _ _ _ _ _ _ => .no) -- select
  op
noncomputable def opA (P : Program) (h : AH) (F : T AT) (id : Nat) (o : Oper) : Res := opC o.op P h F id o

end Go.Proofs.YtbjddfeihhdpoaaGreatDoor
namespace Go.Proofs.YtbjddfeihhdpoaaGreatDoor
open Go

/-- what is known of a function that is not stepped through -/
abbrev Ov := FuncId → Option (AH → List AT → Option (AH × AT))
inductive EX where
  | normal
  | exit (id : Nat)
  | ret
abbrev Caller := FuncId → List AT → AH → Option (AH × AT)
abbrev Coder := Code → T AT → AH → Option (EX × T AT × AH)
noncomputable def setDst (F : T AT) (d : Option Tmp) (v : AT) : T AT := match d with
  | some d => F.set d v
  | none => F
def guardV (want : Bool) : Option AT → Option Bool
  | some (.o (.c (.v (.bool true)))) => some want
  | some (.o (.c (.v (.bool false)))) => some (!want)
  | some (.t []) => some false
  | _ => none
noncomputable def wantedA (F : T AT) (ops : Array Oper) (o : Oper) : Option Bool := match o.guard with
  | none => some true
  | some (j, want) => match ops[j]? with
    | some p => match p.dst with
      | some d => guardV want (F.get d)
      | none => none
    | none => none
/-- a region in the text's order -/
abbrev RestL := T AT → AH → Option (T AT × AH)
noncomputable def doneL (o : Oper) (ih : RestL) (F : T AT) : Option (AH × AT) → Option (T AT × AH)
  | some (h, v) => ih (setDst F o.dst v) h
  | none => none
noncomputable def doL (call : Caller) (o : Oper) (ih : RestL) (F : T AT) (h : AH) : Res → Option (T AT × AH)
  | .no => none
  | .v x => ih (setDst F o.dst x) h
  | .m k x => ih (setDst F o.dst x) ⟨h.t.set h.n k, h.n + 1⟩
  | .h h' x => ih (setDst F o.dst x) h'
  | .c f l => doneL o ih F (call f l h)
noncomputable def stepL (P : Program) (call : Caller) (o : Oper) (ih : RestL) (F : T AT) (h : AH) : Option Bool → Option (T AT × AH)
  | some true => doL call o ih F h (opA P h F h.n o)
  | some false => ih (setDst F o.dst (.t [])) h
  | none => none
noncomputable def evList (P : Program) (call : Caller) (ops : Array Oper) (l : List Oper) : RestL :=
  List.rec (motive := fun _ => RestL) (fun F h => some (F, h)) (fun o _ ih F h => stepL P call o ih F h (wantedA F ops o)) l
/-- the same value? -/
def sameV : Value → Value → Bool
  | .bool a, .bool b => a == b
  | .int j a, .int k b => Nat.beq (kindN j) (kindN k) && intEq a b
  | .string a, .string b => strEq a b
  | .pointer none, .pointer none => true
  | .slice none a b, .slice none c d => Nat.beq a c && Nat.beq b d
  | .map none, .map none => true
  | _, _ => false
def sameP : List (Nat × Nat) → List (Nat × Nat) → Bool
  | [], [] => true
  | a :: l, b :: m => Nat.beq a.1 b.1 && Nat.beq a.2 b.2 && sameP l m
  | _, _ => false
def sameC : AC → AC → Bool
  | .v a, .v b => sameV a b
  | .p a b, .p c d => Nat.beq a c && Nat.beq b d
  | .s a b c d, .s e f g h => Nat.beq a e && Nat.beq b f && Nat.beq c g && Nat.beq d h
  | .m a, .m b => Nat.beq a b
  | .nz a, .nz b => Nat.beq a b
  | .ne a, .ne b => Nat.beq a b
  | .ni a b, .ni c d => Nat.beq a c && Nat.beq b d
  | .f g a b, .f h c d => Nat.beq g h && sameP a c && sameP b d
  | .uk, .uk => true
  | .qn a, .qn b => Nat.beq a b
  | _, _ => false
def sameL : List AC → List AC → Bool
  | [], [] => true
  | a :: l, b :: m => sameC a b && sameL l m
  | _, _ => false
def sameA : AV → AV → Bool
  | .c a, .c b => sameC a b
  | .g l, .g m => sameL l m
  | _, _ => false
def sameAs : List AV → List AV → Bool
  | [], [] => true
  | a :: l, b :: m => sameA a b && sameAs l m
  | _, _ => false
def sameT : AT → AT → Bool
  | .o a, .o b => sameA a b
  | .t l, .t m => sameAs l m
  | _, _ => false
/-- does an operation look into the world? may it turn it? -/
def reads : Op → Bool
  | .load _ _ => true
  | .lookup _ _ _ _ => true
  | .convert _ _ _ => true
  | .call _ => true
  | _ => false
def quietB : Builtin → Bool
  | .len => true
  | .unsafeSliceData => true
  | .min => true
  | .max => true
  | _ => false
def turns : Op → Bool
  | .store _ _ _ => true
  | .insert _ _ _ _ => true
  | .mapUpdate _ _ _ _ => true
  | .range _ _ => true
  | .next _ _ => true
  | .call c => match c.callee with
    | .builtin b => !quietB b
    | _ => true
  | _ => false
/-- a region under way, whose order is drawn: what stands in the temporaries; the heap behind the chain; blocks that are made and wait; the last of the chain; its heaps, the last one first, each with the number of the operation behind which it stands; what was read -/
structure RS where
  F : T AT
  h : AH
  pend : List (Nat × Nat × Blk)
  last : Option Nat
  hist : List (Nat × AH)
  seen : List (Nat × Oper × T AT × AT)
def bit (m i : Nat) : Bool := Nat.beq ((m >>> i) % 2) 1
noncomputable def again (P : Program) (o : Oper) (F : T AT) (v : AT) (h : AH) : Bool := match opA P h F 0 o with
  | .v u => sameT u v
  | _ => false
/-- what stood in the heaps that it may meet instead -/
noncomputable def past (P : Program) (b : Nat) (o : Oper) (F : T AT) (v : AT) : List (Nat × AH) → Bool
  | [] => true
  | x :: l => match bit b x.1 with
    | true => true
    | false => match again P o F v x.2 with
      | true => past P b o F v l
      | false => false
noncomputable def future (P : Program) (b : Nat) (h : AH) : List (Nat × Oper × T AT × AT) → Bool
  | [] => true
  | x :: l => match bit b x.1 with
    | true => future P b h l
    | false => match again P x.2.1 x.2.2.1 x.2.2.2 h with
      | true => future P b h l
      | false => false
def drop1 {β : Type} (b : Nat) : List (Nat × β) → List (Nat × β)
  | [] => []
  | x :: l => match bit b x.1 with
    | true => drop1 b l
    | false => x :: drop1 b l
noncomputable def lay (b : Nat) : List (Nat × Nat × Blk) → T Blk → T Blk
  | [], t => t
  | x :: l, t => match bit b x.1 with
    | true => lay b l (t.set x.2.1 x.2.2)
    | false => lay b l t
noncomputable def layAll : List (Nat × Nat × Blk) → T Blk → T Blk
  | [], t => t
  | x :: l, t => layAll l (t.set x.2.1 x.2.2)
abbrev RestA := Nat → RS → Option RS
noncomputable def doH (P : Program) (o : Oper) (ih : RestA) (i b : Nat) (s : RS) : Option (AH × AT) → Option RS
  | some (h', v) => match future P b h' s.seen with
    | true => ih (i + 1) ⟨setDst s.F o.dst v, h', drop1 b s.pend, some i, (i, s.h) :: s.hist, drop1 b s.seen⟩
    | false => none
  | none => none
noncomputable def resH (call : Caller) (h : AH) : Res → Option (AH × AT)
  | .v x => some (h, x)
  | .h h' x => some (h', x)
  | .c f l => call f l h
  | _ => none
noncomputable def doV (P : Program) (o : Oper) (ih : RestA) (i b base : Nat) (s : RS) : Res → Option RS
  | .v x => match reads o.op with
    | false => ih (i + 1) { s with F := setDst s.F o.dst x }
    | true => match past P b o s.F x s.hist with
      | true => ih (i + 1) { s with F := setDst s.F o.dst x, seen := (i, o, s.F, x) :: s.seen }
      | false => none
  | .m k x => match reads o.op with
    | false => ih (i + 1) { s with F := setDst s.F o.dst x, pend := (i, base + i, k) :: s.pend }
    | true => none
  | _ => none
def chained (b : Nat) : Option Nat → Bool
  | some p => bit b p
  | none => true
noncomputable def stepA (P : Program) (call : Caller) (o : Oper) (ih : RestA) (i b base : Nat) (s : RS) : Option Bool → Option RS
  | none => none
  | some false => ih (i + 1) { s with F := setDst s.F o.dst (.t []) }
  | some true => match turns o.op with
    | false => doV P o ih i b base s (opA P s.h s.F (base + i) o)
    | true => match chained b s.last with
      | false => none
      | true => doH P o ih i b s (resH call ⟨lay b s.pend s.h.t, s.h.n⟩ (opA P ⟨lay b s.pend s.h.t, s.h.n⟩ s.F s.h.n o))
noncomputable def evAny (P : Program) (call : Caller) (ops : Array Oper) (bef : T Nat) (base : Nat) (l : List Oper) : RestA :=
  List.rec (motive := fun _ => RestA) (fun _ s => some s) (fun o _ ih i s => stepA P call o ih i ((bef.get i).getD 0) base s (wantedA s.F ops o)) l
noncomputable def befM (acc : T Nat) : List Edge → Nat → Nat
  | [], s => s
  | e :: l, s => match Region.binds .any e with
    | true => befM acc l (s ||| 2 ^ e.on ||| (acc.get e.on).getD 0)
    | false => befM acc l s
noncomputable def befs : List Oper → Nat → T Nat → T Nat
  | [], _, acc => acc
  | o :: l, i, acc => befs l (i + 1) (acc.set i (befM acc o.after.toList 0))
noncomputable def endA : Option RS → Option (T AT × AH)
  | some s => some (s.F, ⟨layAll s.pend s.h.t, s.h.n⟩)
  | none => none
noncomputable def evRegion (P : Program) (call : Caller) (ops : Array Oper) (draw : Bool) (F : T AT) (h : AH) : Option (T AT × AH) := match draw with
  | true => endA (evAny P call ops (befs ops.toList 0 .e) h.n ops.toList 0 ⟨F, ⟨h.t, h.n + ops.size⟩, [], none, [], []⟩)
  | false => evList P call ops ops.toList F h
noncomputable def bindArgs : List AT → Nat → T AT → T AT
  | [], _, F => F
  | v :: l, i, F => bindArgs l (i + 1) (F.set i v)
noncomputable def resOf (P : Program) (F : T AT) (h : AH) : ResultVar → Option AV
  | .tmp t => av' (F.get t)
  | .cell a t => match one' (F.get a) with
    | some (.p b k) => match h.t.get b with
      | some (.cells c n _) => rdB P t c n k
      | _ => none
    | _ => none
noncomputable def resAll (P : Program) (F : T AT) (h : AH) : List ResultVar → Option (List AV)
  | [] => some []
  | x :: l => match resOf P F h x, resAll P F h l with
    | some v, some m => some (v :: m)
    | _, _ => none
noncomputable def resultsA (P : Program) (fn : Func) (F : T AT) (h : AH) : Option AT := match resAll P F h fn.results.toList with
  | some [v] => some (.o v)
  | some m => some (.t m)
  | none => none
noncomputable def thenB (id : Nat) : Option (EX × T AT × AH) → Option (EX × T AT × AH)
  | some (.exit j, F, h) => match Nat.beq j id with
    | true => some (.normal, F, h)
    | false => some (.exit j, F, h)
  | r => r
noncomputable def thenC (code : Coder) (c : Code) : Option (EX × T AT × AH) → Option (EX × T AT × AH)
  | some (.normal, F, h) => code c F h
  | r => r
noncomputable def ifC (code : Coder) (a b : Code) (F : T AT) (h : AH) : Option AC → Option (EX × T AT × AH)
  | some (.v (.bool true)) => code a F h
  | some (.v (.bool false)) => code b F h
  | _ => none
def regC : Option (T AT × AH) → Option (EX × T AT × AH)
  | some (F, h) => some (.normal, F, h)
  | none => none
abbrev CodeF := Program → Coder → Caller → T AT → AH → Option (EX × T AT × AH)
noncomputable def codeC (c : Code) : CodeF := Code.rec (motive := fun _ => CodeF)
  (fun _ _ _ F h => some (.normal, F, h)) -- skip
  (fun _ ops draw P _ call F h => regC (evRegion P call ops draw F h)) -- region
  (fun a b _ _ _ code _ F h => thenC code b (code a F h)) -- seq
  (fun c a b _ _ _ code _ F h => ifC code a b F h (one F c)) -- cond
  (fun id a _ _ code _ F h => thenB id (code a F h)) -- block
  (fun a _ _ code _ F h => thenC code (.loop a) (code a F h)) -- loop
  (fun _ _ _ _ _ _ _ _ _ _ _ => none) -- rangeFunc
  (fun id _ _ _ F h => some (.exit id, F, h)) -- exit
  (fun _ _ _ _ _ _ _ => none) -- scope
  (fun _ _ _ _ F h => some (.normal, F, h)) -- label
  (fun _ _ _ _ _ _ => none) -- goto
  (fun _ _ _ F h => some (.ret, F, h)) -- ret
  (fun _ _ _ _ _ _ => none) -- refuse
  c
noncomputable def evCode (P : Program) (code : Coder) (call : Caller) (c : Code) (F : T AT) (h : AH) : Option (EX × T AT × AH) := codeC c P code call F h
noncomputable def leaveA (P : Program) (fn : Func) : Option (EX × T AT × AH) → Option (AH × AT)
  | some (.exit _, _, _) => none
  | some (_, F, h) => match resultsA P fn F h with
    | some v => some (h, v)
    | none => none
  | none => none
noncomputable def evFn (P : Program) (ov : Ov) (code : Coder) (f : FuncId) (args : List AT) (h : AH) : Option (AH × AT) := match ov f with
  | some g => g h args
  | none => match (fnT P).get f with
    | some fn => match fn.body with
      | some c => leaveA P fn (code c (bindArgs args 0 .e) h)
      | none => none
    | none => none
noncomputable def evN (P : Program) (ov : Ov) (n : Nat) : Coder × Caller :=
  Nat.rec (motive := fun _ => Coder × Caller) ⟨fun _ _ _ => none, fun _ _ _ => none⟩ (fun _ ih => ⟨fun c F h => evCode P ih.1 ih.2 c F h, fun f a h => evFn P ov ih.1 f a h⟩) n

end Go.Proofs.YtbjddfeihhdpoaaGreatDoor
