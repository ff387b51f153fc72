import Derived.Test.YtbjddfeihhdpoaaGreatDoorVa
import Derived.Laws.Entries
import Derived.Laws.Tables
import Derived.Deep.MidRow
import Derived.Laws.Strings
import Derived.Laws.BytesArg
import Derived.Laws.BytesString
set_option linter.unusedVariables false
set_option linter.unusedSimpArgs false
namespace Go.Proofs.YtbjddfeihhdpoaaGreatDoor
open Go
variable {P : Program} {ι : Map} {h : AH} {w : World} {F : T AT} {a : Act}

/-! the tables -/
theorem inf_info {t : TypeId} {i : TypeInfo} (e : inf P t = some i) : P.info? t = some i := by
  unfold inf tyT at e
  rw [mkT_get _ _ _ (by simp)] at e
  unfold Tables.info?
  have ht : t < P.types.size := by
    rcases Nat.lt_or_ge t P.types.size with h | h
    · exact h
    · rw [List.getElem?_eq_none (by simpa using h)] at e; cases e
  rw [if_pos ht]
  simpa using e
theorem und_under {t : TypeId} {d : TypeDesc} (e : und P t = some d) : P.underlying t = some d := by
  unfold und at e
  unfold Program.underlying
  cases hi : inf P t with
  | none => rw [hi] at e; cases e
  | some i =>
    rw [hi] at e; rw [inf_info hi]
    obtain ⟨desc, str, size, bytes, hp, al, fal, zero, cmp, ms⟩ := i
    cases desc <;> simp only at e ⊢ <;> try exact e
    rename_i n u
    cases hj : inf P u with
    | none => rw [hj] at e; cases e
    | some j => rw [hj] at e; rw [inf_info hj]; exact e
theorem szT_size {t : TypeId} {z : Nat} (e : szT P t = some z) : ∃ i, P.info? t = some i ∧ i.size = z := by
  unfold szT at e
  cases hi : inf P t with
  | none => rw [hi] at e; cases e
  | some i => rw [hi] at e; exact ⟨i, inf_info hi, by injection e⟩
theorem run_und {t : TypeId} {d : TypeDesc} (e : und P t = some d) (w : World) : (underlying t).run P w = .ok d w := run_underlying (und_under e) w
theorem run_sz {t : TypeId} {z : Nat} (e : szT P t = some z) (w : World) : (sizeOf t).run P w = .ok z w := by
  obtain ⟨i, hi, rfl⟩ := szT_size e
  simp [sizeOf, typeInfo, hi]
theorem run_isAggT {t : TypeId} {b : Bool} (e : isAggT P t = some b) (w : World) : (isAgg t).run P w = .ok b w := by
  unfold isAggT at e
  unfold isAgg
  cases hu : und P t with
  | none => rw [hu] at e; cases e
  | some d =>
    rw [hu] at e
    rw [Sem.run_bind, run_und hu]
    cases d <;> simp_all
/-! the values of the text -/
theorem oneCell_of {x : Value} (hx : x.oneCell' = true) (ι : Map) : (AC.v x).den ι x := ⟨rfl, hx⟩
theorem AV.of_den (ι : Map) : ∀ {x : Value} {y : AV}, AV.of x = some y → y.den ι x := by
  intro x y e
  cases x with
  | agg cs =>
    simp only [AV.of] at e
    split at e
    · rename_i hall
      cases e
      refine ⟨cs.toList, rfl, ?_⟩
      have : ∀ l : List Value, l.all Value.oneCell' = true → All2 (AC.den ι) (l.map .v) l := by
        intro l
        induction l with
        | nil => intro _; trivial
        | cons a l ih => intro h; rw [List.all_cons, Bool.and_eq_true] at h; exact ⟨⟨rfl, h.1⟩, ih h.2⟩
      exact this _ hall
    · cases e
  | tuple vs => cases e
  | _ => cases e; exact ⟨rfl, rfl⟩
theorem mapM_all2 {α β : Type} {R : β → α → Prop} {f : α → Option β} (hf : ∀ a b, f a = some b → R b a) : ∀ {l : List α} {m : List β}, l.mapM f = some m → All2 R m l
  | [], m, e => by simp at e; subst e; trivial
  | a :: l, m, e => by
    rw [List.mapM_cons] at e
    cases ha : f a with
    | none => rw [ha] at e; cases e
    | some b =>
      rw [ha] at e
      cases hl : l.mapM f with
      | none => rw [hl] at e; cases e
      | some k => rw [hl] at e; cases e; exact ⟨hf a b ha, mapM_all2 hf hl⟩
theorem AT.of_den (ι : Map) {x : Value} {y : AT} (e : AT.of x = some y) : y.den ι x := by
  have hh : ∀ x : Value, (AV.of x).map AT.o = some y → y.den ι x := fun x e => by
    cases hx : AV.of x with
    | none => rw [hx] at e; cases e
    | some v => rw [hx] at e; cases e; exact AV.of_den ι hx
  cases x with
  | tuple vs =>
    simp only [AT.of] at e
    cases hv : vs.toList.mapM AV.of with
    | none => rw [hv] at e; cases e
    | some m => rw [hv] at e; cases e; exact ⟨vs.toList, rfl, mapM_all2 (R := AV.den ι) (fun _ _ h => AV.of_den ι h) hv⟩
  | _ => exact hh _ e
theorem AC.val_den : ∀ {x : AC} {v : Value}, x.val = some v → ∀ {u : Value}, x.den ι u → u = v
  | .v x, _, e, u, hu => by cases e; exact hu.1
theorem mapM_den {α : Type} {R : α → Value → Prop} {f : α → Option Value} (hf : ∀ a v u, f a = some v → R a u → u = v) : ∀ {l : List α} {m k : List Value}, l.mapM f = some m → All2 R l k → k = m
  | [], m, [], e, _ => by simp at e; exact e.symm
  | [], m, _ :: _, e, hh => hh.elim
  | a :: l, m, [], e, hh => hh.elim
  | a :: l, m, u :: k, e, hh => by
    rw [List.mapM_cons] at e
    cases ha : f a with
    | none => rw [ha] at e; cases e
    | some b =>
      rw [ha] at e
      cases hl : l.mapM f with
      | none => rw [hl] at e; cases e
      | some q => rw [hl] at e; cases e; rw [hf a b u ha hh.1, mapM_den hf hl hh.2]
theorem AV.val_den {x : AV} {v : Value} (e : x.val = some v) {u : Value} (hu : x.den ι u) : u = v := by
  cases x with
  | c x => exact AC.val_den e hu
  | g l =>
    obtain ⟨m, rfl, hm⟩ := hu
    simp only [AV.val] at e
    cases hl : l.mapM AC.val with
    | none => rw [hl] at e; cases e
    | some q => rw [hl] at e; cases e; rw [mapM_den (fun a v u h hd => AC.val_den h hd) hl hm]
theorem AT.val_den {x : AT} {v : Value} (e : x.val = some v) {u : Value} (hu : x.den ι u) : u = v := by
  cases x with
  | o x => exact AV.val_den e hu
  | t l =>
    obtain ⟨m, rfl, hm⟩ := hu
    simp only [AT.val] at e
    cases hl : l.mapM AV.val with
    | none => rw [hl] at e; cases e
    | some q => rw [hl] at e; cases e; rw [mapM_den (fun a v u h hd => AV.val_den h hd) hl hm]
/-! the frame -/
def RelF (ι : Map) (F : T AT) (a : Act) : Prop := ∀ t x, F.get t = some x → ∃ u, a.tmps[t]? = some u ∧ x.den ι u
theorem RelF.ext {κ : Map} (hF : RelF ι F a) (h : Ext ι κ) : RelF κ F a := fun t x e => let ⟨u, hu, hd⟩ := hF t x e; ⟨u, hu, hd.ext h⟩
theorem opd_den (hF : RelF ι F a) {x : Operand} {y : AT} (e : opd F x = some y) : y.den ι (a.eval x) := by
  cases x with
  | tmp t =>
    obtain ⟨u, hu, hd⟩ := hF t y e
    have : a.eval (.tmp t) = u := by simp [Act.eval, Array.getD_eq_getD_getElem?, hu]
    rw [this]; exact hd
  | const v => exact AT.of_den ι e
  | global g => cases e; exact ⟨rfl, rfl⟩
  | func f => cases e; exact ⟨rfl, rfl⟩
theorem one_den (hF : RelF ι F a) {x : Operand} {y : AC} (e : one F x = some y) : y.den ι (a.eval x) := by
  unfold one at e
  cases hx : opd F x with
  | none => rw [hx] at e; cases e
  | some z =>
    rw [hx] at e
    cases z with
    | t l => cases e
    | o v => cases v with
      | g l => cases e
      | c z => cases e; exact opd_den hF hx
theorem opo_den (hF : RelF ι F a) {x : Operand} {y : AV} (e : opo F x = some y) : y.den ι (a.eval x) := by
  unfold opo at e
  cases hx : opd F x with
  | none => rw [hx] at e; cases e
  | some z =>
    rw [hx] at e
    cases z with
    | t l => cases e
    | o v => cases e; exact opd_den hF hx
theorem opv_eq (hF : RelF ι F a) {x : Operand} {v : Value} (e : opv F x = some v) : a.eval x = v := by
  unfold opv at e
  cases hx : opd F x with
  | none => rw [hx] at e; cases e
  | some z => rw [hx] at e; exact AT.val_den e (opd_den hF hx)
theorem opn_eq (hF : RelF ι F a) {x : Operand} {n : Nat} (e : opn F x = some n) : ∃ k, a.eval x = .int k n := by
  unfold opn at e
  cases hx : one F x with
  | none => rw [hx] at e; cases e
  | some z =>
    rw [hx] at e
    have hd := one_den hF hx
    cases z with
    | v u =>
      cases u with
      | int k i =>
        cases i with
        | ofNat m => cases e; exact ⟨k, hd.1⟩
        | negSucc m => cases e
      | _ => cases e
    | _ => cases e
theorem RelF.put {x : AT} {u : Value} (hF : RelF ι F a) (d : Option Tmp) (hx : x.den ι u) (hd : ∀ k, d = some k → k < a.tmps.size) : RelF ι (setDst F d x) (a.put d u) := by
  cases d with
  | none => exact hF
  | some k =>
    intro t y e
    have hk := hd k rfl
    simp only [setDst, T.get_set] at e
    simp only [Act.put]
    split at e
    · rename_i ht; subst ht; cases e
      exact ⟨u, by simp [hk], hx⟩
    · rename_i ht
      obtain ⟨v, hv, hy⟩ := hF t y e
      refine ⟨v, ?_, hy⟩
      rw [Array.getElem?_setIfInBounds_ne (fun h => ht h.symm)]; exact hv
/-! operations that ask nothing of the world -/
theorem pr_ok : ∀ (n : Nat) (s : Sem Next) (v : Value), pr P n s = some v → ∀ w, s.run P w = .ok (.value v) w
  | 0, s, v, e, w => by cases e
  | n + 1, s, v, e, w => by
    cases s with
    | pure x => cases x <;> first | (cases e; rfl) | cases e
    | program k => exact pr_ok n _ v e w
    | mark m k => exact pr_ok n _ v e w
    | choose q k =>
      simp only [pr] at e
      cases hq : q.forced with
      | false => rw [hq] at e; cases e
      | true => rw [hq] at e; simp only [cond_true] at e; simp only [Sem.run, hq, if_true]; exact pr_ok n _ v e w
    | _ => cases e
theorem allV_eq (hF : RelF ι F a) : ∀ {l : List Operand}, allV F l = true → ∀ x ∈ l, (opv F x).getD undef = a.eval x
  | [], _, x, hx => by cases hx
  | y :: l, e, x, hx => by
    simp only [allV] at e
    cases hy : opv F y with
    | none => rw [hy] at e; cases e
    | some v =>
      rw [hy] at e
      cases hx with
      | head => rw [hy]; exact (opv_eq hF hy).symm
      | tail _ hx => exact allV_eq hF e x hx
theorem lite0_ok (hF : RelF ι F a) {o : Oper} {x : AT} (e : lite0 P F o = some x) (w : World) : ∃ u, (execOp a.eval o).run P w = .ok (.value u) w ∧ x.den ι u := by
  unfold lite0 at e
  split at e
  · rename_i hb
    rw [Bool.and_eq_true] at hb
    split at e
    · rename_i v hv
      refine ⟨v, ?_, AT.of_den ι e⟩
      rw [← execOp_congr o (fun cs b hs => by rw [hs] at hb; simp [noSel] at hb) (fun x hx => allV_eq hF hb.2 x (by simpa using hx))]
      exact pr_ok _ _ _ hv w
    · cases e
  · cases e
end Go.Proofs.YtbjddfeihhdpoaaGreatDoor
namespace Go.Proofs.YtbjddfeihhdpoaaGreatDoor
open Go
variable {P : Program} {ι : Map} {h : AH} {w : World} {F : T AT} {a : Act}

theorem le_ble {a b : Nat} (h : Nat.ble a b = true) : a ≤ b := Nat.le_of_ble_eq_true h
theorem lt_blt {a b : Nat} (h : Nat.blt a b = true) : a < b := Nat.le_of_ble_eq_true h
theorem eq_beq {a b : Nat} (h : Nat.beq a b = true) : a = b := Nat.eq_of_beq_eq_true h
/-! cells of a block -/
theorem blk_cell {c : T AC} {n z r : Nat} {t : TypeId} (hk : (Blk.cells c n t).ok ι z w.heap[r]?) {i : Nat} {x : AC} (hi : i < n) (e : c.get i = some x) :
    ∃ u, w.cell? ⟨r, i, none⟩ = some u ∧ x.den ι u := by
  obtain ⟨b, f, ho, hz, hn, hf, hx⟩ := hk
  obtain ⟨u, hu, hd⟩ := hx i x hi e
  exact ⟨u, by simp [World.cell?, ho, hu], hd⟩
theorem gets_cells {c : T AC} {n z r : Nat} {t : TypeId} (hk : (Blk.cells c n t).ok ι z w.heap[r]?) : ∀ {m k : Nat} {l : List AC}, gets c m k = some l → k + m ≤ n →
    ∃ us : List Value, All2 (AC.den ι) l us ∧ us.length = m ∧ w.rangeAt r k us
  | 0, k, l, e, _ => by cases e; exact ⟨[], trivial, rfl, fun j v hv => by simp at hv⟩
  | m + 1, k, l, e, hn => by
    simp only [gets] at e
    split at e
    · rename_i x hx
      split at e
      · rename_i q hq
        cases e
        obtain ⟨us, h1, h2, h3⟩ := gets_cells hk hq (by omega)
        obtain ⟨u, hu, hd⟩ := blk_cell hk (by omega) hx
        refine ⟨u :: us, ⟨hd, h1⟩, by simp [h2], fun j v hv => ?_⟩
        cases j with
        | zero => simp at hv; subst hv; exact hu
        | succ j => have := h3 j v (by simpa using hv); rw [show k + (j + 1) = k + 1 + j by omega]; exact this
      · cases e
    · cases e
theorem isAggT_row {t : TypeId} (e : isAggT P t = some true) : ∃ d, P.underlying t = some d ∧ d.isRow = true := by
  unfold isAggT at e
  cases hu : und P t with
  | none => rw [hu] at e; cases e
  | some d => rw [hu] at e; exact ⟨d, und_under hu, by cases d <;> simp_all [TypeDesc.isRow]⟩
theorem run_v (s : Sem Value) (w : World) {u : Value} {w' : World} (e : s.run P w = .ok u w') : (do pure (Next.value (← s)) : Sem Next).run P w = .ok (.value u) w' := by
  rw [Sem.run_bind, e]; rfl
theorem rdB_ok {c : T AC} {n z r k : Nat} {t ty : TypeId} {v : AV} (hk : (Blk.cells c n ty).ok ι z w.heap[r]?) (e : rdB P t c n k = some v) :
    ∃ u, (loadVar t ⟨r, k, none⟩).run P w = .ok u w ∧ v.den ι u := by
  unfold rdB at e
  split at e
  · rename_i hA
    split at e
    · rename_i s hs
      split at e
      · rename_i hle
        split at e
        · rename_i l hl
          cases e
          obtain ⟨us, h1, h2, h3⟩ := gets_cells hk hl (le_ble hle)
          obtain ⟨d, hd, hr⟩ := isAggT_row hA
          obtain ⟨i, hi, his⟩ := szT_size hs
          exact ⟨_, run_loadVar_mid w r k t us d h3 hd hr (by rw [hi, h2, ← his]; rfl), us, rfl, h1⟩
        · cases e
      · cases e
    · cases e
  · rename_i hA
    split at e
    · rename_i hlt
      split at e
      · rename_i x hx
        cases e
        obtain ⟨u, hu, hd⟩ := blk_cell hk (lt_blt hlt) hx
        exact ⟨u, by simp [loadVar, run_isAggT hA, hu], hd⟩
      · cases e
    · cases e
  · cases e
/-- a place of the run's -/
theorem p_den {b k : Nat} {u : Value} (hu : (AC.p b k).den ι u) (R : Rel ι h w) {q : Blk} (hb : h.t.get b = some q) : ∃ r z, ι b = some (r, z) ∧ u = .pointer (some ⟨r, k, none⟩) ∧ q.ok ι z w.heap[r]? := by
  obtain ⟨r, z, e, rfl⟩ := hu
  obtain ⟨r', z', e', hk⟩ := R.blk b q hb
  rw [e] at e'; cases e'
  exact ⟨r, z, e, rfl, hk⟩
theorem rv_no {x : Option AT} {y : AT} (e : rv x = .v y) : x = some y := by cases x <;> cases e; rfl
theorem ro_no {x : Option AV} {y : AT} (e : ro x = .v y) : ∃ z, x = some z ∧ y = .o z := by cases x <;> cases e; exact ⟨_, rfl, rfl⟩

/-- what an operation's run is to be, for what is said of it -/
def OK (P : Program) (ι : Map) (h : AH) (w : World) (id : Nat) (r : Result Next) : Res → Prop
  | .no => True
  | .v x => ∃ u, r = .ok (.value u) w ∧ x.den ι u
  | .m k x => ∃ ob z u w', r = .ok (.value u) w' ∧ w'.heap = w.heap.push ob ∧ Calm w w' ∧ (ι id = none → k.ok (ι.add id w.heap.size z) z (some ob) ∧ x.den (ι.add id w.heap.size z) u)
  | .h h' x => ∃ κ w' u, (r = .ok (.value u) w' ∨ (r = .ok .skip w' ∧ u = undef)) ∧ Ext ι κ ∧ Rel κ h' w' ∧ Keep ι h w κ h' w' ∧ x.den κ u
  | .c f l => ∃ args : Array Value, r = .ok (.enter f args) w ∧ All2 (AT.den ι) l args.toList

theorem ok_rv {o : Oper} {x : Option AT} {id : Nat} {r : Result Next} (e : ∀ y, x = some y → ∃ u, r = .ok (.value u) w ∧ y.den ι u) : OK P ι h w id r (rv x) := by
  cases x with
  | none => trivial
  | some y => exact e y rfl
theorem ok_lite0 (hF : RelF ι F a) {o : Oper} {id : Nat} : OK P ι h w id ((execOp a.eval o).run P w) (rv (lite0 P F o)) := ok_rv (o := o) fun y e => lite0_ok hF e w
theorem ok_orLite (hF : RelF ι F a) {o : Oper} {id : Nat} {x : Option AT} (e : ∀ y, x = some y → ∃ u, (execOp a.eval o).run P w = .ok (.value u) w ∧ y.den ι u) : OK P ι h w id ((execOp a.eval o).run P w) (orLite P F o x) := by
  cases x with
  | none => exact ok_lite0 hF
  | some y => exact e y rfl

theorem ok_move (hF : RelF ι F a) {o : Oper} {id : Nat} {x : Operand} (ho : (execOp a.eval o) = pure (.value (a.eval x))) : OK P ι h w id ((execOp a.eval o).run P w) (rv (opd F x)) :=
  ok_rv (o := o) fun y e => ⟨_, by rw [ho]; rfl, opd_den hF e⟩
theorem ok_pick (hF : RelF ι F a) {o : Oper} {id : Nat} {c x y : Operand} (ho : o.op = .pick c x y) : OK P ι h w id ((execOp a.eval o).run P w) (oPick F c x y) := by
  have hr : ∀ b, a.eval c = .bool b → (execOp a.eval o).run P w = .ok (.value (if b then a.eval x else a.eval y)) w := fun b hb => by
    simp [execOp, ho, hb, asBool]
  unfold oPick
  split
  · rename_i hc
    have hc := (one_den hF hc).1
    exact ok_rv (o := o) fun z e => ⟨_, hr _ hc, opd_den hF e⟩
  · rename_i hc
    have hc := (one_den hF hc).1
    exact ok_rv (o := o) fun z e => ⟨_, hr _ hc, opd_den hF e⟩
  · trivial
theorem ok_extract (hF : RelF ι F a) {o : Oper} {id : Nat} {x : Operand} {i : Nat} (ho : o.op = .extract x i) : OK P ι h w id ((execOp a.eval o).run P w) (oExtract P F o x i) := by
  unfold oExtract
  split
  · rename_i l hx
    obtain ⟨m, hm, hl⟩ := opd_den hF hx
    cases hi : l[i]? with
    | none => trivial
    | some v =>
      obtain ⟨u, hu, hd⟩ := hl.get i hi
      exact ⟨u, by simp [execOp, ho, hm, Instr.extract, hu], hd⟩
  · trivial
theorem ok_load (R : Rel ι h w) (hF : RelF ι F a) {o : Oper} {id : Nat} {t : TypeId} {x : Operand} (ho : o.op = .load t x) : OK P ι h w id ((execOp a.eval o).run P w) (oLoad P h F t x) := by
  unfold oLoad
  split
  · rename_i b k hx
    split
    · rename_i c n ty hb
      obtain ⟨r, z, -, hu, hk⟩ := p_den (one_den hF hx) R hb
      cases hv : rdB P t c n k with
      | none => trivial
      | some v =>
        obtain ⟨u, hl, hd⟩ := rdB_ok (P := P) hk hv
        refine ⟨u, ?_, hd⟩
        simp only [execOp, ho, hu]
        exact run_v _ w (by simp only [Instr.loadAt, Instr.sureAddr, Sem.run_bind, Sem.run_pure, Result.andThen_ok]; exact hl)
    · trivial
  · trivial
theorem Addr.add_o (r k n : Nat) : (⟨r, k, none⟩ : Addr).add n = ⟨r, k + n, none⟩ := by unfold Addr.add; split <;> simp_all
theorem ok_fieldAddr (hF : RelF ι F a) {o : Oper} {id : Nat} {s : TypeId} {x : Operand} {i : Nat} (ho : o.op = .fieldAddr s x i) : OK P ι h w id ((execOp a.eval o).run P w) (oFieldAddr P F o s x i) := by
  unfold oFieldAddr
  split
  · rename_i b k hx
    split
    · rename_i fs hs
      unfold oField'
      split
      · rename_i f hf
        split
        · rename_i q hq
          obtain ⟨r, z, e, hu⟩ := one_den hF hx
          refine ⟨.pointer (some ⟨r, k + f.offset, none⟩), ?_, r, z, e, rfl⟩
          simp only [execOp, ho, hu]
          exact run_v _ w (by simp [Instr.fieldAt, run_und hs, hf, Instr.sureAddr, fieldPlace, run_sz hq, Addr.add_o])
        · trivial
      · trivial
    · trivial
  · trivial
theorem ok_nil (hF : RelF ι F a) {o : Oper} {id : Nat} {x : Operand} (ho : o.op = .nilCheck x) : OK P ι h w id ((execOp a.eval o).run P w) (oNil P F o x) := by
  unfold oNil
  split
  · rename_i y hx
    split
    · rename_i hy
      have hd := one_den hF hx
      refine ⟨a.eval x, ?_, hd⟩
      simp only [execOp, ho]
      cases y with
      | v _ => cases hy
      | y _ => cases hy
      | uk => cases hy
      | qn _ => cases hy
      | p b k => obtain ⟨r, z, e, hu⟩ := hd; rw [hu]; rfl
      | s b k n e => obtain ⟨r, z, q, e, hu, _⟩ := hd; rw [hu]; rfl
      | m b => obtain ⟨r, z, e, hu⟩ := hd; rw [hu]; rfl
      | f g p q => obtain ⟨m, l, hu, _⟩ := hd; rw [hu]; rfl
      | nz b => obtain ⟨r, z, q, e, hu⟩ := hd; rw [hu]; rfl
      | ne b => obtain ⟨r, z, q, k, e, hu⟩ := hd; rw [hu]; rfl
      | ni t b => obtain ⟨r, z, e, hu⟩ := hd; rw [hu]; rfl
    · exact ok_lite0 hF
  · exact ok_lite0 hF
theorem ok_indexAddr (hF : RelF ι F a) {o : Oper} {id : Nat} {t : TypeId} {x i : Operand} (ho : o.op = .indexAddr t x i) : OK P ι h w id ((execOp a.eval o).run P w) (oIndexAddr P F t x i) := by
  unfold oIndexAddr
  split
  · rename_i b k n s j hx hi
    split
    · rename_i hlt
      split
      · rename_i e he
        split
        · rename_i z hz
          split
          · rename_i hzs
            obtain ⟨r, y, q, er, hu, hnq, hq⟩ := one_den hF hx
            obtain ⟨kk, hi⟩ := opn_eq hF hi
            have hjn : j < n := lt_blt hlt
            have hzs : z = s := eq_beq hzs
            refine ⟨.pointer (some ⟨r, k + j * s, none⟩), ?_, r, y, er, rfl⟩
            simp only [execOp, ho, hu, hi]
            refine run_v _ w ?_
            have h1 : (0 : Int) ≤ (j : Int) ∧ (j : Int) < (n : Int) := ⟨Int.natCast_nonneg _, Int.ofNat_lt.2 hjn⟩
            simp only [Instr.indexAt, asIntOf, Sem.run_bind, Sem.run_pure, Result.andThen_ok, run_und he]
            rw [if_pos h1]
            simp [run_sz hz, hzs, Addr.add_o]
          · trivial
        · trivial
      · trivial
    · trivial
  · rename_i b k j hx hi
    split
    · rename_i n e he
      split
      · rename_i z hz hlt
        obtain ⟨r, y, er, hu⟩ := one_den hF hx
        obtain ⟨kk, hi⟩ := opn_eq hF hi
        have hjn : j < n := lt_blt hlt
        refine ⟨.pointer (some ⟨r, k + j * z, none⟩), ?_, r, y, er, rfl⟩
        simp only [execOp, ho, hu, hi]
        refine run_v _ w ?_
        have h1 : (0 : Int) ≤ (j : Int) ∧ (j : Int) < (n : Int) := ⟨Int.natCast_nonneg _, Int.ofNat_lt.2 hjn⟩
        simp only [Instr.indexAt, asIntOf, Sem.run_bind, Sem.run_pure, Result.andThen_ok, run_und he, Instr.sureAddr]
        rw [if_pos h1]
        simp [run_sz hz, Addr.add_o]
      · trivial
    · trivial
  · trivial
end Go.Proofs.YtbjddfeihhdpoaaGreatDoor
namespace Go.Proofs.YtbjddfeihhdpoaaGreatDoor
open Go
variable {P : Program} {ι : Map} {h : AH} {w : World} {F : T AT} {a : Act}

theorem extract_mk (m : List Value) (k z : Nat) : (Array.mk m).extract k (k + z) = Array.mk ((m.drop k).take z) := by
  apply Array.ext'
  simp [List.extract_eq_take_drop]
theorem rd_ok {t : TypeId} {l : List AC} {m : List Value} {k : Nat} {v : AV} (hl : All2 (AC.den ι) l m) (e : rd P t l k = some v) (w : World) :
    ∃ u, (part t ⟨m⟩ k).run P w = .ok u w ∧ v.den ι u := by
  unfold rd at e
  split at e
  · rename_i hA
    split at e
    · rename_i z hz
      split at e
      · cases e
        refine ⟨.agg ⟨(m.drop k).take z⟩, ?_, _, rfl, (hl.drop k).take z⟩
        simp [part, run_isAggT hA, run_sz hz, extract_mk]
      · cases e
    · cases e
  · rename_i hA
    split at e
    · rename_i x hx
      cases e
      obtain ⟨u, hu, hd⟩ := hl.get k hx
      exact ⟨u, by simp [part, run_isAggT hA, hu], hd⟩
    · cases e
  · cases e
theorem ok_field (hF : RelF ι F a) {o : Oper} {id : Nat} {t : TypeId} {x : Operand} {i : Nat} (ho : o.op = .field t x i) : OK P ι h w id ((execOp a.eval o).run P w) (oField P F o t x i) := by
  unfold oField
  split
  · rename_i l hx
    split
    · rename_i fs hs
      split
      · rename_i f hf
        cases hv : rd P f.type l f.offset with
        | none => trivial
        | some v =>
          obtain ⟨m, hm, hl⟩ := opd_den hF hx
          obtain ⟨u, hu, hd⟩ := rd_ok (P := P) hl hv w
          refine ⟨u, ?_, hd⟩
          simp only [execOp, ho, hm]
          exact run_v _ w (by simp [Instr.field, run_und hs, hf, asAgg, hu])
      · trivial
    · trivial
  · trivial
theorem ok_index (hF : RelF ι F a) {o : Oper} {id : Nat} {t : TypeId} {x i : Operand} (ho : o.op = .index t x i) : OK P ι h w id ((execOp a.eval o).run P w) (oIndex P F o t x i) := by
  unfold oIndex
  split
  · rename_i s j hx hi
    split
    · rename_i b hb ht
      have hu := (opd_den hF hx).1
      obtain ⟨kk, hi⟩ := opn_eq hF hi
      refine ⟨.int .u8 b.toNat, ?_, rfl, rfl⟩
      simp only [execOp, ho, hu, hi]
      refine run_v _ w ?_
      have h1 : s[j]? = some b := by
        obtain ⟨⟨l⟩⟩ := s
        obtain ⟨hj, e⟩ := List.getElem?_eq_some_iff.1 hb
        have hj' : j < (ByteArray.mk ⟨l⟩).size := hj
        rw [getElem?_pos (ByteArray.mk ⟨l⟩) j hj']
        exact congrArg some e
      simp [Instr.index, asIntOf, run_und ht, h1]
    · trivial
  · rename_i l j hx hi
    split
    · rename_i n e ht
      split
      · rename_i z hz hlt
        cases hv : rd P e l (j * z) with
        | none => trivial
        | some v =>
          obtain ⟨m, hm, hl⟩ := opd_den hF hx
          obtain ⟨kk, hi⟩ := opn_eq hF hi
          obtain ⟨u, hu, hd⟩ := rd_ok (P := P) hl hv w
          have hjn : j < n := lt_blt hlt
          refine ⟨u, ?_, hd⟩
          simp only [execOp, ho, hm, hi]
          refine run_v _ w ?_
          have h1 : (0 : Int) ≤ (j : Int) ∧ (j : Int) < (n : Int) := ⟨Int.natCast_nonneg _, Int.ofNat_lt.2 hjn⟩
          simp only [Instr.index, asIntOf, Sem.run_bind, Sem.run_pure, Result.andThen_ok, run_und ht]
          rw [if_pos h1]
          simp [run_sz hz, hu]
      · trivial
    · trivial
  · trivial
theorem bnd_eq (hF : RelF ι F a) {d : Nat} {x : Option Operand} {n : Nat} (e : bnd F d x = some n) :
    (x = none ∧ n = d) ∨ ∃ y k, x = some y ∧ a.eval y = .int k n := by
  cases x with
  | none => cases e; exact .inl ⟨rfl, rfl⟩
  | some y => obtain ⟨k, hk⟩ := opn_eq hF e; exact .inr ⟨y, k, rfl, hk⟩
theorem run_bound (k : IntKind) (n y : Nat) (code : BoundsCode) (w : World) (hn : n ≤ y) : (Instr.sliceBound (.int k n) y code).run P w = .ok n w := by
  have h1 : (0 : Int) ≤ (n : Int) ∧ (n : Int) ≤ (y : Int) := ⟨Int.natCast_nonneg _, Int.ofNat_le.2 hn⟩
  simp only [Instr.sliceBound, asIntOf, Sem.run_bind, Sem.run_pure, Result.andThen_ok]
  rw [if_pos h1]; simp
theorem run_bounds (hF : RelF ι F a) (w : World) (isS : Bool) {len cap l q : Nat} {lo hi : Option Operand} (h0 : bnd F 0 lo = some l) (h1 : bnd F len hi = some q) (hlq : l ≤ q) (hq : q ≤ cap) :
    (Instr.sliceBounds isS len cap (lo.map a.eval) (hi.map a.eval) none).run P w = .ok (l, q, cap) w := by
  unfold Instr.sliceBounds
  rcases bnd_eq hF h0 with ⟨rfl, rfl⟩ | ⟨y, k, rfl, hy⟩ <;> rcases bnd_eq hF h1 with ⟨rfl, rfl⟩ | ⟨y', k', rfl, hy'⟩ <;>
    simp_all [run_bound]
theorem run_bounds3 (hF : RelF ι F a) (w : World) {len cap l q m : Nat} {lo hi : Option Operand} {mx : Operand} {d : Nat} (h0 : bnd F 0 lo = some l) (h1 : bnd F d hi = some q) (hh : hi.isSome = true) (h2 : opn F mx = some m) (hlq : l ≤ q) (hqm : q ≤ m) (hm : m ≤ cap) :
    (Instr.sliceBounds true len cap (lo.map a.eval) (hi.map a.eval) (some (a.eval mx))).run P w = .ok (l, q, m) w := by
  unfold Instr.sliceBounds
  obtain ⟨k'', hx⟩ := opn_eq hF h2
  rcases bnd_eq hF h0 with ⟨rfl, rfl⟩ | ⟨y, k, rfl, hy⟩ <;> rcases bnd_eq hF h1 with ⟨rfl, rfl⟩ | ⟨y', k', rfl, hy'⟩ <;>
    simp_all [run_bound]
theorem run_sliceAt_s {t e : TypeId} (ht : und P t = some (.slice e)) (x : Value) (lo hi mx : Option Value) (w : World) : (Instr.sliceAt t x lo hi mx).run P w = (Instr.slice t x lo hi mx).run P w := by
  simp [Instr.sliceAt, run_und ht]
theorem ok_slice (hF : RelF ι F a) {o : Oper} {id : Nat} {t : TypeId} {x : Operand} {lo hi mx : Option Operand} (ho : o.op = .slice t x lo hi mx) :
    OK P ι h w id ((execOp a.eval o).run P w) (oSlice P F o t x lo hi mx) := by
  unfold oSlice
  split
  · rename_i b q n s hx
    split
    · rename_i e l hh he hlo hhi
      split
      · rename_i z hz
        split
        · rename_i hc
          simp only [Bool.and_eq_true] at hc
          obtain ⟨⟨hzs, hlh⟩, hhn⟩ := hc
          have hzs : z = s := eq_beq hzs
          have hlh := le_ble hlh
          have hhn := le_ble hhn
          obtain ⟨r, y, k, er, hu, hnk, hk⟩ := one_den hF hx
          subst hzs
          split
          · have hrun : (execOp a.eval o).run P w = .ok (.value (.slice (if k = l then some ⟨r, q, none⟩ else some ⟨r, q + l * z, none⟩) (hh - l) (k - l))) w := by
              simp only [execOp, ho, hu, Option.map_none]
              refine run_v _ w ?_
              rw [run_sliceAt_s he]
              simp [Instr.slice, run_und he, run_bounds hF w true hlo hhi hlh (Nat.le_trans hhn hnk), run_sz hz, Addr.add_o]
            split
            · rename_i hlt
              have hlt := lt_blt hlt
              refine ⟨_, hrun, r, y, k - l, er, ?_, by omega, ?_⟩
              · rw [if_neg (by omega)]
              · rw [Nat.sub_mul]; have : l * z ≤ k * z := Nat.mul_le_mul_right _ (by omega); omega
            · rename_i hlt
              have : ¬ l < n := fun hh => by rw [show Nat.blt l n = true from Nat.ble_eq_true_of_le hh] at hlt; cases hlt
              have h0 : hh - l = 0 := by omega
              by_cases hkl : k = l
              · refine ⟨_, hrun, r, y, q, 0, er, ?_⟩
                rw [if_pos hkl, h0, hkl, Nat.sub_self]
              · refine ⟨_, hrun, r, y, q + l * z, k - l, er, ?_⟩
                rw [if_neg hkl, h0]
          · rename_i m
            split
            · rename_i mm hm
              split
              · rename_i hcc
                simp only [Bool.and_eq_true] at hcc
                have e1 : mm = l := eq_beq hcc.1.1
                have e2 : hh = l := eq_beq hcc.1.2
                subst e1; subst e2
                refine ⟨.slice (some ⟨r, q, none⟩) 0 0, ?_, r, y, q, er, rfl⟩
                simp only [execOp, ho, hu, Option.map_some]
                refine run_v _ w ?_
                rw [run_sliceAt_s he]
                simp [Instr.slice, run_und he, run_bounds3 hF w hlo hhi hcc.2 hm hlh hlh (Nat.le_trans hhn hnk), run_sz hz]
              · trivial
            · trivial
        · trivial
      · trivial
    · trivial
  · rename_i b hx
    obtain ⟨r, y, q, er, hu⟩ := one_den hF hx
    split
    · rename_i hlo hhi
      split
      · rename_i e he
        split
        · rename_i z hz
          refine ⟨.slice (some ⟨r, q, none⟩) 0 0, ?_, r, y, q, er, rfl⟩
          simp only [execOp, ho, hu, Option.map_none]
          refine run_v _ w ?_
          rw [run_sliceAt_s he]
          simp [Instr.slice, run_und he, run_bounds hF w true hlo hhi (Nat.le_refl 0) (Nat.le_refl 0), run_sz hz]
        · trivial
      · trivial
    · rename_i m hlo hhi
      split
      · rename_i e hh he hm
        split
        · rename_i z hz
          refine ⟨.slice (some ⟨r, q, none⟩) 0 0, ?_, r, y, q, er, rfl⟩
          simp only [execOp, ho, hu, Option.map_some]
          refine run_v _ w ?_
          rw [run_sliceAt_s he]
          have := run_bounds3 (P := P) (cap := 0) (len := 0) hF w hlo hhi rfl hm (Nat.le_refl 0) (Nat.le_refl 0) (Nat.le_refl 0)
          simp only [Option.map_some] at this
          simp [Instr.slice, run_und he, this, run_sz hz]
        · trivial
      · trivial
    · trivial
  · rename_i b hx
    obtain ⟨r, y, q, k, er, hu⟩ := one_den hF hx
    split
    · rename_i hlo hhi
      split
      · rename_i e he
        split
        · rename_i z hz
          refine ⟨.slice (some ⟨r, q, none⟩) 0 k, ?_, r, y, q, k, er, rfl⟩
          simp only [execOp, ho, hu, Option.map_none]
          refine run_v _ w ?_
          rw [run_sliceAt_s he]
          simp [Instr.slice, run_und he, run_bounds hF w true hlo hhi (Nat.le_refl 0) (Nat.zero_le k), run_sz hz, Addr.add_o]
        · trivial
      · trivial
    · rename_i m hlo hhi
      split
      · rename_i e hh he hm
        split
        · rename_i z hz
          refine ⟨.slice (some ⟨r, q, none⟩) 0 0, ?_, r, y, q, er, rfl⟩
          simp only [execOp, ho, hu, Option.map_some]
          refine run_v _ w ?_
          rw [run_sliceAt_s he]
          have := run_bounds3 (P := P) (cap := k) (len := 0) hF w hlo hhi rfl hm (Nat.le_refl 0) (Nat.le_refl 0) (Nat.zero_le k)
          simp only [Option.map_some] at this
          simp [Instr.slice, run_und he, this, run_sz hz]
        · trivial
      · trivial
    · trivial
  · exact ok_lite0 hF
end Go.Proofs.YtbjddfeihhdpoaaGreatDoor
namespace Go.Proofs.YtbjddfeihhdpoaaGreatDoor
open Go
variable {P : Program} {ι : Map} {h : AH} {w : World} {F : T AT} {a : Act}

/-! a struct of its parts -/
theorem fold_get (off : Nat) : ∀ (vs : List Value) (n : Nat) (cs : Array Value) (i : Nat), off + n + vs.length ≤ cs.size →
    ((vs.zipIdx n).foldl (fun (cs : Array Value) (x : Value × Nat) => cs.setIfInBounds (off + x.2) x.1) cs)[i]? = if off + n ≤ i ∧ i < off + n + vs.length then vs[i - (off + n)]? else cs[i]?
  | [], n, cs, i, _ => by simp; intro h1 h2; omega
  | v :: vs, n, cs, i, hl => by
    rw [List.zipIdx_cons, List.foldl_cons, fold_get off vs (n + 1) _ i (by simp at hl ⊢; omega)]
    simp only [List.length_cons] at hl ⊢
    by_cases h1 : off + (n + 1) ≤ i ∧ i < off + (n + 1) + vs.length
    · rw [if_pos h1, if_pos (by omega), show i - (off + n) = i - (off + (n + 1)) + 1 by omega, List.getElem?_cons_succ]
    · rw [if_neg h1]
      by_cases h2 : i = off + n
      · subst h2
        rw [if_pos (by omega), Nat.sub_self, List.getElem?_cons_zero, Array.getElem?_setIfInBounds_self_of_lt (by omega)]
      · rw [if_neg (by omega), Array.getElem?_setIfInBounds_ne (by omega)]
theorem fold_size (off : Nat) : ∀ (vs : List Value) (n : Nat) (cs : Array Value), ((vs.zipIdx n).foldl (fun (cs : Array Value) (x : Value × Nat) => cs.setIfInBounds (off + x.2) x.1) cs).size = cs.size
  | [], n, cs => rfl
  | v :: vs, n, cs => by rw [List.zipIdx_cons, List.foldl_cons, fold_size off vs (n + 1)]; simp
theorem splice_get {α : Type} (l m : List α) (k i : Nat) (hk : k + m.length ≤ l.length) : (l.take k ++ m ++ l.drop (k + m.length))[i]? = if k ≤ i ∧ i < k + m.length then m[i - k]? else l[i]? := by
  by_cases h1 : i < k
  · rw [if_neg (by omega), List.getElem?_append_left (by simp; omega), List.getElem?_append_left (by simp; omega), List.getElem?_take_of_lt h1]
  · by_cases h2 : i < k + m.length
    · rw [if_pos (by omega), List.getElem?_append_left (by simp; omega), List.getElem?_append_right (by simp; omega)]
      simp [Nat.min_eq_left (show k ≤ l.length by omega)]
    · rw [if_neg (by omega), List.getElem?_append_right (by simp; omega)]
      simp only [List.length_append, List.length_take, List.getElem?_drop]
      congr 1; omega
theorem fold_splice (off : Nat) (vs : Array Value) (cs : Array Value) (hl : off + vs.size ≤ cs.size) :
    (vs.zipIdx.foldl (fun (cs : Array Value) (x : Value × Nat) => cs.setIfInBounds (off + x.2) x.1) cs).toList = cs.toList.take off ++ vs.toList ++ cs.toList.drop (off + vs.toList.length) := by
  apply List.ext_getElem?
  intro i
  rw [splice_get _ _ _ _ (by simpa using hl)]
  rw [← Array.foldl_toList, Array.toList_zipIdx]
  rw [Array.getElem?_toList, fold_get off vs.toList 0 cs i (by simpa using hl)]
  simp
theorem fill_ok {place : Nat → Option (Nat × Nat)} : ∀ {ps : List (Nat × AV)} {qs : List (Nat × Value)} {l l' : List AC} {cs : Array Value}, All2 (AC.den ι) l cs.toList →
    All2 (fun (x : Nat × AV) (y : Nat × Value) => x.1 = y.1 ∧ x.2.den ι y.2) ps qs → afill place l ps = some l' → ∃ cs', Instr.fill place cs qs = some cs' ∧ All2 (AC.den ι) l' cs'.toList
  | [], [], l, l', cs, hl, _, e => by cases e; exact ⟨cs, rfl, hl⟩
  | [], _ :: _, _, _, _, _, hh, _ => hh.elim
  | _ :: _, [], _, _, _, _, hh, _ => hh.elim
  | (i, v) :: ps, (j, u) :: qs, l, l', cs, hl, hh, e => by
    obtain ⟨⟨hij, hd⟩, hh⟩ := hh
    have hij : i = j := hij
    subst hij
    simp only [afill] at e
    cases hp : place i with
    | none => rw [hp] at e; cases e
    | some kz =>
      obtain ⟨k, z⟩ := kz
      rw [hp] at e
      simp only at e
      split at e
      · rename_i hc
        rw [Bool.and_eq_true] at hc
        have h1 := eq_beq hc.1
        have h2 := le_ble hc.2
        have hv := AV.den.cells hd
        have e1 : v.cells.length = u.cells.size := by have := hv.length; simpa using this
        have e2 : l.length = cs.size := by have := hl.length; simpa using this
        have hsz : k + u.cells.size ≤ cs.size := by omega
        have hs := fold_splice k u.cells cs hsz
        have hnew : All2 (AC.den ι) (splice l k v.cells) (u.cells.zipIdx.foldl (fun (cs : Array Value) (x : Value × Nat) => cs.setIfInBounds (k + x.2) x.1) cs).toList := by
          rw [hs]
          unfold splice
          refine ((hl.take k).append hv).append ?_
          rw [show k + u.cells.toList.length = k + v.cells.length by rw [Array.length_toList]; omega]
          exact hl.drop _
        obtain ⟨cs', hf, hl'⟩ := fill_ok hnew hh e
        refine ⟨cs', ?_, hl'⟩
        simp only [Instr.fill, hp]
        rw [if_neg (by simp; omega)]
        exact hf
      · cases e
theorem parts_den (hF : RelF ι F a) : ∀ {ps : List (Nat × Operand)} {m : List (Nat × AV)}, parts F ps = some m → All2 (fun (x : Nat × AV) (y : Nat × Value) => x.1 = y.1 ∧ x.2.den ι y.2) m (ps.map fun x => (x.1, a.eval x.2))
  | [], m, e => by cases e; trivial
  | x :: l, m, e => by
    simp only [parts] at e
    split at e
    · rename_i v q hv hq
      cases e
      exact ⟨⟨rfl, opo_den hF hv⟩, parts_den hF hq⟩
    · cases e
theorem zeroT_den {t : TypeId} {z : AV} (e : zeroT P t = some z) (ι : Map) : ∃ i v, P.info? t = some i ∧ i.zero = some v ∧ z.den ι v := by
  unfold zeroT at e
  split at e
  · rename_i i hi
    split at e
    · rename_i v hv
      exact ⟨i, v, inf_info hi, hv, AV.of_den ι e⟩
    · cases e
  · cases e
theorem places_eq : ∀ {fs : List Field} {q : List (Nat × Nat)}, places P fs = some q → fs.mapM (fun f => (P.info? f.type).map fun i => (f.offset, i.size)) = some q
  | [], q, e => by cases e; rfl
  | f :: l, q, e => by
    simp only [places] at e
    split at e
    · rename_i s m hs hm
      cases e
      obtain ⟨i, hi, rfl⟩ := szT_size hs
      rw [List.mapM_cons, hi, places_eq hm]; rfl
    · cases e
theorem abuild_ok (hF : RelF ι F a) {t : TypeId} {ps : Array (Nat × Operand)} {v : AV} (e : abuild P F t ps = some v) (w : World) :
    ∃ u, (Instr.build t (ps.map fun x => (x.1, a.eval x.2))).run P w = .ok u w ∧ v.den ι u := by
  unfold abuild at e
  split at e
  · rename_i z n el m hz hu hm
    obtain ⟨i, zv, hi, hzv, hzd⟩ := zeroT_den hz ι
    split at e
    · rename_i s hs
      split at e
      · rename_i l hl
        cases e
        obtain ⟨ie, hie, rfl⟩ := szT_size hs
        obtain ⟨cs', hf, hd⟩ := fill_ok (AV.den.cells hzd) (parts_den hF hm) hl
        refine ⟨.agg cs', run_build w t _ cs' ?_, cs'.toList, rfl, hd⟩
        simp only [Program.built, hi, und_under hu, hzv, hie]
        simpa using hf
      · cases e
    · cases e
  · rename_i z fs m hz hu hm
    obtain ⟨i, zv, hi, hzv, hzd⟩ := zeroT_den hz ι
    split at e
    · rename_i q hq
      split at e
      · rename_i l hl
        cases e
        obtain ⟨cs', hf, hd⟩ := fill_ok (AV.den.cells hzd) (parts_den hF hm) hl
        refine ⟨.agg cs', run_build w t _ cs' ?_, cs'.toList, rfl, hd⟩
        simp only [Program.built, hi, und_under hu, hzv, places_eq hq]
        simpa using hf
      · cases e
    · cases e
  · cases e
theorem ok_build (hF : RelF ι F a) {o : Oper} {id : Nat} {t : TypeId} {ps : Array (Nat × Operand)} (ho : o.op = .build t ps) : OK P ι h w id ((execOp a.eval o).run P w) (ro (abuild P F t ps)) := by
  cases hv : abuild P F t ps with
  | none => trivial
  | some v =>
    obtain ⟨u, hu, hd⟩ := abuild_ok (P := P) hF hv w
    exact ⟨u, by simp only [execOp, ho]; exact run_v _ w hu, hd⟩
/-! new blocks -/
theorem mkT_all2 {κ : Map} {l : List AC} {us : Array Value} (hl : All2 (AC.den κ) l us.toList) (t : TypeId) (z : Nat) (hz : us.size ≤ z) (b : Array Value) (hb : b.size = z) (hpre : ∀ i, i < us.size → b[i]? = us[i]?) :
    (blk l t).ok κ z (some (.cells b t (0, 0))) := by
  have hn : l.length = us.size := by have := hl.length; simpa using this
  refine ⟨b, (0, 0), rfl, hb, by omega, .inl rfl, fun i x hi e => ?_⟩
  rw [mkT_get _ _ _ (Nat.le_refl _)] at e
  obtain ⟨u, hu, hd⟩ := hl.get i e
  exact ⟨u, by rw [hpre i (by omega)]; simpa using hu, hd⟩
theorem ok_new {o : Oper} {id : Nat} {r : Result Next} {l : List AC} {t : TypeId} {us : Array Value} (hl : All2 (AC.den ι) l us.toList)
    (hr : r = .ok (.value (.pointer (some ⟨w.heap.size, 0, none⟩))) (w.alloc (.cells us t))) : OK P ι h w id r (.m (blk l t) (.o (.c (.p id 0)))) := by
  refine ⟨_, us.size, _, _, hr, rfl, ⟨rfl, rfl, rfl⟩, fun hid => ⟨?_, w.heap.size, us.size, Map.add_self _ _ _ _, rfl⟩⟩
  exact mkT_all2 (hl.mono fun _ _ hd => hd.ext (Map.add_ext hid)) t us.size (Nat.le_refl _) us rfl (fun _ _ => rfl)
theorem ok_alloc {o : Oper} {id : Nat} {t : TypeId} (ho : o.op = .alloc t) : OK P ι h w id ((execOp a.eval o).run P w) (oAlloc P id t) := by
  unfold oAlloc
  split
  · rename_i z hz
    obtain ⟨i, v, hi, hv, hd⟩ := zeroT_den hz ι
    refine ok_new (o := o) (AV.den.cells hd) ?_
    simp only [execOp, ho]
    exact run_v _ w (by simp [Instr.alloc, zeroValue, typeInfo, hi, hv, newVar, newRow])
  · trivial
theorem ok_box (hF : RelF ι F a) {o : Oper} {id : Nat} {t : TypeId} {x : Operand} (ho : o.op = .box t x) : OK P ι h w id ((execOp a.eval o).run P w) (oBox F id t x) := by
  unfold oBox
  split
  · rename_i v hv
    refine ok_new (o := o) (AV.den.cells (opo_den hF hv)) ?_
    simp only [execOp, ho]
    exact run_v _ w (by simp [Instr.box, newVar, newRow])
  · trivial
theorem flatten_all2 {l : List AC} {m : List Value} (hl : All2 (AC.den ι) l m) : ∀ n, All2 (AC.den ι) (List.replicate n l).flatten (List.replicate n m).flatten
  | 0 => trivial
  | n + 1 => by rw [List.replicate_succ, List.replicate_succ, List.flatten_cons, List.flatten_cons]; exact hl.append (flatten_all2 hl n)
theorem rep_cells (zc : Array Value) (n : Nat) : (Array.range (n * zc.size)).map (fun i => zc[i % zc.size]!) = ⟨(List.replicate n zc.toList).flatten⟩ := by
  apply Array.ext'
  apply List.ext_getElem?
  intro i
  have hlen : ∀ n, (List.replicate n zc.toList).flatten.length = n * zc.size := fun n => by simp
  by_cases hi : i < n * zc.size
  · have hz : 0 < zc.size := by rcases Nat.eq_zero_or_pos zc.size with h | h; · rw [h] at hi; omega
                                · exact h
    have hm : i % zc.size < zc.size := Nat.mod_lt _ hz
    have hr : ∀ (n i : Nat), i < n * zc.size → (List.replicate n zc.toList).flatten[i]? = zc.toList[i % zc.size]? := by
      intro n
      induction n with
      | zero => intro i h; simp at h
      | succ n ih =>
        intro i h
        rw [List.replicate_succ, List.flatten_cons]
        by_cases h1 : i < zc.size
        · rw [List.getElem?_append_left (by simpa using h1), Nat.mod_eq_of_lt h1]
        · rw [List.getElem?_append_right (by simpa using h1)]
          have h2 : i - zc.size < n * zc.size := by rw [Nat.succ_mul] at h; omega
          simp only [Array.length_toList]
          rw [ih _ h2]
          congr 1
          conv => rhs; rw [show i = i - zc.size + zc.size by omega, Nat.add_mod_right]
    show _ = (List.replicate n zc.toList).flatten[i]?
    rw [hr n i hi]
    simp [hi, hm]
  · show _ = (List.replicate n zc.toList).flatten[i]?
    rw [List.getElem?_eq_none (l := (List.replicate n zc.toList).flatten) (by rw [hlen]; omega), List.getElem?_eq_none (by simp; omega)]
theorem size_of_len {l : List AC} {us : Array Value} (h : All2 (AC.den ι) l us.toList) : l.length = us.size := by have := h.length; simpa using this
theorem afill_len {place : Nat → Option (Nat × Nat)} : ∀ {ps : List (Nat × AV)} {l l' : List AC}, afill place l ps = some l' → l'.length = l.length
  | [], l, l', e => by cases e; rfl
  | (i, v) :: ps, l, l', e => by
    simp only [afill] at e
    split at e
    · cases e
    · split at e
      · rename_i hc
        rw [Bool.and_eq_true] at hc
        have h1 := eq_beq hc.1
        have h2 := le_ble hc.2
        rw [afill_len e]
        unfold splice
        simp; omega
      · cases e
/-- a slice of a new block -/
theorem ok_newS {o : Oper} {id : Nat} {r : Result Next} {l : List AC} {t : TypeId} {us : Array Value} {n k s : Nat} {b : Array Value} {w' : World} {f : Nat × Nat} (hl : All2 (AC.den ι) l us.toList) (hnk : n ≤ k)
    (hb : b.size = k * s) (hus : us.size ≤ b.size) (hpre : ∀ i, i < us.size → b[i]? = us[i]?) (hf : f.1 = f.2 ∨ b.size ≤ f.1)
    (hr : r = .ok (.value (.slice (some ⟨w.heap.size, 0, none⟩) n k)) w') (hw : w'.heap = w.heap.push (.cells b t f)) (hcm : Calm w w' := by exact ⟨rfl, rfl, rfl⟩) : OK P ι h w id r (.m (blk l t) (.o (.c (.s id 0 n s)))) := by
  refine ⟨_, k * s, _, _, hr, hw, hcm, fun hid => ⟨?_, w.heap.size, k * s, k, Map.add_self _ _ _ _, rfl, hnk, by omega⟩⟩
  obtain ⟨b', f', e1, e2, e3, _, e5⟩ := mkT_all2 (hl.mono fun _ _ hd => hd.ext (Map.add_ext (r := w.heap.size) (z := k * s) hid)) t (k * s) (by omega) b hb hpre
  cases e1
  exact ⟨b, f, rfl, e2, e3, by rw [← hb]; exact hf, e5⟩
theorem ok_buildSlice' (hF : RelF ι F a) {o : Oper} {id : Nat} {t e : TypeId} {n : Nat} {ps : Array (Nat × Operand)} (ho : o.op = .buildSlice t n ps) (hn1 : 1 ≤ n) (he : und P t = some (.slice e)) :
    OK P ι h w id ((execOp a.eval o).run P w) (oBuildSlice' P F id e n ps) := by
  unfold oBuildSlice'
  split
  · rename_i m s z hm hs hz
    split
    · rename_i l hle hl
      rw [Bool.and_eq_true] at hle
      have hle' := le_ble hle.1
      have hzl := eq_beq hle.2
      change szT P e = some (s + 1) at hs
      obtain ⟨i, zv, hi, hzv, hzd⟩ := zeroT_den hz ι
      obtain ⟨ie, hie, hsz⟩ := szT_size hs
      rw [hi] at hie; cases hie
      have hzs : zv.cells.size = s + 1 := by rw [← size_of_len (AV.den.cells hzd)]; exact hzl
      have hrep : All2 (AC.den ι) (List.replicate n z.cells).flatten ((Array.range (n * (s + 1))).map fun i => zv.cells[i % zv.cells.size]!).toList := by
        rw [← hzs, rep_cells]; exact flatten_all2 (AV.den.cells hzd) n
      obtain ⟨cs', hf, hd⟩ := fill_ok hrep (parts_den hF hm) hl
      have hlen : cs'.size = n * (s + 1) := by
        rw [← size_of_len hd, afill_len hl, size_of_len hrep]; simp
      refine ok_newS (o := o) (us := cs') (b := cs') (k := n) (f := (0, 0)) hd (Nat.le_refl _) hlen (Nat.le_refl _) (fun _ _ => rfl) (.inl rfl) (w' := w.alloc (.cells cs' e)) ?_ rfl
      simp only [execOp, ho]
      refine run_v _ w ?_
      simp only [Instr.buildSlice, Sem.run_bind, run_und he, Result.andThen_ok, run_sz hs]
      have h0 : n * (s + 1) ≠ 0 := fun h => by rcases Nat.mul_eq_zero.1 h with h | h <;> omega
      rw [if_neg (by omega), if_neg h0]
      simp only [Sem.run_bind, zeroValue, typeInfo, run_program, Result.andThen_ok, hi, hzv, Sem.run_pure]
      simp [hf, newRow]
    · trivial
  · trivial
theorem ok_buildSlice (hF : RelF ι F a) {o : Oper} {id : Nat} {t : TypeId} {n : Nat} {ps : Array (Nat × Operand)} (ho : o.op = .buildSlice t n ps) : OK P ι h w id ((execOp a.eval o).run P w) (oBuildSlice P F id t n ps) := by
  unfold oBuildSlice
  split
  · rename_i e he
    split
    · split
      · rename_i z hps hz
        have hps : ps = #[] := Array.toList_eq_nil_iff.1 hps
        refine ⟨.cells #[] e, 0, .slice (some ⟨w.heap.size, 0, none⟩) 0 0, w.alloc (.cells #[] e), ?_, rfl, ⟨rfl, rfl, rfl⟩, fun hid => ⟨?_, w.heap.size, 0, 0, Map.add_self _ _ _ _, rfl⟩⟩
        · simp only [execOp, ho]
          refine run_v _ w ?_
          subst hps
          have h0 : (Array.map (fun _ => default) (Array.range 0) : Array Value) = #[] := Array.ext (by simp) (fun i h => by simp at h)
          simp [Instr.buildSlice, run_und he, run_sz hz, Instr.fill, newRow, h0]
        · exact ⟨#[], (0, 0), rfl, rfl, Nat.le_refl _, .inl rfl, fun i x hi => by simp at hi⟩
      · trivial
    · exact ok_buildSlice' hF ho (by omega) he
  · trivial
theorem wrap_nat (n : Nat) (hn : n < 9223372036854775808) : IntKind.i64.wrap (n : Int) = n := by
  unfold IntKind.wrap
  have h1 : (n : Int) % (2 ^ IntKind.i64.bits : Int) = n := Int.emod_eq_of_lt (by omega) (by show (n : Int) < 2 ^ 64; omega)
  simp only [h1]
  rw [if_neg]
  intro hc
  rw [Bool.and_eq_true, decide_eq_true_eq] at hc
  have h2 : (2 ^ 63 : Int) ≤ n := hc.2
  omega
theorem rep_prefix (L : List Value) (n k i : Nat) (hnk : n ≤ k) (hi : i < (List.replicate n L).flatten.length) : (List.replicate k L).flatten[i]? = (List.replicate n L).flatten[i]? := by
  obtain ⟨d, rfl⟩ : ∃ d, k = n + d := ⟨k - n, by omega⟩
  rw [← List.replicate_append_replicate, List.flatten_append, List.getElem?_append_left hi]
theorem ok_makeSlice (hF : RelF ι F a) {o : Oper} {id : Nat} {t : TypeId} {l c : Operand} (ho : o.op = .makeSlice t l c) : OK P ι h w id ((execOp a.eval o).run P w) (oMakeSlice P F id t l c) := by
  unfold oMakeSlice
  split
  · rename_i e n k he hn hk
    split
    · rename_i s z hs hz
      split
      · rename_i hc
        rw [Bool.and_eq_true, Bool.and_eq_true, Bool.and_eq_true] at hc
        have hnk := le_ble hc.1.1.1
        have hk1 := le_ble hc.1.1.2
        have hzl := eq_beq hc.1.2
        have hbk := hc.2
        change szT P e = some (s + 1) at hs
        obtain ⟨k1, hl⟩ := opn_eq hF hn
        obtain ⟨k2, hcap⟩ := opn_eq hF hk
        obtain ⟨i, zv, hi, hzv, hzd⟩ := zeroT_den hz ι
        obtain ⟨ie, hie, hsz⟩ := szT_size hs
        rw [hi] at hie; cases hie
        have hzs : zv.cells.size = s + 1 := by rw [← size_of_len (AV.den.cells hzd)]; exact hzl
        have hb : i.bytes * k ≤ 281474976710656 := by
          unfold bytesOk at hbk
          split at hbk
          · rename_i j hj
            rw [inf_info hj] at hi; cases hi
            exact le_ble hbk
          · cases hbk
        have hlen : ∀ n, (List.replicate n zv.cells.toList).flatten.length = n * (s + 1) := fun n => by simp [hzs]
        refine ok_newS (o := o) (us := ⟨(List.replicate n zv.cells.toList).flatten⟩) (b := (Array.range (k * (s + 1))).map fun i => zv.cells[i % zv.cells.size]!) (k := k) (f := (0, 0))
          (flatten_all2 (AV.den.cells hzd) n) hnk (by simp) (by simp [hzs]; exact Nat.mul_le_mul_right _ hnk) (fun j hj => ?_) (.inl rfl) (w' := w.alloc (.cells ((Array.range (k * (s + 1))).map fun i => zv.cells[i % zv.cells.size]!) e)) ?_ rfl
        · rw [← hzs, rep_cells]
          have := rep_prefix zv.cells.toList n k j hnk hj
          simpa using this
        · simp only [execOp, ho, hl, hcap]
          refine run_v _ w ?_
          have e1 : IntKind.i64.wrap (n : Int) = n := wrap_nat n (by omega)
          have e2 : IntKind.i64.wrap (k : Int) = k := wrap_nat k (by omega)
          have hbb : ¬ ((281474976710656 : Int) < (i.bytes : Int) * (k : Int)) := by
            have : ((i.bytes * k : Nat) : Int) ≤ ((281474976710656 : Nat) : Int) := Int.ofNat_le.2 hb
            rw [Int.natCast_mul] at this; omega
          simp only [Instr.makeSlice, Sem.run_bind, run_und he, Result.andThen_ok, asInt, asIntOf, Sem.run_pure, typeInfo, run_program, hi]
          simp only [show (Int.ofNat n : Int) = (n : Int) from rfl, show (Int.ofNat k : Int) = (k : Int) from rfl, e1, e2]
          rw [if_neg (by simp; omega)]
          simp only [Sem.run_bind, run_askRoom, Result.andThen_ok, run_sz hs, Int.toNat_natCast]
          by_cases h0 : k * (s + 1) = 0
          · rw [if_pos h0, h0]
            have hz0 : ∀ q : Array Value, ((Array.range 0).map fun i => q[i % q.size]!) = #[] := fun q => Array.ext (by simp) (fun i h => by simp at h)
            simp [hz0, newRow]
          · rw [if_neg h0]
            simp [zeroValue, typeInfo, hi, hzv, newRow]
      · trivial
    · trivial
  · trivial
theorem ok_makeMap (hF : RelF ι F a) {o : Oper} {id : Nat} {t : TypeId} {r : Option Operand} (ho : o.op = .makeMap t r) : OK P ι h w id ((execOp a.eval o).run P w) (oMakeMap P F id t r) := by
  unfold oMakeMap
  split
  · rename_i k e z hu hr
    refine ⟨.map #[] 0, 0, .map (some w.heap.size), w.alloc (.map #[] 0), ?_, rfl, ⟨rfl, rfl, rfl⟩, fun hid => ⟨⟨#[], rfl, trivial⟩, w.heap.size, 0, Map.add_self _ _ _ _, rfl⟩⟩
    simp only [execOp, ho]
    refine run_v _ w ?_
    rcases bnd_eq hF hr with ⟨rfl, rfl⟩ | ⟨y, k, rfl, hy⟩
    · simp [Instr.makeMap]
    · simp [Instr.makeMap, run_und hu, asInt, asIntOf, hy]
  · trivial
end Go.Proofs.YtbjddfeihhdpoaaGreatDoor
namespace Go.Proofs.YtbjddfeihhdpoaaGreatDoor
open Go
variable {P : Program} {ι : Map} {h : AH} {w : World} {F : T AT} {a : Act}

/-! the same, as it is reckoned and as it is said -/
theorem natEq_iff : ∀ (l m : List Nat), natEq l m = true ↔ l = m
  | [], [] => by simp [natEq]
  | [], _ :: _ => by simp [natEq]
  | _ :: _, [] => by simp [natEq]
  | a :: l, b :: m => by
    simp only [natEq]
    cases hb : Nat.beq a b with
    | true => simp only [natEq_iff l m, List.cons.injEq, eq_beq hb, true_and]
    | false => simp only [Bool.false_eq_true, List.cons.injEq, false_iff]; rintro ⟨rfl, _⟩; rw [Nat.beq_refl] at hb; cases hb
theorem strEq_iff (a b : ByteArray) : strEq a b = true ↔ a = b := by
  unfold strEq
  rw [natEq_iff]
  obtain ⟨⟨a⟩⟩ := a
  obtain ⟨⟨b⟩⟩ := b
  constructor
  · intro h
    have hm : ∀ a b : List UInt8, a.map (·.toNat) = b.map (·.toNat) → a = b := by
      intro a
      induction a with
      | nil => intro b h; cases b with
        | nil => rfl
        | cons y b => cases h
      | cons x a ih => intro b h; cases b with
        | nil => cases h
        | cons y b => rw [List.map_cons, List.map_cons] at h; injection h with h1 h2; rw [UInt8.toNat_inj.1 h1, ih b h2]
    rw [hm a b h]
  · intro h; cases h; rfl
theorem bytes_beq (a b : ByteArray) : (a == b) = true ↔ a = b := by
  obtain ⟨a⟩ := a
  obtain ⟨b⟩ := b
  constructor
  · intro h
    have : a = b := eq_of_beq (show (a == b) = true from h)
    rw [this]
  · intro h; cases h; exact beq_self_eq_true a
theorem intEq_iff (a b : Int) : intEq a b = true ↔ a = b := by
  cases a <;> cases b <;> simp only [intEq, Bool.false_eq_true, false_iff]
  · rename_i a b; constructor
    · intro h; rw [eq_beq h]
    · intro h; cases h; exact Nat.beq_refl a
  · rename_i a b; intro h; cases h
  · rename_i a b; intro h; cases h
  · rename_i a b; constructor
    · intro h; rw [eq_beq h]
    · intro h; cases h; exact Nat.beq_refl a
theorem intLt_iff (a b : Int) : intLt a b = true ↔ a < b := by
  cases a <;> cases b <;> simp only [intLt, Bool.false_eq_true, false_iff, true_iff]
  · rename_i a b; constructor
    · intro h; exact Int.ofNat_lt.2 (lt_blt h)
    · intro h; exact Nat.ble_eq_true_of_le (Int.ofNat_lt.1 h)
  · rename_i a b; intro h; exact absurd h (by have := Int.negSucc_lt_zero b; have : (0 : Int) ≤ Int.ofNat a := Int.natCast_nonneg a; omega)
  · rename_i a b; have := Int.negSucc_lt_zero a; have : (0 : Int) ≤ Int.ofNat b := Int.natCast_nonneg b; omega
  · rename_i a b; constructor
    · intro h; have := lt_blt h; simp only [Int.negSucc_eq]; omega
    · intro h; simp only [Int.negSucc_eq] at h; exact Nat.ble_eq_true_of_le (by omega)
theorem kindN_inj {j k : IntKind} (h : Nat.beq (kindN j) (kindN k) = true) : j = k := by cases j <;> cases k <;> first | rfl | (exact absurd h (by decide))
theorem bool_iff {a b : Bool} (h : a = true ↔ b = true) : a = b := by cases a <;> cases b <;> simp_all
theorem wrapF_eq (k : IntKind) (n : Int) : wrapF k n = k.wrap n := by
  unfold wrapF
  split
  · rename_i m
    split
    · rename_i h; exact (wrap_nat m (lt_blt h)).symm
    · rfl
  · rename_i m
    show _ = IntKind.u8.wrap _
    unfold IntKind.wrap
    simp only [IntKind.signed, Bool.false_and, Bool.false_eq_true, if_false]
    show _ = Int.ofNat m % ((256 : Nat) : Int)
    exact (Int.natCast_emod m 256).symm ▸ rfl
  · rfl
/-! keys of a map -/
theorem keyEq_now {kd : TypeDesc} {k e : Value} (hk : keyOk kd k = true) {b : Bool} (h : keyEq k e = some b) : Instr.sameNow kd k e = some b := by
  cases k with
  | int j x =>
    cases e with
    | int l y =>
      simp only [keyEq] at h
      split at h
      · rename_i hj
        cases h
        have := kindN_inj hj
        subst this
        cases kd <;> simp [keyOk] at hk
        simp only [Instr.sameNow, if_true]
        congr 1
        exact (bool_iff (by rw [intEq_iff]; simp)).symm
      · cases h
    | _ => cases h
  | string x =>
    cases e with
    | string y =>
      cases h
      cases kd <;> first | (cases hk; done) | skip
      show some (x == y) = _
      congr 1
      exact (bool_iff ((strEq_iff x y).trans (bytes_beq x y).symm)).symm
    | _ => cases h
  | bool x =>
    cases e with
    | bool y =>
      cases h
      cases kd <;> first | rfl | (simp [keyOk] at hk; done) | cases hk
    | _ => cases h
  | _ => cases h
def EntOk (ι : Map) (x : AE) (e : MapEntry) : Prop := e.key = x.k ∧ e.born = x.born ∧ x.v.den ι e.val
theorem afind_now {kd : TypeDesc} {k : Value} (hk : keyOk kd k = true) : ∀ {l : List AE} {es : List MapEntry} {i : Nat} {r : Option (Nat × AV)}, All2 (EntOk ι) l es → afind k l i = some r →
    match r with
    | none => Instr.findNow kd k es i = some none
    | some (j, v) => ∃ u, Instr.findNow kd k es i = some (some (j, u)) ∧ v.den ι u ∧ i ≤ j ∧ j < i + es.length
  | [], [], i, r, _, e => by cases e; rfl
  | [], _ :: _, _, _, hh, _ => hh.elim
  | _ :: _, [], _, _, hh, _ => hh.elim
  | x :: l, y :: es, i, r, hh, e => by
    obtain ⟨⟨h1, h2, h3⟩, hh⟩ := hh
    simp only [afind] at e
    cases hx : keyEq k x.k with
    | none => rw [hx] at e; cases e
    | some b =>
      rw [hx] at e
      have hn := keyEq_now hk hx
      rw [← h1] at hn
      cases b with
      | true =>
        cases e
        exact ⟨y.val, by simp [Instr.findNow, hn], h3, Nat.le_refl _, by simp⟩
      | false =>
        have ih := afind_now hk hh e
        have hf : Instr.findNow kd k (y :: es) i = Instr.findNow kd k es (i + 1) := by simp [Instr.findNow, hn]
        cases r with
        | none => rw [hf]; exact ih
        | some jv => obtain ⟨u, e1, e2, e3, e4⟩ := ih; exact ⟨u, by rw [hf]; exact e1, e2, by omega, by simp; omega⟩
theorem run_checkKey {kt : TypeId} {kd : TypeDesc} {k : Value} (hu : und P kt = some kd) (hk : keyOk kd k = true) (b : Bool) (w : World) : (Instr.checkKey b 10000 kt k).run P w = .ok () w := by
  show (Instr.checkKey b (9999 + 1) kt k).run P w = _
  unfold Instr.checkKey
  rw [Sem.run_bind, run_und hu]
  cases kd <;> cases k <;> simp_all [keyOk]
theorem run_findKey {kt : TypeId} {kd : TypeDesc} {k : Value} (hu : und P kt = some kd) {es : List MapEntry} {r : Option (Nat × Value)} (hf : Instr.findNow kd k es 0 = some r) (w : World) : (Instr.findKey kt k es).run P w = .ok r w := by
  unfold Instr.findKey
  rw [Sem.run_bind, run_und hu]
  simp [hf]
theorem run_zero {t : TypeId} {z : AV} (e : zeroT P t = some z) (ι : Map) (w : World) : ∃ v, (zeroValue t).run P w = .ok v w ∧ z.den ι v := by
  obtain ⟨i, v, hi, hv, hd⟩ := zeroT_den e ι
  exact ⟨v, by simp [zeroValue, typeInfo, hi, hv], hd⟩
theorem ok_lookR {id : Nat} {r : Result Next} {ok : Bool} {v : AV} {t : Bool} {u : Value} (hd : v.den ι u) (hr : r = .ok (.value (if ok then .tuple #[u, .bool t] else u)) w) : OK P ι h w id r (lookR ok v t) := by
  cases ok with
  | true => exact ⟨_, hr, [u, .bool t], rfl, hd, ⟨rfl, rfl⟩, trivial⟩
  | false => exact ⟨_, hr, hd⟩
theorem map_ok {l : List AE} {c : Nat} {z : Nat} {o : Option Obj} (hk : (Blk.map l c).ok ι z o) : ∃ es : Array MapEntry, o = some (.map es c) ∧ All2 (EntOk ι) l es.toList := hk
theorem ok_lookup (R : Rel ι h w) (hF : RelF ι F a) {o : Oper} {id : Nat} {t : TypeId} {x i : Operand} {ok : Bool} (ho : o.op = .lookup t x i ok) : OK P ι h w id ((execOp a.eval o).run P w) (oLookup P h F t x i ok) := by
  unfold oLookup
  split
  · rename_i kt et m k ht hm hk
    split
    · rename_i kd z hkd hz
      split
      · rename_i hok
        have hk := opv_eq hF hk
        obtain ⟨zv, hzv, hzd⟩ := run_zero (P := P) hz ι w
        split
        · rename_i b
          obtain ⟨r, z', er, hu⟩ := one_den hF hm
          split
          · rename_i es c hb
            obtain ⟨r', z'', er', hblk⟩ := R.blk b _ hb
            rw [er] at er'; cases er'
            obtain ⟨ea, hea, hall⟩ := map_ok hblk
            have hbody : ∀ q, Instr.findNow kd k ea.toList 0 = some q → (execOp a.eval o).run P w = .ok (.value (if ok then .tuple #[(match q with | some (_, v) => v | none => zv), .bool q.isSome] else (match q with | some (_, v) => v | none => zv))) w := fun q hq => by
              simp only [execOp, ho, hu, hk]
              refine run_v _ w ?_
              simp only [Instr.lookup, Sem.run_bind, run_und ht, Result.andThen_ok]
              have hg : (getObj r).run P w = .ok (.map ea c) w := by simp [getObj, Sem.run, hea]
              simp only [hg, Result.andThen_ok, Sem.run_pure, Sem.run_bind, run_checkKey hkd hok, run_findKey hkd hq]
              cases q with
              | none => simp [hzv]
              | some jv => obtain ⟨j, v⟩ := jv; simp
            split
            · rename_i j v hf
              obtain ⟨u, e1, e2, _⟩ := afind_now hok hall hf
              exact ok_lookR e2 (hbody _ e1)
            · rename_i hf
              exact ok_lookR hzd (hbody _ (afind_now hok hall hf))
            · trivial
          · trivial
        · have hu := (one_den hF hm).1
          refine ok_lookR hzd ?_
          simp only [execOp, ho, hu, hk]
          refine run_v _ w ?_
          simp only [Instr.lookup, Sem.run_bind, run_und ht, Result.andThen_ok, Sem.run_pure]
          have hq : Instr.findNow kd k (#[] : Array MapEntry).toList 0 = some none := rfl
          simp only [run_checkKey hkd hok, run_findKey hkd hq, Result.andThen_ok]
          simp [hzv]
        · trivial
      · trivial
    · trivial
  · trivial
/-! two operands -/
theorem run_eqGuard_off {op : BinOp} {t : TypeId} {x y : Operand} {u v : Value} (w : World) (h : op ≠ .eql ∧ op ≠ .neq ∨ (∀ l, u ≠ .agg l) ∧ u ≠ .nilIface) : (eqGuard op t x y u v).run P w = .ok () w := by
  unfold eqGuard
  rcases h with ⟨h1, h2⟩ | ⟨h1, h2⟩
  · cases op <;> simp_all
  · cases op <;> simp <;> cases u <;> simp_all
theorem run_bin {o : Oper} {op : BinOp} {t t' : TypeId} {x y : Operand} (ho : o.op = .binOp op t x y t') {r : Value} (hg : (eqGuard op t x y (a.eval x) (a.eval y)).run P w = .ok () w)
    (hr : (binOp op t (a.eval x) (a.eval y)).run P w = .ok r w) : (execOp a.eval o).run P w = .ok (.value r) w := by
  simp only [execOp, ho]
  refine run_v _ w ?_
  rw [Sem.run_bind, hg, Result.andThen_ok, hr]
theorem ok_int {o : Oper} {op : BinOp} {t t' : TypeId} {x y : Operand} (ho : o.op = .binOp op t x y t') {k : IntKind} {m n : Int} (hx : a.eval x = .int k m) (hy : a.eval y = .int k n) {r : AT} (e : intOp op k m n = some r) :
    ∃ u, (execOp a.eval o).run P w = .ok (.value u) w ∧ r.den ι u := by
  have hg : (eqGuard op t x y (a.eval x) (a.eval y)).run P w = .ok () w := run_eqGuard_off w (.inr (by rw [hx]; exact ⟨by simp, by simp⟩))
  have hd : ∀ v : Value, v.oneCell' = true → (AT.o (.c (.v v))).den ι v := fun v hv => ⟨rfl, hv⟩
  cases op <;> simp only [intOp] at e <;> first | (cases e; done) | skip
  all_goals
    injection e with e
    subst e
    refine ⟨_, run_bin ho hg ?_, hd _ rfl⟩
    rw [hx, hy]
  · simp [binOp, Op.intArith, wrapF_eq]
  · simp [binOp, Op.intArith, wrapF_eq]
  · simp [binOp, Op.intArith, wrapF_eq]
  · simp only [binOp, ne_eq, not_true_eq_false, if_false, Op.intCmp, Sem.run_pure]; congr 2; exact bool_iff (by rw [intEq_iff]; simp)
  · simp only [binOp, ne_eq, not_true_eq_false, if_false, Op.intCmp, Sem.run_pure]; congr 2; exact bool_iff (by simp [bne, ← intEq_iff])
  · simp only [binOp, ne_eq, not_true_eq_false, if_false, Op.intCmp, Sem.run_pure]; congr 2; exact bool_iff (by rw [intLt_iff]; simp)
  · simp only [binOp, ne_eq, not_true_eq_false, if_false, Op.intCmp, Sem.run_pure]; congr 2; exact bool_iff (by have := intLt_iff n m; cases h : intLt n m <;> simp_all <;> omega)
  · simp only [binOp, ne_eq, not_true_eq_false, if_false, Op.intCmp, Sem.run_pure]; congr 2; exact bool_iff (by rw [intLt_iff]; simp)
  · simp only [binOp, ne_eq, not_true_eq_false, if_false, Op.intCmp, Sem.run_pure]; congr 2; exact bool_iff (by have := intLt_iff m n; cases h : intLt m n <;> simp_all <;> omega)
end Go.Proofs.YtbjddfeihhdpoaaGreatDoor
namespace Go.Proofs.YtbjddfeihhdpoaaGreatDoor
open Go
variable {P : Program} {ι : Map} {h : AH} {w : World} {F : T AT} {a : Act}

theorem run_same {t e : TypeId} {z : Nat} (hu : und P t = some (.pointer e)) (hz : szT P e = some (z + 1)) (r k j : Nat) (w : World) : (Op.equal t (.pointer (some ⟨r, k, none⟩)) (.pointer (some ⟨r, j, none⟩))).run P w = .ok (Nat.beq k j) w := by
  have h0 : ∀ x y, Op.equal t x y = Op.equalIn (9999 + 1) t x y := fun _ _ => rfl
  rw [h0]; unfold Op.equalIn
  simp only [Sem.run_bind, run_und hu, Result.andThen_ok, run_sz hz]
  rw [if_pos (by simp)]
  unfold sameAddr
  simp only [beq_self_eq_true, if_true, Sem.run_pure]
  congr 1
  refine bool_iff ?_
  constructor
  · intro h; have := eq_of_beq h; cases this; exact Nat.beq_refl k
  · intro h; rw [eq_beq h]; exact beq_self_eq_true _
theorem eqA_ok {t : TypeId} {x y : AC} {r : Bool} (e : eqA P t x y = some r) {u v : Value} (hu : x.den ι u) (hv : y.den ι v) (w : World) :
    (Op.equal t u v).run P w = .ok r w ∧ ((∀ l, u ≠ .agg l) ∧ u ≠ .nilIface) ∧ (binOp .eql t u v = do pure (.bool (← Op.equal t u v))) ∧ (binOp .neq t u v = do pure (.bool (!(← Op.equal t u v)))) := by
  unfold eqA at e
  split at e
  · split at e
    · rename_i hd
      cases e
      obtain ⟨q, z, _, rfl⟩ := hv
      rw [hu.1]
      exact ⟨by rw [show ∀ x y, Op.equal t x y = Op.equalIn (9999 + 1) t x y from fun _ _ => rfl]; unfold Op.equalIn; simp only [Sem.run_bind, run_und hd, Result.andThen_ok]; rfl, ⟨by simp, by simp⟩, rfl, rfl⟩
    · cases e
  · split at e
    · rename_i hd
      cases e
      obtain ⟨q, z, _, rfl⟩ := hu
      rw [hv.1]
      exact ⟨by rw [show ∀ x y, Op.equal t x y = Op.equalIn (9999 + 1) t x y from fun _ _ => rfl]; unfold Op.equalIn; simp only [Sem.run_bind, run_und hd, Result.andThen_ok]; rfl, ⟨by simp, by simp⟩, rfl, rfl⟩
    · cases e
  · rename_i b k c j
    split at e
    · rename_i el hd
      split at e
      · rename_i z hbc hz
        cases e
        have := eq_beq hbc
        subst this
        obtain ⟨q, z, e1, rfl⟩ := hu
        obtain ⟨q', z', e2, rfl⟩ := hv
        rw [e1] at e2; cases e2
        exact ⟨run_same hd hz q k j w, ⟨by simp, by simp⟩, rfl, rfl⟩
      · cases e
    · cases e
  · split at e
    · rename_i hd
      cases e
      obtain ⟨q, z, k, _, rfl, _⟩ := hv
      rw [hu.1]
      exact ⟨by rw [show ∀ x y, Op.equal t x y = Op.equalIn (9999 + 1) t x y from fun _ _ => rfl]; unfold Op.equalIn; simp only [Sem.run_bind, run_und hd, Result.andThen_ok]; rfl, ⟨by simp, by simp⟩, rfl, rfl⟩
    · cases e
  · split at e
    · rename_i hd
      cases e
      obtain ⟨q, z, k, _, rfl, _⟩ := hu
      rw [hv.1]
      exact ⟨by rw [show ∀ x y, Op.equal t x y = Op.equalIn (9999 + 1) t x y from fun _ _ => rfl]; unfold Op.equalIn; simp only [Sem.run_bind, run_und hd, Result.andThen_ok]; rfl, ⟨by simp, by simp⟩, rfl, rfl⟩
    · cases e
  · split at e
    · rename_i hd
      cases e
      obtain ⟨q, z, k, _, rfl⟩ := hu
      rw [hv.1]
      exact ⟨by rw [show ∀ x y, Op.equal t x y = Op.equalIn (9999 + 1) t x y from fun _ _ => rfl]; unfold Op.equalIn; simp only [Sem.run_bind, run_und hd, Result.andThen_ok]; rfl, ⟨by simp, by simp⟩, rfl, rfl⟩
    · cases e
  · split at e
    · rename_i hd
      cases e
      obtain ⟨q, z, k, k', _, rfl⟩ := hu
      rw [hv.1]
      exact ⟨by rw [show ∀ x y, Op.equal t x y = Op.equalIn (9999 + 1) t x y from fun _ _ => rfl]; unfold Op.equalIn; simp only [Sem.run_bind, run_und hd, Result.andThen_ok]; rfl, ⟨by simp, by simp⟩, rfl, rfl⟩
    · cases e
  · split at e
    · rename_i hd
      cases e
      obtain ⟨q, z, _, rfl⟩ := hu
      rw [hv.1]
      exact ⟨by rw [show ∀ x y, Op.equal t x y = Op.equalIn (9999 + 1) t x y from fun _ _ => rfl]; unfold Op.equalIn; simp only [Sem.run_bind, run_und hd, Result.andThen_ok]; rfl, ⟨by simp, by simp⟩, rfl, rfl⟩
    · cases e
  · split at e
    · rename_i hd
      cases e
      obtain ⟨m, l, rfl, _⟩ := hu
      rw [hv.1]
      exact ⟨by rw [show ∀ x y, Op.equal t x y = Op.equalIn (9999 + 1) t x y from fun _ _ => rfl]; unfold Op.equalIn; simp only [Sem.run_bind, run_und hd, Result.andThen_ok]; rfl, ⟨by simp, by simp⟩, rfl, rfl⟩
    · cases e
  · cases e
theorem ok_bin (hF : RelF ι F a) {o : Oper} {id : Nat} {op : BinOp} {t t' : TypeId} {x y : Operand} (ho : o.op = .binOp op t x y t') : OK P ι h w id ((execOp a.eval o).run P w) (oBin P F o op t x y) := by
  have hd : ∀ b : Bool, (boolA b).den ι (.bool b) := fun b => ⟨rfl, rfl⟩
  unfold oBin
  split
  · rename_i k m j n hx hy
    split
    · rename_i hk
      have := kindN_inj hk
      subst this
      exact ok_orLite hF fun r e => ok_int ho (one_den hF hx).1 (one_den hF hy).1 e
    · exact ok_lite0 hF
  · rename_i m n hx hy
    have hx := (one_den hF hx).1
    have hy := (one_den hF hy).1
    have hg : ∀ op, (eqGuard op t x y (a.eval x) (a.eval y)).run P w = .ok () w := fun op => run_eqGuard_off w (.inr (by rw [hx]; exact ⟨by simp, by simp⟩))
    have hb : (m.toList == n.toList) = strEq m n := bool_iff (by
      rw [strEq_iff, ByteArray.toList_eq, ByteArray.toList_eq]
      constructor
      · intro h; have h := eq_of_beq h; obtain ⟨⟨m⟩⟩ := m; obtain ⟨⟨n⟩⟩ := n; simp at h; rw [h]
      · intro h; rw [h]; exact beq_self_eq_true _)
    split
    · refine ⟨_, run_bin ho (hg _) (r := .bool (strEq m n)) ?_, hd _⟩
      rw [hx, hy, binOp_string_eql, hb]; rfl
    · refine ⟨_, run_bin ho (hg _) (r := .bool (!(strEq m n))) ?_, hd _⟩
      rw [hx, hy, binOp_string_neq, hb]; rfl
    · exact ok_lite0 hF
  · rename_i p q _ _ hp hq
    split
    · split
      · rename_i r hr
        obtain ⟨e1, e2, e3, e4⟩ := eqA_ok hr (one_den hF hp) (one_den hF hq) w
        refine ⟨_, run_bin ho (run_eqGuard_off w (.inr e2)) (r := .bool r) ?_, hd _⟩
        rw [e3, Sem.run_bind, e1]; rfl
      · exact ok_lite0 hF
    · split
      · rename_i r hr
        obtain ⟨e1, e2, e3, e4⟩ := eqA_ok hr (one_den hF hp) (one_den hF hq) w
        refine ⟨_, run_bin ho (run_eqGuard_off w (.inr e2)) (r := .bool (!r)) ?_, hd _⟩
        rw [e4, Sem.run_bind, e1]; rfl
      · exact ok_lite0 hF
    · exact ok_lite0 hF
  · exact ok_lite0 hF
theorem caps_den (hF : RelF ι F a) : ∀ {l : List Operand} {m : List (Nat × Nat)}, caps F l = some m → All2 (PtrAt ι) m (l.map a.eval)
  | [], m, e => by cases e; trivial
  | x :: l, m, e => by
    simp only [caps] at e
    split at e
    · rename_i p q hp hq
      cases e
      refine ⟨?_, caps_den hF hq⟩
      unfold toPlace at hp
      split at hp
      · rename_i b k hx
        cases hp
        exact opo_den hF hx
      · cases hp
    · cases e
theorem ok_makeFunc (hF : RelF ι F a) {o : Oper} {id : Nat} {fn : Fn} {x c : Array Operand} (ho : o.op = .makeFunc fn x c) : OK P ι h w id ((execOp a.eval o).run P w) (oMakeFunc P F o fn x c) := by
  unfold oMakeFunc
  split
  · rename_i g
    split
    · rename_i m l hm hl
      refine ⟨.func (.func g) (x.map a.eval) (c.map a.eval), ?_, (x.map a.eval).toList, (c.map a.eval).toList, rfl, by simpa using caps_den hF hm, by simpa using caps_den hF hl⟩
      simp only [execOp, ho]
      exact run_v _ w rfl
    · trivial
  · trivial
theorem ok_iface (hF : RelF ι F a) {o : Oper} {id : Nat} {t : TypeId} {x : Operand} (ho : o.op = .makeInterface t x) : OK P ι h w id ((execOp a.eval o).run P w) (oIface P F o t x) := by
  unfold oIface
  split
  · rename_i b hx
    split
    · rename_i k e hu
      obtain ⟨r, z, er, hd⟩ := one_den hF hx
      refine ⟨.iface t (.map (some r)), ?_, r, z, er, rfl⟩
      simp only [execOp, ho, hd]
      exact run_v _ w (by simp [Instr.makeInterface, run_und hu])
    · trivial
  · exact ok_lite0 hF
theorem ok_assert (hF : RelF ι F a) {o : Oper} {id : Nat} {t t' : TypeId} {x : Operand} {ok : Bool} (ho : o.op = .typeAssert x t' t ok) : OK P ι h w id ((execOp a.eval o).run P w) (oAssert P F x t ok) := by
  unfold oAssert
  split
  · rename_i u b hx
    split
    · rename_i k e hut hu
      obtain ⟨r, z, er, hd⟩ := one_den hF hx
      have := eq_beq hut
      subst this
      refine ⟨.map (some r), ?_, r, z, er, rfl⟩
      simp only [execOp, ho, hd]
      exact run_v _ w (by simp [Instr.typeAssert, run_und hu])
    · trivial
  · trivial
end Go.Proofs.YtbjddfeihhdpoaaGreatDoor
namespace Go.Proofs.YtbjddfeihhdpoaaGreatDoor
open Go
variable {P : Program} {ι : Map} {h : AH} {w : World} {F : T AT} {a : Act}

theorem bytesOf_all2 : ∀ {l : List AC} {m : List UInt8} {us : List Value}, bytesOf l = some m → All2 (AC.den ι) l us → ∃ ns : List Int, us = ns.map (Value.int .u8) ∧ m = ns.map fun n => UInt8.ofNat n.toNat
  | [], m, [], e, _ => by cases e; exact ⟨[], rfl, rfl⟩
  | [], _, _ :: _, _, hh => hh.elim
  | _ :: _, _, [], _, hh => hh.elim
  | x :: l, m, u :: us, e, hh => by
    unfold bytesOf at e
    split at e
    · rename_i heq; cases heq
    · rename_i n l' heq
      cases heq
      split at e
      · rename_i q hq
        cases e
        obtain ⟨ns, h1, h2⟩ := bytesOf_all2 hq hh.2
        exact ⟨(n : Int) :: ns, by rw [hh.1.1, h1]; rfl, by rw [h2]; simp⟩
      · cases e
    · cases e
theorem run_bytes {c : T AC} {q z r n k cap : Nat} {ty : TypeId} {m : List UInt8} (hk : (Blk.cells c q ty).ok ι z w.heap[r]?) (hn : k + n ≤ q) (e : bytesIn c n k = some m) :
    (∃ ns : List Int, (loadCells ⟨r, k, none⟩ n).run P w = .ok (ns.map (Value.int .u8)).toArray w ∧ m = ns.map fun n => UInt8.ofNat n.toNat) ∧
    (Conv.bytesToString (.slice (some ⟨r, k, none⟩) n cap)).run P w = .ok (.string ⟨⟨m⟩⟩) w := by
  unfold bytesIn at e
  split at e
  · rename_i l hl
    obtain ⟨us, h1, h2, h3⟩ := gets_cells hk hl hn
    obtain ⟨ns, rfl, rfl⟩ := bytesOf_all2 e h1
    have hld := run_loadCells_list (P := P) w ⟨r, k, none⟩ (ns.map (Value.int .u8)) (fun j v hv => by rw [Addr.add_o]; exact h3 j v hv)
    rw [h2] at hld
    refine ⟨⟨ns, hld, rfl⟩, ?_⟩
    rw [run_bytesToString w _ _ _ ns hld, foldl_push_bytes]
    simp [ByteArray.empty, ByteArray.emptyWithCapacity]
    rfl
  · cases e
theorem modify_push (A : Array Obj) (o : Obj) (f : Obj → Obj) : (A.push o).modify A.size f = A.push (f o) := by
  apply Array.ext
  · simp
  · intro i h1 h2
    simp only [Array.getElem_modify, Array.getElem_push]
    by_cases hi : i < A.size
    · simp [hi, show A.size ≠ i by omega]
    · have : i = A.size := by simp at h1; omega
      subst this; simp
theorem freeze_new (w1 : World) (b : Array Value) (e : TypeId) (cap : Nat) : ((w1.alloc (.cells b e)).freeze ⟨w1.heap.size, cap, none⟩ 1).heap = w1.heap.push (.cells b e (cap, cap + 1)) := by
  unfold World.freeze
  rw [if_neg (by decide)]
  have h := modify_push w1.heap (.cells b e) (fun | .cells c elem (lo, hi) => .cells c elem (if lo == hi then (cap, cap + 1) else (min lo cap, max hi (cap + 1))) | o => o)
  exact h
theorem calm_freeze (w : World) (a : Addr) (n : Nat) : Calm w (w.freeze a n) := by
  unfold World.freeze
  split <;> exact ⟨rfl, rfl, rfl⟩
theorem run_strBytes (e : TypeId) (s : ByteArray) (w : World) : ∃ cap w' b, s.size ≤ cap ∧ (Conv.stringToBytes e s).run P w = .ok (.slice (some ⟨w.heap.size, 0, none⟩) s.size cap) w' ∧ w'.heap = w.heap.push (.cells b e (cap, cap + 1)) ∧ Calm w w' ∧
    b = (s.data.map fun b => Value.int .u8 b.toNat) ++ Array.replicate (cap - s.size) (.int .u8 0) ∧ b.size = cap := by
  obtain ⟨cap, hcap⟩ : ∃ cap, cap = Question.cut (.appendCap s.size 0 e) (w.tape w.drawn (.appendCap s.size 0 e)) := ⟨_, rfl⟩
  obtain ⟨b, hb⟩ : ∃ b : Array Value, b = (s.data.map fun b => Value.int .u8 b.toNat) ++ Array.replicate (cap - s.size) (.int .u8 0) := ⟨_, rfl⟩
  have hle : s.size ≤ cap := by rw [hcap]; simp [Question.cut]
  have hsz : b.size = cap := by
    have : s.data.size = s.size := rfl
    rw [hb]; simp; omega
  refine ⟨cap, (w.drew.alloc (.cells b e)).freeze ⟨w.heap.size, cap, none⟩ 1, b, hle, ?_, freeze_new w.drew b e cap, calm_freeze (w.drew.alloc (.cells b e)) _ _, hb, hsz⟩
  have hsh : (w.drew.alloc (.cells b e)).shape? w.heap.size = some (e, cap) := by
    have : (w.drew.alloc (.cells b e)).heap[w.heap.size]? = some (.cells b e) := Array.getElem?_push_size
    unfold World.shape?; rw [this]; simp [hsz]
  simp only [Conv.stringToBytes, Sem.run_bind, run_choose, Question.forced, Bool.false_eq_true, if_false, Result.andThen_ok, ← hcap, World.drew_eq, newRow, Sem.run_map, run_newObj, ← hb, World.alloc_eq, World.size_drew, markStringish, Sem.run_pure, run_shape, hsh, run_freeze]
theorem seen_cells {r k : Nat} {b : Array Value} {t : TypeId} {f : Nat × Nat} (hh : w.heap[r]? = some (.cells b t f)) : (Conv.seenAt ⟨r, k, none⟩).run P w = .ok ⟨r, k, none⟩ w := by
  have hs : w.shape? r = some (t, b.size) := by simp [World.shape?, hh]
  simp [Conv.seenAt, viewAt, hs]
theorem lies_self {t : TypeId} {n : Nat} (hs : P.cellsOf t = n + 1) (c : Nat) (hc : 1 ≤ c) : liesAt P P.depth t c 0 t 1 = true := by
  have hd : P.depth = (2 * (P.types.size + Made.depth) + 1) + 1 := rfl
  rw [hd]
  unfold liesAt
  rw [Bool.or_eq_true]
  refine .inl ?_
  rw [hd]
  unfold rowAt
  simp only [hs, Nat.zero_div, Nat.zero_mod]
  rw [if_neg (by omega), Bool.or_eq_true]
  refine .inl ?_
  rw [Bool.and_eq_true, Bool.and_eq_true]
  refine ⟨⟨rfl, decide_eq_true (by omega)⟩, ?_⟩
  unfold sameLayout
  simp
theorem Rel.like {κ : Map} {h h' : AH} {w : World} (R : Rel κ h w) (ht : ∀ b, h'.t.get b = h.t.get b) (hn : h.n ≤ h'.n) : Rel κ h' w :=
  ⟨fun b k hb => R.blk b k (by rw [← ht]; exact hb), fun b c k j r y z hb hc => R.inj b c k j r y z (by rw [← ht]; exact hb) (by rw [← ht]; exact hc), fun b hb => R.fresh b (Nat.le_trans hn hb)⟩
theorem Trk.like {κ : Map} {h h' : AH} {r : Nat} (ht : ∀ b, h'.t.get b = h.t.get b) (hh : Trk κ h' r) : Trk κ h r := by
  obtain ⟨b, k, z, hb, e⟩ := hh
  exact ⟨b, k, z, by rw [← ht]; exact hb, e⟩
theorem Keep.like {κ κ' : Map} {h h' h'' : AH} {w w' : World} (K : Keep κ h w κ' h' w') (ht : ∀ b, h''.t.get b = h'.t.get b) (hn : h'.n ≤ h''.n) : Keep κ h w κ' h'' w' :=
  ⟨⟨K.1.1, fun r hr hn => ⟨(K.1.2 r hr hn).1, fun hh => (K.1.2 r hr hn).2 (Trk.like ht hh)⟩⟩, Nat.le_trans K.2.1 hn, K.2.2⟩
theorem freeze_ok (R : Rel ι h w) {b r z : Nat} {c : T AC} {n : Nat} {t : TypeId} (hb : h.t.get b = some (.cells c n t)) (er : ι b = some (r, z)) (lo len : Nat) :
    ∃ q : Array Value, (∃ f, w.heap[r]? = some (.cells q t f)) ∧ q.size = z ∧ Rel ι h (w.freeze ⟨r, q.size, none⟩ 1) ∧ Keep ι h w ι h (w.freeze ⟨r, q.size, none⟩ 1) := by
  obtain ⟨r', z', er', hk⟩ := R.blk b _ hb
  rw [er] at er'; cases er'
  obtain ⟨q, f, hh, hz, hn, hf, hc⟩ := hk
  have hsz : (w.freeze ⟨r, q.size, none⟩ 1).heap.size = w.heap.size := by
    unfold World.freeze
    rw [if_neg (by decide)]
    simp
  have hat : ∀ p, (w.freeze ⟨r, q.size, none⟩ 1).heap[p]? = if r = p then (w.heap[p]?).map (fun | .cells c elem (lo, hi) => .cells c elem (if lo == hi then (q.size, q.size + 1) else (min lo q.size, max hi (q.size + 1))) | o => o) else w.heap[p]? := fun p => by
    unfold World.freeze
    rw [if_neg (by decide)]
    exact Array.getElem?_modify
  have hput := R.put (w' := w.freeze ⟨r, q.size, none⟩ 1) (k' := .cells c n t) hb er (by
    rw [hat r, if_pos rfl, hh]
    obtain ⟨f1, f2⟩ := f
    refine ⟨q, _, rfl, hz, hn, ?_, hc⟩
    rcases hf with hf | hf
    · have : f1 = f2 := hf
      subst this
      simp only [beq_self_eq_true, if_true]
      exact .inr (by omega)
    · have hf : z ≤ f1 := hf
      split
      · exact .inr (by simp; omega)
      · exact .inr (by simp; omega)) (fun p hp => by rw [hat p, if_neg (fun e => hp e.symm)]) hsz
  have hsame : ∀ d, h.t.get d = (h.t.set b (.cells c n t)).get d := fun d => by
    rw [T.get_set]; split
    · rename_i e; rw [e]; exact hb
    · rfl
  exact ⟨q, ⟨f, hh⟩, hz, hput.1.like hsame (Nat.le_refl _), hput.2.like hsame (Nat.le_refl _)⟩
theorem ok_convert (R : Rel ι h w) (hF : RelF ι F a) {o : Oper} {id : Nat} {src dst : TypeId} {x : Operand} (ho : o.op = .convert src dst x) :
    OK P ι h w id ((execOp a.eval o).run P w) (oConvert P h F id o src dst x) := by
  have hrun : ∀ {u v : Value} {w' : World}, a.eval x = u → (convert src dst u).run P w = .ok v w' → (execOp a.eval o).run P w = .ok (.value v) w' := fun hu hv => by
    simp only [execOp, ho, hu]; exact run_v _ w hv
  unfold oConvert
  split
  · rename_i k n d k' hx hs hd
    refine ⟨_, hrun (one_den hF hx).1 (v := .int k' (k'.wrap n)) ?_, by rw [wrapF_eq]; exact ⟨rfl, rfl⟩⟩
    simp only [convert, Sem.run_bind, run_und hs, run_und hd, Result.andThen_ok]; rfl
  · rename_i s hx hs hd
    refine ⟨_, hrun (one_den hF hx).1 (v := .string s) ?_, ⟨rfl, rfl⟩⟩
    simp only [convert, Sem.run_bind, run_und hs, run_und hd, Result.andThen_ok]; rfl
  · rename_i b k n e hx hs hd
    split
    · rename_i c m t he hb
      split
      · rename_i q hle hq
        obtain ⟨r, z, cap, er, hu, -, -⟩ := one_den hF hx
        obtain ⟨r', z', er', hk⟩ := R.blk b _ hb
        rw [er] at er'; cases er'
        refine ⟨_, hrun hu (v := .string ⟨⟨q⟩⟩) ?_, ⟨rfl, rfl⟩⟩
        rw [run_convert_bytes_string w src dst e _ n cap (und_under hs) (und_under he) (und_under hd)]
        exact (run_bytes hk (le_ble hle) hq).2
      · trivial
    · trivial
  · rename_i s e hx hs hd
    split
    · rename_i he
      obtain ⟨cap, w', b, hle, hr, hw, hcm, hb, hsz⟩ := run_strBytes (P := P) e s w
      refine ok_newS (o := o) (us := s.data.map fun b => Value.int .u8 b.toNat) (b := b) (k := cap) (f := (cap, cap + 1)) (w' := w') ?_ hle (by omega) ?_ ?_ (.inr (by omega)) (hrun (one_den hF hx).1 ?_) hw hcm
      · have : ∀ l : List UInt8, All2 (AC.den ι) (l.map fun b => .v (.int .u8 b.toNat)) (l.map fun b => Value.int .u8 b.toNat) := by
          intro l
          induction l with
          | nil => trivial
          | cons a l ih => exact ⟨⟨rfl, rfl⟩, ih⟩
        simpa using this s.data.toList
      · have : s.data.size = s.size := rfl
        rw [hsz]; simp; omega
      · intro i hi
        rw [hb, Array.getElem?_append_left hi]
      · simp only [convert, Sem.run_bind, run_und hs, run_und hd, run_und he, Result.andThen_ok]
        exact hr
    · trivial
  · rename_i b k n s e e' hx hs hd
    split
    · rename_i c m t he hb
      split
      · rename_i heq
        have heq := eq_beq heq
        obtain ⟨r, z, cap, er, hu, h1, h2⟩ := one_den hF hx
        obtain ⟨q, ⟨f, hh⟩, hz, R', K'⟩ := freeze_ok R hb er 0 0
        refine ⟨ι, _, _, .inl (hrun hu (v := .slice (some ⟨r, k, none⟩) n cap) ?_), Ext.refl _, R', K', r, z, cap, er, rfl, h1, h2⟩
        have hshape : w.shape? r = some (t, q.size) := by simp [World.shape?, hh]
        simp only [convert, Sem.run_bind, run_und hs, run_und hd, run_und he, Result.andThen_ok, heq, beq_self_eq_true, markStringish, run_shape, hshape, run_freeze, Sem.run_pure]
      · trivial
    · trivial
  · rename_i b k u hx hs hd
    split
    · rename_i c n t z hb hz
      split
      · rename_i hlt
        obtain ⟨r, y, er, hu⟩ := one_den hF hx
        obtain ⟨r', z', er', hk⟩ := R.blk b _ hb
        rw [er] at er'; cases er'
        obtain ⟨q, f, hh, hz', hn, hf, hc⟩ := hk
        refine ⟨_, hrun hu (v := .pointer (some ⟨r, k, none⟩)) ?_, r, y, er, rfl⟩
        have hshape : w.shape? r = some (t, q.size) := by simp [World.shape?, hh]
        have hlt := lt_blt hlt
        simp only [convert, Sem.run_bind, run_und hs, run_und hd, Result.andThen_ok, Conv.unsafePointer, seen_cells hh, cellsIn, run_shape, hshape, Sem.run_pure, run_sz hz]
        rw [if_neg (by simp; omega)]
        rfl
      · trivial
    · trivial
  · rename_i b u hx hs hd
    split
    · rename_i c n t z hb hz
      split
      · rename_i hc
        rw [Bool.and_eq_true] at hc
        have htu := eq_beq hc.1
        have hzn := le_ble hc.2
        subst htu
        obtain ⟨r, y, er, hu⟩ := one_den hF hx
        obtain ⟨r', z', er', hk⟩ := R.blk b _ hb
        rw [er] at er'; cases er'
        obtain ⟨q, f, hh, hz', hn, hf, hcc⟩ := hk
        refine ⟨_, hrun hu (v := .pointer (some ⟨r, 0, none⟩)) ?_, r, y, er, rfl⟩
        have hshape : w.shape? r = some (t, q.size) := by simp [World.shape?, hh]
        obtain ⟨i, hi, his⟩ := szT_size hz
        have hcells : P.cellsOf t = z + 1 := by simp [Program.cellsOf, hi, his]
        have hlies := lies_self (P := P) hcells (q.size / (z + 1)) (by rw [Nat.le_div_iff_mul_le (by omega)]; omega)
        simp only [convert, Sem.run_bind, run_und hs, run_und hd, Result.andThen_ok, Conv.unsafePointer, seen_cells hh, run_sz hz, variablesAt, run_program, run_shape, hshape, hcells, hlies, Sem.run_pure]
        rfl
      · trivial
    · trivial
  · exact ok_lite0 hF
end Go.Proofs.YtbjddfeihhdpoaaGreatDoor
