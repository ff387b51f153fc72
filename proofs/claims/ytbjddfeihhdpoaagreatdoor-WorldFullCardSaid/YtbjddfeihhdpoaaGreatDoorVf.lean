import Derived.Test.YtbjddfeihhdpoaaGreatDoorVe
import Derived.RangeFuncIn
import Derived.RangeFuncRecord
import Derived.RangeFuncLeaves
set_option linter.unusedVariables false
set_option linter.unusedSimpArgs false
namespace Go.Proofs.YtbjddfeihhdpoaaGreatDoor
open Go
variable {P : Program} {ι κ : Map} {h : AH} {w : World} {F : T AT} {a : Act}

/-! blocks that are not the run's -/
theorem Rel.off {w' : World} (R : Rel ι h w) (hs : ∀ r, Trk ι h r → w'.heap[r]? = w.heap[r]?) : Rel ι h w' :=
  ⟨fun b k hb => let ⟨r, z, e, hk⟩ := R.blk b k hb; ⟨r, z, e, by rw [hs r ⟨b, k, z, hb, e⟩]; exact hk⟩, R.inj, R.fresh⟩
theorem Rel.trk_lt (R : Rel ι h w) {r : Nat} (ht : Trk ι h r) : r < w.heap.size := by
  obtain ⟨b, k, z, hb, e⟩ := ht
  obtain ⟨r', z', e', hk⟩ := R.blk b k hb
  rw [e] at e'; cases e'
  exact hk.some
theorem alloc_old (w : World) (o : Obj) {r : Nat} (hr : r < w.heap.size) : (w.alloc o).heap[r]? = w.heap[r]? := by
  simp only [World.alloc, Array.getElem?_push]; rw [if_neg (by omega)]
theorem Rel.more (R : Rel ι h w) (o : Obj) : Rel ι h (w.alloc o) := R.off fun r ht => alloc_old w o (R.trk_lt ht)
theorem Keep.more (R : Rel ι h w) (o : Obj) : Keep ι h w ι h (w.alloc o) := ⟨⟨by rw [World.size_alloc]; omega, fun r hr hn => ⟨alloc_old w o hr, hn⟩⟩, Nat.le_refl _, fun _ _ => rfl, ⟨rfl, rfl, rfl⟩⟩
/-- a number for a block that is not the run's -/
theorem Rel.named (R : Rel ι h w) (r z : Nat) : Rel (ι.add h.n r z) ⟨h.t, h.n + 1⟩ w ∧ Keep ι h w (ι.add h.n r z) ⟨h.t, h.n + 1⟩ w := by
  have hf := R.fresh h.n (Nat.le_refl _)
  have hx := Map.add_ext (r := r) (z := z) hf
  have hne : ∀ b k, h.t.get b = some k → b ≠ h.n := fun b k hb e => by
    obtain ⟨q, y, e1, _⟩ := R.blk b k hb
    rw [e, hf] at e1; cases e1
  have hold : ∀ b, b ≠ h.n → ι.add h.n r z b = ι b := fun b hb => if_neg hb
  refine ⟨⟨fun b k hb => ?_, fun b c k j q y y' hb hc eb ec => ?_, fun b hb => ?_⟩, ⟨Nat.le_refl _, fun q hq hn => ⟨rfl, fun ⟨b, k, y, hb, eb⟩ => hn ⟨b, k, y, hb, by rw [← hold b (hne b k hb)]; exact eb⟩⟩⟩, Nat.le_succ _, fun b hb => hold b (by omega), .refl _⟩
  · obtain ⟨q, y, e, hk⟩ := R.blk b k hb
    exact ⟨q, y, hx _ _ e, hk.ext hx⟩
  · rw [hold b (hne b k hb)] at eb
    rw [hold c (hne c j hc)] at ec
    exact R.inj b c k j q y y' hb hc eb ec
  · have hb : h.n + 1 ≤ b := hb
    rw [hold b (by omega)]
    exact R.fresh b (by omega)
/-- a loop's record -/
def Bg (l : Nat) (rec : Loop) (ι : Map) (h : AH) (w : World) : Prop := w.heap[l]? = some (.loop rec) ∧ ¬ Trk ι h l
theorem Bg.keep {l : Nat} {rec : Loop} {h' : AH} {w' : World} (b : Bg l rec ι h w) (K : Keep ι h w κ h' w') : Bg l rec κ h' w' := by
  have hl : l < w.heap.size := (Array.getElem?_eq_some_iff.1 b.1).1
  obtain ⟨h1, h2⟩ := K.1.2 l hl b.2
  exact ⟨h1.trans b.1, h2⟩
theorem putObj_at {w : World} {l : Nat} {o : Obj} (hl : l < w.heap.size) : (w.putObj l o).heap[l]? = some o := World.putObj_heap_same hl
theorem putObj_ne {w : World} {l r : Nat} {o : Obj} (hr : r ≠ l) : (w.putObj l o).heap[r]? = w.heap[r]? := World.putObj_heap_other hr
theorem putObj_size (w : World) (l : Nat) (o : Obj) : (w.putObj l o).heap.size = w.heap.size := by simp [World.putObj]
theorem Rel.putOff (R : Rel ι h w) {l : Nat} (hn : ¬ Trk ι h l) (o : Obj) : Rel ι h (w.putObj l o) := R.off fun r ht => putObj_ne fun e => hn (e ▸ ht)
/-- one round: the body comes to its end -/
theorem round_ok {code : Coder} (hC : CodeOk P code) {rec : Loop} {l n N M : Nat} {h1 h2 : AH} {F1 F2 : T AT} {tmps : Array Value} (hst : rec.state = .ready) (hpe : rec.pending = none) (R : Rel ι h w) (B : Bg l rec ι h w)
    (hF : RelF ι F { tmps := tmps, defers := [] }) (hsz : tmps.size = M) (hN : N ≤ M) (hd1 : dstOk N rec.assign = true) (hd2 : dstOk N rec.body = true) {x : EX} (e1 : code rec.assign F h = some (.normal, F1, h1)) (e2 : code rec.body F1 h1 = some (.normal, F2, h2)) :
    RoundIn Fence.wide n P l rec.fn tmps rec.assign rec.body w (fun e w' => ∃ κ, e = .returned (.bool true) ∧ Ext ι κ ∧ Rel κ h2 w' ∧ Keep ι h w κ h2 w') := by
  refine roundIn_of_wpIn (F := Fence.wide) trivial ?_
  refine hC (Fence.wide.inRound l) n _ N M [] rec.assign .normal F F1 h h1 ι _ w (wide_round P l) R ⟨hF, hsz, rfl⟩ hd1 hN e1 ?_
  intro κ a1 w1 hE1 R1 K1 r1
  have B1 := B.keep K1
  have hl1 : l < w1.heap.size := (Array.getElem?_eq_some_iff.1 B1.1).1
  refine ⟨_, run_beginRound B1.1 hst, ?_⟩
  refine hC (Fence.wide.inRound l) n _ N M [] rec.body .normal F1 F2 h1 h2 κ a1 _ (wide_round P l) (R1.putOff B1.2 _) r1 hd2 hN e2 ?_
  intro μ a2 w3 hE2 R3 K3 r3
  have B3 : Bg l { rec with state := .busy } μ h2 w3 := Bg.keep ⟨putObj_at hl1, B1.2⟩ K3
  have hl3 : l < w3.heap.size := (Array.getElem?_eq_some_iff.1 B3.1).1
  have hsz13 : w1.heap.size ≤ w3.heap.size := by have := K3.1.1; rwa [putObj_size] at this
  have hrec : ({ { rec with state := .busy } with state := if (none : Option Code).isNone then .ready else .done, pending := none } : Loop) = rec := by
    obtain ⟨st, pe, fn, tm, pa, as, bo, de⟩ := rec
    simp only at hst hpe
    subst hst; subst hpe; rfl
  refine ⟨_, _, run_endRound none B3.1, μ, rfl, hE1.trans hE2, R3.putOff B3.2 _, ?_⟩
  rw [hrec]
  refine K1.trans ⟨⟨by rw [putObj_size]; exact hsz13, fun r hr hn => ?_⟩, K3.2.1, K3.2.2.1, K3.2.2.2⟩
  by_cases e : r = l
  · subst e
    exact ⟨by rw [putObj_at hl3, B1.1], B3.2⟩
  · rw [putObj_ne e]
    obtain ⟨g1, g2⟩ := K3.1.2 r (by rw [putObj_size]; exact hr) hn
    exact ⟨by rw [g1, putObj_ne e], g2⟩

/-! the closure that slices.Backward hands back -/
structure Back4 where
  r0 : Code
  i : Nat
  r1 : Code
  t8 : Operand
  i' : Nat
  j : Nat
  k : Nat
  ops : Array Oper
  t18 : Operand
  r2 : Code
def Back4.code (q : Back4) : Code := .seq q.r0 (.block q.i (.loop (.seq (.seq q.r1 (.cond q.t8 .skip (.exit q.i'))) (.seq (.block q.j (.seq (.region q.k q.ops false) (.cond q.t18 .ret .skip))) q.r2))))
def backOf : Code → Option Back4
  | .seq r0 (.block i (.loop (.seq (.seq r1 (.cond t8 .skip (.exit i'))) (.seq (.block j (.seq (.region k ops false) (.cond t18 .ret .skip))) r2)))) => some ⟨r0, i, r1, t8, i', j, k, ops, t18, r2⟩
  | _ => none
theorem backOf_eq {c : Code} {q : Back4} (e : backOf c = some q) : c = q.code := by
  unfold backOf at e
  split at e
  · cases e; rfl
  · cases e
/-- the operations of a round: six, the call of yield, one -/
structure Ops4 where
  pre : List Oper
  y : Oper
  f : Operand
  x0 : Operand
  x1 : Operand
  ts : Array TypeId
  nop : Oper
def yOf (y : Oper) : Option (Operand × Operand × Operand × Array TypeId) := match y.op, y.guard with
  | .call ⟨.value f, ⟨[x0, x1]⟩, ts⟩, none => some (f, x0, x1, ts)
  | _, _ => none
def opsOf : List Oper → Option Ops4
  | [o0, o1, o2, o3, o4, o5, y, nop] => match yOf y with
    | some (f, x0, x1, ts) => some ⟨[o0, o1, o2, o3, o4, o5], y, f, x0, x1, ts, nop⟩
    | none => none
  | _ => none
theorem opsOf_eq {l : List Oper} {q : Ops4} (e : opsOf l = some q) : l = q.pre ++ (q.y :: [q.nop]) ∧ q.y.op = .call ⟨.value q.f, #[q.x0, q.x1], q.ts⟩ ∧ q.y.guard = none := by
  unfold opsOf at e
  split at e
  · rename_i o0 o1 o2 o3 o4 o5 y nop
    split at e
    · rename_i f x0 x1 ts hy
      cases e
      unfold yOf at hy
      split at hy
      · rename_i h1 h2; cases hy; exact ⟨rfl, h1, h2⟩
      · cases hy
    · cases e
  · cases e
abbrev RoundF := AT → AT → AH → Option AH
noncomputable def yieldA (F : T AT) (h : AH) (round : RoundF) (Y : Nat) (q : Ops4) : Option AH := match one F q.f, opd F q.x0, opd F q.x1 with
  | some (.y b), some u, some v => match Nat.beq b Y with
    | true => round u v h
    | false => none
  | _, _, _ => none
noncomputable def backStep (P : Program) (call : Caller) (round : RoundF) (Y : Nat) (b : Back4) (q : Ops4) (F : T AT) (h : AH) : Option (T AT × AH) := match evList P call b.ops q.pre F h with
  | some (F1, h1) => match yieldA F1 h1 round Y q with
    | some h2 => match evList P call b.ops [q.nop] (setDst F1 q.y.dst (boolA true)) h2 with
      | some (F3, h3) => match one F3 b.t18 with
        | some (.v (.bool false)) => some (F3, h3)
        | _ => none
      | none => none
    | none => none
  | none => none
noncomputable def backLoop (P : Program) (code : Coder) (call : Caller) (round : RoundF) (Y : Nat) (b : Back4) (q : Ops4) (m : Nat) : T AT → AH → Option AH :=
  Nat.rec (motive := fun _ => T AT → AH → Option AH) (fun _ _ => none) (fun _ ih F h => match code b.r1 F h with
    | some (.normal, F1, h1) => match one F1 b.t8 with
      | some (.v (.bool false)) => some h1
      | some (.v (.bool true)) => match backStep P call round Y b q F1 h1 with
        | some (F2, h2) => match code b.r2 F2 h2 with
          | some (.normal, F3, h3) => ih F3 h3
          | _ => none
        | none => none
      | _ => none
    | _ => none) m
noncomputable def backAll (P : Program) (code : Coder) (call : Caller) (round : RoundF) (Y m : Nat) (b : Back4) (q : Ops4) (F : T AT) (h : AH) : Option AH := match code b.r0 F h with
  | some (.normal, F1, h1) => match Nat.beq b.i b.i' with
    | true => backLoop P code call round Y b q m F1 h1
    | false => none
  | _ => none
/-- what a round does, of the loop's record -/
def RoundOk (P : Program) (ι0 : Map) (round : RoundF) (Y l : Nat) (rec : Loop) : Prop := ∀ n ι h w u v x y h', Ext ι0 ι → Rel ι h w → Bg l rec ι h w → u.den ι x → v.den ι y → round u v h = some h' →
  RoundIn Fence.wide n P l rec.fn ((rec.params.zip #[x, y]).foldl (fun t (p, v) => t.setIfInBounds p v) rec.tmps) rec.assign rec.body w (fun e w' => ∃ κ, e = .returned (.bool true) ∧ Ext ι κ ∧ Rel κ h' w' ∧ Keep ι h w κ h' w')
/-- the state within the closure: the frame, the heap, the record, its number -/
structure BS (ι0 : Map) (Y l : Nat) (rec : Loop) (M : Nat) (ι : Map) (F : T AT) (h : AH) (a : Act) (w : World) : Prop where
  ext : Ext ι0 ι
  rel : Rel ι h w
  frm : RA ι F M [] a
  bg : Bg l rec ι h w
  num : ∃ z, ι Y = some (l, z)
theorem BS.go {ι0 : Map} {Y l M : Nat} {rec : Loop} {F' : T AT} {h' : AH} {a' : Act} {w' : World} (s : BS ι0 Y l rec M ι F h a w) (hE : Ext ι κ) (R : Rel κ h' w') (K : Keep ι h w κ h' w') (r : RA κ F' M [] a') : BS ι0 Y l rec M κ F' h' a' w' :=
  ⟨s.ext.trans hE, R, r, s.bg.keep K, let ⟨z, e⟩ := s.num; ⟨z, hE _ _ e⟩⟩
/-- the call of yield -/
theorem yield_step {ι0 : Map} {round : RoundF} {Y l M n : Nat} {rec : Loop} {q : Ops4} {h' : AH} {K : Act → World → Prop} {Q : Exit → Act → World → Prop} (hR : RoundOk P ι0 round Y l rec) (hp2 : rec.params.size = 2) (ho : q.y.op = .call ⟨.value q.f, #[q.x0, q.x1], q.ts⟩)
    (s : BS ι0 Y l rec M ι F h a w) (e : yieldA F h round Y q = some h') (hd : ∀ k, q.y.dst = some k → k < M)
    (hK : ∀ κ w', Ext ι κ → Rel κ h' w' → Keep ι h w κ h' w' → RA κ (setDst F q.y.dst (boolA true)) M [] (a.put q.y.dst (.bool true)) → K (a.put q.y.dst (.bool true)) w') :
    q.y.wpIn Fence.wide n P a w K Q := by
  unfold yieldA at e
  split at e
  · rename_i b u v hf h0 h1
    split at e
    · rename_i hb
      have hb := eq_beq hb
      subst hb
      obtain ⟨r, z, er, hv⟩ := one_den s.frm.frm hf
      obtain ⟨z', el⟩ := s.num
      rw [er] at el; cases el
      have hu := opd_den s.frm.frm h0
      have hw := opd_den s.frm.frm h1
      refine ⟨fun f _ => trivial, ?_⟩
      have hs : q.y.semAt Fence.wide.round a.eval = execOp a.eval q.y := Oper.semAt_eq _ _ _ fun c hc => by rw [ho] at hc; cases hc
      have hrun : (execOp a.eval q.y).run P w = (Instr.yield l #[a.eval q.x0, a.eval q.x1]).run P w := by simp [execOp, ho, resolve, hv, Deferred.ofValue, invoke]
      rw [hs, hrun, run_yield s.bg.1 (by simp [hp2])]
      refine ⟨fun hdp => by (cases hdp), (hR (n - 1) ι h w u v _ _ h' s.ext s.rel s.bg hu hw e).mono fun en w' hen => ?_⟩
      obtain ⟨κ, rfl, hE, R', K'⟩ := hen
      exact hK κ w' hE R' K' ((s.frm.ext hE).put _ ⟨rfl, rfl⟩ hd)
    · cases e
  · cases e
end Go.Proofs.YtbjddfeihhdpoaaGreatDoor
namespace Go.Proofs.YtbjddfeihhdpoaaGreatDoor
open Go
variable {P : Program} {ι κ : Map} {h : AH} {w : World} {F : T AT} {a : Act}

theorem wanted_none {o : Oper} (hg : o.guard = none) (y : Nat → Option Bool) : Region.wanted o y = true := by unfold Region.wanted; rw [hg]
theorem backStep_ok {ι0 : Map} {code : Coder} {call : Caller} {round : RoundF} {Y l N M n : Nat} {rec : Loop} {b : Back4} {q : Ops4} {F' : T AT} {h' : AH} {Q : Exit → Act → World → Prop} (hp : Prg P) (hc : CallOk P call) (hR : RoundOk P ι0 round Y l rec) (hp2 : rec.params.size = 2)
    (hq : opsOf b.ops.toList = some q) (hd : b.ops.toList.all (dstO N) = true) (hN : N ≤ M) (s : BS ι0 Y l rec M ι F h a w) (e : backStep P call round Y b q F h = some (F', h'))
    (hK : ∀ κ a' w', Ext ι κ → Keep ι h w κ h' w' → BS ι0 Y l rec M κ F' h' a' w' → Q .normal a' w') : (Code.seq (.region b.k b.ops false) (.cond b.t18 .ret .skip)).wpIn Fence.wide n P Q a w := by
  obtain ⟨hl, ho, hg⟩ := opsOf_eq hq
  have hdo := dst_ops hd hN
  rw [hl] at hdo
  unfold backStep at e
  split at e
  · rename_i F1 h1 e1
    split at e
    · rename_i h2 e2
      split at e
      · rename_i F3 h3 e3
        split at e
        · rename_i e4
          cases e
          refine wpIn_seq (wpIn_region_list ?_)
          rw [hl]
          refine list_okR hp (wide_wide P) hc _ q.pre (fun o ho k hk => hdo o (by simp [ho]) k hk) s.rel s.frm e1 fun κ a1 w1 hE1 R1 K1 r1 => ?_
          have s1 := s.go hE1 R1 K1 r1
          unfold wpListIn
          rw [if_pos (wanted_none hg _)]
          refine yield_step hR hp2 ho s1 e2 (fun k hk => hdo q.y (by simp) k hk) fun μ w2 hE2 R2 K2 r2 => ?_
          have s2 := s1.go hE2 R2 K2 r2
          refine list_ok hp (wide_wide P) hc [q.nop] (fun o ho k hk => hdo o (by simp at ho; simp [ho]) k hk) R2 r2 e3 fun ν a3 w3 hE3 R3 K3 r3 => ?_
          have s3 := s2.go hE3 R3 K3 r3
          exact wpIn_cond_false (one_den r3.frm e4).1 (wpIn_skip (hK ν a3 w3 ((hE1.trans hE2).trans hE3) ((K1.trans K2).trans K3) s3))
        · cases e
      · cases e
    · cases e
  · cases e
theorem backLoop_ok {ι0 : Map} {code : Coder} {call : Caller} {round : RoundF} {Y l N M n : Nat} {rec : Loop} {b : Back4} {q : Ops4} {h' : AH} {Q : Exit → Act → World → Prop} (hp : Prg P) (hC : CodeOk P code) (hc : CallOk P call) (hR : RoundOk P ι0 round Y l rec) (hp2 : rec.params.size = 2)
    (hq : opsOf b.ops.toList = some q) (hd : b.ops.toList.all (dstO N) = true) (hd1 : dstOk N b.r1 = true) (hd2 : dstOk N b.r2 = true) (hN : N ≤ M) : ∀ (m : Nat) {ι : Map} {F : T AT} {h : AH} {a : Act} {w : World}, BS ι0 Y l rec M ι F h a w →
      backLoop P code call round Y b q m F h = some h' → (∀ κ a' w', Ext ι κ → Rel κ h' w' → Keep ι h w κ h' w' → a'.defers = [] → Q (.exit b.i') a' w') →
      Code.roundsIn Fence.wide n P (.seq (.seq b.r1 (.cond b.t8 .skip (.exit b.i'))) (.seq (.block b.j (.seq (.region b.k b.ops false) (.cond b.t18 .ret .skip))) b.r2)) Q m a w
  | 0, ι, F, h, a, w, s, e, hK => by cases e
  | m + 1, ι, F, h, a, w, s, e, hK => by
    have e : (match code b.r1 F h with
      | some (.normal, F1, h1) => match one F1 b.t8 with
        | some (.v (.bool false)) => some h1
        | some (.v (.bool true)) => match backStep P call round Y b q F1 h1 with
          | some (F2, h2) => match code b.r2 F2 h2 with
            | some (.normal, F3, h3) => backLoop P code call round Y b q m F3 h3
            | _ => none
          | none => none
        | _ => none
      | _ => none) = some h' := e
    rw [roundsIn_succ]
    split at e
    · rename_i F1 h1 e1
      refine wpIn_seq (wpIn_seq ?_)
      refine hC Fence.wide n _ N M [] b.r1 .normal F F1 h h1 ι a w (wide_wide P) s.rel s.frm hd1 hN e1 fun κ a1 w1 hE1 R1 K1 r1 => ?_
      have s1 := s.go hE1 R1 K1 r1
      split at e
      · rename_i e2
        cases e
        exact wpIn_cond_false (one_den r1.frm e2).1 (wpIn_exit (hK κ a1 w1 hE1 R1 K1 r1.defs))
      · rename_i e2
        refine wpIn_cond_true (one_den r1.frm e2).1 (wpIn_skip ?_)
        split at e
        · rename_i F2 h2 e3
          refine wpIn_seq (wpIn_block ?_)
          refine backStep_ok (code := code) hp hc hR hp2 hq hd hN s1 e3 fun μ a2 w2 hE2 K2 s2 => ?_
          split at e
          · rename_i F3 h3 e4
            refine hC Fence.wide n _ N M [] b.r2 .normal F2 F3 h2 h3 μ a2 w2 (wide_wide P) s2.rel s2.frm hd2 hN e4 fun ν a3 w3 hE3 R3 K3 r3 => ?_
            exact backLoop_ok hp hC hc hR hp2 hq hd hd1 hd2 hN m (s2.go hE3 R3 K3 r3) e fun ξ a4 w4 hE4 R4 K4 d4 =>
              hK ξ a4 w4 (((hE1.trans hE2).trans hE3).trans hE4) R4 (((K1.trans K2).trans K3).trans K4) d4
          · cases e
        · cases e
      · cases e
    · cases e
theorem bind_rel {args : List AT} {vs : Array Value} (k : Nat) (hl : All2 (AT.den ι) args vs.toList) : RelF ι (bindArgs args 0 .e) { tmps := vs ++ Array.replicate k undef, defers := [] } := by
  intro t x e
  rcases bindArgs_get args 0 .e (fun t x e => by rw [T.get_e] at e; cases e) t x e with e1 | ⟨j, rfl, e1⟩
  · rw [T.get_e] at e1; cases e1
  · obtain ⟨u, hu, hd⟩ := All2.get j hl e1
    refine ⟨u, ?_, hd⟩
    rw [Nat.zero_add]
    have hu : vs[j]? = some u := by simpa using hu
    have hj : j < vs.size := by
      rcases Nat.lt_or_ge j vs.size with hj | hj
      · exact hj
      · rw [Array.getElem?_eq_none hj] at hu; cases hu
    simp [Array.getElem?_append, hj, hu]
    simpa [hj] using hu
/-- a call of the closure -/
theorem back_ok {ι0 : Map} {code : Coder} {call : Caller} {round : RoundF} {Y l n m gf : Nat} {rec : Loop} {b : Back4} {q : Ops4} {fn : Func} {c : Code} {args : List AT} {vs : Array Value} {h' : AH} (hp : Prg P) (hC : CodeOk P code) (hc : CallOk P call) (hR : RoundOk P ι0 round Y l rec) (hp2 : rec.params.size = 2)
    (hfn : P.funcs[gf]? = some fn) (hb : fn.body = some c) (hbk : backOf c = some b) (hq : opsOf b.ops.toList = some q) (hD : dstOk fn.ntmps c = true) (hres : fn.results = #[]) (hargs : All2 (AT.den ι) args vs.toList) (R : Rel ι h w) (B : Bg l rec ι h w) (hY : ∃ z, ι Y = some (l, z)) (hX : Ext ι0 ι)
    (e : backAll P code call round Y m b q (bindArgs args 0 .e) h = some h') :
    CallsIn Fence.wide n P gf vs w (fun e w' => e = .returned (.tuple #[]) ∧ ∃ κ, Ext ι κ ∧ Rel κ h' w' ∧ Keep ι h w κ h' w') := by
  have hc' := backOf_eq hbk
  subst hc'
  refine callsIn_of_wp hfn hb trivial ?_
  have hD' : (dstOk fn.ntmps b.r0 && ((dstOk fn.ntmps b.r1 && (true && true)) && (((b.ops.toList.all (dstO fn.ntmps) && fitR false (fitB b.ops)) && (true && true)) && dstOk fn.ntmps b.r2))) = true := hD
  simp only [Bool.and_eq_true] at hD'
  obtain ⟨d0, ⟨d1, _⟩, ⟨⟨d3, _⟩, _⟩, d2⟩ := hD'
  unfold backAll at e
  split at e
  · rename_i F1 h1 e1
    split at e
    · rename_i hi
      have hi := eq_beq hi
      refine wpIn_seq ?_
      refine hC Fence.wide n _ fn.ntmps (vs.size + (fn.ntmps - vs.size)) [] b.r0 .normal _ F1 h h1 ι _ w (wide_wide P) R ⟨bind_rel _ hargs, by simp, rfl⟩ d0 (by omega) e1 fun κ a1 w1 hE1 R1 K1 r1 => ?_
      have s1 : BS ι0 Y l rec (vs.size + (fn.ntmps - vs.size)) κ F1 h1 a1 w1 := ⟨hX.trans hE1, R1, r1, B.keep K1, let ⟨z, e⟩ := hY; ⟨z, hE1 _ _ e⟩⟩
      refine wpIn_block (wpIn_loop_rounds m ?_)
      refine backLoop_ok hp hC hc hR hp2 hq d3 d1 d2 (by omega) m s1 e fun μ a2 w2 hE2 R2 K2 dd => ?_
      show (if b.i' = b.i then _ else _)
      rw [if_pos hi.symm]
      refine ⟨dd, .tuple #[], ?_, rfl, μ, hE1.trans hE2, R2, K1.trans K2⟩
      simp [results, hres]
    · cases e
  · cases e
end Go.Proofs.YtbjddfeihhdpoaaGreatDoor
namespace Go.Proofs.YtbjddfeihhdpoaaGreatDoor
open Go
variable {P : Program} {ι κ : Map} {h : AH} {w : World} {F : T AT} {a : Act}

noncomputable def roundA (code : Coder) (F : T AT) (p0 p1 : Tmp) (assign body : Code) : RoundF := fun u v h => match code assign ((F.set p0 u).set p1 v) h with
  | some (.normal, F1, h1) => match code body F1 h1 with
    | some (.normal, _, h2) => some h2
    | _ => none
  | _ => none
noncomputable def evRange (P : Program) (code : Coder) (call : Caller) (m : Nat) (g : Operand) (ps : List Tmp) (assign body : Code) (F : T AT) (h : AH) : Option (EX × T AT × AH) := match one F g, ps with
  | some (.f gf [] [(x, o)]), [p0, p1] => match (fnT P).get gf with
    | some fn => match fn.body, fn.results with
      | some c, ⟨[]⟩ => match backOf c with
        | some b => match opsOf b.ops.toList with
          | some q => match backAll P code call (roundA code F p0 p1 assign body) h.n m b q (bindArgs [.o (.c (.y h.n)), .o (.c (.p x o))] 0 .e) ⟨h.t, h.n + 1⟩ with
            | some h' => some (.normal, F, h')
            | none => none
          | none => none
        | none => none
      | _, _ => none
    | none => none
  | _, _ => none
theorem roundA_ok {code : Coder} (hC : CodeOk P code) {N M : Nat} {ι0 : Map} {p0 p1 : Tmp} {Y l : Nat} {rec : Loop} (hst : rec.state = .ready) (hpe : rec.pending = none) (hps : rec.params = #[p0, p1]) (hF : RelF ι0 F { tmps := rec.tmps, defers := [] }) (hsz : rec.tmps.size = M) (hN : N ≤ M)
    (h0 : p0 < N) (h1 : p1 < N) (hd1 : dstOk N rec.assign = true) (hd2 : dstOk N rec.body = true) : RoundOk P ι0 (roundA code F p0 p1 rec.assign rec.body) Y l rec := by
  intro n ι h w u v x y h' hX R B hu hv e
  unfold roundA at e
  split at e
  · rename_i F1 g1 e1
    split at e
    · rename_i F2 g2 e2
      cases e
      have hF' := ((hF.ext hX).put (x := u) (u := x) (some p0) hu (fun k hk => by have : p0 = k := (by injection hk); show k < rec.tmps.size; rw [hsz, ← this]; exact Nat.lt_of_lt_of_le h0 hN)).put (x := v) (u := y) (some p1) hv (fun k hk => by have : p1 = k := (by injection hk); rw [put_size]; show k < rec.tmps.size; rw [hsz, ← this]; exact Nat.lt_of_lt_of_le h1 hN)
      rw [hps]
      have hF' : RelF ι ((F.set p0 u).set p1 v) { tmps := (#[p0, p1].zip #[x, y]).foldl (fun t (p, v) => t.setIfInBounds p v) rec.tmps, defers := [] } := by simpa [Act.put, setDst] using hF'
      exact round_ok (N := N) (M := M) (x := .normal) hC hst hpe R B hF' (by simp [hsz]) hN hd1 hd2 e1 e2
    · cases e
  · cases e
/-- the statement -/
theorem range_ok {code : Coder} {call : Caller} {n m N M : Nat} {g : Operand} {ps : Array Tmp} {assign body : Code} {Q : Exit → Act → World → Prop} {x : EX} {F' : T AT} {h' : AH} (hp : Prg P) (hD : DstOk P) (hC : CodeOk P code) (hc : CallOk P call)
    (R : Rel ι h w) (hF : RelF ι F a) (hsz : a.tmps.size = M) (hN : N ≤ M) (hps : ps.toList.all (fun p => Nat.blt p N) = true) (hd1 : dstOk N assign = true) (hd2 : dstOk N body = true) (e : evRange P code call m g ps.toList assign body F h = some (x, F', h'))
    (hK : ∀ κ w', x = .normal → F' = F → Ext ι κ → Rel κ h' w' → Keep ι h w κ h' w' → w'.heap[w.heap.size]? = some (.deferred (some [])) → ¬ Trk κ h' w.heap.size → Q .normal { a with defers := { target := .collected w.heap.size, args := #[] } :: a.defers } w') :
    (Code.rangeFunc g ps assign body).wpIn Fence.wide n P Q a w := by
  unfold evRange at e
  split at e
  · rename_i gf x0 o p0 p1 hg hpl
    split at e
    · rename_i fn hfn
      have hfn := fnT_get hfn
      split at e
      · rename_i c hb hr
        split at e
        · rename_i b hbk
          split at e
          · rename_i q hq
            split at e
            · rename_i h1 e1
              cases e
              have hpe : ps = #[p0, p1] := Array.ext' hpl
              have hpl' : ps.toList = [p0, p1] := hpl
              rw [hpl'] at hps
              simp only [List.all_cons, List.all_nil, Bool.and_true, Bool.and_eq_true] at hps
              have hp0 := lt_blt hps.1
              have hp1 := lt_blt hps.2
              obtain ⟨mm, ll, hv, hm, hl⟩ := one_den hF hg
              cases mm with
              | cons _ _ => exact hm.elim
              | nil =>
                cases ll with
                | nil => exact hl.elim
                | cons y ll =>
                  cases ll with
                  | cons _ _ => exact hl.2.elim
                  | nil =>
                    obtain ⟨hy, _⟩ := hl
                    refine wpIn_rangeFunc fun fid _ => ?_
                    obtain ⟨rec, hrec⟩ : ∃ rec : Loop, rec = { state := .ready, pending := none, fn := fid, tmps := a.tmps, params := ps, assign, body, defers := w.heap.size } := ⟨_, rfl⟩
                    obtain ⟨W1, hW1⟩ : ∃ W1, (w.alloc (.deferred (some []))).alloc (.loop rec) = W1 := ⟨_, rfl⟩
                    have hsW : W1.heap.size = w.heap.size + 2 := by rw [← hW1]; simp [World.size_alloc]
                    have hL1 : W1.heap[w.heap.size + 1]? = some (.loop rec) := by
                      rw [← hW1]; have := World.alloc_heap_new (w.alloc (.deferred (some []))) (.loop rec); rwa [World.size_alloc] at this
                    have hK1 : W1.heap[w.heap.size]? = some (.deferred (some [])) := by
                      rw [← hW1, alloc_old _ _ (by rw [World.size_alloc]; omega)]; exact World.alloc_heap_new w _
                    have Ra : Rel ι h W1 := by rw [← hW1]; exact (R.more _).more _
                    have Ka : Keep ι h w ι h W1 := by rw [← hW1]; exact (Keep.more R _).trans (Keep.more (R.more _) _)
                    obtain ⟨R1, K1⟩ := Ra.named (w.heap.size + 1) 0
                    have hX1 : Ext ι (ι.add h.n (w.heap.size + 1) 0) := Map.add_ext (R.fresh h.n (Nat.le_refl _))
                    have hnt : ∀ r, w.heap.size ≤ r → ¬ Trk (ι.add h.n (w.heap.size + 1) 0) ⟨h.t, h.n + 1⟩ r := fun r hr ht => by
                      have := (R.named (w.heap.size + 1) 0).1.trk_lt ht
                      omega
                    have B1 : Bg (w.heap.size + 1) rec (ι.add h.n (w.heap.size + 1) 0) ⟨h.t, h.n + 1⟩ W1 := ⟨hL1, hnt _ (by omega)⟩
                    have eg : ∀ args w, (callFunc gf args).run P w = .ok (.enter gf args) w := fun args w => run_callFunc hp hfn hb args w
                    have hRo : RoundOk P (ι.add h.n (w.heap.size + 1) 0) (roundA code F p0 p1 assign body) h.n (w.heap.size + 1) rec := by
                      have := roundA_ok (P := P) (F := F) (N := N) (M := M) (ι0 := ι.add h.n (w.heap.size + 1) 0) (p0 := p0) (p1 := p1) (Y := h.n) (l := w.heap.size + 1) (rec := rec) hC (by rw [hrec]) (by rw [hrec]) (by rw [hrec]; exact hpe) (by rw [hrec]; exact hF.ext hX1) (by rw [hrec]; exact hsz) hN hp0 hp1 (by rw [hrec]; exact hd1) (by rw [hrec]; exact hd2)
                      rw [hrec] at this ⊢
                      exact this
                    have hcall := back_ok (n := n - 1) (vs := #[.func (.yield (w.heap.size + 1)) #[] #[], y]) hp hC hc hRo (by rw [hrec, hpe]; rfl) hfn hb hbk hq (hD gf fn c hfn hb) hr (args := [.o (.c (.y h.n)), .o (.c (.p x0 o))]) ⟨⟨_, _, Map.add_self _ _ _ _, rfl⟩, let ⟨r, z, er, hu⟩ := hy; ⟨r, z, hX1 _ _ er, hu⟩, trivial⟩ R1 B1 ⟨_, Map.add_self _ _ _ _⟩ (.refl _) e1
                    refine ⟨w.heap.size + 1, [{ target := .collected w.heap.size, args := #[] }], W1, { target := .fn (.func gf) #[y], args := #[.func (.yield (w.heap.size + 1)) #[] #[]] }, W1, gf,
                      #[.func (.yield (w.heap.size + 1)) #[] #[], y], W1, ?_, ?_, ?_, ?_, (fun hdp => by (cases hdp)), ?_⟩
                    · rw [← hW1, hrec]; exact run_enterLoop_outer _ _ _ _ _
                    · simp only [resolve, hv]
                      simp [go_sem]
                    · intro f' hf'; trivial
                    · simp [invoke, go_sem, eg]
                    · refine hcall.mono fun en W2 hen => ?_
                      obtain ⟨rfl, κ, hE, R2, K2⟩ := hen
                      have B2 := B1.keep K2
                      refine ⟨none, _, by have := run_endLoop (P := P) B2.1 (by rw [hrec]; simp); rw [hrec] at this; exact this, ?_⟩
                      have hl2 : w.heap.size + 1 < W2.heap.size := (Array.getElem?_eq_some_iff.1 B2.1).1
                      obtain ⟨g1, g2⟩ := K2.1.2 w.heap.size (by omega) (hnt _ (Nat.le_refl _))
                      have KK := (Ka.trans K1).trans K2
                      refine hK κ _ rfl rfl (hX1.trans hE) (R2.putOff B2.2 _) ⟨⟨by rw [putObj_size]; exact KK.1.1, fun r hr hn => ⟨?_, (KK.1.2 r hr hn).2⟩⟩, KK.2⟩ ?_ g2
                      · rw [putObj_ne (by omega)]; exact (KK.1.2 r hr hn).1
                      · rw [putObj_ne (by omega), g1]; exact hK1
            · cases e
          · cases e
        · cases e
      · cases e
    · cases e
  · cases e
end Go.Proofs.YtbjddfeihhdpoaaGreatDoor
namespace Go.Proofs.YtbjddfeihhdpoaaGreatDoor
open Go
variable {P : Program} {ι κ : Map} {h : AH} {w : World} {F : T AT} {a : Act}

/-! a function that holds a range over a function -/
noncomputable def thenS (ib : T AT → AH → Option (EX × T AT × AH)) : Option (EX × T AT × AH) → Option (EX × T AT × AH)
  | some (.normal, F, h) => ib F h
  | r => r
noncomputable def evS (P : Program) (code : Coder) (call : Caller) (m : Nat) (c : Code) : T AT → AH → Option (EX × T AT × AH) := Code.rec (motive := fun _ => T AT → AH → Option (EX × T AT × AH))
  (fun F h => code .skip F h)
  (fun i ops d F h => code (.region i ops d) F h)
  (fun _ _ ia ib F h => thenS ib (ia F h))
  (fun x a b _ _ F h => code (.cond x a b) F h)
  (fun i _ ia F h => thenB i (ia F h))
  (fun a _ F h => code (.loop a) F h)
  (fun g ps as b _ _ F h => evRange P code call m g ps.toList as b F h)
  (fun i F h => code (.exit i) F h)
  (fun _ _ _ _ => none)
  (fun l F h => code (.label l) F h)
  (fun _ _ _ => none)
  (fun F h => code .ret F h)
  (fun _ _ _ => none) c
def Marks (B : Nat) (ι : Map) (h : AH) (w : World) : List Deferred → Prop
  | [] => True
  | d :: ds => (∃ k, d.target = .collected k ∧ B ≤ k ∧ w.heap[k]? = some (.deferred (some [])) ∧ ¬ Trk ι h k ∧ ∀ d' ∈ ds, d'.target ≠ .collected k) ∧ Marks B ι h w ds
theorem Marks.keep {B : Nat} {h' : AH} {w' : World} (K : Keep ι h w κ h' w') : ∀ {ds : List Deferred}, Marks B ι h w ds → Marks B κ h' w' ds
  | [], _ => trivial
  | d :: ds, ⟨⟨k, h1, h2, h3, h4, h5⟩, hm⟩ => by
    have hl : k < w.heap.size := (Array.getElem?_eq_some_iff.1 h3).1
    obtain ⟨g1, g2⟩ := K.1.2 k hl h4
    exact ⟨⟨k, h1, h2, g1.trans h3, g2, h5⟩, hm.keep K⟩
theorem Marks.lt {B : Nat} : ∀ {ds : List Deferred}, Marks B ι h w ds → ∀ d ∈ ds, ∀ k, d.target = .collected k → k < w.heap.size
  | [], _, d, hd, _, _ => by cases hd
  | e :: ds, ⟨⟨k, h1, h2, h3, h4, h5⟩, hm⟩, d, hd, j, hj => by
    rcases List.mem_cons.1 hd with rfl | hd
    · rw [h1] at hj; cases hj; exact (Array.getElem?_eq_some_iff.1 h3).1
    · exact hm.lt d hd j hj
def SOk (P : Program) (code : Coder) (call : Caller) (n m M B : Nat) (c : Code) : Prop := ∀ (Q : Exit → Act → World → Prop) (x : EX) (F F' : T AT) (h h' : AH) (ι : Map) (a : Act) (w : World), Rel ι h w → RelF ι F a → a.tmps.size = M → Marks B ι h w a.defers → B ≤ w.heap.size → evS P code call m c F h = some (x, F', h') →
  (∀ κ a' w', Ext ι κ → Rel κ h' w' → Keep ι h w κ h' w' → RelF κ F' a' → a'.tmps.size = M → Marks B κ h' w' a'.defers → Q x.to a' w') → c.wpIn Fence.wide n P Q a w
theorem SOk.plain {code : Coder} {call : Caller} {n m N M B : Nat} {c : Code} (hC : CodeOk P code) (hd : dstOk N c = true) (hN : N ≤ M) (he : ∀ F h, evS P code call m c F h = code c F h) : SOk P code call n m M B c := by
  intro Q x F F' h h' ι a w R hF hsz hm hB e g
  rw [he] at e
  refine hC Fence.wide n Q N M a.defers c x F F' h h' ι a w (wide_wide P) R ⟨hF, hsz, rfl⟩ hd hN e fun κ a' w' hE R' K' r' => ?_
  exact g κ a' w' hE R' K' r'.frm r'.size (by rw [r'.defs]; exact hm.keep K')
theorem evS_ok {code : Coder} {call : Caller} {n m N M B : Nat} (hp : Prg P) (hD : DstOk P) (hC : CodeOk P code) (hc : CallOk P call) (hN : N ≤ M) : ∀ (c : Code), dstOk N c = true → SOk P code call n m M B c := by
  intro c
  induction c with
  | skip => exact fun hd => SOk.plain hC hd hN fun _ _ => rfl
  | region i ops d => exact fun hd => SOk.plain hC hd hN fun _ _ => rfl
  | cond x c d _ _ => exact fun hd => SOk.plain hC hd hN fun _ _ => rfl
  | loop c _ => exact fun hd => SOk.plain hC hd hN fun _ _ => rfl
  | exit i => exact fun hd => SOk.plain hC hd hN fun _ _ => rfl
  | label l => exact fun hd => SOk.plain hC hd hN fun _ _ => rfl
  | ret => exact fun hd => SOk.plain hC hd hN fun _ _ => rfl
  | scope c _ => exact fun _ _ _ _ _ _ _ _ _ _ _ _ _ _ _ e => by (cases e)
  | goto l => exact fun _ _ _ _ _ _ _ _ _ _ _ _ _ _ _ e => by (cases e)
  | refuse s => exact fun _ _ _ _ _ _ _ _ _ _ _ _ _ _ _ e => by (cases e)
  | seq c d ihc ihd =>
    intro hd
    have hd : (dstOk N c && dstOk N d) = true := hd
    rw [Bool.and_eq_true] at hd
    intro Q x F F' h h' ι a w R hF hsz hm hB e g
    have e : thenS (evS P code call m d) (evS P code call m c F h) = some (x, F', h') := e
    refine wpIn_seq ?_
    cases hx : evS P code call m c F h with
    | none => rw [hx] at e; cases e
    | some q =>
      obtain ⟨y, F1, h1⟩ := q
      rw [hx] at e
      cases y with
      | normal =>
        refine ihc hd.1 _ .normal F F1 h h1 ι a w R hF hsz hm hB hx fun κ a1 w1 hE R1 K1 f1 s1 m1 => ?_
        exact ihd hd.2 Q x F1 F' h1 h' κ a1 w1 R1 f1 s1 m1 (Nat.le_trans hB K1.1.1) e fun μ a2 w2 hE2 R2 K2 f2 s2 m2 => g μ a2 w2 (hE.trans hE2) R2 (K1.trans K2) f2 s2 m2
      | exit i => cases e; exact ihc hd.1 _ (.exit i) F _ h _ ι a w R hF hsz hm hB hx g
      | ret => cases e; exact ihc hd.1 _ .ret F _ h _ ι a w R hF hsz hm hB hx g
  | block id c ihc =>
    intro hd
    have hd : dstOk N c = true := hd
    intro Q x F F' h h' ι a w R hF hsz hm hB e g
    have e : thenB id (evS P code call m c F h) = some (x, F', h') := e
    refine wpIn_block ?_
    cases hx : evS P code call m c F h with
    | none => rw [hx] at e; cases e
    | some q =>
      obtain ⟨y, F1, h1⟩ := q
      rw [hx] at e
      refine ihc hd _ y F F1 h h1 ι a w R hF hsz hm hB hx ?_
      cases y with
      | normal => cases e; exact g
      | ret => cases e; exact g
      | exit j =>
        simp only [thenB] at e
        intro κ a1 w1 hE R1 K1 f1 s1 m1
        simp only [EX.to, Exit.inBlock]
        split at e
        · rename_i hj
          cases e
          rw [if_pos (eq_beq hj)]
          exact g κ a1 w1 hE R1 K1 f1 s1 m1
        · rename_i hj
          cases e
          rw [if_neg (fun h => by rw [h, Nat.beq_refl] at hj; cases hj)]
          exact g κ a1 w1 hE R1 K1 f1 s1 m1
  | rangeFunc g ps as b _ _ =>
    intro hd
    have hd : (ps.toList.all (fun p => Nat.blt p N) && dstOk N as && dstOk N b) = true := hd
    simp only [Bool.and_eq_true] at hd
    obtain ⟨⟨d1, d2⟩, d3⟩ := hd
    intro Q x F F' h h' ι a w R hF hsz hm hB e hK
    have e : evRange P code call m g ps.toList as b F h = some (x, F', h') := e
    refine range_ok hp hD hC hc R hF hsz hN d1 d2 d3 e fun κ w' hx hf hE R' K' h1 h2 => ?_
    subst hx; subst hf
    refine hK κ _ w' hE R' K' (fun t y ht => hF.ext hE t y ht) hsz ⟨⟨w.heap.size, rfl, hB, h1, h2, fun d hd' e => ?_⟩, hm.keep K'⟩
    exact absurd (hm.lt d hd' _ e) (Nat.lt_irrefl _)
theorem leaves_ok {ι0 : Map} {h0 h' : AH} {w0 : World} {fn : Func} {v : AT} {n B : Nat} (hv : resultsA P fn F h' = some v) (hE : Ext ι0 κ) (hF : RelF κ F a) (hB : w0.heap.size = B) : ∀ (ds : List Deferred) {w : World}, Rel κ h' w → Keep ι0 h0 w0 κ h' w → Marks B κ h' w ds →
    LeavesInM Fence.wide n P fn a.tmps (Ret ι0 h0 w0 h' v) ds .returning w
  | [], w, R, K, _ => by
    obtain ⟨u, h1, h2⟩ := resultsA_ok R hF hv
    exact ⟨u, h1, κ, hE, R, K, h2⟩
  | d :: ds, w, R, K, ⟨⟨k, h1, h2, h3, h4, h5⟩, hm⟩ => by
    refine ⟨fun e => by (cases e), .inl ⟨k, _, h1, run_takeDeferred h3, leaves_ok hv hE hF hB ds (R.putOff h4 _) ⟨⟨by rw [putObj_size]; exact K.1.1, fun r hr hn => ⟨?_, (K.1.2 r hr hn).2⟩⟩, K.2⟩ ?_⟩⟩
    · rw [putObj_ne (by omega)]; exact (K.1.2 r hr hn).1
    · clear hv
      induction ds with
      | nil => trivial
      | cons d' ds ih =>
        obtain ⟨⟨k', g1, g2, g3, g4, g5⟩, gm⟩ := hm
        refine ⟨⟨k', g1, g2, ?_, g4, g5⟩, ih (fun d'' hd'' => h5 d'' (List.mem_cons_of_mem _ hd'')) gm⟩
        rw [putObj_ne fun e => h5 d' (List.mem_cons_self ..) (by rw [g1, e])]; exact g3
noncomputable def evFnS (P : Program) (code : Coder) (call : Caller) (m : Nat) (f : FuncId) (args : List AT) (h : AH) : Option (AH × AT) := match (fnT P).get f with
  | some fn => match fn.body with
    | some c => leaveA P fn (evS P code call m c (bindArgs args 0 .e) h)
    | none => none
  | none => none
theorem evFnS_ok {code : Coder} {call : Caller} {m : Nat} {f : FuncId} (hp : Prg P) (hD : DstOk P) (hC : CodeOk P code) (hc : CallOk P call) : CallOk P (fun f' l h => if f' = f then evFnS P code call m f l h else none) := by
  intro f' l h h' v e ι w args R hl
  have e : (if f' = f then evFnS P code call m f l h else none) = some (h', v) := e
  by_cases hf : f' = f
  · subst hf
    rw [if_pos rfl] at e
    unfold evFnS at e
    split at e
    · rename_i fn hfn
      have hfn := fnT_get hfn
      split at e
      · rename_i c hb
        cases hx : evS P code call m c (bindArgs l 0 .e) h with
        | none => rw [hx] at e; cases e
        | some q =>
          obtain ⟨x, F1, h1⟩ := q
          rw [hx] at e
          have hres : (∃ u, resultsA P fn F1 h1 = some u ∧ h' = h1 ∧ v = u) ∧ ∀ i, x ≠ .exit i := by
            cases x with
            | exit i => cases e
            | normal =>
              simp only [leaveA] at e
              split at e
              · rename_i u hu; cases e; exact ⟨⟨_, hu, rfl, rfl⟩, fun i h => by cases h⟩
              · cases e
            | ret =>
              simp only [leaveA] at e
              split at e
              · rename_i u hu; cases e; exact ⟨⟨_, hu, rfl, rfl⟩, fun i h => by cases h⟩
              · cases e
          obtain ⟨⟨_, hres, rfl, rfl⟩, hne⟩ := hres
          refine (callsIn_wide (n := 0)).1 (callsIn_of_wp_marks hfn hb trivial ?_)
          refine evS_ok (n := 0) (m := m) (N := fn.ntmps) (M := args.size + (fn.ntmps - args.size)) (B := w.heap.size) hp hD hC hc (by omega) c (hD f' fn c hfn hb) _ x _ F1 h h' ι _ w R (bind_rel _ hl) (by simp) trivial (Nat.le_refl _) hx ?_
          intro κ a1 w1 hE R1 K1 f1 _ m1
          have := leaves_ok (n := 0) (a := a1) hres hE f1 rfl a1.defers R1 K1 m1
          cases x with
          | exit i => exact absurd rfl (hne i)
          | normal => exact this
          | ret => exact this
      · cases e
    · cases e
  · rw [if_neg hf] at e; cases e
end Go.Proofs.YtbjddfeihhdpoaaGreatDoor
