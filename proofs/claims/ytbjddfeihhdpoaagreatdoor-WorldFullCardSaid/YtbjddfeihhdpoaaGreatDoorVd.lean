import Derived.Test.YtbjddfeihhdpoaaGreatDoorVc
import Derived.TacticsIn
import Derived.LoopNIn
import Derived.Orders
set_option linter.unusedVariables false
set_option linter.unusedSimpArgs false
namespace Go.Proofs.YtbjddfeihhdpoaaGreatDoor
open Go
variable {P : Program} {ι : Map} {h : AH} {w : World} {F : T AT} {a : Act}

/-- a fence that lets all pass -/
structure Wide (P : Program) (Fe : Fence) : Prop where
  fn : ∀ f, Fe.fn f
  depth : Fe.depth = none
  calls : ∀ {f args w R}, Calls P f args w R → ∀ n, CallsIn Fe n P f args w R
theorem wide_wide (P : Program) : Wide P Fence.wide := ⟨fun _ => trivial, rfl, fun h _ => callsIn_wide.2 h⟩
theorem wide_round (P : Program) (l : Nat) : Wide P (Fence.wide.inRound l) := ⟨fun _ => trivial, rfl, fun h n => (callsIn_wide.2 h : CallsIn Fence.wide n P _ _ _ _)⟩
/-- what a call is to end in -/
def Ret (ι : Map) (h : AH) (w : World) (h' : AH) (v : AT) : Ending → World → Prop
  | .returned u, w' => ∃ κ, Ext ι κ ∧ Rel κ h' w' ∧ Keep ι h w κ h' w' ∧ v.den κ u
  | _, _ => False
def CallOk (P : Program) (call : Caller) : Prop := ∀ f l h h' v, call f l h = some (h', v) → ∀ ι w args, Rel ι h w → All2 (AT.den ι) l args.toList → Calls P f args w (Ret ι h w h' v)
/-- the frame, and what is to run -/
structure RA (ι : Map) (F : T AT) (N : Nat) (D : List Deferred) (a : Act) : Prop where
  frm : RelF ι F a
  size : a.tmps.size = N
  defs : a.defers = D
theorem RA.ext {κ : Map} {N : Nat} {D : List Deferred} (r : RA ι F N D a) (h : Ext ι κ) : RA κ F N D a := ⟨r.frm.ext h, r.size, r.defs⟩
theorem put_defers (a : Act) (d : Option Tmp) (u : Value) : (a.put d u).defers = a.defers := by cases d <;> rfl
theorem put_size (a : Act) (d : Option Tmp) (u : Value) : (a.put d u).tmps.size = a.tmps.size := by cases d <;> simp [Act.put]
theorem RA.put {N : Nat} {D : List Deferred} {x : AT} {u : Value} (r : RA ι F N D a) (d : Option Tmp) (hx : x.den ι u) (hd : ∀ k, d = some k → k < N) : RA ι (setDst F d x) N D (a.put d u) :=
  ⟨r.frm.put d hx (by rw [r.size]; exact hd), (put_size ..).trans r.size, (put_defers ..).trans r.defs⟩
/-- what is asked of what goes on -/
def Goes (ι : Map) (h : AH) (w : World) (N : Nat) (D : List Deferred) (F' : T AT) (h' : AH) (K : Act → World → Prop) : Prop :=
  ∀ κ a' w', Ext ι κ → Rel κ h' w' → Keep ι h w κ h' w' → RA κ F' N D a' → K a' w'
theorem guardV_ok {want b : Bool} {F : T AT} {ops : Array Oper} {p : Oper} {d : Tmp} {j : Nat} (hF : RelF ι F a) (hj : ops[j]? = some p) (hd : p.dst = some d) (e : guardV want (F.get d) = some b) :
    (yielded ops a.tmps j == some want) = b := by
  unfold yielded
  simp only [hj, hd, Option.bind_some]
  cases hg : F.get d with
  | none => rw [hg] at e; cases e
  | some x =>
    rw [hg] at e
    obtain ⟨u, hu, hx⟩ := hF d x hg
    rw [hu]
    unfold guardV at e
    split at e
    · rename_i h1; cases h1; cases e; obtain ⟨rfl, _⟩ := hx; cases want <;> rfl
    · rename_i h1; cases h1; cases e; obtain ⟨rfl, _⟩ := hx; cases want <;> rfl
    · rename_i h1; cases h1; cases e; obtain ⟨m, rfl, _⟩ := hx; rfl
    · cases e
theorem wantedA_ok {b : Bool} {ops : Array Oper} {o : Oper} (hF : RelF ι F a) (e : wantedA F ops o = some b) : Region.wanted o (yielded ops a.tmps) = b := by
  unfold wantedA at e
  unfold Region.wanted
  cases hg : o.guard with
  | none => rw [hg] at e; cases e; rfl
  | some q =>
    obtain ⟨j, want⟩ := q
    rw [hg] at e
    simp only at e ⊢
    split at e
    · rename_i p hp
      split at e
      · rename_i d hd; exact guardV_ok hF hp hd e
      · cases e
    · cases e
theorem undef_den (ι : Map) : (AT.t []).den ι undef := ⟨[], rfl, trivial⟩
theorem noDefer {id : Nat} {o : Oper} (e : opA P h F id o ≠ .no) : ∀ c, o.op ≠ .defer c := by
  intro c ho; apply e; simp [opA, opC, ho]
/-- one operation -/
theorem step_ok {Fe : Fence} {n : Nat} {Q : Exit → Act → World → Prop} {K : Act → World → Prop} {N : Nat} {D : List Deferred} {call : Caller} {o : Oper} {ih : RestL} {F' : T AT} {h' : AH}
    (hp : Prg P) (hw : Wide P Fe) (hc : CallOk P call) (R : Rel ι h w) (r : RA ι F N D a) (hd : ∀ k, o.dst = some k → k < N)
    (e : doL call o ih F h (opA P h F h.n o) = some (F', h'))
    (hih : ∀ κ F1 h1 a1 w1, Ext ι κ → Rel κ h1 w1 → Keep ι h w κ h1 w1 → RA κ F1 N D a1 → ih F1 h1 = some (F', h') → K a1 w1) : o.wpIn Fe n P a w K Q := by
  refine ⟨fun f _ => hw.fn f, ?_⟩
  have hok := opA_ok hp R r.frm o h.n
  generalize hr : opA P h F h.n o = res at e hok
  have hs : o.semAt Fe.round a.eval = execOp a.eval o := by
    cases res with
    | no => cases e
    | _ => exact Oper.semAt_eq _ _ _ (noDefer (by rw [hr]; exact fun h => by cases h))
  rw [hs]
  generalize hrun : (execOp a.eval o).run P w = run at hok
  cases res with
  | no => cases e
  | v x =>
    obtain ⟨u, rfl, hx⟩ := hok
    exact hih ι _ _ _ _ (.refl _) R (.refl ..) (r.put _ hx hd) e
  | m k x =>
    obtain ⟨ob, z, u, w1, rfl, hh, hcm, hk⟩ := hok
    have hf := R.fresh h.n (Nat.le_refl _)
    obtain ⟨hk, hx⟩ := hk hf
    obtain ⟨R1, K1⟩ := R.alloc h.n z k ob (h.n + 1) hf (Nat.le_succ _) (Nat.lt_succ_self _) hk
    have he : w1.heap = (w.alloc ob).heap := hh
    have hE := Map.add_ext (r := w.heap.size) (z := z) hf
    exact hih _ _ _ _ _ hE (R1.of_heap he) (K1.trans (.of_heap he hcm)) ((r.ext hE).put _ hx hd) e
  | h h1 x =>
    obtain ⟨κ, w1, u, hru, hE, R1, K1, hx⟩ := hok
    rcases hru with rfl | ⟨rfl, rfl⟩
    · exact hih _ _ _ _ _ hE R1 K1 ((r.ext hE).put _ hx hd) e
    · exact hih _ _ _ _ _ hE R1 K1 ((r.ext hE).put _ hx hd) e
  | c f l =>
    obtain ⟨args, rfl, hl⟩ := hok
    refine ⟨(fun hs => by (rw [hw.depth] at hs; cases hs)), ?_⟩
    simp only [doL] at e
    cases hcl : call f l h with
    | none => rw [hcl] at e; cases e
    | some q =>
      obtain ⟨h1, x⟩ := q
      rw [hcl] at e
      refine (hw.calls (hc f l h h1 x hcl ι w args R hl) _).mono fun en w1 hen => ?_
      cases en with
      | returned u =>
        obtain ⟨κ, hE, R1, K1, hx⟩ := hen
        exact hih _ _ _ _ _ hE R1 K1 ((r.ext hE).put _ hx hd) e
      | panicked c => exact hen.elim
      | outgrown => exact hen.elim
theorem list_okR {Fe : Fence} {n : Nat} {Q : Exit → Act → World → Prop} {N : Nat} {D : List Deferred} {call : Caller} {ops : Array Oper} {F' : T AT} {h' : AH}
    (hp : Prg P) (hw : Wide P Fe) (hc : CallOk P call) (rest : List Oper) : ∀ (l : List Oper) {ι : Map} {F : T AT} {h : AH} {a : Act} {w : World}, (∀ o ∈ l, ∀ k, o.dst = some k → k < N) → Rel ι h w → RA ι F N D a → evList P call ops l F h = some (F', h') →
    Goes ι h w N D F' h' (wpListIn Fe n P ops Q rest) → wpListIn Fe n P ops Q (l ++ rest) a w
  | [], ι, F, h, a, w, hl, R, r, e, hg => by cases e; exact hg _ _ _ (.refl _) R (.refl ..) r
  | o :: l, ι, F, h, a, w, hl, R, r, e, hg => by
    have hd := hl o (List.mem_cons_self ..)
    have hl' : ∀ o ∈ l, ∀ k, o.dst = some k → k < N := fun o ho => hl o (List.mem_cons_of_mem _ ho)
    have e : stepL P call o (evList P call ops l) F h (wantedA F ops o) = some (F', h') := e
    rw [List.cons_append]
    unfold wpListIn
    cases hwt : wantedA F ops o with
    | none => rw [hwt] at e; cases e
    | some b =>
      rw [hwt] at e
      rw [wantedA_ok r.frm hwt]
      cases b with
      | true =>
        rw [if_pos rfl]
        exact step_ok hp hw hc R r hd e fun κ F1 h1 a1 w1 hE R1 K1 r1 e1 => list_okR hp hw hc rest l hl' R1 r1 e1 fun μ a2 w2 hE2 R2 K2 r2 => hg _ _ _ (hE.trans hE2) R2 (K1.trans K2) r2
      | false =>
        rw [if_neg (by decide)]
        exact ⟨fun f _ => hw.fn f, list_okR hp hw hc rest l hl' R (r.put _ (undef_den _) hd) e hg⟩
theorem list_ok {Fe : Fence} {n : Nat} {Q : Exit → Act → World → Prop} {N : Nat} {D : List Deferred} {call : Caller} {ops : Array Oper} {F' : T AT} {h' : AH}
    (hp : Prg P) (hw : Wide P Fe) (hc : CallOk P call) (l : List Oper) {ι : Map} {F : T AT} {h : AH} {a : Act} {w : World} (hl : ∀ o ∈ l, ∀ k, o.dst = some k → k < N) (R : Rel ι h w) (r : RA ι F N D a) (e : evList P call ops l F h = some (F', h'))
    (hg : Goes ι h w N D F' h' (Q .normal)) : wpListIn Fe n P ops Q l a w := by
  have := list_okR (Fe := Fe) (n := n) (Q := Q) hp hw hc [] l hl R r e hg
  rwa [List.append_nil] at this
end Go.Proofs.YtbjddfeihhdpoaaGreatDoor
namespace Go.Proofs.YtbjddfeihhdpoaaGreatDoor
open Go
variable {P : Program} {ι : Map} {h : AH} {w : World} {F : T AT} {a : Act}

def dstO (N : Nat) (o : Oper) : Bool := match o.dst with
  | some d => Nat.blt d N
  | none => true
/-! what is asked of a drawn region: edges go back, destinations are unlike, who looks at a temporary waits for its maker -/
noncomputable def dstT : List Oper → Nat → T Nat → Option (T Nat)
  | [], _, t => some t
  | o :: l, i, t => match o.dst with
    | some d => match t.get d with
      | none => dstT l (i + 1) (t.set d i)
      | some _ => none
    | none => dstT l (i + 1) t
def backB (i : Nat) : List Edge → Bool
  | [] => true
  | e :: l => (match Region.binds .any e with
    | true => Nat.blt e.on i
    | false => true) && backB i l
noncomputable def looksB (D B : T Nat) (i : Nat) : List Tmp → Bool
  | [] => true
  | t :: l => (match D.get t with
    | some j => bit ((B.get i).getD 0) j || (bit ((B.get j).getD 0) i || Nat.beq i j)
    | none => true) && looksB D B i l
noncomputable def fitL (ops : Array Oper) (D B : T Nat) : List Oper → Nat → Bool
  | [], _ => true
  | o :: l, i => backB i o.after.toList && looksB D B i (o.looksAt ops) && fitL ops D B l (i + 1)
noncomputable def fitB (ops : Array Oper) : Bool := match dstT ops.toList 0 .e with
  | some D => fitL ops D (befs ops.toList 0 .e) ops.toList 0
  | none => false
def fitR : Bool → Bool → Bool
  | true, b => b
  | false, _ => true
noncomputable def dstOk (N : Nat) (c : Code) : Bool := Code.rec (motive := fun _ => Bool)
  true (fun _ ops draw => ops.toList.all (dstO N) && fitR draw (fitB ops)) (fun _ _ x y => x && y) (fun _ _ _ x y => x && y) (fun _ _ x => x) (fun _ x => x) (fun _ ps _ _ x y => ps.toList.all (fun p => Nat.blt p N) && x && y) (fun _ => true) (fun _ x => x) (fun _ => true) (fun _ => true) true (fun _ => true) c
def DstOk (P : Program) : Prop := ∀ (f : FuncId) (fn : Func) (c : Code), P.funcs[f]? = some fn → fn.body = some c → dstOk fn.ntmps c = true
theorem dst_ops {N M : Nat} {ops : Array Oper} (hd : ops.toList.all (dstO N) = true) (hM : N ≤ M) : ∀ o ∈ ops.toList, ∀ k, o.dst = some k → k < M := by
  intro o ho k hk
  have := List.all_eq_true.1 hd o ho
  unfold dstO at this
  rw [hk] at this
  exact Nat.lt_of_lt_of_le (lt_blt this) hM
def EX.to : EX → Exit
  | .normal => .normal
  | .exit i => .exit i
  | .ret => .ret
def RegOk (P : Program) (call : Caller) : Prop := ∀ (Fe : Fence) (n : Nat) (Q : Exit → Act → World → Prop) (N : Nat) (D : List Deferred) (id : Nat) (ops : Array Oper) (F F' : T AT) (h h' : AH) (ι : Map) (a : Act) (w : World),
  Wide P Fe → Rel ι h w → RA ι F N D a → (∀ o ∈ ops.toList, ∀ k, o.dst = some k → k < N) → fitB ops = true → evRegion P call ops true F h = some (F', h') → Goes ι h w N D F' h' (Q .normal) → (Code.region id ops true).wpIn Fe n P Q a w
def CodeOk (P : Program) (code : Coder) : Prop := ∀ (Fe : Fence) (n : Nat) (Q : Exit → Act → World → Prop) (N M : Nat) (D : List Deferred) (c : Code) (x : EX) (F F' : T AT) (h h' : AH) (ι : Map) (a : Act) (w : World),
  Wide P Fe → Rel ι h w → RA ι F M D a → dstOk N c = true → N ≤ M → code c F h = some (x, F', h') → Goes ι h w M D F' h' (Q x.to) → c.wpIn Fe n P Q a w
def LoopOk (P : Program) (k : Nat) (code : Coder) : Prop := ∀ (Fe : Fence) (n : Nat) (Q : Exit → Act → World → Prop) (N M : Nat) (D : List Deferred) (c : Code) (x : EX) (F F' : T AT) (h h' : AH) (ι : Map) (a : Act) (w : World),
  Wide P Fe → Rel ι h w → RA ι F M D a → dstOk N c = true → N ≤ M → code (.loop c) F h = some (x, F', h') → Goes ι h w M D F' h' (Q x.to) → Code.roundsIn Fe n P c Q k a w
theorem Goes.step {κ : Map} {h1 : AH} {w1 : World} {M : Nat} {D : List Deferred} {F' : T AT} {h' : AH} {K : Act → World → Prop} (g : Goes ι h w M D F' h' K) (hE : Ext ι κ) (K1 : Keep ι h w κ h1 w1) : Goes κ h1 w1 M D F' h' K :=
  fun μ a2 w2 hE2 R2 K2 r2 => g μ a2 w2 (hE.trans hE2) R2 (K1.trans K2) r2
theorem evCode_ok {code : Coder} {call : Caller} (hp : Prg P) (hc : CallOk P call) (hA : RegOk P call) {k : Nat} (hC : CodeOk P code) (hL : LoopOk P k code) :
    CodeOk P (fun c F h => evCode P code call c F h) ∧ LoopOk P (k + 1) (fun c F h => evCode P code call c F h) := by
  have key : LoopOk P (k + 1) (fun c F h => evCode P code call c F h) := by
    intro Fe n Q N M D c x F F' h h' ι a w hW R r hd hM e g
    have e : thenC code (.loop c) (code c F h) = some (x, F', h') := e
    rw [roundsIn_succ]
    cases hx : code c F h with
    | none => rw [hx] at e; cases e
    | some q =>
      obtain ⟨y, F1, h1⟩ := q
      rw [hx] at e
      cases y with
      | normal =>
        exact hC Fe n _ N M D c .normal F F1 h h1 ι a w hW R r hd hM hx fun κ a1 w1 hE R1 K1 r1 =>
          hL Fe n Q N M D c x F1 F' h1 h' κ a1 w1 hW R1 r1 hd hM e (g.step hE K1)
      | exit i => cases e; exact hC Fe n _ N M D c (.exit i) F _ h _ ι a w hW R r hd hM hx g
      | ret => cases e; exact hC Fe n _ N M D c .ret F _ h _ ι a w hW R r hd hM hx g
  refine ⟨?_, key⟩
  intro Fe n Q N M D c x F F' h h' ι a w hW R r hd hM e g
  cases c with
  | skip => cases e; exact wpIn_skip (g ι a w (.refl _) R (.refl ..) r)
  | label l => cases e; exact wpIn_label (g ι a w (.refl _) R (.refl ..) r)
  | exit i => cases e; exact wpIn_exit (g ι a w (.refl _) R (.refl ..) r)
  | ret => cases e; exact wpIn_ret (g ι a w (.refl _) R (.refl ..) r)
  | goto l => cases e
  | refuse s => cases e
  | scope c => cases e
  | rangeFunc f ps as b => cases e
  | region id ops draw =>
    have e : regC (evRegion P call ops draw F h) = some (x, F', h') := e
    have hdf : (ops.toList.all (dstO N) && fitR draw (fitB ops)) = true := hd
    rw [Bool.and_eq_true] at hdf
    have hdo := hdf.1
    have hfit := hdf.2
    cases hx : evRegion P call ops draw F h with
    | none => rw [hx] at e; cases e
    | some q =>
      rw [hx] at e
      cases e
      cases draw with
      | true => exact hA Fe n Q M D id ops F _ h _ ι a w hW R r (dst_ops hdo hM) hfit hx g
      | false => exact wpIn_region_list (list_ok hp hW hc _ (dst_ops hdo hM) R r hx g)
  | seq c d =>
    have hd : (dstOk N c && dstOk N d) = true := hd
    rw [Bool.and_eq_true] at hd
    have e : thenC code d (code c F h) = some (x, F', h') := e
    refine wpIn_seq ?_
    cases hx : code c F h with
    | none => rw [hx] at e; cases e
    | some q =>
      obtain ⟨y, F1, h1⟩ := q
      rw [hx] at e
      cases y with
      | normal =>
        exact hC Fe n _ N M D c .normal F F1 h h1 ι a w hW R r hd.1 hM hx fun κ a1 w1 hE R1 K1 r1 =>
          hC Fe n Q N M D d x F1 F' h1 h' κ a1 w1 hW R1 r1 hd.2 hM e (g.step hE K1)
      | exit i => cases e; exact hC Fe n _ N M D c (.exit i) F _ h _ ι a w hW R r hd.1 hM hx g
      | ret => cases e; exact hC Fe n _ N M D c .ret F _ h _ ι a w hW R r hd.1 hM hx g
  | cond b c d =>
    have hd : (dstOk N c && dstOk N d) = true := hd
    rw [Bool.and_eq_true] at hd
    have e : ifC code c d F h (one F b) = some (x, F', h') := e
    unfold ifC at e
    split at e
    · rename_i hb
      exact wpIn_cond_true (one_den r.frm hb).1 (hC Fe n Q N M D c x F F' h h' ι a w hW R r hd.1 hM e g)
    · rename_i hb
      exact wpIn_cond_false (one_den r.frm hb).1 (hC Fe n Q N M D d x F F' h h' ι a w hW R r hd.2 hM e g)
    · cases e
  | block id c =>
    have hd : dstOk N c = true := hd
    have e : thenB id (code c F h) = some (x, F', h') := e
    refine wpIn_block ?_
    cases hx : code c F h with
    | none => rw [hx] at e; cases e
    | some q =>
      obtain ⟨y, F1, h1⟩ := q
      rw [hx] at e
      refine hC Fe n _ N M D c y F F1 h h1 ι a w hW R r hd hM hx ?_
      cases y with
      | normal => cases e; exact g
      | ret => cases e; exact g
      | exit j =>
        simp only [thenB] at e
        intro κ a1 w1 hE R1 K1 r1
        simp only [EX.to, Exit.inBlock]
        split at e
        · rename_i hj
          cases e
          rw [if_pos (eq_beq hj)]
          exact g κ a1 w1 hE R1 K1 r1
        · rename_i hj
          cases e
          rw [if_neg (fun h => by rw [h, Nat.beq_refl] at hj; cases hj)]
          exact g κ a1 w1 hE R1 K1 r1
  | loop c => exact wpIn_loop_rounds (k + 1) (key Fe n Q N M D c x F F' h h' ι a w hW R r hd hM e g)
/-! a call -/
theorem bindArgs_get : ∀ (l : List AT) (i : Nat) (F : T AT), (∀ t x, F.get t = some x → t < i) → ∀ t x, (bindArgs l i F).get t = some x → F.get t = some x ∨ ∃ j, t = i + j ∧ l[j]? = some x
  | [], i, F, hF, t, x, e => .inl e
  | v :: l, i, F, hF, t, x, e => by
    rcases bindArgs_get l (i + 1) (F.set i v) (fun t x e => by
      rw [T.get_set] at e
      split at e
      · omega
      · have := hF t x e; omega) t x e with e1 | ⟨j, rfl, e1⟩
    · rw [T.get_set] at e1
      split at e1
      · rename_i ht; exact .inr ⟨0, by omega, by simpa using e1⟩
      · exact .inl e1
    · exact .inr ⟨j + 1, by omega, by simpa using e1⟩
def resR (a : Act) : ResultVar → Sem Value
  | .tmp t => pure (a.tmps.getD t undef)
  | .cell c t => do loadVar t (← asAddr (a.tmps.getD c undef))
theorem resOf_ok (R : Rel ι h w) (hF : RelF ι F a) {x : ResultVar} {v : AV} (e : resOf P F h x = some v) :
    ∃ u, (resR a x).run P w = .ok u w ∧ v.den ι u := by
  cases x with
  | tmp t =>
    simp only [resOf] at e
    cases hg : F.get t with
    | none => rw [hg] at e; cases e
    | some y =>
      rw [hg] at e
      obtain ⟨u, hu, hy⟩ := hF t y hg
      cases y with
      | t l => cases e
      | o y => cases e; exact ⟨u, by simp [resR, Array.getD_eq_getD_getElem?, hu], hy⟩
  | cell c t =>
    simp only [resOf] at e
    split at e
    · rename_i b k hb
      split at e
      · rename_i cs n ty hblk
        cases hg : F.get c with
        | none => rw [hg] at hb; cases hb
        | some y =>
          rw [hg] at hb
          obtain ⟨u, hu, hy⟩ := hF c y hg
          have hy' : y = .o (.c (.p b k)) := by
            unfold one' at hb
            split at hb
            · rename_i h1; cases h1; cases hb; rfl
            · cases hb
          subst hy'
          obtain ⟨r, z, er, rfl, hk⟩ := p_den hy R hblk
          obtain ⟨u, h1, h2⟩ := rdB_ok hk e
          exact ⟨u, by simp [resR, Array.getD_eq_getD_getElem?, hu, asAddr, h1], h2⟩
      · cases e
    · cases e
theorem resAll_ok (R : Rel ι h w) (hF : RelF ι F a) : ∀ {l : List ResultVar} {m : List AV}, resAll P F h l = some m → ∃ us, (l.mapM (resR a)).run P w = .ok us w ∧ All2 (AV.den ι) m us
  | [], m, e => by cases e; exact ⟨[], rfl, trivial⟩
  | x :: l, m, e => by
    simp only [resAll] at e
    split at e
    · rename_i v k hv hk
      cases e
      obtain ⟨u, h1, h2⟩ := resOf_ok R hF hv
      obtain ⟨us, h3, h4⟩ := resAll_ok R hF hk
      exact ⟨u :: us, by simp [List.mapM_cons, h1, h3], h2, h4⟩
    · cases e
theorem resultsA_ok (R : Rel ι h w) (hF : RelF ι F a) {fn : Func} {v : AT} (e : resultsA P fn F h = some v) : ∃ u, (results fn a.tmps).run P w = .ok u w ∧ v.den ι u := by
  unfold resultsA at e
  have hr : ∀ us : List Value, (fn.results.toList.mapM (resR a)).run P w = .ok us w → (results fn a.tmps).run P w = .ok (if h : us.toArray.size = 1 then us.toArray[0] else .tuple us.toArray) w := by
    intro us hus
    have : results fn a.tmps = (do let vs ← fn.results.mapM (resR a); pure (if h : vs.size = 1 then vs[0] else .tuple vs)) := by
      unfold results
      congr 1
    rw [this, Sem.run_bind, Array.mapM_eq_mapM_toList, Sem.run_map, hus]
    rfl
  cases hm : resAll P F h fn.results.toList with
  | none => rw [hm] at e; cases e
  | some m =>
    rw [hm] at e
    obtain ⟨us, h1, h2⟩ := resAll_ok R hF hm
    have := hr us h1
    match m, us, h2, e with
    | [], [], h2, e => cases e; exact ⟨_, this, [], rfl, trivial⟩
    | [v], [u], h2, e => cases e; exact ⟨_, this, h2.1⟩
    | v :: v' :: m, u :: u' :: us, h2, e =>
      cases e
      refine ⟨_, this, u :: u' :: us, ?_, h2⟩
      rw [dif_neg (by simp)]
    | [_], _ :: _ :: _, h2, e => exact h2.2.elim
    | [], _ :: _, h2, e => exact h2.elim
    | _ :: _, [], h2, e => exact h2.elim
    | _ :: _ :: _, [_], h2, e => exact h2.2.elim
def OvOk (P : Program) (ov : Ov) : Prop := ∀ f g, ov f = some g → CallOk P (fun f' l h => if f' = f then g h l else none)
theorem evFn_ok {ov : Ov} {code : Coder} (hp : Prg P) (hD : DstOk P) (hO : OvOk P ov) (hC : CodeOk P code) : CallOk P (fun f l h => evFn P ov code f l h) := by
  intro f l h h' v e ι w args R hl
  have e : evFn P ov code f l h = some (h', v) := e
  unfold evFn at e
  cases ho : ov f with
  | some g => rw [ho] at e; exact hO f g ho f l h h' v (by simpa using e) ι w args R hl
  | none =>
    rw [ho] at e
    simp only at e
    split at e
    · rename_i fn hfn
      have hfn := fnT_get hfn
      split at e
      · rename_i c hb
        cases hx : code c (bindArgs l 0 .e) h with
        | none => rw [hx] at e; cases e
        | some q =>
          obtain ⟨x, F1, h1⟩ := q
          rw [hx] at e
          have hres : (∃ u, resultsA P fn F1 h1 = some u ∧ h' = h1 ∧ v = u) ∧ ∀ i, x ≠ .exit i := by
            cases x with
            | exit i => cases e
            | normal =>
              simp only [leaveA] at e
              split at e
              · rename_i u hu; cases e; exact ⟨⟨_, hu, rfl, rfl⟩, fun i h => by cases h⟩
              · cases e
            | ret =>
              simp only [leaveA] at e
              split at e
              · rename_i u hu; cases e; exact ⟨⟨_, hu, rfl, rfl⟩, fun i h => by cases h⟩
              · cases e
          obtain ⟨⟨_, hres, rfl, rfl⟩, hne⟩ := hres
          refine (callsIn_wide (n := 0)).1 (callsIn_of_wp hfn hb trivial ?_)
          have hF : RelF ι (bindArgs l 0 .e) { tmps := args ++ Array.replicate (fn.ntmps - args.size) undef, defers := [] } := by
            intro t x e
            rcases bindArgs_get l 0 .e (fun t x e => by rw [T.get_e] at e; cases e) t x e with e1 | ⟨j, rfl, e1⟩
            · rw [T.get_e] at e1; cases e1
            · obtain ⟨u, hu, hd⟩ := All2.get j hl e1
              refine ⟨u, ?_, hd⟩
              rw [Nat.zero_add]
              have hu : args[j]? = some u := by simpa using hu
              have hj : j < args.size := by
                rcases Nat.lt_or_ge j args.size with hj | hj
                · exact hj
                · rw [Array.getElem?_eq_none hj] at hu; cases hu
              simp [Array.getElem?_append, hj, hu]
              simpa [hj] using hu
          refine hC Fence.wide 0 _ fn.ntmps (args.size + (fn.ntmps - args.size)) [] c x _ _ h _ ι _ w (wide_wide P) R ⟨hF, by simp, rfl⟩ (hD f fn c hfn hb) (by omega) hx ?_
          intro κ a1 w1 hE R1 K1 r1
          obtain ⟨u, h2, h3⟩ := resultsA_ok R1 r1.frm hres
          cases x with
          | exit i => exact absurd rfl (hne i)
          | normal => exact ⟨r1.defs, u, h2, κ, hE, R1, K1, h3⟩
          | ret => exact ⟨r1.defs, u, h2, κ, hE, R1, K1, h3⟩
      · cases e
    · cases e
theorem evN_ok {ov : Ov} (hp : Prg P) (hD : DstOk P) (hO : OvOk P ov) (hA : ∀ call, CallOk P call → RegOk P call) : ∀ n, CodeOk P (evN P ov n).1 ∧ LoopOk P n (evN P ov n).1 ∧ CallOk P (evN P ov n).2
  | 0 => ⟨fun _ _ _ _ _ _ _ _ _ _ _ _ _ _ _ _ _ _ _ _ e => by (cases e), fun _ _ _ _ _ _ _ _ _ _ _ _ _ _ _ _ _ _ _ _ e => by (cases e), fun _ _ _ _ _ e => by (cases e)⟩
  | n + 1 => by
    obtain ⟨h1, h2, h3⟩ := evN_ok hp hD hO hA n
    obtain ⟨h4, h5⟩ := evCode_ok hp h3 (hA _ h3) h1 h2
    exact ⟨h4, h5, evFn_ok hp hD hO h1⟩
end Go.Proofs.YtbjddfeihhdpoaaGreatDoor
namespace Go.Proofs.YtbjddfeihhdpoaaGreatDoor
open Go
variable {P : Program} {h : AH} {F F' : T AT}

/-! an operation hangs on its operands alone -/
theorem one_c {x : Operand} (e : opd F x = opd F' x) : one F x = one F' x := by unfold one; rw [e]
theorem opv_c {x : Operand} (e : opd F x = opd F' x) : opv F x = opv F' x := by unfold opv; rw [e]
theorem opn_c {x : Operand} (e : opd F x = opd F' x) : opn F x = opn F' x := by unfold opn; rw [one_c e]
theorem opo_c {x : Operand} (e : opd F x = opd F' x) : opo F x = opo F' x := by unfold opo; rw [e]
theorem allV_c : ∀ {l : List Operand}, (∀ x ∈ l, opd F x = opd F' x) → allV F l = allV F' l
  | [], _ => rfl
  | x :: l, e => by simp only [allV, opv_c (e x (List.mem_cons_self ..)), allV_c fun y hy => e y (List.mem_cons_of_mem _ hy)]
theorem args_c : ∀ {l : List Operand}, (∀ x ∈ l, opd F x = opd F' x) → args' F l = args' F' l
  | [], _ => rfl
  | x :: l, e => by simp only [args', e x (List.mem_cons_self ..), args_c fun y hy => e y (List.mem_cons_of_mem _ hy)]
theorem caps_c : ∀ {l : List Operand}, (∀ x ∈ l, opd F x = opd F' x) → caps F l = caps F' l
  | [], _ => rfl
  | x :: l, e => by simp only [caps, opo_c (e x (List.mem_cons_self ..)), caps_c fun y hy => e y (List.mem_cons_of_mem _ hy)]
theorem parts_c : ∀ {l : List (Nat × Operand)}, (∀ x ∈ l.map (·.2), opd F x = opd F' x) → parts F l = parts F' l
  | [], _ => rfl
  | x :: l, e => by simp only [parts, opo_c (e x.2 (List.mem_cons_self ..)), parts_c (l := l) fun y hy => e y (List.mem_cons_of_mem _ hy)]
theorem bnd_c {d : Nat} {r : Option Operand} (e : ∀ x, r = some x → opd F x = opd F' x) : bnd F d r = bnd F' d r := by
  cases r with
  | none => rfl
  | some x => exact opn_c (e x rfl)
theorem lite0_c {o : Oper} (e : ∀ x ∈ o.op.operands, opd F x = opd F' x) : lite0 P F o = lite0 P F' o := by
  unfold lite0
  rw [allV_c (F := F) (F' := F') fun x hx => e x (by simpa using hx)]
  cases hs : noSel o.op with
  | false => rfl
  | true => rw [execOp_congr (ρ' := fun x => (opv F' x).getD undef) o (fun cs b ho => by rw [ho] at hs; cases hs) fun x hx => by rw [opv_c (e x hx)]]
theorem opA_c {o : Oper} {id : Nat} (e : ∀ x ∈ o.op.operands, opd F x = opd F' x) : opA P h F id o = opA P h F' id o := by
  have hl := lite0_c (P := P) e
  unfold opA
  cases ho : o.op <;> rw [ho] at e <;> simp only [opC] <;> simp only [Op.operands] at e
  case move x => rw [e x (by simp)]
  case assign x => rw [e x (by simp)]
  case pick c a b => simp only [oPick, one_c (e c (by simp)), e a (by simp), e b (by simp)]
  case box t x => simp only [oBox, opo_c (e x (by simp))]
  case build t ps => simp only [abuild, parts_c (F := F) (F' := F') (l := ps.toList) fun x hx => e x (by simpa using hx)]
  case buildSlice t n ps => simp only [oBuildSlice, oBuildSlice', parts_c (F := F) (F' := F') (l := ps.toList) fun x hx => e x (by simpa using hx)]
  case insert t m k x => simp only [oUpdate, one_c (e m (by simp)), opv_c (e k (by simp)), opo_c (e x (by simp))]
  case load t x => simp only [oLoad, one_c (e x (by simp))]
  case store t x y => rw [one_c (e x (by simp)), opo_c (e y (by simp))]
  case nilCheck x => simp only [oNil, one_c (e x (by simp)), hl]
  case binOp op t x y t' => simp only [oBin, one_c (e x (by simp)), one_c (e y (by simp)), hl, orLite]
  case unOp op t x => rw [hl]
  case convert s d x => simp only [oConvert, one_c (e x (by simp)), hl]
  case makeInterface t x => simp only [oIface, one_c (e x (by simp)), hl]
  case makeFunc f x c => simp only [oMakeFunc, caps_c (F := F) (F' := F') (l := x.toList) fun y hy => e y (by simp at hy ⊢; exact .inl hy), caps_c (F := F) (F' := F') (l := c.toList) fun y hy => e y (by simp at hy ⊢; exact .inr hy)]
  case makeMap t r => simp only [oMakeMap, bnd_c (F := F) (F' := F') (d := 0) (r := r) fun x hx => e x (by subst hx; simp)]
  case makeSlice t l c => simp only [oMakeSlice, opn_c (e l (by simp)), opn_c (e c (by simp))]
  case slice t x l u m =>
    have h1 := one_c (e x (by simp))
    have h2 := fun d => bnd_c (F := F) (F' := F') (d := d) (r := l) fun x hx => e x (by subst hx; simp)
    have h3 := fun d => bnd_c (F := F) (F' := F') (d := d) (r := u) fun x hx => e x (by subst hx; simp)
    have h4 : ∀ y, m = some y → opn F y = opn F' y := fun y hy => opn_c (e y (by subst hy; simp))
    cases m with
    | none =>
      simp only [oSlice, h1, h2, h3, hl]
      generalize one F' x = y
      generalize bnd F' 0 l = i
      generalize bnd F' 0 u = j
      cases y with
      | none => rfl
      | some y => cases y <;> first | rfl | (rcases i with _ | _ | i <;> rcases j with _ | _ | j <;> rfl)
    | some m =>
      simp only [oSlice, h1, h2, h3, hl, h4 m rfl]
      generalize one F' x = y
      generalize bnd F' 0 l = i
      generalize bnd F' 0 u = j
      have h5 := h4 m rfl
      cases y with
      | none => rfl
      | some y => cases y <;> first | rfl | (rcases i with _ | _ | i <;> rcases j with _ | _ | j <;> first | rfl | (simp only [h5]))
  case fieldAddr t x i => simp only [oFieldAddr, one_c (e x (by simp)), hl]
  case field t x i => simp only [oField, e x (by simp)]
  case indexAddr t x i => simp only [oIndexAddr, one_c (e x (by simp)), opn_c (e i (by simp))]
  case index t x i => simp only [oIndex, e x (by simp), opn_c (e i (by simp))]
  case lookup t x i ok => simp only [oLookup, one_c (e x (by simp)), opv_c (e i (by simp)), hl]
  case mapUpdate t m k x => simp only [oUpdate, one_c (e m (by simp)), opv_c (e k (by simp)), opo_c (e x (by simp))]
  case range t x => simp only [oRange, one_c (e x (by simp))]
  case next x s => simp only [oNext, one_c (e x (by simp))]
  case typeAssert x t t' ok => simp only [oAssert, one_c (e x (by simp))]
  case extract x i => simp only [oExtract, e x (by simp)]
  case call c =>
    obtain ⟨callee, args, ts⟩ := c
    have ha : ∀ x ∈ args.toList, opd F x = opd F' x := fun x hx => e x (by simp [Call.operands]; cases callee <;> simp_all)
    have hext : ∀ g l, callF P h F o g l = callF P h F' o g l := fun g l => by simp only [callF, ext, hl]
    cases callee with
    | invoke _ _ => rfl
    | value f =>
      have hf := one_c (e f (by simp [Call.operands]))
      simp only [oCall, hf, args_c ha, hext]
    | builtin b =>
      simp only [oCall, oBuiltin]
      generalize args.toList = al at ha
      generalize ts.toList = tl
      have h0 : oAppend P h F al tl = oAppend P h F' al tl := by
        unfold oAppend
        rcases al with _ | ⟨s, _ | ⟨x, _ | ⟨y, al⟩⟩⟩ <;> rcases tl with _ | ⟨t, _ | ⟨u, tl⟩⟩ <;> first | rfl | simp only [one_c (ha s (by simp)), one_c (ha x (by simp))]
      have h1 : oCopy P h F al tl = oCopy P h F' al tl := by
        unfold oCopy
        rcases al with _ | ⟨s, _ | ⟨x, _ | ⟨y, al⟩⟩⟩ <;> rcases tl with _ | ⟨t, _ | ⟨u, tl⟩⟩ <;> first | rfl | simp only [one_c (ha s (by simp)), one_c (ha x (by simp))]
      have h2 : oUnsafeString P h F al tl = oUnsafeString P h F' al tl := by
        unfold oUnsafeString
        rcases al with _ | ⟨s, _ | ⟨x, _ | ⟨y, al⟩⟩⟩ <;> rcases tl with _ | ⟨t, _ | ⟨u, tl⟩⟩ <;> first | rfl | simp only [one_c (ha s (by simp)), opn_c (ha x (by simp))]
      have h3 : oLen P h F al tl = oLen P h F' al tl := by
        unfold oLen
        rcases al with _ | ⟨x, _ | ⟨y, al⟩⟩ <;> rcases tl with _ | ⟨t, tl⟩ <;> first | rfl | simp only [one_c (ha x (by simp))]
      have h4 : oSliceData F al = oSliceData F' al := by
        unfold oSliceData
        match al, ha with
        | [x], ha => simp only [one_c (ha x (by simp))]
        | [], _ => rfl
        | _ :: _ :: _, _ => rfl
      have h5 : ∀ r, orLite P F o r = orLite P F' o r := fun r => by cases r <;> simp only [orLite, hl]
      rw [h0, h1, h2, h3, h4, hl, h5]
/-! what does not read hangs on no heap -/
theorem opA_still {o : Oper} {id : Nat} (hr : reads o.op = false) (ht : turns o.op = false) (h h' : AH) : opA P h F id o = opA P h' F id o := by
  unfold opA
  cases ho : o.op <;> rw [ho] at hr ht <;> first | rfl | (cases hr; done) | (cases ht; done)
end Go.Proofs.YtbjddfeihhdpoaaGreatDoor
namespace Go.Proofs.YtbjddfeihhdpoaaGreatDoor
open Go
variable {P : Program} {h : AH} {F : T AT}

theorem sameV_eq {a b : Value} (h : sameV a b = true) : a = b := by
  unfold sameV at h
  split at h
  · simp_all
  · rename_i j x k y
    rw [Bool.and_eq_true] at h
    rw [kindN_inj h.1, (intEq_iff _ _).1 h.2]
  · rw [(strEq_iff _ _).1 h]
  · rfl
  · rw [Bool.and_eq_true] at h
    rw [eq_beq h.1, eq_beq h.2]
  · rfl
  · cases h
theorem sameP_eq : ∀ {a b : List (Nat × Nat)}, sameP a b = true → a = b
  | [], [], _ => rfl
  | (x, y) :: l, (z, u) :: m, h => by
    simp only [sameP, Bool.and_eq_true] at h
    rw [eq_beq h.1.1, eq_beq h.1.2, sameP_eq h.2]
  | [], _ :: _, h => by cases h
  | _ :: _, [], h => by cases h
theorem sameC_eq {a b : AC} (h : sameC a b = true) : a = b := by
  unfold sameC at h
  split at h
  · rw [sameV_eq h]
  · rw [Bool.and_eq_true] at h; rw [eq_beq h.1, eq_beq h.2]
  · simp only [Bool.and_eq_true] at h; rw [eq_beq h.1.1.1, eq_beq h.1.1.2, eq_beq h.1.2, eq_beq h.2]
  · rw [eq_beq h]
  · rw [eq_beq h]
  · rw [eq_beq h]
  · rw [Bool.and_eq_true] at h; rw [eq_beq h.1, eq_beq h.2]
  · simp only [Bool.and_eq_true] at h; rw [eq_beq h.1.1, sameP_eq h.1.2, sameP_eq h.2]
  · rfl
  · rw [eq_beq h]
  · cases h
theorem sameL_eq : ∀ {a b : List AC}, sameL a b = true → a = b
  | [], [], _ => rfl
  | x :: l, y :: m, h => by
    simp only [sameL, Bool.and_eq_true] at h
    rw [sameC_eq h.1, sameL_eq h.2]
  | [], _ :: _, h => by cases h
  | _ :: _, [], h => by cases h
theorem sameA_eq {a b : AV} (h : sameA a b = true) : a = b := by
  unfold sameA at h
  split at h
  · rw [sameC_eq h]
  · rw [sameL_eq h]
  · cases h
theorem sameAs_eq : ∀ {a b : List AV}, sameAs a b = true → a = b
  | [], [], _ => rfl
  | x :: l, y :: m, h => by
    simp only [sameAs, Bool.and_eq_true] at h
    rw [sameA_eq h.1, sameAs_eq h.2]
  | [], _ :: _, h => by cases h
  | _ :: _, [], h => by cases h
theorem sameT_eq {a b : AT} (h : sameT a b = true) : a = b := by
  unfold sameT at h
  split at h
  · rw [sameA_eq h]
  · rw [sameAs_eq h]
  · cases h
theorem again_ok {o : Oper} {v : AT} (e : again P o F v h = true) : opA P h F 0 o = .v v := by
  unfold again at e
  split at e
  · rename_i u hu; rw [hu, sameT_eq e]
  · cases e
/-- reads meet the same in each heap of the list that they may meet -/
theorem past_ok {b : Nat} {o : Oper} {v : AT} : ∀ {l : List (Nat × AH)}, l.Pairwise (fun x y => bit b x.1 = true → bit b y.1 = true) → past P b o F v l = true → ∀ x ∈ l, bit b x.1 = false → opA P x.2 F 0 o = .v v
  | [], _, _, x, hx, _ => by cases hx
  | y :: l, hp, e, x, hx, hb => by
    obtain ⟨h1, h2⟩ := List.pairwise_cons.1 hp
    simp only [past] at e
    cases hy : bit b y.1 with
    | true =>
      rcases List.mem_cons.1 hx with rfl | hx
      · rw [hy] at hb; cases hb
      · rw [h1 x hx hy] at hb; cases hb
    | false =>
      rw [hy] at e
      simp only at e
      split at e
      · rename_i ha
        rcases List.mem_cons.1 hx with rfl | hx
        · exact again_ok ha
        · exact past_ok h2 e x hx hb
      · cases e
theorem future_ok {b : Nat} {h : AH} : ∀ {l : List (Nat × Oper × T AT × AT)}, future P b h l = true → ∀ x ∈ l, bit b x.1 = false → opA P h x.2.2.1 0 x.2.1 = .v x.2.2.2
  | [], _, x, hx, _ => by cases hx
  | y :: l, e, x, hx, hb => by
    simp only [future] at e
    cases hy : bit b y.1 with
    | true =>
      rw [hy] at e
      simp only at e
      rcases List.mem_cons.1 hx with rfl | hx
      · rw [hy] at hb; cases hb
      · exact future_ok e x hx hb
    | false =>
      rw [hy] at e
      simp only at e
      split at e
      · rename_i ha
        rcases List.mem_cons.1 hx with rfl | hx
        · exact again_ok ha
        · exact future_ok e x hx hb
      · cases e
theorem mem_drop1 {β : Type} {b : Nat} {x : Nat × β} : ∀ {l : List (Nat × β)}, x ∈ drop1 b l ↔ x ∈ l ∧ bit b x.1 = false
  | [] => by simp [drop1]
  | y :: l => by
    simp only [drop1]
    cases hy : bit b y.1 with
    | true =>
      simp only [mem_drop1 (l := l), List.mem_cons]
      constructor
      · rintro ⟨h1, h2⟩; exact ⟨.inr h1, h2⟩
      · rintro ⟨rfl | h1, h2⟩
        · rw [hy] at h2; cases h2
        · exact ⟨h1, h2⟩
    | false =>
      simp only [List.mem_cons, mem_drop1 (l := l)]
      constructor
      · rintro (rfl | ⟨h1, h2⟩)
        · exact ⟨.inl rfl, hy⟩
        · exact ⟨.inr h1, h2⟩
      · rintro ⟨rfl | h1, h2⟩
        · exact .inl rfl
        · exact .inr ⟨h1, h2⟩
/-- blocks that wait, laid into a heap -/
theorem layAll_get : ∀ (l : List (Nat × Nat × Blk)) (t : T Blk) (c : Nat), (∀ x ∈ l, ∀ y ∈ l, x.2.1 = y.2.1 → x = y) →
    (layAll l t).get c = match l.find? (fun x => x.2.1 == c) with | some x => some x.2.2 | none => t.get c
  | [], t, c, _ => rfl
  | x :: l, t, c, hd => by
    have hd' : ∀ y ∈ l, ∀ z ∈ l, y.2.1 = z.2.1 → y = z := fun y hy z hz => hd y (List.mem_cons_of_mem _ hy) z (List.mem_cons_of_mem _ hz)
    simp only [layAll]
    rw [layAll_get l _ c hd', List.find?_cons, T.get_set]
    by_cases hc : c = x.2.1
    · subst hc
      simp only [beq_self_eq_true, if_true]
      cases hf : l.find? (fun y => y.2.1 == x.2.1) with
      | none => rfl
      | some y =>
        have h1 := List.mem_of_find?_eq_some hf
        have h2 := List.find?_some hf
        rw [hd y (List.mem_cons_of_mem _ h1) x (List.mem_cons_self ..) (by simpa using h2)]
    · have : (x.2.1 == c) = false := by simpa using fun e => hc e.symm
      rw [this, if_neg hc]
end Go.Proofs.YtbjddfeihhdpoaaGreatDoor
namespace Go.Proofs.YtbjddfeihhdpoaaGreatDoor
open Go
variable {P : Program}

/-! a drawn region, as the evaluator went through it: records, the last operation first -/
inductive Knd where
  | skip
  | val (x : AT)
  | read (x : AT)
  | mk (k : Blk) (x : AT)
  | turn (pre laid post : AH) (x : AT)
structure Rec where
  i : Nat
  o : Oper
  F : T AT
  k : Knd
/-- where a region starts -/
structure St where
  F : T AT
  h : AH
  base : Nat
  bef : Nat → Nat
def Knd.out : Knd → AT
  | .skip => .t []
  | .val x => x
  | .read x => x
  | .mk _ x => x
  | .turn _ _ _ x => x
noncomputable def frameOf (s : St) : List Rec → T AT
  | [] => s.F
  | r :: _ => setDst r.F r.o.dst r.k.out
def heapOf (s : St) : List Rec → AH
  | [] => s.h
  | r :: l => match r.k with
    | .turn _ _ post _ => post
    | _ => heapOf s l
def lastOf : List Rec → Option Nat
  | [] => none
  | r :: l => match r.k with
    | .turn _ _ _ _ => some r.i
    | _ => lastOf l
def histOf : List Rec → List (Nat × AH)
  | [] => []
  | r :: l => match r.k with
    | .turn pre _ _ _ => (r.i, pre) :: histOf l
    | _ => histOf l
def seenOf (s : St) : List Rec → List (Nat × Oper × T AT × AT)
  | [] => []
  | r :: l => match r.k with
    | .turn _ _ _ _ => drop1 (s.bef r.i) (seenOf s l)
    | .read x => (r.i, r.o, r.F, x) :: seenOf s l
    | _ => seenOf s l
def pendOf (s : St) : List Rec → List (Nat × Nat × Blk)
  | [] => []
  | r :: l => match r.k with
    | .turn _ _ _ _ => drop1 (s.bef r.i) (pendOf s l)
    | .mk k _ => (r.i, s.base + r.i, k) :: pendOf s l
    | _ => pendOf s l
noncomputable def rsOf (s : St) (l : List Rec) : RS := ⟨frameOf s l, heapOf s l, pendOf s l, lastOf l, histOf l, seenOf s l⟩
/-- what is known of an operation, given those ahead of it -/
def KOk (P : Program) (call : Caller) (s : St) (r : Rec) (l : List Rec) : Prop := match r.k with
  | .skip => True
  | .val x => turns r.o.op = false ∧ reads r.o.op = false ∧ opA P (heapOf s l) r.F (s.base + r.i) r.o = .v x
  | .read x => turns r.o.op = false ∧ opA P (heapOf s l) r.F (s.base + r.i) r.o = .v x ∧ past P (s.bef r.i) r.o r.F x (histOf l) = true
  | .mk k x => turns r.o.op = false ∧ reads r.o.op = false ∧ opA P (heapOf s l) r.F (s.base + r.i) r.o = .m k x
  | .turn pre laid post x => pre = heapOf s l ∧ laid = ⟨lay (s.bef r.i) (pendOf s l) pre.t, pre.n⟩ ∧ chained (s.bef r.i) (lastOf l) = true ∧
      resH call laid (opA P laid r.F laid.n r.o) = some (post, x) ∧ future P (s.bef r.i) post (seenOf s l) = true
def Knd.on : Knd → Bool
  | .skip => false
  | _ => true
def WF (P : Program) (call : Caller) (ops : Array Oper) (s : St) : List Rec → Prop
  | [] => True
  | r :: l => r.i = l.length ∧ ops[r.i]? = some r.o ∧ r.F = frameOf s l ∧ wantedA r.F ops r.o = some r.k.on ∧ KOk P call s r l ∧ WF P call ops s l
theorem evAny_wf {call : Caller} {ops : Array Oper} {bef : T Nat} (s : St) (hb : ∀ i, s.bef i = (bef.get i).getD 0) : ∀ (l : List Oper) (rs : List Rec) (e : RS), WF P call ops s rs → (∀ j, l[j]? = ops[rs.length + j]?) →
    evAny P call ops bef s.base l rs.length (rsOf s rs) = some e → ∃ rs', WF P call ops s rs' ∧ e = rsOf s rs' ∧ rs'.length = rs.length + l.length
  | [], rs, e, hw, hl, he => by cases he; exact ⟨rs, hw, rfl, rfl⟩
  | o :: l, rs, e, hw, hl, he => by
    have ho : ops[rs.length]? = some o := by simpa using (hl 0).symm
    have hl' : ∀ j, l[j]? = ops[rs.length + 1 + j]? := fun j => by have := hl (j + 1); simpa [Nat.add_assoc, Nat.add_comm 1 j] using this
    have he : stepA P call o (evAny P call ops bef s.base l) rs.length ((bef.get rs.length).getD 0) s.base (rsOf s rs) (wantedA (rsOf s rs).F ops o) = some e := he
    rw [← hb] at he
    have go : ∀ (k : Knd), wantedA (frameOf s rs) ops o = some k.on → KOk P call s ⟨rs.length, o, frameOf s rs, k⟩ rs →
        evAny P call ops bef s.base l (rs.length + 1) (rsOf s (⟨rs.length, o, frameOf s rs, k⟩ :: rs)) = some e → ∃ rs', WF P call ops s rs' ∧ e = rsOf s rs' ∧ rs'.length = rs.length + (l.length + 1) := by
      intro k h1 h2 h3
      obtain ⟨rs', h4, h5, h6⟩ := evAny_wf s hb l (⟨rs.length, o, frameOf s rs, k⟩ :: rs) e ⟨rfl, ho, rfl, h1, h2, hw⟩ hl' h3
      exact ⟨rs', h4, h5, by rw [h6, List.length_cons]; omega⟩
    cases hwt : wantedA (rsOf s rs).F ops o with
    | none => rw [hwt] at he; cases he
    | some b =>
      rw [hwt] at he
      have hwt : wantedA (frameOf s rs) ops o = some b := hwt
      cases b with
      | false => exact go .skip hwt trivial he
      | true =>
        simp only [stepA] at he
        cases ht : turns o.op with
        | false =>
          rw [ht] at he
          simp only at he
          have he : doV P o (evAny P call ops bef s.base l) rs.length (s.bef rs.length) s.base (rsOf s rs) (opA P (heapOf s rs) (frameOf s rs) (s.base + rs.length) o) = some e := he
          cases hr : opA P (heapOf s rs) (frameOf s rs) (s.base + rs.length) o with
          | no => rw [hr] at he; cases he
          | h h' x => rw [hr] at he; cases he
          | c f m => rw [hr] at he; cases he
          | v x =>
            rw [hr] at he
            simp only [doV] at he
            cases hrd : reads o.op with
            | false => rw [hrd] at he; exact go (.val x) hwt ⟨ht, hrd, hr⟩ he
            | true =>
              rw [hrd] at he
              simp only at he
              split at he
              · rename_i hp; exact go (.read x) hwt ⟨ht, hr, hp⟩ he
              · cases he
          | m k x =>
            rw [hr] at he
            simp only [doV] at he
            cases hrd : reads o.op with
            | false => rw [hrd] at he; exact go (.mk k x) hwt ⟨ht, hrd, hr⟩ he
            | true => rw [hrd] at he; cases he
        | true =>
          rw [ht] at he
          simp only at he
          split at he
          · cases he
          · rename_i hc
            have hc : chained (s.bef rs.length) (lastOf rs) = true := hc
            have he : doH P o (evAny P call ops bef s.base l) rs.length (s.bef rs.length) (rsOf s rs) (resH call ⟨lay (s.bef rs.length) (pendOf s rs) (heapOf s rs).t, (heapOf s rs).n⟩ (opA P ⟨lay (s.bef rs.length) (pendOf s rs) (heapOf s rs).t, (heapOf s rs).n⟩ (frameOf s rs) (heapOf s rs).n o)) = some e := he
            cases hr : resH call ⟨lay (s.bef rs.length) (pendOf s rs) (heapOf s rs).t, (heapOf s rs).n⟩ (opA P ⟨lay (s.bef rs.length) (pendOf s rs) (heapOf s rs).t, (heapOf s rs).n⟩ (frameOf s rs) (heapOf s rs).n o) with
            | none => rw [hr] at he; cases he
            | some q =>
              obtain ⟨post, x⟩ := q
              rw [hr] at he
              simp only [doH] at he
              split at he
              · rename_i hf; exact go (.turn (heapOf s rs) _ post x) hwt ⟨rfl, rfl, hc, hr, hf⟩ he
              · cases he
theorem evRegion_wf {call : Caller} {ops : Array Oper} {F F' : T AT} {h h' : AH} (e : evRegion P call ops true F h = some (F', h')) :
    ∃ rs, WF P call ops ⟨F, ⟨h.t, h.n + ops.size⟩, h.n, fun i => ((befs ops.toList 0 .e).get i).getD 0⟩ rs ∧ rs.length = ops.size ∧
      F' = frameOf ⟨F, ⟨h.t, h.n + ops.size⟩, h.n, fun i => ((befs ops.toList 0 .e).get i).getD 0⟩ rs ∧
      h' = ⟨layAll (pendOf ⟨F, ⟨h.t, h.n + ops.size⟩, h.n, fun i => ((befs ops.toList 0 .e).get i).getD 0⟩ rs) (heapOf ⟨F, ⟨h.t, h.n + ops.size⟩, h.n, fun i => ((befs ops.toList 0 .e).get i).getD 0⟩ rs).t,
        (heapOf ⟨F, ⟨h.t, h.n + ops.size⟩, h.n, fun i => ((befs ops.toList 0 .e).get i).getD 0⟩ rs).n⟩ := by
  generalize hs : (⟨F, ⟨h.t, h.n + ops.size⟩, h.n, fun i => ((befs ops.toList 0 .e).get i).getD 0⟩ : St) = s
  have e : endA (evAny P call ops (befs ops.toList 0 .e) s.base ops.toList 0 (rsOf s [])) = some (F', h') := by subst hs; exact e
  cases hx : evAny P call ops (befs ops.toList 0 .e) s.base ops.toList 0 (rsOf s []) with
  | none => rw [hx] at e; cases e
  | some r =>
    rw [hx] at e
    obtain ⟨rs, h1, rfl, h3⟩ := evAny_wf s (fun i => by subst hs; rfl) ops.toList [] r trivial (fun j => by simp) hx
    cases e
    exact ⟨rs, h1, by simpa using h3, rfl, rfl⟩
end Go.Proofs.YtbjddfeihhdpoaaGreatDoor
namespace Go.Proofs.YtbjddfeihhdpoaaGreatDoor
open Go
variable {P : Program}

theorem bit_eq (m i : Nat) : bit m i = m.testBit i := by
  unfold bit
  rw [Nat.testBit_eq_decide_div_mod_eq, Nat.shiftRight_eq_div_pow]
  by_cases h : m / 2 ^ i % 2 = 1
  · rw [h]; rfl
  · rw [decide_eq_false h]
    cases hb : Nat.beq (m / 2 ^ i % 2) 1 with
    | false => rfl
    | true => exact absurd (Nat.eq_of_beq_eq_true hb) h
theorem befM_bit (acc : T Nat) (j : Nat) : ∀ (l : List Edge) (s : Nat), (befM acc l s).testBit j = true ↔ s.testBit j = true ∨ ∃ e ∈ l, Region.binds .any e = true ∧ (j = e.on ∨ ((acc.get e.on).getD 0).testBit j = true)
  | [], s => by simp [befM]
  | e :: l, s => by
    simp only [befM]
    cases hb : Region.binds .any e with
    | false =>
      simp only [befM_bit acc j l, List.mem_cons]
      constructor
      · rintro (h | ⟨x, h1, h2⟩)
        · exact .inl h
        · exact .inr ⟨x, .inr h1, h2⟩
      · rintro (h | ⟨x, rfl | h1, h2⟩)
        · exact .inl h
        · rw [hb] at h2; cases h2.1
        · exact .inr ⟨x, h1, h2⟩
    | true =>
      simp only [befM_bit acc j l, List.mem_cons, Nat.testBit_or, Bool.or_eq_true, Nat.testBit_two_pow, decide_eq_true_eq]
      constructor
      · rintro (((h | h) | h) | ⟨x, h1, h2⟩)
        · exact .inl h
        · exact .inr ⟨e, .inl rfl, hb, .inl h.symm⟩
        · exact .inr ⟨e, .inl rfl, hb, .inr h⟩
        · exact .inr ⟨x, .inr h1, h2⟩
      · rintro (h | ⟨x, rfl | h1, h2⟩)
        · exact .inl (.inl (.inl h))
        · rcases h2.2 with h | h
          · exact .inl (.inl (.inr h.symm))
          · exact .inl (.inr h)
        · exact .inr ⟨x, h1, h2⟩
theorem befs_old : ∀ (l : List Oper) (i : Nat) (acc : T Nat) (c : Nat), c < i → (befs l i acc).get c = acc.get c
  | [], i, acc, c, h => rfl
  | o :: l, i, acc, c, h => by
    simp only [befs]
    rw [befs_old l (i + 1) _ c (by omega), T.get_set, if_neg (by omega)]
theorem befs_at : ∀ (l : List Oper) (i : Nat) (acc : T Nat) (k : Nat) (o : Oper), l[k]? = some o →
    ∃ acc' : T Nat, (∀ c, c < i + k → acc'.get c = (befs l i acc).get c) ∧ (befs l i acc).get (i + k) = some (befM acc' o.after.toList 0)
  | [], i, acc, k, o, h => by simp at h
  | p :: l, i, acc, 0, o, h => by
    simp only [List.getElem?_cons_zero, Option.some.injEq] at h
    subst h
    refine ⟨acc, fun c hc => ?_, ?_⟩
    · simp only [befs]
      rw [befs_old l (i + 1) _ c (by omega), T.get_set, if_neg (by omega)]
    · simp only [befs]
      rw [show i + 0 = i from rfl, befs_old l (i + 1) _ i (by omega), T.get_set, if_pos rfl]
  | p :: l, i, acc, k + 1, o, h => by
    obtain ⟨acc', h1, h2⟩ := befs_at l (i + 1) (acc.set i (befM acc p.after.toList 0)) k o (by simpa using h)
    simp only [befs]
    rw [show i + (k + 1) = i + 1 + k by omega]
    exact ⟨acc', h1, h2⟩
/-- the operations that an operation waits for, and theirs -/
theorem bef_iff {ops : Array Oper} {i : Nat} {o : Oper} (ho : ops[i]? = some o) (hback : ∀ e ∈ o.after, Region.binds .any e = true → e.on < i) (j : Nat) :
    bit (((befs ops.toList 0 .e).get i).getD 0) j = true ↔ ∃ e ∈ o.after, Region.binds .any e = true ∧ (j = e.on ∨ bit (((befs ops.toList 0 .e).get e.on).getD 0) j = true) := by
  obtain ⟨acc, h1, h2⟩ := befs_at ops.toList 0 .e i o (by simpa using ho)
  rw [Nat.zero_add] at h1 h2
  rw [h2, Option.getD_some, bit_eq, befM_bit]
  simp only [Nat.zero_testBit, Bool.false_eq_true, false_or, Array.mem_toList_iff]
  constructor
  · rintro ⟨e, he, hb, h⟩
    refine ⟨e, he, hb, h.imp_right fun h => ?_⟩
    rw [bit_eq, ← h1 e.on (hback e he hb)]; exact h
  · rintro ⟨e, he, hb, h⟩
    refine ⟨e, he, hb, h.imp_right fun h => ?_⟩
    rw [h1 e.on (hback e he hb), ← bit_eq]; exact h
end Go.Proofs.YtbjddfeihhdpoaaGreatDoor
namespace Go.Proofs.YtbjddfeihhdpoaaGreatDoor
open Go
variable {P : Program} {call : Caller} {ops : Array Oper} {s : St}

theorem WF.lt : ∀ {l : List Rec}, WF P call ops s l → ∀ r ∈ l, r.i < l.length
  | [], _, r, hr => by cases hr
  | x :: l, h, r, hr => by
    rcases List.mem_cons.1 hr with rfl | hr
    · rw [h.1]; simp
    · have := WF.lt h.2.2.2.2.2 r hr; simp; omega
theorem WF.op : ∀ {l : List Rec}, WF P call ops s l → ∀ r ∈ l, ops[r.i]? = some r.o
  | [], _, r, hr => by cases hr
  | x :: l, h, r, hr => by
    rcases List.mem_cons.1 hr with rfl | hr
    · exact h.2.1
    · exact WF.op h.2.2.2.2.2 r hr
/-- the record of operation i, and those ahead of it -/
theorem WF.at : ∀ {l : List Rec}, WF P call ops s l → ∀ {i : Nat}, i < l.length → ∃ l1 r l2, l = l1 ++ r :: l2 ∧ r.i = i ∧ WF P call ops s (r :: l2)
  | [], _, i, hi => by cases hi
  | x :: l, h, i, hi => by
    by_cases he : i = l.length
    · exact ⟨[], x, l, rfl, by rw [h.1, he], h⟩
    · obtain ⟨l1, r, l2, rfl, h1, h2⟩ := WF.at h.2.2.2.2.2 (i := i) (by simp at hi; omega)
      exact ⟨x :: l1, r, l2, rfl, h1, h2⟩
/-- a region's destinations are unlike -/
def Unlike (ops : Array Oper) : Prop := ∀ (i j : Nat) (o p : Oper) (d : Tmp), ops[i]? = some o → ops[j]? = some p → o.dst = some d → p.dst = some d → i = j
theorem frame_dst (hU : Unlike ops) : ∀ {l : List Rec}, WF P call ops s l → ∀ r ∈ l, ∀ d, r.o.dst = some d → (frameOf s l).get d = some r.k.out
  | [], _, r, hr, d, hd => by cases hr
  | x :: l, h, r, hr, d, hd => by
    simp only [frameOf]
    rcases List.mem_cons.1 hr with rfl | hr
    · simp [setDst, hd, T.get_set]
    · have ih := frame_dst hU h.2.2.2.2.2 r hr d hd
      rw [h.2.2.1]
      cases hx : x.o.dst with
      | none => exact ih
      | some e =>
        have hne : d ≠ e := by
          rintro rfl
          have := hU r.i x.i r.o x.o d (WF.op h.2.2.2.2.2 r hr) h.2.1 hd hx
          have := WF.lt h.2.2.2.2.2 r hr
          have := h.1
          omega
        simp only [setDst, T.get_set, if_neg hne]
        exact ih
theorem frame_old : ∀ {l : List Rec}, WF P call ops s l → ∀ d, (∀ r ∈ l, r.o.dst ≠ some d) → (frameOf s l).get d = s.F.get d
  | [], _, d, hd => rfl
  | x :: l, h, d, hd => by
    simp only [frameOf]
    rw [h.2.2.1]
    have ih := frame_old h.2.2.2.2.2 d fun r hr => hd r (List.mem_cons_of_mem _ hr)
    cases hx : x.o.dst with
    | none => exact ih
    | some e =>
      have hne : d ≠ e := by rintro rfl; exact hd x (List.mem_cons_self ..) hx
      simp only [setDst, T.get_set, if_neg hne]
      exact ih
/-! a set of operations under way -/
/-- what one waits for is in it -/
def Closed (s : St) (E : Nat → Prop) : Prop := ∀ i, E i → ∀ j, bit (s.bef i) j = true → E j
open Classical in
/-- the heap behind the turns that are in it -/
noncomputable def heapE (s : St) (E : Nat → Prop) : List Rec → AH
  | [] => s.h
  | r :: l => match r.k with
    | .turn _ _ post _ => if E r.i then post else heapE s E l
    | _ => heapE s E l
open Classical in
/-- the blocks that wait -/
noncomputable def pendE (s : St) (E : Nat → Prop) : List Rec → List (Nat × Nat × Blk)
  | [] => []
  | r :: l => match r.k with
    | .turn _ _ _ _ => if E r.i then drop1 (s.bef r.i) (pendE s E l) else pendE s E l
    | .mk k _ => if E r.i then (r.i, s.base + r.i, k) :: pendE s E l else pendE s E l
    | _ => pendE s E l
/-- all in it: as the evaluator has it -/
theorem heapE_all {E : Nat → Prop} : ∀ {l : List Rec}, (∀ r ∈ l, E r.i) → heapE s E l = heapOf s l
  | [], _ => rfl
  | r :: l, h => by
    have ih := heapE_all (l := l) fun x hx => h x (List.mem_cons_of_mem _ hx)
    have hr := h r (List.mem_cons_self ..)
    simp only [heapE, heapOf]
    cases r.k <;> first | exact ih | exact if_pos hr
theorem pendE_all {E : Nat → Prop} : ∀ {l : List Rec}, (∀ r ∈ l, E r.i) → pendE s E l = pendOf s l
  | [], _ => rfl
  | r :: l, h => by
    have ih := pendE_all (l := l) fun x hx => h x (List.mem_cons_of_mem _ hx)
    have hr := h r (List.mem_cons_self ..)
    simp only [pendE, pendOf]
    cases r.k <;> first | exact ih | (simp only [if_pos hr, ih])
/-- no operation of the list turns in it: nothing behind -/
theorem heapE_none {E : Nat → Prop} : ∀ {l : List Rec}, (∀ r ∈ l, lastOf [r] = none ∨ ¬ E r.i) → heapE s E l = s.h
  | [], _ => rfl
  | r :: l, h => by
    have ih := heapE_none (l := l) fun x hx => h x (List.mem_cons_of_mem _ hx)
    have hr := h r (List.mem_cons_self ..)
    simp only [heapE]
    split
    · rename_i hk
      rcases hr with hr | hr
      · simp [lastOf, hk] at hr
      · rw [if_neg hr]; exact ih
    · exact ih
end Go.Proofs.YtbjddfeihhdpoaaGreatDoor
namespace Go.Proofs.YtbjddfeihhdpoaaGreatDoor
open Go
variable {P : Program} {call : Caller} {ops : Array Oper} {s : St} {E : Nat → Prop}

def Knd.isTurn : Knd → Bool
  | .turn _ _ _ _ => true
  | _ => false
theorem lastOf_cons_turn {r : Rec} {l : List Rec} (h : r.k.isTurn = true) : lastOf (r :: l) = some r.i := by
  simp only [lastOf]; cases hk : r.k <;> rw [hk] at h <;> first | rfl | cases h
theorem lastOf_cons_other {r : Rec} {l : List Rec} (h : r.k.isTurn = false) : lastOf (r :: l) = lastOf l := by
  simp only [lastOf]; cases hk : r.k <;> rw [hk] at h <;> first | rfl | cases h
/-- where the last turn is in it, all are -/
theorem turns_in (hc : Closed s E) : ∀ {l : List Rec}, WF P call ops s l → (∀ p, lastOf l = some p → E p) → ∀ r ∈ l, r.k.isTurn = true → E r.i
  | [], _, _, r, hr, _ => by cases hr
  | x :: l, h, hl, r, hr, ht => by
    cases hx : x.k.isTurn with
    | false =>
      rcases List.mem_cons.1 hr with rfl | hr
      · rw [hx] at ht; cases ht
      · exact turns_in hc h.2.2.2.2.2 (fun p hp => hl p (by rw [lastOf_cons_other hx]; exact hp)) r hr ht
    | true =>
      have hxE : E x.i := hl x.i (lastOf_cons_turn hx)
      rcases List.mem_cons.1 hr with rfl | hr
      · exact hxE
      · refine turns_in hc h.2.2.2.2.2 (fun p hp => hc x.i hxE p ?_) r hr ht
        have hk := h.2.2.2.2.1
        unfold KOk at hk
        cases hkk : x.k with
        | turn pre laid post y =>
          rw [hkk] at hk
          have := hk.2.2.1
          rw [hp] at this
          exact this
        | _ => rw [hkk] at hx; cases hx
/-- what a turn of the chain has ahead of it -/
theorem turn_ahead (hc : Closed s E) {r : Rec} {l : List Rec} (h : WF P call ops s (r :: l)) (ht : r.k.isTurn = true) (hb : ∀ j, bit (s.bef r.i) j = true → E j) : ∀ x ∈ l, x.k.isTurn = true → E x.i := by
  refine turns_in hc h.2.2.2.2.2 fun p hp => hb p ?_
  have hk := h.2.2.2.2.1
  unfold KOk at hk
  cases hkk : r.k with
  | turn pre laid post y =>
    rw [hkk] at hk
    have := hk.2.2.1
    rw [hp] at this
    exact this
  | _ => rw [hkk] at ht; cases ht
theorem WF.tail : ∀ {l1 l2 : List Rec}, WF P call ops s (l1 ++ l2) → WF P call ops s l2
  | [], _, h => h
  | _ :: l1, _, h => WF.tail (l1 := l1) h.2.2.2.2.2
theorem turns_behind (hc : Closed s E) {l1 l2 : List Rec} {r : Rec} (h : WF P call ops s (l1 ++ r :: l2)) (ht : r.k.isTurn = true) (hr : ¬ E r.i) : ∀ x ∈ l1, x.k.isTurn = true → ¬ E x.i := by
  intro x hx hxt hE
  obtain ⟨a, b, rfl⟩ := List.append_of_mem hx
  rw [List.append_assoc, List.cons_append] at h
  have h' := WF.tail h
  exact hr (turn_ahead hc h' hxt (fun j hj => hc x.i hE j hj) r (by simp) ht)
theorem heapE_turns : ∀ {l : List Rec}, (∀ r ∈ l, r.k.isTurn = true → E r.i) → heapE s E l = heapOf s l
  | [], _ => rfl
  | r :: l, h => by
    have ih := heapE_turns (l := l) fun x hx => h x (List.mem_cons_of_mem _ hx)
    have hr := h r (List.mem_cons_self ..)
    simp only [heapE, heapOf]
    cases hk : r.k <;> rw [hk] at hr <;> first | exact ih | exact if_pos (hr rfl)
theorem heapE_skip : ∀ {l1 l : List Rec}, (∀ r ∈ l1, r.k.isTurn = true → ¬ E r.i) → heapE s E (l1 ++ l) = heapE s E l
  | [], l, _ => rfl
  | r :: l1, l, h => by
    have ih := heapE_skip (l1 := l1) (l := l) fun x hx => h x (List.mem_cons_of_mem _ hx)
    have hr := h r (List.mem_cons_self ..)
    simp only [List.cons_append, heapE]
    cases hk : r.k <;> rw [hk] at hr <;> first | exact ih | exact (if_neg (hr rfl)).trans ih
theorem heapE_out {r : Rec} {l : List Rec} (hr : ¬ E r.i) : heapE s E (r :: l) = heapE s E l := by
  simp only [heapE]
  split
  · exact if_neg hr
  · rfl
/-- a turn that is ready meets the heap that the evaluator gave it -/
theorem heapE_ready (hc : Closed s E) {l1 l2 : List Rec} {r : Rec} (h : WF P call ops s (l1 ++ r :: l2)) (ht : r.k.isTurn = true) (hr : ¬ E r.i) (hb : ∀ j, bit (s.bef r.i) j = true → E j) :
    heapE s E (l1 ++ r :: l2) = heapOf s l2 := by
  rw [heapE_skip (turns_behind hc h ht hr), ← heapE_turns (E := E) (turn_ahead hc (WF.tail h) ht hb)]
  exact heapE_out hr
/-- a read that is ready: in what heap it may stand -/
theorem hist_turn {r : Rec} {l : List Rec} {pre laid post : AH} {x : AT} (hk : r.k = .turn pre laid post x) : histOf (r :: l) = (r.i, pre) :: histOf l := by
  simp only [histOf, hk]
theorem hist_sub {r : Rec} {l : List Rec} {q : Nat × AH} (h : q ∈ histOf l) : q ∈ histOf (r :: l) := by
  simp only [histOf]
  split
  · exact List.mem_cons_of_mem _ h
  · exact h
theorem mem_hist {r : Rec} {pre laid post : AH} {x : AT} (hk : r.k = .turn pre laid post x) {l : List Rec} (hr : r ∈ l) : (r.i, pre) ∈ histOf l := by
  induction l with
  | nil => cases hr
  | cons y l ih =>
    rcases List.mem_cons.1 hr with h | h
    · rw [← h, hist_turn hk]; exact List.mem_cons_self ..
    · exact hist_sub (ih h)
end Go.Proofs.YtbjddfeihhdpoaaGreatDoor
namespace Go.Proofs.YtbjddfeihhdpoaaGreatDoor
open Go
variable {P : Program} {call : Caller} {ops : Array Oper} {s : St} {E : Nat → Prop}

theorem past_in {b : Nat} {o : Oper} {F : T AT} {v : AT} (hb : ∀ j, bit b j = true → E j) : ∀ {l : List (Nat × AH)}, l.Pairwise (fun x y => E x.1 → E y.1) → past P b o F v l = true → ∀ x ∈ l, ¬ E x.1 → opA P x.2 F 0 o = .v v
  | [], _, _, x, hx, _ => by cases hx
  | y :: l, hp, e, x, hx, hn => by
    obtain ⟨h1, h2⟩ := List.pairwise_cons.1 hp
    simp only [past] at e
    cases hy : bit b y.1 with
    | true =>
      rcases List.mem_cons.1 hx with rfl | hx
      · exact absurd (hb _ hy) hn
      · exact absurd (h1 x hx (hb _ hy)) hn
    | false =>
      rw [hy] at e
      simp only at e
      split at e
      · rename_i ha
        rcases List.mem_cons.1 hx with rfl | hx
        · exact again_ok ha
        · exact past_in hb h2 e x hx hn
      · cases e
theorem hist_inv {q : Nat × AH} {l : List Rec} (h : q ∈ histOf l) : ∃ r ∈ l, r.k.isTurn = true ∧ r.i = q.1 := by
  induction l with
  | nil => cases h
  | cons y l ih =>
    simp only [histOf] at h
    split at h
    · rename_i hk
      rcases List.mem_cons.1 h with rfl | h
      · exact ⟨y, List.mem_cons_self .., by rw [hk]; rfl, rfl⟩
      · obtain ⟨r, h1, h2⟩ := ih h; exact ⟨r, List.mem_cons_of_mem _ h1, h2⟩
    · obtain ⟨r, h1, h2⟩ := ih h; exact ⟨r, List.mem_cons_of_mem _ h1, h2⟩
theorem hist_pair (hc : Closed s E) : ∀ {l : List Rec}, WF P call ops s l → (histOf l).Pairwise (fun x y => E x.1 → E y.1)
  | [], _ => List.Pairwise.nil
  | y :: l, h => by
    have ih := hist_pair hc h.2.2.2.2.2
    simp only [histOf]
    split
    · rename_i hk
      refine List.pairwise_cons.2 ⟨fun q hq hE => ?_, ih⟩
      obtain ⟨r, h1, h2, h3⟩ := hist_inv hq
      rw [← h3]
      exact turn_ahead hc h (by rw [hk]; rfl) (fun j hj => hc y.i hE j hj) r h1 h2
    · exact ih
theorem seen_in {r : Rec} {x : AT} (hk : r.k = .read x) {l2 : List Rec} : ∀ {l1 : List Rec}, (∀ c ∈ l1, c.k.isTurn = true → bit (s.bef c.i) r.i = false) → (r.i, r.o, r.F, x) ∈ seenOf s (l1 ++ r :: l2)
  | [], _ => by
    simp only [List.nil_append, seenOf, hk]
    exact List.mem_cons_self ..
  | c :: l1, h => by
    have ih := seen_in hk (l2 := l2) (l1 := l1) fun y hy => h y (List.mem_cons_of_mem _ hy)
    simp only [List.cons_append, seenOf]
    split
    · rename_i hkc
      exact mem_drop1.2 ⟨ih, h c (List.mem_cons_self ..) (by rw [hkc]; rfl)⟩
    · exact List.mem_cons_of_mem _ ih
    · exact ih
/-- the last record of a list that is so -/
theorem first_split {α : Type} (p : α → Prop) : ∀ (l : List α), (∀ x ∈ l, ¬ p x) ∨ ∃ a c b, l = a ++ c :: b ∧ p c ∧ ∀ x ∈ a, ¬ p x
  | [] => .inl fun _ h => by cases h
  | y :: l => by
    by_cases hy : p y
    · exact .inr ⟨[], y, l, rfl, hy, fun _ h => by cases h⟩
    · rcases first_split p l with h | ⟨a, c, b, rfl, h1, h2⟩
      · exact .inl fun x hx => by
          rcases List.mem_cons.1 hx with rfl | hx
          · exact hy
          · exact h x hx
      · exact .inr ⟨y :: a, c, b, rfl, h1, fun x hx => by
          rcases List.mem_cons.1 hx with rfl | hx
          · exact hy
          · exact h2 x hx⟩
theorem heapE_in {r : Rec} {l : List Rec} {pre laid post : AH} {x : AT} (hk : r.k = .turn pre laid post x) (hr : E r.i) : heapE s E (r :: l) = post := by
  simp only [heapE, hk]
  exact if_pos hr
theorem turn_form {k : Knd} (h : k.isTurn = true) : ∃ pre laid post x, k = .turn pre laid post x := by
  cases k with
  | turn a b c d => exact ⟨a, b, c, d, rfl⟩
  | _ => cases h
/-- a read that is ready answers as the evaluator said -/
theorem read_ready (hc : Closed s E) {l1 l2 : List Rec} {r : Rec} {x : AT} (h : WF P call ops s (l1 ++ r :: l2)) (hk : r.k = .read x) (hr : ¬ E r.i) (hb : ∀ j, bit (s.bef r.i) j = true → E j) :
    ∃ id, opA P (heapE s E (l1 ++ r :: l2)) r.F id r.o = .v x := by
  have hw := WF.tail h
  have hko := hw.2.2.2.2.1
  simp only [KOk, hk] at hko
  obtain ⟨h1, h2, h3⟩ := hko
  rcases first_split (fun c : Rec => c.k.isTurn = true ∧ E c.i) l1 with hno | ⟨a, c, b, rfl, ⟨hct, hcE⟩, ha⟩
  · rw [heapE_skip fun y hy ht hE => hno y hy ⟨ht, hE⟩, heapE_out hr]
    rcases first_split (fun c : Rec => c.k.isTurn = true ∧ ¬ E c.i) l2.reverse with hall | ⟨a, c, b, hl, ⟨hct, hcE⟩, ha⟩
    · rw [heapE_turns fun y hy ht => Classical.byContradiction fun hE => hall y (List.mem_reverse.2 hy) ⟨ht, hE⟩]
      exact ⟨_, h2⟩
    · have hl2 : l2 = b.reverse ++ c :: a.reverse := by
        have := congrArg List.reverse hl
        simpa using this
      obtain ⟨pre, laid, post, y, hck⟩ := turn_form hct
      have hw2 : WF P call ops s (b.reverse ++ c :: a.reverse) := by rw [← hl2]; exact hw.2.2.2.2.2
      have hpre : heapE s E l2 = pre := by
        rw [hl2, heapE_skip (turns_behind hc hw2 hct hcE), heapE_out hcE, heapE_turns fun y hy ht => Classical.byContradiction fun hE => ha y (List.mem_reverse.1 hy) ⟨ht, hE⟩]
        have := (WF.tail hw2).2.2.2.2.1
        simp only [KOk, hck] at this
        exact this.1.symm
      rw [hpre]
      have hm : (c.i, pre) ∈ histOf l2 := mem_hist hck (by rw [hl2]; simp)
      exact ⟨0, past_in hb (hist_pair hc hw.2.2.2.2.2) h3 (c.i, pre) hm hcE⟩
  · obtain ⟨pre, laid, post, y, hck⟩ := turn_form hct
    have hw2 : WF P call ops s (c :: (b ++ r :: l2)) := by
      have h' := h
      rw [List.append_assoc] at h'
      exact WF.tail h'
    have hp : heapE s E (a ++ c :: b ++ r :: l2) = post := by
      rw [List.append_assoc, heapE_skip fun y hy ht hE => ha y hy ⟨ht, hE⟩]
      exact heapE_in hck hcE
    rw [hp]
    have hf := hw2.2.2.2.2.1
    simp only [KOk, hck] at hf
    have hbit : ∀ d : Rec, E d.i → bit (s.bef d.i) r.i = false := fun d hd => by
      cases hbb : bit (s.bef d.i) r.i with
      | false => rfl
      | true => exact absurd (hc d.i hd r.i hbb) hr
    refine ⟨0, future_ok hf.2.2.2.2 (r.i, r.o, r.F, x) (seen_in hk fun d hd ht => hbit d ?_) (hbit c hcE)⟩
    exact turn_ahead hc hw2 hct (fun j hj => hc c.i hcE j hj) d (by simp [hd]) ht
end Go.Proofs.YtbjddfeihhdpoaaGreatDoor
namespace Go.Proofs.YtbjddfeihhdpoaaGreatDoor
open Go
variable {P : Program} {call : Caller} {ops : Array Oper} {s : St} {E : Nat → Prop}

def Back (s : St) : Prop := ∀ i j, bit (s.bef i) j = true → j < i
/-- the blocks that wait -/
theorem mem_pendE (hB : Back s) {x : Nat × Nat × Blk} : ∀ {l : List Rec}, WF P call ops s l →
    (x ∈ pendE s E l ↔ ∃ r ∈ l, ∃ k y, r.k = .mk k y ∧ E r.i ∧ x = (r.i, s.base + r.i, k) ∧ ∀ c ∈ l, c.k.isTurn = true → E c.i → bit (s.bef c.i) r.i = false)
  | [], _ => by simp [pendE]
  | y :: l, h => by
    have hw := h.2.2.2.2.2
    have ih := mem_pendE hB (x := x) hw
    simp only [pendE]
    split
    · rename_i pre laid post z hk
      have hny : ∀ k u, y.k ≠ .mk k u := fun k u e => by rw [hk] at e; cases e
      by_cases hE : E y.i
      · rw [if_pos hE, mem_drop1, ih]
        constructor
        · rintro ⟨⟨r, hr, k, u, h1, h2, rfl, h3⟩, h4⟩
          refine ⟨r, List.mem_cons_of_mem _ hr, k, u, h1, h2, rfl, fun c hc ht hcE => ?_⟩
          rcases List.mem_cons.1 hc with rfl | hc
          · exact h4
          · exact h3 c hc ht hcE
        · rintro ⟨r, hr, k, u, h1, h2, rfl, h3⟩
          rcases List.mem_cons.1 hr with rfl | hr
          · exact absurd h1 (hny k u)
          · exact ⟨⟨r, hr, k, u, h1, h2, rfl, fun c hc => h3 c (List.mem_cons_of_mem _ hc)⟩, h3 y (List.mem_cons_self ..) (by rw [hk]; rfl) hE⟩
      · rw [if_neg hE, ih]
        constructor
        · rintro ⟨r, hr, k, u, h1, h2, rfl, h3⟩
          refine ⟨r, List.mem_cons_of_mem _ hr, k, u, h1, h2, rfl, fun c hc ht hcE => ?_⟩
          rcases List.mem_cons.1 hc with rfl | hc
          · exact absurd hcE hE
          · exact h3 c hc ht hcE
        · rintro ⟨r, hr, k, u, h1, h2, rfl, h3⟩
          rcases List.mem_cons.1 hr with rfl | hr
          · exact absurd h1 (hny k u)
          · exact ⟨r, hr, k, u, h1, h2, rfl, fun c hc => h3 c (List.mem_cons_of_mem _ hc)⟩
    · rename_i k z hk
      have hyt : y.k.isTurn = false := by rw [hk]; rfl
      have hold : (∃ r ∈ l, ∃ k y, r.k = .mk k y ∧ E r.i ∧ x = (r.i, s.base + r.i, k) ∧ ∀ c ∈ l, c.k.isTurn = true → E c.i → bit (s.bef c.i) r.i = false) →
          ∃ r ∈ y :: l, ∃ k u, r.k = .mk k u ∧ E r.i ∧ x = (r.i, s.base + r.i, k) ∧ ∀ c ∈ y :: l, c.k.isTurn = true → E c.i → bit (s.bef c.i) r.i = false := by
        rintro ⟨r, hr, k, u, h1, h2, rfl, h3⟩
        refine ⟨r, List.mem_cons_of_mem _ hr, k, u, h1, h2, rfl, fun c hc ht hcE => ?_⟩
        rcases List.mem_cons.1 hc with rfl | hc
        · rw [hyt] at ht; cases ht
        · exact h3 c hc ht hcE
      by_cases hE : E y.i
      · rw [if_pos hE, List.mem_cons, ih]
        constructor
        · rintro (rfl | hh)
          · refine ⟨y, List.mem_cons_self .., k, z, hk, hE, rfl, fun c hc ht hcE => ?_⟩
            rcases List.mem_cons.1 hc with rfl | hc
            · rw [hyt] at ht; cases ht
            · cases hb : bit (s.bef c.i) y.i with
              | false => rfl
              | true =>
                have h1 := hB _ _ hb
                have h2 := WF.lt hw c hc
                have h3 := h.1
                omega
          · exact hold hh
        · rintro ⟨r, hr, k', u, h1, h2, rfl, h3⟩
          rcases List.mem_cons.1 hr with rfl | hr
          · rw [hk] at h1; cases h1; exact .inl rfl
          · exact .inr ⟨r, hr, k', u, h1, h2, rfl, fun c hc => h3 c (List.mem_cons_of_mem _ hc)⟩
      · rw [if_neg hE, ih]
        refine ⟨hold, ?_⟩
        rintro ⟨r, hr, k', u, h1, h2, rfl, h3⟩
        rcases List.mem_cons.1 hr with rfl | hr
        · exact absurd h2 hE
        · exact ⟨r, hr, k', u, h1, h2, rfl, fun c hc => h3 c (List.mem_cons_of_mem _ hc)⟩
    · rename_i hnt hnm
      rw [ih]
      constructor
      · rintro ⟨r, hr, k, u, h1, h2, rfl, h3⟩
        refine ⟨r, List.mem_cons_of_mem _ hr, k, u, h1, h2, rfl, fun c hc ht hcE => ?_⟩
        rcases List.mem_cons.1 hc with rfl | hc
        · obtain ⟨a, b, d, e, hk⟩ := turn_form ht; exact absurd hk (hnt a b d e)
        · exact h3 c hc ht hcE
      · rintro ⟨r, hr, k, u, h1, h2, rfl, h3⟩
        rcases List.mem_cons.1 hr with rfl | hr
        · exact absurd h1 (hnm k u)
        · exact ⟨r, hr, k, u, h1, h2, rfl, fun c hc => h3 c (List.mem_cons_of_mem _ hc)⟩
theorem pendE_one (hB : Back s) {l : List Rec} (h : WF P call ops s l) : ∀ x ∈ pendE s E l, ∀ y ∈ pendE s E l, x.2.1 = y.2.1 → x = y := by
  intro x hx y hy e
  obtain ⟨r, hr, k, u, h1, h2, rfl, _⟩ := (mem_pendE hB h).1 hx
  obtain ⟨q, hq, j, v, h3, h4, rfl, _⟩ := (mem_pendE hB h).1 hy
  have e : s.base + r.i = s.base + q.i := e
  have hi : r.i = q.i := by omega
  have hrq : r = q := by
    have : ∀ {l : List Rec}, WF P call ops s l → ∀ r ∈ l, ∀ q ∈ l, r.i = q.i → r = q := by
      intro l
      induction l with
      | nil => intro _ r hr; cases hr
      | cons z l ih =>
        intro h r hr q hq e
        have hw := h.2.2.2.2.2
        rcases List.mem_cons.1 hr with hr | hr <;> rcases List.mem_cons.1 hq with hq | hq
        · rw [hr, hq]
        · have := WF.lt hw q hq; have := h.1; rw [hr] at e; omega
        · have := WF.lt hw r hr; have := h.1; rw [hq] at e; omega
        · exact ih hw r hr q hq e
    exact this h r hr q hq hi
  subst hrq
  rw [h1] at h3; cases h3
  rfl
end Go.Proofs.YtbjddfeihhdpoaaGreatDoor
namespace Go.Proofs.YtbjddfeihhdpoaaGreatDoor
open Go
variable {P : Program} {call : Caller} {ops : Array Oper} {s : St} {E : Nat → Prop}

theorem layAll_iff {l : List (Nat × Nat × Blk)} {t : T Blk} {c : Nat} {k : Blk} (hd : ∀ x ∈ l, ∀ y ∈ l, x.2.1 = y.2.1 → x = y) :
    (layAll l t).get c = some k ↔ (∃ x ∈ l, x.2.1 = c ∧ x.2.2 = k) ∨ ((∀ x ∈ l, x.2.1 ≠ c) ∧ t.get c = some k) := by
  rw [layAll_get l t c hd]
  cases hf : l.find? (fun x => x.2.1 == c) with
  | none =>
    have hn : ∀ x ∈ l, x.2.1 ≠ c := fun x hx e => by
      have := List.find?_eq_none.1 hf x hx
      simp [e] at this
    constructor
    · intro h; exact .inr ⟨hn, h⟩
    · rintro (⟨x, hx, e, _⟩ | ⟨_, h⟩)
      · exact absurd e (hn x hx)
      · exact h
  | some x =>
    have h1 := List.mem_of_find?_eq_some hf
    have h2 : x.2.1 = c := by simpa using List.find?_some hf
    constructor
    · intro h; exact .inl ⟨x, h1, h2, by injection h⟩
    · rintro (⟨y, hy, e, hk⟩ | ⟨hn, _⟩)
      · rw [hd x h1 y hy (by rw [h2, e])]; exact congrArg some hk
      · exact absurd h2 (hn x h1)
/-- the heap of a set under way -/
noncomputable def aE (s : St) (E : Nat → Prop) (l : List Rec) : AH := ⟨layAll (pendE s E l) (heapE s E l).t, (heapE s E l).n⟩
theorem aE_get (hB : Back s) {l : List Rec} (h : WF P call ops s l) {c : Nat} {k : Blk} :
    (aE s E l).t.get c = some k ↔ (∃ x ∈ pendE s E l, x.2.1 = c ∧ x.2.2 = k) ∨ ((∀ x ∈ pendE s E l, x.2.1 ≠ c) ∧ (heapE s E l).t.get c = some k) :=
  layAll_iff (pendE_one hB h)
/-- a part of a heap is right where the heap is -/
theorem Rel.part {ι : Map} {h h' : AH} {w : World} (R : Rel ι h w) (ht : ∀ b k, h'.t.get b = some k → h.t.get b = some k) (hn : h'.n = h.n) : Rel ι h' w :=
  ⟨fun b k hb => R.blk b k (ht b k hb), fun b c k j r y z hb hc => R.inj b c k j r y z (ht b k hb) (ht c j hc), fun b hb => R.fresh b (by rw [← hn]; exact hb)⟩
end Go.Proofs.YtbjddfeihhdpoaaGreatDoor
