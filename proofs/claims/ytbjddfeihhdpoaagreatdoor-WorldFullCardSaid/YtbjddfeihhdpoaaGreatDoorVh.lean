import Derived.Test.YtbjddfeihhdpoaaGreatDoorVg
import Derived.Test.YtbjddfeihhdpoaaGreatDoorProg
import Derived.KernelRfl
import Derived.Test.YtbjddfeihhdpoaaGreatDoorShelf
set_option linter.unusedVariables false
set_option linter.unusedSimpArgs false
namespace Go.Proofs.YtbjddfeihhdpoaaGreatDoor
open Go

/-! what is asked of the program, by the kernel -/
def nameIs (s : String) (k : Nat) : List Func → Nat → Bool
  | [], _ => true
  | f :: l, i => (match f.name == s with
    | true => Nat.beq i k
    | false => true) && nameIs s k l (i + 1)
theorem nameIs_ok {s : String} {k : Nat} : ∀ {l : List Func} {i : Nat}, nameIs s k l i = true → ∀ j f, l[j]? = some f → (f.name == s) = true → i + j = k
  | [], _, _, j, f, h, _ => by simp at h
  | x :: l, i, h, j, f, hj, hs => by
    simp only [nameIs, Bool.and_eq_true] at h
    cases j with
    | zero =>
      simp only [List.getElem?_cons_zero, Option.some.injEq] at hj
      subst hj
      rw [hs] at h
      exact eq_beq h.1
    | succ j =>
      have := nameIs_ok h.2 j f (by simpa using hj) hs
      omega
theorem at_list {P : Program} {g : FuncId} {fn : Func} (h : P.funcs[g]? = some fn) : P.funcs.toList[g]? = some fn := by simpa using h
noncomputable def dstF (fn : Func) : Bool := match fn.body with
  | some c => dstOk fn.ntmps c
  | none => true
noncomputable def dstL : List Func → Bool
  | [] => true
  | f :: l => dstF f && dstL l
theorem dstL_ok : ∀ {l : List Func}, dstL l = true → ∀ f ∈ l, dstF f = true
  | [], _, f, hf => by cases hf
  | x :: l, h, f, hf => by
    simp only [dstL, Bool.and_eq_true] at h
    rcases List.mem_cons.1 hf with rfl | hf
    · exact h.1
    · exact dstL_ok h.2 f hf
theorem ng_all : nameIs "runtime.NumGoroutine" 1000000 Tryz.prog.funcs.toList 0 = true := by kernel_rfl
theorem clone_all : nameIs "maps.clone" 284 Tryz.prog.funcs.toList 0 = true := by kernel_rfl
theorem noesc_all : nameIs "internal/abi.NoEscape" 383 Tryz.prog.funcs.toList 0 = true := by kernel_rfl
theorem dst_all : dstL Tryz.prog.funcs.toList = true := by kernel_rfl
theorem dst_ok : DstOk Tryz.prog := fun f fn c h hb => by
  have := dstL_ok dst_all fn (List.mem_of_getElem? (at_list h))
  unfold dstF at this
  rw [hb] at this
  exact this
theorem clone_f : Extern.findNext Tryz.f284 = none ∧ Extern.find Tryz.f284 = some Extern.MapsClone.clone := ⟨by kernel_rfl, by kernel_rfl⟩
theorem noesc_f : Extern.findNext Tryz.f383 = none ∧ Extern.find Tryz.f383 = some Extern.AbiNoEscape.same := ⟨by kernel_rfl, by kernel_rfl⟩
theorem prg_ok : Prg Tryz.prog where
  mix := by kernel_rfl
  ng g fn h := by
    cases e : fn.name == "runtime.NumGoroutine" with
    | false => rfl
    | true =>
      have h1 := nameIs_ok ng_all g fn (at_list h) e
      have h2 : Tryz.prog.funcs.size ≤ 1000000 := Nat.le_of_ble_eq_true (by kernel_rfl)
      obtain ⟨h3, _⟩ := Array.getElem?_eq_some_iff.1 h
      have h1 : 0 + (g : Nat) = 1000000 := h1
      have h3 : (g : Nat) < Tryz.prog.funcs.size := h3
      omega
  clone g fn h e hb := by
    have h1 := nameIs_ok clone_all g fn (at_list h) e
    have h1 : 0 + (g : Nat) = 284 := h1
    have hg : g = 284 := by rw [← h1]; exact (Nat.zero_add _).symm
    subst hg
    have := Tryz.func284.symm.trans h
    cases this
    exact clone_f
  noesc g fn h e hb := by
    have h1 := nameIs_ok noesc_all g fn (at_list h) e
    have h1 : 0 + (g : Nat) = 383 := h1
    have hg : g = 383 := by rw [← h1]; exact (Nat.zero_add _).symm
    subst hg
    have := Tryz.func383.symm.trans h
    cases this
    exact noesc_f
end Go.Proofs.YtbjddfeihhdpoaaGreatDoor
namespace Go.Proofs.YtbjddfeihhdpoaaGreatDoor
open Go

/-! the overrides, and the evaluator of the program -/
def gsK (g : Nat) : Bool := Nat.beq g 123 || (Nat.beq g 124 || Nat.beq g 127)
noncomputable def ov1 : Ov := fun f => match Nat.beq f 61 with
  | true => some (sortedA gsK 3)
  | false => none
noncomputable def ov2 (n : Nat) : Ov := fun f => match Nat.beq f 92 with
  | true => some (fun h l => evFnS Tryz.prog (evN Tryz.prog ov1 n).1 (evN Tryz.prog ov1 n).2 n 92 l h)
  | false => ov1 f
theorem sorts_in (m : Nat) : AnyZI.SortsIn Tryz.prog Tryz.sorted_ren Fence.wide m :=
  ⟨fun blk off cap ss W hH hblk hsz => callsIn_wide.2 (AnyM.slices_Sort_int Tryz.sort blk off cap ss W hH hblk hsz), fun p cap W => callsIn_wide.2 (AnyM.slices_Sort_int_none Tryz.sort p cap W)⟩
theorem ov1_ok : OvOk Tryz.prog ov1 := by
  intro f g e
  unfold ov1 at e
  split at e
  · rename_i hf
    have hf := eq_beq hf
    subst hf
    cases e
    have := sorted_ok (P := Tryz.prog) (ρs := Tryz.sorted_ren) (gs := gsK) (e := 3) { Tryz.sorted with } rfl Tryz.underlying3 (sorts_in 4) (enters_of Tryz.func122 (by kernel_rfl) rfl) fun g hg => by
      unfold gsK at hg
      simp only [Bool.or_eq_true] at hg
      rcases hg with hg | hg | hg
      · have hg := eq_beq hg
        subst hg
        exact ⟨Tryz.keysA_ren, { Tryz.keysA with }, rfl, rfl, enters_of Tryz.func123 (by kernel_rfl) rfl⟩
      · have hg := eq_beq hg
        subst hg
        exact ⟨Tryz.keysB_ren, { Tryz.keysB with }, rfl, rfl, enters_of Tryz.func124 (by kernel_rfl) rfl⟩
      · have hg := eq_beq hg
        subst hg
        exact ⟨Tryz.keysC_ren, { Tryz.keysC with }, rfl, rfl, enters_of Tryz.func127 (by kernel_rfl) rfl⟩
    exact this
  · cases e
theorem base_ok (n : Nat) : CodeOk Tryz.prog (evN Tryz.prog ov1 n).1 ∧ CallOk Tryz.prog (evN Tryz.prog ov1 n).2 :=
  let ⟨h1, _, h3⟩ := evN_ok prg_ok dst_ok ov1_ok (fun _ hc => reg_ok prg_ok hc) n
  ⟨h1, h3⟩
theorem ov2_ok (n : Nat) : OvOk Tryz.prog (ov2 n) := by
  intro f g e
  unfold ov2 at e
  split at e
  · rename_i hf
    have hf := eq_beq hf
    subst hf
    have e := Option.some.inj e
    rw [← e]
    exact evFnS_ok prg_ok dst_ok (base_ok n).1 (base_ok n).2
  · exact ov1_ok f g e
/-- the evaluator of the program -/
noncomputable abbrev ev (n : Nat) : Coder × Caller := evN Tryz.prog (ov2 n) n
theorem code_ok (n : Nat) : CodeOk Tryz.prog (ev n).1 := (evN_ok prg_ok dst_ok (ov2_ok n) (fun _ hc => reg_ok prg_ok hc) n).1
theorem loop_ok (n : Nat) : LoopOk Tryz.prog n (ev n).1 := (evN_ok prg_ok dst_ok (ov2_ok n) (fun _ hc => reg_ok prg_ok hc) n).2.1
theorem call_ok (n : Nat) : CallOk Tryz.prog (ev n).2 := (evN_ok prg_ok dst_ok (ov2_ok n) (fun _ hc => reg_ok prg_ok hc) n).2.2
end Go.Proofs.YtbjddfeihhdpoaaGreatDoor
namespace Go.Proofs.YtbjddfeihhdpoaaGreatDoor
open Go
variable {ι κ : Map} {h : AH} {w : World} {F : T AT} {a : Act}

/-! what code does, from one state to another; the number called 0 is n0 -/
def Trip (n0 M : Nat) (c : Code) (F : T AT) (h : AH) (x : EX) (F' : T AT) (h' : AH) : Prop := ∀ (n : Nat) (Q : Exit → Act → World → Prop) (D : List Deferred) (ι : Map) (a : Act) (w : World), ι 0 = some (n0, 0) → Rel ι h w → RA ι F M D a → Goes ι h w M D F' h' (Q x.to) → c.wpIn Fence.wide n Tryz.prog Q a w
def LTrip (n0 M m : Nat) (c : Code) (F : T AT) (h : AH) (x : EX) (F' : T AT) (h' : AH) : Prop := ∀ (n : Nat) (Q : Exit → Act → World → Prop) (D : List Deferred) (ι : Map) (a : Act) (w : World), ι 0 = some (n0, 0) → Rel ι h w → RA ι F M D a → Goes ι h w M D F' h' (Q x.to) → Code.roundsIn Fence.wide n Tryz.prog c Q m a w
def Sub (F' F : T AT) : Prop := ∀ t x, F'.get t = some x → F.get t = some x
def SubB (k' k : Blk) : Prop := ∀ (ι : Map) (z : Nat) (o : Option Obj), k.ok ι z o → k'.ok ι z o
structure SubH (h' h : AH) : Prop where
  blk : ∀ b k', h'.t.get b = some k' → ∃ k, h.t.get b = some k ∧ SubB k' k
  num : h.n ≤ h'.n
theorem RA.sub {F' : T AT} {M : Nat} {D : List Deferred} (r : RA ι F M D a) (s : Sub F' F) : RA ι F' M D a := ⟨fun t x e => r.frm t x (s t x e), r.size, r.defs⟩
theorem Rel.sub {h' : AH} (R : Rel ι h w) (s : SubH h' h) : Rel ι h' w :=
  ⟨fun b k hb => let ⟨j, hj, hs⟩ := s.blk b k hb; let ⟨r, z, e, hk⟩ := R.blk b j hj; ⟨r, z, e, hs _ _ _ hk⟩,
   fun b c k j r y z hb hc eb ec => let ⟨_, hj, _⟩ := s.blk b k hb; let ⟨_, hi, _⟩ := s.blk c j hc; R.inj b c _ _ r y z hj hi eb ec, fun b hb => R.fresh b (Nat.le_trans s.num hb)⟩
theorem Keep.sub {h' g : AH} {w' : World} (K : Keep ι h' w κ g w') (s : SubH h' h) : Keep ι h w κ g w' :=
  ⟨⟨K.1.1, fun r hr hn => K.1.2 r hr fun ⟨b, k, z, hb, e⟩ => let ⟨j, hj, _⟩ := s.blk b k hb; hn ⟨b, j, z, hj, e⟩⟩, Nat.le_trans s.num K.2.1, fun b hb => K.2.2.1 b (Nat.lt_of_lt_of_le hb s.num), K.2.2.2⟩
theorem Trip.forget {n0 M : Nat} {c : Code} {F0 F' : T AT} {h0 h' : AH} {x : EX} (t : Trip n0 M c F0 h0 x F' h') (sF : Sub F0 F) (sH : SubH h0 h) : Trip n0 M c F h x F' h' :=
  fun n Q D ι a w h0' R r g => t n Q D ι a w h0' (R.sub sH) (r.sub sF) fun κ a' w' hE R' K' r' => g κ a' w' hE R' (K'.sub sH) r'
theorem LTrip.forget {n0 M m : Nat} {c : Code} {F0 F' : T AT} {h0 h' : AH} {x : EX} (t : LTrip n0 M m c F0 h0 x F' h') (sF : Sub F0 F) (sH : SubH h0 h) : LTrip n0 M m c F h x F' h' :=
  fun n Q D ι a w h0' R r g => t n Q D ι a w h0' (R.sub sH) (r.sub sF) fun κ a' w' hE R' K' r' => g κ a' w' hE R' (K'.sub sH) r'
theorem Trip.of_eval {n0 N M k : Nat} {c : Code} {F' : T AT} {h' : AH} {x : EX} (hd : dstOk N c = true) (hN : N ≤ M) (e : (ev k).1 c F h = some (x, F', h')) : Trip n0 M c F h x F' h' :=
  fun n Q D ι a w _ R r g => code_ok k Fence.wide n Q N M D c x F F' h h' ι a w (wide_wide _) R r hd hN e g
theorem Trip.seq {n0 M : Nat} {c d : Code} {F1 F2 : T AT} {h1 h2 : AH} {x : EX} (t1 : Trip n0 M c F h .normal F1 h1) (t2 : Trip n0 M d F1 h1 x F2 h2) : Trip n0 M (.seq c d) F h x F2 h2 :=
  fun n Q D ι a w h0 R r g => wpIn_seq (t1 n _ D ι a w h0 R r fun κ a1 w1 hE R1 K1 r1 => t2 n Q D κ a1 w1 (hE _ _ h0) R1 r1 (g.step hE K1))
theorem Trip.ex {n0 M : Nat} {c : Code} {F1 F2 : T AT} {h1 h2 : AH} {x : EX} (e : ∃ F' h', Trip n0 M c F h x F' h' ∧ Sub F1 F' ∧ SubH h1 h') (x' : EX) (d : Code) (t2 : Trip n0 M d F1 h1 x' F2 h2) : ∃ F' h', Trip n0 M c F h x F' h' ∧ Trip n0 M d F' h' x' F2 h2 :=
  let ⟨F', h', t, s1, s2⟩ := e; ⟨F', h', t, t2.forget s1 s2⟩
/-- a block around a loop that is left by its own exit -/
theorem LTrip.block {n0 M m i : Nat} {c : Code} {F1 : T AT} {h1 : AH} (t : LTrip n0 M m c F h (.exit i) F1 h1) : Trip n0 M (.block i (.loop c)) F h .normal F1 h1 :=
  fun n Q D ι a w h0 R r g => wpIn_block (wpIn_loop_rounds m (t n _ D ι a w h0 R r fun κ a1 w1 hE R1 K1 r1 => by
    show (if i = i then _ else _)
    rw [if_pos rfl]
    exact g κ a1 w1 hE R1 K1 r1))
/-- rounds of a loop -/
noncomputable def evK (code : Coder) (c : Code) (k : Nat) : T AT → AH → Option (T AT × AH) := Nat.rec (motive := fun _ => T AT → AH → Option (T AT × AH)) (fun F h => some (F, h)) (fun _ ih F h => match code c F h with
  | some (.normal, F1, h1) => ih F1 h1
  | _ => none) k
theorem LTrip.rounds {n0 N M m k : Nat} {c : Code} {x : EX} {F2 : T AT} {h2 : AH} (hd : dstOk N c = true) (hN : N ≤ M) : ∀ (j : Nat) {F F1 : T AT} {h h1 : AH}, evK (ev k).1 c j F h = some (F1, h1) → LTrip n0 M m c F1 h1 x F2 h2 → LTrip n0 M (m + j) c F h x F2 h2
  | 0, F, F1, h, h1, e, t => by
    have e : some (F, h) = some (F1, h1) := e
    cases e; exact t
  | j + 1, F, F1, h, h1, e, t => by
    have e : (match (ev k).1 c F h with
      | some (.normal, F1, h1) => evK (ev k).1 c j F1 h1
      | _ => none) = some (F1, h1) := e
    split at e
    · rename_i F0 g0 e0
      have ih := LTrip.rounds hd hN j e t
      intro n Q D ι a w h0 R r g
      show Code.roundsIn _ _ _ _ _ (m + j + 1) _ _
      rw [roundsIn_succ]
      exact Trip.of_eval (n0 := n0) hd hN e0 n _ D ι a w h0 R r fun κ a1 w1 hE R1 K1 r1 => ih n Q D κ a1 w1 (hE _ _ h0) R1 r1 (g.step hE K1)
    · cases e
/-- the last round -/
theorem LTrip.last {n0 N M k i : Nat} {c : Code} {F1 : T AT} {h1 : AH} (hd : dstOk N c = true) (hN : N ≤ M) (e : (ev k).1 c F h = some (.exit i, F1, h1)) : LTrip n0 M 1 c F h (.exit i) F1 h1 :=
  fun n Q D ι a w h0 R r g => by
    rw [roundsIn_succ]
    exact Trip.of_eval (n0 := n0) hd hN e n _ D ι a w h0 R r g
/-- the number by its name, and as it is -/
theorem Trip.num {n0 M : Nat} {c : Code} {F' : T AT} {h' : AH} {x : EX} {t : Nat} (ht : F.get t = some (.o (.c (.qn 0)))) (tr : Trip n0 M c (F.set t (.o (.c (.v (.int .u8 (.ofNat n0)))))) h x F' h') : Trip n0 M c F h x F' h' :=
  fun n Q D ι a w h0 R r g => tr n Q D ι a w h0 R ⟨fun u y e => by
    rw [T.get_set] at e
    split at e
    · rename_i hu
      cases e
      obtain ⟨v, hv, r', z, er, hd⟩ := r.frm t _ ht
      rw [h0] at er; cases er
      exact ⟨v, by rw [hu]; exact hv, by rw [hd]; exact ⟨rfl, rfl⟩⟩
    · exact r.frm u y e, r.size, r.defs⟩ g

/-! states in the text -/
noncomputable def fOf : List (Nat × AT) → T AT
  | [] => .e
  | x :: l => (fOf l).set x.1 x.2
noncomputable def bOf : List (Nat × Blk) → T Blk
  | [] => .e
  | x :: l => (bOf l).set x.1 x.2
noncomputable def hOf (n : Nat) (l : List (Nat × Blk)) : AH := ⟨bOf l, n⟩
theorem fOf_mem : ∀ {l : List (Nat × AT)} {t : Nat} {x : AT}, (fOf l).get t = some x → (t, x) ∈ l
  | [], t, x, e => by simp [fOf, T.get_e] at e
  | y :: l, t, x, e => by
    simp only [fOf, T.get_set] at e
    split at e
    · rename_i h; cases e; subst h; exact List.mem_cons_self ..
    · exact List.mem_cons_of_mem _ (fOf_mem e)
theorem bOf_mem : ∀ {l : List (Nat × Blk)} {t : Nat} {x : Blk}, (bOf l).get t = some x → (t, x) ∈ l
  | [], t, x, e => by simp [bOf, T.get_e] at e
  | y :: l, t, x, e => by
    simp only [bOf, T.get_set] at e
    split at e
    · rename_i h; cases e; subst h; exact List.mem_cons_self ..
    · exact List.mem_cons_of_mem _ (bOf_mem e)
noncomputable def chkF (F : T AT) : List (Nat × AT) → Bool
  | [] => true
  | x :: l => (match F.get x.1 with
    | some y => sameT x.2 y
    | none => false) && chkF F l
noncomputable def subC (c c' : T AC) (n : Nat) : Bool := Nat.rec (motive := fun _ => Bool) true (fun i ih => (match c.get i with
  | some x => match c'.get i with
    | some y => sameC x y
    | none => false
  | none => true) && ih) n
def sameE : List AE → List AE → Bool
  | [], [] => true
  | x :: l, y :: m => sameV x.k y.k && (sameA x.v y.v && (Nat.beq x.born y.born && sameE l m))
  | _, _ => false
noncomputable def subK : Blk → Blk → Bool
  | .cells c n t, .cells c' n' t' => Nat.beq t t' && (Nat.ble n n' && subC c c' n)
  | .map l c, .map l' c' => Nat.beq c c' && sameE l l'
  | _, _ => false
noncomputable def chkB (t : T Blk) : List (Nat × Blk) → Bool
  | [] => true
  | x :: l => (match t.get x.1 with
    | some y => subK x.2 y
    | none => false) && chkB t l
theorem chkF_ok : ∀ {l : List (Nat × AT)}, chkF F l = true → ∀ t x, (t, x) ∈ l → F.get t = some x
  | [], _, t, x, h => by cases h
  | y :: l, e, t, x, h => by
    simp only [chkF, Bool.and_eq_true] at e
    rcases List.mem_cons.1 h with h | h
    · subst h
      have e := e.1
      split at e
      · rename_i z hz; exact hz.trans (congrArg some (sameT_eq e).symm)
      · cases e
    · exact chkF_ok e.2 t x h
theorem subC_ok {c c' : T AC} : ∀ {n : Nat}, subC c c' n = true → ∀ i x, i < n → c.get i = some x → c'.get i = some x
  | 0, _, i, x, h, _ => by omega
  | n + 1, e, i, x, h, hx => by
    have e : ((match c.get n with
      | some x => match c'.get n with
        | some y => sameC x y
        | none => false
      | none => true) && subC c c' n) = true := e
    rw [Bool.and_eq_true] at e
    by_cases hi : i = n
    · subst hi
      have e := e.1
      rw [hx] at e
      simp only at e
      split at e
      · rename_i y hy; rw [hy, sameC_eq e]
      · cases e
    · exact subC_ok e.2 i x (by omega) hx
theorem sameE_eq : ∀ {l m : List AE}, sameE l m = true → l = m
  | [], [], _ => rfl
  | ⟨k, v, b⟩ :: l, ⟨k', v', b'⟩ :: m, h => by
    simp only [sameE, Bool.and_eq_true] at h
    rw [sameV_eq h.1, sameA_eq h.2.1, eq_beq h.2.2.1, sameE_eq h.2.2.2]
  | [], _ :: _, h => by cases h
  | _ :: _, [], h => by cases h
theorem subK_ok {k' k : Blk} (h : subK k' k = true) : SubB k' k := by
  unfold subK at h
  split at h
  · simp only [Bool.and_eq_true] at h
    obtain ⟨h1, h2, h3⟩ := h
    have h1 := eq_beq h1
    have h2 := Nat.le_of_ble_eq_true h2
    subst h1
    rintro ι z o ⟨a, f, ho, hz, hn, hf, hx⟩
    exact ⟨a, f, ho, hz, Nat.le_trans h2 hn, hf, fun i x hi e => hx i x (Nat.lt_of_lt_of_le hi h2) (subC_ok h3 i x hi e)⟩
  · rw [Bool.and_eq_true] at h
    have h1 := eq_beq h.1
    have h2 := sameE_eq h.2
    subst h1; subst h2
    exact fun _ _ _ h => h
  · cases h
theorem chkB_ok {t : T Blk} : ∀ {l : List (Nat × Blk)}, chkB t l = true → ∀ b k', (b, k') ∈ l → ∃ k, t.get b = some k ∧ SubB k' k
  | [], _, b, k, h => by cases h
  | y :: l, e, b, k, h => by
    simp only [chkB, Bool.and_eq_true] at e
    rcases List.mem_cons.1 h with h | h
    · subst h
      have e := e.1
      split at e
      · rename_i z hz; exact ⟨z, hz, subK_ok e⟩
      · cases e
    · exact chkB_ok e.2 b k h
theorem sub_of {l : List (Nat × AT)} (h : chkF F l = true) : Sub (fOf l) F := fun t x e => chkF_ok h t x (fOf_mem e)
theorem subH_of {h : AH} {l : List (Nat × Blk)} {n : Nat} (e : chkB h.t l = true) (hn : Nat.ble h.n n = true) : SubH (hOf n l) h := ⟨fun b k hb => chkB_ok e b k (bOf_mem hb), Nat.le_of_ble_eq_true hn⟩
noncomputable def chkS (lF : List (Nat × AT)) (n : Nat) (lH : List (Nat × Blk)) (F : T AT) (h : AH) : Bool := chkF F lF && (chkB h.t lH && Nat.ble h.n n)
noncomputable def chkN (lF : List (Nat × AT)) (n : Nat) (lH : List (Nat × Blk)) : Option (EX × T AT × AH) → Bool
  | some (.normal, F, h) => chkS lF n lH F h
  | _ => false
noncomputable def chkX (i : Nat) (lF : List (Nat × AT)) (n : Nat) (lH : List (Nat × Blk)) : Option (EX × T AT × AH) → Bool
  | some (.exit j, F, h) => Nat.beq i j && chkS lF n lH F h
  | _ => false
noncomputable def chkK (lF : List (Nat × AT)) (n : Nat) (lH : List (Nat × Blk)) : Option (T AT × AH) → Bool
  | some (F, h) => chkS lF n lH F h
  | _ => false
theorem chkS_ok {lF : List (Nat × AT)} {n : Nat} {lH : List (Nat × Blk)} (e : chkS lF n lH F h = true) : Sub (fOf lF) F ∧ SubH (hOf n lH) h := by
  simp only [chkS, Bool.and_eq_true] at e
  exact ⟨sub_of e.1, subH_of e.2.1 e.2.2⟩
theorem chkN_ok {lF : List (Nat × AT)} {n : Nat} {lH : List (Nat × Blk)} {r : Option (EX × T AT × AH)} (e : chkN lF n lH r = true) : ∃ F h, r = some (.normal, F, h) ∧ Sub (fOf lF) F ∧ SubH (hOf n lH) h := by
  unfold chkN at e
  split at e
  · exact ⟨_, _, rfl, chkS_ok e⟩
  · cases e
theorem chkX_ok {i : Nat} {lF : List (Nat × AT)} {n : Nat} {lH : List (Nat × Blk)} {r : Option (EX × T AT × AH)} (e : chkX i lF n lH r = true) : ∃ F h, r = some (.exit i, F, h) ∧ Sub (fOf lF) F ∧ SubH (hOf n lH) h := by
  unfold chkX at e
  split at e
  · rw [Bool.and_eq_true] at e
    have h1 := eq_beq e.1
    subst h1
    exact ⟨_, _, rfl, chkS_ok e.2⟩
  · cases e
theorem chkK_ok {lF : List (Nat × AT)} {n : Nat} {lH : List (Nat × Blk)} {r : Option (T AT × AH)} (e : chkK lF n lH r = true) : ∃ F h, r = some (F, h) ∧ Sub (fOf lF) F ∧ SubH (hOf n lH) h := by
  unfold chkK at e
  split at e
  · exact ⟨_, _, rfl, chkS_ok e⟩
  · cases e
/-- a piece of the text that goes on -/
theorem Trip.then {n0 N M k : Nat} {c d : Code} {lF : List (Nat × AT)} {n : Nat} {lH : List (Nat × Blk)} {x : EX} {F2 : T AT} {h2 : AH} (hd : dstOk N c = true) (hN : N ≤ M) (e : chkN lF n lH ((ev k).1 c F h) = true) (t : Trip n0 M d (fOf lF) (hOf n lH) x F2 h2) : Trip n0 M (.seq c d) F h x F2 h2 := by
  obtain ⟨F1, h1, e1, s1, s2⟩ := chkN_ok e
  exact (Trip.of_eval hd hN e1).seq (t.forget s1 s2)
theorem LTrip.then {n0 N M k m j : Nat} {c : Code} {lF : List (Nat × AT)} {n : Nat} {lH : List (Nat × Blk)} {x : EX} {F2 : T AT} {h2 : AH} (hd : dstOk N c = true) (hN : N ≤ M) (e : chkK lF n lH (evK (ev k).1 c j F h) = true) (t : LTrip n0 M m c (fOf lF) (hOf n lH) x F2 h2) : LTrip n0 M (m + j) c F h x F2 h2 := by
  obtain ⟨F1, h1, e1, s1, s2⟩ := chkK_ok e
  exact LTrip.rounds hd hN j e1 (t.forget s1 s2)
theorem Trip.last {n0 N M k i : Nat} {c d : Code} {lF : List (Nat × AT)} {n : Nat} {lH : List (Nat × Blk)} {x : EX} {F2 : T AT} {h2 : AH} (hd : dstOk N c = true) (hN : N ≤ M) (e : chkX i lF n lH ((ev k).1 c F h) = true) (t : Trip n0 M d (fOf lF) (hOf n lH) x F2 h2) :
    ∃ F1 h1, LTrip n0 M 1 c F h (.exit i) F1 h1 ∧ Trip n0 M d F1 h1 x F2 h2 := by
  obtain ⟨F1, h1, e1, s1, s2⟩ := chkX_ok e
  exact ⟨F1, h1, LTrip.last hd hN e1, t.forget s1 s2⟩
end Go.Proofs.YtbjddfeihhdpoaaGreatDoor
namespace Go.Proofs.YtbjddfeihhdpoaaGreatDoor
open Go

/-! the law's text in pieces; the states between them -/
def seqL : Code → Code
  | .seq a _ => a
  | c => c
def seqR : Code → Code
  | .seq _ b => b
  | c => c
def loopB : Code → Code
  | .block _ (.loop b) => b
  | c => c
noncomputable def c3 : Code := (Tryz.f3.body).getD .skip
noncomputable def p0 : Code := seqL c3
noncomputable def q1 : Code := seqR c3
noncomputable def p1 : Code := seqL q1
noncomputable def q2 : Code := seqR q1
noncomputable def p2 : Code := seqL q2
noncomputable def q3 : Code := seqR q2
noncomputable def p3 : Code := seqL q3
noncomputable def q4 : Code := seqR q3
noncomputable def p4 : Code := seqL (seqL q4)
noncomputable def b4 : Code := loopB (seqR (seqL q4))
noncomputable def q5 : Code := seqR q4
noncomputable def p5 : Code := seqL q5
noncomputable def q6 : Code := seqR q5
noncomputable def p6 : Code := seqL q6
noncomputable def q7 : Code := seqR q6
theorem body3 : Tryz.f3.body = some c3 := by kernel_rfl
theorem shape3 : c3 = .seq p0 (.seq p1 (.seq p2 (.seq p3 (.seq (.seq p4 (.block 0 (.loop b4))) (.seq p5 (.seq p6 q7)))))) := by kernel_rfl
theorem d0 : dstOk 50 p0 = true := by kernel_rfl
theorem d1 : dstOk 50 p1 = true := by kernel_rfl
theorem d2 : dstOk 50 p2 = true := by kernel_rfl
theorem d3 : dstOk 50 p3 = true := by kernel_rfl
theorem d4 : dstOk 50 p4 = true := by kernel_rfl
theorem d4b : dstOk 50 b4 = true := by kernel_rfl
theorem d5 : dstOk 50 p5 = true := by kernel_rfl
theorem d6 : dstOk 50 p6 = true := by kernel_rfl
theorem d7 : dstOk 50 q7 = true := by kernel_rfl
noncomputable def F0 : T AT := bindArgs [.o (.g [.uk, .uk, .uk, .uk]), .o (.c (.qn 0)), .o (.g [.uk, .uk, .uk, .uk, .uk, .uk, .uk])] 0 .e
noncomputable def H0 : AH := ⟨.e, 1⟩
def s0F : List (Nat × AT) := [(1, .o (.c (.qn 0))), (3, .o (.c (.p 1 0))), (5, .o (.c (.p 2 0)))]
def s0n : Nat := 3
def s0H : List (Nat × Blk) := [(1, blk [.uk, .uk, .uk, .uk] 28), (2, blk [.uk, .uk, .uk, .uk, .uk, .uk, .uk] 32)]
def s1F : List (Nat × AT) := [(1, .o (.c (.qn 0))), (3, .o (.c (.p 1 0))), (5, .o (.c (.p 2 0))), (7, .o (.c (.v (.bool true))))]
def s1n : Nat := 100000
def s1H : List (Nat × Blk) := [(1, blk [.uk, .uk, .uk, .uk] 28), (2, blk [.uk, .uk, .uk, .uk, .uk, .uk, .uk] 32)]
def t2F : List (Nat × AT) := [(1, .o (.c (.qn 0))), (5, .o (.c (.p 2 0))), (7, .o (.c (.v (.bool true)))), (8, .o (.c (.p 100010 0)))]
def t2n : Nat := 100048
def t2H : List (Nat × Blk) := [(2, blk [.uk, .uk, .uk, .uk, .uk, .uk, .uk] 32), (100010, blk [.p 100047 0, .uk, .v (.int .i64 (.ofNat 0))] 73), (100024, blk [.p 100026 0, .p 100030 0, .p 100041 0, .uk, .uk, .uk, .v (.slice none 0 0), .v (.slice none 0 0), .v (.int .i64 (.ofNat 0)), .v (.int .i64 (.ofNat 0)), .v (.slice none 0 0)] 86), (100026, blk [.v (.slice none 0 0)] 198), (100027, .map [] 0), (100028, .map [] 0), (100029, .map [] 0), (100030, blk [.m 100027, .m 100028, .m 100029, .v (.bool false), .v (.int .i64 (.ofNat 0))] 218), (100041, blk [.m 100043, .v (.int .i64 (.ofNat 0))] 139), (100043, .map [⟨.string ⟨#[47]⟩, .g [.v (.int .i64 (.ofNat 2)), .v (.int .i64 (.ofNat 0)), .v (.string ⟨#[]⟩), .v (.string ⟨#[]⟩)], 0⟩] 1), (100044, .map [] 0), (100045, blk [.p 100024 0, .m 100044, .v (.int .i64 (.ofNat 0)), .v (.bool false), .v (.int .i64 (.ofNat 0))] 81), (100046, .map [] 0), (100047, blk [.p 100045 0, .m 100046] 77)]
def s2F : List (Nat × AT) := [(1, .o (.c (.qn 0))), (5, .o (.c (.p 2 0))), (8, .o (.c (.p 100010 0)))]
def s2n : Nat := 100048
def s2H : List (Nat × Blk) := [(2, blk [.uk, .uk, .uk, .uk, .uk, .uk, .uk] 32), (100010, blk [.p 100047 0, .uk, .v (.int .i64 (.ofNat 0))] 73), (100024, blk [.p 100026 0, .p 100030 0, .p 100041 0, .uk, .uk, .uk, .v (.slice none 0 0), .v (.slice none 0 0), .v (.int .i64 (.ofNat 0)), .v (.int .i64 (.ofNat 0)), .v (.slice none 0 0)] 86), (100026, blk [.v (.slice none 0 0)] 198), (100027, .map [] 0), (100028, .map [] 0), (100029, .map [] 0), (100030, blk [.m 100027, .m 100028, .m 100029, .v (.bool false), .v (.int .i64 (.ofNat 0))] 218), (100041, blk [.m 100043, .v (.int .i64 (.ofNat 0))] 139), (100043, .map [⟨.string ⟨#[47]⟩, .g [.v (.int .i64 (.ofNat 2)), .v (.int .i64 (.ofNat 0)), .v (.string ⟨#[]⟩), .v (.string ⟨#[]⟩)], 0⟩] 1), (100044, .map [] 0), (100045, blk [.p 100024 0, .m 100044, .v (.int .i64 (.ofNat 0)), .v (.bool false), .v (.int .i64 (.ofNat 0))] 81), (100046, .map [] 0), (100047, blk [.p 100045 0, .m 100046] 77)]
def l0F : List (Nat × AT) := [(1, .o (.c (.qn 0))), (5, .o (.c (.p 2 0))), (8, .o (.c (.p 100010 0))), (9, .o (.c (.v (.int .i64 (.ofNat 0)))))]
def l0n : Nat := 100048
def l0H : List (Nat × Blk) := [(2, blk [.uk, .uk, .uk, .uk, .uk, .uk, .uk] 32), (100010, blk [.p 100047 0, .uk, .v (.int .i64 (.ofNat 0))] 73), (100024, blk [.p 100026 0, .p 100030 0, .p 100041 0, .uk, .uk, .uk, .v (.slice none 0 0), .v (.slice none 0 0), .v (.int .i64 (.ofNat 0)), .v (.int .i64 (.ofNat 0)), .v (.slice none 0 0)] 86), (100026, blk [.v (.slice none 0 0)] 198), (100027, .map [] 0), (100028, .map [] 0), (100029, .map [] 0), (100030, blk [.m 100027, .m 100028, .m 100029, .v (.bool false), .v (.int .i64 (.ofNat 0))] 218), (100041, blk [.m 100043, .v (.int .i64 (.ofNat 0))] 139), (100043, .map [⟨.string ⟨#[47]⟩, .g [.v (.int .i64 (.ofNat 2)), .v (.int .i64 (.ofNat 0)), .v (.string ⟨#[]⟩), .v (.string ⟨#[]⟩)], 0⟩] 1), (100044, .map [] 0), (100045, blk [.p 100024 0, .m 100044, .v (.int .i64 (.ofNat 0)), .v (.bool false), .v (.int .i64 (.ofNat 0))] 81), (100046, .map [] 0), (100047, blk [.p 100045 0, .m 100046] 77)]
def l1F : List (Nat × AT) := [(1, .o (.c (.qn 0))), (5, .o (.c (.p 2 0))), (8, .o (.c (.p 100010 0))), (9, .o (.c (.v (.int .i64 (.ofNat 50)))))]
def l1n : Nat := 101957
def l1H : List (Nat × Blk) := [(2, blk [.uk, .uk, .uk, .uk, .uk, .uk, .uk] 32), (100010, blk [.p 100047 0, .uk, .v (.int .i64 (.ofNat 50))] 73), (100024, blk [.p 100026 0, .p 100030 0, .p 100041 0, .uk, .uk, .uk, .v (.slice none 0 0), .v (.slice none 0 0), .v (.int .i64 (.ofNat 0)), .v (.int .i64 (.ofNat 0)), .v (.slice none 0 0)] 86), (100026, blk [.v (.slice none 0 0)] 198), (100027, .map [] 0), (100028, .map [] 0), (100029, .map [] 0), (100030, blk [.m 100027, .m 100028, .m 100029, .v (.bool false), .v (.int .i64 (.ofNat 0))] 218), (100041, blk [.m 100043, .v (.int .i64 (.ofNat 0))] 139), (100043, .map [⟨.string ⟨#[47]⟩, .g [.v (.int .i64 (.ofNat 2)), .v (.int .i64 (.ofNat 0)), .v (.string ⟨#[]⟩), .v (.string ⟨#[]⟩)], 0⟩, ⟨.string ⟨#[47, 100]⟩, .g [.v (.int .i64 (.ofNat 2)), .v (.int .i64 (.ofNat 0)), .v (.string ⟨#[]⟩), .v (.string ⟨#[]⟩)], 1⟩] 2), (100044, .map [] 0), (100045, blk [.p 100024 0, .m 100044, .v (.int .i64 (.ofNat 0)), .v (.bool false), .v (.int .i64 (.ofNat 0))] 81), (100046, .map [] 0), (100047, blk [.p 100045 0, .m 100046] 77)]
def l2F : List (Nat × AT) := [(1, .o (.c (.qn 0))), (5, .o (.c (.p 2 0))), (8, .o (.c (.p 100010 0))), (9, .o (.c (.v (.int .i64 (.ofNat 100)))))]
def l2n : Nat := 103857
def l2H : List (Nat × Blk) := [(2, blk [.uk, .uk, .uk, .uk, .uk, .uk, .uk] 32), (100010, blk [.p 100047 0, .uk, .v (.int .i64 (.ofNat 100))] 73), (100024, blk [.p 100026 0, .p 100030 0, .p 100041 0, .uk, .uk, .uk, .v (.slice none 0 0), .v (.slice none 0 0), .v (.int .i64 (.ofNat 0)), .v (.int .i64 (.ofNat 0)), .v (.slice none 0 0)] 86), (100026, blk [.v (.slice none 0 0)] 198), (100027, .map [] 0), (100028, .map [] 0), (100029, .map [] 0), (100030, blk [.m 100027, .m 100028, .m 100029, .v (.bool false), .v (.int .i64 (.ofNat 0))] 218), (100041, blk [.m 100043, .v (.int .i64 (.ofNat 0))] 139), (100043, .map [⟨.string ⟨#[47]⟩, .g [.v (.int .i64 (.ofNat 2)), .v (.int .i64 (.ofNat 0)), .v (.string ⟨#[]⟩), .v (.string ⟨#[]⟩)], 0⟩, ⟨.string ⟨#[47, 100]⟩, .g [.v (.int .i64 (.ofNat 2)), .v (.int .i64 (.ofNat 0)), .v (.string ⟨#[]⟩), .v (.string ⟨#[]⟩)], 1⟩] 2), (100044, .map [] 0), (100045, blk [.p 100024 0, .m 100044, .v (.int .i64 (.ofNat 0)), .v (.bool false), .v (.int .i64 (.ofNat 0))] 81), (100046, .map [] 0), (100047, blk [.p 100045 0, .m 100046] 77)]
def l3F : List (Nat × AT) := [(1, .o (.c (.qn 0))), (5, .o (.c (.p 2 0))), (8, .o (.c (.p 100010 0))), (9, .o (.c (.v (.int .i64 (.ofNat 150)))))]
def l3n : Nat := 105757
def l3H : List (Nat × Blk) := [(2, blk [.uk, .uk, .uk, .uk, .uk, .uk, .uk] 32), (100010, blk [.p 100047 0, .uk, .v (.int .i64 (.ofNat 150))] 73), (100024, blk [.p 100026 0, .p 100030 0, .p 100041 0, .uk, .uk, .uk, .v (.slice none 0 0), .v (.slice none 0 0), .v (.int .i64 (.ofNat 0)), .v (.int .i64 (.ofNat 0)), .v (.slice none 0 0)] 86), (100026, blk [.v (.slice none 0 0)] 198), (100027, .map [] 0), (100028, .map [] 0), (100029, .map [] 0), (100030, blk [.m 100027, .m 100028, .m 100029, .v (.bool false), .v (.int .i64 (.ofNat 0))] 218), (100041, blk [.m 100043, .v (.int .i64 (.ofNat 0))] 139), (100043, .map [⟨.string ⟨#[47]⟩, .g [.v (.int .i64 (.ofNat 2)), .v (.int .i64 (.ofNat 0)), .v (.string ⟨#[]⟩), .v (.string ⟨#[]⟩)], 0⟩, ⟨.string ⟨#[47, 100]⟩, .g [.v (.int .i64 (.ofNat 2)), .v (.int .i64 (.ofNat 0)), .v (.string ⟨#[]⟩), .v (.string ⟨#[]⟩)], 1⟩] 2), (100044, .map [] 0), (100045, blk [.p 100024 0, .m 100044, .v (.int .i64 (.ofNat 0)), .v (.bool false), .v (.int .i64 (.ofNat 0))] 81), (100046, .map [] 0), (100047, blk [.p 100045 0, .m 100046] 77)]
def l4F : List (Nat × AT) := [(1, .o (.c (.qn 0))), (5, .o (.c (.p 2 0))), (8, .o (.c (.p 100010 0))), (9, .o (.c (.v (.int .i64 (.ofNat 200)))))]
def l4n : Nat := 107657
def l4H : List (Nat × Blk) := [(2, blk [.uk, .uk, .uk, .uk, .uk, .uk, .uk] 32), (100010, blk [.p 100047 0, .uk, .v (.int .i64 (.ofNat 200))] 73), (100024, blk [.p 100026 0, .p 100030 0, .p 100041 0, .uk, .uk, .uk, .v (.slice none 0 0), .v (.slice none 0 0), .v (.int .i64 (.ofNat 0)), .v (.int .i64 (.ofNat 0)), .v (.slice none 0 0)] 86), (100026, blk [.v (.slice none 0 0)] 198), (100027, .map [] 0), (100028, .map [] 0), (100029, .map [] 0), (100030, blk [.m 100027, .m 100028, .m 100029, .v (.bool false), .v (.int .i64 (.ofNat 0))] 218), (100041, blk [.m 100043, .v (.int .i64 (.ofNat 0))] 139), (100043, .map [⟨.string ⟨#[47]⟩, .g [.v (.int .i64 (.ofNat 2)), .v (.int .i64 (.ofNat 0)), .v (.string ⟨#[]⟩), .v (.string ⟨#[]⟩)], 0⟩, ⟨.string ⟨#[47, 100]⟩, .g [.v (.int .i64 (.ofNat 2)), .v (.int .i64 (.ofNat 0)), .v (.string ⟨#[]⟩), .v (.string ⟨#[]⟩)], 1⟩] 2), (100044, .map [] 0), (100045, blk [.p 100024 0, .m 100044, .v (.int .i64 (.ofNat 0)), .v (.bool false), .v (.int .i64 (.ofNat 0))] 81), (100046, .map [] 0), (100047, blk [.p 100045 0, .m 100046] 77)]
def l5F : List (Nat × AT) := [(1, .o (.c (.qn 0))), (5, .o (.c (.p 2 0))), (8, .o (.c (.p 100010 0))), (9, .o (.c (.v (.int .i64 (.ofNat 250)))))]
def l5n : Nat := 109557
def l5H : List (Nat × Blk) := [(2, blk [.uk, .uk, .uk, .uk, .uk, .uk, .uk] 32), (100010, blk [.p 100047 0, .uk, .v (.int .i64 (.ofNat 250))] 73), (100024, blk [.p 100026 0, .p 100030 0, .p 100041 0, .uk, .uk, .uk, .v (.slice none 0 0), .v (.slice none 0 0), .v (.int .i64 (.ofNat 0)), .v (.int .i64 (.ofNat 0)), .v (.slice none 0 0)] 86), (100026, blk [.v (.slice none 0 0)] 198), (100027, .map [] 0), (100028, .map [] 0), (100029, .map [] 0), (100030, blk [.m 100027, .m 100028, .m 100029, .v (.bool false), .v (.int .i64 (.ofNat 0))] 218), (100041, blk [.m 100043, .v (.int .i64 (.ofNat 0))] 139), (100043, .map [⟨.string ⟨#[47]⟩, .g [.v (.int .i64 (.ofNat 2)), .v (.int .i64 (.ofNat 0)), .v (.string ⟨#[]⟩), .v (.string ⟨#[]⟩)], 0⟩, ⟨.string ⟨#[47, 100]⟩, .g [.v (.int .i64 (.ofNat 2)), .v (.int .i64 (.ofNat 0)), .v (.string ⟨#[]⟩), .v (.string ⟨#[]⟩)], 1⟩] 2), (100044, .map [] 0), (100045, blk [.p 100024 0, .m 100044, .v (.int .i64 (.ofNat 0)), .v (.bool false), .v (.int .i64 (.ofNat 0))] 81), (100046, .map [] 0), (100047, blk [.p 100045 0, .m 100046] 77)]
def l6F : List (Nat × AT) := [(1, .o (.c (.qn 0))), (5, .o (.c (.p 2 0))), (8, .o (.c (.p 100010 0))), (9, .o (.c (.v (.int .i64 (.ofNat 300)))))]
def l6n : Nat := 111457
def l6H : List (Nat × Blk) := [(2, blk [.uk, .uk, .uk, .uk, .uk, .uk, .uk] 32), (100010, blk [.p 100047 0, .uk, .v (.int .i64 (.ofNat 300))] 73), (100024, blk [.p 100026 0, .p 100030 0, .p 100041 0, .uk, .uk, .uk, .v (.slice none 0 0), .v (.slice none 0 0), .v (.int .i64 (.ofNat 0)), .v (.int .i64 (.ofNat 0)), .v (.slice none 0 0)] 86), (100026, blk [.v (.slice none 0 0)] 198), (100027, .map [] 0), (100028, .map [] 0), (100029, .map [] 0), (100030, blk [.m 100027, .m 100028, .m 100029, .v (.bool false), .v (.int .i64 (.ofNat 0))] 218), (100041, blk [.m 100043, .v (.int .i64 (.ofNat 0))] 139), (100043, .map [⟨.string ⟨#[47]⟩, .g [.v (.int .i64 (.ofNat 2)), .v (.int .i64 (.ofNat 0)), .v (.string ⟨#[]⟩), .v (.string ⟨#[]⟩)], 0⟩, ⟨.string ⟨#[47, 100]⟩, .g [.v (.int .i64 (.ofNat 2)), .v (.int .i64 (.ofNat 0)), .v (.string ⟨#[]⟩), .v (.string ⟨#[]⟩)], 1⟩] 2), (100044, .map [] 0), (100045, blk [.p 100024 0, .m 100044, .v (.int .i64 (.ofNat 0)), .v (.bool false), .v (.int .i64 (.ofNat 0))] 81), (100046, .map [] 0), (100047, blk [.p 100045 0, .m 100046] 77)]
def l7F : List (Nat × AT) := [(1, .o (.c (.qn 0))), (5, .o (.c (.p 2 0))), (8, .o (.c (.p 100010 0))), (9, .o (.c (.v (.int .i64 (.ofNat 350)))))]
def l7n : Nat := 113357
def l7H : List (Nat × Blk) := [(2, blk [.uk, .uk, .uk, .uk, .uk, .uk, .uk] 32), (100010, blk [.p 100047 0, .uk, .v (.int .i64 (.ofNat 350))] 73), (100024, blk [.p 100026 0, .p 100030 0, .p 100041 0, .uk, .uk, .uk, .v (.slice none 0 0), .v (.slice none 0 0), .v (.int .i64 (.ofNat 0)), .v (.int .i64 (.ofNat 0)), .v (.slice none 0 0)] 86), (100026, blk [.v (.slice none 0 0)] 198), (100027, .map [] 0), (100028, .map [] 0), (100029, .map [] 0), (100030, blk [.m 100027, .m 100028, .m 100029, .v (.bool false), .v (.int .i64 (.ofNat 0))] 218), (100041, blk [.m 100043, .v (.int .i64 (.ofNat 0))] 139), (100043, .map [⟨.string ⟨#[47]⟩, .g [.v (.int .i64 (.ofNat 2)), .v (.int .i64 (.ofNat 0)), .v (.string ⟨#[]⟩), .v (.string ⟨#[]⟩)], 0⟩, ⟨.string ⟨#[47, 100]⟩, .g [.v (.int .i64 (.ofNat 2)), .v (.int .i64 (.ofNat 0)), .v (.string ⟨#[]⟩), .v (.string ⟨#[]⟩)], 1⟩] 2), (100044, .map [] 0), (100045, blk [.p 100024 0, .m 100044, .v (.int .i64 (.ofNat 0)), .v (.bool false), .v (.int .i64 (.ofNat 0))] 81), (100046, .map [] 0), (100047, blk [.p 100045 0, .m 100046] 77)]
def l8F : List (Nat × AT) := [(1, .o (.c (.qn 0))), (5, .o (.c (.p 2 0))), (8, .o (.c (.p 100010 0))), (9, .o (.c (.v (.int .i64 (.ofNat 400)))))]
def l8n : Nat := 115257
def l8H : List (Nat × Blk) := [(2, blk [.uk, .uk, .uk, .uk, .uk, .uk, .uk] 32), (100010, blk [.p 100047 0, .uk, .v (.int .i64 (.ofNat 400))] 73), (100024, blk [.p 100026 0, .p 100030 0, .p 100041 0, .uk, .uk, .uk, .v (.slice none 0 0), .v (.slice none 0 0), .v (.int .i64 (.ofNat 0)), .v (.int .i64 (.ofNat 0)), .v (.slice none 0 0)] 86), (100026, blk [.v (.slice none 0 0)] 198), (100027, .map [] 0), (100028, .map [] 0), (100029, .map [] 0), (100030, blk [.m 100027, .m 100028, .m 100029, .v (.bool false), .v (.int .i64 (.ofNat 0))] 218), (100041, blk [.m 100043, .v (.int .i64 (.ofNat 0))] 139), (100043, .map [⟨.string ⟨#[47]⟩, .g [.v (.int .i64 (.ofNat 2)), .v (.int .i64 (.ofNat 0)), .v (.string ⟨#[]⟩), .v (.string ⟨#[]⟩)], 0⟩, ⟨.string ⟨#[47, 100]⟩, .g [.v (.int .i64 (.ofNat 2)), .v (.int .i64 (.ofNat 0)), .v (.string ⟨#[]⟩), .v (.string ⟨#[]⟩)], 1⟩] 2), (100044, .map [] 0), (100045, blk [.p 100024 0, .m 100044, .v (.int .i64 (.ofNat 0)), .v (.bool false), .v (.int .i64 (.ofNat 0))] 81), (100046, .map [] 0), (100047, blk [.p 100045 0, .m 100046] 77)]
def s4F : List (Nat × AT) := [(1, .o (.c (.qn 0))), (5, .o (.c (.p 2 0))), (8, .o (.c (.p 100010 0)))]
def s4n : Nat := 115257
def s4H : List (Nat × Blk) := [(2, blk [.uk, .uk, .uk, .uk, .uk, .uk, .uk] 32), (100010, blk [.p 100047 0, .uk, .v (.int .i64 (.ofNat 400))] 73), (100024, blk [.p 100026 0, .p 100030 0, .p 100041 0, .uk, .uk, .uk, .v (.slice none 0 0), .v (.slice none 0 0), .v (.int .i64 (.ofNat 0)), .v (.int .i64 (.ofNat 0)), .v (.slice none 0 0)] 86), (100026, blk [.v (.slice none 0 0)] 198), (100027, .map [] 0), (100028, .map [] 0), (100029, .map [] 0), (100030, blk [.m 100027, .m 100028, .m 100029, .v (.bool false), .v (.int .i64 (.ofNat 0))] 218), (100041, blk [.m 100043, .v (.int .i64 (.ofNat 0))] 139), (100043, .map [⟨.string ⟨#[47]⟩, .g [.v (.int .i64 (.ofNat 2)), .v (.int .i64 (.ofNat 0)), .v (.string ⟨#[]⟩), .v (.string ⟨#[]⟩)], 0⟩, ⟨.string ⟨#[47, 100]⟩, .g [.v (.int .i64 (.ofNat 2)), .v (.int .i64 (.ofNat 0)), .v (.string ⟨#[]⟩), .v (.string ⟨#[]⟩)], 1⟩] 2), (100044, .map [] 0), (100045, blk [.p 100024 0, .m 100044, .v (.int .i64 (.ofNat 0)), .v (.bool false), .v (.int .i64 (.ofNat 0))] 81), (100046, .map [] 0), (100047, blk [.p 100045 0, .m 100046] 77)]
def s5F : List (Nat × AT) := [(1, .o (.c (.qn 0))), (5, .o (.c (.p 2 0))), (8, .o (.c (.p 100010 0))), (10, .o (.c (.p 115308 0)))]
def s5n : Nat := 115309
def s5H : List (Nat × Blk) := [(2, blk [.uk, .uk, .uk, .uk, .uk, .uk, .uk] 32), (100010, blk [.p 100047 0, .uk, .v (.int .i64 (.ofNat 400))] 73), (100024, blk [.p 100026 0, .p 100030 0, .p 100041 0, .uk, .uk, .uk, .v (.slice none 0 0), .v (.slice none 0 0), .v (.int .i64 (.ofNat 0)), .v (.int .i64 (.ofNat 0)), .v (.slice none 0 0)] 86), (100026, blk [.v (.slice none 0 0)] 198), (100027, .map [] 0), (100028, .map [] 0), (100029, .map [] 0), (100030, blk [.m 100027, .m 100028, .m 100029, .v (.bool false), .v (.int .i64 (.ofNat 0))] 218), (100041, blk [.m 100043, .v (.int .i64 (.ofNat 0))] 139), (100043, .map [⟨.string ⟨#[47]⟩, .g [.v (.int .i64 (.ofNat 2)), .v (.int .i64 (.ofNat 0)), .v (.string ⟨#[]⟩), .v (.string ⟨#[]⟩)], 0⟩, ⟨.string ⟨#[47, 100]⟩, .g [.v (.int .i64 (.ofNat 2)), .v (.int .i64 (.ofNat 0)), .v (.string ⟨#[]⟩), .v (.string ⟨#[]⟩)], 1⟩] 2), (100044, .map [] 0), (100045, blk [.p 100024 0, .m 100044, .v (.int .i64 (.ofNat 0)), .v (.bool false), .v (.int .i64 (.ofNat 0))] 81), (100046, .map [] 0), (100047, blk [.p 100045 0, .m 100046] 77), (115308, blk [.v (.slice none 0 0), .v (.slice none 0 0), .v (.slice none 0 0), .v (.slice none 0 0), .v (.slice none 0 0), .v (.slice none 0 0), .v (.slice none 0 0), .v (.slice none 0 0)] 53)]
def s6F : List (Nat × AT) := [(8, .o (.c (.p 100010 0))), (10, .o (.c (.p 115308 0)))]
def s6n : Nat := 116329
def s6H : List (Nat × Blk) := [(100010, blk [.p 100047 0, .uk, .v (.int .i64 (.ofNat 400))] 73), (100024, blk [.p 100026 0, .p 100030 0, .p 100041 0, .uk, .uk, .uk, .v (.slice none 0 0), .v (.slice none 0 0), .v (.int .i64 (.ofNat 0)), .v (.int .i64 (.ofNat 0)), .v (.slice none 0 0)] 86), (100026, blk [.v (.slice none 0 0)] 198), (100027, .map [] 0), (100028, .map [] 0), (100029, .map [] 0), (100030, blk [.m 100027, .m 100028, .m 100029, .v (.bool false), .v (.int .i64 (.ofNat 0))] 218), (100041, blk [.m 100043, .v (.int .i64 (.ofNat 0))] 139), (100043, .map [⟨.string ⟨#[47]⟩, .g [.v (.int .i64 (.ofNat 2)), .v (.int .i64 (.ofNat 0)), .v (.string ⟨#[]⟩), .v (.string ⟨#[]⟩)], 0⟩, ⟨.string ⟨#[47, 100]⟩, .g [.v (.int .i64 (.ofNat 2)), .v (.int .i64 (.ofNat 0)), .v (.string ⟨#[]⟩), .v (.string ⟨#[]⟩)], 1⟩] 2), (100044, .map [] 0), (100045, blk [.p 100024 0, .m 100044, .v (.int .i64 (.ofNat 0)), .v (.bool false), .v (.int .i64 (.ofNat 0))] 81), (100046, .map [] 0), (100047, blk [.p 100045 0, .m 100046] 77), (115308, blk [.v (.slice none 0 0), .v (.slice none 0 0), .v (.slice none 0 0), .v (.slice none 0 0), .v (.slice none 0 0), .v (.slice none 0 0), .v (.slice none 0 0), .v (.slice none 0 0)] 53)]
end Go.Proofs.YtbjddfeihhdpoaaGreatDoor
