/- Lemmas that the claim is proved from: what calls of functions of the program come to (contracts), and plain laws. Each lemma bears its own conditions. -/
import Derived.Test.YtbliedldlimpgaaBas5
import Derived.Test.YtbliedldlimpgaaBas1
import Derived.Laws.IdiomStrings
import Derived.BigQuiet

namespace Go.Proofs.Ytbliedldlimpgaa
set_option linter.unusedVariables false
set_option linter.unusedSimpArgs false
open Go.RowKit

set_option maxHeartbeats 4000000 in
set_option maxRecDepth 100000 in
theorem rtext_any (w : World) (b gb : Nat) (st : Option (List UInt8)) (h : RB b gb w st) :
    Calls Try.prog 47 #[.pointer (some ⟨b, 0, none⟩)] w fun e w' => e = .returned (.string ⟨(partS st 2 4096).1.toArray⟩) ∧ RB b gb w' (partS st 2 4096).2 ∧ Step (fun x => x ≠ b) w w' ∧ w'.heap.size = w.heap.size := by
  have HP := Lib.hid (rpart_any w b gb st 2 4096 h (by decide) (by decide))
  clear h
  generalize partS st 2 4096 = ps at *
  go_enter Try.func47, Try.ntmps47
  go_wp2_with fail
  refine HP.out.mono ?_
  rintro e w2 ⟨v, rfl, hv, hr, hs, hz⟩
  have hcv := run_str hv
  obtain ⟨va, vc, rfl⟩ := hv.form
  have Hr := Lib.hid hr
  have Hs := Lib.hid hs
  have Hz := Lib.hid hz
  clear hv hr hs hz HP
  go_wp2
  go_ret
  exact ⟨rfl, Hr.out, Hs.out, Hz.out⟩

theorem partS_len (st : Option (List UInt8)) (size most : Nat) (hs : size = 1 ∨ size = 2 ∨ size = 4) : (partS st size most).1.length ≤ most := by
  cases st with
  | none => rw [partS_none]; simp
  | some l =>
    cases hp : partP size most l with
    | none => rw [partS_bad hs hp]; simp
    | some q =>
      obtain ⟨x, t⟩ := q
      rw [partS_good hs hp]
      obtain ⟨n, u, h1, h2⟩ := bindP_some hp
      by_cases hc : n ≤ (most : Int) ∧ n ≤ u.length
      · rw [if_pos hc] at h2
        obtain ⟨rfl, rfl⟩ := Prod.mk.inj (Option.some.inj h2)
        dsimp only
        rw [List.length_take]; omega
      · rw [if_neg hc] at h2; cases h2

set_option maxHeartbeats 4000000 in
set_option maxRecDepth 100000 in
theorem rblock_any (w : World) (b gb : Nat) (st : Option (List UInt8)) (h : RB b gb w st) :
    Calls Try.prog 49 #[.pointer (some ⟨b, 0, none⟩)] w fun e w' => ∃ v, e = .returned v ∧ OwnK 5 kByte w.heap.size (fun _ => False) w' v (partS st 4 1048576).1 ∧ RB b gb w' (partS st 4 1048576).2 ∧ Step (fun x => x < w.heap.size ∧ x ≠ b) w w' := by
  have HP := Lib.hid (rpart_any w b gb st 4 1048576 h (by decide) (by decide))
  have hpl := partS_len st 4 1048576 (by decide)
  clear h
  generalize partS st 4 1048576 = ps at *
  go_enter Try.func49, Try.ntmps49
  go_wp2_with fail
  refine HP.out.mono ?_
  rintro e w2 ⟨v, rfl, hv, hr, hs, hz⟩
  obtain ⟨va, vc, hvf⟩ := hv.form
  have Hv := Lib.hid hv
  have Hr := Lib.hid hr
  have Hs := Lib.hid hs
  subst hvf
  have hz' : w.heap.size ≤ w2.heap.size := by omega
  have hz'' : w2.heap.size ≤ w.heap.size := by omega
  clear hv hr hs hz HP
  go_wp2_with (at_builtin; refine wpList_appendsK (B := w2.heap.size) (E := fun _ => False) (l := []) plain_byte 36 (.int .u8 0) 1 Try.underlying36 info_byte rfl rfl (.const (.slice none 0 0)) (.tmp 4) rfl rfl (OwnK.nil _ _ _ _ _) (fun x hx => hx.elim) _ ps.1 rfl Hv.out ?c1 ?c2 (Nat.le_refl _) ?_)
  case c1 => simp only [List.length_nil]; omega
  case c2 => simp only [List.length_nil]; omega
  intro v' w4 hown hst hne
  have hb4 : Below w2.heap.size w2 w4 := (hst.imp (S' := (· < w2.heap.size)) (fun x hx => ⟨hx, by simp [Value.ownBlock]⟩)).below
  have Hr4 := Lib.hid (Hr.out.below hb4)
  have Hown := Lib.hid (hown.mono (B' := w.heap.size) hz')
  have Hs4 : Hid (Step (fun x => x < w.heap.size ∧ x ≠ b) w w4) := Lib.hid ((Hs.out.imp (fun x hx => hx.2)).trans ((Step.of_below hb4).imp (fun x hx => by have := hx.1; show x < w2.heap.size; omega)))
  clear hown hst hne hb4 Hv Hr Hs
  go_wp2
  go_ret
  exact ⟨v', rfl, Hown.out, Hr4.out, Hs4.out⟩

set_option maxHeartbeats 4000000 in
set_option maxRecDepth 100000 in
theorem rnew_any (w : World) (v : Value) (l : List UInt8) (hl : LB kByte (· < w.heap.size) w v l) (hlen : l.length ≤ 140737488355328) (hw : 0 < w.heap.size) :
    Calls Try.prog 46 #[v] w fun e w' => ∃ b gb, e = .returned (.pointer (some ⟨b, 0, none⟩)) ∧ RB b gb w' (some l) ∧ Below w.heap.size w w' ∧ w.heap.size ≤ b := by
  obtain ⟨va, vc, rfl⟩ := hl.form
  have Hl := Lib.hid hl
  clear hl
  go_enter Try.func46, Try.ntmps46
  go_wp2_with (at_builtin; refine wpList_appendsK (B := w.heap.size) (E := fun _ => False) (l := []) plain_byte 36 (.int .u8 0) 1 Try.underlying36 info_byte rfl rfl (.const (.slice none 0 0)) (.tmp 3) rfl rfl (OwnK.nil _ _ _ _ _) (fun x hx => hx.elim) _ l rfl Hl.out ?c1 ?c2 (Nat.le_refl _) ?_)
  case c1 => simp only [List.length_nil]; omega
  case c2 => simp only [List.length_nil]; omega
  intro v' w4 hown hst hne
  have hb4 : Below w.heap.size w w4 := (hst.imp (S' := (· < w.heap.size)) (fun x hx => ⟨hx, by simp [Value.ownBlock]⟩)).below
  have hz4 := hb4.size
  have hlb : ∃ gb, LB kByte (fun x => x = gb) w4 v' l ∧ gb < w4.heap.size := by
    have h1 := hown.lb
    have h2 := hown.lt
    obtain ⟨a, bb, off, cap, hv, hm, ha, hc, hS, hr⟩ := h1
    by_cases h0 : 0 < l.length
    · exact ⟨bb, ⟨a, bb, off, cap, hv, hm, ha, hc, fun _ => rfl, fun i x hx => by
        obtain ⟨row, r1, r2⟩ := hr i x hx
        exact ⟨row, r1, r2⟩⟩, (hS h0).1⟩
    · have : ([] ++ l).length = 0 := by simpa using h0
      exact ⟨0, ⟨a, bb, off, cap, hv, hm, ha, hc, fun h => absurd h h0, fun i x hx => by
        have := (List.getElem?_eq_some_iff.1 hx).1
        omega⟩, by omega⟩
  obtain ⟨gb, hlb, hgb⟩ := hlb
  obtain ⟨va', vc', hvf⟩ := hlb.form
  have Hfin : Hid (RB w4.heap.size gb (w4.alloc (.cells #[.int .i64 0, v'] 136 (0, 0))) (some l)) := Lib.hid ⟨0, v', l, heap_alloc_new w4 _, hlb.keeps (fun x hx => by have hx : x = gb := hx; subst hx; exact heap_alloc_old w4 _ hgb), by omega, by rw [World.size_alloc]; omega, rfl, rfl⟩
  have Hb5 := Lib.hid (hb4.alloc hz4 (.cells #[.int .i64 0, v'] 136 (0, 0)))
  subst hvf
  clear hown hst hne hb4 hlb Hl
  go_wp2
  go_ret
  exact ⟨_, gb, rfl, Hfin.out, Hb5.out, hz4⟩

set_option maxHeartbeats 4000000 in
set_option maxRecDepth 100000 in
theorem rend_any (w : World) (b gb : Nat) (st : Option (List UInt8)) (h : RB b gb w st) :
    Calls Try.prog 53 #[.pointer (some ⟨b, 0, none⟩)] w fun e w' => (∃ x, e = .returned (.int .i64 x) ∧ (x = 0 ↔ st = some [])) ∧ w' = w := by
  obtain ⟨f, hc0, hf⟩ := h.first
  have HS := Lib.hid (sound_any w b f hc0)
  obtain ⟨f', v, r, h1, h2, h3, h4, h5⟩ := h.ex
  obtain ⟨va, vc, rfl⟩ := h2.form
  have hrm := h2.max
  have hff : f' = f := by
    rw [Lib.cell_of_heap h1] at hc0
    simpa using hc0
  subst hff
  have hc1 : w.cell? ⟨b, 1, none⟩ = some (.slice va r.length vc) := by rw [Lib.cell_of_heap h1]; rfl
  rw [hf] at HS
  have hbl := h.lt
  cases st with
  | none =>
    have hne : f' ≠ 0 := h5
    clear h h1 h2 h5 hf
    go_enter Try.func53, Try.ntmps53
    go_wp2_with fail
    refine HS.out.mono ?_
    rintro e w2 ⟨rfl, rfl⟩
    go_wp2
    go_ret
    exact ⟨⟨f', rfl, ⟨fun h => absurd h hne, fun h => by cases h⟩⟩, rfl⟩
  | some l =>
    obtain ⟨rfl, rfl⟩ := h5
    clear h h1 h2 hf
    by_cases h0 : 0 < r.length
    · have hd : decide ((0 : Int) < (r.length : Int)) = true := by rw [decide_eq_true_eq]; omega
      go_enter Try.func53, Try.ntmps53
      go_wp2_with fail
      refine HS.out.mono ?_
      rintro e w2 ⟨rfl, rfl⟩
      go_wp2
      go_ret
      refine ⟨⟨12, rfl, ⟨fun h => absurd h (by decide), fun h => ?_⟩⟩, rfl⟩
      have := Option.some.inj h
      subst this
      simp at h0
    · have hd : decide ((0 : Int) < (r.length : Int)) = false := by rw [decide_eq_false_iff_not]; omega
      have hr0 : Hid (r = []) := Lib.hid (List.eq_nil_of_length_eq_zero (by omega))
      go_enter Try.func53, Try.ntmps53
      go_wp2_with fail
      refine HS.out.mono ?_
      rintro e w2 ⟨rfl, rfl⟩
      go_wp2
      go_ret
      exact ⟨⟨0, rfl, ⟨fun _ => by rw [hr0.out], fun _ => rfl⟩⟩, rfl⟩

end Go.Proofs.Ytbliedldlimpgaa

namespace Go.Proofs.Ytbliedldlimpgaa
set_option linter.unusedVariables false
set_option linter.unusedSimpArgs false
open Go.RowKit

/-- what a reading answers: at a sound state that the parser reads, its value and what is left; else the state is none -/
def Got {α : Type} (p : List UInt8 → Option (α × List UInt8)) (st : Option (List UInt8)) (x : α) (st' : Option (List UInt8)) : Prop :=
  (st = none → st' = none) ∧ ∀ l, st = some l → (p l = none → st' = none) ∧ ∀ y t, p l = some (y, t) → x = y ∧ st' = some t
section
variable {α β : Type} {p : List UInt8 → Option (α × List UInt8)} {st st' st'' : Option (List UInt8)} {x : α}
theorem Got.pure (x : α) (st : Option (List UInt8)) : Got (fun t => some (x, t)) st x st := ⟨id, fun l h => ⟨fun e => by simp at e, fun y t e => by simp at e; exact ⟨e.1, by rw [h, e.2]⟩⟩⟩
theorem Got.bind {q : α → List UInt8 → Option (β × List UInt8)} {y : β} (h : Got p st x st') (k : Got (q x) st' y st'') : Got (bindP p q) st y st'' := by
  refine ⟨fun e => k.1 (h.1 e), fun l e => ?_⟩
  obtain ⟨h1, h2⟩ := h.2 l e
  cases hp : p l with
  | none =>
    have e0 : bindP p q l = none := by unfold bindP; rw [hp]
    rw [e0]
    exact ⟨fun _ => k.1 (h1 hp), fun y t h => by cases h⟩
  | some r =>
    obtain ⟨x', t'⟩ := r
    obtain ⟨rfl, hst⟩ := h2 _ _ hp
    rw [bindP_at hp]
    exact k.2 t' hst
theorem many_snoc (p : List UInt8 → Option (α × List UInt8)) : ∀ n, manyP p (n + 1) = bindP (manyP p n) fun xs => bindP p fun x t => some (xs ++ [x], t)
  | 0 => by
    funext l
    show bindP p (fun x => bindP (manyP p 0) fun xs t => some (x :: xs, t)) l = bindP p (fun x t => some ([] ++ [x], t)) l
    rfl
  | n + 1 => by
    have ih := many_snoc p n
    funext l
    show bindP p (fun x => bindP (manyP p (n + 1)) fun xs t => some (x :: xs, t)) l = bindP (bindP p fun x => bindP (manyP p n) fun xs t => some (x :: xs, t)) (fun xs => bindP p fun x t => some (xs ++ [x], t)) l
    rw [ih]
    unfold bindP
    cases p l with
    | none => rfl
    | some r =>
      obtain ⟨x, t⟩ := r
      dsimp only
      cases manyP p n t with
      | none => rfl
      | some r =>
        obtain ⟨xs, u⟩ := r
        dsimp only
        cases p u with
        | none => rfl
        | some r => rfl
theorem Got.many0 (p : List UInt8 → Option (α × List UInt8)) (st : Option (List UInt8)) : Got (manyP p 0) st [] st := Got.pure _ _
theorem Got.snoc {n : Nat} {xs : List α} (h : Got (manyP p n) st xs st') (k : Got p st' x st'') : Got (manyP p (n + 1)) st (xs ++ [x]) st'' := by
  rw [many_snoc]
  exact h.bind (k.bind (Got.pure _ _))
/-- at the end -/
theorem Got.whole {l : List UInt8} (h : Got p (some l) x (some [])) : p l = some (x, []) := by
  obtain ⟨h1, h2⟩ := h.2 l rfl
  cases hp : p l with
  | none => exact absurd (h1 hp) (by simp)
  | some r =>
    obtain ⟨y, t⟩ := r
    obtain ⟨rfl, e⟩ := h2 _ _ hp
    rw [← Option.some.inj e]
theorem Got.not_whole {l : List UInt8} (h : Got p (some l) x st) (hs : st ≠ some []) (y : α) : p l ≠ some (y, []) := fun e => hs ((h.2 l rfl).2 _ _ e).2
end
theorem numS_ok (st : Option (List UInt8)) (size : Nat) (hs : size ≤ 8) : okN size (numS st size).1 := by
  have h0 : okN size 0 := by
    unfold okN
    split
    · omega
    · exact ⟨by omega, Int.pow_pos (by decide)⟩
  cases st with
  | none => exact h0
  | some l =>
    cases hp : numP size l with
    | none => rw [numS_bad hp]; exact h0
    | some q =>
      obtain ⟨n, t⟩ := q
      rw [numS_good hp]
      exact ((num_codec size hs).back _ _ _ hp).1
theorem got_num (st : Option (List UInt8)) (size : Nat) : Got (numP size) st (numS st size).1 (numS st size).2 := by
  refine ⟨fun e => by subst e; rfl, fun l e => ?_⟩
  subst e
  refine ⟨fun e => by rw [numS_bad e], fun y t e => by rw [numS_good e]; exact ⟨rfl, rfl⟩⟩
theorem got_part (st : Option (List UInt8)) (size most : Nat) (hs : size = 1 ∨ size = 2 ∨ size = 4) : Got (partP size most) st (partS st size most).1 (partS st size most).2 := by
  refine ⟨fun e => by subst e; rw [partS_none], fun l e => ?_⟩
  subst e
  exact ⟨fun e => by rw [partS_bad hs e], fun y t e => by rw [partS_good hs e]; exact ⟨rfl, rfl⟩⟩

/-- a loader at block b, its reader at rb -/
structure LD (b rb gb : Nat) (w : World) (st : Option (List UInt8)) : Prop where
  ex : ∃ o st0, w.heap[b]? = some (.cells #[.pointer (some ⟨rb, 0, none⟩), .bool o] 94 (0, 0)) ∧ RB rb gb w st0 ∧ st = (if o then none else st0)
  ne : b ≠ rb
  ng : b ≠ gb
section
variable {b rb gb : Nat} {w w' : World} {st : Option (List UInt8)}
theorem LD.lt (h : LD b rb gb w st) : b < w.heap.size := by
  obtain ⟨f, v, h1, _⟩ := h.ex
  rcases Nat.lt_or_ge b w.heap.size with h' | h'
  · exact h'
  · rw [Array.getElem?_eq_none h'] at h1; cases h1
theorem LD.step {S : Nat → Prop} (h : LD b rb gb w st) (hs : Step S w w') (hb : S b) (hr : S rb) (hg : S gb) : LD b rb gb w' st := by
  obtain ⟨o, st0, h1, h2, h3⟩ := h.ex
  exact ⟨⟨o, st0, (hs.block b hb).trans h1, h2.step hs hr hg, h3⟩, h.ne, h.ng⟩
theorem LD.rblt (h : LD b rb gb w st) : rb < w.heap.size := by
  obtain ⟨o, st0, h1, h2, h3⟩ := h.ex
  exact h2.lt
theorem LD.gblt (h : LD b rb gb w st) : gb < w.heap.size := by
  obtain ⟨o, st0, h1, h2, h3⟩ := h.ex
  obtain ⟨_, _, _, _, _, _, h4, _⟩ := h2.ex
  exact h4
theorem LD.below (h : LD b rb gb w st) (hb : Below w.heap.size w w') : LD b rb gb w' st := h.step (.of_below hb) h.lt h.rblt h.gblt
theorem LD.alloc (h : LD b rb gb w st) (o : Obj) : LD b rb gb (w.alloc o) st := h.below ((Below.refl _ w).alloc (Nat.le_refl _) o)
theorem LD.drew (h : LD b rb gb w st) : LD b rb gb w.drew st := h.below ((Below.refl _ w).drew)
theorem LD.cell (h : LD b rb gb w st) : w.cell? ⟨b, 0, none⟩ = some (.pointer (some ⟨rb, 0, none⟩)) := by
  obtain ⟨o, st0, h1, h2, h3⟩ := h.ex
  rw [Lib.cell_of_heap h1]; rfl
/-- a reading of the reader is one of the loader -/
theorem LD.read {α : Type} {p : List UInt8 → Option (α × List UInt8)} (f : Option (List UInt8) → α × Option (List UInt8)) (hf : ∀ s, Got p s (f s).1 (f s).2) {Q : Ending → World → Prop} {fn : Nat} {args : Array Value} (h : LD b rb gb w st)
    (hc : ∀ st0, RB rb gb w st0 → Calls Try.prog fn args w fun e w' => RB rb gb w' (f st0).2 ∧ Step (fun x => x ≠ rb) w w' ∧ (∀ st', Got p st (f st0).1 st' → LD b rb gb w' st' → Q e w')) : Calls Try.prog fn args w Q := by
  obtain ⟨o, st0, h1, h2, h3⟩ := h.ex
  refine (hc st0 h2).mono ?_
  rintro e w' ⟨hr, hs, hq⟩
  refine hq (if o then none else (f st0).2) ?_ ⟨⟨o, _, (hs.block b h.ne).trans h1, hr, rfl⟩, h.ne, h.ng⟩
  rw [h3]
  cases o with
  | true => exact ⟨fun _ => rfl, fun l e => by simp at e⟩
  | false => exact hf st0
end

theorem ldnum (w : World) (b rb gb : Nat) (st : Option (List UInt8)) (size : Nat) (h : LD b rb gb w st) (hs : size = 1 ∨ size = 2 ∨ size = 4 ∨ size = 8) :
    Calls Try.prog 48 #[.pointer (some ⟨rb, 0, none⟩), .int .i64 (size : Int)] w fun e w' => ∃ n st', e = .returned (.int .i64 n) ∧ Got (numP size) st n st' ∧ okN size n ∧ LD b rb gb w' st' ∧ Step (fun x => x ≠ rb) w w' ∧ w'.heap.size = w.heap.size := by
  refine h.read (fun s => numS s size) (fun s => got_num s size) (fun st0 h0 => ?_)
  refine (rnum_any w rb gb st0 size h0 hs).mono ?_
  rintro e w' ⟨rfl, hr, hst, hz⟩
  exact ⟨hr, hst, fun st' hg hl => ⟨_, st', rfl, hg, numS_ok _ _ (by omega), hl, hst, hz⟩⟩
theorem ldtext (w : World) (b rb gb : Nat) (st : Option (List UInt8)) (h : LD b rb gb w st) :
    Calls Try.prog 47 #[.pointer (some ⟨rb, 0, none⟩)] w fun e w' => ∃ x st', e = .returned (.string ⟨List.toArray x⟩) ∧ Got textP st x st' ∧ x.length ≤ 4096 ∧ LD b rb gb w' st' ∧ Step (fun x => x ≠ rb) w w' ∧ w'.heap.size = w.heap.size := by
  refine h.read (fun s => partS s 2 4096) (fun s => got_part s 2 4096 (by decide)) (fun st0 h0 => ?_)
  refine (rtext_any w rb gb st0 h0).mono ?_
  rintro e w' ⟨rfl, hr, hst, hz⟩
  exact ⟨hr, hst, fun st' hg hl => ⟨_, st', rfl, hg, partS_len _ _ _ (by decide), hl, hst, hz⟩⟩
theorem ldblock (w : World) (b rb gb : Nat) (st : Option (List UInt8)) (h : LD b rb gb w st) :
    Calls Try.prog 49 #[.pointer (some ⟨rb, 0, none⟩)] w fun e w' => ∃ v x st', e = .returned v ∧ OwnK 5 kByte w.heap.size (fun _ => False) w' v x ∧ Got blockP st x st' ∧ x.length ≤ 1048576 ∧ LD b rb gb w' st' ∧ Step (fun x => x < w.heap.size ∧ x ≠ rb) w w' := by
  obtain ⟨o, st0, h1, h2, h3⟩ := h.ex
  refine (rblock_any w rb gb st0 h2).mono ?_
  rintro e w' ⟨v, rfl, hv, hr, hs⟩
  refine ⟨v, _, (if o then none else (partS st0 4 1048576).2), rfl, hv, ?_, partS_len _ _ _ (by decide), ⟨⟨o, _, (hs.block b ⟨h.lt, h.ne⟩).trans h1, hr, rfl⟩, h.ne, h.ng⟩, hs⟩
  rw [h3]
  cases o with
  | true => exact ⟨fun _ => rfl, fun l e => by simp at e⟩
  | false => exact got_part st0 4 1048576 (by decide)

set_option maxHeartbeats 8000000 in
set_option maxRecDepth 100000 in
theorem ldbit (w : World) (b rb gb : Nat) (st : Option (List UInt8)) (h : LD b rb gb w st) :
    Calls Try.prog 51 #[.pointer (some ⟨b, 0, none⟩)] w fun e w' => ∃ x st', e = .returned (.bool x) ∧ Got bitP st x st' ∧ LD b rb gb w' st' ∧ Step (fun x => x ≠ rb ∧ x ≠ b) w w' := by
  obtain ⟨o, st0, h1, h2, h3⟩ := h.ex
  have hne := h.ne
  have hng := h.ng
  have HN := Lib.hid (rnum_any w rb gb st0 1 h2 (by decide))
  have hc := h.cell
  have hbl := h.lt
  have H1 := Lib.hid h1
  have H3 := Lib.hid h3
  have Hn := Lib.hid (got_num st0 1)
  have Ho := Lib.hid (numS_ok st0 1 (by decide))
  clear h h1 h2 h3
  generalize numS st0 1 = ns at *
  obtain ⟨n, st1⟩ := ns
  go_enter Try.func51, Try.ntmps51
  go_wp2_with fail
  refine HN.out.mono ?_
  rintro e w2 ⟨rfl, hr2, hs2, hz2⟩
  have h2 := (hs2.block b hne).trans H1.out
  have hc2 : w2.cell? ⟨b, 1, none⟩ = some (.bool o) := by rw [Lib.cell_of_heap h2]; rfl
  have fz2 : w2.frozen? ⟨b, 1, none⟩ = false := Lib.frozen_of_heap h2 1
  have hbl2 : b < w2.heap.size := by omega
  obtain ⟨rb2, hn2⟩ : 0 ≤ n ∧ n < 256 := by
    have := Ho.out; simp only [okN] at this; simpa using this
  have Hfin : ∀ o' x, (o' = true ↔ o = true ∨ 1 < n) → x = (n == 1) → Hid (∃ st', Got bitP st x st' ∧ LD b rb gb (w2.setCell ⟨b, 1, none⟩ (.bool o')) st') := fun o' x ho' hx => Lib.hid (by
    refine ⟨if o' then none else st1, ?_, ⟨⟨o', st1, by simp [World.setCell, Array.getElem?_modify, h2], hr2.step (S := fun x => x ≠ b) (setCell_step w2 b 1 _) hne.symm hng.symm, rfl⟩, hne, hng⟩⟩
    · rw [H3.out]
      by_cases ho : o = true
      · have e1 : o' = true := ho'.2 (Or.inl ho)
        rw [if_pos ho, if_pos e1]
        exact ⟨fun _ => rfl, fun l e => by cases e⟩
      · rw [if_neg ho]
        refine Hn.out.bind ?_
        by_cases h1 : 1 < n
        · have e1 : o' = true := ho'.2 (Or.inr h1)
          rw [if_pos e1]
          exact ⟨fun _ => rfl, fun l e => ⟨fun _ => rfl, fun y t h => by dsimp only at h; rw [if_pos h1] at h; cases h⟩⟩
        · have e1 : ¬ o' = true := fun h => (ho'.1 h).elim ho h1
          rw [if_neg e1]
          refine ⟨id, fun l e => ⟨fun h => (by dsimp only at h; rw [if_neg h1] at h; cases h), fun y t h => ?_⟩⟩
          dsimp only at h
          rw [if_neg h1] at h
          obtain ⟨rfl, rfl⟩ := Prod.mk.inj (Option.some.inj h)
          exact ⟨hx, e⟩
)
  have Hs := Lib.hid (fun v => (hs2.imp (S' := fun x => x ≠ rb ∧ x ≠ b) (fun x hx => hx.1)).trans ((setCell_step w2 b 1 v).imp (fun x hx => hx.2)))
  clear h2 hr2 hs2 HN H1 H3 Hn
  cases o with
  | true =>
    have HF := Hfin true (n == 1) (by simp) rfl
    clear Hfin
    go_wp2
    go_ret
    obtain ⟨st', g1, g2⟩ := HF.out
    exact ⟨_, st', rfl, g1, g2, Hs.out _⟩
  | false =>
    by_cases h1 : 1 < n
    · have hd : decide (1 < n) = true := by rw [decide_eq_true_eq]; exact h1
      have HF := Hfin true (n == 1) (by simp [h1]) rfl
      clear Hfin
      go_wp2
      go_ret
      obtain ⟨st', g1, g2⟩ := HF.out
      exact ⟨_, st', rfl, g1, g2, Hs.out _⟩
    · have hd : decide (1 < n) = false := by rw [decide_eq_false_iff_not]; exact h1
      have HF := Hfin false (n == 1) (by simp [h1]) rfl
      clear Hfin
      go_wp2
      go_ret
      obtain ⟨st', g1, g2⟩ := HF.out
      exact ⟨_, st', rfl, g1, g2, Hs.out _⟩

end Go.Proofs.Ytbliedldlimpgaa

namespace Go.Proofs.Ytbliedldlimpgaa
set_option linter.unusedVariables false
set_option linter.unusedSimpArgs false
open Go.RowKit

theorem nall_take_succ (p : List UInt8) (k : Nat) (h : k < p.length) (ha : (p.take k).all nameC = true) (hc : nameC p[k] = true) : (p.take (k + 1)).all nameC = true := by
  rw [List.take_succ_eq_append_getElem h, List.all_append, ha]
  simp [hc]
theorem nname_no (p : List UInt8) (k : Nat) (h : k < p.length) (hc : nameC p[k] = false) : nameB p = false := by
  have : p.all nameC = false := by
    rw [List.all_eq_false]
    exact ⟨p[k], List.getElem_mem h, by simp [hc]⟩
  simp [nameB, this]

set_option maxHeartbeats 4000000 in
set_option maxRecDepth 100000 in
theorem vname_any (w : World) (p : List UInt8) (hp : p.length ≤ 9223372036854775807) :
    Calls Try.prog 57 #[.string ⟨p.toArray⟩] w fun e w' => e = .returned (.bool (nameB p)) ∧ Below w.heap.size w w' := by
  have hsz := size_mk p
  have hconv := run_bytes_of_string (P := Try.prog) w 9 36 5 ⟨p.toArray⟩ Try.underlying9 Try.underlying36 Try.underlying5
  rw [hsz] at hconv
  have Hcells : Hid (∀ k (h : k < p.length), (w.drew.alloc (.cells (bytesRow ⟨p.toArray⟩ (grownCap w p.length 0 5)) 5 ((bytesRow ⟨p.toArray⟩ (grownCap w p.length 0 5)).size, (bytesRow ⟨p.toArray⟩ (grownCap w p.length 0 5)).size + 1))).cell? ⟨w.heap.size, k, none⟩ = some (.int .u8 p[k].toNat)) := Lib.hid (by
    intro k h
    have hh : (w.drew.alloc (.cells (bytesRow ⟨p.toArray⟩ (grownCap w p.length 0 5)) 5 ((bytesRow ⟨p.toArray⟩ (grownCap w p.length 0 5)).size, (bytesRow ⟨p.toArray⟩ (grownCap w p.length 0 5)).size + 1))).heap[w.heap.size]? = _ := heap_alloc_new w.drew _
    simp only [World.cell?, hh]
    exact bytesRow_at ⟨p.toArray⟩ _ k (by simpa using h))
  have Hbel : Hid (Below w.heap.size w (w.drew.alloc (.cells (bytesRow ⟨p.toArray⟩ (grownCap w p.length 0 5)) 5 ((bytesRow ⟨p.toArray⟩ (grownCap w p.length 0 5)).size, (bytesRow ⟨p.toArray⟩ (grownCap w p.length 0 5)).size + 1)))) := Lib.hid (((Below.refl _ w).drew).alloc (Nat.le_refl _) _)
  generalize (w.drew.alloc (.cells (bytesRow ⟨p.toArray⟩ (grownCap w p.length 0 5)) 5 ((bytesRow ⟨p.toArray⟩ (grownCap w p.length 0 5)).size, (bytesRow ⟨p.toArray⟩ (grownCap w p.length 0 5)).size + 1))) = w1 at *
  generalize grownCap w p.length 0 5 = gc at *
  go_enter Try.func57, Try.ntmps57
  go_wp2_with fail
  go_loop [8] (fun i => ∃ k : Nat, k ≤ p.length ∧ i = .int .i64 k ∧ (p.take k).all nameC = true) (fun i => p.length - (intOf i).toNat)
  case atStart => exact ⟨0, Nat.zero_le _, rfl, by simp⟩
  case round =>
    obtain ⟨k, hk, rfl, hall⟩ := hrel
    have Hall := Lib.hid hall
    clear hall hconv
    by_cases hlt : k < p.length
    · have g := Hcells.out k hlt
      obtain ⟨c, hcx⟩ : ∃ c, p[k] = c := ⟨_, rfl⟩
      rw [hcx] at g
      have Hyes : Hid (nameC c = true → (p.take (k + 1)).all nameC = true) := Lib.hid (fun h => nall_take_succ p k hlt Hall.out (by rw [hcx]; exact h))
      have Hno : Hid (nameC c = false → nameB p = false) := Lib.hid (fun h => nname_no p k hlt (by rw [hcx]; exact h))
      have Hdef : Hid (nameC c = nameN c.toNat) := Lib.hid rfl
      clear hcx
      generalize (c.toNat : Int) = n at *
      generalize nameC c = bl at *
      cases bl with
      | true =>
        have Hy := Lib.hid (Hyes.out rfl)
        clear Hyes Hno
        go_wp2
        all_goals try (exfalso; have := Hdef.out; simp [nameN] at this; (try simp only [beq_eq_false_iff_ne, bne_eq_false_iff_eq, bne_iff_ne, beq_iff_eq, ne_eq] at *); omega)
        all_goals go_round
        all_goals first | exact ⟨k + 1, by omega, by go_num, Hy.out⟩ | (simp [intOf]; done) | (simp [intOf]; omega)
      | false =>
        have Hn := Lib.hid (Hno.out rfl)
        clear Hyes Hno
        go_wp2
        all_goals try (exfalso; have := Hdef.out; simp [nameN] at this; (try simp only [beq_eq_false_iff_ne, bne_eq_false_iff_eq, bne_iff_ne, beq_iff_eq, ne_eq] at *); omega)
        all_goals go_ret
        all_goals exact ⟨by rw [Hn.out]; rfl, Hbel.out⟩
    · have hall : p.all nameC = true := by have := Hall.out; rw [List.take_of_length_le (by omega)] at this; exact this
      have hr : nameB p = (decide (1 ≤ p.length) && decide (p.length ≤ 64)) := by simp [nameB, hall]
      have Hr := Lib.hid hr
      clear hr hall
      by_cases h1 : 1 ≤ p.length
      · have hd1 : decide (1 ≤ (p.length : Int)) = true := by rw [decide_eq_true_eq]; omega
        by_cases h2 : p.length ≤ 64
        · have hd2 : decide ((p.length : Int) ≤ 64) = true := by rw [decide_eq_true_eq]; omega
          have Hr2 : Hid (nameB p = true) := Lib.hid (by rw [Hr.out]; simp [h1, h2])
          go_wp2
          go_ret
          exact ⟨by rw [Hr2.out]; rfl, Hbel.out⟩
        · have hd2 : decide ((p.length : Int) ≤ 64) = false := by rw [decide_eq_false_iff_not]; omega
          have Hr2 : Hid (nameB p = false) := Lib.hid (by rw [Hr.out]; simp [h2])
          go_wp2
          go_ret
          exact ⟨by rw [Hr2.out]; rfl, Hbel.out⟩
      · have hd1 : decide (1 ≤ (p.length : Int)) = false := by rw [decide_eq_false_iff_not]; omega
        have Hr2 : Hid (nameB p = false) := Lib.hid (by rw [Hr.out]; simp [h1])
        go_wp2
        go_ret
        exact ⟨by rw [Hr2.out]; rfl, Hbel.out⟩

set_option maxHeartbeats 4000000 in
set_option maxRecDepth 100000 in
theorem jname_any (w : World) (p : List UInt8) (hp : p.length ≤ 9223372036854775807) :
    Calls Try.prog 70 #[.string ⟨p.toArray⟩] w fun e w' => e = .returned (.bool (nameB p)) ∧ w' = w := by
  have hsz := size_mk p
  by_cases h1 : 1 ≤ p.length
  case neg =>
    have Hr : Hid (nameB p = false) := Lib.hid (by simp [nameB, h1])
    go_enter Try.func70, Try.ntmps70
    go_wp2
    go_ret
    exact ⟨by rw [Hr.out]; rfl, rfl⟩
  by_cases h2 : p.length ≤ 64
  case neg =>
    have Hr : Hid (nameB p = false) := Lib.hid (by simp [nameB, h2])
    go_enter Try.func70, Try.ntmps70
    go_wp2
    go_ret
    exact ⟨by rw [Hr.out]; rfl, rfl⟩
  have hg2 : ¬ 64 < p.length := by omega
  have hg1 : ¬ p.length < 1 := by omega
  go_enter Try.func70, Try.ntmps70
  go_wp2
  go_loop [3] (fun i => ∃ k : Nat, k ≤ p.length ∧ i = .int .i64 k ∧ (p.take k).all nameC = true) (fun i => p.length - (intOf i).toNat)
  case atStart => exact ⟨0, Nat.zero_le _, rfl, by simp⟩
  case round =>
    obtain ⟨k, hk, rfl, hall⟩ := hrel
    have Hall := Lib.hid hall
    clear hall
    by_cases hlt : k < p.length
    · obtain ⟨c, hcx⟩ : ∃ c, p[k] = c := ⟨_, rfl⟩
      have hx : (⟨p.toArray⟩ : ByteArray)[k]'(by omega) = c := hcx
      have Hyes : Hid (nameC c = true → (p.take (k + 1)).all nameC = true) := Lib.hid (fun h => nall_take_succ p k hlt Hall.out (by rw [hcx]; exact h))
      have Hno : Hid (nameC c = false → nameB p = false) := Lib.hid (fun h => nname_no p k hlt (by rw [hcx]; exact h))
      have Hdef : Hid (nameC c = nameN c.toNat) := Lib.hid rfl
      clear hcx
      generalize nameC c = bl at *
      cases bl with
      | true =>
        have Hy := Lib.hid (Hyes.out rfl)
        clear Hyes Hno
        go_wp2
        all_goals try (exfalso; have := Hdef.out; simp [nameN] at this; (try simp only [beq_eq_false_iff_ne, bne_eq_false_iff_eq, bne_iff_ne, beq_iff_eq, ne_eq] at *); omega)
        all_goals go_round
        all_goals first | exact ⟨k + 1, by omega, by go_num, Hy.out⟩ | (simp [intOf]; done) | (simp [intOf]; omega)
      | false =>
        have Hn := Lib.hid (Hno.out rfl)
        clear Hyes Hno
        go_wp2
        all_goals try (exfalso; have := Hdef.out; simp [nameN] at this; (try simp only [beq_eq_false_iff_ne, bne_eq_false_iff_eq, bne_iff_ne, beq_iff_eq, ne_eq] at *); omega)
        all_goals go_ret
        all_goals exact ⟨by rw [Hn.out]; rfl, rfl⟩
    · have hall : p.all nameC = true := by have := Hall.out; rw [List.take_of_length_le (by omega)] at this; exact this
      have Hr : Hid (nameB p = true) := Lib.hid (by simp [nameB, hall, h1, h2])
      go_wp2
      go_ret
      exact ⟨by rw [Hr.out]; rfl, rfl⟩

end Go.Proofs.Ytbliedldlimpgaa

namespace Go.Proofs.Ytbliedldlimpgaa
set_option linter.unusedVariables false
set_option linter.unusedSimpArgs false
open Go.RowKit

theorem ret_bool' {a b : Bool} (h : a = b) : Ending.returned (.bool a) = .returned (.bool b) := by rw [h]
theorem ret_int' {k : IntKind} {a b : Int} (h : a = b) : Ending.returned (.int k a) = .returned (.int k b) := by rw [h]

/-- what symver answers of a symbol -/
def rightErr (s : SymL) : Int := if symRightB s = true then 0 else 70
theorem rightErr_bad {s : SymL} (h : symRightB s = false) : rightErr s = 70 := by rw [rightErr, h]; rfl
theorem rightErr_ok {s : SymL} (h : symRightB s = true) : rightErr s = 0 := by rw [rightErr, h]; rfl

/-- a symbol's cells in a block -/
theorem sym_cells {x : World} {b : Nat} {s : SymL} (h : x.heap[b]? = some (.cells #[.string ⟨s.name.toArray⟩, .string ⟨s.version.toArray⟩, .bool s.old, .int .i64 s.kind, .bool s.weak, .int .i64 s.vis, .bool s.defined, .int .i64 s.value, .int .i64 s.size] 54 (0, 0))) :
    x.cell? ⟨b, 0, none⟩ = some (.string ⟨s.name.toArray⟩) ∧ x.cell? ⟨b, 1, none⟩ = some (.string ⟨s.version.toArray⟩) ∧ x.cell? ⟨b, 2, none⟩ = some (.bool s.old) ∧ x.cell? ⟨b, 3, none⟩ = some (.int .i64 s.kind) ∧ x.cell? ⟨b, 4, none⟩ = some (.bool s.weak) ∧
    x.cell? ⟨b, 5, none⟩ = some (.int .i64 s.vis) ∧ x.cell? ⟨b, 6, none⟩ = some (.bool s.defined) ∧ x.cell? ⟨b, 7, none⟩ = some (.int .i64 s.value) ∧ x.cell? ⟨b, 8, none⟩ = some (.int .i64 s.size) := by
  refine ⟨?_, ?_, ?_, ?_, ?_, ?_, ?_, ?_, ?_⟩ <;> (rw [Lib.cell_of_heap h]; rfl)

set_option maxHeartbeats 1000000 in
set_option maxRecDepth 100000 in
theorem vseen_any (w : World) (s : SymL) :
    Calls Try.prog 61 #[.agg #[.string ⟨s.name.toArray⟩, .string ⟨s.version.toArray⟩, .bool s.old, .int .i64 s.kind, .bool s.weak, .int .i64 s.vis, .bool s.defined, .int .i64 s.value, .int .i64 s.size]] w fun e w' => e = .returned (.bool (seenB s)) ∧ Below w.heap.size w w' := by
  obtain ⟨name, version, old, kind, weak, vis, defined, value, size⟩ := s
  have Hr : Hid (seenB ⟨name, version, old, kind, weak, vis, defined, value, size⟩ = (defined && (vis != 2))) := Lib.hid (by
    simp only [seenB]
    by_cases h : vis = 2 <;> simp [h])
  cases defined
  all_goals
    go_enter Try.func61, Try.ntmps61
    go_wp2
    all_goals go_ret
    all_goals exact ⟨by rw [Hr.out]; rfl, (Below.refl _ _).alloc (Nat.le_refl _) _⟩
set_option maxHeartbeats 1000000 in
set_option maxRecDepth 100000 in
theorem jseen_any (w : World) (s : SymL) :
    Calls Try.prog 97 #[.agg #[.string ⟨s.name.toArray⟩, .string ⟨s.version.toArray⟩, .bool s.old, .int .i64 s.kind, .bool s.weak, .int .i64 s.vis, .bool s.defined, .int .i64 s.value, .int .i64 s.size]] w fun e w' => e = .returned (.bool (seenB s)) ∧ Below w.heap.size w w' := by
  obtain ⟨name, version, old, kind, weak, vis, defined, value, size⟩ := s
  have Hr : Hid (seenB ⟨name, version, old, kind, weak, vis, defined, value, size⟩ = (defined && (vis != 2))) := Lib.hid (by
    simp only [seenB]
    by_cases h : vis = 2 <;> simp [h])
  cases defined
  all_goals
    go_enter Try.func97, Try.ntmps97
    go_wp2
    all_goals go_ret
    all_goals exact ⟨by rw [Hr.out]; rfl, (Below.refl _ _).alloc (Nat.le_refl _) _⟩
set_option maxHeartbeats 1000000 in
theorem jsized_any (w : World) (s : List UInt8) :
    Calls Try.prog 71 #[.string ⟨s.toArray⟩] w fun e w' => e = .returned (.bool (sizedB s)) ∧ w' = w := by
  have hsz := size_mk s
  by_cases h1 : 1 ≤ s.length
  · have hd1 : decide (1 ≤ (s.length : Int)) = true := by rw [decide_eq_true_eq]; omega
    have Hr : Hid (sizedB s = decide ((s.length : Int) ≤ 200)) := Lib.hid (by rw [sizedB, Bool.eq_iff_iff]; simp; omega)
    go_enter Try.func71, Try.ntmps71
    go_wp2
    go_ret
    exact ⟨by rw [Hr.out]; rfl, rfl⟩
  · have hd1 : decide (1 ≤ (s.length : Int)) = false := by rw [decide_eq_false_iff_not]; omega
    have Hr : Hid (sizedB s = false) := Lib.hid (by rw [sizedB]; simp [h1])
    go_enter Try.func71, Try.ntmps71
    go_wp2
    go_ret
    exact ⟨by rw [Hr.out]; rfl, rfl⟩

set_option maxHeartbeats 8000000 in
set_option maxRecDepth 100000 in
theorem vright_any (w : World) (s : SymL) (hs : SymOk s) :
    Calls Try.prog 58 #[.agg #[.string ⟨s.name.toArray⟩, .string ⟨s.version.toArray⟩, .bool s.old, .int .i64 s.kind, .bool s.weak, .int .i64 s.vis, .bool s.defined, .int .i64 s.value, .int .i64 s.size]] w fun e w' => e = .returned (.int .i64 (rightErr s)) ∧ Below w.heap.size w w' := by
  have hz1 := hs.name
  have hz2 := hs.version
  have hsz1 := size_mk s.name
  have hsz2 := size_mk s.version
  have F1 := Lib.hid (heap_alloc_new w (.cells #[.string ⟨s.name.toArray⟩, .string ⟨s.version.toArray⟩, .bool s.old, .int .i64 s.kind, .bool s.weak, .int .i64 s.vis, .bool s.defined, .int .i64 s.value, .int .i64 s.size] 54 (0, 0)))
  have B1 := Lib.hid ((Below.refl w.heap.size w).alloc (Nat.le_refl _) (.cells #[.string ⟨s.name.toArray⟩, .string ⟨s.version.toArray⟩, .bool s.old, .int .i64 s.kind, .bool s.weak, .int .i64 s.vis, .bool s.defined, .int .i64 s.value, .int .i64 s.size] 54 (0, 0)))
  go_enter Try.func58, Try.ntmps58
  go_wp2_with fail
  refine (vname_any _ s.name hz1).mono ?_
  rintro e w2 ⟨rfl, hb2⟩
  have F2 := Lib.hid ((hb2.block w.heap.size (by simp)).trans F1.out)
  have B2 := Lib.hid (B1.out.trans (hb2.mono (by simp)))
  obtain ⟨c0, c1, c2, c3, c4, c5, c6, c7, c8⟩ := sym_cells F2.out
  clear hb2
  cases hn : nameB s.name with
  | false =>
    have Hr : Hid (rightErr s = 70) := Lib.hid (rightErr_bad (by simp [symRightB, hn]))
    cases hd : s.defined
    all_goals
      rw [hd] at c6
      go_wp2
      all_goals go_ret
      all_goals exact ⟨by rw [Hr.out]; rfl, B2.out⟩
  | true =>
    have Hb : Hid (symRightB s = false → rightErr s = 70) := Lib.hid rightErr_bad
    have Ho : Hid (symRightB s = true → rightErr s = 0) := Lib.hid rightErr_ok
    cases hq : s.version.isEmpty with
    | true =>
      have hv : s.version = [] := List.isEmpty_iff.1 hq
      have Hv := Lib.hid hv
      have Hn := Lib.hid hn
      clear hv
      cases hd : s.defined
      all_goals
        have Hd := Lib.hid hd
        rw [hd] at c6
        cases ho : s.old
        all_goals
          have Ho2 := Lib.hid ho
          rw [ho] at c2
          clear ho
          go_wp2
          all_goals go_ret
          all_goals (try simp only [beq_eq_false_iff_ne, bne_eq_false_iff_eq, bne_iff_ne, beq_iff_eq, ne_eq] at *)
          all_goals first
            | (refine ⟨ret_int' (Ho.out ?_).symm, B2.out⟩; simp [symRightB, Hn.out, Hv.out, Hd.out, Ho2.out]; done)
            | (refine ⟨ret_int' (Ho.out ?_).symm, B2.out⟩; simp [symRightB, Hn.out, Hv.out, Hd.out, Ho2.out]; omega)
            | (refine ⟨ret_int' (Hb.out ?_).symm, B2.out⟩; simp [symRightB, Hn.out, Hv.out, Hd.out, Ho2.out]; done)
            | (refine ⟨ret_int' (Hb.out ?_).symm, B2.out⟩; simp [symRightB, Hn.out, Hv.out, Hd.out, Ho2.out]; intros; omega)
    | false =>
      have Hv : Hid (decide (s.version = []) = false) := Lib.hid (by rw [decide_eq_false_iff_not]; intro e; rw [e] at hq; simp at hq)
      have Hn := Lib.hid hn
      go_wp2_with fail
      refine (vname_any _ s.version hz2).mono ?_
      rintro e w3 ⟨rfl, hb3⟩
      have F3 := Lib.hid ((hb3.block w.heap.size (by have := B2.out.size; have := World.block_lt_of_cell? _ _ c0; omega)).trans F2.out)
      have B3 := Lib.hid (B2.out.trans (hb3.mono B2.out.size))
      clear hb3 c0 c1 c2 c3 c4 c5 c6 c7 c8
      obtain ⟨c0, c1, c2, c3, c4, c5, c6, c7, c8⟩ := sym_cells F3.out
      cases hv2 : nameB s.version with
      | false =>
        have Hr : Hid (rightErr s = 70) := Lib.hid (rightErr_bad (by simp [symRightB, Hv.out, hv2]))
        cases hd : s.defined
        all_goals
          rw [hd] at c6
          go_wp2
          all_goals go_ret
          all_goals exact ⟨by rw [Hr.out]; rfl, B3.out⟩
      | true =>
        have Hv2 := Lib.hid hv2
        cases hd : s.defined
        all_goals
          have Hd := Lib.hid hd
          rw [hd] at c6
          cases ho : s.old
          all_goals
            have Ho2 := Lib.hid ho
            rw [ho] at c2
            clear ho
            go_wp2
            all_goals go_ret
            all_goals (try simp only [beq_eq_false_iff_ne, bne_eq_false_iff_eq, bne_iff_ne, beq_iff_eq, ne_eq] at *)
            all_goals first
              | (refine ⟨ret_int' (Ho.out ?_).symm, B3.out⟩; simp [symRightB, Hn.out, Hv.out, Hv2.out, Hd.out, Ho2.out]; done)
              | (refine ⟨ret_int' (Ho.out ?_).symm, B3.out⟩; simp [symRightB, Hn.out, Hv.out, Hv2.out, Hd.out, Ho2.out]; omega)
              | (refine ⟨ret_int' (Hb.out ?_).symm, B3.out⟩; simp [symRightB, Hn.out, Hv.out, Hv2.out, Hd.out, Ho2.out]; done)
              | (refine ⟨ret_int' (Hb.out ?_).symm, B3.out⟩; simp [symRightB, Hn.out, Hv.out, Hv2.out, Hd.out, Ho2.out]; intros; omega)

end Go.Proofs.Ytbliedldlimpgaa
