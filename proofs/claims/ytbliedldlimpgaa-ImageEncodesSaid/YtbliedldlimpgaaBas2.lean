/- The digits of a number and back: plain Lean. -/
import Derived.Test.YtbliedldlimpgaaBas1
import Derived.StillTail
import Derived.KernelRfl
import Derived.Test.YtbliedldlimpgaaChecked
import Derived.Laws.AppendOwnNone
import Derived.Maps.AppendAt
import Derived.Deep.RegionHeld

/- A region that draws its order, cut where its last operations wait for all the others (the stores of an assignment): the first ones in whatever order, then the last ones in a row. Conditions: checked by the kernel (phaseB). -/
namespace Go.Proofs.Ytbliedldlimpgaa
set_option linter.unusedVariables false
set_option linter.unusedSimpArgs false

section
variable {P : Program}

/-- a wait binds: of the head on earlier ones alone; the tail waits for all of the head -/
def phaseB (md : Region.Mode) (ops : Array Oper) (n : Nat) : Bool :=
  decide (n ≤ ops.size) &&
  ((List.range n).all fun i => match ops[i]? with
    | some o => (o.after.all fun e => !Region.binds md e || decide (e.on < i)) && (match o.guard with | some (g, _) => decide (g < n) | none => true)
    | none => false) &&
  ((List.range ops.size).all fun t => decide (t < n) || (List.range n).all fun i => Region.waitsFor md ops t i) &&
  Region.seqB md ops (ops.size - n) n (Array.replicate n true ++ Array.replicate (ops.size - n) false)

/-- what stands behind the head -/
def phaseQ (P : Program) (ops : Array Oper) (tail : List Oper) (Q : Exit → Act → World → Prop) : Exit → Act → World → Prop
  | .normal, a, w => wpList P ops Q tail a w
  | .exit i, a, w => Q (.exit i) a w
  | .goto l, a, w => Q (.goto l) a w
  | .ret, a, w => Q .ret a w
  | .panic c, a, w => Q (.panic c) a w
  | .outgrown, a, w => Q .outgrown a w

theorem wpAny_more {md : Region.Mode} {ops : Array Oper} {Q : Exit → Act → World → Prop} : ∀ (f : Nat) (listed : Array Bool) (a : Act) (w : World), wpAny P md ops Q f listed a w → wpAny P md ops Q (f + 1) listed a w
  | 0, _, _, _, h => ⟨fun _ => h.2, fun i hi => by rw [h.1] at hi; cases hi⟩
  | f + 1, _, _, _, h => ⟨h.1, fun i hi => wpOp_mono (fun a' w' h' => wpAny_more f _ a' w' h') (h.2 i hi)⟩
theorem wpAny_add {md : Region.Mode} {ops : Array Oper} {Q : Exit → Act → World → Prop} (f : Nat) (listed : Array Bool) (a : Act) (w : World) (h : wpAny P md ops Q f listed a w) : ∀ m, wpAny P md ops Q (f + m) listed a w
  | 0 => h
  | m + 1 => wpAny_more _ _ _ _ (wpAny_add f listed a w h m)

theorem phaseQ_wp {o : Oper} {ops : Array Oper} {tail : List Oper} {Q : Exit → Act → World → Prop} {a : Act} {w : World} {K : Act → World → Prop} (h : o.wp P a w K (phaseQ P ops tail Q)) : o.wp P a w K Q := by
  unfold Oper.wp at *
  generalize (execOp a.eval o).run P w = r at *
  cases r with
  | ok n w' =>
    cases n <;> simp only [Oper.upon] at h ⊢ <;>
      first
        | exact h
        | exact Calls.mono h (fun e w'' he => by cases e <;> exact he)
        | exact Rows.mono h (fun _ _ he => he)
  | halt x w' => cases x <;> simp only [Oper.upon] at h ⊢ <;> exact h

theorem yielded_take (l : List Oper) (n g : Nat) (tmps : Array Value) (h : g < n) : yielded (l.take n).toArray tmps g = yielded l.toArray tmps g := by
  unfold yielded
  simp [List.getElem?_take, h]

theorem waitsFor_after {md : Region.Mode} {ops : Array Oper} {t i : Nat} {o : Oper} (ho : ops[t]? = some o) (h : Region.waitsFor md ops t i = true) : ∃ e ∈ o.after, Region.binds md e = true ∧ e.on = i := by
  obtain ⟨oj, h1, h2⟩ := Region.waitsFor_spec h
  rw [ho] at h1
  cases h1
  exact h2

theorem getD_app (L : Array Bool) (m i : Nat) (h : i < L.size) (d : Bool) : (L ++ Array.replicate m false).getD i d = L.getD i d := by
  simp [Array.getD, Array.getElem_append, h, Nat.lt_add_right m h]
theorem getD_any (L : Array Bool) (i : Nat) (h : i < L.size) (d e : Bool) : L.getD i d = L.getD i e := by
  simp [Array.getD, h]

/-- the cut -/
theorem wpAny_phase {md : Region.Mode} {l : List Oper} {Q : Exit → Act → World → Prop} (n : Nat) (hB : phaseB md l.toArray n = true) :
    ∀ (f : Nat) (listed : Array Bool) (a : Act) (w : World), listed.size = n →
      wpAny P md (l.take n).toArray (phaseQ P l.toArray (l.drop n) Q) f listed a w →
      wpAny P md l.toArray Q (f + (l.length - n)) (listed ++ Array.replicate (l.length - n) false) a w := by
  simp only [phaseB, Bool.and_eq_true, decide_eq_true_eq] at hB
  obtain ⟨⟨⟨hn, hhead⟩, htail⟩, hseq⟩ := hB
  have hn' : n ≤ l.length := by simpa using hn
  have hh : ∀ i, i < n → ∃ o, l[i]? = some o ∧ (∀ e ∈ o.after, Region.binds md e = true → e.on < i) ∧ (∀ g b, o.guard = some (g, b) → g < n) := fun i hi => by
    have := (List.all_eq_true.1 hhead) i (List.mem_range.2 hi)
    have hil : i < l.length := by omega
    rw [List.getElem?_toArray, List.getElem?_eq_getElem hil] at this
    refine ⟨_, List.getElem?_eq_getElem hil, ?_, ?_⟩
    · simp only [Bool.and_eq_true] at this
      intro e he hb
      have h1 := Array.all_eq_true'.1 this.1 e he
      simpa [hb] using h1
    · simp only [Bool.and_eq_true] at this
      intro g b hg
      rw [hg] at this
      simpa using this.2
  have ht : ∀ t, n ≤ t → t < l.length → ∀ i, i < n → Region.waitsFor md l.toArray t i = true := fun t h1 h2 i hi => by
    have := (List.all_eq_true.1 htail) t (List.mem_range.2 (by simpa using h2))
    simp only [Bool.or_eq_true, decide_eq_true_eq] at this
    rcases this with h | h
    · omega
    · exact (List.all_eq_true.1 h) i (List.mem_range.2 hi)
  -- what may come up in the whole region, while one of the head has not come up
  have ready_head : ∀ listed : Array Bool, listed.size = n → ∀ i, i ∈ Region.ready md l.toArray (listed ++ Array.replicate (l.length - n) false) → (∃ k, k < n ∧ listed.getD k false = false) →
      i ∈ Region.ready md (l.take n).toArray listed := fun listed hs i hi hex => by
    obtain ⟨h1, o, ho, hall⟩ := mem_ready.1 hi
    obtain ⟨k, hk, hkf⟩ := hex
    have hil : i < l.length := by
      have := (Array.getElem?_eq_some_iff.1 ho).1
      simpa using this
    rcases Nat.lt_or_ge i n with hin | hin
    · refine mem_ready.2 ⟨?_, o, ?_, ?_⟩
      · rwa [getD_app _ _ _ (by omega)] at h1
      · simpa [List.getElem?_take, hin] using ho
      · intro e he hb
        have h2 := hall e he hb
        obtain ⟨o', ho', hb', _⟩ := hh i hin
        have : o = o' := by
          have : l.toArray[i]? = some o' := by simpa using ho'
          rw [ho] at this; exact Option.some.inj this
        subst this
        have h3 := hb' e he hb
        rwa [getD_app _ _ _ (by omega)] at h2
    · exfalso
      obtain ⟨e, he, hb, hon⟩ := waitsFor_after ho (ht i hin hil k hk)
      have h2 := hall e he hb
      rw [hon] at h2
      rw [getD_app _ _ _ (by omega), hkf] at h2
      cases h2
  -- none of the head may come up: all of it has
  have all_listed : ∀ listed : Array Bool, listed.size = n → Region.ready md (l.take n).toArray listed = [] → ∀ k, k < n → listed.getD k false = true := fun listed hs hr k => by
    induction k using Nat.strongRecOn with
    | _ k ih =>
      intro hk
      rcases hc : listed.getD k false with _ | _
      · exfalso
        obtain ⟨o, ho, hb, _⟩ := hh k hk
        have : k ∈ Region.ready md (l.take n).toArray listed := by
          refine mem_ready.2 ⟨?_, o, ?_, fun e he hbd => ih e.on (hb e he hbd) (by have := hb e he hbd; omega)⟩
          · rw [getD_any _ _ (by omega) true false]; exact hc
          · simpa [List.getElem?_take, hk] using ho
        rw [hr] at this
        cases this
      · rfl
  have finish : ∀ (listed : Array Bool) (a : Act) (w : World), listed.size = n → Region.ready md (l.take n).toArray listed = [] → wpList P l.toArray Q (l.drop n) a w →
      wpAny P md l.toArray Q (l.length - n) (listed ++ Array.replicate (l.length - n) false) a w := fun listed a w hs hr h => by
    have e : listed = Array.replicate n true := by
      apply Array.ext
      · simp [hs]
      · intro i h1 h2
        have := all_listed listed hs hr i (by omega)
        rw [Array.getD, dif_pos h1] at this
        simpa using this
    rw [e]
    have := wpAny_of_seq (P := P) (md := md) (ops := l.toArray) (Q' := Q) (l.drop n) n (Array.replicate n true ++ Array.replicate (l.length - n) false) a w (fun j => by simp [List.getElem?_drop]) (by simpa using hseq) h
    simpa using this
  intro f
  induction f with
  | zero =>
    intro listed a w hs h
    rw [Nat.zero_add]
    exact finish listed a w hs h.1 h.2
  | succ f ih =>
    intro listed a w hs h
    by_cases hr : Region.ready md (l.take n).toArray listed = []
    · have := wpAny_add _ _ _ _ (finish listed a w hs hr (h.1 hr)) (f + 1)
      rwa [Nat.add_comm] at this
    · have hex : ∃ k, k < n ∧ listed.getD k false = false := by
        obtain ⟨k, hk⟩ := List.exists_mem_of_ne_nil _ hr
        obtain ⟨h1, o, ho, _⟩ := mem_ready.1 hk
        have hkn : k < n := by
          have := (Array.getElem?_eq_some_iff.1 ho).1
          simp at this; omega
        refine ⟨k, hkn, ?_⟩
        rw [getD_any _ _ (by omega) false true]; exact h1
      rw [show f + 1 + (l.length - n) = (f + (l.length - n)) + 1 by omega]
      refine ⟨fun h0 => ?_, fun i hi => ?_⟩
      · exfalso
        obtain ⟨k, hk⟩ := List.exists_mem_of_ne_nil _ hr
        obtain ⟨h1, o, ho, hall⟩ := mem_ready.1 hk
        have hkn : k < n := by
          have := (Array.getElem?_eq_some_iff.1 ho).1
          simp at this; omega
        have : k ∈ Region.ready md l.toArray (listed ++ Array.replicate (l.length - n) false) := by
          refine mem_ready.2 ⟨?_, o, ?_, fun e he hb => ?_⟩
          · rwa [getD_app _ _ _ (by omega)]
          · simpa [List.getElem?_take, hkn] using ho
          · have h2 := hall e he hb
            obtain ⟨o', ho', hb', _⟩ := hh k hkn
            have : o = o' := by
              have h3 : l[k]? = some o := by simpa [List.getElem?_take, hkn] using ho
              rw [h3] at ho'; exact Option.some.inj ho'
            subst this
            have h3 := hb' e he hb
            rwa [getD_app _ _ _ (by omega)]
        rw [h0] at this
        cases this
      · have hir := ready_head listed hs i hi hex
        have hstep := h.2 i hir
        have hin : i < n := by
          obtain ⟨_, o, ho, _⟩ := mem_ready.1 hir
          have := (Array.getElem?_eq_some_iff.1 ho).1
          simp at this; omega
        obtain ⟨o, ho, _, hg⟩ := hh i hin
        have ho1 : l.toArray[i]? = some o := by simpa using ho
        have ho2 : (l.take n).toArray[i]? = some o := by simpa [List.getElem?_take, hin] using ho
        have hset : (listed ++ Array.replicate (l.length - n) false).setIfInBounds i true = listed.setIfInBounds i true ++ Array.replicate (l.length - n) false := by
          apply Array.ext_getElem?
          intro j
          by_cases hji : i = j
          · subst hji
            rw [Array.getElem?_setIfInBounds_self_of_lt (by simp; omega), Array.getElem?_append_left (by simp; omega), Array.getElem?_setIfInBounds_self_of_lt (by omega)]
          · rw [Array.getElem?_setIfInBounds_ne hji]
            rcases Nat.lt_or_ge j listed.size with h1 | h1
            · rw [Array.getElem?_append_left h1, Array.getElem?_append_left (by simpa using h1), Array.getElem?_setIfInBounds_ne hji]
            · rw [Array.getElem?_append_right h1, Array.getElem?_append_right (by simpa using h1), Array.size_setIfInBounds]
        have hw : Region.wanted o (yielded (l.take n).toArray a.tmps) = Region.wanted o (yielded l.toArray a.tmps) := by
          unfold Region.wanted
          cases hgd : o.guard with
          | none => rfl
          | some q => simp only [yielded_take l n q.1 a.tmps (hg q.1 q.2 hgd)]
        unfold wpOp at hstep ⊢
        simp only [ho1, ho2] at hstep ⊢
        rw [hset]
        rw [hw] at hstep
        split
        · rename_i hwt
          simp only [hwt, if_true] at hstep
          rcases hstep with hstep | ⟨h1, h2⟩
          · exact .inl (phaseQ_wp (Oper.wp_mono (fun a' w' h' => ih _ a' w' (by simpa using hs) h') hstep))
          · exact .inr ⟨h1, by obtain ⟨a', w', h'⟩ := h2; exact ⟨a', w', h'⟩⟩
        · rename_i hwt
          simp only [hwt] at hstep
          exact ih _ _ _ (by simpa using hs) hstep

/-- for the walk -/
theorem wp_region_phase {id : Nat} {Q : Exit → Act → World → Prop} {a : Act} {w : World} {l : List Oper} (n : Nat) (hm : P.follows .mixedOrders = true) (hB : phaseB .any l.toArray n = true)
    (h : wpAny P .any (l.take n).toArray (phaseQ P l.toArray (l.drop n) Q) n (Array.replicate n false) a { w with drawn := w.drawn + 1 }) : (Code.region id l.toArray true).wp P Q a w := by
  have hn : n ≤ l.length := by
    simp only [phaseB, Bool.and_eq_true, decide_eq_true_eq] at hB
    simpa using hB.1.1.1
  refine wp_region_any hm ?_
  have := wpAny_phase n hB n (Array.replicate n false) a _ (by simp) h
  have e : Array.replicate n false ++ Array.replicate (l.length - n) false = Array.replicate l.toArray.size false := by
    simp [Array.replicate_append_replicate, Nat.add_sub_cancel' hn]
  rw [e, Nat.add_sub_cancel' hn] at this
  simpa using this

end
end Go.Proofs.Ytbliedldlimpgaa

/- Appending all of a list to one that the call makes (elements of one cell); a writer's struct. -/
namespace Go.Proofs.Ytbliedldlimpgaa
set_option linter.unusedVariables false
set_option linter.unusedSimpArgs false
open Go.RowKit

/-- elements of one cell, which lead nowhere -/
structure Plain {α : Type} (K : Kind α) (f : α → Value) : Prop where
  one : K.k = 1
  into : ∀ {S w x r}, K.R S w x r → r = [f x]
  of : ∀ S w x, K.R S w x [f x]
  cell : ∀ x, (f x).oneCell' = true
theorem plain_byte : Plain kByte (fun x => .int .u8 x.toNat) := ⟨rfl, fun h => h, fun _ _ _ => rfl, fun _ => rfl⟩
theorem plain_int : Plain kInt (fun x => .int .i64 x) := ⟨rfl, fun h => h, fun _ _ _ => rfl, fun _ => rfl⟩
theorem plain_word : Plain kWord (fun x => .int .u64 x) := ⟨rfl, fun h => h, fun _ _ _ => rfl, fun _ => rfl⟩
section
variable {α : Type} {e : TypeId} {K : Kind α} {f : α → Value} {B : Nat} {E : Nat → Prop} {w w' : World} {v : Value} {l : List α}
theorem RowsOf.plain (hp : Plain K f) {S : Nat → Prop} : ∀ {l : List α} {xs : List Value}, RowsOf K S w l xs → xs = l.map f
  | [], _, h => h
  | _ :: _, _, ⟨r, ys, h0, h1, h2⟩ => by rw [h0, hp.into h1, RowsOf.plain hp h2]; rfl
theorem RowsOf.of_plain (hp : Plain K f) (S : Nat → Prop) (w : World) : ∀ l : List α, RowsOf K S w l (l.map f)
  | [] => rfl
  | x :: l => ⟨[f x], l.map f, rfl, hp.of S w x, RowsOf.of_plain hp S w l⟩
theorem OwnK.plain_row (hp : Plain K f) (h : OwnK e K B E w v l) : w.ownsRow B e 1 v l.length (l.map f) := by
  obtain ⟨xs, h1, h2, _⟩ := h
  rw [hp.one] at h1
  rwa [RowsOf.plain hp h2] at h1
theorem OwnK.of_plain (hp : Plain K f) (h : w.ownsRow B e 1 v l.length (l.map f)) (hE : ∀ g, v.ownBlock = some g → ¬ E g) : OwnK e K B E w v l :=
  ⟨l.map f, by rw [hp.one]; exact h, RowsOf.of_plain hp _ _ l, hE⟩
/-- a list of plain elements stays what it is where its row does -/
theorem OwnK.plain_keep (hp : Plain K f) (h : OwnK e K B E w v l) (hk : ∀ g, v.ownBlock = some g → w'.heap[g]? = w.heap[g]?) : OwnK e K B E w' v l := by
  have h1 := h.plain_row hp
  refine .of_plain hp ⟨h1.1, ?_⟩ h.notE
  rcases h1.2 with h0 | ⟨g, cap, cur, hv, hg, hh, r⟩
  · exact Or.inl h0
  · exact Or.inr ⟨g, cap, cur, hv, hg, by rw [hk g (by rw [hv]; rfl)]; exact hh, r⟩

/-- append of all of a list to one that the call has made -/
theorem wpList_appendsK {ops : Array Oper} {rest : List Oper} {o : Oper} {a : Act} {Q : Exit → Act → World → Prop} (hp : Plain K f) (t : TypeId) (z : Value) (bytes : Nat) (ht : Try.prog.underlying t = some (.slice e)) (hinfo : (Try.prog.info? e).map (fun i => (i.zero, i.size, i.bytes)) = some (some z, 1, bytes))
    (hzs : z.cells.size = 1) (hgd : o.guard = none) (s x : Operand)
    (ho : o.op = .call { callee := .builtin .append, args := #[s, x], argTypes := #[t, t] })
    (hs : a.eval s = v) (hown : OwnK e K B E w v l) (hE : ∀ b, E b → b < w.heap.size) {S : Nat → Prop} (u : Value) (m : List α) (hx : a.eval x = u) (hu : LB K S w u m)
    (hlen : (l.length + m.length) * bytes ≤ 140737488355328) (hl63 : l.length + m.length ≤ 9223372036854775807) (hB : B ≤ w.heap.size)
    (h : ∀ v' w', OwnK e K B E w' v' (l ++ m) → Step (fun b => b < w.heap.size ∧ v.ownBlock ≠ some b) w w' → (∀ b, b < w.heap.size → v.ownBlock ≠ some b → v'.ownBlock ≠ some b) → wpList Try.prog ops Q rest (a.put o.dst v') w') : wpList Try.prog ops Q (o :: rest) a w := by
  obtain ⟨i0, hi, hz0, hz1, hz2⟩ := info_parts hinfo
  have h1 := hown.plain_row hp
  obtain ⟨ua, ub, uoff, ucap, hv, hm, ha, hcap, hS, hc⟩ := hu
  cases ua with
  | none =>
    have hm0 : m = [] := by
      cases m with
      | nil => rfl
      | cons y m => exact absurd (ha (by simp)) (by simp)
    subst hm0
    have hc0 := hcap.2 rfl
    subst hc0
    refine wpList_append_own_none hgd s x t ho B e i0 1 ht hi v l.length (l.map f) hs h1 (hx.trans hv) ?_
    exact h v w (by rw [List.append_nil]; exact hown) (Step.refl _ _) (fun b _ h => h)
  | some ad =>
    refine wpList_append_own_at w hgd s x t ho B e i0 z 1 bytes ht hi hz0 hz1 hz2 hzs (by decide) v l.length (l.map f) hs h1 ad m.length ucap (m.map f) (hx.trans hv) (by simp) ?_ ?_ (by unfold maxLen; omega) hlen hB ?_
    · intro j u hj
      rw [List.getElem?_map] at hj
      cases hmj : m[j]? with
      | none => rw [hmj] at hj; cases hj
      | some y =>
        rw [hmj] at hj
        have hu : f y = u := by simpa using hj
        subst hu
        have hml : 0 < m.length := by have := (List.getElem?_eq_some_iff.1 hmj).1; omega
        obtain rfl : ad = ⟨ub, uoff, none⟩ := by have := ha hml; simpa using this
        obtain ⟨row, r1, r2⟩ := hc j y hmj
        have := hp.into r1
        subst this
        have := r2 0 (f y) rfl
        rw [hp.one] at this
        simpa [Addr.add_lit] using this
    · intro u hu
      simp only [List.mem_map] at hu
      obtain ⟨y, _, rfl⟩ := hu
      exact hp.cell y
    · intro v' w' g1 g2 _ g4
      have hlt := World.ownsRow.lt h1
      have hlt' := World.ownsRow.lt g1
      have hst : Step (fun b => b < w.heap.size ∧ v.ownBlock ≠ some b) w w' := Step.of_grown g2 (fun b hb => ⟨hb.1, hb.2⟩)
      refine h v' w' (.of_plain hp (by rw [List.length_append, List.map_append]; exact g1) ?_) hst ?_
      · intro g hg hEg
        rcases g4 with h' | h'
        · exact hown.notE g (by rw [← h']; exact hg) hEg
        · have : g = w.heap.size := by rw [h'] at hg; exact (Option.some.inj hg).symm
          have := hE _ hEg; omega
      · intro b hb hne e
        rcases g4 with h' | h'
        · exact hne (by rw [← h']; exact e)
        · have : b = w.heap.size := by rw [h'] at e; exact (Option.some.inj e).symm
          omega
end
section
variable {α : Type} {e : TypeId} {K : Kind α} {B : Nat} {E : Nat → Prop} {w w' : World} {v : Value} {l : List α}
/-- append of one element, at the operation: for a step of a region that draws its order -/
theorem wp_appendK {o : Oper} {a : Act} {C : Act → World → Prop} {Q : Exit → Act → World → Prop} (t : TypeId) (z : Value) (bytes : Nat) (ht : Try.prog.underlying t = some (.slice e)) (hinfo : (Try.prog.info? e).map (fun i => (i.zero, i.size, i.bytes)) = some (some z, K.k, bytes))
    (hzs : z.cells.size = K.k) (hk : 0 < K.k) (s x : Operand)
    (ho : o.op = .call { callee := .builtin .append, args := #[s, x], argTypes := #[t, t] })
    (n : Nat) (hn : l.length = n) (hs : a.eval s = v) (hown : OwnK e K B E w v l) (hE : ∀ b, E b → b < w.heap.size) (nb : Nat) (y : α) (row : List Value) (hx : a.eval x = .slice (some ⟨nb, 0, none⟩) 1 1)
    (hcell : ∀ j u, row[j]? = some u → w.cell? ⟨nb, j, none⟩ = some u) (hone : ∀ u ∈ row, u.oneCell' = true) (hrow : K.R (fun b => b < w.heap.size ∧ ¬ E b ∧ v.ownBlock ≠ some b) w y row)
    (hlen : (l.length + 1) * bytes ≤ 140737488355328) (hl63 : l.length < 1099511627776) (hB : B ≤ w.heap.size)
    (h : ∀ g c w', OwnK e K B E w' (.slice (some ⟨g, 0, none⟩) (n + 1) c) (l ++ [y]) → Step (fun b => b < w.heap.size ∧ v.ownBlock ≠ some b) w w' → g < w'.heap.size → (∀ b, b < w.heap.size → v.ownBlock ≠ some b → b ≠ g) →
      C (a.put o.dst (.slice (some ⟨g, 0, none⟩) (n + 1) c)) w') : o.wp Try.prog a w C Q := by
  subst hn
  obtain ⟨i0, hi, hz0, hz1, hz2⟩ := info_parts hinfo
  obtain ⟨xs, h1, h2, h3⟩ := hown
  have hlt := World.ownsRow.lt h1
  refine wp_append_lies w s x t ho B e i0 z K.k bytes ht hi hz0 hz1 hz2 hzs hk v l.length xs hs h1 ⟨nb, 0, none⟩ 1 1 row hx (by rw [K.len hrow, Nat.one_mul]) ?_ hone (by decide) ?_ hlen hB _ rfl ?_
  · intro j u hj
    have := hcell j u hj
    simpa [Addr.add_lit] using this
  · unfold maxLen; omega
  · intro g c w' g1 g2 g3 g4
    have hst : Step (fun b => b < w.heap.size ∧ v.ownBlock ≠ some b) w w' := Step.of_grown g2 (fun b hb => ⟨hb.1, hb.2⟩)
    have hsz := hst.size
    have hgne : ∀ b, b < w.heap.size → v.ownBlock ≠ some b → b ≠ g := by
      intro b hb hne e
      subst e
      rcases g3 with h' | h'
      · exact hne h'
      · omega
    refine h g c w' ⟨xs ++ row, by simpa using g1, ?_, ?_⟩ hst g4 hgne
    · have hr := (h2.keeps (fun b hb => hst.block b ⟨hb.1, hb.2.2⟩)).snoc (K.keeps hrow (fun b hb => hst.block b ⟨hb.1, hb.2.2⟩))
      exact hr.imp fun b hb => ⟨by omega, hb.2.1, fun e => hgne b hb.1 hb.2.2 (by simpa [Value.ownBlock] using e.symm)⟩
    · intro g' hg' hEg
      have : g' = g := by simpa [Value.ownBlock] using hg'.symm
      subst this
      rcases g3 with h' | h'
      · exact h3 _ h' hEg
      · have := hE _ hEg; omega
end
theorem info_byte : (Try.prog.info? 5).map (fun i => (i.zero, i.size, i.bytes)) = some (some (.int .u8 0), 1, 1) := by kernel_rfl

end Go.Proofs.Ytbliedldlimpgaa

/- Plain laws of an image's table: bucket by bucket, or by all that are seen: the same. No program in sight. -/
namespace Go.Proofs.Ytbliedldlimpgaa
set_option linter.unusedVariables false
set_option linter.unusedSimpArgs false
theorem sum_add (l : List Nat) (f g : Nat → Nat) : (l.map fun k => f k + g k).sum = (l.map f).sum + (l.map g).sum := by
  induction l with
  | nil => rfl
  | cons a l ih => simp only [List.map_cons, List.sum_cons, ih]; omega
theorem sum_zero (l : List Nat) : (l.map fun _ => (0 : Nat)).sum = 0 := by
  induction l with
  | nil => rfl
  | cons a l ih => simp only [List.map_cons, List.sum_cons, ih]
theorem sum_congr (l : List Nat) (f g : Nat → Nat) (h : ∀ k ∈ l, f k = g k) : (l.map f).sum = (l.map g).sum := by
  rw [List.map_congr_left h]

section
variable (home : Nat → Nat)
/-- does a bucket's entry stand for one of S, at home in b? -/
def atHome (S : List Nat) (b : Nat) (i : Int) : Bool := S.any fun k => decide (i = (k : Int)) && decide (home k = b)
def onceAt (S : List Nat) (b : Nat) (c : List Int) : Nat := (S.map fun k => if home k = b then c.count (k : Int) else 0).sum
theorem atHome_sum (S : List Nat) (hS : S.Nodup) (b : Nat) (i : Int) : (if atHome home S b i then 1 else 0) = (S.map fun k => if home k = b then (if i = (k : Int) then 1 else 0) else 0).sum := by
  induction S with
  | nil => rfl
  | cons k S ih =>
    obtain ⟨hk, hS'⟩ := List.nodup_cons.1 hS
    simp only [List.map_cons, List.sum_cons]
    rw [← ih hS']
    by_cases h1 : i = (k : Int)
    · have h2 : atHome home S b i = false := by
        rw [atHome, List.any_eq_false]
        intro x hx
        have : x ≠ k := fun e => hk (e ▸ hx)
        simp; omega
      by_cases h3 : home k = b <;> simp [atHome, h1, h3] at h2 ⊢ <;> simpa using h2
    · by_cases h3 : home k = b <;> simp [atHome, h1, h3]
theorem countP_home (S : List Nat) (hS : S.Nodup) (b : Nat) (c : List Int) : c.countP (atHome home S b) = onceAt home S b c := by
  induction c with
  | nil => simp [onceAt, sum_zero]
  | cons i c ih =>
    rw [List.countP_cons, ih]
    have : onceAt home S b (i :: c) = onceAt home S b c + (S.map fun k => if home k = b then (if i = (k : Int) then 1 else 0) else 0).sum := by
      unfold onceAt
      rw [← sum_add]
      apply sum_congr
      intro k _
      rw [List.count_cons]
      by_cases h3 : home k = b <;> simp [h3]
    rw [this, ← atHome_sum home S hS]
/-- entries at home, in all buckets -/
def homes (S : List Nat) : Nat → List (List Int) → Nat
  | _, [] => 0
  | b, c :: l => c.countP (atHome home S b) + homes S (b + 1) l
theorem homes_sum (S : List Nat) (hS : S.Nodup) : ∀ (bs : List (List Int)) (b : Nat), homes home S b bs = (S.map fun k => if home k < b then 0 else (bs.getD (home k - b) []).count (k : Int)).sum
  | [], b => by
    refine (sum_zero S).symm.trans (sum_congr S _ _ (fun k _ => ?_))
    by_cases h : home k < b <;> simp [h]
  | c :: l, b => by
    rw [homes, homes_sum S hS l (b + 1), countP_home home S hS, onceAt, ← sum_add]
    apply sum_congr
    intro k _
    by_cases h : home k < b
    · simp [h, show home k < b + 1 by omega, show home k ≠ b by omega]
    · by_cases h2 : home k = b
      · simp [h2]
      · have : home k - b = (home k - (b + 1)) + 1 := by omega
        simp [h, h2, show ¬ home k < b + 1 by omega, this]
theorem homes_le (S : List Nat) : ∀ (bs : List (List Int)) (b : Nat), homes home S b bs ≤ (bs.map List.length).sum
  | [], _ => Nat.le_refl _
  | c :: l, b => by
    have := homes_le S l (b + 1)
    have h2 := List.countP_le_length (p := atHome home S b) (l := c)
    simp only [homes, List.map_cons, List.sum_cons]; omega
theorem homes_all (S : List Nat) : ∀ (bs : List (List Int)) (b : Nat), homes home S b bs = (bs.map List.length).sum ↔ ∀ j c, bs[j]? = some c → ∀ i ∈ c, atHome home S (b + j) i = true
  | [], _ => by simp [homes]
  | c :: l, b => by
    have h1 := homes_le home S l (b + 1)
    have h2 := List.countP_le_length (p := atHome home S b) (l := c)
    have ih := homes_all S l (b + 1)
    have h3 := List.countP_eq_length (p := atHome home S b) (l := c)
    simp only [homes, List.map_cons, List.sum_cons]
    constructor
    · intro h j d hj
      cases j with
      | zero => simp at hj; subst hj; exact h3.1 (by omega)
      | succ j =>
        have := ih.1 (by omega) j d (by simpa using hj)
        rwa [show b + 1 + j = b + (j + 1) by omega] at this
    · intro h
      have a1 := h3.2 (fun i hi => by simpa using h 0 c (by simp) i hi)
      have a2 := ih.2 (fun j d hj => by have := h (j + 1) d (by simpa using hj); rwa [show b + (j + 1) = b + 1 + j by omega] at this)
      omega
theorem sum_ones (S : List Nat) (f : Nat → Nat) (h : ∀ k ∈ S, f k ≤ 1) : (S.map f).sum = S.length ↔ ∀ k ∈ S, f k = 1 := by
  induction S with
  | nil => simp
  | cons a S ih =>
    have h1 := h a (by simp)
    have hle : (S.map f).sum ≤ S.length := by
      clear ih
      have h' : ∀ k ∈ S, f k ≤ 1 := fun k hk => h k (by simp [hk])
      clear h
      induction S with
      | nil => simp
      | cons b S ih2 =>
        have := h' b (by simp)
        have := ih2 (fun k hk => h' k (by simp [hk]))
        simp only [List.map_cons, List.sum_cons, List.length_cons]; omega
    have ih' := ih (fun k hk => h k (by simp [hk]))
    simp only [List.map_cons, List.sum_cons, List.length_cons, List.mem_cons, forall_eq_or_imp]
    rw [← ih']; omega
theorem count_le_one (c : List Int) (h : c.Pairwise (· < ·)) (i : Int) : c.count i ≤ 1 := by
  induction c with
  | nil => simp
  | cons a c ih =>
    obtain ⟨h1, h2⟩ := List.pairwise_cons.1 h
    rw [List.count_cons]
    by_cases e : a = i
    · have : c.count i = 0 := by
        rw [List.count_eq_zero]
        intro hi
        have := h1 i hi
        omega
      simp [e, this]
    · have := ih h2
      simp [e]; exact this
/-- THE LAW: where all buckets rise, and they have as many entries as S has, all entries are at home just if each of S stands once where it is at home -/
theorem home_iff (S : List Nat) (hS : S.Nodup) (bs : List (List Int)) (hb : ∀ c ∈ bs, c.Pairwise (· < ·)) (hn : (bs.map List.length).sum = S.length) :
    (∀ j c, bs[j]? = some c → ∀ i ∈ c, atHome home S j i = true) ↔ ∀ k ∈ S, (bs.getD (home k) []).count (k : Int) = 1 := by
  have h1 := homes_all home S bs 0
  have h2 := homes_sum home S hS bs 0
  simp only [Nat.not_lt_zero, if_false, Nat.sub_zero, Nat.zero_add] at h1 h2
  rw [← h1, h2, hn]
  refine sum_ones S _ (fun k _ => ?_)
  by_cases h : home k < bs.length
  · rw [List.getD_eq_getElem?_getD, List.getElem?_eq_getElem h]; exact count_le_one _ (hb _ (List.getElem_mem h)) _
  · simp [List.getD, List.getElem?_eq_none (Nat.le_of_not_lt h)]
end


/-! ### a table is right: bucket by bucket, or by all that are seen -/
def noSymL : SymL := ⟨[], [], false, 0, false, 0, false, 0, 0⟩
def symN (syms : List SymL) (k : Nat) : SymL := syms[k]?.getD noSymL
def seenK (syms : List SymL) (n : Nat) : List Nat := (List.range n).filter fun k => seenB (symN syms k)
/-- the places of those that are seen -/
def seenIx (syms : List SymL) : List Nat := seenK syms syms.length
theorem seenK_succ (syms : List SymL) (n : Nat) : seenK syms (n + 1) = seenK syms n ++ if seenB (symN syms n) then [n] else [] := by
  rw [seenK, List.range_succ, List.filter_append, List.filter_cons, List.filter_nil]; rfl
theorem seenIx_nodup (syms : List SymL) : (seenIx syms).Nodup := List.nodup_range.sublist List.filter_sublist
theorem seenK_mem (syms : List SymL) (n k : Nat) : k ∈ seenK syms n ↔ k < n ∧ seenB (symN syms k) = true := by
  rw [seenK, List.mem_filter, List.mem_range]
theorem seenK_length (syms : List SymL) : ∀ n, n ≤ syms.length → (seenK syms n).length = ((syms.take n).filter seenB).length
  | 0, _ => by simp [seenK]
  | n + 1, h => by
    rw [seenK_succ, List.length_append, seenK_length syms n (by omega), List.take_succ_eq_append_getElem (show n < syms.length by omega), List.filter_append, List.length_append]
    have : symN syms n = syms[n] := by rw [symN, List.getElem?_eq_getElem (show n < syms.length by omega)]; rfl
    rw [this]
    by_cases hs : seenB syms[n] = true <;> simp [hs]
theorem seenIx_length (syms : List SymL) : (seenIx syms).length = (syms.filter seenB).length := by
  rw [seenIx, seenK_length syms _ (Nat.le_refl _), List.take_length]
theorem seenK_le (syms : List SymL) (n : Nat) : (seenK syms n).length ≤ n := by
  have := List.length_filter_le (fun k => seenB (symN syms k)) (List.range n)
  rwa [List.length_range] at this
/-- rising -/
def risingB : List Int → Bool
  | a :: b :: l => decide (a < b) && risingB (b :: l)
  | _ => true
theorem rising_pairwise : ∀ l : List Int, risingB l = true ↔ l.Pairwise (· < ·)
  | [] => by simp [risingB]
  | [a] => by simp [risingB]
  | a :: b :: l => by
    have ih := rising_pairwise (b :: l)
    rw [risingB, Bool.and_eq_true, ih, List.pairwise_cons (a := a), decide_eq_true_eq]
    constructor
    · rintro ⟨h1, h2⟩
      refine ⟨fun c hc => ?_, h2⟩
      rcases List.mem_cons.1 hc with rfl | hc
      · exact h1
      · have := (List.pairwise_cons.1 h2).1 c hc; omega
    · rintro ⟨h1, h2⟩
      exact ⟨h1 b (by simp), h2⟩
def symHome (im : ImgL) (k : Nat) : Nat := homeL (symN im.syms k).name im.buckets.length
/-- what the reference asks of one that is seen -/
def standsB (im : ImgL) (k : Nat) : Bool := decide ((im.buckets.getD (symHome im k) []).count (k : Int) = 1) && !lacksB im.words im.shift (hashB (symN im.syms k).name)
def entryB (im : ImgL) (b : Nat) (i : Int) : Bool := match (if i < 0 then none else im.syms[i.toNat]?) with
    | some s => seenB s && decide (homeL s.name im.buckets.length = b) && !lacksB im.words im.shift (hashB s.name)
    | none => false
theorem chainB_iff (im : ImgL) (b : Nat) : ∀ (l : List Int) (last : Int), chainB im.syms im.words im.shift im.buckets.length b last l = true ↔ (∀ i ∈ l, last < i) ∧ l.Pairwise (· < ·) ∧ ∀ i ∈ l, entryB im b i = true
  | [], _ => by simp [chainB]
  | i :: l, last => by
    have ih := chainB_iff im b l i
    have e : chainB im.syms im.words im.shift im.buckets.length b last (i :: l) = (decide (last < i) && entryB im b i && chainB im.syms im.words im.shift im.buckets.length b i l) := by rw [chainB]; rfl
    rw [e, Bool.and_eq_true, Bool.and_eq_true, ih, decide_eq_true_eq, List.pairwise_cons]
    constructor
    · rintro ⟨⟨h1, h2⟩, h3, h4, h5⟩
      refine ⟨fun c hc => ?_, ⟨h3, h4⟩, fun c hc => ?_⟩
      · rcases List.mem_cons.1 hc with rfl | hc
        · exact h1
        · have := h3 c hc; omega
      · rcases List.mem_cons.1 hc with rfl | hc
        · exact h2
        · exact h5 c hc
    · rintro ⟨h1, ⟨h3, h4⟩, h5⟩
      exact ⟨⟨h1 i (by simp), h5 i (by simp)⟩, h3, h4, fun c hc => h5 c (by simp [hc])⟩
theorem entry_nonneg {im : ImgL} {b : Nat} {i : Int} (h : entryB im b i = true) : 0 ≤ i := by
  unfold entryB at h
  by_cases hi : i < 0
  · rw [if_pos hi] at h; cases h
  · omega
theorem entry_home {im : ImgL} {b : Nat} {i : Int} : entryB im b i = true ↔ ∃ k ∈ seenIx im.syms, i = (k : Int) ∧ symHome im k = b ∧ lacksB im.words im.shift (hashB (symN im.syms k).name) = false := by
  constructor
  · intro h
    have h0 := entry_nonneg h
    obtain ⟨k, rfl⟩ : ∃ k : Nat, i = k := ⟨i.toNat, by omega⟩
    unfold entryB at h
    rw [if_neg (by omega), Int.toNat_natCast] at h
    cases hs : im.syms[k]? with
    | none => rw [hs] at h; cases h
    | some s =>
      rw [hs] at h
      have hk := (List.getElem?_eq_some_iff.1 hs).1
      have hn : symN im.syms k = s := by rw [symN, hs]; rfl
      simp only [Bool.and_eq_true, decide_eq_true_eq, Bool.not_eq_true'] at h
      exact ⟨k, (seenK_mem _ _ _).2 ⟨hk, by rw [hn]; exact h.1.1⟩, rfl, by rw [symHome, hn]; exact h.1.2, by rw [hn]; exact h.2⟩
  · rintro ⟨k, hk, rfl, h1, h2⟩
    obtain ⟨hk1, hk2⟩ := (seenK_mem _ _ _).1 hk
    have hs : im.syms[k]? = some (symN im.syms k) := by rw [symN, List.getElem?_eq_getElem hk1]; rfl
    unfold entryB
    rw [if_neg (by omega), Int.toNat_natCast, hs]
    simp only [Bool.and_eq_true, decide_eq_true_eq, Bool.not_eq_true']
    exact ⟨⟨hk2, h1⟩, h2⟩
theorem chainsB_iff (im : ImgL) : ∀ (bs : List (List Int)) (b : Nat), chainsB im.syms im.words im.shift im.buckets.length b bs = true ↔ (∀ c ∈ bs, c.Pairwise (· < ·)) ∧ ∀ j c, bs[j]? = some c → ∀ i ∈ c, entryB im (b + j) i = true
  | [], _ => by simp [chainsB]
  | c :: l, b => by
    have ih := chainsB_iff im l (b + 1)
    rw [chainsB, Bool.and_eq_true, ih, chainB_iff]
    constructor
    · rintro ⟨⟨_, h2, h3⟩, h4, h5⟩
      refine ⟨fun d hd => ?_, fun j d hj => ?_⟩
      · rcases List.mem_cons.1 hd with rfl | hd
        · exact h2
        · exact h4 d hd
      · cases j with
        | zero => simp at hj; subst hj; exact h3
        | succ j => rw [show b + (j + 1) = b + 1 + j by omega]; exact h5 j d (by simpa using hj)
    · rintro ⟨h1, h2⟩
      have h0 := h2 0 c (by simp)
      refine ⟨⟨fun i hi => ?_, h1 c (by simp), h0⟩, fun d hd => h1 d (by simp [hd]), fun j d hj => ?_⟩
      · have := entry_nonneg (h0 i hi); omega
      · have := h2 (j + 1) d (by simpa using hj)
        rwa [show b + (j + 1) = b + 1 + j by omega] at this
/-- what the reference's table test comes to -/
def tableJ (im : ImgL) : Bool :=
  decide (im.syms.length ≤ 512) && decide (1 ≤ im.buckets.length) && decide (im.buckets.length ≤ 512) && sieveB im.words im.shift && im.buckets.all risingB &&
  decide ((im.buckets.map List.length).sum = (seenIx im.syms).length) && (seenIx im.syms).all (standsB im)
theorem tableJ_eq (im : ImgL) : tableJ im = tableB im := by
  rw [Bool.eq_iff_iff]
  unfold tableJ tableB
  simp only [Bool.and_eq_true, decide_eq_true_eq]
  rw [chainsB_iff, ← seenIx_length]
  simp only [Nat.zero_add]
  have hall : (im.buckets.all risingB = true) ↔ ∀ c ∈ im.buckets, c.Pairwise (· < ·) := by
    rw [List.all_eq_true]; exact ⟨fun h c hc => (rising_pairwise c).1 (h c hc), fun h c hc => (rising_pairwise c).2 (h c hc)⟩
  rw [hall]
  constructor
  · rintro ⟨⟨⟨h0, h1⟩, h2⟩, h3⟩
    refine ⟨⟨h0, h1, ?_⟩, h2⟩
    have hh := (home_iff (symHome im) (seenIx im.syms) (seenIx_nodup _) im.buckets h1 h2).2 (fun k hk => by
      have := List.all_eq_true.1 h3 k hk
      simp only [standsB, Bool.and_eq_true, decide_eq_true_eq] at this
      exact this.1)
    intro j c hj i hi
    have := hh j c hj i hi
    simp only [atHome, List.any_eq_true, Bool.and_eq_true, decide_eq_true_eq] at this
    obtain ⟨k, hk, h4, h5⟩ := this
    have h6 := List.all_eq_true.1 h3 k hk
    simp only [standsB, Bool.and_eq_true, decide_eq_true_eq, Bool.not_eq_true'] at h6
    exact entry_home.2 ⟨k, hk, h4, h5, h6.2⟩
  · rintro ⟨⟨h0, h1, h3⟩, h2⟩
    refine ⟨⟨⟨h0, h1⟩, h2⟩, ?_⟩
    have hh := (home_iff (symHome im) (seenIx im.syms) (seenIx_nodup _) im.buckets h1 h2).1 (fun j c hj i hi => by
      obtain ⟨k, hk, h4, h5, _⟩ := entry_home.1 (h3 j c hj i hi)
      simp only [atHome, List.any_eq_true, Bool.and_eq_true, decide_eq_true_eq]
      exact ⟨k, hk, h4, h5⟩)
    rw [List.all_eq_true]
    intro k hk
    have hc := hh k hk
    simp only [standsB, Bool.and_eq_true, decide_eq_true_eq, Bool.not_eq_true']
    refine ⟨hc, ?_⟩
    have hmem : (k : Int) ∈ im.buckets.getD (symHome im k) [] := List.count_pos_iff.1 (by omega)
    rw [List.getD_eq_getElem?_getD] at hmem
    cases hb : im.buckets[symHome im k]? with
    | none => rw [hb] at hmem; simp at hmem
    | some c =>
      rw [hb] at hmem
      obtain ⟨k', _, h4, _, h6⟩ := entry_home.1 (h3 _ c hb (k : Int) (by simpa using hmem))
      have : k' = k := by omega
      subst this
      exact h6

end Go.Proofs.Ytbliedldlimpgaa

/- The digits of a number and back: plain Lean. -/
namespace Go.Proofs.Ytbliedldlimpgaa
set_option linter.unusedVariables false
set_option linter.unusedSimpArgs false

def valL : List UInt8 → Nat
  | [] => 0
  | c :: l => c.toNat + 256 * valL l
theorem val_digits : ∀ (size m : Nat), m < 256 ^ size → valL ((List.range size).map fun i => UInt8.ofNat (m / 256 ^ i)) = m
  | 0, m, h => by simp at h; simp [valL, h]
  | size + 1, m, h => by
    rw [List.range_succ_eq_map, List.map_cons, List.map_map, valL]
    have e : ((fun i => UInt8.ofNat (m / 256 ^ i)) ∘ Nat.succ) = fun i => UInt8.ofNat (m / 256 / 256 ^ i) := by
      funext i
      simp only [Function.comp, Nat.succ_eq_add_one]
      rw [Nat.pow_succ, Nat.mul_comm, Nat.div_div_eq_div_mul]
    rw [e, val_digits size (m / 256) (by rw [Nat.pow_succ] at h; exact Nat.div_lt_of_lt_mul (by rw [Nat.mul_comm]; exact h))]
    simp
    omega
theorem digitsL_len (size : Nat) (n : Int) : (digitsL size n).length = size := by simp [digitsL]
theorem val_digitsL (size : Nat) (n : Int) (h0 : 0 ≤ n) (h1 : n < 18446744073709551616) (h : n.toNat < 256 ^ size) : (valL (digitsL size n) : Int) = n := by
  rw [digitsL, Int.emod_eq_of_lt h0 h1, val_digits size n.toNat h, Int.toNat_of_nonneg h0]

end Go.Proofs.Ytbliedldlimpgaa
