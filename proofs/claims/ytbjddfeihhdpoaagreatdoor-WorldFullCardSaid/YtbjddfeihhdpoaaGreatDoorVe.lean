import Derived.Test.YtbjddfeihhdpoaaGreatDoorVd
import Derived.OrdersIn
set_option linter.unusedVariables false
set_option linter.unusedSimpArgs false
namespace Go.Proofs.YtbjddfeihhdpoaaGreatDoor
open Go
variable {P : Program} {call : Caller} {ops : Array Oper} {s : St} {E E' : Nat → Prop}

def Knd.isMk : Knd → Bool
  | .mk _ _ => true
  | _ => false
theorem heapE_same : ∀ {l : List Rec}, (∀ r ∈ l, r.k.isTurn = true → (E r.i ↔ E' r.i)) → heapE s E l = heapE s E' l
  | [], _ => rfl
  | r :: l, h => by
    have ih := heapE_same (l := l) fun x hx => h x (List.mem_cons_of_mem _ hx)
    have hr := h r (List.mem_cons_self ..)
    simp only [heapE]
    split
    · rename_i hk
      have := hr (by rw [hk]; rfl)
      by_cases hE : E r.i
      · rw [if_pos hE, if_pos (this.1 hE)]
      · rw [if_neg hE, if_neg (fun h => hE (this.2 h)), ih]
    · exact ih
theorem pendE_same : ∀ {l : List Rec}, (∀ r ∈ l, r.k.isTurn = true ∨ r.k.isMk = true → (E r.i ↔ E' r.i)) → pendE s E l = pendE s E' l
  | [], _ => rfl
  | r :: l, h => by
    have ih := pendE_same (l := l) fun x hx => h x (List.mem_cons_of_mem _ hx)
    have hr := h r (List.mem_cons_self ..)
    simp only [pendE]
    split
    · rename_i hk
      have := hr (.inl (by rw [hk]; rfl))
      by_cases hE : E r.i
      · rw [if_pos hE, if_pos (this.1 hE), ih]
      · rw [if_neg hE, if_neg (fun h => hE (this.2 h)), ih]
    · rename_i hk
      have := hr (.inr (by rw [hk]; rfl))
      by_cases hE : E r.i
      · rw [if_pos hE, if_pos (this.1 hE), ih]
      · rw [if_neg hE, if_neg (fun h => hE (this.2 h)), ih]
    · exact ih
/-- an operation that neither turns nor makes leaves the heap -/
theorem aE_same {l : List Rec} (h : ∀ r ∈ l, r.k.isTurn = true ∨ r.k.isMk = true → (E r.i ↔ E' r.i)) : aE s E l = aE s E' l := by
  unfold aE
  rw [pendE_same h, heapE_same fun r hr ht => h r hr (.inl ht)]
/-- one more block that waits -/
theorem pendE_mk (hB : Back s) (hc : Closed s E) {l : List Rec} (h : WF P call ops s l) {r : Rec} (hr : r ∈ l) {k : Blk} {y : AT} (hk : r.k = .mk k y) (hE : ¬ E r.i) (hrec : ∀ q ∈ l, q.i = r.i → q = r) (x : Nat × Nat × Blk) :
    x ∈ pendE s (fun i => E i ∨ i = r.i) l ↔ x ∈ pendE s E l ∨ x = (r.i, s.base + r.i, k) := by
  have hnt : r.k.isTurn = false := by rw [hk]; rfl
  rw [mem_pendE hB h, mem_pendE hB h]
  constructor
  · rintro ⟨q, hq, j, u, h1, h2, rfl, h3⟩
    rcases h2 with h2 | h2
    · exact .inl ⟨q, hq, j, u, h1, h2, rfl, fun c hc' ht hcE => h3 c hc' ht (.inl hcE)⟩
    · have := hrec q hq h2
      subst this
      rw [hk] at h1; cases h1
      exact .inr rfl
  · rintro (⟨q, hq, j, u, h1, h2, rfl, h3⟩ | rfl)
    · refine ⟨q, hq, j, u, h1, .inl h2, rfl, fun c hc' ht hcE => ?_⟩
      rcases hcE with hcE | hcE
      · exact h3 c hc' ht hcE
      · have := hrec c hc' hcE
        rw [this, hnt] at ht; cases ht
    · refine ⟨r, hr, k, y, hk, .inr rfl, rfl, fun c hc' ht hcE => ?_⟩
      rcases hcE with hcE | hcE
      · cases hb : bit (s.bef c.i) r.i with
        | false => rfl
        | true => exact absurd (hc c.i hcE r.i hb) hE
      · have := hrec c hc' hcE
        rw [this, hnt] at ht; cases ht
end Go.Proofs.YtbjddfeihhdpoaaGreatDoor
namespace Go.Proofs.YtbjddfeihhdpoaaGreatDoor
open Go
variable {P : Program} {call : Caller} {ops : Array Oper} {s : St} {E : Nat → Prop}

/-- a drawn region under way: ι0, h0, w0 are those at its start -/
structure Inv (s : St) (ι0 : Map) (h0 : AH) (w0 : World) (rs : List Rec) (N : Nat) (D : List Deferred) (E : Nat → Prop) (ι : Map) (a : Act) (w : World) : Prop where
  clo : Closed s E
  ext : Ext ι0 ι
  rel : Rel ι (aE s E rs) w
  free : ∀ r ∈ rs, r.k.isMk = true → ¬ E r.i → ι (s.base + r.i) = none
  sep : ∀ x ∈ pendE s E rs, (heapE s E rs).t.get x.2.1 = none
  keep : Keep0 ι0 h0 w0 ι (aE s E rs) w
  old : ∀ b, b < h0.n → ι b = ι0 b
  calm : Calm w0 w
  dst : ∀ r ∈ rs, E r.i → ∀ d, r.o.dst = some d → ∃ u, a.tmps[d]? = some u ∧ r.k.out.den ι u
  rest : ∀ d x, (∀ r ∈ rs, E r.i → r.o.dst ≠ some d) → s.F.get d = some x → ∃ u, a.tmps[d]? = some u ∧ x.den ι u
  num : s.base + rs.length ≤ (heapE s E rs).n
  size : a.tmps.size = N
  defs : a.defers = D
/-- at the end the frame is the evaluator's -/
theorem Inv.frame {ι0 ι : Map} {h0 : AH} {w0 w : World} {rs : List Rec} {N : Nat} {D : List Deferred} {a : Act} (hU : Unlike ops) (hw : WF P call ops s rs) (hE : ∀ r ∈ rs, E r.i)
    (I : Inv s ι0 h0 w0 rs N D E ι a w) : RA ι (frameOf s rs) N D a := by
  refine ⟨fun t x e => ?_, I.size, I.defs⟩
  by_cases ht : ∃ r ∈ rs, r.o.dst = some t
  · obtain ⟨r, hr, hd⟩ := ht
    rw [frame_dst hU hw r hr t hd] at e
    cases e
    exact I.dst r hr (hE r hr) t hd
  · have hn : ∀ r ∈ rs, r.o.dst ≠ some t := fun r hr hd => ht ⟨r, hr, hd⟩
    rw [frame_old hw t hn] at e
    exact I.rest t x (fun r hr _ => hn r hr) e
/-- at the end the heap is the evaluator's -/
theorem Inv.heap {ι0 ι : Map} {h0 : AH} {w0 w : World} {rs : List Rec} {N : Nat} {D : List Deferred} {a : Act} (hE : ∀ r ∈ rs, E r.i)
    (I : Inv s ι0 h0 w0 rs N D E ι a w) : Rel ι ⟨layAll (pendOf s rs) (heapOf s rs).t, (heapOf s rs).n⟩ w := by
  have := I.rel
  unfold aE at this
  rwa [pendE_all hE, heapE_all hE] at this
/-- the frame behind one more operation -/
theorem Inv.frames {ι : Map} {rs : List Rec} {N : Nat} {a : Act} {r : Rec} {u : Value} (hU : Unlike ops) (hw : WF P call ops s rs) (hr : r ∈ rs) (hrec : ∀ q ∈ rs, q.i = r.i → q = r) (hd : ∀ d, r.o.dst = some d → d < N) (hN : a.tmps.size = N)
    (hx : r.k.out.den ι u) (h1 : ∀ r ∈ rs, E r.i → ∀ d, r.o.dst = some d → ∃ u, a.tmps[d]? = some u ∧ r.k.out.den ι u) (h2 : ∀ d x, (∀ r ∈ rs, E r.i → r.o.dst ≠ some d) → s.F.get d = some x → ∃ u, a.tmps[d]? = some u ∧ x.den ι u) :
    (∀ q ∈ rs, (E q.i ∨ q.i = r.i) → ∀ d, q.o.dst = some d → ∃ v, (a.put r.o.dst u).tmps[d]? = some v ∧ q.k.out.den ι v) ∧
    (∀ d x, (∀ q ∈ rs, (E q.i ∨ q.i = r.i) → q.o.dst ≠ some d) → s.F.get d = some x → ∃ v, (a.put r.o.dst u).tmps[d]? = some v ∧ x.den ι v) := by
  have hne : ∀ d, r.o.dst ≠ some d → (a.put r.o.dst u).tmps[d]? = a.tmps[d]? := fun d h => by
    cases hk : r.o.dst with
    | none => rfl
    | some e =>
      rw [hk] at h
      simp only [Act.put]
      exact Array.getElem?_setIfInBounds_ne (fun he => h (by rw [he]))
  constructor
  · intro q hq hE d hqd
    by_cases hqr : q.i = r.i
    · have := hrec q hq hqr
      subst this
      refine ⟨u, ?_, hx⟩
      have hlt := hd d hqd
      simp only [Act.put, hqd]
      simp [hN, hlt]
    · have hE := hE.resolve_right hqr
      obtain ⟨v, hv, hden⟩ := h1 q hq hE d hqd
      refine ⟨v, ?_, hden⟩
      rw [hne d fun hrd => hqr (hU q.i r.i q.o r.o d (WF.op hw q hq) (WF.op hw r hr) hqd hrd)]
      exact hv
  · intro d x hn hg
    obtain ⟨v, hv, hden⟩ := h2 d x (fun q hq hE => hn q hq (.inl hE)) hg
    exact ⟨v, by rw [hne d (hn r hr (.inr rfl))]; exact hv, hden⟩
/-- an operation that neither turns nor makes -/
theorem Inv.val {ι0 ι : Map} {h0 : AH} {w0 w : World} {rs : List Rec} {N : Nat} {D : List Deferred} {a : Act} {r : Rec} {u : Value} (hU : Unlike ops) (hw : WF P call ops s rs) (I : Inv s ι0 h0 w0 rs N D E ι a w)
    (hr : r ∈ rs) (hrec : ∀ q ∈ rs, q.i = r.i → q = r) (hd : ∀ d, r.o.dst = some d → d < N) (hb : ∀ j, bit (s.bef r.i) j = true → E j) (hnt : r.k.isTurn = false) (hnm : r.k.isMk = false) (hx : r.k.out.den ι u) :
    Inv s ι0 h0 w0 rs N D (fun i => E i ∨ i = r.i) ι (a.put r.o.dst u) w := by
  have hs : ∀ q ∈ rs, q.k.isTurn = true ∨ q.k.isMk = true → (E q.i ↔ (E q.i ∨ q.i = r.i)) := fun q hq h => ⟨.inl, fun hh => hh.resolve_right fun e => by
    have := hrec q hq e
    subst this
    rcases h with h | h
    · rw [hnt] at h; cases h
    · rw [hnm] at h; cases h⟩
  have hA := aE_same (s := s) (E := E) (E' := fun i => E i ∨ i = r.i) (l := rs) hs
  obtain ⟨f1, f2⟩ := Inv.frames (E := E) (u := u) hU hw hr hrec hd I.size hx I.dst I.rest
  refine ⟨fun i hi j hj => ?_, I.ext, hA ▸ I.rel, fun q hq hm hn => I.free q hq hm fun h => hn (.inl h), ?_, hA ▸ I.keep, I.old, I.calm, f1, f2, ?_, (put_size ..).trans I.size, (put_defers ..).trans I.defs⟩
  · rcases hi with hi | hi
    · exact .inl (I.clo i hi j hj)
    · rw [hi] at hj; exact .inl (hb j hj)
  · have := I.sep
    rwa [pendE_same (E := E) (E' := fun i => E i ∨ i = r.i) hs, heapE_same (E := E) (E' := fun i => E i ∨ i = r.i) fun q hq ht => hs q hq (.inl ht)] at this
  · have := I.num
    rwa [heapE_same (E := E) (E' := fun i => E i ∨ i = r.i) fun q hq ht => hs q hq (.inl ht)] at this
end Go.Proofs.YtbjddfeihhdpoaaGreatDoor
namespace Go.Proofs.YtbjddfeihhdpoaaGreatDoor
open Go
variable {P : Program} {call : Caller} {ops : Array Oper} {s : St} {E : Nat → Prop}

/-- an operation that makes a block -/
theorem Inv.mk_step {ι0 ι : Map} {h0 : AH} {w0 w w' : World} {rs : List Rec} {N : Nat} {D : List Deferred} {a : Act} {r : Rec} {u : Value} {k : Blk} {y : AT} {ob : Obj} {z : Nat} (hU : Unlike ops) (hB : Back s) (hw : WF P call ops s rs) (I : Inv s ι0 h0 w0 rs N D E ι a w)
    (hbase : h0.n ≤ s.base) (hr : r ∈ rs) (hrec : ∀ q ∈ rs, q.i = r.i → q = r) (hd : ∀ d, r.o.dst = some d → d < N) (hb : ∀ j, bit (s.bef r.i) j = true → E j) (hE : ¬ E r.i) (hk : r.k = .mk k y)
    (hh : w'.heap = w.heap.push ob) (hcm : Calm w w') (hok : ι (s.base + r.i) = none → k.ok (ι.add (s.base + r.i) w.heap.size z) z (some ob) ∧ y.den (ι.add (s.base + r.i) w.heap.size z) u) :
    Inv s ι0 h0 w0 rs N D (fun i => E i ∨ i = r.i) (ι.add (s.base + r.i) w.heap.size z) (a.put r.o.dst u) w' := by
  have hf := I.free r hr (by rw [hk]; rfl) hE
  obtain ⟨hkok, hden⟩ := hok hf
  have hx := Map.add_ext (r := w.heap.size) (z := z) hf
  have hlt := WF.lt hw r hr
  have hnum := I.num
  obtain ⟨A, B⟩ := I.rel.alloc0 (s.base + r.i) z k ob (aE s E rs).n hf (Nat.le_refl _) (by show s.base + r.i < (heapE s E rs).n; omega) hkok
  have hnt : r.k.isTurn = false := by rw [hk]; rfl
  have hs : ∀ q ∈ rs, q.k.isTurn = true → (E q.i ↔ (E q.i ∨ q.i = r.i)) := fun q hq h => ⟨.inl, fun hh => hh.resolve_right fun e => by
    have := hrec q hq e
    subst this
    rw [hnt] at h; cases h⟩
  have hH : heapE s E rs = heapE s (fun i => E i ∨ i = r.i) rs := heapE_same (E := E) (E' := fun i => E i ∨ i = r.i) hs
  have hP := pendE_mk hB I.clo hw hr hk hE hrec
  have hkey : ∀ x ∈ pendE s E rs, x.2.1 ≠ s.base + r.i := fun x hx e => by
    obtain ⟨q, hq, j, v, h1, h2, rfl, _⟩ := (mem_pendE hB hw).1 hx
    have e : s.base + q.i = s.base + r.i := e
    exact hE (by rw [← show q.i = r.i by omega]; exact h2)
  have hnone : (heapE s E rs).t.get (s.base + r.i) = none := by
    cases hg : (heapE s E rs).t.get (s.base + r.i) with
    | none => rfl
    | some k' =>
      obtain ⟨q, z', e, _⟩ := I.rel.blk (s.base + r.i) k' ((aE_get hB hw).2 (.inr ⟨hkey, hg⟩))
      rw [hf] at e; cases e
  have hget : ∀ c, (aE s (fun i => E i ∨ i = r.i) rs).t.get c = ((aE s E rs).t.set (s.base + r.i) k).get c := fun c => by
    rw [T.get_set]
    apply Option.ext
    intro j
    rw [aE_get hB hw, ← hH]
    by_cases hc : c = s.base + r.i
    · rw [if_pos hc]
      subst hc
      constructor
      · rintro (⟨x, hx, e1, e2⟩ | ⟨hn, _⟩)
        · rcases (hP x).1 hx with hx | rfl
          · exact absurd e1 (hkey x hx)
          · rw [← e2]
        · exact absurd rfl (hn _ ((hP _).2 (.inr rfl)))
      · intro e
        cases e
        exact .inl ⟨_, (hP _).2 (.inr rfl), rfl, rfl⟩
    · rw [if_neg hc, aE_get hB hw]
      constructor
      · rintro (⟨x, hx, e1, e2⟩ | ⟨hn, hg⟩)
        · rcases (hP x).1 hx with hx | rfl
          · exact .inl ⟨x, hx, e1, e2⟩
          · exact absurd e1.symm hc
        · exact .inr ⟨fun x hx => hn x ((hP x).2 (.inl hx)), hg⟩
      · rintro (⟨x, hx, e1, e2⟩ | ⟨hn, hg⟩)
        · exact .inl ⟨x, (hP x).2 (.inl hx), e1, e2⟩
        · refine .inr ⟨fun x hx => ?_, hg⟩
          rcases (hP x).1 hx with hx | rfl
          · exact hn x hx
          · exact fun e => hc e.symm
  have hn : (aE s (fun i => E i ∨ i = r.i) rs).n = (aE s E rs).n := by show (heapE s _ rs).n = (heapE s E rs).n; rw [← hH]
  have he : w'.heap = (w.alloc ob).heap := hh
  have hout : r.k.out.den (ι.add (s.base + r.i) w.heap.size z) u := by rw [hk]; exact hden
  obtain ⟨f1, f2⟩ := Inv.frames (E := E) (u := u) hU hw hr hrec hd I.size hout (fun q hq hqE d hqd => let ⟨v, h1, h2⟩ := I.dst q hq hqE d hqd; ⟨v, h1, h2.ext hx⟩) (fun d x hn hg => let ⟨v, h1, h2⟩ := I.rest d x hn hg; ⟨v, h1, h2.ext hx⟩)
  refine ⟨fun i hi j hj => ?_, I.ext.trans hx, (A.like hget (Nat.le_of_eq hn.symm)).of_heap he, fun q hq hm hnE => ?_, fun x hx' => ?_, ?_, fun b hbn => ?_, I.calm.trans hcm, f1, f2, hH ▸ I.num, (put_size ..).trans I.size, (put_defers ..).trans I.defs⟩
  · rcases hi with hi | hi
    · exact .inl (I.clo i hi j hj)
    · rw [hi] at hj; exact .inl (hb j hj)
  · have : q.i ≠ r.i := fun e => hnE (.inr e)
    show (if s.base + q.i = s.base + r.i then _ else _) = none
    rw [if_neg (by omega)]
    exact I.free q hq hm fun h => hnE (.inl h)
  · rw [← hH]
    rcases (hP x).1 hx' with hx' | rfl
    · exact I.sep x hx'
    · exact hnone
  · refine (I.keep.trans ⟨B.1, fun q hq hqt => ⟨(B.2 q hq hqt).1, fun ht => (B.2 q hq hqt).2 (Trk.like hget ht)⟩⟩).trans (.of_heap he)
  · show (if b = s.base + r.i then _ else ι b) = _
    rw [if_neg (by omega)]
    exact I.old b hbn
end Go.Proofs.YtbjddfeihhdpoaaGreatDoor
namespace Go.Proofs.YtbjddfeihhdpoaaGreatDoor
open Go
variable {P : Program} {call : Caller} {ops : Array Oper} {s : St} {E : Nat → Prop}

theorem WF.inj : ∀ {l : List Rec}, WF P call ops s l → ∀ r ∈ l, ∀ q ∈ l, r.i = q.i → r = q
  | [], _, r, hr, _, _, _ => by cases hr
  | z :: l, h, r, hr, q, hq, e => by
    have hw := h.2.2.2.2.2
    rcases List.mem_cons.1 hr with hr | hr <;> rcases List.mem_cons.1 hq with hq | hq
    · rw [hr, hq]
    · have := WF.lt hw q hq; have := h.1; rw [hr] at e; omega
    · have := WF.lt hw r hr; have := h.1; rw [hq] at e; omega
    · exact WF.inj hw r hr q hq e
theorem WF.ahead {l1 l2 : List Rec} {r : Rec} (h : WF P call ops s (l1 ++ r :: l2)) : ∀ y ∈ l1, r.i < y.i := by
  intro y hy
  obtain ⟨a, b, rfl⟩ := List.append_of_mem hy
  rw [List.append_assoc, List.cons_append] at h
  have h' := WF.tail h
  have h1 := h'.1
  have h2 := WF.lt h'.2.2.2.2.2 r (by simp)
  omega
theorem lay_eq (b : Nat) : ∀ (l : List (Nat × Nat × Blk)) (t : T Blk), lay b l t = layAll (l.filter fun x => bit b x.1) t
  | [], t => rfl
  | x :: l, t => by
    simp only [lay, List.filter_cons]
    cases hb : bit b x.1 with
    | true => exact lay_eq b l _
    | false => exact lay_eq b l _
/-- the heap that a turn meets is a part of the set's -/
theorem laid_part (hB : Back s) (hc : Closed s E) {l1 l2 : List Rec} {r : Rec} (h : WF P call ops s (l1 ++ r :: l2)) (ht : r.k.isTurn = true) (hr : ¬ E r.i) (hb : ∀ j, bit (s.bef r.i) j = true → E j)
    (hsep : ∀ x ∈ pendE s E (l1 ++ r :: l2), (heapE s E (l1 ++ r :: l2)).t.get x.2.1 = none) {c : Nat} {k : Blk}
    (hg : (lay (s.bef r.i) (pendOf s l2) (heapOf s l2).t).get c = some k) :
    (aE s E (l1 ++ r :: l2)).t.get c = some k ∧ ∀ x ∈ pendE s E (l1 ++ r :: l2), bit (s.bef r.i) x.1 = false → x.2.1 ≠ c := by
  have hw2 : WF P call ops s l2 := (WF.tail h).2.2.2.2.2
  have hpo : pendOf s l2 = pendE s (fun _ => True) l2 := (pendE_all fun _ _ => trivial).symm
  have hH := heapE_ready hc h ht hr hb
  rw [lay_eq, layAll_iff (fun x hx y hy => by
    have hx := (List.mem_filter.1 hx).1
    have hy := (List.mem_filter.1 hy).1
    rw [hpo] at hx hy
    exact pendE_one hB hw2 x hx y hy)] at hg
  rcases hg with ⟨x, hx, rfl, rfl⟩ | ⟨hn, hg⟩
  · obtain ⟨hx, hbit⟩ := List.mem_filter.1 hx
    rw [hpo] at hx
    obtain ⟨q, hq, k, u, h1, _, rfl, h3⟩ := (mem_pendE hB hw2).1 hx
    have hm : (q.i, s.base + q.i, k) ∈ pendE s E (l1 ++ r :: l2) := (mem_pendE hB h).2 ⟨q, by simp [hq], k, u, h1, hb _ hbit, rfl, fun c hcm hct hcE => by
      rcases List.mem_append.1 hcm with hcm | hcm
      · exact absurd hcE (turns_behind hc h ht hr c hcm hct)
      · rcases List.mem_cons.1 hcm with rfl | hcm
        · exact absurd hcE hr
        · exact h3 c hcm hct trivial⟩
    refine ⟨(aE_get hB h).2 (.inl ⟨_, hm, rfl, rfl⟩), fun x hx hbx e => ?_⟩
    have := pendE_one hB h x hx _ hm e
    rw [this] at hbx
    rw [hbx] at hbit; cases hbit
  · have hne : ∀ x ∈ pendE s E (l1 ++ r :: l2), x.2.1 ≠ c := fun x hx e => by
      have := hsep x hx
      rw [hH, e, hg] at this; cases this
    exact ⟨(aE_get hB h).2 (.inr ⟨hne, by rw [hH]; exact hg⟩), fun x hx _ => hne x hx⟩
theorem heapE_turned (hc : Closed s E) {l1 l2 : List Rec} {r : Rec} {pre laid post : AH} {y : AT} (h : WF P call ops s (l1 ++ r :: l2)) (hk : r.k = .turn pre laid post y) (hr : ¬ E r.i) :
    heapE s (fun i => E i ∨ i = r.i) (l1 ++ r :: l2) = post := by
  have ht : r.k.isTurn = true := by rw [hk]; rfl
  rw [heapE_skip fun q hq hqt hE => ?_]
  · exact heapE_in hk (.inr rfl)
  · rcases hE with hE | hE
    · exact turns_behind hc h ht hr q hq hqt hE
    · have := WF.ahead h q hq
      omega
theorem pendE_turned (hB : Back s) {l1 l2 : List Rec} {r : Rec} {pre laid post : AH} {y : AT} (h : WF P call ops s (l1 ++ r :: l2)) (hk : r.k = .turn pre laid post y) (x : Nat × Nat × Blk) :
    x ∈ pendE s (fun i => E i ∨ i = r.i) (l1 ++ r :: l2) ↔ x ∈ pendE s E (l1 ++ r :: l2) ∧ bit (s.bef r.i) x.1 = false := by
  have ht : r.k.isTurn = true := by rw [hk]; rfl
  have hr : r ∈ l1 ++ r :: l2 := by simp
  rw [mem_pendE hB h, mem_pendE hB h]
  constructor
  · rintro ⟨q, hq, k, u, h1, h2, rfl, h3⟩
    have h2 : E q.i := h2.resolve_right fun e => by
      have := WF.inj h q hq r hr e
      subst this
      rw [hk] at h1; cases h1
    exact ⟨⟨q, hq, k, u, h1, h2, rfl, fun c hc hct hcE => h3 c hc hct (.inl hcE)⟩, h3 r hr ht (.inr rfl)⟩
  · rintro ⟨⟨q, hq, k, u, h1, h2, rfl, h3⟩, hbit⟩
    refine ⟨q, hq, k, u, h1, .inl h2, rfl, fun c hc hct hcE => ?_⟩
    rcases hcE with hcE | hcE
    · exact h3 c hc hct hcE
    · rw [WF.inj h c hc r hr hcE]; exact hbit
/-- an operation that turns the world -/
theorem Inv.turn_step {ι0 ι κ : Map} {h0 : AH} {w0 w w' : World} {l1 l2 : List Rec} {N : Nat} {D : List Deferred} {a : Act} {r : Rec} {u : Value} {pre laid post : AH} {y : AT}
    (hU : Unlike ops) (hB : Back s) (hw : WF P call ops s (l1 ++ r :: l2)) (I : Inv s ι0 h0 w0 (l1 ++ r :: l2) N D E ι a w)
    (hbase : h0.n ≤ s.base) (hd : ∀ d, r.o.dst = some d → d < N) (hb : ∀ j, bit (s.bef r.i) j = true → E j) (hE : ¬ E r.i) (hk : r.k = .turn pre laid post y)
    (hx : Ext ι κ) (hR : Rel κ post w') (hK : Keep ι laid w κ post w') (hy : y.den κ u) :
    Inv s ι0 h0 w0 (l1 ++ r :: l2) N D (fun i => E i ∨ i = r.i) κ (a.put r.o.dst u) w' := by
  have ht : r.k.isTurn = true := by rw [hk]; rfl
  have hr : r ∈ l1 ++ r :: l2 := by simp
  have hko := (WF.tail hw).2.2.2.2.1
  simp only [KOk, hk] at hko
  obtain ⟨hpre, hlaid, _, _, _⟩ := hko
  have hH : heapE s E (l1 ++ r :: l2) = pre := by rw [hpre]; exact heapE_ready I.clo hw ht hE hb
  have hH' := heapE_turned I.clo hw hk hE
  have hP := pendE_turned (E := E) hB hw hk
  have hpart : ∀ {c : Nat} {k : Blk}, laid.t.get c = some k → (aE s E (l1 ++ r :: l2)).t.get c = some k ∧ ∀ x ∈ pendE s E (l1 ++ r :: l2), bit (s.bef r.i) x.1 = false → x.2.1 ≠ c := fun {c k} hg => by
    rw [hlaid, hpre] at hg
    exact laid_part hB I.clo hw ht hE hb I.sep hg
  have hn : laid.n = (aE s E (l1 ++ r :: l2)).n := by rw [hlaid]; show pre.n = (heapE s E _).n; rw [hH]
  have hstay : ∀ x ∈ pendE s (fun i => E i ∨ i = r.i) (l1 ++ r :: l2), ∃ q z, ι x.2.1 = some (q, z) ∧ x.2.2.ok ι z w.heap[q]? ∧ (aE s E (l1 ++ r :: l2)).t.get x.2.1 = some x.2.2 ∧ w'.heap[q]? = w.heap[q]? ∧ ¬ Trk κ post q := by
    intro x hx
    obtain ⟨hx, hbit⟩ := (hP x).1 hx
    have hg : (aE s E (l1 ++ r :: l2)).t.get x.2.1 = some x.2.2 := (aE_get hB hw).2 (.inl ⟨x, hx, rfl, rfl⟩)
    obtain ⟨q, z, e, hj⟩ := I.rel.blk _ _ hg
    have hnt : ¬ Trk ι laid q := fun ⟨b, k, z', hb', eb⟩ => by
      obtain ⟨g1, g2⟩ := hpart hb'
      exact g2 x hx hbit (I.rel.inj _ _ _ _ q _ _ g1 hg eb e).symm
    obtain ⟨g1, g2⟩ := hK.1.2 q hj.some hnt
    exact ⟨q, z, e, hj, hg, g1, g2⟩
  have hnum := I.num
  have hlen : r.i < (l1 ++ r :: l2).length := WF.lt hw r hr
  have hpn : laid.n ≤ post.n := hK.2.1
  obtain ⟨f1, f2⟩ := Inv.frames (E := E) (u := u) hU hw hr (fun q hq e => WF.inj hw q hq r hr e) hd I.size (by rw [hk]; exact hy) (fun q hq hqE d hqd => let ⟨v, h1, h2⟩ := I.dst q hq hqE d hqd; ⟨v, h1, h2.ext hx⟩) (fun d x hn hg => let ⟨v, h1, h2⟩ := I.rest d x hn hg; ⟨v, h1, h2.ext hx⟩)
  refine ⟨fun i hi j hj => ?_, I.ext.trans hx, ⟨fun b k hg => ?_, fun b c k j q y z hgb hgc eb ec => ?_, fun b hb' => ?_⟩, fun q hq hm hnE => ?_, fun x hx' => ?_, I.keep.trans ⟨hK.1.1, fun q hq hqt => ?_⟩, fun b hbn => ?_, I.calm.trans hK.2.2.2, f1, f2, ?_, (put_size ..).trans I.size, (put_defers ..).trans I.defs⟩
  · rcases hi with hi | hi
    · exact .inl (I.clo i hi j hj)
    · rw [hi] at hj; exact .inl (hb j hj)
  · rcases (aE_get hB hw).1 hg with ⟨x, hx', rfl, rfl⟩ | ⟨_, hg⟩
    · obtain ⟨q, z, e, hj, _, g1, _⟩ := hstay x hx'
      exact ⟨q, z, hx _ _ e, by rw [g1]; exact hj.ext hx⟩
    · rw [hH'] at hg
      exact hR.blk _ _ hg
  · rcases (aE_get hB hw).1 hgb with ⟨x, hxb, rfl, rfl⟩ | ⟨_, hgb⟩
    · obtain ⟨q1, z1, e1, hj1, g1, _, t1⟩ := hstay x hxb
      have e1' := hx _ _ e1
      rw [eb] at e1'; cases e1'
      rcases (aE_get hB hw).1 hgc with ⟨x', hxc, rfl, rfl⟩ | ⟨_, hgc⟩
      · obtain ⟨q2, z2, e2, hj2, g2, _, t2⟩ := hstay x' hxc
        have e2' := hx _ _ e2
        rw [ec] at e2'; cases e2'
        exact I.rel.inj _ _ _ _ _ _ _ g1 g2 e1 e2
      · rw [hH'] at hgc
        exact absurd ⟨c, j, z, hgc, ec⟩ t1
    · rw [hH'] at hgb
      rcases (aE_get hB hw).1 hgc with ⟨x', hxc, rfl, rfl⟩ | ⟨_, hgc⟩
      · obtain ⟨q2, z2, e2, hj2, g2, _, t2⟩ := hstay x' hxc
        have e2' := hx _ _ e2
        rw [ec] at e2'; cases e2'
        exact absurd ⟨b, k, y, hgb, eb⟩ t2
      · rw [hH'] at hgc
        exact hR.inj _ _ _ _ _ _ _ hgb hgc eb ec
  · refine hR.fresh b ?_
    have : (aE s (fun i => E i ∨ i = r.i) (l1 ++ r :: l2)).n = post.n := by show (heapE s _ _).n = _; rw [hH']
    omega
  · have hq' := WF.lt hw q hq
    have hlt : s.base + q.i < laid.n := by rw [hn]; show _ < (heapE s E _).n; omega
    rw [hK.2.2.1 _ hlt]
    exact I.free q hq hm fun h => hnE (.inl h)
  · rw [hH']
    cases hg : post.t.get x.2.1 with
    | none => rfl
    | some k =>
      obtain ⟨q, z, e, _, _, _, t1⟩ := hstay x hx'
      exact absurd ⟨x.2.1, k, z, hg, hx _ _ e⟩ t1
  · have hnt : ¬ Trk ι laid q := fun ⟨b, k, z', hb', eb⟩ => hqt ⟨b, k, z', (hpart hb').1, eb⟩
    obtain ⟨g1, g2⟩ := hK.1.2 q hq hnt
    refine ⟨g1, fun ⟨b, k, z, hg, eb⟩ => ?_⟩
    rcases (aE_get hB hw).1 hg with ⟨x, hx', rfl, rfl⟩ | ⟨_, hg⟩
    · obtain ⟨q', z', e, _, g, _, _⟩ := hstay x hx'
      have e' := hx _ _ e
      rw [eb] at e'; cases e'
      exact hqt ⟨x.2.1, x.2.2, _, g, e⟩
    · rw [hH'] at hg
      exact g2 ⟨b, k, z, hg, eb⟩
  · have hlt : b < laid.n := by rw [hn]; show _ < (heapE s E _).n; omega
    rw [hK.2.2.1 _ hlt]
    exact I.old b hbn
  · rw [hH']
    have : s.base + (l1 ++ r :: l2).length ≤ laid.n := by rw [hn]; exact hnum
    omega
end Go.Proofs.YtbjddfeihhdpoaaGreatDoor
namespace Go.Proofs.YtbjddfeihhdpoaaGreatDoor
open Go
variable {P : Program} {call : Caller} {ops : Array Oper} {s : St} {E : Nat → Prop}

/-! the frame, cut to what an operation looks at -/
noncomputable def cutF (F : T AT) : List Tmp → T AT
  | [] => .e
  | t :: l => match F.get t with
    | some x => (cutF F l).set t x
    | none => cutF F l
theorem cutF_get (F : T AT) : ∀ (l : List Tmp) (t : Tmp), (cutF F l).get t = if t ∈ l then F.get t else none
  | [], t => by simp [cutF, T.get_e]
  | d :: l, t => by
    have ih := cutF_get F l t
    simp only [cutF]
    cases hd : F.get d with
    | some x =>
      simp only []
      rw [T.get_set, ih]
      by_cases e : t = d
      · subst e; simp [hd]
      · simp [e]
    | none =>
      simp only []
      rw [ih]
      by_cases e : t = d
      · subst e; simp [hd]
      · simp [e]
theorem cutF_opd {F : T AT} {o : Oper} {x : Operand} (hx : x ∈ o.op.operands) : opd (cutF F (o.looksAt ops)) x = opd F x := by
  cases x with
  | tmp t =>
    show T.get _ t = T.get _ t
    rw [cutF_get, if_pos]
    exact List.mem_append_left _ (List.mem_filterMap.2 ⟨.tmp t, by simpa using hx, rfl⟩)
  | _ => rfl
theorem cutF_wanted {F : T AT} {o : Oper} : wantedA (cutF F (o.looksAt ops)) ops o = wantedA F ops o := by
  unfold wantedA
  cases hg : o.guard with
  | none => rfl
  | some q =>
    obtain ⟨j, want⟩ := q
    simp only []
    cases hp : ops[j]? with
    | none => rfl
    | some p =>
      simp only []
      cases hd : p.dst with
      | none => rfl
      | some d =>
        simp only []
        rw [cutF_get, if_pos]
        exact List.mem_append_right _ (by simp [hg, hp, hd])
/-- who looks at a temporary waits for its maker, or its maker for him -/
def Looks (ops : Array Oper) (s : St) : Prop := ∀ (i j : Nat) (o p : Oper) (t : Tmp), ops[i]? = some o → t ∈ o.looksAt ops → ops[j]? = some p → p.dst = some t → bit (s.bef i) j = true ∨ bit (s.bef j) i = true ∨ i = j
theorem Inv.cut {ι0 ι : Map} {h0 : AH} {w0 w : World} {l1 l2 : List Rec} {N : Nat} {D : List Deferred} {a : Act} {r : Rec} (hU : Unlike ops) (hB : Back s) (hL : Looks ops s)
    (hw : WF P call ops s (l1 ++ r :: l2)) (I : Inv s ι0 h0 w0 (l1 ++ r :: l2) N D E ι a w) (hb : ∀ j, bit (s.bef r.i) j = true → E j) (hE : ¬ E r.i) : RelF ι (cutF r.F (r.o.looksAt ops)) a := by
  intro t x e
  rw [cutF_get] at e
  split at e
  · rename_i ht
    have hwr := WF.tail hw
    rw [hwr.2.2.1] at e
    by_cases hq : ∃ q ∈ l1 ++ r :: l2, q.o.dst = some t
    · obtain ⟨q, hq, hd⟩ := hq
      rcases hL r.i q.i r.o q.o t hwr.2.1 ht (WF.op hw q hq) hd with hbit | hbit
      · have hlt := hB _ _ hbit
        have hq2 : q ∈ l2 := by
          rcases List.mem_append.1 hq with h | h
          · have := WF.ahead hw q h; omega
          · rcases List.mem_cons.1 h with h | h
            · rw [h] at hlt; omega
            · exact h
        rw [frame_dst hU hwr.2.2.2.2.2 q hq2 t hd] at e
        cases e
        exact I.dst q hq (hb _ hbit) t hd
      · have hle : r.i ≤ q.i := by
          rcases hbit with hbit | hbit
          · exact Nat.le_of_lt (hB _ _ hbit)
          · exact Nat.le_of_eq hbit
        have hnE : ¬ E q.i := fun hqE => by
          rcases hbit with hbit | hbit
          · exact hE (I.clo q.i hqE r.i hbit)
          · exact hE (hbit ▸ hqE)
        have hone : ∀ p ∈ l1 ++ r :: l2, p.o.dst = some t → p.i = q.i := fun p hp hpd => hU p.i q.i p.o q.o t (WF.op hw p hp) (WF.op hw q hq) hpd hd
        rw [frame_old hwr.2.2.2.2.2 t fun p hp hpd => by
          have h1 := hone p (by simp [hp]) hpd
          have h2 := WF.lt hwr.2.2.2.2.2 p hp
          have h3 := hwr.1
          omega] at e
        exact I.rest t x (fun p hp hpE hpd => hnE (hone p hp hpd ▸ hpE)) e
    · have hn : ∀ q ∈ l1 ++ r :: l2, q.o.dst ≠ some t := fun q h e => hq ⟨q, h, e⟩
      rw [frame_old hwr.2.2.2.2.2 t fun q h => hn q (by simp [h])] at e
      exact I.rest t x (fun q h _ => hn q h) e
  · cases e
/-- one operation of a drawn region, when it is ready -/
theorem Inv.step {Fe : Fence} {n : Nat} {Q : Exit → Act → World → Prop} {K : Act → World → Prop} {ι0 ι : Map} {h0 : AH} {w0 w : World} {l1 l2 : List Rec} {N : Nat} {D : List Deferred} {a : Act} {r : Rec}
    (hp : Prg P) (hW : Wide P Fe) (hc : CallOk P call) (hU : Unlike ops) (hB : Back s) (hL : Looks ops s) (hw : WF P call ops s (l1 ++ r :: l2)) (I : Inv s ι0 h0 w0 (l1 ++ r :: l2) N D E ι a w)
    (hbase : h0.n ≤ s.base) (hd : ∀ d, r.o.dst = some d → d < N) (hb : ∀ j, bit (s.bef r.i) j = true → E j) (hE : ¬ E r.i)
    (hK : ∀ κ a' w', Inv s ι0 h0 w0 (l1 ++ r :: l2) N D (fun i => E i ∨ i = r.i) κ a' w' → K a' w') : wpOpIn Fe n P ops Q r.i K a w := by
  have hr : r ∈ l1 ++ r :: l2 := by simp
  have hwr := WF.tail hw
  have hrec := fun q hq (e : q.i = r.i) => WF.inj hw q hq r hr e
  have hF := I.cut hU hB hL hw hb hE
  have hwt : wantedA (cutF r.F (r.o.looksAt ops)) ops r.o = some r.k.on := by rw [cutF_wanted]; exact hwr.2.2.2.1
  have hwt := wantedA_ok hF hwt
  have hop := hwr.2.1
  have hko := hwr.2.2.2.2.1
  have hcut : ∀ h id, opA P h (cutF r.F (r.o.looksAt ops)) id r.o = opA P h r.F id r.o := fun h id => opA_c fun x hx => cutF_opd hx
  have hdef : ∀ h id, opA P h r.F id r.o ≠ .no → r.o.semAt Fe.round a.eval = execOp a.eval r.o := fun h id hne => Oper.semAt_eq _ _ _ (noDefer hne)
  unfold wpOpIn
  simp only [hop]
  rw [hwt]
  unfold KOk at hko
  cases hk : r.k with
  | skip =>
    rw [if_neg (by simp [Knd.on])]
    exact ⟨fun f _ => hW.fn f, hK ι _ w (I.val hU hw hr hrec hd hb (by rw [hk]; rfl) (by rw [hk]; rfl) (by rw [hk]; exact undef_den ι))⟩
  | val x =>
    rw [if_pos (show Knd.on _ = true from rfl)]
    rw [hk] at hko
    obtain ⟨ht, hrd, he⟩ := hko
    have hok := opA_ok hp I.rel hF r.o (s.base + r.i)
    rw [hcut, opA_still hrd ht _ (heapOf s l2), he] at hok
    obtain ⟨u, hrun, hx⟩ := hok
    refine ⟨fun f _ => hW.fn f, ?_⟩
    rw [hdef _ _ (by rw [he]; exact fun h => by cases h), hrun]
    exact hK ι _ w (I.val hU hw hr hrec hd hb (by rw [hk]; rfl) (by rw [hk]; rfl) (by rw [hk]; exact hx))
  | read x =>
    rw [if_pos (show Knd.on _ = true from rfl)]
    obtain ⟨id, he⟩ := read_ready I.clo hw hk hE hb
    have R' : Rel ι (heapE s E (l1 ++ r :: l2)) w := I.rel.part (fun b k hg => (aE_get hB hw).2 (.inr ⟨fun x hx e => by (have := I.sep x hx; rw [e, hg] at this; cases this), hg⟩)) rfl
    have hok := opA_ok hp R' hF r.o id
    rw [hcut, he] at hok
    obtain ⟨u, hrun, hx⟩ := hok
    refine ⟨fun f _ => hW.fn f, ?_⟩
    rw [hdef _ _ (by rw [he]; exact fun h => by cases h), hrun]
    exact hK ι _ w (I.val hU hw hr hrec hd hb (by rw [hk]; rfl) (by rw [hk]; rfl) (by rw [hk]; exact hx))
  | mk k x =>
    rw [if_pos (show Knd.on _ = true from rfl)]
    rw [hk] at hko
    obtain ⟨ht, hrd, he⟩ := hko
    have hok := opA_ok hp I.rel hF r.o (s.base + r.i)
    rw [hcut, opA_still hrd ht _ (heapOf s l2), he] at hok
    obtain ⟨ob, z, u, w1, hrun, hh, hcm, hok'⟩ := hok
    refine ⟨fun f _ => hW.fn f, ?_⟩
    rw [hdef _ _ (by rw [he]; exact fun h => by cases h), hrun]
    exact hK _ _ w1 (I.mk_step hU hB hw hbase hr hrec hd hb hE hk hh hcm hok')
  | turn pre laid post y =>
    rw [if_pos (show Knd.on _ = true from rfl)]
    rw [hk] at hko
    obtain ⟨hpre, hlaid, _, hres, _⟩ := hko
    have ht : r.k.isTurn = true := by rw [hk]; rfl
    have RL : Rel ι laid w := I.rel.part (fun b k hg => by
      rw [hlaid, hpre] at hg
      exact (laid_part hB I.clo hw ht hE hb I.sep hg).1) (by
      rw [hlaid]; show pre.n = (heapE s E _).n; rw [heapE_ready I.clo hw ht hE hb, hpre])
    have hok := opA_ok hp RL hF r.o laid.n
    rw [hcut] at hok
    refine ⟨fun f _ => hW.fn f, ?_⟩
    generalize hrs : opA P laid r.F laid.n r.o = res at hok hres
    cases res with
    | no => cases hres
    | m k x => cases hres
    | v x =>
      cases hres
      obtain ⟨u, hrun, hx⟩ := hok
      rw [hdef _ _ (by rw [hrs]; exact fun h => by cases h), hrun]
      exact hK _ _ _ (I.turn_step hU hB hw hbase hd hb hE hk (.refl _) RL (.refl ..) hx)
    | h h' x =>
      cases hres
      obtain ⟨κ, w1, u, hru, hEx, R1, K1, hx⟩ := hok
      rw [hdef _ _ (by rw [hrs]; exact fun h => by cases h)]
      have hI := I.turn_step hU hB hw hbase hd hb hE hk hEx R1 K1 hx
      rcases hru with hrun | ⟨hrun, rfl⟩
      · rw [hrun]; exact hK _ _ _ hI
      · rw [hrun]; exact hK _ _ _ hI
    | c f l =>
      obtain ⟨args, hrun, hl⟩ := hok
      rw [hdef _ _ (by rw [hrs]; exact fun h => by cases h), hrun]
      refine ⟨(fun hs => by (rw [hW.depth] at hs; cases hs)), ?_⟩
      have hres : call f l laid = some (post, y) := hres
      refine (hW.calls (hc f l laid post y hres ι w args RL hl) _).mono fun en w1 hen => ?_
      cases en with
      | returned u =>
        obtain ⟨κ, hEx, R1, K1, hx⟩ := hen
        exact hK _ _ _ (I.turn_step hU hB hw hbase hd hb hE hk hEx R1 K1 hx)
      | panicked c => exact hen.elim
      | outgrown => exact hen.elim
/-! the order is drawn -/
theorem count_set : ∀ (l : List Bool) (i : Nat), l[i]? = some false → (l.set i true).count false + 1 = l.count false
  | [], i, h => by simp at h
  | b :: l, 0, h => by simp at h; subst h; simp
  | b :: l, i + 1, h => by
    have ih := count_set l i (by simpa using h)
    simp only [List.set_cons_succ, List.count_cons]
    omega
theorem getD_set {l : Array Bool} {i : Nat} (hi : i < l.size) : (fun j => (l.setIfInBounds i true).getD j false = true) = fun j => l.getD j false = true ∨ j = i := by
  funext j
  apply propext
  simp only [Array.getD_eq_getD_getElem?, Array.getElem?_setIfInBounds]
  by_cases h : i = j
  · subst h; simp [hi]
  · simp [h, Ne.symm h]
theorem any_ok {Fe : Fence} {n : Nat} {Q : Exit → Act → World → Prop} {ι0 : Map} {h0 : AH} {w0 : World} {rs : List Rec} {N : Nat} {D : List Deferred}
    (hp : Prg P) (hW : Wide P Fe) (hc : CallOk P call) (hU : Unlike ops) (hB : Back s) (hL : Looks ops s) (hw : WF P call ops s rs) (hlen : rs.length = ops.size)
    (hbase : h0.n ≤ s.base) (hd : ∀ o ∈ ops.toList, ∀ k, o.dst = some k → k < N)
    (hbk : ∀ i o, ops[i]? = some o → ∀ e ∈ o.after, Region.binds .any e = true → e.on < i)
    (hbf : ∀ i o, ops[i]? = some o → ∀ j, bit (s.bef i) j = true → ∃ e ∈ o.after, Region.binds .any e = true ∧ (j = e.on ∨ bit (s.bef e.on) j = true))
    (hfin : ∀ E ι a w, Inv s ι0 h0 w0 rs N D E ι a w → (∀ r ∈ rs, E r.i) → Q .normal a w) :
    ∀ (fuel : Nat) (listed : Array Bool) (ι : Map) (a : Act) (w : World), listed.size = ops.size → listed.toList.count false ≤ fuel → Inv s ι0 h0 w0 rs N D (fun i => listed.getD i false = true) ι a w →
      wpAnyIn Fe n P .any ops Q fuel listed a w := by
  have hnil : ∀ (listed : Array Bool) (ι : Map) (a : Act) (w : World), listed.size = ops.size → Inv s ι0 h0 w0 rs N D (fun i => listed.getD i false = true) ι a w → Region.ready .any ops listed = [] → Q .normal a w := by
    intro listed ι a w hs I hr
    refine hfin _ ι a w I fun r hrm => ?_
    have all : ∀ (i : Nat), i < ops.size → listed.getD i false = true := by
      intro i
      induction i using Nat.strongRecOn with
      | _ i ih =>
        intro hi
        cases hg : listed.getD i false with
        | true => rfl
        | false =>
          have hm : i ∈ Region.ready .any ops listed := by
            unfold Region.ready
            refine List.mem_filter.2 ⟨List.mem_range.2 hi, ?_⟩
            have hi' : i < listed.size := by omega
            have h1 : listed.getD i true = false := by
              simp only [Array.getD_eq_getD_getElem?, Array.getElem?_eq_getElem hi', Option.getD_some] at hg ⊢
              exact hg
            have h2 : ops[i]? = some ops[i] := Array.getElem?_eq_getElem hi
            rw [h1, h2]
            simp only [Bool.not_false, Bool.true_and, Option.map_some, Option.getD_some, Array.all_eq_true']
            intro e he
            cases hbd : Region.binds .any e with
            | false => rfl
            | true =>
              have := hbk i _ h2 e he hbd
              rw [ih e.on this (by omega)]; rfl
          rw [hr] at hm; cases hm
    exact all r.i (by rw [← hlen]; exact WF.lt hw r hrm)
  intro fuel
  induction fuel with
  | zero =>
    intro listed ι a w hs hcn I
    have hr : Region.ready .any ops listed = [] := by
      refine List.eq_nil_iff_forall_not_mem.2 fun i hi => ?_
      obtain ⟨h1, h2⟩ := List.mem_filter.1 hi
      have h1 := List.mem_range.1 h1
      rw [Bool.and_eq_true] at h2
      have h3 : listed.getD i true = false := by simpa using h2.1
      have hi' : i < listed.size := by omega
      have h4 : listed.toList[i]? = some false := by
        simp only [Array.getD_eq_getD_getElem?, Array.getElem?_eq_getElem hi', Option.getD_some] at h3
        simp [hi', h3]
      have := count_set _ _ h4
      omega
    exact ⟨hr, hnil listed ι a w hs I hr⟩
  | succ fuel ih =>
    intro listed ι a w hs hcn I
    refine ⟨hnil listed ι a w hs I, fun i hi => ?_⟩
    obtain ⟨h1, h2⟩ := List.mem_filter.1 hi
    have h1 := List.mem_range.1 h1
    rw [Bool.and_eq_true] at h2
    have h3 : listed.getD i true = false := by simpa using h2.1
    have hi' : i < listed.size := by omega
    have h5 : listed[i] = false := by
      simp only [Array.getD_eq_getD_getElem?, Array.getElem?_eq_getElem hi', Option.getD_some] at h3
      exact h3
    have h4 : listed.toList[i]? = some false := by simp [hi', h5]
    have hcs := count_set _ _ h4
    obtain ⟨l1, r, l2, rfl, hri, hwr⟩ := WF.at hw (i := i) (by omega)
    subst hri
    have hop := hwr.2.1
    have haf := h2.2
    rw [hop] at haf
    simp only [Option.map_some, Option.getD_some, Array.all_eq_true'] at haf
    refine Inv.step hp hW hc hU hB hL hw I hbase (hd r.o (by
      obtain ⟨hlt, he⟩ := Array.getElem?_eq_some_iff.1 hop
      rw [← he]; simp)) (fun j hj => ?_) (by
      show ¬ (listed.getD r.i false = true)
      simp only [Array.getD_eq_getD_getElem?, Array.getElem?_eq_getElem hi', Option.getD_some, h5]; decide) fun κ a' w' I' => ?_
    · obtain ⟨e, he, hbd, hje⟩ := hbf r.i r.o hop j hj
      have hon : listed.getD e.on false = true := by
        have := haf e he
        rw [hbd] at this
        simpa using this
      rcases hje with rfl | hje
      · exact hon
      · exact I.clo e.on hon j hje
    · refine ih _ κ a' w' (by simp [hs]) ?_ ?_
      · rw [Array.toList_setIfInBounds]; omega
      · rw [getD_set hi']; exact I'
end Go.Proofs.YtbjddfeihhdpoaaGreatDoor
namespace Go.Proofs.YtbjddfeihhdpoaaGreatDoor
open Go
variable {P : Program} {call : Caller} {ops : Array Oper} {s : St} {E : Nat → Prop}

theorem dstT_ok : ∀ (l : List Oper) (i : Nat) (t D : T Nat), dstT l i t = some D →
    (∀ c j, t.get c = some j → D.get c = some j) ∧ ∀ k o d, l[k]? = some o → o.dst = some d → D.get d = some (i + k)
  | [], i, t, D, e => by cases e; exact ⟨fun _ _ h => h, fun k o d h => by simp at h⟩
  | p :: l, i, t, D, e => by
    simp only [dstT] at e
    cases hd : p.dst with
    | none =>
      rw [hd] at e
      obtain ⟨h1, h2⟩ := dstT_ok l (i + 1) t D e
      refine ⟨h1, fun k o d hk ho => ?_⟩
      cases k with
      | zero =>
        simp only [List.getElem?_cons_zero, Option.some.injEq] at hk
        subst hk; rw [hd] at ho; cases ho
      | succ k => rw [h2 k o d (by simpa using hk) ho]; congr 1; omega
    | some d =>
      rw [hd] at e
      simp only at e
      cases hg : t.get d with
      | some x => rw [hg] at e; cases e
      | none =>
        rw [hg] at e
        obtain ⟨h1, h2⟩ := dstT_ok l (i + 1) (t.set d i) D e
        refine ⟨fun c j hc => h1 c j ?_, fun k o d' hk ho => ?_⟩
        · rw [T.get_set]
          split
          · rename_i e; rw [e, hg] at hc; cases hc
          · exact hc
        · cases k with
          | zero =>
            simp only [List.getElem?_cons_zero, Option.some.injEq] at hk
            subst hk; rw [hd] at ho; cases ho
            exact h1 d i (by rw [T.get_set, if_pos rfl])
          | succ k => rw [h2 k o d' (by simpa using hk) ho]; congr 1; omega
theorem backB_ok {i : Nat} : ∀ {l : List Edge}, backB i l = true → ∀ e ∈ l, Region.binds .any e = true → e.on < i
  | [], _, e, he, _ => by cases he
  | x :: l, h, e, he, hb => by
    simp only [backB, Bool.and_eq_true] at h
    rcases List.mem_cons.1 he with rfl | he
    · rw [hb] at h; exact lt_blt h.1
    · exact backB_ok h.2 e he hb
theorem looksB_ok {D B : T Nat} {i : Nat} : ∀ {l : List Tmp}, looksB D B i l = true → ∀ t ∈ l, ∀ j, D.get t = some j → bit ((B.get i).getD 0) j = true ∨ bit ((B.get j).getD 0) i = true ∨ i = j
  | [], _, t, ht, _, _ => by cases ht
  | x :: l, h, t, ht, j, hj => by
    simp only [looksB, Bool.and_eq_true] at h
    rcases List.mem_cons.1 ht with rfl | ht
    · rw [hj] at h
      have h := h.1
      simp only [Bool.or_eq_true] at h
      exact h.imp_right fun h => h.imp_right eq_beq
    · exact looksB_ok h.2 t ht j hj
theorem fitL_ok {D B : T Nat} : ∀ {l : List Oper} {i : Nat}, fitL ops D B l i = true → ∀ k o, l[k]? = some o → backB (i + k) o.after.toList = true ∧ looksB D B (i + k) (o.looksAt ops) = true
  | [], i, _, k, o, h => by simp at h
  | x :: l, i, h, k, o, hk => by
    simp only [fitL, Bool.and_eq_true] at h
    cases k with
    | zero =>
      simp only [List.getElem?_cons_zero, Option.some.injEq] at hk
      subst hk; exact h.1
    | succ k =>
      have := fitL_ok h.2 k o (by simpa using hk)
      rw [show i + (k + 1) = i + 1 + k by omega]; exact this
theorem reg_ok (hp : Prg P) (hc : CallOk P call) : RegOk P call := by
  intro Fe n Q N D id ops F F' h h' ι a w hW R r hd hf e g
  obtain ⟨rs, hw, hlen, rfl, rfl⟩ := evRegion_wf e
  generalize hs : (⟨F, ⟨h.t, h.n + ops.size⟩, h.n, fun i => ((befs ops.toList 0 .e).get i).getD 0⟩ : St) = s at hw g
  have hsF : s.F = F := by rw [← hs]
  have hsh : s.h = ⟨h.t, h.n + ops.size⟩ := by rw [← hs]
  have hsb : s.base = h.n := by rw [← hs]
  have hbef : ∀ i, s.bef i = ((befs ops.toList 0 .e).get i).getD 0 := fun i => by rw [← hs]
  unfold fitB at hf
  cases hD : dstT ops.toList 0 .e with
  | none => rw [hD] at hf; cases hf
  | some Tr =>
    rw [hD] at hf
    have hdst : ∀ k o d, ops[k]? = some o → o.dst = some d → Tr.get d = some k := fun k o d h1 h2 => by
      have := (dstT_ok _ _ _ _ hD).2 k o d (by simpa using h1) h2
      rwa [Nat.zero_add] at this
    have hfit : ∀ k o, ops[k]? = some o → backB k o.after.toList = true ∧ looksB Tr (befs ops.toList 0 .e) k (o.looksAt ops) = true := fun k o h1 => by
      have := fitL_ok hf k o (by simpa using h1)
      rw [Nat.zero_add] at this
      exact this
    have hbk : ∀ i o, ops[i]? = some o → ∀ e ∈ o.after, Region.binds .any e = true → e.on < i := fun i o ho e he => backB_ok (hfit i o ho).1 e (by simpa using he)
    have hbf : ∀ i o, ops[i]? = some o → ∀ j, bit (s.bef i) j = true → ∃ e ∈ o.after, Region.binds .any e = true ∧ (j = e.on ∨ bit (s.bef e.on) j = true) := fun i o ho j hj => by
      rw [hbef] at hj
      obtain ⟨e, h1, h2, h3⟩ := (bef_iff ho (hbk i o ho) j).1 hj
      exact ⟨e, h1, h2, by rw [hbef]; exact h3⟩
    have hU : Unlike ops := fun i j o p d h1 h2 h3 h4 => by
      have e1 := hdst i o d h1 h3
      have e2 := hdst j p d h2 h4
      rw [e1] at e2; cases e2; rfl
    have hL : Looks ops s := fun i j o p t h1 h2 h3 h4 => by rw [hbef, hbef]; exact looksB_ok (hfit i o h1).2 t h2 j (hdst j p t h3 h4)
    have hnone : ∀ i, ops.size ≤ i → s.bef i = 0 := fun i hi => by
      rw [hbef]
      have : ∀ (l : List Oper) (k : Nat) (acc : T Nat), acc.get i = none → k + l.length ≤ i → (befs l k acc).get i = none := by
        intro l
        induction l with
        | nil => intro k acc h1 _; exact h1
        | cons o l ih =>
          intro k acc h1 h2
          simp only [befs]
          simp only [List.length_cons] at h2
          exact ih _ _ (by rw [T.get_set, if_neg (by omega)]; exact h1) (by omega)
      rw [this ops.toList 0 .e (T.get_e i) (by simpa using hi)]; rfl
    have hB : Back s := by
      intro i
      induction i using Nat.strongRecOn with
      | _ i ih =>
        intro j hj
        rcases Nat.lt_or_ge i ops.size with hi | hi
        · obtain ⟨e, h1, h2, h3⟩ := hbf i _ (Array.getElem?_eq_getElem hi) j hj
          have h4 := hbk i _ (Array.getElem?_eq_getElem hi) e h1 h2
          rcases h3 with rfl | h3
          · exact h4
          · exact Nat.lt_trans (ih e.on h4 j h3) h4
        · rw [hnone i hi, bit_eq, Nat.zero_testBit] at hj; cases hj
    refine wpIn_region_any hp.mix (any_ok (ι0 := ι) (h0 := h) (w0 := w) (N := N) (D := D) hp hW hc hU hB hL hw hlen (Nat.le_of_eq hsb.symm) hd hbk hbf (fun E ι' a' w' I hE => ?_) _ _ ι a _ (by simp) (by simp) ?_)
    · have hA : aE s E rs = ⟨layAll (pendOf s rs) (heapOf s rs).t, (heapOf s rs).n⟩ := by unfold aE; rw [pendE_all hE, heapE_all hE]
      refine g ι' a' w' I.ext (I.heap hE) ⟨hA ▸ I.keep, ?_, I.old, I.calm⟩ (I.frame hU hw hE)
      have := I.num
      rw [heapE_all hE, hsb] at this
      show h.n ≤ (heapOf s rs).n
      omega
    · have hE0 : (fun i => (Array.replicate ops.size false).getD i false = true) = fun _ => False := by
        funext i
        apply propext
        simp only [Array.getD_eq_getD_getElem?, Array.getElem?_replicate]
        by_cases h : i < ops.size <;> simp [h]
      rw [hE0]
      have hpe : pendE s (fun _ => False) rs = [] := by
        refine List.eq_nil_iff_forall_not_mem.2 fun x hx => ?_
        obtain ⟨_, _, _, _, _, h, _⟩ := (mem_pendE hB hw).1 hx
        exact h
      have hhe : heapE s (fun _ => False) rs = s.h := heapE_none fun r _ => .inr fun h => h
      have hA : aE s (fun _ => False) rs = ⟨h.t, h.n + ops.size⟩ := by
        unfold aE; rw [hpe, hhe, hsh]; rfl
      refine ⟨fun _ h => h.elim, .refl _, ?_, fun q hq _ _ => R.fresh _ (by rw [hsb]; omega), fun x hx => by (rw [hpe] at hx; cases hx), ?_, fun _ _ => rfl, ⟨rfl, rfl, rfl⟩, fun _ _ h => h.elim, fun d x _ hx => r.frm d x (by rw [← hsF]; exact hx), ?_, r.size, r.defs⟩
      · rw [hA]; exact (R.like (h' := ⟨h.t, h.n + ops.size⟩) (fun _ => rfl) (by show h.n ≤ h.n + ops.size; omega)).of_heap rfl
      · rw [hA]; exact ⟨Nat.le_refl _, fun q _ hq => ⟨rfl, fun ht => hq (Trk.like (h' := ⟨h.t, h.n + ops.size⟩) (fun _ => rfl) ht)⟩⟩
      · rw [hhe, hsh, hsb]
        show h.n + rs.length ≤ h.n + ops.size
        omega
/-- the evaluator is sound -/
theorem ev_ok {ov : Ov} (hp : Prg P) (hD : DstOk P) (hO : OvOk P ov) (n : Nat) : CallOk P (evN P ov n).2 := (evN_ok hp hD hO (fun _ hc => reg_ok hp hc) n).2.2
end Go.Proofs.YtbjddfeihhdpoaaGreatDoor
