/- plain: Also, Remove, Rename, Kind, Names; what holds of every store -/
import Derived.Test.YtgoecmfjidcieaaDoorFK1
import Derived.Sort.KeysCollected
namespace Go.Proofs.YtgoecmfjidcieaaDoor
set_option linter.unusedVariables false
set_option linter.unusedSimpArgs false
open Go.RowKit

/-- beside OkSt: no name is empty, none is longer than a walk makes it, no identity is above the last -/
structure OkK (s : StL) : Prop where
  key : ∀ p, (s.has p).isSome = true → p ≠ [] ∧ p.length ≤ 3000
  id : ∀ p n, s.has p = some n → n.id ≤ s.last
theorem OkK.new : OkK StL.new := by
  refine ⟨fun p h => ?_, fun p n h => ?_⟩
  · simp only [StL.new] at h
    split at h
    · rename_i e; subst e; exact ⟨by simp, by simp⟩
    · cases h
  · simp only [StL.new] at h
    split at h
    · obtain rfl := Option.some.inj h; exact Int.le_refl _
    · cases h
theorem OkK.put {s : StL} (h : OkK s) {p : List UInt8} {n : NodeL} (hp : p ≠ []) (hl : p.length ≤ 3000) (hn : n.id ≤ s.last) : OkK (s.put p n) := by
  refine ⟨fun q hq => ?_, fun q m hq => ?_⟩
  · simp only [StL.put] at hq
    split at hq
    · rename_i e; subst e; exact ⟨hp, hl⟩
    · exact h.key q hq
  · simp only [StL.put] at hq ⊢
    split at hq
    · obtain rfl := Option.some.inj hq; exact hn
    · exact h.id q m hq
theorem OkK.get {s : StL} (h : OkK s) (h0 : 0 ≤ s.last) (p : List UInt8) : (s.get p).id ≤ s.last := by
  unfold StL.get
  cases hp : s.has p with
  | none => exact h0
  | some n => exact h.id p n hp

def StL.del (s : StL) (p : List UInt8) : StL := ⟨fun q => if q = p then none else s.has q, if (s.has p).isSome then s.count - 1 else s.count, s.last⟩
theorem OkSt.del {s : StL} (h : OkSt s) (p : List UInt8) : OkSt (s.del p) := by
  refine ⟨fun q m hq => ?_, ?_, h.last⟩
  · simp only [StL.del] at hq
    split at hq
    · cases hq
    · exact h.node q m hq
  · have := h.count
    simp only [StL.del]
    split <;> omega
theorem OkK.del {s : StL} (h : OkK s) (p : List UInt8) : OkK (s.del p) := by
  refine ⟨fun q hq => ?_, fun q m hq => ?_⟩
  · simp only [StL.del] at hq
    split at hq
    · cases hq
    · exact h.key q hq
  · simp only [StL.del] at hq
    split at hq
    · cases hq
    · exact h.id q m hq
theorem SRep.del {D : DN} {s : StL} (h : SRep D s) (p : List UInt8) : SRep (D.del (.string p)) (s.del p) := by
  have hk := keyLit p
  refine ⟨Maps.Tidy.del h.tidy _, fun q => ?_, fun q m z hq => ?_, ?_⟩
  · simp only [StL.del]
    by_cases e : q = p
    · subst e; rw [if_pos rfl, Maps.has_del_same]; rfl
    · rw [if_neg e, Maps.has_del_other (fun h => e (Lit.string.inj h)), h.has]
  · simp only [StL.del] at hq
    by_cases e : q = p
    · subst e; rw [if_pos rfl] at hq; cases hq
    · rw [if_neg e] at hq; rw [Maps.atKey_del_other (fun h => e (Lit.string.inj h)), h.node q m z hq]
  · have h1 := Maps.size_del (k := .string p) h.tidy
    rw [h.has, h.size] at h1
    simp only [StL.del]
    split at h1 <;> rename_i hh <;> simp only [hh] <;> first | omega | (simp; omega)

/-- what stands in a directory -/
def isUnder (p q : List UInt8) : Bool := decide (q ≠ [47]) && decide (upL q = p)
def nameOf (q : List UInt8) : List UInt8 := q.drop (lastSlash q + 1).toNat
def UnderIs (st : StL) (p : List UInt8) (l : List (List UInt8)) : Prop :=
  ∃ ks : List (List UInt8), ks.Nodup ∧ (∀ q, q ∈ ks ↔ (st.has q).isSome = true) ∧ l = ((ks.filter (isUnder p)).map nameOf).mergeSort leB
theorem UnderIs.one {st : StL} {p : List UInt8} {l l' : List (List UInt8)} (h : UnderIs st p l) (h' : UnderIs st p l') : l = l' := by
  obtain ⟨ks, h1, h2, rfl⟩ := h
  obtain ⟨ks', h1', h2', rfl⟩ := h'
  exact mergeSort_of_perm ((((List.perm_ext_iff_of_nodup h1 h1').2 fun q => by rw [h2, h2']).filter _).map _)
def noneUnder (st : StL) (p : List UInt8) : Prop := ∀ q, (st.has q).isSome = true → isUnder p q = false
theorem UnderIs.none {st : StL} {p : List UInt8} {l : List (List UInt8)} (h : UnderIs st p l) : l = [] ↔ noneUnder st p := by
  obtain ⟨ks, h1, h2, rfl⟩ := h
  rw [← List.length_eq_zero_iff, List.length_mergeSort, List.length_map, List.length_eq_zero_iff, List.filter_eq_nil_iff]
  constructor
  · intro h q hq; simpa using h q ((h2 q).2 hq)
  · intro h q hq; simpa using h q ((h2 q).1 hq)

def alsoL (st : StL) (path of_ : List UInt8) : Int × StL :=
  if (placeL st path).2.2 ≠ 0 then ((placeL st path).2.2, st) else if (placeL st path).2.1.kind ≠ 0 then (32, st) else if (realL st of_).2 ≠ 0 then ((realL st of_).2, st)
  else if (st.get (realL st of_).1).kind = 2 then (33, st) else freshL st (placeL st path).1 (st.get (realL st of_).1)
open Classical in
noncomputable def removeL (st : StL) (path : List UInt8) : Int × StL :=
  if (placeL st path).2.2 ≠ 0 then ((placeL st path).2.2, st) else if (placeL st path).2.1.kind = 0 then (31, st) else if (placeL st path).2.1.kind = 2 ∧ ¬ noneUnder st (placeL st path).1 then (33, st)
  else (0, st.del (placeL st path).1)
def renameL (st : StL) (fr to_ : List UInt8) : Int × StL :=
  if (placeL st fr).2.2 ≠ 0 then ((placeL st fr).2.2, st) else if (placeL st fr).2.1.kind = 0 then (31, st) else if (placeL st to_).2.2 ≠ 0 then ((placeL st to_).2.2, st)
  else if (placeL st fr).2.1.kind = 2 ∨ (placeL st to_).2.1.kind = 2 then (33, st) else (0, (st.del (placeL st fr).1).put (placeL st to_).1 (placeL st fr).2.1)
def kindL (st : StL) (path : List UInt8) : Int := if (cleanL path).2 = 0 ∧ (cleanL path).1 = [47] then 2 else (placeL st path).2.1.kind
def namesE (st : StL) (path : List UInt8) : Int := if (realL st path).2 ≠ 0 then (realL st path).2 else if (st.get (realL st path).1).kind ≠ 2 then 34 else 0
def NamesIs (st : StL) (path : List UInt8) (l : List (List UInt8)) : Prop := if namesE st path = 0 then UnderIs st (realL st path).1 l else l = []
theorem NamesIs.one {st : StL} {p : List UInt8} {l l' : List (List UInt8)} (h : NamesIs st p l) (h' : NamesIs st p l') : l = l' := by
  unfold NamesIs at h h'
  split at h
  · rw [if_pos ‹_›] at h'; exact h.one h'
  · rw [if_neg ‹_›] at h'; rw [h, h']

/-- an act -/
structure ActL where
  what : Int
  a : List UInt8
  b : List UInt8
  bytes : List UInt8
noncomputable def doesL (st : StL) (x : ActL) : Int × StL :=
  if x.what = 1 then mkdirL st x.a else if x.what = 2 then putL st x.a x.bytes else if x.what = 3 then alsoL st x.a x.b else if x.what = 4 then symL st x.a x.b
  else if x.what = 5 then removeL st x.a else if x.what = 6 then renameL st x.a x.b else (0, st)
/-- all that holds of a store -/
structure OkA (s : StL) : Prop where
  st : OkSt s
  k : OkK s
theorem OkA.new : OkA StL.new := ⟨OkSt.new, OkK.new⟩
theorem OkA.fresh {s : StL} (h : OkA s) {p : List UInt8} {n : NodeL} (hp : p ≠ []) (hl : p.length ≤ 3000) (hn : OkN n) (hi : n.id ≤ s.last) : OkA (freshL s p n).2 := by
  unfold freshL
  split
  · exact h
  · rename_i h1
    refine ⟨h.st.put hn ?_, h.k.put hp hl hi⟩
    cases hs : s.has p with
    | none => right; simp [hs] at h1; omega
    | some n => left; rfl
theorem fresh_err {s : StL} {p : List UInt8} {n : NodeL} (h : (freshL s p n).1 ≠ 0) : (freshL s p n).2 = s := by
  unfold freshL at h ⊢
  split
  · rfl
  · rename_i h1; rw [if_neg h1] at h; exact absurd rfl h
theorem OkN.of_place {s : StL} (h : OkSt s) (path : List UInt8) : OkN (placeL s path).2.1 := by
  unfold placeL
  split
  · exact OkN.zero
  · split
    · exact OkN.zero
    · split
      · exact OkN.zero
      · exact h.get _
theorem OkA.up {s : StL} (h : OkA s) : OkA s.up := ⟨OkSt.up h.st, ⟨h.k.key, fun p n hp => by have := h.k.id p n hp; show n.id ≤ s.last + 1; omega⟩⟩
theorem OkA.does {s : StL} (h : OkA s) (x : ActL) : OkA (doesL s x).2 := by
  unfold doesL
  split
  · unfold mkdirL
    split
    · exact h
    · rename_i h1
      split
      · exact h
      · exact h.fresh (placeL_ne (by simpa using h1)) (placeL_len _ _) ⟨by simp, by simp, by simp⟩ h.st.last
  · split
    · unfold putL
      split
      · exact h
      · rename_i h1
        split
        · exact h
        · split
          · exact h
          · split
            · exact h
            · rename_i hb
              have hne := placeL_ne (st := s) (path := x.a) (by simpa using h1)
              have hbase : OkSt (freshL s (placeL s x.a).1 ⟨1, s.last + 1, x.bytes, []⟩).2 := by
                unfold freshL
                split
                · exact h.st
                · rename_i h1
                  refine h.st.put ⟨by simpa using hb, by simp, by simp⟩ ?_
                  cases hs : s.has (placeL s x.a).1 with
                  | none => right; simp [hs] at h1; omega
                  | some n => left; rfl
              split
              · rename_i he
                rw [fresh_err he]; exact h
              · rename_i he
                refine ⟨OkSt.up hbase, ?_, ?_⟩
                · intro p hp
                  unfold freshL at hp he
                  split at hp
                  · exact h.k.key p hp
                  · simp only [StL.up, StL.put] at hp
                    split at hp
                    · rename_i e; subst e; exact ⟨hne, placeL_len _ _⟩
                    · exact h.k.key p hp
                · intro p n hp
                  unfold freshL at hp ⊢
                  split at hp
                  · rename_i hc; rw [if_pos hc]; have := h.k.id p n hp; show n.id ≤ s.last + 1; omega
                  · rename_i hc; rw [if_neg hc]
                    show n.id ≤ s.last + 1
                    simp only [StL.up, StL.put] at hp
                    split at hp
                    · obtain rfl := Option.some.inj hp; exact Int.le_refl _
                    · have := h.k.id p n hp; omega
    · split
      · unfold alsoL
        split
        · exact h
        · rename_i h1
          split
          · exact h
          · split
            · exact h
            · split
              · exact h
              · exact h.fresh (placeL_ne (by simpa using h1)) (placeL_len _ _) (h.st.get _) (h.k.get h.st.last _)
      · split
        · unfold symL
          split
          · exact h
          · rename_i h1
            split
            · exact h
            · split
              · exact h
              · rename_i h2
                refine h.fresh (placeL_ne (by simpa using h1)) (placeL_len _ _) ⟨by simp, ?_, ?_⟩ h.st.last
                · cases hp : partsL x.b with
                  | none => exact absurd (Or.inl hp) h2
                  | some l => exact (partsL_inv hp).1
                · intro _ hb; exact h2 (Or.inr hb)
        · split
          · unfold removeL
            split
            · exact h
            · split
              · exact h
              · split
                · exact h
                · exact ⟨h.st.del _, h.k.del _⟩
          · split
            · unfold renameL
              split
              · exact h
              · rename_i h1
                split
                · exact h
                · rename_i h2
                  split
                  · exact h
                  · rename_i h3
                    split
                    · exact h
                    · have h0 : (placeL s x.a).2.2 = 0 := by simpa using h1
                      have hg := placeL_get h0
                      refine ⟨(h.st.del _).put (OkN.of_place h.st _) (Or.inr ?_), (h.k.del _).put (placeL_ne (by simpa using h3)) (placeL_len _ _) (by rw [hg]; exact h.k.get h.st.last _)⟩
                      have hc := h.st.count
                      have hs : (s.has (placeL s x.a).1).isSome = true := by
                        rw [hg] at h2
                        unfold StL.get at h2
                        cases hh : s.has (placeL s x.a).1 with
                        | none => rw [hh] at h2; exact absurd rfl h2
                        | some n => rfl
                      simp only [StL.del, hs, if_true]; omega
            · exact h
theorem does_err {s : StL} {x : ActL} (h : (doesL s x).1 ≠ 0) : (doesL s x).2 = s := by
  unfold doesL at h ⊢
  split at h
  · rename_i h0; rw [if_pos h0]
    unfold mkdirL at h ⊢
    repeat' split
    all_goals first | rfl | skip
    rename_i h1 h2; rw [if_neg h1, if_neg h2] at h
    exact fresh_err h
  · rename_i h0; rw [if_neg h0]
    split at h
    · rename_i h0; rw [if_pos h0]
      unfold putL at h ⊢
      repeat' split
      all_goals first | rfl | skip
      · exact fresh_err ‹_›
      · rename_i h1 h2 h3 h4 h5; rw [if_neg h1, if_neg h2, if_neg h3, if_neg h4, if_neg h5] at h; exact absurd rfl h
    · rename_i h0; rw [if_neg h0]
      split at h
      · rename_i h0; rw [if_pos h0]
        unfold alsoL at h ⊢
        repeat' split
        all_goals first | rfl | skip
        rename_i h1 h2 h3 h4; rw [if_neg h1, if_neg h2, if_neg h3, if_neg h4] at h
        exact fresh_err h
      · rename_i h0; rw [if_neg h0]
        split at h
        · rename_i h0; rw [if_pos h0]
          unfold symL at h ⊢
          repeat' split
          all_goals first | rfl | skip
          rename_i h1 h2 h3; rw [if_neg h1, if_neg h2, if_neg h3] at h
          exact fresh_err h
        · rename_i h0; rw [if_neg h0]
          split at h
          · rename_i h0; rw [if_pos h0]
            unfold removeL at h ⊢
            repeat' split
            all_goals first | rfl | skip
            rename_i h1 h2 h3; rw [if_neg h1, if_neg h2, if_neg h3] at h
            exact absurd rfl h
          · rename_i h0; rw [if_neg h0]
            split at h
            · rename_i h0; rw [if_pos h0]
              unfold renameL at h ⊢
              repeat' split
              all_goals first | rfl | skip
              rename_i h1 h2 h3 h4; rw [if_neg h1, if_neg h2, if_neg h3, if_neg h4] at h
              exact absurd rfl h
            · exact absurd rfl h
noncomputable def playL (st : StL) (l : List ActL) : StL := l.foldl (fun s x => (doesL s x).2) st
theorem OkA.play {s : StL} (h : OkA s) : ∀ l : List ActL, OkA (playL s l)
  | [] => h
  | x :: l => OkA.play (h.does x) l
theorem fresh_last (s : StL) (p : List UInt8) (n : NodeL) : (freshL s p n).2.last = s.last := by unfold freshL; split <;> rfl
theorem does_last (s : StL) (x : ActL) : (doesL s x).2.last ≤ s.last + 1 := by
  unfold doesL mkdirL putL alsoL symL removeL renameL
  repeat' split
  all_goals first | (rw [fresh_last]; omega) | (show s.last ≤ s.last + 1; omega) | skip
  all_goals (simp only [StL.up]; rw [fresh_last]; exact Int.le_refl _)
theorem play_last (s : StL) : ∀ l : List ActL, (playL s l).last ≤ s.last + l.length
  | [] => by simp [playL]
  | x :: l => by
    have h1 := play_last (doesL s x).2 l
    have h2 := does_last s x
    show (playL (doesL s x).2 l).last ≤ _
    simp only [List.length_cons]; omega

end Go.Proofs.YtgoecmfjidcieaaDoor
