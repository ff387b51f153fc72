/- the laws FilesKeeps and FilesLinks, plain -/
import Derived.Test.YtgoecmfjidcieaaDoorFK2
namespace Go.Proofs.YtgoecmfjidcieaaDoor
set_option linter.unusedVariables false
set_option linter.unusedSimpArgs false
open Go.RowKit

theorem fresh_inv {st : StL} {p : List UInt8} {n : NodeL} (h : (freshL st p n).1 = 0) : freshL st p n = (0, st.put p n) := by
  unfold freshL at h ⊢
  split
  · rename_i h1; rw [if_pos h1] at h; cases h
  · rfl
theorem place_inv {st : StL} {path : List UInt8} (h : (placeL st path).2.2 = 0) :
    ∃ l, absL path = some l ∧ ¬ (l = [] ∨ l.getLast? = some [46, 46]) ∧ (walkL st.has false l [47] 0).1 = (placeL st path).1 ∧ (placeL st path).1 ≠ [] ∧ (placeL st path).2.1 = st.get (placeL st path).1 := by
  have h1 := placeL_ne h
  have h2 := placeL_get h
  unfold placeL at h h1 h2 ⊢
  cases ha : absL path with
  | none => rw [ha] at h; cases h
  | some l =>
    rw [ha] at h h1 h2
    simp only at h h1 h2 ⊢
    refine ⟨l, rfl, ?_, ?_, h1, h2⟩
    · intro h3; rw [if_pos h3] at h; cases h
    · split at h
      · cases h
      · rename_i h3
        split at h
        · rename_i h4; simp only at h; exact absurd h h4.1
        · rename_i h4; rw [if_neg h3, if_neg h4]
theorem place_mk {st : StL} {path l p : _} (ha : absL path = some l) (hl : ¬ (l = [] ∨ l.getLast? = some [46, 46])) (hw : walkL st.has false l [47] 0 = (p, 0)) : placeL st path = (p, st.get p, 0) := by
  unfold placeL
  rw [ha]
  simp only
  rw [if_neg hl, hw]
  simp
theorem real_mk {st : StL} {path : List UInt8} {l : List (List UInt8)} {p : List UInt8} (ha : absL path = some l) (hw : walkL st.has true l [47] 0 = (p, 0)) : realL st path = (p, 0) := by
  unfold realL
  rw [ha]
  simp only
  rw [hw]
  simp
theorem file_mk {st : StL} {path p : List UInt8} {n : NodeL} (h : realL st path = (p, 0)) (hn : st.get p = n) (hk : n.kind ≠ 2) : fileL st path = (n, 0) := by
  unfold fileL
  rw [h]
  simp only [if_true]
  rw [hn, if_neg hk]
theorem get_put_same (st : StL) (p : List UInt8) (n : NodeL) : (st.put p n).get p = n := by simp [StL.put, StL.get]
theorem has_put_same (st : StL) (p : List UInt8) (n : NodeL) : (st.put p n).has p = some n := by simp [StL.put]
theorem has_put_other {st : StL} {p q : List UInt8} {n : NodeL} (h : q ≠ p) : (st.put p n).has q = st.has q := by simp [StL.put, h]
theorem has_del_other' {st : StL} {p q : List UInt8} (h : q ≠ p) : (st.del p).has q = st.has q := by simp [StL.del, h]
theorem get_has {s t : StL} {p : List UInt8} (h : s.has p = t.has p) : s.get p = t.get p := by unfold StL.get; rw [h]
theorem flat_of_get {st : StL} {p : List UInt8} (h2 : (st.get p).kind ≠ 2) (h3 : (st.get p).kind ≠ 3) : Flat (st.has p) := by
  intro n hn
  have : st.get p = n := by unfold StL.get; rw [hn]; rfl
  rw [← this]; exact ⟨h2, h3⟩
theorem flat_some {n : NodeL} (h : n.kind = 1) : Flat (some n) := by
  intro m hm; obtain rfl := Option.some.inj hm; rw [h]; decide

theorem put_inv {st : StL} {path b : List UInt8} (h : (putL st path b).1 = 0) :
    (placeL st path).2.2 = 0 ∧ (placeL st path).2.1.kind ≠ 2 ∧ (placeL st path).2.1.kind ≠ 3 ∧ (putL st path b).2 = (st.put (placeL st path).1 ⟨1, st.last + 1, b, []⟩).up := by
  unfold putL at h ⊢
  split at h
  · rename_i h1; exact absurd h h1
  · rename_i h1
    split at h
    · cases h
    · rename_i h2
      split at h
      · cases h
      · rename_i h3
        split at h
        · cases h
        · rename_i h4
          split at h
          · rename_i h5; exact absurd h h5
          · rename_i h5
            refine ⟨by simpa using h1, h2, h3, ?_⟩
            rw [if_neg h1, if_neg h2, if_neg h3, if_neg h4, if_neg h5]
            simp only
            rw [fresh_inv (by simpa using h5)]

structure Keeps (st : StL) (path other b : List UInt8) : Prop where
  old : (fileL st path).2 = 0 → (fileL st path).1.id < st.last + 1
  file : fileL (putL st path b).2 path = (⟨1, st.last + 1, b, []⟩, 0)
  also : (alsoL (putL st path b).2 other path).1 = 0 → fileL (alsoL (putL st path b).2 other path).2 other = (⟨1, st.last + 1, b, []⟩, 0) ∧
    (removeL (alsoL (putL st path b).2 other path).2 path).1 = 0 ∧ fileL (removeL (alsoL (putL st path b).2 other path).2 path).2 other = (⟨1, st.last + 1, b, []⟩, 0)

theorem keeps {st : StL} (hok : OkA st) {path other b : List UInt8} (h : (putL st path b).1 = 0) : Keeps st path other b := by
  obtain ⟨h0, hk2, hk3, hst⟩ := put_inv h
  obtain ⟨l, ha, hl, hw, hne, hget⟩ := place_inv h0
  generalize hp : (placeL st path).1 = p at *
  obtain ⟨N, hN⟩ : ∃ N : NodeL, N = ⟨1, st.last + 1, b, []⟩ := ⟨_, rfl⟩
  have hNk : N.kind = 1 := by rw [hN]
  have hNi : N.id = st.last + 1 := by rw [hN]
  rw [← hN] at hst
  rw [hget] at hk2 hk3
  have hflat := flat_of_get hk2 hk3
  have e1 : ∀ q, q ≠ p → (st.put p N).up.has q = st.has q := fun q hq => has_put_other hq
  have e1s : (st.put p N).up.has p = some N := has_put_same st p N
  have g1 : (st.put p N).up.get p = N := get_put_same st p N
  have w1 : ∀ last', walkL (st.put p N).up.has last' l [47] 0 = (p, 0) := fun last' =>
    walk_at e1 hflat (by rw [e1s]; rfl) (by rw [e1s]; exact flat_some hNk) false last' (fun h => by cases h) hne l [47] 0 hw
  have f1 : fileL (st.put p N).up path = (N, 0) := file_mk (real_mk ha (w1 true)) g1 (by rw [hNk]; decide)
  refine ⟨fun hf => ?_, ?_, fun hal => ?_⟩
  · have hid : ∀ q, (st.get q).id ≤ st.last := fun q => hok.k.get hok.st.last q
    have : (fileL st path).1.id ≤ st.last := by
      unfold fileL
      split
      · split
        · exact hok.st.last
        · exact hid _
      · exact hok.st.last
    omega
  · rw [hst, ← hN]; exact f1
  · rw [hst] at hal ⊢
    rw [← hN]
    generalize hs1 : (st.put p N).up = s1 at *
    have hr1 : realL s1 path = (p, 0) := real_mk ha (w1 true)
    -- the other name's place
    have hq0 : (placeL s1 other).2.2 = 0 ∧ (placeL s1 other).2.1.kind = 0 ∧ alsoL s1 other path = (0, s1.put (placeL s1 other).1 N) := by
      unfold alsoL at hal ⊢
      split at hal
      · rename_i h1; exact absurd hal h1
      · rename_i h1
        split at hal
        · cases hal
        · rename_i h2
          split at hal
          · rename_i h3; exact absurd hal h3
          · rename_i h3
            split at hal
            · cases hal
            · rename_i h4
              rw [if_neg h1, if_neg h2, if_neg h3, if_neg h4]
              refine ⟨by simpa using h1, by simpa using h2, ?_⟩
              rw [hr1, g1] at hal ⊢
              exact fresh_inv hal
    obtain ⟨hq1, hq2, hq3⟩ := hq0
    obtain ⟨l2, ha2, hl2, hw2, hne2, hget2⟩ := place_inv hq1
    rw [hq3]
    generalize hpq : (placeL s1 other).1 = q at *
    simp only
    rw [hget2] at hq2
    have hqp : q ≠ p := by
      intro e; rw [e, g1, hNk] at hq2; cases hq2
    have hflat2 : Flat (s1.has q) := flat_of_get (by rw [hq2]; decide) (by rw [hq2]; decide)
    have e2 : ∀ x, x ≠ q → (s1.put q N).has x = s1.has x := fun x hx => has_put_other hx
    have e2s : (s1.put q N).has q = some N := has_put_same s1 q N
    have w2 : ∀ last', walkL (s1.put q N).has last' l2 [47] 0 = (q, 0) := fun last' =>
      walk_at e2 hflat2 (by rw [e2s]; rfl) (by rw [e2s]; exact flat_some hNk) false last' (fun h => by cases h) hne2 l2 [47] 0 hw2
    have f2 : fileL (s1.put q N) other = (N, 0) := file_mk (real_mk ha2 (w2 true)) (get_put_same s1 q N) (by rw [hNk]; decide)
    have w2p : walkL (s1.put q N).has false l [47] 0 = (p, 0) := by
      rw [walk_same e2 hflat2 false l [47] 0 (by rw [w1 false]; exact hne) (Or.inl (by rw [w1 false]; exact fun e => hqp e.symm)), w1 false]
    have p2 : placeL (s1.put q N) path = (p, N, 0) := by
      rw [place_mk ha hl w2p, get_has (e2 p (fun e => hqp e.symm)), g1]
    have hrm : removeL (s1.put q N) path = (0, (s1.put q N).del p) := by
      unfold removeL
      rw [p2]
      simp only [hNk]
      rw [if_neg (by decide), if_neg (by decide), if_neg (fun h => absurd h.1 (by first | decide | (rw [hNk]; decide)))]
    refine ⟨f2, by rw [hrm], ?_⟩
    rw [hrm]
    simp only
    have hfp : Flat ((s1.put q N).has p) := by
      rw [e2 p (fun e => hqp e.symm), e1s]; exact flat_some hNk
    have w3 : walkL ((s1.put q N).del p).has true l2 [47] 0 = (q, 0) := by
      rw [walk_same (N := (s1.put q N).has) (x := p) (fun x hx => has_del_other' hx) hfp true l2 [47] 0 (by rw [w2 true]; exact hne2) (Or.inl (by rw [w2 true]; exact hqp)), w2 true]
    refine file_mk (real_mk ha2 w3) ?_ (by rw [hNk]; decide)
    rw [get_has (has_del_other' hqp), get_put_same]

/-- the path that the law on links puts its link at -/
def oneLink : List UInt8 := [47, 111, 110, 101, 46, 108, 105, 110, 107]
def oneName : List UInt8 := [111, 110, 101, 46, 108, 105, 110, 107]
theorem one_abs : absL oneLink = some [oneName] := by decide
theorem one_clean : cleanL oneLink = (oneLink, 0) := by decide
theorem one_join : joinL [47] oneName = oneLink := by decide

structure Links (st : StL) (to_ : List UInt8) : Prop where
  bad : (realL (symL st oneLink to_).2 to_).2 ≠ 0 → (realL (symL st oneLink to_).2 oneLink).2 ≠ 0 ∧ (realL (symL st oneLink to_).2 oneLink).1 = []
  same : (realL (symL st oneLink to_).2 to_).2 = 0 → realL (symL st oneLink to_).2 oneLink = realL (symL st oneLink to_).2 to_ ∨ (realL (symL st oneLink to_).2 oneLink).2 = 35
  kind : kindL (symL st oneLink to_).2 oneLink = 3

theorem links {st : StL} {to_ : List UInt8} (h47 : to_.head? = some 47) (h : (symL st oneLink to_).1 = 0) : Links st to_ := by
  have hs : (placeL st oneLink).2.2 = 0 ∧ (placeL st oneLink).2.1.kind = 0 ∧ partsL to_ ≠ none ∧ symL st oneLink to_ = (0, st.put (placeL st oneLink).1 ⟨3, 0, [], to_⟩) := by
    unfold symL at h ⊢
    split at h
    · rename_i h1; exact absurd h h1
    · rename_i h1
      split at h
      · cases h
      · rename_i h2
        split at h
        · cases h
        · rename_i h3
          rw [if_neg h1, if_neg h2, if_neg h3]
          exact ⟨by simpa using h1, by simpa using h2, fun e => h3 (Or.inl e), fresh_inv h⟩
  obtain ⟨h0, hk, hpt, hst⟩ := hs
  obtain ⟨l, ha, hl, hw, hne, hget⟩ := place_inv h0
  rw [one_abs] at ha
  obtain rfl := Option.some.inj ha
  have hp : (placeL st oneLink).1 = oneLink := by
    rw [← hw]
    cases hn : st.has (joinL [47] oneName) with
    | none => rw [walkL_none (by decide) hn, if_pos rfl, one_join]
    | some n =>
      have h3 : ¬ (n.kind = 3 ∧ (false = true ∨ ([] : List (List UInt8)) ≠ [])) := fun h => by rcases h.2 with h | h; cases h; exact h rfl
      rw [walkL_on (by decide) hn h3 (fun h => h.2 rfl), walkL_nil, one_join]
  have hst2 : (symL st oneLink to_).2 = st.put oneLink ⟨3, 0, [], to_⟩ := by rw [hst, hp]
  obtain ⟨lst, hlst⟩ : ∃ lst, partsL to_ = some lst := by
    cases hx : partsL to_ with
    | none => exact absurd hx hpt
    | some lst => exact ⟨lst, rfl⟩
  have hat : absL to_ = some lst := by unfold absL; rw [if_pos h47, hlst]
  generalize hs1 : st.put oneLink ⟨3, 0, [], to_⟩ = s1 at *
  have hn1 : s1.has (joinL [47] oneName) = some ⟨3, 0, [], to_⟩ := by rw [one_join, ← hs1]; exact has_put_same _ _ _
  have hw1 : walkL s1.has true [oneName] [47] 0 = walkL s1.has true lst [47] 1 := by
    rw [walkL_link (by decide) hn1 rfl (Or.inl rfl) (by decide)]
    simp only [hlst, h47, Option.getD_some, List.append_nil, if_true]
  have r1 : realL s1 oneLink = if (walkL s1.has true lst [47] 1).2 = 0 then ((walkL s1.has true lst [47] 1).1, 0) else ([], (walkL s1.has true lst [47] 1).2) := by
    unfold realL; rw [one_abs]; simp only; rw [hw1]
  have r2 : realL s1 to_ = if (walkL s1.has true lst [47] 0).2 = 0 then ((walkL s1.has true lst [47] 0).1, 0) else ([], (walkL s1.has true lst [47] 0).2) := by
    unfold realL; rw [hat]
  have hm := walk_more s1.has true lst [47] 0
  simp only [Nat.zero_add] at hm
  refine ⟨fun hb => ?_, fun hb => ?_, ?_⟩
  · rw [hst2] at hb ⊢
    rcases hm with hm | hm
    · rw [r1, hm, ← r2]
      refine ⟨hb, ?_⟩
      rw [r2] at hb ⊢
      split
      · rename_i h5; rw [if_pos h5] at hb; exact absurd rfl hb
      · rfl
    · rw [r1, hm]; exact ⟨by decide, rfl⟩
  · rw [hst2] at hb ⊢
    rcases hm with hm | hm
    · left; rw [r1, hm, ← r2]
    · right; rw [r1, hm]; rfl
  · rw [hst2]
    unfold kindL
    rw [if_neg (by rw [one_clean]; decide)]
    have h3 : ¬ ((3 : Int) = 3 ∧ (false = true ∨ ([] : List (List UInt8)) ≠ [])) := fun h => by rcases h.2 with h | h; cases h; exact h rfl
    have hwl : walkL s1.has false [oneName] [47] 0 = (oneLink, 0) := by
      rw [walkL_on (by decide) hn1 h3 (fun h => h.2 rfl), walkL_nil, one_join]
    rw [place_mk one_abs (by decide) hwl]
    simp only
    rw [← one_join]
    unfold StL.get
    rw [hn1]
    rfl

end Go.Proofs.YtgoecmfjidcieaaDoor
