/- Lemmas that the claim is proved from: what calls of functions of the program come to (contracts), and plain laws. Each lemma bears its own conditions. -/
import Derived.Test.YtjnahiomnaedeaaGW4
import Derived.Deep.LoopGhost
import Derived.WalkSmall
namespace Go.Proofs.Ytjnahiomnaedeaa
set_option linter.unusedVariables false
set_option linter.unusedSimpArgs false
open Go.RowKit

/-- the rows that the reference's walk owns -/
structure RP (B : Nat) (w wr : World) (vo ve : Value) (ga ca gc cc : Nat) (out E : List Int) (fr : List (Nat × Nat)) : Prop where
  bel : Below B w wr
  size : B ≤ wr.heap.size
  o : Own B wr vo out
  e : Own B wr ve E
  a : wr.ownsRow B 3 1 (.slice (some ⟨ga, 0, none⟩) fr.length ca) fr.length ((fr.map (fun x => Value.int .i64 (x.1 : Nat))).reverse)
  c : wr.ownsRow B 3 1 (.slice (some ⟨gc, 0, none⟩) fr.length cc) fr.length ((fr.map (fun x => Value.int .i64 (x.2 : Nat))).reverse)
  oe : Apart vo ve
  ooa : vo.ownBlock ≠ some ga
  oc : vo.ownBlock ≠ some gc
  ea : ve.ownBlock ≠ some ga
  ec : ve.ownBlock ≠ some gc
  ac : ga ≠ gc

theorem Own.other' {B : Nat} {w w' : World} {u : Value} {xs : List Int} (h : Own B w u xs) {row : Option Nat} (hg : w.grownBy w' row) (ha : ∀ k, u.ownBlock = some k → row ≠ some k) : Own B w' u xs := by
  refine World.ownsRow.kept h hg ?_
  cases hu : u.ownBlock with
  | none => exact Or.inl rfl
  | some k => exact Or.inr (fun e => ha k hu e.symm)

theorem ownsRow_far {w w' : World} {B e size g n c : Nat} {xs : List Value} (h : w.ownsRow B e size (.slice (some ⟨g, 0, none⟩) n c) n xs) {row : Option Nat} (hg : w.grownBy w' row) (hne : row ≠ some g) :
    w'.ownsRow B e size (.slice (some ⟨g, 0, none⟩) n c) n xs := World.ownsRow.kept h hg (Or.inr (fun e => hne e.symm))

theorem RP.alloc {B : Nat} {w wr : World} {vo ve : Value} {ga ca gc cc : Nat} {out E : List Int} {fr : List (Nat × Nat)} (h : RP B w wr vo ve ga ca gc cc out E fr) (o : Obj) : RP B w (wr.alloc o) vo ve ga ca gc cc out E fr :=
  ⟨h.bel.alloc h.size o, by have := h.size; simp; omega, h.o.alloc o, h.e.alloc o, h.a.alloc o, h.c.alloc o, h.oe, h.ooa, h.oc, h.ea, h.ec, h.ac⟩
theorem RP.drewN {B : Nat} {w wr : World} {vo ve : Value} {ga ca gc cc : Nat} {out E : List Int} {fr : List (Nat × Nat)} (h : RP B w wr vo ve ga ca gc cc out E fr) (n : Nat) : RP B w (wr.drewN n) vo ve ga ca gc cc out E fr :=
  ⟨h.bel.trans ⟨rfl, rfl, rfl, Nat.le_refl _, fun _ _ => rfl⟩, h.size, h.o, h.e, h.a, h.c, h.oe, h.ooa, h.oc, h.ea, h.ec, h.ac⟩

/-- the last cells of the two rows -/
theorem last_cell {w : World} {B e g c : Nat} {n : Nat} {v : Value} {xs : List Value} (h : w.ownsRow B e 1 (.slice (some ⟨g, 0, none⟩) (n + 1) c) (n + 1) (xs ++ [v])) (hl : xs.length = n) : w.cell? ⟨g, n, none⟩ = some v := by
  rw [World.ownsRow.cellAt h n (by omega), ← hl]; simp

theorem cap_of_own {w : World} {B e g c n : Nat} {xs : List Value} (h : w.ownsRow B e 1 (.slice (some ⟨g, 0, none⟩) n c) n xs) : n ≤ c := by
  rcases h.2 with ⟨h', _⟩ | ⟨g', cap', cur, h', _, _, hnc, _⟩
  · simp at h'
  · simp at h'; omega
theorem lt_of_own {w : World} {B e g c n : Nat} {xs : List Value} (h : w.ownsRow B e 1 (.slice (some ⟨g, 0, none⟩) n c) n xs) : B ≤ g ∧ g < w.heap.size := World.ownsRow.lt h g rfl

/-- a node is left: it is told, both rows are cut -/
theorem RP.left {B : Nat} {w wr w1 : World} {vo ve : Value} {ga ca gc cc : Nat} {out E : List Int} {n j : Nat} {fr : List (Nat × Nat)} (h : RP B w wr vo ve ga ca gc cc out E ((n, j) :: fr))
    {g c : Nat} (hown : Own B w1 (.slice (some ⟨g, 0, none⟩) (out.length + 1) c) (out ++ [(n : Int)])) (hg : wr.grownBy w1 vo.ownBlock) (hb : Below B wr w1) {H : Nat} (hat : vo.ownBlock = some g ∨ g = H) (hH : wr.heap.size = H) :
    RP B w w1 (.slice (some ⟨g, 0, none⟩) (out.length + 1) c) ve ga ca gc cc (out ++ [(n : Int)]) E fr := by
  subst hH
  have hla := lt_of_own h.a
  have hlc := lt_of_own h.c
  have hgne : ∀ k, k < wr.heap.size → vo.ownBlock ≠ some k → g ≠ k := by
    intro k hk hne e
    rcases hat with h1 | h1
    · exact hne (e ▸ h1)
    · omega
  refine ⟨h.bel.trans hb, Nat.le_trans h.size hb.size, hown, h.e.other hg h.oe.symm, ?_, ?_, ?_, ?_, ?_, h.ea, h.ec, h.ac⟩
  · have := h.a
    simp only [List.length_cons, List.map_cons, List.reverse_cons] at this
    exact ownsRow_far (ownsRow_pop (by simp) this) hg h.ooa
  · have := h.c
    simp only [List.length_cons, List.map_cons, List.reverse_cons] at this
    exact ownsRow_far (ownsRow_pop (by simp) this) hg h.oc
  · intro k hk e
    simp [Value.ownBlock] at hk
    subst hk
    exact hgne g (h.e.lt g e).2 (fun e' => h.oe g e' e) rfl
  · simp only [Value.ownBlock, ne_eq, Option.some.injEq]; exact hgne ga hla.2 h.ooa
  · simp only [Value.ownBlock, ne_eq, Option.some.injEq]; exact hgne gc hlc.2 h.oc

/-- 'gone[k]++' -/
theorem RP.gone {B : Nat} {w wr : World} {vo ve : Value} {ga ca gc cc : Nat} {out E : List Int} {n j : Nat} {fr : List (Nat × Nat)} (h : RP B w wr vo ve ga ca gc cc out E ((n, j) :: fr)) (j' : Nat) (v : Int) (hv : v = (j' : Nat)) :
    RP B w (wr.setCell ⟨gc, fr.length, none⟩ (.int .i64 v)) vo ve ga ca gc cc out E ((n, j') :: fr) := by
  subst hv
  have hlc := lt_of_own h.c
  have hc := h.c
  simp only [List.length_cons, List.map_cons, List.reverse_cons] at hc
  obtain ⟨h1, h2⟩ := World.ownsRow.stored hc fr.length (.int .i64 (j' : Nat))
  refine ⟨h.bel.setCell hlc.1 _, by simpa [World.setCell] using h.size, h.o.other' h2 (fun k hk e => by simp at e; exact h.oc (e ▸ hk)), h.e.other' h2 (fun k hk e => by simp at e; exact h.ec (e ▸ hk)), ?_, ?_, h.oe, h.ooa, h.oc, h.ea, h.ec, h.ac⟩
  · have := h.a
    simp only [List.length_cons, List.map_cons, List.reverse_cons] at this ⊢
    exact ownsRow_far this h2 (fun e => h.ac (by simpa using e.symm))
  · simp only [List.length_cons, List.map_cons, List.reverse_cons]
    have e : ((fr.map (fun x => Value.int .i64 (x.2 : Nat))).reverse ++ [Value.int .i64 (j : Nat)]).set fr.length (Value.int .i64 (j' : Nat)) = (fr.map (fun x => Value.int .i64 (x.2 : Nat))).reverse ++ [Value.int .i64 (j' : Nat)] := by
      rw [List.set_append_right _ _ (by simp)]; simp
    rw [← e]; exact h1

/-- a node is entered: the first of three appends -/
theorem RP.enter {B : Nat} {w wr w1 : World} {vo ve : Value} {ga ca gc cc : Nat} {out E : List Int} {to : Int} {fr : List (Nat × Nat)} (h : RP B w wr vo ve ga ca gc cc out E fr)
    {g c : Nat} (hown : Own B w1 (.slice (some ⟨g, 0, none⟩) (E.length + 1) c) (E ++ [to])) (hg : wr.grownBy w1 ve.ownBlock) (hb : Below B wr w1) {H : Nat} (hat : ve.ownBlock = some g ∨ g = H) (hH : wr.heap.size = H) :
    RP B w w1 vo (.slice (some ⟨g, 0, none⟩) (E.length + 1) c) ga ca gc cc out (E ++ [to]) fr := by
  subst hH
  have hla := lt_of_own h.a
  have hlc := lt_of_own h.c
  have hgne : ∀ k, k < wr.heap.size → ve.ownBlock ≠ some k → g ≠ k := by
    intro k hk hne e
    rcases hat with h1 | h1
    · exact hne (e ▸ h1)
    · omega
  refine ⟨h.bel.trans hb, Nat.le_trans h.size hb.size, h.o.other hg h.oe, hown, ownsRow_far h.a hg h.ea, ownsRow_far h.c hg h.ec, Apart.grow h.o h.oe hat, h.ooa, h.oc, ?_, ?_, h.ac⟩
  · simp only [Value.ownBlock, ne_eq, Option.some.injEq]; exact hgne ga hla.2 h.ea
  · simp only [Value.ownBlock, ne_eq, Option.some.injEq]; exact hgne gc hlc.2 h.ec

/-- the ints of a row of frames -/
theorem own_of_a {B : Nat} {w : World} {g c : Nat} {fr : List (Nat × Nat)} (f : Nat × Nat → Nat)
    (h : w.ownsRow B 3 1 (.slice (some ⟨g, 0, none⟩) fr.length c) fr.length ((fr.map (fun x => Value.int .i64 (f x : Nat))).reverse)) : Own B w (.slice (some ⟨g, 0, none⟩) fr.length c) ((fr.map (fun x => ((f x : Nat) : Int))).reverse) := by
  unfold Own
  simpa [List.map_reverse, Function.comp_def] using h
theorem a_of_own {B : Nat} {w : World} {g c : Nat} {fr : List (Nat × Nat)} (f : Nat × Nat → Nat) {x : Nat × Nat}
    (h : Own B w (.slice (some ⟨g, 0, none⟩) (fr.length + 1) c) ((fr.map (fun x => ((f x : Nat) : Int))).reverse ++ [((f x : Nat) : Int)])) :
    w.ownsRow B 3 1 (.slice (some ⟨g, 0, none⟩) (x :: fr).length c) (x :: fr).length (((x :: fr).map (fun x => Value.int .i64 (f x : Nat))).reverse) := by
  unfold Own at h
  simpa [List.map_reverse, Function.comp_def] using h

/-- .. the other two: both rows grow -/
theorem RP.push {B : Nat} {w wr w1 w2 : World} {vo ve : Value} {ga ca gc cc : Nat} {out E : List Int} {to : Nat} {fr : List (Nat × Nat)} (h : RP B w wr vo ve ga ca gc cc out E fr)
    {g c : Nat} (hown : Own B w1 (.slice (some ⟨g, 0, none⟩) (fr.length + 1) c) ((fr.map (fun x => ((x.1 : Nat) : Int))).reverse ++ [(to : Int)])) (hg : wr.grownBy w1 (some ga)) (hb : Below B wr w1) {H : Nat} (hat : some ga = some g ∨ g = H) (hH : wr.heap.size = H)
    {o : Obj} {g' c' : Nat} (hown' : Own B w2 (.slice (some ⟨g', 0, none⟩) (fr.length + 1) c') ((fr.map (fun x => ((x.2 : Nat) : Int))).reverse ++ [0])) (hg' : (w1.alloc o).grownBy w2 (some gc)) (hb' : Below B (w1.alloc o) w2) {H' : Nat} (hat' : some gc = some g' ∨ g' = H') (hH' : (w1.alloc o).heap.size = H') :
    RP B w w2 vo ve g c g' c' out E ((to, 0) :: fr) := by
  subst hH hH'
  have hla := lt_of_own h.a
  have hlc := lt_of_own h.c
  have hs1 := hb.size
  have hBs := h.size
  have hs0 := hg.size
  have hgl : g < w1.heap.size := by
    have := (hown.lt g rfl).2; exact this
  have hgc : g ≠ gc := by
    intro e
    rcases hat with h1 | h1
    · exact h.ac (by simpa using h1.trans (congrArg some e))
    · omega
  have hgg : g ≠ g' := by
    intro e
    rcases hat' with h1 | h1
    · exact hgc (by simp at h1; omega)
    · simp at h1; omega
  have hfar : ∀ (v : Value) (xs : List Int), Own B wr v xs → v.ownBlock ≠ some ga → v.ownBlock ≠ some gc → Own B w2 v xs ∧ v.ownBlock ≠ some g ∧ v.ownBlock ≠ some g' := by
    intro v xs hv h1 h2
    refine ⟨((hv.other' hg (fun k hk e => h1 (e ▸ hk))).alloc o).other' hg' (fun k hk e => h2 (e ▸ hk)), ?_, ?_⟩
    · intro e
      have := (hv.lt g e).2
      rcases hat with h3 | h3
      · exact h1 (h3 ▸ e)
      · omega
    · intro e
      have := (hv.lt g' e).2
      rcases hat' with h3 | h3
      · exact h2 (h3 ▸ e)
      · simp at h3; omega
  obtain ⟨o1, o2, o3⟩ := hfar vo out h.o h.ooa h.oc
  obtain ⟨e1, e2, e3⟩ := hfar ve E h.e h.ea h.ec
  refine ⟨((h.bel.trans hb).alloc (by omega) o).trans hb', Nat.le_trans (by simp; omega) hb'.size, o1, e1, ?_, ?_, h.oe, o2, o3, e2, e3, hgg⟩
  · have := a_of_own (fun x => x.1) (x := (to, 0)) hown
    exact ownsRow_far (this.alloc o) hg' (fun e => hgc (by simpa using e.symm))
  · exact a_of_own (fun x => x.2) (x := (to, 0)) hown'

end Go.Proofs.Ytjnahiomnaedeaa
