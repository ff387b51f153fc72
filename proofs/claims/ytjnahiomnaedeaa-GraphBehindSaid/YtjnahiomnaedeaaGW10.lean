/- Lemmas that the claim is proved from: what calls of functions of the program come to (contracts), and plain laws. Each lemma bears its own conditions. -/
import Derived.Test.YtjnahiomnaedeaaGW4
import Derived.Deep.LoopGhost
namespace Go.Proofs.Ytjnahiomnaedeaa
set_option linter.unusedVariables false
set_option linter.unusedSimpArgs false
open Go.RowKit

/-- what a walk in depth keeps: p: its struct; q: the row of marks -/
structure VSt (B B2 : Nat) (w wr : World) (p q : Nat) (ev : Value) (g : List (List Int)) (E O : List Int) : Prop where
  bel : Below B w wr
  size : B2 ≤ wr.heap.size
  p1 : B ≤ p ∧ p < B2
  q1 : B ≤ q ∧ q < B2
  ne : p ≠ q
  edges : IntRowsB B wr ev g
  row : wr.rowIs q 4 g.length (fun i => .bool (decide ((i : Int) ∈ E)))
  st : ∃ v, wr.heap[p]? = some (.cells #[ev, .slice (some ⟨q, 0, none⟩) g.length g.length, v] 44 (0, 0)) ∧ Own B2 wr v O

theorem cells_of_three {w : World} {b : Nat} {v0 v1 v2 : Value} {t : TypeId} (h : w.heap[b]? = some (.cells #[v0, v1, v2] t (0, 0))) :
    w.cell? ⟨b, 0, none⟩ = some v0 ∧ w.cell? ⟨b, 1, none⟩ = some v1 ∧ w.cell? ⟨b, 2, none⟩ = some v2 ∧ w.frozen? ⟨b, 2, none⟩ = false := by simp [World.cell?, World.frozen?, h]
theorem three_setCell {w : World} {b : Nat} {v0 v1 v2 u : Value} {t : TypeId} (h : w.heap[b]? = some (.cells #[v0, v1, v2] t (0, 0))) : (w.setCell ⟨b, 2, none⟩ u).heap[b]? = some (.cells #[v0, v1, u] t (0, 0)) := by
  have hlt := lt_of_block h
  have h' : w.heap[b] = .cells #[v0, v1, v2] t (0, 0) := by simpa [Array.getElem?_eq_getElem hlt] using h
  show (w.heap.modify b _)[b]? = _
  rw [Array.getElem?_eq_getElem (by simpa using hlt), Array.getElem_modify_self, h']
  rfl

section
variable {B B2 : Nat} {w wr : World} {p q : Nat} {ev : Value} {g : List (List Int)} {E O : List Int}
theorem VSt.mark (h : VSt B B2 w wr p q ev g E O) {x : Int} (hx : 0 ≤ x ∧ x < g.length) : VSt B B2 w (wr.setCell ⟨q, x.toNat, none⟩ (.bool true)) p q ev g (E ++ [x]) O := by
  obtain ⟨v, h1, h2⟩ := h.st
  refine ⟨h.bel.setCell h.q1.1 _, by simpa [World.setCell] using h.size, h.p1, h.q1, h.ne, h.edges.below ((Below.refl _ _).setCell h.q1.1 _), (h.row.set x.toNat _).congr ?_, v, by rw [Below.heap_setCell _ _ _ _ h.ne]; exact h1, ownsRow_setCell_below h2 h.q1.2 _⟩
  intro i _
  by_cases e : i = x.toNat
  · subst e
    rw [if_pos rfl, eq_comm]; congr 1; rw [decide_eq_true_eq, List.mem_append]; right; simp; omega
  · rw [if_neg e]; congr 1
    rw [decide_eq_decide, List.mem_append, List.mem_singleton]
    constructor
    · exact Or.inl
    · rintro (h3 | h3)
      · exact h3
      · omega
theorem VSt.alloc (h : VSt B B2 w wr p q ev g E O) (o : Obj) : VSt B B2 w (wr.alloc o) p q ev g E O := by
  obtain ⟨v, h1, h2⟩ := h.st
  have hs := h.size
  have := h.p1; have := h.q1
  exact ⟨h.bel.alloc (by omega) o, by simp; omega, h.p1, h.q1, h.ne, h.edges.below ((Below.refl _ _).alloc (by omega) _), h.row.alloc o, v, by rw [Below.heap_alloc _ _ _ (by omega)]; exact h1, h2.alloc o⟩
theorem VSt.app (h : VSt B B2 w wr p q ev g E O) {w1 : World} {v' : Value} {O' : List Int} (hown : Own B2 w1 v' O') (hb : Below B2 wr w1) :
    VSt B B2 w (w1.setCell ⟨p, 2, none⟩ v') p q ev g E O' := by
  have := h.p1; have := h.q1
  obtain ⟨v, h1, h2⟩ := h.st
  have hp : w1.heap[p]? = some (.cells #[ev, .slice (some ⟨q, 0, none⟩) g.length g.length, v] 44 (0, 0)) := by rw [hb.block p h.p1.2]; exact h1
  refine ⟨(h.bel.trans (hb.mono (by omega))).setCell h.p1.1 _, by simpa [World.setCell] using Nat.le_trans h.size hb.size, h.p1, h.q1, h.ne, h.edges.below ((hb.mono (by omega)).setCell h.p1.1 _), ?_, v', three_setCell hp, ownsRow_setCell_below hown h.p1.2 _⟩
  exact (h.row.of_block (hb.block q h.q1.2)).setOther (fun e => h.ne e.symm) _
theorem VSt.mark_cell (h : VSt B B2 w wr p q ev g E O) {x : Int} (hx : 0 ≤ x ∧ x < g.length) : wr.cell? ⟨q, x.toNat, none⟩ = some (.bool (decide (x ∈ E))) := by
  rw [h.row.cell (i := x.toNat) (by omega), Int.toNat_of_nonneg hx.1]
end

theorem foldl_take_succ {g : List (List Int)} {f : Nat} {s : DS} {l : List Int} {j : Nat} (h : j < l.length) : (l.take (j + 1)).foldl (visitL g f) s = visitL g f ((l.take j).foldl (visitL g f) s) (nth l j) := by
  rw [take_succ_nth l j h, List.foldl_append]; rfl

/-- the states on the way are good -/
theorem fold_good {g : List (List Int)} (hg : RightG g) {f : Nat} : ∀ (l : List Int) (s : DS), (∀ x ∈ l, 0 ≤ x ∧ x < (g.length : Int)) → Good g.length s.1 → g.length < f + s.1.length →
    Good g.length (l.foldl (visitL g f) s).1 ∧ s.1.length ≤ (l.foldl (visitL g f) s).1.length := by
  intro l
  induction l with
  | nil => intro s _ h _; exact ⟨h, Nat.le_refl _⟩
  | cons x l ih =>
    intro s hl h hf
    obtain ⟨a1, a2⟩ := visitL_grow hg h (hl x List.mem_cons_self) hf
    obtain ⟨b1, b2⟩ := ih _ (fun y hy => hl y (List.mem_cons_of_mem _ hy)) a1 (by omega)
    exact ⟨b1, Nat.le_trans a2 b2⟩
/-- .. and what was told is no more than what was entered -/
theorem out_le {g : List (List Int)} (hg : RightG g) {f : Nat} {s : DS} {n : Int} (h : Good g.length s.1) (hn : 0 ≤ n ∧ n < g.length) (hf : g.length < f + s.1.length) (hle : s.2.length ≤ s.1.length) : (visitL g f s n).2.length ≤ (visitL g f s n).1.length := by
  refine (visit_ind hg (fun s _ s' => s.2.length ≤ s.1.length → s'.2.length ≤ s'.1.length ∧ s.1.length - s.2.length ≤ s'.1.length - s'.2.length) (fun s _ s' => s.2.length ≤ s.1.length → s'.2.length ≤ s'.1.length ∧ s.1.length - s.2.length ≤ s'.1.length - s'.2.length) ?_ ?_ ?_ ?_ f s n h hn hf).1 hle |>.1
  · intro s n _ _ _ h; exact ⟨h, Nat.le_refl _⟩
  · intro s n s1 _ _ _ hp h
    simp only [List.length_append, List.length_singleton] at hp ⊢
    have := hp (by omega); omega
  · intro s _ h; exact ⟨h, Nat.le_refl _⟩
  · intro s m l s1 s2 _ _ h1 _ h2 h
    have h3 := h1 h
    have h4 := h2 h3.1
    exact ⟨h4.1, by omega⟩

set_option maxHeartbeats 2000000 in
theorem visit_any (B B2 : Nat) (w : World) (p q : Nat) (ev : Value) (g : List (List Int)) (hg : RightG g) (hfew : edgesN g ≤ 5000) :
    ∀ (f : Nat) (w0 : World) (E O : List Int) (n : Int), VSt B B2 w w0 p q ev g E O → Good g.length E → 0 ≤ n → n < g.length → g.length < f + E.length → O.length ≤ E.length →
      Calls Try.prog 22 #[.pointer (some ⟨p, 0, none⟩), .int .i64 n] w0 fun e w' => e = .returned (.tuple #[]) ∧ VSt B B2 w w' p q ev g (visitL g f (E, O) n).1 (visitL g f (E, O) n).2 := by
  intro f
  induction f with
  | zero => intro w0 E O n _ h _ _ hf; have := h.len; omega
  | succ f ih =>
    intro w0 E O n h hgood hn0 hn1 hf hOE
    have IH := Lib.hid ih
    clear ih
    have H := Lib.hid h
    have Hgood := Lib.hid hgood
    have hgl := hg.size
    have hEl := hgood.len
    obtain ⟨v, hst, hown⟩ := h.st
    have cm := h.mark_cell ⟨hn0, hn1⟩
    have fm := h.row.frozen n.toNat
    obtain ⟨c0, c1, c2, f2⟩ := cells_of_three hst
    clear hst hown
    by_cases hmem : n ∈ E
    · have Hv : Hid (visitL g (f + 1) (E, O) n = (E, O)) := visitL_seen hmem
      go_enter Try.func22, Try.ntmps22
      clear h hgood
      go_wp2
      refine bodyPost_ret (results_none rfl _ _ _) rfl ?_
      exact ⟨rfl, by rw [Hv.out]; exact H.out⟩
    · have Hv : Hid _ := visitL_enter (g := g) (f := f) (s := (E, O)) (n := n) hmem
      have H2 : Hid (VSt B B2 w (w0.setCell ⟨q, n.toNat, none⟩ (.bool true)) p q ev g (E ++ [n]) O) := h.mark ⟨hn0, hn1⟩
      obtain ⟨ea, eb, eoff, ecap, rfl, hem, hea, hebl, hec⟩ := H2.out.edges
      obtain rfl := hea (by omega)
      obtain ⟨rv, ce, hrow⟩ := hec n.toNat (by omega)
      obtain ⟨ra, rb, roff, rcap, rfl, hrm, hra, hrb, hrc⟩ := hrow
      have hrl : (row g n.toNat).length ≤ 5000 := by have := row_le_edges g n.toNat (by omega); omega
      obtain ⟨v2, hst2, -⟩ := H2.out.st
      obtain ⟨d0, d1, -, -⟩ := cells_of_three hst2
      have Hrc := Lib.hid hrc
      have Hg2 := Lib.hid (hgood.snoc ⟨hn0, hn1⟩ hmem)
      clear h hgood hec hst2 hrc
      go_enter Try.func22, Try.ntmps22
      go_wp2
      go_loopg [27] (row g n.toNat).length (fun gk i wr => ∃ (j : Nat) (s : DS), i = .int .i64 j ∧ gk = (row g n.toNat).length - j ∧ j ≤ (row g n.toNat).length ∧
        s = ((rowI g n).take j).foldl (visitL g f) (E ++ [n], O) ∧ VSt B B2 w wr p q (.slice (some ⟨eb, eoff, none⟩) g.length ecap) g s.1 s.2 ∧ Good g.length s.1 ∧ E.length + 1 ≤ s.1.length ∧ s.2.length ≤ s.1.length)
      case atStart => exact ⟨0, (E ++ [n], O), rfl, rfl, Nat.zero_le _, by simp, H2.out, Hg2.out, by simp, by simp; omega⟩
      case round =>
        obtain ⟨j, s, rfl, hgk, hj, hs, hv, hgs, hsl, hso⟩ := hrel
        have Hgk := Lib.hid hgk
        have Hs := Lib.hid hs
        have Hv2 := Lib.hid hv
        have Hgs := Lib.hid hgs
        have hsn := hgs.len
        obtain ⟨v3, hst3, hown3⟩ := hv.st
        obtain ⟨e0, e1, e2, g2⟩ := cells_of_three hst3
        have Hown3 := Lib.hid hown3
        have Hst3 := Lib.hid hst3
        clear hgk hv hown3 hs hgs hst3
        by_cases hlt : j < (row g n.toNat).length
        · obtain rfl := hra (by omega)
          have gc : wr.cell? ⟨rb, roff + j, none⟩ = some (.int .i64 (nth (row g n.toNat) j)) := by
            have h1 := Hrc.out j hlt
            rw [H2.out.bel.cell (p := ⟨rb, roff + j, none⟩) (hrb (by omega))] at h1
            rw [Hv2.out.bel.cell (p := ⟨rb, roff + j, none⟩) (hrb (by omega))]; exact h1
          have hx := hg.row n.toNat _ (nth_mem _ j hlt)
          have Hx := Lib.hid hx
          obtain ⟨hx0, hx1⟩ := hx
          go_wp2_with (go_at_call 22; refine (IH.out _ _ _ _ Hv2.out Hgs.out hx0 hx1 (by omega) hso).mono ?_; rintro e w2 ⟨rfl, hv3⟩; have Hv3 := Lib.hid hv3; clear hv3)
          go_roundg ((row g n.toNat).length - (j + 1))
          case measure => rw [Hgk.out]; omega
          case rel =>
            have hgrow := visitL_grow hg (f := f) (s := s) Hgs.out Hx.out (by omega)
            exact ⟨j + 1, visitL g f s (nth (row g n.toNat) j), by go_num, rfl, by omega, by rw [Hs.out]; exact (foldl_take_succ (l := rowI g n) hlt).symm, Hv3.out, hgrow.1, Nat.le_trans hsl hgrow.2, out_le hg Hgs.out Hx.out (by omega) hso⟩
        · have Hend := Lib.hid (show visitL g (f + 1) (E, O) n = (s.1, s.2 ++ [n]) by
            have h1 := Hv.out
            have h2 : s = (rowI g n).foldl (visitL g f) (E ++ [n], O) := by have := Hs.out; rw [List.take_of_length_le (by unfold rowI; omega)] at this; exact this
            rw [h1, h2])
          go_wp2_with (at_builtin; refine wpList_append1 _ rfl (.tmp 39) (.tmp 41) rfl B2 _ s.2 _ rfl rfl (Hown3.out.alloc _) _ n rfl ?k1 ?k2 ?k3 ?_)
          case k1 => rw [World.cell?_alloc_at _ _ _ _ rfl]; rfl
          case k2 => omega
          case k3 => have := Hv2.out.size; simp; omega
          intro g1 c4 w1 hown1 _ hbel1 _
          have hpl := Hv2.out.p1
          have hps := Hv2.out.size
          have hp1 : w1.heap[p]? = some (.cells #[.slice (some ⟨eb, eoff, none⟩) g.length ecap, .slice (some ⟨q, 0, none⟩) g.length g.length, v3] 44 (0, 0)) := by
            rw [hbel1.block p hpl.2, Below.heap_alloc _ _ _ (by omega)]; exact Hst3.out
          obtain ⟨-, -, c2', f2'⟩ := cells_of_three hp1
          have Hfin := Lib.hid ((Hv2.out.alloc (.cells #[.int .i64 n] 3)).app hown1 hbel1)
          clear hown1 hbel1 hp1
          go_wp2
          go_end0
          exact ⟨rfl, by rw [Hend.out]; exact Hfin.out⟩

end Go.Proofs.Ytjnahiomnaedeaa
