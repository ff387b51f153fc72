/- Lemmas that the claim is proved from: what calls of functions of the program come to (contracts), and plain laws. Each lemma bears its own conditions. -/
import Derived.Test.YtjnahiomnaedeaaGW4
namespace Go.Proofs.Ytjnahiomnaedeaa
set_option linter.unusedVariables false
set_option linter.unusedSimpArgs false
open Go.RowKit

theorem info_bool : (Try.prog.info? 4).map (fun i => (i.zero, i.size, i.bytes)) = some (some (.bool false), 1, 1) := by kernel_rfl

/-- what Breadth keeps: sv, ov: its two variables; q: the row of marks -/
structure BSt (B B2 : Nat) (w wr : World) (sv ov q n : Nat) (E O : List Int) : Prop where
  bel : Below B w wr
  size : B2 ≤ wr.heap.size
  sv1 : B ≤ sv ∧ sv < B2
  ov1 : B ≤ ov ∧ ov < B2
  q1 : B ≤ q ∧ q < B2
  ne1 : sv ≠ ov
  ne2 : sv ≠ q
  ne3 : ov ≠ q
  seen : wr.heap[sv]? = some (.cells #[.slice (some ⟨q, 0, none⟩) n n] 36 (0, 0))
  row : wr.rowIs q 4 n (fun i => .bool (decide ((i : Int) ∈ E)))
  out : ∃ v, wr.heap[ov]? = some (.cells #[v] 23 (0, 0)) ∧ Own B2 wr v O

section
variable {B B2 : Nat} {w wr : World} {sv ov q n : Nat} {E O : List Int}
theorem BSt.alloc (h : BSt B B2 w wr sv ov q n E O) (o : Obj) : BSt B B2 w (wr.alloc o) sv ov q n E O := by
  obtain ⟨v, h1, h2⟩ := h.out
  have hs := h.size
  have := h.sv1; have := h.ov1; have := h.q1
  exact ⟨h.bel.alloc (by omega) o, by simp; omega, h.sv1, h.ov1, h.q1, h.ne1, h.ne2, h.ne3, by rw [Below.heap_alloc _ _ _ (by omega)]; exact h.seen, h.row.alloc o, v, by rw [Below.heap_alloc _ _ _ (by omega)]; exact h1, h2.alloc o⟩
theorem BSt.mark (h : BSt B B2 w wr sv ov q n E O) {x : Int} (hx : 0 ≤ x ∧ x < n) : BSt B B2 w (wr.setCell ⟨q, x.toNat, none⟩ (.bool true)) sv ov q n (E ++ [x]) O := by
  obtain ⟨v, h1, h2⟩ := h.out
  refine ⟨h.bel.setCell h.q1.1 _, by simpa [World.setCell] using h.size, h.sv1, h.ov1, h.q1, h.ne1, h.ne2, h.ne3, by rw [Below.heap_setCell _ _ _ _ h.ne2]; exact h.seen, (h.row.set x.toNat _).congr ?_, v, by rw [Below.heap_setCell _ _ _ _ h.ne3]; exact h1, ownsRow_setCell_below h2 h.q1.2 _⟩
  intro i _
  by_cases e : i = x.toNat
  · subst e
    rw [if_pos rfl, eq_comm]; congr 1; rw [decide_eq_true_eq, List.mem_append]; right; simp; omega
  · rw [if_neg e]; congr 1
    rw [decide_eq_decide, List.mem_append, List.mem_singleton]
    constructor
    · exact Or.inl
    · rintro (h3 | h3)
      · exact h3
      · omega
theorem BSt.app (h : BSt B B2 w wr sv ov q n E O) {w1 : World} {v : Value} (hv : wr.heap[ov]? = some (.cells #[v] 23 (0, 0))) {v' : Value} {O' : List Int} (hown : Own B2 w1 v' O') (hb : Below B2 wr w1) :
    BSt B B2 w (w1.setCell ⟨ov, 0, none⟩ v') sv ov q n E O' := by
  have := h.sv1; have := h.ov1; have := h.q1
  have hov : w1.heap[ov]? = some (.cells #[v] 23 (0, 0)) := by rw [hb.block ov h.ov1.2]; exact hv
  refine ⟨(h.bel.trans (hb.mono (by omega))).setCell h.ov1.1 _, by simpa [World.setCell] using Nat.le_trans h.size hb.size, h.sv1, h.ov1, h.q1, h.ne1, h.ne2, h.ne3, ?_, ?_, v', one_setCell hov, ownsRow_setCell_below hown h.ov1.2 _⟩
  · rw [Below.heap_setCell _ _ _ _ h.ne1, hb.block sv h.sv1.2]; exact h.seen
  · exact (h.row.of_block (hb.block q h.q1.2)).setOther (fun e => h.ne3 e.symm) _
theorem BSt.mark_cell (h : BSt B B2 w wr sv ov q n E O) {x : Int} (hx : 0 ≤ x ∧ x < n) : wr.cell? ⟨q, x.toNat, none⟩ = some (.bool (decide (x ∈ E))) := by
  rw [h.row.cell (i := x.toNat) (by omega), Int.toNat_of_nonneg hx.1]
end

set_option maxHeartbeats 1000000 in
theorem put_any (B B2 : Nat) (w w0 : World) (sv ov q n : Nat) (u : Value) (E l : List Int) (h : BSt B B2 w w0 sv ov q n E E) (hu : IntsB B w0 u l) (hl : ∀ x ∈ l, 0 ≤ x ∧ x < (n : Int)) (hn : n ≤ 256) (hlen : E.length + l.length ≤ 1000000) :
    Calls Try.prog 24 #[u, .pointer (some ⟨sv, 0, none⟩), .pointer (some ⟨ov, 0, none⟩)] w0 fun e w' => e = .returned (.tuple #[]) ∧ BSt B B2 w w' sv ov q n (onceL E l) (onceL E l) ∧ Below B w0 w' := by
  have H := Lib.hid h
  obtain ⟨a, b, off, cap, rfl, hm, ha, hb, hc⟩ := hu
  have Hl := Lib.hid hl
  clear h hl
  go_enter Try.func24, Try.ntmps24
  go_wp2
  go_loopw [8] (fun i wr => ∃ (k : Nat) (zs : List Int), k ≤ l.length ∧ i = .int .i64 k ∧ BSt B B2 w wr sv ov q n zs zs ∧ zs = onceL E (l.take k) ∧ Below B w0 wr) (fun i _ => l.length - (intOf i).toNat)
  case atStart => exact ⟨0, E, Nat.zero_le _, rfl, H.out, by simp [onceL], Below.refl _ _⟩
  case round =>
    obtain ⟨k, zs, hk, rfl, h1, hz, hbel⟩ := hrel
    have Hz := Lib.hid hz
    have hzl : zs.length ≤ 1000000 := by have h2 := onceL_len (l.take k) E; rw [← hz] at h2; have := List.length_take_le k l; omega
    have Hbel := Lib.hid hbel
    clear hz hbel
    by_cases hlt : k < l.length
    · obtain rfl := ha (by omega)
      have gc : wr.cell? ⟨b, off + k, none⟩ = some (.int .i64 (nth l k)) := by rw [Hbel.out.cell (p := ⟨b, off + k, none⟩) (hb (by omega))]; exact hc k hlt
      have hx := Hl.out _ (nth_mem l k hlt)
      have Hx := Lib.hid hx
      obtain ⟨hx0, hx1⟩ := hx
      have Hs := Lib.hid (onceL_snoc E l k hlt)
      obtain ⟨v, hv, hown⟩ := h1.out
      have c1 := cell_of_one h1.seen
      have c2 := h1.mark_cell ⟨hx0, hx1⟩
      have f2 := h1.row.frozen (nth l k).toNat
      have c3 : (wr.setCell ⟨q, (nth l k).toNat, none⟩ (.bool true)).cell? ⟨ov, 0, none⟩ = some v := by
        rw [World.cell?_setCell_other _ _ _ _ (fun e => h1.ne3 (by have := congrArg Addr.block e; simpa using this.symm))]; exact cell_of_one hv
      have Hown := Lib.hid hown
      have Hv := Lib.hid hv
      have H1 := Lib.hid h1
      clear hc h1 hown hv
      by_cases hmem : nth l k ∈ zs
      · go_wp2
        go_roundw
        case rel => exact ⟨k + 1, zs, by omega, by go_num, H1.out, by rw [Hs.out, ← Hz.out, addL, if_pos hmem], Hbel.out⟩
        case measure => simp [intOf]; omega
      · have Hmem := Lib.hid hmem
        go_wp2_with (at_builtin; refine wpList_append1 _ rfl (.tmp 20) (.tmp 22) rfl B2 _ zs _ rfl rfl (Own.alloc (ownsRow_setCell_below Hown.out H1.out.q1.2 _) _) _ (nth l k) rfl ?c1 ?c2 ?c3 ?_)
        case c2 => omega
        case c3 => have := H1.out.size; simp [World.setCell]; omega
        intro g1 c4 w1 hown1 hgr1 hbel1 _
        have HW := (H1.out.mark Hx.out).alloc (.cells #[.int .i64 (nth l k)] 3)
        have hvW : ((wr.setCell ⟨q, (nth l k).toNat, none⟩ (.bool true)).alloc (.cells #[.int .i64 (nth l k)] 3)).heap[ov]? = some (.cells #[v] 23 (0, 0)) := by
          have := H1.out.size; have := H1.out.ov1
          rw [Below.heap_alloc _ _ _ (by simp [World.setCell]; omega), Below.heap_setCell _ _ _ _ H1.out.ne3]; exact Hv.out
        have Hw2 := Lib.hid (HW.app hvW hown1 hbel1)
        have hv1 : w1.heap[ov]? = some (.cells #[v] 23 (0, 0)) := by rw [hbel1.block ov H1.out.ov1.2]; exact hvW
        have c5 := cell_of_one hv1
        have f5 := free_of_one hv1
        have Hb2 : Hid (Below B w0 (w1.setCell ⟨ov, 0, none⟩ (.slice (some ⟨g1, 0, none⟩) (zs.length + 1) c4))) := by
          have := H1.out.q1; have := H1.out.ov1; have := H1.out.size
          exact (((((Hbel.out.setCell H1.out.q1.1 _).alloc (by simp [World.setCell]; omega) _).trans (hbel1.mono (by omega))).setCell H1.out.ov1.1 _))
        clear hown1 hgr1 hbel1 HW hvW hv1
        go_wp2
        go_roundw
        case rel => exact ⟨k + 1, zs ++ [nth l k], by omega, by go_num, Hw2.out, by rw [Hs.out, ← Hz.out, addL, if_neg Hmem.out], Hb2.out⟩
        case measure => simp [intOf]; omega
    · go_wp2
      go_end0
      refine ⟨rfl, ?_, Hbel.out⟩
      have := Hz.out; rw [List.take_of_length_le (by omega)] at this; rw [← this]; exact h1

end Go.Proofs.Ytjnahiomnaedeaa
