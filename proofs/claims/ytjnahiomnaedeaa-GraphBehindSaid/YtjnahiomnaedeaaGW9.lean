/- Lemmas that the claim is proved from: what calls of functions of the program come to (contracts), and plain laws. Each lemma bears its own conditions. -/
import Derived.Test.YtjnahiomnaedeaaGW8
import Derived.Deep.LoopGhost
import Derived.WalkSpells
namespace Go.Proofs.Ytjnahiomnaedeaa
set_option linter.unusedVariables false
set_option linter.unusedSimpArgs false
open Go.RowKit

def mayE (b : Bool) : Int := if b then 0 else 130

set_option maxHeartbeats 1000000 in
theorem breadth_no (w : World) (ev u : Value) (g : List (List Int)) (roots : List Int) (he : IntRows w ev g) (hu : Ints w u roots) (hm : mayB g roots = false) :
    Calls Try.prog 16 #[ev, u] w fun e w' => e = .returned (.tuple #[.slice none 0 0, .int .i64 130]) ∧ w = w' := by
  go_enter Try.func16, Try.ntmps16
  have He := Lib.hid he
  have Hu := Lib.hid hu
  clear he hu
  go_wp2_with (go_at_call 21; refine (may_any _ _ _ g roots He.out Hu.out).mono ?_; rintro e w' ⟨rfl, rfl⟩)
  go_ret2
  exact ⟨rfl, rfl⟩

set_option maxHeartbeats 1000000 in
theorem breadth_yes (w : World) (ev u : Value) (g : List (List Int)) (roots : List Int) (he : IntRows w ev g) (hu : Ints w u roots) (hm : mayB g roots = true) (hl : roots.length ≤ 5000) (hfew : edgesN g ≤ 5000) :
    Calls Try.prog 16 #[ev, u] w fun e w' => ∃ r, e = .returned (.tuple #[r, .int .i64 0]) ∧ Own (w.heap.size + 3) w' r (breadthL g roots) ∧ Below w.heap.size w w' := by
  have hg : RightG g := rightB_iff.1 (by simp only [mayB, Bool.and_eq_true] at hm; exact hm.2)
  have hr : nodesB g.length roots = true := by simp only [mayB, Bool.and_eq_true] at hm; exact hm.1
  have He := Lib.hid he
  have Hu := Lib.hid hu
  have Hr := Lib.hid hr
  have hgl := hg.size
  obtain ⟨ea, eb, eoff, ecap, rfl, hem, hea, hebl, hec⟩ := he.toB
  have hmf : ∀ (fn : Fn) (first cap : Array Value) (w : World), (Instr.makeFunc fn first cap).run Try.prog w = .ok (.func fn first cap) w := fun _ _ _ _ => rfl
  have hmk := run_make_row' (P := Try.prog) 36 4 (.bool false) 1 Try.underlying36 info_bool rfl .i64 .i64 g.length (by omega) (by omega)
  clear he hu hr
  go_enter Try.func16, Try.ntmps16
  go_wp2_with (go_at_call 21; refine (may_any _ _ _ g roots He.out Hu.out).mono ?_; rintro e w' ⟨rfl, rfl⟩)
  have hB0 : BSt w.heap.size (w.heap.size + 3) w (((w.alloc (.cells (madeCells #[.bool false] g.length) 4)).alloc (.cells #[.slice (some ⟨w.heap.size, 0, none⟩) g.length g.length] 36)).alloc (.cells #[.slice none 0 0] 23))
      (w.heap.size + 1) (w.heap.size + 1 + 1) w.heap.size g.length [] [] := by
    refine ⟨(((Below.refl _ _).alloc (Nat.le_refl _) _).alloc (by simp) _).alloc (by simp; omega) _, by simp, by omega, by omega, by omega, by omega, by omega, by omega, ?_, ?_, .slice none 0 0, ?_, Own.nil _ _⟩
    · rw [Below.heap_alloc _ _ _ (by simp)]
      have := heap_alloc_new (w.alloc (.cells (madeCells #[.bool false] g.length) 4)) (.cells #[.slice (some ⟨w.heap.size, 0, none⟩) g.length g.length] 36)
      simpa using this
    · exact (((World.rowIs_made w (.bool false) g.length 4).alloc _).alloc _).congr (fun i _ => by simp)
    · have := heap_alloc_new ((w.alloc (.cells (madeCells #[.bool false] g.length) 4)).alloc (.cells #[.slice (some ⟨w.heap.size, 0, none⟩) g.length g.length] 36)) (.cells #[.slice none 0 0] 23)
      simpa using this
  have HB0 := Lib.hid hB0
  clear hB0
  refine (put_any w.heap.size (w.heap.size + 3) w _ _ _ _ g.length u [] roots HB0.out (Hu.out.toB.below HB0.out.bel) (nodesB_iff.1 Hr.out) hgl (by simp; omega)).mono ?_
  rintro e w1 ⟨rfl, h1, -⟩
  have H1 := Lib.hid h1
  clear h1 HB0 hmk hmf
  go_wp2_with fail
  go_loopw [9] (fun i wr => ∃ (k : Nat) (zs : List Int), i = .int .i64 k ∧ BSt w.heap.size (w.heap.size + 3) w wr (w.heap.size + 1) (w.heap.size + 1 + 1) w.heap.size g.length zs zs ∧ Good g.length zs ∧ k ≤ zs.length ∧ bfsL g (g.length + 1 - k) zs k = breadthL g roots)
    (fun i _ => g.length + 1 - (intOf i).toNat)
  case atStart => exact ⟨0, _, rfl, H1.out, good_roots Hr.out, Nat.zero_le _, rfl⟩
  case round =>
    obtain ⟨k, zs, rfl, hst, hgood, hk, hb⟩ := hrel
    have Hst := Lib.hid hst
    have Hgood := Lib.hid hgood
    have Hb := Lib.hid hb
    have hzl := hgood.len
    obtain ⟨v, hv, hown⟩ := hst.out
    have Hown := Lib.hid hown
    obtain ⟨a, b, off, cap, rfl, hm', ha, hc⟩ := hown.ints
    have c1 := cell_of_one hv
    clear hst hgood hb hown H1 hv
    by_cases hlt : k < zs.length
    · obtain rfl := ha (by omega)
      have gc := hc k hlt
      have hn := Hgood.out.ok _ (nth_mem zs k hlt)
      obtain ⟨hn0, hn1⟩ := hn
      obtain rfl := hea (by omega)
      have hlN : (nth zs k).toNat < g.length := by omega
      obtain ⟨rv, gr, hrow⟩ := hec _ hlN
      have grr : wr.cell? ⟨eb, eoff + (nth zs k).toNat, none⟩ = some rv := by rw [Hst.out.bel.cell (p := ⟨eb, eoff + (nth zs k).toNat, none⟩) (hebl (by omega))]; exact gr
      have Hrow : Hid (IntsB w.heap.size wr rv (rowI g (nth zs k))) := hrow.below Hst.out.bel
      have hrl : (rowI g (nth zs k)).length ≤ 5000 := by have := row_le_edges g _ hlN; unfold rowI; omega
      clear hc hec gr hrow
      go_wp2_with fail
      refine (put_any w.heap.size (w.heap.size + 3) w _ _ _ _ g.length _ zs (rowI g (nth zs k)) Hst.out Hrow.out (hg.rowI _) hgl (by omega)).mono ?_
      rintro e w2 ⟨rfl, h2, -⟩
      have H2 := Lib.hid h2
      clear h2
      go_wp2_with fail
      go_roundw
      case rel =>
        refine ⟨k + 1, _, by go_num, H2.out, Hgood.out.once (hg.rowI _), ?_, ?_⟩
        · obtain ⟨t, ht⟩ := prefix_onceL (rowI g (nth zs k)) zs
          rw [ht, List.length_append]; omega
        · have := Hb.out
          rw [show g.length + 1 - k = (g.length + 1 - (k + 1)) + 1 from by omega, bfsL_step hlt] at this
          exact this
      case measure => simp [intOf]; omega
    · go_wp2
      go_ret2
      refine ⟨_, rfl, ?_, Hst.out.bel⟩
      rw [← Hb.out, bfsL_end hlt]; exact Hown.out

/-- a slice of bools that the call has made -/
def OwnB (B : Nat) (w : World) (v : Value) (n : Nat) (f : Nat → Bool) : Prop := ∃ q, v = .slice (some ⟨q, 0, none⟩) n n ∧ B ≤ q ∧ w.rowIs q 4 n (fun i => .bool (f i))

structure BelowQ (w w1 wr : World) (n : Nat) (L : List Int) (k : Nat) : Prop where
  bel : Below w.heap.size w wr
  old : ∀ k, k < w1.heap.size → wr.heap[k]? = w1.heap[k]?
  row : wr.rowIs w1.heap.size 4 n (fun i => .bool (decide ((i : Int) ∈ L.take k)))
theorem BelowQ.set {w w1 wr : World} {n : Nat} {L : List Int} {k : Nat} (h : BelowQ w w1 wr n L k) (hs : w.heap.size ≤ w1.heap.size) {x : Int} (ht : L.take (k + 1) = L.take k ++ [x]) (hx : 0 ≤ x ∧ x < n) :
    BelowQ w w1 (wr.setCell ⟨w1.heap.size, x.toNat, none⟩ (.bool true)) n L (k + 1) := by
  refine ⟨h.bel.setCell hs _, fun j hj => by rw [Below.heap_setCell _ _ _ _ (by simp only; omega)]; exact h.old j hj, (h.row.set x.toNat _).congr ?_⟩
  intro i _
  rw [ht]
  by_cases e : i = x.toNat
  · subst e
    rw [if_pos rfl, eq_comm]; congr 1; rw [decide_eq_true_eq, List.mem_append]; right; simp; omega
  · rw [if_neg e]; congr 1
    rw [decide_eq_decide, List.mem_append, List.mem_singleton]
    constructor
    · exact Or.inl
    · rintro (h3 | h3)
      · exact h3
      · omega

set_option maxHeartbeats 1000000 in
theorem reach_no (w : World) (ev u : Value) (g : List (List Int)) (roots : List Int) (he : IntRows w ev g) (hu : Ints w u roots) (hm : mayB g roots = false) :
    Calls Try.prog 18 #[ev, u] w fun e w' => e = .returned (.tuple #[.slice none 0 0, .int .i64 130]) ∧ w = w' := by
  have He := Lib.hid he
  have Hu := Lib.hid hu
  clear he hu
  go_enter Try.func18, Try.ntmps18
  go_wp2_with (go_at_call 16; refine (breadth_no _ _ _ g roots He.out Hu.out hm).mono ?_; rintro e w' ⟨rfl, rfl⟩)
  go_ret2
  exact ⟨rfl, rfl⟩

set_option maxHeartbeats 1000000 in
theorem reach_yes (w : World) (ev u : Value) (g : List (List Int)) (roots : List Int) (he : IntRows w ev g) (hu : Ints w u roots) (hm : mayB g roots = true) (hl : roots.length ≤ 5000) (hfew : edgesN g ≤ 5000) :
    Calls Try.prog 18 #[ev, u] w fun e w' => ∃ r, e = .returned (.tuple #[r, .int .i64 0]) ∧ OwnB w.heap.size w' r g.length (fun i => decide ((i : Int) ∈ breadthL g roots)) ∧ Below w.heap.size w w' := by
  have hg : RightG g := rightB_iff.1 (by simp only [mayB, Bool.and_eq_true] at hm; exact hm.2)
  have hr : nodesB g.length roots = true := by simp only [mayB, Bool.and_eq_true] at hm; exact hm.1
  have hgd := breadthL_good hg hr
  have hby := breadth_yes w ev u g roots he hu hm hl hfew
  obtain ⟨L, hL⟩ : ∃ L, L = breadthL g roots := ⟨_, rfl⟩
  rw [← hL] at hgd hby ⊢
  have hLl := hgd.len
  have Hgood := Lib.hid hgd
  have Hby := Lib.hid hby
  have hgl := hg.size
  obtain ⟨ea, eb, eoff, ecap, rfl, hem, -, -⟩ := he
  have hmk := run_make_row' (P := Try.prog) 36 4 (.bool false) 1 Try.underlying36 info_bool rfl .i64 .i64 g.length (by omega) (by omega)
  clear hu hr hm hL hgd hby
  go_enter Try.func18, Try.ntmps18
  go_wp2_with (go_at_call 16; refine (Hby.out).mono ?_; rintro e w1 ⟨r, rfl, hown, hbel⟩; obtain ⟨a, b, off, cap, rfl, hm', ha, hc⟩ := hown.ints; have Hown := Lib.hid hown; clear hown)
  have hbs := hbel.size
  have Hstart : Hid (BelowQ w w1 (w1.alloc (.cells (madeCells #[.bool false] g.length) 4)) g.length L 0) := by
    refine ⟨hbel.alloc hbel.size _, fun k hk => Below.heap_alloc _ _ _ hk, (World.rowIs_made w1 (.bool false) g.length 4).congr (fun i _ => by simp)⟩
  clear hmk
  go_loopw [25] (fun i wr => ∃ k : Nat, i = .int .i64 k ∧ k ≤ L.length ∧ BelowQ w w1 wr g.length L k) (fun i _ => L.length - (intOf i).toNat)
  case atStart => exact ⟨0, rfl, Nat.zero_le _, Hstart.out⟩
  case round =>
    obtain ⟨k, rfl, hk, hq⟩ := hrel
    have Hq := Lib.hid hq
    clear hq
    by_cases hlt : k < L.length
    · obtain rfl := ha (by omega)
      have gc : wr.cell? ⟨b, off + k, none⟩ = some (.int .i64 (nth L k)) := by
        rw [World.cell?_of_block (w := w1) (a := ⟨b, off + k, none⟩) (Hq.out.old b (World.block_lt_of_cell? _ _ (hc k hlt)))]; exact hc k hlt
      have hx := Hgood.out.ok _ (nth_mem L k hlt)
      have Hx := Lib.hid hx
      obtain ⟨hx0, hx1⟩ := hx
      have c2 := Hq.out.row.cell (i := (nth L k).toNat) (by omega)
      have f2 := Hq.out.row.frozen (nth L k).toNat
      have Hs := Lib.hid (take_succ_nth L k hlt)
      clear hc
      go_wp2
      go_roundw
      case rel => exact ⟨k + 1, by go_num, by omega, Hq.out.set hbs (by rw [Hs.out]) Hx.out⟩
      case measure => simp [intOf]; omega
    · go_wp2
      go_ret2
      refine ⟨_, rfl, ⟨_, rfl, hbs, Hq.out.row.congr (fun i _ => ?_)⟩, Hq.out.bel⟩
      rw [List.take_of_length_le (by omega)]

end Go.Proofs.Ytjnahiomnaedeaa
