/- Lemmas that the claim is proved from: what calls of functions of the program come to (contracts), and plain laws. Each lemma bears its own conditions. -/
import Derived.Test.YtjnahiomnaedeaaGW10
import Derived.Test.YtjnahiomnaedeaaGW8
import Derived.Laws.AppendOwnNone
namespace Go.Proofs.Ytjnahiomnaedeaa
set_option linter.unusedVariables false
set_option linter.unusedSimpArgs false
open Go.RowKit

/-- a slice without an address is nil -/
def NilOk (v : Value) : Prop := ∀ n c, v = .slice none n c → n = 0 ∧ c = 0

/-- append of ints to a slice that the call has made -/
theorem wpList_appendN (w : World) {ops : Array Oper} {rest : List Oper} {o : Oper} {a : Act} {Q : Exit → Act → World → Prop} (hgd : o.guard = none) (s x : Operand)
    (ho : o.op = .call { callee := .builtin .append, args := #[s, x], argTypes := #[23, 23] })
    (B : Nat) (v : Value) (xs : List Int) (hs : a.eval s = v) (hown : Own B w v xs) (u : Value) (ys : List Int) (hx : a.eval x = u) (hu : Ints w u ys) (hnil : NilOk u)
    (hlen : xs.length + ys.length ≤ 1099511627776) (hB : B ≤ w.heap.size)
    (h : ∀ v' w', Own B w' v' (xs ++ ys) → w.grownBy w' v.ownBlock → Below B w w' → wpList Try.prog ops Q rest (a.put o.dst v') w') : wpList Try.prog ops Q (o :: rest) a w := by
  obtain ⟨i0, hi, hz0, hz1, hz2⟩ := info_parts info_int
  have hlt := World.ownsRow.lt hown
  obtain ⟨ao, b, off, cap, rfl, hm, ha, hc⟩ := hu
  cases ao with
  | none =>
    obtain ⟨h0, rfl⟩ := hnil _ _ rfl
    obtain rfl : ys = [] := List.eq_nil_of_length_eq_zero h0
    refine wpList_append_own_none hgd s x 23 ho B 3 i0 1 Try.underlying23 hi v xs.length (xs.map (Value.int .i64)) hs hown hx ?_
    exact h v w (by simpa using hown) (World.grownBy.refl _ _) (Below.refl _ _)
  | some ad =>
    refine wpList_append_own w hgd s x 23 ho B 3 i0 (.int .i64 0) 1 8 Try.underlying23 hi hz0 hz1 hz2 rfl (by decide) v xs.length (xs.map (Value.int .i64)) hs hown ad ys.length cap (ys.map (Value.int .i64)) hx (by simp) ?_ ?_ ?_ ?_ hB ?_
    · intro j u hj
      have hjl : j < ys.length := by have := (List.getElem?_eq_some_iff.1 hj).1; simpa using this
      have := ha (by omega)
      simp only [Option.some.injEq] at this
      subst this
      have h1 := hc j hjl
      rw [Addr.add_lit, h1]
      rw [← hj]; simp [nth, List.getD, hjl]
    · exact ints_oneCell .i64 ys
    · unfold maxLen; omega
    · omega
    · intro v' w' h1 h2 _
      refine h v' w' ?_ h2 ((Below.refl B w).grown h2 hB fun k hk => (hlt k hk).1)
      simpa [Own] using h1

theorem VSt.congrE {B B2 : Nat} {w wr : World} {p q : Nat} {ev : Value} {g : List (List Int)} {E E' O : List Int} (h : VSt B B2 w wr p q ev g E O) (he : ∀ x, x ∈ E ↔ x ∈ E') : VSt B B2 w wr p q ev g E' O :=
  ⟨h.bel, h.size, h.p1, h.q1, h.ne, h.edges, h.row.congr (fun i _ => by rw [decide_eq_decide.2 (he i)]), h.st⟩
theorem Own.lower {B B' : Nat} {w : World} {v : Value} {xs : List Int} (h : Own B w v xs) (hB : B' ≤ B) : Own B' w v xs := by
  obtain ⟨h1, h2⟩ := h
  refine ⟨h1, h2.imp id ?_⟩
  rintro ⟨g, cap, cur, a, b, c⟩
  exact ⟨g, cap, cur, a, Nat.le_trans hB b, c⟩

theorem own_lit1 {B : Nat} {w : World} (hB : B ≤ w.heap.size) (x : Int) : Own B (w.alloc (.cells #[.int .i64 x] 3)) (.slice (some ⟨w.heap.size, 0, none⟩) 1 1) [x] :=
  World.ownsRow_lit (size := 1) w #[.int .i64 x] 1 hB (by simp [maxLen]) rfl

set_option maxHeartbeats 1000000 in
theorem post_no (w : World) (ev u : Value) (g : List (List Int)) (root : Int) (done : List Int) (he : IntRows w ev g) (hu : Ints w u done) (hnil : NilOk u) (hm : mayB g (root :: done) = false) (hl : done.length ≤ 5000) :
    Calls Try.prog 11 #[ev, .int .i64 root, u] w fun e w' => e = .returned (.tuple #[.slice none 0 0, .int .i64 130]) ∧ Below w.heap.size w w' := by
  have He := Lib.hid he
  have Hu := Lib.hid hu
  have Hnil := Lib.hid hnil
  clear he hu hnil
  go_enter Try.func11, Try.ntmps11
  go_wp2_with (at_builtin; refine wpList_appendN _ rfl (.tmp 13) (.tmp 14) rfl w.heap.size _ [root] rfl (own_lit1 (Nat.le_refl _) root) u done rfl (Hu.out.below ((Below.refl _ _).alloc (Nat.le_refl _) _)) Hnil.out (by simp; omega) (by simp) ?_)
  intro v1 w1 hown1 _ hbel1
  have Hown1 := Lib.hid hown1
  have Hbel1 : Hid (Below w.heap.size w w1) := ((Below.refl w.heap.size w).alloc (Nat.le_refl _) _).trans hbel1
  clear hown1 hbel1
  go_wp2_with (go_at_call 21; refine (may_any _ _ _ g (root :: done) (He.out.below Hbel1.out) Hown1.out.ints).mono ?_; rintro e w' ⟨rfl, rfl⟩)
  go_ret2
  exact ⟨rfl, Hbel1.out⟩

set_option maxHeartbeats 1000000 in
theorem post_yes (w : World) (ev u : Value) (g : List (List Int)) (root : Int) (done : List Int) (he : IntRows w ev g) (hu : Ints w u done) (hnil : NilOk u) (hm : mayB g (root :: done) = true) (hl : done.length ≤ 5000) (hfew : edgesN g ≤ 5000) :
    Calls Try.prog 11 #[ev, .int .i64 root, u] w fun e w' => ∃ r, e = .returned (.tuple #[r, .int .i64 0]) ∧ Own w.heap.size w' r (postL g root done) ∧ Below w.heap.size w w' := by
  have hg : RightG g := rightB_iff.1 (by simp only [mayB, Bool.and_eq_true] at hm; exact hm.2)
  have hr : nodesB g.length (root :: done) = true := by simp only [mayB, Bool.and_eq_true] at hm; exact hm.1
  have hr2 := nodesB_iff.1 hr
  have Hroot := Lib.hid (hr2 root List.mem_cons_self)
  have Hdone := Lib.hid (fun x hx => hr2 x (List.mem_cons_of_mem _ hx) : ∀ x ∈ done, 0 ≤ x ∧ x < (g.length : Int))
  have hgl := hg.size
  have Hu2 := Lib.hid hu.toB
  have Hev := Lib.hid he.toB
  obtain ⟨a, b, off, cap, rfl, hum, ha, hb, hc⟩ := hu.toB
  obtain ⟨ea, eb, eoff, ecap, rfl, hem, -, -⟩ := he
  have hmk := run_make_row' (P := Try.prog) 36 4 (.bool false) 1 Try.underlying36 info_bool rfl .i64 .i64 g.length (by omega) (by omega)
  have Hnil := Lib.hid hnil
  have Hc := Lib.hid hc
  clear hu hnil hr hr2 hc
  go_enter Try.func11, Try.ntmps11
  go_wp2_with (at_builtin; refine wpList_appendN _ rfl (.tmp 13) (.tmp 14) rfl w.heap.size _ [root] rfl (own_lit1 (Nat.le_refl _) root) _ done rfl (Hu2.out.ints.below ((Below.refl _ _).alloc (Nat.le_refl _) _)) Hnil.out (by simp; omega) (by simp) ?_)
  intro v1 w1 hown1 _ hbel1
  have Hown1 := Lib.hid hown1
  have hbel : Below w.heap.size w w1 := ((Below.refl w.heap.size w).alloc (Nat.le_refl _) _).trans hbel1
  have Hbel1 := Lib.hid hbel
  have hbs := hbel.size
  clear hown1 hbel1 hbel
  go_wp2_with (go_at_call 21; refine (may_any _ _ _ g (root :: done) (Hev.out.rows.below Hbel1.out) Hown1.out.ints).mono ?_; rintro e w' ⟨rfl, rfl⟩)
  have hV0 : Hid (VSt w.heap.size (w1.heap.size + 2) w ((w1.alloc (.cells (madeCells #[.bool false] g.length) 4)).alloc (.cells #[.slice ea g.length ecap, .slice (some ⟨w1.heap.size, 0, none⟩) g.length g.length, .slice none 0 0] 44))
      (w1.heap.size + 1) w1.heap.size (.slice ea g.length ecap) g [] []) := by
    have hb2 : Below w.heap.size w ((w1.alloc (.cells (madeCells #[.bool false] g.length) 4)).alloc (.cells #[.slice ea g.length ecap, .slice (some ⟨w1.heap.size, 0, none⟩) g.length g.length, .slice none 0 0] 44)) :=
      (Hbel1.out.alloc hbs _).alloc (by simp; omega) _
    refine ⟨hb2, by simp, by omega, by omega, by omega, Hev.out.below hb2, ((World.rowIs_made w1 (.bool false) g.length 4).alloc _).congr (fun i _ => by simp), .slice none 0 0, ?_, Own.nil _ _⟩
    have := heap_alloc_new (w1.alloc (.cells (madeCells #[.bool false] g.length) 4)) (.cells #[.slice ea g.length ecap, .slice (some ⟨w1.heap.size, 0, none⟩) g.length g.length, .slice none 0 0] 44)
    simpa using this
  clear hmk
  go_loopw [26] (fun i wr => ∃ k : Nat, i = .int .i64 k ∧ k ≤ done.length ∧ VSt w.heap.size (w1.heap.size + 2) w wr (w1.heap.size + 1) w1.heap.size (.slice ea g.length ecap) g (done.take k) []) (fun i _ => done.length - (intOf i).toNat)
  case atStart => exact ⟨0, rfl, Nat.zero_le _, by simpa using hV0.out⟩
  case round =>
    obtain ⟨k, rfl, hk, hv⟩ := hrel
    have Hv := Lib.hid hv
    by_cases hlt : k < done.length
    · obtain rfl := ha (by omega)
      have gc : wr.cell? ⟨b, off + k, none⟩ = some (.int .i64 (nth done k)) := by rw [hv.bel.cell (p := ⟨b, off + k, none⟩) (hb (by omega))]; exact Hc.out k hlt
      have hx := Hdone.out _ (nth_mem done k hlt)
      have Hx := Lib.hid hx
      obtain ⟨hx0, hx1⟩ := hx
      obtain ⟨v3, hst3, -⟩ := hv.st
      obtain ⟨-, c1, -, -⟩ := cells_of_three hst3
      have c2 := hv.mark_cell ⟨hx0, hx1⟩
      have f2 := hv.row.frozen (nth done k).toNat
      have Hs := Lib.hid (take_succ_nth done k hlt)
      clear hv hst3
      go_wp2
      go_roundw
      case rel => exact ⟨k + 1, by go_num, by omega, by rw [Hs.out]; exact Hv.out.mark Hx.out⟩
      case measure => simp [intOf]; omega
    · have hv2 : VSt w.heap.size (w1.heap.size + 2) w wr (w1.heap.size + 1) w1.heap.size (.slice ea g.length ecap) g (onceL [] done) [] := by
        rw [List.take_of_length_le (by omega)] at hv
        exact hv.congrE (fun x => by rw [mem_onceL]; simp)
      have Hv2 := Lib.hid hv2
      have Hgr := Lib.hid ((Good.nil g.length).once Hdone.out)
      clear hv hv2
      go_wp2_with (go_at_call 22; refine (visit_any _ _ _ _ _ _ g hg hfew (g.length + 1) _ _ _ _ Hv2.out Hgr.out Hroot.out.1 Hroot.out.2 (by omega) (by simp)).mono ?_; rintro e w2 ⟨rfl, hv3⟩; obtain ⟨v3, hst3, hown3⟩ := hv3.st; obtain ⟨-, -, c2, -⟩ := cells_of_three hst3; have Hv3 := Lib.hid hv3; have Hown3 := Lib.hid hown3; clear hv3 hst3 hown3)
      go_ret2
      exact ⟨_, rfl, Own.lower Hown3.out (by omega), Hv3.out.bel⟩

end Go.Proofs.Ytjnahiomnaedeaa
