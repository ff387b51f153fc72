/- Lemmas that the claim is proved from: what calls of functions of the program come to (contracts), and plain laws. Each lemma bears its own conditions. -/
import Derived.Test.YtjnahiomnaedeaaGW6
namespace Go.Proofs.Ytjnahiomnaedeaa
set_option linter.unusedVariables false
set_option linter.unusedSimpArgs false
open Go.RowKit

/-- rounds still to come -/
def meas (g : List (List Int)) (E : List Int) (fr : List (Nat × Nat)) : Nat := (g.length - E.length) * (edgesN g + 4) + (fr.map (fun x => (row g x.1).length + 1 - x.2)).sum

theorem row_len_le (g : List (List Int)) (i : Nat) : (row g i).length ≤ edgesN g := by
  by_cases h : i < g.length
  · have := row_le_edges g i h; omega
  · simp [row, List.getD, h]

theorem meas_left (g : List (List Int)) (E : List Int) (n j : Nat) (fr : List (Nat × Nat)) (h : j = (row g n).length) : meas g E fr < meas g E ((n, j) :: fr) := by
  simp only [meas, List.map_cons, List.sum_cons]; omega
theorem meas_seen (g : List (List Int)) (E : List Int) (n j : Nat) (fr : List (Nat × Nat)) (h : j < (row g n).length) : meas g E ((n, j + 1) :: fr) < meas g E ((n, j) :: fr) := by
  simp only [meas, List.map_cons, List.sum_cons]; omega
theorem meas_enter (g : List (List Int)) (E : List Int) (n j to : Nat) (fr : List (Nat × Nat)) (x : Int) (h : j < (row g n).length) (hE : E.length < g.length) : meas g (E ++ [x]) ((to, 0) :: (n, j + 1) :: fr) < meas g E ((n, j) :: fr) := by
  have h1 := row_len_le g to
  simp only [meas, List.map_cons, List.sum_cons, List.length_append, List.length_singleton]
  have h2 : (g.length - E.length) * (edgesN g + 4) = (g.length - (E.length + 1)) * (edgesN g + 4) + (edgesN g + 4) := by
    rw [show g.length - E.length = (g.length - (E.length + 1)) + 1 from by omega, Nat.add_mul, Nat.one_mul]
  omega

/-- frames that may be -/
def FrOk (g : List (List Int)) (fr : List (Nat × Nat)) : Prop := ∀ x ∈ fr, x.1 < g.length ∧ x.2 ≤ (row g x.1).length
def frI (fr : List (Nat × Nat)) : List (Int × Nat) := fr.map (fun x => ((x.1 : Int), x.2))

theorem fr_left {g : List (List Int)} {n j : Nat} {r : List (Nat × Nat)} {E out : List Int} (h : j = (row g n).length) : fin g (frI ((n, j) :: r)) (E, out) = fin g (frI r) (E, out ++ [(n : Int)]) :=
  fin_left (n := (n : Int)) (r := frI r) (s := (E, out)) (by simp only [rowI, Int.toNat_natCast]; omega)
theorem fr_seen {g : List (List Int)} {n j : Nat} {r : List (Nat × Nat)} {E out : List Int} (h : j < (row g n).length) (hm : nth (row g n) j ∈ E) : fin g (frI ((n, j) :: r)) (E, out) = fin g (frI ((n, j + 1) :: r)) (E, out) :=
  fin_seen (n := (n : Int)) (r := frI r) (s := (E, out)) (by simpa only [rowI, Int.toNat_natCast] using h) hm
theorem fr_enter {g : List (List Int)} (hg : RightG g) {n j to : Nat} {r : List (Nat × Nat)} {E out : List Int} (hE : Good g.length E) (h : j < (row g n).length) (hto : nth (row g n) j = (to : Int)) (hm : (to : Int) ∉ E) :
    fin g (frI ((n, j) :: r)) (E, out) = fin g (frI ((to, 0) :: (n, j + 1) :: r)) (E ++ [(to : Int)], out) := by
  have := fin_enter hg (n := (n : Int)) (r := frI r) (s := (E, out)) hE (by simpa only [rowI, Int.toNat_natCast] using h) (by show nth (row g n) j ∉ E; rw [hto]; exact hm)
  have e : nth (rowI g (n : Int)) j = (to : Int) := hto
  rw [e] at this
  exact this

theorem RP.start {B : Nat} {w w1 w2 : World} {r1 : Value} {E0 : List Int} {root : Nat} (h1 : Own B w1 r1 E0) (hb : Below B w w1) (hB : B ≤ w1.heap.size) {o : Obj}
    {g1 c1 : Nat} (hown : Own B w2 (.slice (some ⟨g1, 0, none⟩) (E0.length + 1) c1) (E0 ++ [(root : Int)]))
    (hg : (((w1.alloc (.cells #[.int .i64 root] 3)).alloc (.cells #[.int .i64 0] 3)).alloc o).grownBy w2 r1.ownBlock)
    (hb2 : Below B (((w1.alloc (.cells #[.int .i64 root] 3)).alloc (.cells #[.int .i64 0] 3)).alloc o) w2)
    (hat : r1.ownBlock = some g1 ∨ g1 = w1.heap.size + 1 + 1 + 1) :
    RP B w w2 (.slice none 0 0) (.slice (some ⟨g1, 0, none⟩) (E0.length + 1) c1) w1.heap.size 1 (w1.heap.size + 1) 1 [] (E0 ++ [(root : Int)]) [(root, 0)] := by
  have hr : ∀ k, r1.ownBlock = some k → k < w1.heap.size := fun k hk => (h1.lt k hk).2
  have ha : (((w1.alloc (.cells #[.int .i64 root] 3)).alloc (.cells #[.int .i64 0] 3)).alloc o).ownsRow B 3 1 (.slice (some ⟨w1.heap.size, 0, none⟩) 1 1) 1 [.int .i64 root] :=
    ((World.ownsRow_lit (size := 1) w1 #[.int .i64 root] 1 hB (by simp [maxLen]) rfl).alloc _).alloc _
  have hc : (((w1.alloc (.cells #[.int .i64 root] 3)).alloc (.cells #[.int .i64 0] 3)).alloc o).ownsRow B 3 1 (.slice (some ⟨w1.heap.size + 1, 0, none⟩) 1 1) 1 [.int .i64 0] := by
    have := World.ownsRow_lit (size := 1) (e := 3) (base := B) (w1.alloc (.cells #[.int .i64 root] 3)) #[.int .i64 0] 1 (by simp; omega) (by simp [maxLen]) rfl
    rw [show (w1.alloc (.cells #[.int .i64 root] 3)).heap.size = w1.heap.size + 1 from by simp] at this
    exact this.alloc _
  have hne : ∀ k, k < w1.heap.size + 2 → w1.heap.size ≤ k → r1.ownBlock ≠ some k ∧ g1 ≠ k := by
    intro k hk hk'
    refine ⟨fun e => by have := hr k e; omega, fun e => ?_⟩
    rcases hat with h2 | h2
    · have := hr g1 h2; omega
    · omega
  refine ⟨(((hb.alloc hB _).alloc (by simp; omega) _).alloc (by simp; omega) _).trans hb2, Nat.le_trans (by simp; omega) hb2.size, Own.nil B w2, hown, ?_, ?_, Apart.nil _, by simp [Value.ownBlock], by simp [Value.ownBlock], ?_, ?_, by omega⟩
  · exact ownsRow_far ha hg (hne _ (by omega) (by omega)).1
  · exact ownsRow_far hc hg (hne _ (by omega) (by omega)).1
  · simp only [Value.ownBlock, ne_eq, Option.some.injEq]; exact (hne _ (by omega) (by omega)).2
  · simp only [Value.ownBlock, ne_eq, Option.some.injEq]; exact (hne _ (by omega) (by omega)).2

set_option maxHeartbeats 2000000 in
set_option maxRecDepth 100000 in
theorem rpost_any (w : World) (ev dv : Value) (g : List (List Int)) (root : Int) (done : List Int) (he : IntRows w ev g) (hd : Ints w dv done) (hg : RightG g) (hdn : nodesB g.length done = true) (hr : 0 ≤ root ∧ root < g.length)
    (hl : done.length ≤ 5000) (hfew : edgesN g ≤ 5000) :
    Calls Try.prog 15 #[ev, .int .i64 root, dv] w fun e w' => ∃ r, e = .returned r ∧ Own w.heap.size w' r (postL g root done) ∧ Below w.heap.size w w' := by
  have Hd := Lib.hid hd.toB
  have Hdn := Lib.hid hdn
  obtain ⟨ea, eb, eoff, ecap, rfl, hem, hea, hebl, hec⟩ := he.toB
  obtain ⟨B, hB⟩ : ∃ B, B = w.heap.size := ⟨_, rfl⟩
  rw [← hB] at Hd hebl hec ⊢
  have hBle : B ≤ w.heap.size := by omega
  clear hB he hd hdn
  have hgl := hg.size
  obtain ⟨hr0, hr1⟩ := hr
  obtain rfl := hea (by omega)
  replace hebl := hebl (by omega)
  obtain ⟨R, rfl⟩ : ∃ R : Nat, root = R := ⟨root.toNat, by omega⟩
  by_cases hmem : (R : Int) ∈ onceL [] done
  · go_enter Try.func15, Try.ntmps15
    go_wp2_with (first
      | (go_at_call 23; refine (once_any B _ _ _ [] done (Own.nil B _) Hd.out hBle (by simp; omega)).mono ?_; rintro e w1 ⟨r, rfl, hown1, hbel1⟩; have Hown1 := Lib.hid hown1; clear hown1)
      | (go_at_call 17; refine (has_any _ _ (onceL [] done) _ Hown1.out.ints).mono ?_; rintro e w' ⟨rfl, rfl⟩))
    go_ret
    refine ⟨_, rfl, ?_, hbel1⟩
    have : (R : Int) ∈ done := by
      rcases mem_onceL.1 hmem with h | h
      · simp at h
      · exact h
    rw [postL_seen this]; exact Own.nil _ _
  · go_enter Try.func15, Try.ntmps15
    go_wp2_with (first
      | (go_at_call 23; refine (once_any B _ _ _ [] done (Own.nil B _) Hd.out hBle (by simp; omega)).mono ?_; rintro e w1 ⟨r, rfl, hown1, hbel1⟩; have Hown1 := Lib.hid hown1; clear hown1)
      | (go_at_call 17; refine (has_any _ _ (onceL [] done) _ Hown1.out.ints).mono ?_; rintro e w' ⟨rfl, rfl⟩)
      | (at_builtin; refine wpList_append1 _ rfl (.tmp 22) (.tmp 24) rfl B _ (onceL [] done) _ rfl rfl (((Hown1.out.alloc _).alloc _).alloc _) _ (R : Int) rfl ?c1 ?c2 ?c3 ?_))
    case c1 => rw [World.cell?_alloc_at _ _ _ _ (by simp)]; rfl
    case c2 => have := (good_roots Hdn.out).len; omega
    case c3 => have := hbel1.size; simp; omega
    intro g1 c1 w2 hown2 hgr2 hbel2 hat2
    have hrp := RP.start Hown1.out hbel1 (Nat.le_trans hBle hbel1.size) hown2 hgr2 hbel2 hat2
    have Hrp := Lib.hid hrp
    have HE := Lib.hid ((good_roots Hdn.out).snoc (y := (R : Int)) ⟨hr0, hr1⟩ hmem)
    have Hfin := Lib.hid (fin_start hg (s := (onceL [] done, [])) (good_roots Hdn.out) ⟨hr0, hr1⟩ hmem)
    clear hrp hown2 hgr2 hbel2 hat2 hbel1 hmem Hdn
    go_wp2
    go_loopg [7, 8, 9, 10] (meas g (onceL [] done ++ [(R : Int)]) [(R, 0)]) (fun gk vo ve va vg wr => ∃ (ga ca gc cc : Nat) (out E : List Int) (fr : List (Nat × Nat)),
      va = .slice (some ⟨ga, 0, none⟩) fr.length ca ∧ vg = .slice (some ⟨gc, 0, none⟩) fr.length cc ∧ gk = meas g E fr ∧ RP B w wr vo ve ga ca gc cc out E fr ∧ Good g.length E ∧ FrOk g fr ∧
      fin g (frI fr) (E, out) = V g (onceL [] done, []) (R : Int) ∧ out.length + fr.length ≤ E.length)
    case atStart => exact ⟨_, _, _, _, _, _, [(R, 0)], rfl, rfl, rfl, Hrp.out, HE.out, by intro x hx; simp at hx; subst hx; exact ⟨by omega, Nat.zero_le _⟩, Hfin.out.symm, by simp⟩
    case round =>
      clear Hrp HE Hfin
      obtain ⟨ga, ca, gc, cc, out, E, fr, rfl, rfl, hgk, hrp, hE, hfr, hfin, hlen⟩ := hrel
      have Hgk := Lib.hid hgk
      have Hrp := Lib.hid hrp
      have HE := Lib.hid hE
      have Hfin := Lib.hid hfin
      have hEl := hE.len
      clear hgk hrp hE hfin
      cases fr with
      | nil =>
        go_wp2
        go_ret
        refine ⟨_, rfl, ?_, Hrp.out.bel⟩
        have := congrArg Prod.snd Hfin.out
        simp only [frI, List.map_nil, fin] at this
        rw [postL, ← this]; exact Hrp.out.o
      | cons x r =>
        obtain ⟨n, j⟩ := x
        obtain ⟨hn, hj⟩ := hfr (n, j) (List.mem_cons_self)
        simp only at hn hj
        have Hfr : Hid (FrOk g r) := fun x hx => hfr x (List.mem_cons_of_mem _ hx)
        clear hfr
        have hcap := cap_of_own Hrp.out.a
        have hcap2 := cap_of_own Hrp.out.c
        simp only [List.length_cons] at hcap hcap2 hlen
        have ga1 := Hrp.out.a
        have gc1 := Hrp.out.c
        simp only [List.length_cons, List.map_cons, List.reverse_cons] at ga1 gc1
        have cat := last_cell ga1 (by simp)
        have cgo := last_cell gc1 (by simp)
        have fgo : wr.frozen? ⟨gc, r.length, none⟩ = false := World.ownsRow.frozenAt gc1 _
        clear ga1 gc1
        obtain ⟨rv, ce, hrow⟩ := hec n hn
        have ce' : wr.cell? ⟨eb, eoff + n, none⟩ = some rv := by rw [Hrp.out.bel.cell (p := ⟨eb, eoff + n, none⟩) hebl]; exact ce
        obtain ⟨ra, rb, roff, rcap, rfl, hrm, hra, hrb, hrc⟩ := hrow.below Hrp.out.bel
        clear ce hrow hec
        have hrle := row_len_le g n
        by_cases hq : j = (row g n).length
        · have hqz : ((j : Int) == ((row g n).length : Int)) = true := by rw [hq]; simp
          go_wp2_with fail
          go_quiet (fail)
          go_wp2_with (at_builtin; refine wpList_append1 _ rfl (.tmp 46) (.tmp 48) rfl B _ out _ rfl rfl ((Hrp.out.drewN _).o.alloc _) _ (n : Int) rfl ?d1 ?d2 ?d3 ?_)
          case d1 => rw [World.cell?_alloc_at _ _ _ _ (by simp)]; rfl
          case d2 => omega
          case d3 => have := Hrp.out.size; simp; omega
          intro g3 c3 w3 hown3 hgr3 hbel3 hat3
          have Hrp3 := Lib.hid (RP.left ((Hrp.out.drewN _).alloc _) hown3 hgr3 hbel3 hat3 (by simp))
          clear hown3 hgr3 hbel3 hat3
          go_wp2_with fail
          go_quiet (fail)
          go_wp2_with fail
          go_roundg (meas g E r)
          case measure => rw [Hgk.out]; exact meas_left g E n j r hq
          case rel =>
            refine ⟨ga, ca, gc, cc, out ++ [(n : Int)], E, r, rfl, rfl, rfl, Hrp3.out.drewN _, HE.out, Hfr.out, ?_, by simp; omega⟩
            rw [← Hfin.out, fr_left hq]
        · have hjl : j < (row g n).length := by omega
          have hqz : ((j : Int) == ((row g n).length : Int)) = false := by rw [beq_eq_false_iff_ne]; omega
          obtain rfl := hra (by omega)
          have cto := hrc j hjl
          have htok := hg.row n _ (nth_mem (row g n) j hjl)
          have Htok := Lib.hid htok
          have Hgo : Hid (∀ m, RP B w ((wr.drewN m).setCell ⟨gc, r.length, none⟩ (.int .i64 ((j : Int) + 1))) u7 u8 ga ca gc cc out E ((n, j + 1) :: r)) := fun m => (Hrp.out.drewN m).gone (j + 1) _ (by omega)
          have Hfr1 : Hid (FrOk g ((n, j + 1) :: r)) := by
            intro x hx
            rcases List.mem_cons.1 hx with rfl | h1
            · exact ⟨hn, hjl⟩
            · exact Hfr.out x h1
          clear hq Hrp
          by_cases hmem2 : nth (row g n) j ∈ E
          · go_wp2_with fail
            go_quiet (fail)
            go_wp2_with fail
            go_quiet (fail)
            go_wp2_with (go_at_call 17; refine (has_any _ _ E _ (Hgo.out _).e.ints).mono ?_; rintro e w' ⟨rfl, rfl⟩)
            go_roundg (meas g E ((n, j + 1) :: r))
            case measure => rw [Hgk.out]; exact meas_seen g E n j r hjl
            case rel => exact ⟨ga, ca, gc, cc, out, E, (n, j + 1) :: r, rfl, rfl, rfl, Hgo.out _, HE.out, Hfr1.out, by rw [← Hfin.out, fr_seen hjl hmem2], by simp; omega⟩
          · obtain ⟨T, hT⟩ : ∃ T : Nat, nth (row g n) j = (T : Int) := ⟨(nth (row g n) j).toNat, by omega⟩
            have HT := Lib.hid hT
            clear hT
            go_wp2_with fail
            go_quiet (fail)
            go_wp2_with fail
            go_quiet (fail)
            go_wp2_with (first
              | (go_at_call 17; refine (has_any _ _ E _ (Hgo.out _).e.ints).mono ?_; rintro e w' ⟨rfl, rfl⟩)
              | (at_builtin; refine wpList_append1 _ rfl (.tmp 76) (.tmp 78) rfl B _ E _ rfl rfl ((Hgo.out _).e.alloc _) _ (nth (row g n) j) rfl ?e1 ?e2 ?e3 ?_))
            case e1 => rw [World.cell?_alloc_at _ _ _ _ (by simp [World.setCell])]; rfl
            case e2 => omega
            case e3 => have := (Hgo.out 0).size; simp [World.setCell] at this ⊢; omega
            intro g3 c3 w3 hown3 hgr3 hbel3 hat3
            have Hrp3 := Lib.hid (RP.enter ((Hgo.out _).alloc _) hown3 hgr3 hbel3 hat3 (by simp [World.setCell]))
            clear hown3 hgr3 hbel3 hat3 Hgo
            go_wp2_with (at_builtin; refine wpList_append1 _ rfl (.tmp 80) (.tmp 82) rfl B _ (((((n, j + 1) :: r) : List (Nat × Nat)).map (fun x => ((x.1 : Nat) : Int))).reverse) (r.length + 1) (by simp) rfl ((own_of_a (fun x => x.1) Hrp3.out.a).alloc _) _ (nth (row g n) j) rfl ?f1 ?f2 ?f3 ?_)
            case f1 => rw [World.cell?_alloc_at _ _ _ _ rfl]; rfl
            case f2 => simp; omega
            case f3 => have := Hrp3.out.size; simp; omega
            intro g4 c4 w4 hown4 hgr4 hbel4 hat4
            have Hown4 := Lib.hid hown4
            have Hgr4 := Lib.hid hgr4
            have Hbel4 := Lib.hid hbel4
            have Hat4 := Lib.hid hat4
            clear hown4 hgr4 hbel4 hat4
            go_wp2_with (at_builtin; refine wpList_append1 _ rfl (.tmp 84) (.tmp 85) rfl B _ (((((n, j + 1) :: r) : List (Nat × Nat)).map (fun x => ((x.2 : Nat) : Int))).reverse) (r.length + 1) (by simp) rfl ?own _ 0 rfl ?k1 ?k2 ?k3 ?_)
            case own => exact (own_of_a (fun x => x.2) (ownsRow_far (Hrp3.out.c.alloc _) Hgr4.out (fun e => Hrp3.out.ac (by simpa [Value.ownBlock] using e)))).alloc _
            case k1 => rw [World.cell?_alloc_at _ _ _ _ rfl]; rfl
            case k2 => simp; omega
            case k3 => have := Hrp3.out.size; have := Hbel4.out.size; simp at this ⊢; omega
            intro g5 c5 w5 hown5 hgr5 hbel5 hat5
            have Hrp5 := Lib.hid (RP.push (to := T) (Hrp3.out.alloc _) (by have h := Hown4.out; rw [HT.out] at h; simpa using h) Hgr4.out Hbel4.out Hat4.out (by simp) (by simpa using hown5) hgr5 hbel5 hat5 (by simp))
            clear hown5 hgr5 hbel5 hat5 Hown4 Hgr4 Hbel4 Hat4 Hrp3
            go_wp2
            go_roundg (meas g (E ++ [nth (row g n) j]) ((T, 0) :: (n, j + 1) :: r))
            case measure => rw [Hgk.out]; exact meas_enter g E n j T r _ hjl (by have := (HE.out.snoc htok hmem2).len; simp at this; omega)
            case rel =>
              refine ⟨g4, c4, g5, c5, out, E ++ [nth (row g n) j], (T, 0) :: (n, j + 1) :: r, rfl, rfl, rfl, Hrp5.out, HE.out.snoc htok hmem2, ?_, ?_, by simp; omega⟩
              · intro x hx
                rcases List.mem_cons.1 hx with rfl | h1
                · exact ⟨by have := htok.2; rw [HT.out] at this; simp only; omega, Nat.zero_le _⟩
                · exact Hfr1.out x h1
              · rw [← Hfin.out, HT.out]
                exact (fr_enter hg HE.out hjl HT.out (by rw [← HT.out]; exact hmem2)).symm

end Go.Proofs.Ytjnahiomnaedeaa
