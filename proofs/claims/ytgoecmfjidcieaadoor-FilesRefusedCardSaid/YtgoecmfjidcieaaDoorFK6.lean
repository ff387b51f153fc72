/- Rename, Kind, Names -/
import Derived.Test.YtgoecmfjidcieaaDoorFK5
namespace Go.Proofs.YtgoecmfjidcieaaDoor
set_option linter.unusedVariables false
set_option linter.unusedSimpArgs false
open Go.RowKit

set_option maxHeartbeats 8000000 in
set_option maxRecDepth 100000 in
theorem rename_any (m : Int) (w : World) (s b : Nat) (st : StL) (fr to_ : List UInt8) (hm : w.cell? ⟨0, 0, none⟩ = some (.int .i64 m)) (hM : SM s b w st) (hok : OkA st) :
    Calls Tryd.prog 45 #[.pointer (some ⟨s, 0, none⟩), .string ⟨fr.toArray⟩, .string ⟨to_.toArray⟩] w fun e w' => e = .returned (.int .i64 (renameL st fr to_).1) ∧ SM s b w' (renameL st fr to_).2 ∧ w.grownBy w' (some b) := by
  have HP := Lib.hid (place_any m w s b st fr hm hM hok.st)
  have h0lt : 0 < w.heap.size := World.block_lt_of_cell? _ _ hm
  have HR0 : Hid (∀ w', Below w.heap.size w w' → _) := Lib.hid (fun w' hb => place_any m w' s b st to_ ((hb.cell (p := ⟨0, 0, none⟩) h0lt).trans hm) (hM.below hb) hok.st)
  have hpl := placeL_len st fr
  have hpl2 := placeL_len st to_
  have hc := hok.st.count
  have HM := Lib.hid hM
  clear hm hM hok
  unfold renameL
  generalize placeL st fr = R at *
  obtain ⟨p, n, e⟩ := R
  generalize placeL st to_ = R2 at *
  obtain ⟨q, k, f⟩ := R2
  simp only at hpl hpl2 ⊢
  have HP2 : Hid (Calls Tryd.prog 38 #[.pointer (some ⟨s, 0, none⟩), .string ⟨fr.toArray⟩] w fun e' w' => e' = .returned (.tuple #[.string ⟨p.toArray⟩, .agg #[.int .i64 n.kind, .int .i64 n.id, .string ⟨n.bytes.toArray⟩, .string ⟨n.dest.toArray⟩], .int .i64 e]) ∧ Below w.heap.size w w') := HP
  have HR : Hid (∀ wx, Below w.heap.size w wx → Calls Tryd.prog 38 #[.pointer (some ⟨s, 0, none⟩), .string ⟨to_.toArray⟩] wx fun e' w' => e' = .returned (.tuple #[.string ⟨q.toArray⟩, .agg #[.int .i64 k.kind, .int .i64 k.id, .string ⟨k.bytes.toArray⟩, .string ⟨k.dest.toArray⟩], .int .i64 f]) ∧ Below wx.heap.size wx w') := HR0
  clear HP HR0
  by_cases he : e ≠ 0
  · have heb : (e != 0) = true := by simp [he]
    rw [if_pos he]
    clear he
    go_enter Tryd.func45, Tryd.ntmps45
    go_wp2_with fail
    refine HP2.out.mono ?_
    rintro e' w2 ⟨rfl, hb⟩
    have HS := Lib.hid ((HM.out.below hb).alloc (.cells #[.int .i64 n.kind, .int .i64 n.id, .string ⟨n.bytes.toArray⟩, .string ⟨n.dest.toArray⟩] 58))
    have HG := Lib.hid (grown_none (b := b) (grown_of_below (hb.alloc hb.size (.cells #[.int .i64 n.kind, .int .i64 n.id, .string ⟨n.bytes.toArray⟩, .string ⟨n.dest.toArray⟩] 58))))
    clear hb
    go_wp2
    go_ret
    exact ⟨rfl, HS.out, HG.out⟩
  · have heb : (e != 0) = false := by simpa using he
    rw [if_neg he]
    clear he
    by_cases hk : n.kind = 0
    · have hkb : (n.kind == 0) = true := by simp [hk]
      rw [if_pos hk]
      clear hk
      go_enter Tryd.func45, Tryd.ntmps45
      go_wp2_with fail
      refine HP2.out.mono ?_
      rintro e' w2 ⟨rfl, hb⟩
      have HS := Lib.hid ((HM.out.below hb).alloc (.cells #[.int .i64 n.kind, .int .i64 n.id, .string ⟨n.bytes.toArray⟩, .string ⟨n.dest.toArray⟩] 58))
      have HG := Lib.hid (grown_none (b := b) (grown_of_below (hb.alloc hb.size (.cells #[.int .i64 n.kind, .int .i64 n.id, .string ⟨n.bytes.toArray⟩, .string ⟨n.dest.toArray⟩] 58))))
      clear hb
      go_wp2
      go_ret
      exact ⟨rfl, HS.out, HG.out⟩
    · have hkb : (n.kind == 0) = false := by simp [hk]
      rw [if_neg hk]
      clear hk
      by_cases hf : f ≠ 0
      · have hfb : (f != 0) = true := by simp [hf]
        rw [if_pos hf]
        clear hf
        go_enter Tryd.func45, Tryd.ntmps45
        go_wp2_with fail
        refine HP2.out.mono ?_
        rintro e' w2 ⟨rfl, hb⟩
        have hba := hb.alloc hb.size (.cells #[.int .i64 n.kind, .int .i64 n.id, .string ⟨n.bytes.toArray⟩, .string ⟨n.dest.toArray⟩] 58)
        have HX := Lib.hid (HR.out _ hba)
        have HB := Lib.hid hba
        clear hb hba
        go_wp2_with fail
        refine HX.out.mono ?_
        rintro e' w3 ⟨rfl, hb⟩
        have hbt := (HB.out.trans (hb.mono HB.out.size)).alloc (by have := hb.size; have := HB.out.size; omega) (.cells #[.int .i64 k.kind, .int .i64 k.id, .string ⟨k.bytes.toArray⟩, .string ⟨k.dest.toArray⟩] 58)
        have HS := Lib.hid (HM.out.below hbt)
        have HG := Lib.hid (grown_none (b := b) (grown_of_below hbt))
        clear hb hbt
        go_wp2
        go_ret
        exact ⟨rfl, HS.out, HG.out⟩
      · have hfb : (f != 0) = false := by simpa using hf
        rw [if_neg hf]
        clear hf
        by_cases hd : n.kind = 2 ∨ k.kind = 2
        · rw [if_pos hd]
          have hdb : (n.kind == 2) = true ∨ ((n.kind == 2) = false ∧ (k.kind == 2) = true) := by
            by_cases h : n.kind = 2
            · left; simp [h]
            · right; exact ⟨by simp [h], by rcases hd with h' | h'; exact absurd h' h; simp [h']⟩
          clear hd
          rcases hdb with hdb | ⟨hdb, hdb2⟩
          all_goals
            go_enter Tryd.func45, Tryd.ntmps45
            go_wp2_with fail
            refine HP2.out.mono ?_
            rintro e' w2 ⟨rfl, hb⟩
            have hN1 := heap_alloc_new w2 (.cells #[.int .i64 n.kind, .int .i64 n.id, .string ⟨n.bytes.toArray⟩, .string ⟨n.dest.toArray⟩] 58)
            have hba := hb.alloc hb.size (.cells #[.int .i64 n.kind, .int .i64 n.id, .string ⟨n.bytes.toArray⟩, .string ⟨n.dest.toArray⟩] 58)
            have HX := Lib.hid (HR.out _ hba)
            have HB := Lib.hid hba
            have HN1 := Lib.hid hN1
            clear hb hba hN1
            go_wp2_with fail
            refine HX.out.mono ?_
            rintro e' w3 ⟨rfl, hb⟩
            have hbs := hb.size
            have hN3 : (w3.alloc (.cells #[.int .i64 k.kind, .int .i64 k.id, .string ⟨k.bytes.toArray⟩, .string ⟨k.dest.toArray⟩] 58)).heap[w2.heap.size]? = _ := (heap_alloc_old _ _ (h := by simp at hbs; omega)).trans ((hb.block w2.heap.size (by simp)).trans HN1.out)
            have hbt := (HB.out.trans (hb.mono HB.out.size)).alloc (by have := hb.size; have := HB.out.size; omega) (.cells #[.int .i64 k.kind, .int .i64 k.id, .string ⟨k.bytes.toArray⟩, .string ⟨k.dest.toArray⟩] 58)
            have HS := Lib.hid (HM.out.below hbt)
            have HG := Lib.hid (grown_none (b := b) (grown_of_below hbt))
            have g0 : (w3.alloc (.cells #[.int .i64 k.kind, .int .i64 k.id, .string ⟨k.bytes.toArray⟩, .string ⟨k.dest.toArray⟩] 58)).cell? ⟨w2.heap.size, 0, none⟩ = some (.int .i64 n.kind) := by rw [Lib.cell_of_heap hN3]; rfl
            clear hb hbt hN3 hbs
            go_wp2
            go_ret
            exact ⟨rfl, HS.out, HG.out⟩
        · rw [if_neg hd]
          have hdb : (n.kind == 2) = false := by simp; exact fun h => hd (Or.inl h)
          have hdb2 : (k.kind == 2) = false := by simp; exact fun h => hd (Or.inr h)
          clear hd
          go_enter Tryd.func45, Tryd.ntmps45
          go_wp2_with fail
          refine HP2.out.mono ?_
          rintro e' w2 ⟨rfl, hb⟩
          have hN1 := heap_alloc_new w2 (.cells #[.int .i64 n.kind, .int .i64 n.id, .string ⟨n.bytes.toArray⟩, .string ⟨n.dest.toArray⟩] 58)
          have hba := hb.alloc hb.size (.cells #[.int .i64 n.kind, .int .i64 n.id, .string ⟨n.bytes.toArray⟩, .string ⟨n.dest.toArray⟩] 58)
          have HX := Lib.hid (HR.out _ hba)
          have HB := Lib.hid hba
          have HN1 := Lib.hid hN1
          have hw2 := hb.size
          clear hb hba hN1
          go_wp2_with fail
          refine HX.out.mono ?_
          rintro e' w3 ⟨rfl, hb⟩
          have hbs := hb.size
          have hN3 : (w3.alloc (.cells #[.int .i64 k.kind, .int .i64 k.id, .string ⟨k.bytes.toArray⟩, .string ⟨k.dest.toArray⟩] 58)).heap[w2.heap.size]? = _ := (heap_alloc_old _ _ (h := by simp at hbs; omega)).trans ((hb.block w2.heap.size (by simp)).trans HN1.out)
          have hbt := (HB.out.trans (hb.mono HB.out.size)).alloc (by have := hb.size; have := HB.out.size; omega) (.cells #[.int .i64 k.kind, .int .i64 k.id, .string ⟨k.bytes.toArray⟩, .string ⟨k.dest.toArray⟩] 58)
          have HS := Lib.hid (HM.out.below hbt)
          have HG := Lib.hid (grown_of_below hbt)
          have HN3 := Lib.hid hN3
          have g0 : (w3.alloc (.cells #[.int .i64 k.kind, .int .i64 k.id, .string ⟨k.bytes.toArray⟩, .string ⟨k.dest.toArray⟩] 58)).cell? ⟨w2.heap.size, 0, none⟩ = some (.int .i64 n.kind) := by rw [Lib.cell_of_heap hN3]; rfl
          have s0 := HS.out.cell0
          obtain ⟨w4, hrun, hM4, hg4⟩ := HS.out.delM p (by omega) 0
          have HM4 := Lib.hid hM4
          have HG4 := Lib.hid (grown_trans HG.out hg4)
          have hN4 : w4.heap[w2.heap.size]? = _ := (hg4.block w2.heap.size (by simp at hbs ⊢; omega) (fun e => by have h1 := HM.out.blt; have h2 := Option.some.inj e; omega)).trans HN3.out
          have HN4 := Lib.hid hN4
          clear hb hbt hN3 hbs hM4 hg4 hN4
          go_upto_region 12 with fail
          clear g0 s0 hrun
          have s0 := HM4.out.cell0
          have c0 : w4.cell? ⟨w2.heap.size, 0, none⟩ = some (.int .i64 n.kind) := by rw [Lib.cell_of_heap HN4.out]; rfl
          have c1 : w4.cell? ⟨w2.heap.size, 1, none⟩ = some (.int .i64 n.id) := by rw [Lib.cell_of_heap HN4.out]; rfl
          have c2 : w4.cell? ⟨w2.heap.size, 2, none⟩ = some (.string ⟨n.bytes.toArray⟩) := by rw [Lib.cell_of_heap HN4.out]; rfl
          have c3 : w4.cell? ⟨w2.heap.size, 3, none⟩ = some (.string ⟨n.dest.toArray⟩) := by rw [Lib.cell_of_heap HN4.out]; rfl
          obtain ⟨w5, hrun, hM5, hg5⟩ := SM.putM (w := w4.drew) HM4.out.drew (by simp only [StL.del]; split <;> omega) q n (by omega)
          have HM5 := Lib.hid hM5
          have HG5 := Lib.hid (show w.grownBy w5 (some b) from ⟨hg5.os.trans HG4.out.os, hg5.tape.trans HG4.out.tape, hg5.output.trans HG4.out.output, Nat.le_trans HG4.out.size hg5.size, fun i hi hne => (hg5.block i (Nat.lt_of_lt_of_le hi HG4.out.size) hne).trans (HG4.out.block i hi hne)⟩)
          clear hM5 hg5
          go_still_tail 6, (by kernel_rfl)
          change wpList _ _ _ _ _ w4.drew
          go_wp2
          go_ret
          exact ⟨rfl, HM5.out, HG5.out⟩

set_option maxHeartbeats 4000000 in
set_option maxRecDepth 100000 in
theorem kind_any (m : Int) (w : World) (s b : Nat) (st : StL) (path : List UInt8) (hm : w.cell? ⟨0, 0, none⟩ = some (.int .i64 m)) (hM : SM s b w st) (hok : OkA st) :
    Calls Tryd.prog 21 #[.pointer (some ⟨s, 0, none⟩), .string ⟨path.toArray⟩] w fun e w' => e = .returned (.int .i64 (kindL st path)) ∧ Below w.heap.size w w' := by
  have h0lt : 0 < w.heap.size := World.block_lt_of_cell? _ _ hm
  have HR0 : Hid (∀ w', Below w.heap.size w w' → _) := Lib.hid (fun w' hb => place_any m w' s b st path ((hb.cell (p := ⟨0, 0, none⟩) h0lt).trans hm) (hM.below hb) hok.st)
  have HC := Lib.hid (clean_any m w path hm)
  clear hm hM hok
  unfold kindL
  generalize placeL st path = R at *
  obtain ⟨p, n, e⟩ := R
  generalize cleanL path = C at *
  obtain ⟨c, f⟩ := C
  simp only at HC ⊢
  have HR : Hid (∀ wx, Below w.heap.size w wx → Calls Tryd.prog 38 #[.pointer (some ⟨s, 0, none⟩), .string ⟨path.toArray⟩] wx fun e' w' => e' = .returned (.tuple #[.string ⟨p.toArray⟩, .agg #[.int .i64 n.kind, .int .i64 n.id, .string ⟨n.bytes.toArray⟩, .string ⟨n.dest.toArray⟩], .int .i64 e]) ∧ Below wx.heap.size wx w') := HR0
  clear HR0
  by_cases hq : f = 0 ∧ c = [47]
  · obtain ⟨rfl, rfl⟩ := hq
    rw [if_pos ⟨rfl, rfl⟩]
    go_enter Tryd.func21, Tryd.ntmps21
    go_wp2_with fail
    refine HC.out.mono ?_
    rintro e' w2 ⟨rfl, hb⟩
    have Hb := Lib.hid hb
    clear hb
    go_wp2
    go_ret
    exact ⟨rfl, Hb.out⟩
  · rw [if_neg hq]
    have hcase : (f == 0) = false ∨ ((f == 0) = true ∧ (c == [47]) = false) := by
      by_cases h : f = 0
      · right; exact ⟨by simp [h], by simp; exact fun h' => hq ⟨h, h'⟩⟩
      · left; simp [h]
    clear hq
    rcases hcase with hf | ⟨hf, hf2⟩
    all_goals
      go_enter Tryd.func21, Tryd.ntmps21
      go_wp2_with fail
      refine HC.out.mono ?_
      rintro e' w2 ⟨rfl, hb⟩
      have HX := Lib.hid (HR.out _ hb)
      have Hb := Lib.hid hb
      clear hb
      go_wp2_with fail
      refine HX.out.mono ?_
      rintro e' w3 ⟨rfl, hb⟩
      have Hb3 := Lib.hid ((Hb.out.trans (hb.mono Hb.out.size)).alloc (by have := hb.size; have := Hb.out.size; omega) (.cells #[.int .i64 n.kind, .int .i64 n.id, .string ⟨n.bytes.toArray⟩, .string ⟨n.dest.toArray⟩] 58))
      clear hb
      go_wp2
      go_ret
      exact ⟨rfl, Hb3.out⟩

set_option maxHeartbeats 4000000 in
set_option maxRecDepth 100000 in
theorem names_any (m : Int) (w : World) (s b : Nat) (st : StL) (path : List UInt8) (hm : w.cell? ⟨0, 0, none⟩ = some (.int .i64 m)) (hM : SM s b w st) (hok : OkA st) :
    Calls Tryd.prog 24 #[.pointer (some ⟨s, 0, none⟩), .string ⟨path.toArray⟩] w fun e w' => ∃ v l, e = .returned (.tuple #[v, .int .i64 (namesE st path)]) ∧ OwnS w.heap.size w' v l ∧ NamesIs st path l ∧ l.length ≤ 501 ∧ Below w.heap.size w w' := by
  have HR := Lib.hid (real_any m w s b st path hm hM hok.st)
  have hrl := realL_len st path
  have HM := Lib.hid hM
  have HU0 : Hid (∀ w' p, SM s b w' st → _) := Lib.hid (fun w' p hs => funder_any w' s b st p hs hok)
  clear hm hM hok
  unfold NamesIs namesE
  generalize realL st path = R at *
  obtain ⟨p, e⟩ := R
  simp only at hrl HR ⊢
  obtain ⟨o, ho⟩ : ∃ o, o = st.get p := ⟨_, rfl⟩
  have HL : Hid (∀ w', SM s b w' st → (Instr.lookup 64 (.map (some b)) (.string ⟨p.toArray⟩) false).run Tryd.prog w' = .ok (.agg #[.int .i64 o.kind, .int .i64 o.id, .string ⟨o.bytes.toArray⟩, .string ⟨o.dest.toArray⟩]) w') := Lib.hid (fun w' hs => by rw [ho]; exact hs.look1 p (by omega))
  rw [← ho]
  clear ho
  by_cases he : e ≠ 0
  · have heb : (e != 0) = true := by simp [he]
    rw [if_pos he]
    simp only [if_neg he]
    clear he
    go_enter Tryd.func24, Tryd.ntmps24
    go_wp2_with fail
    refine HR.out.mono ?_
    rintro e' w2 ⟨rfl, hb⟩
    have Hb := Lib.hid hb
    clear hb
    go_wp2
    go_ret2
    exact ⟨_, [], rfl, OwnS.nil _ _, rfl, by simp, Hb.out⟩
  · have heb : (e != 0) = false := by simpa using he
    rw [if_neg he]
    clear he
    by_cases hd : o.kind ≠ 2
    · have hdb : (o.kind != 2) = true := by simp [hd]
      rw [if_pos hd]
      simp only [show ((34 : Int) = 0) = False by decide, if_false]
      clear hd
      go_enter Tryd.func24, Tryd.ntmps24
      go_wp2_with fail
      refine HR.out.mono ?_
      rintro e' w2 ⟨rfl, hb⟩
      have HS := Lib.hid (HM.out.below hb)
      have s0 := HS.out.cell0
      have hlk := HL.out _ HS.out
      have hfd := field0 o.kind o.id ⟨o.bytes.toArray⟩ ⟨o.dest.toArray⟩ w2
      have Hb := Lib.hid hb
      clear hb
      go_wp2
      go_ret2
      exact ⟨_, [], rfl, OwnS.nil _ _, rfl, by simp, Hb.out⟩
    · have hdb : (o.kind != 2) = false := by simpa using hd
      rw [if_neg hd]
      simp only [if_true]
      clear hd
      go_enter Tryd.func24, Tryd.ntmps24
      go_wp2_with fail
      refine HR.out.mono ?_
      rintro e' w2 ⟨rfl, hb⟩
      have HS := Lib.hid (HM.out.below hb)
      have s0 := HS.out.cell0
      have hlk := HL.out _ HS.out
      have hfd := field0 o.kind o.id ⟨o.bytes.toArray⟩ ⟨o.dest.toArray⟩ w2
      have Hb := Lib.hid hb
      have HU := Lib.hid (HU0.out _ p HS.out)
      clear hb
      go_wp2_with fail
      refine HU.out.mono ?_
      rintro e' w3 ⟨v, l, rfl, hown, hund, hlen, hb3⟩
      have Hb3 := Lib.hid (Hb.out.trans (hb3.mono Hb.out.size))
      have Hown := Lib.hid (hown.mono Hb.out.size)
      obtain ⟨a, c, rfl⟩ := hown.form
      have Hund := Lib.hid hund
      clear hown hund hb3
      go_wp2
      go_ret2
      exact ⟨_, l, rfl, Hown.out, Hund.out, hlen, Hb3.out⟩

end Go.Proofs.YtgoecmfjidcieaaDoor
