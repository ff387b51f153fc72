/- does: one act -/
import Derived.Test.YtgoecmfjidcieaaDoorFK6
import Derived.Test.YtgoecmfjidcieaaDoorFK4
namespace Go.Proofs.YtgoecmfjidcieaaDoor
set_option linter.unusedVariables false
set_option linter.unusedSimpArgs false
open Go.RowKit

theorem SM.keep2 {s b : Nat} {w w' : World} {st : StL} (h : SM s b w st) (hs : w'.heap[s]? = w.heap[s]?) (hb : w'.heap[b]? = w.heap[b]?) : SM s b w' st := by
  obtain ⟨D, ⟨es, clock, h1, h2⟩, h3⟩ := h.map
  exact ⟨hs.trans h.ex, ⟨D, ⟨es, clock, hb.trans h1, h2⟩, h3⟩, h.ne⟩
theorem lentV {w : World} {g : Nat} {l : List UInt8} (h : w.heap[g]? = some (.cells (bvs (l ++ [201, 201, 201])).toArray 5 (0, 0))) : BytesV w (.slice (some ⟨g, 0, none⟩) l.length (l.length + 3)) l := by
  refine Or.inr ⟨g, 0, l.length + 3, rfl, fun j hj => ?_⟩
  rw [Nat.zero_add]
  refine heap_cell h ?_
  rw [bvs_at _ j (by simp; omega)]
  simp [List.getElem_append_left hj]
theorem bytesV_lt {w : World} {a : Option Addr} {n c g2 off cap : Nat} {l : List UInt8} (h : BytesV w (.slice a n c) l) (hv : (.slice a n c : Value) = .slice (some ⟨g2, off, none⟩) l.length cap) (h0 : 0 < l.length) : g2 < w.heap.size := by
  rcases h with ⟨rfl, _⟩ | ⟨g, o, cp, hx, hc⟩
  · cases h0
  · rw [hx] at hv
    simp only [Value.slice.injEq, Option.some.injEq, Addr.mk.injEq] at hv
    rw [← hv.1.1]
    exact World.block_lt_of_cell? _ _ (hc 0 h0)
theorem bytesV_keep {w w' : World} {v : Value} {l : List UInt8} (h : BytesV w v l) (hk : ∀ g off cap, v = .slice (some ⟨g, off, none⟩) l.length cap → 0 < l.length → w'.heap[g]? = w.heap[g]?) : BytesV w' v l := by
  rcases h with ⟨rfl, a, c, rfl⟩ | ⟨g, off, cap, rfl, hc⟩
  · exact Or.inl ⟨rfl, a, c, rfl⟩
  · refine Or.inr ⟨g, off, cap, rfl, fun j hj => ?_⟩
    exact (World.cell?_of_block (a := ⟨g, off + j, none⟩) (hk g off cap rfl (by omega))).trans (hc j hj)

set_option maxHeartbeats 8000000 in
set_option maxRecDepth 100000 in
theorem does_any (m : Int) (w : World) (s b : Nat) (st : StL) (x : ActL) (bv : Value) (hm : w.cell? ⟨0, 0, none⟩ = some (.int .i64 m)) (hM : SM s b w st) (hok : OkA st) (hl : st.last < 4611686018427387904) (hv : BytesV w bv x.bytes) (hbl : x.bytes.length ≤ 140737488355328) :
    Calls Tryd.prog 23 #[.pointer (some ⟨s, 0, none⟩), .agg #[.int .i64 x.what, .string ⟨x.a.toArray⟩, .string ⟨x.b.toArray⟩, bv]] w fun e w' => e = .returned (.int .i64 (doesL st x).1) ∧ SM s b w' (doesL st x).2 ∧ Turn2 s b w w' := by
  obtain ⟨d, p, q, bytes⟩ := x
  simp only at hv hbl ⊢
  have h0lt : 0 < w.heap.size := World.block_lt_of_cell? _ _ hm
  have hslt := hM.lt
  have hblt := hM.blt
  obtain ⟨ba, bc, rfl⟩ := hv.form
  obtain ⟨n, hn⟩ : ∃ n, n = bytes.length := ⟨_, rfl⟩
  rw [← hn] at hv ⊢
  obtain ⟨W1, hW1⟩ : ∃ x, x = w.alloc (.cells #[.int .i64 d, .string ⟨p.toArray⟩, .string ⟨q.toArray⟩, .slice ba n bc] 43) := ⟨_, rfl⟩
  have HW1 := Lib.hid hW1
  have hB1 : Below w.heap.size w W1 := by rw [hW1]; exact (Below.refl _ w).alloc (Nat.le_refl _) _
  have HB1 := Lib.hid hB1
  have Hv1 := Lib.hid (hv.below hB1)
  have HM1 := Lib.hid (hM.below hB1)
  have hm1 := (hB1.cell (p := ⟨0, 0, none⟩) h0lt).trans hm
  have Hm1 := Lib.hid hm1
  have Hok := Lib.hid hok
  have Hbox : Hid (W1.heap[w.heap.size]? = some (.cells #[.int .i64 d, .string ⟨p.toArray⟩, .string ⟨q.toArray⟩, .slice ba n bc] 43 (0, 0))) := Lib.hid (by rw [hW1]; exact heap_alloc_new _ _)
  have Hsz : Hid (W1.heap.size = w.heap.size + 1) := Lib.hid (by rw [hW1]; simp)
  have Hn := Lib.hid hn
  clear hB1 hv hM hm hm1 hok hW1 hn

  by_cases c1 : d = 1
  · have HL : Hid (doesL st ⟨d, p, q, bytes⟩ = mkdirL st p) := Lib.hid (by unfold doesL; simp only [c1]; first | rfl | simp)
    rw [HL.out]
    have d1 : (d == 1) = true := by simp; omega
    clear c1
    have HC := Lib.hid (mkdir_any m W1 s b st p Hm1.out HM1.out Hok.out.st)
    rw [HW1.out] at HC
    go_enter Tryd.func23, Tryd.ntmps23
    go_wp2_with fail
    refine HC.out.mono ?_
    rintro e w2 ⟨rfl, hS, hG⟩
    rw [← HW1.out] at hG
    have HS := Lib.hid hS
    have HT := Lib.hid ((Turn2.of_below (s := s) (b := b) HB1.out).trans (Turn2.of_grown hG))
    clear hS hG
    go_wp2
    go_ret
    exact ⟨rfl, HS.out, HT.out⟩
  by_cases c2 : d = 2
  · have HL : Hid (doesL st ⟨d, p, q, bytes⟩ = putL st p bytes) := Lib.hid (by unfold doesL; simp only [c2]; first | rfl | simp)
    rw [HL.out]
    have d1 : (d == 1) = false := by simp; omega
    have d2 : (d == 2) = true := by simp; omega
    clear c1 c2
    have HC := Lib.hid (lent_any W1 (.slice ba n bc) bytes Hv1.out hbl)
    rw [HW1.out, ← Hn.out] at HC
    go_enter Tryd.func23, Tryd.ntmps23
    go_wp2_with fail
    refine HC.out.mono ?_
    rintro e w2 ⟨g, rfl, hg, hgh, hb2⟩
    rw [← HW1.out] at hg hb2
    have hszW := Hsz.out
    have hB2 := HB1.out.trans (hb2.mono (show w.heap.size ≤ W1.heap.size by omega))
    have HB2 := Lib.hid hB2
    have Hgh := Lib.hid hgh
    have hbox2 := (hb2.block w.heap.size (by omega)).trans Hbox.out
    have Hbox2 := Lib.hid hbox2
    have HM2 := Lib.hid (HM1.out.below hb2)
    have k1 : w2.cell? ⟨w.heap.size, 1, none⟩ = some (.string ⟨p.toArray⟩) := by rw [Lib.cell_of_heap hbox2]; rfl
    have HPt := put_any m w2 s b st p bytes (.slice (some ⟨g, 0, none⟩) bytes.length (bytes.length + 3)) ((hb2.cell (p := ⟨0, 0, none⟩) (by show 0 < W1.heap.size; omega)).trans Hm1.out) (HM1.out.below hb2) Hok.out.st hl (lentV hgh)
    rw [← Hn.out] at HPt
    have HP := Lib.hid HPt
    have Hv2 := Lib.hid (Hv1.out.below hb2)
    have Hglt : Hid (g < w2.heap.size) := Lib.hid (Array.getElem?_eq_some_iff.1 hgh).1
    have Hsl := Lib.hid hb2.size
    clear hB2 hgh hbox2 hb2 HPt HC
    go_wp2_with fail
    refine HP.out.mono ?_
    rintro e w3 ⟨rfl, hS, hT⟩
    have hgs : g ≠ s := by omega
    have hgb : g ≠ b := by omega
    have hbox3 := (hT.block w.heap.size (by have := Hsl.out; omega) (by omega) (by omega)).trans Hbox2.out
    have k3 : w3.cell? ⟨w.heap.size, 3, none⟩ = some (.slice ba n bc) := by rw [Lib.cell_of_heap hbox3]; rfl
    have hg3 := (hT.block g Hglt.out hgs hgb).trans Hgh.out
    have HBk0 := back_any w3 g (.slice ba n bc) bytes hg3 (Hv2.out.turn HM2.out hT) (fun g2 off cap hx h0 => by
      have := bytesV_lt Hv1.out hx h0
      omega) hbl
    rw [← Hn.out] at HBk0
    have HBk := Lib.hid HBk0
    have HT := Lib.hid ((Turn2.of_below (s := s) (b := b) HB2.out).trans hT)
    have HS := Lib.hid hS
    clear hbox3 hg3 HBk0 hT hS k1
    go_wp2_with fail
    refine HBk.out.mono ?_
    rintro e w4 ⟨rfl, hg4⟩
    have HS4 := Lib.hid (HS.out.keep2 (hg4.block s HS.out.lt (fun e => hgs (Option.some.inj e).symm)) (hg4.block b HS.out.blt (fun e => hgb (Option.some.inj e).symm)))
    have HT4 := Lib.hid (show Turn2 s b w w4 from ⟨hg4.os.trans HT.out.os, hg4.tape.trans HT.out.tape, hg4.output.trans HT.out.output, Nat.le_trans HT.out.size hg4.size, fun k hk h1 h2 => (hg4.block k (Nat.lt_of_lt_of_le hk HT.out.size) (fun e => by have := Option.some.inj e; omega)).trans (HT.out.block k hk h1 h2)⟩)
    clear hg4 k3
    go_wp2
    go_ret
    exact ⟨rfl, HS4.out, HT4.out⟩
  by_cases c3 : d = 3
  · have HL : Hid (doesL st ⟨d, p, q, bytes⟩ = alsoL st p q) := Lib.hid (by unfold doesL; simp only [c3]; first | rfl | simp)
    rw [HL.out]
    have d1 : (d == 1) = false := by simp; omega
    have d2 : (d == 2) = false := by simp; omega
    have d3 : (d == 3) = true := by simp; omega
    clear c1 c2 c3
    have HC := Lib.hid (also_any m W1 s b st p q Hm1.out HM1.out Hok.out)
    rw [HW1.out] at HC
    go_enter Tryd.func23, Tryd.ntmps23
    go_wp2_with fail
    refine HC.out.mono ?_
    rintro e w2 ⟨rfl, hS, hG⟩
    rw [← HW1.out] at hG
    have HS := Lib.hid hS
    have HT := Lib.hid ((Turn2.of_below (s := s) (b := b) HB1.out).trans (Turn2.of_grown hG))
    clear hS hG
    go_wp2
    go_ret
    exact ⟨rfl, HS.out, HT.out⟩
  by_cases c4 : d = 4
  · have HL : Hid (doesL st ⟨d, p, q, bytes⟩ = symL st p q) := Lib.hid (by unfold doesL; simp only [c4]; first | rfl | simp)
    rw [HL.out]
    have d1 : (d == 1) = false := by simp; omega
    have d2 : (d == 2) = false := by simp; omega
    have d3 : (d == 3) = false := by simp; omega
    have d4 : (d == 4) = true := by simp; omega
    clear c1 c2 c3 c4
    have HC := Lib.hid (sym_any m W1 s b st p q Hm1.out HM1.out Hok.out.st)
    rw [HW1.out] at HC
    go_enter Tryd.func23, Tryd.ntmps23
    go_wp2_with fail
    refine HC.out.mono ?_
    rintro e w2 ⟨rfl, hS, hG⟩
    rw [← HW1.out] at hG
    have HS := Lib.hid hS
    have HT := Lib.hid ((Turn2.of_below (s := s) (b := b) HB1.out).trans (Turn2.of_grown hG))
    clear hS hG
    go_wp2
    go_ret
    exact ⟨rfl, HS.out, HT.out⟩
  by_cases c5 : d = 5
  · have HL : Hid (doesL st ⟨d, p, q, bytes⟩ = removeL st p) := Lib.hid (by unfold doesL; simp only [c5]; first | rfl | simp)
    rw [HL.out]
    have d1 : (d == 1) = false := by simp; omega
    have d2 : (d == 2) = false := by simp; omega
    have d3 : (d == 3) = false := by simp; omega
    have d4 : (d == 4) = false := by simp; omega
    have d5 : (d == 5) = true := by simp; omega
    clear c1 c2 c3 c4 c5
    have HC := Lib.hid (remove_any m W1 s b st p Hm1.out HM1.out Hok.out)
    rw [HW1.out] at HC
    go_enter Tryd.func23, Tryd.ntmps23
    go_wp2_with fail
    refine HC.out.mono ?_
    rintro e w2 ⟨rfl, hS, hG⟩
    rw [← HW1.out] at hG
    have HS := Lib.hid hS
    have HT := Lib.hid ((Turn2.of_below (s := s) (b := b) HB1.out).trans (Turn2.of_grown hG))
    clear hS hG
    go_wp2
    go_ret
    exact ⟨rfl, HS.out, HT.out⟩
  by_cases c6 : d = 6
  · have HL : Hid (doesL st ⟨d, p, q, bytes⟩ = renameL st p q) := Lib.hid (by unfold doesL; simp only [c6]; first | rfl | simp)
    rw [HL.out]
    have d1 : (d == 1) = false := by simp; omega
    have d2 : (d == 2) = false := by simp; omega
    have d3 : (d == 3) = false := by simp; omega
    have d4 : (d == 4) = false := by simp; omega
    have d5 : (d == 5) = false := by simp; omega
    have d6 : (d == 6) = true := by simp; omega
    clear c1 c2 c3 c4 c5 c6
    have HC := Lib.hid (rename_any m W1 s b st p q Hm1.out HM1.out Hok.out)
    rw [HW1.out] at HC
    go_enter Tryd.func23, Tryd.ntmps23
    go_wp2_with fail
    refine HC.out.mono ?_
    rintro e w2 ⟨rfl, hS, hG⟩
    rw [← HW1.out] at hG
    have HS := Lib.hid hS
    have HT := Lib.hid ((Turn2.of_below (s := s) (b := b) HB1.out).trans (Turn2.of_grown hG))
    clear hS hG
    go_wp2
    go_ret
    exact ⟨rfl, HS.out, HT.out⟩
  have HL : Hid (doesL st ⟨d, p, q, bytes⟩ = (0, st)) := Lib.hid (by unfold doesL; simp only [c1, c2, c3, c4, c5, c6, if_false])
  rw [HL.out]
  have d1 : (d == 1) = false := by simp [c1]
  have d2 : (d == 2) = false := by simp [c2]
  have d3 : (d == 3) = false := by simp [c3]
  have d4 : (d == 4) = false := by simp [c4]
  have d5 : (d == 5) = false := by simp [c5]
  have d6 : (d == 6) = false := by simp [c6]
  clear c1 c2 c3 c4 c5 c6
  have HS := HM1
  have HT := Lib.hid (Turn2.of_below (s := s) (b := b) HB1.out)
  rw [HW1.out] at HS HT
  go_enter Tryd.func23, Tryd.ntmps23
  go_wp2
  go_ret
  exact ⟨rfl, HS.out, HT.out⟩

end Go.Proofs.YtgoecmfjidcieaaDoor
