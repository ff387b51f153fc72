/- awake -/
import Derived.Test.YtgoecmfjidcieaaDoorFSB
namespace Go.Proofs.YtgoecmfjidcieaaDoor
set_option linter.unusedVariables false
set_option linter.unusedSimpArgs false
open Go.RowKit

theorem OkSt.up {s : StL} (h : OkSt s) : OkSt s.up := ⟨h.node, h.count, by have := h.last; show 0 ≤ s.last + 1; omega⟩
theorem ok1 : OkSt ex1 := (OkSt.new.put (p := [47, 120]) (n := ⟨1, 1, [98], []⟩) ⟨by decide, by decide, by decide⟩ (Or.inr (by decide))).up
theorem ok2 : OkSt ex2 := (ok1.put (p := [47, 120]) (n := ⟨1, 2, [99], []⟩) ⟨by decide, by decide, by decide⟩ (Or.inl rfl)).up
theorem ok3 : OkSt ex3 := ok2.put (p := [47, 100]) (n := ⟨2, 0, [], []⟩) ⟨by decide, by decide, by decide⟩ (Or.inr (by decide))
theorem ok4 : OkSt ex4 := ok3.put (p := [47, 100, 47, 108]) (n := ⟨3, 0, [], [46, 46, 47, 120]⟩) ⟨by decide, by decide, by decide⟩ (Or.inr (by decide))
theorem ok5 : OkSt ex5 := ok4.put (p := [47, 108]) (n := ⟨3, 0, [], [108]⟩) ⟨by decide, by decide, by decide⟩ (Or.inr (by decide))
theorem exClean : cleanL [47, 97, 47, 47, 46, 47, 98, 47, 46, 46, 47, 99] = ([47, 97, 47, 99], 0) := by decide

/-- a store that the call has made -/
structure Made (w0 : World) (s b : Nat) (w : World) (st : StL) : Prop where
  sm : SM s b w st
  bel : Below w0.heap.size w0 w
  s0 : w0.heap.size ≤ s
  b0 : w0.heap.size ≤ b
section
variable {w0 w w' : World} {s b : Nat} {st st' : StL}
theorem Made.below (h : Made w0 s b w st) (hb : Below w.heap.size w w') : Made w0 s b w' st := ⟨h.sm.below hb, h.bel.trans (hb.mono h.bel.size), h.s0, h.b0⟩
theorem Made.turn (h : Made w0 s b w st) (ht : Turn2 s b w w') (hs : SM s b w' st') : Made w0 s b w' st' :=
  ⟨hs, ⟨ht.os.trans h.bel.os, ht.tape.trans h.bel.tape, ht.output.trans h.bel.output, Nat.le_trans h.bel.size ht.size, fun k hk => (ht.block k (Nat.lt_of_lt_of_le hk h.bel.size) (by have := h.s0; omega) (by have := h.b0; omega)).trans (h.bel.block k hk)⟩, h.s0, h.b0⟩
theorem Made.cell {m : Int} (h : Made w0 s b w st) (hm : w0.cell? ⟨0, 0, none⟩ = some (.int .i64 m)) : w.cell? ⟨0, 0, none⟩ = some (.int .i64 m) := (h.bel.cell (p := ⟨0, 0, none⟩) (World.block_lt_of_cell? _ _ hm)).trans hm
end

/-- the world behind '[]byte' of a constant of one byte -/
def constW (w : World) (c : Int) : World := (w.alloc (.cells #[.int .u8 c] 5)).freeze ⟨w.heap.size, 1, none⟩ 1
theorem convConst (w : World) (c : Int) : (convert 28 28 (.slice (some ⟨w.heap.size, 0, none⟩) 1 1)).run Tryd.prog (w.alloc (.cells #[.int .u8 c] 5)) = .ok (.slice (some ⟨w.heap.size, 0, none⟩) 1 1) (constW w c) := by
  have hsh : (w.alloc (.cells #[.int .u8 c] 5)).shape? w.heap.size = some (5, 1) := by simp [World.shape?, World.alloc, -World.alloc_eq]
  simp [convert, run_underlying Tryd.underlying28, run_underlying Tryd.underlying5, markStringish, hsh, constW, Result.andThen]
theorem constW_old (w : World) (c : Int) (j : Nat) (hj : j < w.heap.size) : (constW w c).heap[j]? = w.heap[j]? := by
  have h1 : w.heap.size ≠ j := by omega
  simp [constW, World.freeze, World.alloc, -World.alloc_eq, Array.getElem?_modify, Array.getElem?_push, h1, Ne.symm h1]
theorem constW_new (w : World) (c : Int) : (constW w c).heap[w.heap.size]? = some (.cells #[.int .u8 c] 5 (1, 2)) := by
  simp [constW, World.freeze, World.alloc, -World.alloc_eq]
  rw [Array.getElem_modify_self]
  simp
theorem constW_size (w : World) (c : Int) : (constW w c).heap.size = w.heap.size + 1 := by simp [constW, World.freeze, World.alloc, -World.alloc_eq]
theorem constW_below (w : World) (c : Int) : Below w.heap.size w (constW w c) := ⟨rfl, rfl, rfl, by rw [constW_size]; omega, fun k hk => constW_old w c k hk⟩
theorem BytesV.turn {w w' : World} {v : Value} {l : List UInt8} {s b : Nat} {st : StL} (h : BytesV w v l) (hs : SM s b w st) (ht : Turn2 s b w w') : BytesV w' v l := by
  rcases h with ⟨rfl, a, c, rfl⟩ | ⟨g, off, cap, rfl, hc⟩
  · exact Or.inl ⟨rfl, a, c, rfl⟩
  · refine Or.inr ⟨g, off, cap, rfl, fun j hj => ?_⟩
    have h1 := hc j hj
    have hlt : g < w.heap.size := World.block_lt_of_cell? _ _ h1
    have hgs : g ≠ s := by
      intro e
      subst e
      rw [Lib.cell_of_heap hs.ex] at h1
      match off + j, h1 with
      | 0, h1 => simp at h1
      | 1, h1 => simp at h1
      | n + 2, h1 => simp at h1
    have hgb : g ≠ b := by
      intro e
      subst e
      obtain ⟨D, ⟨es, clock, h2, _⟩, _⟩ := hs.map
      simp [World.cell?, h2] at h1
    exact (World.cell?_of_block (a := ⟨g, off + j, none⟩) (ht.block g hlt hgs hgb)).trans h1
theorem bytes_one (w : World) (c : UInt8) : BytesV (constW w (c.toNat : Int)) (.slice (some ⟨w.heap.size, 0, none⟩) 1 1) [c] := by
  refine Or.inr ⟨w.heap.size, 0, 1, rfl, fun j hj => ?_⟩
  have hj0 : j = 0 := by simpa using hj
  subst hj0
  rw [Lib.cell_of_heap (constW_new w _)]
  rfl

set_option maxHeartbeats 8000000 in
set_option maxRecDepth 100000 in
theorem awake_any (m : Int) (w : World) (hm : w.cell? ⟨0, 0, none⟩ = some (.int .i64 m)) :
    Calls Tryd.prog 8 #[] w fun e w' => e = .returned (.bool true) ∧ Below w.heap.size w w' := by
  have Hm := Lib.hid hm
  clear hm
  go_enter Tryd.func8, Tryd.ntmps8
  go_wp2_with fail
  refine (new_any w).mono ?_
  rintro e w1 ⟨s, b, rfl, hS, hs, hb, hbel⟩
  have H1 : Hid (Made w s b w1 StL.new) := Lib.hid ⟨hS, hbel, hs, hb⟩
  have HC := Lib.hid (clean_any m w1 [47, 97, 47, 47, 46, 47, 98, 47, 46, 46, 47, 99] (H1.out.cell Hm.out))
  rw [exClean] at HC
  clear hS hbel hs hb
  go_wp2_with fail
  refine HC.out.mono ?_
  rintro e w2 ⟨rfl, hb⟩
  have H2 := Lib.hid (H1.out.below hb)
  clear hb HC H1
  have hcs2 := convConst w2 98
  have HA2 := Lib.hid (H2.out.below (constW_below w2 98))
  have HP2 := put_any m (constW w2 98) s b StL.new [47, 120] [98] (.slice (some ⟨w2.heap.size, 0, none⟩) 1 1) (HA2.out.cell Hm.out) HA2.out.sm OkSt.new (by decide) (bytes_one w2 98)
  rw [put1] at HP2
  have HQ2 := Lib.hid HP2
  clear HP2
  go_wp2_with fail
  refine HQ2.out.mono ?_
  rintro e w3 ⟨rfl, hS, hT⟩
  have H3 := Lib.hid (HA2.out.turn hT hS)
  clear hS hT hcs2 HA2 HQ2 H2
  have hcs3 := convConst w3 99
  have HA3 := Lib.hid (H3.out.below (constW_below w3 99))
  have HP3 := put_any m (constW w3 99) s b ex1 [47, 120] [99] (.slice (some ⟨w3.heap.size, 0, none⟩) 1 1) (HA3.out.cell Hm.out) HA3.out.sm ok1 (by decide) (bytes_one w3 99)
  rw [put2] at HP3
  have HQ3 := Lib.hid HP3
  clear HP3
  go_wp2_with fail
  refine HQ3.out.mono ?_
  rintro e w4 ⟨rfl, hS, hT⟩
  have H4 := Lib.hid (HA3.out.turn hT hS)
  clear hS hT hcs3 HA3 HQ3 H3
  have HP4 := find_any m w4 s b ex2 [47, 120] (H4.out.cell Hm.out) H4.out.sm ok2
  rw [find3] at HP4
  have HQ4 := Lib.hid HP4
  clear HP4
  go_wp2_with fail
  refine HQ4.out.mono ?_
  rintro e w5 ⟨rfl, hB⟩
  have H5 := Lib.hid (H4.out.below hB)
  clear hB HQ4 H4
  have HP5 := mkdir_any m w5 s b ex2 [47, 100] (H5.out.cell Hm.out) H5.out.sm ok2
  rw [mkdir4] at HP5
  have HQ5 := Lib.hid HP5
  clear HP5
  go_wp2_with fail
  refine HQ5.out.mono ?_
  rintro e w6 ⟨rfl, hS, hG⟩
  have H6 := Lib.hid (H5.out.turn (Turn2.of_grown hG) hS)
  clear hS hG HQ5 H5
  have HP6 := sym_any m w6 s b ex3 [47, 100, 47, 108] [46, 46, 47, 120] (H6.out.cell Hm.out) H6.out.sm ok3
  rw [sym5] at HP6
  have HQ6 := Lib.hid HP6
  clear HP6
  go_wp2_with fail
  refine HQ6.out.mono ?_
  rintro e w7 ⟨rfl, hS, hG⟩
  have H7 := Lib.hid (H6.out.turn (Turn2.of_grown hG) hS)
  clear hS hG HQ6 H6
  have HP7 := read_any m w7 s b ex4 [47, 100, 47, 108] (H7.out.cell Hm.out) H7.out.sm ok4
  rw [read6] at HP7
  have HQ7 := Lib.hid HP7
  clear HP7
  go_wp2_with fail
  refine HQ7.out.mono ?_
  rintro e w8 ⟨v7, rfl, hV, hB⟩
  have HV7 := Lib.hid hV
  have HB7 := Lib.hid hB
  have H8 := Lib.hid (H7.out.below hB)
  clear hB hV HQ7 H7
  have HP8 := sym_any m w8 s b ex4 [47, 108] [108] (H8.out.cell Hm.out) H8.out.sm ok4
  rw [sym7] at HP8
  have HQ8 := Lib.hid HP8
  clear HP8
  go_wp2_with fail
  refine HQ8.out.mono ?_
  rintro e w9 ⟨rfl, hS, hG⟩
  have HV8 := Lib.hid (HV7.out.turn H8.out.sm (Turn2.of_grown hG))
  have H9 := Lib.hid (H8.out.turn (Turn2.of_grown hG) hS)
  clear hS hG HQ8 H8
  have HP9 := read_any m w9 s b ex5 [47, 108] (H9.out.cell Hm.out) H9.out.sm ok5
  rw [read8] at HP9
  have HQ9 := Lib.hid HP9
  clear HP9
  go_wp2_with fail
  refine HQ9.out.mono ?_
  rintro e w10 ⟨v9, rfl, hV, hB⟩
  have hcv := (HV8.out.below hB).conv
  have H10 := Lib.hid (H9.out.below hB)
  clear hB hV HQ9 H9 HV7 HV8 HB7
  go_wp2
  go_ret
  exact ⟨rfl, H10.out.bel⟩

end Go.Proofs.YtgoecmfjidcieaaDoor
