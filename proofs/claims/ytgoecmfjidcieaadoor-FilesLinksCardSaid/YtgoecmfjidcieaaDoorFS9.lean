/- Put -/
import Derived.Test.YtgoecmfjidcieaaDoorFS8
import Derived.Lib.BufferRead
import Derived.Laws.IdiomStrings
namespace Go.Proofs.YtgoecmfjidcieaaDoor
set_option linter.unusedVariables false
set_option linter.unusedSimpArgs false
open Go.RowKit

def StL.up (s : StL) : StL := ⟨s.has, s.count, s.last + 1⟩
def putL (st : StL) (path bytes : List UInt8) : Int × StL :=
  if (placeL st path).2.2 ≠ 0 then ((placeL st path).2.2, st) else if (placeL st path).2.1.kind = 2 then (33, st) else if (placeL st path).2.1.kind = 3 then (32, st) else if 1048576 < bytes.length then (2, st)
  else if (freshL st (placeL st path).1 ⟨1, st.last + 1, bytes, []⟩).1 ≠ 0 then freshL st (placeL st path).1 ⟨1, st.last + 1, bytes, []⟩
  else (0, (freshL st (placeL st path).1 ⟨1, st.last + 1, bytes, []⟩).2.up)

theorem SM.up {s b : Nat} {w : World} {st : StL} (h : SM s b w st) : SM s b (w.setCell ⟨s, 1, none⟩ (.int .i64 (st.last + 1))) st.up := by
  obtain ⟨D, h1, h2⟩ := h.map
  exact ⟨by simp [World.setCell, Array.getElem?_modify, h.ex, StL.up], ⟨D, h1.setCell (fun e => h.ne e.symm) _, ⟨h2.tidy, h2.has, h2.node, h2.size⟩⟩, h.ne⟩

/-- worlds that keep all blocks but two -/
structure Turn2 (s b : Nat) (w w' : World) : Prop where
  os : w'.os = w.os
  tape : w'.tape = w.tape
  output : w'.output = w.output
  size : w.heap.size ≤ w'.heap.size
  block : ∀ k, k < w.heap.size → k ≠ s → k ≠ b → w'.heap[k]? = w.heap[k]?
theorem Turn2.of_grown {s b : Nat} {w w' : World} (h : w.grownBy w' (some b)) : Turn2 s b w w' := ⟨h.os, h.tape, h.output, h.size, fun k hk _ h2 => h.block k hk (fun e => h2 (Option.some.inj e))⟩
theorem Turn2.setCell {s b : Nat} {w w' : World} (h : Turn2 s b w w') (i : Nat) (u : Value) : Turn2 s b w (w'.setCell ⟨s, i, none⟩ u) :=
  ⟨h.os, h.tape, h.output, by simpa using h.size, fun k hk h1 h2 => (Below.heap_setCell w' ⟨s, i, none⟩ u k (fun e => h1 e)).trans (h.block k hk h1 h2)⟩
theorem Turn2.of_below {s b : Nat} {w w' : World} (h : Below w.heap.size w w') : Turn2 s b w w' := ⟨h.os, h.tape, h.output, h.size, fun k hk _ _ => h.block k hk⟩
theorem Turn2.trans {s b : Nat} {w w' w'' : World} (h : Turn2 s b w w') (k : Turn2 s b w' w'') : Turn2 s b w w'' :=
  ⟨k.os.trans h.os, k.tape.trans h.tape, k.output.trans h.output, Nat.le_trans h.size k.size, fun i hi h1 h2 => (k.block i (Nat.lt_of_lt_of_le hi h.size) h1 h2).trans (h.block i hi h1 h2)⟩

/-- a slice of bytes, wherever it lies -/
def BytesV (w : World) (v : Value) (l : List UInt8) : Prop :=
  (l = [] ∧ ∃ a c, v = .slice a 0 c) ∨ ∃ g off cap, v = .slice (some ⟨g, off, none⟩) l.length cap ∧ ∀ j (hj : j < l.length), w.cell? ⟨g, off + j, none⟩ = some (.int .u8 (l[j].toNat : Int))
theorem BytesV.conv {w : World} {v : Value} {l : List UInt8} (h : BytesV w v l) : (convert 28 9 v).run Tryd.prog w = .ok (.string ⟨l.toArray⟩) w := by
  rcases h with ⟨rfl, a, c, rfl⟩ | ⟨g, off, cap, rfl, hc⟩
  · cases a with
    | none => exact Lib.run_convert_nil_bytes w 28 9 5 c Tryd.underlying28 Tryd.underlying5 Tryd.underlying9
    | some a => exact run_convert_bytes_back w 28 9 5 a c [] Tryd.underlying28 Tryd.underlying5 Tryd.underlying9 (fun j hj => (by cases hj))
  · refine run_convert_bytes_back w 28 9 5 ⟨g, off, none⟩ cap l Tryd.underlying28 Tryd.underlying5 Tryd.underlying9 (fun j hj => ?_)
    have e1 : (⟨g, off, none⟩ : Addr).add j = ⟨g, off + j, none⟩ := by unfold Addr.add; split <;> simp_all
    rw [e1]; exact hc j hj
theorem BytesV.below {w w' : World} {v : Value} {l : List UInt8} (h : BytesV w v l) (hb : Below w.heap.size w w') : BytesV w' v l := by
  rcases h with ⟨rfl, a, c, rfl⟩ | ⟨g, off, cap, rfl, hc⟩
  · exact Or.inl ⟨rfl, a, c, rfl⟩
  · exact Or.inr ⟨g, off, cap, rfl, fun j hj => (hb.cell (p := ⟨g, off + j, none⟩) (World.block_lt_of_cell? _ _ (hc j hj))).trans (hc j hj)⟩
theorem BytesV.form {w : World} {v : Value} {l : List UInt8} (h : BytesV w v l) : ∃ a c, v = .slice a l.length c := by
  rcases h with ⟨rfl, a, c, rfl⟩ | ⟨g, off, cap, rfl, hc⟩
  · exact ⟨_, _, rfl⟩
  · exact ⟨_, _, rfl⟩

set_option maxHeartbeats 4000000 in
set_option maxRecDepth 100000 in
theorem put_any (m : Int) (w : World) (s b : Nat) (st : StL) (path bytes : List UInt8) (v : Value) (hm : w.cell? ⟨0, 0, none⟩ = some (.int .i64 m)) (hM : SM s b w st) (hok : OkSt st) (hl : st.last < 4611686018427387904) (hv : BytesV w v bytes) :
    Calls Tryd.prog 15 #[.pointer (some ⟨s, 0, none⟩), .string ⟨path.toArray⟩, v] w fun e w' => e = .returned (.int .i64 (putL st path bytes).1) ∧ SM s b w' (putL st path bytes).2 ∧ Turn2 s b w w' := by
  have HP := Lib.hid (place_any m w s b st path hm hM hok)
  have hpl := placeL_len st path
  have hc := hok.count
  have hl0 := hok.last
  have HM := Lib.hid hM
  have Hv := Lib.hid hv
  clear hm hM hok
  unfold putL
  generalize placeL st path = R at *
  obtain ⟨p, n, e⟩ := R
  simp only at hpl ⊢
  have HP2 : Hid (Calls Tryd.prog 38 #[.pointer (some ⟨s, 0, none⟩), .string ⟨path.toArray⟩] w fun e' w' => e' = .returned (.tuple #[.string ⟨p.toArray⟩, .agg #[.int .i64 n.kind, .int .i64 n.id, .string ⟨n.bytes.toArray⟩, .string ⟨n.dest.toArray⟩], .int .i64 e]) ∧ Below w.heap.size w w') := HP
  clear HP
  obtain ⟨va, vcap, rfl⟩ := hv.form
  clear hv
  by_cases he : e ≠ 0
  · have heb : (e != 0) = true := by simp [he]
    rw [if_pos he]
    clear he
    go_enter Tryd.func15, Tryd.ntmps15
    go_wp2_with fail
    refine HP2.out.mono ?_
    rintro e' w2 ⟨rfl, hb⟩
    have HS := Lib.hid ((HM.out.below hb).alloc (.cells #[.int .i64 n.kind, .int .i64 n.id, .string ⟨n.bytes.toArray⟩, .string ⟨n.dest.toArray⟩] 58))
    have HG := Lib.hid (Turn2.of_below (s := s) (b := b) (hb.alloc hb.size (.cells #[.int .i64 n.kind, .int .i64 n.id, .string ⟨n.bytes.toArray⟩, .string ⟨n.dest.toArray⟩] 58)))
    clear hb
    go_wp2
    go_ret
    exact ⟨rfl, HS.out, HG.out⟩
  have heb : (e != 0) = false := by simpa using he
  rw [if_neg he]
  clear he
  by_cases h2 : n.kind = 2
  · have h2b : (n.kind == 2) = true := by simp [h2]
    rw [if_pos h2]
    clear h2
    go_enter Tryd.func15, Tryd.ntmps15
    go_wp2_with fail
    refine HP2.out.mono ?_
    rintro e' w2 ⟨rfl, hb⟩
    have HS := Lib.hid ((HM.out.below hb).alloc (.cells #[.int .i64 n.kind, .int .i64 n.id, .string ⟨n.bytes.toArray⟩, .string ⟨n.dest.toArray⟩] 58))
    have HG := Lib.hid (Turn2.of_below (s := s) (b := b) (hb.alloc hb.size (.cells #[.int .i64 n.kind, .int .i64 n.id, .string ⟨n.bytes.toArray⟩, .string ⟨n.dest.toArray⟩] 58)))
    clear hb
    go_wp2
    go_ret
    exact ⟨rfl, HS.out, HG.out⟩
  have h2b : (n.kind == 2) = false := by simp [h2]
  rw [if_neg h2]
  clear h2
  by_cases h3 : n.kind = 3
  · have h3b : (n.kind == 3) = true := by simp [h3]
    rw [if_pos h3]
    clear h3
    go_enter Tryd.func15, Tryd.ntmps15
    go_wp2_with fail
    refine HP2.out.mono ?_
    rintro e' w2 ⟨rfl, hb⟩
    have HS := Lib.hid ((HM.out.below hb).alloc (.cells #[.int .i64 n.kind, .int .i64 n.id, .string ⟨n.bytes.toArray⟩, .string ⟨n.dest.toArray⟩] 58))
    have HG := Lib.hid (Turn2.of_below (s := s) (b := b) (hb.alloc hb.size (.cells #[.int .i64 n.kind, .int .i64 n.id, .string ⟨n.bytes.toArray⟩, .string ⟨n.dest.toArray⟩] 58)))
    clear hb
    go_wp2
    go_ret
    exact ⟨rfl, HS.out, HG.out⟩
  have h3b : (n.kind == 3) = false := by simp [h3]
  rw [if_neg h3]
  clear h3
  by_cases h4 : 1048576 < bytes.length
  · rw [if_pos h4]
    go_enter Tryd.func15, Tryd.ntmps15
    go_wp2_with fail
    refine HP2.out.mono ?_
    rintro e' w2 ⟨rfl, hb⟩
    have HS := Lib.hid ((HM.out.below hb).alloc (.cells #[.int .i64 n.kind, .int .i64 n.id, .string ⟨n.bytes.toArray⟩, .string ⟨n.dest.toArray⟩] 58))
    have HG := Lib.hid (Turn2.of_below (s := s) (b := b) (hb.alloc hb.size (.cells #[.int .i64 n.kind, .int .i64 n.id, .string ⟨n.bytes.toArray⟩, .string ⟨n.dest.toArray⟩] 58)))
    clear hb
    go_wp2
    go_ret
    exact ⟨rfl, HS.out, HG.out⟩
  rw [if_neg h4]
  have hlast : (freshL st p ⟨1, st.last + 1, bytes, []⟩).2.last = st.last := by unfold freshL; split <;> rfl
  have HFr : Hid (∀ w', SM s b w' st → _) := Lib.hid (fun w' h => fresh_any w' s b st p ⟨1, st.last + 1, bytes, []⟩ h hc hpl)
  generalize freshL st p ⟨1, st.last + 1, bytes, []⟩ = F at *
  obtain ⟨f, st2⟩ := F
  simp only at hlast HFr ⊢
  by_cases hf : f ≠ 0
  · have hfb : (f != 0) = true := by simp [hf]
    rw [if_pos hf]
    clear hf
    go_enter Tryd.func15, Tryd.ntmps15
    go_wp2_with fail
    refine HP2.out.mono ?_
    rintro e' w2 ⟨rfl, hb⟩
    have HS := Lib.hid ((HM.out.below hb).alloc (.cells #[.int .i64 n.kind, .int .i64 n.id, .string ⟨n.bytes.toArray⟩, .string ⟨n.dest.toArray⟩] 58))
    have HB := Lib.hid (hb.alloc hb.size (.cells #[.int .i64 n.kind, .int .i64 n.id, .string ⟨n.bytes.toArray⟩, .string ⟨n.dest.toArray⟩] 58))
    clear hb
    go_upto_region 10 with fail
    generalize w2.alloc (.cells #[.int .i64 n.kind, .int .i64 n.id, .string ⟨n.bytes.toArray⟩, .string ⟨n.dest.toArray⟩] 58) = X at *
    have s1 := HS.out.cell1
    have hcv := (Hv.out.below (HB.out.drew)).conv
    have hwr : IntKind.i64.wrap (st.last + 1) = st.last + 1 := by rw [IntKind.wrap_i64]; omega
    have HFx := HFr.out X.drew HS.out.drew
    have HF := Lib.hid HFx
    clear HFx
    have HD := Lib.hid (grown_of_below HB.out.drew)
    clear HP2
    go_still_tail 10, (by kernel_rfl)
    change wpList _ _ _ _ _ X.drew
    go_wp2_with fail
    refine HF.out.mono ?_
    rintro e' w3 ⟨rfl, hS, hG⟩
    have HS3 := Lib.hid hS
    have HG3 := Lib.hid ((Turn2.of_below (s := s) (b := b) HB.out.drew).trans (Turn2.of_grown hG))
    clear hS hG
    go_wp2
    go_ret
    exact ⟨rfl, HS3.out, HG3.out⟩
  · have hfb : (f != 0) = false := by simpa using hf
    rw [if_neg hf]
    have hf0 : f = 0 := by simpa using hf
    subst hf0
    clear hf
    go_enter Tryd.func15, Tryd.ntmps15
    go_wp2_with fail
    refine HP2.out.mono ?_
    rintro e' w2 ⟨rfl, hb⟩
    have HS := Lib.hid ((HM.out.below hb).alloc (.cells #[.int .i64 n.kind, .int .i64 n.id, .string ⟨n.bytes.toArray⟩, .string ⟨n.dest.toArray⟩] 58))
    have HB := Lib.hid (hb.alloc hb.size (.cells #[.int .i64 n.kind, .int .i64 n.id, .string ⟨n.bytes.toArray⟩, .string ⟨n.dest.toArray⟩] 58))
    clear hb
    go_upto_region 10 with fail
    generalize w2.alloc (.cells #[.int .i64 n.kind, .int .i64 n.id, .string ⟨n.bytes.toArray⟩, .string ⟨n.dest.toArray⟩] 58) = X at *
    have s1 := HS.out.cell1
    have hcv := (Hv.out.below (HB.out.drew)).conv
    have hwr : IntKind.i64.wrap (st.last + 1) = st.last + 1 := by rw [IntKind.wrap_i64]; omega
    have HFx := HFr.out X.drew HS.out.drew
    have HF := Lib.hid HFx
    clear HFx
    have HD := Lib.hid (grown_of_below HB.out.drew)
    clear HP2
    go_still_tail 10, (by kernel_rfl)
    change wpList _ _ _ _ _ X.drew
    go_wp2_with fail
    refine HF.out.mono ?_
    rintro e' w3 ⟨rfl, hS, hG⟩
    have HS3 := Lib.hid hS
    have HG3 := Lib.hid ((Turn2.of_below (s := s) (b := b) HB.out.drew).trans (Turn2.of_grown hG))
    have s3 := hS.cell1
    have f3 := hS.frozen 1
    rw [hlast] at s3
    have HU := hS.up
    rw [hlast] at HU
    have HU3 := Lib.hid HU
    clear hS hG HU hlast
    go_wp2
    go_ret
    exact ⟨rfl, HU3.out, HG3.out.setCell 1 _⟩

end Go.Proofs.YtgoecmfjidcieaaDoor
