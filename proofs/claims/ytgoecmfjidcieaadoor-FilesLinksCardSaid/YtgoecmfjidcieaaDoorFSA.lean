/- Read -/
import Derived.Test.YtgoecmfjidcieaaDoorFS9
import Derived.Lib.ConvBytes
namespace Go.Proofs.YtgoecmfjidcieaaDoor
set_option linter.unusedVariables false
set_option linter.unusedSimpArgs false
open Go.RowKit

def readL (st : StL) (path : List UInt8) : List UInt8 × Int := if (fileL st path).2 = 0 then ((fileL st path).1.bytes, 0) else ([], (fileL st path).2)

theorem below_bytes {B : Nat} {a w : World} (h : Below B a w) (hB : B ≤ w.heap.size) (e : TypeId) (s : ByteArray) : Below B a (Lib.bytesWorld w e s) :=
  ⟨h.os, h.tape, h.output, by rw [Lib.bytesWorld_size]; have := h.size; omega, fun k hk => (Lib.bytesWorld_at_old w e s k (by omega)).trans (h.block k hk)⟩

set_option maxHeartbeats 4000000 in
set_option maxRecDepth 100000 in
theorem read_any (m : Int) (w : World) (s b : Nat) (st : StL) (path : List UInt8) (hm : w.cell? ⟨0, 0, none⟩ = some (.int .i64 m)) (hM : SM s b w st) (hok : OkSt st) :
    Calls Tryd.prog 16 #[.pointer (some ⟨s, 0, none⟩), .string ⟨path.toArray⟩] w fun e w' => ∃ v, e = .returned (.tuple #[v, .int .i64 (readL st path).2]) ∧ BytesV w' v (readL st path).1 ∧ Below w.heap.size w w' := by
  have HF := Lib.hid (file_any m w s b st path hm hM hok)
  clear hm hM hok
  unfold readL
  generalize fileL st path = F at *
  obtain ⟨n, e⟩ := F
  simp only
  have HF2 : Hid (Calls Tryd.prog 37 #[.pointer (some ⟨s, 0, none⟩), .string ⟨path.toArray⟩] w fun e' w' => e' = .returned (.tuple #[.agg #[.int .i64 n.kind, .int .i64 n.id, .string ⟨n.bytes.toArray⟩, .string ⟨n.dest.toArray⟩], .int .i64 e]) ∧ Below w.heap.size w w') := HF
  clear HF
  by_cases he : e = 0
  · subst he
    rw [if_pos rfl]
    go_enter Tryd.func16, Tryd.ntmps16
    go_wp2_with fail
    refine HF2.out.mono ?_
    rintro e w2 ⟨rfl, hb⟩
    have hba := hb.alloc hb.size (.cells #[.int .i64 n.kind, .int .i64 n.id, .string ⟨n.bytes.toArray⟩, .string ⟨n.dest.toArray⟩] 58)
    have hcv := Lib.run_convert_string_bytes (w2.alloc (.cells #[.int .i64 n.kind, .int .i64 n.id, .string ⟨n.bytes.toArray⟩, .string ⟨n.dest.toArray⟩] 58)) 9 28 5 ⟨n.bytes.toArray⟩ Tryd.underlying9 Tryd.underlying28 Tryd.underlying5
    have hsz := size_mk' n.bytes
    have HB : Hid (BytesV (Lib.bytesWorld (w2.alloc (.cells #[.int .i64 n.kind, .int .i64 n.id, .string ⟨n.bytes.toArray⟩, .string ⟨n.dest.toArray⟩] 58)) 5 ⟨n.bytes.toArray⟩) (.slice (some ⟨(w2.alloc (.cells #[.int .i64 n.kind, .int .i64 n.id, .string ⟨n.bytes.toArray⟩, .string ⟨n.dest.toArray⟩] 58)).heap.size, 0, none⟩) (⟨n.bytes.toArray⟩ : ByteArray).size (grownCap (w2.alloc (.cells #[.int .i64 n.kind, .int .i64 n.id, .string ⟨n.bytes.toArray⟩, .string ⟨n.dest.toArray⟩] 58)) (⟨n.bytes.toArray⟩ : ByteArray).size 0 5)) n.bytes) := by
      refine Or.inr ⟨_, 0, _, by rw [hsz], fun j hj => ?_⟩
      rw [Nat.zero_add, Lib.bytesWorld_cell _ _ _ _ (by rw [hsz]; exact hj)]
      simp [hj]
    have HW := Lib.hid (below_bytes hba hba.size 5 ⟨n.bytes.toArray⟩)
    have HSZ := Lib.hid hsz
    clear hb hba hsz
    go_wp2
    go_ret2
    exact ⟨_, rfl, by first | exact HB.out | (have h := HB.out; rw [HSZ.out, World.size_alloc] at h; exact h), HW.out⟩
  · rw [if_neg he]
    have heb : (e != 0) = true := by simp [he]
    clear he
    go_enter Tryd.func16, Tryd.ntmps16
    go_wp2_with fail
    refine HF2.out.mono ?_
    rintro e w2 ⟨rfl, hb⟩
    have Hba := Lib.hid (hb.alloc hb.size (.cells #[.int .i64 n.kind, .int .i64 n.id, .string ⟨n.bytes.toArray⟩, .string ⟨n.dest.toArray⟩] 58))
    clear hb
    go_wp2
    go_ret2
    exact ⟨_, rfl, Or.inl ⟨rfl, _, 0, rfl⟩, Hba.out⟩

end Go.Proofs.YtgoecmfjidcieaaDoor
