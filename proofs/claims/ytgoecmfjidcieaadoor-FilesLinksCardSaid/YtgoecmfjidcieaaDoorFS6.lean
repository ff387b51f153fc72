/- fresh -/
import Derived.Test.YtgoecmfjidcieaaDoorFS5
namespace Go.Proofs.YtgoecmfjidcieaaDoor
set_option linter.unusedVariables false
set_option linter.unusedSimpArgs false
open Go.RowKit

def freshL (st : StL) (p : List UInt8) (n : NodeL) : Int × StL := if st.has p = none ∧ 500 < st.count then (3, st) else (0, st.put p n)

theorem SM.grown {s b : Nat} {w w' : World} {st : StL} (h : SM s b w st) (hg : w.grownBy w' none) : SM s b w' st := by
  obtain ⟨D, ⟨es, clock, h1, h2⟩, h3⟩ := h.map
  exact ⟨(hg.block s h.lt (by simp)).trans h.ex, ⟨D, ⟨es, clock, (hg.block b h.blt (by simp)).trans h1, h2⟩, h3⟩, h.ne⟩
theorem SM.putM {s b : Nat} {w : World} {st : StL} (h : SM s b w st) (hc : st.count ≤ 501) (p : List UInt8) (n : NodeL) (hp : p.length ≤ 1099511627776) :
    ∃ w', (Instr.mapUpdate 64 (.map (some b)) (.string ⟨p.toArray⟩) (.agg #[.int .i64 n.kind, .int .i64 n.id, .string ⟨n.bytes.toArray⟩, .string ⟨n.dest.toArray⟩])).run Tryd.prog w = .ok () w' ∧ SM s b w' (st.put p n) ∧ w.grownBy w' (some b) := by
  obtain ⟨D, h1, h2⟩ := h.map
  obtain ⟨w', hrun, hown, hgr⟩ := h1.update kString (t := 64) Tryd.underlying64 (by unfold maxLen; omega) (keyS hp) (nodeR_mk n)
  refine ⟨w', hrun, ⟨?_, ⟨_, ?_, h2.put p n⟩, h.ne⟩, hgr⟩
  · rw [hgr.block s h.lt (fun e => h.ne (Option.some.inj e))]; exact h.ex
  · have := ownsMap_tight hown
    rw [(h2.put p n).size] at this
    exact this
theorem grown_trans {w w' w'' : World} {b : Nat} (h : w.grownBy w' none) (k : w'.grownBy w'' (some b)) : w.grownBy w'' (some b) :=
  ⟨k.os.trans h.os, k.tape.trans h.tape, k.output.trans h.output, Nat.le_trans h.size k.size, fun i hi hne => (k.block i (Nat.lt_of_lt_of_le hi h.size) hne).trans (h.block i hi (by simp))⟩
theorem grown_none {w w' : World} {b : Nat} (h : w.grownBy w' none) : w.grownBy w' (some b) := ⟨h.os, h.tape, h.output, h.size, fun i hi _ => h.block i hi (by simp)⟩
theorem grown_of_below {w w' : World} (h : Below w.heap.size w w') : w.grownBy w' none := ⟨h.os, h.tape, h.output, h.size, fun i hi _ => h.block i hi⟩

set_option maxHeartbeats 4000000 in
set_option maxRecDepth 100000 in
theorem fresh_any (w : World) (s b : Nat) (st : StL) (p : List UInt8) (n : NodeL) (hM : SM s b w st) (hc : st.count ≤ 501) (hp : p.length ≤ 3000) :
    Calls Tryd.prog 39 #[.pointer (some ⟨s, 0, none⟩), .string ⟨p.toArray⟩, .agg #[.int .i64 n.kind, .int .i64 n.id, .string ⟨n.bytes.toArray⟩, .string ⟨n.dest.toArray⟩]] w fun e w' => e = .returned (.int .i64 (freshL st p n).1) ∧ SM s b w' (freshL st p n).2 ∧ w.grownBy w' (some b) := by
  have hsp := size_mk' p
  obtain ⟨o, ho⟩ : ∃ o, o = st.get p := ⟨_, rfl⟩
  obtain ⟨W1, hW1⟩ : ∃ x, x = w.alloc (.cells #[.int .i64 n.kind, .int .i64 n.id, .string ⟨n.bytes.toArray⟩, .string ⟨n.dest.toArray⟩] 58) := ⟨_, rfl⟩
  have HM1 := Lib.hid (show SM s b W1 st by rw [hW1]; exact hM.alloc _)
  have hM1 : SM s b (w.alloc (.cells #[.int .i64 n.kind, .int .i64 n.id, .string ⟨n.bytes.toArray⟩, .string ⟨n.dest.toArray⟩] 58)) st := hM.alloc _
  have hlk : (Instr.lookup 64 (.map (some b)) (.string ⟨p.toArray⟩) true).run Tryd.prog (w.alloc (.cells #[.int .i64 n.kind, .int .i64 n.id, .string ⟨n.bytes.toArray⟩, .string ⟨n.dest.toArray⟩] 58)) = .ok (.tuple #[.agg #[.int .i64 o.kind, .int .i64 o.id, .string ⟨o.bytes.toArray⟩, .string ⟨o.dest.toArray⟩], .bool (st.has p).isSome]) (w.alloc (.cells #[.int .i64 n.kind, .int .i64 n.id, .string ⟨n.bytes.toArray⟩, .string ⟨n.dest.toArray⟩] 58)) := by rw [ho]; exact hM1.look p (by omega)
  have s0 := hM.cell0
  have hslt := hM.lt
  have HM := Lib.hid hM
  clear ho hW1 hM1 hM
  generalize hh : (st.has p).isSome = hs at *
  cases hs with
  | true =>
    have Hf : Hid (freshL st p n = (0, st.put p n)) := Lib.hid (by rw [freshL, if_neg]; intro h; rw [h.1] at hh; cases hh)
    rw [Hf.out]
    clear hh
    go_enter Tryd.func39, Tryd.ntmps39
    go_upto_region 4 with fail
    have hXM : SM s b ((w.alloc (.cells #[.int .i64 n.kind, .int .i64 n.id, .string ⟨n.bytes.toArray⟩, .string ⟨n.dest.toArray⟩] 58)).alloc (.cells #[.int .i64 o.kind, .int .i64 o.id, .string ⟨o.bytes.toArray⟩, .string ⟨o.dest.toArray⟩] 58)) st := (HM.out.alloc _).alloc _
    have hXB : Below w.heap.size w ((w.alloc (.cells #[.int .i64 n.kind, .int .i64 n.id, .string ⟨n.bytes.toArray⟩, .string ⟨n.dest.toArray⟩] 58)).alloc (.cells #[.int .i64 o.kind, .int .i64 o.id, .string ⟨o.bytes.toArray⟩, .string ⟨o.dest.toArray⟩] 58)) := ((Below.refl _ w).alloc (Nat.le_refl _) _).alloc (by simp) _
    have hXN : ((w.alloc (.cells #[.int .i64 n.kind, .int .i64 n.id, .string ⟨n.bytes.toArray⟩, .string ⟨n.dest.toArray⟩] 58)).alloc (.cells #[.int .i64 o.kind, .int .i64 o.id, .string ⟨o.bytes.toArray⟩, .string ⟨o.dest.toArray⟩] 58)).heap[w.heap.size]? = some (.cells #[.int .i64 n.kind, .int .i64 n.id, .string ⟨n.bytes.toArray⟩, .string ⟨n.dest.toArray⟩] 58) := by rw [heap_alloc_old _ _ (h := by simp)]; exact heap_alloc_new _ _
    clear hlk s0
    generalize ((w.alloc (.cells #[.int .i64 n.kind, .int .i64 n.id, .string ⟨n.bytes.toArray⟩, .string ⟨n.dest.toArray⟩] 58)).alloc (.cells #[.int .i64 o.kind, .int .i64 o.id, .string ⟨o.bytes.toArray⟩, .string ⟨o.dest.toArray⟩] 58)) = X at *
    have s0 := hXM.cell0
    have c0 : X.cell? ⟨w.heap.size, 0, none⟩ = some (.int .i64 n.kind) := by rw [Lib.cell_of_heap hXN]; rfl
    have c1 : X.cell? ⟨w.heap.size, 1, none⟩ = some (.int .i64 n.id) := by rw [Lib.cell_of_heap hXN]; rfl
    have c2 : X.cell? ⟨w.heap.size, 2, none⟩ = some (.string ⟨n.bytes.toArray⟩) := by rw [Lib.cell_of_heap hXN]; rfl
    have c3 : X.cell? ⟨w.heap.size, 3, none⟩ = some (.string ⟨n.dest.toArray⟩) := by rw [Lib.cell_of_heap hXN]; rfl
    obtain ⟨w3, hrun, hM3, hg3⟩ := SM.putM (w := X.drew) hXM.drew hc p n (by omega)
    have HM3 := Lib.hid hM3
    have HG3 := Lib.hid (grown_trans (grown_of_below hXB.drew) hg3)
    clear hXM hXB hXN hM3 hg3
    go_still_tail 6, (by kernel_rfl)
    change wpList _ _ _ _ _ X.drew
    go_wp2
    go_ret
    exact ⟨rfl, HM3.out, HG3.out⟩
  | false =>
    have hn : st.has p = none := by cases h : st.has p with
      | none => rfl
      | some x => rw [h] at hh; cases hh
    have hlen : (Builtin.len_ #[64] 3 #[.map (some b)]).run Tryd.prog ((w.alloc (.cells #[.int .i64 n.kind, .int .i64 n.id, .string ⟨n.bytes.toArray⟩, .string ⟨n.dest.toArray⟩] 58)).alloc (.cells #[.int .i64 o.kind, .int .i64 o.id, .string ⟨o.bytes.toArray⟩, .string ⟨o.dest.toArray⟩] 58)) = .ok (.int .i64 st.count) ((w.alloc (.cells #[.int .i64 n.kind, .int .i64 n.id, .string ⟨n.bytes.toArray⟩, .string ⟨n.dest.toArray⟩] 58)).alloc (.cells #[.int .i64 o.kind, .int .i64 o.id, .string ⟨o.bytes.toArray⟩, .string ⟨o.dest.toArray⟩] 58)) := ((HM.out.alloc _).alloc _).len _
    by_cases h5 : 500 < st.count
    · have Hf : Hid (freshL st p n = (3, st)) := Lib.hid (by rw [freshL, if_pos ⟨hn, h5⟩])
      rw [Hf.out]
      clear hh hn
      go_enter Tryd.func39, Tryd.ntmps39
      go_wp2
      go_ret
      exact ⟨rfl, (HM.out.alloc _).alloc _, grown_none (grown_of_below (((Below.refl _ w).alloc (Nat.le_refl _) _).alloc (by simp) _))⟩
    · have Hf : Hid (freshL st p n = (0, st.put p n)) := Lib.hid (by rw [freshL, if_neg]; intro h; exact h5 h.2)
      rw [Hf.out]
      clear hh hn
      go_enter Tryd.func39, Tryd.ntmps39
      go_upto_region 4 with fail
      have hXM : SM s b ((w.alloc (.cells #[.int .i64 n.kind, .int .i64 n.id, .string ⟨n.bytes.toArray⟩, .string ⟨n.dest.toArray⟩] 58)).alloc (.cells #[.int .i64 o.kind, .int .i64 o.id, .string ⟨o.bytes.toArray⟩, .string ⟨o.dest.toArray⟩] 58)) st := (HM.out.alloc _).alloc _
      have hXB : Below w.heap.size w ((w.alloc (.cells #[.int .i64 n.kind, .int .i64 n.id, .string ⟨n.bytes.toArray⟩, .string ⟨n.dest.toArray⟩] 58)).alloc (.cells #[.int .i64 o.kind, .int .i64 o.id, .string ⟨o.bytes.toArray⟩, .string ⟨o.dest.toArray⟩] 58)) := ((Below.refl _ w).alloc (Nat.le_refl _) _).alloc (by simp) _
      have hXN : ((w.alloc (.cells #[.int .i64 n.kind, .int .i64 n.id, .string ⟨n.bytes.toArray⟩, .string ⟨n.dest.toArray⟩] 58)).alloc (.cells #[.int .i64 o.kind, .int .i64 o.id, .string ⟨o.bytes.toArray⟩, .string ⟨o.dest.toArray⟩] 58)).heap[w.heap.size]? = some (.cells #[.int .i64 n.kind, .int .i64 n.id, .string ⟨n.bytes.toArray⟩, .string ⟨n.dest.toArray⟩] 58) := by rw [heap_alloc_old _ _ (h := by simp)]; exact heap_alloc_new _ _
      clear hlk s0 hlen
      generalize ((w.alloc (.cells #[.int .i64 n.kind, .int .i64 n.id, .string ⟨n.bytes.toArray⟩, .string ⟨n.dest.toArray⟩] 58)).alloc (.cells #[.int .i64 o.kind, .int .i64 o.id, .string ⟨o.bytes.toArray⟩, .string ⟨o.dest.toArray⟩] 58)) = X at *
      have s0 := hXM.cell0
      have c0 : X.cell? ⟨w.heap.size, 0, none⟩ = some (.int .i64 n.kind) := by rw [Lib.cell_of_heap hXN]; rfl
      have c1 : X.cell? ⟨w.heap.size, 1, none⟩ = some (.int .i64 n.id) := by rw [Lib.cell_of_heap hXN]; rfl
      have c2 : X.cell? ⟨w.heap.size, 2, none⟩ = some (.string ⟨n.bytes.toArray⟩) := by rw [Lib.cell_of_heap hXN]; rfl
      have c3 : X.cell? ⟨w.heap.size, 3, none⟩ = some (.string ⟨n.dest.toArray⟩) := by rw [Lib.cell_of_heap hXN]; rfl
      obtain ⟨w3, hrun, hM3, hg3⟩ := SM.putM (w := X.drew) hXM.drew hc p n (by omega)
      have HM3 := Lib.hid hM3
      have HG3 := Lib.hid (grown_trans (grown_of_below hXB.drew) hg3)
      clear hXM hXB hXN hM3 hg3
      go_still_tail 6, (by kernel_rfl)
      change wpList _ _ _ _ _ X.drew
      go_wp2
      go_ret
      exact ⟨rfl, HM3.out, HG3.out⟩

end Go.Proofs.YtgoecmfjidcieaaDoor
