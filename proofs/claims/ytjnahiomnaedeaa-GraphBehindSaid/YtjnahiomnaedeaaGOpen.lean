/-
  From a reading of the arguments to the words of the walks.
-/
import Derived.Test.YtjnahiomnaedeaaRows
import Derived.Test.YtjnahiomnaedeaaGW11
import Derived.ProofKit
import Derived.OpenShut
import Derived.Carry
import Derived.Deep.Matrix
namespace Go.Proofs.Ytjnahiomnaedeaa
set_option linter.unusedVariables false
set_option linter.unusedSimpArgs false
open Go.ChangeShapes Go.WideShapes Go.ChangeAt Go.RowKit Go.Deep

theorem own : ownKnob Try.prog.godebug = none := by kernel_rfl
theorem laidOut : laidOutB Try.prog = true := by kernel_rfl
theorem cellsInt : Try.prog.cellsOf 3 = 1 := by kernel_rfl
theorem cellsInts : Try.prog.cellsOf 23 = 1 := by kernel_rfl

theorem plain_addr {w : World} {a : Addr} {v : Value} (h : w.cell? (a.add 0) = some v) : a = ⟨a.block, a.off, none⟩ := by
  obtain ⟨b, o, s⟩ := a
  have : s = none := by simpa [Addr.add] using World.cell?_spot h
  subst this
  rfl

theorem ints_of_cells {w : World} {a : Addr} {n cap : Nat} {zs : List Int} (hl : n ≤ cap) (hm : cap ≤ maxLen) (hz : zs.length = cap) (hc : ∀ j, j < cap → w.cell? (a.add j) = some (.int .i64 (zs.getD j 0))) : Ints w (.slice (some a) n cap) (zs.take n) := by
  have hlen : (zs.take n).length = n := by rw [List.length_take]; omega
  refine ⟨some a, a.block, a.off, cap, by rw [hlen], by rw [hlen]; unfold maxLen at hm; omega, fun h0 => ?_, fun i hi => ?_⟩
  · rw [hlen] at h0
    rw [← plain_addr (hc 0 (by omega))]
  · rw [hlen] at hi
    have h1 := hc i (by omega)
    have h2 := plain_addr (hc 0 (by omega))
    rw [h2, Addr.add_lit] at h1
    rw [h1]
    simp [nth, List.getD, List.getElem?_take, hi]

theorem open_ints_trod {H : Type} {enc : TypeId × Value → H} {w : World} {a0 : Option Addr} {n cap : Nat} {d : DataW H} {ps : List MemPlace} (h : DataW.Trod enc Try.prog w 0 (fun _ => true) true 23 (.slice a0 n cap) d ps) :
    ∃ xs, Ints w (.slice a0 n cap) xs ∧ NilOk (.slice a0 n cap) := by
  obtain ⟨fuel, hf⟩ := h
  rcases open_ints Try.underlying23 Try.underlying3 cellsInt hf with ⟨hcs, hx⟩ | ⟨a, len', cap', zs, hcs, _, hl, hm, hz, hx, hcell, hwz⟩
  · simp [Value.cells] at hcs
    obtain ⟨rfl, rfl, rfl⟩ := hcs
    exact ⟨[], ⟨none, 0, 0, 0, rfl, by simp, fun h => absurd h (by simp), fun i hi => absurd hi (by simp)⟩, by rintro n c h; simp at h; omega⟩
  · simp [Value.cells] at hcs
    obtain ⟨rfl, rfl, rfl⟩ := hcs
    simp only [if_true] at hz
    exact ⟨_, ints_of_cells hl hm hz (fun j hj => hcell j (by rw [hz]; exact hj)), by rintro n c h; simp at h⟩

theorem open_rows_trod {H : Type} {enc : TypeId × Value → H} {w : World} {a0 : Option Addr} {n cap : Nat} {d : DataW H} {ps : List MemPlace} (h : DataW.Trod enc Try.prog w 0 (fun _ => true) true 22 (.slice a0 n cap) d ps) :
    ∃ g, IntRows w (.slice a0 n cap) g := by
  obtain ⟨fuel, hf⟩ := h
  rcases open_int_rows Try.underlying22 Try.underlying23 Try.underlying3 cellsInts cellsInt hf with ⟨hcs, hx⟩ | ⟨a, len', cap', A, L, C, Z, hcs, _, hl, hm, hx, hrows⟩
  · simp [Value.cells] at hcs
    obtain ⟨rfl, rfl, rfl⟩ := hcs
    exact ⟨[], none, 0, 0, 0, rfl, by simp, fun h => absurd h (by simp), fun i hi => absurd hi (by simp)⟩
  · simp [Value.cells] at hcs
    obtain ⟨rfl, rfl, rfl⟩ := hcs
    refine ⟨(List.range n).map (fun r => (Z r).take (L r)), some a, a.block, a.off, cap, by simp, by simp; unfold maxLen at hm; omega, fun h0 => ?_, fun i hi => ?_⟩
    · simp at h0
      rw [← plain_addr (hrows 0 (by omega)).1]
    · simp at hi
      obtain ⟨h1, h2, h3, h4, _, h5, h6⟩ := hrows i (by omega)
      have h7 := plain_addr (hrows 0 (by omega)).1
      rw [h7, Addr.add_lit] at h1
      refine ⟨_, h1, ?_⟩
      rw [show row ((List.range n).map (fun r => (Z r).take (L r))) i = (Z i).take (L i) by simp [row, List.getD, hi]]
      cases hA : A i with
      | none =>
        have hC := h5 hA
        have hL : L i = 0 := by omega
        rw [hL]
        exact ⟨none, 0, 0, C i, by simp, by simp, fun h => absurd h (by simp), fun i hi => absurd hi (by simp)⟩
      | some a' => exact ints_of_cells h2 h3 h4 (h6 a' hA).2

theorem arg_rows {H : Type} {enc : TypeId × Value → H} {W W' : World} {v : Value} {d : DataW H} {ps : List MemPlace} (h : DataW.Trod enc Try.prog W 0 (fun _ => true) true 22 v d ps) (hb : Below W.heap.size W W') (hlt : ∀ x ∈ ps, x.block < W.heap.size) :
    DataW.Trod enc Try.prog W' 0 (fun b => decide (b < W.heap.size)) true 22 v d ps := Below.trod laidOut (by kernel_rfl) (of_decide_eq_true (by kernel_rfl)) h hb hlt
theorem arg_ints {H : Type} {enc : TypeId × Value → H} {W W' : World} {v : Value} {d : DataW H} {ps : List MemPlace} (h : DataW.Trod enc Try.prog W 0 (fun _ => true) true 23 v d ps) (hb : Below W.heap.size W W') (hlt : ∀ x ∈ ps, x.block < W.heap.size) :
    DataW.Trod enc Try.prog W' 0 (fun b => decide (b < W.heap.size)) true 23 v d ps := Below.trod laidOut (by kernel_rfl) (of_decide_eq_true (by kernel_rfl)) h hb hlt

end Go.Proofs.Ytjnahiomnaedeaa
