/- Lemmas that the claim is proved from: what calls of functions of the program come to (contracts), and plain laws. Each lemma bears its own conditions. -/
import Derived.Test.YtmckjdopplchbaaDoorTOpen
import Derived.Test.YtmckjdopplchbaaDoorTPlain3
import Derived.SliceStrings
namespace Go.Proofs.YtmckjdopplchbaaDoor
set_option linter.unusedVariables false
set_option linter.unusedSimpArgs false
open Go.ChangeShapes Go.WideShapes Go.ChangeAt Go.RowKit

theorem cellsString : Tryd.prog.cellsOf 9 = 1 := by kernel_rfl
theorem plain_addr {w : World} {a : Addr} {v : Value} (h : w.cell? (a.add 0) = some v) : a = ⟨a.block, a.off, .none⟩ := by
  obtain ⟨b, o, s⟩ := a
  have : s = .none := by simpa [Addr.add] using World.cell?_spot h
  subst this
  rfl

theorem bulk_strs {H : Type} : ∀ (l : List ByteArray), Rows.uptoBulkAll (Go.ChangeShapes.strs (H := H) l) = bytesN (l.map (·.data.toList)) + l.length
  | [] => rfl
  | s :: l => by
    have ih := bulk_strs (H := H) l
    simp only [Go.ChangeShapes.strs, List.map_cons, Rows.uptoBulkAll, Rows.uptoBulk, bytesN, List.sum_cons, List.length_cons] at ih ⊢
    rw [ih]; omega

theorem open_strs_trod {H : Type} {enc : TypeId × Value → H} {w : World} {a0 : Option Addr} {n cap : Nat} {d : DataW H} {ps : List MemPlace} (h : DataW.Trod enc Tryd.prog w 0 (fun _ => true) true 29 (.slice a0 n cap) d ps) :
    ∃ g, Strs w (.slice a0 n cap) g ∧ bytesN g + g.length ≤ Rows.uptoBulk d := by
  obtain ⟨fuel, hf⟩ := h
  rcases open_strings Tryd.underlying29 Tryd.underlying9 cellsString hf with ⟨hcs, hx⟩ | ⟨a, len', cap', ss, hcs, _, hl, hm, hz, hx, hcell, hsz⟩
  · simp [Value.cells] at hcs
    obtain ⟨rfl, rfl, rfl⟩ := hcs
    exact ⟨[], ⟨.none, 0, 0, 0, rfl, by simp, fun h => absurd h (by simp), by simp, fun i hi => absurd hi (by simp)⟩, by simp [bytesN]⟩
  · simp [Value.cells] at hcs
    obtain ⟨rfl, rfl, rfl⟩ := hcs
    simp only [if_true] at hz
    have hlen : ((ss.take n).map (·.data.toList)).length = n := by rw [List.length_map, List.length_take]; omega
    refine ⟨(ss.take n).map (·.data.toList), ⟨some a, a.block, a.off, cap, by rw [hlen], by rw [hlen]; unfold maxLen at hm; omega, fun h0 => ?_, by rw [hlen]; exact hl, fun i hi => ?_⟩, ?_⟩
    · rw [hlen] at h0
      rw [← plain_addr (hcell 0 (by omega))]
    · rw [hlen] at hi
      have h1 := hcell i (by omega)
      have h2 := plain_addr (hcell 0 (by omega))
      rw [h2, Addr.add_lit] at h1
      rw [h1]
      have hi2 : i < ss.length := by omega
      simp [snth, List.getD, List.getElem?_take, hi, hi2]
    · have hx1 : d = .slice (Go.ChangeShapes.strs (ss.take n)) (Go.ChangeShapes.strs (ss.drop n)) := congrArg Prod.fst hx
      rw [hx1, Rows.uptoBulk, bulk_strs, hlen, List.length_take]
      omega

theorem arg_strs {H : Type} {enc : TypeId × Value → H} {W W' : World} {v : Value} {d : DataW H} {ps : List MemPlace} (h : DataW.Trod enc Tryd.prog W 0 (fun _ => true) true 29 v d ps) (hb : Below W.heap.size W W') (hlt : ∀ x ∈ ps, x.block < W.heap.size) :
    DataW.Trod enc Tryd.prog W' 0 (fun b => decide (b < W.heap.size)) true 29 v d ps := Below.trod laidOut (by kernel_rfl) (of_decide_eq_true (by kernel_rfl)) h hb hlt

theorem bulk_bound {H : Type} {l : List (DataW H)} (hk : Rows.uptoSmall H l = true) : Rows.uptoBulkAll l ≤ 1048576 := of_decide_eq_true hk

end Go.Proofs.YtmckjdopplchbaaDoor
