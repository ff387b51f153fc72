/- Lemmas that the claim is proved from: what calls of functions of the program come to (contracts), and plain laws. Each lemma bears its own conditions. -/
import Derived.Test.YtgoecmfjidcieaaDoorChecked
import Derived.WalkKit
import Derived.Lib.Hide
import Derived.OneCell
import Derived.Below
import Derived.WalkSmall
import Derived.Deep.OwnRows
import Derived.Deep.AppendLies
import Derived.Laws.AppendOwn
namespace Go.Proofs.YtgoecmfjidcieaaDoor
set_option linter.unusedVariables false
set_option linter.unusedSimpArgs false
open Go.RowKit

/-- element i of a list of texts, behind a name that simp leaves alone -/
def snth (xs : List (List UInt8)) (i : Nat) : List UInt8 := xs.getD i []
theorem snth_eq (xs : List (List UInt8)) (i : Nat) (h : i < xs.length) : snth xs i = xs[i] := by simp [snth, List.getD, h]
theorem snth_drop (xs : List (List UInt8)) (i : Nat) (h : i < xs.length) : xs.drop i = snth xs i :: xs.drop (i + 1) := by
  rw [snth_eq xs i h]; exact List.drop_eq_getElem_cons h
theorem snth_take (xs : List (List UInt8)) (i : Nat) (h : i < xs.length) : xs.take (i + 1) = xs.take i ++ [snth xs i] := by
  rw [snth_eq xs i h]; simp
theorem snth_mem (xs : List (List UInt8)) (i : Nat) (h : i < xs.length) : snth xs i ∈ xs := by rw [snth_eq xs i h]; exact List.getElem_mem h

def strs (xs : List (List UInt8)) : List Value := xs.map fun x => Value.string ⟨x.toArray⟩

/-- v is a slice of texts that reads as xs. -/
def Strs (w : World) (v : Value) (xs : List (List UInt8)) : Prop :=
  ∃ (a : Option Addr) (b off cap : Nat), v = .slice a xs.length cap ∧ xs.length ≤ 9223372036854775807 ∧ (0 < xs.length → a = some ⟨b, off, none⟩) ∧ xs.length ≤ cap ∧
    ∀ i, i < xs.length → w.cell? ⟨b, off + i, none⟩ = some (.string ⟨(snth xs i).toArray⟩)
/-- .. whose cells lie below block B. -/
def StrsB (B : Nat) (w : World) (v : Value) (xs : List (List UInt8)) : Prop :=
  ∃ (a : Option Addr) (b off cap : Nat), v = .slice a xs.length cap ∧ xs.length ≤ 9223372036854775807 ∧ (0 < xs.length → a = some ⟨b, off, none⟩) ∧ xs.length ≤ cap ∧ (0 < xs.length → b < B) ∧
    ∀ i, i < xs.length → w.cell? ⟨b, off + i, none⟩ = some (.string ⟨(snth xs i).toArray⟩)
theorem Strs.toB {w : World} {v : Value} {xs : List (List UInt8)} (h : Strs w v xs) : StrsB w.heap.size w v xs := by
  obtain ⟨a, b, off, cap, hv, hm, ha, hcap, hc⟩ := h
  exact ⟨a, b, off, cap, hv, hm, ha, hcap, fun h0 => World.block_lt_of_cell? _ _ (hc 0 h0), hc⟩
theorem StrsB.strs {B : Nat} {w : World} {v : Value} {xs : List (List UInt8)} (h : StrsB B w v xs) : Strs w v xs := by
  obtain ⟨a, b, off, cap, hv, hm, ha, hcap, _, hc⟩ := h
  exact ⟨a, b, off, cap, hv, hm, ha, hcap, hc⟩
theorem StrsB.below {B : Nat} {w w' : World} {v : Value} {xs : List (List UInt8)} (h : StrsB B w v xs) (hb : Below B w w') : StrsB B w' v xs := by
  obtain ⟨a, b, off, cap, hv, hm, ha, hcap, hlt, hc⟩ := h
  exact ⟨a, b, off, cap, hv, hm, ha, hcap, hlt, fun i hi => by rw [hb.cell (p := ⟨b, off + i, none⟩) (hlt (by omega))]; exact hc i hi⟩
theorem StrsB.mono {B B' : Nat} {w : World} {v : Value} {xs : List (List UInt8)} (h : StrsB B w v xs) (hB : B ≤ B') : StrsB B' w v xs := by
  obtain ⟨a, b, off, cap, hv, hm, ha, hcap, hlt, hc⟩ := h
  exact ⟨a, b, off, cap, hv, hm, ha, hcap, fun h0 => Nat.lt_of_lt_of_le (hlt h0) hB, hc⟩

/-- v is a slice of texts that the call has made, and reads as xs. -/
def OwnS (B : Nat) (w : World) (v : Value) (xs : List (List UInt8)) : Prop := w.ownsRow B 9 1 v xs.length (strs xs)
theorem OwnS.nil (B : Nat) (w : World) : OwnS B w (.slice none 0 0) [] := World.ownsRow_nil w B 9 1
theorem OwnS.alloc {B : Nat} {w : World} {v : Value} {xs : List (List UInt8)} (h : OwnS B w v xs) (o : Obj) : OwnS B (w.alloc o) v xs := World.ownsRow.alloc h o
theorem OwnS.drewN {B : Nat} {w : World} {v : Value} {xs : List (List UInt8)} (h : OwnS B w v xs) (n : Nat) : OwnS B (w.drewN n) v xs := h
theorem OwnS.mono {B B' : Nat} {w : World} {v : Value} {xs : List (List UInt8)} (h : OwnS B w v xs) (hB : B' ≤ B) : OwnS B' w v xs := by
  obtain ⟨h1, h2⟩ := h
  refine ⟨h1, ?_⟩
  rcases h2 with h2 | ⟨g, cap, cur, hv, hg, r⟩
  · exact Or.inl h2
  · exact Or.inr ⟨g, cap, cur, hv, Nat.le_trans hB hg, r⟩
theorem OwnS.strs {B : Nat} {w : World} {v : Value} {xs : List (List UInt8)} (h : OwnS B w v xs) : Strs w v xs := by
  have h' := h
  obtain ⟨h1, h2⟩ := h
  rcases h2 with ⟨rfl, h0⟩ | ⟨g, cap, cur, rfl, hg, hh, hle, hcap, hs, ht⟩
  · obtain rfl : xs = [] := List.eq_nil_of_length_eq_zero h0
    exact ⟨none, 0, 0, 0, rfl, by simp, fun h => absurd h (by simp), by simp, fun i hi => absurd hi (by simp)⟩
  · refine ⟨some ⟨g, 0, none⟩, g, 0, cap, rfl, by unfold maxLen at hcap; omega, fun _ => rfl, hle, fun i hi => ?_⟩
    have := World.ownsRow.cells h' (g := g) rfl i (.string ⟨(snth xs i).toArray⟩) (by simp [Go.Proofs.YtgoecmfjidcieaaDoor.strs, snth, List.getD, hi])
    simpa [Addr.add_lit] using this
theorem OwnS.lt {B : Nat} {w : World} {v : Value} {xs : List (List UInt8)} (h : OwnS B w v xs) : ∀ k, v.ownBlock = some k → B ≤ k ∧ k < w.heap.size := World.ownsRow.lt h
theorem OwnS.form {B : Nat} {w : World} {v : Value} {xs : List (List UInt8)} (h : OwnS B w v xs) : ∃ a c, v = .slice a xs.length c := by
  rcases h.2 with ⟨rfl, h0⟩ | ⟨g, cap, cur, rfl, _⟩
  · exact ⟨none, 0, by rw [h0]⟩
  · exact ⟨_, _, rfl⟩
theorem OwnS.below {B : Nat} {w w' : World} {v : Value} {xs : List (List UInt8)} (h : OwnS B w v xs) (hb : Below w.heap.size w w') : OwnS B w' v xs := by
  refine ⟨h.1, ?_⟩
  rcases h.2 with h2 | ⟨g, cap, cur, hv, hg, hh, r⟩
  · exact Or.inl h2
  · refine Or.inr ⟨g, cap, cur, hv, hg, ?_, r⟩
    have : g < w.heap.size := by
      rcases Nat.lt_or_ge g w.heap.size with h' | h'
      · exact h'
      · simp [Array.getElem?_eq_none h'] at hh
    rw [hb.block g this]; exact hh

theorem info_string : (Tryd.prog.info? 9).map (fun i => (i.zero, i.size, i.bytes)) = some (some (.string ⟨#[]⟩), 1, 16) := by kernel_rfl

/-- append of one text to a slice that the call has made -/
theorem wpList_appendStr (w : World) {ops : Array Oper} {rest : List Oper} {o : Oper} {a : Act} {Q : Exit → Act → World → Prop} (hgd : o.guard = none) (s x : Operand)
    (ho : o.op = .call { callee := .builtin .append, args := #[s, x], argTypes := #[44, 44] })
    (B : Nat) (v : Value) (xs : List (List UInt8)) (hs : a.eval s = v) (hown : OwnS B w v xs) (nb : Nat) (c : List UInt8) (hx : a.eval x = .slice (some ⟨nb, 0, none⟩) 1 1) (hcell : w.cell? ⟨nb, 0, none⟩ = some (.string ⟨c.toArray⟩))
    (hlen : xs.length ≤ 1099511627776) (hB : B ≤ w.heap.size)
    (h : ∀ v' w', OwnS B w' v' (xs ++ [c]) → Below B w w' → wpList Tryd.prog ops Q rest (a.put o.dst v') w') : wpList Tryd.prog ops Q (o :: rest) a w := by
  obtain ⟨i0, hi, hz0, hz1, hz2⟩ := info_parts info_string
  have hlt := World.ownsRow.lt hown
  refine wpList_append_own w hgd s x 44 ho B 9 i0 (.string ⟨#[]⟩) 1 16 Tryd.underlying44 hi hz0 hz1 hz2 rfl (by decide) v xs.length (Go.Proofs.YtgoecmfjidcieaaDoor.strs xs) hs hown ⟨nb, 0, none⟩ 1 1 [.string ⟨c.toArray⟩] hx rfl ?_ ?_ ?_ ?_ hB ?_
  · intro j u hj
    match j, hj with
    | 0, hj => simp at hj; subst hj; simpa [Addr.add_lit] using hcell
    | j + 1, hj => simp at hj
  · intro u hu; simp at hu; subst hu; rfl
  · unfold maxLen; omega
  · omega
  · intro v' w' h1 h2 _
    refine h v' w' ?_ ((Below.refl B w).grown h2 hB fun k hk => (hlt k hk).1)
    simpa [OwnS, Go.Proofs.YtgoecmfjidcieaaDoor.strs] using h1

end Go.Proofs.YtgoecmfjidcieaaDoor
