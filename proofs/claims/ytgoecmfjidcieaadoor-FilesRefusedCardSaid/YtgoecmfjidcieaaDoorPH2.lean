/- A region that draws its order, whose operations only read and whose callees may make memory of their own: one walk, in the order of the text. The worlds that may come up: all those in which what stood ahead of the region is as it was. -/
import Derived.BigQuiet
import Derived.Below
import Derived.KernelRfl
import Derived.Test.YtgoecmfjidcieaaDoorChecked
namespace Go.Proofs.YtgoecmfjidcieaaDoor
set_option linter.unusedVariables false
set_option linter.unusedSimpArgs false
open Go.RowKit

/-- a world in which all that stood in w is as it was -/
structure Later (w : World) where
  w' : World
  h : Below w.heap.size w w'
instance Later.inst (w : World) : Nonempty (Later w) := ⟨⟨w, Below.refl _ w⟩⟩
theorem Later.cell {w : World} (x : Later w) {p : Addr} {v : Value} (c : w.cell? p = some v) : x.w'.cell? p = some v := (x.h.cell (World.block_lt_of_cell? _ _ c)).trans c
theorem Later.lt {w : World} (x : Later w) {n : Nat} (h : n < w.heap.size) : n < x.w'.heap.size := Nat.lt_of_lt_of_le h x.h.size
theorem Later.call {P : Program} {w : World} (x : Later w) {f : FuncId} {args : Array Value} {v : Value} (h : Calls P f args x.w' fun e w' => e = .returned v ∧ Below x.w'.heap.size x.w' w') :
    Calls P f args x.w' fun e w'' => e = .returned v ∧ ∃ y : Later w, w'' = y.w' :=
  h.mono fun _ w' ⟨he, hb⟩ => ⟨he, ⟨⟨w', x.h.trans (hb.mono x.h.size)⟩, rfl⟩⟩
theorem Later.call_same {P : Program} {w : World} (x : Later w) {f : FuncId} {args : Array Value} {v : Value} (h : Calls P f args x.w' fun e w' => e = .returned v ∧ w' = x.w') :
    Calls P f args x.w' fun e w'' => e = .returned v ∧ ∃ y : Later w, w'' = y.w' :=
  h.mono fun _ w' ⟨he, hb⟩ => ⟨he, ⟨x, hb⟩⟩
theorem wp_region_later {P : Program} {id : Nat} {Q : Exit → Act → World → Prop} {a : Act} {w : World} {l : List Oper} (hm : P.follows .mixedOrders = true) (hB : Region.lexB .any l.toArray = true)
    (h : wpQuiet P l.toArray (fun w' => ∃ x : Later w, w' = x.w') (fun a' => ∀ w', (∃ x : Later w, w' = x.w') → Q .normal a' w') l a) : (Code.region id l.toArray true).wp P Q a w :=
  wp_region_quiet (C := fun w' => ∃ x : Later w, w' = x.w') hm hB ⟨⟨_, (Below.refl _ w).drew⟩, rfl⟩ (by simpa using h)

end Go.Proofs.YtgoecmfjidcieaaDoor
