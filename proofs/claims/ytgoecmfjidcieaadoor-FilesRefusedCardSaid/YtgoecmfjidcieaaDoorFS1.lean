/- the store: plain, and in memory -/
import Derived.Test.YtgoecmfjidcieaaDoorFU1
import Derived.Maps.OwnSet
namespace Go.Proofs.YtgoecmfjidcieaaDoor
set_option linter.unusedVariables false
set_option linter.unusedSimpArgs false
open Go.RowKit

structure NodeL where
  kind : Int
  id : Int
  bytes : List UInt8
  dest : List UInt8
def NodeL.zero : NodeL := ⟨0, 0, [], []⟩
structure StL where
  has : List UInt8 → Option NodeL
  count : Nat
  last : Int
def StL.get (s : StL) (p : List UInt8) : NodeL := (s.has p).getD NodeL.zero
def StL.put (s : StL) (p : List UInt8) (n : NodeL) : StL := ⟨fun q => if q = p then some n else s.has q, if (s.has p).isSome then s.count else s.count + 1, s.last⟩
def StL.new : StL := ⟨fun q => if q = [47] then some ⟨2, 0, [], []⟩ else none, 1, 0⟩

structure OkN (n : NodeL) : Prop where
  bytes : n.bytes.length ≤ 1048576
  dst : n.dest.length ≤ 200
  link : n.kind = 3 → n.dest ≠ []
structure OkSt (s : StL) : Prop where
  node : ∀ p n, s.has p = some n → OkN n
  count : s.count ≤ 501
  last : 0 ≤ s.last
theorem OkN.zero : OkN NodeL.zero := ⟨by simp [NodeL.zero], by simp [NodeL.zero], by simp [NodeL.zero]⟩
theorem OkSt.get {s : StL} (h : OkSt s) (p : List UInt8) : OkN (s.get p) := by
  unfold StL.get
  cases hp : s.has p with
  | none => exact OkN.zero
  | some n => exact h.node p n hp
theorem OkSt.new : OkSt StL.new := by
  refine ⟨fun p n h => ?_, by simp [StL.new], by simp [StL.new]⟩
  simp only [StL.new] at h
  split at h
  · obtain rfl := Option.some.inj h
    exact ⟨by simp, by simp, by simp⟩
  · cases h
theorem OkSt.put {s : StL} (h : OkSt s) {p : List UInt8} {n : NodeL} (hn : OkN n) (hc : (s.has p).isSome = true ∨ s.count ≤ 500) : OkSt (s.put p n) := by
  refine ⟨fun q m hq => ?_, ?_, h.last⟩
  · simp only [StL.put] at hq
    split at hq
    · obtain rfl := Option.some.inj hq; exact hn
    · exact h.node q m hq
  · have := h.count
    simp only [StL.put]
    split
    · exact this
    · rename_i hx
      rcases hc with hc | hc
      · exact absurd hc hx
      · omega

def nodeV (n : NodeL) : Value := .agg #[.int .i64 n.kind, .int .i64 n.id, .string ⟨n.bytes.toArray⟩, .string ⟨n.dest.toArray⟩]
abbrev DN := DataW Unit
def nodeD (n : NodeL) : DN := .agg [.lit (.int .i64 n.kind), .lit (.int .i64 n.id), .lit (.string n.bytes), .lit (.string n.dest)]
def nodeR (v : Value) : Option (DN × List MemPlace) :=
  match v with
  | .agg cs => match cs.toList with
    | [.int .i64 k, .int .i64 i, .string b, .string t] => some (nodeD ⟨k, i, b.data.toList, t.data.toList⟩, [])
    | _ => none
  | _ => none
theorem nodeR_mk (n : NodeL) : nodeR (nodeV n) = some (nodeD n, []) := rfl
theorem nodeR_inv {v : Value} {z : DN × List MemPlace} (h : nodeR v = some z) : ∃ n, v = nodeV n ∧ z = (nodeD n, []) := by
  unfold nodeR at h
  split at h
  · rename_i cs
    split at h
    · rename_i k i b t hc
      refine ⟨⟨k, i, b.data.toList, t.data.toList⟩, ?_, (Option.some.inj h).symm⟩
      obtain ⟨l⟩ := cs
      simp only at hc
      subst hc
      rfl
    · cases h
  · cases h
theorem nodeD_inj {n m : NodeL} (h : nodeD n = nodeD m) : n = m := by
  obtain ⟨k, i, b, t⟩ := n
  obtain ⟨k', i', b', t'⟩ := m
  simp only [nodeD, DataW.agg.injEq, List.cons.injEq, DataW.lit.injEq, Lit.int.injEq, Lit.string.injEq] at h
  simp_all

structure SRep (D : DN) (s : StL) : Prop where
  tidy : Maps.Tidy D
  has : ∀ p, Maps.has D (.string p) = (s.has p).isSome
  node : ∀ p n z, s.has p = some n → D.atKey (.string p) z = nodeD n
  size : Maps.size D = s.count
theorem SRep.get {D : DN} {s : StL} (h : SRep D s) (p : List UInt8) : D.atKey (.string p) (nodeD NodeL.zero) = nodeD (s.get p) := by
  unfold StL.get
  cases hp : s.has p with
  | none => exact Maps.atKey_of_not_has (by rw [h.has, hp]; rfl) _
  | some n => exact h.node p n _ hp
theorem keyLit (p : List UInt8) : WideAt.IsKeyLit (.string p) := trivial
theorem SRep.put {D : DN} {s : StL} (h : SRep D s) (p : List UInt8) (n : NodeL) : SRep (D.put (.string p) (nodeD n)) (s.put p n) := by
  have hk := keyLit p
  refine ⟨?_, fun q => ?_, fun q m z hq => ?_, ?_⟩
  · exact Maps.Tidy.put h.tidy (keyLit p) _
  · simp only [StL.put]
    by_cases e : q = p
    · subst e; rw [if_pos rfl, Maps.has_put_same h.tidy.isMap (keyLit q)]; rfl
    · rw [if_neg e, Maps.has_put_other (fun h => e (Lit.string.inj h)), h.has]
  · simp only [StL.put] at hq
    by_cases e : q = p
    · subst e; rw [if_pos rfl] at hq; rw [Maps.atKey_put_same h.tidy.isMap (keyLit q), Option.some.inj hq]
    · rw [if_neg e] at hq; rw [Maps.atKey_put_other (fun h => e (Lit.string.inj h)), h.node q m z hq]
  · rw [Maps.size_put h.tidy, h.has, h.size]; rfl
theorem SRep.new : SRep (DataW.put (.map []) (.string [47]) (nodeD ⟨2, 0, [], []⟩)) StL.new := by
  have h0 : SRep (.map []) ⟨fun _ => none, 0, 0⟩ := ⟨Maps.tidy_empty, fun p => rfl, fun p n z h => (by simp at h), rfl⟩
  exact h0.put [47] ⟨2, 0, [], []⟩

theorem kString : Maps.Keyed Tryd.prog 9 := Maps.string_keyed Tryd.underlying9
theorem keyS {p : List UInt8} (h : p.length ≤ 1099511627776) : keyOf Tryd.prog 9 (.string ⟨p.toArray⟩) = some (.string p) := by
  have := size_mk' p
  exact WideMaps.keyOf_string_mk Tryd.underlying9 (by unfold maxLen; omega)
theorem zeroNode (w : World) : (zeroValue 58).run Tryd.prog w = .ok (nodeV NodeL.zero) w := by kernel_rfl

theorem ownsMap_tight {H : Type} {w : World} {P : Program} {k : TypeId} {R : Value → Option (DataW H × List MemPlace)} {b n : Nat} {D : DataW H} (h : w.ownsMap P k R b n D) : w.ownsMap P k R b (Maps.size D) D := by
  obtain ⟨es, clock, hb, F, hs, rfl⟩ := h
  refine ⟨es, clock, hb, F, ?_, rfl⟩
  show es.size ≤ ((es.toList.map _).foldr DataW.insert []).length
  rw [length_sorted]; simp

/-- the store at block s, its map in block b -/
structure SM (s b : Nat) (w : World) (st : StL) : Prop where
  ex : w.heap[s]? = some (.cells #[.map (some b), .int .i64 st.last] 66 (0, 0))
  map : ∃ D, w.ownsMap Tryd.prog 9 nodeR b st.count D ∧ SRep D st
  ne : s ≠ b
section
variable {s b : Nat} {w w' : World} {st : StL}
theorem SM.lt (h : SM s b w st) : s < w.heap.size := by
  rcases Nat.lt_or_ge s w.heap.size with h' | h'
  · exact h'
  · have := h.ex; rw [Array.getElem?_eq_none h'] at this; cases this
theorem SM.blt (h : SM s b w st) : b < w.heap.size := by
  obtain ⟨D, h1, _⟩ := h.map
  exact h1.lt
theorem SM.below (h : SM s b w st) (hb : Below w.heap.size w w') : SM s b w' st := by
  obtain ⟨D, ⟨es, clock, h1, h2⟩, h3⟩ := h.map
  exact ⟨(hb.block s h.lt).trans h.ex, ⟨D, ⟨es, clock, (hb.block b h.blt).trans h1, h2⟩, h3⟩, h.ne⟩
theorem SM.alloc (h : SM s b w st) (o : Obj) : SM s b (w.alloc o) st := h.below ((Below.refl _ w).alloc (Nat.le_refl _) o)
theorem SM.drew (h : SM s b w st) : SM s b w.drew st := h.below ((Below.refl _ w).drew)
theorem SM.cell0 (h : SM s b w st) : w.cell? ⟨s, 0, none⟩ = some (.map (some b)) := by rw [Lib.cell_of_heap h.ex]; rfl
theorem SM.cell1 (h : SM s b w st) : w.cell? ⟨s, 1, none⟩ = some (.int .i64 st.last) := by rw [Lib.cell_of_heap h.ex]; rfl
theorem SM.frozen (h : SM s b w st) (i : Nat) : w.frozen? ⟨s, i, none⟩ = false := Lib.frozen_of_heap h.ex i
end

/-- a map composite's entry -/
theorem wpList_insert_own {H : Type} {P : Program} (w : World) {ops : Array Oper} {rest : List Oper} {o : Oper} {a : Act} {Q : Exit → Act → World → Prop}
    (hg : o.guard = none) (m x v : Operand) (t : TypeId) (hop : o.op = Op.insert t m x v)
    (k e : TypeId) (K : Maps.Keyed P k) (ht : P.underlying t = some (.map k e)) (R : Value → Option (DataW H × List MemPlace)) (b n : Nat) (D : DataW H)
    (hm : a.eval m = .map (some b)) (hown : w.ownsMap P k R b n D) (hn : n < maxLen) (key val : Value) (kl : Lit) (hx : a.eval x = key) (hv : a.eval v = val) (hkey : keyOf P k key = some kl)
    (d : DataW H) (ps : List MemPlace) (hval : R val = some (d, ps))
    (hK : ∀ w', w'.ownsMap P k R b (n + 1) (D.put kl d) → w.grownBy w' (some b) → wpList P ops Q rest (a.put o.dst undef) w') :
    wpList P ops Q (o :: rest) a w := by
  refine wpList_plain hg fun K' hK' => ?_
  obtain ⟨w', hrun, r1, r2⟩ := hown.update K ht hn hkey hval
  unfold Oper.wp
  simp [execOp, hop, hm, hx, hv, hrun, Result.andThen]
  exact hK' _ _ (hK w' r1 r2)

set_option maxHeartbeats 2000000 in
set_option maxRecDepth 100000 in
theorem new_any (w : World) :
    Calls Tryd.prog 26 #[] w fun e w' => ∃ s b, e = .returned (.pointer (some ⟨s, 0, none⟩)) ∧ SM s b w' StL.new ∧ w.heap.size ≤ s ∧ w.heap.size ≤ b ∧ Below w.heap.size w w' := by
  have hmm := @run_makeMap Tryd.prog
  obtain ⟨w2, hrun, hown, hgr⟩ := (World.ownsMap_made w Tryd.prog 9 nodeR).update kString (t := 64) Tryd.underlying64 (by unfold maxLen; omega) (keyS (p := [47]) (by simp)) (nodeR_mk ⟨2, 0, [], []⟩)
  have hsz := hgr.size
  have hown2 := ownsMap_tight hown
  have hlt := hown.lt
  rw [World.size_alloc] at hsz
  have HF : Hid (SM w2.heap.size w.heap.size (w2.alloc (.cells #[.map (some w.heap.size), .int .i64 0] 66 (0, 0))) StL.new) := Lib.hid ⟨(MapKept.heap_alloc w2 _).1, ⟨_, by rw [SRep.new.size] at hown2; exact hown2.alloc _, SRep.new⟩, by omega⟩
  have HB : Hid (Below w.heap.size w (w2.alloc (.cells #[.map (some w.heap.size), .int .i64 0] 66 (0, 0)))) := Lib.hid ((((Below.refl _ w).alloc (Nat.le_refl _) _).grown hgr (by simp) (fun k hk => by cases hk; exact Nat.le_refl _)).alloc (by omega) _)
  have hrun2 : (Instr.mapUpdate 64 (.map (some w.heap.size)) (.string ⟨#[47]⟩) (.agg #[.int .i64 2, .int .i64 0, .string ⟨#[]⟩, .string ⟨#[]⟩])).run Tryd.prog (w.alloc (.map #[] 0)) = .ok () w2 := hrun
  clear hown hown2 hgr hrun
  go_enter Tryd.func26, Tryd.ntmps26
  go_wp2
  go_ret
  exact ⟨_, _, rfl, HF.out, by omega, Nat.le_refl _, HB.out⟩

end Go.Proofs.YtgoecmfjidcieaaDoor
