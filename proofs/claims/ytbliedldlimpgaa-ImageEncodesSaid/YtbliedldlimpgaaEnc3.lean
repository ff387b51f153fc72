/- ImageEncodes, no condition: for every such input the law returns true, and its arguments read behind the call as they did. -/
import Derived.Test.YtbliedldlimpgaaBas2
import Derived.Test.YtbliedldlimpgaaBas29
import Derived.Test.YtbliedldlimpgaaBas31
import Derived.Test.YtbliedldlimpgaaBas5
import Derived.Test.YtbliedldlimpgaaMay4
import Derived.Test.YtbliedldlimpgaaEnc2
import Derived.Test.YtbliedldlimpgaaBas32

namespace Go.Proofs.Ytbliedldlimpgaa
set_option linter.unusedVariables false
set_option linter.unusedSimpArgs false
open Go.RowKit

theorem setCell_row0 {w : World} {b k : Nat} {cs : Array Value} {t : TypeId} {fr : Nat × Nat} (u : Value) (h : w.heap[b]? = some (.cells cs t fr)) : (w.setCell ⟨b, k, none⟩ u).heap[b]? = some (.cells (cs.setIfInBounds k u) t fr) := by
  simp [World.setCell, Array.getElem?_modify, h]
theorem step_setRow1 (w : World) (g : Nat) (cs : Array Value) : Step (fun x => x ≠ g) w (w.setRow g cs) := ⟨rfl, rfl, rfl, by simp, fun b hb => setRow_other _ _ _ _ hb⟩
theorem results_one {P : Program} {fn : Func} {p : Tmp} {ty : TypeId} (h : fn.results = #[.cell p ty]) (tmps : Array Value) (w : World) (g : Nat) (t : TypeId) (cs : Array Value) (fr : Nat × Nat) (d : TypeDesc)
    (hp : tmps.getD p undef = .pointer (some ⟨g, 0, none⟩)) (hg : w.heap[g]? = some (.cells cs t fr))
    (hu : P.underlying ty = some d) (hd : (match d with | .struct _ | .array _ _ => true | _ => false) = true) (hi : (P.info? ty).map (·.size) = some cs.size) :
    (results fn tmps).run P w = .ok (.agg cs) w := results_cell_row h tmps w g t cs fr d hp hg hu hd hi
theorem infoword : (Try.prog.info? 63).map (fun i => (i.zero, i.size, i.bytes)) = some (some (.int .u64 0), 1, 8) := by kernel_rfl
set_option maxHeartbeats 8000000 in
set_option maxRecDepth 100000 in
/-- clevisref02.Add of no hashes: a copy of its own -/
theorem jadd_nil (w : World) (wv : Value) (ws : List Int) (sh : Int) (hw : LB kWord (· < w.heap.size) w wv ws) (hlen : ws.length ≤ 1000000) :
    Calls Try.prog 16 #[.agg #[wv, .int .i64 sh], .slice none 0 0] w fun e w' => ∃ r, e = .returned (.agg #[r, .int .i64 sh]) ∧ Below w.heap.size w w' ∧ OwnK 63 kWord w.heap.size (fun _ => False) w' r ws := by
  obtain ⟨wa, wc, rfl⟩ := hw.form
  have HW := Lib.hid hw
  clear hw
  have F0 := Lib.hid (heap_alloc_new w (.cells #[.slice wa ws.length wc, .int .i64 sh] 30 (0, 0)))
  have hz0 : (w.alloc (.cells #[.slice wa ws.length wc, .int .i64 sh] 30 (0, 0))).heap.size = w.heap.size + 1 := by simp
  have L0 := Lib.hid (HW.out.keeps (fun b hb => heap_alloc_old w (.cells #[.slice wa ws.length wc, .int .i64 sh] 30 (0, 0)) hb))
  have B0 := Lib.hid ((Below.refl w.heap.size w).alloc (Nat.le_refl _) (.cells #[.slice wa ws.length wc, .int .i64 sh] 30 (0, 0)))
  go_enter Try.func16, Try.ntmps16
  go_upto_region 1 with fail
  have FO := Lib.hid (heap_alloc_new (w.alloc (.cells #[.slice wa ws.length wc, .int .i64 sh] 30 (0, 0))) (.cells #[.slice none 0 0, .int .i64 0] 30 (0, 0)))
  have FF := Lib.hid ((heap_alloc_old (w.alloc (.cells #[.slice wa ws.length wc, .int .i64 sh] 30 (0, 0))) (.cells #[.slice none 0 0, .int .i64 0] 30 (0, 0)) (r := w.heap.size) (by omega)).trans F0.out)
  have L1 := Lib.hid (L0.out.keeps (fun b hb => heap_alloc_old (w.alloc (.cells #[.slice wa ws.length wc, .int .i64 sh] 30 (0, 0))) (.cells #[.slice none 0 0, .int .i64 0] 30 (0, 0)) (r := b) (by have hb : b < w.heap.size := hb; omega)))
  have B1 := Lib.hid (B0.out.alloc (by omega) (.cells #[.slice none 0 0, .int .i64 0] 30 (0, 0)))
  have hz1 : ((w.alloc (.cells #[.slice wa ws.length wc, .int .i64 sh] 30 (0, 0))).alloc (.cells #[.slice none 0 0, .int .i64 0] 30 (0, 0))).heap.size = w.heap.size + 2 := by simp
  rw [hz0] at FO
  clear F0 L0 B0 hz0
  generalize (w.alloc (.cells #[.slice wa ws.length wc, .int .i64 sh] 30 (0, 0))).alloc (.cells #[.slice none 0 0, .int .i64 0] 30 (0, 0)) = w1 at *
  have hs1 : w.heap.size + 2 ≤ w1.heap.size := by omega
  have hs2 : w1.heap.size ≤ w.heap.size + 2 := by omega
  clear hz1
  have c0 : w1.cell? ⟨w.heap.size, 0, none⟩ = some (.slice wa ws.length wc) := by rw [Lib.cell_of_heap FF.out]; rfl
  have c1 : w1.cell? ⟨w.heap.size, 1, none⟩ = some (.int .i64 sh) := by rw [Lib.cell_of_heap FF.out]; rfl
  go_upto_region 2 with fail
  have G0 := Lib.hid (heap_alloc_new w1 (.cells #[.slice none 0 0, .int .i64 sh] 30 (0, 0)))
  have FF2 := Lib.hid ((heap_alloc_old w1 (.cells #[.slice none 0 0, .int .i64 sh] 30 (0, 0)) (r := w.heap.size) (by omega)).trans FF.out)
  have FO2 := Lib.hid ((heap_alloc_old w1 (.cells #[.slice none 0 0, .int .i64 sh] 30 (0, 0)) (r := w.heap.size + 1) (by omega)).trans FO.out)
  have L2 := Lib.hid (L1.out.keeps (fun b hb => heap_alloc_old w1 (.cells #[.slice none 0 0, .int .i64 sh] 30 (0, 0)) (r := b) (by have hb : b < w.heap.size := hb; omega)))
  have B2 := Lib.hid (B1.out.alloc (by omega) (.cells #[.slice none 0 0, .int .i64 sh] 30 (0, 0)))
  have hz2 : w1.heap.size < (w1.alloc (.cells #[.slice none 0 0, .int .i64 sh] 30 (0, 0))).heap.size := by simp
  clear c0 c1 FF FO L1 B1
  generalize w1.alloc (.cells #[.slice none 0 0, .int .i64 sh] 30 (0, 0)) = w2 at *
  generalize w1.heap.size = ob at *
  have c0 : w2.cell? ⟨w.heap.size, 0, none⟩ = some (.slice wa ws.length wc) := by rw [Lib.cell_of_heap FF2.out]; rfl
  have d0 : w2.cell? ⟨ob, 0, none⟩ = some (.slice none 0 0) := by rw [Lib.cell_of_heap G0.out]; rfl
  go_wp2_with (at_builtin; refine wpList_appendsK (B := w.heap.size) (E := (· < w2.heap.size)) (l := []) plain_word 28 (.int .u64 0) 8 Try.underlying28 infoword rfl rfl (.tmp 13) (.tmp 15) rfl rfl (OwnK.nil _ _ _ _ _) (fun x hx => hx) _ ws rfl L2.out ?c1 ?c2 (by omega) ?_)
  case c1 => simp; omega
  case c2 => simp; omega
  intro r w3 ho hs3 _
  have S3 : Step (fun b => b < w2.heap.size) w2 w3 := hs3.imp (fun b hb => ⟨hb, by simp [Value.ownBlock]⟩)
  have hz3 := hs3.size
  have G3 := Lib.hid ((S3.block ob (by omega)).trans G0.out)
  have FO3 := Lib.hid ((S3.block (w.heap.size + 1) (by omega)).trans FO2.out)
  have B3 : Hid (Below w.heap.size w w3) := Lib.hid (((Step.of_below B2.out).trans (S3.imp (fun b hb => by have hb : b < w.heap.size := hb; show b < _; omega))).below)
  have HO := Lib.hid ho
  clear ho hs3 S3 c0 d0 G0 FF2 FO2 L2 B2
  have d0 : w3.cell? ⟨ob, 0, none⟩ = some (.slice none 0 0) := by rw [Lib.cell_of_heap G3.out]; rfl
  have f0 : w3.frozen? ⟨ob, 0, none⟩ = false := Lib.frozen_of_heap G3.out 0
  obtain ⟨ra, rc, hr⟩ := HO.out.form
  replace hr : r = .slice ra ws.length rc := hr
  replace HO : Hid (OwnK 63 kWord w.heap.size (· < w2.heap.size) w3 r ws) := HO
  subst hr
  have G4 := Lib.hid (setCell_row0 (k := 0) (.slice ra ws.length rc) G3.out)
  have S4 := setCell_step w3 ob 0 (.slice ra ws.length rc)
  have FO4 := Lib.hid ((S4.block (w.heap.size + 1) (by show _ ≠ ob; omega)).trans FO3.out)
  have B4 : Hid (Below w.heap.size w (w3.setCell ⟨ob, 0, none⟩ (.slice ra ws.length rc))) := Lib.hid (((Step.of_below B3.out).trans (S4.imp (fun b hb => by have hb : b < w.heap.size := hb; show b ≠ ob; omega))).below)
  have HO4 := Lib.hid (HO.out.step S4 (fun b _ hb e => hb (by show b < w2.heap.size; rw [e]; omega)))
  have hz4 : w3.heap.size ≤ (w3.setCell ⟨ob, 0, none⟩ (.slice ra ws.length rc)).heap.size := by simp
  clear G3 FO3 B3 HO S4
  go_upto_region 3 with fail
  generalize w3.setCell ⟨ob, 0, none⟩ (.slice ra ws.length rc) = w4 at *
  clear d0 f0
  go_wp2_with fail
  go_loopw [6] (fun i wr => i = .int .i64 0 ∧ wr = w4) (fun _ _ => 0)
  case atStart => exact ⟨rfl, rfl⟩
  case round =>
    obtain ⟨rfl, hw4⟩ := hrel
    subst hw4
    have d0 : wr.cell? ⟨ob, 0, none⟩ = some (.slice ra ws.length rc) := by rw [Lib.cell_of_heap G4.out]; rfl
    have d1 : wr.cell? ⟨ob, 1, none⟩ = some (.int .i64 sh) := by rw [Lib.cell_of_heap G4.out]; rfl
    go_wp2_with (refine wpList_store_row rfl 30 (.tmp 4) (.tmp 62) rfl (w.heap.size + 1) #[.slice ra ws.length rc, .int .i64 sh] rfl rfl _ _ FO4.out (by kernel_rfl) rfl (by simp [Value.oneCell']) ?_)
    go_wp2_with fail
    have FR := Lib.hid (setRow_heap _ (w.heap.size + 1) _ #[.slice ra ws.length rc, .int .i64 sh] _ _ FO4.out)
    have S5 := step_setRow1 wr (w.heap.size + 1) #[.slice ra ws.length rc, .int .i64 sh]
    refine bodyPost_ret (results_one rfl _ _ (w.heap.size + 1) _ _ _ _ rfl FR.out Try.underlying30 rfl (by kernel_rfl)) rfl ?_
    have HO5 := HO4.out.step S5 (fun b _ hb e => hb (by show b < w2.heap.size; rw [e]; omega))
    exact ⟨.slice ra ws.length rc, rfl, ((Step.of_below B4.out).trans (S5.imp (fun b hb => by have hb : b < w.heap.size := hb; show b ≠ _; omega))).below, OwnK.of_plain plain_word (HO5.plain_row plain_word) (fun g hg => id)⟩

end Go.Proofs.Ytbliedldlimpgaa

/- Lists of bytes that are their owner's: laws on append, on writing over. -/
namespace Go.Proofs.Ytbliedldlimpgaa
set_option linter.unusedVariables false
set_option linter.unusedSimpArgs false
open Go.RowKit

def kBytes : Kind (List UInt8) := { k := 1, R := fun S w x r => ∃ c, r = [c] ∧ LB kByte S w c x, len := fun ⟨_, h, _⟩ => by rw [h]; rfl, keeps := fun ⟨c, h, h'⟩ hk => ⟨c, h, h'.keeps hk⟩, imp := fun ⟨c, h, h'⟩ hi => ⟨c, h, h'.imp hi⟩ }
theorem info_bytesL : (Try.prog.info? 36).map (fun i => (i.zero, i.size, i.bytes)) = some (some (.slice none 0 0), 1, 24) := by kernel_rfl
theorem LAt.bytes1 {S : Nat → Prop} {w : World} {a : Option Addr} {b off : Nat} {l : List (List UInt8)} (h : LAt kBytes S w l a b off) (i : Nat) (x : List UInt8) (hx : l[i]? = some x) : ∃ c, w.cell? ⟨b, off + i, none⟩ = some c ∧ LB kByte S w c x := by
  obtain ⟨row, ⟨c, h1, h1'⟩, h2⟩ := h.row i x hx
  have := h2 0 c (by rw [h1]; rfl)
  exact ⟨c, by simpa [kBytes] using this, h1'⟩

section
variable {α : Type} {e : TypeId} {K : Kind α} {f : α → Value} {B : Nat} {E : Nat → Prop} {w w' : World} {v : Value} {l : List α}
theorem OwnK.rowc {f : α → Value} (hp : Plain K f) (h : OwnK e K B E w v l) (h0 : 0 < l.length) :
    ∃ g cap cur, v = .slice (some ⟨g, 0, none⟩) l.length cap ∧ B ≤ g ∧ w.heap[g]? = some (.cells cur e (0, 0)) ∧ l.length ≤ cap ∧ ∀ (i : Nat) (x : α), l[i]? = some x → w.cell? ⟨g, i, none⟩ = some (f x) := by
  have hr := h.plain_row hp
  have hc := fun g hg => World.ownsRow.cells hr (g := g) hg
  rcases hr.2 with ⟨_, hz⟩ | ⟨g, cap, cur, rfl, hg, hh, hle, _⟩
  · omega
  · refine ⟨g, cap, cur, rfl, hg, hh, hle, fun i x hx => ?_⟩
    have := hc g rfl i (f x) (by rw [List.getElem?_map, hx]; rfl)
    simpa [Addr.add_lit] using this
theorem OwnK.putc {g n c : Nat} (hp : Plain K f) (h : OwnK e K B E w (.slice (some ⟨g, 0, none⟩) n c) l) (k : Nat) (y : α) :
    OwnK e K B E (w.setCell ⟨g, k, none⟩ (f y)) (.slice (some ⟨g, 0, none⟩) n c) (l.set k y) := by
  have hr := h.plain_row hp
  refine OwnK.of_plain hp ⟨by simp, ?_⟩ h.notE
  rcases hr.2 with ⟨hv, _⟩ | ⟨g', cap, cur, hv, hg, hh, hle, hcap, hs, ht⟩
  · cases hv
  · cases hv
    refine Or.inr ⟨g, c, cur.setIfInBounds k (f y), by rw [List.length_set], hg, setCell_row0 _ hh, by rw [List.length_set]; exact hle, hcap, by simpa using hs, ?_⟩
    rw [List.length_set, Array.toList_setIfInBounds, List.take_set, ht, List.map_set]
/-- new blocks are none of a list's -/
theorem OwnK.fresh (h : OwnK e K B E w v l) : OwnK e K B (fun b => E b ∨ w.heap.size ≤ b) w v l := by
  have hlt := h.lt
  have hn := h.notE
  obtain ⟨xs, h1, h2, h3⟩ := h
  refine ⟨xs, h1, h2.imp fun b hb => ⟨hb.1, fun h => ?_, hb.2.2⟩, fun g hg h => ?_⟩
  · rcases h with h | h
    · exact hb.2.1 h
    · omega
  · have := hlt g hg
    rcases h with h | h
    · exact hn g hg h
    · omega
/-- append of two elements to a list that the call has made -/
theorem wpList_append2K {ops : Array Oper} {rest : List Oper} {o : Oper} {a : Act} {Q : Exit → Act → World → Prop} (t : TypeId) (z : Value) (bytes : Nat) (ht : Try.prog.underlying t = some (.slice e)) (hinfo : (Try.prog.info? e).map (fun i => (i.zero, i.size, i.bytes)) = some (some z, K.k, bytes))
    (hzs : z.cells.size = K.k) (hk : 0 < K.k) (hgd : o.guard = none) (s x : Operand)
    (ho : o.op = .call { callee := .builtin .append, args := #[s, x], argTypes := #[t, t] })
    (n : Nat) (hn : l.length = n) (hs : a.eval s = v) (hown : OwnK e K B E w v l) (hE : ∀ b, E b → b < w.heap.size) (nb : Nat) (y1 y2 : α) (r1 r2 : List Value) (hx : a.eval x = .slice (some ⟨nb, 0, none⟩) 2 2)
    (hcell : ∀ j u, (r1 ++ r2)[j]? = some u → w.cell? ⟨nb, j, none⟩ = some u) (hone : ∀ u ∈ r1 ++ r2, u.oneCell' = true)
    (h1r : K.R (fun b => b < w.heap.size ∧ ¬ E b ∧ v.ownBlock ≠ some b) w y1 r1) (h2r : K.R (fun b => b < w.heap.size ∧ ¬ E b ∧ v.ownBlock ≠ some b) w y2 r2)
    (hlen : (l.length + 2) * bytes ≤ 140737488355328) (hl63 : l.length < 1099511627776) (hB : B ≤ w.heap.size)
    (h : ∀ g c w', OwnK e K B E w' (.slice (some ⟨g, 0, none⟩) (n + 2) c) (l ++ [y1, y2]) → Step (fun b => b < w.heap.size ∧ v.ownBlock ≠ some b) w w' → g < w'.heap.size →
      wpList Try.prog ops Q rest (a.put o.dst (.slice (some ⟨g, 0, none⟩) (n + 2) c)) w') : wpList Try.prog ops Q (o :: rest) a w := by
  subst hn
  obtain ⟨i0, hi, hz0, hz1, hz2⟩ := info_parts hinfo
  obtain ⟨xs, h1, h2, h3⟩ := hown
  have hlt := World.ownsRow.lt h1
  refine wpList_append_lies w hgd s x t ho B e i0 z K.k bytes ht hi hz0 hz1 hz2 hzs hk v l.length xs hs h1 ⟨nb, 0, none⟩ 2 2 (r1 ++ r2) hx (by rw [List.length_append, K.len h1r, K.len h2r]; omega) ?_ hone (by decide) ?_ hlen hB _ rfl ?_
  · intro j u hj
    have := hcell j u hj
    simpa [Addr.add_lit] using this
  · unfold maxLen; omega
  · intro g c w' g1 g2 g3 g4
    have hst : Step (fun b => b < w.heap.size ∧ v.ownBlock ≠ some b) w w' := Step.of_grown g2 (fun b hb => ⟨hb.1, hb.2⟩)
    have hsz := hst.size
    have hgne : ∀ b, b < w.heap.size → v.ownBlock ≠ some b → b ≠ g := by
      intro b hb hne e
      subst e
      rcases g3 with h' | h'
      · exact hne h'
      · omega
    have hkk : Keeps (fun b => b < w.heap.size ∧ ¬ E b ∧ v.ownBlock ≠ some b) w w' := fun b hb => hst.block b ⟨hb.1, hb.2.2⟩
    refine h g c w' ⟨xs ++ (r1 ++ r2), by simpa using g1, ?_, ?_⟩ hst g4
    · have hr := ((h2.keeps hkk).snoc (K.keeps h1r hkk)).snoc (K.keeps h2r hkk)
      rw [List.append_assoc, List.append_assoc] at hr
      exact hr.imp fun b hb => ⟨by omega, hb.2.1, fun e => hgne b hb.1 hb.2.2 (by simpa [Value.ownBlock] using e.symm)⟩
    · intro g' hg' hEg
      have : g' = g := by simpa [Value.ownBlock] using hg'.symm
      subst this
      rcases g3 with h' | h'
      · exact h3 _ h' hEg
      · have := hE _ hEg; omega
end
section
variable {B : Nat} {E : Nat → Prop} {w w' : World} {v : Value} {l : List UInt8}
/-- append of one byte: the list lies where it did, or in a new block, and then all that was is as it was -/
theorem wpList_appendByte {ops : Array Oper} {rest : List Oper} {o : Oper} {a : Act} {Q : Exit → Act → World → Prop} (hgd : o.guard = none) (s x : Operand)
    (ho : o.op = .call { callee := .builtin .append, args := #[s, x], argTypes := #[36, 36] })
    (n : Nat) (hn : l.length = n) (hs : a.eval s = v) (hown : OwnK 5 kByte B E w v l) (hE : ∀ b, E b → b < w.heap.size) (nb : Nat) (y : UInt8) (hx : a.eval x = .slice (some ⟨nb, 0, none⟩) 1 1)
    (hcell : w.cell? ⟨nb, 0, none⟩ = some (.int .u8 y.toNat)) (hlen : n < 1099511627776) (hB : B ≤ w.heap.size)
    (h : ∀ g c w', OwnK 5 kByte B E w' (.slice (some ⟨g, 0, none⟩) (n + 1) c) (l ++ [y]) → Step (fun b => b < w.heap.size ∧ v.ownBlock ≠ some b) w w' → (v.ownBlock = some g ∨ (w.heap.size ≤ g ∧ Step (· < w.heap.size) w w')) → g < w'.heap.size →
      wpList Try.prog ops Q rest (a.put o.dst (.slice (some ⟨g, 0, none⟩) (n + 1) c)) w') : wpList Try.prog ops Q (o :: rest) a w := by
  subst hn
  obtain ⟨i0, hi, hz0, hz1, hz2⟩ := info_parts info_byte
  have h1 := hown.plain_row plain_byte
  have hlt := World.ownsRow.lt h1
  have hnews : ∀ j u, [Value.int .u8 y.toNat][j]? = some u → w.cell? ((⟨nb, 0, none⟩ : Addr).add j) = some u := by
    intro j u hj
    match j, hj with
    | 0, hj => simp at hj; subst hj; simpa [Addr.add_lit] using hcell
    | j + 1, hj => simp at hj
  have hone : ∀ u ∈ [Value.int .u8 y.toNat], u.oneCell' = true := by intro u hu; simp at hu; subst hu; rfl
  refine wpList_plain hgd fun K hK => ?_
  obtain ⟨g, c, w', hr, g1, g2, g3, g4⟩ := run_append_lies (P := Try.prog) w 36 o.type B 5 i0 (.int .u8 0) 1 1 Try.underlying36 hi hz0 hz1 hz2 rfl (by decide) v l.length _ h1 ⟨nb, 0, none⟩ 1 1 [.int .u8 y.toNat] (by rfl) hnews hone (by decide) (by unfold maxLen; omega) (by omega) hB _ rfl
  have hst : Step (fun b => b < w.heap.size ∧ v.ownBlock ≠ some b) w w' := Step.of_grown g2 (fun b hb => ⟨hb.1, hb.2⟩)
  have hkeep : v.ownBlock = some g ∨ (w.heap.size ≤ g ∧ Step (· < w.heap.size) w w') := by
    rcases g3 with h' | h'
    · have hr2 := h1.2
      rcases hr2 with ⟨hv, _⟩ | ⟨g0, cap, cur, hv, hbg, hg, hnc, hcm, hcs, htake⟩
      · rw [hv] at h'; cases h'
      · exact Or.inl h'
    · have hr2 := h1.2
      rcases hr2 with ⟨hv, _⟩ | ⟨g0, cap, cur, hv, hbg, hg, hnc, hcm, hcs, htake⟩
      · refine Or.inr ⟨by omega, hst.imp fun b hb => ⟨hb, by rw [hv]; simp [Value.ownBlock]⟩⟩
      · have hcs' : cur.size = cap := by simpa using hcs
        subst hv
        by_cases hroom : l.length + 1 ≤ cap
        · have h2 := run_append_room (P := Try.prog) (w := w) 36 o.type 5 i0 Try.underlying36 hi g0 l.length cap cur hg ⟨nb, 0, none⟩ 1 1 [.int .u8 y.toNat] (by rw [hz1]; rfl) hnews hone hroom (by rw [hz1]; simp; omega)
          rw [hr] at h2
          cases h2
          exact Or.inl rfl
        · have holds := h1.cells (g := g0) rfl
          have h2 := run_append_grow (P := Try.prog) (w := w) 36 o.type 5 i0 (.int .u8 0) Try.underlying36 hi hz0 ⟨g0, 0, none⟩ l.length cap _ (by rw [hz1]; simp) holds ⟨nb, 0, none⟩ 1 1 [.int .u8 y.toNat] (by rw [hz1]; rfl) hnews (by omega) (by omega) (by rw [hz2]; exact growslice_fits (by omega) (by omega))
          rw [hr] at h2
          cases h2
          exact Or.inr ⟨Nat.le_refl _, Step.of_below ((Below.refl _ w).drew.alloc (Nat.le_refl _) _)⟩
  have hfin := h g c w' (.of_plain plain_byte (by rw [List.length_append, List.map_append]; exact g1) (by
      intro g' hg' hEg
      have : g' = g := by simpa [Value.ownBlock] using hg'.symm
      subst this
      rcases g3 with h' | h'
      · exact hown.notE _ h' hEg
      · have := hE _ hEg; omega)) hst hkeep g4
  unfold Oper.wp execOp
  simp only [ho, resolve, invoke, builtin, Sem.run_bind, Sem.run_pure, Result.andThen_ok, List.map_toArray, List.map_cons, List.map_nil, hs, hx, hr]
  exact hK _ _ hfin
/-- the first ones of a list read as a list of its own -/
theorem lb_prefix {g n c m c' : Nat} {L : List UInt8} (h : OwnK 5 kByte B E w (.slice (some ⟨g, 0, none⟩) m c') L) (hl : n ≤ L.length) (hc : n ≤ c) : LB kByte (· = g) w (.slice (some ⟨g, 0, none⟩) n c) (L.take n) := by
  have hlen : (L.take n).length = n := by rw [List.length_take]; omega
  have hm := h.len_le
  refine ⟨some ⟨g, 0, none⟩, g, 0, c, by rw [hlen], by rw [hlen]; omega, fun _ => rfl, ⟨by rw [hlen]; exact hc, fun h => by cases h⟩, fun _ => rfl, fun i x hx => ⟨[.int .u8 x.toNat], rfl, fun j u hu => ?_⟩⟩
  rw [List.getElem?_take] at hx
  split at hx
  · have hL : 0 < L.length := by have := (List.getElem?_eq_some_iff.1 hx).1; omega
    obtain ⟨g', cap, cur, hv, _, _, _, hcell⟩ := OwnK.rowc plain_byte h hL
    cases hv
    match j, hu with
    | 0, hu =>
      simp at hu; subst hu
      have := hcell i x hx
      simpa [kByte] using this
    | j + 1, hu => simp at hu
  · cases hx
end
end Go.Proofs.Ytbliedldlimpgaa

namespace Go.Proofs.Ytbliedldlimpgaa
set_option linter.unusedVariables false
set_option linter.unusedSimpArgs false
open Go.RowKit

/-- the mark of the k-th list -/
def markB (k : Nat) : UInt8 := UInt8.ofNat (1 + k % 250)
theorem mark_int (k : Nat) : 1 + (k : Int) % 250 = ((markB k).toNat : Int) := by
  unfold markB
  rw [UInt8.toNat_ofNat']
  omega
theorem mark_half (k : Nat) : 1 + (k : Int) / 2 % 250 = ((markB (k / 2)).toNat : Int) := by
  rw [← mark_int]
  omega
/-- what Owned has made of the first k lists -/
def rowsL (ls : List (List UInt8)) : Nat → List (List UInt8)
  | 0 => []
  | k + 1 => rowsL ls k ++ [List.replicate ((ls.getD k []).length + 9) (markB k), List.replicate ((ls.getD k []).length) (markB k)]
theorem rowsL_len (ls : List (List UInt8)) : ∀ k, (rowsL ls k).length = 2 * k
  | 0 => rfl
  | k + 1 => by rw [rowsL, List.length_append, rowsL_len ls k]; simp; omega
theorem rowsL_at (ls : List (List UInt8)) : ∀ k i x, (rowsL ls k)[i]? = some x → ∃ m, x = List.replicate m (markB (i / 2))
  | 0, i, x, h => by simp [rowsL] at h
  | k + 1, i, x, h => by
    have hl := rowsL_len ls k
    rw [rowsL] at h
    rcases Nat.lt_or_ge i (2 * k) with hi | hi
    · rw [List.getElem?_append_left (by omega)] at h
      exact rowsL_at ls k i x h
    · rw [List.getElem?_append_right (by omega), hl] at h
      obtain ⟨d, rfl⟩ : ∃ d, i = 2 * k + d := ⟨i - 2 * k, by omega⟩
      rw [Nat.add_sub_cancel_left] at h
      match d, h with
      | 0, h =>
        rw [show (2 * k + 0) / 2 = k by omega]
        simp at h
        exact ⟨_, h.symm⟩
      | 1, h =>
        rw [show (2 * k + 1) / 2 = k by omega]
        simp at h
        exact ⟨_, h.symm⟩
      | d + 2, h => simp at h
theorem rep_set (l : List UInt8) (q : Nat) (m : UInt8) (h : q < l.length) : (List.replicate q m ++ l.drop q).set q m = List.replicate (q + 1) m ++ l.drop (q + 1) := by
  rw [List.set_append_right _ _ (by simp)]
  simp only [List.length_replicate, Nat.sub_self]
  rw [List.drop_eq_getElem_cons h, List.set_cons_zero, List.replicate_succ', List.append_assoc]
  rfl
theorem own_lb {B : Nat} {E : Nat → Prop} {w : World} {v : Value} {l : List UInt8} (h : OwnK 5 kByte B E w v l) : LB kByte (fun b => v.ownBlock = some b) w v l := by
  rcases Nat.eq_zero_or_pos l.length with h0 | h0
  · obtain ⟨a, b, off, cap, hv, hm, ha, hcap, hS, hc⟩ := h.lb
    exact ⟨a, b, off, cap, hv, hm, ha, hcap, fun h1 => by omega, fun i x hx => by have := (List.getElem?_eq_some_iff.1 hx).1; omega⟩
  · obtain ⟨g, cap, cur, rfl, _, hh, hle, hc⟩ := OwnK.rowc plain_byte h h0
    refine ⟨some ⟨g, 0, none⟩, g, 0, cap, rfl, h.len_le, fun _ => rfl, ⟨hle, fun h => by cases h⟩, fun _ => rfl, fun i x hx => ⟨[.int .u8 x.toNat], rfl, fun j u hu => ?_⟩⟩
    match j, hu with
    | 0, hu =>
      simp at hu; subst hu
      have := hc i x hx
      simpa [kByte] using this
    | j + 1, hu => simp at hu
theorem lb_none {S : Nat → Prop} {w w' : World} {v : Value} (h : LB kByte S w v []) : LB kByte S w' v [] := by
  obtain ⟨a, b, off, cap, hv, hm, ha, hcap, hS, hc⟩ := h
  exact ⟨a, b, off, cap, hv, hm, ha, hcap, hS, fun i x hx => by simp at hx⟩
/-- the blocks of the lists from k on -/
def EB (vs : List Value) (k : Nat) (b : Nat) : Prop := ∃ j x, k ≤ j ∧ vs[j]? = some x ∧ x.ownBlock = some b

set_option maxHeartbeats 32000000 in
set_option maxRecDepth 100000 in
theorem lowned_any (w : World) (B rb rc : Nat) (vs : List Value) (ls : List (List UInt8)) (hvl : vs.length ≤ 1000) (hlen : ls.length = vs.length) (hll : ∀ l ∈ ls, l.length ≤ 1000000000)
    (hrow : ∀ (i : Nat) x, vs[i]? = some x → w.cell? ⟨rb, i, none⟩ = some x) (hrb : rb < w.heap.size) (hrn : ∀ x ∈ vs, x.ownBlock ≠ some rb) (hB : B ≤ w.heap.size)
    (hown : ∀ (i : Nat) x l, vs[i]? = some x → ls[i]? = some l → OwnK 5 kByte B (fun _ => False) w x l)
    (hdis : ∀ (i j : Nat) x y b, vs[i]? = some x → vs[j]? = some y → x.ownBlock = some b → y.ownBlock = some b → i = j) :
    Calls Try.prog 14 #[.slice (some ⟨rb, 0, none⟩) vs.length rc] w fun e w' => e = .returned (.bool true) ∧ Below B w w' := by
  have Hll := Lib.hid hll
  have Hrow := Lib.hid hrow
  have Hrn := Lib.hid hrn
  have Hown := Lib.hid hown
  have Hdis := Lib.hid hdis
  have Hlen := Lib.hid hlen
  have HownB : Hid (∀ (j : Nat) x b, vs[j]? = some x → x.ownBlock = some b → B ≤ b ∧ b < w.heap.size) := Lib.hid (fun j x b hx hb => by
    obtain ⟨l, hl⟩ : ∃ l, ls[j]? = some l := ⟨_, List.getElem?_eq_getElem (by have := (List.getElem?_eq_some_iff.1 hx).1; omega)⟩
    exact (hown j x l hx hl).lt b hb)
  clear hll hrow hrn hown hdis hlen
  go_enter Try.func14, Try.ntmps14
  go_wp2_with fail
  go_loopw [3, 4] (fun lg i wr => ∃ k : Nat, i = .int .i64 k ∧ k ≤ vs.length ∧ OwnK 36 kBytes w.heap.size (EB vs k) wr lg (rowsL ls k) ∧ (∀ (j : Nat) x l, k ≤ j → vs[j]? = some x → ls[j]? = some l → OwnK 5 kByte B (fun _ => False) wr x l) ∧ Step (fun b => b < w.heap.size ∧ ∀ x ∈ vs, x.ownBlock ≠ some b) w wr) (fun _ i _ => vs.length - (intOf i).toNat)
  case atStart => exact ⟨0, rfl, Nat.zero_le _, by exact OwnK.nil _ _ _ _ _, fun j x l _ hx hl => Hown.out j x l hx hl, Step.refl _ _⟩
  case round =>
    obtain ⟨k, rfl, hk, hlg, hrows, hst⟩ := hrel
    obtain ⟨ga, gc, hgf⟩ := hlg.form
    have HLk := Lib.hid (rowsL_len ls k)
    rw [HLk.out] at hgf
    subst hgf
    have Hlg := Lib.hid hlg
    have Hrows := Lib.hid hrows
    have Hst := Lib.hid hst
    have hz1 := hst.size
    clear hlg hrows hst
    obtain ⟨w1, hw1⟩ : ∃ x : World, x = wr := ⟨_, rfl⟩
    subst hw1
    by_cases hlt : k < vs.length
    · obtain ⟨x, hx⟩ : ∃ x, vs[k]? = some x := ⟨_, List.getElem?_eq_getElem hlt⟩
      obtain ⟨l, hl⟩ : ∃ l, ls[k]? = some l := ⟨_, List.getElem?_eq_getElem (by have := Hlen.out; omega)⟩
      have hO := Hrows.out k x l (Nat.le_refl _) hx hl
      have hrbx := Hrn.out x (List.mem_of_getElem? hx)
      have hg := (Hst.out.cell (p := ⟨rb, k, none⟩) ⟨hrb, fun x hx => Hrn.out x hx⟩).trans (Hrow.out k x hx)
      have hn9 := Hll.out l (List.mem_of_getElem? hl)
      have Hrl : Hid (rowsL ls (k + 1) = rowsL ls k ++ [List.replicate (l.length + 9) (markB k), List.replicate l.length (markB k)]) := Lib.hid (by rw [rowsL, List.getD_eq_getElem?_getD, hl]; rfl)
      have hmk := mark_int k
      generalize markB k = mk at *
      obtain ⟨xa, xc, hxv⟩ := hO.form
      have Hx := Lib.hid hx
      have HO := Lib.hid hO
      have Hl := Lib.hid hl
      clear hx hl hO
      obtain ⟨n, hn⟩ : ∃ n, l.length = n := ⟨_, rfl⟩
      rw [hn] at hxv hn9 Hrl
      have Hn := Lib.hid hn
      clear hn
      subst hxv
      have hk0 : (0 : Int) ≤ k := by omega
      have hk1 : (k : Int) < vs.length := by omega
      go_wp2_with fail
      clear hg
      go_loopw [6] (fun i wi => ∃ q : Nat, i = .int .i64 q ∧ q ≤ n ∧ OwnK 5 kByte B (fun _ => False) wi (.slice xa n xc) (List.replicate q mk ++ l.drop q) ∧ Step (fun b => (Value.slice xa n xc).ownBlock ≠ some b) w1 wi) (fun i _ => n - (intOf i).toNat)
      case atStart => exact ⟨0, rfl, Nat.zero_le _, by simpa using HO.out, Step.refl _ _⟩
      case round =>
        obtain ⟨q, rfl, hq, hown, hst2⟩ := hrel
        have Hown2 := Lib.hid hown
        have Hst2 := Lib.hid hst2
        have hz2 := hst2.size
        have hg := (hst2.cell (p := ⟨rb, k, none⟩) hrbx).trans ((Hst.out.cell (p := ⟨rb, k, none⟩) ⟨hrb, fun x hx => Hrn.out x hx⟩).trans (Hrow.out k _ Hx.out))
        have hLq : (List.replicate q mk ++ l.drop q).length = n := by rw [List.length_append, List.length_replicate, List.length_drop, Hn.out]; omega
        clear hst2
        by_cases hq2 : q < n
        · obtain ⟨g, gcap, cur, hv, hBg, hh, hle, hcell⟩ := OwnK.rowc plain_byte hown (by omega)
          rw [hLq] at hv
          cases hv
          obtain ⟨y, hy⟩ : ∃ y, (List.replicate q mk ++ l.drop q)[q]? = some y := ⟨_, List.getElem?_eq_getElem (by omega)⟩
          have c0 := hcell q y hy
          have f0 : wr.frozen? ⟨g, q, none⟩ = false := Lib.frozen_of_heap hh q
          have Hput := Lib.hid (OwnK.putc plain_byte hown q mk)
          rw [rep_set l q mk (by rw [Hn.out]; exact hq2)] at Hput
          have Hs3 := Lib.hid (Hst2.out.trans ((setCell_step wr g q (.int .u8 mk.toNat)).imp (S' := fun b => (Value.slice (some ⟨g, 0, none⟩) n xc).ownBlock ≠ some b) (fun b hb e => hb (by rw [e]; rfl))))
          have hgz : g < wr.heap.size := World.block_lt_of_cell? _ _ c0
          have hq0 : (0 : Int) ≤ q := by omega
          have hq1 : (q : Int) < n := by omega
          clear hown hcell hh hy hLq
          go_wp2
          go_roundw
          case rel => exact ⟨q + 1, by go_num, by omega, Hput.out, Hs3.out⟩
          case measure => simp [intOf]; omega
        · have hqn : q = n := by omega
          subst hqn
          have Hfull : Hid (OwnK 5 kByte B (fun _ => False) wr (.slice xa q xc) (List.replicate q mk)) := Lib.hid (by
            have h := hown
            rw [List.drop_eq_nil_of_le (by rw [Hn.out]; exact Nat.le_refl _), List.append_nil] at h
            exact h)
          clear hown hLq
          obtain ⟨w2, hw2⟩ : ∃ x : World, x = wr := ⟨_, rfl⟩
          subst hw2
          have Hxf : Hid (q = 0 ∨ ∃ g, xa = some ⟨g, 0, none⟩ ∧ q ≤ xc ∧ g < w2.heap.size) := Lib.hid (by
            rcases Nat.eq_zero_or_pos q with h0 | h0
            · exact Or.inl h0
            · obtain ⟨g, gcap, cur, hv, _, _, hle, _⟩ := OwnK.rowc plain_byte Hfull.out (by simpa using h0)
              have hlt := Hfull.out.lt
              rw [List.length_replicate] at hv hle
              cases hv
              exact Or.inr ⟨g, rfl, hle, (hlt g rfl).2⟩)
          have hqe : decide ((q : Int) < (q : Int)) = false := by rw [decide_eq_false_iff_not]; omega
          go_wp2_with fail
          clear hg
          go_loopw [7, 8] (fun v i wi => ∃ j : Nat, i = .int .i64 j ∧ j ≤ 9 ∧ OwnK 5 kByte B (fun _ => False) wi v (List.replicate (q + j) mk) ∧ LB kByte (fun b => (Value.slice xa q xc).ownBlock = some b) wi (.slice xa q xc) (List.replicate q mk) ∧ Step (fun b => b < w2.heap.size ∧ (Value.slice xa q xc).ownBlock ≠ some b) w2 wi ∧ (∀ b, v.ownBlock = some b → (Value.slice xa q xc).ownBlock = some b ∨ w2.heap.size ≤ b)) (fun _ i _ => 9 - (intOf i).toNat)
          case atStart => exact ⟨0, rfl, by decide, by exact Hfull.out, own_lb Hfull.out, Step.refl _ _, fun b hb => Or.inl hb⟩
          case round =>
            obtain ⟨j, rfl, hj, hown, hlb, hst3, hvo⟩ := hrel
            have Hlb := Lib.hid hlb
            have Hst3 := Lib.hid hst3
            have Hvo := Lib.hid hvo
            have hz3 := hst3.size
            obtain ⟨va, vc, hvf⟩ := hown.form
            rw [List.length_replicate] at hvf
            subst hvf
            have Hv := Lib.hid hown
            clear hlb hst3 hvo hown
            by_cases hj2 : j < 9
            · have HL : Hid ((List.replicate (q + j) mk).length = q + j) := Lib.hid (by simp)
              go_wp2_with (at_builtin; refine wpList_appendByte (B := B) (E := fun _ => False) rfl (.tmp 45) (.tmp 47) rfl (q + j) HL.out rfl (Hv.out.alloc _) (fun _ h => h.elim) wr.heap.size mk rfl ?c1 ?c2 ?c3 ?_)
              case c1 => rw [Lib.cell_of_heap (heap_alloc_new wr _)]; rfl
              case c2 => omega
              case c3 => simp; omega
              intro g c w3 hown3 hst4 hkeep hg3
              have Hown3 : Hid (OwnK 5 kByte B (fun _ => False) w3 (.slice (some ⟨g, 0, none⟩) (q + j + 1) c) (List.replicate (q + (j + 1)) mk)) := Lib.hid (by
                have h := hown3
                rw [← List.replicate_succ'] at h
                exact h)
              have hza : (wr.alloc (.cells #[.int .u8 mk.toNat] 5 (0, 0))).heap.size = wr.heap.size + 1 := by simp
              have Hlb3 : Hid (LB kByte (fun b => (Value.slice xa q xc).ownBlock = some b) w3 (.slice xa q xc) (List.replicate q mk)) := Lib.hid (by
                rcases Hxf.out with h0 | ⟨g0, rfl, hqc, hg0⟩
                · subst h0
                  exact lb_none Hlb.out
                · by_cases hgg : g0 = g
                  · subst hgg
                    have h := lb_prefix (n := q) (c := xc) Hown3.out (by rw [List.length_replicate]; omega) hqc
                    rw [List.take_replicate, Nat.min_eq_left (by omega)] at h
                    exact h.imp (fun b hb => by rw [hb]; rfl)
                  · have hblk : w3.heap[g0]? = wr.heap[g0]? := by
                      have ha := heap_alloc_old wr (.cells #[.int .u8 mk.toNat] 5 (0, 0)) (r := g0) (by omega)
                      rcases hkeep with h | ⟨_, h⟩
                      · exact (hst4.block g0 ⟨by omega, fun e => hgg (Option.some.inj (e.symm.trans h))⟩).trans ha
                      · exact (h.block g0 (by show g0 < _; omega)).trans ha
                    exact Hlb.out.keeps (fun b hb => by
                      have : g0 = b := by simpa [Value.ownBlock] using hb
                      subst this
                      exact hblk))
              have Hst5 := Lib.hid ((Hst3.out.trans (Step.of_below ((Below.refl _ wr).alloc (Nat.le_refl _) (.cells #[.int .u8 mk.toNat] 5 (0, 0))) |>.imp (fun b hb => by have := hb.1; show b < wr.heap.size; omega))).trans (hst4.imp (S' := fun b => b < w2.heap.size ∧ (Value.slice xa q xc).ownBlock ≠ some b) (fun b hb => ⟨by have := hb.1; omega, fun e => by
                rcases Hvo.out b e with h | h
                · exact hb.2 h
                · have := hb.1; omega⟩)))
              have Hvo3 : Hid (∀ b, (Value.slice (some ⟨g, 0, none⟩) (q + j + 1) c).ownBlock = some b → (Value.slice xa q xc).ownBlock = some b ∨ w2.heap.size ≤ b) := Lib.hid (fun b hb => by
                have : g = b := by simpa [Value.ownBlock] using hb
                subst this
                rcases hkeep with h | ⟨h, _⟩
                · exact Hvo.out g h
                · exact Or.inr (by omega))
              clear hown3 hst4 hkeep Hv Hlb Hst3 Hvo hza
              go_wp2
              go_roundw
              case rel => exact ⟨j + 1, by go_num, by omega, Hown3.out, Hlb3.out, Hst5.out, Hvo3.out⟩
              case measure => simp [intOf]; omega
            · have hj9 : j = 9 := by omega
              subst hj9
              obtain ⟨w4, hw4⟩ : ∃ x : World, x = wr := ⟨_, rfl⟩
              subst hw4
              have hmem : ∀ y ∈ vs, y.ownBlock ≠ some rb := Hrn.out
              have hg := (Hst3.out.cell (p := ⟨rb, k, none⟩) ⟨by show rb < _; omega, hrbx⟩).trans ((Hst2.out.cell (p := ⟨rb, k, none⟩) hrbx).trans ((Hst.out.cell (p := ⟨rb, k, none⟩) ⟨hrb, fun x hx => Hrn.out x hx⟩).trans (Hrow.out k _ Hx.out)))
              have HlgE : Hid (OwnK 36 kBytes w.heap.size (EB vs (k + 1)) w4 (.slice ga (2 * k) gc) (rowsL ls k)) := Lib.hid (by
                have h1 := Hlg.out.fresh.step Hst2.out (fun b hb hE e => hE (Or.inl ⟨k, _, Nat.le_refl _, Hx.out, e⟩))
                have h2 := h1.step Hst3.out (fun b hb hE => ⟨hb, fun e => hE (Or.inl ⟨k, _, Nat.le_refl _, Hx.out, e⟩)⟩)
                exact h2.less (fun b ⟨j, y, hj, hy, hb⟩ => Or.inl ⟨j, y, by omega, hy, hb⟩))
              have HEB : Hid (∀ b, EB vs (k + 1) b → b < w.heap.size ∧ (Value.slice xa q xc).ownBlock ≠ some b) := Lib.hid (fun b ⟨j, y, hj, hy, hb⟩ => ⟨(HownB.out j y b hy hb).2, fun e => by
                have := Hdis.out k j _ y b Hx.out hy e hb
                omega⟩)
              have hlgo := HlgE.out.lt
              have HlgB : Hid (∀ b, (Value.slice ga (2 * k) gc).ownBlock = some b → w.heap.size ≤ b ∧ b < w1.heap.size) := Lib.hid (fun b hb => Hlg.out.lt b hb)
              have Hxlt : Hid (∀ b, (Value.slice xa q xc).ownBlock = some b → b < w.heap.size) := Lib.hid (fun b hb => (HownB.out k _ b Hx.out hb).2)
              have HVb : Hid (LB kByte (fun b => b < (w4.alloc (.cells #[.slice va (q + 9) vc, .slice xa q xc] 36 (0, 0))).heap.size ∧ ¬ EB vs (k + 1) b ∧ (Value.slice ga (2 * k) gc).ownBlock ≠ some b) (w4.alloc (.cells #[.slice va (q + 9) vc, .slice xa q xc] 36 (0, 0))) (.slice va (q + 9) vc) (List.replicate (q + 9) mk)) := Lib.hid (((own_lb Hv.out).keeps (fun b hb => heap_alloc_old w4 _ (Hv.out.lt b hb).2)).imp (fun b hb => by
                have h2 := (Hv.out.lt b hb).2
                refine ⟨by simp; omega, fun hE => ?_, fun e => ?_⟩
                · obtain ⟨h3, h4⟩ := HEB.out b hE
                  rcases Hvo.out b hb with h | h
                  · exact h4 h
                  · omega
                · obtain ⟨h3, h4⟩ := HlgB.out b e
                  rcases Hvo.out b hb with h | h
                  · have := Hxlt.out b h; omega
                  · omega))
              have HXb : Hid (LB kByte (fun b => b < (w4.alloc (.cells #[.slice va (q + 9) vc, .slice xa q xc] 36 (0, 0))).heap.size ∧ ¬ EB vs (k + 1) b ∧ (Value.slice ga (2 * k) gc).ownBlock ≠ some b) (w4.alloc (.cells #[.slice va (q + 9) vc, .slice xa q xc] 36 (0, 0))) (.slice xa q xc) (List.replicate q mk)) := Lib.hid ((Hlb.out.keeps (fun b hb => heap_alloc_old w4 _ (by have := Hxlt.out b hb; omega))).imp (fun b hb => by
                have h2 := Hxlt.out b hb
                refine ⟨by simp; omega, fun hE => (HEB.out b hE).2 hb, fun e => ?_⟩
                have := (HlgB.out b e).1
                omega))
              have hj9 : decide ((9 : Int) < 9) = false := by decide
              go_wp2_with (at_builtin; refine wpList_append2K (K := kBytes) (v := .slice ga (2 * k) gc) (e := 36) (B := w.heap.size) (E := EB vs (k + 1)) 48 (.slice none 0 0) 24 Try.underlying48 info_bytesL rfl (by decide) rfl (.tmp 49) (.tmp 55) rfl (2 * k) HLk.out rfl (HlgE.out.alloc _) (fun b hb => by have := (HEB.out b hb).1; simp; omega) w4.heap.size (List.replicate (q + 9) mk) (List.replicate q mk) [.slice va (q + 9) vc] [.slice xa q xc] rfl ?c1 ?c2 ⟨_, rfl, HVb.out⟩ ⟨_, rfl, HXb.out⟩ ?c5 ?c6 ?c7 ?_)
              case c1 =>
                intro j u hu
                match j, hu with
                | 0, hu => simp at hu; subst hu; rw [Lib.cell_of_heap (heap_alloc_new w4 _)]; rfl
                | 1, hu => simp at hu; subst hu; rw [Lib.cell_of_heap (heap_alloc_new w4 _)]; rfl
                | j + 2, hu => simp at hu
              case c2 => intro u hu; simp at hu; rcases hu with rfl | rfl <;> rfl
              case c5 => rw [HLk.out]; omega
              case c6 => rw [HLk.out]; omega
              case c7 => simp; omega
              intro g c w5 hown5 hst5 _
              have Hown5 : Hid (OwnK 36 kBytes w.heap.size (EB vs (k + 1)) w5 (.slice (some ⟨g, 0, none⟩) (2 * k + 2) c) (rowsL ls (k + 1))) := Lib.hid (by rw [Hrl.out]; exact hown5)
              have HS5 : Hid (Step (fun b => b < w.heap.size ∧ (Value.slice xa q xc).ownBlock ≠ some b) w1 w5) := Lib.hid (((Hst2.out.imp (S' := fun b => b < w.heap.size ∧ (Value.slice xa q xc).ownBlock ≠ some b) (fun b hb => hb.2)).trans (Hst3.out.imp (fun b hb => ⟨by have := hb.1; omega, hb.2⟩))).trans ((Step.of_below ((Below.refl _ w4).alloc (Nat.le_refl _) (.cells #[.slice va (q + 9) vc, .slice xa q xc] 36 (0, 0))) |>.imp (fun b hb => by have := hb.1; show b < w4.heap.size; omega)).trans (hst5.imp (fun b hb => ⟨by have := hb.1; simp; omega, fun e => by have := (HlgB.out b e).1; have := hb.1; omega⟩))))
              have Hrows5 : Hid (∀ (j : Nat) y l, k + 1 ≤ j → vs[j]? = some y → ls[j]? = some l → OwnK 5 kByte B (fun _ => False) w5 y l) := Lib.hid (fun j y l hj hy hl =>
                (Hrows.out j y l (by omega) hy hl).plain_keep plain_byte (fun b hb => HS5.out.block b ⟨(HownB.out j y b hy hb).2, fun e => by
                  have := Hdis.out k j _ y b Hx.out hy e hb
                  omega⟩))
              have Hst6 : Hid (Step (fun b => b < w.heap.size ∧ ∀ x ∈ vs, x.ownBlock ≠ some b) w w5) := Lib.hid (Hst.out.trans (HS5.out.imp (fun b hb => ⟨hb.1, hb.2 _ (List.mem_of_getElem? Hx.out)⟩)))
              clear hown5 hst5 HVb HXb Hlb Hv Hvo HlgE hg hlgo
              go_wp2
              go_roundw
              case rel => exact ⟨k + 1, by go_num, by omega, Hown5.out, Hrows5.out, Hst6.out⟩
              case measure => simp [intOf]; omega
    · have hkn : k = vs.length := by omega
      obtain ⟨la, lb, lo, lc, hlv, hlm, hlc, hlat⟩ := Hlg.out.lb.at
      rw [HLk.out] at hlv hlm hlc
      cases hlv
      have Hat := Lib.hid hlat
      have Hb : Hid (Below B w w1) := Lib.hid ((Hst.out.imp (S' := (· < B)) (fun b hb => by
        have hb : b < B := hb
        exact ⟨by omega, fun x hx e => by
          obtain ⟨j, hj⟩ := List.getElem?_of_mem hx
          have := (HownB.out j x b hj e).1
          omega⟩)).below)
      have HAtx := Lib.hid (rowsL_at ls k)
      clear hlat
      have hke : decide ((k : Int) < (vs.length : Int)) = false := by rw [decide_eq_false_iff_not]; omega
      go_wp2_with fail
      go_loop [9] (fun i => ∃ p : Nat, i = .int .i64 p ∧ p ≤ 2 * k) (fun i => 2 * k - (intOf i).toNat)
      case atStart => exact ⟨0, rfl, Nat.zero_le _⟩
      case round =>
        obtain ⟨p, rfl, hp⟩ := hrel
        by_cases hp2 : p < 2 * k
        · obtain rfl := Hat.out.addr (by have := HLk.out; omega)
          obtain ⟨x, hx⟩ : ∃ x, (rowsL ls k)[p]? = some x := ⟨_, List.getElem?_eq_getElem (by have := HLk.out; omega)⟩
          obtain ⟨c, gc, hlb⟩ := Hat.out.bytes1 p x hx
          obtain ⟨m, rfl⟩ := HAtx.out p x hx
          obtain ⟨xa, xb, xo, xc, hxv, hxm, hxc, hxat⟩ := hlb.at
          rw [List.length_replicate] at hxv hxm hxc
          subst hxv
          have Hxat := Lib.hid hxat
          have hmk := mark_half p
          generalize markB (p / 2) = mk at *
          have hp0 : (0 : Int) ≤ p := by omega
          have hp1 : (p : Int) < ((2 * k : Nat) : Int) := by omega
          clear hx hlb hxat
          go_wp2_with fail
          go_loop [10] (fun i => ∃ q : Nat, i = .int .i64 q ∧ q ≤ m) (fun i => m - (intOf i).toNat)
          case atStart => exact ⟨0, rfl, Nat.zero_le _⟩
          case round =>
            obtain ⟨q, rfl, hq⟩ := hrel
            by_cases hq2 : q < m
            · obtain rfl := Hxat.out.addr (by simp; omega)
              have g0 := Hxat.out.byte1 q mk (by rw [List.getElem?_replicate, if_pos hq2])
              have hq0 : (0 : Int) ≤ q := by omega
              have hq1 : (q : Int) < m := by omega
              go_wp2
              go_round
              case rel => exact ⟨q + 1, by go_num, by omega⟩
              case measure => simp [intOf]; omega
            · go_wp2
              go_round
              case rel => exact ⟨p + 1, by go_num, by omega⟩
              case measure => simp [intOf]; omega
        · go_wp2
          go_ret
          exact ⟨rfl, Hb.out⟩

end Go.Proofs.Ytbliedldlimpgaa

namespace Go.Proofs.Ytbliedldlimpgaa
set_option linter.unusedVariables false
set_option linter.unusedSimpArgs false
open Go.RowKit

/-- Owned of two lists, in a slice made for the call -/
theorem lowned_two (w : World) (B : Nat) (x y : Value) (l1 l2 : List UInt8) (hB : B ≤ w.heap.size) (hx : OwnK 5 kByte B (fun _ => False) w x l1) (hy : OwnK 5 kByte B (fun _ => False) w y l2)
    (hxy : ∀ b, x.ownBlock = some b → y.ownBlock ≠ some b) (h1 : l1.length ≤ 1000000000) (h2 : l2.length ≤ 1000000000) :
    Calls Try.prog 14 #[.slice (some ⟨w.heap.size, 0, none⟩) 2 2] (w.alloc (.cells #[x, y] 36 (0, 0))) fun e w' => e = .returned (.bool true) ∧ Below B (w.alloc (.cells #[x, y] 36 (0, 0))) w' := by
  have hxl := hx.lt
  have hyl := hy.lt
  have hall := heap_alloc_new w (.cells #[x, y] 36 (0, 0))
  refine lowned_any (w.alloc (.cells #[x, y] 36 (0, 0))) B w.heap.size 2 [x, y] [l1, l2] (by simp) rfl ?_ ?_ (by simp) ?_ (by simp; omega) ?_ ?_
  · intro l hl
    rcases List.mem_cons.1 hl with rfl | hl
    · exact h1
    · rcases List.mem_cons.1 hl with rfl | hl
      · exact h2
      · cases hl
  · intro i u hu
    match i, hu with
    | 0, hu => rw [Lib.cell_of_heap hall]; exact hu
    | 1, hu => rw [Lib.cell_of_heap hall]; exact hu
    | i + 2, hu => simp at hu
  · intro u hu e
    rcases List.mem_cons.1 hu with rfl | hu
    · have := (hxl _ e).2; omega
    · rcases List.mem_cons.1 hu with rfl | hu
      · have := (hyl _ e).2; omega
      · cases hu
  · intro i u l hu hl
    match i, hu, hl with
    | 0, hu, hl => cases hu; cases hl; exact hx.alloc _
    | 1, hu, hl => cases hu; cases hl; exact hy.alloc _
    | i + 2, hu, _ => simp at hu
  · intro i j u v b hu hv hub hvb
    match i, j, hu, hv with
    | 0, 0, _, _ => rfl
    | 1, 1, _, _ => rfl
    | 0, 1, hu, hv => cases hu; cases hv; exact absurd hvb (hxy b hub)
    | 1, 0, hu, hv => cases hu; cases hv; exact absurd hub (hxy b hvb)
    | i + 2, _, hu, _ => simp at hu
    | 0, j + 2, _, hv => simp at hv
    | 1, j + 2, _, hv => simp at hv

end Go.Proofs.Ytbliedldlimpgaa

/- The law ImageEncodes: what the program's functions come to. -/
namespace Go.Proofs.Ytbliedldlimpgaa
set_option linter.unusedVariables false
set_option linter.unusedSimpArgs false
open Go.RowKit

set_option maxHeartbeats 32000000 in
set_option maxRecDepth 100000 in
theorem encodes_of (HDec : DecSays) (w : World) (v : ImgV) (im : ImgL) (hm : ImgM (· < w.heap.size) w v im) (hbl : ∀ c ∈ im.buckets, c.length ≤ 140737488355328) :
    Calls Try.prog 4 #[.agg (imgCells v im)] w fun e w' => e = .returned (.bool true) ∧ Below w.heap.size w w' := by
  have HAw := Lib.hid (awake_says HDec)
  have HEnc : Hid (∀ w', Below w.heap.size w w' → Calls Try.prog 12 #[.agg (imgCells v im)] w' fun e w'' => ∃ r, e = .returned (.tuple #[r, .int .i64 (mayL im)]) ∧ Below w'.heap.size w' w'' ∧ (mayL im ≠ 0 → r = .slice none 0 0) ∧ (mayL im = 0 → OwnK 5 kByte w'.heap.size (fun _ => False) w'' r (formL im))) := Lib.hid (fun w' hb => iencode_any w' v im (hm.later hb))
  have HJ : Hid (∀ w', Below w.heap.size w w' → Calls Try.prog 11 #[.agg (imgCells v im)] w' fun e w'' => e = .returned (.int .i64 (mayL im)) ∧ Below w'.heap.size w' w'') := Lib.hid (fun w' hb => jmay_any w' v im (hm.later hb) hbl)
  have HForm : Hid (mayL im = 0 → ∀ w', Below w.heap.size w w' → Calls Try.prog 13 #[.agg (imgCells v im)] w' fun e w'' => ∃ r, e = .returned (.tuple #[r, .bool true]) ∧ Below w'.heap.size w' w'' ∧ OwnK 5 kByte w'.heap.size (fun _ => False) w'' r (formL im)) := Lib.hid (fun h0 w' hb => jform_any w' v im (hm.later hb) h0)
  have HLn : Hid (mayL im = 0 → (formL im).length ≤ 1000000000) := Lib.hid (fun h0 => form_len (may_ok h0 hm.wordsR) (may_few h0))
  obtain ⟨vsegs, vneeded, vrunPath, vsyms, vbuckets, vwords, vrelocs, vslots, vinit, vfini, vtls⟩ := v
  unfold imgCells at *
  clear hm hbl
  obtain ⟨mm, hmm⟩ : ∃ mm, mayL im = mm := ⟨_, rfl⟩
  rw [hmm] at HEnc HJ HForm HLn
  clear hmm
  generalize hI : (Array.mk [.string ⟨im.name.toArray⟩, .int .i64 im.flags, vsegs, vneeded, vrunPath, vsyms, vbuckets, vwords, .int .i64 im.shift, vrelocs, vslots, vinit, vfini, vtls, .int .i64 im.tlsSize] : Array Value) = I at HEnc HJ HForm
  have F0 := Lib.hid (heap_alloc_new w (.cells I 38 (0, 0)))
  have B0 := Lib.hid ((Below.refl w.heap.size w).alloc (Nat.le_refl _) (.cells I 38 (0, 0)))
  have hz0 : w.heap.size < (w.alloc (.cells I 38 (0, 0))).heap.size := by simp
  subst hI
  go_enter Try.func4, Try.ntmps4
  go_upto_region 1 with fail
  generalize w.alloc (.cells #[.string ⟨im.name.toArray⟩, .int .i64 im.flags, vsegs, vneeded, vrunPath, vsyms, vbuckets, vwords, .int .i64 im.shift, vrelocs, vslots, vinit, vfini, vtls, .int .i64 im.tlsSize] 38 (0, 0)) = w1 at *
  go_wp2_with fail
  refine (HAw.out _).mono ?_
  rintro e w2 ⟨rfl, hb2⟩
  have hz2 := hb2.size
  have F2 := Lib.hid ((hb2.block w.heap.size hz0).trans F0.out)
  have B2 := Lib.hid (B0.out.trans (hb2.mono (by omega)))
  clear hb2 F0 B0 HAw
  obtain ⟨i0, i1, i2, i3, i4, i5, i6, i7, i8, i9, i10, i11, i12, i13, i14⟩ := img_cells F2.out
  go_wp2_with fail
  refine (HEnc.out w2 B2.out).mono ?_
  rintro e w3 ⟨ra, rfl, hb3, hr1, hr2⟩
  have hz3 := hb3.size
  have F3 := Lib.hid ((hb3.block w.heap.size (by omega)).trans F2.out)
  have B3 := Lib.hid (B2.out.trans (hb3.mono (by omega)))
  have R1 := Lib.hid hr1
  have R2 := Lib.hid hr2
  clear hb3 F2 B2 hr1 hr2 i0 i1 i2 i3 i4 i5 i6 i7 i8 i9 i10 i11 i12 i13 i14
  obtain ⟨i0, i1, i2, i3, i4, i5, i6, i7, i8, i9, i10, i11, i12, i13, i14⟩ := img_cells F3.out
  go_wp2_with fail
  refine (HEnc.out w3 B3.out).mono ?_
  rintro e w4 ⟨rb, rfl, hb4, hr3, hr4⟩
  have hz4 := hb4.size
  have F4 := Lib.hid ((hb4.block w.heap.size (by omega)).trans F3.out)
  have B4 := Lib.hid (B3.out.trans (hb4.mono (by omega)))
  have N4 := Lib.hid hb4
  have R3 := Lib.hid hr3
  have R4 := Lib.hid hr4
  clear hb4 F3 hr3 hr4 i0 i1 i2 i3 i4 i5 i6 i7 i8 i9 i10 i11 i12 i13 i14 HEnc
  obtain ⟨i0, i1, i2, i3, i4, i5, i6, i7, i8, i9, i10, i11, i12, i13, i14⟩ := img_cells F4.out
  go_wp2_with fail
  refine (HJ.out w4 B4.out).mono ?_
  rintro e w5 ⟨rfl, hb5⟩
  have hz5 := hb5.size
  have F5 := Lib.hid ((hb5.block w.heap.size (by omega)).trans F4.out)
  have B5 := Lib.hid (B4.out.trans (hb5.mono (by omega)))
  have N5 := Lib.hid hb5
  clear hb5 F4 i0 i1 i2 i3 i4 i5 i6 i7 i8 i9 i10 i11 i12 i13 i14 HJ
  have hne : (mm != mm) = false := by simp
  by_cases h0 : mm = 0
  case neg =>
    have hd0 : (mm != 0) = true := by simpa using h0
    obtain rfl := R1.out h0
    obtain rfl := R3.out h0
    clear R1 R2 R3 R4 HForm HLn F5 N4 N5
    go_wp2
    go_ret
    exact ⟨rfl, B5.out⟩
  have HOa := Lib.hid (R2.out h0)
  have HOb := Lib.hid (R4.out h0)
  have HF := Lib.hid (HForm.out h0)
  have HL := Lib.hid (HLn.out h0)
  subst h0
  clear R1 R2 R3 R4 HForm HLn
  obtain ⟨aa, ac, hra⟩ := HOa.out.form
  subst hra
  obtain ⟨ba, bc, hrb⟩ := HOb.out.form
  subst hrb
  obtain ⟨i0, i1, i2, i3, i4, i5, i6, i7, i8, i9, i10, i11, i12, i13, i14⟩ := img_cells F5.out
  go_wp2_with fail
  refine (HF.out w5 B5.out).mono ?_
  rintro e w6 ⟨rf, rfl, hb6, hof⟩
  have hz6 := hb6.size
  obtain ⟨fa, fc, hrf⟩ := hof.form
  subst hrf
  have B6 := Lib.hid (B5.out.trans (hb6.mono (by omega)))
  have N36 := Lib.hid ((N4.out.trans (N5.out.mono (by omega))).trans (hb6.mono (by omega)))
  have N46 := Lib.hid ((N5.out).trans (hb6.mono (by omega)))
  have Oa6 := Lib.hid (HOa.out.below N36.out)
  have Ob6 := Lib.hid (HOb.out.below N46.out)
  have s1 := run_str Oa6.out.lb
  have s2 := run_str Ob6.out.lb
  have s3 := run_str hof.lb
  have HOw := Lib.hid (lowned_two w6 w.heap.size _ _ _ _ (by have := B6.out.size; omega) (Oa6.out.mono (by omega)) (Ob6.out.mono (by omega)) (fun b hb e => by have := (HOa.out.lt b hb).2; have := (HOb.out.lt b e).1; omega) HL.out HL.out)
  have hqq : (formL im == formL im) = true := by simp
  have Hz := Lib.hid hz6
  clear hb6 hof Oa6 Ob6 HOa HOb N36 N46 N4 N5 F5 i0 i1 i2 i3 i4 i5 i6 i7 i8 i9 i10 i11 i12 i13 i14 HF HL hz6
  generalize formL im = f1 at *
  go_wp2_with fail
  refine HOw.out.mono ?_
  rintro e w7 ⟨rfl, hb7⟩
  have B7 := Lib.hid ((B6.out.alloc (by have := B6.out.size; omega) _).trans hb7)
  clear hb7 HOw s1 s2 s3
  go_wp2
  go_ret
  exact ⟨rfl, B7.out⟩

end Go.Proofs.Ytbliedldlimpgaa

/- ImageEncodes, no condition: for every such input the law returns true, and its arguments read behind the call as they did. -/
namespace Go.Proofs.Ytbliedldlimpgaa.imageEncodesLaw
set_option linter.unusedVariables false
set_option linter.unusedSimpArgs false
open Go.ChangeShapes Go.WideShapes Go.ChangeAt Go.RowKit

set_option maxRecDepth 100000 in
theorem contract (HDec : DecSays) (H : Type) (enc : TypeId × Value → H) (W : World) (base : Nat) (args : Array Value) (ds gs : List (DataW H)) (before : List MemPlace)
    (hval : ∀ (j : Nat) t v, Try.f4.params[j]? = some t → args[j]? = some v → Value.okWide Try.prog W .any base t v)
    (hW : DataW.Whole enc Try.prog Try.f4.params.toList Rows.imageEncodesSpec.vars false W args.toList ds gs before) (hsz : (DataW.weightsEach Try.prog (Try.f4.params.toList ++ Rows.imageEncodesSpec.plain.varTypes Try.prog) (ds ++ gs)).all (· ≤ reachBytes) = true) :
    Calls Try.prog 4 args W fun e W' => ∃ v, e = .returned v ∧ Rows.imageEncodesSpec.post enc Try.prog Try.f4 false true false false W args v W' := by
  have hW' := hW
  obtain ⟨p, q, hA0, hV, rfl, hfz, hnd⟩ := hW
  have hA : DataW.TrodAll enc Try.prog W 0 (fun _ => true) true Try.f4.params.toList args.toList ds p := hA0
  rw [Try.params4] at hA hval hsz
  obtain ⟨v0, d0, rfl, rfl, h0⟩ := trodAll_one hA
  obtain ⟨rfl, rfl⟩ := trodVars_none hV
  have hwt0 : ∀ k ∈ DataW.weights Try.prog 38 d0, k ≤ reachBytes := fun k hk => of_decide_eq_true (List.all_eq_true.1 hsz k (by exact List.mem_append_left _ hk))
  obtain ⟨vv, im, rfl, hm, gbk⟩ := open_image (hval 0 38 v0 rfl rfl) h0
  clear hA0
  simp only [List.append_nil, List.nil_append] at hW' hfz
  have hlt0 : ∀ x ∈ p, x.block < W.heap.size := fun x hx => hW'.lt x (by simp [hx])
  refine (encodes_of HDec W vv im hm (fun c hc => Nat.le_trans ((gbk c hc).2 hwt0) (by decide))).mono fun e W' ⟨he, hbl⟩ => ?_
  subst he
  exact ⟨_, rfl, ⟨_, _, _, [], p, [], hW', trodAll_mk1 (shut_bool Try.underlying4 _),
    trodAll_mk1 (Below.trod laidOut (by kernel_rfl) (of_decide_eq_true (by kernel_rfl)) h0 hbl hlt0), rfl, hbl.frame _, fun h => by cases h⟩⟩

set_option maxRecDepth 100000 in
theorem lifted (HDec : DecSays) (os : Os) (started : os.Started) (H : Type) (enc : TypeId × Value → H) :
    ReturnsInHanded {} Try.checked os 4 .any (Rows.imageEncodesSpec.pre6 enc Try.prog Try.f4 Rows.imageEncodesRow.domain false) (Rows.imageEncodesSpec.post enc Try.prog Try.f4 false true false false) := by
  refine returnsInHanded_of_change_sized (C := Try.checked) own started (by kernel_rfl) Try.func4
    (ChangeSpec.witness6 (enc := enc) (C := Try.checked) false ⟨#[], #[.agg (imgCells noneV noneImg)], []⟩ 12 (by kernel_rfl) (by kernel_rfl) (by kernel_rfl) (by kernel_rfl)) ?_
  intro W base args ds gs before hval hW _ hsz _
  exact contract HDec H enc W base args ds gs before hval hW hsz

theorem over (HDec : DecSays) : Rows.ImageEncodesSaid :=
  OpenClaim.holds_of_wide 4 Try.f4 rfl rfl rfl rfl rfl rfl rfl ⟨rfl, rfl, rfl, rfl, rfl⟩ rfl rfl rfl rfl rfl (by kernel_rfl) Try.func4 (by kernel_rfl)
    (of_decide_eq_true (by kernel_rfl)) (by unfold Func.isWrapper; first | (rw [if_pos (by decide +kernel)]; kernel_rfl) | (rw [if_neg (by decide +kernel)]; exact ⟨rfl, rfl⟩))
    (fun os started H enc _ => lifted HDec os started H enc)

end Go.Proofs.Ytbliedldlimpgaa.imageEncodesLaw

namespace Go.Proofs.Ytbliedldlimpgaa.imageEncodesLaw
set_option linter.unusedVariables false
set_option linter.unusedSimpArgs false

theorem proved : Rows.ImageEncodesSaid := over dec_says

end Go.Proofs.Ytbliedldlimpgaa.imageEncodesLaw
