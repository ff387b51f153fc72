/- ImageUnlike, no condition: for every such input the law returns true, and its arguments read behind the call as they did. -/
import Derived.Test.YtbliedldlimpgaaBas2
import Derived.Test.YtbliedldlimpgaaBas29
import Derived.Test.YtbliedldlimpgaaBas31
import Derived.Test.YtbliedldlimpgaaBas5
import Derived.Test.YtbliedldlimpgaaBas32

namespace Go.Proofs.Ytbliedldlimpgaa
set_option linter.unusedVariables false
set_option linter.unusedSimpArgs false
open Go.RowKit

theorem setCell_row0 {w : World} {b k : Nat} {cs : Array Value} {t : TypeId} {fr : Nat × Nat} (u : Value) (h : w.heap[b]? = some (.cells cs t fr)) : (w.setCell ⟨b, k, none⟩ u).heap[b]? = some (.cells (cs.setIfInBounds k u) t fr) := by
  simp [World.setCell, Array.getElem?_modify, h]
theorem step_setRow1 (w : World) (g : Nat) (cs : Array Value) : Step (fun x => x ≠ g) w (w.setRow g cs) := ⟨rfl, rfl, rfl, by simp, fun b hb => setRow_other _ _ _ _ hb⟩
theorem results_one {P : Program} {fn : Func} {p : Tmp} {ty : TypeId} (h : fn.results = #[.cell p ty]) (tmps : Array Value) (w : World) (g : Nat) (t : TypeId) (cs : Array Value) (fr : Nat × Nat) (d : TypeDesc)
    (hp : tmps.getD p undef = .pointer (some ⟨g, 0, none⟩)) (hg : w.heap[g]? = some (.cells cs t fr))
    (hu : P.underlying ty = some d) (hd : (match d with | .struct _ | .array _ _ => true | _ => false) = true) (hi : (P.info? ty).map (·.size) = some cs.size) :
    (results fn tmps).run P w = .ok (.agg cs) w := results_cell_row h tmps w g t cs fr d hp hg hu hd hi
theorem infoword : (Try.prog.info? 63).map (fun i => (i.zero, i.size, i.bytes)) = some (some (.int .u64 0), 1, 8) := by kernel_rfl
set_option maxHeartbeats 8000000 in
set_option maxRecDepth 100000 in
/-- clevisref02.Add of no hashes: a copy of its own -/
theorem jadd_nil (w : World) (wv : Value) (ws : List Int) (sh : Int) (hw : LB kWord (· < w.heap.size) w wv ws) (hlen : ws.length ≤ 1000000) :
    Calls Try.prog 16 #[.agg #[wv, .int .i64 sh], .slice none 0 0] w fun e w' => ∃ r, e = .returned (.agg #[r, .int .i64 sh]) ∧ Below w.heap.size w w' ∧ OwnK 63 kWord w.heap.size (fun _ => False) w' r ws := by
  obtain ⟨wa, wc, rfl⟩ := hw.form
  have HW := Lib.hid hw
  clear hw
  have F0 := Lib.hid (heap_alloc_new w (.cells #[.slice wa ws.length wc, .int .i64 sh] 30 (0, 0)))
  have hz0 : (w.alloc (.cells #[.slice wa ws.length wc, .int .i64 sh] 30 (0, 0))).heap.size = w.heap.size + 1 := by simp
  have L0 := Lib.hid (HW.out.keeps (fun b hb => heap_alloc_old w (.cells #[.slice wa ws.length wc, .int .i64 sh] 30 (0, 0)) hb))
  have B0 := Lib.hid ((Below.refl w.heap.size w).alloc (Nat.le_refl _) (.cells #[.slice wa ws.length wc, .int .i64 sh] 30 (0, 0)))
  go_enter Try.func16, Try.ntmps16
  go_upto_region 1 with fail
  have FO := Lib.hid (heap_alloc_new (w.alloc (.cells #[.slice wa ws.length wc, .int .i64 sh] 30 (0, 0))) (.cells #[.slice none 0 0, .int .i64 0] 30 (0, 0)))
  have FF := Lib.hid ((heap_alloc_old (w.alloc (.cells #[.slice wa ws.length wc, .int .i64 sh] 30 (0, 0))) (.cells #[.slice none 0 0, .int .i64 0] 30 (0, 0)) (r := w.heap.size) (by omega)).trans F0.out)
  have L1 := Lib.hid (L0.out.keeps (fun b hb => heap_alloc_old (w.alloc (.cells #[.slice wa ws.length wc, .int .i64 sh] 30 (0, 0))) (.cells #[.slice none 0 0, .int .i64 0] 30 (0, 0)) (r := b) (by have hb : b < w.heap.size := hb; omega)))
  have B1 := Lib.hid (B0.out.alloc (by omega) (.cells #[.slice none 0 0, .int .i64 0] 30 (0, 0)))
  have hz1 : ((w.alloc (.cells #[.slice wa ws.length wc, .int .i64 sh] 30 (0, 0))).alloc (.cells #[.slice none 0 0, .int .i64 0] 30 (0, 0))).heap.size = w.heap.size + 2 := by simp
  rw [hz0] at FO
  clear F0 L0 B0 hz0
  generalize (w.alloc (.cells #[.slice wa ws.length wc, .int .i64 sh] 30 (0, 0))).alloc (.cells #[.slice none 0 0, .int .i64 0] 30 (0, 0)) = w1 at *
  have hs1 : w.heap.size + 2 ≤ w1.heap.size := by omega
  have hs2 : w1.heap.size ≤ w.heap.size + 2 := by omega
  clear hz1
  have c0 : w1.cell? ⟨w.heap.size, 0, none⟩ = some (.slice wa ws.length wc) := by rw [Lib.cell_of_heap FF.out]; rfl
  have c1 : w1.cell? ⟨w.heap.size, 1, none⟩ = some (.int .i64 sh) := by rw [Lib.cell_of_heap FF.out]; rfl
  go_upto_region 2 with fail
  have G0 := Lib.hid (heap_alloc_new w1 (.cells #[.slice none 0 0, .int .i64 sh] 30 (0, 0)))
  have FF2 := Lib.hid ((heap_alloc_old w1 (.cells #[.slice none 0 0, .int .i64 sh] 30 (0, 0)) (r := w.heap.size) (by omega)).trans FF.out)
  have FO2 := Lib.hid ((heap_alloc_old w1 (.cells #[.slice none 0 0, .int .i64 sh] 30 (0, 0)) (r := w.heap.size + 1) (by omega)).trans FO.out)
  have L2 := Lib.hid (L1.out.keeps (fun b hb => heap_alloc_old w1 (.cells #[.slice none 0 0, .int .i64 sh] 30 (0, 0)) (r := b) (by have hb : b < w.heap.size := hb; omega)))
  have B2 := Lib.hid (B1.out.alloc (by omega) (.cells #[.slice none 0 0, .int .i64 sh] 30 (0, 0)))
  have hz2 : w1.heap.size < (w1.alloc (.cells #[.slice none 0 0, .int .i64 sh] 30 (0, 0))).heap.size := by simp
  clear c0 c1 FF FO L1 B1
  generalize w1.alloc (.cells #[.slice none 0 0, .int .i64 sh] 30 (0, 0)) = w2 at *
  generalize w1.heap.size = ob at *
  have c0 : w2.cell? ⟨w.heap.size, 0, none⟩ = some (.slice wa ws.length wc) := by rw [Lib.cell_of_heap FF2.out]; rfl
  have d0 : w2.cell? ⟨ob, 0, none⟩ = some (.slice none 0 0) := by rw [Lib.cell_of_heap G0.out]; rfl
  go_wp2_with (at_builtin; refine wpList_appendsK (B := w.heap.size) (E := (· < w2.heap.size)) (l := []) plain_word 28 (.int .u64 0) 8 Try.underlying28 infoword rfl rfl (.tmp 13) (.tmp 15) rfl rfl (OwnK.nil _ _ _ _ _) (fun x hx => hx) _ ws rfl L2.out ?c1 ?c2 (by omega) ?_)
  case c1 => simp; omega
  case c2 => simp; omega
  intro r w3 ho hs3 _
  have S3 : Step (fun b => b < w2.heap.size) w2 w3 := hs3.imp (fun b hb => ⟨hb, by simp [Value.ownBlock]⟩)
  have hz3 := hs3.size
  have G3 := Lib.hid ((S3.block ob (by omega)).trans G0.out)
  have FO3 := Lib.hid ((S3.block (w.heap.size + 1) (by omega)).trans FO2.out)
  have B3 : Hid (Below w.heap.size w w3) := Lib.hid (((Step.of_below B2.out).trans (S3.imp (fun b hb => by have hb : b < w.heap.size := hb; show b < _; omega))).below)
  have HO := Lib.hid ho
  clear ho hs3 S3 c0 d0 G0 FF2 FO2 L2 B2
  have d0 : w3.cell? ⟨ob, 0, none⟩ = some (.slice none 0 0) := by rw [Lib.cell_of_heap G3.out]; rfl
  have f0 : w3.frozen? ⟨ob, 0, none⟩ = false := Lib.frozen_of_heap G3.out 0
  obtain ⟨ra, rc, hr⟩ := HO.out.form
  replace hr : r = .slice ra ws.length rc := hr
  replace HO : Hid (OwnK 63 kWord w.heap.size (· < w2.heap.size) w3 r ws) := HO
  subst hr
  have G4 := Lib.hid (setCell_row0 (k := 0) (.slice ra ws.length rc) G3.out)
  have S4 := setCell_step w3 ob 0 (.slice ra ws.length rc)
  have FO4 := Lib.hid ((S4.block (w.heap.size + 1) (by show _ ≠ ob; omega)).trans FO3.out)
  have B4 : Hid (Below w.heap.size w (w3.setCell ⟨ob, 0, none⟩ (.slice ra ws.length rc))) := Lib.hid (((Step.of_below B3.out).trans (S4.imp (fun b hb => by have hb : b < w.heap.size := hb; show b ≠ ob; omega))).below)
  have HO4 := Lib.hid (HO.out.step S4 (fun b _ hb e => hb (by show b < w2.heap.size; rw [e]; omega)))
  have hz4 : w3.heap.size ≤ (w3.setCell ⟨ob, 0, none⟩ (.slice ra ws.length rc)).heap.size := by simp
  clear G3 FO3 B3 HO S4
  go_upto_region 3 with fail
  generalize w3.setCell ⟨ob, 0, none⟩ (.slice ra ws.length rc) = w4 at *
  clear d0 f0
  go_wp2_with fail
  go_loopw [6] (fun i wr => i = .int .i64 0 ∧ wr = w4) (fun _ _ => 0)
  case atStart => exact ⟨rfl, rfl⟩
  case round =>
    obtain ⟨rfl, hw4⟩ := hrel
    subst hw4
    have d0 : wr.cell? ⟨ob, 0, none⟩ = some (.slice ra ws.length rc) := by rw [Lib.cell_of_heap G4.out]; rfl
    have d1 : wr.cell? ⟨ob, 1, none⟩ = some (.int .i64 sh) := by rw [Lib.cell_of_heap G4.out]; rfl
    go_wp2_with (refine wpList_store_row rfl 30 (.tmp 4) (.tmp 62) rfl (w.heap.size + 1) #[.slice ra ws.length rc, .int .i64 sh] rfl rfl _ _ FO4.out (by kernel_rfl) rfl (by simp [Value.oneCell']) ?_)
    go_wp2_with fail
    have FR := Lib.hid (setRow_heap _ (w.heap.size + 1) _ #[.slice ra ws.length rc, .int .i64 sh] _ _ FO4.out)
    have S5 := step_setRow1 wr (w.heap.size + 1) #[.slice ra ws.length rc, .int .i64 sh]
    refine bodyPost_ret (results_one rfl _ _ (w.heap.size + 1) _ _ _ _ rfl FR.out Try.underlying30 rfl (by kernel_rfl)) rfl ?_
    have HO5 := HO4.out.step S5 (fun b _ hb e => hb (by show b < w2.heap.size; rw [e]; omega))
    exact ⟨.slice ra ws.length rc, rfl, ((Step.of_below B4.out).trans (S5.imp (fun b hb => by have hb : b < w.heap.size := hb; show b ≠ _; omega))).below, OwnK.of_plain plain_word (HO5.plain_row plain_word) (fun g hg => id)⟩

end Go.Proofs.Ytbliedldlimpgaa

/- The law ImageUnlike: what the program's functions come to. -/
namespace Go.Proofs.Ytbliedldlimpgaa
set_option linter.unusedVariables false
set_option linter.unusedSimpArgs false
open Go.RowKit

theorem OwnK.row {α : Type} {e : TypeId} {K : Kind α} {f : α → Value} {B : Nat} {E : Nat → Prop} {w : World} {v : Value} {l : List α} (hp : Plain K f) (h : OwnK e K B E w v l) (h0 : 0 < l.length) :
    ∃ g cap cur, v = .slice (some ⟨g, 0, none⟩) l.length cap ∧ B ≤ g ∧ w.heap[g]? = some (.cells cur e (0, 0)) ∧ ∀ (i : Nat) (x : α), l[i]? = some x → w.cell? ⟨g, i, none⟩ = some (f x) := by
  have hr := h.plain_row hp
  have hc := fun g hg => World.ownsRow.cells hr (g := g) hg
  rcases hr.2 with ⟨_, hz⟩ | ⟨g, cap, cur, rfl, hg, hh, _⟩
  · omega
  · refine ⟨g, cap, cur, rfl, hg, hh, fun i x hx => ?_⟩
    have := hc g rfl i (f x) (by rw [List.getElem?_map, hx]; rfl)
    simpa [Addr.add_lit] using this
theorem OwnK.put {α : Type} {e : TypeId} {K : Kind α} {f : α → Value} {B : Nat} {E : Nat → Prop} {w : World} {g n c : Nat} {l : List α} (hp : Plain K f) (h : OwnK e K B E w (.slice (some ⟨g, 0, none⟩) n c) l) (k : Nat) (y : α) :
    OwnK e K B E (w.setCell ⟨g, k, none⟩ (f y)) (.slice (some ⟨g, 0, none⟩) n c) (l.set k y) := by
  have hr := h.plain_row hp
  refine OwnK.of_plain hp ⟨by simp, ?_⟩ h.notE
  rcases hr.2 with ⟨hv, _⟩ | ⟨g', cap, cur, hv, hg, hh, hle, hcap, hs, ht⟩
  · cases hv
  · cases hv
    refine Or.inr ⟨g, c, cur.setIfInBounds k (f y), by rw [List.length_set], hg, setCell_row0 _ hh, by rw [List.length_set]; exact hle, hcap, by simpa using hs, ?_⟩
    rw [List.length_set, Array.toList_setIfInBounds, List.take_set, ht, List.map_set]
theorem words_pos {im : ImgL} (h : tableB im = true) : 1 ≤ im.words.length := by
  simp only [tableB, Bool.and_eq_true, decide_eq_true_eq] at h
  have hsv := h.1.1.2
  simp only [sieveB, Bool.and_eq_true, Bool.or_eq_true, decide_eq_true_eq] at hsv
  omega
theorem which_word (b : Int) (n : Nat) (h : 1 ≤ n) : ∃ k : Nat, (IntKind.u64.wrap b).tmod (n : Int) = k ∧ k < n := by
  have h0 : 0 ≤ IntKind.u64.wrap b := by rw [show IntKind.u64.wrap b = b % 18446744073709551616 from by simp [IntKind.wrap, IntKind.bits, IntKind.signed]]; omega
  rw [Int.tmod_eq_emod_of_nonneg h0]
  have h1 := Int.emod_nonneg (IntKind.u64.wrap b) (show (n : Int) ≠ 0 by omega)
  have h2 := Int.emod_lt_of_pos (IntKind.u64.wrap b) (show (0 : Int) < n by omega)
  exact ⟨(IntKind.u64.wrap b % (n : Int)).toNat, by omega, by omega⟩

theorem xor_small (a b : Nat) (ha : a < 65536) (hb : b < 65536) : bits .xor .i64 (a : Int) (b : Int) = ((a ^^^ b : Nat) : Int) := by
  have hx : a ^^^ b < 2 ^ 16 := Nat.xor_lt_two_pow (by omega) (by omega)
  have h1 : (BitVec.ofInt 64 (a : Int)).toNat = a := by
    rw [BitVec.ofInt_natCast, BitVec.toNat_ofNat]; exact Nat.mod_eq_of_lt (by omega)
  have h2 : (BitVec.ofInt 64 (b : Int)).toNat = b := by
    rw [BitVec.ofInt_natCast, BitVec.toNat_ofNat]; exact Nat.mod_eq_of_lt (by omega)
  show IntKind.i64.wrap ((BitVec.ofInt 64 (a : Int) ^^^ BitVec.ofInt 64 (b : Int)).toNat : Int) = _
  rw [BitVec.toNat_xor, h1, h2]
  generalize a ^^^ b = c at hx ⊢
  have e : (c : Int) % (2 ^ 64 : Int) = c := by omega
  show (if (true && decide ((c : Int) % (2 ^ 64 : Int) ≥ (2 ^ (64 - 1) : Int))) = true then (c : Int) % (2 ^ 64 : Int) - (2 ^ 64 : Int) else (c : Int) % (2 ^ 64 : Int)) = c
  rw [e]
  have h : decide ((c : Int) ≥ (2 ^ (64 - 1) : Int)) = false := by rw [decide_eq_false_iff_not]; omega
  rw [h]
  rfl
theorem bytes_x (l : List UInt8) : ((⟨l.toArray⟩ : ByteArray) ++ ⟨#[120]⟩) = ⟨(l ++ [120]).toArray⟩ := by
  apply ByteArray.ext
  simp
theorem xor_other {a b : Nat} (hb : b ≠ 0) : a ^^^ b ≠ a := by
  intro h
  have h2 : a ^^^ (a ^^^ b) = b := by rw [← Nat.xor_assoc, Nat.xor_self, Nat.zero_xor]
  rw [h, Nat.xor_self] at h2
  exact hb h2.symm
theorem not_word (x : Int) (hx : 0 ≤ x ∧ x < 18446744073709551616) : ∃ y : Int, bits BinOp.xor IntKind.u64 (if IntKind.u64.signed = true then -1 else IntKind.u64.max) x = y ∧ y ≠ x ∧ 0 ≤ y ∧ y < 18446744073709551616 := by
  obtain ⟨a, rfl⟩ : ∃ a : Nat, x = a := ⟨x.toNat, by omega⟩
  have ha : a < 2 ^ 64 := by omega
  have hm : (18446744073709551615 : Nat) < 2 ^ 64 := by omega
  have hc1 : 18446744073709551615 ^^^ a < 2 ^ 64 := Nat.xor_lt_two_pow hm ha
  have hc2 : 18446744073709551615 ^^^ a ≠ a := by
    rw [Nat.xor_comm]
    exact xor_other (a := a) (by omega)
  have e : bits BinOp.xor IntKind.u64 (if IntKind.u64.signed = true then -1 else IntKind.u64.max) (a : Int) = ((18446744073709551615 ^^^ a : Nat) : Int) := by
    have h0 : (if IntKind.u64.signed = true then -1 else IntKind.u64.max) = ((18446744073709551615 : Nat) : Int) := by simp [IntKind.max, IntKind.bits, IntKind.signed]
    rw [h0]
    have h1 : (BitVec.ofInt 64 ((18446744073709551615 : Nat) : Int)).toNat = 18446744073709551615 := by
      rw [BitVec.ofInt_natCast, BitVec.toNat_ofNat]
    have h2 : (BitVec.ofInt 64 (a : Int)).toNat = a := by
      rw [BitVec.ofInt_natCast, BitVec.toNat_ofNat]; exact Nat.mod_eq_of_lt ha
    show IntKind.u64.wrap ((BitVec.ofInt 64 ((18446744073709551615 : Nat) : Int) ^^^ BitVec.ofInt 64 (a : Int)).toNat : Int) = _
    rw [BitVec.toNat_xor, h1, h2]
    generalize 18446744073709551615 ^^^ a = c at hc1 hc2 ⊢
    rw [show IntKind.u64.wrap (c : Int) = (c : Int) % 18446744073709551616 from by simp [IntKind.wrap, IntKind.bits, IntKind.signed]]
    clear hc2
    omega
  rw [e]
  generalize 18446744073709551615 ^^^ a = c at hc1 hc2 ⊢
  exact ⟨_, rfl, by omega, by omega, by omega⟩
/-- a number made of another one, none of the first m but 0 -/
theorem other_small (by' m : Int) (hm : 0 < m ∧ m ≤ 1000) : ∃ n : Nat, n ≠ 0 ∧ n ≤ 1000 ∧ wrap64 (IntKind.u64.wrap (1 + (IntKind.u64.wrap by').tmod m)) = n := by
  have h0 : 0 ≤ IntKind.u64.wrap by' := by rw [show IntKind.u64.wrap by' = by' % 18446744073709551616 from by simp [IntKind.wrap, IntKind.bits, IntKind.signed]]; omega
  rw [Int.tmod_eq_emod_of_nonneg h0]
  have h1 := Int.emod_nonneg (IntKind.u64.wrap by') (show m ≠ 0 by omega)
  have h2 := Int.emod_lt_of_pos (IntKind.u64.wrap by') hm.1
  generalize IntKind.u64.wrap by' % m = q at h1 h2 ⊢
  refine ⟨(1 + q).toNat, by omega, by omega, ?_⟩
  have e1 : IntKind.u64.wrap (1 + q) = 1 + q := by
    rw [show IntKind.u64.wrap (1 + q) = (1 + q) % 18446744073709551616 from by simp [IntKind.wrap, IntKind.bits, IntKind.signed]]; omega
  rw [e1]
  unfold wrap64
  omega
theorem xor_new (x by' m : Int) (hx : 0 ≤ x ∧ x < 65536) (hm : 0 < m ∧ m ≤ 1000) : ∃ y : Int, bits .xor .i64 x (wrap64 (IntKind.u64.wrap (1 + (IntKind.u64.wrap by').tmod m))) = y ∧ y ≠ x ∧ 0 ≤ y ∧ y < 65536 := by
  obtain ⟨n, hn0, hn, e⟩ := other_small by' m hm
  rw [e]
  obtain ⟨a, rfl⟩ : ∃ a : Nat, x = a := ⟨x.toNat, by omega⟩
  rw [xor_small a n (by omega) (by omega)]
  have h1 := xor_other (a := a) hn0
  have h2 : a ^^^ n < 2 ^ 16 := Nat.xor_lt_two_pow (by omega) (by omega)
  exact ⟨_, rfl, by omega, by omega, by omega⟩

set_option maxHeartbeats 32000000 in
set_option maxRecDepth 100000 in
theorem unlike_of (HDec : DecSays) (w : World) (v : ImgV) (im : ImgL) (wh by' : Int) (hwh : 0 ≤ wh ∧ wh < 256) (hby : -9223372036854775808 ≤ by' ∧ by' ≤ 9223372036854775807) (hm : ImgM (· < w.heap.size) w v im) :
    Calls Try.prog 7 #[.agg (imgCells v im), .int .u8 wh, .int .i64 by'] w fun e w' => e = .returned (.bool true) ∧ Below w.heap.size w w' := by
  have HAw := Lib.hid (awake_says HDec)
  have HEnc : Hid (∀ w', Below w.heap.size w w' → Calls Try.prog 12 #[.agg (imgCells v im)] w' fun e w'' => ∃ r, e = .returned (.tuple #[r, .int .i64 (mayL im)]) ∧ Below w'.heap.size w' w'' ∧ (mayL im ≠ 0 → r = .slice none 0 0) ∧ (mayL im = 0 → OwnK 5 kByte w'.heap.size (fun _ => False) w'' r (formL im))) := Lib.hid (fun w' hb => iencode_any w' v im (hm.later hb))
  have M0 := Lib.hid hm
  have hOne := hm.cells
  obtain ⟨ka, kcap, hkv⟩ := hm.words.form
  have hkm := hm.words.max
  obtain ⟨vsegs, vneeded, vrunPath, vsyms, vbuckets, vwords, vrelocs, vslots, vinit, vfini, vtls⟩ := v
  simp only at hkv
  subst hkv
  have Hwh := Lib.hid hwh
  have Hby := Lib.hid hby
  clear hm HDec hwh hby
  unfold imgCells at HEnc hOne ⊢
  have HOne : Hid (Array.all #[.string ⟨im.name.toArray⟩, .int .i64 im.flags, vsegs, vneeded, vrunPath, vsyms, vbuckets, .slice ka im.words.length kcap, .int .i64 im.shift, vrelocs, vslots, vinit, vfini, vtls, .int .i64 im.tlsSize] (·.oneCell') = true) := Lib.hid hOne
  clear hOne
  obtain ⟨mm, hmm⟩ : ∃ mm, mayL im = mm := ⟨_, rfl⟩
  rw [hmm] at HEnc
  have Hmm := Lib.hid hmm
  clear hmm
  generalize hI : (Array.mk [.string ⟨im.name.toArray⟩, .int .i64 im.flags, vsegs, vneeded, vrunPath, vsyms, vbuckets, .slice ka im.words.length kcap, .int .i64 im.shift, vrelocs, vslots, vinit, vfini, vtls, .int .i64 im.tlsSize] : Array Value) = I at HEnc
  have F0 := Lib.hid (heap_alloc_new w (.cells I 38 (0, 0)))
  have B0 := Lib.hid ((Below.refl w.heap.size w).alloc (Nat.le_refl _) (.cells I 38 (0, 0)))
  have hz0 : w.heap.size < (w.alloc (.cells I 38 (0, 0))).heap.size := by simp
  subst hI
  go_enter Try.func7, Try.ntmps7
  go_upto_region 1 with fail
  generalize w.alloc (.cells #[.string ⟨im.name.toArray⟩, .int .i64 im.flags, vsegs, vneeded, vrunPath, vsyms, vbuckets, .slice ka im.words.length kcap, .int .i64 im.shift, vrelocs, vslots, vinit, vfini, vtls, .int .i64 im.tlsSize] 38 (0, 0)) = w1 at *
  go_wp2_with fail
  refine (HAw.out _).mono ?_
  rintro e w2 ⟨rfl, hb2⟩
  have hz2 := hb2.size
  have F2 := Lib.hid ((hb2.block w.heap.size hz0).trans F0.out)
  have B2 := Lib.hid (B0.out.trans (hb2.mono (by omega)))
  clear hb2 F0 B0 HAw
  obtain ⟨i0, i1, i2, i3, i4, i5, i6, i7, i8, i9, i10, i11, i12, i13, i14⟩ := img_cells F2.out
  go_wp2_with fail
  refine (HEnc.out w2 B2.out).mono ?_
  rintro e w3 ⟨r, rfl, hb3, hr1, hr2⟩
  have hz3 := hb3.size
  have F3 := Lib.hid ((hb3.block w.heap.size (by omega)).trans F2.out)
  have B3 := Lib.hid (B2.out.trans (hb3.mono (by omega)))
  clear hb3 F2 B2 HEnc i0 i1 i2 i3 i4 i5 i6 i7 i8 i9 i10 i11 i12 i13 i14
  by_cases h0 : mm = 0
  case neg =>
    have hd0 : (mm != 0) = true := by simpa using h0
    obtain rfl := hr1 h0
    clear hr1 hr2 Hmm F3 M0
    go_wp2
    go_ret
    exact ⟨rfl, B3.out⟩
  have HO := Lib.hid (hr2 h0)
  have Hok := Lib.hid (may_ok (Hmm.out.trans h0) M0.out.wordsR)
  have Hpar := Lib.hid (may_parts (Hmm.out.trans h0))
  have hfw := (may_few (Hmm.out.trans h0)).words
  have hfw1 := words_pos Hpar.out.2.2.2.2.1
  subst h0
  clear hr1 hr2 Hmm
  obtain ⟨fa, fc, hrf⟩ := HO.out.form
  subst hrf
  by_cases hb0 : by' = 0
  case pos =>
    subst hb0
    clear HO Hok Hpar M0 F3
    go_wp2
    go_ret
    exact ⟨rfl, B3.out⟩
  have hb1 : (by' == 0) = false := by simpa using hb0
  obtain ⟨i0, i1, i2, i3, i4, i5, i6, i7, i8, i9, i10, i11, i12, i13, i14⟩ := img_cells F3.out
  have FZ := Lib.hid (heap_alloc_new w3 (.cells #[.string ⟨#[]⟩, .int .i64 0, .slice none 0 0, .slice none 0 0, .slice none 0 0, .slice none 0 0, .slice none 0 0, .slice none 0 0, .int .i64 0, .slice none 0 0, .slice none 0 0, .slice none 0 0, .slice none 0 0, .slice none 0 0, .int .i64 0] 38 (0, 0)))
  have S4 : Step (· < w3.heap.size) w3 ((w3.alloc (.cells #[.string ⟨#[]⟩, .int .i64 0, .slice none 0 0, .slice none 0 0, .slice none 0 0, .slice none 0 0, .slice none 0 0, .slice none 0 0, .int .i64 0, .slice none 0 0, .slice none 0 0, .slice none 0 0, .slice none 0 0, .slice none 0 0, .int .i64 0] 38 (0, 0))).setRow w3.heap.size #[.string ⟨im.name.toArray⟩, .int .i64 im.flags, vsegs, vneeded, vrunPath, vsyms, vbuckets, .slice ka im.words.length kcap, .int .i64 im.shift, vrelocs, vslots, vinit, vfini, vtls, .int .i64 im.tlsSize]) := (((Step.refl (· < w3.heap.size) w3).alloc (fun b hb => hb) _).trans ((step_setRow1 _ w3.heap.size #[.string ⟨im.name.toArray⟩, .int .i64 im.flags, vsegs, vneeded, vrunPath, vsyms, vbuckets, .slice ka im.words.length kcap, .int .i64 im.shift, vrelocs, vslots, vinit, vfini, vtls, .int .i64 im.tlsSize]).imp (fun x hx => by have hx : x < w3.heap.size := hx; show x ≠ _; omega)))
  have X4 := Lib.hid (setRow_heap _ w3.heap.size _ #[.string ⟨im.name.toArray⟩, .int .i64 im.flags, vsegs, vneeded, vrunPath, vsyms, vbuckets, .slice ka im.words.length kcap, .int .i64 im.shift, vrelocs, vslots, vinit, vfini, vtls, .int .i64 im.tlsSize] _ _ FZ.out)
  have hz4 : w3.heap.size < ((w3.alloc (.cells #[.string ⟨#[]⟩, .int .i64 0, .slice none 0 0, .slice none 0 0, .slice none 0 0, .slice none 0 0, .slice none 0 0, .slice none 0 0, .int .i64 0, .slice none 0 0, .slice none 0 0, .slice none 0 0, .slice none 0 0, .slice none 0 0, .int .i64 0] 38 (0, 0))).setRow w3.heap.size #[.string ⟨im.name.toArray⟩, .int .i64 im.flags, vsegs, vneeded, vrunPath, vsyms, vbuckets, .slice ka im.words.length kcap, .int .i64 im.shift, vrelocs, vslots, vinit, vfini, vtls, .int .i64 im.tlsSize]).heap.size := by simp
  go_upto_region 6 with (refine wpList_store_row rfl 38 (.tmp 10) (.tmp 27) rfl w3.heap.size #[.string ⟨im.name.toArray⟩, .int .i64 im.flags, vsegs, vneeded, vrunPath, vsyms, vbuckets, .slice ka im.words.length kcap, .int .i64 im.shift, vrelocs, vslots, vinit, vfini, vtls, .int .i64 im.tlsSize] rfl rfl _ _ FZ.out (by kernel_rfl) rfl HOne.out ?_)
  generalize (w3.alloc (.cells #[.string ⟨#[]⟩, .int .i64 0, .slice none 0 0, .slice none 0 0, .slice none 0 0, .slice none 0 0, .slice none 0 0, .slice none 0 0, .int .i64 0, .slice none 0 0, .slice none 0 0, .slice none 0 0, .slice none 0 0, .slice none 0 0, .int .i64 0] 38 (0, 0))).setRow w3.heap.size #[.string ⟨im.name.toArray⟩, .int .i64 im.flags, vsegs, vneeded, vrunPath, vsyms, vbuckets, .slice ka im.words.length kcap, .int .i64 im.shift, vrelocs, vslots, vinit, vfini, vtls, .int .i64 im.tlsSize] = w4 at S4 X4 hz4 ⊢
  have F4 := Lib.hid ((S4.block w.heap.size (by omega)).trans F3.out)
  have M4 := Lib.hid (M0.out.keeps (fun b hb => (S4.block b (by have hb : b < w.heap.size := hb; omega)).trans (B3.out.block b hb)))
  have B4 := Lib.hid (((Step.of_below B3.out).trans (S4.imp (fun x hx => by have hx : x < w.heap.size := hx; show x < _; omega))).below)
  have LF := Lib.hid (HO.out.lb.keeps (fun b hb => S4.block b hb.1))
  clear FZ S4 F3 B3 M0 HO HOne i0 i1 i2 i3 i4 i5 i6 i7 i8 i9 i10 i11 i12 i13 i14
  generalize w3.heap.size = xb at *
  obtain ⟨i0, i1, i2, i3, i4, i5, i6, i7, i8, i9, i10, i11, i12, i13, i14⟩ := img_cells F4.out
  obtain ⟨j0, j1, j2, j3, j4, j5, j6, j7, j8, j9, j10, j11, j12, j13, j14⟩ := img_cells X4.out
  have f0 : w4.frozen? ⟨xb, 0, none⟩ = false := Lib.frozen_of_heap X4.out 0
  have f1 : w4.frozen? ⟨xb, 1, none⟩ = false := Lib.frozen_of_heap X4.out 1
  have f14 : w4.frozen? ⟨xb, 14, none⟩ = false := Lib.frozen_of_heap X4.out 14
  have hfl := head_flags Hpar.out.1
  have htl : 0 ≤ im.tlsSize ∧ im.tlsSize < 65536 := by
    have h := Hpar.out.2.2.1
    simp only [tlsB, Bool.and_eq_true, decide_eq_true_eq] at h
    omega
  have hqr : wh.tmod 4 = 0 ∨ wh.tmod 4 = 1 ∨ wh.tmod 4 = 2 ∨ wh.tmod 4 = 3 := by
    have := Hwh.out
    rw [Int.tmod_eq_emod_of_nonneg (by omega)]
    omega
  have HI := Lib.hid (fun (im' : ImgL) (hm' : mayL im' = 0) (hw : ∀ x ∈ im'.words, 0 ≤ x ∧ x < 18446744073709551616) (e : formL im = formL im') => form_inj Hok.out (may_ok hm' hw) e)
  have HM4w := Lib.hid M4.out.wordsR
  have hnl := Hok.out.name
  clear Hwh Hby Hpar Hok
  rcases hqr with hq | hq | hq | hq
  · obtain ⟨y, hy, hyn, hy0, hy1⟩ := xor_new im.flags by' 15 (by omega) (by decide)
    go_upto_region 16 with fail
    try rw [hy]
    have X5 := Lib.hid (setCell_row0 (k := 1) (.int .i64 y) X4.out)
    have S5 := setCell_step w4 xb 1 (.int .i64 y)
    have hz5 : w4.heap.size ≤ (w4.setCell ⟨xb, 1, none⟩ (.int .i64 y)).heap.size := by simp
    have M5 := M4.out.keeps (fun b hb => S5.block b (by have hb : b < w.heap.size := hb; show b ≠ xb; omega))
    have B5 := Lib.hid (((Step.of_below B4.out).trans (S5.imp (fun x hx => by have hx : x < w.heap.size := hx; show x ≠ xb; omega))).below)
    have L5 := Lib.hid (LF.out.keeps (fun b hb => S5.block b (by have := hb.1; show b ≠ xb; omega)))
    clear S5 X4 F4 B4 LF i0 i1 i2 i3 i4 i5 i6 i7 i8 i9 i10 i11 i12 i13 i14 j0 j1 j2 j3 j4 j5 j6 j7 j8 j9 j10 j11 j12 j13 j14 f0 f1 f14
    generalize w4.setCell ⟨xb, 1, none⟩ (.int .i64 y) = w5 at *
    have M6 : Hid (ImgM (· < w5.heap.size) w5 ⟨vsegs, vneeded, vrunPath, vsyms, vbuckets, .slice ka im.words.length kcap, vrelocs, vslots, vinit, vfini, vtls⟩ ⟨im.name, y, im.segs, im.needed, im.runPath, im.syms, im.buckets, im.words, im.shift, im.relocs, im.slots, im.init, im.fini, im.tls, im.tlsSize⟩) := Lib.hid { M5.imp (fun b hb => by have hb : b < w.heap.size := hb; show b < _; omega) with flags := ⟨by show _ ≤ y; omega, by show y ≤ _; omega⟩ }
    have hE := iencode_any w5 _ _ M6.out
    clear M5 M4
    unfold imgCells at hE
    dsimp only at hE
    have HNe : Hid (im ≠ ⟨im.name, y, im.segs, im.needed, im.runPath, im.syms, im.buckets, im.words, im.shift, im.relocs, im.slots, im.init, im.fini, im.tls, im.tlsSize⟩) := Lib.hid (by
      intro e
      have e2 := congrArg ImgL.flags e
      exact hyn e2.symm)
    have HIy : Hid (mayL ⟨im.name, y, im.segs, im.needed, im.runPath, im.syms, im.buckets, im.words, im.shift, im.relocs, im.slots, im.init, im.fini, im.tls, im.tlsSize⟩ = 0 → formL im = formL ⟨im.name, y, im.segs, im.needed, im.runPath, im.syms, im.buckets, im.words, im.shift, im.relocs, im.slots, im.init, im.fini, im.tls, im.tlsSize⟩ → im = ⟨im.name, y, im.segs, im.needed, im.runPath, im.syms, im.buckets, im.words, im.shift, im.relocs, im.slots, im.init, im.fini, im.tls, im.tlsSize⟩) := Lib.hid (fun h e => HI.out ⟨im.name, y, im.segs, im.needed, im.runPath, im.syms, im.buckets, im.words, im.shift, im.relocs, im.slots, im.init, im.fini, im.tls, im.tlsSize⟩ h HM4w.out e)
    obtain ⟨m6, hm6⟩ : ∃ m6, mayL ⟨im.name, y, im.segs, im.needed, im.runPath, im.syms, im.buckets, im.words, im.shift, im.relocs, im.slots, im.init, im.fini, im.tls, im.tlsSize⟩ = m6 := ⟨_, rfl⟩
    rw [hm6] at hE HIy
    clear hm6
    obtain ⟨f6, hf6⟩ : ∃ f6, formL ⟨im.name, y, im.segs, im.needed, im.runPath, im.syms, im.buckets, im.words, im.shift, im.relocs, im.slots, im.init, im.fini, im.tls, im.tlsSize⟩ = f6 := ⟨_, rfl⟩
    rw [hf6] at hE HIy
    clear hf6
    have HE := Lib.hid hE
    clear hE M6 HI HM4w
    obtain ⟨i0, i1, i2, i3, i4, i5, i6, i7, i8, i9, i10, i11, i12, i13, i14⟩ := img_cells X5.out
    go_wp2_with fail
    refine HE.out.mono ?_
    rintro e w6 ⟨r6, rfl, hb6, hr6, hr7⟩
    have BB := Lib.hid (B5.out.trans (hb6.mono (by omega)))
    have s1 := run_str (L5.out.keeps (fun b hb => hb6.block b (by have := hb.1; omega)))
    clear hb6 HE i0 i1 i2 i3 i4 i5 i6 i7 i8 i9 i10 i11 i12 i13 i14 X5 B5 L5
    by_cases h6 : m6 = 0
    · have s2 := run_str (hr7 h6).lb
      have hqq : (formL im == f6) = false := by
        rw [beq_eq_false_iff_ne]
        exact fun e => HNe.out (HIy.out h6 e)
      subst h6
      clear hr6 hr7 HNe HIy
      generalize formL im = f1 at *
      go_wp2
      go_ret
      exact ⟨rfl, BB.out⟩
    · have hd6 : (m6 != 0) = true := by simpa using h6
      have hr6 := hr6 h6
      subst hr6
      clear hr7 HNe HIy s1
      go_wp2
      go_ret
      exact ⟨rfl, BB.out⟩
  · obtain ⟨y, hy, hyn, hy0, hy1⟩ := xor_new im.tlsSize by' 1000 htl (by decide)
    go_upto_region 16 with fail
    try rw [hy]
    have X5 := Lib.hid (setCell_row0 (k := 14) (.int .i64 y) X4.out)
    have S5 := setCell_step w4 xb 14 (.int .i64 y)
    have hz5 : w4.heap.size ≤ (w4.setCell ⟨xb, 14, none⟩ (.int .i64 y)).heap.size := by simp
    have M5 := M4.out.keeps (fun b hb => S5.block b (by have hb : b < w.heap.size := hb; show b ≠ xb; omega))
    have B5 := Lib.hid (((Step.of_below B4.out).trans (S5.imp (fun x hx => by have hx : x < w.heap.size := hx; show x ≠ xb; omega))).below)
    have L5 := Lib.hid (LF.out.keeps (fun b hb => S5.block b (by have := hb.1; show b ≠ xb; omega)))
    clear S5 X4 F4 B4 LF i0 i1 i2 i3 i4 i5 i6 i7 i8 i9 i10 i11 i12 i13 i14 j0 j1 j2 j3 j4 j5 j6 j7 j8 j9 j10 j11 j12 j13 j14 f0 f1 f14
    generalize w4.setCell ⟨xb, 14, none⟩ (.int .i64 y) = w5 at *
    have M6 : Hid (ImgM (· < w5.heap.size) w5 ⟨vsegs, vneeded, vrunPath, vsyms, vbuckets, .slice ka im.words.length kcap, vrelocs, vslots, vinit, vfini, vtls⟩ ⟨im.name, im.flags, im.segs, im.needed, im.runPath, im.syms, im.buckets, im.words, im.shift, im.relocs, im.slots, im.init, im.fini, im.tls, y⟩) := Lib.hid { M5.imp (fun b hb => by have hb : b < w.heap.size := hb; show b < _; omega) with tlsSize := ⟨by show _ ≤ y; omega, by show y ≤ _; omega⟩ }
    have hE := iencode_any w5 _ _ M6.out
    clear M5 M4
    unfold imgCells at hE
    dsimp only at hE
    have HNe : Hid (im ≠ ⟨im.name, im.flags, im.segs, im.needed, im.runPath, im.syms, im.buckets, im.words, im.shift, im.relocs, im.slots, im.init, im.fini, im.tls, y⟩) := Lib.hid (by
      intro e
      have e2 := congrArg ImgL.tlsSize e
      exact hyn e2.symm)
    have HIy : Hid (mayL ⟨im.name, im.flags, im.segs, im.needed, im.runPath, im.syms, im.buckets, im.words, im.shift, im.relocs, im.slots, im.init, im.fini, im.tls, y⟩ = 0 → formL im = formL ⟨im.name, im.flags, im.segs, im.needed, im.runPath, im.syms, im.buckets, im.words, im.shift, im.relocs, im.slots, im.init, im.fini, im.tls, y⟩ → im = ⟨im.name, im.flags, im.segs, im.needed, im.runPath, im.syms, im.buckets, im.words, im.shift, im.relocs, im.slots, im.init, im.fini, im.tls, y⟩) := Lib.hid (fun h e => HI.out ⟨im.name, im.flags, im.segs, im.needed, im.runPath, im.syms, im.buckets, im.words, im.shift, im.relocs, im.slots, im.init, im.fini, im.tls, y⟩ h HM4w.out e)
    obtain ⟨m6, hm6⟩ : ∃ m6, mayL ⟨im.name, im.flags, im.segs, im.needed, im.runPath, im.syms, im.buckets, im.words, im.shift, im.relocs, im.slots, im.init, im.fini, im.tls, y⟩ = m6 := ⟨_, rfl⟩
    rw [hm6] at hE HIy
    clear hm6
    obtain ⟨f6, hf6⟩ : ∃ f6, formL ⟨im.name, im.flags, im.segs, im.needed, im.runPath, im.syms, im.buckets, im.words, im.shift, im.relocs, im.slots, im.init, im.fini, im.tls, y⟩ = f6 := ⟨_, rfl⟩
    rw [hf6] at hE HIy
    clear hf6
    have HE := Lib.hid hE
    clear hE M6 HI HM4w
    obtain ⟨i0, i1, i2, i3, i4, i5, i6, i7, i8, i9, i10, i11, i12, i13, i14⟩ := img_cells X5.out
    go_wp2_with fail
    refine HE.out.mono ?_
    rintro e w6 ⟨r6, rfl, hb6, hr6, hr7⟩
    have BB := Lib.hid (B5.out.trans (hb6.mono (by omega)))
    have s1 := run_str (L5.out.keeps (fun b hb => hb6.block b (by have := hb.1; omega)))
    clear hb6 HE i0 i1 i2 i3 i4 i5 i6 i7 i8 i9 i10 i11 i12 i13 i14 X5 B5 L5
    by_cases h6 : m6 = 0
    · have s2 := run_str (hr7 h6).lb
      have hqq : (formL im == f6) = false := by
        rw [beq_eq_false_iff_ne]
        exact fun e => HNe.out (HIy.out h6 e)
      subst h6
      clear hr6 hr7 HNe HIy
      generalize formL im = f1 at *
      go_wp2
      go_ret
      exact ⟨rfl, BB.out⟩
    · have hd6 : (m6 != 0) = true := by simpa using h6
      have hr6 := hr6 h6
      subst hr6
      clear hr7 HNe HIy s1
      go_wp2
      go_ret
      exact ⟨rfl, BB.out⟩
  · go_upto_region 16 with fail
    rw [bytes_x]
    obtain ⟨nm, hnm, hnl2, hnn⟩ : ∃ nm, im.name ++ [120] = nm ∧ nm.length ≤ 9223372036854775807 ∧ nm.length ≠ im.name.length := ⟨_, rfl, by simp only [List.length_append, List.length_cons, List.length_nil]; omega, by simp⟩
    rw [hnm]
    clear hnm
    have X5 := Lib.hid (setCell_row0 (k := 0) (.string ⟨nm.toArray⟩) X4.out)
    have S5 := setCell_step w4 xb 0 (.string ⟨nm.toArray⟩)
    have hz5 : w4.heap.size ≤ (w4.setCell ⟨xb, 0, none⟩ (.string ⟨nm.toArray⟩)).heap.size := by simp
    have M5 := M4.out.keeps (fun b hb => S5.block b (by have hb : b < w.heap.size := hb; show b ≠ xb; omega))
    have B5 := Lib.hid (((Step.of_below B4.out).trans (S5.imp (fun x hx => by have hx : x < w.heap.size := hx; show x ≠ xb; omega))).below)
    have L5 := Lib.hid (LF.out.keeps (fun b hb => S5.block b (by have := hb.1; show b ≠ xb; omega)))
    clear S5 X4 F4 B4 LF i0 i1 i2 i3 i4 i5 i6 i7 i8 i9 i10 i11 i12 i13 i14 j0 j1 j2 j3 j4 j5 j6 j7 j8 j9 j10 j11 j12 j13 j14 f0 f1 f14
    generalize w4.setCell ⟨xb, 0, none⟩ (.string ⟨nm.toArray⟩) = w5 at *
    have M6 : Hid (ImgM (· < w5.heap.size) w5 ⟨vsegs, vneeded, vrunPath, vsyms, vbuckets, .slice ka im.words.length kcap, vrelocs, vslots, vinit, vfini, vtls⟩ ⟨nm, im.flags, im.segs, im.needed, im.runPath, im.syms, im.buckets, im.words, im.shift, im.relocs, im.slots, im.init, im.fini, im.tls, im.tlsSize⟩) := Lib.hid { M5.imp (fun b hb => by have hb : b < w.heap.size := hb; show b < _; omega) with name := hnl2 }
    have hE := iencode_any w5 _ _ M6.out
    clear M5 M4
    unfold imgCells at hE
    dsimp only at hE
    have HNe : Hid (im ≠ ⟨nm, im.flags, im.segs, im.needed, im.runPath, im.syms, im.buckets, im.words, im.shift, im.relocs, im.slots, im.init, im.fini, im.tls, im.tlsSize⟩) := Lib.hid (by
      intro e
      have e2 := congrArg ImgL.name e
      exact hnn (congrArg List.length e2).symm)
    have HIy : Hid (mayL ⟨nm, im.flags, im.segs, im.needed, im.runPath, im.syms, im.buckets, im.words, im.shift, im.relocs, im.slots, im.init, im.fini, im.tls, im.tlsSize⟩ = 0 → formL im = formL ⟨nm, im.flags, im.segs, im.needed, im.runPath, im.syms, im.buckets, im.words, im.shift, im.relocs, im.slots, im.init, im.fini, im.tls, im.tlsSize⟩ → im = ⟨nm, im.flags, im.segs, im.needed, im.runPath, im.syms, im.buckets, im.words, im.shift, im.relocs, im.slots, im.init, im.fini, im.tls, im.tlsSize⟩) := Lib.hid (fun h e => HI.out ⟨nm, im.flags, im.segs, im.needed, im.runPath, im.syms, im.buckets, im.words, im.shift, im.relocs, im.slots, im.init, im.fini, im.tls, im.tlsSize⟩ h HM4w.out e)
    obtain ⟨m6, hm6⟩ : ∃ m6, mayL ⟨nm, im.flags, im.segs, im.needed, im.runPath, im.syms, im.buckets, im.words, im.shift, im.relocs, im.slots, im.init, im.fini, im.tls, im.tlsSize⟩ = m6 := ⟨_, rfl⟩
    rw [hm6] at hE HIy
    clear hm6
    obtain ⟨f6, hf6⟩ : ∃ f6, formL ⟨nm, im.flags, im.segs, im.needed, im.runPath, im.syms, im.buckets, im.words, im.shift, im.relocs, im.slots, im.init, im.fini, im.tls, im.tlsSize⟩ = f6 := ⟨_, rfl⟩
    rw [hf6] at hE HIy
    clear hf6
    have HE := Lib.hid hE
    clear hE M6 HI HM4w
    obtain ⟨i0, i1, i2, i3, i4, i5, i6, i7, i8, i9, i10, i11, i12, i13, i14⟩ := img_cells X5.out
    go_wp2_with fail
    refine HE.out.mono ?_
    rintro e w6 ⟨r6, rfl, hb6, hr6, hr7⟩
    have BB := Lib.hid (B5.out.trans (hb6.mono (by omega)))
    have s1 := run_str (L5.out.keeps (fun b hb => hb6.block b (by have := hb.1; omega)))
    clear hb6 HE i0 i1 i2 i3 i4 i5 i6 i7 i8 i9 i10 i11 i12 i13 i14 X5 B5 L5
    by_cases h6 : m6 = 0
    · have s2 := run_str (hr7 h6).lb
      have hqq : (formL im == f6) = false := by
        rw [beq_eq_false_iff_ne]
        exact fun e => HNe.out (HIy.out h6 e)
      subst h6
      clear hr6 hr7 HNe HIy
      generalize formL im = f1 at *
      go_wp2
      go_ret
      exact ⟨rfl, BB.out⟩
    · have hd6 : (m6 != 0) = true := by simpa using h6
      have hr6 := hr6 h6
      subst hr6
      clear hr7 HNe HIy s1
      go_wp2
      go_ret
      exact ⟨rfl, BB.out⟩
  · have HA := Lib.hid (jadd_nil w4 _ im.words im.shift (M4.out.words.imp (fun b hb => by have hb : b < w.heap.size := hb; show b < _; omega)) (by omega))
    have f7 : w4.frozen? ⟨xb, 7, none⟩ = false := Lib.frozen_of_heap X4.out 7
    have f8 : w4.frozen? ⟨xb, 8, none⟩ = false := Lib.frozen_of_heap X4.out 8
    go_wp2_with fail
    refine HA.out.mono ?_
    rintro e w5 ⟨rw, rfl, hb5, ho5⟩
    obtain ⟨na, nc, rfl⟩ := ho5.form
    have hz5 := hb5.size
    have X5 := Lib.hid ((hb5.block xb (by omega)).trans X4.out)
    clear i0 i1 i2 i3 i4 i5 i6 i7 i8 i9 i10 i11 i12 i13 i14 j0 j1 j2 j3 j4 j5 j6 j7 j8 j9 j10 j11 j12 j13 j14 f0 f1 f14 f7 f8
    obtain ⟨j0, j1, j2, j3, j4, j5, j6, j7, j8, j9, j10, j11, j12, j13, j14⟩ := img_cells X5.out
    have f7 : w5.frozen? ⟨xb, 7, none⟩ = false := Lib.frozen_of_heap X5.out 7
    have f8 : w5.frozen? ⟨xb, 8, none⟩ = false := Lib.frozen_of_heap X5.out 8
    go_upto_region 8 with fail
    have X6 := Lib.hid (setCell_row0 (k := 8) (.int .i64 im.shift) (setCell_row0 (k := 7) (.slice na im.words.length nc) X5.out))
    have S6 := Lib.hid (((Step.refl (fun x => x ≠ xb) w5).setCell (p := ⟨xb, 7, none⟩) (by simp) (.slice na im.words.length nc)).setCell (p := ⟨xb, 8, none⟩) (by simp) (.int .i64 im.shift))
    have hz6 : ((w5.setCell ⟨xb, 7, none⟩ (.slice na im.words.length nc)).setCell ⟨xb, 8, none⟩ (.int .i64 im.shift)).heap.size = w5.heap.size := by simp
    generalize (w5.setCell ⟨xb, 7, none⟩ (.slice na im.words.length nc)).setCell ⟨xb, 8, none⟩ (.int .i64 im.shift) = w6 at *
    clear j0 j1 j2 j3 j4 j5 j6 j7 j8 j9 j10 j11 j12 j13 j14 f7 f8
    obtain ⟨j0, j1, j2, j3, j4, j5, j6, j7, j8, j9, j10, j11, j12, j13, j14⟩ := img_cells X6.out
    obtain ⟨kq, hkq, hkl⟩ := which_word by' im.words.length hfw1
    go_upto_region 9 with fail
    try rw [hkq]
    clear hkq j0 j1 j2 j3 j4 j5 j6 j7 j8 j9 j10 j11 j12 j13 j14
    obtain ⟨g, gcap, cur, hgv, hg4, hgh, hgc⟩ := OwnK.row plain_word ho5 (by omega)
    cases hgv
    obtain ⟨x, hx⟩ : ∃ x, im.words[kq]? = some x := ⟨_, List.getElem?_eq_getElem hkl⟩
    have Hx := Lib.hid hx
    have hgx : g ≠ xb := by omega
    have c0 : w6.cell? ⟨g, kq, none⟩ = some (.int .u64 x) := (World.cell?_of_block (a := ⟨g, kq, none⟩) (S6.out.block g hgx)).trans (hgc kq x hx)
    have c7 : w6.cell? ⟨xb, 7, none⟩ = some (.slice (some ⟨g, 0, none⟩) im.words.length nc) := by rw [Lib.cell_of_heap X6.out]; rfl
    have fx : w6.frozen? ⟨g, kq, none⟩ = false := Lib.frozen_of_heap ((S6.out.block g hgx).trans hgh) kq
    have hk0 : (0 : Int) ≤ kq := by omega
    have hk1 : (kq : Int) < im.words.length := by omega
    clear hx hgc hgh
    refine wp_region_phase 14 (by kernel_rfl) (by kernel_rfl) ?_
    simp only [List.take_succ_cons, List.take_zero, List.drop_succ_cons, List.drop_zero, List.take_nil, List.drop_nil]
    refine wpAny_of_held (S := fun w' => w'.cell? ⟨xb, 7, none⟩ = some (.slice (some ⟨g, 0, none⟩) im.words.length nc) ∧ w'.cell? ⟨g, kq, none⟩ = some (.int .u64 x)) _ _ _ _ ?_
    have hHeld : (fun w' : World => w'.cell? ⟨xb, 7, none⟩ = some (.slice (some ⟨g, 0, none⟩) im.words.length nc) ∧ w'.cell? ⟨g, kq, none⟩ = some (.int .u64 x)) w6.drew := ⟨c7, c0⟩
    show wpAnyH _ _ _ _ _ _ _ _ (World.drew _)
    refine wpAnyH_take (i := 0) (v := ?_) rfl (by kernel_rfl) (by kernel_rfl) (by kernel_rfl) (fun _ _ _ h => h) (Or.inl ⟨by rfl, ?_⟩) hHeld ?_
    rotate_left
    · (intro w hSw; (try dsimp only at hSw); go_simp; try with_reducible rfl)
    simp only [List.getElem_toArray, List.getElem_cons_zero, List.getElem_cons_succ, Act.put, List.setIfInBounds_toArray, List.set_cons_zero, List.set_cons_succ]
    refine wpAnyH_take (i := 1) (v := ?_) rfl (by kernel_rfl) (by kernel_rfl) (by kernel_rfl) (fun _ _ _ h => h) (Or.inl ⟨by rfl, ?_⟩) hHeld ?_
    rotate_left
    · (intro w hSw; (try dsimp only at hSw); go_simp; try with_reducible rfl)
    simp only [List.getElem_toArray, List.getElem_cons_zero, List.getElem_cons_succ, Act.put, List.setIfInBounds_toArray, List.set_cons_zero, List.set_cons_succ]
    refine wpAnyH_take (i := 2) (v := ?_) rfl (by kernel_rfl) (by kernel_rfl) (by kernel_rfl) (fun _ _ _ h => h) (Or.inl ⟨by rfl, ?_⟩) hHeld ?_
    rotate_left
    · (intro w hSw; (try dsimp only at hSw); go_simp; try with_reducible rfl)
    simp only [List.getElem_toArray, List.getElem_cons_zero, List.getElem_cons_succ, Act.put, List.setIfInBounds_toArray, List.set_cons_zero, List.set_cons_succ]
    refine wpAnyH_take (i := 3) (v := ?_) rfl (by kernel_rfl) (by kernel_rfl) (by kernel_rfl) (fun _ _ _ h => h) (Or.inl ⟨by rfl, ?_⟩) hHeld ?_
    rotate_left
    · (intro w hSw; (try dsimp only at hSw); go_simp; try with_reducible rfl)
    simp only [List.getElem_toArray, List.getElem_cons_zero, List.getElem_cons_succ, Act.put, List.setIfInBounds_toArray, List.set_cons_zero, List.set_cons_succ]
    refine wpAnyH_take (i := 4) (v := ?_) rfl (by kernel_rfl) (by kernel_rfl) (by kernel_rfl) (fun _ _ _ h => h) (Or.inl ⟨by rfl, ?_⟩) hHeld ?_
    rotate_left
    · (intro w hSw; (try dsimp only at hSw); go_simp; try with_reducible rfl)
    simp only [List.getElem_toArray, List.getElem_cons_zero, List.getElem_cons_succ, Act.put, List.setIfInBounds_toArray, List.set_cons_zero, List.set_cons_succ]
    refine wpAnyH_take (i := 5) (v := ?_) rfl (by kernel_rfl) (by kernel_rfl) (by kernel_rfl) (fun _ _ _ h => h) (Or.inl ⟨by rfl, ?_⟩) hHeld ?_
    rotate_left
    · (intro w hSw; (try dsimp only at hSw); go_simp; try with_reducible rfl)
    simp only [List.getElem_toArray, List.getElem_cons_zero, List.getElem_cons_succ, Act.put, List.setIfInBounds_toArray, List.set_cons_zero, List.set_cons_succ]
    refine wpAnyH_take (i := 6) (v := ?_) rfl (by kernel_rfl) (by kernel_rfl) (by kernel_rfl) (fun _ _ _ h => h) (Or.inl ⟨by rfl, ?_⟩) hHeld ?_
    rotate_left
    · (intro w hSw; (try dsimp only at hSw); go_simp; try with_reducible rfl)
    simp only [List.getElem_toArray, List.getElem_cons_zero, List.getElem_cons_succ, Act.put, List.setIfInBounds_toArray, List.set_cons_zero, List.set_cons_succ]
    refine wpAnyH_take (i := 7) (v := ?_) rfl (by kernel_rfl) (by kernel_rfl) (by kernel_rfl) (fun _ _ _ h => h) (Or.inl ⟨by rfl, ?_⟩) hHeld ?_
    rotate_left
    · (intro w hSw; (try dsimp only at hSw); go_simp; try with_reducible rfl)
    simp only [List.getElem_toArray, List.getElem_cons_zero, List.getElem_cons_succ, Act.put, List.setIfInBounds_toArray, List.set_cons_zero, List.set_cons_succ]
    refine wpAnyH_take (i := 8) (v := ?_) rfl (by kernel_rfl) (by kernel_rfl) (by kernel_rfl) (fun _ _ _ h => h) (Or.inl ⟨by rfl, ?_⟩) hHeld ?_
    rotate_left
    · (intro w hSw; (try dsimp only at hSw); go_simp; try with_reducible rfl)
    simp only [List.getElem_toArray, List.getElem_cons_zero, List.getElem_cons_succ, Act.put, List.setIfInBounds_toArray, List.set_cons_zero, List.set_cons_succ]
    refine wpAnyH_take (i := 9) (v := ?_) rfl (by kernel_rfl) (by kernel_rfl) (by kernel_rfl) (fun _ _ _ h => h) (Or.inl ⟨by rfl, ?_⟩) hHeld ?_
    rotate_left
    · (intro w hSw; (try dsimp only at hSw); go_simp; try with_reducible rfl)
    simp only [List.getElem_toArray, List.getElem_cons_zero, List.getElem_cons_succ, Act.put, List.setIfInBounds_toArray, List.set_cons_zero, List.set_cons_succ]
    refine wpAnyH_take (i := 10) (v := ?_) rfl (by kernel_rfl) (by kernel_rfl) (by kernel_rfl) (fun _ _ _ h => h) (Or.inl ⟨by rfl, ?_⟩) hHeld ?_
    rotate_left
    · (intro w hSw; (try dsimp only at hSw); go_simp; try with_reducible rfl)
    simp only [List.getElem_toArray, List.getElem_cons_zero, List.getElem_cons_succ, Act.put, List.setIfInBounds_toArray, List.set_cons_zero, List.set_cons_succ]
    refine wpAnyH_take (i := 11) (v := ?_) rfl (by kernel_rfl) (by kernel_rfl) (by kernel_rfl) (fun _ _ _ h => h) (Or.inl ⟨by rfl, ?_⟩) hHeld ?_
    rotate_left
    · (intro w hSw; (try dsimp only at hSw); go_simp; try with_reducible rfl)
    simp only [List.getElem_toArray, List.getElem_cons_zero, List.getElem_cons_succ, Act.put, List.setIfInBounds_toArray, List.set_cons_zero, List.set_cons_succ]
    refine wpAnyH_take (i := 12) (v := ?_) rfl (by kernel_rfl) (by kernel_rfl) (by kernel_rfl) (fun _ _ _ h => h) (Or.inl ⟨by rfl, ?_⟩) hHeld ?_
    rotate_left
    · (intro w hSw; (try dsimp only at hSw); go_simp; try with_reducible rfl)
    simp only [List.getElem_toArray, List.getElem_cons_zero, List.getElem_cons_succ, Act.put, List.setIfInBounds_toArray, List.set_cons_zero, List.set_cons_succ]
    refine wpAnyH_take (i := 13) (v := ?_) rfl (by kernel_rfl) (by kernel_rfl) (by kernel_rfl) (fun _ _ _ h => h) (Or.inl ⟨by rfl, ?_⟩) hHeld ?_
    rotate_left
    · (intro w hSw; (try dsimp only at hSw); go_simp; try with_reducible rfl)
    simp only [List.getElem_toArray, List.getElem_cons_zero, List.getElem_cons_succ, Act.put, List.setIfInBounds_toArray, List.set_cons_zero, List.set_cons_succ]
    refine wpAnyH_done (by kernel_rfl) ?_ _
    simp only [phaseQ]
    have c0d : w6.drew.cell? ⟨g, kq, none⟩ = some (.int .u64 x) := c0
    have fxd : w6.drew.frozen? ⟨g, kq, none⟩ = false := fx
    clear hHeld c0 c7 fx
    go_upto_region 16 with fail
    obtain ⟨y, hy, hyn, hy0, hy1⟩ := not_word x (HM4w.out x (List.mem_of_getElem? Hx.out))
    rw [hy]
    clear hy c0d fxd
    have S7 : Step (fun b => b ≠ g) w6 (w6.setCell ⟨g, kq, none⟩ (.int .u64 y)).drew := (setCell_step w6 g kq (.int .u64 y)).drew
    have O6 := ho5.plain_keep plain_word (w' := w6) (fun b hb => S6.out.block b (fun e => hgx ((by simpa [Value.ownBlock] using hb : g = b).trans e)))
    have O7 := Lib.hid ((O6.put plain_word kq y).drew)
    have X7 := Lib.hid ((S7.block xb (by omega)).trans X6.out)
    have T7 : Hid (Step (fun b => b < w4.heap.size ∧ b ≠ xb) w4 (w6.setCell ⟨g, kq, none⟩ (.int .u64 y)).drew) := Lib.hid ((((Step.of_below hb5).imp (fun b hb => hb.1)).trans (S6.out.imp (fun b hb => hb.2))).trans (S7.imp (fun b hb => by have := hb.1; omega)))
    have M7 := Lib.hid (M4.out.keeps (fun b hb => T7.out.block b (by have hb : b < w.heap.size := hb; omega)))
    have B7 := Lib.hid (((Step.of_below B4.out).trans (T7.out.imp (fun b hb => by have hb : b < w.heap.size := hb; omega))).below)
    have L7 := Lib.hid (LF.out.keeps (fun b hb => T7.out.block b (by have := hb.1; omega)))
    have hz7 : w4.heap.size ≤ (w6.setCell ⟨g, kq, none⟩ (.int .u64 y)).drew.heap.size := T7.out.size
    have HyR : Hid (∀ z ∈ im.words.set kq y, 0 ≤ z ∧ z < 18446744073709551616) := Lib.hid (fun z hz => by
      rcases List.mem_or_eq_of_mem_set hz with h | h
      · exact HM4w.out z h
      · omega)
    have HNw : Hid (im.words ≠ im.words.set kq y) := Lib.hid (fun e => by
      have h := congrArg (fun l => l[kq]?) e
      simp only [Hx.out, List.getElem?_set_self hkl] at h
      exact hyn (Option.some.inj h).symm)
    clear S7 X6 F4 B4 LF T7 S6 O6 ho5 hb5 X5 X4 M4 HA
    generalize (w6.setCell ⟨g, kq, none⟩ (.int .u64 y)).drew = w7 at *
    obtain ⟨ws, hws⟩ : ∃ ws, im.words.set kq y = ws := ⟨_, rfl⟩
    rw [hws] at O7 HyR HNw
    clear hws Hx hyn hy0 hy1 hkl hk0 hk1 hg4 hgx
    have M8 : Hid (ImgM (· < w7.heap.size) w7 ⟨vsegs, vneeded, vrunPath, vsyms, vbuckets, .slice (some ⟨g, 0, none⟩) im.words.length nc, vrelocs, vslots, vinit, vfini, vtls⟩ ⟨im.name, im.flags, im.segs, im.needed, im.runPath, im.syms, im.buckets, ws, im.shift, im.relocs, im.slots, im.init, im.fini, im.tls, im.tlsSize⟩) := Lib.hid { M7.out.imp (fun b hb => by have hb : b < w.heap.size := hb; show b < _; omega) with words := O7.out.lb.imp (fun b hb => hb.1), wordsR := HyR.out }
    have hE := iencode_any w7 _ _ M8.out
    clear M7 O7
    unfold imgCells at hE
    dsimp only at hE
    have HNe : Hid (im ≠ ⟨im.name, im.flags, im.segs, im.needed, im.runPath, im.syms, im.buckets, ws, im.shift, im.relocs, im.slots, im.init, im.fini, im.tls, im.tlsSize⟩) := Lib.hid (fun e => HNw.out (congrArg ImgL.words e))
    have HIy : Hid (mayL ⟨im.name, im.flags, im.segs, im.needed, im.runPath, im.syms, im.buckets, ws, im.shift, im.relocs, im.slots, im.init, im.fini, im.tls, im.tlsSize⟩ = 0 → formL im = formL ⟨im.name, im.flags, im.segs, im.needed, im.runPath, im.syms, im.buckets, ws, im.shift, im.relocs, im.slots, im.init, im.fini, im.tls, im.tlsSize⟩ → im = ⟨im.name, im.flags, im.segs, im.needed, im.runPath, im.syms, im.buckets, ws, im.shift, im.relocs, im.slots, im.init, im.fini, im.tls, im.tlsSize⟩) := Lib.hid (fun h e => HI.out ⟨im.name, im.flags, im.segs, im.needed, im.runPath, im.syms, im.buckets, ws, im.shift, im.relocs, im.slots, im.init, im.fini, im.tls, im.tlsSize⟩ h HyR.out e)
    obtain ⟨m6, hm6⟩ : ∃ m6, mayL ⟨im.name, im.flags, im.segs, im.needed, im.runPath, im.syms, im.buckets, ws, im.shift, im.relocs, im.slots, im.init, im.fini, im.tls, im.tlsSize⟩ = m6 := ⟨_, rfl⟩
    rw [hm6] at hE HIy
    clear hm6
    obtain ⟨f6, hf6⟩ : ∃ f6, formL ⟨im.name, im.flags, im.segs, im.needed, im.runPath, im.syms, im.buckets, ws, im.shift, im.relocs, im.slots, im.init, im.fini, im.tls, im.tlsSize⟩ = f6 := ⟨_, rfl⟩
    rw [hf6] at hE HIy
    clear hf6
    have HE := Lib.hid hE
    clear hE M8 HI HM4w HyR HNw
    obtain ⟨i0, i1, i2, i3, i4, i5, i6, i7, i8, i9, i10, i11, i12, i13, i14⟩ := img_cells X7.out
    go_wp2_with fail
    refine HE.out.mono ?_
    rintro e w8 ⟨r6, rfl, hb6, hr6, hr7⟩
    have BB := Lib.hid (B7.out.trans (hb6.mono (by omega)))
    have s1 := run_str (L7.out.keeps (fun b hb => hb6.block b (by have := hb.1; omega)))
    clear hb6 HE i0 i1 i2 i3 i4 i5 i6 i7 i8 i9 i10 i11 i12 i13 i14 X7 B7 L7
    by_cases h6 : m6 = 0
    · have s2 := run_str (hr7 h6).lb
      have hqq : (formL im == f6) = false := by
        rw [beq_eq_false_iff_ne]
        exact fun e => HNe.out (HIy.out h6 e)
      subst h6
      clear hr6 hr7 HNe HIy
      generalize formL im = f1 at *
      go_wp2
      go_ret
      exact ⟨rfl, BB.out⟩
    · have hd6 : (m6 != 0) = true := by simpa using h6
      have hr6 := hr6 h6
      subst hr6
      clear hr7 HNe HIy s1
      go_wp2
      go_ret
      exact ⟨rfl, BB.out⟩

end Go.Proofs.Ytbliedldlimpgaa

/- ImageUnlike, no condition: for every such input the law returns true, and its arguments read behind the call as they did. -/
namespace Go.Proofs.Ytbliedldlimpgaa.imageUnlikeLaw
set_option linter.unusedVariables false
set_option linter.unusedSimpArgs false
open Go.ChangeShapes Go.WideShapes Go.ChangeAt Go.RowKit

set_option maxRecDepth 100000 in
theorem contract (HDec : DecSays) (H : Type) (enc : TypeId × Value → H) (W : World) (base : Nat) (args : Array Value) (ds gs : List (DataW H)) (before : List MemPlace)
    (hval : ∀ (j : Nat) t v, Try.f7.params[j]? = some t → args[j]? = some v → Value.okWide Try.prog W .any base t v)
    (hW : DataW.Whole enc Try.prog Try.f7.params.toList Rows.imageUnlikeSpec.vars false W args.toList ds gs before) :
    Calls Try.prog 7 args W fun e W' => ∃ v, e = .returned v ∧ Rows.imageUnlikeSpec.post enc Try.prog Try.f7 false true false false W args v W' := by
  have hW' := hW
  obtain ⟨p, q, hA0, hV, rfl, hfz, hnd⟩ := hW
  have hA : DataW.TrodAll enc Try.prog W 0 (fun _ => true) true Try.f7.params.toList args.toList ds p := hA0
  rw [Try.params7] at hA hval
  obtain ⟨v0, v1, v2, d0, d1, d2, p0, p1, p2, rfl, rfl, rfl, h0, h1, h2⟩ := trodAll_three hA
  obtain ⟨rfl, rfl⟩ := trodVars_none hV
  obtain ⟨vv, im, rfl, hm, gbk⟩ := open_image (hval 0 38 v0 rfl rfl) h0
  obtain ⟨x1, rfl, rfl, rfl, w1⟩ := open_int Try.underlying5 (hval 1 5 v1 rfl rfl) h1
  obtain ⟨x2, rfl, rfl, rfl, w2⟩ := open_int Try.underlying3 (hval 2 3 v2 rfl rfl) h2
  clear hA0
  simp only [List.append_nil, List.nil_append] at hW' hfz
  have hlt0 : ∀ x ∈ p0, x.block < W.heap.size := fun x hx => hW'.lt x (by simp [hx])
  refine (unlike_of HDec W vv im x1 x2 (wf_u8 w1) (wf_i64 w2) hm).mono fun e W' ⟨he, hbl⟩ => ?_
  subst he
  exact ⟨_, rfl, ⟨_, _, _, [], p0 ++ ([] ++ []), [], hW', trodAll_mk1 (shut_bool Try.underlying4 _),
    trodAll_mk3 (Below.trod laidOut (by kernel_rfl) (of_decide_eq_true (by kernel_rfl)) h0 hbl hlt0) (shut_int Try.underlying5 w1) (shut_int Try.underlying3 w2), rfl, hbl.frame _, fun h => by cases h⟩⟩

set_option maxRecDepth 100000 in
theorem lifted (HDec : DecSays) (os : Os) (started : os.Started) (H : Type) (enc : TypeId × Value → H) :
    ReturnsInHanded {} Try.checked os 7 .any (Rows.imageUnlikeSpec.pre6 enc Try.prog Try.f7 Rows.imageUnlikeRow.domain false) (Rows.imageUnlikeSpec.post enc Try.prog Try.f7 false true false false) := by
  refine returnsInHanded_of_change (C := Try.checked) own started (by kernel_rfl) Try.func7
    (ChangeSpec.witness6 (enc := enc) (C := Try.checked) false ⟨#[], #[.agg (imgCells noneV noneImg), .int .u8 0, .int .i64 0], []⟩ 12 (by kernel_rfl) (by kernel_rfl) (by kernel_rfl) (by kernel_rfl)) ?_
  intro W base args ds gs before hval hW _ _
  exact contract HDec H enc W base args ds gs before hval hW

theorem over (HDec : DecSays) : Rows.ImageUnlikeSaid :=
  OpenClaim.holds_of_wide 7 Try.f7 rfl rfl rfl rfl rfl rfl rfl ⟨rfl, rfl, rfl, rfl, rfl⟩ rfl rfl rfl rfl rfl (by kernel_rfl) Try.func7 (by kernel_rfl)
    (of_decide_eq_true (by kernel_rfl)) (by unfold Func.isWrapper; first | (rw [if_pos (by decide +kernel)]; kernel_rfl) | (rw [if_neg (by decide +kernel)]; exact ⟨rfl, rfl⟩))
    (fun os started H enc _ => lifted HDec os started H enc)

end Go.Proofs.Ytbliedldlimpgaa.imageUnlikeLaw

namespace Go.Proofs.Ytbliedldlimpgaa.imageUnlikeLaw
set_option linter.unusedVariables false
set_option linter.unusedSimpArgs false

theorem proved : Rows.ImageUnlikeSaid := over dec_says

end Go.Proofs.Ytbliedldlimpgaa.imageUnlikeLaw
