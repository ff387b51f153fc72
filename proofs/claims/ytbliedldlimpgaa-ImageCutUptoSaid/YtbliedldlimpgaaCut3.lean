/- Lemmas that the claim is proved from: what calls of functions of the program come to (contracts), and plain laws. Each lemma bears its own conditions. -/
import Derived.Test.YtbliedldlimpgaaCut2
import Derived.Deep.RegionHeld
import Derived.Test.YtbliedldlimpgaaRows
import Derived.ProofKit
import Derived.OpenShut
import Derived.Carry
import Derived.Deep.Matrix
import Derived.Deep.Slices
import Derived.Laws.AppendOwnNone
import Derived.Maps.AppendAt
import Derived.IntWalk
import Derived.BigQuiet
import Derived.Laws.IdiomStrings
import Derived.Laws.BytesString
import Derived.Laws.BitsAllLaws
import Derived.Laws.BytesArg

namespace Go.Proofs.Ytbliedldlimpgaa
set_option linter.unusedVariables false
set_option linter.unusedSimpArgs false
open Go.RowKit

theorem info_hash : (Try.prog.info? 102).map (fun i => (i.zero, i.size, i.bytes)) = some (some (.int .u32 0), 1, 4) := by kernel_rfl
def hashesK (syms : List SymL) (n : Nat) : List Int := (seenK syms n).map fun k => hashB (symN syms k).name

/-- two lists that the call makes, in rows apart; cells of its own that stand in neither row -/
structure HInv (B : Nat) (w0 w : World) (va vl : Value) (at_ l : List Int) (pend : List (Nat × Value)) : Prop where
  a : OwnK 3 kInt B (fun _ => False) w va at_
  l : OwnK 102 kHash B (fun _ => False) w vl l
  apart : ∀ k, va.ownBlock = some k → vl.ownBlock ≠ some k
  pend : ∀ p ∈ pend, w.cell? ⟨p.1, 0, none⟩ = some p.2 ∧ va.ownBlock ≠ some p.1 ∧ vl.ownBlock ≠ some p.1
  below : Below B w0 w
  hB : B ≤ w.heap.size
section
variable {B : Nat} {w0 w : World} {va vl : Value} {at_ l : List Int} {pend : List (Nat × Value)}
theorem HInv.drew (h : HInv B w0 w va vl at_ l pend) : HInv B w0 w.drew va vl at_ l pend := ⟨h.a.drew, h.l.drew, h.apart, h.pend, h.below.drew, h.hB⟩
theorem HInv.less {p2 : List (Nat × Value)} (h : HInv B w0 w va vl at_ l pend) (hp : ∀ p ∈ p2, p ∈ pend) : HInv B w0 w va vl at_ l p2 := ⟨h.a, h.l, h.apart, fun p hx => h.pend p (hp p hx), h.below, h.hB⟩
theorem HInv.alloc (h : HInv B w0 w va vl at_ l pend) (v : Value) (t : TypeId) : HInv B w0 (w.alloc (.cells #[v] t (0, 0))) va vl at_ l ((w.heap.size, v) :: pend) :=
  ⟨h.a.alloc _, h.l.alloc _, h.apart, fun p hp => by
    rcases List.mem_cons.1 hp with rfl | hp
    · refine ⟨by simp, fun e => ?_, fun e => ?_⟩
      · have := (h.a.lt _ e).2; simp at this
      · have := (h.l.lt _ e).2; simp at this
    · obtain ⟨h1, h2⟩ := h.pend p hp
      exact ⟨by rw [World.cell?_alloc_lt _ _ _ (World.block_lt_of_cell? _ _ h1)]; exact h1, h2⟩, h.below.alloc h.hB _, by have := h.hB; rw [World.size_alloc]; omega⟩
theorem HInv.alloc' (h : HInv B w0 w va vl at_ l pend) (o : Obj) : HInv B w0 (w.alloc o) va vl at_ l pend :=
  ⟨h.a.alloc _, h.l.alloc _, h.apart, fun p hp => by
    obtain ⟨h1, h2⟩ := h.pend p hp
    exact ⟨by rw [World.cell?_alloc_lt _ _ _ (World.block_lt_of_cell? _ _ h1)]; exact h1, h2⟩, h.below.alloc h.hB _, by have := h.hB; rw [World.size_alloc]; omega⟩
theorem HInv.cell (h : HInv B w0 w va vl at_ l pend) {n : Nat} {v : Value} (hp : (n, v) ∈ pend) : w.cell? ⟨n, 0, none⟩ = some v := (h.pend _ hp).1

theorem step_flat {α : Type} {e : TypeId} {K : Kind α} {w' : World} {v : Value} {xs : List α} {row : Option Nat} (hflat : ∀ S S' w w' x r, K.R S w x r → K.R S' w' x r) (h : OwnK e K B (fun _ => False) w v xs) (hs : Step (fun b => b < w.heap.size ∧ row ≠ some b) w w')
    (hne : ∀ k, v.ownBlock = some k → row ≠ some k) : OwnK e K B (fun _ => False) w' v xs := by
  obtain ⟨ys, h1, h2, h3⟩ := h
  have hlt := World.ownsRow.lt h1
  refine ⟨ys, ⟨h1.1, ?_⟩, ?_, h3⟩
  · rcases h1.2 with h0 | ⟨g, cap, cur, hv, hg, hh, r⟩
    · exact Or.inl h0
    · refine Or.inr ⟨g, cap, cur, hv, hg, ?_, r⟩
      have ho : v.ownBlock = some g := by rw [hv]; rfl
      rw [hs.block g ⟨(hlt g ho).2, hne g ho⟩]; exact hh
  · have : ∀ {l : List α} {xs : List Value} {S S' : Nat → Prop}, RowsOf K S w l xs → RowsOf K S' w' l xs := by
      intro l
      induction l with
      | nil => intro xs S S' h; exact h
      | cons x l ih => rintro xs S S' ⟨r, ys, e, a1, a2⟩; exact ⟨r, ys, e, hflat _ _ _ _ _ _ a1, ih a2⟩
    exact this h2
/-- append to one of the two, at a step of a region that draws its order -/
theorem HInv.stepA {o : Oper} {a : Act} {K : Act → World → Prop} {Q : Exit → Act → World → Prop} (h : HInv B w0 w va vl at_ l pend) (s x : Operand)
    (ho : o.op = .call { callee := .builtin .append, args := #[s, x], argTypes := #[35, 35] }) (n : Nat) (hn : at_.length = n) (hs : a.eval s = va) (nb : Nat) (y : Int) (hx : a.eval x = .slice (some ⟨nb, 0, none⟩) 1 1) (hp : (nb, Value.int .i64 y) ∈ pend) (hlen : n ≤ 1000000)
    (hk : ∀ g c w', HInv B w0 w' (.slice (some ⟨g, 0, none⟩) (n + 1) c) vl (at_ ++ [y]) l pend → K (a.put o.dst (.slice (some ⟨g, 0, none⟩) (n + 1) c)) w') : Oper.wp Try.prog o a w K Q := by
  subst hn
  obtain ⟨i0, hi, hz0, hz1, hz2⟩ := info_parts info_int
  obtain ⟨xs, h1, h2, h3⟩ := h.a
  have hlt := World.ownsRow.lt h1
  have hcell := h.cell hp
  refine wp_append_lies w s x 35 ho B 3 i0 (.int .i64 0) 1 8 Try.underlying35 hi hz0 hz1 hz2 rfl (by decide) va at_.length xs hs h1 ⟨nb, 0, none⟩ 1 1 [.int .i64 y] hx rfl ?_ ?_ (by decide) (by unfold maxLen; omega) (by omega) h.hB _ rfl ?_
  · intro j u hj
    match j, hj with
    | 0, hj => simp at hj; subst hj; simpa [Addr.add_lit] using hcell
    | j + 1, hj => simp at hj
  · intro u hu; simp at hu; subst hu; rfl
  · intro g c w' g1 g2 g3 g4
    have hst : Step (fun b => b < w.heap.size ∧ va.ownBlock ≠ some b) w w' := Step.of_grown g2 (fun b hb => ⟨hb.1, hb.2⟩)
    refine hk g c w' ?_
    refine ⟨⟨xs ++ [.int .i64 y], by have g5 := g1; simpa [kInt, kHash] using g5, by
      have hr : RowsOf kInt (fun b => b < w.heap.size ∧ ¬ False ∧ va.ownBlock ≠ some b) w at_ xs := h2
      have : ∀ {l : List Int} {xs : List Value} {S S' : Nat → Prop} {w w' : World}, RowsOf kInt S w l xs → RowsOf kInt S' w' l xs := by
        intro l
        induction l with
        | nil => intro xs S S' w w' h; exact h
        | cons x l ih => rintro xs S S' w w' ⟨r, ys, e, a1, a2⟩; exact ⟨r, ys, e, a1, ih a2⟩
      exact (this hr).snoc rfl, fun _ _ hE => hE⟩, step_flat (fun _ _ _ _ _ _ h => h) h.l hst (fun k hk e => h.apart k e hk), ?_, fun p hp => ?_, ?_, Nat.le_trans h.hB hst.size⟩
    · intro k hk e
      have : k = g := by simpa [Value.ownBlock] using hk.symm
      subst this
      rcases g3 with h' | h'
      · exact h.apart _ h' e
      · have := (h.l.lt _ e).2; omega
    · obtain ⟨q1, q2, q3⟩ := h.pend p hp
      have hq : p.1 < w.heap.size := World.block_lt_of_cell? _ _ q1
      refine ⟨by rw [World.cell?_of_block (a := ⟨p.1, 0, none⟩) (hst.block p.1 ⟨hq, q2⟩)]; exact q1, ?_, ?_⟩
      · intro e
        have : p.1 = g := by simpa [Value.ownBlock] using e.symm
        rcases g3 with h' | h'
        · exact q2 (by rw [this]; exact h')
        · omega
      · exact q3
    · exact h.below.trans (hst.imp (S' := (· < B)) (fun b hb => ⟨Nat.lt_of_lt_of_le hb h.hB, fun e => by have h5 := (hlt b e).1; have h6 : b < B := hb; omega⟩)).below
/-- append to one of the two, at a step of a region that draws its order -/
theorem HInv.stepL {o : Oper} {a : Act} {K : Act → World → Prop} {Q : Exit → Act → World → Prop} (h : HInv B w0 w va vl at_ l pend) (s x : Operand)
    (ho : o.op = .call { callee := .builtin .append, args := #[s, x], argTypes := #[101, 101] }) (n : Nat) (hn : l.length = n) (hs : a.eval s = vl) (nb : Nat) (y : Int) (hx : a.eval x = .slice (some ⟨nb, 0, none⟩) 1 1) (hp : (nb, Value.int .u32 y) ∈ pend) (hlen : n ≤ 1000000)
    (hk : ∀ g c w', HInv B w0 w' va (.slice (some ⟨g, 0, none⟩) (n + 1) c) at_ (l ++ [y]) pend → K (a.put o.dst (.slice (some ⟨g, 0, none⟩) (n + 1) c)) w') : Oper.wp Try.prog o a w K Q := by
  subst hn
  obtain ⟨i0, hi, hz0, hz1, hz2⟩ := info_parts info_hash
  obtain ⟨xs, h1, h2, h3⟩ := h.l
  have hlt := World.ownsRow.lt h1
  have hcell := h.cell hp
  refine wp_append_lies w s x 101 ho B 102 i0 (.int .u32 0) 1 4 Try.underlying101 hi hz0 hz1 hz2 rfl (by decide) vl l.length xs hs h1 ⟨nb, 0, none⟩ 1 1 [.int .u32 y] hx rfl ?_ ?_ (by decide) (by unfold maxLen; omega) (by omega) h.hB _ rfl ?_
  · intro j u hj
    match j, hj with
    | 0, hj => simp at hj; subst hj; simpa [Addr.add_lit] using hcell
    | j + 1, hj => simp at hj
  · intro u hu; simp at hu; subst hu; rfl
  · intro g c w' g1 g2 g3 g4
    have hst : Step (fun b => b < w.heap.size ∧ vl.ownBlock ≠ some b) w w' := Step.of_grown g2 (fun b hb => ⟨hb.1, hb.2⟩)
    refine hk g c w' ?_
    refine ⟨step_flat (fun _ _ _ _ _ _ h => h) h.a hst (fun k hk e => h.apart k hk e), ⟨xs ++ [.int .u32 y], by have g5 := g1; simpa [kInt, kHash] using g5, by
      have hr : RowsOf kHash (fun b => b < w.heap.size ∧ ¬ False ∧ vl.ownBlock ≠ some b) w l xs := h2
      have : ∀ {l : List Int} {xs : List Value} {S S' : Nat → Prop} {w w' : World}, RowsOf kHash S w l xs → RowsOf kHash S' w' l xs := by
        intro l
        induction l with
        | nil => intro xs S S' w w' h; exact h
        | cons x l ih => rintro xs S S' w w' ⟨r, ys, e, a1, a2⟩; exact ⟨r, ys, e, a1, ih a2⟩
      exact (this hr).snoc rfl, fun _ _ hE => hE⟩, ?_, fun p hp => ?_, ?_, Nat.le_trans h.hB hst.size⟩
    · intro k hk e
      have : k = g := by simpa [Value.ownBlock] using e.symm
      subst this
      rcases g3 with h' | h'
      · exact h.apart _ hk h'
      · have := (h.a.lt _ hk).2; omega
    · obtain ⟨q1, q2, q3⟩ := h.pend p hp
      have hq : p.1 < w.heap.size := World.block_lt_of_cell? _ _ q1
      refine ⟨by rw [World.cell?_of_block (a := ⟨p.1, 0, none⟩) (hst.block p.1 ⟨hq, q3⟩)]; exact q1, ?_, ?_⟩
      · exact q2
      · intro e
        have : p.1 = g := by simpa [Value.ownBlock] using e.symm
        rcases g3 with h' | h'
        · exact q3 (by rw [this]; exact h')
        · omega
    · exact h.below.trans (hst.imp (S' := (· < B)) (fun b hb => ⟨Nat.lt_of_lt_of_le hb h.hB, fun e => by have h5 := (hlt b e).1; have h6 : b < B := hb; omega⟩)).below
end

theorem hashesK_succ (syms : List SymL) (n : Nat) : hashesK syms (n + 1) = hashesK syms n ++ if seenB (symN syms n) then [hashB (symN syms n).name] else [] := by
  rw [hashesK, seenK_succ, List.map_append]
  by_cases h : seenB (symN syms n) = true
  · rw [if_pos h, if_pos h]; rfl
  · rw [if_neg h, if_neg h]; rfl
theorem hashesK_len (syms : List SymL) (n : Nat) : (hashesK syms n).length = (seenK syms n).length := by simp [hashesK]
set_option maxHeartbeats 32000000 in
set_option maxRecDepth 100000 in
theorem thashes_any (w : World) (v : Value) (syms : List SymL) (hs : LB kSym (· < w.heap.size) w v syms) (hz : syms.length ≤ 512) :
    Calls Try.prog 65 #[v] w fun e w' => ∃ r l, e = .returned (.tuple #[r, l]) ∧ OwnK 3 kInt w.heap.size (fun _ => False) w' r (toInts (seenIx syms)) ∧ OwnK 102 kHash w.heap.size (fun _ => False) w' l (hashesK syms syms.length) ∧ Below w.heap.size w w' := by
  obtain ⟨sa, sb, soff, scap, rfl, hsm, hsc, hat⟩ := hs.at
  have Hat := Lib.hid hat
  clear hs hat
  go_enter Try.func65, Try.ntmps65
  go_wp2
  go_loopw [4, 5, 10] (fun o p i wr => ∃ k : Nat, i = .int .i64 k ∧ k ≤ syms.length ∧ HInv w.heap.size w wr o p (toInts (seenK syms k)) (hashesK syms k) []) (fun _ _ i _ => syms.length - (intOf i).toNat)
  case atStart => exact ⟨0, rfl, Nat.zero_le _, ⟨OwnK.nil _ _ _ _ _, OwnK.nil _ _ _ _ _, fun k h => by simp [Value.ownBlock] at h, fun p hp => by simp at hp, Below.refl _ _, Nat.le_refl _⟩⟩
  case round =>
    obtain ⟨k, rfl, hk, hinv⟩ := hrel
    have hBr := hinv.below.size
    have hlN := seenK_le syms k
    have hl2 := toInts_len (seenK syms k)
    have hl3 := hashesK_len syms k
    obtain ⟨oa, oc, ho⟩ := hinv.a.form
    obtain ⟨pa, pc, hp⟩ := hinv.l.form
    rw [hl2] at ho
    rw [hl3] at hp
    subst ho hp
    by_cases hlt : k < syms.length
    · obtain rfl := Hat.out.addr (by omega)
      obtain ⟨s, hx⟩ : ∃ s, syms[k]? = some s := ⟨_, List.getElem?_eq_getElem hlt⟩
      obtain ⟨hso, g0, g1, g2, g3, g4, g5, g6, g7, g8⟩ := (Hat.out.below hinv.below).sym9 k s hx
      have HS := Lib.hid (seenK_succ syms k)
      have HS2 := Lib.hid (hashesK_succ syms k)
      rw [symN_at hx] at HS HS2
      have Hinv := Lib.hid hinv
      have HJ := Lib.hid (fun w => shash_any w s.name hso.name)
      have hsb := World.block_lt_of_cell? _ _ g0
      have Fs := heap_alloc_new wr (.cells #[.string ⟨s.name.toArray⟩, .string ⟨s.version.toArray⟩, .bool s.old, .int .i64 s.kind, .bool s.weak, .int .i64 s.vis, .bool s.defined, .int .i64 s.value, .int .i64 s.size] 54 (0, 0))
      have I1 := Lib.hid (hinv.alloc' (.cells #[.string ⟨s.name.toArray⟩, .string ⟨s.version.toArray⟩, .bool s.old, .int .i64 s.kind, .bool s.weak, .int .i64 s.vis, .bool s.defined, .int .i64 s.value, .int .i64 s.size] 54 (0, 0)))
      have hzs : (wr.alloc (.cells #[.string ⟨s.name.toArray⟩, .string ⟨s.version.toArray⟩, .bool s.old, .int .i64 s.kind, .bool s.weak, .int .i64 s.vis, .bool s.defined, .int .i64 s.value, .int .i64 s.size] 54 (0, 0))).heap.size = wr.heap.size + 1 := by simp
      have hown1 := fun k h => (hinv.a.lt k h).2
      have hown2 := fun k h => (hinv.l.lt k h).2
      clear hinv hx hso
      go_upto_region 6 with fail
      generalize wr.alloc (.cells #[.string ⟨s.name.toArray⟩, .string ⟨s.version.toArray⟩, .bool s.old, .int .i64 s.kind, .bool s.weak, .int .i64 s.vis, .bool s.defined, .int .i64 s.value, .int .i64 s.size] 54 (0, 0)) = w1 at *
      obtain ⟨c0, c1, c2, c3, c4, c5, c6, c7, c8⟩ := sym_cells Fs
      go_wp2_with fail
      refine (vseen_any w1 s).mono ?_
      rintro e w2 ⟨rfl, hb2⟩
      have hz2 := hb2.size
      have cn := (hb2.cell (World.block_lt_of_cell? _ _ c0)).trans c0
      have I2 : HInv w.heap.size w w2 (.slice oa (seenK syms k).length oc) (.slice pa (seenK syms k).length pc) (toInts (seenK syms k)) (hashesK syms k) [(wr.heap.size, .string ⟨s.name.toArray⟩)] := by
        refine ⟨I1.out.a.below hb2, I1.out.l.below hb2, I1.out.apart, fun p hp => ?_, I1.out.below.trans (hb2.mono (by omega)), by omega⟩
        simp at hp
        subst hp
        exact ⟨cn, fun e => by have := hown1 _ e; omega, fun e => by have := hown2 _ e; omega⟩
      clear hb2 c0 c1 c2 c3 c4 c5 c6 c7 c8 Fs I1 g0 g1 g2 g3 g4 g5 g6 g7 g8 Hinv
      cases hsn : seenB s with
      | false =>
        rw [hsn] at HS HS2
        have I3 := Lib.hid I2
        clear I2 cn
        go_wp2
        go_roundw
        case rel =>
          have h1 := HS.out
          have h2 := HS2.out
          simp only [Bool.false_eq_true, if_false, List.append_nil] at h1 h2
          exact ⟨k + 1, by go_num, by omega, by rw [h1, h2]; exact I3.out.less (by simp)⟩
        case measure => simp [intOf]; omega
      | true =>
        rw [hsn] at HS HS2
        have I3 := Lib.hid I2.drew
        have h1 := HS.out
        have h2 := HS2.out
        simp only [if_true] at h1 h2
        have HN1 : Hid (toInts (seenK syms (k + 1)) = toInts (seenK syms k) ++ [(k : Int)]) := Lib.hid (by rw [h1, toInts, List.map_append]; rfl)
        have HN2 := Lib.hid h2
        have hlw := World.block_lt_of_cell? _ _ cn
        clear I2 h1 h2 HS HS2
        generalize wr.heap.size = zs at *
        go_wp2_with fail
        refine wp_region_held_drew (S := fun w' => w'.cell? ⟨zs, 0, none⟩ = some (.string ⟨s.name.toArray⟩)) (by kernel_rfl) (by exact I3.out.cell (by simp)) (fun hHeld => ?_)
        generalize w2.drew = wd at *
        refine wpAnyH_take (i := 0) (v := ?_) rfl (by kernel_rfl) (by kernel_rfl) (by kernel_rfl) (fun _ _ _ h => h) (Or.inl ⟨by rfl, ?_⟩) hHeld ?_
        rotate_left
        · (intro w hSw; (try dsimp only at hSw); go_simp; try with_reducible rfl)
        try simp only [Act.put, List.setIfInBounds_toArray, List.set_cons_zero, List.set_cons_succ]
        refine wpAnyH_take (i := 1) (v := ?_) rfl (by kernel_rfl) (by kernel_rfl) (by kernel_rfl) (fun _ _ _ h => h) (Or.inl ⟨by rfl, ?_⟩) hHeld ?_
        rotate_left
        · (intro w hSw; (try dsimp only at hSw); go_simp; try with_reducible rfl)
        try simp only [Act.put, List.setIfInBounds_toArray, List.set_cons_zero, List.set_cons_succ]
        refine wpAnyH_take (i := 4) (v := ?_) rfl (by kernel_rfl) (by kernel_rfl) (by kernel_rfl) (fun _ _ _ h => h) (Or.inl ⟨by rfl, ?_⟩) hHeld ?_
        rotate_left
        · (intro w hSw; (try dsimp only at hSw); go_simp; try with_reducible rfl)
        try simp only [Act.put, List.setIfInBounds_toArray, List.set_cons_zero, List.set_cons_succ]
        refine wpAnyH_take (i := 5) (v := ?_) rfl (by kernel_rfl) (by kernel_rfl) (by kernel_rfl) (fun _ _ _ h => h) (Or.inl ⟨by rfl, ?_⟩) hHeld ?_
        rotate_left
        · (intro w hSw; (try dsimp only at hSw); go_simp; try with_reducible rfl)
        try simp only [Act.put, List.setIfInBounds_toArray, List.set_cons_zero, List.set_cons_succ]
        refine wpAnyH_take (i := 6) (v := ?_) rfl (by kernel_rfl) (by kernel_rfl) (by kernel_rfl) (fun _ _ _ h => h) (Or.inl ⟨by rfl, ?_⟩) hHeld ?_
        rotate_left
        · (intro w hSw; (try dsimp only at hSw); go_simp; try with_reducible rfl)
        try simp only [Act.put, List.setIfInBounds_toArray, List.set_cons_zero, List.set_cons_succ]
        refine wpAnyH_ready (rs := [2]) (by kernel_rfl) (by simp) ?_
        refine AllReadyH.cons rfl (fun K hK => ?_) AllReadyH.nil
        go_simp
        have IA := Lib.hid (I3.out.alloc (.int .i64 (k : Int)) 3)
        refine hK.out _ _ (by exact IA.out.cell (by simp)) (fun hHeld => ?_)
        clear hK K
        try simp only [Act.put, List.setIfInBounds_toArray, List.set_cons_zero, List.set_cons_succ]
        generalize wd.alloc (.cells #[.int .i64 (k : Int)] 3 (0, 0)) = wA at *
        refine wpAnyH_ready (rs := [3]) (by kernel_rfl) (by simp) ?_
        refine AllReadyH.cons rfl (fun K hK => ?_) AllReadyH.nil
        rw [if_pos (by rfl)]
        simp only [List.getElem_toArray, List.getElem_cons_succ, List.getElem_cons_zero]
        refine IA.out.stepA (.tmp 17) (.tmp 19) ?_ (seenK syms k).length hl2 ?_ wd.heap.size (k : Int) ?_ (by simp) (by omega) (fun g c wAA hI => ?_)
        · rfl
        · rfl
        · rfl
        have IAA := Lib.hid hI
        clear hI
        refine hK.out _ _ (by exact IAA.out.cell (by simp)) (fun hHeld => ?_)
        clear hK K
        try simp only [Act.put, List.setIfInBounds_toArray, List.set_cons_zero, List.set_cons_succ]
        refine wpAnyH_ready (rs := [7]) (by kernel_rfl) (by simp) ?_
        refine AllReadyH.cons rfl (fun K hK => ?_) AllReadyH.nil
        go_simp
        refine (HJ.out _).mono ?_
        rintro e w5 ⟨rfl, hw5⟩
        rw [hw5]
        refine hK.out _ _ (by exact IAA.out.cell (by simp)) (fun hHeld => ?_)
        clear hK K
        try simp only [Act.put, List.setIfInBounds_toArray, List.set_cons_zero, List.set_cons_succ]
        have IAAB := IAA
        refine wpAnyH_ready (rs := [8]) (by kernel_rfl) (by simp) ?_
        refine AllReadyH.cons rfl (fun K hK => ?_) AllReadyH.nil
        go_simp
        have IAABB := Lib.hid (IAAB.out.alloc (.int .u32 (hashB s.name)) 102)
        refine hK.out _ _ (by exact IAABB.out.cell (by simp)) (fun hHeld => ?_)
        clear hK K
        try simp only [Act.put, List.setIfInBounds_toArray, List.set_cons_zero, List.set_cons_succ]
        generalize wAA.alloc (.cells #[.int .u32 (hashB s.name)] 102 (0, 0)) = wAABB at *
        refine wpAnyH_ready (rs := [9]) (by kernel_rfl) (by simp) ?_
        refine AllReadyH.cons rfl (fun K hK => ?_) AllReadyH.nil
        rw [if_pos (by rfl)]
        simp only [List.getElem_toArray, List.getElem_cons_succ, List.getElem_cons_zero]
        refine IAABB.out.stepL (.tmp 21) (.tmp 25) ?_ (seenK syms k).length hl3 ?_ wAA.heap.size (hashB s.name) ?_ (by simp) (by omega) (fun g c wAABBB hI => ?_)
        · rfl
        · rfl
        · rfl
        have IAABBB := Lib.hid hI
        clear hI
        refine hK.out _ _ (by exact IAABBB.out.cell (by simp)) (fun hHeld => ?_)
        clear hK K
        try simp only [Act.put, List.setIfInBounds_toArray, List.set_cons_zero, List.set_cons_succ]
        refine wpAnyH_take (i := 10) (v := ?_) rfl (by kernel_rfl) (by kernel_rfl) (by kernel_rfl) (fun _ _ _ h => h) (Or.inl ⟨by rfl, ?_⟩) hHeld ?_
        rotate_left
        · (intro w hSw; (try dsimp only at hSw); go_simp; try with_reducible rfl)
        try simp only [Act.put, List.setIfInBounds_toArray, List.set_cons_zero, List.set_cons_succ]
        refine wpAnyH_take (i := 11) (v := ?_) rfl (by kernel_rfl) (by kernel_rfl) (by kernel_rfl) (fun _ _ _ h => h) (Or.inl ⟨by rfl, ?_⟩) hHeld ?_
        rotate_left
        · (intro w hSw; (try dsimp only at hSw); go_simp; try with_reducible rfl)
        try simp only [Act.put, List.setIfInBounds_toArray, List.set_cons_zero, List.set_cons_succ]
        refine wpAnyH_done (by kernel_rfl) ?_ _
        clear hHeld
        go_wp2
        go_roundw
        case rel => exact ⟨k + 1, by go_num, by omega, by rw [HN1.out, HN2.out]; exact IAABBB.out.less (by simp)⟩
        case measure => simp [intOf]; omega
    · have he : k = syms.length := by omega
      subst he
      have Hinv := Lib.hid hinv
      clear hinv
      go_wp2
      go_ret2
      exact ⟨_, _, rfl, Hinv.out.a, Hinv.out.l, Hinv.out.below⟩

end Go.Proofs.Ytbliedldlimpgaa

namespace Go.Proofs.Ytbliedldlimpgaa
set_option linter.unusedVariables false
set_option linter.unusedSimpArgs false
open Go.RowKit

theorem count_take_succ (c : List Int) (k : Nat) (x y : Int) (hx : c[k]? = some y) : (c.take (k + 1)).count x = (c.take k).count x + if y = x then 1 else 0 := by
  obtain ⟨h, rfl⟩ := List.getElem?_eq_some_iff.1 hx
  rw [List.take_succ_eq_append_getElem h, List.count_append, List.count_singleton]
  by_cases e : c[k] = x <;> simp [e]
theorem sum_take_le : ∀ (l : List Nat) (n : Nat), (l.take n).sum ≤ l.sum
  | [], n => by simp
  | a :: l, 0 => by simp
  | a :: l, n + 1 => by have := sum_take_le l n; simp only [List.take_succ_cons, List.sum_cons]; omega
theorem sum_take_succ (l : List Nat) (k : Nat) (x : Nat) (hx : l[k]? = some x) : (l.take (k + 1)).sum = (l.take k).sum + x := by
  obtain ⟨h, rfl⟩ := List.getElem?_eq_some_iff.1 hx
  rw [List.take_succ_eq_append_getElem h, List.sum_append]; simp
theorem rising_snoc : ∀ (l : List Int) (a b : Int), risingB (l ++ [a]) = true → risingB (l ++ [a, b]) = decide (a < b)
  | [], a, b, _ => by simp [risingB]
  | [x], a, b, h => by
    simp only [List.cons_append, List.nil_append, risingB, Bool.and_eq_true, decide_eq_true_eq] at h ⊢
    simp [h.1]
  | x :: y :: l, a, b, h => by
    have e1 : risingB (x :: y :: l ++ [a]) = (decide (x < y) && risingB (y :: l ++ [a])) := rfl
    have e2 : risingB (x :: y :: l ++ [a, b]) = (decide (x < y) && risingB (y :: l ++ [a, b])) := rfl
    rw [e1, Bool.and_eq_true] at h
    rw [e2, h.1, rising_snoc (y :: l) a b h.2]; rfl
theorem rising_step (c : List Int) (k : Nat) (a b : Int) (ha : c[k]? = some a) (hb : c[k + 1]? = some b) (h : risingB (c.take (k + 1)) = true) : risingB (c.take (k + 2)) = decide (a < b) := by
  obtain ⟨h1, rfl⟩ := List.getElem?_eq_some_iff.1 ha
  obtain ⟨h2, rfl⟩ := List.getElem?_eq_some_iff.1 hb
  rw [List.take_succ_eq_append_getElem h1] at h
  rw [List.take_succ_eq_append_getElem h2, List.take_succ_eq_append_getElem h1, List.append_assoc]
  exact rising_snoc _ _ _ h
theorem rising_bad (c : List Int) (k : Nat) (h : risingB (c.take k) = false) : risingB c = false := by
  cases hr : risingB c with
  | false => rfl
  | true =>
    have := ((rising_pairwise c).1 hr).sublist (List.take_sublist k c)
    rw [(rising_pairwise _).2 this] at h; cases h

set_option maxHeartbeats 2000000 in
set_option maxRecDepth 100000 in
theorem jstandsn_any (w : World) (v : Value) (c : List Int) (x : Int) (hc : LB kInt (· < w.heap.size) w v c) :
    Calls Try.prog 76 #[v, .int .i64 x] w fun e w' => e = .returned (.int .i64 (c.count x : Nat)) ∧ w' = w := by
  obtain ⟨sa, sb, soff, scap, rfl, hsm, hsc, hat⟩ := hc.at
  have Hat := Lib.hid hat
  clear hc hat
  go_enter Try.func76, Try.ntmps76
  go_wp2
  go_loop [5, 6] (fun n i => ∃ k : Nat, k ≤ c.length ∧ i = .int .i64 k ∧ n = .int .i64 (((c.take k).count x : Nat) : Int)) (fun _ i => c.length - (intOf i).toNat)
  case atStart => exact ⟨0, Nat.zero_le _, rfl, by simp⟩
  case round =>
    obtain ⟨k, hk, rfl, rfl⟩ := hrel
    have hle : (c.take k).count x ≤ k := by have := List.count_le_length (a := x) (l := c.take k); rw [List.length_take] at this; omega
    by_cases hlt : k < c.length
    · obtain rfl := Hat.out.addr (by omega)
      obtain ⟨y, hy⟩ : ∃ y, c[k]? = some y := ⟨_, List.getElem?_eq_getElem hlt⟩
      have g := Hat.out.int1 k y hy
      have Hs := Lib.hid (count_take_succ c k x y hy)
      clear hy
      generalize (c.take k).count x = m at *
      by_cases e : y = x
      · have Hs2 : Hid ((c.take (k + 1)).count x = m + 1) := Lib.hid (by rw [Hs.out, if_pos e])
        have hb : (y == x) = true := by rw [beq_iff_eq]; exact e
        clear e
        go_wp2
        go_round
        case rel => exact ⟨k + 1, by omega, by go_num, by rw [Hs2.out]; go_num⟩
        case measure => simp [intOf]; omega
      · have Hs2 : Hid ((c.take (k + 1)).count x = m) := Lib.hid (by rw [Hs.out, if_neg e]; omega)
        have hb : (y == x) = false := by rw [beq_eq_false_iff_ne]; exact e
        clear e
        go_wp2
        go_round
        case rel => exact ⟨k + 1, by omega, by go_num, by rw [Hs2.out]⟩
        case measure => simp [intOf]; omega
    · have He : Hid ((c.take k).count x = c.count x) := Lib.hid (by rw [List.take_of_length_le (by omega)])
      generalize (c.take k).count x = m at *
      go_wp2
      go_ret
      exact ⟨by rw [← He.out]; rfl, rfl⟩

end Go.Proofs.Ytbliedldlimpgaa

namespace Go.Proofs.Ytbliedldlimpgaa
set_option linter.unusedVariables false
set_option linter.unusedSimpArgs false
open Go.RowKit

def lensB (im : ImgL) : List Nat := im.buckets.map List.length
theorem tableJ_parts (im : ImgL) : tableJ im = (decide (im.syms.length ≤ 512) && decide (1 ≤ im.buckets.length) && decide (im.buckets.length ≤ 512) && sieveB im.words im.shift && im.buckets.all risingB &&
  decide ((lensB im).sum = (seenIx im.syms).length) && (seenIx im.syms).all (standsB im)) := rfl
theorem tableJ_many (im : ImgL) (b : Nat) (h : (seenIx im.syms).length < ((lensB im).take b).sum) : tableJ im = false := by
  have := sum_take_le (lensB im) b
  rw [tableJ_parts, decide_eq_false (p := (lensB im).sum = (seenIx im.syms).length) (by omega)]; simp
theorem tableJ_rise (im : ImgL) (b : Nat) (c : List Int) (hc : im.buckets[b]? = some c) (h : risingB c = false) : tableJ im = false := by
  have : im.buckets.all risingB = false := by rw [List.all_eq_false]; exact ⟨c, List.mem_of_getElem? hc, by simp [h]⟩
  rw [tableJ_parts, this]; simp
theorem tableJ_stand (im : ImgL) (k : Nat) (i : Nat) (hi : (seenIx im.syms)[k]? = some i) (h : standsB im i = false) : tableJ im = false := by
  have : (seenIx im.syms).all (standsB im) = false := by rw [List.all_eq_false]; exact ⟨i, List.mem_of_getElem? hi, by simp [h]⟩
  rw [tableJ_parts, this]; simp
theorem toInts_at (l : List Nat) (k i : Nat) (h : l[k]? = some i) : (toInts l)[k]? = some (i : Int) := by simp [toInts, h]

set_option maxHeartbeats 16000000 in
set_option maxRecDepth 100000 in
theorem jtright_any (w : World) (im : ImgL) (vb vw vs : Value) (hb : LB kInts (· < w.heap.size) w vb im.buckets) (hw : LB kWord (· < w.heap.size) w vw im.words) (hs : LB kSym (· < w.heap.size) w vs im.syms)
    (hr : ∀ x ∈ im.words, 0 ≤ x ∧ x < 18446744073709551616) (hbl : ∀ c ∈ im.buckets, c.length ≤ 140737488355328) :
    Calls Try.prog 30 #[.agg #[vb, vw, .int .i64 im.shift], vs] w fun e w' => e = .returned (.bool (tableJ im)) ∧ Below w.heap.size w w' := by
  obtain ⟨ba, bb, boff, bcap, rfl, hbm, hbc, hbat⟩ := hb.at
  obtain ⟨sa, sb, soff, scap, rfl, hsm, hsc, hsat⟩ := hs.at
  obtain ⟨wa, wc, hwv⟩ := hw.form
  subst hwv
  have Hw := Lib.hid hw
  have HT := Lib.hid (tableJ_parts im)
  have Hbat := Lib.hid hbat
  have Hsat := Lib.hid hsat
  have Hr := Lib.hid hr
  have Hbl := Lib.hid hbl
  have Hs := Lib.hid hs
  have hwm := hw.max
  clear hb hs hw hbat hsat hr hbl
  have B1 := Lib.hid ((Below.refl w.heap.size w).alloc (Nat.le_refl _) (.cells #[.slice ba im.buckets.length bcap, .slice wa im.words.length wc, .int .i64 im.shift] 32 (0, 0)))
  have F1 := Lib.hid (heap_alloc_new w (.cells #[.slice ba im.buckets.length bcap, .slice wa im.words.length wc, .int .i64 im.shift] 32 (0, 0)))
  by_cases p1 : im.syms.length ≤ 512
  case neg =>
    have Hn : Hid (tableJ im = false) := Lib.hid (by rw [HT.out, decide_eq_false (p := im.syms.length ≤ 512) p1]; simp)
    have q1 : 512 < im.syms.length := by omega
    go_enter Try.func30, Try.ntmps30
    go_wp2
    go_ret
    exact ⟨by rw [Hn.out]; rfl, B1.out⟩
  have q1 : ¬ 512 < im.syms.length := by omega
  by_cases p2 : 1 ≤ im.buckets.length
  case neg =>
    have Hn : Hid (tableJ im = false) := Lib.hid (by rw [HT.out, decide_eq_false (p := 1 ≤ im.buckets.length) p2]; simp)
    have q2 : im.buckets.length < 1 := by omega
    go_enter Try.func30, Try.ntmps30
    go_wp2
    go_ret
    exact ⟨by rw [Hn.out]; rfl, B1.out⟩
  have q2 : ¬ im.buckets.length < 1 := by omega
  by_cases p3 : im.buckets.length ≤ 512
  case neg =>
    have Hn : Hid (tableJ im = false) := Lib.hid (by rw [HT.out, decide_eq_false (p := im.buckets.length ≤ 512) p3]; simp)
    have q3 : 512 < im.buckets.length := by omega
    go_enter Try.func30, Try.ntmps30
    go_wp2
    go_ret
    exact ⟨by rw [Hn.out]; rfl, B1.out⟩
  have q3 : ¬ 512 < im.buckets.length := by omega
  have Hf := Lib.hid (fun w => jfright_any w im.words wa wc im.shift (by omega))
  go_enter Try.func30, Try.ntmps30
  go_wp2_with fail
  have hz1 : w.heap.size < (w.alloc (.cells #[.slice ba im.buckets.length bcap, .slice wa im.words.length wc, .int .i64 im.shift] 32 (0, 0))).heap.size := by simp
  generalize w.alloc (.cells #[.slice ba im.buckets.length bcap, .slice wa im.words.length wc, .int .i64 im.shift] 32 (0, 0)) = w1 at *
  refine (Hf.out w1).mono ?_
  rintro e w2 ⟨rfl, hb2⟩
  have B2 := Lib.hid (B1.out.trans (hb2.mono (by omega)))
  have F2 := Lib.hid ((hb2.block _ hz1).trans F1.out)
  have hz2 := hb2.size
  clear hb2 B1 F1 Hf
  cases hsv : sieveB im.words im.shift with
  | false =>
    have Hn : Hid (tableJ im = false) := Lib.hid (by rw [HT.out, hsv]; simp)
    clear hsv
    go_wp2
    go_ret
    exact ⟨by rw [Hn.out]; rfl, B2.out⟩
  | true =>
    have Hsv := Lib.hid hsv
    clear hsv
    go_wp2_with fail
    refine (jseenl_any w2 _ im.syms ((Hs.out.below B2.out).mono B2.out.size) p1).mono ?_
    rintro e w3 ⟨r, rfl, hown, hb3⟩
    have B3 := Lib.hid (B2.out.trans (hb3.mono (by omega)))
    have F3 := Lib.hid ((hb3.block w.heap.size (by omega)).trans F2.out)
    have hz3 := hb3.size
    have hil := toInts_len (seenIx im.syms)
    have hsl : (seenIx im.syms).length ≤ 512 := by have := seenK_le im.syms im.syms.length; rw [seenIx]; omega
    obtain ⟨oa, oc, rfl⟩ := hown.form
    have hlb := hown.lb.imp (S' := (· < w3.heap.size)) (fun b h => h.1)
    obtain ⟨oa', ob, ooff, ocap', hov, hom, hoc, hoat⟩ := hlb.at
    cases hov
    rw [hil]
    have Hoat := Lib.hid hoat
    have Hil := Lib.hid (toInts_at (seenIx im.syms))
    have Hix := Lib.hid (fun k i (h : (seenIx im.syms)[k]? = some i) => (seenK_mem im.syms im.syms.length i).1 (List.mem_of_getElem? h))
    clear hb3 hown hlb hoat hom hoc F2 B2
    generalize hN : (seenIx im.syms).length = N at *
    have HN := Lib.hid hN
    clear hN
    go_wp2_with fail
    go_loopw [6, 7, 8] (fun m i _ wr => ∃ (b : Nat), i = .int .i64 b ∧ b ≤ im.buckets.length ∧ m = .int .i64 ((((lensB im).take b).sum : Nat) : Int) ∧ ((lensB im).take b).sum ≤ N ∧ (im.buckets.take b).all risingB = true ∧ Below w3.heap.size w3 wr) (fun _ i _ _ => im.buckets.length - (intOf i).toNat)
    case atStart => exact ⟨0, rfl, Nat.zero_le _, rfl, by simp, rfl, Below.refl _ _⟩
    case round =>
      obtain ⟨b, rfl, hbk, rfl, hmn, hall, hbel⟩ := hrel
      have Hall := Lib.hid hall
      have Hbel := Lib.hid hbel
      have F4 := (hbel.block w.heap.size (by omega)).trans F3.out
      have c0 : wr.cell? ⟨w.heap.size, 0, none⟩ = some (.slice ba im.buckets.length bcap) := by rw [Lib.cell_of_heap F4]; rfl
      have c1 : wr.cell? ⟨w.heap.size, 1, none⟩ = some (.slice wa im.words.length wc) := by rw [Lib.cell_of_heap F4]; rfl
      have c2 : wr.cell? ⟨w.heap.size, 2, none⟩ = some (.int .i64 im.shift) := by rw [Lib.cell_of_heap F4]; rfl
      have hzr := hbel.size
      clear hall hbel
      by_cases hlt : b < im.buckets.length
      · obtain rfl := Hbat.out.addr (by omega)
        obtain ⟨c, hc⟩ : ∃ c, im.buckets[b]? = some c := ⟨_, List.getElem?_eq_getElem hlt⟩
        have hcl := Hbl.out c (List.mem_of_getElem? hc)
        obtain ⟨cv, gc, hclb⟩ := (Hbat.out.below B3.out).ints1 b c hc
        have gc2 : wr.cell? ⟨bb, boff + b, none⟩ = some cv := (Hbel.out.cell (p := ⟨bb, boff + b, none⟩) (World.block_lt_of_cell? _ _ gc)).trans gc
        obtain ⟨ca, cb, coff, ccap, rfl, hcm, hcc, hcat⟩ := hclb.at
        have Hcat := Lib.hid hcat
        have Hsum := Lib.hid (sum_take_succ (lensB im) b c.length (by simp [lensB, hc]))
        have Hmany := Lib.hid (tableJ_many im (b + 1))
        have Hrise := Lib.hid (tableJ_rise im b c hc)
        have Hsn := Lib.hid (all_take_snoc risingB im.buckets b c hc)
        clear hc gc hclb hcat F4
        rw [Hsum.out, HN.out] at Hmany
        generalize hM : ((lensB im).take b).sum = M at *
        clear hM
        by_cases hmany : N < M + c.length
        · have Hn := Lib.hid (Hmany.out hmany)
          go_wp2
          go_ret
          exact ⟨by rw [Hn.out]; rfl, B3.out.trans (Hbel.out.mono (by omega))⟩
        have hm2 : ¬ ((N : Int) < (M : Int) + (c.length : Int)) := by omega
        go_wp2_with fail
        obtain ⟨wo, hwo⟩ : ∃ wo : World, wo = wr := ⟨_, rfl⟩
        go_loopw [8] (fun i wi => ∃ (k : Nat), i = .int .i64 (k + 1 : Nat) ∧ (k + 1 ≤ c.length ∨ k = 0) ∧ risingB (c.take (k + 1)) = true ∧ Below wo.heap.size wo wi) (fun i _ => c.length - (intOf i).toNat)
        case atStart =>
          refine ⟨0, rfl, Or.inr rfl, ?_, by rw [hwo]; exact Below.refl _ _⟩
          cases c with
          | nil => rfl
          | cons x l => simp [risingB]
        case round =>
          obtain ⟨k, rfl, hk, hri, hbi⟩ := hrel
          have Hri := Lib.hid hri
          have Hbi := Lib.hid hbi
          have d0 := (hbi.cell (by rw [hwo]; exact World.block_lt_of_cell? _ _ c0)).trans (hwo ▸ c0)
          have d1 := (hbi.cell (by rw [hwo]; exact World.block_lt_of_cell? _ _ gc2)).trans (hwo ▸ gc2)
          have hbi3 : Below w3.heap.size w3 wr := (by rw [hwo] at *; exact Hbel.out : Below w3.heap.size w3 wo).trans (hbi.mono (by rw [hwo]; omega))
          have Hbi3 := Lib.hid hbi3
          clear hri hbi hbi3
          by_cases hk2 : k + 1 < c.length
          · obtain rfl := Hcat.out.addr (by omega)
            obtain ⟨x, hx⟩ : ∃ x, c[k]? = some x := ⟨_, List.getElem?_eq_getElem (by omega)⟩
            obtain ⟨y, hy⟩ : ∃ y, c[k + 1]? = some y := ⟨_, List.getElem?_eq_getElem hk2⟩
            have gx := (Hbi3.out.cell (World.block_lt_of_cell? _ _ (Hcat.out.int1 k x hx))).trans (Hcat.out.int1 k x hx)
            have gy := (Hbi3.out.cell (World.block_lt_of_cell? _ _ (Hcat.out.int1 (k + 1) y hy))).trans (Hcat.out.int1 (k + 1) y hy)
            have hoff : coff + (k + 1) = coff + k + 1 := by omega
            rw [hoff] at gy
            have Hst := Lib.hid (fun h => rising_step c k x y hx hy h)
            have Hbadc := Lib.hid (rising_bad c (k + 2))
            clear hx hy
            by_cases hxy : x < y
            · have Hr2 : Hid (risingB (c.take (k + 1 + 1)) = true) := Lib.hid (by rw [Hst.out Hri.out]; simp [hxy])
              have hge : ¬ y ≤ x := by omega
              go_wp2_with fail
              go_quiet (fail)
              go_wp2
              go_roundw
              case rel => exact ⟨k + 1, by go_num, by omega, Hr2.out, below_drewN Hbi.out _⟩
              case measure => simp [intOf]; omega
            · have Hn := Lib.hid (Hrise.out (Hbadc.out (by rw [Hst.out Hri.out]; simp [hxy])))
              have hge : y ≤ x := by omega
              go_wp2_with fail
              go_quiet (fail)
              go_wp2
              go_ret
              exact ⟨by rw [Hn.out]; rfl, below_drewN (B3.out.trans (Hbi3.out.mono (by omega))) _⟩
          · have Hc : Hid (risingB c = true) := Lib.hid (by
              have := Hri.out
              rwa [List.take_of_length_le (by omega)] at this)
            go_wp2
            go_roundw
            case rel =>
              refine ⟨b + 1, by go_num, by omega, by rw [Hsum.out]; go_num, by rw [Hsum.out]; omega, by rw [Hsn.out, Hall.out, Hc.out]; rfl, Hbi3.out⟩
            case measure => simp [intOf]; omega
      · have Hris : Hid (im.buckets.all risingB = true) := Lib.hid (by have := Hall.out; rwa [List.take_of_length_le (by omega)] at this)
        have Hsu : Hid (((lensB im).take b).sum = (lensB im).sum) := Lib.hid (by rw [List.take_of_length_le (by simp [lensB]; omega)])
        have HF4 := Lib.hid F4
        have hM1 : ((lensB im).take b).sum ≤ 512 := by omega
        rw [Hsu.out] at hmn hM1 ⊢
        generalize hM : (lensB im).sum = M at *
        clear hM Hall F4
        go_wp2_with fail
        go_loopw [9, 10] (fun i _ wi => ∃ (k : Nat), i = .int .i64 k ∧ k ≤ N ∧ ((seenIx im.syms).take k).all (standsB im) = true ∧ Below w3.heap.size w3 wi) (fun i _ _ => N - (intOf i).toNat)
        case atStart => exact ⟨0, rfl, Nat.zero_le _, rfl, Hbel.out⟩
        case round =>
          obtain ⟨k, rfl, hk, hall, hbi⟩ := hrel
          have Hall := Lib.hid hall
          have Hbi := Lib.hid hbi
          clear hall c0 c1 c2 HF4 Hbel
          have F5 := (hbi.block w.heap.size (by omega)).trans F3.out
          have c0 : wr.cell? ⟨w.heap.size, 0, none⟩ = some (.slice ba im.buckets.length bcap) := by rw [Lib.cell_of_heap F5]; rfl
          have c1 : wr.cell? ⟨w.heap.size, 1, none⟩ = some (.slice wa im.words.length wc) := by rw [Lib.cell_of_heap F5]; rfl
          have c2 : wr.cell? ⟨w.heap.size, 2, none⟩ = some (.int .i64 im.shift) := by rw [Lib.cell_of_heap F5]; rfl
          have hzr2 := hbi.size
          clear hbi F5
          by_cases hlt2 : k < N
          · have hkN : k < (seenIx im.syms).length := by rw [HN.out]; exact hlt2
            obtain ⟨i, hi⟩ : ∃ i, (seenIx im.syms)[k]? = some i := ⟨_, List.getElem?_eq_getElem hkN⟩
            obtain ⟨hi1, hi2⟩ := Hix.out k i hi
            have hkl : k < (toInts (seenIx im.syms)).length := by rw [toInts_len]; exact hkN
            obtain rfl := Hoat.out.addr (by omega)
            have go' := Hoat.out.int1 k _ (Hil.out k i hi)
            have go1 := (Hbi.out.cell (World.block_lt_of_cell? _ _ go')).trans go'
            obtain rfl := Hsat.out.addr (by omega)
            obtain ⟨s, hx⟩ : ∃ s, im.syms[i]? = some s := ⟨_, List.getElem?_eq_getElem hi1⟩
            have hsn := symN_at hx
            obtain ⟨hok, g0', _⟩ := (Hsat.out.below B3.out).sym9 i s hx
            have g0 := (Hbi.out.cell (World.block_lt_of_cell? _ _ g0')).trans g0'
            have hnl := hok.name
            have hrange := hashB_range s.name
            have hhome := homeL_lt s.name im.buckets.length p2
            have Hst : Hid (standsB im i = (decide ((im.buckets.getD (homeL s.name im.buckets.length) []).count (i : Int) = 1) && !lacksB im.words im.shift (hashB s.name))) := Lib.hid (by rw [standsB, symHome, hsn])
            have Hbad := Lib.hid (tableJ_stand im k i hi)
            have Hsn := Lib.hid (all_take_snoc (standsB im) (seenIx im.syms) k i hi)
            obtain ⟨c, hc⟩ : ∃ c, im.buckets[homeL s.name im.buckets.length]? = some c := ⟨_, List.getElem?_eq_getElem hhome⟩
            obtain rfl := Hbat.out.addr (by omega)
            obtain ⟨cv, gc', hclb⟩ := (Hbat.out.below B3.out).ints1 _ c hc
            have gc := (Hbi.out.cell (World.block_lt_of_cell? _ _ gc')).trans gc'
            have HL := Lib.hid (fun (w' : World) (h : Below w3.heap.size w3 w') => jlacks_any w' (.slice wa im.words.length wc) im.words im.shift (hashB s.name).toNat ((Hw.out.below (B3.out.trans (h.mono (by omega)))).mono (by have := h.size; omega)) Hr.out (by omega) Hsv.out)
            have HS := Lib.hid (fun (w' : World) (h : Below w3.heap.size w3 w') => jstandsn_any w' cv c (i : Int) ((hclb.mono (by omega : w.heap.size ≤ w3.heap.size)).below h |>.mono h.size))
            have HH := Lib.hid (fun w' => jhome_any w' s.name im.buckets.length hnl p2 p3)
            have HA := Lib.hid (fun w' => jhash_any w' s.name hnl)
            rw [Int.toNat_of_nonneg hrange.1] at HL
            obtain ⟨ca, cc, rfl⟩ := hclb.form
            have Hgd : Hid (im.buckets.getD (homeL s.name im.buckets.length) [] = c) := Lib.hid (by rw [List.getD_eq_getElem?_getD, hc]; rfl)
            rw [Hgd.out] at Hst
            have hblt := World.block_lt_of_cell? _ _ gc
            have holt := World.block_lt_of_cell? _ _ go1
            clear hi hkN hkl go' hx hsn g0' hok hc gc' hclb Hgd
            generalize hashB s.name = hh at *
            generalize homeL s.name im.buckets.length = hm at *
            generalize hcn : c.count (i : Int) = cn at *
            have l0 := fun x : Later wr => x.cell c0
            have l1 := fun x : Later wr => x.cell c1
            have l2 := fun x : Later wr => x.cell c2
            have l3 := fun x : Later wr => x.cell go1
            have l4 := fun x : Later wr => x.cell gc
            clear Hr Hs
            by_cases h1 : cn = 1
            · have hd1 : ((cn : Int) != 1) = false := by rw [bne_eq_false_iff_eq]; omega
              go_wp2_with fail
              refine wp_region_later (by kernel_rfl) (by kernel_rfl) ?_
              repeat (go_big_quiet_step (first | (go_at_call 77; exact Later.call_same _ (HH.out _)) | (go_at_call 76; refine Later.call_same _ (HS.out _ ?_); exact Hbi.out.trans ((Later.h _).mono (by omega))) | (go_at_call 79; exact Later.call_same _ (HA.out _)) | (go_at_call 78; refine Later.call _ (HL.out _ ?_); exact Hbi.out.trans ((Later.h _).mono (by omega)))))
              refine wpQuiet_nil ?_
              rintro _ ⟨⟨wq, hq⟩, rfl⟩
              try simp only at hq
              have Hq := Lib.hid (Hbi.out.trans (hq.mono (by omega)))
              clear hq l0 l1 l2 l3 l4 HL HS HH HA
              cases hlk : lacksB im.words im.shift hh with
              | true =>
                have Hn := Lib.hid (Hbad.out (by rw [Hst.out, hlk]; simp))
                clear hlk
                go_wp2
                go_ret
                exact ⟨by rw [Hn.out]; rfl, B3.out.trans (Hq.out.mono (by omega))⟩
              | false =>
                have Hy : Hid (standsB im i = true) := Lib.hid (by rw [Hst.out, hlk, h1]; rfl)
                clear hlk
                go_wp2
                go_roundw
                case rel => exact ⟨k + 1, by go_num, by omega, by rw [Hsn.out, Hall.out, Hy.out]; rfl, Hq.out⟩
                case measure => simp [intOf]; omega
            · have hd1 : ((cn : Int) != 1) = true := by rw [bne_iff_ne]; omega
              have Hn := Lib.hid (Hbad.out (by rw [Hst.out, decide_eq_false (p := cn = 1) h1]; rfl))
              go_wp2_with fail
              refine wp_region_later (by kernel_rfl) (by kernel_rfl) ?_
              repeat (go_big_quiet_step (first | (go_at_call 77; exact Later.call_same _ (HH.out _)) | (go_at_call 76; refine Later.call_same _ (HS.out _ ?_); exact Hbi.out.trans ((Later.h _).mono (by omega)))))
              refine wpQuiet_nil ?_
              rintro _ ⟨⟨wq, hq⟩, rfl⟩
              try simp only at hq
              have Hq := Lib.hid (Hbi.out.trans (hq.mono (by omega)))
              clear hq l0 l1 l2 l3 l4 HL HS HH HA
              go_wp2
              go_ret
              exact ⟨by rw [Hn.out]; rfl, B3.out.trans (Hq.out.mono (by omega))⟩
          · have Hr2 : Hid (tableJ im = decide (M = N)) := Lib.hid (by
              have h := Hall.out
              rw [List.take_of_length_le (by rw [HN.out]; omega)] at h
              rw [HT.out, Hsv.out, Hris.out, h, decide_eq_true (p := im.syms.length ≤ 512) p1, decide_eq_true (p := 1 ≤ im.buckets.length) p2, decide_eq_true (p := im.buckets.length ≤ 512) p3]
              simp)
            go_wp2
            go_ret
            exact ⟨ret_bool' (by rw [Hr2.out, Bool.eq_iff_iff]; simp; omega), B3.out.trans (Hbi.out.mono (by omega))⟩

end Go.Proofs.Ytbliedldlimpgaa

namespace Go.Proofs.Ytbliedldlimpgaa
set_option linter.unusedVariables false
set_option linter.unusedSimpArgs false
open Go.RowKit

/-- what table.Right answers -/
def tableErr (im : ImgL) : Int := if tableB im = true then 0 else 80
theorem tableErr_bad {im : ImgL} (h : tableB im = false) : tableErr im = 80 := by rw [tableErr, h]; rfl
theorem tableErr_ok {im : ImgL} (h : tableB im = true) : tableErr im = 0 := by rw [tableErr, h]; rfl
abbrev chB (im : ImgL) (b : Nat) (last : Int) (l : List Int) : Bool := chainB im.syms im.words im.shift im.buckets.length b last l
abbrev chsB (im : ImgL) (b : Nat) (l : List (List Int)) : Bool := chainsB im.syms im.words im.shift im.buckets.length b l
theorem tableB_parts (im : ImgL) : tableB im = (decide (im.syms.length ≤ 512) && decide (1 ≤ im.buckets.length) && decide (im.buckets.length ≤ 512) && sieveB im.words im.shift && chsB im 0 im.buckets &&
  decide ((lensB im).sum = (seenIx im.syms).length)) := by rw [seenIx_length]; rfl
theorem chB_cons (im : ImgL) (b : Nat) (last i : Int) (l : List Int) : chB im b last (i :: l) = (decide (last < i) && entryB im b i && chB im b i l) := by unfold chB; rw [chainB]; rfl
theorem chB_low {im : ImgL} {b : Nat} {last i : Int} {l : List Int} (h : ¬ last < i) : chB im b last (i :: l) = false := by rw [chB_cons, decide_eq_false (p := last < i) h]; rfl
theorem chB_bad {im : ImgL} {b : Nat} {last i : Int} {l : List Int} (h : entryB im b i = false) : chB im b last (i :: l) = false := by rw [chB_cons, h]; simp
theorem chB_ok {im : ImgL} {b : Nat} {last i : Int} {l : List Int} (h : last < i) (h2 : entryB im b i = true) : chB im b last (i :: l) = chB im b i l := by rw [chB_cons, h2, decide_eq_true (p := last < i) h]; rfl
theorem chsB_bad {im : ImgL} {b : Nat} {c : List Int} {l : List (List Int)} (h : chB im b (-1) c = false) : chsB im b (c :: l) = false := by unfold chsB; rw [chainsB]; unfold chB at h; rw [h]; rfl
theorem chsB_ok {im : ImgL} {b : Nat} {c : List Int} {l : List (List Int)} (h : chB im b (-1) c = true) : chsB im b (c :: l) = chsB im (b + 1) l := by unfold chsB; rw [chainsB]; unfold chB at h; rw [h]; rfl
theorem entryB_far {im : ImgL} {b : Nat} {i : Int} (h : (im.syms.length : Int) ≤ i) : entryB im b i = false := by
  unfold entryB
  rw [if_neg (by omega), List.getElem?_eq_none (by omega)]
theorem entryB_at {im : ImgL} {b k : Nat} {s : SymL} (h : im.syms[k]? = some s) : entryB im b (k : Int) = (seenB s && decide (homeL s.name im.buckets.length = b) && !lacksB im.words im.shift (hashB s.name)) := by
  unfold entryB
  rw [if_neg (by omega), Int.toNat_natCast, h]

set_option maxHeartbeats 32000000 in
set_option maxRecDepth 100000 in
theorem tright_any (w : World) (im : ImgL) (vb vw vs : Value) (hb : LB kInts (· < w.heap.size) w vb im.buckets) (hw : LB kWord (· < w.heap.size) w vw im.words) (hs : LB kSym (· < w.heap.size) w vs im.syms)
    (hr : ∀ x ∈ im.words, 0 ≤ x ∧ x < 18446744073709551616) (hbl : ∀ c ∈ im.buckets, c.length ≤ 140737488355328) :
    Calls Try.prog 23 #[.agg #[vb, vw, .int .i64 im.shift], vs] w fun e w' => e = .returned (.int .i64 (tableErr im)) ∧ Below w.heap.size w w' := by
  obtain ⟨ba, bb, boff, bcap, rfl, hbm, hbc, hbat⟩ := hb.at
  obtain ⟨sa, sb, soff, scap, rfl, hsm, hsc, hsat⟩ := hs.at
  obtain ⟨wa, wc, hwv⟩ := hw.form
  subst hwv
  have Hw := Lib.hid hw
  have HT := Lib.hid (tableB_parts im)
  have Hbat := Lib.hid hbat
  have Hsat := Lib.hid hsat
  have Hr := Lib.hid hr
  have Hbl := Lib.hid hbl
  have Hs := Lib.hid hs
  have hwm := hw.max
  have Hbad := Lib.hid (fun h => tableErr_bad (im := im) h)
  clear hb hs hw hbat hsat hr hbl
  have B1 := Lib.hid ((Below.refl w.heap.size w).alloc (Nat.le_refl _) (.cells #[.slice ba im.buckets.length bcap, .slice wa im.words.length wc, .int .i64 im.shift] 32 (0, 0)))
  have F1 := Lib.hid (heap_alloc_new w (.cells #[.slice ba im.buckets.length bcap, .slice wa im.words.length wc, .int .i64 im.shift] 32 (0, 0)))
  by_cases p1 : im.syms.length ≤ 512
  case neg =>
    have Hn := Lib.hid (Hbad.out (by rw [HT.out, decide_eq_false (p := im.syms.length ≤ 512) p1]; simp))
    have q1 : 512 < im.syms.length := by omega
    go_enter Try.func23, Try.ntmps23
    go_wp2
    go_ret
    exact ⟨by rw [Hn.out]; rfl, B1.out⟩
  have q1 : ¬ 512 < im.syms.length := by omega
  by_cases p2 : 1 ≤ im.buckets.length
  case neg =>
    have Hn := Lib.hid (Hbad.out (by rw [HT.out, decide_eq_false (p := 1 ≤ im.buckets.length) p2]; simp))
    have q2 : im.buckets.length < 1 := by omega
    go_enter Try.func23, Try.ntmps23
    go_wp2
    go_ret
    exact ⟨by rw [Hn.out]; rfl, B1.out⟩
  have q2 : ¬ im.buckets.length < 1 := by omega
  by_cases p3 : im.buckets.length ≤ 512
  case neg =>
    have Hn := Lib.hid (Hbad.out (by rw [HT.out, decide_eq_false (p := im.buckets.length ≤ 512) p3]; simp))
    have q3 : 512 < im.buckets.length := by omega
    go_enter Try.func23, Try.ntmps23
    go_wp2
    go_ret
    exact ⟨by rw [Hn.out]; rfl, B1.out⟩
  have q3 : ¬ 512 < im.buckets.length := by omega
  have Hf := Lib.hid (fun w => sright_any w im.words wa wc im.shift (by omega))
  go_enter Try.func23, Try.ntmps23
  go_wp2_with fail
  have hz1 : w.heap.size < (w.alloc (.cells #[.slice ba im.buckets.length bcap, .slice wa im.words.length wc, .int .i64 im.shift] 32 (0, 0))).heap.size := by simp
  generalize w.alloc (.cells #[.slice ba im.buckets.length bcap, .slice wa im.words.length wc, .int .i64 im.shift] 32 (0, 0)) = w1 at *
  refine (Hf.out w1).mono ?_
  rintro e w2 ⟨rfl, hb2⟩
  have B2 := Lib.hid (B1.out.trans (hb2.mono (by omega)))
  have F2 := Lib.hid ((hb2.block _ hz1).trans F1.out)
  have hz2 := hb2.size
  clear hb2 B1 F1 Hf
  cases hsv : sieveB im.words im.shift with
  | false =>
    have Hn := Lib.hid (Hbad.out (by rw [HT.out, hsv]; simp))
    have he : sieveErr im.words im.shift = 20 := by rw [sieveErr, hsv]; rfl
    rw [he]
    clear hsv he
    go_wp2
    go_ret
    exact ⟨by rw [Hn.out]; rfl, B2.out⟩
  | true =>
    have Hsv := Lib.hid hsv
    have he : sieveErr im.words im.shift = 0 := by rw [sieveErr, hsv]; rfl
    rw [he]
    have c0 : w2.cell? ⟨w.heap.size, 0, none⟩ = some (.slice ba im.buckets.length bcap) := by rw [Lib.cell_of_heap F2.out]; rfl
    clear hsv he
    go_wp2_with fail
    go_loopw [5, 37] (fun n i wr => ∃ (b M : Nat), i = .int .i64 b ∧ b ≤ im.buckets.length ∧ n = .int .i64 (M : Int) ∧ M = ((lensB im).take b).sum ∧ M ≤ 140737488355328 * b ∧ chsB im 0 im.buckets = chsB im b (im.buckets.drop b) ∧ Below w2.heap.size w2 wr) (fun _ i _ => im.buckets.length - (intOf i).toNat)
    case atStart => exact ⟨0, 0, rfl, Nat.zero_le _, rfl, by simp, by simp, by simp, Below.refl _ _⟩
    case round =>
      obtain ⟨b, M, rfl, hbk, rfl, hM, hMb, hch, hbel⟩ := hrel
      have HM := Lib.hid hM
      have Hch := Lib.hid hch
      have Hbel := Lib.hid hbel
      have hzr := hbel.size
      have F4 := (hbel.block w.heap.size (by omega)).trans F2.out
      clear hM hch hbel c0
      by_cases hlt : b < im.buckets.length
      · obtain rfl := Hbat.out.addr (by omega)
        obtain ⟨c, hc⟩ : ∃ c, im.buckets[b]? = some c := ⟨_, List.getElem?_eq_getElem hlt⟩
        have hcl := Hbl.out c (List.mem_of_getElem? hc)
        obtain ⟨cv, gc, hclb⟩ := (Hbat.out.below B2.out).ints1 b c hc
        have gc2 : wr.cell? ⟨bb, boff + b, none⟩ = some cv := (Hbel.out.cell (p := ⟨bb, boff + b, none⟩) (World.block_lt_of_cell? _ _ gc)).trans gc
        obtain ⟨ca, cb, coff, ccap, rfl, hcm, hcc, hcat⟩ := hclb.at
        have Hcat := Lib.hid hcat
        have Hsum := Lib.hid (sum_take_succ (lensB im) b c.length (by simp [lensB, hc]))
        have Hdc := Lib.hid (drop_cons im.buckets b c hc)
        have hMx : M ≤ 140737488355328 * 512 := Nat.le_trans hMb (Nat.mul_le_mul_left _ (by omega))
        clear hc gc hclb hcat F4
        go_wp2_with fail
        go_loopw [5, 8, 44] (fun n la i wi => ∃ (k : Nat) (x : Int), i = .int .i64 k ∧ k ≤ c.length ∧ n = .int .i64 ((M + k : Nat) : Int) ∧ la = .int .i64 x ∧ -1 ≤ x ∧ x ≤ 512 ∧ chB im b (-1) c = chB im b x (c.drop k) ∧ Below w2.heap.size w2 wi) (fun _ _ i _ => c.length - (intOf i).toNat)
        case atStart => exact ⟨0, -1, rfl, Nat.zero_le _, rfl, rfl, by decide, by decide, by simp, Hbel.out⟩
        case round =>
          obtain ⟨k, x, rfl, hk, rfl, rfl, hx0, hx1, hcx, hbi⟩ := hrel
          have Hcx := Lib.hid hcx
          have Hbi := Lib.hid hbi
          have hzi := hbi.size
          have F5 := (hbi.block w.heap.size (by omega)).trans F2.out
          have c0 : wr.cell? ⟨w.heap.size, 0, none⟩ = some (.slice (some ⟨bb, boff, none⟩) im.buckets.length bcap) := by rw [Lib.cell_of_heap F5]; rfl
          have c1 : wr.cell? ⟨w.heap.size, 1, none⟩ = some (.slice wa im.words.length wc) := by rw [Lib.cell_of_heap F5]; rfl
          have c2 : wr.cell? ⟨w.heap.size, 2, none⟩ = some (.int .i64 im.shift) := by rw [Lib.cell_of_heap F5]; rfl
          clear hcx hbi F5
          by_cases hlt2 : k < c.length
          · obtain rfl := Hcat.out.addr (by omega)
            obtain ⟨i, hi⟩ : ∃ i, c[k]? = some i := ⟨_, List.getElem?_eq_getElem hlt2⟩
            have gi := (Hbi.out.cell (World.block_lt_of_cell? _ _ (Hcat.out.int1 k i hi))).trans (Hcat.out.int1 k i hi)
            have Hdi := Lib.hid (drop_cons c k i hi)
            have HnoC : Hid (chB im b x (i :: c.drop (k + 1)) = false → tableErr im = 80) := Lib.hid (fun h => Hbad.out (by rw [HT.out, Hch.out, Hdc.out, chsB_bad (by rw [Hcx.out, Hdi.out, h])]; simp))
            have l0 := fun y : Later wr => y.cell c0
            have l1 := fun y : Later wr => y.cell c1
            have l2 := fun y : Later wr => y.cell c2
            clear hi c0 c1 c2
            by_cases h1 : x < i
            case neg =>
              have Hn := Lib.hid (HnoC.out (chB_low h1))
              have hd1 : decide (i ≤ x) = true := by rw [decide_eq_true_eq]; omega
              go_wp2_with fail
              refine wp_region_later (by kernel_rfl) (by kernel_rfl) ?_
              repeat (go_big_quiet_step (fail))
              refine wpQuiet_nil ?_
              rintro _ ⟨⟨wq, hq⟩, rfl⟩
              try simp only at hq
              have Hq := Lib.hid hq
              clear hq
              go_wp2
              go_ret
              exact ⟨by rw [Hn.out]; rfl, B2.out.trans ((Hbi.out.trans (Hq.out.mono (by omega))).mono (by omega))⟩
            have hd1 : decide (i ≤ x) = false := by rw [decide_eq_false_iff_not]; omega
            by_cases h2 : (im.syms.length : Int) ≤ i
            case pos =>
              have Hn := Lib.hid (HnoC.out (chB_bad (entryB_far h2)))
              have hd2 : decide ((im.syms.length : Int) ≤ i) = true := by rw [decide_eq_true_eq]; exact h2
              go_wp2_with fail
              refine wp_region_later (by kernel_rfl) (by kernel_rfl) ?_
              repeat (go_big_quiet_step (fail))
              refine wpQuiet_nil ?_
              rintro _ ⟨⟨wq, hq⟩, rfl⟩
              try simp only at hq
              have Hq := Lib.hid hq
              clear hq
              go_wp2
              go_ret
              exact ⟨by rw [Hn.out]; rfl, B2.out.trans ((Hbi.out.trans (Hq.out.mono (by omega))).mono (by omega))⟩
            have hd2 : decide ((im.syms.length : Int) ≤ i) = false := by rw [decide_eq_false_iff_not]; exact h2
            obtain ⟨j, rfl⟩ : ∃ j : Nat, i = j := ⟨i.toNat, by omega⟩
            have hj : j < im.syms.length := by omega
            have hd2' : decide (im.syms.length ≤ j) = false := by rw [decide_eq_false_iff_not]; omega
            obtain rfl := Hsat.out.addr (by omega)
            obtain ⟨s, hx⟩ : ∃ s, im.syms[j]? = some s := ⟨_, List.getElem?_eq_getElem hj⟩
            have He := Lib.hid (entryB_at (b := b) hx)
            obtain ⟨hok, g0', g1', g2', g3', g4', g5', g6', g7', g8'⟩ := (Hsat.out.below B2.out).sym9 j s hx
            have hnl := hok.name
            have hrange := hashB_range s.name
            have Hlt : ∀ {p : Addr} {v : Value}, w2.cell? p = some v → wr.cell? p = some v := fun {p v} h => (Hbi.out.cell (World.block_lt_of_cell? _ _ h)).trans h
            have m0 := fun y : Later wr => y.cell (Hlt g0')
            have m1 := fun y : Later wr => y.cell (Hlt g1')
            have m2 := fun y : Later wr => y.cell (Hlt g2')
            have m3 := fun y : Later wr => y.cell (Hlt g3')
            have m4 := fun y : Later wr => y.cell (Hlt g4')
            have m5 := fun y : Later wr => y.cell (Hlt g5')
            have m6 := fun y : Later wr => y.cell (Hlt g6')
            have m7 := fun y : Later wr => y.cell (Hlt g7')
            have m8 := fun y : Later wr => y.cell (Hlt g8')
            have HS := Lib.hid (fun w' => vseen_any w' s)
            have HH := Lib.hid (fun w' => tbucket_any w' (some ⟨bb, boff, none⟩) im.buckets.length bcap (.slice wa im.words.length wc) im.shift s.name hnl p2 p3)
            have HA := Lib.hid (fun w' => shash_any w' s.name hnl)
            have HL := Lib.hid (fun (w' : World) (h : Below w2.heap.size w2 w') => slacks_any w' (.slice wa im.words.length wc) im.words im.shift (hashB s.name).toNat ((Hw.out.below (B2.out.trans (h.mono (by omega)))).mono (by have := h.size; omega)) Hr.out (by omega) Hsv.out)
            rw [Int.toNat_of_nonneg hrange.1] at HL
            clear g0' g1' g2' g3' g4' g5' g6' g7' g8' Hlt hx hok
            generalize hashB s.name = hh at *
            generalize homeL s.name im.buckets.length = hm at *
            cases hsn : seenB s with
            | false =>
              have Hn := Lib.hid (HnoC.out (chB_bad (by rw [He.out, hsn]; rfl)))
              rw [hsn] at HS
              clear hsn
              go_wp2_with fail
              refine wp_region_later (by kernel_rfl) (by kernel_rfl) ?_
              repeat (go_big_quiet_step (first | (go_at_call 61; exact Later.call _ (HS.out _))))
              refine wpQuiet_nil ?_
              rintro _ ⟨⟨wq, hq⟩, rfl⟩
              try simp only at hq
              have Hq := Lib.hid hq
              clear hq
              go_wp2
              go_ret
              exact ⟨by rw [Hn.out]; rfl, B2.out.trans ((Hbi.out.trans (Hq.out.mono (by omega))).mono (by omega))⟩
            | true =>
              rw [hsn] at HS He
              clear hsn
              by_cases h4 : hm = b
              case neg =>
                have Hn := Lib.hid (HnoC.out (chB_bad (by rw [He.out, decide_eq_false (p := hm = b) h4]; rfl)))
                have hd4 : ((hm : Int) != (b : Int)) = true := by rw [bne_iff_ne]; omega
                go_wp2_with fail
                refine wp_region_later (by kernel_rfl) (by kernel_rfl) ?_
                repeat (go_big_quiet_step (first | (go_at_call 61; exact Later.call _ (HS.out _)) | (go_at_call 62; exact Later.call _ (HH.out _))))
                refine wpQuiet_nil ?_
                rintro _ ⟨⟨wq, hq⟩, rfl⟩
                try simp only at hq
                have Hq := Lib.hid hq
                clear hq
                go_wp2
                go_ret
                exact ⟨by rw [Hn.out]; rfl, B2.out.trans ((Hbi.out.trans (Hq.out.mono (by omega))).mono (by omega))⟩
              have hd4 : ((hm : Int) != (b : Int)) = false := by rw [bne_eq_false_iff_eq]; omega
              go_wp2_with fail
              refine wp_region_later (by kernel_rfl) (by kernel_rfl) ?_
              repeat (go_big_quiet_step (first | (go_at_call 61; exact Later.call _ (HS.out _)) | (go_at_call 62; exact Later.call _ (HH.out _)) | (go_at_call 64; exact Later.call_same _ (HA.out _)) | (go_at_call 63; refine Later.call _ (HL.out _ ?_); exact Hbi.out.trans ((Later.h _).mono (by omega)))))
              refine wpQuiet_nil ?_
              rintro _ ⟨⟨wq, hq⟩, rfl⟩
              try simp only at hq
              have Hq := Lib.hid hq
              clear hq l0 l1 l2 m0 m1 m2 m3 m4 m5 m6 m7 m8 HS HH HA HL
              cases hlk : lacksB im.words im.shift hh with
              | true =>
                have Hn := Lib.hid (HnoC.out (chB_bad (by rw [He.out, hlk]; simp)))
                clear hlk
                go_wp2
                go_ret
                exact ⟨by rw [Hn.out]; rfl, B2.out.trans ((Hbi.out.trans (Hq.out.mono (by omega))).mono (by omega))⟩
              | false =>
                have Hy : Hid (chB im b (-1) c = chB im b (j : Int) (c.drop (k + 1))) := Lib.hid (by rw [Hcx.out, Hdi.out, chB_ok h1 (by rw [He.out, hlk, decide_eq_true (p := hm = b) h4]; rfl)])
                clear hlk
                go_wp2
                go_roundw
                case rel => exact ⟨k + 1, (j : Int), by go_num, by omega, by go_num, rfl, by omega, by omega, Hy.out, Hbi.out.trans (Hq.out.mono (by omega))⟩
                case measure => simp [intOf]; omega
          · have Hcc : Hid (chB im b (-1) c = true) := Lib.hid (by rw [Hcx.out, List.drop_eq_nil_of_le (by omega)]; rfl)
            have hkl : k = c.length := by omega
            have Hck : Hid (k = c.length) := Lib.hid hkl
            clear hkl c0 c1 c2
            go_wp2
            go_roundw
            case rel => exact ⟨b + 1, M + k, by go_num, by omega, by first | rfl | go_num, by rw [Hsum.out, ← HM.out, Hck.out], by omega, by rw [Hch.out, Hdc.out, chsB_ok Hcc.out], Hbi.out⟩
            case measure => simp [intOf]; omega
      · have Hcs : Hid (chsB im 0 im.buckets = true) := Lib.hid (by rw [Hch.out, List.drop_eq_nil_of_le (by omega)]; rfl)
        have Hsu : Hid (M = (lensB im).sum) := Lib.hid (by rw [HM.out, List.take_of_length_le (by simp [lensB]; omega)])
        have HR : Hid (tableB im = decide (M = (seenIx im.syms).length)) := Lib.hid (by rw [HT.out, Hcs.out, Hsv.out, Hsu.out, decide_eq_true (p := im.syms.length ≤ 512) p1, decide_eq_true (p := 1 ≤ im.buckets.length) p2, decide_eq_true (p := im.buckets.length ≤ 512) p3]; simp)
        have HO := Lib.hid (fun h => tableErr_ok (im := im) h)
        have hsl : (seenIx im.syms).length ≤ 512 := by have := seenK_le im.syms im.syms.length; rw [seenIx]; omega
        clear F4
        go_wp2_with fail
        refine (thashes_any wr _ im.syms ((Hs.out.below (B2.out.trans (Hbel.out.mono (by omega)))).mono (by omega)) p1).mono ?_
        rintro e w3 ⟨r, l, rfl, hown, hown2, hb3⟩
        have B3 := Lib.hid ((B2.out.trans (Hbel.out.mono (by omega))).trans (hb3.mono (by omega)))
        obtain ⟨oa, oc, rfl⟩ := hown.form
        obtain ⟨pa, pc, rfl⟩ := hown2.form
        rw [toInts_len]
        clear hown hown2 hb3
        generalize (seenIx im.syms).length = N at *
        by_cases hMN : M = N
        · have Hn := Lib.hid (HO.out (by rw [HR.out]; simp [hMN]))
          have hd : ((M : Int) != (N : Int)) = false := by rw [bne_eq_false_iff_eq]; omega
          go_wp2
          go_ret
          exact ⟨by rw [Hn.out]; rfl, B3.out⟩
        · have Hn := Lib.hid (Hbad.out (by rw [HR.out]; simp [hMN]))
          have hd : ((M : Int) != (N : Int)) = true := by rw [bne_iff_ne]; omega
          go_wp2
          go_ret
          exact ⟨by rw [Hn.out]; rfl, B3.out⟩

end Go.Proofs.Ytbliedldlimpgaa

namespace Go.Proofs.Ytbliedldlimpgaa
set_option linter.unusedVariables false
set_option linter.unusedSimpArgs false
open Go.RowKit

abbrev I64 (x : Int) : Prop := -9223372036854775808 ≤ x ∧ x ≤ 9223372036854775807
/-- an image's value in memory, and what it reads as: its lists lie in blocks for which S holds, its numbers are Go's -/
structure ImgM (S : Nat → Prop) (w : World) (v : ImgV) (im : ImgL) : Prop where
  name : im.name.length ≤ 9223372036854775807
  flags : I64 im.flags
  segs : LB kSeg S w v.segs im.segs
  segsR : ∀ s ∈ im.segs, I64 s.at_ ∧ I64 s.size ∧ I64 s.perm
  needed : LB kNeed S w v.needed im.needed
  runPath : LB kStr S w v.runPath im.runPath
  syms : LB kSym S w v.syms im.syms
  buckets : LB kInts S w v.buckets im.buckets
  bucketsL : ∀ c ∈ im.buckets, c.length ≤ 140737488355328
  words : LB kWord S w v.words im.words
  wordsR : ∀ x ∈ im.words, 0 ≤ x ∧ x < 18446744073709551616
  shift : I64 im.shift
  relocs : LB kRel S w v.relocs im.relocs
  relocsR : ∀ r ∈ im.relocs, RelOk r
  slots : LB kSlot S w v.slots im.slots
  slotsR : ∀ s ∈ im.slots, SlotOk s
  init : LB kInt S w v.init im.init
  initR : ∀ x ∈ im.init, I64 x
  fini : LB kInt S w v.fini im.fini
  finiR : ∀ x ∈ im.fini, I64 x
  tls : LB kByte S w v.tls im.tls
  tlsSize : I64 im.tlsSize
theorem ImgM.keeps {S : Nat → Prop} {w w' : World} {v : ImgV} {im : ImgL} (h : ImgM S w v im) (hk : Keeps S w w') : ImgM S w' v im :=
  ⟨h.name, h.flags, h.segs.keeps hk, h.segsR, h.needed.keeps hk, h.runPath.keeps hk, h.syms.keeps hk, h.buckets.keeps hk, h.bucketsL, h.words.keeps hk, h.wordsR, h.shift, h.relocs.keeps hk, h.relocsR, h.slots.keeps hk, h.slotsR, h.init.keeps hk, h.initR, h.fini.keeps hk, h.finiR, h.tls.keeps hk, h.tlsSize⟩
theorem ImgM.imp {S S' : Nat → Prop} {w : World} {v : ImgV} {im : ImgL} (h : ImgM S w v im) (hk : ∀ b, S b → S' b) : ImgM S' w v im :=
  ⟨h.name, h.flags, h.segs.imp hk, h.segsR, h.needed.imp hk, h.runPath.imp hk, h.syms.imp hk, h.buckets.imp hk, h.bucketsL, h.words.imp hk, h.wordsR, h.shift, h.relocs.imp hk, h.relocsR, h.slots.imp hk, h.slotsR, h.init.imp hk, h.initR, h.fini.imp hk, h.finiR, h.tls.imp hk, h.tlsSize⟩
theorem ImgM.later {w w' : World} {v : ImgV} {im : ImgL} (h : ImgM (· < w.heap.size) w v im) (hb : Below w.heap.size w w') : ImgM (· < w'.heap.size) w' v im :=
  (h.keeps (.of_below hb)).imp fun _ hb' => Nat.lt_of_lt_of_le hb' hb.size
theorem head_flags {im : ImgL} (h : headB im = true) : 0 ≤ im.flags ∧ im.flags < 16 := by
  simp only [headB, Bool.and_eq_true, decide_eq_true_eq] at h; omega
theorem syms_sizes {im : ImgL} (hg : segsB im.segs = true) (ht : tlsB im = true) (h : symsB im = true) : (∀ s ∈ im.syms, 0 ≤ s.size ∧ s.size ≤ 9223372036854775807) ∧ im.syms.length ≤ 512 := by
  have h' := h
  simp only [symsB, Bool.and_eq_true, decide_eq_true_eq] at h'
  refine ⟨fun s hs => ?_, h'.1⟩
  have := sym_good hg ht (symsFrom_each _ _ _ _ h'.2 s hs)
  omega
theorem may_head {im : ImgL} (h : headB im = false) : mayL im = 90 := by rw [mayL, if_pos h]
theorem may_segs {im : ImgL} (h1 : headB im = true) (h : segsB im.segs = false) : mayL im = 91 := by rw [mayL, h1, if_neg (by simp), if_pos h]
theorem may_tls {im : ImgL} (h1 : headB im = true) (h2 : segsB im.segs = true) (h : tlsB im = false) : mayL im = 96 := by rw [mayL, h1, if_neg (by simp), h2, if_neg (by simp), if_pos h]
theorem may_syms {im : ImgL} (h1 : headB im = true) (h2 : segsB im.segs = true) (h3 : tlsB im = true) (h : symsB im = false) : mayL im = 92 := by rw [mayL, h1, if_neg (by simp), h2, if_neg (by simp), h3, if_neg (by simp), if_pos h]
theorem may_table {im : ImgL} (h1 : headB im = true) (h2 : segsB im.segs = true) (h3 : tlsB im = true) (h4 : symsB im = true) (h : tableB im = false) : mayL im = 93 := by rw [mayL, h1, if_neg (by simp), h2, if_neg (by simp), h3, if_neg (by simp), h4, if_neg (by simp), if_pos h]
theorem may_relocs {im : ImgL} (h1 : headB im = true) (h2 : segsB im.segs = true) (h3 : tlsB im = true) (h4 : symsB im = true) (h5 : tableB im = true) (h : relocsB im = false) : mayL im = 94 := by rw [mayL, h1, if_neg (by simp), h2, if_neg (by simp), h3, if_neg (by simp), h4, if_neg (by simp), h5, if_neg (by simp), if_pos h]
theorem may_slots {im : ImgL} (h1 : headB im = true) (h2 : segsB im.segs = true) (h3 : tlsB im = true) (h4 : symsB im = true) (h5 : tableB im = true) (h6 : relocsB im = true) (h : slotsB im = false) : mayL im = 95 := by rw [mayL, h1, if_neg (by simp), h2, if_neg (by simp), h3, if_neg (by simp), h4, if_neg (by simp), h5, if_neg (by simp), h6, if_neg (by simp), if_pos h]
theorem may_runs {im : ImgL} (h1 : headB im = true) (h2 : segsB im.segs = true) (h3 : tlsB im = true) (h4 : symsB im = true) (h5 : tableB im = true) (h6 : relocsB im = true) (h7 : slotsB im = true) (h : (runB im im.init && runB im im.fini) = false) : mayL im = 97 := by rw [mayL, h1, if_neg (by simp), h2, if_neg (by simp), h3, if_neg (by simp), h4, if_neg (by simp), h5, if_neg (by simp), h6, if_neg (by simp), h7, if_neg (by simp), if_pos h]
theorem may_good {im : ImgL} (h1 : headB im = true) (h2 : segsB im.segs = true) (h3 : tlsB im = true) (h4 : symsB im = true) (h5 : tableB im = true) (h6 : relocsB im = true) (h7 : slotsB im = true) (h : (runB im im.init && runB im im.fini) = true) : mayL im = 0 := by rw [mayL, h1, if_neg (by simp), h2, if_neg (by simp), h3, if_neg (by simp), h4, if_neg (by simp), h5, if_neg (by simp), h6, if_neg (by simp), h7, if_neg (by simp), h, if_neg (by simp)]

set_option maxHeartbeats 16000000 in
set_option maxRecDepth 100000 in
theorem imay_any (w : World) (v : ImgV) (im : ImgL) (hm : ImgM (· < w.heap.size) w v im) :
    Calls Try.prog 10 #[.agg (imgCells v im)] w fun e w' => e = .returned (.int .i64 (mayL im)) ∧ Below w.heap.size w w' := by
  obtain ⟨la, lcap, hlv⟩ := hm.tls.form
  have hlm := hm.tls.max
  obtain ⟨vsegs, vneeded, vrunPath, vsyms, vbuckets, vwords, vrelocs, vslots, vinit, vfini, vtls⟩ := v
  simp only at hlv
  subst hlv
  have HM : Hid (∀ w', Below w.heap.size w w' → ImgM (· < w'.heap.size) w' ⟨vsegs, vneeded, vrunPath, vsyms, vbuckets, vwords, vrelocs, vslots, vinit, vfini, .slice la im.tls.length lcap⟩ im) := Lib.hid (fun w' hb => hm.later hb)
  clear hm
  generalize hI : (Array.mk [.string ⟨im.name.toArray⟩, .int .i64 im.flags, vsegs, vneeded, vrunPath, vsyms, vbuckets, vwords, .int .i64 im.shift, vrelocs, vslots, vinit, vfini, .slice la im.tls.length lcap, .int .i64 im.tlsSize] : Array Value) = I
  have F0 := Lib.hid (heap_alloc_new w (.cells I 38 (0, 0)))
  have B0 := Lib.hid ((Below.refl w.heap.size w).alloc (Nat.le_refl _) (.cells I 38 (0, 0)))
  have hz0 : (w.alloc (.cells I 38 (0, 0))).heap.size = w.heap.size + 1 := by simp
  subst hI
  have hcells : imgCells ⟨vsegs, vneeded, vrunPath, vsyms, vbuckets, vwords, vrelocs, vslots, vinit, vfini, .slice la im.tls.length lcap⟩ im = #[.string ⟨im.name.toArray⟩, .int .i64 im.flags, vsegs, vneeded, vrunPath, vsyms, vbuckets, vwords, .int .i64 im.shift, vrelocs, vslots, vinit, vfini, .slice la im.tls.length lcap, .int .i64 im.tlsSize] := rfl
  rw [hcells]
  clear hcells
  go_enter Try.func10, Try.ntmps10
  go_wp2_with fail
  generalize w.alloc (.cells #[.string ⟨im.name.toArray⟩, .int .i64 im.flags, vsegs, vneeded, vrunPath, vsyms, vbuckets, vwords, .int .i64 im.shift, vrelocs, vslots, vinit, vfini, .slice la im.tls.length lcap, .int .i64 im.tlsSize] 38 (0, 0)) = w0 at *
  have C1 := Lib.hid (ihead_any w0 _ im (HM.out w0 B0.out).needed (HM.out w0 B0.out).runPath (HM.out w0 B0.out).name)
  unfold imgCells at C1
  obtain ⟨i0, i1, i2, i3, i4, i5, i6, i7, i8, i9, i10, i11, i12, i13, i14⟩ := img_cells F0.out
  go_wp2_with fail
  refine C1.out.mono ?_
  rintro e w1 ⟨rfl, hb1⟩
  have hz1 := hb1.size
  have F1 := Lib.hid ((hb1.block w.heap.size (by omega)).trans F0.out)
  have B1 := Lib.hid (B0.out.trans (hb1.mono (by omega)))
  clear hb1 C1 i0 i1 i2 i3 i4 i5 i6 i7 i8 i9 i10 i11 i12 i13 i14
  cases hb : headB im with
  | false =>
    have Hr := Lib.hid (may_head hb)
    clear hb
    go_wp2
    go_ret
    exact ⟨by rw [Hr.out]; rfl, B1.out⟩
  | true =>
  have H1 := Lib.hid hb
  clear hb
  have C2 := Lib.hid (isegs_any w1 _ im (HM.out w1 B1.out).segs (fun s hs => ⟨((HM.out w1 B1.out).segsR s hs).1.1, ((HM.out w1 B1.out).segsR s hs).2.1.2⟩))
  unfold imgCells at C2
  obtain ⟨i0, i1, i2, i3, i4, i5, i6, i7, i8, i9, i10, i11, i12, i13, i14⟩ := img_cells F1.out
  go_wp2_with fail
  refine C2.out.mono ?_
  rintro e w2 ⟨rfl, hb2⟩
  have hz2 := hb2.size
  have F2 := Lib.hid ((hb2.block w.heap.size (by omega)).trans F1.out)
  have B2 := Lib.hid (B1.out.trans (hb2.mono (by omega)))
  clear hb2 C2 i0 i1 i2 i3 i4 i5 i6 i7 i8 i9 i10 i11 i12 i13 i14
  cases hb : segsB im.segs with
  | false =>
    have Hr := Lib.hid (may_segs H1.out hb)
    clear hb
    go_wp2
    go_ret
    exact ⟨by rw [Hr.out]; rfl, B2.out⟩
  | true =>
  have H2 := Lib.hid hb
  clear hb
  obtain ⟨i0, i1, i2, i3, i4, i5, i6, i7, i8, i9, i10, i11, i12, i13, i14⟩ := img_cells F2.out
  clear i0 i1 i2 i3 i4 i5 i6 i7 i8 i9 i10 i11 i12
  have HD : Hid (tlsB im = (decide (0 ≤ im.tlsSize) && decide (im.tlsSize ≤ 4096) && decide ((im.tls.length : Int) ≤ im.tlsSize))) := Lib.hid rfl
  by_cases t0 : 0 ≤ im.tlsSize
  case neg =>
    have hb : tlsB im = false := by rw [HD.out, decide_eq_false (p := 0 ≤ im.tlsSize) t0]; simp
    have Hr := Lib.hid (may_tls H1.out H2.out hb)
    clear hb
    have hd0 : decide (im.tlsSize < 0) = true := by rw [decide_eq_true_eq]; omega
    go_wp2
    go_ret
    exact ⟨by rw [Hr.out]; rfl, B2.out⟩
  have hd0 : decide (im.tlsSize < 0) = false := by rw [decide_eq_false_iff_not]; omega
  by_cases t1 : im.tlsSize ≤ 4096
  case neg =>
    have hb : tlsB im = false := by rw [HD.out, decide_eq_false (p := im.tlsSize ≤ 4096) t1]; simp
    have Hr := Lib.hid (may_tls H1.out H2.out hb)
    clear hb
    have hd1 : decide (4096 < im.tlsSize) = true := by rw [decide_eq_true_eq]; omega
    go_wp2
    go_ret
    exact ⟨by rw [Hr.out]; rfl, B2.out⟩
  have hd1 : decide (4096 < im.tlsSize) = false := by rw [decide_eq_false_iff_not]; omega
  by_cases t2 : (im.tls.length : Int) ≤ im.tlsSize
  case neg =>
    have hb : tlsB im = false := by rw [HD.out, decide_eq_false (p := (im.tls.length : Int) ≤ im.tlsSize) t2]; simp
    have Hr := Lib.hid (may_tls H1.out H2.out hb)
    clear hb
    have hd2 : decide (im.tlsSize < (im.tls.length : Int)) = true := by rw [decide_eq_true_eq]; omega
    go_wp2
    go_ret
    exact ⟨by rw [Hr.out]; rfl, B2.out⟩
  have hd2 : decide (im.tlsSize < (im.tls.length : Int)) = false := by rw [decide_eq_false_iff_not]; omega
  have H3 : Hid (tlsB im = true) := Lib.hid (by rw [HD.out, decide_eq_true (p := 0 ≤ im.tlsSize) t0, decide_eq_true (p := im.tlsSize ≤ 4096) t1, decide_eq_true (p := (im.tls.length : Int) ≤ im.tlsSize) t2]; rfl)
  have htl : 0 ≤ im.tlsSize ∧ im.tlsSize ≤ 4096 := ⟨t0, t1⟩
  have C4 := Lib.hid (isyms_any w2 _ im (HM.out w2 B2.out).segs (segOk_of H2.out) (HM.out w2 B2.out).syms htl)
  unfold imgCells at C4
  obtain ⟨i0, i1, i2, i3, i4, i5, i6, i7, i8, i9, i10, i11, i12, i13, i14⟩ := img_cells F2.out
  go_wp2_with fail
  refine C4.out.mono ?_
  rintro e w3 ⟨rfl, hb3⟩
  have hz3 := hb3.size
  have F3 := Lib.hid ((hb3.block w.heap.size (by omega)).trans F2.out)
  have B3 := Lib.hid (B2.out.trans (hb3.mono (by omega)))
  clear hb3 C4 i0 i1 i2 i3 i4 i5 i6 i7 i8 i9 i10 i11 i12 i13 i14
  cases hb : symsB im with
  | false =>
    have Hr := Lib.hid (may_syms H1.out H2.out H3.out hb)
    clear hb
    go_wp2
    go_ret
    exact ⟨by rw [Hr.out]; rfl, B3.out⟩
  | true =>
  have H4 := Lib.hid hb
  clear hb
  have C5 := Lib.hid (tright_any w3 im _ _ _ (HM.out w3 B3.out).buckets (HM.out w3 B3.out).words (HM.out w3 B3.out).syms (HM.out w3 B3.out).wordsR (HM.out w3 B3.out).bucketsL)
  obtain ⟨i0, i1, i2, i3, i4, i5, i6, i7, i8, i9, i10, i11, i12, i13, i14⟩ := img_cells F3.out
  go_wp2_with fail
  refine C5.out.mono ?_
  rintro e w4 ⟨rfl, hb4⟩
  have hz4 := hb4.size
  have F4 := Lib.hid ((hb4.block w.heap.size (by omega)).trans F3.out)
  have B4 := Lib.hid (B3.out.trans (hb4.mono (by omega)))
  clear hb4 C5 i0 i1 i2 i3 i4 i5 i6 i7 i8 i9 i10 i11 i12 i13 i14
  cases hb : tableB im with
  | false =>
    have Hr := Lib.hid (may_table H1.out H2.out H3.out H4.out hb)
    rw [tableErr_bad hb]
    clear hb
    go_wp2
    go_ret
    exact ⟨by rw [Hr.out]; rfl, B4.out⟩
  | true =>
  have H5 := Lib.hid hb
  rw [tableErr_ok hb]
  clear hb
  have C6 := Lib.hid (irelocs_any w4 _ im (HM.out w4 B4.out).segs H2.out (HM.out w4 B4.out).syms (head_flags H1.out) (HM.out w4 B4.out).relocs (HM.out w4 B4.out).relocsR (syms_sizes H2.out H3.out H4.out).1 (syms_sizes H2.out H3.out H4.out).2)
  unfold imgCells at C6
  obtain ⟨i0, i1, i2, i3, i4, i5, i6, i7, i8, i9, i10, i11, i12, i13, i14⟩ := img_cells F4.out
  go_wp2_with fail
  refine C6.out.mono ?_
  rintro e w5 ⟨rfl, hb5⟩
  have hz5 := hb5.size
  have F5 := Lib.hid ((hb5.block w.heap.size (by omega)).trans F4.out)
  have B5 := Lib.hid (B4.out.trans (hb5.mono (by omega)))
  clear hb5 C6 i0 i1 i2 i3 i4 i5 i6 i7 i8 i9 i10 i11 i12 i13 i14
  cases hb : relocsB im with
  | false =>
    have Hr := Lib.hid (may_relocs H1.out H2.out H3.out H4.out H5.out hb)
    clear hb
    go_wp2
    go_ret
    exact ⟨by rw [Hr.out]; rfl, B5.out⟩
  | true =>
  have H6 := Lib.hid hb
  clear hb
  have C7 := Lib.hid (islots_any w5 _ im (HM.out w5 B5.out).segs H2.out (HM.out w5 B5.out).syms (HM.out w5 B5.out).relocs (HM.out w5 B5.out).relocsR H6.out (syms_sizes H2.out H3.out H4.out).1 (syms_sizes H2.out H3.out H4.out).2 (HM.out w5 B5.out).slots (HM.out w5 B5.out).slotsR)
  unfold imgCells at C7
  obtain ⟨i0, i1, i2, i3, i4, i5, i6, i7, i8, i9, i10, i11, i12, i13, i14⟩ := img_cells F5.out
  go_wp2_with fail
  refine C7.out.mono ?_
  rintro e w6 ⟨rfl, hb6⟩
  have hz6 := hb6.size
  have F6 := Lib.hid ((hb6.block w.heap.size (by omega)).trans F5.out)
  have B6 := Lib.hid (B5.out.trans (hb6.mono (by omega)))
  clear hb6 C7 i0 i1 i2 i3 i4 i5 i6 i7 i8 i9 i10 i11 i12 i13 i14
  cases hb : slotsB im with
  | false =>
    have Hr := Lib.hid (may_slots H1.out H2.out H3.out H4.out H5.out H6.out hb)
    clear hb
    go_wp2
    go_ret
    exact ⟨by rw [Hr.out]; rfl, B6.out⟩
  | true =>
  have H7 := Lib.hid hb
  clear hb
  have C8 := Lib.hid (iruns_any w6 _ im (HM.out w6 B6.out).segs (segOk_of H2.out) (HM.out w6 B6.out).init (HM.out w6 B6.out).fini (HM.out w6 B6.out).initR (HM.out w6 B6.out).finiR)
  unfold imgCells at C8
  obtain ⟨i0, i1, i2, i3, i4, i5, i6, i7, i8, i9, i10, i11, i12, i13, i14⟩ := img_cells F6.out
  go_wp2_with fail
  refine C8.out.mono ?_
  rintro e w7 ⟨rfl, hb7⟩
  have hz7 := hb7.size
  have F7 := Lib.hid ((hb7.block w.heap.size (by omega)).trans F6.out)
  have B7 := Lib.hid (B6.out.trans (hb7.mono (by omega)))
  clear hb7 C8 i0 i1 i2 i3 i4 i5 i6 i7 i8 i9 i10 i11 i12 i13 i14
  cases hb : (runB im im.init && runB im im.fini) with
  | false =>
    have Hr := Lib.hid (may_runs H1.out H2.out H3.out H4.out H5.out H6.out H7.out hb)
    clear hb
    go_wp2
    go_ret
    exact ⟨by rw [Hr.out]; rfl, B7.out⟩
  | true =>
  have H8 := Lib.hid hb
  clear hb
  have Hr := Lib.hid (may_good H1.out H2.out H3.out H4.out H5.out H6.out H7.out H8.out)
  go_wp2
  go_ret
  exact ⟨by rw [Hr.out]; rfl, B7.out⟩

end Go.Proofs.Ytbliedldlimpgaa

/- From a reading of an argument of the type api.Image to the words of the walks. -/
namespace Go.Proofs.Ytbliedldlimpgaa
set_option linter.unusedVariables false
set_option linter.unusedSimpArgs false
open Go.ChangeShapes Go.WideShapes Go.ChangeAt Go.RowKit Go.Deep

theorem own : ownKnob Try.prog.godebug = none := by kernel_rfl
theorem laidOut : laidOutB Try.prog = true := by kernel_rfl
theorem wf_i64 {n : Int} (h : (Lit.int .i64 n).wf = true) : -9223372036854775808 ≤ n ∧ n ≤ 9223372036854775807 := by
  simp [Lit.wf, IntKind.min, IntKind.max, IntKind.signed, IntKind.bits] at h
  omega
theorem wf_u64 {n : Int} (h : (Lit.int .u64 n).wf = true) : 0 ≤ n ∧ n < 18446744073709551616 := by
  simp [Lit.wf, IntKind.min, IntKind.max, IntKind.signed, IntKind.bits] at h
  omega
theorem wf_u8 {n : Int} (h : (Lit.int .u8 n).wf = true) : 0 ≤ n ∧ n < 256 := by
  simp [Lit.wf, IntKind.min, IntKind.max, IntKind.signed, IntKind.bits] at h
  omega
theorem bulk_count {H : Type} : ∀ l : List (DataW H), l.length ≤ Rows.uptoBulkAll l
  | [] => by simp
  | d :: l => by
    have := bulk_count l
    have h1 : 1 ≤ Rows.uptoBulk d := by cases d with
      | lit x => cases x <;> simp [Rows.uptoBulk]
      | _ => simp [Rows.uptoBulk]
    simp only [Rows.uptoBulkAll, List.length_cons]
    omega
theorem bulk_mem {H : Type} {d : DataW H} : ∀ {l : List (DataW H)}, d ∈ l → Rows.uptoBulk d ≤ Rows.uptoBulkAll l
  | [], h => by cases h
  | x :: l, h => by
    simp only [Rows.uptoBulkAll]
    rcases List.mem_cons.1 h with rfl | h
    · omega
    · have := bulk_mem h; omega

section
variable {H : Type} {enc : TypeId × Value → H} {w : World}

theorem open_list {α : Type} {K : Kind α} {t e : TypeId} {P : α → DataW H → Prop} (ht : Try.prog.underlying t = some (.slice e)) (hk : Try.prog.cellsOf e = K.k) (hk0 : 0 < K.k)
    (el : ∀ (fuel : Nat) (cs : List Value) (x : DataW H × List MemPlace), cs.length = K.k → DataW.trod enc Try.prog w 0 (fun _ => true) true fuel e cs = some x → ∃ y, K.R (· < w.heap.size) w y cs ∧ P y x.1)
    {fuel : Nat} {c : Value} {x : DataW H × List MemPlace} (h : DataW.trod enc Try.prog w 0 (fun _ => true) true fuel t [c] = some x) :
    ∃ l, LB K (· < w.heap.size) w c l ∧ l.length ≤ Rows.uptoBulk x.1 ∧ ∀ y ∈ l, ∃ d : DataW H, P y d ∧ Rows.uptoBulk d ≤ Rows.uptoBulk x.1 := by
  rcases open_slice ht h with ⟨hcs, hx⟩ | ⟨a, n, cap, m, q, D, Pl, hcs, _, hl, hm, hmm, hx, hi⟩
  · simp at hcs
    subst hcs
    exact ⟨[], LB.nil _ _ _, by simp, fun y hy => (by cases hy)⟩
  · simp at hcs
    subst hcs
    simp only [if_true] at hmm
    subst hmm
    have each : ∀ i, i < m → ∃ y, ∃ row, K.R (· < w.heap.size) w y row ∧ (∀ j u, row[j]? = some u → w.cell? ((a.add (i * K.k)).add j) = some u) ∧ P y (D i) ∧ row.length = K.k := fun i hin => by
      obtain ⟨cs', hc, ht'⟩ := hi i hin
      rw [hk] at hc
      obtain ⟨_, hcl, hat⟩ := World.cells?_some hc
      obtain ⟨y, hy, hp⟩ := el _ _ _ hcl ht'
      refine ⟨y, cs', hy, fun j u hu => ?_, hp, hcl⟩
      have hj : j < K.k := by rw [← hcl]; exact (List.getElem?_eq_some_iff.1 hu).1
      rw [hat j hj]; exact hu
    have plain : 0 < n → a = ⟨a.block, a.off, none⟩ ∧ a.block < w.heap.size := fun h0 => by
      obtain ⟨y, row, _, hat, _, hrl⟩ := each 0 (by omega)
      obtain ⟨u, hu⟩ : ∃ u, row[0]? = some u := ⟨_, List.getElem?_eq_getElem (by omega)⟩
      have h1 := hat 0 u hu
      have h2 := World.cell?_spot h1
      have h3 := World.block_lt_of_cell? _ _ h1
      obtain ⟨b, o, s⟩ := a
      have : s = none := by simpa [Addr.add] using h2
      subst this
      exact ⟨rfl, by simpa [Addr.add] using h3⟩
    let f : Fin n → α := fun i => (each i.1 (by omega)).choose
    have hf : ∀ i : Fin n, ∃ row, K.R (· < w.heap.size) w (f i) row ∧ (∀ j u, row[j]? = some u → w.cell? ((a.add (i.1 * K.k)).add j) = some u) ∧ P (f i) (D i.1) ∧ row.length = K.k := fun i => (each i.1 (by omega)).choose_spec
    have hx1 : x.1 = .slice ((List.range n).map D) ((List.range (m - n)).map fun j => D (n + j)) := congrArg Prod.fst hx
    have hbk : Rows.uptoBulkAll ((List.range n).map D) < Rows.uptoBulk x.1 := by
      rw [hx1, Rows.uptoBulk]; omega
    refine ⟨List.ofFn f, ⟨some a, a.block, a.off, m, by simp, by simp; unfold maxLen at hm; omega, fun h0 => ?_, ⟨by simpa using hl, fun h => by cases h⟩, fun h0 => ?_, fun i y hy => ?_⟩, ?_, fun y hy => ?_⟩
    · simp at h0
      rw [← (plain h0).1]
    · simp at h0
      exact (plain h0).2
    · rw [List.getElem?_ofFn] at hy
      split at hy
      · rename_i hin
        cases hy
        obtain ⟨row, h1, h2, _, _⟩ := hf ⟨i, hin⟩
        refine ⟨row, h1, fun j u hu => ?_⟩
        have h3 := h2 j u hu
        obtain ⟨h4, _⟩ := plain (by omega)
        rw [h4, Addr.add_lit, Addr.add_lit] at h3
        exact h3
      · cases hy
    · have := bulk_count ((List.range n).map D)
      simp at this ⊢
      omega
    · obtain ⟨i, rfl⟩ := List.mem_ofFn.1 hy
      obtain ⟨_, _, _, hp, _⟩ := hf i
      refine ⟨D i.1, hp, ?_⟩
      have : D i.1 ∈ (List.range n).map D := List.mem_map.2 ⟨i.1, by simp, rfl⟩
      have := bulk_mem this
      omega

theorem el_int {t : TypeId} (ht : Try.prog.underlying t = some (.int .i64)) (fuel : Nat) (cs : List Value) (x : DataW H × List MemPlace) (h : DataW.trod enc Try.prog w 0 (fun _ => true) true fuel t cs = some x) : ∃ y : Int, cs = [.int .i64 y] ∧ I64 y := by
  obtain ⟨n, rfl, rfl, hw⟩ := DataW.trod_int ht h
  exact ⟨n, rfl, wf_i64 hw⟩
theorem el_str {t : TypeId} (ht : Try.prog.underlying t = some .string) (fuel : Nat) (cs : List Value) (x : DataW H × List MemPlace) (h : DataW.trod enc Try.prog w 0 (fun _ => true) true fuel t cs = some x) : ∃ l : List UInt8, cs = [.string ⟨l.toArray⟩] ∧ l.length ≤ 9223372036854775807 ∧ l.length ≤ Rows.uptoBulk x.1 := by
  obtain ⟨s, rfl, rfl, hz⟩ := DataW.trod_string ht h
  obtain ⟨⟨d⟩⟩ := s
  exact ⟨d, rfl, hz, Nat.le_succ _⟩
theorem el_bool {t : TypeId} (ht : Try.prog.underlying t = some .bool) (fuel : Nat) (cs : List Value) (x : DataW H × List MemPlace) (h : DataW.trod enc Try.prog w 0 (fun _ => true) true fuel t cs = some x) : ∃ b, cs = [.bool b] := by
  obtain ⟨b, rfl, rfl⟩ := DataW.trod_bool ht h
  exact ⟨b, rfl⟩

theorem open_intsL {fuel : Nat} {c : Value} {x : DataW H × List MemPlace} (h : DataW.trod enc Try.prog w 0 (fun _ => true) true fuel 35 [c] = some x) : ∃ l, LB kInt (· < w.heap.size) w c l ∧ l.length ≤ Rows.uptoBulk x.1 ∧ ∀ y ∈ l, I64 y := by
  obtain ⟨l, h1, h2, h3⟩ := open_list (K := kInt) (P := fun y _ => I64 y) Try.underlying35 (by kernel_rfl) (by decide) (fun fuel cs x _ h => el_int Try.underlying3 fuel cs x h) h
  exact ⟨l, h1, h2, fun y hy => (h3 y hy).choose_spec.1⟩
theorem open_bytesL {fuel : Nat} {c : Value} {x : DataW H × List MemPlace} (h : DataW.trod enc Try.prog w 0 (fun _ => true) true fuel 36 [c] = some x) : ∃ l, LB kByte (· < w.heap.size) w c l ∧ l.length ≤ Rows.uptoBulk x.1 := by
  obtain ⟨l, h1, h2, h3⟩ := open_list (K := kByte) (P := fun y _ => True) Try.underlying36 (by kernel_rfl) (by decide) (fun fuel cs x _ h => by
    obtain ⟨n, rfl, rfl, hw⟩ := DataW.trod_int Try.underlying5 h
    have := wf_u8 hw
    refine ⟨UInt8.ofNat n.toNat, ?_, trivial⟩
    have e : ((UInt8.ofNat n.toNat).toNat : Int) = n := by
      rw [UInt8.toNat_ofNat']
      omega
    show [Value.int .u8 n] = [Value.int .u8 _]
    rw [e]) h
  exact ⟨l, h1, h2⟩
theorem open_wordsL {fuel : Nat} {c : Value} {x : DataW H × List MemPlace} (h : DataW.trod enc Try.prog w 0 (fun _ => true) true fuel 28 [c] = some x) : ∃ l, LB kWord (· < w.heap.size) w c l ∧ l.length ≤ Rows.uptoBulk x.1 ∧ ∀ y ∈ l, 0 ≤ y ∧ y < 18446744073709551616 := by
  obtain ⟨l, h1, h2, h3⟩ := open_list (K := kWord) (P := fun y _ => 0 ≤ y ∧ y < 18446744073709551616) Try.underlying28 (by kernel_rfl) (by decide) (fun fuel cs x _ h => by
    obtain ⟨n, rfl, rfl, hw⟩ := DataW.trod_int Try.underlying63 h
    exact ⟨n, rfl, wf_u64 hw⟩) h
  exact ⟨l, h1, h2, fun y hy => (h3 y hy).choose_spec.1⟩
theorem open_strsL {fuel : Nat} {c : Value} {x : DataW H × List MemPlace} (h : DataW.trod enc Try.prog w 0 (fun _ => true) true fuel 25 [c] = some x) : ∃ l, LB kStr (· < w.heap.size) w c l ∧ l.length ≤ Rows.uptoBulk x.1 := by
  obtain ⟨l, h1, h2, h3⟩ := open_list (K := kStr) (P := fun y _ => True) Try.underlying25 (by kernel_rfl) (by decide) (fun fuel cs x _ h => by
    obtain ⟨l, rfl, hz, _⟩ := el_str Try.underlying9 fuel cs x h
    exact ⟨l, ⟨rfl, hz⟩, trivial⟩) h
  exact ⟨l, h1, h2⟩
theorem open_chainsL {fuel : Nat} {c : Value} {x : DataW H × List MemPlace} (h : DataW.trod enc Try.prog w 0 (fun _ => true) true fuel 27 [c] = some x) : ∃ l, LB kInts (· < w.heap.size) w c l ∧ l.length ≤ Rows.uptoBulk x.1 ∧ ∀ y ∈ l, y.length ≤ Rows.uptoBulk x.1 := by
  obtain ⟨l, h1, h2, h3⟩ := open_list (K := kInts) (P := fun y d => y.length ≤ Rows.uptoBulk d) Try.underlying27 (by kernel_rfl) (by decide) (fun fuel cs x hl h => by
    match cs, hl with
    | [c], _ =>
      obtain ⟨l, h1, h2, _⟩ := open_intsL h
      exact ⟨l, ⟨c, rfl, h1⟩, h2⟩) h
  exact ⟨l, h1, h2, fun y hy => by obtain ⟨d, h4, h5⟩ := h3 y hy; omega⟩
end

end Go.Proofs.Ytbliedldlimpgaa

/- From a reading of an argument of the type api.Image to the words of the walks: its elements, and the whole. -/
namespace Go.Proofs.Ytbliedldlimpgaa
set_option linter.unusedVariables false
set_option linter.unusedSimpArgs false
open Go.ChangeShapes Go.WideShapes Go.ChangeAt Go.RowKit Go.Deep

theorem cInt : Try.prog.cellsOf 3 = 1 := by kernel_rfl
theorem cStr : Try.prog.cellsOf 9 = 1 := by kernel_rfl
theorem cBool : Try.prog.cellsOf 4 = 1 := by kernel_rfl
theorem cPerm : Try.prog.cellsOf 67 = 1 := by kernel_rfl
theorem cFlags : Try.prog.cellsOf 22 = 1 := by kernel_rfl
theorem cSymKind : Try.prog.cellsOf 51 = 1 := by kernel_rfl
theorem cVis : Try.prog.cellsOf 52 = 1 := by kernel_rfl
theorem cRelocKind : Try.prog.cellsOf 55 = 1 := by kernel_rfl
theorem cBytes : Try.prog.cellsOf 36 = 1 := by kernel_rfl
theorem cStrings : Try.prog.cellsOf 25 = 1 := by kernel_rfl
theorem cInts : Try.prog.cellsOf 35 = 1 := by kernel_rfl
theorem cRows : Try.prog.cellsOf 27 = 1 := by kernel_rfl
theorem cWords : Try.prog.cellsOf 28 = 1 := by kernel_rfl
theorem cSegs : Try.prog.cellsOf 23 = 1 := by kernel_rfl
theorem cNeeds : Try.prog.cellsOf 24 = 1 := by kernel_rfl
theorem cSyms : Try.prog.cellsOf 26 = 1 := by kernel_rfl
theorem cRelocs : Try.prog.cellsOf 33 = 1 := by kernel_rfl
theorem cSlots : Try.prog.cellsOf 34 = 1 := by kernel_rfl
theorem cTable : Try.prog.cellsOf 32 = 3 := by kernel_rfl
theorem cFilter : Try.prog.cellsOf 30 = 2 := by kernel_rfl
theorem cImage : Try.prog.cellsOf 38 = 15 := by kernel_rfl

section
variable {H : Type} {enc : TypeId × Value → H} {w : World}

set_option maxRecDepth 100000 in
theorem el_seg (fuel : Nat) (cs : List Value) (x : DataW H × List MemPlace) (hl : cs.length = 4) (h : DataW.trod enc Try.prog w 0 (fun _ => true) true fuel 72 cs = some x) : ∃ y, kSeg.R (· < w.heap.size) w y cs ∧ (I64 y.at_ ∧ I64 y.size ∧ I64 y.perm) := by
  match cs, hl with
  | [c0, c1, c2, c3], _ =>
    obtain ⟨ys, n, _, _, _, hyl, hf⟩ := DataW.trod_struct Try.underlying72 h
    match ys, hyl with
    | [y0, y1, y2, y3], _ =>
      have f0 := hf 0 _ rfl
      have f1 := hf 1 _ rfl
      have f2 := hf 2 _ rfl
      have f3 := hf 3 _ rfl
      simp only [cInt, cStr, cBool, cPerm, cFlags, cSymKind, cVis, cRelocKind, cBytes, cStrings, cInts, cRows, cWords, cSegs, cNeeds, cSyms, cRelocs, cSlots, cTable, cFilter, List.drop_zero, List.take_succ_cons, List.take_zero, List.drop_succ_cons, List.getElem?_cons_zero, List.getElem?_cons_succ] at f0 f1 f2 f3
      obtain ⟨n0, e0, i0⟩ := el_int Try.underlying3 _ _ _ f0
      cases e0
      obtain ⟨n1, e1, i1⟩ := el_int Try.underlying3 _ _ _ f1
      cases e1
      obtain ⟨n3, e3, i3⟩ := el_int Try.underlying67 _ _ _ f3
      cases e3
      obtain ⟨l, h2, _⟩ := open_bytesL f2
      exact ⟨⟨n0, n1, l, n3⟩, ⟨c2, rfl, h2⟩, i0, i1, i3⟩
set_option maxRecDepth 100000 in
theorem el_need (fuel : Nat) (cs : List Value) (x : DataW H × List MemPlace) (hl : cs.length = 2) (h : DataW.trod enc Try.prog w 0 (fun _ => true) true fuel 81 cs = some x) : ∃ y, kNeed.R (· < w.heap.size) w y cs ∧ True := by
  match cs, hl with
  | [c0, c1], _ =>
    obtain ⟨ys, n, _, _, _, hyl, hf⟩ := DataW.trod_struct Try.underlying81 h
    match ys, hyl with
    | [y0, y1], _ =>
      have f0 := hf 0 _ rfl
      have f1 := hf 1 _ rfl
      simp only [cInt, cStr, cBool, cPerm, cFlags, cSymKind, cVis, cRelocKind, cBytes, cStrings, cInts, cRows, cWords, cSegs, cNeeds, cSyms, cRelocs, cSlots, cTable, cFilter, List.drop_zero, List.take_succ_cons, List.take_zero, List.drop_succ_cons, List.getElem?_cons_zero, List.getElem?_cons_succ] at f0 f1
      obtain ⟨s, e0, hz, _⟩ := el_str Try.underlying9 _ _ _ f0
      cases e0
      obtain ⟨l, h2, _⟩ := open_strsL f1
      exact ⟨⟨s, l⟩, ⟨c1, rfl, h2, hz⟩, trivial⟩
set_option maxRecDepth 100000 in
theorem el_sym (fuel : Nat) (cs : List Value) (x : DataW H × List MemPlace) (hl : cs.length = 9) (h : DataW.trod enc Try.prog w 0 (fun _ => true) true fuel 54 cs = some x) : ∃ y, kSym.R (· < w.heap.size) w y cs ∧ True := by
  match cs, hl with
  | [c0, c1, c2, c3, c4, c5, c6, c7, c8], _ =>
    obtain ⟨ys, n, _, _, _, hyl, hf⟩ := DataW.trod_struct Try.underlying54 h
    match ys, hyl with
    | [y0, y1, y2, y3, y4, y5, y6, y7, y8], _ =>
      have f0 := hf 0 _ rfl
      have f1 := hf 1 _ rfl
      have f2 := hf 2 _ rfl
      have f3 := hf 3 _ rfl
      have f4 := hf 4 _ rfl
      have f5 := hf 5 _ rfl
      have f6 := hf 6 _ rfl
      have f7 := hf 7 _ rfl
      have f8 := hf 8 _ rfl
      simp only [cInt, cStr, cBool, cPerm, cFlags, cSymKind, cVis, cRelocKind, cBytes, cStrings, cInts, cRows, cWords, cSegs, cNeeds, cSyms, cRelocs, cSlots, cTable, cFilter, List.drop_zero, List.take_succ_cons, List.take_zero, List.drop_succ_cons, List.getElem?_cons_zero, List.getElem?_cons_succ] at f0 f1 f2 f3 f4 f5 f6 f7 f8
      obtain ⟨s0, e0, z0, _⟩ := el_str Try.underlying9 _ _ _ f0
      cases e0
      obtain ⟨s1, e1, z1, _⟩ := el_str Try.underlying9 _ _ _ f1
      cases e1
      obtain ⟨b2, e2⟩ := el_bool Try.underlying4 _ _ _ f2
      cases e2
      obtain ⟨b4, e4⟩ := el_bool Try.underlying4 _ _ _ f4
      cases e4
      obtain ⟨b6, e6⟩ := el_bool Try.underlying4 _ _ _ f6
      cases e6
      obtain ⟨n3, e3, i3⟩ := el_int Try.underlying51 _ _ _ f3
      cases e3
      obtain ⟨n5, e5, i5⟩ := el_int Try.underlying52 _ _ _ f5
      cases e5
      obtain ⟨n7, e7, i7⟩ := el_int Try.underlying3 _ _ _ f7
      cases e7
      obtain ⟨n8, e8, i8⟩ := el_int Try.underlying3 _ _ _ f8
      cases e8
      exact ⟨⟨s0, s1, b2, n3, b4, n5, b6, n7, n8⟩, ⟨rfl, ⟨z0, z1, i3, i5, i7, i8⟩⟩, trivial⟩
set_option maxRecDepth 100000 in
theorem el_reloc (fuel : Nat) (cs : List Value) (x : DataW H × List MemPlace) (hl : cs.length = 4) (h : DataW.trod enc Try.prog w 0 (fun _ => true) true fuel 57 cs = some x) : ∃ y, kRel.R (· < w.heap.size) w y cs ∧ RelOk y := by
  match cs, hl with
  | [c0, c1, c2, c3], _ =>
    obtain ⟨ys, n, _, _, _, hyl, hf⟩ := DataW.trod_struct Try.underlying57 h
    match ys, hyl with
    | [y0, y1, y2, y3], _ =>
      have f0 := hf 0 _ rfl
      have f1 := hf 1 _ rfl
      have f2 := hf 2 _ rfl
      have f3 := hf 3 _ rfl
      simp only [cInt, cStr, cBool, cPerm, cFlags, cSymKind, cVis, cRelocKind, cBytes, cStrings, cInts, cRows, cWords, cSegs, cNeeds, cSyms, cRelocs, cSlots, cTable, cFilter, List.drop_zero, List.take_succ_cons, List.take_zero, List.drop_succ_cons, List.getElem?_cons_zero, List.getElem?_cons_succ] at f0 f1 f2 f3
      obtain ⟨n0, e0, i0⟩ := el_int Try.underlying3 _ _ _ f0
      cases e0
      obtain ⟨n1, e1, i1⟩ := el_int Try.underlying55 _ _ _ f1
      cases e1
      obtain ⟨n2, e2, i2⟩ := el_int Try.underlying3 _ _ _ f2
      cases e2
      obtain ⟨n3, e3, i3⟩ := el_int Try.underlying3 _ _ _ f3
      cases e3
      exact ⟨⟨n0, n1, n2, n3⟩, rfl, i2, i0, i3⟩
set_option maxRecDepth 100000 in
theorem el_slot (fuel : Nat) (cs : List Value) (x : DataW H × List MemPlace) (hl : cs.length = 3) (h : DataW.trod enc Try.prog w 0 (fun _ => true) true fuel 69 cs = some x) : ∃ y, kSlot.R (· < w.heap.size) w y cs ∧ SlotOk y := by
  match cs, hl with
  | [c0, c1, c2], _ =>
    obtain ⟨ys, n, _, _, _, hyl, hf⟩ := DataW.trod_struct Try.underlying69 h
    match ys, hyl with
    | [y0, y1, y2], _ =>
      have f0 := hf 0 _ rfl
      have f1 := hf 1 _ rfl
      have f2 := hf 2 _ rfl
      simp only [cInt, cStr, cBool, cPerm, cFlags, cSymKind, cVis, cRelocKind, cBytes, cStrings, cInts, cRows, cWords, cSegs, cNeeds, cSyms, cRelocs, cSlots, cTable, cFilter, List.drop_zero, List.take_succ_cons, List.take_zero, List.drop_succ_cons, List.getElem?_cons_zero, List.getElem?_cons_succ] at f0 f1 f2
      obtain ⟨n0, e0, i0⟩ := el_int Try.underlying3 _ _ _ f0
      cases e0
      obtain ⟨n1, e1, i1⟩ := el_int Try.underlying3 _ _ _ f1
      cases e1
      obtain ⟨n2, e2, i2⟩ := el_int Try.underlying3 _ _ _ f2
      cases e2
      exact ⟨⟨n0, n1, n2⟩, rfl, i1, i0, i2⟩
set_option maxRecDepth 100000 in
/-- the argument of the image's laws -/
theorem open_image {base : Nat} {v : Value} {d : DataW H} {p : List MemPlace} (hv : Value.okWide Try.prog w .any base 38 v) (h : DataW.Trod enc Try.prog w 0 (fun _ => true) true 38 v d p) (hb : Rows.uptoBulk d ≤ 1048576) :
    ∃ vv im, v = .agg (imgCells vv im) ∧ ImgM (· < w.heap.size) w vv im := by
  obtain ⟨cs, rfl, hsz⟩ := okWide_struct Try.underlying38 hv
  obtain ⟨l⟩ := cs
  match l, hsz.trans cImage with
  | [c0, c1, c2, c3, c4, c5, c6, c7, c8, c9, c10, c11, c12, c13, c14], _ =>
    obtain ⟨fuel, hf⟩ := h
    obtain ⟨xs, n, _, hx, _, hlen, hg⟩ := DataW.trod_struct Try.underlying38 hf
    match xs, hlen with
    | [y0, y1, y2, y3, y4, y5, y6, y7, y8, y9, y10, y11, y12], _ =>
      have hd : d = .agg [y0.1, y1.1, y2.1, y3.1, y4.1, y5.1, y6.1, y7.1, y8.1, y9.1, y10.1, y11.1, y12.1] := congrArg Prod.fst hx
      have hb6 : Rows.uptoBulk y6.1 ≤ 1048576 := by
        rw [hd] at hb
        simp only [Rows.uptoBulk, Rows.uptoBulkAll] at hb
        omega
      have f0 := hg 0 _ rfl
      have f1 := hg 1 _ rfl
      have f2 := hg 2 _ rfl
      have f3 := hg 3 _ rfl
      have f4 := hg 4 _ rfl
      have f5 := hg 5 _ rfl
      have f6 := hg 6 _ rfl
      have f7 := hg 7 _ rfl
      have f8 := hg 8 _ rfl
      have f9 := hg 9 _ rfl
      have f10 := hg 10 _ rfl
      have f11 := hg 11 _ rfl
      have f12 := hg 12 _ rfl
      simp only [Value.cells, cInt, cStr, cBool, cPerm, cFlags, cSymKind, cVis, cRelocKind, cBytes, cStrings, cInts, cRows, cWords, cSegs, cNeeds, cSyms, cRelocs, cSlots, cTable, cFilter, List.drop_zero, List.take_succ_cons, List.take_zero, List.drop_succ_cons, List.getElem?_cons_zero, List.getElem?_cons_succ] at f0 f1 f2 f3 f4 f5 f6 f7 f8 f9 f10 f11 f12
      obtain ⟨name, e0, z0, _⟩ := el_str Try.underlying9 _ _ _ f0
      cases e0
      obtain ⟨flags, e1, i1⟩ := el_int Try.underlying22 _ _ _ f1
      cases e1
      obtain ⟨segs, h2, _, g2⟩ := open_list (K := kSeg) (P := fun y _ => I64 y.at_ ∧ I64 y.size ∧ I64 y.perm) Try.underlying23 (by kernel_rfl) (by decide) (fun fuel cs x hl h => el_seg fuel cs x hl h) f2
      obtain ⟨needs, h3, _, _⟩ := open_list (K := kNeed) (P := fun _ _ => True) Try.underlying24 (by kernel_rfl) (by decide) (fun fuel cs x hl h => el_need fuel cs x hl h) f3
      obtain ⟨runPath, h4, _⟩ := open_strsL f4
      obtain ⟨syms, h5, _, _⟩ := open_list (K := kSym) (P := fun _ _ => True) Try.underlying26 (by kernel_rfl) (by decide) (fun fuel cs x hl h => el_sym fuel cs x hl h) f5
      obtain ⟨zs, n', _, hz, _, hzl, hh⟩ := DataW.trod_struct Try.underlying32 f6
      obtain ⟨relocs, h7, _, g7⟩ := open_list (K := kRel) (P := fun y _ => RelOk y) Try.underlying33 (by kernel_rfl) (by decide) (fun fuel cs x hl h => el_reloc fuel cs x hl h) f7
      obtain ⟨slots, h8, _, g8⟩ := open_list (K := kSlot) (P := fun y _ => SlotOk y) Try.underlying34 (by kernel_rfl) (by decide) (fun fuel cs x hl h => el_slot fuel cs x hl h) f8
      obtain ⟨init, h9, _, g9⟩ := open_intsL f9
      obtain ⟨fini, h10, _, g10⟩ := open_intsL f10
      obtain ⟨tls, h11, _⟩ := open_bytesL f11
      obtain ⟨tlsSize, e12, i12⟩ := el_int Try.underlying3 _ _ _ f12
      cases e12
      match zs, hzl with
      | [z0', z1], _ =>
        have q0 := hh 0 _ rfl
        have q1 := hh 1 _ rfl
        simp only [cInt, cStr, cBool, cPerm, cFlags, cSymKind, cVis, cRelocKind, cBytes, cStrings, cInts, cRows, cWords, cSegs, cNeeds, cSyms, cRelocs, cSlots, cTable, cFilter, List.drop_zero, List.take_succ_cons, List.take_zero, List.drop_succ_cons, List.getElem?_cons_zero, List.getElem?_cons_succ] at q0 q1
        have hd6 : y6.1 = .agg [z0'.1, z1.1] := congrArg Prod.fst hz
        have hb0 : Rows.uptoBulk z0'.1 ≤ 1048576 := by
          rw [hd6] at hb6
          simp only [Rows.uptoBulk, Rows.uptoBulkAll] at hb6
          omega
        obtain ⟨buckets, hbk, _, gbk⟩ := open_chainsL q0
        obtain ⟨us, n'', _, _, _, hul, hu⟩ := DataW.trod_struct Try.underlying30 q1
        match us, hul with
        | [u0, u1], _ =>
          have r0 := hu 0 _ rfl
          have r1 := hu 1 _ rfl
          simp only [cInt, cStr, cBool, cPerm, cFlags, cSymKind, cVis, cRelocKind, cBytes, cStrings, cInts, cRows, cWords, cSegs, cNeeds, cSyms, cRelocs, cSlots, cTable, cFilter, List.drop_zero, List.take_succ_cons, List.take_zero, List.drop_succ_cons, List.getElem?_cons_zero, List.getElem?_cons_succ] at r0 r1
          obtain ⟨words, hwd, _, gwd⟩ := open_wordsL r0
          obtain ⟨shift, es, is⟩ := el_int Try.underlying3 _ _ _ r1
          cases es
          exact ⟨⟨c2, c3, c4, c5, c6, c7, c9, c10, c11, c12, c13⟩, ⟨name, flags, segs, needs, runPath, syms, buckets, words, shift, relocs, slots, init, fini, tls, tlsSize⟩, rfl,
            { name := z0
              flags := i1
              segs := h2
              segsR := fun s hs => (g2 s hs).choose_spec.1
              needed := h3
              runPath := h4
              syms := h5
              buckets := hbk
              bucketsL := fun c hc => by have := gbk c hc; omega
              words := hwd
              wordsR := gwd
              shift := is
              relocs := h7
              relocsR := fun s hs => (g7 s hs).choose_spec.1
              slots := h8
              slotsR := fun s hs => (g8 s hs).choose_spec.1
              init := h9
              initR := g9
              fini := h10
              finiR := g10
              tls := h11
              tlsSize := i12 }⟩
end

end Go.Proofs.Ytbliedldlimpgaa

/- Appending all of a list to one that the call makes (elements of one cell); a writer's struct. -/
namespace Go.Proofs.Ytbliedldlimpgaa
set_option linter.unusedVariables false
set_option linter.unusedSimpArgs false
open Go.RowKit

/-- elements of one cell, which lead nowhere -/
structure Plain {α : Type} (K : Kind α) (f : α → Value) : Prop where
  one : K.k = 1
  into : ∀ {S w x r}, K.R S w x r → r = [f x]
  of : ∀ S w x, K.R S w x [f x]
  cell : ∀ x, (f x).oneCell' = true
theorem plain_byte : Plain kByte (fun x => .int .u8 x.toNat) := ⟨rfl, fun h => h, fun _ _ _ => rfl, fun _ => rfl⟩
theorem plain_int : Plain kInt (fun x => .int .i64 x) := ⟨rfl, fun h => h, fun _ _ _ => rfl, fun _ => rfl⟩
theorem plain_word : Plain kWord (fun x => .int .u64 x) := ⟨rfl, fun h => h, fun _ _ _ => rfl, fun _ => rfl⟩
section
variable {α : Type} {e : TypeId} {K : Kind α} {f : α → Value} {B : Nat} {E : Nat → Prop} {w w' : World} {v : Value} {l : List α}
theorem RowsOf.plain (hp : Plain K f) {S : Nat → Prop} : ∀ {l : List α} {xs : List Value}, RowsOf K S w l xs → xs = l.map f
  | [], _, h => h
  | _ :: _, _, ⟨r, ys, h0, h1, h2⟩ => by rw [h0, hp.into h1, RowsOf.plain hp h2]; rfl
theorem RowsOf.of_plain (hp : Plain K f) (S : Nat → Prop) (w : World) : ∀ l : List α, RowsOf K S w l (l.map f)
  | [] => rfl
  | x :: l => ⟨[f x], l.map f, rfl, hp.of S w x, RowsOf.of_plain hp S w l⟩
theorem OwnK.plain_row (hp : Plain K f) (h : OwnK e K B E w v l) : w.ownsRow B e 1 v l.length (l.map f) := by
  obtain ⟨xs, h1, h2, _⟩ := h
  rw [hp.one] at h1
  rwa [RowsOf.plain hp h2] at h1
theorem OwnK.of_plain (hp : Plain K f) (h : w.ownsRow B e 1 v l.length (l.map f)) (hE : ∀ g, v.ownBlock = some g → ¬ E g) : OwnK e K B E w v l :=
  ⟨l.map f, by rw [hp.one]; exact h, RowsOf.of_plain hp _ _ l, hE⟩
/-- a list of plain elements stays what it is where its row does -/
theorem OwnK.plain_keep (hp : Plain K f) (h : OwnK e K B E w v l) (hk : ∀ g, v.ownBlock = some g → w'.heap[g]? = w.heap[g]?) : OwnK e K B E w' v l := by
  have h1 := h.plain_row hp
  refine .of_plain hp ⟨h1.1, ?_⟩ h.notE
  rcases h1.2 with h0 | ⟨g, cap, cur, hv, hg, hh, r⟩
  · exact Or.inl h0
  · exact Or.inr ⟨g, cap, cur, hv, hg, by rw [hk g (by rw [hv]; rfl)]; exact hh, r⟩

/-- append of all of a list to one that the call has made -/
theorem wpList_appendsK {ops : Array Oper} {rest : List Oper} {o : Oper} {a : Act} {Q : Exit → Act → World → Prop} (hp : Plain K f) (t : TypeId) (z : Value) (bytes : Nat) (ht : Try.prog.underlying t = some (.slice e)) (hinfo : (Try.prog.info? e).map (fun i => (i.zero, i.size, i.bytes)) = some (some z, 1, bytes))
    (hzs : z.cells.size = 1) (hgd : o.guard = none) (s x : Operand)
    (ho : o.op = .call { callee := .builtin .append, args := #[s, x], argTypes := #[t, t] })
    (hs : a.eval s = v) (hown : OwnK e K B E w v l) (hE : ∀ b, E b → b < w.heap.size) {S : Nat → Prop} (u : Value) (m : List α) (hx : a.eval x = u) (hu : LB K S w u m)
    (hlen : (l.length + m.length) * bytes ≤ 140737488355328) (hl63 : l.length + m.length ≤ 9223372036854775807) (hB : B ≤ w.heap.size)
    (h : ∀ v' w', OwnK e K B E w' v' (l ++ m) → Step (fun b => b < w.heap.size ∧ v.ownBlock ≠ some b) w w' → (∀ b, b < w.heap.size → v.ownBlock ≠ some b → v'.ownBlock ≠ some b) → wpList Try.prog ops Q rest (a.put o.dst v') w') : wpList Try.prog ops Q (o :: rest) a w := by
  obtain ⟨i0, hi, hz0, hz1, hz2⟩ := info_parts hinfo
  have h1 := hown.plain_row hp
  obtain ⟨ua, ub, uoff, ucap, hv, hm, ha, hcap, hS, hc⟩ := hu
  cases ua with
  | none =>
    have hm0 : m = [] := by
      cases m with
      | nil => rfl
      | cons y m => exact absurd (ha (by simp)) (by simp)
    subst hm0
    have hc0 := hcap.2 rfl
    subst hc0
    refine wpList_append_own_none hgd s x t ho B e i0 1 ht hi v l.length (l.map f) hs h1 (hx.trans hv) ?_
    exact h v w (by rw [List.append_nil]; exact hown) (Step.refl _ _) (fun b _ h => h)
  | some ad =>
    refine wpList_append_own_at w hgd s x t ho B e i0 z 1 bytes ht hi hz0 hz1 hz2 hzs (by decide) v l.length (l.map f) hs h1 ad m.length ucap (m.map f) (hx.trans hv) (by simp) ?_ ?_ (by unfold maxLen; omega) hlen hB ?_
    · intro j u hj
      rw [List.getElem?_map] at hj
      cases hmj : m[j]? with
      | none => rw [hmj] at hj; cases hj
      | some y =>
        rw [hmj] at hj
        have hu : f y = u := by simpa using hj
        subst hu
        have hml : 0 < m.length := by have := (List.getElem?_eq_some_iff.1 hmj).1; omega
        obtain rfl : ad = ⟨ub, uoff, none⟩ := by have := ha hml; simpa using this
        obtain ⟨row, r1, r2⟩ := hc j y hmj
        have := hp.into r1
        subst this
        have := r2 0 (f y) rfl
        rw [hp.one] at this
        simpa [Addr.add_lit] using this
    · intro u hu
      simp only [List.mem_map] at hu
      obtain ⟨y, _, rfl⟩ := hu
      exact hp.cell y
    · intro v' w' g1 g2 _ g4
      have hlt := World.ownsRow.lt h1
      have hlt' := World.ownsRow.lt g1
      have hst : Step (fun b => b < w.heap.size ∧ v.ownBlock ≠ some b) w w' := Step.of_grown g2 (fun b hb => ⟨hb.1, hb.2⟩)
      refine h v' w' (.of_plain hp (by rw [List.length_append, List.map_append]; exact g1) ?_) hst ?_
      · intro g hg hEg
        rcases g4 with h' | h'
        · exact hown.notE g (by rw [← h']; exact hg) hEg
        · have : g = w.heap.size := by rw [h'] at hg; exact (Option.some.inj hg).symm
          have := hE _ hEg; omega
      · intro b hb hne e
        rcases g4 with h' | h'
        · exact hne (by rw [← h']; exact e)
        · have : b = w.heap.size := by rw [h'] at e; exact (Option.some.inj e).symm
          omega
end
section
variable {α : Type} {e : TypeId} {K : Kind α} {B : Nat} {E : Nat → Prop} {w w' : World} {v : Value} {l : List α}
/-- append of one element, at the operation: for a step of a region that draws its order -/
theorem wp_appendK {o : Oper} {a : Act} {C : Act → World → Prop} {Q : Exit → Act → World → Prop} (t : TypeId) (z : Value) (bytes : Nat) (ht : Try.prog.underlying t = some (.slice e)) (hinfo : (Try.prog.info? e).map (fun i => (i.zero, i.size, i.bytes)) = some (some z, K.k, bytes))
    (hzs : z.cells.size = K.k) (hk : 0 < K.k) (s x : Operand)
    (ho : o.op = .call { callee := .builtin .append, args := #[s, x], argTypes := #[t, t] })
    (n : Nat) (hn : l.length = n) (hs : a.eval s = v) (hown : OwnK e K B E w v l) (hE : ∀ b, E b → b < w.heap.size) (nb : Nat) (y : α) (row : List Value) (hx : a.eval x = .slice (some ⟨nb, 0, none⟩) 1 1)
    (hcell : ∀ j u, row[j]? = some u → w.cell? ⟨nb, j, none⟩ = some u) (hone : ∀ u ∈ row, u.oneCell' = true) (hrow : K.R (fun b => b < w.heap.size ∧ ¬ E b ∧ v.ownBlock ≠ some b) w y row)
    (hlen : (l.length + 1) * bytes ≤ 140737488355328) (hl63 : l.length < 1099511627776) (hB : B ≤ w.heap.size)
    (h : ∀ g c w', OwnK e K B E w' (.slice (some ⟨g, 0, none⟩) (n + 1) c) (l ++ [y]) → Step (fun b => b < w.heap.size ∧ v.ownBlock ≠ some b) w w' → g < w'.heap.size → (∀ b, b < w.heap.size → v.ownBlock ≠ some b → b ≠ g) →
      C (a.put o.dst (.slice (some ⟨g, 0, none⟩) (n + 1) c)) w') : o.wp Try.prog a w C Q := by
  subst hn
  obtain ⟨i0, hi, hz0, hz1, hz2⟩ := info_parts hinfo
  obtain ⟨xs, h1, h2, h3⟩ := hown
  have hlt := World.ownsRow.lt h1
  refine wp_append_lies w s x t ho B e i0 z K.k bytes ht hi hz0 hz1 hz2 hzs hk v l.length xs hs h1 ⟨nb, 0, none⟩ 1 1 row hx (by rw [K.len hrow, Nat.one_mul]) ?_ hone (by decide) ?_ hlen hB _ rfl ?_
  · intro j u hj
    have := hcell j u hj
    simpa [Addr.add_lit] using this
  · unfold maxLen; omega
  · intro g c w' g1 g2 g3 g4
    have hst : Step (fun b => b < w.heap.size ∧ v.ownBlock ≠ some b) w w' := Step.of_grown g2 (fun b hb => ⟨hb.1, hb.2⟩)
    have hsz := hst.size
    have hgne : ∀ b, b < w.heap.size → v.ownBlock ≠ some b → b ≠ g := by
      intro b hb hne e
      subst e
      rcases g3 with h' | h'
      · exact hne h'
      · omega
    refine h g c w' ⟨xs ++ row, by simpa using g1, ?_, ?_⟩ hst g4 hgne
    · have hr := (h2.keeps (fun b hb => hst.block b ⟨hb.1, hb.2.2⟩)).snoc (K.keeps hrow (fun b hb => hst.block b ⟨hb.1, hb.2.2⟩))
      exact hr.imp fun b hb => ⟨by omega, hb.2.1, fun e => hgne b hb.1 hb.2.2 (by simpa [Value.ownBlock] using e.symm)⟩
    · intro g' hg' hEg
      have : g' = g := by simpa [Value.ownBlock] using hg'.symm
      subst this
      rcases g3 with h' | h'
      · exact h3 _ h' hEg
      · have := hE _ hEg; omega
end
theorem info_byte : (Try.prog.info? 5).map (fun i => (i.zero, i.size, i.bytes)) = some (some (.int .u8 0), 1, 1) := by kernel_rfl

end Go.Proofs.Ytbliedldlimpgaa

namespace Go.Proofs.Ytbliedldlimpgaa
set_option linter.unusedVariables false
set_option linter.unusedSimpArgs false
open Go.RowKit

/-- a writer at block b, sound, with the bytes l; the blocks for which S holds are none of its own -/
structure WB (b : Nat) (S : Nat → Prop) (w : World) (l : List UInt8) : Prop where
  ex : ∃ v, w.heap[b]? = some (.cells #[.int .i64 0, v] 130 (0, 0)) ∧ OwnK 5 kByte (b + 1) (· = b) w v l ∧ ∀ x, S x → x < w.heap.size ∧ x ≠ b ∧ v.ownBlock ≠ some x
section
variable {b : Nat} {S S' : Nat → Prop} {w w' : World} {l : List UInt8}
theorem WB.lt (h : WB b S w l) : b < w.heap.size := by
  obtain ⟨v, h1, _⟩ := h.ex
  rcases Nat.lt_or_ge b w.heap.size with h' | h'
  · exact h'
  · rw [Array.getElem?_eq_none h'] at h1; cases h1
theorem WB.less (h : WB b S w l) (hi : ∀ x, S' x → S x) : WB b S' w l := by
  obtain ⟨v, h1, h2, h3⟩ := h.ex
  exact ⟨v, h1, h2, fun x hx => h3 x (hi x hx)⟩
theorem WB.below (h : WB b S w l) (hb : Below w.heap.size w w') : WB b S w' l := by
  have hlt := h.lt
  obtain ⟨v, h1, h2, h3⟩ := h.ex
  exact ⟨v, (hb.block b hlt).trans h1, h2.below hb, fun x hx => ⟨Nat.lt_of_lt_of_le (h3 x hx).1 hb.size, (h3 x hx).2⟩⟩
theorem WB.alloc (h : WB b S w l) (o : Obj) : WB b (fun x => S x ∨ x = w.heap.size) (w.alloc o) l := by
  have hlt := h.lt
  obtain ⟨v, h1, h2, h3⟩ := h.ex
  refine ⟨v, (heap_alloc_old w o hlt).trans h1, h2.alloc o, fun x hx => ?_⟩
  rcases hx with hx | rfl
  · exact ⟨by have := (h3 x hx).1; rw [World.size_alloc]; omega, (h3 x hx).2⟩
  · exact ⟨by simp, by omega, fun e => by have := (h2.lt _ e).2; omega⟩
theorem WB.inS (h : WB b S w l) {x : Nat} (hx : S x) : x < w.heap.size := by
  obtain ⟨v, _, _, h3⟩ := h.ex
  exact (h3 x hx).1
theorem WB.put {v v' : Value} (h1 : w.heap[b]? = some (.cells #[.int .i64 0, v] 130 (0, 0))) (h2 : OwnK 5 kByte (b + 1) (· = b) w v' l) (h3 : ∀ x, S x → x < w.heap.size ∧ x ≠ b ∧ v'.ownBlock ≠ some x) : WB b S (w.setCell ⟨b, 1, none⟩ v') l := by
  refine ⟨v', by simp [World.setCell, Array.getElem?_modify, h1], h2.step ((Step.refl (fun x => x ≠ b) w).setCell (p := ⟨b, 1, none⟩) (by simp) v') (fun x _ h => h), fun x hx => ?_⟩
  obtain ⟨a1, a2⟩ := h3 x hx
  exact ⟨by rw [World.size_setCell]; exact a1, a2⟩
theorem WB.sound (h : WB b S w l) : w.cell? ⟨b, 0, none⟩ = some (.int .i64 0) := by
  obtain ⟨v, h1, _⟩ := h.ex
  rw [Lib.cell_of_heap h1]; rfl
end

set_option maxHeartbeats 1000000 in
theorem sound_any (w : World) (b : Nat) (x : Int) (hc : w.cell? ⟨b, 0, none⟩ = some (.int .i64 x)) :
    Calls Try.prog 84 #[.pointer (some ⟨b, 0, none⟩)] w fun e w' => e = .returned (.bool (x == 0)) ∧ w' = w := by
  have hb := World.block_lt_of_cell? _ _ hc
  go_enter Try.func84, Try.ntmps84
  go_wp2
  go_ret
  exact ⟨rfl, rfl⟩

set_option maxHeartbeats 1000000 in
theorem sized_any (w : World) (n : Nat) (hn : n = 1 ∨ n = 2 ∨ n = 4 ∨ n = 8) :
    Calls Try.prog 83 #[.int .i64 (n : Int)] w fun e w' => e = .returned (.bool true) ∧ w' = w := by
  rcases hn with rfl | rfl | rfl | rfl
  all_goals
    go_enter Try.func83, Try.ntmps83
    go_wp2
    go_ret
    exact ⟨rfl, rfl⟩

set_option maxHeartbeats 2000000 in
theorem fits_any (w : World) (n : Nat) (x : Int) (hn : n = 1 ∨ n = 2 ∨ n = 4 ∨ n = 8) (hx : okN n x) :
    Calls Try.prog 85 #[.int .i64 x, .int .i64 (n : Int)] w fun e w' => e = .returned (.bool true) ∧ w' = w := by
  have p1 : (256 : Int) ^ 1 = 256 := by decide
  have p2 : (256 : Int) ^ 2 = 65536 := by decide
  have p4 : (256 : Int) ^ 4 = 4294967296 := by decide
  rcases hn with rfl | rfl | rfl | rfl
  case inr.inr.inr =>
    clear hx p1 p2 p4
    go_enter Try.func85, Try.ntmps85
    go_wp2
    go_ret
    exact ⟨rfl, rfl⟩
  all_goals
    unfold okN at hx
    rw [if_neg (by decide)] at hx
    simp only [p1, p2, p4] at hx
    obtain ⟨h0, h1⟩ := hx
    have hd : decide (0 ≤ x) = true := by rw [decide_eq_true_eq]; exact h0
    clear p1 p2 p4
  · have hq : (x / 256 == 0) = true := by rw [beq_iff_eq]; omega
    go_enter Try.func85, Try.ntmps85
    go_wp2
    go_ret
    exact ⟨rfl, rfl⟩
  · have hq : (x / 65536 == 0) = true := by rw [beq_iff_eq]; omega
    go_enter Try.func85, Try.ntmps85
    go_wp2
    go_ret
    exact ⟨rfl, rfl⟩
  · have hq : (x / 4294967296 == 0) = true := by rw [beq_iff_eq]; omega
    go_enter Try.func85, Try.ntmps85
    go_wp2
    go_ret
    exact ⟨rfl, rfl⟩

theorem flag_any (w : World) (x : Bool) : Calls Try.prog 38 #[.bool x] w fun e w' => e = .returned (.int .i64 (oneL x)) ∧ w' = w := by
  cases x
  all_goals
    go_enter Try.func38, Try.ntmps38
    go_wp2
    go_ret
    exact ⟨rfl, rfl⟩

end Go.Proofs.Ytbliedldlimpgaa

namespace Go.Proofs.Ytbliedldlimpgaa
set_option linter.unusedVariables false
set_option linter.unusedSimpArgs false
open Go.RowKit

theorem digitsL_succ (size : Nat) (n : Int) (i : Nat) (h : i < size) : (digitsL size n).take (i + 1) = (digitsL size n).take i ++ [UInt8.ofNat ((n % 18446744073709551616).toNat / 256 ^ i)] := by
  have hl : i < (digitsL size n).length := by rw [digitsL_len]; exact h
  rw [List.take_succ_eq_append_getElem hl]
  congr 2
  simp [digitsL]
theorem shr_byte (n : Int) (i : Nat) (h : i < 8) : IntKind.u8.wrap (n / 2 ^ (8 * i)) = ((UInt8.ofNat ((n % 18446744073709551616).toNat / 256 ^ i)).toNat : Int) := by
  have e : ∀ m : Nat, ((UInt8.ofNat m).toNat : Int) = (m : Int) % 256 := fun m => by simp
  rw [e, IntKind.wrap_u8']
  have : i = 0 ∨ i = 1 ∨ i = 2 ∨ i = 3 ∨ i = 4 ∨ i = 5 ∨ i = 6 ∨ i = 7 := by omega
  rcases this with rfl | rfl | rfl | rfl | rfl | rfl | rfl | rfl <;> simp only [Nat.mul_zero, Nat.mul_one, Nat.reduceMul, Nat.reducePow, Int.reducePow, Nat.pow_zero, Int.pow_zero] <;> omega
theorem numsL_take (size : Nat) (ns : List Int) (k : Nat) (n : Int) (hn : ns[k]? = some n) : numsL size (ns.take (k + 1)) = numsL size (ns.take k) ++ digitsL size n := by
  obtain ⟨h, rfl⟩ := List.getElem?_eq_some_iff.1 hn
  rw [numsL, List.take_succ_eq_append_getElem h, List.map_append, List.flatten_append]; simp [numsL]
theorem numsL_len (size : Nat) (ns : List Int) : (numsL size ns).length = size * ns.length := by
  induction ns with
  | nil => simp [numsL]
  | cons n ns ih => 
    have : numsL size (n :: ns) = digitsL size n ++ numsL size ns := by simp [numsL]
    rw [this, List.length_append, ih, digitsL_len, List.length_cons, Nat.mul_succ, Nat.add_comm]

set_option maxHeartbeats 16000000 in
set_option maxRecDepth 100000 in
theorem wnum_any (b : Nat) (S : Nat → Prop) (w : World) (l : List UInt8) (size : Nat) (ns : List Int) (u : Value) (h : WB b S w l) (hu : LB kInt S w u ns) (hs : size = 1 ∨ size = 2 ∨ size = 4 ∨ size = 8)
    (hf : ∀ n ∈ ns, okN size n) (hr : ∀ n ∈ ns, -9223372036854775808 ≤ n ∧ n ≤ 9223372036854775807) (hlen : l.length + size * ns.length ≤ 1000000000) :
    Calls Try.prog 36 #[.pointer (some ⟨b, 0, none⟩), .int .i64 (size : Int), u] w fun e w' => e = .returned (.tuple #[]) ∧ WB b S w' (l ++ numsL size ns) ∧ Step S w w' := by
  obtain ⟨ua, ub, uoff, ucap, rfl, hum, huc, hat⟩ := hu.at
  have Hat := Lib.hid hat
  have Hf := Lib.hid hf
  have Hr := Lib.hid hr
  have H := Lib.hid h
  have hs8 : 1 ≤ size ∧ size ≤ 8 := by omega
  have HS := Lib.hid (fun w => sized_any w size hs)
  have HF := Lib.hid (fun w x hx => fits_any w size x hs hx)
  have hc0 := h.sound
  have hbl := h.lt
  clear hu hat hf hr h hs
  go_enter Try.func36, Try.ntmps36
  go_wp2_with fail
  refine (HS.out _).mono ?_
  rintro e w2 ⟨rfl, rfl⟩
  clear hc0
  go_wp2_with fail
  go_loopw [8, 18] (fun _ i wr => ∃ k : Nat, i = .int .i64 k ∧ k ≤ ns.length ∧ WB b S wr (l ++ numsL size (ns.take k)) ∧ Step S w2 wr) (fun _ i _ => ns.length - (intOf i).toNat)
  case atStart => exact ⟨0, rfl, Nat.zero_le _, by simpa [numsL] using H.out, Step.refl _ _⟩
  case round =>
    obtain ⟨k, rfl, hk, hw, hst⟩ := hrel
    have Hw := Lib.hid hw
    have Hst := Lib.hid hst
    have hc0 := hw.sound
    have hbr := hw.lt
    by_cases hlt : k < ns.length
    · obtain rfl := Hat.out.addr (by omega)
      obtain ⟨n, hn⟩ : ∃ n, ns[k]? = some n := ⟨_, List.getElem?_eq_getElem hlt⟩
      have g := (Hst.out.cell (p := ⟨ub, uoff + k, none⟩) (Hat.out.inS (by omega))).trans (Hat.out.int1 k n hn)
      have hfn := Hf.out n (List.mem_of_getElem? hn)
      have hrn := Hr.out n (List.mem_of_getElem? hn)
      have Hnt := Lib.hid (numsL_take size ns k n hn)
      have hkl := numsL_len size (ns.take k)
      rw [List.length_take, Nat.min_eq_left hk] at hkl
      have hmul : size * k + size ≤ size * ns.length := by rw [← Nat.mul_succ]; exact Nat.mul_le_mul_left _ hlt
      have HFn := Lib.hid (fun w => HF.out w n hfn)
      clear hn hw hst hfn
      go_wp2_with fail
      refine (sound_any _ b 0 hc0).mono ?_
      rintro e w3 ⟨rfl, rfl⟩
      go_wp2_with fail
      refine (HFn.out _).mono ?_
      rintro e w3 ⟨rfl, rfl⟩
      clear hc0 g
      go_wp2_with fail
      go_loopw [8] (fun i wi => ∃ j : Nat, i = .int .i64 j ∧ j ≤ size ∧ WB b S wi (l ++ numsL size (ns.take k) ++ (digitsL size n).take j) ∧ Step S w2 wi) (fun i _ => size - (intOf i).toNat)
      case atStart => exact ⟨0, rfl, Nat.zero_le _, by have := Hw.out; simpa using this, Hst.out⟩
      case round =>
        obtain ⟨j, rfl, hj, hw, hst⟩ := hrel
        have Hw2 := Lib.hid hw
        have Hst2 := Lib.hid hst
        have hc0 := hw.sound
        have hbr2 := hw.lt
        clear hw hst
        by_cases hj2 : j < size
        · have hd1 : decide ((j : Int) < (size : Int)) = true := by rw [decide_eq_true_eq]; omega
          have Hds := Lib.hid (digitsL_succ size n j hj2)
          have hsb := shr_byte n j (by omega)
          obtain ⟨cb, hcb⟩ : ∃ cb : UInt8, UInt8.ofNat ((n % 18446744073709551616).toNat / 256 ^ j) = cb := ⟨_, rfl⟩
          rw [hcb] at hsb Hds
          clear hcb
          have hq0 : (0 : Int) ≤ 8 * (j : Int) := by omega
          have hq1 : 8 * (j : Int) ≤ 64 := by omega
          have hq2 : IntKind.i64.wrap (8 * (j : Int)) = 8 * (j : Int) := by rw [IntKind.wrap_i64]; omega
          have hq3 : (8 * (j : Int)).toNat = 8 * j := by omega
          have hdl : ((digitsL size n).take j).length = j := by rw [List.length_take, digitsL_len]; omega
          obtain ⟨v, hv1, hv2, hv3⟩ := Hw2.out.ex
          have Hv1 := Lib.hid hv1
          have Hv2 := Lib.hid hv2
          have Hv3 := Lib.hid hv3
          have hc1 : wr.cell? ⟨b, 1, none⟩ = some v := by rw [Lib.cell_of_heap hv1]; rfl
          obtain ⟨va, vc, hvf⟩ := hv2.form
          obtain ⟨L, hL⟩ : ∃ L, (l ++ numsL size (ns.take k) ++ (digitsL size n).take j).length = L := ⟨_, rfl⟩
          have hLb : L ≤ 1000000000 := by rw [← hL]; simp only [List.length_append]; omega
          have HL := Lib.hid hL
          rw [hL] at hvf
          clear hL
          subst hvf
          clear hv1 hv2 hv3
          go_wp2_with fail
          refine (sound_any _ b 0 hc0).mono ?_
          rintro e w3 ⟨rfl, rfl⟩
          go_wp2_with fail
          have fx : w3.frozen? ⟨b, 1, none⟩ = false := Lib.frozen_of_heap Hv1.out 1
          refine wp_region_phase 12 (by kernel_rfl) (by kernel_rfl) ?_
          simp only [List.take_succ_cons, List.take_zero, List.drop_succ_cons, List.drop_zero, List.take_nil, List.drop_nil]
          refine wpAny_of_held (S := fun w' => w'.cell? ⟨b, 1, none⟩ = some (.slice va L vc)) _ _ _ _ ?_
          have hHeld : (fun w' : World => w'.cell? ⟨b, 1, none⟩ = some (.slice va L vc)) w3.drew := hc1
          show wpAnyH _ _ _ _ _ _ _ _ (World.drew _)
          have Hd2 := Lib.hid Hv2.out.drew
          have Hd1 : Hid (w3.drew.heap[b]? = _) := Lib.hid Hv1.out
          have Hd3 : Hid (∀ x, S x → x < w3.drew.heap.size ∧ x ≠ b ∧ Value.ownBlock (.slice va L vc) ≠ some x) := Lib.hid Hv3.out
          have hst3 := Lib.hid Hst2.out.drew
          have hbd : b < w3.drew.heap.size := hbr2
          generalize w3.drew = wd at *
          refine wpAnyH_take (i := 0) (v := ?_) rfl (by kernel_rfl) (by kernel_rfl) (by kernel_rfl) (fun _ _ _ h => h) (Or.inl ⟨by rfl, ?_⟩) hHeld ?_
          rotate_left
          · (intro w hSw; (try dsimp only at hSw); go_simp; try with_reducible rfl)
          try simp only [Act.put, List.setIfInBounds_toArray, List.set_cons_zero, List.set_cons_succ]
          refine wpAnyH_take (i := 1) (v := ?_) rfl (by kernel_rfl) (by kernel_rfl) (by kernel_rfl) (fun _ _ _ h => h) (Or.inl ⟨by rfl, ?_⟩) hHeld ?_
          rotate_left
          · (intro w hSw; (try dsimp only at hSw); go_simp; try with_reducible rfl)
          try simp only [Act.put, List.setIfInBounds_toArray, List.set_cons_zero, List.set_cons_succ]
          refine wpAnyH_take (i := 2) (v := ?_) rfl (by kernel_rfl) (by kernel_rfl) (by kernel_rfl) (fun _ _ _ h => h) (Or.inl ⟨by rfl, ?_⟩) hHeld ?_
          rotate_left
          · (intro w hSw; (try dsimp only at hSw); go_simp; try with_reducible rfl)
          try simp only [Act.put, List.setIfInBounds_toArray, List.set_cons_zero, List.set_cons_succ]
          refine wpAnyH_take (i := 3) (v := ?_) rfl (by kernel_rfl) (by kernel_rfl) (by kernel_rfl) (fun _ _ _ h => h) (Or.inl ⟨by rfl, ?_⟩) hHeld ?_
          rotate_left
          · (intro w hSw; (try dsimp only at hSw); go_simp; try with_reducible rfl)
          try simp only [Act.put, List.setIfInBounds_toArray, List.set_cons_zero, List.set_cons_succ]
          refine wpAnyH_take (i := 4) (v := ?_) rfl (by kernel_rfl) (by kernel_rfl) (by kernel_rfl) (fun _ _ _ h => h) (Or.inl ⟨by rfl, ?_⟩) hHeld ?_
          rotate_left
          · (intro w hSw; (try dsimp only at hSw); go_simp; try with_reducible rfl)
          try simp only [Act.put, List.setIfInBounds_toArray, List.set_cons_zero, List.set_cons_succ]
          refine wpAnyH_take (i := 5) (v := ?_) rfl (by kernel_rfl) (by kernel_rfl) (by kernel_rfl) (fun _ _ _ h => h) (Or.inl ⟨by rfl, ?_⟩) hHeld ?_
          rotate_left
          · (intro w hSw; (try dsimp only at hSw); go_simp; try with_reducible rfl)
          try simp only [Act.put, List.setIfInBounds_toArray, List.set_cons_zero, List.set_cons_succ]
          refine wpAnyH_take (i := 6) (v := ?_) rfl (by kernel_rfl) (by kernel_rfl) (by kernel_rfl) (fun _ _ _ h => h) (Or.inl ⟨by rfl, ?_⟩) hHeld ?_
          rotate_left
          · (intro w hSw; (try dsimp only at hSw); go_simp; try with_reducible rfl)
          try simp only [Act.put, List.setIfInBounds_toArray, List.set_cons_zero, List.set_cons_succ]
          refine wpAnyH_take (i := 7) (v := ?_) rfl (by kernel_rfl) (by kernel_rfl) (by kernel_rfl) (fun _ _ _ h => h) (Or.inl ⟨by rfl, ?_⟩) hHeld ?_
          rotate_left
          · (intro w hSw; (try dsimp only at hSw); go_simp; try with_reducible rfl)
          try simp only [Act.put, List.setIfInBounds_toArray, List.set_cons_zero, List.set_cons_succ]
          refine wpAnyH_take (i := 8) (v := ?_) rfl (by kernel_rfl) (by kernel_rfl) (by kernel_rfl) (fun _ _ _ h => h) (Or.inl ⟨by rfl, ?_⟩) hHeld ?_
          rotate_left
          · (intro w hSw; (try dsimp only at hSw); go_simp; try with_reducible rfl)
          try simp only [Act.put, List.setIfInBounds_toArray, List.set_cons_zero, List.set_cons_succ]
          refine wpAnyH_take (i := 9) (v := ?_) rfl (by kernel_rfl) (by kernel_rfl) (by kernel_rfl) (fun _ _ _ h => h) (Or.inl ⟨by rfl, ?_⟩) hHeld ?_
          rotate_left
          · (intro w hSw; (try dsimp only at hSw); go_simp; try with_reducible rfl)
          try simp only [Act.put, List.setIfInBounds_toArray, List.set_cons_zero, List.set_cons_succ]
          clear hsb hq0 hq1 hq2 hq3
          refine wpAnyH_ready (rs := [10]) (by kernel_rfl) (by simp) ?_
          refine AllReadyH.cons rfl (fun K hK => ?_) AllReadyH.nil
          go_simp
          have Hd4 := Lib.hid ((heap_alloc_old wd (.cells #[.int .u8 cb.toNat] 5 (0, 0)) hbd).trans Hd1.out)
          have Hd5 := Lib.hid (Hd2.out.alloc (.cells #[.int .u8 cb.toNat] 5 (0, 0)))
          have Hd6 := Lib.hid (heap_alloc_new wd (.cells #[.int .u8 cb.toNat] 5 (0, 0)))
          have hst4 := Lib.hid (hst3.out.alloc (fun x hx => (Hd3.out x hx).1) (.cells #[.int .u8 cb.toNat] 5 (0, 0)))
          have hz4 : (wd.alloc (.cells #[.int .u8 cb.toNat] 5 (0, 0))).heap.size = wd.heap.size + 1 := by simp
          have hlo := Hd2.out.lt
          refine hK.out _ _ ((Lib.cell_of_heap Hd4.out 1).trans rfl) (fun hHeld => ?_)
          clear hK K
          try simp only [Act.put, List.setIfInBounds_toArray, List.set_cons_zero, List.set_cons_succ]
          generalize wd.alloc (.cells #[.int .u8 cb.toNat] 5 (0, 0)) = w4 at *
          refine wpAnyH_ready (rs := [11]) (by kernel_rfl) (by simp) ?_
          refine AllReadyH.cons rfl (fun K hK => ?_) AllReadyH.nil
          rw [if_pos (by rfl)]
          simp only [List.getElem_toArray, List.getElem_cons_succ, List.getElem_cons_zero]
          refine wp_appendK (K := kByte) (e := 5) (B := b + 1) (E := (· = b)) 36 (.int .u8 0) 1 Try.underlying36 info_byte rfl (by decide) (.tmp 51) (.tmp 57) ?_ L HL.out ?_ Hd5.out (fun x hx => by have hx : x = b := hx; omega) wd.heap.size cb [.int .u8 cb.toNat] ?_ ?_ ?_ rfl ?_ ?_ (by omega) (fun g c w5 hown hst5 hlt5 hne => ?_)
          · rfl
          · rfl
          · rfl
          · intro q u hu
            match q, hu with
            | 0, hu => simp at hu; subst hu; rw [Lib.cell_of_heap Hd6.out]; rfl
            | q + 1, hu => simp at hu
          · intro u hu; simp at hu; subst hu; rfl
          · rw [HL.out]; omega
          · rw [HL.out]; omega
          have hvb : Value.ownBlock (.slice va L vc) ≠ some b := fun e => Hd5.out.notE _ e rfl
          have Hb5 := Lib.hid ((hst5.block b ⟨by omega, hvb⟩).trans Hd4.out)
          have hst6 := Lib.hid (hst4.out.trans (hst5.imp (S' := S) (fun x hx => ⟨by have := (Hd3.out x hx).1; omega, (Hd3.out x hx).2.2⟩)))
          have Hd8 : Hid (∀ x, S x → x < w5.heap.size ∧ x ≠ b ∧ Value.ownBlock (.slice (some ⟨g, 0, none⟩) (L + 1) c) ≠ some x) := Lib.hid (fun x hx => by
            obtain ⟨a1, a2, a3⟩ := Hd3.out x hx
            exact ⟨by have := hst5.size; omega, a2, fun e => hne x (by omega) a3 (by simpa [Value.ownBlock] using e.symm)⟩)
          have Hown := Lib.hid hown
          refine hK.out _ _ ((Lib.cell_of_heap Hb5.out 1).trans rfl) (fun hHeld => ?_)
          clear hK K
          try simp only [Act.put, List.setIfInBounds_toArray, List.set_cons_zero, List.set_cons_succ]
          refine wpAnyH_done (by kernel_rfl) ?_ _
          simp only [phaseQ]
          have hc5 : w5.cell? ⟨b, 1, none⟩ = some (.slice va L vc) := by rw [Lib.cell_of_heap Hb5.out]; rfl
          have fx5 : w5.frozen? ⟨b, 1, none⟩ = false := Lib.frozen_of_heap Hb5.out 1
          clear hHeld hown hst5 hne hc1 hc0 fx Hd3 Hd4 Hd5 Hd6 hst3 hst4 hvb
          go_wp2
          go_roundw
          case rel =>
            refine ⟨j + 1, by go_num, by omega, ?_, hst6.out.setCell (p := ⟨b, 1, none⟩) (fun hS => (Hd8.out b hS).2.1 rfl) _⟩
            rw [Hds.out, ← List.append_assoc]
            exact WB.put Hb5.out Hown.out Hd8.out
          case measure => simp [intOf]; omega
        · have hje : (digitsL size n).take j = digitsL size n := by rw [List.take_of_length_le (by rw [digitsL_len]; omega)]
          have hd1 : decide ((j : Int) < (size : Int)) = false := by rw [decide_eq_false_iff_not]; omega
          have Hfin : Hid (WB b S wr (l ++ numsL size (ns.take (k + 1)))) := Lib.hid (by have := Hw2.out; rw [hje, List.append_assoc, ← Hnt.out] at this; exact this)
          clear hje hc0
          go_wp2
          go_roundw
          case rel => exact ⟨k + 1, by go_num, by omega, Hfin.out, Hst2.out⟩
          case measure => simp [intOf]; omega
    · have Hall : Hid (ns.take k = ns) := Lib.hid (List.take_of_length_le (by omega))
      rw [Hall.out] at hw
      have Hw2 := Lib.hid hw
      clear hw hst
      go_wp2
      go_end0
      exact ⟨rfl, Hw2.out, Hst.out⟩

end Go.Proofs.Ytbliedldlimpgaa

namespace Go.Proofs.Ytbliedldlimpgaa
set_option linter.unusedVariables false
set_option linter.unusedSimpArgs false
open Go.RowKit

theorem WB.later {b : Nat} {S : Nat → Prop} {w w' : World} {l : List UInt8} (h : WB b S w l) (hb : Below w.heap.size w w') : WB b (fun x => S x ∨ (w.heap.size ≤ x ∧ x < w'.heap.size)) w' l := by
  have hlt := h.lt
  obtain ⟨v, h1, h2, h3⟩ := h.ex
  refine ⟨v, (hb.block b hlt).trans h1, h2.below hb, fun x hx => ?_⟩
  rcases hx with hx | ⟨h4, h5⟩
  · exact ⟨Nat.lt_of_lt_of_le (h3 x hx).1 hb.size, (h3 x hx).2⟩
  · exact ⟨h5, by omega, fun e => by have := (h2.lt _ e).2; omega⟩
/-- the world behind '[]byte(text)' -/
def convW (w : World) (p : List UInt8) : World := w.drew.alloc (.cells (bytesRow ⟨p.toArray⟩ (grownCap w p.length 0 5)) 5 ((bytesRow ⟨p.toArray⟩ (grownCap w p.length 0 5)).size, (bytesRow ⟨p.toArray⟩ (grownCap w p.length 0 5)).size + 1))
theorem run_conv (w : World) (p : List UInt8) : (Go.convert 9 36 (.string ⟨p.toArray⟩)).run Try.prog w = Result.ok (.slice (some ⟨w.heap.size, 0, none⟩) p.length (grownCap w p.length 0 5)) (convW w p) := by
  have h := run_bytes_of_string (P := Try.prog) w 9 36 5 ⟨p.toArray⟩ Try.underlying9 Try.underlying36 Try.underlying5
  rw [size_mk] at h
  exact h
theorem convW_below (w : World) (p : List UInt8) : Below w.heap.size w (convW w p) := ((Below.refl _ w).drew).alloc (Nat.le_refl _) _
theorem convW_size (w : World) (p : List UInt8) : (convW w p).heap.size = w.heap.size + 1 := by unfold convW; rw [World.size_alloc]; rfl
theorem convW_lb (w : World) (p : List UInt8) (hp : p.length ≤ 9223372036854775807) : LB kByte (fun x => x = w.heap.size) (convW w p) (.slice (some ⟨w.heap.size, 0, none⟩) p.length (grownCap w p.length 0 5)) p := by
  refine ⟨some ⟨w.heap.size, 0, none⟩, w.heap.size, 0, _, rfl, hp, fun _ => rfl, ⟨grownCap_ge w _ 0 _, fun h => by cases h⟩, fun _ => rfl, fun i x hx => ⟨_, rfl, fun j u hu => ?_⟩⟩
  match j, hu with
  | 0, hu =>
    simp at hu; subst hu
    obtain ⟨hi, rfl⟩ := List.getElem?_eq_some_iff.1 hx
    have hh : (convW w p).heap[w.heap.size]? = _ := heap_alloc_new w.drew _
    have e1 : kByte.k = 1 := rfl
    rw [e1]
    simp only [World.cell?, hh, Nat.zero_add, Nat.mul_one, Nat.add_zero]
    exact bytesRow_at ⟨p.toArray⟩ _ i (by simpa using hi)
  | j + 1, hu => simp at hu

set_option maxHeartbeats 4000000 in
set_option maxRecDepth 100000 in
theorem wraw_any (b : Nat) (S : Nat → Prop) (w : World) (l m : List UInt8) (u : Value) (h : WB b S w l) (hu : LB kByte S w u m) (hlen : l.length + m.length ≤ 1000000000) :
    Calls Try.prog 82 #[.pointer (some ⟨b, 0, none⟩), u] w fun e w' => e = .returned (.tuple #[]) ∧ WB b S w' (l ++ m) ∧ Step S w w' := by
  obtain ⟨ua, uc, rfl⟩ := hu.form
  have Hu := Lib.hid hu
  have hc0 := h.sound
  have hbl := h.lt
  obtain ⟨v, hv1, hv2, hv3⟩ := h.ex
  have Hv1 := Lib.hid hv1
  have Hv2 := Lib.hid hv2
  have Hv3 := Lib.hid hv3
  have hc1 : w.cell? ⟨b, 1, none⟩ = some v := by rw [Lib.cell_of_heap hv1]; rfl
  obtain ⟨va, vc, rfl⟩ := hv2.form
  clear h hu hv1 hv2 hv3
  go_enter Try.func82, Try.ntmps82
  go_wp2_with fail
  refine (sound_any _ b 0 hc0).mono ?_
  rintro e w3 ⟨rfl, rfl⟩
  go_wp2_with (at_builtin; refine wpList_appendsK (B := b + 1) (E := (· = b)) plain_byte 36 (.int .u8 0) 1 Try.underlying36 info_byte rfl rfl (.tmp 12) (.tmp 13) rfl rfl Hv2.out (fun x hx => by have hx : x = b := hx; omega) _ m rfl Hu.out ?c1 ?c2 (by omega) ?_)
  case c1 => omega
  case c2 => omega
  intro v' w4 hown hst hne
  obtain ⟨va', vc', hvf⟩ := hown.form
  obtain ⟨L, hL⟩ : ∃ L, (l ++ m).length = L := ⟨_, rfl⟩
  rw [hL] at hvf
  clear hL
  subst hvf
  have hvb : Value.ownBlock (.slice va l.length vc) ≠ some b := fun e => Hv2.out.notE _ e rfl
  have Hb4 := Lib.hid ((hst.block b ⟨hbl, hvb⟩).trans Hv1.out)
  have Hst := Lib.hid (hst.imp (S' := S) (fun x hx => ⟨(Hv3.out x hx).1, (Hv3.out x hx).2.2⟩))
  have Hd8 : Hid (∀ x, S x → x < w4.heap.size ∧ x ≠ b ∧ Value.ownBlock (.slice va' L vc') ≠ some x) := Lib.hid (fun x hx => by
    obtain ⟨a1, a2, a3⟩ := Hv3.out x hx
    exact ⟨by have := hst.size; omega, a2, hne x a1 a3⟩)
  have Hown := Lib.hid hown
  have hc4 : w4.cell? ⟨b, 1, none⟩ = some (.slice va l.length vc) := by rw [Lib.cell_of_heap Hb4.out]; rfl
  have fx4 : w4.frozen? ⟨b, 1, none⟩ = false := Lib.frozen_of_heap Hb4.out 1
  clear hown hst hne hc0 hc1 hvb Hv2 Hv3 Hu
  go_wp2
  go_end0
  exact ⟨rfl, WB.put Hb4.out Hown.out Hd8.out, Hst.out.setCell (p := ⟨b, 1, none⟩) (fun hS => (Hd8.out b hS).2.1 rfl) _⟩

end Go.Proofs.Ytbliedldlimpgaa

namespace Go.Proofs.Ytbliedldlimpgaa
set_option linter.unusedVariables false
set_option linter.unusedSimpArgs false
open Go.RowKit

theorem Step.later {S : Nat → Prop} {w w' : World} (h : Below w.heap.size w w') (hS : ∀ x, S x → x < w.heap.size) : Step S w w' := (Step.of_below h).imp hS
theorem built_ints (w : World) (ns : List Int) (hl : ns.length ≤ 9223372036854775807) : LB kInt (fun x => x = w.heap.size) (w.alloc (.cells (ns.map (Value.int .i64)).toArray 3 (0, 0))) (.slice (some ⟨w.heap.size, 0, none⟩) ns.length ns.length) ns := by
  refine ⟨some ⟨w.heap.size, 0, none⟩, w.heap.size, 0, _, rfl, hl, fun _ => rfl, ⟨Nat.le_refl _, fun h => by cases h⟩, fun _ => rfl, fun i x hx => ⟨_, rfl, fun j u hu => ?_⟩⟩
  match j, hu with
  | 0, hu =>
    simp at hu; subst hu
    rw [Lib.cell_of_heap (heap_alloc_new w _)]
    simp [kInt, hx]
  | j + 1, hu => simp at hu
theorem built_strs (w : World) (ss : List (List UInt8)) (hl : ss.length ≤ 9223372036854775807) (hz : ∀ s ∈ ss, s.length ≤ 9223372036854775807) : LB kStr (fun x => x = w.heap.size) (w.alloc (.cells (ss.map (fun s => Value.string ⟨s.toArray⟩)).toArray 9 (0, 0))) (.slice (some ⟨w.heap.size, 0, none⟩) ss.length ss.length) ss := by
  refine ⟨some ⟨w.heap.size, 0, none⟩, w.heap.size, 0, _, rfl, hl, fun _ => rfl, ⟨Nat.le_refl _, fun h => by cases h⟩, fun _ => rfl, fun i x hx => ⟨_, ⟨rfl, hz x (List.mem_of_getElem? hx)⟩, fun j u hu => ?_⟩⟩
  match j, hu with
  | 0, hu =>
    simp at hu; subst hu
    rw [Lib.cell_of_heap (heap_alloc_new w _)]
    simp [kStr, hx]
  | j + 1, hu => simp at hu
theorem textsL_take (ss : List (List UInt8)) (k : Nat) (s : List UInt8) (hs : ss[k]? = some s) : textsL (ss.take (k + 1)) = textsL (ss.take k) ++ (digitsL 2 s.length ++ s) := by
  obtain ⟨h, rfl⟩ := List.getElem?_eq_some_iff.1 hs
  rw [textsL, List.take_succ_eq_append_getElem h, List.map_append, List.flatten_append]; simp [textsL, textL']
theorem textsL_len (ss : List (List UInt8)) (h : ∀ s ∈ ss, s.length ≤ 4096) : (textsL ss).length ≤ 4098 * ss.length := by
  induction ss with
  | nil => simp [textsL]
  | cons s ss ih =>
    have e : textsL (s :: ss) = textL' s ++ textsL ss := by simp [textsL]
    have h1 := ih (fun x hx => h x (by simp [hx]))
    have h2 := h s (by simp)
    rw [e, List.length_append, List.length_cons, textL', List.length_append, digitsL_len]
    omega
theorem numsL_one (size : Nat) (n : Int) : numsL size [n] = digitsL size n := by simp [numsL]

set_option maxHeartbeats 8000000 in
set_option maxRecDepth 100000 in
theorem wtext_any (b : Nat) (S : Nat → Prop) (w : World) (l : List UInt8) (ss : List (List UInt8)) (u : Value) (h : WB b S w l) (hu : LB kStr S w u ss) (hf : ∀ s ∈ ss, s.length ≤ 4096) (hlen : l.length + 4098 * ss.length ≤ 1000000000) :
    Calls Try.prog 35 #[.pointer (some ⟨b, 0, none⟩), u] w fun e w' => e = .returned (.tuple #[]) ∧ WB b S w' (l ++ textsL ss) ∧ Step S w w' := by
  obtain ⟨ua, ub, uoff, ucap, rfl, hum, huc, hat⟩ := hu.at
  have Hat := Lib.hid hat
  have Hf := Lib.hid hf
  have H := Lib.hid h
  have hbl := h.lt
  clear hu hat hf h
  go_enter Try.func35, Try.ntmps35
  go_wp2_with fail
  go_loopw [8] (fun i wr => ∃ k : Nat, i = .int .i64 k ∧ k ≤ ss.length ∧ WB b S wr (l ++ textsL (ss.take k)) ∧ Step S w wr) (fun i _ => ss.length - (intOf i).toNat)
  case atStart => exact ⟨0, rfl, Nat.zero_le _, by have := H.out; simpa [textsL] using this, Step.refl _ _⟩
  case round =>
    obtain ⟨k, rfl, hk, hw, hst⟩ := hrel
    have Hw := Lib.hid hw
    have Hst := Lib.hid hst
    have hbr := hw.lt
    by_cases hlt : k < ss.length
    · obtain rfl := Hat.out.addr (by omega)
      obtain ⟨p, hp⟩ : ∃ p, ss[k]? = some p := ⟨_, List.getElem?_eq_getElem hlt⟩
      obtain ⟨g0, hpz⟩ := Hat.out.str1 k p hp
      have g := (Hst.out.cell (p := ⟨ub, uoff + k, none⟩) (Hat.out.inS (by omega))).trans g0
      have hpl := Hf.out p (List.mem_of_getElem? hp)
      have hsz := size_mk p
      have Htt := Lib.hid (textsL_take ss k p hp)
      have htl := textsL_len (ss.take k) (fun s hs => Hf.out s (List.mem_of_mem_take hs))
      rw [List.length_take, Nat.min_eq_left hk] at htl
      have hm : (p.length : Int).tmod 4097 = (p.length : Int) := by rw [Int.tmod_eq_emod_of_nonneg (by omega)]; omega
      have hng : ¬ 4096 < p.length := by omega
      have hcv := fun w => run_conv w p
      have HWa := Lib.hid (Hw.out.alloc (.cells #[.int .i64 (p.length : Int)] 3 (0, 0)))
      have HUa := Lib.hid ((built_ints wr [(p.length : Int)] (by simp)).imp (S' := fun x => S x ∨ x = wr.heap.size) (fun x hx => Or.inr hx))
      have HSa := Lib.hid (Step.later ((Below.refl _ wr).alloc (Nat.le_refl _) (.cells #[.int .i64 (p.length : Int)] 3 (0, 0))) (S := S) (fun x hx => Hw.out.inS hx))
      have HN := Lib.hid (wnum_any b (fun x => S x ∨ x = wr.heap.size) (wr.alloc (.cells #[.int .i64 (p.length : Int)] 3 (0, 0))) _ 2 [(p.length : Int)] _ HWa.out HUa.out (by decide) (fun n hn => by simp at hn; subst hn; exact okLen_N (by decide) (by unfold okLen; omega)) (fun n hn => by simp at hn; subst hn; omega) (by simp only [List.length_append, List.length_cons, List.length_nil]; omega))
      rw [numsL_one] at HN
      clear hp hw hst g0
      go_wp2_with fail
      refine HN.out.mono ?_
      rintro e w3 ⟨rfl, hw3, hs3⟩
      have Hw3 := Lib.hid (hw3.less (S' := S) (fun x hx => Or.inl hx))
      have Hs3 := Lib.hid ((Hst.out.trans HSa.out).trans (hs3.imp (S' := S) (fun x hx => Or.inl hx)))
      have hdl := digitsL_len 2 (p.length : Int)
      have HR := Lib.hid (wraw_any b (fun x => S x ∨ (w3.heap.size ≤ x ∧ x < (convW w3 p).heap.size)) (convW w3 p) _ p _ (Hw3.out.later (convW_below w3 p)) ((convW_lb w3 p hpz).imp (fun x hx => Or.inr (by have := convW_size w3 p; subst hx; omega))) (by simp only [List.length_append]; omega))
      clear hw3 hs3 HN HUa HWa
      go_wp2_with fail
      refine HR.out.mono ?_
      rintro e w4 ⟨rfl, hw4, hs4⟩
      have Hw4 := Lib.hid (hw4.less (S' := S) (fun x hx => Or.inl hx))
      have Hs4 := Lib.hid ((Hs3.out.trans (Step.later (convW_below w3 p) (fun x hx => Hw3.out.inS hx))).trans (hs4.imp (S' := S) (fun x hx => Or.inl hx)))
      clear hw4 hs4 HR
      go_wp2
      go_roundw
      case rel => exact ⟨k + 1, by go_num, by omega, by rw [Htt.out, ← List.append_assoc, ← List.append_assoc]; exact Hw4.out, Hs4.out⟩
      case measure => simp [intOf]; omega
    · have Hall : Hid (ss.take k = ss) := Lib.hid (List.take_of_length_le (by omega))
      rw [Hall.out] at hw
      have Hw2 := Lib.hid hw
      clear hw hst
      go_wp2
      go_end0
      exact ⟨rfl, Hw2.out, Hst.out⟩

set_option maxHeartbeats 4000000 in
set_option maxRecDepth 100000 in
theorem wblock_any (b : Nat) (S : Nat → Prop) (w : World) (l m : List UInt8) (u : Value) (h : WB b S w l) (hu : LB kByte S w u m) (hm : m.length ≤ 1048576) (hlen : l.length + 4 + m.length ≤ 1000000000) :
    Calls Try.prog 37 #[.pointer (some ⟨b, 0, none⟩), u] w fun e w' => e = .returned (.tuple #[]) ∧ WB b S w' (l ++ blockL m) ∧ Step S w w' := by
  obtain ⟨ua, uc, rfl⟩ := hu.form
  have hng : ¬ 1048576 < m.length := by omega
  have HWa := Lib.hid (h.alloc (.cells #[.int .i64 (m.length : Int)] 3 (0, 0)))
  have HUa := Lib.hid ((built_ints w [(m.length : Int)] (by simp)).imp (S' := fun x => S x ∨ x = w.heap.size) (fun x hx => Or.inr hx))
  have HSa := Lib.hid (Step.later ((Below.refl _ w).alloc (Nat.le_refl _) (.cells #[.int .i64 (m.length : Int)] 3 (0, 0))) (S := S) (fun x hx => h.inS hx))
  have HN := Lib.hid (wnum_any b (fun x => S x ∨ x = w.heap.size) (w.alloc (.cells #[.int .i64 (m.length : Int)] 3 (0, 0))) _ 4 [(m.length : Int)] _ HWa.out HUa.out (by decide) (fun n hn => by simp at hn; subst hn; exact okLen_N (by decide) (by unfold okLen; omega)) (fun n hn => by simp at hn; subst hn; omega) (by simp only [List.length_cons, List.length_nil]; omega))
  rw [numsL_one] at HN
  have hdl := digitsL_len 4 (m.length : Int)
  have HU := Lib.hid hu
  have hbl := h.lt
  clear h hu
  go_enter Try.func37, Try.ntmps37
  go_wp2_with fail
  refine HN.out.mono ?_
  rintro e w3 ⟨rfl, hw3, hs3⟩
  have Hw3 := Lib.hid (hw3.less (S' := S) (fun x hx => Or.inl hx))
  have Hs3 := Lib.hid (HSa.out.trans (hs3.imp (S' := S) (fun x hx => Or.inl hx)))
  have HR := Lib.hid (wraw_any b S w3 _ m _ Hw3.out (HU.out.step Hs3.out) (by simp only [List.length_append]; omega))
  clear hw3 hs3 HN HUa HWa
  go_wp2_with fail
  refine HR.out.mono ?_
  rintro e w4 ⟨rfl, hw4, hs4⟩
  have Hw4 := Lib.hid hw4
  have Hs4 := Lib.hid (Hs3.out.trans hs4)
  clear hw4 hs4 HR
  go_wp2
  go_end0
  exact ⟨rfl, by rw [blockL, ← List.append_assoc]; exact Hw4.out, Hs4.out⟩

set_option maxHeartbeats 1000000 in
theorem wnew_any (w : World) : Calls Try.prog 34 #[] w fun e w' => e = .returned (.pointer (some ⟨w.heap.size, 0, none⟩)) ∧ WB w.heap.size (· < w.heap.size) w' [] ∧ Below w.heap.size w w' ∧ w'.heap.size = w.heap.size + 1 := by
  have h0 := heap_alloc_new w (.cells #[.int .i64 0, .slice none 0 0] 130 (0, 0))
  have B0 := (Below.refl w.heap.size w).alloc (Nat.le_refl _) (.cells #[.int .i64 0, .slice none 0 0] 130 (0, 0))
  have hz : (w.alloc (.cells #[.int .i64 0, .slice none 0 0] 130 (0, 0))).heap.size = w.heap.size + 1 := by simp
  have Hf : Hid (WB w.heap.size (· < w.heap.size) (w.alloc (.cells #[.int .i64 0, .slice none 0 0] 130 (0, 0))) []) := Lib.hid ⟨_, h0, OwnK.nil _ _ _ _ _, fun x hx => ⟨by rw [hz]; have : x < w.heap.size := hx; omega, by have : x < w.heap.size := hx; omega, by simp [Value.ownBlock]⟩⟩
  have HB := Lib.hid B0
  have HZ := Lib.hid hz
  clear h0 B0 hz
  go_enter Try.func34, Try.ntmps34
  go_wp2
  go_ret
  exact ⟨rfl, Hf.out, HB.out, HZ.out⟩

set_option maxHeartbeats 4000000 in
set_option maxRecDepth 100000 in
theorem wbytes_any (b : Nat) (S : Nat → Prop) (w : World) (l : List UInt8) (h : WB b S w l) (hlen : l.length ≤ 1000000000) :
    Calls Try.prog 39 #[.pointer (some ⟨b, 0, none⟩)] w fun e w' => ∃ v, e = .returned (.tuple #[v, .int .i64 0]) ∧ OwnK 5 kByte w.heap.size (fun _ => False) w' v l ∧ Below w.heap.size w w' := by
  have hc0 := h.sound
  have hbl := h.lt
  obtain ⟨v, hv1, hv2, hv3⟩ := h.ex
  have hc1 : w.cell? ⟨b, 1, none⟩ = some v := by rw [Lib.cell_of_heap hv1]; rfl
  have Hlb := Lib.hid hv2.lb
  obtain ⟨va, vc, rfl⟩ := hv2.form
  clear h hv1 hv2 hv3
  go_enter Try.func39, Try.ntmps39
  go_wp2_with fail
  refine (sound_any _ b 0 hc0).mono ?_
  rintro e w3 ⟨rfl, rfl⟩
  go_wp2_with (at_builtin; refine wpList_appendsK (B := w3.heap.size) (E := fun _ => False) (l := []) plain_byte 36 (.int .u8 0) 1 Try.underlying36 info_byte rfl rfl (.const (.slice none 0 0)) (.tmp 17) rfl rfl (OwnK.nil _ _ _ _ _) (fun x hx => hx.elim) _ l rfl Hlb.out ?c1 ?c2 (Nat.le_refl _) ?_)
  case c1 => simp; omega
  case c2 => simp; omega
  intro v' w4 hown hst hne
  have hb4 : Below w3.heap.size w3 w4 := (hst.imp (S' := (· < w3.heap.size)) (fun x hx => ⟨hx, by simp [Value.ownBlock]⟩)).below
  have Hown := Lib.hid hown
  have Hb4 := Lib.hid hb4
  clear hown hst hne hb4 hc0 hc1 Hlb
  go_wp2
  go_ret2
  exact ⟨v', rfl, Hown.out, Hb4.out⟩

end Go.Proofs.Ytbliedldlimpgaa

namespace Go.Proofs.Ytbliedldlimpgaa
set_option linter.unusedVariables false
set_option linter.unusedSimpArgs false
open Go.RowKit

/-- a reader at block b, its bytes in block gb: what is left, or none: it has met a fault -/
structure RB (b gb : Nat) (w : World) (st : Option (List UInt8)) : Prop where
  ex : ∃ f v r, w.heap[b]? = some (.cells #[.int .i64 f, v] 136 (0, 0)) ∧ LB kByte (fun x => x = gb) w v r ∧ gb ≠ b ∧ gb < w.heap.size ∧ (match st with | some l => f = 0 ∧ r = l | none => f ≠ 0)
section
variable {b gb : Nat} {w w' : World} {st : Option (List UInt8)}
theorem RB.lt (h : RB b gb w st) : b < w.heap.size := by
  obtain ⟨f, v, r, h1, _⟩ := h.ex
  rcases Nat.lt_or_ge b w.heap.size with h' | h'
  · exact h'
  · rw [Array.getElem?_eq_none h'] at h1; cases h1
theorem RB.step {S : Nat → Prop} (h : RB b gb w st) (hs : Step S w w') (hb : S b) (hg : S gb) : RB b gb w' st := by
  obtain ⟨f, v, r, h1, h2, h3, h4, h5⟩ := h.ex
  exact ⟨f, v, r, (hs.block b hb).trans h1, h2.keeps (fun x hx => by have hx : x = gb := hx; subst hx; exact hs.block _ hg), h3, Nat.lt_of_lt_of_le h4 hs.size, h5⟩
theorem RB.below (h : RB b gb w st) (hb : Below w.heap.size w w') : RB b gb w' st := by
  have h1 := h.lt
  obtain ⟨f, v, r, _, _, _, h4, _⟩ := h.ex
  exact h.step (.of_below hb) h1 h4
theorem RB.alloc (h : RB b gb w st) (o : Obj) : RB b gb (w.alloc o) st := h.below ((Below.refl _ w).alloc (Nat.le_refl _) o)
theorem RB.drew (h : RB b gb w st) : RB b gb w.drew st := h.below ((Below.refl _ w).drew)
end

set_option maxHeartbeats 2000000 in
theorem fail_any (w : World) (b gb : Nat) (e : Int) (st : Option (List UInt8)) (he : e ≠ 0) (h : RB b gb w st) :
    Calls Try.prog 81 #[.pointer (some ⟨b, 0, none⟩), .int .i64 e] w fun e w' => e = .returned (.tuple #[]) ∧ RB b gb w' none ∧ Step (fun x => x ≠ b) w w' ∧ w'.heap.size = w.heap.size := by
  obtain ⟨f, v, r, h1, h2, h3, h4, h5⟩ := h.ex
  have c0 : w.cell? ⟨b, 0, none⟩ = some (.int .i64 f) := by rw [Lib.cell_of_heap h1]; rfl
  have f0 : w.frozen? ⟨b, 0, none⟩ = false := Lib.frozen_of_heap h1 0
  have hb := h.lt
  have H1 := Lib.hid h1
  have H2 := Lib.hid h2
  by_cases hf : f = 0
  · have hd : (f == 0) = true := by rw [beq_iff_eq]; exact hf
    have Hfin : Hid (RB b gb (w.setCell ⟨b, 0, none⟩ (.int .i64 e)) none) := Lib.hid ⟨e, v, r, by simp [World.setCell, Array.getElem?_modify, h1], h2.keeps (fun x hx => by have hx : x = gb := hx; subst hx; exact Below.heap_setCell _ _ _ _ h3), h3, by simpa using h4, he⟩
    have HS : Hid (Step (fun x => x ≠ b) w (w.setCell ⟨b, 0, none⟩ (.int .i64 e))) := Lib.hid ((Step.refl _ w).setCell (p := ⟨b, 0, none⟩) (fun h => h rfl) _)
    clear h h1 h2 h5 hf
    go_enter Try.func81, Try.ntmps81
    go_wp2
    go_end0
    exact ⟨rfl, Hfin.out, HS.out, by simp⟩
  · have hd : (f == 0) = false := by rw [beq_eq_false_iff_ne]; exact hf
    have Hfin : Hid (RB b gb w none) := Lib.hid ⟨f, v, r, h1, h2, h3, h4, hf⟩
    clear h h1 h2 h5 hf
    go_enter Try.func81, Try.ntmps81
    go_wp2
    go_end0
    exact ⟨rfl, Hfin.out, Step.refl _ _, rfl⟩

/-- what a cut of n bytes leaves -/
def cutS (st : Option (List UInt8)) (n : Nat) : Option (List UInt8) := match st with
  | some l => if n ≤ l.length then some (l.drop n) else none
  | none => none
def cutL (st : Option (List UInt8)) (n : Nat) : List UInt8 := match st with
  | some l => if n ≤ l.length then l.take n else []
  | none => []

end Go.Proofs.Ytbliedldlimpgaa

namespace Go.Proofs.Ytbliedldlimpgaa
set_option linter.unusedVariables false
set_option linter.unusedSimpArgs false
open Go.RowKit

theorem LB.take_byte {S : Nat → Prop} {w : World} {a : Option Addr} {cap : Nat} {l : List UInt8} (h : LB kByte S w (.slice a l.length cap) l) (n : Nat) (hn : n ≤ l.length) : LB kByte S w (.slice a n cap) (l.take n) := by
  obtain ⟨a', b, off, cap', hv, hm, ha, hc, hS, hr⟩ := h
  cases hv
  have hl : (l.take n).length = n := by rw [List.length_take]; omega
  refine ⟨a, b, off, cap, by rw [hl], by omega, fun h0 => ha (by omega), ⟨by omega, hc.2⟩, fun h0 => hS (by omega), fun i x hx => ?_⟩
  rw [List.getElem?_take] at hx
  by_cases hi : i < n
  · rw [if_pos hi] at hx; exact hr i x hx
  · rw [if_neg hi] at hx; cases hx
theorem LB.drop_byte {S : Nat → Prop} {w : World} {a : Option Addr} {cap : Nat} {l : List UInt8} (h : LB kByte S w (.slice a l.length cap) l) (n : Nat) (hn : n ≤ l.length) : LB kByte S w (.slice (if cap = n then a else a.map (·.add n)) (l.length - n) (cap - n)) (l.drop n) := by
  obtain ⟨a', b, off, cap', hv, hm, ha, hc, hS, hr⟩ := h
  cases hv
  have hl : (l.drop n).length = l.length - n := List.length_drop
  refine ⟨_, b, off + n, cap - n, by rw [hl], by omega, fun h0 => ?_, ⟨by omega, fun h0 => ?_⟩, fun h0 => hS (by omega), fun i x hx => ?_⟩
  · rw [hl] at h0
    rw [if_neg (by omega), ha (by omega)]
    simp [Addr.add_lit]
  · by_cases hcn : cap = n
    · omega
    · rw [if_neg hcn] at h0
      have : a = none := by cases a <;> simp at h0 ⊢
      have := hc.2 this
      omega
  · rw [List.getElem?_drop] at hx
    obtain ⟨row, r1, r2⟩ := hr (n + i) x hx
    have hk : kByte.k = 1 := rfl
    refine ⟨row, r1, fun j u hu => ?_⟩
    have := r2 j u hu
    rw [hk] at this ⊢
    rw [show off + n + i * 1 + j = off + (n + i) * 1 + j by omega]
    exact this
theorem RB.first {b gb : Nat} {w : World} {st : Option (List UInt8)} (h : RB b gb w st) : ∃ f, w.cell? ⟨b, 0, none⟩ = some (.int .i64 f) ∧ (f == 0) = st.isSome := by
  obtain ⟨f, v, r, h1, _, _, _, h5⟩ := h.ex
  refine ⟨f, by rw [Lib.cell_of_heap h1]; rfl, ?_⟩
  cases st with
  | none => rw [beq_eq_false_iff_ne.2 h5]; rfl
  | some l => rw [h5.1]; rfl

theorem RB.put {b gb : Nat} {w : World} {f : Int} {v v' : Value} {r : List UInt8} {st : Option (List UInt8)} (h1 : w.heap[b]? = some (.cells #[.int .i64 f, v] 136 (0, 0))) (h2 : LB kByte (fun x => x = gb) w v' r) (h3 : gb ≠ b) (h4 : gb < w.heap.size)
    (h5 : match st with | some l => f = 0 ∧ r = l | none => f ≠ 0) : RB b gb (w.setCell ⟨b, 1, none⟩ v') st :=
  ⟨f, v', r, by simp [World.setCell, Array.getElem?_modify, h1], h2.keeps (fun x hx => by have hx : x = gb := hx; subst hx; exact Below.heap_setCell _ _ _ _ h3), h3, by simpa using h4, h5⟩
theorem setCell_step (w : World) (b k : Nat) (v : Value) : Step (fun x => x ≠ b) w (w.setCell ⟨b, k, none⟩ v) := (Step.refl _ w).setCell (p := ⟨b, k, none⟩) (fun h => h rfl) _

set_option maxHeartbeats 8000000 in
set_option maxRecDepth 100000 in
theorem rcut_any (w : World) (b gb : Nat) (st : Option (List UInt8)) (n : Nat) (h : RB b gb w st) (hn : n ≤ 9223372036854775807) :
    Calls Try.prog 90 #[.pointer (some ⟨b, 0, none⟩), .int .i64 (n : Int)] w fun e w' => ∃ v, e = .returned v ∧ LB kByte (fun x => x = gb) w' v (cutL st n) ∧ RB b gb w' (cutS st n) ∧ Step (fun x => x ≠ b) w w' ∧ w'.heap.size = w.heap.size := by
  obtain ⟨f, hc0, hf⟩ := h.first
  have hbl := h.lt
  have HS := Lib.hid (sound_any w b f hc0)
  rw [hf] at HS
  cases st with
  | none =>
    have H := Lib.hid h
    clear h
    go_enter Try.func90, Try.ntmps90
    go_wp2_with fail
    refine HS.out.mono ?_
    rintro e w2 ⟨rfl, rfl⟩
    go_wp2_with fail
    refine HS.out.mono ?_
    rintro e w3 ⟨rfl, rfl⟩
    go_wp2
    go_ret
    exact ⟨_, rfl, LB.nil _ _ _, H.out, Step.refl _ _, rfl⟩
  | some l =>
    obtain ⟨f', v, r, h1, h2, h3, h4, h5, h6⟩ := h.ex
    subst h5 h6
    obtain ⟨va, vc, rfl⟩ := h2.form
    have hrm := h2.max
    have hc1 : w.cell? ⟨b, 1, none⟩ = some (.slice va r.length vc) := by rw [Lib.cell_of_heap h1]; rfl
    have fx : w.frozen? ⟨b, 1, none⟩ = false := Lib.frozen_of_heap h1 1
    have hcap : r.length ≤ vc := by
      obtain ⟨a', b', off', cap', hv, _, _, hc, _⟩ := h2
      cases hv; exact hc.1
    by_cases hlt : n ≤ r.length
    · have hng : decide ((r.length : Int) < (n : Int)) = false := by rw [decide_eq_false_iff_not]; omega
      have H1 := Lib.hid h1
      have H3 := Lib.hid (h2.take_byte n hlt)
      have H4' := h2.drop_byte n hlt
      have Hcl : Hid (cutL (some r) n = r.take n) := Lib.hid (by rw [cutL, if_pos hlt])
      have Hcs : Hid (cutS (some r) n = some (r.drop n)) := Lib.hid (by rw [cutS, if_pos hlt])
      clear h h1 h2
      by_cases hvn : vc = n
      · subst hvn
        rw [if_pos rfl, Nat.sub_self, show r.length - vc = 0 by omega] at H4'
        have H4 := Lib.hid H4'
        clear H4'
        go_enter Try.func90, Try.ntmps90
        go_wp2_with fail
        refine HS.out.mono ?_
        rintro e w2 ⟨rfl, rfl⟩
        go_wp2_with fail
        refine HS.out.mono ?_
        rintro e w3 ⟨rfl, rfl⟩
        go_wp2
        go_ret
        exact ⟨_, rfl, by rw [Hcl.out]; exact (H3.out.keeps (fun x hx => by have hx : x = gb := hx; subst hx; exact Below.heap_setCell _ _ _ _ h3)), by rw [Hcs.out]; exact RB.put H1.out H4.out h3 h4 ⟨rfl, rfl⟩, setCell_step _ _ _ _, by simp⟩
      · rw [if_neg hvn] at H4'
        have H4 := Lib.hid H4'
        clear H4'
        go_enter Try.func90, Try.ntmps90
        go_wp2_with fail
        refine HS.out.mono ?_
        rintro e w2 ⟨rfl, rfl⟩
        go_wp2_with fail
        refine HS.out.mono ?_
        rintro e w3 ⟨rfl, rfl⟩
        go_wp2
        go_ret
        exact ⟨_, rfl, by rw [Hcl.out]; exact (H3.out.keeps (fun x hx => by have hx : x = gb := hx; subst hx; exact Below.heap_setCell _ _ _ _ h3)), by rw [Hcs.out]; exact RB.put H1.out H4.out h3 h4 ⟨rfl, rfl⟩, setCell_step _ _ _ _, by simp⟩
    · have hng : decide ((r.length : Int) < (n : Int)) = true := by rw [decide_eq_true_eq]; omega
      have HF := Lib.hid (fail_any w b gb 11 (some r) (by decide) h)
      have Hcl : Hid (cutL (some r) n = []) := Lib.hid (by rw [cutL, if_neg hlt])
      have Hcs : Hid (cutS (some r) n = none) := Lib.hid (by rw [cutS, if_neg hlt])
      clear h h1 h2 fx
      go_enter Try.func90, Try.ntmps90
      go_wp2_with fail
      refine HS.out.mono ?_
      rintro e w2 ⟨rfl, rfl⟩
      go_wp2_with fail
      refine HF.out.mono ?_
      rintro e w3 ⟨rfl, hr3, hs3, hz3⟩
      obtain ⟨f3, hc3, hf3⟩ := hr3.first
      have HS3 := Lib.hid (sound_any w3 b f3 hc3)
      rw [hf3] at HS3
      have Hr3 := Lib.hid hr3
      have Hs3 := Lib.hid hs3
      have Hz3 := Lib.hid hz3
      clear hr3 hs3 hz3 hc1 hc0 HF HS
      have hbl3 := World.block_lt_of_cell? _ _ hc3
      go_wp2_with fail
      refine HS3.out.mono ?_
      rintro e w4 ⟨rfl, rfl⟩
      go_wp2
      go_ret
      exact ⟨_, rfl, by rw [Hcl.out]; exact LB.nil _ _ _, by rw [Hcs.out]; exact Hr3.out, Hs3.out, Hz3.out⟩

end Go.Proofs.Ytbliedldlimpgaa

namespace Go.Proofs.Ytbliedldlimpgaa
set_option linter.unusedVariables false
set_option linter.unusedSimpArgs false
open Go.RowKit

/-- a number that a reader answers, and what is left -/
def numS (st : Option (List UInt8)) (size : Nat) : Int × Option (List UInt8) := match st with
  | none => (0, none)
  | some l => match numP size l with
    | none => (0, none)
    | some (n, t) => (n, some t)
theorem valL_snoc : ∀ (l : List UInt8) (c : UInt8), valL (l ++ [c]) = valL l + 256 ^ l.length * c.toNat
  | [], c => by simp [valL]
  | d :: l, c => by
    rw [List.cons_append, valL, valL_snoc l c, valL, List.length_cons, Nat.pow_succ, Nat.mul_add, ← Nat.mul_assoc, Nat.mul_comm (256 ^ l.length) 256]; omega
theorem numS_eq (st : Option (List UInt8)) (size : Nat) (hs : size = 1 ∨ size = 2 ∨ size = 4 ∨ size = 8) : numS st size = (IntKind.i64.wrap (valL (cutL st size) : Int), cutS st size) := by
  have hw : ∀ n : Nat, n < 4294967296 → IntKind.i64.wrap (n : Int) = (n : Int) := fun n h => by rw [IntKind.wrap_i64]; omega
  cases st with
  | none => simp [numS, cutL, cutS, valL, IntKind.wrap_i64]
  | some l =>
    unfold numS numP cutL cutS
    by_cases hl : size ≤ l.length
    · simp only [hl, if_true]
      have hlen : (l.take size).length = size := by rw [List.length_take]; omega
      have hv := valL_lt (l.take size)
      rw [hlen] at hv
      by_cases h8 : size = 8
      · subst h8
        rw [if_pos rfl]
        have : (256 : Nat) ^ 8 = 18446744073709551616 := by decide
        congr 1
        rw [IntKind.wrap_i64]
        unfold sgnL
        split <;> omega
      · rw [if_neg h8, hw _ (by
          have p1 : (256 : Nat) ^ 1 = 256 := by decide
          have p2 : (256 : Nat) ^ 2 = 65536 := by decide
          have p4 : (256 : Nat) ^ 4 = 4294967296 := by decide
          rcases hs with rfl | rfl | rfl | rfl <;> omega)]
    · simp [hl, valL, IntKind.wrap_i64]
theorem wrap64_i (x : Int) : wrap64 x = IntKind.i64.wrap x := by rw [IntKind.wrap_i64]; unfold wrap64; rfl
theorem or_step (a c i : Nat) (hi : i < 8) (ha : a < 256 ^ i) (hc : c < 256) : bits .or .i64 (IntKind.i64.wrap (a : Int)) (IntKind.i64.wrap ((c : Int) * 2 ^ (8 * i))) = IntKind.i64.wrap ((a + 256 ^ i * c : Nat) : Int) := by
  have hp : (256 : Nat) ^ i = 2 ^ (8 * i) := by rw [Nat.pow_mul]
  have hle : 256 ^ i ≤ 72057594037927936 := Nat.le_trans (Nat.pow_le_pow_right (by decide) (show i ≤ 7 by omega)) (by decide)
  have hprod : 256 ^ i * c ≤ 72057594037927936 * 255 := Nat.mul_le_mul hle (by omega)
  have ewrap : ∀ m : Nat, m < 18446744073709551616 → (BitVec.ofInt 64 (IntKind.i64.wrap (m : Int))).toNat = m := fun m hm => by
    rw [BitVec.toNat_ofInt, IntKind.wrap_i64]
    have : (2 : Nat) ^ 64 = 18446744073709551616 := by decide
    omega
  have e2 : ((c : Int) * 2 ^ (8 * i)) = ((256 ^ i * c : Nat) : Int) := by rw [hp, Int.natCast_mul, Int.natCast_pow, Int.mul_comm]; rfl
  rw [e2]
  show IntKind.i64.wrap ((BitVec.ofInt 64 (IntKind.i64.wrap (a : Int)) ||| BitVec.ofInt 64 (IntKind.i64.wrap ((256 ^ i * c : Nat) : Int))).toNat : Int) = _
  rw [BitVec.toNat_or, ewrap _ (by omega), ewrap _ (by omega), Nat.or_comm, nat_join (8 * i) (256 ^ i * c) a (by rw [hp]; exact Nat.mul_mod_right _ _) (by rw [← hp]; exact ha), Nat.add_comm]

set_option maxHeartbeats 8000000 in
set_option maxRecDepth 100000 in
theorem rnum_any (w : World) (b gb : Nat) (st : Option (List UInt8)) (size : Nat) (h : RB b gb w st) (hs : size = 1 ∨ size = 2 ∨ size = 4 ∨ size = 8) :
    Calls Try.prog 48 #[.pointer (some ⟨b, 0, none⟩), .int .i64 (size : Int)] w fun e w' => e = .returned (.int .i64 (numS st size).1) ∧ RB b gb w' (numS st size).2 ∧ Step (fun x => x ≠ b) w w' ∧ w'.heap.size = w.heap.size := by
  rw [numS_eq st size hs]
  have hpl : (cutL st size).length ≤ 8 := by
    cases st with
    | none => simp [cutL]
    | some l =>
      unfold cutL; dsimp only
      by_cases h : size ≤ l.length
      · rw [if_pos h, List.length_take]; omega
      · rw [if_neg h]; simp
  have HC := Lib.hid (rcut_any w b gb st size h (by omega))
  have HZ := Lib.hid (sized_any w size hs)
  have hs8 : 1 ≤ size ∧ size ≤ 8 := by omega
  have hbl := h.lt
  clear h hs
  generalize cutL st size = p at *
  generalize cutS st size = st' at *
  go_enter Try.func48, Try.ntmps48
  go_wp2_with fail
  refine HZ.out.mono ?_
  rintro e w2 ⟨rfl, rfl⟩
  go_wp2_with fail
  refine HC.out.mono ?_
  rintro e w3 ⟨v, rfl, hv, hr3, hs3, hz3⟩
  obtain ⟨va, vb, voff, vcap, rfl, hvm, hvc, hat⟩ := hv.at
  have Hat := Lib.hid hat
  have Hr3 := Lib.hid hr3
  have Hs3 := Lib.hid hs3
  have Hz3 := Lib.hid hz3
  clear hv hat hr3 hs3 hz3 HC HZ
  go_wp2_with fail
  go_loop [5, 6, 7, 19] (fun n _ _ i => ∃ k : Nat, k ≤ p.length ∧ i = .int .i64 k ∧ n = .int .i64 (IntKind.i64.wrap (valL (p.take k) : Int))) (fun _ _ _ i => p.length - (intOf i).toNat)
  case atStart => exact ⟨0, Nat.zero_le _, rfl, rfl⟩
  case round =>
    obtain ⟨k, hk, rfl, rfl⟩ := hrel
    by_cases hlt : k < p.length
    · obtain rfl := Hat.out.addr (by omega)
      obtain ⟨c, hc⟩ : ∃ c, p[k]? = some c := ⟨_, List.getElem?_eq_getElem hlt⟩
      have g := Hat.out.byte1 k c hc
      have hkl : (p.take k).length = k := by rw [List.length_take]; omega
      have hvl := valL_lt (p.take k)
      rw [hkl] at hvl
      have hstep : bits .or .i64 (IntKind.i64.wrap (valL (p.take k) : Int)) (IntKind.i64.wrap ((c.toNat : Int) * 2 ^ (8 * k))) = IntKind.i64.wrap (valL (p.take (k + 1)) : Int) := by
        obtain ⟨h', rfl⟩ := List.getElem?_eq_some_iff.1 hc
        rw [List.take_succ_eq_append_getElem h', valL_snoc, hkl]
        exact or_step _ _ k (by omega) hvl p[k].toNat_lt
      rw [← wrap64_i, ← wrap64_i] at hstep
      have hc256 := c.toNat_lt
      have Hstep := Lib.hid hstep
      clear hstep hc
      go_wp2_with fail
      go_round
      case rel => exact ⟨k + 1, by omega, by go_num, by rw [← Hstep.out]⟩
      case measure => simp [intOf]; omega
    · have He : Hid (p.take k = p) := Lib.hid (List.take_of_length_le (by omega))
      rw [He.out]
      go_wp2
      go_ret
      exact ⟨rfl, Hr3.out, Hs3.out, Hz3.out⟩

end Go.Proofs.Ytbliedldlimpgaa

namespace Go.Proofs.Ytbliedldlimpgaa
set_option linter.unusedVariables false
set_option linter.unusedSimpArgs false
open Go.RowKit

/-- a slice of bytes as a text -/
theorem run_str {S : Nat → Prop} {w : World} {v : Value} {l : List UInt8} (h : LB kByte S w v l) : (Go.convert 36 9 v).run Try.prog w = Result.ok (.string ⟨l.toArray⟩) w := by
  obtain ⟨a, b, off, cap, hv, hm, ha, hc, hS, hr⟩ := h
  subst hv
  cases a with
  | none =>
    have : l = [] := by
      cases l with
      | nil => rfl
      | cons y m => exact absurd (ha (by simp)) (by simp)
    subst this
    exact run_convert_bytes_nil w 36 5 Try.underlying36 Try.underlying5 _ _ 9 Try.underlying9
  | some ad =>
    have hl : (loadCells ad l.length).run Try.prog w = .ok ((l.map fun c => (c.toNat : Int)).map (Value.int .u8)).toArray w := by
      have := run_loadCells_list (P := Try.prog) w ad ((l.map fun c => (c.toNat : Int)).map (Value.int .u8)) (fun j u hj => by
        rw [List.getElem?_map, List.getElem?_map] at hj
        cases hc' : l[j]? with
        | none => rw [hc'] at hj; simp at hj
        | some c =>
          rw [hc'] at hj
          simp at hj
          subst hj
          have hl0 : 0 < l.length := by have := (List.getElem?_eq_some_iff.1 hc').1; omega
          obtain rfl : ad = ⟨b, off, none⟩ := by have := ha hl0; simpa using this
          obtain ⟨row, r1, r2⟩ := hr j c hc'
          have := r2 0 (.int .u8 c.toNat) (by rw [r1]; rfl)
          have hk : kByte.k = 1 := rfl
          rw [hk] at this
          simpa [Addr.add_lit] using this)
      simpa using this
    rw [run_convert_bytes_string w 36 9 5 _ _ cap Try.underlying36 Try.underlying5 Try.underlying9, run_bytesToString w ad l.length cap _ hl, foldl_push_bytes]
    have e : (l.map fun c => (c.toNat : Int)).map (fun n => UInt8.ofNat n.toNat) = l := by
      rw [List.map_map]
      have : ((fun n : Int => UInt8.ofNat n.toNat) ∘ fun c : UInt8 => (c.toNat : Int)) = id := by funext c; simp
      rw [this, List.map_id]
    rw [e]
    simp [ByteArray.empty, ByteArray.emptyWithCapacity]
    rfl

/-- bytes that a reader answers, and what is left -/
def part0 (st : Option (List UInt8)) (size most : Nat) : Option (List UInt8) := if (most : Int) < (numS st size).1 then none else (numS st size).2
def partS (st : Option (List UInt8)) (size most : Nat) : List UInt8 × Option (List UInt8) := (cutL (part0 st size most) (numS st size).1.toNat, cutS (part0 st size most) (numS st size).1.toNat)
theorem numS_none (size : Nat) : numS none size = (0, none) := rfl
theorem numS_bad {l : List UInt8} {size : Nat} (h : numP size l = none) : numS (some l) size = (0, none) := by simp only [numS, h]
theorem numS_good {l t : List UInt8} {size : Nat} {n : Int} (h : numP size l = some (n, t)) : numS (some l) size = (n, some t) := by simp only [numS, h]
theorem numS_range (st : Option (List UInt8)) (size : Nat) (hs : size = 1 ∨ size = 2 ∨ size = 4) : 0 ≤ (numS st size).1 ∧ (numS st size).1 < 4294967296 := by
  cases st with
  | none => rw [numS_none]; decide
  | some l =>
    cases hp : numP size l with
    | none => rw [numS_bad hp]; decide
    | some q =>
      obtain ⟨n, t⟩ := q
      have := ((num_codec size (by omega)).back _ _ _ hp).1
      unfold okN at this
      rw [if_neg (by omega)] at this
      have p1 : (256 : Int) ^ 1 = 256 := by decide
      have p2 : (256 : Int) ^ 2 = 65536 := by decide
      have p4 : (256 : Int) ^ 4 = 4294967296 := by decide
      rw [numS_good hp]
      dsimp only
      rcases hs with rfl | rfl | rfl <;> simp only [p1, p2, p4] at this <;> omega
theorem part0_none {st : Option (List UInt8)} {size most : Nat} (h : (numS st size).2 = none) : part0 st size most = none := by
  unfold part0; rw [h]; split <;> rfl
theorem partS_none (size most : Nat) : partS none size most = ([], none) := by
  unfold partS; rw [part0_none (by rw [numS_none])]; rfl
theorem partS_bad {l : List UInt8} {size most : Nat} (hs : size = 1 ∨ size = 2 ∨ size = 4) (h : partP size most l = none) : partS (some l) size most = ([], none) := by
  have hr := numS_range (some l) size hs
  cases hp : numP size l with
  | none => unfold partS; rw [part0_none (by rw [numS_bad hp])]; rfl
  | some q =>
    obtain ⟨n, t⟩ := q
    rw [numS_good hp] at hr
    dsimp only at hr
    unfold partS part0
    rw [numS_good hp]
    dsimp only
    by_cases h1 : (most : Int) < n
    · rw [if_pos h1]; rfl
    · rw [if_neg h1]
      have h3 : ¬ n.toNat ≤ t.length := by
        intro h3
        rw [partP, bindP_at hp, if_pos (by omega)] at h
        cases h
      unfold cutL cutS
      dsimp only
      rw [if_neg h3, if_neg h3]
theorem partS_good {l x t : List UInt8} {size most : Nat} (hs : size = 1 ∨ size = 2 ∨ size = 4) (h : partP size most l = some (x, t)) : partS (some l) size most = (x, some t) := by
  have hr := numS_range (some l) size hs
  obtain ⟨n, u, hp, h2⟩ := bindP_some h
  rw [numS_good hp] at hr
  dsimp only at hr
  by_cases hc : n ≤ (most : Int) ∧ n ≤ u.length
  · rw [if_pos hc] at h2
    obtain ⟨rfl, rfl⟩ := Prod.mk.inj (Option.some.inj h2)
    unfold partS part0
    rw [numS_good hp]
    dsimp only
    rw [if_neg (by omega)]
    unfold cutL cutS
    dsimp only
    rw [if_pos (by omega), if_pos (by omega)]
  · rw [if_neg hc] at h2; cases h2

set_option maxHeartbeats 8000000 in
set_option maxRecDepth 100000 in
theorem rpart_any (w : World) (b gb : Nat) (st : Option (List UInt8)) (size most : Nat) (h : RB b gb w st) (hs : size = 1 ∨ size = 2 ∨ size = 4) (hm : most ≤ 100000000) :
    Calls Try.prog 89 #[.pointer (some ⟨b, 0, none⟩), .int .i64 (size : Int), .int .i64 (most : Int)] w fun e w' => ∃ v, e = .returned v ∧ LB kByte (fun x => x = gb) w' v (partS st size most).1 ∧ RB b gb w' (partS st size most).2 ∧ Step (fun x => x ≠ b) w w' ∧ w'.heap.size = w.heap.size := by
  obtain ⟨f, v, r, h1, h2, h3, h4, h5⟩ := h.ex
  obtain ⟨va, vc, rfl⟩ := h2.form
  have hc1 : w.cell? ⟨b, 1, none⟩ = some (.slice va r.length vc) := by rw [Lib.cell_of_heap h1]; rfl
  have hbl := h.lt
  have H2 := Lib.hid h2
  have HN := Lib.hid (rnum_any w b gb st size h (by omega))
  have hr := numS_range st size hs
  obtain ⟨n, hn⟩ : ∃ n : Nat, (numS st size).1 = n := ⟨(numS st size).1.toNat, by omega⟩
  have hp0 : part0 st size most = if most < n then none else (numS st size).2 := by
    unfold part0
    rw [hn]
    by_cases hx : most < n
    · rw [if_pos hx, if_pos (by omega)]
    · rw [if_neg hx, if_neg (by omega)]
  have Hres : Hid (partS st size most = (cutL (part0 st size most) n, cutS (part0 st size most) n)) := Lib.hid (by unfold partS; rw [hn, Int.toNat_natCast])
  rw [hn] at HN hr
  rw [Hres.out]
  clear h h1 h2 h5 hn Hres
  generalize (numS st size).2 = st1 at *
  generalize part0 st size most = st2 at *
  go_enter Try.func89, Try.ntmps89
  go_wp2_with fail
  refine HN.out.mono ?_
  rintro e w2 ⟨rfl, hr2, hs2, hz2⟩
  have HS2 := Lib.hid hs2
  have hbl2 := hr2.lt
  clear hc1 HN
  -- what follows the test
  have HK : Hid (∀ w3, RB b gb w3 st2 → Step (fun x => x ≠ b) w w3 → w3.heap.size = w.heap.size → Calls Try.prog 90 #[.pointer (some ⟨b, 0, none⟩), .int .i64 (n : Int)] w3 fun e w' => ∃ v, e = .returned v ∧ LB kByte (fun x => x = gb) w' v (cutL st2 n) ∧ RB b gb w' (cutS st2 n) ∧ Step (fun x => x ≠ b) w w' ∧ w'.heap.size = w.heap.size) := Lib.hid (fun w3 hr hs hz => (rcut_any w3 b gb st2 n hr (by omega)).mono (by
    rintro e w4 ⟨v, he, hv, hr4, hs4, hz4⟩
    exact ⟨v, he, hv, hr4, hs.trans hs4, hz4.trans hz⟩))
  by_cases hx : most < n
  · rw [if_pos hx] at hp0
    subst hp0
    have hd : decide ((most : Int) < (n : Int)) = true := by rw [decide_eq_true_eq]; omega
    have HF := Lib.hid (fail_any w2 b gb 2 st1 (by decide) hr2)
    clear hr2 hs2
    go_wp2_with fail
    refine HF.out.mono ?_
    rintro e w3 ⟨rfl, hr3, hs3, hz3⟩
    have HC := Lib.hid (HK.out w3 hr3 (HS2.out.trans hs3) (hz3.trans hz2))
    have hbl3 := hr3.lt
    clear hr3 hs3 HF
    go_wp2_with fail
    refine HC.out.mono ?_
    rintro e w4 ⟨v, rfl, hv4, hr4, hs4, hz4⟩
    obtain ⟨f4, hc4, hf4⟩ := hr4.first
    have HSo := Lib.hid (sound_any w4 b f4 hc4)
    rw [hf4] at HSo
    obtain ⟨f', v', r', h1', _, _, _, hf'⟩ := hr4.ex
    have e4 : cutS none n = none := rfl
    rw [e4] at hf'
    have c1' : w4.cell? ⟨b, 1, none⟩ = some v' := by rw [Lib.cell_of_heap h1']; rfl
    have fx' : w4.frozen? ⟨b, 1, none⟩ = false := Lib.frozen_of_heap h1' 1
    obtain ⟨va4, vc4, rfl⟩ := hv4.form
    have hwas := H2.out.keeps (fun x hx => by have hx : x = gb := hx; subst hx; exact hs4.block _ h3)
    have Hfin : Hid (RB b gb (w4.setCell ⟨b, 1, none⟩ (.slice va r.length vc)) (cutS none n)) := Lib.hid (RB.put h1' hwas h3 (by omega) hf')
    have Hv4 := Lib.hid (hv4.keeps (w' := w4.setCell ⟨b, 1, none⟩ (.slice va r.length vc)) (fun x hx => by have hx : x = gb := hx; subst hx; exact Below.heap_setCell _ _ _ _ h3))
    have Hs4 := Lib.hid (hs4.trans (setCell_step w4 b 1 (.slice va r.length vc)))
    have Hz4 := Lib.hid hz4
    have hbl4 := hr4.lt
    clear hv4 hr4 hs4 hz4 hc4 hwas h1' HC
    go_wp2_with fail
    refine HSo.out.mono ?_
    rintro e w5 ⟨rfl, rfl⟩
    go_wp2
    go_ret
    exact ⟨_, rfl, Hv4.out, Hfin.out, Hs4.out, by rw [World.size_setCell]; exact Hz4.out⟩
  · rw [if_neg hx] at hp0
    subst hp0
    have hd : decide ((most : Int) < (n : Int)) = false := by rw [decide_eq_false_iff_not]; omega
    have HC := Lib.hid (HK.out w2 hr2 HS2.out hz2)
    clear hr2 hs2
    go_wp2_with fail
    refine HC.out.mono ?_
    rintro e w4 ⟨v, rfl, hv4, hr4, hs4, hz4⟩
    obtain ⟨f4, hc4, hf4⟩ := hr4.first
    have HSo := Lib.hid (sound_any w4 b f4 hc4)
    rw [hf4] at HSo
    obtain ⟨f', v', r', h1', _, _, _, hf'⟩ := hr4.ex
    have c1' : w4.cell? ⟨b, 1, none⟩ = some v' := by rw [Lib.cell_of_heap h1']; rfl
    have fx' : w4.frozen? ⟨b, 1, none⟩ = false := Lib.frozen_of_heap h1' 1
    obtain ⟨va4, vc4, rfl⟩ := hv4.form
    have hwas := H2.out.keeps (fun x hx => by have hx : x = gb := hx; subst hx; exact hs4.block _ h3)
    have hbl4 := hr4.lt
    cases hst : cutS st2 n with
    | none =>
      have Hst := Lib.hid hst
      rw [hst] at HSo hf'
      have Hfin : Hid (RB b gb (w4.setCell ⟨b, 1, none⟩ (.slice va r.length vc)) none) := Lib.hid (RB.put h1' hwas h3 (by omega) hf')
      have Hv4 := Lib.hid (hv4.keeps (w' := w4.setCell ⟨b, 1, none⟩ (.slice va r.length vc)) (fun x hx => by have hx : x = gb := hx; subst hx; exact Below.heap_setCell _ _ _ _ h3))
      have Hs4 := Lib.hid (hs4.trans (setCell_step w4 b 1 (.slice va r.length vc)))
      have Hz4 := Lib.hid hz4
      clear hv4 hr4 hs4 hz4 hc4 hwas h1' HC hst
      go_wp2_with fail
      refine HSo.out.mono ?_
      rintro e w5 ⟨rfl, rfl⟩
      go_wp2
      go_ret
      exact ⟨_, rfl, Hv4.out, by rw [Hst.out]; exact Hfin.out, Hs4.out, by rw [World.size_setCell]; exact Hz4.out⟩
    | some l4 =>
      have Hst := Lib.hid hst
      rw [hst] at HSo hr4
      have Hr4 := Lib.hid hr4
      have Hv4 := Lib.hid hv4
      have Hs4 := Lib.hid hs4
      have Hz4 := Lib.hid hz4
      clear hv4 hr4 hs4 hz4 hc4 hwas h1' HC hst c1' fx' hf'
      go_wp2_with fail
      refine HSo.out.mono ?_
      rintro e w5 ⟨rfl, rfl⟩
      go_wp2
      go_ret
      exact ⟨_, rfl, Hv4.out, by rw [Hst.out]; exact Hr4.out, Hs4.out, Hz4.out⟩

end Go.Proofs.Ytbliedldlimpgaa
