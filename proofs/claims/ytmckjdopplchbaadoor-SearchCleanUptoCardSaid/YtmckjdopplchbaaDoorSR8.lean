/- Lemmas that the claim is proved from: what calls of functions of the program come to (contracts), and plain laws. Each lemma bears its own conditions. -/
import Derived.Test.YtmckjdopplchbaaDoorSR7
namespace Go.Proofs.YtmckjdopplchbaaDoor
set_option linter.unusedVariables false
set_option linter.unusedSimpArgs false
open Go.RowKit

def wLibDir : List UInt8 := [47, 108, 105, 98]
def wUsrDir : List UInt8 := [47, 117, 115, 114, 47, 108, 105, 98]
/-- what is known, behind others -/
def knowL (name : List UInt8) (ks : List (List UInt8 × List UInt8)) (l : List (List UInt8)) : List (List UInt8) :=
  match knownL name ks with
  | some p => putL l p
  | none => l
theorem knowL_len (name : List UInt8) (ks : List (List UInt8 × List UInt8)) (l : List (List UInt8)) : (knowL name ks l).length ≤ l.length + 1 := by
  unfold knowL
  split
  · exact putL_len _ _
  · omega
/-- the candidates of a name without a slash -/
def restL (name o : List UInt8) (rp ps : List (List UInt8)) (ks : List (List UInt8 × List UInt8)) : List (List UInt8) :=
  inL name o (knowL name ks (inL name o (inL name o [] rp) ps)) [wLibDir, wUsrDir]
/-- the candidates, and the errno -/
def candL (name o : List UInt8) (rp ps : List (List UInt8)) (ks : List (List UInt8 × List UInt8)) : List (List UInt8) × Int :=
  if namedN name = 0 then
    if slashB name = true then
      if (expandL name o).2 = 0 then
        if (cleanL (expandL name o).1).2 = 0 then ([(cleanL (expandL name o).1).1], 0) else ([], (cleanL (expandL name o).1).2)
      else ([], (expandL name o).2)
    else (restL name o rp ps ks, 0)
  else ([], 120)
theorem namedN_len {name : List UInt8} (h : namedN name = 0) : name ≠ [] ∧ name.length ≤ 200 := by
  unfold namedN at h
  split at h
  · cases h
  · rename_i hn
    simp only [not_or] at hn
    exact ⟨hn.1, by omega⟩
theorem namedN_120 {name : List UInt8} (h : namedN name ≠ 0) : namedN name = 120 := by
  unfold namedN at h ⊢
  split at h
  · rename_i hc; rw [if_pos hc]
  · exact absurd rfl h

/-- the post of Candidates -/
def CandPost (w : World) (r : List (List UInt8) × Int) (e : Ending) (w' : World) : Prop := ∃ u, e = .returned (.tuple #[u, .int .i64 r.2]) ∧ OwnS w.heap.size w' u r.1 ∧ Below w.heap.size w w'

theorem ownS_one {B : Nat} {w : World} (x : List UInt8) (hB : B ≤ w.heap.size) : OwnS B (w.alloc (.cells #[.string ⟨x.toArray⟩] 9 (0, 0))) (.slice (some ⟨w.heap.size, 0, none⟩) 1 1) [x] :=
  ⟨by simp [Go.Proofs.YtmckjdopplchbaaDoor.strs], Or.inr ⟨w.heap.size, 1, #[.string ⟨x.toArray⟩], rfl, hB, heap_alloc_new w _, Nat.le_refl _, by unfold maxLen; omega, rfl, by simp [Go.Proofs.YtmckjdopplchbaaDoor.strs]⟩⟩
theorem CandPost.mk {w w' : World} {r : List (List UInt8) × Int} {u : Value} {l : List (List UInt8)} {n : Int} (h : r = (l, n)) (hu : OwnS w.heap.size w' u l) (hb : Below w.heap.size w w') : CandPost w r (.returned (.tuple #[u, .int .i64 n])) w' := by
  subst h
  exact ⟨u, rfl, hu, hb⟩

set_option maxHeartbeats 4000000 in
set_option maxRecDepth 100000 in
theorem cand_slash (m : Int) (w : World) (name o : List UInt8) (rpv pv cv : Value) (rp ps : List (List UInt8)) (ks : List (List UInt8 × List UInt8)) (hm : w.cell? ⟨0, 0, none⟩ = some (.int .i64 m))
    (ho : o.length ≤ 5000) (hz : name.length ≤ 9223372036854775807) (hc : namedN name ≠ 0 ∨ slashB name = true) :
    Calls Tryd.prog 22 #[.string ⟨name.toArray⟩, .string ⟨o.toArray⟩, rpv, .agg #[pv, cv]] w (CandPost w (candL name o rp ps ks)) := by
  have h0 : 0 < w.heap.size := World.block_lt_of_cell? w _ hm
  have Hm := Lib.hid hm
  have Hnm := Lib.hid (fun (wx : World) => named_any wx name hz)
  clear hm
  by_cases hn : namedN name = 0
  case neg =>
    have Hr : Hid (candL name o rp ps ks = ([], 120)) := Lib.hid (if_neg hn)
    rw [namedN_120 hn] at Hnm
    clear hn hc
    go_enter Tryd.func22, Tryd.ntmps22
    go_wp2_with fail
    refine (Hnm.out _).mono ?_
    rintro e w2 ⟨rfl, rfl⟩
    go_wp2
    go_ret2
    exact CandPost.mk Hr.out (OwnS.nil _ _) ((((Below.refl _ _).alloc (Nat.le_refl _) _).alloc (by simp) _).alloc (by simp; omega) _)
  case pos =>
    have hs : slashB name = true := hc.resolve_left (fun h => h hn)
    have Hct := Lib.hid (fun (wx : World) => contains_any wx name)
    rw [hs] at Hct
    rw [hn] at Hnm
    have Hr : Hid (candL name o rp ps ks = if (expandL name o).2 = 0 then (if (cleanL (expandL name o).1).2 = 0 then ([(cleanL (expandL name o).1).1], 0) else ([], (cleanL (expandL name o).1).2)) else ([], (expandL name o).2)) := Lib.hid (by
      rw [candL, if_pos hn, if_pos hs])
    have HE := Lib.hid (fun (wx : World) (h : wx.cell? ⟨0, 0, none⟩ = some (.int .i64 m)) => expand_any m wx name o h (Or.inl ho))
    have HC := Lib.hid (fun (wx : World) (h : wx.cell? ⟨0, 0, none⟩ = some (.int .i64 m)) => clean_any m wx (expandL name o).1 h)
    clear hn hc hs
    generalize expandL name o = x at *
    obtain ⟨x1, x2⟩ := x
    simp only at Hr HE HC
    go_enter Tryd.func22, Tryd.ntmps22
    go_wp2_with fail
    refine (Hnm.out _).mono ?_
    rintro e w2 ⟨rfl, rfl⟩
    go_wp2_with fail
    refine (Hct.out _).mono ?_
    rintro e w2 ⟨rfl, rfl⟩
    go_wp2_with fail
    refine (HE.out _ ?_).mono ?_
    · go_simp; exact Hm.out
    rintro e w2 ⟨rfl, hb2⟩
    have Hb2 := Lib.hid (((((Below.refl w.heap.size w).alloc (Nat.le_refl _) (.cells #[.string ⟨name.toArray⟩] 9 (0, 0))).alloc (by simp) (.cells #[.string ⟨o.toArray⟩] 9 (0, 0))).alloc (by simp; omega) (.cells #[pv, cv] 38 (0, 0))).trans (hb2.mono (by simp; omega)))
    have hm2 : w2.cell? ⟨0, 0, none⟩ = some (.int .i64 m) := by rw [Hb2.out.cell (p := ⟨0, 0, none⟩) h0]; exact Hm.out
    clear hb2
    by_cases hx : x2 = 0
    case neg =>
      have Hr2 : Hid (candL name o rp ps ks = ([], x2)) := Lib.hid (by rw [Hr.out, if_neg hx])
      go_wp2
      go_ret2
      exact CandPost.mk Hr2.out (OwnS.nil _ _) Hb2.out
    case pos =>
      subst hx
      have HC2 := Lib.hid (HC.out w2 hm2)
      simp only [if_true] at Hr
      generalize cleanL x1 = y at *
      obtain ⟨y1, y2⟩ := y
      simp only at Hr HC2
      clear hm2 HC
      go_wp2_with fail
      refine HC2.out.mono ?_
      rintro e w3 ⟨rfl, hb3⟩
      have Hb3 := Lib.hid (Hb2.out.trans (hb3.mono Hb2.out.size))
      have hB3 := Hb3.out.size
      clear hb3
      by_cases hy : y2 = 0
      case neg =>
        have Hr2 : Hid (candL name o rp ps ks = ([], y2)) := Lib.hid (by rw [Hr.out, if_neg hy])
        go_wp2
        go_ret2
        exact CandPost.mk Hr2.out (OwnS.nil _ _) Hb3.out
      case pos =>
        subst hy
        have Hr2 : Hid (candL name o rp ps ks = ([y1], 0)) := Lib.hid (by rw [Hr.out]; rfl)
        go_wp2
        go_ret2
        exact CandPost.mk Hr2.out (ownS_one _ hB3) (Hb3.out.alloc hB3 _)

/-- four new blocks -/
theorem world_four (w : World) (a b c d : Obj) : ((((w.alloc a).alloc b).alloc c).alloc d).heap[w.heap.size]? = some a ∧ ((((w.alloc a).alloc b).alloc c).alloc d).heap[w.heap.size + 1]? = some b ∧
    ((((w.alloc a).alloc b).alloc c).alloc d).heap[w.heap.size + 1 + 1]? = some c ∧ ((((w.alloc a).alloc b).alloc c).alloc d).heap[w.heap.size + 1 + 1 + 1]? = some d ∧ ((((w.alloc a).alloc b).alloc c).alloc d).heap.size = w.heap.size + 1 + 1 + 1 + 1 ∧
    Below w.heap.size w ((((w.alloc a).alloc b).alloc c).alloc d) := by
  refine ⟨?_, ?_, ?_, ?_, by simp, ((((Below.refl _ _).alloc (Nat.le_refl _) _).alloc (by simp) _).alloc (by simp; omega) _).alloc (by simp; omega) _⟩
  · rw [Lib.alloc_old _ _ _ (by simp; omega), Lib.alloc_old _ _ _ (by simp; omega), Lib.alloc_old _ _ _ (by simp)]
    exact heap_alloc_new w _
  · rw [Lib.alloc_old _ _ _ (by simp), Lib.alloc_old _ _ _ (by simp)]
    simpa only [World.size_alloc] using heap_alloc_new (w.alloc a) b
  · rw [Lib.alloc_old _ _ _ (by simp)]
    simpa only [World.size_alloc] using heap_alloc_new ((w.alloc a).alloc b) c
  · simpa only [World.size_alloc] using heap_alloc_new (((w.alloc a).alloc b).alloc c) d

theorem strsIn_lit (w : World) : StrsIn w.heap.size (w.alloc (.cells #[.string ⟨#[47, 108, 105, 98]⟩, .string ⟨#[47, 117, 115, 114, 47, 108, 105, 98]⟩] 9 (0, 0))) (.slice (some ⟨w.heap.size, 0, none⟩) 2 2) [wLibDir, wUsrDir] := by
  refine ⟨some ⟨w.heap.size, 0, none⟩, 0, 2, rfl, by simp, fun _ => rfl, by simp, fun i hi => ?_⟩
  have h := heap_alloc_new w (.cells #[.string ⟨#[47, 108, 105, 98]⟩, .string ⟨#[47, 117, 115, 114, 47, 108, 105, 98]⟩] 9 (0, 0))
  rw [Nat.zero_add, Lib.cell_of_heap h]
  match i, hi with
  | 0, _ => rfl
  | 1, _ => rfl
theorem StrsIn.below {b B : Nat} {w w' : World} {v : Value} {xs : List (List UInt8)} (h : StrsIn b w v xs) (hb : Below B w w') (hlt : b < B) : StrsIn b w' v xs := by
  obtain ⟨a, off, cap, hv, hm, ha, hbl, hc⟩ := h
  exact ⟨a, off, cap, hv, hm, ha, Nat.lt_of_lt_of_le hbl hb.size, fun i hi => by rw [hb.cell (p := ⟨b, off + i, none⟩) hlt]; exact hc i hi⟩
theorem OutAt.alloc {ob b : Nat} {w : World} {xs : List (List UInt8)} (h : OutAt ob b w xs) (o : Obj) : OutAt ob b (w.alloc o) xs := by
  have hlt := h.out.lt
  obtain ⟨x, h1, h2, h3⟩ := h
  exact ⟨x, by rw [Lib.alloc_old _ _ _ hlt]; exact h1, h2.alloc o, h3⟩
theorem OutIs.alloc {ob : Nat} {w : World} {xs : List (List UInt8)} (h : OutIs ob w xs) (o : Obj) : OutIs ob (w.alloc o) xs := by
  have hlt := h.lt
  obtain ⟨x, h1, h2⟩ := h
  exact ⟨x, by rw [Lib.alloc_old _ _ _ hlt]; exact h1, h2.alloc o⟩

set_option maxHeartbeats 8000000 in
set_option maxRecDepth 100000 in
theorem cand_plain (m : Int) (w : World) (name o : List UInt8) (rpv pv cv : Value) (rp ps : List (List UInt8)) (ks : List (List UInt8 × List UInt8)) (hm : w.cell? ⟨0, 0, none⟩ = some (.int .i64 m))
    (hrp : StrsB w.heap.size w rpv rp) (hps : StrsB w.heap.size w pv ps) (hks : PairsB w.heap.size w cv ks) (ho : o.length ≤ 5000) (hl : rp.length + ps.length ≤ 16000000) (hn : namedN name = 0) (hs : slashB name = false) :
    Calls Tryd.prog 22 #[.string ⟨name.toArray⟩, .string ⟨o.toArray⟩, rpv, .agg #[pv, cv]] w (CandPost w (candL name o rp ps ks)) := by
  have h0 : 0 < w.heap.size := World.block_lt_of_cell? w _ hm
  have hnl := (namedN_len hn).2
  have Hm := Lib.hid hm
  have Hnm := Lib.hid (fun (wx : World) => named_any wx name (by omega))
  have Hct := Lib.hid (fun (wx : World) => contains_any wx name)
  rw [hs] at Hct
  rw [hn] at Hnm
  have Hr : Hid (candL name o rp ps ks = (restL name o rp ps ks, 0)) := Lib.hid (by rw [candL, if_pos hn, if_neg (by rw [hs]; decide)])
  obtain ⟨b1, hb1, hin1⟩ := hrp.in h0 (Nat.le_refl _)
  obtain ⟨b2, hb2, hin2⟩ := hps.in h0 (Nat.le_refl _)
  have Hin1 := Lib.hid hin1
  have Hin2 := Lib.hid hin2
  have Hks := Lib.hid hks
  clear hm hn hs hrp hps hks hin1 hin2
  go_enter Tryd.func22, Tryd.ntmps22
  go_wp2_with fail
  refine (Hnm.out _).mono ?_
  rintro e w2 ⟨rfl, rfl⟩
  go_wp2_with fail
  refine (Hct.out _).mono ?_
  rintro e w2 ⟨rfl, rfl⟩
  go_wp2_with fail
  obtain ⟨f0, f1, f2, f3, f4, f5⟩ := world_four w (.cells #[.string ⟨name.toArray⟩] 9 (0, 0)) (.cells #[.string ⟨o.toArray⟩] 9 (0, 0)) (.cells #[pv, cv] 38 (0, 0)) (.cells #[.slice none 0 0] 29 (0, 0))
  generalize hw4 : (((w.alloc (.cells #[.string ⟨name.toArray⟩] 9 (0, 0))).alloc (.cells #[.string ⟨o.toArray⟩] 9 (0, 0))).alloc (.cells #[pv, cv] 38 (0, 0))).alloc (.cells #[.slice none 0 0] 29 (0, 0)) = w4 at *
  clear hw4
  have F0 := Lib.hid f0
  have F1 := Lib.hid f1
  have F2 := Lib.hid f2
  have F4 := Lib.hid f4
  have F5 := Lib.hid f5
  have HO4 : Hid (OutIs (w.heap.size + 1 + 1 + 1) w4 []) := Lib.hid ⟨_, f3, OwnS.nil _ _⟩
  clear f0 f1 f2 f3 f4 f5
  have hin1 : StrsIn b1 w4 rpv rp := Hin1.out.below F5.out hb1
  refine (dirs_in m (w.heap.size + 1 + 1 + 1) (w.heap.size + 1) w.heap.size b1 w4 rpv [] rp name o (by rw [F5.out.cell (p := ⟨0, 0, none⟩) h0]; exact Hm.out) (by omega) (by rw [Lib.cell_of_heap F1.out]; rfl) (by rw [Lib.cell_of_heap F0.out]; rfl) (by omega) (by omega) (HO4.out.at (Or.inl (by omega))) hin1 (by omega) (by simp; omega) (by omega) ho).mono ?_
  clear hin1
  rintro e w5 ⟨rfl, ho5, hb5⟩
  have HO5 := Lib.hid ho5
  have B5 := Lib.hid hb5
  have c5 : w5.cell? ⟨w.heap.size + 1 + 1, 0, none⟩ = some pv := by rw [B5.out.cell (p := ⟨w.heap.size + 1 + 1, 0, none⟩) (by simp), Lib.cell_of_heap F2.out]; rfl
  clear ho5 hb5
  have Q5 := Lib.hid (F5.out.trans (B5.out.mono (show w.heap.size ≤ w.heap.size + 1 + 1 + 1 by omega)))
  have hl1 : (inL name o [] rp).length ≤ rp.length := by have := inL_len name o rp []; simpa using this
  go_wp2_with fail
  have hin2 : StrsIn b2 w5 pv ps := Hin2.out.below Q5.out hb2
  refine (dirs_in m (w.heap.size + 1 + 1 + 1) (w.heap.size + 1) w.heap.size b2 w5 pv (inL name o [] rp) ps name o (by rw [Q5.out.cell (p := ⟨0, 0, none⟩) h0]; exact Hm.out) (by omega) (by rw [B5.out.cell (p := ⟨w.heap.size + 1, 0, none⟩) (by simp), Lib.cell_of_heap F1.out]; rfl) (by rw [B5.out.cell (p := ⟨w.heap.size, 0, none⟩) (by simp; omega), Lib.cell_of_heap F0.out]; rfl) (by omega) (by omega) (HO5.out.at (Or.inl (by omega))) hin2 (by omega) (by omega) (by omega) ho).mono ?_
  clear hin2
  rintro e w6 ⟨rfl, ho6, hb6⟩
  have HO6 := Lib.hid ho6
  have B6 := Lib.hid (B5.out.trans hb6)
  have Q6 := Lib.hid (F5.out.trans (B6.out.mono (show w.heap.size ≤ w.heap.size + 1 + 1 + 1 by omega)))
  have c6 : w6.cell? ⟨w.heap.size + 1 + 1, 0, none⟩ = some pv := by rw [B6.out.cell (p := ⟨w.heap.size + 1 + 1, 0, none⟩) (by simp), Lib.cell_of_heap F2.out]; rfl
  have d6 : w6.cell? ⟨w.heap.size + 1 + 1, 1, none⟩ = some cv := by rw [B6.out.cell (p := ⟨w.heap.size + 1 + 1, 1, none⟩) (by simp), Lib.cell_of_heap F2.out]; rfl
  have n6 : w6.cell? ⟨w.heap.size, 0, none⟩ = some (.string ⟨name.toArray⟩) := by rw [B6.out.cell (p := ⟨w.heap.size, 0, none⟩) (by simp; omega), Lib.cell_of_heap F0.out]; rfl
  have HC := Lib.hid (cached_any w6 pv cv ks name ((Hks.out.below Q6.out).mono Q6.out.size))
  have hl2 : (inL name o (inL name o [] rp) ps).length ≤ rp.length + ps.length := by have := inL_len name o ps (inL name o [] rp); omega
  have hz6 := ho6.lt
  clear ho6 hb6 c5
  have Hrest : Hid (restL name o rp ps ks = inL name o (knowL name ks (inL name o (inL name o [] rp) ps)) [wLibDir, wUsrDir]) := Lib.hid rfl
  generalize inL name o (inL name o [] rp) ps = L at *
  have hkl := knowL_len name ks L
  have Hkn : Hid (knowL name ks L = match knownL name ks with | some p => putL L p | none => L) := Lib.hid rfl
  cases hk : knownL name ks with
  | none =>
    rw [hk] at HC Hkn
    simp only [knownV, Option.getD, Option.isSome] at HC
    generalize knowL name ks L = L2 at *
    have HL : Hid (L2 = L) := Hkn
    clear hk
    go_wp2_with fail
    refine HC.out.mono ?_
    rintro e w7 ⟨rfl, hb7⟩
    have B8 := Lib.hid (B6.out.trans (hb7.mono (Nat.le_of_lt hz6)))
    have HO8 : Hid (OutIs (w.heap.size + 1 + 1 + 1) w7 L2) := Lib.hid (by rw [HL.out]; exact HO6.out.below hb7)
    clear hb7 c6 d6 n6
    go_wp2_with fail
    have s8 : StrsIn w7.heap.size (w7.alloc (.cells #[.string ⟨#[47, 108, 105, 98]⟩, .string ⟨#[47, 117, 115, 114, 47, 108, 105, 98]⟩] 9 (0, 0))) (.slice (some ⟨w7.heap.size, 0, none⟩) 2 2) [wLibDir, wUsrDir] := strsIn_lit w7
    have B9 := Lib.hid (B8.out.alloc (Nat.le_of_lt HO8.out.lt) (.cells #[.string ⟨#[47, 108, 105, 98]⟩, .string ⟨#[47, 117, 115, 114, 47, 108, 105, 98]⟩] 9 (0, 0)))
    have o9 := (HO8.out.at (Or.inr (Nat.le_refl _))).alloc (.cells #[.string ⟨#[47, 108, 105, 98]⟩, .string ⟨#[47, 117, 115, 114, 47, 108, 105, 98]⟩] 9 (0, 0))
    have hb9 := HO8.out.lt
    generalize w7.heap.size = b9 at *
    generalize w7.alloc (.cells #[.string ⟨#[47, 108, 105, 98]⟩, .string ⟨#[47, 117, 115, 114, 47, 108, 105, 98]⟩] 9 (0, 0)) = w9 at *
    refine (dirs_in m (w.heap.size + 1 + 1 + 1) (w.heap.size + 1) w.heap.size b9 w9 _ L2 [wLibDir, wUsrDir] name o (by rw [B9.out.cell (p := ⟨0, 0, none⟩) (by simp), F5.out.cell (p := ⟨0, 0, none⟩) h0]; exact Hm.out) (by omega) (by rw [B9.out.cell (p := ⟨w.heap.size + 1, 0, none⟩) (by simp), Lib.cell_of_heap F1.out]; rfl) (by rw [B9.out.cell (p := ⟨w.heap.size, 0, none⟩) (by simp; omega), Lib.cell_of_heap F0.out]; rfl) (by omega) (by omega) o9 s8 (by omega) (by simp; omega) (by omega) ho).mono ?_
    clear s8 o9
    rintro e wa ⟨rfl, hoa, hba⟩
    obtain ⟨z, hz, hown⟩ := hoa
    have cz : wa.cell? ⟨w.heap.size + 1 + 1 + 1, 0, none⟩ = some z := by rw [Lib.cell_of_heap hz]; rfl
    have Bz := Lib.hid (F5.out.trans ((B9.out.trans hba).mono (show w.heap.size ≤ w.heap.size + 1 + 1 + 1 by omega)))
    have Hown := Lib.hid (OwnS.mono hown (show w.heap.size ≤ w.heap.size + 1 + 1 + 1 + 1 by omega))
    obtain ⟨za, zc, hze⟩ := hown.form
    clear hz hown hba
    subst hze
    go_wp2
    go_ret2
    exact CandPost.mk Hr.out (by rw [Hrest.out]; exact Hown.out) Bz.out
  | some q =>
    rw [hk] at HC Hkn
    simp only [knownV, Option.getD, Option.isSome] at HC
    generalize knowL name ks L = L2 at *
    clear hk
    go_wp2_with fail
    refine HC.out.mono ?_
    rintro e w7 ⟨rfl, hb7⟩
    have B7 := Lib.hid (B6.out.trans (hb7.mono (Nat.le_of_lt hz6)))
    have HO7 := Lib.hid (HO6.out.below hb7)
    have HCl := Lib.hid (clean_any m w7 q (by rw [B7.out.cell (p := ⟨0, 0, none⟩) (by simp), F5.out.cell (p := ⟨0, 0, none⟩) h0]; exact Hm.out))
    clear hb7 c6 d6 n6
    have Hp : Hid (L2 = if (cleanL q).2 = 0 then L ++ [(cleanL q).1] else L) := Lib.hid (by rw [Hkn.out]; rfl)
    generalize cleanL q = y at *
    obtain ⟨y1, y2⟩ := y
    simp only at Hp HCl
    go_wp2_with fail
    refine HCl.out.mono ?_
    rintro e wc ⟨rfl, hbc⟩
    have Bc := Lib.hid (B7.out.trans (hbc.mono (Nat.le_of_lt HO7.out.lt)))
    have hoc := HO7.out.below hbc
    have hzc := hoc.lt
    have HOc := Lib.hid hoc
    clear hbc
    by_cases hy : y2 = 0
    · subst hy
      simp only [if_true] at Hp
      obtain ⟨x, hx, hown⟩ := hoc
      have Hx := Lib.hid hx
      have Hown := Lib.hid hown
      have cx : wc.cell? ⟨w.heap.size + 1 + 1 + 1, 0, none⟩ = some x := by rw [Lib.cell_of_heap hx]; rfl
      obtain ⟨xa, xc, hxe⟩ := hown.form
      clear hx hown
      subst hxe
      go_wp2_with (at_builtin; refine wpList_appendStr _ rfl (.tmp 67) (.tmp 69) rfl (w.heap.size + 1 + 1 + 1 + 1) _ L rfl (Hown.out.alloc _) wc.heap.size y1 rfl ?c1 (by omega) ?c2 ?_)
      case c1 => simp
      case c2 => first | omega | (simp; omega)
      intro v' w4' hown' hbel'
      obtain ⟨va, vc, rfl⟩ := hown'.form
      have hz4 : w4'.heap[w.heap.size + 1 + 1 + 1]? = some (.cells #[.slice xa L.length xc] 29 (0, 0)) := by
        rw [hbel'.block _ (by omega), Lib.alloc_old wc _ _ hzc]; exact Hx.out
      have c4 : w4'.cell? ⟨w.heap.size + 1 + 1 + 1, 0, none⟩ = some (.slice xa L.length xc) := by rw [Lib.cell_of_heap hz4]; rfl
      have f4 : w4'.frozen? ⟨w.heap.size + 1 + 1 + 1, 0, none⟩ = false := Lib.frozen_of_heap hz4 0
      have HO8' : Hid (OutIs (w.heap.size + 1 + 1 + 1) (w4'.setCell ⟨w.heap.size + 1 + 1 + 1, 0, none⟩ (.slice va (L.length + 1) vc)) L2) := Lib.hid (by
        rw [Hp.out]
        exact ⟨.slice va (L ++ [y1]).length vc, by simp [World.setCell, Array.getElem?_modify, hz4], ownsRow_setCell_below hown' (show w.heap.size + 1 + 1 + 1 < w.heap.size + 1 + 1 + 1 + 1 by omega) _⟩)
      have B8' := Lib.hid (((Bc.out.alloc (Nat.le_of_lt hzc) _).trans (hbel'.mono (show w.heap.size + 1 + 1 + 1 ≤ w.heap.size + 1 + 1 + 1 + 1 by omega))).setCell (p := ⟨w.heap.size + 1 + 1 + 1, 0, none⟩) (Nat.le_refl _) (.slice va (L.length + 1) vc))
      clear hown' hbel' hz4
      go_wp2_with fail
      have hsz8 : w4'.heap.size = (w4'.setCell ⟨w.heap.size + 1 + 1 + 1, 0, none⟩ (.slice va (L.length + 1) vc)).heap.size := by simp [World.setCell]
      rw [hsz8]
      clear hsz8 c4 f4
      generalize w4'.setCell ⟨w.heap.size + 1 + 1 + 1, 0, none⟩ (.slice va (L.length + 1) vc) = w8 at *
      have s8 : StrsIn w8.heap.size (w8.alloc (.cells #[.string ⟨#[47, 108, 105, 98]⟩, .string ⟨#[47, 117, 115, 114, 47, 108, 105, 98]⟩] 9 (0, 0))) (.slice (some ⟨w8.heap.size, 0, none⟩) 2 2) [wLibDir, wUsrDir] := strsIn_lit w8
      have B9 := Lib.hid (B8'.out.alloc (Nat.le_of_lt HO8'.out.lt) (.cells #[.string ⟨#[47, 108, 105, 98]⟩, .string ⟨#[47, 117, 115, 114, 47, 108, 105, 98]⟩] 9 (0, 0)))
      have o9 := (HO8'.out.at (Or.inr (Nat.le_refl _))).alloc (.cells #[.string ⟨#[47, 108, 105, 98]⟩, .string ⟨#[47, 117, 115, 114, 47, 108, 105, 98]⟩] 9 (0, 0))
      have hb9 := HO8'.out.lt
      generalize w8.heap.size = b9 at *
      generalize w8.alloc (.cells #[.string ⟨#[47, 108, 105, 98]⟩, .string ⟨#[47, 117, 115, 114, 47, 108, 105, 98]⟩] 9 (0, 0)) = w9 at *
      refine (dirs_in m (w.heap.size + 1 + 1 + 1) (w.heap.size + 1) w.heap.size b9 w9 _ L2 [wLibDir, wUsrDir] name o (by rw [B9.out.cell (p := ⟨0, 0, none⟩) (by simp), F5.out.cell (p := ⟨0, 0, none⟩) h0]; exact Hm.out) (by omega) (by rw [B9.out.cell (p := ⟨w.heap.size + 1, 0, none⟩) (by simp), Lib.cell_of_heap F1.out]; rfl) (by rw [B9.out.cell (p := ⟨w.heap.size, 0, none⟩) (by simp; omega), Lib.cell_of_heap F0.out]; rfl) (by omega) (by omega) o9 s8 (by omega) (by simp; omega) (by omega) ho).mono ?_
      clear s8 o9
      rintro e wa ⟨rfl, hoa, hba⟩
      obtain ⟨z, hz, hown⟩ := hoa
      have cz : wa.cell? ⟨w.heap.size + 1 + 1 + 1, 0, none⟩ = some z := by rw [Lib.cell_of_heap hz]; rfl
      have Bz := Lib.hid (F5.out.trans ((B9.out.trans hba).mono (show w.heap.size ≤ w.heap.size + 1 + 1 + 1 by omega)))
      have Hown := Lib.hid (OwnS.mono hown (show w.heap.size ≤ w.heap.size + 1 + 1 + 1 + 1 by omega))
      obtain ⟨za, zc, hze⟩ := hown.form
      clear hz hown hba
      subst hze
      go_wp2
      go_ret2
      exact CandPost.mk Hr.out (by rw [Hrest.out]; exact Hown.out) Bz.out
    · rw [if_neg hy] at Hp
      obtain rfl : L2 = L := Hp
      clear hoc
      go_wp2_with fail
      have s8 : StrsIn wc.heap.size (wc.alloc (.cells #[.string ⟨#[47, 108, 105, 98]⟩, .string ⟨#[47, 117, 115, 114, 47, 108, 105, 98]⟩] 9 (0, 0))) (.slice (some ⟨wc.heap.size, 0, none⟩) 2 2) [wLibDir, wUsrDir] := strsIn_lit wc
      have B9 := Lib.hid (Bc.out.alloc (Nat.le_of_lt HOc.out.lt) (.cells #[.string ⟨#[47, 108, 105, 98]⟩, .string ⟨#[47, 117, 115, 114, 47, 108, 105, 98]⟩] 9 (0, 0)))
      have o9 := (HOc.out.at (Or.inr (Nat.le_refl _))).alloc (.cells #[.string ⟨#[47, 108, 105, 98]⟩, .string ⟨#[47, 117, 115, 114, 47, 108, 105, 98]⟩] 9 (0, 0))
      have hb9 := HOc.out.lt
      generalize wc.heap.size = b9 at *
      generalize wc.alloc (.cells #[.string ⟨#[47, 108, 105, 98]⟩, .string ⟨#[47, 117, 115, 114, 47, 108, 105, 98]⟩] 9 (0, 0)) = w9 at *
      refine (dirs_in m (w.heap.size + 1 + 1 + 1) (w.heap.size + 1) w.heap.size b9 w9 _ L2 [wLibDir, wUsrDir] name o (by rw [B9.out.cell (p := ⟨0, 0, none⟩) (by simp), F5.out.cell (p := ⟨0, 0, none⟩) h0]; exact Hm.out) (by omega) (by rw [B9.out.cell (p := ⟨w.heap.size + 1, 0, none⟩) (by simp), Lib.cell_of_heap F1.out]; rfl) (by rw [B9.out.cell (p := ⟨w.heap.size, 0, none⟩) (by simp; omega), Lib.cell_of_heap F0.out]; rfl) (by omega) (by omega) o9 s8 (by omega) (by simp; omega) (by omega) ho).mono ?_
      clear s8 o9
      rintro e wa ⟨rfl, hoa, hba⟩
      obtain ⟨z, hz, hown⟩ := hoa
      have cz : wa.cell? ⟨w.heap.size + 1 + 1 + 1, 0, none⟩ = some z := by rw [Lib.cell_of_heap hz]; rfl
      have Bz := Lib.hid (F5.out.trans ((B9.out.trans hba).mono (show w.heap.size ≤ w.heap.size + 1 + 1 + 1 by omega)))
      have Hown := Lib.hid (OwnS.mono hown (show w.heap.size ≤ w.heap.size + 1 + 1 + 1 + 1 by omega))
      obtain ⟨za, zc, hze⟩ := hown.form
      clear hz hown hba
      subst hze
      go_wp2
      go_ret2
      exact CandPost.mk Hr.out (by rw [Hrest.out]; exact Hown.out) Bz.out

end Go.Proofs.YtmckjdopplchbaaDoor
