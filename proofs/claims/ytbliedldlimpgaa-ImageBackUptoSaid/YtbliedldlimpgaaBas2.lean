/- Lemmas that the claim is proved from: what calls of functions of the program come to (contracts), and plain laws. Each lemma bears its own conditions. -/
import Derived.Test.YtbliedldlimpgaaBas1
import Derived.Laws.BytesArg
import Derived.Laws.IdiomStrings
import Derived.BigQuiet
import Derived.IntWalk
import Derived.Deep.QuietTactic
import Derived.Deep.DeepCutAuto
import Derived.Deep.RegionHeld3
import Derived.Deep.RegionLaw
import Derived.StillTactics
import Derived.Laws.BitsAllLaws
import Derived.Below
import Derived.KernelRfl
import Derived.Test.YtbliedldlimpgaaChecked

namespace Go.Proofs.Ytbliedldlimpgaa
set_option linter.unusedVariables false
set_option linter.unusedSimpArgs false
open Go.RowKit

/-- a slice of bytes as a text -/
theorem run_str {S : Nat → Prop} {w : World} {v : Value} {l : List UInt8} (h : LB kByte S w v l) : (Go.convert 36 9 v).run Try.prog w = Result.ok (.string ⟨l.toArray⟩) w := by
  obtain ⟨a, b, off, cap, hv, hm, ha, hc, hS, hr⟩ := h
  subst hv
  cases a with
  | none =>
    have : l = [] := by
      cases l with
      | nil => rfl
      | cons y m => exact absurd (ha (by simp)) (by simp)
    subst this
    exact run_convert_bytes_nil w 36 5 Try.underlying36 Try.underlying5 _ _ 9 Try.underlying9
  | some ad =>
    have hl : (loadCells ad l.length).run Try.prog w = .ok ((l.map fun c => (c.toNat : Int)).map (Value.int .u8)).toArray w := by
      have := run_loadCells_list (P := Try.prog) w ad ((l.map fun c => (c.toNat : Int)).map (Value.int .u8)) (fun j u hj => by
        rw [List.getElem?_map, List.getElem?_map] at hj
        cases hc' : l[j]? with
        | none => rw [hc'] at hj; simp at hj
        | some c =>
          rw [hc'] at hj
          simp at hj
          subst hj
          have hl0 : 0 < l.length := by have := (List.getElem?_eq_some_iff.1 hc').1; omega
          obtain rfl : ad = ⟨b, off, none⟩ := by have := ha hl0; simpa using this
          obtain ⟨row, r1, r2⟩ := hr j c hc'
          have := r2 0 (.int .u8 c.toNat) (by rw [r1]; rfl)
          have hk : kByte.k = 1 := rfl
          rw [hk] at this
          simpa [Addr.add_lit] using this)
      simpa using this
    rw [run_convert_bytes_string w 36 9 5 _ _ cap Try.underlying36 Try.underlying5 Try.underlying9, run_bytesToString w ad l.length cap _ hl, foldl_push_bytes]
    have e : (l.map fun c => (c.toNat : Int)).map (fun n => UInt8.ofNat n.toNat) = l := by
      rw [List.map_map]
      have : ((fun n : Int => UInt8.ofNat n.toNat) ∘ fun c : UInt8 => (c.toNat : Int)) = id := by funext c; simp
      rw [this, List.map_id]
    rw [e]
    simp [ByteArray.empty, ByteArray.emptyWithCapacity]
    rfl

/-- bytes that a reader answers, and what is left -/
def part0 (st : Option (List UInt8)) (size most : Nat) : Option (List UInt8) := if (most : Int) < (numS st size).1 then none else (numS st size).2
def partS (st : Option (List UInt8)) (size most : Nat) : List UInt8 × Option (List UInt8) := (cutL (part0 st size most) (numS st size).1.toNat, cutS (part0 st size most) (numS st size).1.toNat)
theorem numS_none (size : Nat) : numS none size = (0, none) := rfl
theorem numS_bad {l : List UInt8} {size : Nat} (h : numP size l = none) : numS (some l) size = (0, none) := by simp only [numS, h]
theorem numS_good {l t : List UInt8} {size : Nat} {n : Int} (h : numP size l = some (n, t)) : numS (some l) size = (n, some t) := by simp only [numS, h]
theorem numS_range (st : Option (List UInt8)) (size : Nat) (hs : size = 1 ∨ size = 2 ∨ size = 4) : 0 ≤ (numS st size).1 ∧ (numS st size).1 < 4294967296 := by
  cases st with
  | none => rw [numS_none]; decide
  | some l =>
    cases hp : numP size l with
    | none => rw [numS_bad hp]; decide
    | some q =>
      obtain ⟨n, t⟩ := q
      have := ((num_codec size (by omega)).back _ _ _ hp).1
      unfold okN at this
      rw [if_neg (by omega)] at this
      have p1 : (256 : Int) ^ 1 = 256 := by decide
      have p2 : (256 : Int) ^ 2 = 65536 := by decide
      have p4 : (256 : Int) ^ 4 = 4294967296 := by decide
      rw [numS_good hp]
      dsimp only
      rcases hs with rfl | rfl | rfl <;> simp only [p1, p2, p4] at this <;> omega
theorem part0_none {st : Option (List UInt8)} {size most : Nat} (h : (numS st size).2 = none) : part0 st size most = none := by
  unfold part0; rw [h]; split <;> rfl
theorem partS_none (size most : Nat) : partS none size most = ([], none) := by
  unfold partS; rw [part0_none (by rw [numS_none])]; rfl
theorem partS_bad {l : List UInt8} {size most : Nat} (hs : size = 1 ∨ size = 2 ∨ size = 4) (h : partP size most l = none) : partS (some l) size most = ([], none) := by
  have hr := numS_range (some l) size hs
  cases hp : numP size l with
  | none => unfold partS; rw [part0_none (by rw [numS_bad hp])]; rfl
  | some q =>
    obtain ⟨n, t⟩ := q
    rw [numS_good hp] at hr
    dsimp only at hr
    unfold partS part0
    rw [numS_good hp]
    dsimp only
    by_cases h1 : (most : Int) < n
    · rw [if_pos h1]; rfl
    · rw [if_neg h1]
      have h3 : ¬ n.toNat ≤ t.length := by
        intro h3
        rw [partP, bindP_at hp, if_pos (by omega)] at h
        cases h
      unfold cutL cutS
      dsimp only
      rw [if_neg h3, if_neg h3]
theorem partS_good {l x t : List UInt8} {size most : Nat} (hs : size = 1 ∨ size = 2 ∨ size = 4) (h : partP size most l = some (x, t)) : partS (some l) size most = (x, some t) := by
  have hr := numS_range (some l) size hs
  obtain ⟨n, u, hp, h2⟩ := bindP_some h
  rw [numS_good hp] at hr
  dsimp only at hr
  by_cases hc : n ≤ (most : Int) ∧ n ≤ u.length
  · rw [if_pos hc] at h2
    obtain ⟨rfl, rfl⟩ := Prod.mk.inj (Option.some.inj h2)
    unfold partS part0
    rw [numS_good hp]
    dsimp only
    rw [if_neg (by omega)]
    unfold cutL cutS
    dsimp only
    rw [if_pos (by omega), if_pos (by omega)]
  · rw [if_neg hc] at h2; cases h2

set_option maxHeartbeats 8000000 in
set_option maxRecDepth 100000 in
theorem rpart_any (w : World) (b gb : Nat) (st : Option (List UInt8)) (size most : Nat) (h : RB b gb w st) (hs : size = 1 ∨ size = 2 ∨ size = 4) (hm : most ≤ 100000000) :
    Calls Try.prog 89 #[.pointer (some ⟨b, 0, none⟩), .int .i64 (size : Int), .int .i64 (most : Int)] w fun e w' => ∃ v, e = .returned v ∧ LB kByte (fun x => x = gb) w' v (partS st size most).1 ∧ RB b gb w' (partS st size most).2 ∧ Step (fun x => x ≠ b) w w' ∧ w'.heap.size = w.heap.size := by
  obtain ⟨f, v, r, h1, h2, h3, h4, h5⟩ := h.ex
  obtain ⟨va, vc, rfl⟩ := h2.form
  have hc1 : w.cell? ⟨b, 1, none⟩ = some (.slice va r.length vc) := by rw [Lib.cell_of_heap h1]; rfl
  have hbl := h.lt
  have H2 := Lib.hid h2
  have HN := Lib.hid (rnum_any w b gb st size h (by omega))
  have hr := numS_range st size hs
  obtain ⟨n, hn⟩ : ∃ n : Nat, (numS st size).1 = n := ⟨(numS st size).1.toNat, by omega⟩
  have hp0 : part0 st size most = if most < n then none else (numS st size).2 := by
    unfold part0
    rw [hn]
    by_cases hx : most < n
    · rw [if_pos hx, if_pos (by omega)]
    · rw [if_neg hx, if_neg (by omega)]
  have Hres : Hid (partS st size most = (cutL (part0 st size most) n, cutS (part0 st size most) n)) := Lib.hid (by unfold partS; rw [hn, Int.toNat_natCast])
  rw [hn] at HN hr
  rw [Hres.out]
  clear h h1 h2 h5 hn Hres
  generalize (numS st size).2 = st1 at *
  generalize part0 st size most = st2 at *
  go_enter Try.func89, Try.ntmps89
  go_wp2_with fail
  refine HN.out.mono ?_
  rintro e w2 ⟨rfl, hr2, hs2, hz2⟩
  have HS2 := Lib.hid hs2
  have hbl2 := hr2.lt
  clear hc1 HN
  -- what follows the test
  have HK : Hid (∀ w3, RB b gb w3 st2 → Step (fun x => x ≠ b) w w3 → w3.heap.size = w.heap.size → Calls Try.prog 90 #[.pointer (some ⟨b, 0, none⟩), .int .i64 (n : Int)] w3 fun e w' => ∃ v, e = .returned v ∧ LB kByte (fun x => x = gb) w' v (cutL st2 n) ∧ RB b gb w' (cutS st2 n) ∧ Step (fun x => x ≠ b) w w' ∧ w'.heap.size = w.heap.size) := Lib.hid (fun w3 hr hs hz => (rcut_any w3 b gb st2 n hr (by omega)).mono (by
    rintro e w4 ⟨v, he, hv, hr4, hs4, hz4⟩
    exact ⟨v, he, hv, hr4, hs.trans hs4, hz4.trans hz⟩))
  by_cases hx : most < n
  · rw [if_pos hx] at hp0
    subst hp0
    have hd : decide ((most : Int) < (n : Int)) = true := by rw [decide_eq_true_eq]; omega
    have HF := Lib.hid (fail_any w2 b gb 2 st1 (by decide) hr2)
    clear hr2 hs2
    go_wp2_with fail
    refine HF.out.mono ?_
    rintro e w3 ⟨rfl, hr3, hs3, hz3⟩
    have HC := Lib.hid (HK.out w3 hr3 (HS2.out.trans hs3) (hz3.trans hz2))
    have hbl3 := hr3.lt
    clear hr3 hs3 HF
    go_wp2_with fail
    refine HC.out.mono ?_
    rintro e w4 ⟨v, rfl, hv4, hr4, hs4, hz4⟩
    obtain ⟨f4, hc4, hf4⟩ := hr4.first
    have HSo := Lib.hid (sound_any w4 b f4 hc4)
    rw [hf4] at HSo
    obtain ⟨f', v', r', h1', _, _, _, hf'⟩ := hr4.ex
    have e4 : cutS none n = none := rfl
    rw [e4] at hf'
    have c1' : w4.cell? ⟨b, 1, none⟩ = some v' := by rw [Lib.cell_of_heap h1']; rfl
    have fx' : w4.frozen? ⟨b, 1, none⟩ = false := Lib.frozen_of_heap h1' 1
    obtain ⟨va4, vc4, rfl⟩ := hv4.form
    have hwas := H2.out.keeps (fun x hx => by have hx : x = gb := hx; subst hx; exact hs4.block _ h3)
    have Hfin : Hid (RB b gb (w4.setCell ⟨b, 1, none⟩ (.slice va r.length vc)) (cutS none n)) := Lib.hid (RB.put h1' hwas h3 (by omega) hf')
    have Hv4 := Lib.hid (hv4.keeps (w' := w4.setCell ⟨b, 1, none⟩ (.slice va r.length vc)) (fun x hx => by have hx : x = gb := hx; subst hx; exact Below.heap_setCell _ _ _ _ h3))
    have Hs4 := Lib.hid (hs4.trans (setCell_step w4 b 1 (.slice va r.length vc)))
    have Hz4 := Lib.hid hz4
    have hbl4 := hr4.lt
    clear hv4 hr4 hs4 hz4 hc4 hwas h1' HC
    go_wp2_with fail
    refine HSo.out.mono ?_
    rintro e w5 ⟨rfl, rfl⟩
    go_wp2
    go_ret
    exact ⟨_, rfl, Hv4.out, Hfin.out, Hs4.out, by rw [World.size_setCell]; exact Hz4.out⟩
  · rw [if_neg hx] at hp0
    subst hp0
    have hd : decide ((most : Int) < (n : Int)) = false := by rw [decide_eq_false_iff_not]; omega
    have HC := Lib.hid (HK.out w2 hr2 HS2.out hz2)
    clear hr2 hs2
    go_wp2_with fail
    refine HC.out.mono ?_
    rintro e w4 ⟨v, rfl, hv4, hr4, hs4, hz4⟩
    obtain ⟨f4, hc4, hf4⟩ := hr4.first
    have HSo := Lib.hid (sound_any w4 b f4 hc4)
    rw [hf4] at HSo
    obtain ⟨f', v', r', h1', _, _, _, hf'⟩ := hr4.ex
    have c1' : w4.cell? ⟨b, 1, none⟩ = some v' := by rw [Lib.cell_of_heap h1']; rfl
    have fx' : w4.frozen? ⟨b, 1, none⟩ = false := Lib.frozen_of_heap h1' 1
    obtain ⟨va4, vc4, rfl⟩ := hv4.form
    have hwas := H2.out.keeps (fun x hx => by have hx : x = gb := hx; subst hx; exact hs4.block _ h3)
    have hbl4 := hr4.lt
    cases hst : cutS st2 n with
    | none =>
      have Hst := Lib.hid hst
      rw [hst] at HSo hf'
      have Hfin : Hid (RB b gb (w4.setCell ⟨b, 1, none⟩ (.slice va r.length vc)) none) := Lib.hid (RB.put h1' hwas h3 (by omega) hf')
      have Hv4 := Lib.hid (hv4.keeps (w' := w4.setCell ⟨b, 1, none⟩ (.slice va r.length vc)) (fun x hx => by have hx : x = gb := hx; subst hx; exact Below.heap_setCell _ _ _ _ h3))
      have Hs4 := Lib.hid (hs4.trans (setCell_step w4 b 1 (.slice va r.length vc)))
      have Hz4 := Lib.hid hz4
      clear hv4 hr4 hs4 hz4 hc4 hwas h1' HC hst
      go_wp2_with fail
      refine HSo.out.mono ?_
      rintro e w5 ⟨rfl, rfl⟩
      go_wp2
      go_ret
      exact ⟨_, rfl, Hv4.out, by rw [Hst.out]; exact Hfin.out, Hs4.out, by rw [World.size_setCell]; exact Hz4.out⟩
    | some l4 =>
      have Hst := Lib.hid hst
      rw [hst] at HSo hr4
      have Hr4 := Lib.hid hr4
      have Hv4 := Lib.hid hv4
      have Hs4 := Lib.hid hs4
      have Hz4 := Lib.hid hz4
      clear hv4 hr4 hs4 hz4 hc4 hwas h1' HC hst c1' fx' hf'
      go_wp2_with fail
      refine HSo.out.mono ?_
      rintro e w5 ⟨rfl, rfl⟩
      go_wp2
      go_ret
      exact ⟨_, rfl, Hv4.out, by rw [Hst.out]; exact Hr4.out, Hs4.out, Hz4.out⟩

end Go.Proofs.Ytbliedldlimpgaa

namespace Go.Proofs.Ytbliedldlimpgaa
set_option linter.unusedVariables false
set_option linter.unusedSimpArgs false
open Go.RowKit

set_option maxHeartbeats 4000000 in
set_option maxRecDepth 100000 in
theorem rtext_any (w : World) (b gb : Nat) (st : Option (List UInt8)) (h : RB b gb w st) :
    Calls Try.prog 47 #[.pointer (some ⟨b, 0, none⟩)] w fun e w' => e = .returned (.string ⟨(partS st 2 4096).1.toArray⟩) ∧ RB b gb w' (partS st 2 4096).2 ∧ Step (fun x => x ≠ b) w w' ∧ w'.heap.size = w.heap.size := by
  have HP := Lib.hid (rpart_any w b gb st 2 4096 h (by decide) (by decide))
  clear h
  generalize partS st 2 4096 = ps at *
  go_enter Try.func47, Try.ntmps47
  go_wp2_with fail
  refine HP.out.mono ?_
  rintro e w2 ⟨v, rfl, hv, hr, hs, hz⟩
  have hcv := run_str hv
  obtain ⟨va, vc, rfl⟩ := hv.form
  have Hr := Lib.hid hr
  have Hs := Lib.hid hs
  have Hz := Lib.hid hz
  clear hv hr hs hz HP
  go_wp2
  go_ret
  exact ⟨rfl, Hr.out, Hs.out, Hz.out⟩

theorem partS_len (st : Option (List UInt8)) (size most : Nat) (hs : size = 1 ∨ size = 2 ∨ size = 4) : (partS st size most).1.length ≤ most := by
  cases st with
  | none => rw [partS_none]; simp
  | some l =>
    cases hp : partP size most l with
    | none => rw [partS_bad hs hp]; simp
    | some q =>
      obtain ⟨x, t⟩ := q
      rw [partS_good hs hp]
      obtain ⟨n, u, h1, h2⟩ := bindP_some hp
      by_cases hc : n ≤ (most : Int) ∧ n ≤ u.length
      · rw [if_pos hc] at h2
        obtain ⟨rfl, rfl⟩ := Prod.mk.inj (Option.some.inj h2)
        dsimp only
        rw [List.length_take]; omega
      · rw [if_neg hc] at h2; cases h2

set_option maxHeartbeats 4000000 in
set_option maxRecDepth 100000 in
theorem rblock_any (w : World) (b gb : Nat) (st : Option (List UInt8)) (h : RB b gb w st) :
    Calls Try.prog 49 #[.pointer (some ⟨b, 0, none⟩)] w fun e w' => ∃ v, e = .returned v ∧ OwnK 5 kByte w.heap.size (fun _ => False) w' v (partS st 4 1048576).1 ∧ RB b gb w' (partS st 4 1048576).2 ∧ Step (fun x => x < w.heap.size ∧ x ≠ b) w w' := by
  have HP := Lib.hid (rpart_any w b gb st 4 1048576 h (by decide) (by decide))
  have hpl := partS_len st 4 1048576 (by decide)
  clear h
  generalize partS st 4 1048576 = ps at *
  go_enter Try.func49, Try.ntmps49
  go_wp2_with fail
  refine HP.out.mono ?_
  rintro e w2 ⟨v, rfl, hv, hr, hs, hz⟩
  obtain ⟨va, vc, hvf⟩ := hv.form
  have Hv := Lib.hid hv
  have Hr := Lib.hid hr
  have Hs := Lib.hid hs
  subst hvf
  have hz' : w.heap.size ≤ w2.heap.size := by omega
  have hz'' : w2.heap.size ≤ w.heap.size := by omega
  clear hv hr hs hz HP
  go_wp2_with (at_builtin; refine wpList_appendsK (B := w2.heap.size) (E := fun _ => False) (l := []) plain_byte 36 (.int .u8 0) 1 Try.underlying36 info_byte rfl rfl (.const (.slice none 0 0)) (.tmp 4) rfl rfl (OwnK.nil _ _ _ _ _) (fun x hx => hx.elim) _ ps.1 rfl Hv.out ?c1 ?c2 (Nat.le_refl _) ?_)
  case c1 => simp only [List.length_nil]; omega
  case c2 => simp only [List.length_nil]; omega
  intro v' w4 hown hst hne
  have hb4 : Below w2.heap.size w2 w4 := (hst.imp (S' := (· < w2.heap.size)) (fun x hx => ⟨hx, by simp [Value.ownBlock]⟩)).below
  have Hr4 := Lib.hid (Hr.out.below hb4)
  have Hown := Lib.hid (hown.mono (B' := w.heap.size) hz')
  have Hs4 : Hid (Step (fun x => x < w.heap.size ∧ x ≠ b) w w4) := Lib.hid ((Hs.out.imp (fun x hx => hx.2)).trans ((Step.of_below hb4).imp (fun x hx => by have := hx.1; show x < w2.heap.size; omega)))
  clear hown hst hne hb4 Hv Hr Hs
  go_wp2
  go_ret
  exact ⟨v', rfl, Hown.out, Hr4.out, Hs4.out⟩

set_option maxHeartbeats 4000000 in
set_option maxRecDepth 100000 in
theorem rnew_any (w : World) (v : Value) (l : List UInt8) (hl : LB kByte (· < w.heap.size) w v l) (hlen : l.length ≤ 140737488355328) (hw : 0 < w.heap.size) :
    Calls Try.prog 46 #[v] w fun e w' => ∃ b gb, e = .returned (.pointer (some ⟨b, 0, none⟩)) ∧ RB b gb w' (some l) ∧ Below w.heap.size w w' ∧ w.heap.size ≤ b := by
  obtain ⟨va, vc, rfl⟩ := hl.form
  have Hl := Lib.hid hl
  clear hl
  go_enter Try.func46, Try.ntmps46
  go_wp2_with (at_builtin; refine wpList_appendsK (B := w.heap.size) (E := fun _ => False) (l := []) plain_byte 36 (.int .u8 0) 1 Try.underlying36 info_byte rfl rfl (.const (.slice none 0 0)) (.tmp 3) rfl rfl (OwnK.nil _ _ _ _ _) (fun x hx => hx.elim) _ l rfl Hl.out ?c1 ?c2 (Nat.le_refl _) ?_)
  case c1 => simp only [List.length_nil]; omega
  case c2 => simp only [List.length_nil]; omega
  intro v' w4 hown hst hne
  have hb4 : Below w.heap.size w w4 := (hst.imp (S' := (· < w.heap.size)) (fun x hx => ⟨hx, by simp [Value.ownBlock]⟩)).below
  have hz4 := hb4.size
  have hlb : ∃ gb, LB kByte (fun x => x = gb) w4 v' l ∧ gb < w4.heap.size := by
    have h1 := hown.lb
    have h2 := hown.lt
    obtain ⟨a, bb, off, cap, hv, hm, ha, hc, hS, hr⟩ := h1
    by_cases h0 : 0 < l.length
    · exact ⟨bb, ⟨a, bb, off, cap, hv, hm, ha, hc, fun _ => rfl, fun i x hx => by
        obtain ⟨row, r1, r2⟩ := hr i x hx
        exact ⟨row, r1, r2⟩⟩, (hS h0).1⟩
    · have : ([] ++ l).length = 0 := by simpa using h0
      exact ⟨0, ⟨a, bb, off, cap, hv, hm, ha, hc, fun h => absurd h h0, fun i x hx => by
        have := (List.getElem?_eq_some_iff.1 hx).1
        omega⟩, by omega⟩
  obtain ⟨gb, hlb, hgb⟩ := hlb
  obtain ⟨va', vc', hvf⟩ := hlb.form
  have Hfin : Hid (RB w4.heap.size gb (w4.alloc (.cells #[.int .i64 0, v'] 136 (0, 0))) (some l)) := Lib.hid ⟨0, v', l, heap_alloc_new w4 _, hlb.keeps (fun x hx => by have hx : x = gb := hx; subst hx; exact heap_alloc_old w4 _ hgb), by omega, by rw [World.size_alloc]; omega, rfl, rfl⟩
  have Hb5 := Lib.hid (hb4.alloc hz4 (.cells #[.int .i64 0, v'] 136 (0, 0)))
  subst hvf
  clear hown hst hne hb4 hlb Hl
  go_wp2
  go_ret
  exact ⟨_, gb, rfl, Hfin.out, Hb5.out, hz4⟩

set_option maxHeartbeats 4000000 in
set_option maxRecDepth 100000 in
theorem rend_any (w : World) (b gb : Nat) (st : Option (List UInt8)) (h : RB b gb w st) :
    Calls Try.prog 53 #[.pointer (some ⟨b, 0, none⟩)] w fun e w' => (∃ x, e = .returned (.int .i64 x) ∧ (x = 0 ↔ st = some [])) ∧ w' = w := by
  obtain ⟨f, hc0, hf⟩ := h.first
  have HS := Lib.hid (sound_any w b f hc0)
  obtain ⟨f', v, r, h1, h2, h3, h4, h5⟩ := h.ex
  obtain ⟨va, vc, rfl⟩ := h2.form
  have hrm := h2.max
  have hff : f' = f := by
    rw [Lib.cell_of_heap h1] at hc0
    simpa using hc0
  subst hff
  have hc1 : w.cell? ⟨b, 1, none⟩ = some (.slice va r.length vc) := by rw [Lib.cell_of_heap h1]; rfl
  rw [hf] at HS
  have hbl := h.lt
  cases st with
  | none =>
    have hne : f' ≠ 0 := h5
    clear h h1 h2 h5 hf
    go_enter Try.func53, Try.ntmps53
    go_wp2_with fail
    refine HS.out.mono ?_
    rintro e w2 ⟨rfl, rfl⟩
    go_wp2
    go_ret
    exact ⟨⟨f', rfl, ⟨fun h => absurd h hne, fun h => by cases h⟩⟩, rfl⟩
  | some l =>
    obtain ⟨rfl, rfl⟩ := h5
    clear h h1 h2 hf
    by_cases h0 : 0 < r.length
    · have hd : decide ((0 : Int) < (r.length : Int)) = true := by rw [decide_eq_true_eq]; omega
      go_enter Try.func53, Try.ntmps53
      go_wp2_with fail
      refine HS.out.mono ?_
      rintro e w2 ⟨rfl, rfl⟩
      go_wp2
      go_ret
      refine ⟨⟨12, rfl, ⟨fun h => absurd h (by decide), fun h => ?_⟩⟩, rfl⟩
      have := Option.some.inj h
      subst this
      simp at h0
    · have hd : decide ((0 : Int) < (r.length : Int)) = false := by rw [decide_eq_false_iff_not]; omega
      have hr0 : Hid (r = []) := Lib.hid (List.eq_nil_of_length_eq_zero (by omega))
      go_enter Try.func53, Try.ntmps53
      go_wp2_with fail
      refine HS.out.mono ?_
      rintro e w2 ⟨rfl, rfl⟩
      go_wp2
      go_ret
      exact ⟨⟨0, rfl, ⟨fun _ => by rw [hr0.out], fun _ => rfl⟩⟩, rfl⟩

end Go.Proofs.Ytbliedldlimpgaa

namespace Go.Proofs.Ytbliedldlimpgaa
set_option linter.unusedVariables false
set_option linter.unusedSimpArgs false
open Go.RowKit

/-- what a reading answers: at a sound state that the parser reads, its value and what is left; else the state is none -/
def Got {α : Type} (p : List UInt8 → Option (α × List UInt8)) (st : Option (List UInt8)) (x : α) (st' : Option (List UInt8)) : Prop :=
  (st = none → st' = none) ∧ ∀ l, st = some l → (p l = none → st' = none) ∧ ∀ y t, p l = some (y, t) → x = y ∧ st' = some t
section
variable {α β : Type} {p : List UInt8 → Option (α × List UInt8)} {st st' st'' : Option (List UInt8)} {x : α}
theorem Got.pure (x : α) (st : Option (List UInt8)) : Got (fun t => some (x, t)) st x st := ⟨id, fun l h => ⟨fun e => by simp at e, fun y t e => by simp at e; exact ⟨e.1, by rw [h, e.2]⟩⟩⟩
theorem Got.bind {q : α → List UInt8 → Option (β × List UInt8)} {y : β} (h : Got p st x st') (k : Got (q x) st' y st'') : Got (bindP p q) st y st'' := by
  refine ⟨fun e => k.1 (h.1 e), fun l e => ?_⟩
  obtain ⟨h1, h2⟩ := h.2 l e
  cases hp : p l with
  | none =>
    have e0 : bindP p q l = none := by unfold bindP; rw [hp]
    rw [e0]
    exact ⟨fun _ => k.1 (h1 hp), fun y t h => by cases h⟩
  | some r =>
    obtain ⟨x', t'⟩ := r
    obtain ⟨rfl, hst⟩ := h2 _ _ hp
    rw [bindP_at hp]
    exact k.2 t' hst
theorem many_snoc (p : List UInt8 → Option (α × List UInt8)) : ∀ n, manyP p (n + 1) = bindP (manyP p n) fun xs => bindP p fun x t => some (xs ++ [x], t)
  | 0 => by
    funext l
    show bindP p (fun x => bindP (manyP p 0) fun xs t => some (x :: xs, t)) l = bindP p (fun x t => some ([] ++ [x], t)) l
    rfl
  | n + 1 => by
    have ih := many_snoc p n
    funext l
    show bindP p (fun x => bindP (manyP p (n + 1)) fun xs t => some (x :: xs, t)) l = bindP (bindP p fun x => bindP (manyP p n) fun xs t => some (x :: xs, t)) (fun xs => bindP p fun x t => some (xs ++ [x], t)) l
    rw [ih]
    unfold bindP
    cases p l with
    | none => rfl
    | some r =>
      obtain ⟨x, t⟩ := r
      dsimp only
      cases manyP p n t with
      | none => rfl
      | some r =>
        obtain ⟨xs, u⟩ := r
        dsimp only
        cases p u with
        | none => rfl
        | some r => rfl
theorem Got.many0 (p : List UInt8 → Option (α × List UInt8)) (st : Option (List UInt8)) : Got (manyP p 0) st [] st := Got.pure _ _
theorem Got.snoc {n : Nat} {xs : List α} (h : Got (manyP p n) st xs st') (k : Got p st' x st'') : Got (manyP p (n + 1)) st (xs ++ [x]) st'' := by
  rw [many_snoc]
  exact h.bind (k.bind (Got.pure _ _))
/-- at the end -/
theorem Got.whole {l : List UInt8} (h : Got p (some l) x (some [])) : p l = some (x, []) := by
  obtain ⟨h1, h2⟩ := h.2 l rfl
  cases hp : p l with
  | none => exact absurd (h1 hp) (by simp)
  | some r =>
    obtain ⟨y, t⟩ := r
    obtain ⟨rfl, e⟩ := h2 _ _ hp
    rw [← Option.some.inj e]
theorem Got.not_whole {l : List UInt8} (h : Got p (some l) x st) (hs : st ≠ some []) (y : α) : p l ≠ some (y, []) := fun e => hs ((h.2 l rfl).2 _ _ e).2
end
theorem numS_ok (st : Option (List UInt8)) (size : Nat) (hs : size ≤ 8) : okN size (numS st size).1 := by
  have h0 : okN size 0 := by
    unfold okN
    split
    · omega
    · exact ⟨by omega, Int.pow_pos (by decide)⟩
  cases st with
  | none => exact h0
  | some l =>
    cases hp : numP size l with
    | none => rw [numS_bad hp]; exact h0
    | some q =>
      obtain ⟨n, t⟩ := q
      rw [numS_good hp]
      exact ((num_codec size hs).back _ _ _ hp).1
theorem got_num (st : Option (List UInt8)) (size : Nat) : Got (numP size) st (numS st size).1 (numS st size).2 := by
  refine ⟨fun e => by subst e; rfl, fun l e => ?_⟩
  subst e
  refine ⟨fun e => by rw [numS_bad e], fun y t e => by rw [numS_good e]; exact ⟨rfl, rfl⟩⟩
theorem got_part (st : Option (List UInt8)) (size most : Nat) (hs : size = 1 ∨ size = 2 ∨ size = 4) : Got (partP size most) st (partS st size most).1 (partS st size most).2 := by
  refine ⟨fun e => by subst e; rw [partS_none], fun l e => ?_⟩
  subst e
  exact ⟨fun e => by rw [partS_bad hs e], fun y t e => by rw [partS_good hs e]; exact ⟨rfl, rfl⟩⟩

/-- a loader at block b, its reader at rb -/
structure LD (b rb gb : Nat) (w : World) (st : Option (List UInt8)) : Prop where
  ex : ∃ o st0, w.heap[b]? = some (.cells #[.pointer (some ⟨rb, 0, none⟩), .bool o] 94 (0, 0)) ∧ RB rb gb w st0 ∧ st = (if o then none else st0)
  ne : b ≠ rb
  ng : b ≠ gb
section
variable {b rb gb : Nat} {w w' : World} {st : Option (List UInt8)}
theorem LD.lt (h : LD b rb gb w st) : b < w.heap.size := by
  obtain ⟨f, v, h1, _⟩ := h.ex
  rcases Nat.lt_or_ge b w.heap.size with h' | h'
  · exact h'
  · rw [Array.getElem?_eq_none h'] at h1; cases h1
theorem LD.step {S : Nat → Prop} (h : LD b rb gb w st) (hs : Step S w w') (hb : S b) (hr : S rb) (hg : S gb) : LD b rb gb w' st := by
  obtain ⟨o, st0, h1, h2, h3⟩ := h.ex
  exact ⟨⟨o, st0, (hs.block b hb).trans h1, h2.step hs hr hg, h3⟩, h.ne, h.ng⟩
theorem LD.rblt (h : LD b rb gb w st) : rb < w.heap.size := by
  obtain ⟨o, st0, h1, h2, h3⟩ := h.ex
  exact h2.lt
theorem LD.gblt (h : LD b rb gb w st) : gb < w.heap.size := by
  obtain ⟨o, st0, h1, h2, h3⟩ := h.ex
  obtain ⟨_, _, _, _, _, _, h4, _⟩ := h2.ex
  exact h4
theorem LD.below (h : LD b rb gb w st) (hb : Below w.heap.size w w') : LD b rb gb w' st := h.step (.of_below hb) h.lt h.rblt h.gblt
theorem LD.alloc (h : LD b rb gb w st) (o : Obj) : LD b rb gb (w.alloc o) st := h.below ((Below.refl _ w).alloc (Nat.le_refl _) o)
theorem LD.drew (h : LD b rb gb w st) : LD b rb gb w.drew st := h.below ((Below.refl _ w).drew)
theorem LD.cell (h : LD b rb gb w st) : w.cell? ⟨b, 0, none⟩ = some (.pointer (some ⟨rb, 0, none⟩)) := by
  obtain ⟨o, st0, h1, h2, h3⟩ := h.ex
  rw [Lib.cell_of_heap h1]; rfl
/-- a reading of the reader is one of the loader -/
theorem LD.read {α : Type} {p : List UInt8 → Option (α × List UInt8)} (f : Option (List UInt8) → α × Option (List UInt8)) (hf : ∀ s, Got p s (f s).1 (f s).2) {Q : Ending → World → Prop} {fn : Nat} {args : Array Value} (h : LD b rb gb w st)
    (hc : ∀ st0, RB rb gb w st0 → Calls Try.prog fn args w fun e w' => RB rb gb w' (f st0).2 ∧ Step (fun x => x ≠ rb) w w' ∧ (∀ st', Got p st (f st0).1 st' → LD b rb gb w' st' → Q e w')) : Calls Try.prog fn args w Q := by
  obtain ⟨o, st0, h1, h2, h3⟩ := h.ex
  refine (hc st0 h2).mono ?_
  rintro e w' ⟨hr, hs, hq⟩
  refine hq (if o then none else (f st0).2) ?_ ⟨⟨o, _, (hs.block b h.ne).trans h1, hr, rfl⟩, h.ne, h.ng⟩
  rw [h3]
  cases o with
  | true => exact ⟨fun _ => rfl, fun l e => by simp at e⟩
  | false => exact hf st0
end

theorem ldnum (w : World) (b rb gb : Nat) (st : Option (List UInt8)) (size : Nat) (h : LD b rb gb w st) (hs : size = 1 ∨ size = 2 ∨ size = 4 ∨ size = 8) :
    Calls Try.prog 48 #[.pointer (some ⟨rb, 0, none⟩), .int .i64 (size : Int)] w fun e w' => ∃ n st', e = .returned (.int .i64 n) ∧ Got (numP size) st n st' ∧ okN size n ∧ LD b rb gb w' st' ∧ Step (fun x => x ≠ rb) w w' ∧ w'.heap.size = w.heap.size := by
  refine h.read (fun s => numS s size) (fun s => got_num s size) (fun st0 h0 => ?_)
  refine (rnum_any w rb gb st0 size h0 hs).mono ?_
  rintro e w' ⟨rfl, hr, hst, hz⟩
  exact ⟨hr, hst, fun st' hg hl => ⟨_, st', rfl, hg, numS_ok _ _ (by omega), hl, hst, hz⟩⟩
theorem ldtext (w : World) (b rb gb : Nat) (st : Option (List UInt8)) (h : LD b rb gb w st) :
    Calls Try.prog 47 #[.pointer (some ⟨rb, 0, none⟩)] w fun e w' => ∃ x st', e = .returned (.string ⟨List.toArray x⟩) ∧ Got textP st x st' ∧ x.length ≤ 4096 ∧ LD b rb gb w' st' ∧ Step (fun x => x ≠ rb) w w' ∧ w'.heap.size = w.heap.size := by
  refine h.read (fun s => partS s 2 4096) (fun s => got_part s 2 4096 (by decide)) (fun st0 h0 => ?_)
  refine (rtext_any w rb gb st0 h0).mono ?_
  rintro e w' ⟨rfl, hr, hst, hz⟩
  exact ⟨hr, hst, fun st' hg hl => ⟨_, st', rfl, hg, partS_len _ _ _ (by decide), hl, hst, hz⟩⟩
theorem ldblock (w : World) (b rb gb : Nat) (st : Option (List UInt8)) (h : LD b rb gb w st) :
    Calls Try.prog 49 #[.pointer (some ⟨rb, 0, none⟩)] w fun e w' => ∃ v x st', e = .returned v ∧ OwnK 5 kByte w.heap.size (fun _ => False) w' v x ∧ Got blockP st x st' ∧ x.length ≤ 1048576 ∧ LD b rb gb w' st' ∧ Step (fun x => x < w.heap.size ∧ x ≠ rb) w w' := by
  obtain ⟨o, st0, h1, h2, h3⟩ := h.ex
  refine (rblock_any w rb gb st0 h2).mono ?_
  rintro e w' ⟨v, rfl, hv, hr, hs⟩
  refine ⟨v, _, (if o then none else (partS st0 4 1048576).2), rfl, hv, ?_, partS_len _ _ _ (by decide), ⟨⟨o, _, (hs.block b ⟨h.lt, h.ne⟩).trans h1, hr, rfl⟩, h.ne, h.ng⟩, hs⟩
  rw [h3]
  cases o with
  | true => exact ⟨fun _ => rfl, fun l e => by simp at e⟩
  | false => exact got_part st0 4 1048576 (by decide)

set_option maxHeartbeats 8000000 in
set_option maxRecDepth 100000 in
theorem ldbit (w : World) (b rb gb : Nat) (st : Option (List UInt8)) (h : LD b rb gb w st) :
    Calls Try.prog 51 #[.pointer (some ⟨b, 0, none⟩)] w fun e w' => ∃ x st', e = .returned (.bool x) ∧ Got bitP st x st' ∧ LD b rb gb w' st' ∧ Step (fun x => x ≠ rb ∧ x ≠ b) w w' := by
  obtain ⟨o, st0, h1, h2, h3⟩ := h.ex
  have hne := h.ne
  have hng := h.ng
  have HN := Lib.hid (rnum_any w rb gb st0 1 h2 (by decide))
  have hc := h.cell
  have hbl := h.lt
  have H1 := Lib.hid h1
  have H3 := Lib.hid h3
  have Hn := Lib.hid (got_num st0 1)
  have Ho := Lib.hid (numS_ok st0 1 (by decide))
  clear h h1 h2 h3
  generalize numS st0 1 = ns at *
  obtain ⟨n, st1⟩ := ns
  go_enter Try.func51, Try.ntmps51
  go_wp2_with fail
  refine HN.out.mono ?_
  rintro e w2 ⟨rfl, hr2, hs2, hz2⟩
  have h2 := (hs2.block b hne).trans H1.out
  have hc2 : w2.cell? ⟨b, 1, none⟩ = some (.bool o) := by rw [Lib.cell_of_heap h2]; rfl
  have fz2 : w2.frozen? ⟨b, 1, none⟩ = false := Lib.frozen_of_heap h2 1
  have hbl2 : b < w2.heap.size := by omega
  obtain ⟨rb2, hn2⟩ : 0 ≤ n ∧ n < 256 := by
    have := Ho.out; simp only [okN] at this; simpa using this
  have Hfin : ∀ o' x, (o' = true ↔ o = true ∨ 1 < n) → x = (n == 1) → Hid (∃ st', Got bitP st x st' ∧ LD b rb gb (w2.setCell ⟨b, 1, none⟩ (.bool o')) st') := fun o' x ho' hx => Lib.hid (by
    refine ⟨if o' then none else st1, ?_, ⟨⟨o', st1, by simp [World.setCell, Array.getElem?_modify, h2], hr2.step (S := fun x => x ≠ b) (setCell_step w2 b 1 _) hne.symm hng.symm, rfl⟩, hne, hng⟩⟩
    · rw [H3.out]
      by_cases ho : o = true
      · have e1 : o' = true := ho'.2 (Or.inl ho)
        rw [if_pos ho, if_pos e1]
        exact ⟨fun _ => rfl, fun l e => by cases e⟩
      · rw [if_neg ho]
        refine Hn.out.bind ?_
        by_cases h1 : 1 < n
        · have e1 : o' = true := ho'.2 (Or.inr h1)
          rw [if_pos e1]
          exact ⟨fun _ => rfl, fun l e => ⟨fun _ => rfl, fun y t h => by dsimp only at h; rw [if_pos h1] at h; cases h⟩⟩
        · have e1 : ¬ o' = true := fun h => (ho'.1 h).elim ho h1
          rw [if_neg e1]
          refine ⟨id, fun l e => ⟨fun h => (by dsimp only at h; rw [if_neg h1] at h; cases h), fun y t h => ?_⟩⟩
          dsimp only at h
          rw [if_neg h1] at h
          obtain ⟨rfl, rfl⟩ := Prod.mk.inj (Option.some.inj h)
          exact ⟨hx, e⟩
)
  have Hs := Lib.hid (fun v => (hs2.imp (S' := fun x => x ≠ rb ∧ x ≠ b) (fun x hx => hx.1)).trans ((setCell_step w2 b 1 v).imp (fun x hx => hx.2)))
  clear h2 hr2 hs2 HN H1 H3 Hn
  cases o with
  | true =>
    have HF := Hfin true (n == 1) (by simp) rfl
    clear Hfin
    go_wp2
    go_ret
    obtain ⟨st', g1, g2⟩ := HF.out
    exact ⟨_, st', rfl, g1, g2, Hs.out _⟩
  | false =>
    by_cases h1 : 1 < n
    · have hd : decide (1 < n) = true := by rw [decide_eq_true_eq]; exact h1
      have HF := Hfin true (n == 1) (by simp [h1]) rfl
      clear Hfin
      go_wp2
      go_ret
      obtain ⟨st', g1, g2⟩ := HF.out
      exact ⟨_, st', rfl, g1, g2, Hs.out _⟩
    · have hd : decide (1 < n) = false := by rw [decide_eq_false_iff_not]; exact h1
      have HF := Hfin false (n == 1) (by simp [h1]) rfl
      clear Hfin
      go_wp2
      go_ret
      obtain ⟨st', g1, g2⟩ := HF.out
      exact ⟨_, st', rfl, g1, g2, Hs.out _⟩

end Go.Proofs.Ytbliedldlimpgaa

namespace Go.Proofs.Ytbliedldlimpgaa
set_option linter.unusedVariables false
set_option linter.unusedSimpArgs false
open Go.RowKit

theorem nall_take_succ (p : List UInt8) (k : Nat) (h : k < p.length) (ha : (p.take k).all nameC = true) (hc : nameC p[k] = true) : (p.take (k + 1)).all nameC = true := by
  rw [List.take_succ_eq_append_getElem h, List.all_append, ha]
  simp [hc]
theorem nname_no (p : List UInt8) (k : Nat) (h : k < p.length) (hc : nameC p[k] = false) : nameB p = false := by
  have : p.all nameC = false := by
    rw [List.all_eq_false]
    exact ⟨p[k], List.getElem_mem h, by simp [hc]⟩
  simp [nameB, this]

set_option maxHeartbeats 4000000 in
set_option maxRecDepth 100000 in
theorem vname_any (w : World) (p : List UInt8) (hp : p.length ≤ 9223372036854775807) :
    Calls Try.prog 57 #[.string ⟨p.toArray⟩] w fun e w' => e = .returned (.bool (nameB p)) ∧ Below w.heap.size w w' := by
  have hsz := size_mk p
  have hconv := run_bytes_of_string (P := Try.prog) w 9 36 5 ⟨p.toArray⟩ Try.underlying9 Try.underlying36 Try.underlying5
  rw [hsz] at hconv
  have Hcells : Hid (∀ k (h : k < p.length), (w.drew.alloc (.cells (bytesRow ⟨p.toArray⟩ (grownCap w p.length 0 5)) 5 ((bytesRow ⟨p.toArray⟩ (grownCap w p.length 0 5)).size, (bytesRow ⟨p.toArray⟩ (grownCap w p.length 0 5)).size + 1))).cell? ⟨w.heap.size, k, none⟩ = some (.int .u8 p[k].toNat)) := Lib.hid (by
    intro k h
    have hh : (w.drew.alloc (.cells (bytesRow ⟨p.toArray⟩ (grownCap w p.length 0 5)) 5 ((bytesRow ⟨p.toArray⟩ (grownCap w p.length 0 5)).size, (bytesRow ⟨p.toArray⟩ (grownCap w p.length 0 5)).size + 1))).heap[w.heap.size]? = _ := heap_alloc_new w.drew _
    simp only [World.cell?, hh]
    exact bytesRow_at ⟨p.toArray⟩ _ k (by simpa using h))
  have Hbel : Hid (Below w.heap.size w (w.drew.alloc (.cells (bytesRow ⟨p.toArray⟩ (grownCap w p.length 0 5)) 5 ((bytesRow ⟨p.toArray⟩ (grownCap w p.length 0 5)).size, (bytesRow ⟨p.toArray⟩ (grownCap w p.length 0 5)).size + 1)))) := Lib.hid (((Below.refl _ w).drew).alloc (Nat.le_refl _) _)
  generalize (w.drew.alloc (.cells (bytesRow ⟨p.toArray⟩ (grownCap w p.length 0 5)) 5 ((bytesRow ⟨p.toArray⟩ (grownCap w p.length 0 5)).size, (bytesRow ⟨p.toArray⟩ (grownCap w p.length 0 5)).size + 1))) = w1 at *
  generalize grownCap w p.length 0 5 = gc at *
  go_enter Try.func57, Try.ntmps57
  go_wp2_with fail
  go_loop [8] (fun i => ∃ k : Nat, k ≤ p.length ∧ i = .int .i64 k ∧ (p.take k).all nameC = true) (fun i => p.length - (intOf i).toNat)
  case atStart => exact ⟨0, Nat.zero_le _, rfl, by simp⟩
  case round =>
    obtain ⟨k, hk, rfl, hall⟩ := hrel
    have Hall := Lib.hid hall
    clear hall hconv
    by_cases hlt : k < p.length
    · have g := Hcells.out k hlt
      obtain ⟨c, hcx⟩ : ∃ c, p[k] = c := ⟨_, rfl⟩
      rw [hcx] at g
      have Hyes : Hid (nameC c = true → (p.take (k + 1)).all nameC = true) := Lib.hid (fun h => nall_take_succ p k hlt Hall.out (by rw [hcx]; exact h))
      have Hno : Hid (nameC c = false → nameB p = false) := Lib.hid (fun h => nname_no p k hlt (by rw [hcx]; exact h))
      have Hdef : Hid (nameC c = nameN c.toNat) := Lib.hid rfl
      clear hcx
      generalize (c.toNat : Int) = n at *
      generalize nameC c = bl at *
      cases bl with
      | true =>
        have Hy := Lib.hid (Hyes.out rfl)
        clear Hyes Hno
        go_wp2
        all_goals try (exfalso; have := Hdef.out; simp [nameN] at this; (try simp only [beq_eq_false_iff_ne, bne_eq_false_iff_eq, bne_iff_ne, beq_iff_eq, ne_eq] at *); omega)
        all_goals go_round
        all_goals first | exact ⟨k + 1, by omega, by go_num, Hy.out⟩ | (simp [intOf]; done) | (simp [intOf]; omega)
      | false =>
        have Hn := Lib.hid (Hno.out rfl)
        clear Hyes Hno
        go_wp2
        all_goals try (exfalso; have := Hdef.out; simp [nameN] at this; (try simp only [beq_eq_false_iff_ne, bne_eq_false_iff_eq, bne_iff_ne, beq_iff_eq, ne_eq] at *); omega)
        all_goals go_ret
        all_goals exact ⟨by rw [Hn.out]; rfl, Hbel.out⟩
    · have hall : p.all nameC = true := by have := Hall.out; rw [List.take_of_length_le (by omega)] at this; exact this
      have hr : nameB p = (decide (1 ≤ p.length) && decide (p.length ≤ 64)) := by simp [nameB, hall]
      have Hr := Lib.hid hr
      clear hr hall
      by_cases h1 : 1 ≤ p.length
      · have hd1 : decide (1 ≤ (p.length : Int)) = true := by rw [decide_eq_true_eq]; omega
        by_cases h2 : p.length ≤ 64
        · have hd2 : decide ((p.length : Int) ≤ 64) = true := by rw [decide_eq_true_eq]; omega
          have Hr2 : Hid (nameB p = true) := Lib.hid (by rw [Hr.out]; simp [h1, h2])
          go_wp2
          go_ret
          exact ⟨by rw [Hr2.out]; rfl, Hbel.out⟩
        · have hd2 : decide ((p.length : Int) ≤ 64) = false := by rw [decide_eq_false_iff_not]; omega
          have Hr2 : Hid (nameB p = false) := Lib.hid (by rw [Hr.out]; simp [h2])
          go_wp2
          go_ret
          exact ⟨by rw [Hr2.out]; rfl, Hbel.out⟩
      · have hd1 : decide (1 ≤ (p.length : Int)) = false := by rw [decide_eq_false_iff_not]; omega
        have Hr2 : Hid (nameB p = false) := Lib.hid (by rw [Hr.out]; simp [h1])
        go_wp2
        go_ret
        exact ⟨by rw [Hr2.out]; rfl, Hbel.out⟩

set_option maxHeartbeats 4000000 in
set_option maxRecDepth 100000 in
theorem jname_any (w : World) (p : List UInt8) (hp : p.length ≤ 9223372036854775807) :
    Calls Try.prog 70 #[.string ⟨p.toArray⟩] w fun e w' => e = .returned (.bool (nameB p)) ∧ w' = w := by
  have hsz := size_mk p
  by_cases h1 : 1 ≤ p.length
  case neg =>
    have Hr : Hid (nameB p = false) := Lib.hid (by simp [nameB, h1])
    go_enter Try.func70, Try.ntmps70
    go_wp2
    go_ret
    exact ⟨by rw [Hr.out]; rfl, rfl⟩
  by_cases h2 : p.length ≤ 64
  case neg =>
    have Hr : Hid (nameB p = false) := Lib.hid (by simp [nameB, h2])
    go_enter Try.func70, Try.ntmps70
    go_wp2
    go_ret
    exact ⟨by rw [Hr.out]; rfl, rfl⟩
  have hg2 : ¬ 64 < p.length := by omega
  have hg1 : ¬ p.length < 1 := by omega
  go_enter Try.func70, Try.ntmps70
  go_wp2
  go_loop [3] (fun i => ∃ k : Nat, k ≤ p.length ∧ i = .int .i64 k ∧ (p.take k).all nameC = true) (fun i => p.length - (intOf i).toNat)
  case atStart => exact ⟨0, Nat.zero_le _, rfl, by simp⟩
  case round =>
    obtain ⟨k, hk, rfl, hall⟩ := hrel
    have Hall := Lib.hid hall
    clear hall
    by_cases hlt : k < p.length
    · obtain ⟨c, hcx⟩ : ∃ c, p[k] = c := ⟨_, rfl⟩
      have hx : (⟨p.toArray⟩ : ByteArray)[k]'(by omega) = c := hcx
      have Hyes : Hid (nameC c = true → (p.take (k + 1)).all nameC = true) := Lib.hid (fun h => nall_take_succ p k hlt Hall.out (by rw [hcx]; exact h))
      have Hno : Hid (nameC c = false → nameB p = false) := Lib.hid (fun h => nname_no p k hlt (by rw [hcx]; exact h))
      have Hdef : Hid (nameC c = nameN c.toNat) := Lib.hid rfl
      clear hcx
      generalize nameC c = bl at *
      cases bl with
      | true =>
        have Hy := Lib.hid (Hyes.out rfl)
        clear Hyes Hno
        go_wp2
        all_goals try (exfalso; have := Hdef.out; simp [nameN] at this; (try simp only [beq_eq_false_iff_ne, bne_eq_false_iff_eq, bne_iff_ne, beq_iff_eq, ne_eq] at *); omega)
        all_goals go_round
        all_goals first | exact ⟨k + 1, by omega, by go_num, Hy.out⟩ | (simp [intOf]; done) | (simp [intOf]; omega)
      | false =>
        have Hn := Lib.hid (Hno.out rfl)
        clear Hyes Hno
        go_wp2
        all_goals try (exfalso; have := Hdef.out; simp [nameN] at this; (try simp only [beq_eq_false_iff_ne, bne_eq_false_iff_eq, bne_iff_ne, beq_iff_eq, ne_eq] at *); omega)
        all_goals go_ret
        all_goals exact ⟨by rw [Hn.out]; rfl, rfl⟩
    · have hall : p.all nameC = true := by have := Hall.out; rw [List.take_of_length_le (by omega)] at this; exact this
      have Hr : Hid (nameB p = true) := Lib.hid (by simp [nameB, hall, h1, h2])
      go_wp2
      go_ret
      exact ⟨by rw [Hr.out]; rfl, rfl⟩

end Go.Proofs.Ytbliedldlimpgaa

namespace Go.Proofs.Ytbliedldlimpgaa
set_option linter.unusedVariables false
set_option linter.unusedSimpArgs false
open Go.RowKit

theorem ret_bool' {a b : Bool} (h : a = b) : Ending.returned (.bool a) = .returned (.bool b) := by rw [h]
theorem ret_int' {k : IntKind} {a b : Int} (h : a = b) : Ending.returned (.int k a) = .returned (.int k b) := by rw [h]

/-- what symver answers of a symbol -/
def rightErr (s : SymL) : Int := if symRightB s = true then 0 else 70
theorem rightErr_bad {s : SymL} (h : symRightB s = false) : rightErr s = 70 := by rw [rightErr, h]; rfl
theorem rightErr_ok {s : SymL} (h : symRightB s = true) : rightErr s = 0 := by rw [rightErr, h]; rfl

/-- a symbol's cells in a block -/
theorem sym_cells {x : World} {b : Nat} {s : SymL} (h : x.heap[b]? = some (.cells #[.string ⟨s.name.toArray⟩, .string ⟨s.version.toArray⟩, .bool s.old, .int .i64 s.kind, .bool s.weak, .int .i64 s.vis, .bool s.defined, .int .i64 s.value, .int .i64 s.size] 54 (0, 0))) :
    x.cell? ⟨b, 0, none⟩ = some (.string ⟨s.name.toArray⟩) ∧ x.cell? ⟨b, 1, none⟩ = some (.string ⟨s.version.toArray⟩) ∧ x.cell? ⟨b, 2, none⟩ = some (.bool s.old) ∧ x.cell? ⟨b, 3, none⟩ = some (.int .i64 s.kind) ∧ x.cell? ⟨b, 4, none⟩ = some (.bool s.weak) ∧
    x.cell? ⟨b, 5, none⟩ = some (.int .i64 s.vis) ∧ x.cell? ⟨b, 6, none⟩ = some (.bool s.defined) ∧ x.cell? ⟨b, 7, none⟩ = some (.int .i64 s.value) ∧ x.cell? ⟨b, 8, none⟩ = some (.int .i64 s.size) := by
  refine ⟨?_, ?_, ?_, ?_, ?_, ?_, ?_, ?_, ?_⟩ <;> (rw [Lib.cell_of_heap h]; rfl)

set_option maxHeartbeats 1000000 in
set_option maxRecDepth 100000 in
theorem vseen_any (w : World) (s : SymL) :
    Calls Try.prog 61 #[.agg #[.string ⟨s.name.toArray⟩, .string ⟨s.version.toArray⟩, .bool s.old, .int .i64 s.kind, .bool s.weak, .int .i64 s.vis, .bool s.defined, .int .i64 s.value, .int .i64 s.size]] w fun e w' => e = .returned (.bool (seenB s)) ∧ Below w.heap.size w w' := by
  obtain ⟨name, version, old, kind, weak, vis, defined, value, size⟩ := s
  have Hr : Hid (seenB ⟨name, version, old, kind, weak, vis, defined, value, size⟩ = (defined && (vis != 2))) := Lib.hid (by
    simp only [seenB]
    by_cases h : vis = 2 <;> simp [h])
  cases defined
  all_goals
    go_enter Try.func61, Try.ntmps61
    go_wp2
    all_goals go_ret
    all_goals exact ⟨by rw [Hr.out]; rfl, (Below.refl _ _).alloc (Nat.le_refl _) _⟩
set_option maxHeartbeats 1000000 in
set_option maxRecDepth 100000 in
theorem jseen_any (w : World) (s : SymL) :
    Calls Try.prog 97 #[.agg #[.string ⟨s.name.toArray⟩, .string ⟨s.version.toArray⟩, .bool s.old, .int .i64 s.kind, .bool s.weak, .int .i64 s.vis, .bool s.defined, .int .i64 s.value, .int .i64 s.size]] w fun e w' => e = .returned (.bool (seenB s)) ∧ Below w.heap.size w w' := by
  obtain ⟨name, version, old, kind, weak, vis, defined, value, size⟩ := s
  have Hr : Hid (seenB ⟨name, version, old, kind, weak, vis, defined, value, size⟩ = (defined && (vis != 2))) := Lib.hid (by
    simp only [seenB]
    by_cases h : vis = 2 <;> simp [h])
  cases defined
  all_goals
    go_enter Try.func97, Try.ntmps97
    go_wp2
    all_goals go_ret
    all_goals exact ⟨by rw [Hr.out]; rfl, (Below.refl _ _).alloc (Nat.le_refl _) _⟩
set_option maxHeartbeats 1000000 in
theorem jsized_any (w : World) (s : List UInt8) :
    Calls Try.prog 71 #[.string ⟨s.toArray⟩] w fun e w' => e = .returned (.bool (sizedB s)) ∧ w' = w := by
  have hsz := size_mk s
  by_cases h1 : 1 ≤ s.length
  · have hd1 : decide (1 ≤ (s.length : Int)) = true := by rw [decide_eq_true_eq]; omega
    have Hr : Hid (sizedB s = decide ((s.length : Int) ≤ 200)) := Lib.hid (by rw [sizedB, Bool.eq_iff_iff]; simp; omega)
    go_enter Try.func71, Try.ntmps71
    go_wp2
    go_ret
    exact ⟨by rw [Hr.out]; rfl, rfl⟩
  · have hd1 : decide (1 ≤ (s.length : Int)) = false := by rw [decide_eq_false_iff_not]; omega
    have Hr : Hid (sizedB s = false) := Lib.hid (by rw [sizedB]; simp [h1])
    go_enter Try.func71, Try.ntmps71
    go_wp2
    go_ret
    exact ⟨by rw [Hr.out]; rfl, rfl⟩

set_option maxHeartbeats 8000000 in
set_option maxRecDepth 100000 in
theorem vright_any (w : World) (s : SymL) (hs : SymOk s) :
    Calls Try.prog 58 #[.agg #[.string ⟨s.name.toArray⟩, .string ⟨s.version.toArray⟩, .bool s.old, .int .i64 s.kind, .bool s.weak, .int .i64 s.vis, .bool s.defined, .int .i64 s.value, .int .i64 s.size]] w fun e w' => e = .returned (.int .i64 (rightErr s)) ∧ Below w.heap.size w w' := by
  have hz1 := hs.name
  have hz2 := hs.version
  have hsz1 := size_mk s.name
  have hsz2 := size_mk s.version
  have F1 := Lib.hid (heap_alloc_new w (.cells #[.string ⟨s.name.toArray⟩, .string ⟨s.version.toArray⟩, .bool s.old, .int .i64 s.kind, .bool s.weak, .int .i64 s.vis, .bool s.defined, .int .i64 s.value, .int .i64 s.size] 54 (0, 0)))
  have B1 := Lib.hid ((Below.refl w.heap.size w).alloc (Nat.le_refl _) (.cells #[.string ⟨s.name.toArray⟩, .string ⟨s.version.toArray⟩, .bool s.old, .int .i64 s.kind, .bool s.weak, .int .i64 s.vis, .bool s.defined, .int .i64 s.value, .int .i64 s.size] 54 (0, 0)))
  go_enter Try.func58, Try.ntmps58
  go_wp2_with fail
  refine (vname_any _ s.name hz1).mono ?_
  rintro e w2 ⟨rfl, hb2⟩
  have F2 := Lib.hid ((hb2.block w.heap.size (by simp)).trans F1.out)
  have B2 := Lib.hid (B1.out.trans (hb2.mono (by simp)))
  obtain ⟨c0, c1, c2, c3, c4, c5, c6, c7, c8⟩ := sym_cells F2.out
  clear hb2
  cases hn : nameB s.name with
  | false =>
    have Hr : Hid (rightErr s = 70) := Lib.hid (rightErr_bad (by simp [symRightB, hn]))
    cases hd : s.defined
    all_goals
      rw [hd] at c6
      go_wp2
      all_goals go_ret
      all_goals exact ⟨by rw [Hr.out]; rfl, B2.out⟩
  | true =>
    have Hb : Hid (symRightB s = false → rightErr s = 70) := Lib.hid rightErr_bad
    have Ho : Hid (symRightB s = true → rightErr s = 0) := Lib.hid rightErr_ok
    cases hq : s.version.isEmpty with
    | true =>
      have hv : s.version = [] := List.isEmpty_iff.1 hq
      have Hv := Lib.hid hv
      have Hn := Lib.hid hn
      clear hv
      cases hd : s.defined
      all_goals
        have Hd := Lib.hid hd
        rw [hd] at c6
        cases ho : s.old
        all_goals
          have Ho2 := Lib.hid ho
          rw [ho] at c2
          clear ho
          go_wp2
          all_goals go_ret
          all_goals (try simp only [beq_eq_false_iff_ne, bne_eq_false_iff_eq, bne_iff_ne, beq_iff_eq, ne_eq] at *)
          all_goals first
            | (refine ⟨ret_int' (Ho.out ?_).symm, B2.out⟩; simp [symRightB, Hn.out, Hv.out, Hd.out, Ho2.out]; done)
            | (refine ⟨ret_int' (Ho.out ?_).symm, B2.out⟩; simp [symRightB, Hn.out, Hv.out, Hd.out, Ho2.out]; omega)
            | (refine ⟨ret_int' (Hb.out ?_).symm, B2.out⟩; simp [symRightB, Hn.out, Hv.out, Hd.out, Ho2.out]; done)
            | (refine ⟨ret_int' (Hb.out ?_).symm, B2.out⟩; simp [symRightB, Hn.out, Hv.out, Hd.out, Ho2.out]; intros; omega)
    | false =>
      have Hv : Hid (decide (s.version = []) = false) := Lib.hid (by rw [decide_eq_false_iff_not]; intro e; rw [e] at hq; simp at hq)
      have Hn := Lib.hid hn
      go_wp2_with fail
      refine (vname_any _ s.version hz2).mono ?_
      rintro e w3 ⟨rfl, hb3⟩
      have F3 := Lib.hid ((hb3.block w.heap.size (by have := B2.out.size; have := World.block_lt_of_cell? _ _ c0; omega)).trans F2.out)
      have B3 := Lib.hid (B2.out.trans (hb3.mono B2.out.size))
      clear hb3 c0 c1 c2 c3 c4 c5 c6 c7 c8
      obtain ⟨c0, c1, c2, c3, c4, c5, c6, c7, c8⟩ := sym_cells F3.out
      cases hv2 : nameB s.version with
      | false =>
        have Hr : Hid (rightErr s = 70) := Lib.hid (rightErr_bad (by simp [symRightB, Hv.out, hv2]))
        cases hd : s.defined
        all_goals
          rw [hd] at c6
          go_wp2
          all_goals go_ret
          all_goals exact ⟨by rw [Hr.out]; rfl, B3.out⟩
      | true =>
        have Hv2 := Lib.hid hv2
        cases hd : s.defined
        all_goals
          have Hd := Lib.hid hd
          rw [hd] at c6
          cases ho : s.old
          all_goals
            have Ho2 := Lib.hid ho
            rw [ho] at c2
            clear ho
            go_wp2
            all_goals go_ret
            all_goals (try simp only [beq_eq_false_iff_ne, bne_eq_false_iff_eq, bne_iff_ne, beq_iff_eq, ne_eq] at *)
            all_goals first
              | (refine ⟨ret_int' (Ho.out ?_).symm, B3.out⟩; simp [symRightB, Hn.out, Hv.out, Hv2.out, Hd.out, Ho2.out]; done)
              | (refine ⟨ret_int' (Ho.out ?_).symm, B3.out⟩; simp [symRightB, Hn.out, Hv.out, Hv2.out, Hd.out, Ho2.out]; omega)
              | (refine ⟨ret_int' (Hb.out ?_).symm, B3.out⟩; simp [symRightB, Hn.out, Hv.out, Hv2.out, Hd.out, Ho2.out]; done)
              | (refine ⟨ret_int' (Hb.out ?_).symm, B3.out⟩; simp [symRightB, Hn.out, Hv.out, Hv2.out, Hd.out, Ho2.out]; intros; omega)

end Go.Proofs.Ytbliedldlimpgaa

namespace Go.Proofs.Ytbliedldlimpgaa
set_option linter.unusedVariables false
set_option linter.unusedSimpArgs false
open Go.RowKit

/-- what an image's value is, and what it reads as -/
structure ImgV where
  segs : Value
  needed : Value
  runPath : Value
  syms : Value
  buckets : Value
  words : Value
  relocs : Value
  slots : Value
  init : Value
  fini : Value
  tls : Value
/-- an image's fifteen cells -/
def imgCells (v : ImgV) (im : ImgL) : Array Value :=
  #[.string ⟨im.name.toArray⟩, .int .i64 im.flags, v.segs, v.needed, v.runPath, v.syms, v.buckets, v.words, .int .i64 im.shift, v.relocs, v.slots, v.init, v.fini, v.tls, .int .i64 im.tlsSize]

theorem any_take_succ {α : Type} (f : α → Bool) (l : List α) (k : Nat) (x : α) (hx : l[k]? = some x) (ha : (l.take k).any f = false) (hf : f x = false) : (l.take (k + 1)).any f = false := by
  obtain ⟨h, rfl⟩ := List.getElem?_eq_some_iff.1 hx
  rw [List.take_succ_eq_append_getElem h, List.any_append, ha]
  simp [hf]
theorem any_hit {α : Type} (f : α → Bool) (l : List α) (k : Nat) (x : α) (hx : l[k]? = some x) (hf : f x = true) : l.any f = true :=
  List.any_eq_true.2 ⟨x, List.mem_of_getElem? hx, hf⟩

/-- a segment that may be asked: its numbers are small -/
def SegOk (s : SegL) : Prop := 0 ≤ s.at_ ∧ s.at_ ≤ 65536 ∧ 1 ≤ s.size ∧ s.size ≤ 65536 ∧ 0 ≤ s.perm ∧ s.perm ≤ 7
def holdB (s : SegL) (at_ n p : Int) : Bool := decide (s.at_ ≤ at_) && decide (n ≤ s.size) && decide (at_ - s.at_ ≤ s.size - n) && permB s.perm p
theorem holdsB_any (l : List SegL) (at_ n p : Int) : holdsB l at_ n p = l.any fun s => holdB s at_ n p := rfl
theorem permB_bits (p q : Int) (h0 : 0 ≤ p) (h1 : p ≤ 7) (hq : q = 0 ∨ q = 2 ∨ q = 4) : (bits BinOp.and .i64 p q == q) = permB p q := by
  obtain ⟨n, rfl⟩ : ∃ n : Nat, p = n := ⟨p.toNat, by omega⟩
  have hn : n ≤ 7 := by omega
  have h : ∀ m : Nat, m ≤ 7 → (bits BinOp.and .i64 ((m : Nat) : Int) 0 == 0) = permB ((m : Nat) : Int) 0 ∧ (bits BinOp.and .i64 ((m : Nat) : Int) 2 == 2) = permB ((m : Nat) : Int) 2 ∧ (bits BinOp.and .i64 ((m : Nat) : Int) 4 == 4) = permB ((m : Nat) : Int) 4 := by decide +kernel
  rcases hq with rfl | rfl | rfl
  · exact (h n hn).1
  · exact (h n hn).2.1
  · exact (h n hn).2.2

set_option maxHeartbeats 8000000 in
set_option maxRecDepth 100000 in
theorem holds_any (w : World) (v : ImgV) (im : ImgL) (at_ n p : Int) (hs : LB kSeg (· < w.heap.size) w v.segs im.segs) (hok : ∀ s ∈ im.segs, SegOk s)
    (ha : -9223372036854775808 ≤ at_ ∧ at_ ≤ 9223372036854775807) (hn : 0 ≤ n ∧ n ≤ 9223372036854775807) (hp : p = 0 ∨ p = 2 ∨ p = 4) :
    Calls Try.prog 59 #[.agg (imgCells v im), .agg #[.int .i64 at_, .int .i64 n, .int .i64 p]] w fun e w' => e = .returned (.bool (holdsB im.segs at_ n p)) ∧ Below w.heap.size w w' := by
  rw [holdsB_any]
  unfold imgCells
  obtain ⟨sa, sb, soff, scap, hsv, hsm, hsc, hat⟩ := hs.at
  rw [hsv]
  have Hat := Lib.hid hat
  have Hok := Lib.hid hok
  have Hp := Lib.hid hp
  clear hs hat hok hp hsv
  go_enter Try.func59, Try.ntmps59
  go_wp2
  go_loopw [10] (fun i wr => ∃ (k : Nat), i = .int .i64 k ∧ k ≤ im.segs.length ∧ (im.segs.take k).any (fun s => holdB s at_ n p) = false ∧ Below w.heap.size w wr ∧ wr.heap[w.heap.size + 1]? = some (.cells #[.int .i64 at_, .int .i64 n, .int .i64 p] 111 (0, 0))) (fun i _ => im.segs.length - (intOf i).toNat)
  case atStart => exact ⟨0, rfl, Nat.zero_le _, rfl, ((Below.refl _ _).alloc (Nat.le_refl _) _).alloc (by simp) _, by simpa only [World.size_alloc] using heap_alloc_new (w.alloc _) _⟩
  case round =>
    obtain ⟨k, rfl, hk, hno, hbel, hq⟩ := hrel
    have Hno := Lib.hid hno
    have Hbel := Lib.hid hbel
    have Hq := Lib.hid hq
    have hBr := hbel.size
    by_cases hlt : k < im.segs.length
    · obtain rfl := Hat.out.addr (by omega)
      obtain ⟨s, hx⟩ : ∃ s, im.segs[k]? = some s := ⟨_, List.getElem?_eq_getElem hlt⟩
      obtain ⟨c, g0, g1, g2, g3, hc⟩ := (Hat.out.below hbel).seg4 k s hx
      obtain ⟨ca, cc, rfl⟩ := hc.form
      clear hc
      obtain ⟨o1, o2, o3, o4, o5, o6⟩ := Hok.out s (List.mem_of_getElem? hx)
      have q0 : wr.cell? ⟨w.heap.size + 1, 0, none⟩ = some (.int .i64 at_) := by rw [Lib.cell_of_heap hq]; rfl
      have q1 : wr.cell? ⟨w.heap.size + 1, 1, none⟩ = some (.int .i64 n) := by rw [Lib.cell_of_heap hq]; rfl
      have q2 : wr.cell? ⟨w.heap.size + 1, 2, none⟩ = some (.int .i64 p) := by rw [Lib.cell_of_heap hq]; rfl
      have hpb := permB_bits s.perm p o5 o6 Hp.out
      have Hhit : Hid (holdB s at_ n p = true → im.segs.any (fun s => holdB s at_ n p) = true) := Lib.hid (any_hit (fun s => holdB s at_ n p) _ k s hx)
      have Hmiss : Hid (holdB s at_ n p = false → (im.segs.take (k + 1)).any (fun s => holdB s at_ n p) = false) := Lib.hid (any_take_succ (fun s => holdB s at_ n p) _ k s hx Hno.out)
      have Hd : Hid (holdB s at_ n p = (decide (s.at_ ≤ at_) && decide (n ≤ s.size) && decide (at_ - s.at_ ≤ s.size - n) && permB s.perm p)) := Lib.hid rfl
      have hzq : w.heap.size + 1 < wr.heap.size := by
        rcases Nat.lt_or_ge (w.heap.size + 1) wr.heap.size with h' | h'
        · exact h'
        · rw [Array.getElem?_eq_none h'] at hq; cases hq
      clear hno hbel hq hx
      generalize holdB s at_ n p = hb at *
      generalize s.at_ = sat at *
      generalize s.size = ssz at *
      generalize s.perm = spm at *
      generalize permB spm p = pb at *
      by_cases h1 : sat ≤ at_
      · by_cases h2 : n ≤ ssz
        · by_cases h3 : at_ - sat ≤ ssz - n
          · cases pb with
            | true =>
              have Hh := Lib.hid (Hhit.out (by rw [Hd.out]; simp [h1, h2, h3]))
              go_wp2
              go_ret
              exact ⟨by rw [Hh.out]; rfl, Hbel.out.alloc hBr _⟩
            | false =>
              have Hm := Lib.hid (Hmiss.out (by rw [Hd.out]; simp))
              go_wp2
              go_roundw
              case rel => exact ⟨k + 1, by go_num, by omega, Hm.out, Hbel.out.alloc hBr _, by rw [Lib.alloc_old _ _ _ hzq]; exact Hq.out⟩
              case measure => simp [intOf]; omega
          · have Hm := Lib.hid (Hmiss.out (by rw [Hd.out]; simp [h3]))
            go_wp2
            go_roundw
            case rel => exact ⟨k + 1, by go_num, by omega, Hm.out, Hbel.out.alloc hBr _, by rw [Lib.alloc_old _ _ _ hzq]; exact Hq.out⟩
            case measure => simp [intOf]; omega
        · have Hm := Lib.hid (Hmiss.out (by rw [Hd.out]; simp [h2]))
          go_wp2
          go_roundw
          case rel => exact ⟨k + 1, by go_num, by omega, Hm.out, Hbel.out.alloc hBr _, by rw [Lib.alloc_old _ _ _ hzq]; exact Hq.out⟩
          case measure => simp [intOf]; omega
      · have Hm := Lib.hid (Hmiss.out (by rw [Hd.out]; simp [h1]))
        go_wp2
        go_roundw
        case rel => exact ⟨k + 1, by go_num, by omega, Hm.out, Hbel.out.alloc hBr _, by rw [Lib.alloc_old _ _ _ hzq]; exact Hq.out⟩
        case measure => simp [intOf]; omega
    · have Hn2 : Hid (im.segs.any (fun s => holdB s at_ n p) = false) := Lib.hid (by have := Hno.out; rw [List.take_of_length_le (by omega)] at this; exact this)
      clear hno hbel hq
      go_wp2
      go_ret
      exact ⟨by rw [Hn2.out]; rfl, Hbel.out⟩

end Go.Proofs.Ytbliedldlimpgaa

namespace Go.Proofs.Ytbliedldlimpgaa
set_option linter.unusedVariables false
set_option linter.unusedSimpArgs false
open Go.RowKit

theorem symAt_neg (im : ImgL) (i : Int) (h : i < 0) : symAt im i = none := by rw [symAt, if_pos h]
theorem symAt_far (im : ImgL) (i : Int) (h : (im.syms.length : Int) ≤ i) : symAt im i = none := by
  rw [symAt, if_neg (by omega)]
  exact List.getElem?_eq_none (by omega)
theorem symAt_in (im : ImgL) (k : Nat) (s : SymL) (h : im.syms[k]? = some s) : symAt im k = some s := by
  rw [symAt, if_neg (by omega), Int.toNat_natCast]; exact h
/-- no symbol at all -/
def noSym : SymL := ⟨[], [], false, 0, false, 0, false, 0, 0⟩
def symD (im : ImgL) (i : Int) : SymL := (symAt im i).getD noSym
/-- what sym answers -/
def symV (im : ImgL) (i : Int) : Value := .tuple #[.agg (symCells (symD im i)).toArray, .bool (symAt im i).isSome]

set_option maxHeartbeats 4000000 in
set_option maxRecDepth 100000 in
theorem isym_any (w : World) (v : ImgV) (im : ImgL) (i : Int) (hs : LB kSym (· < w.heap.size) w v.syms im.syms) (hi : -9223372036854775808 ≤ i ∧ i ≤ 9223372036854775807) :
    Calls Try.prog 69 #[.agg (imgCells v im), .int .i64 i] w fun e w' => e = .returned (symV im i) ∧ Below w.heap.size w w' := by
  unfold imgCells
  obtain ⟨sa, sb, soff, scap, hsv, hsm, hsc, hat⟩ := hs.at
  rw [hsv]
  have Hat := Lib.hid hat
  clear hs hat hsv
  by_cases h1 : i < 0
  · have Hv : Hid (symV im i = .tuple #[.agg #[.string ⟨#[]⟩, .string ⟨#[]⟩, .bool false, .int .i64 0, .bool false, .int .i64 0, .bool false, .int .i64 0, .int .i64 0], .bool false]) := Lib.hid (by rw [symV, symD, symAt_neg im i h1]; rfl)
    go_enter Try.func69, Try.ntmps69
    go_wp2
    refine bodyPost_ret (v := .tuple #[.agg #[.string ⟨#[]⟩, .string ⟨#[]⟩, .bool false, .int .i64 0, .bool false, .int .i64 0, .bool false, .int .i64 0, .int .i64 0], .bool false]) (by simp [results, Try.results69, go_sem]) rfl ⟨by rw [Hv.out], ((Below.refl _ _).alloc (Nat.le_refl _) _).alloc (by simp) _⟩
  by_cases h2 : (im.syms.length : Int) ≤ i
  · have Hv : Hid (symV im i = .tuple #[.agg #[.string ⟨#[]⟩, .string ⟨#[]⟩, .bool false, .int .i64 0, .bool false, .int .i64 0, .bool false, .int .i64 0, .int .i64 0], .bool false]) := Lib.hid (by rw [symV, symD, symAt_far im i h2]; rfl)
    go_enter Try.func69, Try.ntmps69
    go_wp2
    refine bodyPost_ret (v := .tuple #[.agg #[.string ⟨#[]⟩, .string ⟨#[]⟩, .bool false, .int .i64 0, .bool false, .int .i64 0, .bool false, .int .i64 0, .int .i64 0], .bool false]) (by simp [results, Try.results69, go_sem]) rfl ⟨by rw [Hv.out], ((Below.refl _ _).alloc (Nat.le_refl _) _).alloc (by simp) _⟩
  · obtain ⟨k, rfl⟩ : ∃ k : Nat, i = k := ⟨i.toNat, by omega⟩
    have hlt : k < im.syms.length := by omega
    obtain rfl := Hat.out.addr (by omega)
    obtain ⟨s, hx⟩ : ∃ s, im.syms[k]? = some s := ⟨_, List.getElem?_eq_getElem hlt⟩
    obtain ⟨_, g0, g1, g2, g3, g4, g5, g6, g7, g8⟩ := Hat.out.sym9 k s hx
    have Hv : Hid (symV im (k : Int) = .tuple #[.agg #[.string ⟨s.name.toArray⟩, .string ⟨s.version.toArray⟩, .bool s.old, .int .i64 s.kind, .bool s.weak, .int .i64 s.vis, .bool s.defined, .int .i64 s.value, .int .i64 s.size], .bool true]) := Lib.hid (by rw [symV, symD, symAt_in im k s hx]; rfl)
    have hsb := World.block_lt_of_cell? _ _ g0
    clear hx h1 h2
    obtain ⟨name, version, old, kind, weak, vis, defined, value, size⟩ := s
    simp only at *
    go_enter Try.func69, Try.ntmps69
    go_wp2
    refine bodyPost_ret (v := .tuple #[.agg #[.string ⟨name.toArray⟩, .string ⟨version.toArray⟩, .bool old, .int .i64 kind, .bool weak, .int .i64 vis, .bool defined, .int .i64 value, .int .i64 size], .bool true]) (by simp [results, Try.results69, go_sem]) rfl ⟨by rw [Hv.out], ((Below.refl _ _).alloc (Nat.le_refl _) _).alloc (by simp) _⟩

set_option maxHeartbeats 1000000 in
theorem ismall_any (w : World) (n : Int) :
    Calls Try.prog 66 #[.int .i64 n] w fun e w' => e = .returned (.bool (decide (-4294967296 ≤ n) && decide (n ≤ 4294967296))) ∧ w' = w := by
  by_cases h1 : -4294967296 ≤ n
  · have hd1 : decide (-4294967296 ≤ n) = true := by rw [decide_eq_true_eq]; exact h1
    go_enter Try.func66, Try.ntmps66
    go_wp2
    go_ret
    exact ⟨ret_bool' (by simp [h1]), rfl⟩
  · have hd1 : decide (-4294967296 ≤ n) = false := by rw [decide_eq_false_iff_not]; exact h1
    go_enter Try.func66, Try.ntmps66
    go_wp2
    go_ret
    exact ⟨ret_bool' (by simp [h1]), rfl⟩

theorem upL_same (n : Int) (h0 : 0 ≤ n) (h : n % 64 = 0) : upL n = n := by unfold upL; omega
theorem upL_next (n : Int) (h0 : 0 ≤ n) (h : n % 64 ≠ 0) : upL n = n - n % 64 + 64 := by unfold upL; omega
set_option maxHeartbeats 1000000 in
theorem jup_any (w : World) (n : Int) (h0 : 0 ≤ n) (h1 : n ≤ 1000000) :
    Calls Try.prog 72 #[.int .i64 n] w fun e w' => e = .returned (.int .i64 (upL n)) ∧ w' = w := by
  by_cases h : n % 64 = 0
  · have hb : (n % 64 == 0) = true := by rw [beq_iff_eq]; exact h
    have Hr := Lib.hid (upL_same n h0 h)
    clear h
    go_enter Try.func72, Try.ntmps72
    go_wp2
    go_ret
    exact ⟨by rw [Hr.out]; rfl, rfl⟩
  · have hb : (n % 64 == 0) = false := by rw [beq_eq_false_iff_ne]; exact h
    have Hr := Lib.hid (upL_next n h0 h)
    clear h
    go_enter Try.func72, Try.ntmps72
    go_wp2
    go_ret
    exact ⟨by rw [Hr.out]; rfl, rfl⟩

end Go.Proofs.Ytbliedldlimpgaa

namespace Go.Proofs.Ytbliedldlimpgaa
set_option linter.unusedVariables false
set_option linter.unusedSimpArgs false
open Go.RowKit

theorem hashL_app : ∀ (a b : List UInt8) (h : Int), hashL h (a ++ b) = hashL (hashL h a) b
  | [], _, _ => rfl
  | c :: a, b, h => hashL_app a b _
theorem hashL_snoc (h : Int) (p : List UInt8) (k : Nat) (c : UInt8) (hk : k < p.length) (hc : p[k] = c) : hashL h (p.take (k + 1)) = (33 * hashL h (p.take k) + c.toNat) % 4294967296 := by
  rw [List.take_succ_eq_append_getElem hk, hashL_app, hc]; rfl
theorem hashL_range : ∀ (l : List UInt8) (h : Int), 0 ≤ h ∧ h < 4294967296 → 0 ≤ hashL h l ∧ hashL h l < 4294967296
  | [], _, hh => hh
  | c :: l, h, hh => hashL_range l _ ⟨Int.emod_nonneg _ (by decide), Int.emod_lt_of_pos _ (by decide)⟩
theorem more_wrap (hh : Int) (c : UInt8) (h : 0 ≤ hh ∧ hh < 4294967296) : (IntKind.u64.wrap (hh * 33 + IntKind.u64.wrap (c.toNat : Int))).tmod 4294967296 = (33 * hh + (c.toNat : Int)) % 4294967296 := by
  have hc := c.toNat_lt
  have h1 : IntKind.u64.wrap (c.toNat : Int) = (c.toNat : Int) := IntWalk.u64_in _ ⟨by omega, by omega⟩
  have h2 : IntKind.u64.wrap (hh * 33 + (c.toNat : Int)) = hh * 33 + (c.toNat : Int) := IntWalk.u64_in _ ⟨by omega, by omega⟩
  rw [h1, h2, Int.tmod_eq_emod_of_nonneg (by omega), Int.mul_comm]
theorem hashB_range (s : List UInt8) : 0 ≤ hashB s ∧ hashB s < 4294967296 := hashL_range s 5381 (by decide)

set_option maxHeartbeats 4000000 in
set_option maxRecDepth 100000 in
theorem shash_any (w : World) (p : List UInt8) (hp : p.length ≤ 9223372036854775807) :
    Calls Try.prog 64 #[.string ⟨p.toArray⟩] w fun e w' => e = .returned (.int .u32 (hashB p)) ∧ w' = w := by
  have hsz := size_mk p
  go_enter Try.func64, Try.ntmps64
  go_wp2
  go_loop [3, 7] (fun h i => ∃ k : Nat, k ≤ p.length ∧ i = .int .i64 k ∧ h = .int .u32 (hashL 5381 (p.take k))) (fun _ i => p.length - (intOf i).toNat)
  case atStart => exact ⟨0, Nat.zero_le _, rfl, rfl⟩
  case round =>
    obtain ⟨k, hk, rfl, rfl⟩ := hrel
    by_cases hlt : k < p.length
    · obtain ⟨c, hcx⟩ : ∃ c, p[k] = c := ⟨_, rfl⟩
      have hx : (⟨p.toArray⟩ : ByteArray)[k]'(by omega) = c := hcx
      have Hs := Lib.hid (hashL_snoc 5381 p k c hlt hcx)
      have hr := hashL_range (p.take k) 5381 (by decide)
      clear hcx
      generalize hashL 5381 (p.take k) = hh at *
      go_wp2
      go_round
      case rel => exact ⟨k + 1, by omega, by go_num, by rw [Hs.out]; go_num⟩
      case measure => simp [intOf]; omega
    · have He : Hid (hashL 5381 (p.take k) = hashB p) := Lib.hid (by rw [List.take_of_length_le (by omega)]; rfl)
      go_wp2
      go_ret
      exact ⟨by rw [He.out]; rfl, rfl⟩

set_option maxHeartbeats 4000000 in
set_option maxRecDepth 100000 in
theorem jmore_any (w : World) (h0 : Int) (p : List UInt8) (hp : p.length ≤ 9223372036854775807) (hh0 : 0 ≤ h0 ∧ h0 < 4294967296) :
    Calls Try.prog 98 #[.int .u32 h0, .string ⟨p.toArray⟩] w fun e w' => e = .returned (.int .u32 (hashL h0 p)) ∧ w' = w := by
  have hsz := size_mk p
  go_enter Try.func98, Try.ntmps98
  go_wp2
  go_loop [5, 6] (fun h i => ∃ k : Nat, k ≤ p.length ∧ i = .int .i64 k ∧ h = .int .u64 (hashL h0 (p.take k))) (fun _ i => p.length - (intOf i).toNat)
  case atStart => exact ⟨0, Nat.zero_le _, rfl, by go_num⟩
  case round =>
    obtain ⟨k, hk, rfl, rfl⟩ := hrel
    have hr := hashL_range (p.take k) h0 hh0
    by_cases hlt : k < p.length
    · obtain ⟨c, hcx⟩ : ∃ c, p[k] = c := ⟨_, rfl⟩
      have hx : (⟨p.toArray⟩ : ByteArray)[k]'(by omega) = c := hcx
      have Hs := Lib.hid (hashL_snoc h0 p k c hlt hcx)
      clear hcx
      generalize hashL h0 (p.take k) = hh at *
      go_wp2
      go_round
      case rel => exact ⟨k + 1, by omega, by go_num, by rw [Hs.out, ← more_wrap hh c hr]⟩
      case measure => simp [intOf]; omega
    · have He : Hid (hashL h0 (p.take k) = hashL h0 p) := Lib.hid (by rw [List.take_of_length_le (by omega)])
      generalize hashL h0 (p.take k) = hh at *
      go_wp2
      go_ret
      exact ⟨by rw [← He.out]; go_num, rfl⟩

set_option maxHeartbeats 1000000 in
theorem jhash_any (w : World) (p : List UInt8) (hp : p.length ≤ 9223372036854775807) :
    Calls Try.prog 79 #[.string ⟨p.toArray⟩] w fun e w' => e = .returned (.int .u32 (hashB p)) ∧ w' = w := by
  go_enter Try.func79, Try.ntmps79
  go_wp2_with fail
  refine (jmore_any _ 5381 p hp (by decide)).mono ?_
  rintro e w2 ⟨rfl, rfl⟩
  go_wp2
  go_ret
  exact ⟨rfl, rfl⟩

end Go.Proofs.Ytbliedldlimpgaa

namespace Go.Proofs.Ytbliedldlimpgaa
set_option linter.unusedVariables false
set_option linter.unusedSimpArgs false
open Go.RowKit

def powB (n : Nat) : Bool := decide (n = 1) || decide (n = 2) || decide (n = 4) || decide (n = 8) || decide (n = 16) || decide (n = 32) || decide (n = 64)
theorem sieveB_pow (ws : List Int) (s : Int) : sieveB ws s = (powB ws.length && decide (1 ≤ s) && decide (s ≤ 31)) := rfl
theorem powB_bits (n : Nat) (h0 : 1 ≤ n) (h1 : n ≤ 64) : (bits BinOp.and .i64 (n : Int) ((n : Int) - 1) != 0) = !powB n := by
  have h : ∀ m : Nat, m ≤ 64 → 1 ≤ m → (bits BinOp.and .i64 (m : Int) ((m : Int) - 1) != 0) = !powB m := by decide +kernel
  exact h n h1 h0
theorem powB_small (n : Nat) (h : ¬ (1 ≤ n ∧ n ≤ 64)) : powB n = false := by simp [powB]; omega
/-- what sieve.Right answers -/
def sieveErr (ws : List Int) (s : Int) : Int := if sieveB ws s then 0 else 20
theorem sieveErr_ok {ws : List Int} {s : Int} (h : powB ws.length = true) (h1 : 1 ≤ s) (h2 : s ≤ 31) : sieveErr ws s = 0 := by rw [sieveErr, sieveB_pow, h]; simp [h1, h2]
theorem sieveErr_no {ws : List Int} {s : Int} (h : ¬ (powB ws.length = true ∧ 1 ≤ s ∧ s ≤ 31)) : sieveErr ws s = 20 := by
  have : sieveB ws s = false := by
    rw [sieveB_pow]
    cases hp : powB ws.length <;> simp
    by_cases h1 : 1 ≤ s
    · exact fun _ => by
        by_cases h2 : s ≤ 31
        · exact absurd ⟨hp, h1, h2⟩ h
        · omega
    · intro h3; omega
  rw [sieveErr, this]; rfl

set_option maxHeartbeats 8000000 in
set_option maxRecDepth 100000 in
theorem sright_any (w : World) (ws : List Int) (a : Option Addr) (c : Nat) (s : Int) (hz : ws.length ≤ 9223372036854775807) :
    Calls Try.prog 60 #[.agg #[.slice a ws.length c, .int .i64 s]] w fun e w' => e = .returned (.int .i64 (sieveErr ws s)) ∧ Below w.heap.size w w' := by
  have Hb := Lib.hid ((Below.refl w.heap.size w).alloc (Nat.le_refl _) (.cells #[.slice a ws.length c, .int .i64 s] 30 (0, 0)))
  by_cases h1 : 1 ≤ ws.length
  case neg =>
    have Hr := Lib.hid (sieveErr_no (ws := ws) (s := s) (fun h => by have := h.1; rw [powB_small _ (by omega)] at this; cases this))
    have hl : ws.length < 1 := by omega
    go_enter Try.func60, Try.ntmps60
    go_wp2
    all_goals go_ret
    all_goals exact ⟨by rw [Hr.out]; rfl, Hb.out⟩
  by_cases h2 : ws.length ≤ 64
  case neg =>
    have Hr := Lib.hid (sieveErr_no (ws := ws) (s := s) (fun h => by have := h.1; rw [powB_small _ (by omega)] at this; cases this))
    have hl : ¬ ws.length < 1 := by omega
    have hl2 : 64 < ws.length := by omega
    go_enter Try.func60, Try.ntmps60
    go_wp2
    all_goals go_ret
    all_goals exact ⟨by rw [Hr.out]; rfl, Hb.out⟩
  have hl : ¬ ws.length < 1 := by omega
  have hl2 : ¬ 64 < ws.length := by omega
  have hbits := powB_bits ws.length h1 h2
  cases hp : powB ws.length with
  | false =>
    have Hr := Lib.hid (sieveErr_no (ws := ws) (s := s) (fun h => by have := h.1; rw [hp] at this; cases this))
    rw [hp] at hbits
    clear hp
    simp only [Bool.not_false] at hbits
    go_enter Try.func60, Try.ntmps60
    go_wp2
    all_goals go_ret
    all_goals exact ⟨by rw [Hr.out]; rfl, Hb.out⟩
  | true =>
    have Hy := Lib.hid (fun h3 h4 => sieveErr_ok (ws := ws) (s := s) hp h3 h4)
    have Hn := Lib.hid (fun h3 => sieveErr_no (ws := ws) (s := s) h3)
    rw [hp] at hbits
    clear hp
    simp only [Bool.not_true] at hbits
    by_cases h3 : s < 1
    · have Hr := Lib.hid (Hn.out (fun h => by omega))
      go_enter Try.func60, Try.ntmps60
      go_wp2
      all_goals go_ret
      all_goals exact ⟨by rw [Hr.out]; rfl, Hb.out⟩
    by_cases h4 : 31 < s
    · have Hr := Lib.hid (Hn.out (fun h => by omega))
      go_enter Try.func60, Try.ntmps60
      go_wp2
      all_goals go_ret
      all_goals exact ⟨by rw [Hr.out]; rfl, Hb.out⟩
    · have Hr := Lib.hid (Hy.out (by omega) (by omega))
      go_enter Try.func60, Try.ntmps60
      go_wp2
      all_goals go_ret
      all_goals exact ⟨by rw [Hr.out]; rfl, Hb.out⟩

end Go.Proofs.Ytbliedldlimpgaa

namespace Go.Proofs.Ytbliedldlimpgaa
set_option linter.unusedVariables false
set_option linter.unusedSimpArgs false
open Go.RowKit

theorem powB_iff (n : Nat) : powB n = true ↔ (n = 1 ∨ n = 2 ∨ n = 4 ∨ n = 8 ∨ n = 16 ∨ n = 32 ∨ n = 64) := by
  simp only [powB, Bool.or_eq_true, decide_eq_true_eq]; omega
theorem powB_next {n k : Nat} (hk : k = 1 ∨ k = 2 ∨ k = 4 ∨ k = 8 ∨ k = 16 ∨ k = 32 ∨ k = 64 ∨ k = 128) (h : powB n = true → k ≤ n) (hn : n ≠ k) : powB n = true → k * 2 ≤ n := by
  intro hp
  have h1 := h hp
  rw [powB_iff] at hp
  omega
theorem powB_at {n k : Nat} (hk : k = 1 ∨ k = 2 ∨ k = 4 ∨ k = 8 ∨ k = 16 ∨ k = 32 ∨ k = 64 ∨ k = 128) (h2 : k ≤ 64) (hn : n = k) : powB n = true := by rw [powB_iff]; omega
theorem powB_end {n k : Nat} (h : powB n = true → k ≤ n) (h2 : ¬ k ≤ 64) : powB n = false := by
  cases hp : powB n with
  | false => rfl
  | true =>
    have h1 := h hp
    rw [powB_iff] at hp
    omega

set_option maxHeartbeats 4000000 in
set_option maxRecDepth 100000 in
theorem jwords_any (w : World) (n : Nat) (hz : n ≤ 9223372036854775807) :
    Calls Try.prog 96 #[.int .i64 n] w fun e w' => e = .returned (.bool (powB n)) ∧ w' = w := by
  go_enter Try.func96, Try.ntmps96
  go_wp2
  go_loop [3] (fun i => ∃ k : Nat, i = .int .i64 k ∧ (k = 1 ∨ k = 2 ∨ k = 4 ∨ k = 8 ∨ k = 16 ∨ k = 32 ∨ k = 64 ∨ k = 128) ∧ (powB n = true → k ≤ n)) (fun i => 200 - (intOf i).toNat)
  case atStart => exact ⟨1, rfl, Or.inl rfl, fun h => by rw [powB_iff] at h; omega⟩
  case round =>
    obtain ⟨k, rfl, hk, hp⟩ := hrel
    have Hk := Lib.hid hk
    have Hp := Lib.hid hp
    have hk0 : 1 ≤ k ∧ k ≤ 128 := by omega
    clear hk hp
    by_cases h1 : k ≤ 64
    · by_cases h2 : n = k
      · have Hr := Lib.hid (powB_at Hk.out h1 h2)
        have hb : ((n : Int) == (k : Int)) = true := by rw [beq_iff_eq]; omega
        clear h2
        go_wp2
        go_ret
        exact ⟨by rw [Hr.out]; rfl, rfl⟩
      · have Hq := Lib.hid (powB_next Hk.out Hp.out h2)
        have hb : ((n : Int) == (k : Int)) = false := by rw [beq_eq_false_iff_ne]; omega
        clear h2
        go_wp2
        go_round
        case rel => exact ⟨k * 2, by go_num, by have := Hk.out; omega, Hq.out⟩
        case measure => simp [intOf]; omega
    · have Hr := Lib.hid (powB_end Hp.out h1)
      go_wp2
      go_ret
      exact ⟨by rw [Hr.out]; rfl, rfl⟩

set_option maxHeartbeats 8000000 in
set_option maxRecDepth 100000 in
theorem jfright_any (w : World) (ws : List Int) (a : Option Addr) (c : Nat) (s : Int) (hz : ws.length ≤ 9223372036854775807) :
    Calls Try.prog 74 #[.agg #[.slice a ws.length c, .int .i64 s]] w fun e w' => e = .returned (.bool (sieveB ws s)) ∧ Below w.heap.size w w' := by
  have Hb := Lib.hid ((Below.refl w.heap.size w).alloc (Nat.le_refl _) (.cells #[.slice a ws.length c, .int .i64 s] 30 (0, 0)))
  have Hd := Lib.hid (sieveB_pow ws s)
  go_enter Try.func74, Try.ntmps74
  go_wp2_with fail
  refine (jwords_any _ ws.length hz).mono ?_
  rintro e w2 ⟨rfl, rfl⟩
  cases hp : powB ws.length with
  | false =>
    have Hr : Hid (sieveB ws s = false) := Lib.hid (by rw [Hd.out, hp]; rfl)
    clear hp
    go_wp2
    all_goals go_ret
    all_goals exact ⟨by rw [Hr.out]; rfl, Hb.out⟩
  | true =>
    have Hr : Hid (sieveB ws s = (decide (1 ≤ s) && decide (s ≤ 31))) := Lib.hid (by rw [Hd.out, hp]; simp)
    clear hp
    by_cases h3 : 1 ≤ s
    · by_cases h4 : s ≤ 31
      · have Hr2 : Hid (sieveB ws s = true) := Lib.hid (by rw [Hr.out]; simp [h3, h4])
        go_wp2
        all_goals go_ret
        all_goals exact ⟨by rw [Hr2.out]; rfl, Hb.out⟩
      · have Hr2 : Hid (sieveB ws s = decide (s ≤ 31)) := Lib.hid (by rw [Hr.out]; simp [h3])
        have h5 : 31 < s := by omega
        go_wp2
        all_goals go_ret
        all_goals exact ⟨by rw [Hr2.out]; rfl, Hb.out⟩
    · have Hr2 : Hid (sieveB ws s = false) := Lib.hid (by rw [Hr.out]; simp [h3])
      go_wp2
      all_goals go_ret
      all_goals exact ⟨by rw [Hr2.out]; rfl, Hb.out⟩

end Go.Proofs.Ytbliedldlimpgaa

namespace Go.Proofs.Ytbliedldlimpgaa
set_option linter.unusedVariables false
set_option linter.unusedSimpArgs false
open Go.RowKit

theorem homeL_int (p : List UInt8) (n : Nat) : ((homeL p n : Nat) : Int) = hashB p % (n : Int) := by
  have h := (hashB_range p).1
  rw [homeL, Int.natCast_emod, Int.toNat_of_nonneg h]
theorem homeL_lt (p : List UInt8) (n : Nat) (h : 1 ≤ n) : homeL p n < n := Nat.mod_lt _ (by omega)

set_option maxHeartbeats 2000000 in
theorem jhome_any (w : World) (p : List UInt8) (n : Nat) (hp : p.length ≤ 9223372036854775807) (h1 : 1 ≤ n) (h2 : n ≤ 512) :
    Calls Try.prog 77 #[.string ⟨p.toArray⟩, .int .i64 n] w fun e w' => e = .returned (.int .i64 (homeL p n)) ∧ w' = w := by
  have hr := hashB_range p
  have hh := Lib.hid (homeL_int p n)
  have hlt := homeL_lt p n h1
  have hn0 : ((n : Int) == 0) = false := by rw [beq_eq_false_iff_ne]; omega
  have HJ := jhash_any w p hp
  generalize hashB p = g at *
  have ht : g.tmod (n : Int) = g % (n : Int) := Int.tmod_eq_emod_of_nonneg hr.1
  have hm0 : 0 ≤ g % (n : Int) := Int.emod_nonneg _ (by omega)
  have hm1 : g % (n : Int) < n := Int.emod_lt_of_pos _ (by omega)
  have hg : IntKind.u64.wrap g = g := IntWalk.u64_in _ ⟨by omega, by omega⟩
  have hnn : IntKind.u64.wrap (n : Int) = (n : Int) := IntWalk.u64_in _ ⟨by omega, by omega⟩
  go_enter Try.func77, Try.ntmps77
  go_wp2_with fail
  refine HJ.mono ?_
  rintro e w2 ⟨rfl, rfl⟩
  go_wp2
  go_ret
  refine ⟨?_, rfl⟩
  rw [hh.out]
  rfl

set_option maxHeartbeats 2000000 in
theorem jpower_any (w : World) (n : Nat) (h : n ≤ 63) :
    Calls Try.prog 92 #[.int .u32 n] w fun e w' => e = .returned (.int .u64 ((2 ^ n : Nat) : Int)) ∧ w' = w := by
  go_enter Try.func92, Try.ntmps92
  go_wp2
  go_loop [3, 4] (fun x i => ∃ k : Nat, k ≤ n ∧ i = .int .u32 k ∧ x = .int .u64 ((2 ^ k : Nat) : Int)) (fun _ i => n - (intOf i).toNat)
  case atStart => exact ⟨0, Nat.zero_le _, rfl, rfl⟩
  case round =>
    obtain ⟨k, hk, rfl, rfl⟩ := hrel
    by_cases hlt : k < n
    · have hP : 2 ^ k ≤ 4611686018427387904 := Nat.le_trans (Nat.pow_le_pow_right (by decide) (show k ≤ 62 by omega)) (by decide)
      have Hn := Lib.hid (Nat.pow_succ 2 k)
      generalize 2 ^ k = P at *
      go_wp2
      go_round
      case rel => exact ⟨k + 1, by omega, by go_num, by rw [Hn.out]; go_num⟩
      case measure => simp [intOf]; omega
    · have He : Hid (2 ^ k = 2 ^ n) := Lib.hid (by rw [show k = n by omega])
      generalize 2 ^ k = P at *
      go_wp2
      go_ret
      refine ⟨?_, rfl⟩
      show Ending.returned (.int .u64 (P : Int)) = _
      rw [He.out, Int.natCast_pow]
      rfl

set_option maxHeartbeats 2000000 in
theorem jshifted_any (w : World) (h : Nat) (n : Nat) (hh : h < 4294967296) (hn : n ≤ 64) :
    Calls Try.prog 55 #[.int .u32 h, .int .i64 n] w fun e w' => e = .returned (.int .u32 ((h / 2 ^ n : Nat) : Int)) ∧ w' = w := by
  go_enter Try.func55, Try.ntmps55
  go_wp2
  go_loop [0, 5] (fun x i => ∃ k : Nat, k ≤ n ∧ i = .int .i64 k ∧ x = .int .u32 ((h / 2 ^ k : Nat) : Int)) (fun _ i => n - (intOf i).toNat)
  case atStart => exact ⟨0, Nat.zero_le _, rfl, by simp⟩
  case round =>
    obtain ⟨k, hk, rfl, rfl⟩ := hrel
    have hP : h / 2 ^ k < 4294967296 := Nat.lt_of_le_of_lt (Nat.div_le_self _ _) hh
    by_cases hlt : k < n
    · have Hn : Hid (h / 2 ^ (k + 1) = h / 2 ^ k / 2) := Lib.hid (by rw [Nat.pow_succ, Nat.div_div_eq_div_mul])
      generalize h / 2 ^ k = P at *
      go_wp2
      go_round
      case rel => exact ⟨k + 1, by omega, by go_num, by rw [Hn.out]; go_num⟩
      case measure => simp [intOf]; omega
    · have He : Hid (h / 2 ^ k = h / 2 ^ n) := Lib.hid (by rw [show k = n by omega])
      generalize h / 2 ^ k = P at *
      go_wp2
      go_ret
      refine ⟨?_, rfl⟩
      show Ending.returned (.int .u32 (P : Int)) = _
      rw [He.out, Int.natCast_ediv, Int.natCast_pow]
      rfl

end Go.Proofs.Ytbliedldlimpgaa

namespace Go.Proofs.Ytbliedldlimpgaa
set_option linter.unusedVariables false
set_option linter.unusedSimpArgs false
open Go.RowKit

theorem bitB_yes {m P k : Nat} (hP : P = 2 ^ k) (h : m / P % 2 = 1) : bitB (m : Int) k = true := by
  rw [bitB, Int.toNat_natCast, ← hP, h]; rfl
theorem bitB_no {m P k : Nat} (hP : P = 2 ^ k) (h : ¬ m / P % 2 = 1) : bitB (m : Int) k = false := by
  rw [bitB, Int.toNat_natCast, ← hP, beq_eq_false_iff_ne]; exact h

set_option maxHeartbeats 2000000 in
theorem jhas_any (w : World) (m k : Nat) (hm : m < 18446744073709551616) (hk : k ≤ 63) :
    Calls Try.prog 91 #[.int .u64 m, .int .u32 k] w fun e w' => e = .returned (.bool (bitB (m : Int) k)) ∧ w' = w := by
  have HP := jpower_any w k hk
  have Hy := Lib.hid (@bitB_yes m (2 ^ k) k rfl)
  have Hn := Lib.hid (@bitB_no m (2 ^ k) k rfl)
  have hp : 1 ≤ 2 ^ k := Nat.one_le_two_pow
  have hp2 : 2 ^ k ≤ 9223372036854775808 := Nat.le_trans (Nat.pow_le_pow_right (by decide) hk) (by decide)
  generalize 2 ^ k = P at *
  have hp0 : ((P : Int) == 0) = false := by rw [beq_eq_false_iff_ne]; omega
  have hq : ((m / P : Nat) : Int) = (m : Int) / (P : Int) := Int.natCast_ediv m P
  have hqb : m / P ≤ m := Nat.div_le_self _ _
  generalize m / P = q at *
  go_enter Try.func91, Try.ntmps91
  go_wp2_with fail
  refine HP.mono ?_
  rintro e w2 ⟨rfl, rfl⟩
  by_cases h1 : q % 2 = 1
  · have Hr := Lib.hid (Hy.out h1)
    have hd : ((m : Int) / (P : Int) % 2 == 1) = true := by rw [beq_iff_eq]; omega
    go_wp2
    go_ret
    exact ⟨by rw [Hr.out]; rfl, rfl⟩
  · have Hr := Lib.hid (Hn.out h1)
    have hd : ((m : Int) / (P : Int) % 2 == 1) = false := by rw [beq_eq_false_iff_ne]; omega
    go_wp2
    go_ret
    exact ⟨by rw [Hr.out]; rfl, rfl⟩

end Go.Proofs.Ytbliedldlimpgaa

namespace Go.Proofs.Ytbliedldlimpgaa
set_option linter.unusedVariables false
set_option linter.unusedSimpArgs false
open Go.RowKit

set_option maxHeartbeats 8000000 in
set_option maxRecDepth 100000 in
theorem tbucket_any (w : World) (ba : Option Addr) (n bc : Nat) (vw : Value) (s : Int) (p : List UInt8) (hp : p.length ≤ 9223372036854775807) (h1 : 1 ≤ n) (h2 : n ≤ 512) :
    Calls Try.prog 62 #[.agg #[.slice ba n bc, vw, .int .i64 s], .string ⟨p.toArray⟩] w fun e w' => e = .returned (.int .i64 (homeL p n)) ∧ Below w.heap.size w w' := by
  have hr := hashB_range p
  have hh := Lib.hid (homeL_int p n)
  have hn0 : ((n : Int) == 0) = false := by rw [beq_eq_false_iff_ne]; omega
  have HJ := Lib.hid (fun w => shash_any w p hp)
  have Hb := Lib.hid ((Below.refl w.heap.size w).alloc (Nat.le_refl _) (.cells #[.slice ba n bc, vw, .int .i64 s] 32 (0, 0)))
  generalize hashB p = g at *
  have ht : g.tmod (n : Int) = g % (n : Int) := Int.tmod_eq_emod_of_nonneg hr.1
  have hm0 : 0 ≤ g % (n : Int) := Int.emod_nonneg _ (by omega)
  have hm1 : g % (n : Int) < n := Int.emod_lt_of_pos _ (by omega)
  have hnn : IntKind.u32.wrap (n : Int) = (n : Int) := by rw [IntKind.wrap]; simp [IntKind.bits, IntKind.signed]; omega
  go_enter Try.func62, Try.ntmps62
  go_wp2_with fail
  go_quiet ((go_at_call 64; exact Calls.quiet_of_same (HJ.out _)))
  go_wp2
  go_ret
  exact ⟨by rw [hh.out]; rfl, below_drewN Hb.out _⟩

end Go.Proofs.Ytbliedldlimpgaa

namespace Go.Proofs.Ytbliedldlimpgaa
set_option linter.unusedVariables false
set_option linter.unusedSimpArgs false
open Go.RowKit

/-- an image's cells in a block -/
theorem img_cells {x : World} {b : Nat} {c0 c1 c2 c3 c4 c5 c6 c7 c8 c9 c10 c11 c12 c13 c14 : Value} (h : x.heap[b]? = some (.cells #[c0, c1, c2, c3, c4, c5, c6, c7, c8, c9, c10, c11, c12, c13, c14] 38 (0, 0))) :
    x.cell? ⟨b, 0, none⟩ = some c0 ∧ x.cell? ⟨b, 1, none⟩ = some c1 ∧ x.cell? ⟨b, 2, none⟩ = some c2 ∧ x.cell? ⟨b, 3, none⟩ = some c3 ∧ x.cell? ⟨b, 4, none⟩ = some c4 ∧ x.cell? ⟨b, 5, none⟩ = some c5 ∧ x.cell? ⟨b, 6, none⟩ = some c6 ∧ x.cell? ⟨b, 7, none⟩ = some c7 ∧
    x.cell? ⟨b, 8, none⟩ = some c8 ∧ x.cell? ⟨b, 9, none⟩ = some c9 ∧ x.cell? ⟨b, 10, none⟩ = some c10 ∧ x.cell? ⟨b, 11, none⟩ = some c11 ∧ x.cell? ⟨b, 12, none⟩ = some c12 ∧ x.cell? ⟨b, 13, none⟩ = some c13 ∧ x.cell? ⟨b, 14, none⟩ = some c14 := by
  refine ⟨?_, ?_, ?_, ?_, ?_, ?_, ?_, ?_, ?_, ?_, ?_, ?_, ?_, ?_, ?_⟩ <;> (rw [Lib.cell_of_heap h]; rfl)

theorem wideL_none {im : ImgL} {r : RelL} (h : symAt im r.sym = none) : wideL im r = 8 := by rw [wideL, h]
theorem wideL_some {im : ImgL} {r : RelL} {s : SymL} (h : symAt im r.sym = some s) : wideL im r = if r.kind = 2 then s.size else 8 := by rw [wideL, h]

set_option maxHeartbeats 4000000 in
set_option maxRecDepth 100000 in
theorem iwide_any (w : World) (v : ImgV) (im : ImgL) (r : RelL) (hs : LB kSym (· < w.heap.size) w v.syms im.syms) (hi : -9223372036854775808 ≤ r.sym ∧ r.sym ≤ 9223372036854775807) :
    Calls Try.prog 68 #[.agg (imgCells v im), .agg #[.int .i64 r.at_, .int .i64 r.kind, .int .i64 r.sym, .int .i64 r.add]] w fun e w' => e = .returned (.int .i64 (wideL im r)) ∧ Below w.heap.size w w' := by
  have B1 := Lib.hid (((Below.refl w.heap.size w).alloc (Nat.le_refl _) (.cells (imgCells v im) 38 (0, 0))).alloc (by simp) (.cells #[.int .i64 r.at_, .int .i64 r.kind, .int .i64 r.sym, .int .i64 r.add] 57 (0, 0)))
  have hsv := hs.form
  have HS := Lib.hid (isym_any ((w.alloc (.cells (imgCells v im) 38 (0, 0))).alloc (.cells #[.int .i64 r.at_, .int .i64 r.kind, .int .i64 r.sym, .int .i64 r.add] 57 (0, 0))) v im r.sym ((hs.below B1.out).mono B1.out.size) hi)
  have F1 : ((w.alloc (.cells (imgCells v im) 38 (0, 0))).alloc (.cells #[.int .i64 r.at_, .int .i64 r.kind, .int .i64 r.sym, .int .i64 r.add] 57 (0, 0))).heap[w.heap.size + 1]? = some (.cells #[.int .i64 r.at_, .int .i64 r.kind, .int .i64 r.sym, .int .i64 r.add] 57 (0, 0)) := by
    simpa only [World.size_alloc] using heap_alloc_new (w.alloc (.cells (imgCells v im) 38 (0, 0))) _
  have HF1 := Lib.hid F1
  have Hn : Hid (symAt im r.sym = none → wideL im r = 8) := Lib.hid wideL_none
  have Hsm : Hid (∀ s, symAt im r.sym = some s → wideL im r = if r.kind = 2 then s.size else 8) := Lib.hid (fun s h => wideL_some h)
  clear hs F1
  unfold imgCells at *
  go_enter Try.func68, Try.ntmps68
  go_wp2_with fail
  refine HS.out.mono ?_
  rintro e w2 ⟨rfl, hb2⟩
  have F2 := (hb2.block (w.heap.size + 1) (by simp)).trans HF1.out
  have B2 := Lib.hid (B1.out.trans (hb2.mono (by simp; omega)))
  have q1 : w2.cell? ⟨w.heap.size + 1, 1, none⟩ = some (.int .i64 r.kind) := by rw [Lib.cell_of_heap F2]; rfl
  have hB2 := B2.out.size
  have hzq : w.heap.size + 1 < w2.heap.size := World.block_lt_of_cell? _ _ q1
  clear hb2 F2 HS
  cases hsa : symAt im r.sym with
  | none =>
    have Hw := Lib.hid (Hn.out hsa)
    have hv : symV im r.sym = .tuple #[.agg #[.string ⟨#[]⟩, .string ⟨#[]⟩, .bool false, .int .i64 0, .bool false, .int .i64 0, .bool false, .int .i64 0, .int .i64 0], .bool false] := by rw [symV, symD, hsa]; rfl
    rw [hv]
    clear hv hsa
    go_wp2
    go_ret
    exact ⟨by rw [Hw.out]; rfl, B2.out.alloc hB2 _⟩
  | some s =>
    have Hw := Lib.hid (Hsm.out s hsa)
    have hv : symV im r.sym = .tuple #[.agg #[.string ⟨s.name.toArray⟩, .string ⟨s.version.toArray⟩, .bool s.old, .int .i64 s.kind, .bool s.weak, .int .i64 s.vis, .bool s.defined, .int .i64 s.value, .int .i64 s.size], .bool true] := by rw [symV, symD, hsa]; rfl
    rw [hv]
    clear hv hsa
    by_cases hk : r.kind = 2
    · have Hw2 : Hid (wideL im r = s.size) := Lib.hid (by rw [Hw.out, if_pos hk])
      go_wp2
      go_ret
      exact ⟨by rw [Hw2.out]; rfl, B2.out.alloc hB2 _⟩
    · have Hw2 : Hid (wideL im r = 8) := Lib.hid (by rw [Hw.out, if_neg hk])
      have hkb : (r.kind == 2) = false := by rw [beq_eq_false_iff_ne]; exact hk
      go_wp2
      go_ret
      exact ⟨by rw [Hw2.out]; rfl, B2.out.alloc hB2 _⟩

set_option maxHeartbeats 4000000 in
set_option maxRecDepth 100000 in
theorem jwide_any (w : World) (v : ImgV) (im : ImgL) (r : RelL) (hs : LB kSym (· < w.heap.size) w v.syms im.syms) :
    Calls Try.prog 18 #[.agg (imgCells v im), .agg #[.int .i64 r.at_, .int .i64 r.kind, .int .i64 r.sym, .int .i64 r.add]] w fun e w' => e = .returned (.int .i64 (wideL im r)) ∧ Below w.heap.size w w' := by
  unfold imgCells
  obtain ⟨sa, sb, soff, scap, hsv, hsm, hsc, hat⟩ := hs.at
  rw [hsv]
  have Hat := Lib.hid hat
  clear hs hat hsv
  obtain ⟨rat, rkind, rsym, radd⟩ := r
  simp only
  by_cases hk : rkind = 2
  case neg =>
    have Hw : Hid (wideL im ⟨rat, rkind, rsym, radd⟩ = 8) := Lib.hid (by
      rw [wideL]; split
      · rw [if_neg hk]
      · rfl)
    have hkb : (rkind == 2) = false := by rw [beq_eq_false_iff_ne]; exact hk
    clear hk
    go_enter Try.func18, Try.ntmps18
    go_wp2
    go_ret
    exact ⟨by rw [Hw.out]; rfl, ((Below.refl _ _).alloc (Nat.le_refl _) _).alloc (by simp) _⟩
  case pos =>
    subst hk
    by_cases h1 : rsym < 0
    · have Hw : Hid (wideL im ⟨rat, 2, rsym, radd⟩ = 8) := Lib.hid (wideL_none (symAt_neg im rsym h1))
      go_enter Try.func18, Try.ntmps18
      go_wp2
      go_ret
      exact ⟨by rw [Hw.out]; rfl, ((Below.refl _ _).alloc (Nat.le_refl _) _).alloc (by simp) _⟩
    by_cases h2 : (im.syms.length : Int) ≤ rsym
    · have Hw : Hid (wideL im ⟨rat, 2, rsym, radd⟩ = 8) := Lib.hid (wideL_none (symAt_far im rsym h2))
      go_enter Try.func18, Try.ntmps18
      go_wp2
      go_ret
      exact ⟨by rw [Hw.out]; rfl, ((Below.refl _ _).alloc (Nat.le_refl _) _).alloc (by simp) _⟩
    · obtain ⟨k, rfl⟩ : ∃ k : Nat, rsym = k := ⟨rsym.toNat, by omega⟩
      have hlt : k < im.syms.length := by omega
      obtain rfl := Hat.out.addr (by omega)
      obtain ⟨s, hx⟩ : ∃ s, im.syms[k]? = some s := ⟨_, List.getElem?_eq_getElem hlt⟩
      obtain ⟨_, g0, g1, g2, g3, g4, g5, g6, g7, g8⟩ := Hat.out.sym9 k s hx
      have Hw : Hid (wideL im ⟨rat, 2, (k : Int), radd⟩ = s.size) := Lib.hid (by rw [wideL_some (symAt_in im k s hx)]; rfl)
      have hsb := World.block_lt_of_cell? _ _ g0
      clear hx h1 h2 g0 g1 g2 g3 g4 g5 g6 g7
      go_enter Try.func18, Try.ntmps18
      go_wp2
      go_ret
      exact ⟨by rw [Hw.out]; rfl, ((Below.refl _ _).alloc (Nat.le_refl _) _).alloc (by simp) _⟩

end Go.Proofs.Ytbliedldlimpgaa

namespace Go.Proofs.Ytbliedldlimpgaa
set_option linter.unusedVariables false
set_option linter.unusedSimpArgs false
open Go.RowKit

theorem val_bool {a b : Bool} (h : a = b) : Value.bool a = .bool b := by rw [h]
/-- the head's first tests -/
def head0 (im : ImgL) : Bool := (decide (im.name = []) || nameB im.name) && decide (0 ≤ im.flags) && decide (im.flags < 16) && decide (im.needed.length ≤ 16) && decide (im.runPath.length ≤ 16)
theorem headB_parts (im : ImgL) : headB im = (head0 im && im.needed.all needB && im.runPath.all sizedB) := rfl
def need0 (n : NeedL) : Bool := sizedB n.name && decide (n.versions.length ≤ 16)
theorem needB_parts (n : NeedL) : needB n = (need0 n && n.versions.all nameB) := rfl
theorem all_take_snoc {α : Type} (f : α → Bool) (l : List α) (k : Nat) (x : α) (hx : l[k]? = some x) : (l.take (k + 1)).all f = ((l.take k).all f && f x) := by
  obtain ⟨h, rfl⟩ := List.getElem?_eq_some_iff.1 hx
  rw [List.take_succ_eq_append_getElem h, List.all_append]
  simp

set_option maxHeartbeats 16000000 in
set_option maxRecDepth 100000 in
theorem ihead_any (w : World) (v : ImgV) (im : ImgL) (hne : LB kNeed (· < w.heap.size) w v.needed im.needed) (hrp : LB kStr (· < w.heap.size) w v.runPath im.runPath) (hz : im.name.length ≤ 9223372036854775807) :
    Calls Try.prog 20 #[.agg (imgCells v im)] w fun e w' => e = .returned (.bool (headB im)) ∧ Below w.heap.size w w' := by
  have hsn := size_mk im.name
  unfold imgCells
  obtain ⟨na, nb, noff, ncap, hnv, hnm, hnc, hnat⟩ := hne.at
  obtain ⟨ra, rb, roff, rcap, hrv, hrm, hrc, hrat⟩ := hrp.at
  rw [hnv, hrv]
  have B1 := Lib.hid ((Below.refl w.heap.size w).alloc (Nat.le_refl _) (.cells #[.string ⟨im.name.toArray⟩, .int .i64 im.flags, v.segs, .slice na im.needed.length ncap, .slice ra im.runPath.length rcap, v.syms, v.buckets, v.words, .int .i64 im.shift, v.relocs, v.slots, v.init, v.fini, v.tls, .int .i64 im.tlsSize] 38 (0, 0)))
  have F1 := Lib.hid (heap_alloc_new w (.cells #[.string ⟨im.name.toArray⟩, .int .i64 im.flags, v.segs, .slice na im.needed.length ncap, .slice ra im.runPath.length rcap, v.syms, v.buckets, v.words, .int .i64 im.shift, v.relocs, v.slots, v.init, v.fini, v.tls, .int .i64 im.tlsSize] 38 (0, 0)))
  have Hnat := Lib.hid hnat
  have Hrat := Lib.hid hrat
  have Hh : Hid (headB im = (head0 im && im.needed.all needB && im.runPath.all sizedB)) := Lib.hid rfl
  have H0 : Hid (head0 im = ((decide (im.name = []) || nameB im.name) && decide (0 ≤ im.flags) && decide (im.flags < 16) && decide (im.needed.length ≤ 16) && decide (im.runPath.length ≤ 16))) := Lib.hid rfl
  clear hne hrp hnat hrat hnv hrv
  go_enter Try.func20, Try.ntmps20
  go_upto_region 1 with fail
  go_cut [3] (fun s3 wx => s3 = .bool (head0 im) ∧ Below w.heap.size w wx ∧ wx.heap[w.heap.size]? = some (.cells #[.string ⟨im.name.toArray⟩, .int .i64 im.flags, v.segs, .slice na im.needed.length ncap, .slice ra im.runPath.length rcap, v.syms, v.buckets, v.words, .int .i64 im.shift, v.relocs, v.slots, v.init, v.fini, v.tls, .int .i64 im.tlsSize] 38 (0, 0)))
  case first =>
    cases hq : im.name.isEmpty with
    | true =>
      have Hv := Lib.hid (List.isEmpty_iff.1 hq)
      go_wp2_with fail
      all_goals go_meet
      all_goals first
        | (refine ⟨val_bool ?_, B1.out, F1.out⟩; rw [H0.out, Bool.eq_iff_iff]; simp [Hv.out]; done)
        | (refine ⟨val_bool ?_, B1.out, F1.out⟩; rw [H0.out, Bool.eq_iff_iff]; simp [Hv.out]; omega)
    | false =>
      have Hv : Hid (decide (im.name = []) = false) := Lib.hid (by rw [decide_eq_false_iff_not]; intro e; rw [e] at hq; simp at hq)
      go_wp2_with fail
      refine (vname_any _ im.name hz).mono ?_
      rintro e w2 ⟨rfl, hb2⟩
      have F2 := Lib.hid ((hb2.block w.heap.size (by simp)).trans F1.out)
      have B2 := Lib.hid (B1.out.trans (hb2.mono B1.out.size))
      clear hb2
      obtain ⟨c0, c1, c2, c3, c4, c5, c6, c7, c8, c9, c10, c11, c12, c13, c14⟩ := img_cells F2.out
      cases hn : nameB im.name
      all_goals
        have Hn := Lib.hid hn
        go_wp2_with fail
        all_goals go_meet
        all_goals first
          | (refine ⟨val_bool ?_, B2.out, F2.out⟩; rw [H0.out, Bool.eq_iff_iff]; simp [Hv.out, Hn.out]; done)
          | (refine ⟨val_bool ?_, B2.out, F2.out⟩; rw [H0.out, Bool.eq_iff_iff]; simp [Hv.out, Hn.out]; omega)
  case rest =>
    obtain ⟨rfl, hbw, hfw⟩ := hcut
    have Bw := Lib.hid hbw
    have Fw := Lib.hid hfw
    obtain ⟨c0, c1, c2, c3, c4, c5, c6, c7, c8, c9, c10, c11, c12, c13, c14⟩ := img_cells hfw
    clear hbw hfw c0 c1 c2 c5 c6 c7 c8 c9 c10 c11 c12 c13 c14 H0 B1 F1
    generalize head0 im = h0 at *
    go_wp2_with fail
    go_loopw [3, 43] (fun s3 i wr => ∃ k : Nat, i = .int .i64 k ∧ k ≤ im.needed.length ∧ s3 = .bool (h0 && (im.needed.take k).all needB) ∧ Below w.heap.size w wr ∧ wr.heap[w.heap.size]? = some (.cells #[.string ⟨im.name.toArray⟩, .int .i64 im.flags, v.segs, .slice na im.needed.length ncap, .slice ra im.runPath.length rcap, v.syms, v.buckets, v.words, .int .i64 im.shift, v.relocs, v.slots, v.init, v.fini, v.tls, .int .i64 im.tlsSize] 38 (0, 0))) (fun _ i _ => im.needed.length - (intOf i).toNat)
    case atStart => exact ⟨0, rfl, Nat.zero_le _, by simp, Bw.out, Fw.out⟩
    case round =>
      obtain ⟨k, rfl, hk, rfl, hbel, hf⟩ := hrel
      have Hbel := Lib.hid hbel
      have Hf := Lib.hid hf
      have hBr := hbel.size
      have hzq : w.heap.size < wr.heap.size := by
        rcases Nat.lt_or_ge w.heap.size wr.heap.size with h' | h'
        · exact h'
        · rw [Array.getElem?_eq_none h'] at hf; cases hf
      by_cases hlt : k < im.needed.length
      · obtain rfl := Hnat.out.addr (by omega)
        obtain ⟨n, hx⟩ : ∃ n, im.needed[k]? = some n := ⟨_, List.getElem?_eq_getElem hlt⟩
        have hnbS := Hnat.out.inS (by omega)
        obtain ⟨c, g0w, g1w, hver, hnz⟩ := Hnat.out.need2 k n hx
        have g0 := (hbel.cell (p := ⟨nb, noff + k * 2, none⟩) hnbS).trans g0w
        have g1 := (hbel.cell (p := ⟨nb, noff + k * 2 + 1, none⟩) hnbS).trans g1w
        clear g0w g1w
        obtain ⟨va, vb, voff, vcap, rfl, hvm, hvc, hvat⟩ := hver.at
        have Hvat := Lib.hid hvat
        have Hsn := Lib.hid (all_take_snoc needB im.needed k n hx)
        have hsz2 := size_mk n.name
        have Hn0 : Hid (need0 n = (decide (1 ≤ n.name.length) && decide (n.name.length ≤ 200) && decide (n.versions.length ≤ 16))) := Lib.hid rfl
        have Hnp : Hid (needB n = (need0 n && n.versions.all nameB)) := Lib.hid rfl
        clear hbel hf hver hvat hx
        generalize hok : (h0 && (im.needed.take k).all needB) = ok at *
        have Hok := Lib.hid hok
        clear hok
        go_upto_region 5 with fail
        go_cut [3] (fun s3 wx => s3 = .bool (ok && need0 n) ∧ wx = wr.alloc (.cells #[.string ⟨n.name.toArray⟩, .slice va n.versions.length vcap] 81 (0, 0)))
        case first =>
          cases ok with
          | false =>
            go_wp2_with fail
            go_meet
            exact ⟨rfl, rfl⟩
          | true =>
            go_wp2_with fail
            all_goals go_meet
            all_goals first
              | (refine ⟨val_bool ?_, rfl⟩; rw [Hn0.out, Bool.eq_iff_iff]; simp; done)
              | (refine ⟨val_bool ?_, rfl⟩; rw [Hn0.out, Bool.eq_iff_iff]; simp; omega)
        case rest =>
          obtain ⟨rfl, hwx⟩ := hcut
          have Bc : Hid (Below w.heap.size w wc) := Lib.hid (by rw [hwx]; exact Hbel.out.alloc hBr _)
          have Fc : Hid (wc.heap[w.heap.size]? = some (.cells #[.string ⟨im.name.toArray⟩, .int .i64 im.flags, v.segs, .slice (some ⟨nb, noff, none⟩) im.needed.length ncap, .slice ra im.runPath.length rcap, v.syms, v.buckets, v.words, .int .i64 im.shift, v.relocs, v.slots, v.init, v.fini, v.tls, .int .i64 im.tlsSize] 38 (0, 0))) := Lib.hid (by rw [hwx, Lib.alloc_old _ _ _ hzq]; exact Hf.out)
          have d1 : wc.cell? ⟨wr.heap.size, 1, none⟩ = some (.slice va n.versions.length vcap) := by
            rw [hwx, Lib.cell_of_heap (heap_alloc_new wr _)]; rfl
          clear hwx Hbel Hf hBr hzq g0 g1
          generalize wr.heap.size = b5 at *
          generalize hok2 : (ok && need0 n) = ok2 at *
          have Hok2 := Lib.hid hok2
          clear hok2
          go_wp2_with fail
          go_loopw [3, 69] (fun s3 j wi => ∃ q : Nat, j = .int .i64 q ∧ q ≤ n.versions.length ∧ s3 = .bool (ok2 && (n.versions.take q).all nameB) ∧ Below w.heap.size w wi ∧ wi.heap[w.heap.size]? = some (.cells #[.string ⟨im.name.toArray⟩, .int .i64 im.flags, v.segs, .slice (some ⟨nb, noff, none⟩) im.needed.length ncap, .slice ra im.runPath.length rcap, v.syms, v.buckets, v.words, .int .i64 im.shift, v.relocs, v.slots, v.init, v.fini, v.tls, .int .i64 im.tlsSize] 38 (0, 0))) (fun _ j _ => n.versions.length - (intOf j).toNat)
          case atStart => exact ⟨0, rfl, Nat.zero_le _, by simp, Bc.out, Fc.out⟩
          case round =>
            obtain ⟨q, rfl, hq, rfl, hbel, hf⟩ := hrel
            have Hbel := Lib.hid hbel
            have Hf := Lib.hid hf
            by_cases hlt2 : q < n.versions.length
            · obtain rfl := Hvat.out.addr (by omega)
              obtain ⟨y, hy⟩ : ∃ y, n.versions[q]? = some y := ⟨_, List.getElem?_eq_getElem hlt2⟩
              obtain ⟨hv2, hyz⟩ := (Hvat.out.below hbel).str1 q y hy
              have Hsy := Lib.hid (all_take_snoc nameB n.versions q y hy)
              clear hbel hf hy
              generalize hok3 : (ok2 && (n.versions.take q).all nameB) = ok3 at *
              have Hok3 := Lib.hid hok3
              clear hok3
              cases ok3 with
              | false =>
                go_wp2
                go_roundw
                case rel => exact ⟨q + 1, by go_num, by omega, val_bool (by rw [Hsy.out, ← Bool.and_assoc, Hok3.out]; rfl), Hbel.out, Hf.out⟩
                case measure => simp [intOf]; omega
              | true =>
                have hzi : w.heap.size ≤ wr.heap.size := Hbel.out.size
                have hzi2 : w.heap.size < wr.heap.size := by
                  rcases Nat.lt_or_ge w.heap.size wr.heap.size with h' | h'
                  · exact h'
                  · have := Hf.out; rw [Array.getElem?_eq_none h'] at this; cases this
                go_wp2_with fail
                refine (vname_any _ y hyz).mono ?_
                rintro e w5 ⟨rfl, hb5⟩
                have B5 := Lib.hid (Hbel.out.trans (hb5.mono hzi))
                have F5 := Lib.hid ((hb5.block w.heap.size hzi2).trans Hf.out)
                clear hb5
                go_wp2
                go_roundw
                case rel => exact ⟨q + 1, by go_num, by omega, val_bool (by rw [Hsy.out, ← Bool.and_assoc, Hok3.out]; rfl), B5.out, F5.out⟩
                case measure => simp [intOf]; omega
            · have Hall : Hid (n.versions.take q = n.versions) := Lib.hid (List.take_of_length_le (by omega))
              clear hbel hf
              go_wp2
              go_roundw
              case rel => exact ⟨k + 1, by go_num, by omega, val_bool (by rw [Hsn.out, Hnp.out, ← Hok2.out, ← Hok.out, Hall.out]; simp [Bool.and_assoc]), Hbel.out, Hf.out⟩
              case measure => simp [intOf]; omega
      · have hf2 := hf
        obtain ⟨c0, c1, c2, c3, c4, c5, c6, c7, c8, c9, c10, c11, c12, c13, c14⟩ := img_cells hf
        have Hall : Hid (im.needed.take k = im.needed) := Lib.hid (List.take_of_length_le (by omega))
        rw [Hall.out]
        generalize hok : (h0 && im.needed.all needB) = ok at *
        have Hok := Lib.hid hok
        clear hbel hf hf2 hok c0 c1 c2 c3 c5 c6 c7 c8 c9 c10 c11 c12 c13 c14
        go_wp2_with fail
        go_loop [3, 83] (fun s3 i => ∃ q : Nat, i = .int .i64 q ∧ q ≤ im.runPath.length ∧ s3 = .bool (ok && (im.runPath.take q).all sizedB)) (fun _ i => im.runPath.length - (intOf i).toNat)
        case atStart => exact ⟨0, rfl, Nat.zero_le _, by simp⟩
        case round =>
          obtain ⟨q, rfl, hq, rfl⟩ := hrel
          by_cases hlt2 : q < im.runPath.length
          · obtain rfl := Hrat.out.addr (by omega)
            obtain ⟨y, hy⟩ : ∃ y, im.runPath[q]? = some y := ⟨_, List.getElem?_eq_getElem hlt2⟩
            obtain ⟨hv2, hyz⟩ := (Hrat.out.below Hbel.out).str1 q y hy
            have Hsy := Lib.hid (all_take_snoc sizedB im.runPath q y hy)
            have hszy := size_mk y
            have Hsz : Hid (sizedB y = (decide (1 ≤ y.length) && decide (y.length ≤ 200))) := Lib.hid rfl
            clear hy
            generalize hok3 : (ok && (im.runPath.take q).all sizedB) = ok3 at *
            have Hok3 := Lib.hid hok3
            clear hok3
            cases ok3 with
            | false =>
              go_wp2
              go_round
              case rel => exact ⟨q + 1, by go_num, by omega, val_bool (by rw [Hsy.out, ← Bool.and_assoc, Hok3.out]; rfl)⟩
              case measure => simp [intOf]; omega
            | true =>
              by_cases hy1 : 1 ≤ y.length
              · have hd1 : decide (1 ≤ (y.length : Int)) = true := by rw [decide_eq_true_eq]; omega
                by_cases hy2 : y.length ≤ 200
                · have hd2 : decide ((y.length : Int) ≤ 200) = true := by rw [decide_eq_true_eq]; omega
                  go_wp2
                  go_round
                  case rel => exact ⟨q + 1, by go_num, by omega, val_bool (by rw [Hsy.out, ← Bool.and_assoc, Hok3.out, Hsz.out]; simp [hy1, hy2])⟩
                  case measure => simp [intOf]; omega
                · have hd2 : decide ((y.length : Int) ≤ 200) = false := by rw [decide_eq_false_iff_not]; omega
                  go_wp2
                  go_round
                  case rel => exact ⟨q + 1, by go_num, by omega, val_bool (by rw [Hsy.out, ← Bool.and_assoc, Hok3.out, Hsz.out]; simp [hy2])⟩
                  case measure => simp [intOf]; omega
              · have hd1 : decide (1 ≤ (y.length : Int)) = false := by rw [decide_eq_false_iff_not]; omega
                go_wp2
                go_round
                case rel => exact ⟨q + 1, by go_num, by omega, val_bool (by rw [Hsy.out, ← Bool.and_assoc, Hok3.out, Hsz.out]; simp [hy1])⟩
                case measure => simp [intOf]; omega
          · have Hall2 : Hid (im.runPath.take q = im.runPath) := Lib.hid (List.take_of_length_le (by omega))
            go_wp2
            go_ret
            exact ⟨ret_bool' (by rw [Hh.out, Hall2.out]), Hbel.out⟩

end Go.Proofs.Ytbliedldlimpgaa

namespace Go.Proofs.Ytbliedldlimpgaa
set_option linter.unusedVariables false
set_option linter.unusedSimpArgs false
open Go.RowKit

set_option maxHeartbeats 8000000 in
set_option maxRecDepth 100000 in
theorem jstands_any (w : World) (v : ImgV) (im : ImgL) (at_ n p : Int) (hs : LB kSeg (· < w.heap.size) w v.segs im.segs) (hok : ∀ s ∈ im.segs, SegOk s)
    (ha : -9223372036854775808 ≤ at_ ∧ at_ ≤ 9223372036854775807) (hn : 0 ≤ n ∧ n ≤ 9223372036854775807) (hp : p = 0 ∨ p = 2 ∨ p = 4) :
    Calls Try.prog 17 #[.agg (imgCells v im), .int .i64 at_, .int .i64 n, .int .i64 p] w fun e w' => e = .returned (.bool (holdsB im.segs at_ n p)) ∧ Below w.heap.size w w' := by
  rw [holdsB_any]
  unfold imgCells
  obtain ⟨sa, sb, soff, scap, hsv, hsm, hsc, hat⟩ := hs.at
  rw [hsv]
  have Hat := Lib.hid hat
  have Hok := Lib.hid hok
  have Hp := Lib.hid hp
  clear hs hat hok hp hsv
  go_enter Try.func17, Try.ntmps17
  go_wp2
  go_loopw [9] (fun i wr => ∃ (k : Nat), i = .int .i64 k ∧ k ≤ im.segs.length ∧ (im.segs.take k).any (fun s => holdB s at_ n p) = false ∧ Below w.heap.size w wr ∧ wr.cell? ⟨w.heap.size, 2, none⟩ = some (.slice sa im.segs.length scap) ∧ w.heap.size < wr.heap.size) (fun i _ => im.segs.length - (intOf i).toNat)
  case atStart => exact ⟨0, rfl, Nat.zero_le _, rfl, (Below.refl _ _).alloc (Nat.le_refl _) _, by simp, by simp⟩
  case round =>
    obtain ⟨k, rfl, hk, hno, hbel, hq, hzq⟩ := hrel
    have Hno := Lib.hid hno
    have Hbel := Lib.hid hbel
    have Hq := Lib.hid hq
    have hBr := hbel.size
    by_cases hlt : k < im.segs.length
    · obtain rfl := Hat.out.addr (by omega)
      obtain ⟨s, hx⟩ : ∃ s, im.segs[k]? = some s := ⟨_, List.getElem?_eq_getElem hlt⟩
      obtain ⟨c, g0, g1, g2, g3, hc⟩ := (Hat.out.below hbel).seg4 k s hx
      obtain ⟨ca, cc, rfl⟩ := hc.form
      clear hc
      obtain ⟨o1, o2, o3, o4, o5, o6⟩ := Hok.out s (List.mem_of_getElem? hx)
      have hpb := permB_bits s.perm p o5 o6 Hp.out
      have Hhit : Hid (holdB s at_ n p = true → im.segs.any (fun s => holdB s at_ n p) = true) := Lib.hid (any_hit (fun s => holdB s at_ n p) _ k s hx)
      have Hmiss : Hid (holdB s at_ n p = false → (im.segs.take (k + 1)).any (fun s => holdB s at_ n p) = false) := Lib.hid (any_take_succ (fun s => holdB s at_ n p) _ k s hx Hno.out)
      have Hd : Hid (holdB s at_ n p = (decide (s.at_ ≤ at_) && decide (n ≤ s.size) && decide (at_ - s.at_ ≤ s.size - n) && permB s.perm p)) := Lib.hid rfl
      clear hno hbel hx
      generalize holdB s at_ n p = hb at *
      generalize s.at_ = sat at *
      generalize s.size = ssz at *
      generalize s.perm = spm at *
      generalize permB spm p = pb at *
      cases pb with
      | false =>
        have Hm := Lib.hid (Hmiss.out (by rw [Hd.out]; simp))
        go_wp2
        go_roundw
        case rel => exact ⟨k + 1, by go_num, by omega, Hm.out, Hbel.out.alloc hBr _, by rw [World.cell?_alloc_lt _ _ _ hzq]; exact Hq.out, by simp; omega⟩
        case measure => simp [intOf]; omega
      | true =>
        by_cases h1 : sat ≤ at_
        case neg =>
          have Hm := Lib.hid (Hmiss.out (by rw [Hd.out]; simp [h1]))
          go_wp2
          go_roundw
          case rel => exact ⟨k + 1, by go_num, by omega, Hm.out, Hbel.out.alloc hBr _, by rw [World.cell?_alloc_lt _ _ _ hzq]; exact Hq.out, by simp; omega⟩
          case measure => simp [intOf]; omega
        by_cases h2 : n ≤ ssz
        case neg =>
          have Hm := Lib.hid (Hmiss.out (by rw [Hd.out]; simp [h2]))
          go_wp2
          go_roundw
          case rel => exact ⟨k + 1, by go_num, by omega, Hm.out, Hbel.out.alloc hBr _, by rw [World.cell?_alloc_lt _ _ _ hzq]; exact Hq.out, by simp; omega⟩
          case measure => simp [intOf]; omega
        by_cases h3 : at_ ≤ sat + ssz - n
        · have Hh := Lib.hid (Hhit.out (by rw [Hd.out]; simp [h1, h2]; omega))
          go_wp2
          go_ret
          exact ⟨by rw [Hh.out]; rfl, Hbel.out.alloc hBr _⟩
        · have Hm := Lib.hid (Hmiss.out (by rw [Hd.out]; simp [h1, h2]; omega))
          go_wp2
          go_roundw
          case rel => exact ⟨k + 1, by go_num, by omega, Hm.out, Hbel.out.alloc hBr _, by rw [World.cell?_alloc_lt _ _ _ hzq]; exact Hq.out, by simp; omega⟩
          case measure => simp [intOf]; omega
    · have Hn2 : Hid (im.segs.any (fun s => holdB s at_ n p) = false) := Lib.hid (by have := Hno.out; rw [List.take_of_length_le (by omega)] at this; exact this)
      clear hno hbel
      go_wp2
      go_ret
      exact ⟨by rw [Hn2.out]; rfl, Hbel.out⟩

end Go.Proofs.Ytbliedldlimpgaa

namespace Go.Proofs.Ytbliedldlimpgaa
set_option linter.unusedVariables false
set_option linter.unusedSimpArgs false
open Go.RowKit

def runD (im : ImgL) (k : Nat) : List Int := if k = 0 then im.init else im.fini
theorem runB_long (im : ImgL) (l : List Int) (h : ¬ l.length ≤ 8) : runB im l = false := by simp [runB, h]
theorem runB_bad (im : ImgL) (l : List Int) (k : Nat) (x : Int) (hx : l[k]? = some x) (h : holdsB im.segs x 8 4 = false) : runB im l = false := by
  have : l.all (fun a => holdsB im.segs a 8 4) = false := by rw [List.all_eq_false]; exact ⟨x, List.mem_of_getElem? hx, by simp [h]⟩
  rw [runB, this]; simp
theorem runB_all (im : ImgL) (l : List Int) (h : l.length ≤ 8) (ha : (l.all fun a => holdsB im.segs a 8 4) = true) : runB im l = true := by rw [runB, ha]; simp [h]

set_option maxHeartbeats 16000000 in
set_option maxRecDepth 100000 in
theorem iruns_any (w : World) (v : ImgV) (im : ImgL) (hs : LB kSeg (· < w.heap.size) w v.segs im.segs) (hok : ∀ s ∈ im.segs, SegOk s)
    (hi : LB kInt (· < w.heap.size) w v.init im.init) (hf : LB kInt (· < w.heap.size) w v.fini im.fini)
    (hri : ∀ x ∈ im.init, -9223372036854775808 ≤ x ∧ x ≤ 9223372036854775807) (hrf : ∀ x ∈ im.fini, -9223372036854775808 ≤ x ∧ x ≤ 9223372036854775807) :
    Calls Try.prog 26 #[.agg (imgCells v im)] w fun e w' => e = .returned (.bool (runB im im.init && runB im im.fini)) ∧ Below w.heap.size w w' := by
  obtain ⟨ia, ib, ioff, icap, hiv, him, hic, hiat⟩ := hi.at
  obtain ⟨fa, fb, foff, fcap, hfv, hfm, hfc, hfat⟩ := hf.at
  obtain ⟨vsegs, vneeded, vrunPath, vsyms, vbuckets, vwords, vrelocs, vslots, vinit, vfini, vtls⟩ := v
  simp only at hiv hfv
  subst hiv hfv
  have HH : Hid (∀ (w' : World) (x : Int), Below w.heap.size w w' → -9223372036854775808 ≤ x ∧ x ≤ 9223372036854775807 →
    Calls Try.prog 59 #[.agg (imgCells ⟨vsegs, vneeded, vrunPath, vsyms, vbuckets, vwords, vrelocs, vslots, .slice ia im.init.length icap, .slice fa im.fini.length fcap, vtls⟩ im), .agg #[.int .i64 x, .int .i64 8, .int .i64 4]] w' fun e w'' => e = .returned (.bool (holdsB im.segs x 8 4)) ∧ Below w'.heap.size w' w'') := Lib.hid (fun w' x hb hx => holds_any w' _ im x 8 4 ((hs.below hb).mono hb.size) hok hx (by decide) (by decide))
  unfold imgCells at *
  have Hiat := Lib.hid hiat
  have Hfat := Lib.hid hfat
  have Hri := Lib.hid hri
  have Hrf := Lib.hid hrf
  clear hs hok hi hf hiat hfat hri hrf
  generalize hI : (Array.mk [.string ⟨im.name.toArray⟩, .int .i64 im.flags, vsegs, vneeded, vrunPath, vsyms, vbuckets, vwords, .int .i64 im.shift, vrelocs, vslots, .slice ia im.init.length icap, .slice fa im.fini.length fcap, vtls, .int .i64 im.tlsSize] : Array Value) = I at HH
  have F0 := Lib.hid (heap_alloc_new w (.cells I 38 (0, 0)))
  subst hI
  go_enter Try.func26, Try.ntmps26
  go_wp2_with fail
  go_loopw [13] (fun i wr => ∃ k : Nat, i = .int .i64 k ∧ k ≤ 2 ∧ (1 ≤ k → runB im im.init = true) ∧ (2 ≤ k → runB im im.fini = true) ∧ Below w.heap.size w wr ∧
    wr.heap[w.heap.size]? = some (.cells #[.string ⟨im.name.toArray⟩, .int .i64 im.flags, vsegs, vneeded, vrunPath, vsyms, vbuckets, vwords, .int .i64 im.shift, vrelocs, vslots, .slice ia im.init.length icap, .slice fa im.fini.length fcap, vtls, .int .i64 im.tlsSize] 38 (0, 0)) ∧
    wr.cell? ⟨w.heap.size + 1, 0, none⟩ = some (.slice ia im.init.length icap) ∧ wr.cell? ⟨w.heap.size + 1, 1, none⟩ = some (.slice fa im.fini.length fcap) ∧ w.heap.size + 1 < wr.heap.size) (fun i _ => 2 - (intOf i).toNat)
  case atStart =>
    refine ⟨0, rfl, by omega, fun h => by omega, fun h => by omega, ((Below.refl _ _).alloc (Nat.le_refl _) _).alloc (by simp) _, ?_, ?_, ?_, by simp⟩
    · rw [heap_alloc_old _ _ (by simp)]
      exact F0.out
    all_goals
      have e2 := heap_alloc_new (w.alloc (.cells #[.string ⟨im.name.toArray⟩, .int .i64 im.flags, vsegs, vneeded, vrunPath, vsyms, vbuckets, vwords, .int .i64 im.shift, vrelocs, vslots, .slice ia im.init.length icap, .slice fa im.fini.length fcap, vtls, .int .i64 im.tlsSize] 38 (0, 0))) (.cells #[.slice ia im.init.length icap, .slice fa im.fini.length fcap] 35 (0, 0))
      simp only [World.size_alloc] at e2
      rw [Lib.cell_of_heap e2]
      rfl
  case round =>
    obtain ⟨k, rfl, hk, h1, h2, hbel, hF, hc0, hc1, hz⟩ := hrel
    have H1 := Lib.hid h1
    have H2 := Lib.hid h2
    have Bw := Lib.hid hbel
    have HF := Lib.hid hF
    have hBr := hbel.size
    by_cases hlt : k < 2
    · obtain ⟨l, la, lb, loff, lcap, hcell, hlm, hlc, hat, hrange, hbad, hgood⟩ : ∃ (l : List Int) (la : Option Addr) (lb loff lcap : Nat), wr.cell? ⟨w.heap.size + 1, k, none⟩ = some (.slice la l.length lcap) ∧ l.length ≤ 9223372036854775807 ∧ l.length ≤ lcap ∧ LAt kInt (· < w.heap.size) w l la lb loff ∧
          (∀ x ∈ l, -9223372036854775808 ≤ x ∧ x ≤ 9223372036854775807) ∧ (runB im l = false → (runB im im.init && runB im im.fini) = false) ∧ (runB im l = true → (1 ≤ k + 1 → runB im im.init = true) ∧ (2 ≤ k + 1 → runB im im.fini = true)) := by
        have hk01 : k = 0 ∨ k = 1 := by omega
        rcases hk01 with rfl | rfl
        · exact ⟨im.init, ia, ib, ioff, icap, hc0, him, hic, Hiat.out, Hri.out, fun h => by rw [h]; rfl, fun h => ⟨fun _ => h, fun h2 => by omega⟩⟩
        · exact ⟨im.fini, fa, fb, foff, fcap, hc1, hfm, hfc, Hfat.out, Hrf.out, fun h => by rw [h]; simp, fun h => ⟨fun _ => H1.out (by omega), fun _ => h⟩⟩
      have Hat := Lib.hid hat
      have Hrange := Lib.hid hrange
      have Hbad := Lib.hid hbad
      have Hgood := Lib.hid hgood
      have Hc0 := Lib.hid hc0
      have Hc1 := Lib.hid hc1
      clear hat hrange hbad hgood h1 h2 hc0 hc1 hF hbel Hiat Hfat
      by_cases hl8 : l.length ≤ 8
      case neg =>
        have Hr := Lib.hid (Hbad.out (runB_long im l hl8))
        have hl9 : 8 < l.length := by omega
        go_wp2
        go_ret
        exact ⟨by rw [Hr.out]; rfl, Bw.out⟩
      have hl9 : ¬ 8 < l.length := by omega
      have hkd : decide ((k : Int) < 2) = true := by rw [decide_eq_true_eq]; omega
      go_wp2_with fail
      go_loopw [22] (fun i wi => ∃ q : Nat, i = .int .i64 q ∧ q ≤ l.length ∧ ((l.take q).all fun a => holdsB im.segs a 8 4) = true ∧ Below w.heap.size w wi ∧ Below wr.heap.size wr wi) (fun i _ => l.length - (intOf i).toNat)
      case atStart => exact ⟨0, rfl, Nat.zero_le _, rfl, Bw.out, Below.refl _ _⟩
      case round =>
        obtain ⟨q, rfl, hq, hall, hb0, hb1⟩ := hrel
        have Hall := Lib.hid hall
        have Hb0 := Lib.hid hb0
        have Hb1 := Lib.hid hb1
        have hzi := hb1.size
        have hF2 := (hb1.block w.heap.size (by omega)).trans HF.out
        clear hall hb0 hb1
        by_cases hlt2 : q < l.length
        · obtain rfl := Hat.out.addr (by omega)
          obtain ⟨x, hx⟩ : ∃ x, l[q]? = some x := ⟨_, List.getElem?_eq_getElem hlt2⟩
          have hxc := (Hat.out.below Hb0.out).int1 q x hx
          have hxr := Hrange.out x (List.mem_of_getElem? hx)
          have Hyes : Hid (holdsB im.segs x 8 4 = true → ((l.take (q + 1)).all fun a => holdsB im.segs a 8 4) = true) := Lib.hid (fun h => by rw [all_take_snoc _ l q x hx, Hall.out, h]; rfl)
          have Hno : Hid (holdsB im.segs x 8 4 = false → (runB im im.init && runB im im.fini) = false) := Lib.hid (fun h => Hbad.out (runB_bad im l q x hx h))
          obtain ⟨q0, q1, q2, q3, q4, q5, q6, q7, q8, q9, q10, q11, q12, q13, q14⟩ := img_cells hF2
          have hHx := HH.out wr x Hb0.out hxr
          go_wp2_with fail
          refine hHx.mono ?_
          rintro e w2 ⟨rfl, hb2⟩
          have Hb2 := Lib.hid (Hb0.out.trans (hb2.mono (by omega)))
          have Hb3 := Lib.hid (Hb1.out.trans (hb2.mono (by omega)))
          have hz2 := hb2.size
          clear hb2 q0 q1 q2 q3 q4 q5 q6 q7 q8 q9 q10 q11 q12 q13 q14 hF2 hHx hxc hx
          cases hh : holdsB im.segs x 8 4 with
          | false =>
            have Hr := Lib.hid (Hno.out hh)
            clear hh
            go_wp2
            go_ret
            exact ⟨by rw [Hr.out]; rfl, Hb2.out⟩
          | true =>
            have Hy := Lib.hid (Hyes.out hh)
            clear hh
            go_wp2
            go_round
            case rel =>
              exact ⟨q + 1, by go_num, by omega, Hy.out, Hb2.out, Hb3.out⟩
            case measure => simp [intOf]; omega
        · have Hl := Lib.hid (Hgood.out (runB_all im l hl8 (by have := Hall.out; rwa [List.take_of_length_le (by omega)] at this)))
          go_wp2
          go_round
          case rel =>
            have e0 := Hb1.out.block (w.heap.size + 1) hz
            exact ⟨k + 1, by go_num, by omega, Hl.out.1, Hl.out.2, Hb0.out, hF2, by rw [World.cell?_of_block (a := ⟨w.heap.size + 1, 0, none⟩) e0]; exact Hc0.out, by rw [World.cell?_of_block (a := ⟨w.heap.size + 1, 1, none⟩) e0]; exact Hc1.out, by omega⟩
          case measure => simp [intOf]; omega
    · have Hr : Hid ((runB im im.init && runB im im.fini) = true) := Lib.hid (by rw [H1.out (by omega), H2.out (by omega)]; rfl)
      go_wp2
      go_ret
      exact ⟨by rw [Hr.out]; rfl, Bw.out⟩

end Go.Proofs.Ytbliedldlimpgaa

namespace Go.Proofs.Ytbliedldlimpgaa
set_option linter.unusedVariables false
set_option linter.unusedSimpArgs false
open Go.RowKit

set_option maxHeartbeats 16000000 in
set_option maxRecDepth 100000 in
theorem jruns_any (w : World) (v : ImgV) (im : ImgL) (hs : LB kSeg (· < w.heap.size) w v.segs im.segs) (hok : ∀ s ∈ im.segs, SegOk s)
    (hi : LB kInt (· < w.heap.size) w v.init im.init) (hf : LB kInt (· < w.heap.size) w v.fini im.fini)
    (hri : ∀ x ∈ im.init, -9223372036854775808 ≤ x ∧ x ≤ 9223372036854775807) (hrf : ∀ x ∈ im.fini, -9223372036854775808 ≤ x ∧ x ≤ 9223372036854775807) :
    Calls Try.prog 33 #[.agg (imgCells v im)] w fun e w' => e = .returned (.bool (runB im im.init && runB im im.fini)) ∧ Below w.heap.size w w' := by
  obtain ⟨ia, ib, ioff, icap, hiv, him, hic, hiat⟩ := hi.at
  obtain ⟨fa, fb, foff, fcap, hfv, hfm, hfc, hfat⟩ := hf.at
  obtain ⟨vsegs, vneeded, vrunPath, vsyms, vbuckets, vwords, vrelocs, vslots, vinit, vfini, vtls⟩ := v
  simp only at hiv hfv
  subst hiv hfv
  have HH : Hid (∀ (w' : World) (x : Int), Below w.heap.size w w' → -9223372036854775808 ≤ x ∧ x ≤ 9223372036854775807 →
    Calls Try.prog 17 #[.agg (imgCells ⟨vsegs, vneeded, vrunPath, vsyms, vbuckets, vwords, vrelocs, vslots, .slice ia im.init.length icap, .slice fa im.fini.length fcap, vtls⟩ im), .int .i64 x, .int .i64 8, .int .i64 4] w' fun e w'' => e = .returned (.bool (holdsB im.segs x 8 4)) ∧ Below w'.heap.size w' w'') := Lib.hid (fun w' x hb hx => jstands_any w' _ im x 8 4 ((hs.below hb).mono hb.size) hok hx (by decide) (by decide))
  unfold imgCells at *
  have Hiat := Lib.hid hiat
  have Hfat := Lib.hid hfat
  have Hri := Lib.hid hri
  have Hrf := Lib.hid hrf
  clear hs hok hi hf hiat hfat hri hrf
  generalize hI : (Array.mk [.string ⟨im.name.toArray⟩, .int .i64 im.flags, vsegs, vneeded, vrunPath, vsyms, vbuckets, vwords, .int .i64 im.shift, vrelocs, vslots, .slice ia im.init.length icap, .slice fa im.fini.length fcap, vtls, .int .i64 im.tlsSize] : Array Value) = I at HH
  have F0 := Lib.hid (heap_alloc_new w (.cells I 38 (0, 0)))
  subst hI
  go_enter Try.func33, Try.ntmps33
  go_wp2_with fail
  go_loopw [12] (fun i wr => ∃ k : Nat, i = .int .i64 k ∧ k ≤ 2 ∧ (1 ≤ k → runB im im.init = true) ∧ (2 ≤ k → runB im im.fini = true) ∧ Below w.heap.size w wr ∧
    wr.heap[w.heap.size]? = some (.cells #[.string ⟨im.name.toArray⟩, .int .i64 im.flags, vsegs, vneeded, vrunPath, vsyms, vbuckets, vwords, .int .i64 im.shift, vrelocs, vslots, .slice ia im.init.length icap, .slice fa im.fini.length fcap, vtls, .int .i64 im.tlsSize] 38 (0, 0)) ∧
    wr.cell? ⟨w.heap.size + 1, 0, none⟩ = some (.slice ia im.init.length icap) ∧ wr.cell? ⟨w.heap.size + 1, 1, none⟩ = some (.slice fa im.fini.length fcap) ∧ w.heap.size + 1 < wr.heap.size) (fun i _ => 2 - (intOf i).toNat)
  case atStart =>
    refine ⟨0, rfl, by omega, fun h => by omega, fun h => by omega, ((Below.refl _ _).alloc (Nat.le_refl _) _).alloc (by simp) _, ?_, ?_, ?_, by simp⟩
    · rw [heap_alloc_old _ _ (by simp)]
      exact F0.out
    all_goals
      have e2 := heap_alloc_new (w.alloc (.cells #[.string ⟨im.name.toArray⟩, .int .i64 im.flags, vsegs, vneeded, vrunPath, vsyms, vbuckets, vwords, .int .i64 im.shift, vrelocs, vslots, .slice ia im.init.length icap, .slice fa im.fini.length fcap, vtls, .int .i64 im.tlsSize] 38 (0, 0))) (.cells #[.slice ia im.init.length icap, .slice fa im.fini.length fcap] 35 (0, 0))
      simp only [World.size_alloc] at e2
      rw [Lib.cell_of_heap e2]
      rfl
  case round =>
    obtain ⟨k, rfl, hk, h1, h2, hbel, hF, hc0, hc1, hz⟩ := hrel
    have H1 := Lib.hid h1
    have H2 := Lib.hid h2
    have Bw := Lib.hid hbel
    have HF := Lib.hid hF
    have hBr := hbel.size
    by_cases hlt : k < 2
    · obtain ⟨l, la, lb, loff, lcap, hcell, hlm, hlc, hat, hrange, hbad, hgood⟩ : ∃ (l : List Int) (la : Option Addr) (lb loff lcap : Nat), wr.cell? ⟨w.heap.size + 1, k, none⟩ = some (.slice la l.length lcap) ∧ l.length ≤ 9223372036854775807 ∧ l.length ≤ lcap ∧ LAt kInt (· < w.heap.size) w l la lb loff ∧
          (∀ x ∈ l, -9223372036854775808 ≤ x ∧ x ≤ 9223372036854775807) ∧ (runB im l = false → (runB im im.init && runB im im.fini) = false) ∧ (runB im l = true → (1 ≤ k + 1 → runB im im.init = true) ∧ (2 ≤ k + 1 → runB im im.fini = true)) := by
        have hk01 : k = 0 ∨ k = 1 := by omega
        rcases hk01 with rfl | rfl
        · exact ⟨im.init, ia, ib, ioff, icap, hc0, him, hic, Hiat.out, Hri.out, fun h => by rw [h]; rfl, fun h => ⟨fun _ => h, fun h2 => by omega⟩⟩
        · exact ⟨im.fini, fa, fb, foff, fcap, hc1, hfm, hfc, Hfat.out, Hrf.out, fun h => by rw [h]; simp, fun h => ⟨fun _ => H1.out (by omega), fun _ => h⟩⟩
      have Hat := Lib.hid hat
      have Hrange := Lib.hid hrange
      have Hbad := Lib.hid hbad
      have Hgood := Lib.hid hgood
      have Hc0 := Lib.hid hc0
      have Hc1 := Lib.hid hc1
      clear hat hrange hbad hgood h1 h2 hc0 hc1 hF hbel Hiat Hfat
      by_cases hl8 : l.length ≤ 8
      case neg =>
        have Hr := Lib.hid (Hbad.out (runB_long im l hl8))
        have hl9 : 8 < l.length := by omega
        go_wp2
        go_ret
        exact ⟨by rw [Hr.out]; rfl, Bw.out⟩
      have hl9 : ¬ 8 < l.length := by omega
      have hkd : decide ((k : Int) < 2) = true := by rw [decide_eq_true_eq]; omega
      go_wp2_with fail
      go_loopw [5] (fun i wi => ∃ q : Nat, i = .int .i64 q ∧ q ≤ l.length ∧ ((l.take q).all fun a => holdsB im.segs a 8 4) = true ∧ Below w.heap.size w wi ∧ Below wr.heap.size wr wi) (fun i _ => l.length - (intOf i).toNat)
      case atStart => exact ⟨0, rfl, Nat.zero_le _, rfl, Bw.out, Below.refl _ _⟩
      case round =>
        obtain ⟨q, rfl, hq, hall, hb0, hb1⟩ := hrel
        have Hall := Lib.hid hall
        have Hb0 := Lib.hid hb0
        have Hb1 := Lib.hid hb1
        have hzi := hb1.size
        have hF2 := (hb1.block w.heap.size (by omega)).trans HF.out
        clear hall hb0 hb1
        by_cases hlt2 : q < l.length
        · obtain rfl := Hat.out.addr (by omega)
          obtain ⟨x, hx⟩ : ∃ x, l[q]? = some x := ⟨_, List.getElem?_eq_getElem hlt2⟩
          have hxc := (Hat.out.below Hb0.out).int1 q x hx
          have hxr := Hrange.out x (List.mem_of_getElem? hx)
          have Hyes : Hid (holdsB im.segs x 8 4 = true → ((l.take (q + 1)).all fun a => holdsB im.segs a 8 4) = true) := Lib.hid (fun h => by rw [all_take_snoc _ l q x hx, Hall.out, h]; rfl)
          have Hno : Hid (holdsB im.segs x 8 4 = false → (runB im im.init && runB im im.fini) = false) := Lib.hid (fun h => Hbad.out (runB_bad im l q x hx h))
          obtain ⟨q0, q1, q2, q3, q4, q5, q6, q7, q8, q9, q10, q11, q12, q13, q14⟩ := img_cells hF2
          have hHx := HH.out wr.drew x Hb0.out.drew hxr
          go_wp2_with fail
          refine wp_region_phase 7 (by kernel_rfl) (by kernel_rfl) ?_
          simp only [List.take_succ_cons, List.take_zero, List.drop_succ_cons, List.drop_zero, List.take_nil, List.drop_nil]
          refine wpAny_of_held (S := fun w' => w'.cell? ⟨w.heap.size, 0, none⟩ = some (.string ⟨im.name.toArray⟩) ∧ w'.cell? ⟨w.heap.size, 1, none⟩ = some (.int .i64 im.flags) ∧ w'.cell? ⟨w.heap.size, 2, none⟩ = some vsegs ∧ w'.cell? ⟨w.heap.size, 3, none⟩ = some vneeded ∧ w'.cell? ⟨w.heap.size, 4, none⟩ = some vrunPath ∧ w'.cell? ⟨w.heap.size, 5, none⟩ = some vsyms ∧ w'.cell? ⟨w.heap.size, 6, none⟩ = some vbuckets ∧ w'.cell? ⟨w.heap.size, 7, none⟩ = some vwords ∧ w'.cell? ⟨w.heap.size, 8, none⟩ = some (.int .i64 im.shift) ∧ w'.cell? ⟨w.heap.size, 9, none⟩ = some vrelocs ∧ w'.cell? ⟨w.heap.size, 10, none⟩ = some vslots ∧ w'.cell? ⟨w.heap.size, 11, none⟩ = some (.slice ia im.init.length icap) ∧ w'.cell? ⟨w.heap.size, 12, none⟩ = some (.slice fa im.fini.length fcap) ∧ w'.cell? ⟨w.heap.size, 13, none⟩ = some vtls ∧ w'.cell? ⟨w.heap.size, 14, none⟩ = some (.int .i64 im.tlsSize) ∧ w'.cell? ⟨lb, loff + q, none⟩ = some (.int .i64 x)) _ _ _ _ ?_
          have hHeld : (fun w' : World => w'.cell? ⟨w.heap.size, 0, none⟩ = some (.string ⟨im.name.toArray⟩) ∧ w'.cell? ⟨w.heap.size, 1, none⟩ = some (.int .i64 im.flags) ∧ w'.cell? ⟨w.heap.size, 2, none⟩ = some vsegs ∧ w'.cell? ⟨w.heap.size, 3, none⟩ = some vneeded ∧ w'.cell? ⟨w.heap.size, 4, none⟩ = some vrunPath ∧ w'.cell? ⟨w.heap.size, 5, none⟩ = some vsyms ∧ w'.cell? ⟨w.heap.size, 6, none⟩ = some vbuckets ∧ w'.cell? ⟨w.heap.size, 7, none⟩ = some vwords ∧ w'.cell? ⟨w.heap.size, 8, none⟩ = some (.int .i64 im.shift) ∧ w'.cell? ⟨w.heap.size, 9, none⟩ = some vrelocs ∧ w'.cell? ⟨w.heap.size, 10, none⟩ = some vslots ∧ w'.cell? ⟨w.heap.size, 11, none⟩ = some (.slice ia im.init.length icap) ∧ w'.cell? ⟨w.heap.size, 12, none⟩ = some (.slice fa im.fini.length fcap) ∧ w'.cell? ⟨w.heap.size, 13, none⟩ = some vtls ∧ w'.cell? ⟨w.heap.size, 14, none⟩ = some (.int .i64 im.tlsSize) ∧ w'.cell? ⟨lb, loff + q, none⟩ = some (.int .i64 x)) wr.drew := ⟨q0, q1, q2, q3, q4, q5, q6, q7, q8, q9, q10, q11, q12, q13, q14, hxc⟩
          show wpAnyH _ _ _ _ _ _ _ _ wr.drew
          refine wpAnyH_take (i := 0) (v := ?_) rfl (by kernel_rfl) (by kernel_rfl) (by kernel_rfl) (fun _ _ _ h => h) (Or.inl ⟨by rfl, ?_⟩) hHeld ?_
          rotate_left
          · (intro w hSw; (try dsimp only at hSw); go_simp; try with_reducible rfl)
          try simp only [Act.put, List.setIfInBounds_toArray, List.set_cons_zero, List.set_cons_succ]
          refine wpAnyH_take (i := 1) (v := ?_) rfl (by kernel_rfl) (by kernel_rfl) (by kernel_rfl) (fun _ _ _ h => h) (Or.inl ⟨by rfl, ?_⟩) hHeld ?_
          rotate_left
          · (intro w hSw; (try dsimp only at hSw); go_simp; try with_reducible rfl)
          try simp only [Act.put, List.setIfInBounds_toArray, List.set_cons_zero, List.set_cons_succ]
          refine wpAnyH_take (i := 2) (v := ?_) rfl (by kernel_rfl) (by kernel_rfl) (by kernel_rfl) (fun _ _ _ h => h) (Or.inl ⟨by rfl, ?_⟩) hHeld ?_
          rotate_left
          · (intro w hSw; (try dsimp only at hSw); go_simp; try with_reducible rfl)
          try simp only [Act.put, List.setIfInBounds_toArray, List.set_cons_zero, List.set_cons_succ]
          refine wpAnyH_take (i := 3) (v := ?_) rfl (by kernel_rfl) (by kernel_rfl) (by kernel_rfl) (fun _ _ _ h => h) (Or.inl ⟨by rfl, ?_⟩) hHeld ?_
          rotate_left
          · (intro w hSw; (try dsimp only at hSw); go_simp; try with_reducible rfl)
          try simp only [Act.put, List.setIfInBounds_toArray, List.set_cons_zero, List.set_cons_succ]
          refine wpAnyH_take (i := 4) (v := ?_) rfl (by kernel_rfl) (by kernel_rfl) (by kernel_rfl) (fun _ _ _ h => h) (Or.inl ⟨by rfl, ?_⟩) hHeld ?_
          rotate_left
          · (intro w hSw; (try dsimp only at hSw); go_simp; try with_reducible rfl)
          try simp only [Act.put, List.setIfInBounds_toArray, List.set_cons_zero, List.set_cons_succ]
          refine wpAnyH_ready (rs := [5]) (by kernel_rfl) (by simp) ?_
          refine AllReadyH.cons rfl (fun K hK => ?_) AllReadyH.nil
          go_simp
          refine hHx.mono ?_
          rintro e w2 ⟨rfl, hb2'⟩
          have hb2 : Below wr.heap.size wr w2 := ((Below.refl _ wr).drew).trans hb2'
          have Hb2 := Lib.hid (Hb0.out.trans (hb2.mono (by omega)))
          have Hb3 := Lib.hid (Hb1.out.trans (hb2.mono (by omega)))
          have hz2 := hb2.size
          have hF3 := (hb2.block w.heap.size (by omega)).trans hF2
          have hxc2 := (Hat.out.below Hb2.out).int1 q x hx
          obtain ⟨q0, q1, q2, q3, q4, q5, q6, q7, q8, q9, q10, q11, q12, q13, q14⟩ := img_cells hF3
          refine hK.out _ _ ⟨q0, q1, q2, q3, q4, q5, q6, q7, q8, q9, q10, q11, q12, q13, q14, hxc2⟩ (fun hHeld => ?_)
          clear hK K q0 q1 q2 q3 q4 q5 q6 q7 q8 q9 q10 q11 q12 q13 q14
          try simp only [Act.put, List.setIfInBounds_toArray, List.set_cons_zero, List.set_cons_succ]
          cases hh : holdsB im.segs x 8 4 with
          | false =>
            have Hr := Lib.hid (Hno.out hh)
            clear hh
            refine wpAnyH_take (i := 6) (v := ?_) rfl (by kernel_rfl) (by kernel_rfl) (by kernel_rfl) (fun _ _ _ h => h) (Or.inl ⟨by rfl, ?_⟩) hHeld ?_
            rotate_left
            · (intro w hSw; (try dsimp only at hSw); go_simp; try with_reducible rfl)
            try simp only [Act.put, List.setIfInBounds_toArray, List.set_cons_zero, List.set_cons_succ]
            refine wpAnyH_done (by kernel_rfl) ?_ _
            simp only [phaseQ]
            clear hHeld hxc2 hF3 hb2 hb2' hF2 hHx hxc hx
            go_wp2
            go_ret
            exact ⟨by rw [Hr.out]; rfl, Hb2.out⟩
          | true =>
            have Hy := Lib.hid (Hyes.out hh)
            clear hh
            refine wpAnyH_take (i := 6) (v := ?_) rfl (by kernel_rfl) (by kernel_rfl) (by kernel_rfl) (fun _ _ _ h => h) (Or.inl ⟨by rfl, ?_⟩) hHeld ?_
            rotate_left
            · (intro w hSw; (try dsimp only at hSw); go_simp; try with_reducible rfl)
            try simp only [Act.put, List.setIfInBounds_toArray, List.set_cons_zero, List.set_cons_succ]
            refine wpAnyH_done (by kernel_rfl) ?_ _
            simp only [phaseQ]
            clear hHeld hxc2 hF3 hb2 hb2' hF2 hHx hxc hx
            go_wp2
            go_round
            case rel => exact ⟨q + 1, by go_num, by omega, Hy.out, Hb2.out, Hb3.out⟩
            case measure => simp [intOf]; omega
        · have Hl := Lib.hid (Hgood.out (runB_all im l hl8 (by have := Hall.out; rwa [List.take_of_length_le (by omega)] at this)))
          go_wp2
          go_round
          case rel =>
            have e0 := Hb1.out.block (w.heap.size + 1) hz
            exact ⟨k + 1, by go_num, by omega, Hl.out.1, Hl.out.2, Hb0.out, hF2, by rw [World.cell?_of_block (a := ⟨w.heap.size + 1, 0, none⟩) e0]; exact Hc0.out, by rw [World.cell?_of_block (a := ⟨w.heap.size + 1, 1, none⟩) e0]; exact Hc1.out, by omega⟩
          case measure => simp [intOf]; omega
    · have Hr : Hid ((runB im im.init && runB im im.fini) = true) := Lib.hid (by rw [H1.out (by omega), H2.out (by omega)]; rfl)
      go_wp2
      go_ret
      exact ⟨by rw [Hr.out]; rfl, Bw.out⟩

end Go.Proofs.Ytbliedldlimpgaa

namespace Go.Proofs.Ytbliedldlimpgaa
set_option linter.unusedVariables false
set_option linter.unusedSimpArgs false
open Go.RowKit

set_option maxHeartbeats 8000000 in
set_option maxRecDepth 100000 in
theorem smarks_any (w : World) (a : Option Addr) (n c : Nat) (s : Int) (h : Nat) (hh : h < 4294967296) (h1 : 1 ≤ n) (h2 : n ≤ 64) (h3 : 1 ≤ s) (h4 : s ≤ 31) :
    Calls Try.prog 95 #[.agg #[.slice a n c, .int .i64 s], .int .u32 h] w fun e w' => e = .returned (.agg #[.int .i64 (bits .and .i64 ((h : Int) / 64) ((n : Int) - 1)), .int .u64 (bits .or .u64 (IntKind.u64.wrap (2 ^ (h % 64))) (IntKind.u64.wrap (2 ^ (h / 2 ^ s.toNat % 64))))]) ∧ Below w.heap.size w w' := by
  obtain ⟨sn, rfl⟩ : ∃ sn : Nat, s = sn := ⟨s.toNat, by omega⟩
  have e1 : ((h : Int)).tmod 64 = ((h % 64 : Nat) : Int) := by rw [Int.tmod_eq_emod_of_nonneg (by omega)]; omega
  have e2 : ((h : Int) / 2 ^ sn).tmod 64 = ((h / 2 ^ sn % 64 : Nat) : Int) := by
    rw [Int.tmod_eq_emod_of_nonneg (Int.ediv_nonneg (by omega) (Int.le_of_lt (Int.pow_pos (by decide)))), Int.natCast_emod, Int.natCast_ediv, Int.natCast_pow]
    rfl
  have k1 : h % 64 < 64 := Nat.mod_lt _ (by decide)
  have k2 : h / 2 ^ sn % 64 < 64 := Nat.mod_lt _ (by decide)
  generalize hb1 : h % 64 = b1 at *
  generalize hb2 : h / 2 ^ sn % 64 = b2 at *
  go_enter Try.func95, Try.ntmps95
  go_wp2_with fail
  refine wp_region_phase 19 (by kernel_rfl) (by kernel_rfl) ?_
  simp only [List.take_succ_cons, List.take_zero, List.drop_succ_cons, List.drop_zero, List.take_nil, List.drop_nil]
  have F0 : ((w.alloc (.cells #[.slice a n c, .int .i64 (sn : Int)] 30 (0, 0))).alloc (.cells #[.int .i64 0, .int .u64 0] 141 (0, 0))).heap[w.heap.size]? = some (.cells #[.slice a n c, .int .i64 (sn : Int)] 30 (0, 0)) := by
    rw [heap_alloc_old _ _ (by simp)]; exact heap_alloc_new w _
  have c0 := (Lib.cell_of_heap F0 0)
  have c1 := (Lib.cell_of_heap F0 1)
  refine wpAny_of_held (S := fun w' => w'.cell? ⟨w.heap.size, 0, none⟩ = some (.slice a n c) ∧ w'.cell? ⟨w.heap.size, 1, none⟩ = some (.int .i64 (sn : Int))) _ _ _ _ ?_
  have hHeld : (fun w' : World => w'.cell? ⟨w.heap.size, 0, none⟩ = some (.slice a n c) ∧ w'.cell? ⟨w.heap.size, 1, none⟩ = some (.int .i64 (sn : Int))) ((w.alloc (.cells #[.slice a n c, .int .i64 (sn : Int)] 30 (0, 0))).alloc (.cells #[.int .i64 0, .int .u64 0] 141 (0, 0))).drew := ⟨c0, c1⟩
  show wpAnyH _ _ _ _ _ _ _ _ (World.drew _)
  refine wpAnyH_take (i := 0) (v := ?_) rfl (by kernel_rfl) (by kernel_rfl) (by kernel_rfl) (fun _ _ _ h => h) (Or.inl ⟨by rfl, ?_⟩) hHeld ?_
  rotate_left
  · (intro w hSw; (try dsimp only at hSw); go_simp; try with_reducible rfl)
  try simp only [Act.put, List.setIfInBounds_toArray, List.set_cons_zero, List.set_cons_succ]
  refine wpAnyH_take (i := 1) (v := ?_) rfl (by kernel_rfl) (by kernel_rfl) (by kernel_rfl) (fun _ _ _ h => h) (Or.inl ⟨by rfl, ?_⟩) hHeld ?_
  rotate_left
  · (intro w hSw; (try dsimp only at hSw); go_simp; try with_reducible rfl)
  try simp only [Act.put, List.setIfInBounds_toArray, List.set_cons_zero, List.set_cons_succ]
  refine wpAnyH_take (i := 2) (v := ?_) rfl (by kernel_rfl) (by kernel_rfl) (by kernel_rfl) (fun _ _ _ h => h) (Or.inl ⟨by rfl, ?_⟩) hHeld ?_
  rotate_left
  · (intro w hSw; (try dsimp only at hSw); go_simp; try with_reducible rfl)
  try simp only [Act.put, List.setIfInBounds_toArray, List.set_cons_zero, List.set_cons_succ]
  refine wpAnyH_take (i := 3) (v := ?_) rfl (by kernel_rfl) (by kernel_rfl) (by kernel_rfl) (fun _ _ _ h => h) (Or.inl ⟨by rfl, ?_⟩) hHeld ?_
  rotate_left
  · (intro w hSw; (try dsimp only at hSw); go_simp; try with_reducible rfl)
  try simp only [Act.put, List.setIfInBounds_toArray, List.set_cons_zero, List.set_cons_succ]
  refine wpAnyH_take (i := 4) (v := ?_) rfl (by kernel_rfl) (by kernel_rfl) (by kernel_rfl) (fun _ _ _ h => h) (Or.inl ⟨by rfl, ?_⟩) hHeld ?_
  rotate_left
  · (intro w hSw; (try dsimp only at hSw); go_simp; try with_reducible rfl)
  try simp only [Act.put, List.setIfInBounds_toArray, List.set_cons_zero, List.set_cons_succ]
  refine wpAnyH_take (i := 5) (v := ?_) rfl (by kernel_rfl) (by kernel_rfl) (by kernel_rfl) (fun _ _ _ h => h) (Or.inl ⟨by rfl, ?_⟩) hHeld ?_
  rotate_left
  · (intro w hSw; (try dsimp only at hSw); go_simp; try with_reducible rfl)
  try simp only [Act.put, List.setIfInBounds_toArray, List.set_cons_zero, List.set_cons_succ]
  refine wpAnyH_take (i := 6) (v := ?_) rfl (by kernel_rfl) (by kernel_rfl) (by kernel_rfl) (fun _ _ _ h => h) (Or.inl ⟨by rfl, ?_⟩) hHeld ?_
  rotate_left
  · (intro w hSw; (try dsimp only at hSw); go_simp; try with_reducible rfl)
  try simp only [Act.put, List.setIfInBounds_toArray, List.set_cons_zero, List.set_cons_succ]
  refine wpAnyH_take (i := 7) (v := ?_) rfl (by kernel_rfl) (by kernel_rfl) (by kernel_rfl) (fun _ _ _ h => h) (Or.inl ⟨by rfl, ?_⟩) hHeld ?_
  rotate_left
  · (intro w hSw; (try dsimp only at hSw); go_simp; try with_reducible rfl)
  try simp only [Act.put, List.setIfInBounds_toArray, List.set_cons_zero, List.set_cons_succ]
  refine wpAnyH_take (i := 8) (v := ?_) rfl (by kernel_rfl) (by kernel_rfl) (by kernel_rfl) (fun _ _ _ h => h) (Or.inl ⟨by rfl, ?_⟩) hHeld ?_
  rotate_left
  · (intro w hSw; (try dsimp only at hSw); go_simp; try with_reducible rfl)
  try simp only [Act.put, List.setIfInBounds_toArray, List.set_cons_zero, List.set_cons_succ]
  refine wpAnyH_take (i := 9) (v := ?_) rfl (by kernel_rfl) (by kernel_rfl) (by kernel_rfl) (fun _ _ _ h => h) (Or.inl ⟨by rfl, ?_⟩) hHeld ?_
  rotate_left
  · (intro w hSw; (try dsimp only at hSw); go_simp; try with_reducible rfl)
  try simp only [Act.put, List.setIfInBounds_toArray, List.set_cons_zero, List.set_cons_succ]
  refine wpAnyH_take (i := 10) (v := ?_) rfl (by kernel_rfl) (by kernel_rfl) (by kernel_rfl) (fun _ _ _ h => h) (Or.inl ⟨by rfl, ?_⟩) hHeld ?_
  rotate_left
  · (intro w hSw; (try dsimp only at hSw); go_simp; try with_reducible rfl)
  try simp only [Act.put, List.setIfInBounds_toArray, List.set_cons_zero, List.set_cons_succ]
  refine wpAnyH_take (i := 11) (v := ?_) rfl (by kernel_rfl) (by kernel_rfl) (by kernel_rfl) (fun _ _ _ h => h) (Or.inl ⟨by rfl, ?_⟩) hHeld ?_
  rotate_left
  · (intro w hSw; (try dsimp only at hSw); go_simp; try with_reducible rfl)
  try simp only [Act.put, List.setIfInBounds_toArray, List.set_cons_zero, List.set_cons_succ]
  refine wpAnyH_take (i := 12) (v := ?_) rfl (by kernel_rfl) (by kernel_rfl) (by kernel_rfl) (fun _ _ _ h => h) (Or.inl ⟨by rfl, ?_⟩) hHeld ?_
  rotate_left
  · (intro w hSw; (try dsimp only at hSw); go_simp; try with_reducible rfl)
  try simp only [Act.put, List.setIfInBounds_toArray, List.set_cons_zero, List.set_cons_succ]
  refine wpAnyH_take (i := 13) (v := ?_) rfl (by kernel_rfl) (by kernel_rfl) (by kernel_rfl) (fun _ _ _ h => h) (Or.inl ⟨by rfl, ?_⟩) hHeld ?_
  rotate_left
  · (intro w hSw; (try dsimp only at hSw); go_simp; try with_reducible rfl)
  try simp only [Act.put, List.setIfInBounds_toArray, List.set_cons_zero, List.set_cons_succ]
  refine wpAnyH_take (i := 14) (v := ?_) rfl (by kernel_rfl) (by kernel_rfl) (by kernel_rfl) (fun _ _ _ h => h) (Or.inl ⟨by rfl, ?_⟩) hHeld ?_
  rotate_left
  · (intro w hSw; (try dsimp only at hSw); go_simp; try with_reducible rfl)
  try simp only [Act.put, List.setIfInBounds_toArray, List.set_cons_zero, List.set_cons_succ]
  refine wpAnyH_take (i := 15) (v := ?_) rfl (by kernel_rfl) (by kernel_rfl) (by kernel_rfl) (fun _ _ _ h => h) (Or.inl ⟨by rfl, ?_⟩) hHeld ?_
  rotate_left
  · (intro w hSw; (try dsimp only at hSw); go_simp; try with_reducible rfl)
  try simp only [Act.put, List.setIfInBounds_toArray, List.set_cons_zero, List.set_cons_succ]
  refine wpAnyH_take (i := 16) (v := ?_) rfl (by kernel_rfl) (by kernel_rfl) (by kernel_rfl) (fun _ _ _ h => h) (Or.inl ⟨by rfl, ?_⟩) hHeld ?_
  rotate_left
  · (intro w hSw; (try dsimp only at hSw); go_simp; try with_reducible rfl)
  try simp only [Act.put, List.setIfInBounds_toArray, List.set_cons_zero, List.set_cons_succ]
  refine wpAnyH_take (i := 17) (v := ?_) rfl (by kernel_rfl) (by kernel_rfl) (by kernel_rfl) (fun _ _ _ h => h) (Or.inl ⟨by rfl, ?_⟩) hHeld ?_
  rotate_left
  · (intro w hSw; (try dsimp only at hSw); go_simp; try with_reducible rfl)
  try simp only [Act.put, List.setIfInBounds_toArray, List.set_cons_zero, List.set_cons_succ]
  refine wpAnyH_take (i := 18) (v := ?_) rfl (by kernel_rfl) (by kernel_rfl) (by kernel_rfl) (fun _ _ _ h => h) (Or.inl ⟨by rfl, ?_⟩) hHeld ?_
  rotate_left
  · (intro w hSw; (try dsimp only at hSw); go_simp; try with_reducible rfl)
  try simp only [Act.put, List.setIfInBounds_toArray, List.set_cons_zero, List.set_cons_succ]
  refine wpAnyH_done (by kernel_rfl) ?_ _
  simp only [phaseQ]
  clear hHeld
  go_wp2
  have F1 : ((w.alloc (.cells #[.slice a n c, .int .i64 (sn : Int)] 30 (0, 0))).alloc (.cells #[.int .i64 (bits .and .i64 ((h : Int) / 64) ((n : Int) - 1)), .int .u64 (bits .or .u64 (IntKind.u64.wrap (2 ^ b1)) (IntKind.u64.wrap (2 ^ b2)))] 141 (0, 0))).drew.heap[w.heap.size + 1]? = some (.cells #[.int .i64 (bits .and .i64 ((h : Int) / 64) ((n : Int) - 1)), .int .u64 (bits .or .u64 (IntKind.u64.wrap (2 ^ b1)) (IntKind.u64.wrap (2 ^ b2)))] 141 (0, 0)) := by
    have := heap_alloc_new (w.alloc (.cells #[.slice a n c, .int .i64 (sn : Int)] 30 (0, 0))) (.cells #[.int .i64 (bits .and .i64 ((h : Int) / 64) ((n : Int) - 1)), .int .u64 (bits .or .u64 (IntKind.u64.wrap (2 ^ b1)) (IntKind.u64.wrap (2 ^ b2)))] 141 (0, 0))
    rw [World.size_alloc] at this
    exact this
  have d0 : ((w.alloc (.cells #[.slice a n c, .int .i64 (sn : Int)] 30 (0, 0))).alloc (.cells #[.int .i64 (bits .and .i64 ((h : Int) / 64) ((n : Int) - 1)), .int .u64 (bits .or .u64 (IntKind.u64.wrap (2 ^ b1)) (IntKind.u64.wrap (2 ^ b2)))] 141 (0, 0))).drew.cell? ⟨w.heap.size + 1, 0, none⟩ = some (.int .i64 (bits .and .i64 ((h : Int) / 64) ((n : Int) - 1))) := by rw [Lib.cell_of_heap F1]; rfl
  have d1 : ((w.alloc (.cells #[.slice a n c, .int .i64 (sn : Int)] 30 (0, 0))).alloc (.cells #[.int .i64 (bits .and .i64 ((h : Int) / 64) ((n : Int) - 1)), .int .u64 (bits .or .u64 (IntKind.u64.wrap (2 ^ b1)) (IntKind.u64.wrap (2 ^ b2)))] 141 (0, 0))).drew.cell? ⟨w.heap.size + 1, 1, none⟩ = some (.int .u64 (bits .or .u64 (IntKind.u64.wrap (2 ^ b1)) (IntKind.u64.wrap (2 ^ b2)))) := by rw [Lib.cell_of_heap F1]; rfl
  refine bodyPost_ret (v := .agg #[.int .i64 (bits .and .i64 ((h : Int) / 64) ((n : Int) - 1)), .int .u64 (bits .or .u64 (IntKind.u64.wrap (2 ^ b1)) (IntKind.u64.wrap (2 ^ b2)))]) (by simp [results, Try.results95, d0, d1, go_sem]) rfl ⟨by rw [Int.toNat_natCast, hb2], (((Below.refl _ _).alloc (Nat.le_refl _) _).alloc (by simp) _).drew⟩

end Go.Proofs.Ytbliedldlimpgaa

namespace Go.Proofs.Ytbliedldlimpgaa
set_option linter.unusedVariables false
set_option linter.unusedSimpArgs false
open Go.RowKit

theorem nat_two_bits (m k1 k2 : Nat) : m &&& (2 ^ k1 ||| 2 ^ k2) = 2 ^ k1 ||| 2 ^ k2 ↔ m.testBit k1 = true ∧ m.testBit k2 = true := by
  constructor
  · intro h
    have h1 := congrArg (fun x => x.testBit k1) h
    have h2 := congrArg (fun x => x.testBit k2) h
    simp only [Nat.testBit_and, Nat.testBit_or, Nat.testBit_two_pow_self] at h1 h2
    simp at h1 h2
    exact ⟨h1, h2⟩
  · rintro ⟨h1, h2⟩
    apply Nat.eq_of_testBit_eq
    intro i
    simp only [Nat.testBit_and, Nat.testBit_or, Nat.testBit_two_pow]
    by_cases e1 : k1 = i
    · subst e1; simp [h1]
    · by_cases e2 : k2 = i
      · subst e2; simp [h2]
      · simp [e1, e2]
theorem bitB_testBit (m k : Nat) : bitB (m : Int) k = m.testBit k := by
  rw [bitB, Int.toNat_natCast, Nat.testBit_eq_decide_div_mod_eq]
  rw [Bool.eq_iff_iff]; simp
theorem wrap_pow (k : Nat) (h : k < 64) : IntKind.u64.wrap ((2 : Int) ^ k) = ((2 ^ k : Nat) : Int) := by
  have : (2 ^ k : Nat) < 2 ^ 64 := Nat.pow_lt_pow_right (by decide) h
  have e : (2 : Nat) ^ 64 = 18446744073709551616 := by decide
  rw [show ((2 : Int) ^ k) = ((2 ^ k : Nat) : Int) by rw [Int.natCast_pow]; rfl]
  generalize 2 ^ k = P at *
  exact IntWalk.u64_in _ ⟨by omega, by omega⟩
/-- the mark's bits -/
theorem marks_bits (k1 k2 : Nat) (h1 : k1 < 64) (h2 : k2 < 64) : bits .or .u64 (IntKind.u64.wrap ((2 : Int) ^ k1)) (IntKind.u64.wrap ((2 : Int) ^ k2)) = ((2 ^ k1 ||| 2 ^ k2 : Nat) : Int) := by
  have a1 : (2 ^ k1 : Nat) < 2 ^ 64 := Nat.pow_lt_pow_right (by decide) h1
  have a2 : (2 ^ k2 : Nat) < 2 ^ 64 := Nat.pow_lt_pow_right (by decide) h2
  have e : (2 : Nat) ^ 64 = 18446744073709551616 := by decide
  rw [wrap_pow k1 h1, wrap_pow k2 h2, u64_or_nat _ _ (by omega) (by omega)]
theorem marks_lt (k1 k2 : Nat) (h1 : k1 < 64) (h2 : k2 < 64) : 2 ^ k1 ||| 2 ^ k2 < 18446744073709551616 :=
  Nat.or_lt_two_pow (n := 64) (Nat.pow_lt_pow_right (by decide) h1) (Nat.pow_lt_pow_right (by decide) h2)
theorem marks_miss (m k1 k2 : Nat) (hm : m < 18446744073709551616) (h1 : k1 < 64) (h2 : k2 < 64) :
    (bits .and .u64 (m : Int) ((2 ^ k1 ||| 2 ^ k2 : Nat) : Int) != ((2 ^ k1 ||| 2 ^ k2 : Nat) : Int)) = !(bitB (m : Int) k1 && bitB (m : Int) k2) := by
  rw [u64_and_nat _ _ hm (marks_lt k1 k2 h1 h2), bitB_testBit, bitB_testBit]
  have h := nat_two_bits m k1 k2
  rw [Bool.eq_iff_iff]
  simp only [bne_iff_ne, ne_eq, Int.natCast_inj, h, Bool.not_eq_true', Bool.and_eq_false_iff]
  cases m.testBit k1 <;> cases m.testBit k2 <;> simp
theorem i64_and_small (a b : Nat) (ha : a < 9223372036854775808) (hb : b < 9223372036854775808) : bits .and .i64 (a : Int) (b : Int) = ((a &&& b : Nat) : Int) := by
  have h1 : (BitVec.ofInt 64 (a : Int)).toNat = a := ofInt_u64 a (by omega)
  have h2 : (BitVec.ofInt 64 (b : Int)).toNat = b := ofInt_u64 b (by omega)
  have h3 : a &&& b < 9223372036854775808 := Nat.lt_of_le_of_lt Nat.and_le_left ha
  show IntKind.i64.wrap ((BitVec.ofInt 64 (a : Int) &&& BitVec.ofInt 64 (b : Int)).toNat : Int) = _
  rw [BitVec.toNat_and, h1, h2]
  simp [IntKind.wrap, IntKind.bits, IntKind.signed]
  omega
theorem pow_word (h n : Nat) (hh : h < 4294967296) (hp : powB n = true) : bits .and .i64 ((h : Int) / 64) ((n : Int) - 1) = ((h / 64 % n : Nat) : Int) := by
  rw [powB_iff] at hp
  rw [show ((h : Int) / 64) = ((h / 64 : Nat) : Int) by omega, show ((n : Int) - 1) = ((n - 1 : Nat) : Int) by omega, i64_and_small _ _ (by omega) (by omega)]
  congr 1
  rcases hp with rfl | rfl | rfl | rfl | rfl | rfl | rfl
  · exact Nat.and_two_pow_sub_one_eq_mod _ 0
  · exact Nat.and_two_pow_sub_one_eq_mod _ 1
  · exact Nat.and_two_pow_sub_one_eq_mod _ 2
  · exact Nat.and_two_pow_sub_one_eq_mod _ 3
  · exact Nat.and_two_pow_sub_one_eq_mod _ 4
  · exact Nat.and_two_pow_sub_one_eq_mod _ 5
  · exact Nat.and_two_pow_sub_one_eq_mod _ 6

set_option maxHeartbeats 8000000 in
set_option maxRecDepth 100000 in
theorem slacks_any (w : World) (v : Value) (ws : List Int) (s : Int) (h : Nat) (hw : LB kWord (· < w.heap.size) w v ws) (hr : ∀ x ∈ ws, 0 ≤ x ∧ x < 18446744073709551616) (hh : h < 4294967296) (hs : sieveB ws s = true) :
    Calls Try.prog 63 #[.agg #[v, .int .i64 s], .int .u32 h] w fun e w' => e = .returned (.bool (lacksB ws s (h : Int))) ∧ Below w.heap.size w w' := by
  obtain ⟨a, b, off, c, rfl, hm, hc, hat⟩ := hw.at
  have hse : sieveErr ws s = 0 := by rw [sieveErr, hs]; rfl
  rw [sieveB_pow] at hs
  simp only [Bool.and_eq_true, decide_eq_true_eq] at hs
  obtain ⟨⟨hp, hs1⟩, hs2⟩ := hs
  have hn := (powB_iff _).1 hp
  have hn1 : 1 ≤ ws.length ∧ ws.length ≤ 64 := by omega
  obtain rfl := hat.addr (by omega)
  have hk : h / 64 % ws.length < ws.length := Nat.mod_lt _ (by omega)
  obtain ⟨x, hx⟩ : ∃ x, ws[h / 64 % ws.length]? = some x := ⟨_, List.getElem?_eq_getElem hk⟩
  have hxr := hr x (List.mem_of_getElem? hx)
  obtain ⟨m, rfl⟩ : ∃ m : Nat, x = m := ⟨x.toNat, by omega⟩
  have k1 : h % 64 < 64 := Nat.mod_lt _ (by decide)
  have k2 : h / 2 ^ s.toNat % 64 < 64 := Nat.mod_lt _ (by decide)
  have Hres : Hid (lacksB ws s (h : Int) = (bits .and .u64 (m : Int) ((2 ^ (h % 64) ||| 2 ^ (h / 2 ^ s.toNat % 64) : Nat) : Int) != ((2 ^ (h % 64) ||| 2 ^ (h / 2 ^ s.toNat % 64) : Nat) : Int))) := Lib.hid (by
    rw [marks_miss m _ _ (by omega) k1 k2, lacksB, Int.toNat_natCast, List.getD_eq_getElem?_getD, hx]; rfl)
  have HR := Lib.hid (sright_any (w.alloc (.cells #[.slice (some ⟨b, off, none⟩) ws.length c, .int .i64 s] 30 (0, 0))) ws (some ⟨b, off, none⟩) c s (by omega))
  have HM := Lib.hid (fun w => smarks_any w (some ⟨b, off, none⟩) ws.length c s h hh hn1.1 hn1.2 hs1 hs2)
  have HW := Lib.hid (pow_word h ws.length hh hp)
  have HB := Lib.hid (marks_bits (h % 64) (h / 2 ^ s.toNat % 64) k1 k2)
  have F1 := Lib.hid (heap_alloc_new w (.cells #[.slice (some ⟨b, off, none⟩) ws.length c, .int .i64 s] 30 (0, 0)))
  have B1 := Lib.hid ((Below.refl w.heap.size w).alloc (Nat.le_refl _) (.cells #[.slice (some ⟨b, off, none⟩) ws.length c, .int .i64 s] 30 (0, 0)))
  have Hat := Lib.hid hat
  have hz1 : w.heap.size < (w.alloc (.cells #[.slice (some ⟨b, off, none⟩) ws.length c, .int .i64 s] 30 (0, 0))).heap.size := by simp
  clear hat hr hw hp hn hc hm
  rw [hse] at HR
  go_enter Try.func63, Try.ntmps63
  go_wp2_with fail
  generalize w.alloc (.cells #[.slice (some ⟨b, off, none⟩) ws.length c, .int .i64 s] 30 (0, 0)) = w1 at *
  refine HR.out.mono ?_
  rintro e w2 ⟨rfl, hb2⟩
  have B2 := Lib.hid (B1.out.trans (hb2.mono (by omega)))
  have F2 := (hb2.block _ hz1).trans F1.out
  have c0 : w2.cell? ⟨w.heap.size, 0, none⟩ = some (.slice (some ⟨b, off, none⟩) ws.length c) := by rw [Lib.cell_of_heap F2]; rfl
  have c1 : w2.cell? ⟨w.heap.size, 1, none⟩ = some (.int .i64 s) := by rw [Lib.cell_of_heap F2]; rfl
  have hz2 := hb2.size
  clear hb2 HR F1
  go_wp2_with fail
  refine (HM.out _).mono ?_
  rintro e w3 ⟨rfl, hb3⟩
  have B3 := Lib.hid (B2.out.trans (hb3.mono (by omega)))
  have F3 := (hb3.block w.heap.size (by omega)).trans F2
  have d0 : w3.cell? ⟨w.heap.size, 0, none⟩ = some (.slice (some ⟨b, off, none⟩) ws.length c) := by rw [Lib.cell_of_heap F3]; rfl
  have d1 : w3.cell? ⟨w.heap.size, 1, none⟩ = some (.int .i64 s) := by rw [Lib.cell_of_heap F3]; rfl
  have hz3 := hb3.size
  have hc := (Hat.out.below B3.out).word1 _ _ hx
  rw [HW.out, HB.out]
  clear hb3 F2 HM c0 c1 HW HB F3 hx
  generalize 2 ^ (h % 64) ||| 2 ^ (h / 2 ^ s.toNat % 64) = K at *
  generalize h / 64 % ws.length = q at *
  have hsb := World.block_lt_of_cell? _ _ hc
  have hsw : w.heap.size < w3.heap.size := by omega
  go_wp2_with fail
  go_quiet (fail)
  go_wp2
  go_ret
  exact ⟨by rw [Hres.out]; rfl, below_drewN (B3.out.alloc (by omega) _) _⟩

end Go.Proofs.Ytbliedldlimpgaa

namespace Go.Proofs.Ytbliedldlimpgaa
set_option linter.unusedVariables false
set_option linter.unusedSimpArgs false
open Go.RowKit

set_option maxHeartbeats 8000000 in
set_option maxRecDepth 100000 in
theorem jlacks_any (w : World) (v : Value) (ws : List Int) (s : Int) (h : Nat) (hw : LB kWord (· < w.heap.size) w v ws) (hr : ∀ x ∈ ws, 0 ≤ x ∧ x < 18446744073709551616) (hh : h < 4294967296) (hs : sieveB ws s = true) :
    Calls Try.prog 78 #[.agg #[v, .int .i64 s], .int .u32 h] w fun e w' => e = .returned (.bool (lacksB ws s (h : Int))) ∧ Below w.heap.size w w' := by
  obtain ⟨a, b, off, c, rfl, hm, hc, hat⟩ := hw.at
  have hsB := hs
  rw [sieveB_pow] at hs
  simp only [Bool.and_eq_true, decide_eq_true_eq] at hs
  obtain ⟨⟨hp, hs1⟩, hs2⟩ := hs
  have hn := (powB_iff _).1 hp
  have hn1 : 1 ≤ ws.length ∧ ws.length ≤ 64 := by omega
  obtain rfl := hat.addr (by omega)
  have hk : h / 64 % ws.length < ws.length := Nat.mod_lt _ (by omega)
  obtain ⟨x, hx⟩ : ∃ x, ws[h / 64 % ws.length]? = some x := ⟨_, List.getElem?_eq_getElem hk⟩
  have hxr := hr x (List.mem_of_getElem? hx)
  obtain ⟨m, rfl⟩ : ∃ m : Nat, x = m := ⟨x.toNat, by omega⟩
  obtain ⟨sn, rfl⟩ : ∃ sn : Nat, s = sn := ⟨s.toNat, by omega⟩
  have k1 : h % 64 < 64 := Nat.mod_lt _ (by decide)
  have k2 : h / 2 ^ sn % 64 < 64 := Nat.mod_lt _ (by decide)
  have Hres : Hid (lacksB ws (sn : Int) (h : Int) = (!bitB (m : Int) (h % 64) || !bitB (m : Int) (h / 2 ^ sn % 64))) := Lib.hid (by
    rw [lacksB, Int.toNat_natCast, List.getD_eq_getElem?_getD, hx, Int.toNat_natCast, Bool.not_and]; rfl)
  have HR := Lib.hid (jfright_any (w.alloc (.cells #[.slice (some ⟨b, off, none⟩) ws.length c, .int .i64 (sn : Int)] 30 (0, 0))) ws (some ⟨b, off, none⟩) c sn (by omega))
  rw [hsB] at HR
  have H1 := Lib.hid (fun w => jhas_any w m (h % 64) (by omega) (by omega))
  have H2 := Lib.hid (fun w => jhas_any w m (h / 2 ^ sn % 64) (by omega) (by omega))
  have H3 := Lib.hid (fun w => jshifted_any w h sn hh (by omega))
  have hq : h / 2 ^ sn ≤ h := Nat.div_le_self _ _
  have F1 := Lib.hid (heap_alloc_new w (.cells #[.slice (some ⟨b, off, none⟩) ws.length c, .int .i64 (sn : Int)] 30 (0, 0)))
  have B1 := Lib.hid ((Below.refl w.heap.size w).alloc (Nat.le_refl _) (.cells #[.slice (some ⟨b, off, none⟩) ws.length c, .int .i64 (sn : Int)] 30 (0, 0)))
  have Hat := Lib.hid hat
  have hz1 : w.heap.size < (w.alloc (.cells #[.slice (some ⟨b, off, none⟩) ws.length c, .int .i64 (sn : Int)] 30 (0, 0))).heap.size := by simp
  clear hat hr hw hp hn hc hm hsB
  go_enter Try.func78, Try.ntmps78
  go_wp2_with fail
  generalize w.alloc (.cells #[.slice (some ⟨b, off, none⟩) ws.length c, .int .i64 (sn : Int)] 30 (0, 0)) = w1 at *
  refine HR.out.mono ?_
  rintro e w2 ⟨rfl, hb2⟩
  have B2 := Lib.hid (B1.out.trans (hb2.mono (by omega)))
  have F2 := (hb2.block _ hz1).trans F1.out
  have c0 : w2.cell? ⟨w.heap.size, 0, none⟩ = some (.slice (some ⟨b, off, none⟩) ws.length c) := by rw [Lib.cell_of_heap F2]; rfl
  have c1 : w2.cell? ⟨w.heap.size, 1, none⟩ = some (.int .i64 (sn : Int)) := by rw [Lib.cell_of_heap F2]; rfl
  have hz2 := hb2.size
  have hcx := (Hat.out.below B2.out).word1 _ _ hx
  have e1 : ((h : Int) / 64).tmod (ws.length : Int) = ((h / 64 % ws.length : Nat) : Int) := by
    rw [Int.tmod_eq_emod_of_nonneg (by omega), Int.natCast_emod]; rfl
  have hl0 : ((ws.length : Int) == 0) = false := by rw [beq_eq_false_iff_ne]; omega
  clear hb2 HR F1 F2 hx
  generalize h / 64 % ws.length = q at *
  go_wp2_with fail
  go_quiet (fail)
  have e2 : ((h : Int)).tmod 64 = ((h % 64 : Nat) : Int) := by rw [Int.tmod_eq_emod_of_nonneg (by omega)]; omega
  generalize hb1 : h % 64 = b1 at *
  generalize h / 2 ^ sn = hd at *
  have e3 : (hd : Int).tmod 64 = ((hd % 64 : Nat) : Int) := by rw [Int.tmod_eq_emod_of_nonneg (by omega)]; omega
  generalize hb2 : hd % 64 = b2 at *
  go_wp2_with fail
  refine (H1.out _).mono ?_
  rintro e w3 ⟨rfl, rfl⟩
  go_wp2_with fail
  refine (H3.out _).mono ?_
  rintro e w3 ⟨rfl, rfl⟩
  go_wp2_with fail
  refine (H2.out _).mono ?_
  rintro e w3 ⟨rfl, rfl⟩
  cases hx1 : bitB (m : Int) b1
  all_goals
    have Hx1 := Lib.hid hx1
    clear hx1
    go_wp2
    go_ret
    exact ⟨by rw [Hres.out, Hx1.out]; rfl, below_drewN B2.out _⟩

end Go.Proofs.Ytbliedldlimpgaa

/- A region that draws its order, whose operations only read and whose callees may make memory of their own: one walk, in the order of the text. The worlds that may come up: all those in which what stood ahead of the region is as it was. -/
namespace Go.Proofs.Ytbliedldlimpgaa
set_option linter.unusedVariables false
set_option linter.unusedSimpArgs false
open Go.RowKit

/-- a world in which all that stood in w is as it was -/
structure Later (w : World) where
  w' : World
  h : Below w.heap.size w w'
instance Later.inst (w : World) : Nonempty (Later w) := ⟨⟨w, Below.refl _ w⟩⟩
theorem Later.cell {w : World} (x : Later w) {p : Addr} {v : Value} (c : w.cell? p = some v) : x.w'.cell? p = some v := (x.h.cell (World.block_lt_of_cell? _ _ c)).trans c
theorem Later.lt {w : World} (x : Later w) {n : Nat} (h : n < w.heap.size) : n < x.w'.heap.size := Nat.lt_of_lt_of_le h x.h.size
theorem Later.call {P : Program} {w : World} (x : Later w) {f : FuncId} {args : Array Value} {v : Value} (h : Calls P f args x.w' fun e w' => e = .returned v ∧ Below x.w'.heap.size x.w' w') :
    Calls P f args x.w' fun e w'' => e = .returned v ∧ ∃ y : Later w, w'' = y.w' :=
  h.mono fun _ w' ⟨he, hb⟩ => ⟨he, ⟨⟨w', x.h.trans (hb.mono x.h.size)⟩, rfl⟩⟩
theorem Later.call_same {P : Program} {w : World} (x : Later w) {f : FuncId} {args : Array Value} {v : Value} (h : Calls P f args x.w' fun e w' => e = .returned v ∧ w' = x.w') :
    Calls P f args x.w' fun e w'' => e = .returned v ∧ ∃ y : Later w, w'' = y.w' :=
  h.mono fun _ w' ⟨he, hb⟩ => ⟨he, ⟨x, hb⟩⟩
theorem wp_region_later {P : Program} {id : Nat} {Q : Exit → Act → World → Prop} {a : Act} {w : World} {l : List Oper} (hm : P.follows .mixedOrders = true) (hB : Region.lexB .any l.toArray = true)
    (h : wpQuiet P l.toArray (fun w' => ∃ x : Later w, w' = x.w') (fun a' => ∀ w', (∃ x : Later w, w' = x.w') → Q .normal a' w') l a) : (Code.region id l.toArray true).wp P Q a w :=
  wp_region_quiet (C := fun w' => ∃ x : Later w, w' = x.w') hm hB ⟨⟨_, (Below.refl _ w).drew⟩, rfl⟩ (by simpa using h)

end Go.Proofs.Ytbliedldlimpgaa

namespace Go.Proofs.Ytbliedldlimpgaa
set_option linter.unusedVariables false
set_option linter.unusedSimpArgs false
open Go.RowKit

theorem info_int : (Try.prog.info? 3).map (fun i => (i.zero, i.size, i.bytes)) = some (some (.int .i64 0), 1, 8) := by kernel_rfl
def toInts (l : List Nat) : List Int := l.map fun (k : Nat) => (k : Int)
theorem toInts_len (l : List Nat) : (toInts l).length = l.length := by simp [toInts]
theorem symN_at {syms : List SymL} {k : Nat} {s : SymL} (h : syms[k]? = some s) : symN syms k = s := by rw [symN, h]; rfl

set_option maxHeartbeats 4000000 in
set_option maxRecDepth 100000 in
theorem jseenl_any (w : World) (v : Value) (syms : List SymL) (hs : LB kSym (· < w.heap.size) w v syms) (hz : syms.length ≤ 512) :
    Calls Try.prog 75 #[v] w fun e w' => ∃ r, e = .returned r ∧ OwnK 3 kInt w.heap.size (fun _ => False) w' r (toInts (seenIx syms)) ∧ Below w.heap.size w w' := by
  obtain ⟨sa, sb, soff, scap, rfl, hsm, hsc, hat⟩ := hs.at
  have Hat := Lib.hid hat
  clear hs hat
  go_enter Try.func75, Try.ntmps75
  go_wp2
  go_loopw [3, 4] (fun o i wr => ∃ k : Nat, i = .int .i64 k ∧ k ≤ syms.length ∧ OwnK 3 kInt w.heap.size (fun _ => False) wr o (toInts (seenK syms k)) ∧ Below w.heap.size w wr) (fun _ i _ => syms.length - (intOf i).toNat)
  case atStart => exact ⟨0, rfl, Nat.zero_le _, by exact OwnK.nil _ _ _ _ _, Below.refl _ _⟩
  case round =>
    obtain ⟨k, rfl, hk, hown, hbel⟩ := hrel
    have hBr := hbel.size
    by_cases hlt : k < syms.length
    · obtain rfl := Hat.out.addr (by omega)
      obtain ⟨s, hx⟩ : ∃ s, syms[k]? = some s := ⟨_, List.getElem?_eq_getElem hlt⟩
      obtain ⟨_, g0, g1, g2, g3, g4, g5, g6, g7, g8⟩ := (Hat.out.below hbel).sym9 k s hx
      have HS := Lib.hid (seenK_succ syms k)
      rw [symN_at hx] at HS
      have hl := seenK_le syms k
      have hl2 := toInts_len (seenK syms k)
      obtain ⟨oa, oc, rfl⟩ := hown.form
      rw [hl2] at hown ⊢
      have Hown := Lib.hid hown
      have Hbel := Lib.hid hbel
      clear hown hbel hx
      have hsb := World.block_lt_of_cell? _ _ g0
      go_wp2_with fail
      refine (jseen_any wr s).mono ?_
      rintro e w2 ⟨rfl, hb2⟩
      have B2 := Lib.hid (Hbel.out.trans (hb2.mono hBr))
      have O2 := Lib.hid (Hown.out.below hb2)
      have hz2 := hb2.size
      clear hb2 g0 g1 g2 g3 g4 g5 g6 g7 g8 Hown Hbel
      cases hsn : seenB s with
      | false =>
        rw [hsn] at HS
        go_wp2
        go_roundw
        case rel =>
          have h1 := O2.out
          have h2 := HS.out
          simp only [Bool.false_eq_true, if_false, List.append_nil] at h2
          exact ⟨k + 1, by go_num, by omega, by rw [h2]; exact h1, B2.out⟩
        case measure => simp [intOf]; omega
      | true =>
        rw [hsn] at HS
        go_wp2_with (at_builtin; refine wpList_appendK (α := Int) (K := kInt) (e := 3) (B := w.heap.size) (E := fun _ => False) 35 (.int .i64 0) 8 Try.underlying35 info_int rfl (by decide) rfl (.tmp 16) (.tmp 18) rfl (seenK syms k).length hl2 rfl (O2.out.alloc _) (fun _ h => h.elim) w2.heap.size (k : Int) [.int .i64 (k : Int)] rfl ?c1 ?c2 rfl ?c3 ?c4 ?c5 ?_)
        case c1 =>
          intro j u hu
          match j, hu with
          | 0, hu => simp at hu; subst hu; simp
          | j + 1, hu => simp at hu
        case c2 => intro u hu; simp at hu; subst hu; rfl
        case c3 => omega
        case c4 => omega
        case c5 => simp; omega
        intro g c w3 hown3 hst3 _
        have Hown3 := Lib.hid hown3
        have hlo := (O2.out.alloc (.cells #[.int .i64 (k : Int)] 3 (0, 0))).lt
        have B3 := Lib.hid (((B2.out.alloc (by omega) (.cells #[.int .i64 (k : Int)] 3 (0, 0))).trans (hst3.imp (S' := (· < w.heap.size)) (fun b hb => ⟨by have h1 : b < w.heap.size := hb; omega, fun e => by have := (hlo b e).1; have h1 : b < w.heap.size := hb; omega⟩)).below))
        clear hown3 hst3 hlo
        go_wp2
        go_roundw
        case rel =>
          have h2 := HS.out
          simp only [if_true] at h2
          exact ⟨k + 1, by go_num, by omega, by rw [h2, toInts, List.map_append]; exact Hown3.out, B3.out⟩
        case measure => simp [intOf]; omega
    · have he : k = syms.length := by omega
      subst he
      have Hown := Lib.hid hown
      have Hbel := Lib.hid hbel
      clear hown hbel
      go_wp2
      go_ret
      exact ⟨_, rfl, Hown.out, Hbel.out⟩

end Go.Proofs.Ytbliedldlimpgaa

namespace Go.Proofs.Ytbliedldlimpgaa
set_option linter.unusedVariables false
set_option linter.unusedSimpArgs false
open Go.RowKit

/-- a list that a loop of readings makes: k elements so far -/
def LQ {α : Type} (e : TypeId) (K : Kind α) (p : List UInt8 → Option (α × List UInt8)) (ok : α → Prop) (lb rb gb : Nat) (S0 : Nat → Prop) (w0 : World) (st0 : Option (List UInt8)) (w : World) (v : Value) (k : Nat) : Prop :=
  ∃ xs st, OwnK e K w0.heap.size (· < w0.heap.size) w v xs ∧ xs.length = k ∧ (∀ x ∈ xs, ok x) ∧ Got (manyP p k) st0 xs st ∧ LD lb rb gb w st ∧ Step (fun x => x < w0.heap.size ∧ S0 x) w0 w
section
variable {α : Type} {e : TypeId} {K : Kind α} {p : List UInt8 → Option (α × List UInt8)} {ok : α → Prop} {lb rb gb : Nat} {S0 : Nat → Prop} {w0 w w' w'' : World} {st0 st st' : Option (List UInt8)} {v v' : Value} {k : Nat}
theorem LQ.start (h : LD lb rb gb w0 st0) : LQ e K p ok lb rb gb S0 w0 st0 w0 (.slice none 0 0) 0 :=
  ⟨[], st0, OwnK.nil _ _ _ _ _, rfl, (fun x hx => by simp at hx), Got.many0 _ _, h, Step.refl _ _⟩
/-- the elements and the state named: a reading and an append close the round -/
theorem LQ.next {xs : List α} {x : α} (h2 : xs.length = k) (h3 : ∀ x ∈ xs, ok x) (h4 : Got (manyP p k) st0 xs st) (h6 : Step (fun x => x < w0.heap.size ∧ S0 x) w0 w)
    (hg : Got p st x st') (hx : ok x) (hs : Step (fun x => x < w0.heap.size ∧ S0 x) w w'') (hl : LD lb rb gb w'' st') (ho : OwnK e K w0.heap.size (· < w0.heap.size) w'' v' (xs ++ [x])) : LQ e K p ok lb rb gb S0 w0 st0 w'' v' (k + 1) :=
  ⟨xs ++ [x], st', ho, by simp [h2], fun y hy => by
    rcases List.mem_append.1 hy with h | h
    · exact h3 y h
    · simp at h; rw [h]; exact hx, h4.snoc hg, hl, h6.trans hs⟩
end
theorem info_str : (Try.prog.info? 9).map (fun i => (i.zero, i.size, i.bytes)) = some (some (.string ⟨#[]⟩), 1, 16) := by kernel_rfl
theorem row_one (w : World) (nb : Nat) (u : Value) (h : w.cell? ⟨nb, 0, none⟩ = some u) : ∀ j x, ([u] : List Value)[j]? = some x → w.cell? ⟨nb, j, none⟩ = some x := by
  intro j x hx
  match j, hx with
  | 0, hx => simp at hx; subst hx; exact h
  | j + 1, hx => simp at hx

set_option maxHeartbeats 8000000 in
set_option maxRecDepth 100000 in
theorem ldnums (w : World) (b rb gb : Nat) (st : Option (List UInt8)) (n size : Nat) (h : LD b rb gb w st) (hs : size = 1 ∨ size = 2 ∨ size = 4 ∨ size = 8) (hn : n ≤ 65536) :
    Calls Try.prog 52 #[.pointer (some ⟨b, 0, none⟩), .int .i64 (n : Int), .int .i64 (size : Int)] w fun e w' => ∃ v, e = .returned v ∧ LQ 3 kInt (numP size) (okN size) b rb gb (· ≠ rb) w st w' v n := by
  have hbl := h.lt
  have hne := h.ne
  have hrl := h.rblt
  have hgl := h.gblt
  have H := Lib.hid h
  have HS0 : Hid (LQ 3 kInt (numP size) (okN size) b rb gb (· ≠ rb) w st w (.slice none 0 0) 0) := Lib.hid (.start h)
  clear h
  go_enter Try.func52, Try.ntmps52
  go_wp2
  go_loopw [7, 9] (fun o i wr => ∃ k : Nat, i = .int .i64 k ∧ k ≤ n ∧ LQ 3 kInt (numP size) (okN size) b rb gb (· ≠ rb) w st wr o k) (fun _ i _ => n - (intOf i).toNat)
  case atStart => exact ⟨0, rfl, Nat.zero_le _, HS0.out⟩
  case round =>
    obtain ⟨k, rfl, hk, hq⟩ := hrel
    by_cases hlt : k < n
    · obtain ⟨xs, st1, h1, h2, h3, h4, h5, h6⟩ := hq
      obtain ⟨oa, oc, rfl⟩ := h1.form
      have hc := h5.cell
      have hwr := h6.size
      have HN := Lib.hid (ldnum wr b rb gb st1 size h5 hs)
      rw [h2] at h1 ⊢
      have H1 := Lib.hid h1
      have H2 := Lib.hid h2
      have H3 := Lib.hid h3
      have H4 := Lib.hid h4
      have H6 := Lib.hid h6
      have hbr := h5.lt
      clear h1 h2 h3 h4 h5 h6
      go_wp2_with fail
      refine HN.out.mono ?_
      rintro e w2 ⟨x, st2, rfl, hg, hok, hl, hst, -⟩
      have hz2 := hst.size
      have O2 := Lib.hid (H1.out.step hst (fun y _ hy e => hy (by rw [e]; exact hrl)))
      have HG := Lib.hid hg
      have HO := Lib.hid hok
      have HL := Lib.hid (hl.alloc (.cells #[.int .i64 x] 3 (0, 0)))
      have HT := Lib.hid (hst.imp (S' := fun x => x < w.heap.size ∧ x ≠ rb) (fun _ h => h.2))
      clear hg hok hl hst HN hc
      go_wp2_with (at_builtin; refine wpList_appendK (α := Int) (K := kInt) (e := 3) (B := w.heap.size) (E := (· < w.heap.size)) 35 (.int .i64 0) 8 Try.underlying35 info_int rfl (by decide) rfl (.tmp 11) (.tmp 18) rfl k H2.out rfl (O2.out.alloc _) (fun b hb => by have hb : b < w.heap.size := hb; simp; omega) w2.heap.size x [.int .i64 x] rfl ?c1 ?c2 rfl ?c3 ?c4 ?c5 ?_)
      case c1 => exact row_one _ _ _ (by simp)
      case c2 => intro u hu; simp at hu; subst hu; rfl
      case c3 => rw [H2.out]; omega
      case c4 => rw [H2.out]; omega
      case c5 => simp; omega
      intro g c w3 hown3 hst3 _
      have hlo := (O2.out.alloc (.cells #[.int .i64 x] 3 (0, 0))).lt
      have hno := (O2.out.alloc (.cells #[.int .i64 x] 3 (0, 0))).notE
      have hS3 : Step (· < w.heap.size) (w2.alloc (.cells #[.int .i64 x] 3 (0, 0))) w3 := hst3.imp (fun y hy => ⟨by have hy : y < w.heap.size := hy; simp; omega, fun e => hno y e hy⟩)
      have Hfin : Hid (LQ 3 kInt (numP size) (okN size) b rb gb (· ≠ rb) w st w3 (.slice (some ⟨g, 0, none⟩) (k + 1) c) (k + 1)) := Lib.hid (
        LQ.next H2.out H3.out H4.out H6.out HG.out HO.out ((HT.out.trans ((Step.of_below ((Below.refl _ w2).alloc (Nat.le_refl _) (.cells #[.int .i64 x] 3 (0, 0)))).imp (fun y hy => by have := hy.1; show y < w2.heap.size; omega))).trans (hS3.imp (fun y hy => hy.1))) (HL.out.step hS3 hbl hrl hgl) hown3)
      clear hown3 hst3 hlo hno hS3 O2 HG HO HL HT H1 H2 H3 H4 H6
      go_wp2
      go_roundw
      case rel => exact ⟨k + 1, by go_num, by omega, Hfin.out⟩
      case measure => simp [intOf]; omega
    · have he : k = n := by omega
      subst he
      have Hq := Lib.hid hq
      clear hq
      go_wp2
      go_ret
      exact ⟨_, rfl, Hq.out⟩

set_option maxHeartbeats 8000000 in
set_option maxRecDepth 100000 in
theorem ldtexts (w : World) (b rb gb : Nat) (st : Option (List UInt8)) (n : Nat) (h : LD b rb gb w st) (hn : n ≤ 65536) :
    Calls Try.prog 50 #[.pointer (some ⟨b, 0, none⟩), .int .i64 (n : Int)] w fun e w' => ∃ v, e = .returned v ∧ LQ 9 kStr textP (fun x => x.length ≤ 4096) b rb gb (· ≠ rb) w st w' v n := by
  have hbl := h.lt
  have hne := h.ne
  have hrl := h.rblt
  have hgl := h.gblt
  have H := Lib.hid h
  have HS0 : Hid (LQ 9 kStr textP (fun x => x.length ≤ 4096) b rb gb (· ≠ rb) w st w (.slice none 0 0) 0) := Lib.hid (.start h)
  clear h
  go_enter Try.func50, Try.ntmps50
  go_wp2
  go_loopw [5, 7] (fun o i wr => ∃ k : Nat, i = .int .i64 k ∧ k ≤ n ∧ LQ 9 kStr textP (fun x => x.length ≤ 4096) b rb gb (· ≠ rb) w st wr o k) (fun _ i _ => n - (intOf i).toNat)
  case atStart => exact ⟨0, rfl, Nat.zero_le _, HS0.out⟩
  case round =>
    obtain ⟨k, rfl, hk, hq⟩ := hrel
    by_cases hlt : k < n
    · obtain ⟨xs, st1, h1, h2, h3, h4, h5, h6⟩ := hq
      obtain ⟨oa, oc, rfl⟩ := h1.form
      have hc := h5.cell
      have hwr := h6.size
      have HN := Lib.hid (ldtext wr b rb gb st1 h5)
      rw [h2] at h1 ⊢
      have H1 := Lib.hid h1
      have H2 := Lib.hid h2
      have H3 := Lib.hid h3
      have H4 := Lib.hid h4
      have H6 := Lib.hid h6
      have hbr := h5.lt
      clear h1 h2 h3 h4 h5 h6
      go_wp2_with fail
      refine HN.out.mono ?_
      rintro e w2 ⟨x, st2, rfl, hg, hok, hl, hst, -⟩
      have hz2 := hst.size
      have O2 := Lib.hid (H1.out.step hst (fun y _ hy e => hy (by rw [e]; exact hrl)))
      have HG := Lib.hid hg
      have HO := Lib.hid hok
      have hx4 : x.length ≤ 4096 := hok
      have HL := Lib.hid (hl.alloc (.cells #[.string ⟨x.toArray⟩] 9 (0, 0)))
      have HT := Lib.hid (hst.imp (S' := fun x => x < w.heap.size ∧ x ≠ rb) (fun _ h => h.2))
      clear hg hok hl hst HN hc
      go_wp2_with (at_builtin; refine wpList_appendK (α := List UInt8) (K := kStr) (e := 9) (B := w.heap.size) (E := (· < w.heap.size)) 25 (.string ⟨#[]⟩) 16 Try.underlying25 info_str rfl (by decide) rfl (.tmp 9) (.tmp 15) rfl k H2.out rfl (O2.out.alloc _) (fun b hb => by have hb : b < w.heap.size := hb; simp; omega) w2.heap.size x [.string ⟨x.toArray⟩] rfl ?c1 ?c2 ⟨rfl, by omega⟩ ?c3 ?c4 ?c5 ?_)
      case c1 => exact row_one _ _ _ (by simp)
      case c2 => intro u hu; simp at hu; subst hu; rfl
      case c3 => rw [H2.out]; omega
      case c4 => rw [H2.out]; omega
      case c5 => simp; omega
      intro g c w3 hown3 hst3 _
      have hlo := (O2.out.alloc (.cells #[.string ⟨x.toArray⟩] 9 (0, 0))).lt
      have hno := (O2.out.alloc (.cells #[.string ⟨x.toArray⟩] 9 (0, 0))).notE
      have hS3 : Step (· < w.heap.size) (w2.alloc (.cells #[.string ⟨x.toArray⟩] 9 (0, 0))) w3 := hst3.imp (fun y hy => ⟨by have hy : y < w.heap.size := hy; simp; omega, fun e => hno y e hy⟩)
      have Hfin : Hid (LQ 9 kStr textP (fun x => x.length ≤ 4096) b rb gb (· ≠ rb) w st w3 (.slice (some ⟨g, 0, none⟩) (k + 1) c) (k + 1)) := Lib.hid (
        LQ.next H2.out H3.out H4.out H6.out HG.out HO.out ((HT.out.trans ((Step.of_below ((Below.refl _ w2).alloc (Nat.le_refl _) (.cells #[.string ⟨x.toArray⟩] 9 (0, 0)))).imp (fun y hy => by have := hy.1; show y < w2.heap.size; omega))).trans (hS3.imp (fun y hy => hy.1))) (HL.out.step hS3 hbl hrl hgl) hown3)
      clear hown3 hst3 hlo hno hS3 O2 HG HO HL HT H1 H2 H3 H4 H6
      go_wp2
      go_roundw
      case rel => exact ⟨k + 1, by go_num, by omega, Hfin.out⟩
      case measure => simp [intOf]; omega
    · have he : k = n := by omega
      subst he
      have Hq := Lib.hid hq
      clear hq
      go_wp2
      go_ret
      exact ⟨_, rfl, Hq.out⟩

end Go.Proofs.Ytbliedldlimpgaa
