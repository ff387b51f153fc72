/- Lemmas that the claim is proved from: what calls of functions of the program come to (contracts), and plain laws. Each lemma bears its own conditions. -/
import Derived.Test.YtbliedldlimpgaaBas4
import Derived.Test.YtbliedldlimpgaaBas3
import Derived.Laws.BytesString
import Derived.Laws.BitsAllLaws
import Derived.Laws.BytesArg

namespace Go.Proofs.Ytbliedldlimpgaa
set_option linter.unusedVariables false
set_option linter.unusedSimpArgs false
open Go.RowKit

theorem Step.later {S : Nat → Prop} {w w' : World} (h : Below w.heap.size w w') (hS : ∀ x, S x → x < w.heap.size) : Step S w w' := (Step.of_below h).imp hS
theorem built_ints (w : World) (ns : List Int) (hl : ns.length ≤ 9223372036854775807) : LB kInt (fun x => x = w.heap.size) (w.alloc (.cells (ns.map (Value.int .i64)).toArray 3 (0, 0))) (.slice (some ⟨w.heap.size, 0, none⟩) ns.length ns.length) ns := by
  refine ⟨some ⟨w.heap.size, 0, none⟩, w.heap.size, 0, _, rfl, hl, fun _ => rfl, ⟨Nat.le_refl _, fun h => by cases h⟩, fun _ => rfl, fun i x hx => ⟨_, rfl, fun j u hu => ?_⟩⟩
  match j, hu with
  | 0, hu =>
    simp at hu; subst hu
    rw [Lib.cell_of_heap (heap_alloc_new w _)]
    simp [kInt, hx]
  | j + 1, hu => simp at hu
theorem built_strs (w : World) (ss : List (List UInt8)) (hl : ss.length ≤ 9223372036854775807) (hz : ∀ s ∈ ss, s.length ≤ 9223372036854775807) : LB kStr (fun x => x = w.heap.size) (w.alloc (.cells (ss.map (fun s => Value.string ⟨s.toArray⟩)).toArray 9 (0, 0))) (.slice (some ⟨w.heap.size, 0, none⟩) ss.length ss.length) ss := by
  refine ⟨some ⟨w.heap.size, 0, none⟩, w.heap.size, 0, _, rfl, hl, fun _ => rfl, ⟨Nat.le_refl _, fun h => by cases h⟩, fun _ => rfl, fun i x hx => ⟨_, ⟨rfl, hz x (List.mem_of_getElem? hx)⟩, fun j u hu => ?_⟩⟩
  match j, hu with
  | 0, hu =>
    simp at hu; subst hu
    rw [Lib.cell_of_heap (heap_alloc_new w _)]
    simp [kStr, hx]
  | j + 1, hu => simp at hu
theorem textsL_take (ss : List (List UInt8)) (k : Nat) (s : List UInt8) (hs : ss[k]? = some s) : textsL (ss.take (k + 1)) = textsL (ss.take k) ++ (digitsL 2 s.length ++ s) := by
  obtain ⟨h, rfl⟩ := List.getElem?_eq_some_iff.1 hs
  rw [textsL, List.take_succ_eq_append_getElem h, List.map_append, List.flatten_append]; simp [textsL, textL']
theorem textsL_len (ss : List (List UInt8)) (h : ∀ s ∈ ss, s.length ≤ 4096) : (textsL ss).length ≤ 4098 * ss.length := by
  induction ss with
  | nil => simp [textsL]
  | cons s ss ih =>
    have e : textsL (s :: ss) = textL' s ++ textsL ss := by simp [textsL]
    have h1 := ih (fun x hx => h x (by simp [hx]))
    have h2 := h s (by simp)
    rw [e, List.length_append, List.length_cons, textL', List.length_append, digitsL_len]
    omega
theorem numsL_one (size : Nat) (n : Int) : numsL size [n] = digitsL size n := by simp [numsL]

set_option maxHeartbeats 8000000 in
set_option maxRecDepth 100000 in
theorem wtext_any (b : Nat) (S : Nat → Prop) (w : World) (l : List UInt8) (ss : List (List UInt8)) (u : Value) (h : WB b S w l) (hu : LB kStr S w u ss) (hf : ∀ s ∈ ss, s.length ≤ 4096) (hlen : l.length + 4098 * ss.length ≤ 1000000000) :
    Calls Try.prog 35 #[.pointer (some ⟨b, 0, none⟩), u] w fun e w' => e = .returned (.tuple #[]) ∧ WB b S w' (l ++ textsL ss) ∧ Step S w w' := by
  obtain ⟨ua, ub, uoff, ucap, rfl, hum, huc, hat⟩ := hu.at
  have Hat := Lib.hid hat
  have Hf := Lib.hid hf
  have H := Lib.hid h
  have hbl := h.lt
  clear hu hat hf h
  go_enter Try.func35, Try.ntmps35
  go_wp2_with fail
  go_loopw [8] (fun i wr => ∃ k : Nat, i = .int .i64 k ∧ k ≤ ss.length ∧ WB b S wr (l ++ textsL (ss.take k)) ∧ Step S w wr) (fun i _ => ss.length - (intOf i).toNat)
  case atStart => exact ⟨0, rfl, Nat.zero_le _, by have := H.out; simpa [textsL] using this, Step.refl _ _⟩
  case round =>
    obtain ⟨k, rfl, hk, hw, hst⟩ := hrel
    have Hw := Lib.hid hw
    have Hst := Lib.hid hst
    have hbr := hw.lt
    by_cases hlt : k < ss.length
    · obtain rfl := Hat.out.addr (by omega)
      obtain ⟨p, hp⟩ : ∃ p, ss[k]? = some p := ⟨_, List.getElem?_eq_getElem hlt⟩
      obtain ⟨g0, hpz⟩ := Hat.out.str1 k p hp
      have g := (Hst.out.cell (p := ⟨ub, uoff + k, none⟩) (Hat.out.inS (by omega))).trans g0
      have hpl := Hf.out p (List.mem_of_getElem? hp)
      have hsz := size_mk p
      have Htt := Lib.hid (textsL_take ss k p hp)
      have htl := textsL_len (ss.take k) (fun s hs => Hf.out s (List.mem_of_mem_take hs))
      rw [List.length_take, Nat.min_eq_left hk] at htl
      have hm : (p.length : Int).tmod 4097 = (p.length : Int) := by rw [Int.tmod_eq_emod_of_nonneg (by omega)]; omega
      have hng : ¬ 4096 < p.length := by omega
      have hcv := fun w => run_conv w p
      have HWa := Lib.hid (Hw.out.alloc (.cells #[.int .i64 (p.length : Int)] 3 (0, 0)))
      have HUa := Lib.hid ((built_ints wr [(p.length : Int)] (by simp)).imp (S' := fun x => S x ∨ x = wr.heap.size) (fun x hx => Or.inr hx))
      have HSa := Lib.hid (Step.later ((Below.refl _ wr).alloc (Nat.le_refl _) (.cells #[.int .i64 (p.length : Int)] 3 (0, 0))) (S := S) (fun x hx => Hw.out.inS hx))
      have HN := Lib.hid (wnum_any b (fun x => S x ∨ x = wr.heap.size) (wr.alloc (.cells #[.int .i64 (p.length : Int)] 3 (0, 0))) _ 2 [(p.length : Int)] _ HWa.out HUa.out (by decide) (fun n hn => by simp at hn; subst hn; exact okLen_N (by decide) (by unfold okLen; omega)) (fun n hn => by simp at hn; subst hn; omega) (by simp only [List.length_append, List.length_cons, List.length_nil]; omega))
      rw [numsL_one] at HN
      clear hp hw hst g0
      go_wp2_with fail
      refine HN.out.mono ?_
      rintro e w3 ⟨rfl, hw3, hs3⟩
      have Hw3 := Lib.hid (hw3.less (S' := S) (fun x hx => Or.inl hx))
      have Hs3 := Lib.hid ((Hst.out.trans HSa.out).trans (hs3.imp (S' := S) (fun x hx => Or.inl hx)))
      have hdl := digitsL_len 2 (p.length : Int)
      have HR := Lib.hid (wraw_any b (fun x => S x ∨ (w3.heap.size ≤ x ∧ x < (convW w3 p).heap.size)) (convW w3 p) _ p _ (Hw3.out.later (convW_below w3 p)) ((convW_lb w3 p hpz).imp (fun x hx => Or.inr (by have := convW_size w3 p; subst hx; omega))) (by simp only [List.length_append]; omega))
      clear hw3 hs3 HN HUa HWa
      go_wp2_with fail
      refine HR.out.mono ?_
      rintro e w4 ⟨rfl, hw4, hs4⟩
      have Hw4 := Lib.hid (hw4.less (S' := S) (fun x hx => Or.inl hx))
      have Hs4 := Lib.hid ((Hs3.out.trans (Step.later (convW_below w3 p) (fun x hx => Hw3.out.inS hx))).trans (hs4.imp (S' := S) (fun x hx => Or.inl hx)))
      clear hw4 hs4 HR
      go_wp2
      go_roundw
      case rel => exact ⟨k + 1, by go_num, by omega, by rw [Htt.out, ← List.append_assoc, ← List.append_assoc]; exact Hw4.out, Hs4.out⟩
      case measure => simp [intOf]; omega
    · have Hall : Hid (ss.take k = ss) := Lib.hid (List.take_of_length_le (by omega))
      rw [Hall.out] at hw
      have Hw2 := Lib.hid hw
      clear hw hst
      go_wp2
      go_end0
      exact ⟨rfl, Hw2.out, Hst.out⟩

set_option maxHeartbeats 4000000 in
set_option maxRecDepth 100000 in
theorem wblock_any (b : Nat) (S : Nat → Prop) (w : World) (l m : List UInt8) (u : Value) (h : WB b S w l) (hu : LB kByte S w u m) (hm : m.length ≤ 1048576) (hlen : l.length + 4 + m.length ≤ 1000000000) :
    Calls Try.prog 37 #[.pointer (some ⟨b, 0, none⟩), u] w fun e w' => e = .returned (.tuple #[]) ∧ WB b S w' (l ++ blockL m) ∧ Step S w w' := by
  obtain ⟨ua, uc, rfl⟩ := hu.form
  have hng : ¬ 1048576 < m.length := by omega
  have HWa := Lib.hid (h.alloc (.cells #[.int .i64 (m.length : Int)] 3 (0, 0)))
  have HUa := Lib.hid ((built_ints w [(m.length : Int)] (by simp)).imp (S' := fun x => S x ∨ x = w.heap.size) (fun x hx => Or.inr hx))
  have HSa := Lib.hid (Step.later ((Below.refl _ w).alloc (Nat.le_refl _) (.cells #[.int .i64 (m.length : Int)] 3 (0, 0))) (S := S) (fun x hx => h.inS hx))
  have HN := Lib.hid (wnum_any b (fun x => S x ∨ x = w.heap.size) (w.alloc (.cells #[.int .i64 (m.length : Int)] 3 (0, 0))) _ 4 [(m.length : Int)] _ HWa.out HUa.out (by decide) (fun n hn => by simp at hn; subst hn; exact okLen_N (by decide) (by unfold okLen; omega)) (fun n hn => by simp at hn; subst hn; omega) (by simp only [List.length_cons, List.length_nil]; omega))
  rw [numsL_one] at HN
  have hdl := digitsL_len 4 (m.length : Int)
  have HU := Lib.hid hu
  have hbl := h.lt
  clear h hu
  go_enter Try.func37, Try.ntmps37
  go_wp2_with fail
  refine HN.out.mono ?_
  rintro e w3 ⟨rfl, hw3, hs3⟩
  have Hw3 := Lib.hid (hw3.less (S' := S) (fun x hx => Or.inl hx))
  have Hs3 := Lib.hid (HSa.out.trans (hs3.imp (S' := S) (fun x hx => Or.inl hx)))
  have HR := Lib.hid (wraw_any b S w3 _ m _ Hw3.out (HU.out.step Hs3.out) (by simp only [List.length_append]; omega))
  clear hw3 hs3 HN HUa HWa
  go_wp2_with fail
  refine HR.out.mono ?_
  rintro e w4 ⟨rfl, hw4, hs4⟩
  have Hw4 := Lib.hid hw4
  have Hs4 := Lib.hid (Hs3.out.trans hs4)
  clear hw4 hs4 HR
  go_wp2
  go_end0
  exact ⟨rfl, by rw [blockL, ← List.append_assoc]; exact Hw4.out, Hs4.out⟩

set_option maxHeartbeats 1000000 in
theorem wnew_any (w : World) : Calls Try.prog 34 #[] w fun e w' => e = .returned (.pointer (some ⟨w.heap.size, 0, none⟩)) ∧ WB w.heap.size (· < w.heap.size) w' [] ∧ Below w.heap.size w w' ∧ w'.heap.size = w.heap.size + 1 := by
  have h0 := heap_alloc_new w (.cells #[.int .i64 0, .slice none 0 0] 130 (0, 0))
  have B0 := (Below.refl w.heap.size w).alloc (Nat.le_refl _) (.cells #[.int .i64 0, .slice none 0 0] 130 (0, 0))
  have hz : (w.alloc (.cells #[.int .i64 0, .slice none 0 0] 130 (0, 0))).heap.size = w.heap.size + 1 := by simp
  have Hf : Hid (WB w.heap.size (· < w.heap.size) (w.alloc (.cells #[.int .i64 0, .slice none 0 0] 130 (0, 0))) []) := Lib.hid ⟨_, h0, OwnK.nil _ _ _ _ _, fun x hx => ⟨by rw [hz]; have : x < w.heap.size := hx; omega, by have : x < w.heap.size := hx; omega, by simp [Value.ownBlock]⟩⟩
  have HB := Lib.hid B0
  have HZ := Lib.hid hz
  clear h0 B0 hz
  go_enter Try.func34, Try.ntmps34
  go_wp2
  go_ret
  exact ⟨rfl, Hf.out, HB.out, HZ.out⟩

set_option maxHeartbeats 4000000 in
set_option maxRecDepth 100000 in
theorem wbytes_any (b : Nat) (S : Nat → Prop) (w : World) (l : List UInt8) (h : WB b S w l) (hlen : l.length ≤ 1000000000) :
    Calls Try.prog 39 #[.pointer (some ⟨b, 0, none⟩)] w fun e w' => ∃ v, e = .returned (.tuple #[v, .int .i64 0]) ∧ OwnK 5 kByte w.heap.size (fun _ => False) w' v l ∧ Below w.heap.size w w' := by
  have hc0 := h.sound
  have hbl := h.lt
  obtain ⟨v, hv1, hv2, hv3⟩ := h.ex
  have hc1 : w.cell? ⟨b, 1, none⟩ = some v := by rw [Lib.cell_of_heap hv1]; rfl
  have Hlb := Lib.hid hv2.lb
  obtain ⟨va, vc, rfl⟩ := hv2.form
  clear h hv1 hv2 hv3
  go_enter Try.func39, Try.ntmps39
  go_wp2_with fail
  refine (sound_any _ b 0 hc0).mono ?_
  rintro e w3 ⟨rfl, rfl⟩
  go_wp2_with (at_builtin; refine wpList_appendsK (B := w3.heap.size) (E := fun _ => False) (l := []) plain_byte 36 (.int .u8 0) 1 Try.underlying36 info_byte rfl rfl (.const (.slice none 0 0)) (.tmp 17) rfl rfl (OwnK.nil _ _ _ _ _) (fun x hx => hx.elim) _ l rfl Hlb.out ?c1 ?c2 (Nat.le_refl _) ?_)
  case c1 => simp; omega
  case c2 => simp; omega
  intro v' w4 hown hst hne
  have hb4 : Below w3.heap.size w3 w4 := (hst.imp (S' := (· < w3.heap.size)) (fun x hx => ⟨hx, by simp [Value.ownBlock]⟩)).below
  have Hown := Lib.hid hown
  have Hb4 := Lib.hid hb4
  clear hown hst hne hb4 hc0 hc1 Hlb
  go_wp2
  go_ret2
  exact ⟨v', rfl, Hown.out, Hb4.out⟩

end Go.Proofs.Ytbliedldlimpgaa

namespace Go.Proofs.Ytbliedldlimpgaa
set_option linter.unusedVariables false
set_option linter.unusedSimpArgs false
open Go.RowKit

/-- a reader at block b, its bytes in block gb: what is left, or none: it has met a fault -/
structure RB (b gb : Nat) (w : World) (st : Option (List UInt8)) : Prop where
  ex : ∃ f v r, w.heap[b]? = some (.cells #[.int .i64 f, v] 136 (0, 0)) ∧ LB kByte (fun x => x = gb) w v r ∧ gb ≠ b ∧ gb < w.heap.size ∧ (match st with | some l => f = 0 ∧ r = l | none => f ≠ 0)
section
variable {b gb : Nat} {w w' : World} {st : Option (List UInt8)}
theorem RB.lt (h : RB b gb w st) : b < w.heap.size := by
  obtain ⟨f, v, r, h1, _⟩ := h.ex
  rcases Nat.lt_or_ge b w.heap.size with h' | h'
  · exact h'
  · rw [Array.getElem?_eq_none h'] at h1; cases h1
theorem RB.step {S : Nat → Prop} (h : RB b gb w st) (hs : Step S w w') (hb : S b) (hg : S gb) : RB b gb w' st := by
  obtain ⟨f, v, r, h1, h2, h3, h4, h5⟩ := h.ex
  exact ⟨f, v, r, (hs.block b hb).trans h1, h2.keeps (fun x hx => by have hx : x = gb := hx; subst hx; exact hs.block _ hg), h3, Nat.lt_of_lt_of_le h4 hs.size, h5⟩
theorem RB.below (h : RB b gb w st) (hb : Below w.heap.size w w') : RB b gb w' st := by
  have h1 := h.lt
  obtain ⟨f, v, r, _, _, _, h4, _⟩ := h.ex
  exact h.step (.of_below hb) h1 h4
theorem RB.alloc (h : RB b gb w st) (o : Obj) : RB b gb (w.alloc o) st := h.below ((Below.refl _ w).alloc (Nat.le_refl _) o)
theorem RB.drew (h : RB b gb w st) : RB b gb w.drew st := h.below ((Below.refl _ w).drew)
end

set_option maxHeartbeats 2000000 in
theorem fail_any (w : World) (b gb : Nat) (e : Int) (st : Option (List UInt8)) (he : e ≠ 0) (h : RB b gb w st) :
    Calls Try.prog 81 #[.pointer (some ⟨b, 0, none⟩), .int .i64 e] w fun e w' => e = .returned (.tuple #[]) ∧ RB b gb w' none ∧ Step (fun x => x ≠ b) w w' ∧ w'.heap.size = w.heap.size := by
  obtain ⟨f, v, r, h1, h2, h3, h4, h5⟩ := h.ex
  have c0 : w.cell? ⟨b, 0, none⟩ = some (.int .i64 f) := by rw [Lib.cell_of_heap h1]; rfl
  have f0 : w.frozen? ⟨b, 0, none⟩ = false := Lib.frozen_of_heap h1 0
  have hb := h.lt
  have H1 := Lib.hid h1
  have H2 := Lib.hid h2
  by_cases hf : f = 0
  · have hd : (f == 0) = true := by rw [beq_iff_eq]; exact hf
    have Hfin : Hid (RB b gb (w.setCell ⟨b, 0, none⟩ (.int .i64 e)) none) := Lib.hid ⟨e, v, r, by simp [World.setCell, Array.getElem?_modify, h1], h2.keeps (fun x hx => by have hx : x = gb := hx; subst hx; exact Below.heap_setCell _ _ _ _ h3), h3, by simpa using h4, he⟩
    have HS : Hid (Step (fun x => x ≠ b) w (w.setCell ⟨b, 0, none⟩ (.int .i64 e))) := Lib.hid ((Step.refl _ w).setCell (p := ⟨b, 0, none⟩) (fun h => h rfl) _)
    clear h h1 h2 h5 hf
    go_enter Try.func81, Try.ntmps81
    go_wp2
    go_end0
    exact ⟨rfl, Hfin.out, HS.out, by simp⟩
  · have hd : (f == 0) = false := by rw [beq_eq_false_iff_ne]; exact hf
    have Hfin : Hid (RB b gb w none) := Lib.hid ⟨f, v, r, h1, h2, h3, h4, hf⟩
    clear h h1 h2 h5 hf
    go_enter Try.func81, Try.ntmps81
    go_wp2
    go_end0
    exact ⟨rfl, Hfin.out, Step.refl _ _, rfl⟩

/-- what a cut of n bytes leaves -/
def cutS (st : Option (List UInt8)) (n : Nat) : Option (List UInt8) := match st with
  | some l => if n ≤ l.length then some (l.drop n) else none
  | none => none
def cutL (st : Option (List UInt8)) (n : Nat) : List UInt8 := match st with
  | some l => if n ≤ l.length then l.take n else []
  | none => []

end Go.Proofs.Ytbliedldlimpgaa

namespace Go.Proofs.Ytbliedldlimpgaa
set_option linter.unusedVariables false
set_option linter.unusedSimpArgs false
open Go.RowKit

theorem LB.take_byte {S : Nat → Prop} {w : World} {a : Option Addr} {cap : Nat} {l : List UInt8} (h : LB kByte S w (.slice a l.length cap) l) (n : Nat) (hn : n ≤ l.length) : LB kByte S w (.slice a n cap) (l.take n) := by
  obtain ⟨a', b, off, cap', hv, hm, ha, hc, hS, hr⟩ := h
  cases hv
  have hl : (l.take n).length = n := by rw [List.length_take]; omega
  refine ⟨a, b, off, cap, by rw [hl], by omega, fun h0 => ha (by omega), ⟨by omega, hc.2⟩, fun h0 => hS (by omega), fun i x hx => ?_⟩
  rw [List.getElem?_take] at hx
  by_cases hi : i < n
  · rw [if_pos hi] at hx; exact hr i x hx
  · rw [if_neg hi] at hx; cases hx
theorem LB.drop_byte {S : Nat → Prop} {w : World} {a : Option Addr} {cap : Nat} {l : List UInt8} (h : LB kByte S w (.slice a l.length cap) l) (n : Nat) (hn : n ≤ l.length) : LB kByte S w (.slice (if cap = n then a else a.map (·.add n)) (l.length - n) (cap - n)) (l.drop n) := by
  obtain ⟨a', b, off, cap', hv, hm, ha, hc, hS, hr⟩ := h
  cases hv
  have hl : (l.drop n).length = l.length - n := List.length_drop
  refine ⟨_, b, off + n, cap - n, by rw [hl], by omega, fun h0 => ?_, ⟨by omega, fun h0 => ?_⟩, fun h0 => hS (by omega), fun i x hx => ?_⟩
  · rw [hl] at h0
    rw [if_neg (by omega), ha (by omega)]
    simp [Addr.add_lit]
  · by_cases hcn : cap = n
    · omega
    · rw [if_neg hcn] at h0
      have : a = none := by cases a <;> simp at h0 ⊢
      have := hc.2 this
      omega
  · rw [List.getElem?_drop] at hx
    obtain ⟨row, r1, r2⟩ := hr (n + i) x hx
    have hk : kByte.k = 1 := rfl
    refine ⟨row, r1, fun j u hu => ?_⟩
    have := r2 j u hu
    rw [hk] at this ⊢
    rw [show off + n + i * 1 + j = off + (n + i) * 1 + j by omega]
    exact this
theorem RB.first {b gb : Nat} {w : World} {st : Option (List UInt8)} (h : RB b gb w st) : ∃ f, w.cell? ⟨b, 0, none⟩ = some (.int .i64 f) ∧ (f == 0) = st.isSome := by
  obtain ⟨f, v, r, h1, _, _, _, h5⟩ := h.ex
  refine ⟨f, by rw [Lib.cell_of_heap h1]; rfl, ?_⟩
  cases st with
  | none => rw [beq_eq_false_iff_ne.2 h5]; rfl
  | some l => rw [h5.1]; rfl

theorem RB.put {b gb : Nat} {w : World} {f : Int} {v v' : Value} {r : List UInt8} {st : Option (List UInt8)} (h1 : w.heap[b]? = some (.cells #[.int .i64 f, v] 136 (0, 0))) (h2 : LB kByte (fun x => x = gb) w v' r) (h3 : gb ≠ b) (h4 : gb < w.heap.size)
    (h5 : match st with | some l => f = 0 ∧ r = l | none => f ≠ 0) : RB b gb (w.setCell ⟨b, 1, none⟩ v') st :=
  ⟨f, v', r, by simp [World.setCell, Array.getElem?_modify, h1], h2.keeps (fun x hx => by have hx : x = gb := hx; subst hx; exact Below.heap_setCell _ _ _ _ h3), h3, by simpa using h4, h5⟩
theorem setCell_step (w : World) (b k : Nat) (v : Value) : Step (fun x => x ≠ b) w (w.setCell ⟨b, k, none⟩ v) := (Step.refl _ w).setCell (p := ⟨b, k, none⟩) (fun h => h rfl) _

set_option maxHeartbeats 8000000 in
set_option maxRecDepth 100000 in
theorem rcut_any (w : World) (b gb : Nat) (st : Option (List UInt8)) (n : Nat) (h : RB b gb w st) (hn : n ≤ 9223372036854775807) :
    Calls Try.prog 90 #[.pointer (some ⟨b, 0, none⟩), .int .i64 (n : Int)] w fun e w' => ∃ v, e = .returned v ∧ LB kByte (fun x => x = gb) w' v (cutL st n) ∧ RB b gb w' (cutS st n) ∧ Step (fun x => x ≠ b) w w' ∧ w'.heap.size = w.heap.size := by
  obtain ⟨f, hc0, hf⟩ := h.first
  have hbl := h.lt
  have HS := Lib.hid (sound_any w b f hc0)
  rw [hf] at HS
  cases st with
  | none =>
    have H := Lib.hid h
    clear h
    go_enter Try.func90, Try.ntmps90
    go_wp2_with fail
    refine HS.out.mono ?_
    rintro e w2 ⟨rfl, rfl⟩
    go_wp2_with fail
    refine HS.out.mono ?_
    rintro e w3 ⟨rfl, rfl⟩
    go_wp2
    go_ret
    exact ⟨_, rfl, LB.nil _ _ _, H.out, Step.refl _ _, rfl⟩
  | some l =>
    obtain ⟨f', v, r, h1, h2, h3, h4, h5, h6⟩ := h.ex
    subst h5 h6
    obtain ⟨va, vc, rfl⟩ := h2.form
    have hrm := h2.max
    have hc1 : w.cell? ⟨b, 1, none⟩ = some (.slice va r.length vc) := by rw [Lib.cell_of_heap h1]; rfl
    have fx : w.frozen? ⟨b, 1, none⟩ = false := Lib.frozen_of_heap h1 1
    have hcap : r.length ≤ vc := by
      obtain ⟨a', b', off', cap', hv, _, _, hc, _⟩ := h2
      cases hv; exact hc.1
    by_cases hlt : n ≤ r.length
    · have hng : decide ((r.length : Int) < (n : Int)) = false := by rw [decide_eq_false_iff_not]; omega
      have H1 := Lib.hid h1
      have H3 := Lib.hid (h2.take_byte n hlt)
      have H4' := h2.drop_byte n hlt
      have Hcl : Hid (cutL (some r) n = r.take n) := Lib.hid (by rw [cutL, if_pos hlt])
      have Hcs : Hid (cutS (some r) n = some (r.drop n)) := Lib.hid (by rw [cutS, if_pos hlt])
      clear h h1 h2
      by_cases hvn : vc = n
      · subst hvn
        rw [if_pos rfl, Nat.sub_self, show r.length - vc = 0 by omega] at H4'
        have H4 := Lib.hid H4'
        clear H4'
        go_enter Try.func90, Try.ntmps90
        go_wp2_with fail
        refine HS.out.mono ?_
        rintro e w2 ⟨rfl, rfl⟩
        go_wp2_with fail
        refine HS.out.mono ?_
        rintro e w3 ⟨rfl, rfl⟩
        go_wp2
        go_ret
        exact ⟨_, rfl, by rw [Hcl.out]; exact (H3.out.keeps (fun x hx => by have hx : x = gb := hx; subst hx; exact Below.heap_setCell _ _ _ _ h3)), by rw [Hcs.out]; exact RB.put H1.out H4.out h3 h4 ⟨rfl, rfl⟩, setCell_step _ _ _ _, by simp⟩
      · rw [if_neg hvn] at H4'
        have H4 := Lib.hid H4'
        clear H4'
        go_enter Try.func90, Try.ntmps90
        go_wp2_with fail
        refine HS.out.mono ?_
        rintro e w2 ⟨rfl, rfl⟩
        go_wp2_with fail
        refine HS.out.mono ?_
        rintro e w3 ⟨rfl, rfl⟩
        go_wp2
        go_ret
        exact ⟨_, rfl, by rw [Hcl.out]; exact (H3.out.keeps (fun x hx => by have hx : x = gb := hx; subst hx; exact Below.heap_setCell _ _ _ _ h3)), by rw [Hcs.out]; exact RB.put H1.out H4.out h3 h4 ⟨rfl, rfl⟩, setCell_step _ _ _ _, by simp⟩
    · have hng : decide ((r.length : Int) < (n : Int)) = true := by rw [decide_eq_true_eq]; omega
      have HF := Lib.hid (fail_any w b gb 11 (some r) (by decide) h)
      have Hcl : Hid (cutL (some r) n = []) := Lib.hid (by rw [cutL, if_neg hlt])
      have Hcs : Hid (cutS (some r) n = none) := Lib.hid (by rw [cutS, if_neg hlt])
      clear h h1 h2 fx
      go_enter Try.func90, Try.ntmps90
      go_wp2_with fail
      refine HS.out.mono ?_
      rintro e w2 ⟨rfl, rfl⟩
      go_wp2_with fail
      refine HF.out.mono ?_
      rintro e w3 ⟨rfl, hr3, hs3, hz3⟩
      obtain ⟨f3, hc3, hf3⟩ := hr3.first
      have HS3 := Lib.hid (sound_any w3 b f3 hc3)
      rw [hf3] at HS3
      have Hr3 := Lib.hid hr3
      have Hs3 := Lib.hid hs3
      have Hz3 := Lib.hid hz3
      clear hr3 hs3 hz3 hc1 hc0 HF HS
      have hbl3 := World.block_lt_of_cell? _ _ hc3
      go_wp2_with fail
      refine HS3.out.mono ?_
      rintro e w4 ⟨rfl, rfl⟩
      go_wp2
      go_ret
      exact ⟨_, rfl, by rw [Hcl.out]; exact LB.nil _ _ _, by rw [Hcs.out]; exact Hr3.out, Hs3.out, Hz3.out⟩

end Go.Proofs.Ytbliedldlimpgaa

namespace Go.Proofs.Ytbliedldlimpgaa
set_option linter.unusedVariables false
set_option linter.unusedSimpArgs false
open Go.RowKit

/-- a number that a reader answers, and what is left -/
def numS (st : Option (List UInt8)) (size : Nat) : Int × Option (List UInt8) := match st with
  | none => (0, none)
  | some l => match numP size l with
    | none => (0, none)
    | some (n, t) => (n, some t)
theorem valL_snoc : ∀ (l : List UInt8) (c : UInt8), valL (l ++ [c]) = valL l + 256 ^ l.length * c.toNat
  | [], c => by simp [valL]
  | d :: l, c => by
    rw [List.cons_append, valL, valL_snoc l c, valL, List.length_cons, Nat.pow_succ, Nat.mul_add, ← Nat.mul_assoc, Nat.mul_comm (256 ^ l.length) 256]; omega
theorem numS_eq (st : Option (List UInt8)) (size : Nat) (hs : size = 1 ∨ size = 2 ∨ size = 4 ∨ size = 8) : numS st size = (IntKind.i64.wrap (valL (cutL st size) : Int), cutS st size) := by
  have hw : ∀ n : Nat, n < 4294967296 → IntKind.i64.wrap (n : Int) = (n : Int) := fun n h => by rw [IntKind.wrap_i64]; omega
  cases st with
  | none => simp [numS, cutL, cutS, valL, IntKind.wrap_i64]
  | some l =>
    unfold numS numP cutL cutS
    by_cases hl : size ≤ l.length
    · simp only [hl, if_true]
      have hlen : (l.take size).length = size := by rw [List.length_take]; omega
      have hv := valL_lt (l.take size)
      rw [hlen] at hv
      by_cases h8 : size = 8
      · subst h8
        rw [if_pos rfl]
        have : (256 : Nat) ^ 8 = 18446744073709551616 := by decide
        congr 1
        rw [IntKind.wrap_i64]
        unfold sgnL
        split <;> omega
      · rw [if_neg h8, hw _ (by
          have p1 : (256 : Nat) ^ 1 = 256 := by decide
          have p2 : (256 : Nat) ^ 2 = 65536 := by decide
          have p4 : (256 : Nat) ^ 4 = 4294967296 := by decide
          rcases hs with rfl | rfl | rfl | rfl <;> omega)]
    · simp [hl, valL, IntKind.wrap_i64]
theorem wrap64_i (x : Int) : wrap64 x = IntKind.i64.wrap x := by rw [IntKind.wrap_i64]; unfold wrap64; rfl
theorem or_step (a c i : Nat) (hi : i < 8) (ha : a < 256 ^ i) (hc : c < 256) : bits .or .i64 (IntKind.i64.wrap (a : Int)) (IntKind.i64.wrap ((c : Int) * 2 ^ (8 * i))) = IntKind.i64.wrap ((a + 256 ^ i * c : Nat) : Int) := by
  have hp : (256 : Nat) ^ i = 2 ^ (8 * i) := by rw [Nat.pow_mul]
  have hle : 256 ^ i ≤ 72057594037927936 := Nat.le_trans (Nat.pow_le_pow_right (by decide) (show i ≤ 7 by omega)) (by decide)
  have hprod : 256 ^ i * c ≤ 72057594037927936 * 255 := Nat.mul_le_mul hle (by omega)
  have ewrap : ∀ m : Nat, m < 18446744073709551616 → (BitVec.ofInt 64 (IntKind.i64.wrap (m : Int))).toNat = m := fun m hm => by
    rw [BitVec.toNat_ofInt, IntKind.wrap_i64]
    have : (2 : Nat) ^ 64 = 18446744073709551616 := by decide
    omega
  have e2 : ((c : Int) * 2 ^ (8 * i)) = ((256 ^ i * c : Nat) : Int) := by rw [hp, Int.natCast_mul, Int.natCast_pow, Int.mul_comm]; rfl
  rw [e2]
  show IntKind.i64.wrap ((BitVec.ofInt 64 (IntKind.i64.wrap (a : Int)) ||| BitVec.ofInt 64 (IntKind.i64.wrap ((256 ^ i * c : Nat) : Int))).toNat : Int) = _
  rw [BitVec.toNat_or, ewrap _ (by omega), ewrap _ (by omega), Nat.or_comm, nat_join (8 * i) (256 ^ i * c) a (by rw [hp]; exact Nat.mul_mod_right _ _) (by rw [← hp]; exact ha), Nat.add_comm]

set_option maxHeartbeats 8000000 in
set_option maxRecDepth 100000 in
theorem rnum_any (w : World) (b gb : Nat) (st : Option (List UInt8)) (size : Nat) (h : RB b gb w st) (hs : size = 1 ∨ size = 2 ∨ size = 4 ∨ size = 8) :
    Calls Try.prog 48 #[.pointer (some ⟨b, 0, none⟩), .int .i64 (size : Int)] w fun e w' => e = .returned (.int .i64 (numS st size).1) ∧ RB b gb w' (numS st size).2 ∧ Step (fun x => x ≠ b) w w' ∧ w'.heap.size = w.heap.size := by
  rw [numS_eq st size hs]
  have hpl : (cutL st size).length ≤ 8 := by
    cases st with
    | none => simp [cutL]
    | some l =>
      unfold cutL; dsimp only
      by_cases h : size ≤ l.length
      · rw [if_pos h, List.length_take]; omega
      · rw [if_neg h]; simp
  have HC := Lib.hid (rcut_any w b gb st size h (by omega))
  have HZ := Lib.hid (sized_any w size hs)
  have hs8 : 1 ≤ size ∧ size ≤ 8 := by omega
  have hbl := h.lt
  clear h hs
  generalize cutL st size = p at *
  generalize cutS st size = st' at *
  go_enter Try.func48, Try.ntmps48
  go_wp2_with fail
  refine HZ.out.mono ?_
  rintro e w2 ⟨rfl, rfl⟩
  go_wp2_with fail
  refine HC.out.mono ?_
  rintro e w3 ⟨v, rfl, hv, hr3, hs3, hz3⟩
  obtain ⟨va, vb, voff, vcap, rfl, hvm, hvc, hat⟩ := hv.at
  have Hat := Lib.hid hat
  have Hr3 := Lib.hid hr3
  have Hs3 := Lib.hid hs3
  have Hz3 := Lib.hid hz3
  clear hv hat hr3 hs3 hz3 HC HZ
  go_wp2_with fail
  go_loop [5, 6, 7, 19] (fun n _ _ i => ∃ k : Nat, k ≤ p.length ∧ i = .int .i64 k ∧ n = .int .i64 (IntKind.i64.wrap (valL (p.take k) : Int))) (fun _ _ _ i => p.length - (intOf i).toNat)
  case atStart => exact ⟨0, Nat.zero_le _, rfl, rfl⟩
  case round =>
    obtain ⟨k, hk, rfl, rfl⟩ := hrel
    by_cases hlt : k < p.length
    · obtain rfl := Hat.out.addr (by omega)
      obtain ⟨c, hc⟩ : ∃ c, p[k]? = some c := ⟨_, List.getElem?_eq_getElem hlt⟩
      have g := Hat.out.byte1 k c hc
      have hkl : (p.take k).length = k := by rw [List.length_take]; omega
      have hvl := valL_lt (p.take k)
      rw [hkl] at hvl
      have hstep : bits .or .i64 (IntKind.i64.wrap (valL (p.take k) : Int)) (IntKind.i64.wrap ((c.toNat : Int) * 2 ^ (8 * k))) = IntKind.i64.wrap (valL (p.take (k + 1)) : Int) := by
        obtain ⟨h', rfl⟩ := List.getElem?_eq_some_iff.1 hc
        rw [List.take_succ_eq_append_getElem h', valL_snoc, hkl]
        exact or_step _ _ k (by omega) hvl p[k].toNat_lt
      rw [← wrap64_i, ← wrap64_i] at hstep
      have hc256 := c.toNat_lt
      have Hstep := Lib.hid hstep
      clear hstep hc
      go_wp2_with fail
      go_round
      case rel => exact ⟨k + 1, by omega, by go_num, by rw [← Hstep.out]⟩
      case measure => simp [intOf]; omega
    · have He : Hid (p.take k = p) := Lib.hid (List.take_of_length_le (by omega))
      rw [He.out]
      go_wp2
      go_ret
      exact ⟨rfl, Hr3.out, Hs3.out, Hz3.out⟩

end Go.Proofs.Ytbliedldlimpgaa

namespace Go.Proofs.Ytbliedldlimpgaa
set_option linter.unusedVariables false
set_option linter.unusedSimpArgs false
open Go.RowKit

/-- a slice of bytes as a text -/
theorem run_str {S : Nat → Prop} {w : World} {v : Value} {l : List UInt8} (h : LB kByte S w v l) : (Go.convert 36 9 v).run Try.prog w = Result.ok (.string ⟨l.toArray⟩) w := by
  obtain ⟨a, b, off, cap, hv, hm, ha, hc, hS, hr⟩ := h
  subst hv
  cases a with
  | none =>
    have : l = [] := by
      cases l with
      | nil => rfl
      | cons y m => exact absurd (ha (by simp)) (by simp)
    subst this
    exact run_convert_bytes_nil w 36 5 Try.underlying36 Try.underlying5 _ _ 9 Try.underlying9
  | some ad =>
    have hl : (loadCells ad l.length).run Try.prog w = .ok ((l.map fun c => (c.toNat : Int)).map (Value.int .u8)).toArray w := by
      have := run_loadCells_list (P := Try.prog) w ad ((l.map fun c => (c.toNat : Int)).map (Value.int .u8)) (fun j u hj => by
        rw [List.getElem?_map, List.getElem?_map] at hj
        cases hc' : l[j]? with
        | none => rw [hc'] at hj; simp at hj
        | some c =>
          rw [hc'] at hj
          simp at hj
          subst hj
          have hl0 : 0 < l.length := by have := (List.getElem?_eq_some_iff.1 hc').1; omega
          obtain rfl : ad = ⟨b, off, none⟩ := by have := ha hl0; simpa using this
          obtain ⟨row, r1, r2⟩ := hr j c hc'
          have := r2 0 (.int .u8 c.toNat) (by rw [r1]; rfl)
          have hk : kByte.k = 1 := rfl
          rw [hk] at this
          simpa [Addr.add_lit] using this)
      simpa using this
    rw [run_convert_bytes_string w 36 9 5 _ _ cap Try.underlying36 Try.underlying5 Try.underlying9, run_bytesToString w ad l.length cap _ hl, foldl_push_bytes]
    have e : (l.map fun c => (c.toNat : Int)).map (fun n => UInt8.ofNat n.toNat) = l := by
      rw [List.map_map]
      have : ((fun n : Int => UInt8.ofNat n.toNat) ∘ fun c : UInt8 => (c.toNat : Int)) = id := by funext c; simp
      rw [this, List.map_id]
    rw [e]
    simp [ByteArray.empty, ByteArray.emptyWithCapacity]
    rfl

/-- bytes that a reader answers, and what is left -/
def part0 (st : Option (List UInt8)) (size most : Nat) : Option (List UInt8) := if (most : Int) < (numS st size).1 then none else (numS st size).2
def partS (st : Option (List UInt8)) (size most : Nat) : List UInt8 × Option (List UInt8) := (cutL (part0 st size most) (numS st size).1.toNat, cutS (part0 st size most) (numS st size).1.toNat)
theorem numS_none (size : Nat) : numS none size = (0, none) := rfl
theorem numS_bad {l : List UInt8} {size : Nat} (h : numP size l = none) : numS (some l) size = (0, none) := by simp only [numS, h]
theorem numS_good {l t : List UInt8} {size : Nat} {n : Int} (h : numP size l = some (n, t)) : numS (some l) size = (n, some t) := by simp only [numS, h]
theorem numS_range (st : Option (List UInt8)) (size : Nat) (hs : size = 1 ∨ size = 2 ∨ size = 4) : 0 ≤ (numS st size).1 ∧ (numS st size).1 < 4294967296 := by
  cases st with
  | none => rw [numS_none]; decide
  | some l =>
    cases hp : numP size l with
    | none => rw [numS_bad hp]; decide
    | some q =>
      obtain ⟨n, t⟩ := q
      have := ((num_codec size (by omega)).back _ _ _ hp).1
      unfold okN at this
      rw [if_neg (by omega)] at this
      have p1 : (256 : Int) ^ 1 = 256 := by decide
      have p2 : (256 : Int) ^ 2 = 65536 := by decide
      have p4 : (256 : Int) ^ 4 = 4294967296 := by decide
      rw [numS_good hp]
      dsimp only
      rcases hs with rfl | rfl | rfl <;> simp only [p1, p2, p4] at this <;> omega
theorem part0_none {st : Option (List UInt8)} {size most : Nat} (h : (numS st size).2 = none) : part0 st size most = none := by
  unfold part0; rw [h]; split <;> rfl
theorem partS_none (size most : Nat) : partS none size most = ([], none) := by
  unfold partS; rw [part0_none (by rw [numS_none])]; rfl
theorem partS_bad {l : List UInt8} {size most : Nat} (hs : size = 1 ∨ size = 2 ∨ size = 4) (h : partP size most l = none) : partS (some l) size most = ([], none) := by
  have hr := numS_range (some l) size hs
  cases hp : numP size l with
  | none => unfold partS; rw [part0_none (by rw [numS_bad hp])]; rfl
  | some q =>
    obtain ⟨n, t⟩ := q
    rw [numS_good hp] at hr
    dsimp only at hr
    unfold partS part0
    rw [numS_good hp]
    dsimp only
    by_cases h1 : (most : Int) < n
    · rw [if_pos h1]; rfl
    · rw [if_neg h1]
      have h3 : ¬ n.toNat ≤ t.length := by
        intro h3
        rw [partP, bindP_at hp, if_pos (by omega)] at h
        cases h
      unfold cutL cutS
      dsimp only
      rw [if_neg h3, if_neg h3]
theorem partS_good {l x t : List UInt8} {size most : Nat} (hs : size = 1 ∨ size = 2 ∨ size = 4) (h : partP size most l = some (x, t)) : partS (some l) size most = (x, some t) := by
  have hr := numS_range (some l) size hs
  obtain ⟨n, u, hp, h2⟩ := bindP_some h
  rw [numS_good hp] at hr
  dsimp only at hr
  by_cases hc : n ≤ (most : Int) ∧ n ≤ u.length
  · rw [if_pos hc] at h2
    obtain ⟨rfl, rfl⟩ := Prod.mk.inj (Option.some.inj h2)
    unfold partS part0
    rw [numS_good hp]
    dsimp only
    rw [if_neg (by omega)]
    unfold cutL cutS
    dsimp only
    rw [if_pos (by omega), if_pos (by omega)]
  · rw [if_neg hc] at h2; cases h2

set_option maxHeartbeats 8000000 in
set_option maxRecDepth 100000 in
theorem rpart_any (w : World) (b gb : Nat) (st : Option (List UInt8)) (size most : Nat) (h : RB b gb w st) (hs : size = 1 ∨ size = 2 ∨ size = 4) (hm : most ≤ 100000000) :
    Calls Try.prog 89 #[.pointer (some ⟨b, 0, none⟩), .int .i64 (size : Int), .int .i64 (most : Int)] w fun e w' => ∃ v, e = .returned v ∧ LB kByte (fun x => x = gb) w' v (partS st size most).1 ∧ RB b gb w' (partS st size most).2 ∧ Step (fun x => x ≠ b) w w' ∧ w'.heap.size = w.heap.size := by
  obtain ⟨f, v, r, h1, h2, h3, h4, h5⟩ := h.ex
  obtain ⟨va, vc, rfl⟩ := h2.form
  have hc1 : w.cell? ⟨b, 1, none⟩ = some (.slice va r.length vc) := by rw [Lib.cell_of_heap h1]; rfl
  have hbl := h.lt
  have H2 := Lib.hid h2
  have HN := Lib.hid (rnum_any w b gb st size h (by omega))
  have hr := numS_range st size hs
  obtain ⟨n, hn⟩ : ∃ n : Nat, (numS st size).1 = n := ⟨(numS st size).1.toNat, by omega⟩
  have hp0 : part0 st size most = if most < n then none else (numS st size).2 := by
    unfold part0
    rw [hn]
    by_cases hx : most < n
    · rw [if_pos hx, if_pos (by omega)]
    · rw [if_neg hx, if_neg (by omega)]
  have Hres : Hid (partS st size most = (cutL (part0 st size most) n, cutS (part0 st size most) n)) := Lib.hid (by unfold partS; rw [hn, Int.toNat_natCast])
  rw [hn] at HN hr
  rw [Hres.out]
  clear h h1 h2 h5 hn Hres
  generalize (numS st size).2 = st1 at *
  generalize part0 st size most = st2 at *
  go_enter Try.func89, Try.ntmps89
  go_wp2_with fail
  refine HN.out.mono ?_
  rintro e w2 ⟨rfl, hr2, hs2, hz2⟩
  have HS2 := Lib.hid hs2
  have hbl2 := hr2.lt
  clear hc1 HN
  -- what follows the test
  have HK : Hid (∀ w3, RB b gb w3 st2 → Step (fun x => x ≠ b) w w3 → w3.heap.size = w.heap.size → Calls Try.prog 90 #[.pointer (some ⟨b, 0, none⟩), .int .i64 (n : Int)] w3 fun e w' => ∃ v, e = .returned v ∧ LB kByte (fun x => x = gb) w' v (cutL st2 n) ∧ RB b gb w' (cutS st2 n) ∧ Step (fun x => x ≠ b) w w' ∧ w'.heap.size = w.heap.size) := Lib.hid (fun w3 hr hs hz => (rcut_any w3 b gb st2 n hr (by omega)).mono (by
    rintro e w4 ⟨v, he, hv, hr4, hs4, hz4⟩
    exact ⟨v, he, hv, hr4, hs.trans hs4, hz4.trans hz⟩))
  by_cases hx : most < n
  · rw [if_pos hx] at hp0
    subst hp0
    have hd : decide ((most : Int) < (n : Int)) = true := by rw [decide_eq_true_eq]; omega
    have HF := Lib.hid (fail_any w2 b gb 2 st1 (by decide) hr2)
    clear hr2 hs2
    go_wp2_with fail
    refine HF.out.mono ?_
    rintro e w3 ⟨rfl, hr3, hs3, hz3⟩
    have HC := Lib.hid (HK.out w3 hr3 (HS2.out.trans hs3) (hz3.trans hz2))
    have hbl3 := hr3.lt
    clear hr3 hs3 HF
    go_wp2_with fail
    refine HC.out.mono ?_
    rintro e w4 ⟨v, rfl, hv4, hr4, hs4, hz4⟩
    obtain ⟨f4, hc4, hf4⟩ := hr4.first
    have HSo := Lib.hid (sound_any w4 b f4 hc4)
    rw [hf4] at HSo
    obtain ⟨f', v', r', h1', _, _, _, hf'⟩ := hr4.ex
    have e4 : cutS none n = none := rfl
    rw [e4] at hf'
    have c1' : w4.cell? ⟨b, 1, none⟩ = some v' := by rw [Lib.cell_of_heap h1']; rfl
    have fx' : w4.frozen? ⟨b, 1, none⟩ = false := Lib.frozen_of_heap h1' 1
    obtain ⟨va4, vc4, rfl⟩ := hv4.form
    have hwas := H2.out.keeps (fun x hx => by have hx : x = gb := hx; subst hx; exact hs4.block _ h3)
    have Hfin : Hid (RB b gb (w4.setCell ⟨b, 1, none⟩ (.slice va r.length vc)) (cutS none n)) := Lib.hid (RB.put h1' hwas h3 (by omega) hf')
    have Hv4 := Lib.hid (hv4.keeps (w' := w4.setCell ⟨b, 1, none⟩ (.slice va r.length vc)) (fun x hx => by have hx : x = gb := hx; subst hx; exact Below.heap_setCell _ _ _ _ h3))
    have Hs4 := Lib.hid (hs4.trans (setCell_step w4 b 1 (.slice va r.length vc)))
    have Hz4 := Lib.hid hz4
    have hbl4 := hr4.lt
    clear hv4 hr4 hs4 hz4 hc4 hwas h1' HC
    go_wp2_with fail
    refine HSo.out.mono ?_
    rintro e w5 ⟨rfl, rfl⟩
    go_wp2
    go_ret
    exact ⟨_, rfl, Hv4.out, Hfin.out, Hs4.out, by rw [World.size_setCell]; exact Hz4.out⟩
  · rw [if_neg hx] at hp0
    subst hp0
    have hd : decide ((most : Int) < (n : Int)) = false := by rw [decide_eq_false_iff_not]; omega
    have HC := Lib.hid (HK.out w2 hr2 HS2.out hz2)
    clear hr2 hs2
    go_wp2_with fail
    refine HC.out.mono ?_
    rintro e w4 ⟨v, rfl, hv4, hr4, hs4, hz4⟩
    obtain ⟨f4, hc4, hf4⟩ := hr4.first
    have HSo := Lib.hid (sound_any w4 b f4 hc4)
    rw [hf4] at HSo
    obtain ⟨f', v', r', h1', _, _, _, hf'⟩ := hr4.ex
    have c1' : w4.cell? ⟨b, 1, none⟩ = some v' := by rw [Lib.cell_of_heap h1']; rfl
    have fx' : w4.frozen? ⟨b, 1, none⟩ = false := Lib.frozen_of_heap h1' 1
    obtain ⟨va4, vc4, rfl⟩ := hv4.form
    have hwas := H2.out.keeps (fun x hx => by have hx : x = gb := hx; subst hx; exact hs4.block _ h3)
    have hbl4 := hr4.lt
    cases hst : cutS st2 n with
    | none =>
      have Hst := Lib.hid hst
      rw [hst] at HSo hf'
      have Hfin : Hid (RB b gb (w4.setCell ⟨b, 1, none⟩ (.slice va r.length vc)) none) := Lib.hid (RB.put h1' hwas h3 (by omega) hf')
      have Hv4 := Lib.hid (hv4.keeps (w' := w4.setCell ⟨b, 1, none⟩ (.slice va r.length vc)) (fun x hx => by have hx : x = gb := hx; subst hx; exact Below.heap_setCell _ _ _ _ h3))
      have Hs4 := Lib.hid (hs4.trans (setCell_step w4 b 1 (.slice va r.length vc)))
      have Hz4 := Lib.hid hz4
      clear hv4 hr4 hs4 hz4 hc4 hwas h1' HC hst
      go_wp2_with fail
      refine HSo.out.mono ?_
      rintro e w5 ⟨rfl, rfl⟩
      go_wp2
      go_ret
      exact ⟨_, rfl, Hv4.out, by rw [Hst.out]; exact Hfin.out, Hs4.out, by rw [World.size_setCell]; exact Hz4.out⟩
    | some l4 =>
      have Hst := Lib.hid hst
      rw [hst] at HSo hr4
      have Hr4 := Lib.hid hr4
      have Hv4 := Lib.hid hv4
      have Hs4 := Lib.hid hs4
      have Hz4 := Lib.hid hz4
      clear hv4 hr4 hs4 hz4 hc4 hwas h1' HC hst c1' fx' hf'
      go_wp2_with fail
      refine HSo.out.mono ?_
      rintro e w5 ⟨rfl, rfl⟩
      go_wp2
      go_ret
      exact ⟨_, rfl, Hv4.out, by rw [Hst.out]; exact Hr4.out, Hs4.out, Hz4.out⟩

end Go.Proofs.Ytbliedldlimpgaa
