/- Lemmas that the claim is proved from: what calls of functions of the program come to (contracts), and plain laws. Each lemma bears its own conditions. -/
import Derived.Test.YtbliedldlimpgaaBas9
import Derived.Test.YtbliedldlimpgaaBas1
import Derived.Test.YtbliedldlimpgaaBas2
import Derived.Test.YtbliedldlimpgaaBas6
import Derived.Test.YtbliedldlimpgaaBas8
import Derived.Test.YtbliedldlimpgaaBas7
import Derived.Test.YtbliedldlimpgaaBas4
import Derived.Deep.CutBlock

namespace Go.Proofs.Ytbliedldlimpgaa
set_option linter.unusedVariables false
set_option linter.unusedSimpArgs false
open Go.RowKit

theorem info_int : (Try.prog.info? 3).map (fun i => (i.zero, i.size, i.bytes)) = some (some (.int .i64 0), 1, 8) := by kernel_rfl
def toInts (l : List Nat) : List Int := l.map fun (k : Nat) => (k : Int)
theorem toInts_len (l : List Nat) : (toInts l).length = l.length := by simp [toInts]
theorem symN_at {syms : List SymL} {k : Nat} {s : SymL} (h : syms[k]? = some s) : symN syms k = s := by rw [symN, h]; rfl

set_option maxHeartbeats 4000000 in
set_option maxRecDepth 100000 in
theorem jseenl_any (w : World) (v : Value) (syms : List SymL) (hs : LB kSym (· < w.heap.size) w v syms) (hz : syms.length ≤ 512) :
    Calls Try.prog 75 #[v] w fun e w' => ∃ r, e = .returned r ∧ OwnK 3 kInt w.heap.size (fun _ => False) w' r (toInts (seenIx syms)) ∧ Below w.heap.size w w' := by
  obtain ⟨sa, sb, soff, scap, rfl, hsm, hsc, hat⟩ := hs.at
  have Hat := Lib.hid hat
  clear hs hat
  go_enter Try.func75, Try.ntmps75
  go_wp2
  go_loopw [3, 4] (fun o i wr => ∃ k : Nat, i = .int .i64 k ∧ k ≤ syms.length ∧ OwnK 3 kInt w.heap.size (fun _ => False) wr o (toInts (seenK syms k)) ∧ Below w.heap.size w wr) (fun _ i _ => syms.length - (intOf i).toNat)
  case atStart => exact ⟨0, rfl, Nat.zero_le _, by exact OwnK.nil _ _ _ _ _, Below.refl _ _⟩
  case round =>
    obtain ⟨k, rfl, hk, hown, hbel⟩ := hrel
    have hBr := hbel.size
    by_cases hlt : k < syms.length
    · obtain rfl := Hat.out.addr (by omega)
      obtain ⟨s, hx⟩ : ∃ s, syms[k]? = some s := ⟨_, List.getElem?_eq_getElem hlt⟩
      obtain ⟨_, g0, g1, g2, g3, g4, g5, g6, g7, g8⟩ := (Hat.out.below hbel).sym9 k s hx
      have HS := Lib.hid (seenK_succ syms k)
      rw [symN_at hx] at HS
      have hl := seenK_le syms k
      have hl2 := toInts_len (seenK syms k)
      obtain ⟨oa, oc, rfl⟩ := hown.form
      rw [hl2] at hown ⊢
      have Hown := Lib.hid hown
      have Hbel := Lib.hid hbel
      clear hown hbel hx
      have hsb := World.block_lt_of_cell? _ _ g0
      go_wp2_with fail
      refine (jseen_any wr s).mono ?_
      rintro e w2 ⟨rfl, hb2⟩
      have B2 := Lib.hid (Hbel.out.trans (hb2.mono hBr))
      have O2 := Lib.hid (Hown.out.below hb2)
      have hz2 := hb2.size
      clear hb2 g0 g1 g2 g3 g4 g5 g6 g7 g8 Hown Hbel
      cases hsn : seenB s with
      | false =>
        rw [hsn] at HS
        go_wp2
        go_roundw
        case rel =>
          have h1 := O2.out
          have h2 := HS.out
          simp only [Bool.false_eq_true, if_false, List.append_nil] at h2
          exact ⟨k + 1, by go_num, by omega, by rw [h2]; exact h1, B2.out⟩
        case measure => simp [intOf]; omega
      | true =>
        rw [hsn] at HS
        go_wp2_with (at_builtin; refine wpList_appendK (α := Int) (K := kInt) (e := 3) (B := w.heap.size) (E := fun _ => False) 35 (.int .i64 0) 8 Try.underlying35 info_int rfl (by decide) rfl (.tmp 16) (.tmp 18) rfl (seenK syms k).length hl2 rfl (O2.out.alloc _) (fun _ h => h.elim) w2.heap.size (k : Int) [.int .i64 (k : Int)] rfl ?c1 ?c2 rfl ?c3 ?c4 ?c5 ?_)
        case c1 =>
          intro j u hu
          match j, hu with
          | 0, hu => simp at hu; subst hu; simp
          | j + 1, hu => simp at hu
        case c2 => intro u hu; simp at hu; subst hu; rfl
        case c3 => omega
        case c4 => omega
        case c5 => simp; omega
        intro g c w3 hown3 hst3 _
        have Hown3 := Lib.hid hown3
        have hlo := (O2.out.alloc (.cells #[.int .i64 (k : Int)] 3 (0, 0))).lt
        have B3 := Lib.hid (((B2.out.alloc (by omega) (.cells #[.int .i64 (k : Int)] 3 (0, 0))).trans (hst3.imp (S' := (· < w.heap.size)) (fun b hb => ⟨by have h1 : b < w.heap.size := hb; omega, fun e => by have := (hlo b e).1; have h1 : b < w.heap.size := hb; omega⟩)).below))
        clear hown3 hst3 hlo
        go_wp2
        go_roundw
        case rel =>
          have h2 := HS.out
          simp only [if_true] at h2
          exact ⟨k + 1, by go_num, by omega, by rw [h2, toInts, List.map_append]; exact Hown3.out, B3.out⟩
        case measure => simp [intOf]; omega
    · have he : k = syms.length := by omega
      subst he
      have Hown := Lib.hid hown
      have Hbel := Lib.hid hbel
      clear hown hbel
      go_wp2
      go_ret
      exact ⟨_, rfl, Hown.out, Hbel.out⟩

end Go.Proofs.Ytbliedldlimpgaa

namespace Go.Proofs.Ytbliedldlimpgaa
set_option linter.unusedVariables false
set_option linter.unusedSimpArgs false
open Go.RowKit

/-- a list that a loop of readings makes: k elements so far -/
def LQ {α : Type} (e : TypeId) (K : Kind α) (p : List UInt8 → Option (α × List UInt8)) (ok : α → Prop) (lb rb gb : Nat) (S0 : Nat → Prop) (w0 : World) (st0 : Option (List UInt8)) (w : World) (v : Value) (k : Nat) : Prop :=
  ∃ xs st, OwnK e K w0.heap.size (· < w0.heap.size) w v xs ∧ xs.length = k ∧ (∀ x ∈ xs, ok x) ∧ Got (manyP p k) st0 xs st ∧ LD lb rb gb w st ∧ Step (fun x => x < w0.heap.size ∧ S0 x) w0 w
section
variable {α : Type} {e : TypeId} {K : Kind α} {p : List UInt8 → Option (α × List UInt8)} {ok : α → Prop} {lb rb gb : Nat} {S0 : Nat → Prop} {w0 w w' w'' : World} {st0 st st' : Option (List UInt8)} {v v' : Value} {k : Nat}
theorem LQ.start (h : LD lb rb gb w0 st0) : LQ e K p ok lb rb gb S0 w0 st0 w0 (.slice none 0 0) 0 :=
  ⟨[], st0, OwnK.nil _ _ _ _ _, rfl, (fun x hx => by simp at hx), Got.many0 _ _, h, Step.refl _ _⟩
/-- the elements and the state named: a reading and an append close the round -/
theorem LQ.next {xs : List α} {x : α} (h2 : xs.length = k) (h3 : ∀ x ∈ xs, ok x) (h4 : Got (manyP p k) st0 xs st) (h6 : Step (fun x => x < w0.heap.size ∧ S0 x) w0 w)
    (hg : Got p st x st') (hx : ok x) (hs : Step (fun x => x < w0.heap.size ∧ S0 x) w w'') (hl : LD lb rb gb w'' st') (ho : OwnK e K w0.heap.size (· < w0.heap.size) w'' v' (xs ++ [x])) : LQ e K p ok lb rb gb S0 w0 st0 w'' v' (k + 1) :=
  ⟨xs ++ [x], st', ho, by simp [h2], fun y hy => by
    rcases List.mem_append.1 hy with h | h
    · exact h3 y h
    · simp at h; rw [h]; exact hx, h4.snoc hg, hl, h6.trans hs⟩
end
theorem info_str : (Try.prog.info? 9).map (fun i => (i.zero, i.size, i.bytes)) = some (some (.string ⟨#[]⟩), 1, 16) := by kernel_rfl
theorem row_one (w : World) (nb : Nat) (u : Value) (h : w.cell? ⟨nb, 0, none⟩ = some u) : ∀ j x, ([u] : List Value)[j]? = some x → w.cell? ⟨nb, j, none⟩ = some x := by
  intro j x hx
  match j, hx with
  | 0, hx => simp at hx; subst hx; exact h
  | j + 1, hx => simp at hx

set_option maxHeartbeats 8000000 in
set_option maxRecDepth 100000 in
theorem ldnums (w : World) (b rb gb : Nat) (st : Option (List UInt8)) (n size : Nat) (h : LD b rb gb w st) (hs : size = 1 ∨ size = 2 ∨ size = 4 ∨ size = 8) (hn : n ≤ 65536) :
    Calls Try.prog 52 #[.pointer (some ⟨b, 0, none⟩), .int .i64 (n : Int), .int .i64 (size : Int)] w fun e w' => ∃ v, e = .returned v ∧ LQ 3 kInt (numP size) (okN size) b rb gb (· ≠ rb) w st w' v n := by
  have hbl := h.lt
  have hne := h.ne
  have hrl := h.rblt
  have hgl := h.gblt
  have H := Lib.hid h
  have HS0 : Hid (LQ 3 kInt (numP size) (okN size) b rb gb (· ≠ rb) w st w (.slice none 0 0) 0) := Lib.hid (.start h)
  clear h
  go_enter Try.func52, Try.ntmps52
  go_wp2
  go_loopw [7, 9] (fun o i wr => ∃ k : Nat, i = .int .i64 k ∧ k ≤ n ∧ LQ 3 kInt (numP size) (okN size) b rb gb (· ≠ rb) w st wr o k) (fun _ i _ => n - (intOf i).toNat)
  case atStart => exact ⟨0, rfl, Nat.zero_le _, HS0.out⟩
  case round =>
    obtain ⟨k, rfl, hk, hq⟩ := hrel
    by_cases hlt : k < n
    · obtain ⟨xs, st1, h1, h2, h3, h4, h5, h6⟩ := hq
      obtain ⟨oa, oc, rfl⟩ := h1.form
      have hc := h5.cell
      have hwr := h6.size
      have HN := Lib.hid (ldnum wr b rb gb st1 size h5 hs)
      rw [h2] at h1 ⊢
      have H1 := Lib.hid h1
      have H2 := Lib.hid h2
      have H3 := Lib.hid h3
      have H4 := Lib.hid h4
      have H6 := Lib.hid h6
      have hbr := h5.lt
      clear h1 h2 h3 h4 h5 h6
      go_wp2_with fail
      refine HN.out.mono ?_
      rintro e w2 ⟨x, st2, rfl, hg, hok, hl, hst, -⟩
      have hz2 := hst.size
      have O2 := Lib.hid (H1.out.step hst (fun y _ hy e => hy (by rw [e]; exact hrl)))
      have HG := Lib.hid hg
      have HO := Lib.hid hok
      have HL := Lib.hid (hl.alloc (.cells #[.int .i64 x] 3 (0, 0)))
      have HT := Lib.hid (hst.imp (S' := fun x => x < w.heap.size ∧ x ≠ rb) (fun _ h => h.2))
      clear hg hok hl hst HN hc
      go_wp2_with (at_builtin; refine wpList_appendK (α := Int) (K := kInt) (e := 3) (B := w.heap.size) (E := (· < w.heap.size)) 35 (.int .i64 0) 8 Try.underlying35 info_int rfl (by decide) rfl (.tmp 11) (.tmp 18) rfl k H2.out rfl (O2.out.alloc _) (fun b hb => by have hb : b < w.heap.size := hb; simp; omega) w2.heap.size x [.int .i64 x] rfl ?c1 ?c2 rfl ?c3 ?c4 ?c5 ?_)
      case c1 => exact row_one _ _ _ (by simp)
      case c2 => intro u hu; simp at hu; subst hu; rfl
      case c3 => rw [H2.out]; omega
      case c4 => rw [H2.out]; omega
      case c5 => simp; omega
      intro g c w3 hown3 hst3 _
      have hlo := (O2.out.alloc (.cells #[.int .i64 x] 3 (0, 0))).lt
      have hno := (O2.out.alloc (.cells #[.int .i64 x] 3 (0, 0))).notE
      have hS3 : Step (· < w.heap.size) (w2.alloc (.cells #[.int .i64 x] 3 (0, 0))) w3 := hst3.imp (fun y hy => ⟨by have hy : y < w.heap.size := hy; simp; omega, fun e => hno y e hy⟩)
      have Hfin : Hid (LQ 3 kInt (numP size) (okN size) b rb gb (· ≠ rb) w st w3 (.slice (some ⟨g, 0, none⟩) (k + 1) c) (k + 1)) := Lib.hid (
        LQ.next H2.out H3.out H4.out H6.out HG.out HO.out ((HT.out.trans ((Step.of_below ((Below.refl _ w2).alloc (Nat.le_refl _) (.cells #[.int .i64 x] 3 (0, 0)))).imp (fun y hy => by have := hy.1; show y < w2.heap.size; omega))).trans (hS3.imp (fun y hy => hy.1))) (HL.out.step hS3 hbl hrl hgl) hown3)
      clear hown3 hst3 hlo hno hS3 O2 HG HO HL HT H1 H2 H3 H4 H6
      go_wp2
      go_roundw
      case rel => exact ⟨k + 1, by go_num, by omega, Hfin.out⟩
      case measure => simp [intOf]; omega
    · have he : k = n := by omega
      subst he
      have Hq := Lib.hid hq
      clear hq
      go_wp2
      go_ret
      exact ⟨_, rfl, Hq.out⟩

set_option maxHeartbeats 8000000 in
set_option maxRecDepth 100000 in
theorem ldtexts (w : World) (b rb gb : Nat) (st : Option (List UInt8)) (n : Nat) (h : LD b rb gb w st) (hn : n ≤ 65536) :
    Calls Try.prog 50 #[.pointer (some ⟨b, 0, none⟩), .int .i64 (n : Int)] w fun e w' => ∃ v, e = .returned v ∧ LQ 9 kStr textP (fun x => x.length ≤ 4096) b rb gb (· ≠ rb) w st w' v n := by
  have hbl := h.lt
  have hne := h.ne
  have hrl := h.rblt
  have hgl := h.gblt
  have H := Lib.hid h
  have HS0 : Hid (LQ 9 kStr textP (fun x => x.length ≤ 4096) b rb gb (· ≠ rb) w st w (.slice none 0 0) 0) := Lib.hid (.start h)
  clear h
  go_enter Try.func50, Try.ntmps50
  go_wp2
  go_loopw [5, 7] (fun o i wr => ∃ k : Nat, i = .int .i64 k ∧ k ≤ n ∧ LQ 9 kStr textP (fun x => x.length ≤ 4096) b rb gb (· ≠ rb) w st wr o k) (fun _ i _ => n - (intOf i).toNat)
  case atStart => exact ⟨0, rfl, Nat.zero_le _, HS0.out⟩
  case round =>
    obtain ⟨k, rfl, hk, hq⟩ := hrel
    by_cases hlt : k < n
    · obtain ⟨xs, st1, h1, h2, h3, h4, h5, h6⟩ := hq
      obtain ⟨oa, oc, rfl⟩ := h1.form
      have hc := h5.cell
      have hwr := h6.size
      have HN := Lib.hid (ldtext wr b rb gb st1 h5)
      rw [h2] at h1 ⊢
      have H1 := Lib.hid h1
      have H2 := Lib.hid h2
      have H3 := Lib.hid h3
      have H4 := Lib.hid h4
      have H6 := Lib.hid h6
      have hbr := h5.lt
      clear h1 h2 h3 h4 h5 h6
      go_wp2_with fail
      refine HN.out.mono ?_
      rintro e w2 ⟨x, st2, rfl, hg, hok, hl, hst, -⟩
      have hz2 := hst.size
      have O2 := Lib.hid (H1.out.step hst (fun y _ hy e => hy (by rw [e]; exact hrl)))
      have HG := Lib.hid hg
      have HO := Lib.hid hok
      have hx4 : x.length ≤ 4096 := hok
      have HL := Lib.hid (hl.alloc (.cells #[.string ⟨x.toArray⟩] 9 (0, 0)))
      have HT := Lib.hid (hst.imp (S' := fun x => x < w.heap.size ∧ x ≠ rb) (fun _ h => h.2))
      clear hg hok hl hst HN hc
      go_wp2_with (at_builtin; refine wpList_appendK (α := List UInt8) (K := kStr) (e := 9) (B := w.heap.size) (E := (· < w.heap.size)) 25 (.string ⟨#[]⟩) 16 Try.underlying25 info_str rfl (by decide) rfl (.tmp 9) (.tmp 15) rfl k H2.out rfl (O2.out.alloc _) (fun b hb => by have hb : b < w.heap.size := hb; simp; omega) w2.heap.size x [.string ⟨x.toArray⟩] rfl ?c1 ?c2 ⟨rfl, by omega⟩ ?c3 ?c4 ?c5 ?_)
      case c1 => exact row_one _ _ _ (by simp)
      case c2 => intro u hu; simp at hu; subst hu; rfl
      case c3 => rw [H2.out]; omega
      case c4 => rw [H2.out]; omega
      case c5 => simp; omega
      intro g c w3 hown3 hst3 _
      have hlo := (O2.out.alloc (.cells #[.string ⟨x.toArray⟩] 9 (0, 0))).lt
      have hno := (O2.out.alloc (.cells #[.string ⟨x.toArray⟩] 9 (0, 0))).notE
      have hS3 : Step (· < w.heap.size) (w2.alloc (.cells #[.string ⟨x.toArray⟩] 9 (0, 0))) w3 := hst3.imp (fun y hy => ⟨by have hy : y < w.heap.size := hy; simp; omega, fun e => hno y e hy⟩)
      have Hfin : Hid (LQ 9 kStr textP (fun x => x.length ≤ 4096) b rb gb (· ≠ rb) w st w3 (.slice (some ⟨g, 0, none⟩) (k + 1) c) (k + 1)) := Lib.hid (
        LQ.next H2.out H3.out H4.out H6.out HG.out HO.out ((HT.out.trans ((Step.of_below ((Below.refl _ w2).alloc (Nat.le_refl _) (.cells #[.string ⟨x.toArray⟩] 9 (0, 0)))).imp (fun y hy => by have := hy.1; show y < w2.heap.size; omega))).trans (hS3.imp (fun y hy => hy.1))) (HL.out.step hS3 hbl hrl hgl) hown3)
      clear hown3 hst3 hlo hno hS3 O2 HG HO HL HT H1 H2 H3 H4 H6
      go_wp2
      go_roundw
      case rel => exact ⟨k + 1, by go_num, by omega, Hfin.out⟩
      case measure => simp [intOf]; omega
    · have he : k = n := by omega
      subst he
      have Hq := Lib.hid hq
      clear hq
      go_wp2
      go_ret
      exact ⟨_, rfl, Hq.out⟩

end Go.Proofs.Ytbliedldlimpgaa

namespace Go.Proofs.Ytbliedldlimpgaa
set_option linter.unusedVariables false
set_option linter.unusedSimpArgs false
open Go.RowKit

theorem drop_cons {α : Type} (l : List α) (k : Nat) (x : α) (hx : l[k]? = some x) : l.drop k = x :: l.drop (k + 1) := by
  obtain ⟨h, rfl⟩ := List.getElem?_eq_some_iff.1 hx
  exact List.drop_eq_getElem_cons h
/-- a segment that may be, as inequalities -/
def SegGood (e : Int) (s : SegL) : Prop :=
  e ≤ s.at_ ∧ 0 ≤ s.at_ ∧ s.at_ ≤ 65536 ∧ s.at_ % 64 = 0 ∧ 1 ≤ s.size ∧ s.at_ + s.size ≤ 65536 ∧ (s.bytes.length : Int) ≤ s.size ∧ 0 ≤ s.perm ∧ s.perm ≤ 7
theorem segsFrom_good {e : Int} {s : SegL} {l : List SegL} (h : SegGood e s) : segsFrom e (s :: l) = segsFrom (upL (s.at_ + s.size)) l := by
  obtain ⟨h1, h2, h3, h4, h5, h6, h7, h8, h9⟩ := h
  simp [segsFrom, segB, h1, h2, h3, h4, h5, h6, h7, h8, h9]
theorem segsFrom_bad {e : Int} {s : SegL} {l : List SegL} (h : ¬ SegGood e s) : segsFrom e (s :: l) = false := by
  rw [segsFrom]
  by_cases h1 : (decide (e ≤ s.at_) && segB s) = true
  · exfalso
    apply h
    simp [segB] at h1
    unfold SegGood
    omega
  · simp only [Bool.not_eq_true] at h1
    rw [h1]; rfl

set_option maxHeartbeats 16000000 in
set_option maxRecDepth 100000 in
theorem isegs_any (w : World) (v : ImgV) (im : ImgL) (hs : LB kSeg (· < w.heap.size) w v.segs im.segs) (hr : ∀ s ∈ im.segs, -9223372036854775808 ≤ s.at_ ∧ s.size ≤ 9223372036854775807) :
    Calls Try.prog 21 #[.agg (imgCells v im)] w fun e w' => e = .returned (.bool (segsB im.segs)) ∧ Below w.heap.size w w' := by
  unfold imgCells
  obtain ⟨sa, sb, soff, scap, hsv, hsm, hsc, hat⟩ := hs.at
  rw [hsv]
  have Hat := Lib.hid hat
  have Hr := Lib.hid hr
  have Hd : Hid (segsB im.segs = (decide (1 ≤ im.segs.length) && decide (im.segs.length ≤ 8) && segsFrom 0 im.segs)) := Lib.hid rfl
  clear hs hat hsv hr
  go_enter Try.func21, Try.ntmps21
  go_wp2
  go_loopw [3, 9] (fun s3 i wr => ∃ (k : Nat) (e : Int), i = .int .i64 k ∧ k ≤ im.segs.length ∧ s3 = .int .i64 e ∧ 0 ≤ e ∧ e ≤ 200000 ∧ segsFrom 0 im.segs = segsFrom e (im.segs.drop k) ∧ Below w.heap.size w wr ∧ wr.cell? ⟨w.heap.size, 2, none⟩ = some (.slice sa im.segs.length scap) ∧ w.heap.size < wr.heap.size) (fun _ i _ => im.segs.length - (intOf i).toNat)
  case atStart => exact ⟨0, 0, rfl, Nat.zero_le _, rfl, by omega, by omega, by simp, (Below.refl _ _).alloc (Nat.le_refl _) _, by simp, by simp⟩
  case round =>
    obtain ⟨k, e, rfl, hk, rfl, he0, he1, hse, hbel, hq, hzq⟩ := hrel
    have Hq := Lib.hid hq
    have Hse := Lib.hid hse
    have Hbel := Lib.hid hbel
    have hBr := hbel.size
    by_cases hlt : k < im.segs.length
    · obtain rfl := Hat.out.addr (by omega)
      obtain ⟨s, hx⟩ : ∃ s, im.segs[k]? = some s := ⟨_, List.getElem?_eq_getElem hlt⟩
      obtain ⟨c, g0, g1, g2, g3, hc⟩ := (Hat.out.below hbel).seg4 k s hx
      obtain ⟨ca, cc, rfl⟩ := hc.form
      have hr := Hr.out s (List.mem_of_getElem? hx)
      have Hdc := Lib.hid (drop_cons im.segs k s hx)
      have hcm := hc.max
      clear hbel hse hx hc hq
      by_cases hg : SegGood e s
      · have Hn : Hid (segsFrom 0 im.segs = segsFrom (upL (s.at_ + s.size)) (im.segs.drop (k + 1))) := Lib.hid (by rw [Hse.out, Hdc.out, segsFrom_good hg])
        obtain ⟨h1, h2, h3, h4, h5, h6, h7, h8, h9⟩ := hg
        have Hu : Hid (s.at_ + (s.size + 64 - 1) / 64 * 64 = upL (s.at_ + s.size)) := Lib.hid (by unfold upL; omega)
        have hu0 : 0 ≤ upL (s.at_ + s.size) := by unfold upL; omega
        have hu1 : upL (s.at_ + s.size) ≤ 200000 := by unfold upL; omega
        have hm : (s.at_ % 64 != 0) = false := by rw [bne_eq_false_iff_eq]; exact h4
        clear h4
        have Hu0 := Lib.hid hu0
        have Hu1 := Lib.hid hu1
        clear hu0 hu1
        generalize s.at_ = sat at *
        generalize s.size = ssz at *
        generalize s.perm = spm at *
        go_wp2
        go_roundw
        case rel => exact ⟨k + 1, _, by go_num, by omega, by rw [← Hu.out], Hu0.out, Hu1.out, Hn.out, Hbel.out.alloc hBr _, by rw [World.cell?_alloc_lt _ _ _ hzq]; exact Hq.out, by simp; omega⟩
        case measure => simp [intOf]; omega
      · have Hn : Hid (segsB im.segs = false) := Lib.hid (by rw [Hd.out, Hse.out, Hdc.out, segsFrom_bad hg]; simp)
        have Hg : Hid (¬ (e ≤ s.at_ ∧ 0 ≤ s.at_ ∧ s.at_ ≤ 65536 ∧ s.at_ % 64 = 0 ∧ 1 ≤ s.size ∧ s.at_ + s.size ≤ 65536 ∧ (s.bytes.length : Int) ≤ s.size ∧ 0 ≤ s.perm ∧ s.perm ≤ 7)) := Lib.hid hg
        clear hg
        generalize s.at_ = sat at *
        generalize s.size = ssz at *
        generalize s.perm = spm at *
        by_cases h1 : e ≤ sat
        · go_wp2
          all_goals first
            | (go_ret; exact ⟨by rw [Hn.out]; rfl, Hbel.out.alloc hBr _⟩)
            | (exfalso; have := Hg.out; (try simp only [beq_eq_false_iff_ne, bne_eq_false_iff_eq, bne_iff_ne, beq_iff_eq, ne_eq] at *); omega)
        · go_wp2
          go_ret
          exact ⟨by rw [Hn.out]; rfl, Hbel.out.alloc hBr _⟩
    · have Hn : Hid (segsFrom 0 im.segs = true) := Lib.hid (by rw [hse, List.drop_eq_nil_of_le (by omega)]; rfl)
      clear hse hbel
      by_cases h1 : 1 ≤ im.segs.length
      · have hd1 : decide (1 ≤ (im.segs.length : Int)) = true := by rw [decide_eq_true_eq]; omega
        go_wp2
        go_ret
        exact ⟨ret_bool' (by rw [Hd.out, Hn.out, Bool.eq_iff_iff]; simp [h1]; omega), Hbel.out⟩
      · have hd1 : decide (1 ≤ (im.segs.length : Int)) = false := by rw [decide_eq_false_iff_not]; omega
        go_wp2
        go_ret
        exact ⟨ret_bool' (by rw [Hd.out]; simp [h1]), Hbel.out⟩

end Go.Proofs.Ytbliedldlimpgaa

namespace Go.Proofs.Ytbliedldlimpgaa
set_option linter.unusedVariables false
set_option linter.unusedSimpArgs false
open Go.RowKit

theorem symsFrom_bad {segs : List SegL} {tls : Int} {done : List SymL} {s : SymL} {l : List SymL} (h : symB segs tls s = false) : symsFrom segs tls done (s :: l) = false := by rw [symsFrom, h]; rfl
theorem symsFrom_clash {segs : List SegL} {tls : Int} {done : List SymL} {s : SymL} {l : List SymL} {q : Nat} {t : SymL} (ht : done[q]? = some t) (h : clashB s t = true) : symsFrom segs tls done (s :: l) = false := by
  have : (done.all fun t => !clashB s t) = false := by rw [List.all_eq_false]; exact ⟨t, List.mem_of_getElem? ht, by simp [h]⟩
  rw [symsFrom, this]; simp
theorem symsFrom_ok {segs : List SegL} {tls : Int} {done : List SymL} {s : SymL} {l : List SymL} (h : symB segs tls s = true) (h2 : (done.all fun t => !clashB s t) = true) : symsFrom segs tls done (s :: l) = symsFrom segs tls (done ++ [s]) l := by rw [symsFrom, h, h2]; rfl
theorem take_snoc {α : Type} (l : List α) (k : Nat) (x : α) (hx : l[k]? = some x) : l.take (k + 1) = l.take k ++ [x] := by
  obtain ⟨h, rfl⟩ := List.getElem?_eq_some_iff.1 hx
  rw [List.take_succ_eq_append_getElem h]
theorem symB_right {segs : List SegL} {tls : Int} {s : SymL} (h : symRightB s = false) : symB segs tls s = false := by rw [symB, h]; rfl
theorem symB_free {segs : List SegL} {tls : Int} {s : SymL} (h : symRightB s = true) (hd : s.defined = false) : symB segs tls s = true := by rw [symB, h, hd]; rfl
theorem symB_tls {segs : List SegL} {tls : Int} {s : SymL} (h : symRightB s = true) (hd : s.defined = true) (hk : s.kind = 3) : symB segs tls s = (decide (s.size ≤ tls) && decide (s.value ≤ tls - s.size)) := by rw [symB, h, hd, if_pos hk]; rfl
theorem symB_holds {segs : List SegL} {tls : Int} {s : SymL} (h : symRightB s = true) (hd : s.defined = true) (hk : s.kind ≠ 3) : symB segs tls s = holdsB segs s.value s.size 0 := by rw [symB, h, hd, if_neg hk]; rfl
theorem right_nums {s : SymL} (h : symRightB s = true) : 0 ≤ s.value ∧ 0 ≤ s.size := by
  simp only [symRightB, Bool.and_eq_true, decide_eq_true_eq] at h; omega
/-- the cells of a symbol that was loaded into a variable -/
abbrev symArr (s : SymL) : Array Value := #[.string ⟨s.name.toArray⟩, .string ⟨s.version.toArray⟩, .bool s.old, .int .i64 s.kind, .bool s.weak, .int .i64 s.vis, .bool s.defined, .int .i64 s.value, .int .i64 s.size]
set_option maxHeartbeats 16000000 in
set_option maxRecDepth 100000 in
theorem isyms_any (w : World) (v : ImgV) (im : ImgL) (hs : LB kSeg (· < w.heap.size) w v.segs im.segs) (hok : ∀ s ∈ im.segs, SegOk s) (hy : LB kSym (· < w.heap.size) w v.syms im.syms) (ht : 0 ≤ im.tlsSize ∧ im.tlsSize ≤ 4096) :
    Calls Try.prog 22 #[.agg (imgCells v im)] w fun e w' => e = .returned (.bool (symsB im)) ∧ Below w.heap.size w w' := by
  obtain ⟨sa, sb, soff, scap, hsv, hsm, hsc, hat⟩ := hy.at
  obtain ⟨vsegs, vneeded, vrunPath, vsyms, vbuckets, vwords, vrelocs, vslots, vinit, vfini, vtls⟩ := v
  simp only at hsv
  subst hsv
  have HH : Hid (∀ (w' : World) (x n : Int), Below w.heap.size w w' → (-9223372036854775808 ≤ x ∧ x ≤ 9223372036854775807) → (0 ≤ n ∧ n ≤ 9223372036854775807) →
    Calls Try.prog 59 #[.agg (imgCells ⟨vsegs, vneeded, vrunPath, .slice sa im.syms.length scap, vbuckets, vwords, vrelocs, vslots, vinit, vfini, vtls⟩ im), .agg #[.int .i64 x, .int .i64 n, .int .i64 0]] w' fun e w'' => e = .returned (.bool (holdsB im.segs x n 0)) ∧ Below w'.heap.size w' w'') := Lib.hid (fun w' x n hb hx hn => holds_any w' _ im x n 0 ((hs.below hb).mono hb.size) hok hx hn (by decide))
  unfold imgCells at *
  have Hat := Lib.hid hat
  have HD : Hid (symsB im = (decide (im.syms.length ≤ 512) && symsFrom im.segs im.tlsSize [] im.syms)) := Lib.hid rfl
  clear hs hok hat hy
  generalize hI : (Array.mk [.string ⟨im.name.toArray⟩, .int .i64 im.flags, vsegs, vneeded, vrunPath, .slice sa im.syms.length scap, vbuckets, vwords, .int .i64 im.shift, vrelocs, vslots, vinit, vfini, vtls, .int .i64 im.tlsSize] : Array Value) = I at HH
  have F0 := Lib.hid (heap_alloc_new w (.cells I 38 (0, 0)))
  have B1 := Lib.hid ((Below.refl w.heap.size w).alloc (Nat.le_refl _) (.cells I 38 (0, 0)))
  subst hI
  by_cases h5 : im.syms.length ≤ 512
  case neg =>
    have Hn : Hid (symsB im = false) := Lib.hid (by rw [HD.out, decide_eq_false (p := im.syms.length ≤ 512) h5]; rfl)
    have h6 : 512 < im.syms.length := by omega
    go_enter Try.func22, Try.ntmps22
    go_wp2
    go_ret
    exact ⟨by rw [Hn.out]; rfl, B1.out⟩
  have h6 : ¬ 512 < im.syms.length := by omega
  have Hse : Hid (symsB im = symsFrom im.segs im.tlsSize [] im.syms) := Lib.hid (by rw [HD.out, decide_eq_true (p := im.syms.length ≤ 512) h5]; rfl)
  clear HD
  go_enter Try.func22, Try.ntmps22
  go_wp2_with fail
  go_loopw [14] (fun i wr => ∃ (k : Nat), i = .int .i64 k ∧ k ≤ im.syms.length ∧ symsB im = symsFrom im.segs im.tlsSize (im.syms.take k) (im.syms.drop k) ∧ Below w.heap.size w wr ∧
    wr.heap[w.heap.size]? = some (.cells #[.string ⟨im.name.toArray⟩, .int .i64 im.flags, vsegs, vneeded, vrunPath, .slice sa im.syms.length scap, vbuckets, vwords, .int .i64 im.shift, vrelocs, vslots, vinit, vfini, vtls, .int .i64 im.tlsSize] 38 (0, 0)) ∧ w.heap.size < wr.heap.size) (fun i _ => im.syms.length - (intOf i).toNat)
  case atStart => exact ⟨0, rfl, Nat.zero_le _, by rw [Hse.out]; simp, B1.out, F0.out, by simp⟩
  case round =>
    obtain ⟨k, rfl, hk, hse, hbel, hF, hzq⟩ := hrel
    have Hse2 := Lib.hid hse
    have Hbel := Lib.hid hbel
    have HF := Lib.hid hF
    have hBr := hbel.size
    clear hse Hse
    by_cases hlt : k < im.syms.length
    · obtain rfl := Hat.out.addr (by omega)
      obtain ⟨s, hx⟩ : ∃ s, im.syms[k]? = some s := ⟨_, List.getElem?_eq_getElem hlt⟩
      obtain ⟨hso, g0, g1, g2, g3, g4, g5, g6, g7, g8⟩ := (Hat.out.below hbel).sym9 k s hx
      have Hdc := Lib.hid (drop_cons im.syms k s hx)
      have Htk := Lib.hid (take_snoc im.syms k s hx)
      have Hso := Lib.hid hso
      have hsb := World.block_lt_of_cell? _ _ g0
      have HRt := Lib.hid (fun w => vright_any w s hso)
      have HBs := Lib.hid (Hbel.out.alloc hBr (.cells (symArr s) 54 (0, 0)))
      have HFs := Lib.hid (heap_alloc_new wr (.cells (symArr s) 54 (0, 0)))
      have HFi := Lib.hid ((heap_alloc_old wr (.cells (symArr s) 54 (0, 0)) hzq).trans hF)
      unfold symArr at *
      clear hx hso hbel hF HF Hbel
      go_upto_block 2 with fail
      have hz1 : (wr.alloc (.cells #[.string ⟨s.name.toArray⟩, .string ⟨s.version.toArray⟩, .bool s.old, .int .i64 s.kind, .bool s.weak, .int .i64 s.vis, .bool s.defined, .int .i64 s.value, .int .i64 s.size] 54 (0, 0))).heap.size = wr.heap.size + 1 := by simp
      generalize wr.alloc (.cells #[.string ⟨s.name.toArray⟩, .string ⟨s.version.toArray⟩, .bool s.old, .int .i64 s.kind, .bool s.weak, .int .i64 s.vis, .bool s.defined, .int .i64 s.value, .int .i64 s.size] 54 (0, 0)) = w1 at *
      clear g0 g1 g2 g3 g4 g5 g6 g7 g8
      go_cut [3] (fun s3 wx => s3 = .int .i64 k ∧ symB im.segs im.tlsSize s = true ∧ Below w1.heap.size w1 wx)
      case first =>
        obtain ⟨c0, c1, c2, c3, c4, c5, c6, c7, c8⟩ := sym_cells HFs.out
        go_wp2_with fail
        refine (HRt.out w1).mono ?_
        rintro e w2 ⟨rfl, hb2⟩
        have hz2 := hb2.size
        have HFs2 := Lib.hid ((hb2.block wr.heap.size (by omega)).trans HFs.out)
        have HFi2 := Lib.hid ((hb2.block w.heap.size (by omega)).trans HFi.out)
        have HBs2 := Lib.hid (HBs.out.trans (hb2.mono (by omega)))
        have Hb2 := Lib.hid hb2
        clear hb2 c0 c1 c2 c3 c4 c5 c6 c7 c8 HRt
        cases hrt : symRightB s with
        | false =>
          have Hn : Hid (symsB im = false) := Lib.hid (by rw [Hse2.out, Hdc.out, symsFrom_bad (symB_right hrt)])
          rw [rightErr_bad hrt]
          clear hrt
          go_wp2
          go_ret
          exact ⟨by rw [Hn.out]; rfl, HBs2.out⟩
        | true =>
          have hnum := right_nums hrt
          have Hrt := Lib.hid hrt
          rw [rightErr_ok hrt]
          clear hrt
          obtain ⟨c0, c1, c2, c3, c4, c5, c6, c7, c8⟩ := sym_cells HFs2.out
          cases hd : s.defined with
          | false =>
            rw [hd] at c6
            have Hy := Lib.hid (symB_free (segs := im.segs) (tls := im.tlsSize) Hrt.out hd)
            clear hd
            go_wp2_with fail
            go_meet
            exact ⟨rfl, Hy.out, Hb2.out⟩
          | true =>
            rw [hd] at c6
            have Hdd := Lib.hid hd
            clear hd
            by_cases hk3 : s.kind = 3
            · have Hy := Lib.hid (symB_tls (segs := im.segs) (tls := im.tlsSize) Hrt.out Hdd.out hk3)
              obtain ⟨i0, i1, i2, i3, i4, i5, i6, i7, i8, i9, i10, i11, i12, i13, i14⟩ := img_cells HFi2.out
              have hbk : (s.kind == 3) = true := by rw [beq_iff_eq]; exact hk3
              have hso1 := Hso.out.value
              have hso2 := Hso.out.size
              clear i0 i1 i2 i3 i4 i5 i6 i7 i8 i9 i10 i11 i12 i13 hk3
              by_cases hA : s.size ≤ im.tlsSize
              · by_cases hB : s.value ≤ im.tlsSize - s.size
                · have Hy2 : Hid (symB im.segs im.tlsSize s = true) := Lib.hid (by rw [Hy.out]; simp [hA, hB])
                  have hA2 : ¬ im.tlsSize < s.size := by omega
                  have hB2 : ¬ im.tlsSize - s.size < s.value := by omega
                  go_wp2_with fail
                  go_meet
                  exact ⟨rfl, Hy2.out, Hb2.out⟩
                · have Hn : Hid (symsB im = false) := Lib.hid (by rw [Hse2.out, Hdc.out, symsFrom_bad (by rw [Hy.out]; simp [hB])])
                  have hA2 : ¬ im.tlsSize < s.size := by omega
                  have hB2 : im.tlsSize - s.size < s.value := by omega
                  go_wp2
                  go_ret
                  exact ⟨by rw [Hn.out]; rfl, HBs2.out⟩
              · have Hn : Hid (symsB im = false) := Lib.hid (by rw [Hse2.out, Hdc.out, symsFrom_bad (by rw [Hy.out]; simp [hA])])
                have hA2 : im.tlsSize < s.size := by omega
                go_wp2
                go_ret
                exact ⟨by rw [Hn.out]; rfl, HBs2.out⟩
            · have Hy := Lib.hid (symB_holds (segs := im.segs) (tls := im.tlsSize) Hrt.out Hdd.out hk3)
              obtain ⟨i0, i1, i2, i3, i4, i5, i6, i7, i8, i9, i10, i11, i12, i13, i14⟩ := img_cells HFi2.out
              have hbk : (s.kind == 3) = false := by rw [beq_eq_false_iff_ne]; exact hk3
              have HHx := Lib.hid (HH.out w2 s.value s.size (HBs2.out) Hso.out.value ⟨hnum.2, Hso.out.size.2⟩)
              go_wp2_with fail
              refine HHx.out.mono ?_
              rintro e w3 ⟨rfl, hb3⟩
              have Hb3 := Lib.hid hb3
              clear hb3 i0 i1 i2 i3 i4 i5 i6 i7 i8 i9 i10 i11 i12 i13 i14 HHx
              cases hh : holdsB im.segs s.value s.size 0 with
              | true =>
                have Hy2 : Hid (symB im.segs im.tlsSize s = true) := Lib.hid (by rw [Hy.out, hh])
                clear hh
                go_wp2_with fail
                go_meet
                exact ⟨rfl, Hy2.out, Hb2.out.trans (Hb3.out.mono (by omega))⟩
              | false =>
                have Hn : Hid (symsB im = false) := Lib.hid (by rw [Hse2.out, Hdc.out, symsFrom_bad (by rw [Hy.out, hh])])
                clear hh
                go_wp2
                go_ret
                exact ⟨by rw [Hn.out]; rfl, HBs2.out.trans (Hb3.out.mono (by omega))⟩
      case rest =>
        obtain ⟨rfl, hyb, hbc⟩ := hcut
        have Hyb := Lib.hid hyb
        have hzc := hbc.size
        have hFic := (hbc.block w.heap.size (by omega)).trans HFi.out
        obtain ⟨i0, i1, i2, i3, i4, i5, i6, i7, i8, i9, i10, i11, i12, i13, i14⟩ := img_cells hFic
        have Hbc := Lib.hid hbc
        clear hyb hbc hFic i0 i1 i2 i3 i4 i6 i7 i8 i9 i10 i11 i12 i13 i14 HRt
        generalize wr.heap.size = zr at *
        go_wp2_with fail
        go_loopw [60] (fun i wi => ∃ (q : Nat), i = .int .i64 q ∧ q ≤ k ∧ (im.syms.take q).all (fun t => !clashB s t) = true ∧ Below w1.heap.size w1 wi) (fun i _ => k - (intOf i).toNat)
        case atStart => exact ⟨0, rfl, Nat.zero_le _, rfl, Hbc.out⟩
        case round =>
          obtain ⟨q, rfl, hq, hall, hbi⟩ := hrel
          have Hall := Lib.hid hall
          have Hbi := Lib.hid hbi
          have hzi := hbi.size
          clear hall
          by_cases hlt2 : q < k
          · obtain ⟨t, hxt⟩ : ∃ t, im.syms[q]? = some t := ⟨_, List.getElem?_eq_getElem (by omega)⟩
            obtain ⟨_, g0, g1, g2, g3, g4, g5, g6, g7, g8⟩ := (Hat.out.below (HBs.out.trans (hbi.mono (by omega)))).sym9 q t hxt
            have Hsq := Lib.hid (all_take_snoc (fun t => !clashB s t) im.syms q t hxt)
            have Hcl := Lib.hid (fun h => symsFrom_clash (segs := im.segs) (tls := im.tlsSize) (done := im.syms.take k) (s := s) (l := im.syms.drop (k + 1)) (q := q) (t := t) (by rw [List.getElem?_take]; simp [hlt2, hxt]) h)
            obtain ⟨c0, c1, c2, c3, c4, c5, c6, c7, c8⟩ := sym_cells ((hbi.block zr (by omega)).trans HFs.out)
            have hsbw := World.block_lt_of_cell? _ _ g0
            have hsw := World.block_lt_of_cell? _ _ c0
            have Hbt := Lib.hid (hbi.alloc hzi (.cells #[.string ⟨t.name.toArray⟩, .string ⟨t.version.toArray⟩, .bool t.old, .int .i64 t.kind, .bool t.weak, .int .i64 t.vis, .bool t.defined, .int .i64 t.value, .int .i64 t.size] 54 (0, 0)))
            have cs0 := (World.cell?_alloc_lt wr (.cells #[.string ⟨t.name.toArray⟩, .string ⟨t.version.toArray⟩, .bool t.old, .int .i64 t.kind, .bool t.weak, .int .i64 t.vis, .bool t.defined, .int .i64 t.value, .int .i64 t.size] 54 (0, 0)) ⟨zr, 0, none⟩ hsw).trans c0
            have cs1 := (World.cell?_alloc_lt wr (.cells #[.string ⟨t.name.toArray⟩, .string ⟨t.version.toArray⟩, .bool t.old, .int .i64 t.kind, .bool t.weak, .int .i64 t.vis, .bool t.defined, .int .i64 t.value, .int .i64 t.size] 54 (0, 0)) ⟨zr, 1, none⟩ hsw).trans c1
            have cs2 := (World.cell?_alloc_lt wr (.cells #[.string ⟨t.name.toArray⟩, .string ⟨t.version.toArray⟩, .bool t.old, .int .i64 t.kind, .bool t.weak, .int .i64 t.vis, .bool t.defined, .int .i64 t.value, .int .i64 t.size] 54 (0, 0)) ⟨zr, 2, none⟩ hsw).trans c2
            have cs6 := (World.cell?_alloc_lt wr (.cells #[.string ⟨t.name.toArray⟩, .string ⟨t.version.toArray⟩, .bool t.old, .int .i64 t.kind, .bool t.weak, .int .i64 t.vis, .bool t.defined, .int .i64 t.value, .int .i64 t.size] 54 (0, 0)) ⟨zr, 6, none⟩ hsw).trans c6
            clear hxt hbi Hbi c0 c1 c2 c3 c4 c5 c6 c7 c8
            go_upto_region 17 with fail
            have HFt := heap_alloc_new wr (.cells #[.string ⟨t.name.toArray⟩, .string ⟨t.version.toArray⟩, .bool t.old, .int .i64 t.kind, .bool t.weak, .int .i64 t.vis, .bool t.defined, .int .i64 t.value, .int .i64 t.size] 54 (0, 0))
            generalize wr.alloc (.cells #[.string ⟨t.name.toArray⟩, .string ⟨t.version.toArray⟩, .bool t.old, .int .i64 t.kind, .bool t.weak, .int .i64 t.vis, .bool t.defined, .int .i64 t.value, .int .i64 t.size] 54 (0, 0)) = w5 at *
            obtain ⟨d0, d1, d2, d3, d4, d5, d6, d7, d8⟩ := sym_cells HFt
            clear HFt
            cases e1 : s.defined with
            | false =>
              rw [e1] at cs6
              have Hm : Hid (clashB s t = false) := Lib.hid (by unfold clashB; rw [e1]; rfl)
              have Hall2 : Hid ((im.syms.take (q + 1)).all (fun t => !clashB s t) = true) := Lib.hid (by rw [Hsq.out, Hall.out, Hm.out]; rfl)
              go_wp2
              go_roundw
              case rel => exact ⟨q + 1, by go_num, by omega, Hall2.out, Hbt.out⟩
              case measure => simp [intOf]; omega
            | true =>
            rw [e1] at cs6
            cases e2 : t.defined with
            | false =>
              rw [e2] at d6
              have Hm : Hid (clashB s t = false) := Lib.hid (by unfold clashB; rw [e1, e2]; rfl)
              have Hall2 : Hid ((im.syms.take (q + 1)).all (fun t => !clashB s t) = true) := Lib.hid (by rw [Hsq.out, Hall.out, Hm.out]; rfl)
              go_wp2
              go_roundw
              case rel => exact ⟨q + 1, by go_num, by omega, Hall2.out, Hbt.out⟩
              case measure => simp [intOf]; omega
            | true =>
            rw [e2] at d6
            by_cases e3 : s.name = t.name
            case neg =>
              have b3 : (s.name == t.name) = false := by rw [beq_eq_false_iff_ne]; exact e3
              have Hm : Hid (clashB s t = false) := Lib.hid (by unfold clashB; rw [decide_eq_false (p := s.name = t.name) e3]; simp)
              have Hall2 : Hid ((im.syms.take (q + 1)).all (fun t => !clashB s t) = true) := Lib.hid (by rw [Hsq.out, Hall.out, Hm.out]; rfl)
              go_wp2
              go_roundw
              case rel => exact ⟨q + 1, by go_num, by omega, Hall2.out, Hbt.out⟩
              case measure => simp [intOf]; omega
            have b3 : (s.name == t.name) = true := by rw [beq_iff_eq]; exact e3
            by_cases e4 : s.version = t.version
            case pos =>
              have b4 : (s.version == t.version) = true := by rw [beq_iff_eq]; exact e4
              have Hm : Hid (clashB s t = true) := Lib.hid (by unfold clashB; rw [e1, e2, decide_eq_true (p := s.name = t.name) e3, decide_eq_true (p := s.version = t.version) e4]; rfl)
              have Hn : Hid (symsB im = false) := Lib.hid (by rw [Hse2.out, Hdc.out, Hcl.out Hm.out])
              go_wp2
              go_ret
              exact ⟨by rw [Hn.out]; rfl, HBs.out.trans (Hbt.out.mono (by omega))⟩
            have b4 : (s.version == t.version) = false := by rw [beq_eq_false_iff_ne]; exact e4
            cases e5 : s.old with
            | true =>
              rw [e5] at cs2
              have Hm : Hid (clashB s t = false) := Lib.hid (by unfold clashB; rw [decide_eq_false (p := s.version = t.version) e4, e5]; simp)
              have Hall2 : Hid ((im.syms.take (q + 1)).all (fun t => !clashB s t) = true) := Lib.hid (by rw [Hsq.out, Hall.out, Hm.out]; rfl)
              go_wp2
              go_roundw
              case rel => exact ⟨q + 1, by go_num, by omega, Hall2.out, Hbt.out⟩
              case measure => simp [intOf]; omega
            | false =>
            rw [e5] at cs2
            cases e6 : t.old with
            | true =>
              rw [e6] at d2
              have Hm : Hid (clashB s t = false) := Lib.hid (by unfold clashB; rw [decide_eq_false (p := s.version = t.version) e4, e5, e6]; simp)
              have Hall2 : Hid ((im.syms.take (q + 1)).all (fun t => !clashB s t) = true) := Lib.hid (by rw [Hsq.out, Hall.out, Hm.out]; rfl)
              go_wp2
              go_roundw
              case rel => exact ⟨q + 1, by go_num, by omega, Hall2.out, Hbt.out⟩
              case measure => simp [intOf]; omega
            | false =>
              rw [e6] at d2
              have Hm : Hid (clashB s t = true) := Lib.hid (by unfold clashB; rw [e1, e2, decide_eq_true (p := s.name = t.name) e3, e5, e6]; simp)
              have Hn : Hid (symsB im = false) := Lib.hid (by rw [Hse2.out, Hdc.out, Hcl.out Hm.out])
              go_wp2
              go_ret
              exact ⟨by rw [Hn.out]; rfl, HBs.out.trans (Hbt.out.mono (by omega))⟩
          · have Hall2 : Hid ((im.syms.take k).all (fun t => !clashB s t) = true) := Lib.hid (by have := Hall.out; rwa [show q = k by omega] at this)
            have Hse3 : Hid (symsB im = symsFrom im.segs im.tlsSize (im.syms.take (k + 1)) (im.syms.drop (k + 1))) := Lib.hid (by rw [Hse2.out, Hdc.out, symsFrom_ok Hyb.out Hall2.out, Htk.out])
            have hFi3 := (hbi.block w.heap.size (by omega)).trans HFi.out
            clear hbi
            go_wp2
            go_roundw
            case rel => exact ⟨k + 1, by go_num, by omega, Hse3.out, HBs.out.trans (Hbi.out.mono (by omega)), hFi3, by omega⟩
            case measure => simp [intOf]; omega
    · have hd : Hid (symsB im = true) := Lib.hid (by rw [Hse2.out, List.drop_eq_nil_of_le (by omega)]; rfl)
      clear hbel hF
      go_wp2
      go_ret
      exact ⟨by rw [hd.out]; rfl, Hbel.out⟩

end Go.Proofs.Ytbliedldlimpgaa
