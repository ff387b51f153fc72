/- Lemmas that the claim is proved from: what calls of functions of the program come to (contracts), and plain laws. Each lemma bears its own conditions. -/
import Derived.Test.YtbliedldlimpgaaBas6
import Derived.IntWalk
import Derived.Deep.QuietTactic
import Derived.BigQuiet

namespace Go.Proofs.Ytbliedldlimpgaa
set_option linter.unusedVariables false
set_option linter.unusedSimpArgs false
open Go.RowKit

/-- what an image's value is, and what it reads as -/
structure ImgV where
  segs : Value
  needed : Value
  runPath : Value
  syms : Value
  buckets : Value
  words : Value
  relocs : Value
  slots : Value
  init : Value
  fini : Value
  tls : Value
/-- an image's fifteen cells -/
def imgCells (v : ImgV) (im : ImgL) : Array Value :=
  #[.string ⟨im.name.toArray⟩, .int .i64 im.flags, v.segs, v.needed, v.runPath, v.syms, v.buckets, v.words, .int .i64 im.shift, v.relocs, v.slots, v.init, v.fini, v.tls, .int .i64 im.tlsSize]

theorem any_take_succ {α : Type} (f : α → Bool) (l : List α) (k : Nat) (x : α) (hx : l[k]? = some x) (ha : (l.take k).any f = false) (hf : f x = false) : (l.take (k + 1)).any f = false := by
  obtain ⟨h, rfl⟩ := List.getElem?_eq_some_iff.1 hx
  rw [List.take_succ_eq_append_getElem h, List.any_append, ha]
  simp [hf]
theorem any_hit {α : Type} (f : α → Bool) (l : List α) (k : Nat) (x : α) (hx : l[k]? = some x) (hf : f x = true) : l.any f = true :=
  List.any_eq_true.2 ⟨x, List.mem_of_getElem? hx, hf⟩

/-- a segment that may be asked: its numbers are small -/
def SegOk (s : SegL) : Prop := 0 ≤ s.at_ ∧ s.at_ ≤ 65536 ∧ 1 ≤ s.size ∧ s.size ≤ 65536 ∧ 0 ≤ s.perm ∧ s.perm ≤ 7
def holdB (s : SegL) (at_ n p : Int) : Bool := decide (s.at_ ≤ at_) && decide (n ≤ s.size) && decide (at_ - s.at_ ≤ s.size - n) && permB s.perm p
theorem holdsB_any (l : List SegL) (at_ n p : Int) : holdsB l at_ n p = l.any fun s => holdB s at_ n p := rfl
theorem permB_bits (p q : Int) (h0 : 0 ≤ p) (h1 : p ≤ 7) (hq : q = 0 ∨ q = 2 ∨ q = 4) : (bits BinOp.and .i64 p q == q) = permB p q := by
  obtain ⟨n, rfl⟩ : ∃ n : Nat, p = n := ⟨p.toNat, by omega⟩
  have hn : n ≤ 7 := by omega
  have h : ∀ m : Nat, m ≤ 7 → (bits BinOp.and .i64 ((m : Nat) : Int) 0 == 0) = permB ((m : Nat) : Int) 0 ∧ (bits BinOp.and .i64 ((m : Nat) : Int) 2 == 2) = permB ((m : Nat) : Int) 2 ∧ (bits BinOp.and .i64 ((m : Nat) : Int) 4 == 4) = permB ((m : Nat) : Int) 4 := by decide +kernel
  rcases hq with rfl | rfl | rfl
  · exact (h n hn).1
  · exact (h n hn).2.1
  · exact (h n hn).2.2

set_option maxHeartbeats 8000000 in
set_option maxRecDepth 100000 in
theorem holds_any (w : World) (v : ImgV) (im : ImgL) (at_ n p : Int) (hs : LB kSeg (· < w.heap.size) w v.segs im.segs) (hok : ∀ s ∈ im.segs, SegOk s)
    (ha : -9223372036854775808 ≤ at_ ∧ at_ ≤ 9223372036854775807) (hn : 0 ≤ n ∧ n ≤ 9223372036854775807) (hp : p = 0 ∨ p = 2 ∨ p = 4) :
    Calls Try.prog 59 #[.agg (imgCells v im), .agg #[.int .i64 at_, .int .i64 n, .int .i64 p]] w fun e w' => e = .returned (.bool (holdsB im.segs at_ n p)) ∧ Below w.heap.size w w' := by
  rw [holdsB_any]
  unfold imgCells
  obtain ⟨sa, sb, soff, scap, hsv, hsm, hsc, hat⟩ := hs.at
  rw [hsv]
  have Hat := Lib.hid hat
  have Hok := Lib.hid hok
  have Hp := Lib.hid hp
  clear hs hat hok hp hsv
  go_enter Try.func59, Try.ntmps59
  go_wp2
  go_loopw [10] (fun i wr => ∃ (k : Nat), i = .int .i64 k ∧ k ≤ im.segs.length ∧ (im.segs.take k).any (fun s => holdB s at_ n p) = false ∧ Below w.heap.size w wr ∧ wr.heap[w.heap.size + 1]? = some (.cells #[.int .i64 at_, .int .i64 n, .int .i64 p] 111 (0, 0))) (fun i _ => im.segs.length - (intOf i).toNat)
  case atStart => exact ⟨0, rfl, Nat.zero_le _, rfl, ((Below.refl _ _).alloc (Nat.le_refl _) _).alloc (by simp) _, by simpa only [World.size_alloc] using heap_alloc_new (w.alloc _) _⟩
  case round =>
    obtain ⟨k, rfl, hk, hno, hbel, hq⟩ := hrel
    have Hno := Lib.hid hno
    have Hbel := Lib.hid hbel
    have Hq := Lib.hid hq
    have hBr := hbel.size
    by_cases hlt : k < im.segs.length
    · obtain rfl := Hat.out.addr (by omega)
      obtain ⟨s, hx⟩ : ∃ s, im.segs[k]? = some s := ⟨_, List.getElem?_eq_getElem hlt⟩
      obtain ⟨c, g0, g1, g2, g3, hc⟩ := (Hat.out.below hbel).seg4 k s hx
      obtain ⟨ca, cc, rfl⟩ := hc.form
      clear hc
      obtain ⟨o1, o2, o3, o4, o5, o6⟩ := Hok.out s (List.mem_of_getElem? hx)
      have q0 : wr.cell? ⟨w.heap.size + 1, 0, none⟩ = some (.int .i64 at_) := by rw [Lib.cell_of_heap hq]; rfl
      have q1 : wr.cell? ⟨w.heap.size + 1, 1, none⟩ = some (.int .i64 n) := by rw [Lib.cell_of_heap hq]; rfl
      have q2 : wr.cell? ⟨w.heap.size + 1, 2, none⟩ = some (.int .i64 p) := by rw [Lib.cell_of_heap hq]; rfl
      have hpb := permB_bits s.perm p o5 o6 Hp.out
      have Hhit : Hid (holdB s at_ n p = true → im.segs.any (fun s => holdB s at_ n p) = true) := Lib.hid (any_hit (fun s => holdB s at_ n p) _ k s hx)
      have Hmiss : Hid (holdB s at_ n p = false → (im.segs.take (k + 1)).any (fun s => holdB s at_ n p) = false) := Lib.hid (any_take_succ (fun s => holdB s at_ n p) _ k s hx Hno.out)
      have Hd : Hid (holdB s at_ n p = (decide (s.at_ ≤ at_) && decide (n ≤ s.size) && decide (at_ - s.at_ ≤ s.size - n) && permB s.perm p)) := Lib.hid rfl
      have hzq : w.heap.size + 1 < wr.heap.size := by
        rcases Nat.lt_or_ge (w.heap.size + 1) wr.heap.size with h' | h'
        · exact h'
        · rw [Array.getElem?_eq_none h'] at hq; cases hq
      clear hno hbel hq hx
      generalize holdB s at_ n p = hb at *
      generalize s.at_ = sat at *
      generalize s.size = ssz at *
      generalize s.perm = spm at *
      generalize permB spm p = pb at *
      by_cases h1 : sat ≤ at_
      · by_cases h2 : n ≤ ssz
        · by_cases h3 : at_ - sat ≤ ssz - n
          · cases pb with
            | true =>
              have Hh := Lib.hid (Hhit.out (by rw [Hd.out]; simp [h1, h2, h3]))
              go_wp2
              go_ret
              exact ⟨by rw [Hh.out]; rfl, Hbel.out.alloc hBr _⟩
            | false =>
              have Hm := Lib.hid (Hmiss.out (by rw [Hd.out]; simp))
              go_wp2
              go_roundw
              case rel => exact ⟨k + 1, by go_num, by omega, Hm.out, Hbel.out.alloc hBr _, by rw [Lib.alloc_old _ _ _ hzq]; exact Hq.out⟩
              case measure => simp [intOf]; omega
          · have Hm := Lib.hid (Hmiss.out (by rw [Hd.out]; simp [h3]))
            go_wp2
            go_roundw
            case rel => exact ⟨k + 1, by go_num, by omega, Hm.out, Hbel.out.alloc hBr _, by rw [Lib.alloc_old _ _ _ hzq]; exact Hq.out⟩
            case measure => simp [intOf]; omega
        · have Hm := Lib.hid (Hmiss.out (by rw [Hd.out]; simp [h2]))
          go_wp2
          go_roundw
          case rel => exact ⟨k + 1, by go_num, by omega, Hm.out, Hbel.out.alloc hBr _, by rw [Lib.alloc_old _ _ _ hzq]; exact Hq.out⟩
          case measure => simp [intOf]; omega
      · have Hm := Lib.hid (Hmiss.out (by rw [Hd.out]; simp [h1]))
        go_wp2
        go_roundw
        case rel => exact ⟨k + 1, by go_num, by omega, Hm.out, Hbel.out.alloc hBr _, by rw [Lib.alloc_old _ _ _ hzq]; exact Hq.out⟩
        case measure => simp [intOf]; omega
    · have Hn2 : Hid (im.segs.any (fun s => holdB s at_ n p) = false) := Lib.hid (by have := Hno.out; rw [List.take_of_length_le (by omega)] at this; exact this)
      clear hno hbel hq
      go_wp2
      go_ret
      exact ⟨by rw [Hn2.out]; rfl, Hbel.out⟩

end Go.Proofs.Ytbliedldlimpgaa

namespace Go.Proofs.Ytbliedldlimpgaa
set_option linter.unusedVariables false
set_option linter.unusedSimpArgs false
open Go.RowKit

theorem symAt_neg (im : ImgL) (i : Int) (h : i < 0) : symAt im i = none := by rw [symAt, if_pos h]
theorem symAt_far (im : ImgL) (i : Int) (h : (im.syms.length : Int) ≤ i) : symAt im i = none := by
  rw [symAt, if_neg (by omega)]
  exact List.getElem?_eq_none (by omega)
theorem symAt_in (im : ImgL) (k : Nat) (s : SymL) (h : im.syms[k]? = some s) : symAt im k = some s := by
  rw [symAt, if_neg (by omega), Int.toNat_natCast]; exact h
/-- no symbol at all -/
def noSym : SymL := ⟨[], [], false, 0, false, 0, false, 0, 0⟩
def symD (im : ImgL) (i : Int) : SymL := (symAt im i).getD noSym
/-- what sym answers -/
def symV (im : ImgL) (i : Int) : Value := .tuple #[.agg (symCells (symD im i)).toArray, .bool (symAt im i).isSome]

set_option maxHeartbeats 4000000 in
set_option maxRecDepth 100000 in
theorem isym_any (w : World) (v : ImgV) (im : ImgL) (i : Int) (hs : LB kSym (· < w.heap.size) w v.syms im.syms) (hi : -9223372036854775808 ≤ i ∧ i ≤ 9223372036854775807) :
    Calls Try.prog 69 #[.agg (imgCells v im), .int .i64 i] w fun e w' => e = .returned (symV im i) ∧ Below w.heap.size w w' := by
  unfold imgCells
  obtain ⟨sa, sb, soff, scap, hsv, hsm, hsc, hat⟩ := hs.at
  rw [hsv]
  have Hat := Lib.hid hat
  clear hs hat hsv
  by_cases h1 : i < 0
  · have Hv : Hid (symV im i = .tuple #[.agg #[.string ⟨#[]⟩, .string ⟨#[]⟩, .bool false, .int .i64 0, .bool false, .int .i64 0, .bool false, .int .i64 0, .int .i64 0], .bool false]) := Lib.hid (by rw [symV, symD, symAt_neg im i h1]; rfl)
    go_enter Try.func69, Try.ntmps69
    go_wp2
    refine bodyPost_ret (v := .tuple #[.agg #[.string ⟨#[]⟩, .string ⟨#[]⟩, .bool false, .int .i64 0, .bool false, .int .i64 0, .bool false, .int .i64 0, .int .i64 0], .bool false]) (by simp [results, Try.results69, go_sem]) rfl ⟨by rw [Hv.out], ((Below.refl _ _).alloc (Nat.le_refl _) _).alloc (by simp) _⟩
  by_cases h2 : (im.syms.length : Int) ≤ i
  · have Hv : Hid (symV im i = .tuple #[.agg #[.string ⟨#[]⟩, .string ⟨#[]⟩, .bool false, .int .i64 0, .bool false, .int .i64 0, .bool false, .int .i64 0, .int .i64 0], .bool false]) := Lib.hid (by rw [symV, symD, symAt_far im i h2]; rfl)
    go_enter Try.func69, Try.ntmps69
    go_wp2
    refine bodyPost_ret (v := .tuple #[.agg #[.string ⟨#[]⟩, .string ⟨#[]⟩, .bool false, .int .i64 0, .bool false, .int .i64 0, .bool false, .int .i64 0, .int .i64 0], .bool false]) (by simp [results, Try.results69, go_sem]) rfl ⟨by rw [Hv.out], ((Below.refl _ _).alloc (Nat.le_refl _) _).alloc (by simp) _⟩
  · obtain ⟨k, rfl⟩ : ∃ k : Nat, i = k := ⟨i.toNat, by omega⟩
    have hlt : k < im.syms.length := by omega
    obtain rfl := Hat.out.addr (by omega)
    obtain ⟨s, hx⟩ : ∃ s, im.syms[k]? = some s := ⟨_, List.getElem?_eq_getElem hlt⟩
    obtain ⟨_, g0, g1, g2, g3, g4, g5, g6, g7, g8⟩ := Hat.out.sym9 k s hx
    have Hv : Hid (symV im (k : Int) = .tuple #[.agg #[.string ⟨s.name.toArray⟩, .string ⟨s.version.toArray⟩, .bool s.old, .int .i64 s.kind, .bool s.weak, .int .i64 s.vis, .bool s.defined, .int .i64 s.value, .int .i64 s.size], .bool true]) := Lib.hid (by rw [symV, symD, symAt_in im k s hx]; rfl)
    have hsb := World.block_lt_of_cell? _ _ g0
    clear hx h1 h2
    obtain ⟨name, version, old, kind, weak, vis, defined, value, size⟩ := s
    simp only at *
    go_enter Try.func69, Try.ntmps69
    go_wp2
    refine bodyPost_ret (v := .tuple #[.agg #[.string ⟨name.toArray⟩, .string ⟨version.toArray⟩, .bool old, .int .i64 kind, .bool weak, .int .i64 vis, .bool defined, .int .i64 value, .int .i64 size], .bool true]) (by simp [results, Try.results69, go_sem]) rfl ⟨by rw [Hv.out], ((Below.refl _ _).alloc (Nat.le_refl _) _).alloc (by simp) _⟩

set_option maxHeartbeats 1000000 in
theorem ismall_any (w : World) (n : Int) :
    Calls Try.prog 66 #[.int .i64 n] w fun e w' => e = .returned (.bool (decide (-4294967296 ≤ n) && decide (n ≤ 4294967296))) ∧ w' = w := by
  by_cases h1 : -4294967296 ≤ n
  · have hd1 : decide (-4294967296 ≤ n) = true := by rw [decide_eq_true_eq]; exact h1
    go_enter Try.func66, Try.ntmps66
    go_wp2
    go_ret
    exact ⟨ret_bool' (by simp [h1]), rfl⟩
  · have hd1 : decide (-4294967296 ≤ n) = false := by rw [decide_eq_false_iff_not]; exact h1
    go_enter Try.func66, Try.ntmps66
    go_wp2
    go_ret
    exact ⟨ret_bool' (by simp [h1]), rfl⟩

theorem upL_same (n : Int) (h0 : 0 ≤ n) (h : n % 64 = 0) : upL n = n := by unfold upL; omega
theorem upL_next (n : Int) (h0 : 0 ≤ n) (h : n % 64 ≠ 0) : upL n = n - n % 64 + 64 := by unfold upL; omega
set_option maxHeartbeats 1000000 in
theorem jup_any (w : World) (n : Int) (h0 : 0 ≤ n) (h1 : n ≤ 1000000) :
    Calls Try.prog 72 #[.int .i64 n] w fun e w' => e = .returned (.int .i64 (upL n)) ∧ w' = w := by
  by_cases h : n % 64 = 0
  · have hb : (n % 64 == 0) = true := by rw [beq_iff_eq]; exact h
    have Hr := Lib.hid (upL_same n h0 h)
    clear h
    go_enter Try.func72, Try.ntmps72
    go_wp2
    go_ret
    exact ⟨by rw [Hr.out]; rfl, rfl⟩
  · have hb : (n % 64 == 0) = false := by rw [beq_eq_false_iff_ne]; exact h
    have Hr := Lib.hid (upL_next n h0 h)
    clear h
    go_enter Try.func72, Try.ntmps72
    go_wp2
    go_ret
    exact ⟨by rw [Hr.out]; rfl, rfl⟩

end Go.Proofs.Ytbliedldlimpgaa

namespace Go.Proofs.Ytbliedldlimpgaa
set_option linter.unusedVariables false
set_option linter.unusedSimpArgs false
open Go.RowKit

theorem hashL_app : ∀ (a b : List UInt8) (h : Int), hashL h (a ++ b) = hashL (hashL h a) b
  | [], _, _ => rfl
  | c :: a, b, h => hashL_app a b _
theorem hashL_snoc (h : Int) (p : List UInt8) (k : Nat) (c : UInt8) (hk : k < p.length) (hc : p[k] = c) : hashL h (p.take (k + 1)) = (33 * hashL h (p.take k) + c.toNat) % 4294967296 := by
  rw [List.take_succ_eq_append_getElem hk, hashL_app, hc]; rfl
theorem hashL_range : ∀ (l : List UInt8) (h : Int), 0 ≤ h ∧ h < 4294967296 → 0 ≤ hashL h l ∧ hashL h l < 4294967296
  | [], _, hh => hh
  | c :: l, h, hh => hashL_range l _ ⟨Int.emod_nonneg _ (by decide), Int.emod_lt_of_pos _ (by decide)⟩
theorem more_wrap (hh : Int) (c : UInt8) (h : 0 ≤ hh ∧ hh < 4294967296) : (IntKind.u64.wrap (hh * 33 + IntKind.u64.wrap (c.toNat : Int))).tmod 4294967296 = (33 * hh + (c.toNat : Int)) % 4294967296 := by
  have hc := c.toNat_lt
  have h1 : IntKind.u64.wrap (c.toNat : Int) = (c.toNat : Int) := IntWalk.u64_in _ ⟨by omega, by omega⟩
  have h2 : IntKind.u64.wrap (hh * 33 + (c.toNat : Int)) = hh * 33 + (c.toNat : Int) := IntWalk.u64_in _ ⟨by omega, by omega⟩
  rw [h1, h2, Int.tmod_eq_emod_of_nonneg (by omega), Int.mul_comm]
theorem hashB_range (s : List UInt8) : 0 ≤ hashB s ∧ hashB s < 4294967296 := hashL_range s 5381 (by decide)

set_option maxHeartbeats 4000000 in
set_option maxRecDepth 100000 in
theorem shash_any (w : World) (p : List UInt8) (hp : p.length ≤ 9223372036854775807) :
    Calls Try.prog 64 #[.string ⟨p.toArray⟩] w fun e w' => e = .returned (.int .u32 (hashB p)) ∧ w' = w := by
  have hsz := size_mk p
  go_enter Try.func64, Try.ntmps64
  go_wp2
  go_loop [3, 7] (fun h i => ∃ k : Nat, k ≤ p.length ∧ i = .int .i64 k ∧ h = .int .u32 (hashL 5381 (p.take k))) (fun _ i => p.length - (intOf i).toNat)
  case atStart => exact ⟨0, Nat.zero_le _, rfl, rfl⟩
  case round =>
    obtain ⟨k, hk, rfl, rfl⟩ := hrel
    by_cases hlt : k < p.length
    · obtain ⟨c, hcx⟩ : ∃ c, p[k] = c := ⟨_, rfl⟩
      have hx : (⟨p.toArray⟩ : ByteArray)[k]'(by omega) = c := hcx
      have Hs := Lib.hid (hashL_snoc 5381 p k c hlt hcx)
      have hr := hashL_range (p.take k) 5381 (by decide)
      clear hcx
      generalize hashL 5381 (p.take k) = hh at *
      go_wp2
      go_round
      case rel => exact ⟨k + 1, by omega, by go_num, by rw [Hs.out]; go_num⟩
      case measure => simp [intOf]; omega
    · have He : Hid (hashL 5381 (p.take k) = hashB p) := Lib.hid (by rw [List.take_of_length_le (by omega)]; rfl)
      go_wp2
      go_ret
      exact ⟨by rw [He.out]; rfl, rfl⟩

set_option maxHeartbeats 4000000 in
set_option maxRecDepth 100000 in
theorem jmore_any (w : World) (h0 : Int) (p : List UInt8) (hp : p.length ≤ 9223372036854775807) (hh0 : 0 ≤ h0 ∧ h0 < 4294967296) :
    Calls Try.prog 98 #[.int .u32 h0, .string ⟨p.toArray⟩] w fun e w' => e = .returned (.int .u32 (hashL h0 p)) ∧ w' = w := by
  have hsz := size_mk p
  go_enter Try.func98, Try.ntmps98
  go_wp2
  go_loop [5, 6] (fun h i => ∃ k : Nat, k ≤ p.length ∧ i = .int .i64 k ∧ h = .int .u64 (hashL h0 (p.take k))) (fun _ i => p.length - (intOf i).toNat)
  case atStart => exact ⟨0, Nat.zero_le _, rfl, by go_num⟩
  case round =>
    obtain ⟨k, hk, rfl, rfl⟩ := hrel
    have hr := hashL_range (p.take k) h0 hh0
    by_cases hlt : k < p.length
    · obtain ⟨c, hcx⟩ : ∃ c, p[k] = c := ⟨_, rfl⟩
      have hx : (⟨p.toArray⟩ : ByteArray)[k]'(by omega) = c := hcx
      have Hs := Lib.hid (hashL_snoc h0 p k c hlt hcx)
      clear hcx
      generalize hashL h0 (p.take k) = hh at *
      go_wp2
      go_round
      case rel => exact ⟨k + 1, by omega, by go_num, by rw [Hs.out, ← more_wrap hh c hr]⟩
      case measure => simp [intOf]; omega
    · have He : Hid (hashL h0 (p.take k) = hashL h0 p) := Lib.hid (by rw [List.take_of_length_le (by omega)])
      generalize hashL h0 (p.take k) = hh at *
      go_wp2
      go_ret
      exact ⟨by rw [← He.out]; go_num, rfl⟩

set_option maxHeartbeats 1000000 in
theorem jhash_any (w : World) (p : List UInt8) (hp : p.length ≤ 9223372036854775807) :
    Calls Try.prog 79 #[.string ⟨p.toArray⟩] w fun e w' => e = .returned (.int .u32 (hashB p)) ∧ w' = w := by
  go_enter Try.func79, Try.ntmps79
  go_wp2_with fail
  refine (jmore_any _ 5381 p hp (by decide)).mono ?_
  rintro e w2 ⟨rfl, rfl⟩
  go_wp2
  go_ret
  exact ⟨rfl, rfl⟩

end Go.Proofs.Ytbliedldlimpgaa

namespace Go.Proofs.Ytbliedldlimpgaa
set_option linter.unusedVariables false
set_option linter.unusedSimpArgs false
open Go.RowKit

def powB (n : Nat) : Bool := decide (n = 1) || decide (n = 2) || decide (n = 4) || decide (n = 8) || decide (n = 16) || decide (n = 32) || decide (n = 64)
theorem sieveB_pow (ws : List Int) (s : Int) : sieveB ws s = (powB ws.length && decide (1 ≤ s) && decide (s ≤ 31)) := rfl
theorem powB_bits (n : Nat) (h0 : 1 ≤ n) (h1 : n ≤ 64) : (bits BinOp.and .i64 (n : Int) ((n : Int) - 1) != 0) = !powB n := by
  have h : ∀ m : Nat, m ≤ 64 → 1 ≤ m → (bits BinOp.and .i64 (m : Int) ((m : Int) - 1) != 0) = !powB m := by decide +kernel
  exact h n h1 h0
theorem powB_small (n : Nat) (h : ¬ (1 ≤ n ∧ n ≤ 64)) : powB n = false := by simp [powB]; omega
/-- what sieve.Right answers -/
def sieveErr (ws : List Int) (s : Int) : Int := if sieveB ws s then 0 else 20
theorem sieveErr_ok {ws : List Int} {s : Int} (h : powB ws.length = true) (h1 : 1 ≤ s) (h2 : s ≤ 31) : sieveErr ws s = 0 := by rw [sieveErr, sieveB_pow, h]; simp [h1, h2]
theorem sieveErr_no {ws : List Int} {s : Int} (h : ¬ (powB ws.length = true ∧ 1 ≤ s ∧ s ≤ 31)) : sieveErr ws s = 20 := by
  have : sieveB ws s = false := by
    rw [sieveB_pow]
    cases hp : powB ws.length <;> simp
    by_cases h1 : 1 ≤ s
    · exact fun _ => by
        by_cases h2 : s ≤ 31
        · exact absurd ⟨hp, h1, h2⟩ h
        · omega
    · intro h3; omega
  rw [sieveErr, this]; rfl

set_option maxHeartbeats 8000000 in
set_option maxRecDepth 100000 in
theorem sright_any (w : World) (ws : List Int) (a : Option Addr) (c : Nat) (s : Int) (hz : ws.length ≤ 9223372036854775807) :
    Calls Try.prog 60 #[.agg #[.slice a ws.length c, .int .i64 s]] w fun e w' => e = .returned (.int .i64 (sieveErr ws s)) ∧ Below w.heap.size w w' := by
  have Hb := Lib.hid ((Below.refl w.heap.size w).alloc (Nat.le_refl _) (.cells #[.slice a ws.length c, .int .i64 s] 30 (0, 0)))
  by_cases h1 : 1 ≤ ws.length
  case neg =>
    have Hr := Lib.hid (sieveErr_no (ws := ws) (s := s) (fun h => by have := h.1; rw [powB_small _ (by omega)] at this; cases this))
    have hl : ws.length < 1 := by omega
    go_enter Try.func60, Try.ntmps60
    go_wp2
    all_goals go_ret
    all_goals exact ⟨by rw [Hr.out]; rfl, Hb.out⟩
  by_cases h2 : ws.length ≤ 64
  case neg =>
    have Hr := Lib.hid (sieveErr_no (ws := ws) (s := s) (fun h => by have := h.1; rw [powB_small _ (by omega)] at this; cases this))
    have hl : ¬ ws.length < 1 := by omega
    have hl2 : 64 < ws.length := by omega
    go_enter Try.func60, Try.ntmps60
    go_wp2
    all_goals go_ret
    all_goals exact ⟨by rw [Hr.out]; rfl, Hb.out⟩
  have hl : ¬ ws.length < 1 := by omega
  have hl2 : ¬ 64 < ws.length := by omega
  have hbits := powB_bits ws.length h1 h2
  cases hp : powB ws.length with
  | false =>
    have Hr := Lib.hid (sieveErr_no (ws := ws) (s := s) (fun h => by have := h.1; rw [hp] at this; cases this))
    rw [hp] at hbits
    clear hp
    simp only [Bool.not_false] at hbits
    go_enter Try.func60, Try.ntmps60
    go_wp2
    all_goals go_ret
    all_goals exact ⟨by rw [Hr.out]; rfl, Hb.out⟩
  | true =>
    have Hy := Lib.hid (fun h3 h4 => sieveErr_ok (ws := ws) (s := s) hp h3 h4)
    have Hn := Lib.hid (fun h3 => sieveErr_no (ws := ws) (s := s) h3)
    rw [hp] at hbits
    clear hp
    simp only [Bool.not_true] at hbits
    by_cases h3 : s < 1
    · have Hr := Lib.hid (Hn.out (fun h => by omega))
      go_enter Try.func60, Try.ntmps60
      go_wp2
      all_goals go_ret
      all_goals exact ⟨by rw [Hr.out]; rfl, Hb.out⟩
    by_cases h4 : 31 < s
    · have Hr := Lib.hid (Hn.out (fun h => by omega))
      go_enter Try.func60, Try.ntmps60
      go_wp2
      all_goals go_ret
      all_goals exact ⟨by rw [Hr.out]; rfl, Hb.out⟩
    · have Hr := Lib.hid (Hy.out (by omega) (by omega))
      go_enter Try.func60, Try.ntmps60
      go_wp2
      all_goals go_ret
      all_goals exact ⟨by rw [Hr.out]; rfl, Hb.out⟩

end Go.Proofs.Ytbliedldlimpgaa

namespace Go.Proofs.Ytbliedldlimpgaa
set_option linter.unusedVariables false
set_option linter.unusedSimpArgs false
open Go.RowKit

theorem powB_iff (n : Nat) : powB n = true ↔ (n = 1 ∨ n = 2 ∨ n = 4 ∨ n = 8 ∨ n = 16 ∨ n = 32 ∨ n = 64) := by
  simp only [powB, Bool.or_eq_true, decide_eq_true_eq]; omega
theorem powB_next {n k : Nat} (hk : k = 1 ∨ k = 2 ∨ k = 4 ∨ k = 8 ∨ k = 16 ∨ k = 32 ∨ k = 64 ∨ k = 128) (h : powB n = true → k ≤ n) (hn : n ≠ k) : powB n = true → k * 2 ≤ n := by
  intro hp
  have h1 := h hp
  rw [powB_iff] at hp
  omega
theorem powB_at {n k : Nat} (hk : k = 1 ∨ k = 2 ∨ k = 4 ∨ k = 8 ∨ k = 16 ∨ k = 32 ∨ k = 64 ∨ k = 128) (h2 : k ≤ 64) (hn : n = k) : powB n = true := by rw [powB_iff]; omega
theorem powB_end {n k : Nat} (h : powB n = true → k ≤ n) (h2 : ¬ k ≤ 64) : powB n = false := by
  cases hp : powB n with
  | false => rfl
  | true =>
    have h1 := h hp
    rw [powB_iff] at hp
    omega

set_option maxHeartbeats 4000000 in
set_option maxRecDepth 100000 in
theorem jwords_any (w : World) (n : Nat) (hz : n ≤ 9223372036854775807) :
    Calls Try.prog 96 #[.int .i64 n] w fun e w' => e = .returned (.bool (powB n)) ∧ w' = w := by
  go_enter Try.func96, Try.ntmps96
  go_wp2
  go_loop [3] (fun i => ∃ k : Nat, i = .int .i64 k ∧ (k = 1 ∨ k = 2 ∨ k = 4 ∨ k = 8 ∨ k = 16 ∨ k = 32 ∨ k = 64 ∨ k = 128) ∧ (powB n = true → k ≤ n)) (fun i => 200 - (intOf i).toNat)
  case atStart => exact ⟨1, rfl, Or.inl rfl, fun h => by rw [powB_iff] at h; omega⟩
  case round =>
    obtain ⟨k, rfl, hk, hp⟩ := hrel
    have Hk := Lib.hid hk
    have Hp := Lib.hid hp
    have hk0 : 1 ≤ k ∧ k ≤ 128 := by omega
    clear hk hp
    by_cases h1 : k ≤ 64
    · by_cases h2 : n = k
      · have Hr := Lib.hid (powB_at Hk.out h1 h2)
        have hb : ((n : Int) == (k : Int)) = true := by rw [beq_iff_eq]; omega
        clear h2
        go_wp2
        go_ret
        exact ⟨by rw [Hr.out]; rfl, rfl⟩
      · have Hq := Lib.hid (powB_next Hk.out Hp.out h2)
        have hb : ((n : Int) == (k : Int)) = false := by rw [beq_eq_false_iff_ne]; omega
        clear h2
        go_wp2
        go_round
        case rel => exact ⟨k * 2, by go_num, by have := Hk.out; omega, Hq.out⟩
        case measure => simp [intOf]; omega
    · have Hr := Lib.hid (powB_end Hp.out h1)
      go_wp2
      go_ret
      exact ⟨by rw [Hr.out]; rfl, rfl⟩

set_option maxHeartbeats 8000000 in
set_option maxRecDepth 100000 in
theorem jfright_any (w : World) (ws : List Int) (a : Option Addr) (c : Nat) (s : Int) (hz : ws.length ≤ 9223372036854775807) :
    Calls Try.prog 74 #[.agg #[.slice a ws.length c, .int .i64 s]] w fun e w' => e = .returned (.bool (sieveB ws s)) ∧ Below w.heap.size w w' := by
  have Hb := Lib.hid ((Below.refl w.heap.size w).alloc (Nat.le_refl _) (.cells #[.slice a ws.length c, .int .i64 s] 30 (0, 0)))
  have Hd := Lib.hid (sieveB_pow ws s)
  go_enter Try.func74, Try.ntmps74
  go_wp2_with fail
  refine (jwords_any _ ws.length hz).mono ?_
  rintro e w2 ⟨rfl, rfl⟩
  cases hp : powB ws.length with
  | false =>
    have Hr : Hid (sieveB ws s = false) := Lib.hid (by rw [Hd.out, hp]; rfl)
    clear hp
    go_wp2
    all_goals go_ret
    all_goals exact ⟨by rw [Hr.out]; rfl, Hb.out⟩
  | true =>
    have Hr : Hid (sieveB ws s = (decide (1 ≤ s) && decide (s ≤ 31))) := Lib.hid (by rw [Hd.out, hp]; simp)
    clear hp
    by_cases h3 : 1 ≤ s
    · by_cases h4 : s ≤ 31
      · have Hr2 : Hid (sieveB ws s = true) := Lib.hid (by rw [Hr.out]; simp [h3, h4])
        go_wp2
        all_goals go_ret
        all_goals exact ⟨by rw [Hr2.out]; rfl, Hb.out⟩
      · have Hr2 : Hid (sieveB ws s = decide (s ≤ 31)) := Lib.hid (by rw [Hr.out]; simp [h3])
        have h5 : 31 < s := by omega
        go_wp2
        all_goals go_ret
        all_goals exact ⟨by rw [Hr2.out]; rfl, Hb.out⟩
    · have Hr2 : Hid (sieveB ws s = false) := Lib.hid (by rw [Hr.out]; simp [h3])
      go_wp2
      all_goals go_ret
      all_goals exact ⟨by rw [Hr2.out]; rfl, Hb.out⟩

end Go.Proofs.Ytbliedldlimpgaa

namespace Go.Proofs.Ytbliedldlimpgaa
set_option linter.unusedVariables false
set_option linter.unusedSimpArgs false
open Go.RowKit

theorem homeL_int (p : List UInt8) (n : Nat) : ((homeL p n : Nat) : Int) = hashB p % (n : Int) := by
  have h := (hashB_range p).1
  rw [homeL, Int.natCast_emod, Int.toNat_of_nonneg h]
theorem homeL_lt (p : List UInt8) (n : Nat) (h : 1 ≤ n) : homeL p n < n := Nat.mod_lt _ (by omega)

set_option maxHeartbeats 2000000 in
theorem jhome_any (w : World) (p : List UInt8) (n : Nat) (hp : p.length ≤ 9223372036854775807) (h1 : 1 ≤ n) (h2 : n ≤ 512) :
    Calls Try.prog 77 #[.string ⟨p.toArray⟩, .int .i64 n] w fun e w' => e = .returned (.int .i64 (homeL p n)) ∧ w' = w := by
  have hr := hashB_range p
  have hh := Lib.hid (homeL_int p n)
  have hlt := homeL_lt p n h1
  have hn0 : ((n : Int) == 0) = false := by rw [beq_eq_false_iff_ne]; omega
  have HJ := jhash_any w p hp
  generalize hashB p = g at *
  have ht : g.tmod (n : Int) = g % (n : Int) := Int.tmod_eq_emod_of_nonneg hr.1
  have hm0 : 0 ≤ g % (n : Int) := Int.emod_nonneg _ (by omega)
  have hm1 : g % (n : Int) < n := Int.emod_lt_of_pos _ (by omega)
  have hg : IntKind.u64.wrap g = g := IntWalk.u64_in _ ⟨by omega, by omega⟩
  have hnn : IntKind.u64.wrap (n : Int) = (n : Int) := IntWalk.u64_in _ ⟨by omega, by omega⟩
  go_enter Try.func77, Try.ntmps77
  go_wp2_with fail
  refine HJ.mono ?_
  rintro e w2 ⟨rfl, rfl⟩
  go_wp2
  go_ret
  refine ⟨?_, rfl⟩
  rw [hh.out]
  rfl

set_option maxHeartbeats 2000000 in
theorem jpower_any (w : World) (n : Nat) (h : n ≤ 63) :
    Calls Try.prog 92 #[.int .u32 n] w fun e w' => e = .returned (.int .u64 ((2 ^ n : Nat) : Int)) ∧ w' = w := by
  go_enter Try.func92, Try.ntmps92
  go_wp2
  go_loop [3, 4] (fun x i => ∃ k : Nat, k ≤ n ∧ i = .int .u32 k ∧ x = .int .u64 ((2 ^ k : Nat) : Int)) (fun _ i => n - (intOf i).toNat)
  case atStart => exact ⟨0, Nat.zero_le _, rfl, rfl⟩
  case round =>
    obtain ⟨k, hk, rfl, rfl⟩ := hrel
    by_cases hlt : k < n
    · have hP : 2 ^ k ≤ 4611686018427387904 := Nat.le_trans (Nat.pow_le_pow_right (by decide) (show k ≤ 62 by omega)) (by decide)
      have Hn := Lib.hid (Nat.pow_succ 2 k)
      generalize 2 ^ k = P at *
      go_wp2
      go_round
      case rel => exact ⟨k + 1, by omega, by go_num, by rw [Hn.out]; go_num⟩
      case measure => simp [intOf]; omega
    · have He : Hid (2 ^ k = 2 ^ n) := Lib.hid (by rw [show k = n by omega])
      generalize 2 ^ k = P at *
      go_wp2
      go_ret
      refine ⟨?_, rfl⟩
      show Ending.returned (.int .u64 (P : Int)) = _
      rw [He.out, Int.natCast_pow]
      rfl

set_option maxHeartbeats 2000000 in
theorem jshifted_any (w : World) (h : Nat) (n : Nat) (hh : h < 4294967296) (hn : n ≤ 64) :
    Calls Try.prog 55 #[.int .u32 h, .int .i64 n] w fun e w' => e = .returned (.int .u32 ((h / 2 ^ n : Nat) : Int)) ∧ w' = w := by
  go_enter Try.func55, Try.ntmps55
  go_wp2
  go_loop [0, 5] (fun x i => ∃ k : Nat, k ≤ n ∧ i = .int .i64 k ∧ x = .int .u32 ((h / 2 ^ k : Nat) : Int)) (fun _ i => n - (intOf i).toNat)
  case atStart => exact ⟨0, Nat.zero_le _, rfl, by simp⟩
  case round =>
    obtain ⟨k, hk, rfl, rfl⟩ := hrel
    have hP : h / 2 ^ k < 4294967296 := Nat.lt_of_le_of_lt (Nat.div_le_self _ _) hh
    by_cases hlt : k < n
    · have Hn : Hid (h / 2 ^ (k + 1) = h / 2 ^ k / 2) := Lib.hid (by rw [Nat.pow_succ, Nat.div_div_eq_div_mul])
      generalize h / 2 ^ k = P at *
      go_wp2
      go_round
      case rel => exact ⟨k + 1, by omega, by go_num, by rw [Hn.out]; go_num⟩
      case measure => simp [intOf]; omega
    · have He : Hid (h / 2 ^ k = h / 2 ^ n) := Lib.hid (by rw [show k = n by omega])
      generalize h / 2 ^ k = P at *
      go_wp2
      go_ret
      refine ⟨?_, rfl⟩
      show Ending.returned (.int .u32 (P : Int)) = _
      rw [He.out, Int.natCast_ediv, Int.natCast_pow]
      rfl

end Go.Proofs.Ytbliedldlimpgaa

namespace Go.Proofs.Ytbliedldlimpgaa
set_option linter.unusedVariables false
set_option linter.unusedSimpArgs false
open Go.RowKit

theorem bitB_yes {m P k : Nat} (hP : P = 2 ^ k) (h : m / P % 2 = 1) : bitB (m : Int) k = true := by
  rw [bitB, Int.toNat_natCast, ← hP, h]; rfl
theorem bitB_no {m P k : Nat} (hP : P = 2 ^ k) (h : ¬ m / P % 2 = 1) : bitB (m : Int) k = false := by
  rw [bitB, Int.toNat_natCast, ← hP, beq_eq_false_iff_ne]; exact h

set_option maxHeartbeats 2000000 in
theorem jhas_any (w : World) (m k : Nat) (hm : m < 18446744073709551616) (hk : k ≤ 63) :
    Calls Try.prog 91 #[.int .u64 m, .int .u32 k] w fun e w' => e = .returned (.bool (bitB (m : Int) k)) ∧ w' = w := by
  have HP := jpower_any w k hk
  have Hy := Lib.hid (@bitB_yes m (2 ^ k) k rfl)
  have Hn := Lib.hid (@bitB_no m (2 ^ k) k rfl)
  have hp : 1 ≤ 2 ^ k := Nat.one_le_two_pow
  have hp2 : 2 ^ k ≤ 9223372036854775808 := Nat.le_trans (Nat.pow_le_pow_right (by decide) hk) (by decide)
  generalize 2 ^ k = P at *
  have hp0 : ((P : Int) == 0) = false := by rw [beq_eq_false_iff_ne]; omega
  have hq : ((m / P : Nat) : Int) = (m : Int) / (P : Int) := Int.natCast_ediv m P
  have hqb : m / P ≤ m := Nat.div_le_self _ _
  generalize m / P = q at *
  go_enter Try.func91, Try.ntmps91
  go_wp2_with fail
  refine HP.mono ?_
  rintro e w2 ⟨rfl, rfl⟩
  by_cases h1 : q % 2 = 1
  · have Hr := Lib.hid (Hy.out h1)
    have hd : ((m : Int) / (P : Int) % 2 == 1) = true := by rw [beq_iff_eq]; omega
    go_wp2
    go_ret
    exact ⟨by rw [Hr.out]; rfl, rfl⟩
  · have Hr := Lib.hid (Hn.out h1)
    have hd : ((m : Int) / (P : Int) % 2 == 1) = false := by rw [beq_eq_false_iff_ne]; omega
    go_wp2
    go_ret
    exact ⟨by rw [Hr.out]; rfl, rfl⟩

end Go.Proofs.Ytbliedldlimpgaa

namespace Go.Proofs.Ytbliedldlimpgaa
set_option linter.unusedVariables false
set_option linter.unusedSimpArgs false
open Go.RowKit

set_option maxHeartbeats 8000000 in
set_option maxRecDepth 100000 in
theorem tbucket_any (w : World) (ba : Option Addr) (n bc : Nat) (vw : Value) (s : Int) (p : List UInt8) (hp : p.length ≤ 9223372036854775807) (h1 : 1 ≤ n) (h2 : n ≤ 512) :
    Calls Try.prog 62 #[.agg #[.slice ba n bc, vw, .int .i64 s], .string ⟨p.toArray⟩] w fun e w' => e = .returned (.int .i64 (homeL p n)) ∧ Below w.heap.size w w' := by
  have hr := hashB_range p
  have hh := Lib.hid (homeL_int p n)
  have hn0 : ((n : Int) == 0) = false := by rw [beq_eq_false_iff_ne]; omega
  have HJ := Lib.hid (fun w => shash_any w p hp)
  have Hb := Lib.hid ((Below.refl w.heap.size w).alloc (Nat.le_refl _) (.cells #[.slice ba n bc, vw, .int .i64 s] 32 (0, 0)))
  generalize hashB p = g at *
  have ht : g.tmod (n : Int) = g % (n : Int) := Int.tmod_eq_emod_of_nonneg hr.1
  have hm0 : 0 ≤ g % (n : Int) := Int.emod_nonneg _ (by omega)
  have hm1 : g % (n : Int) < n := Int.emod_lt_of_pos _ (by omega)
  have hnn : IntKind.u32.wrap (n : Int) = (n : Int) := by rw [IntKind.wrap]; simp [IntKind.bits, IntKind.signed]; omega
  go_enter Try.func62, Try.ntmps62
  go_wp2_with fail
  go_quiet ((go_at_call 64; exact Calls.quiet_of_same (HJ.out _)))
  go_wp2
  go_ret
  exact ⟨by rw [hh.out]; rfl, below_drewN Hb.out _⟩

end Go.Proofs.Ytbliedldlimpgaa

namespace Go.Proofs.Ytbliedldlimpgaa
set_option linter.unusedVariables false
set_option linter.unusedSimpArgs false
open Go.RowKit

/-- an image's cells in a block -/
theorem img_cells {x : World} {b : Nat} {c0 c1 c2 c3 c4 c5 c6 c7 c8 c9 c10 c11 c12 c13 c14 : Value} (h : x.heap[b]? = some (.cells #[c0, c1, c2, c3, c4, c5, c6, c7, c8, c9, c10, c11, c12, c13, c14] 38 (0, 0))) :
    x.cell? ⟨b, 0, none⟩ = some c0 ∧ x.cell? ⟨b, 1, none⟩ = some c1 ∧ x.cell? ⟨b, 2, none⟩ = some c2 ∧ x.cell? ⟨b, 3, none⟩ = some c3 ∧ x.cell? ⟨b, 4, none⟩ = some c4 ∧ x.cell? ⟨b, 5, none⟩ = some c5 ∧ x.cell? ⟨b, 6, none⟩ = some c6 ∧ x.cell? ⟨b, 7, none⟩ = some c7 ∧
    x.cell? ⟨b, 8, none⟩ = some c8 ∧ x.cell? ⟨b, 9, none⟩ = some c9 ∧ x.cell? ⟨b, 10, none⟩ = some c10 ∧ x.cell? ⟨b, 11, none⟩ = some c11 ∧ x.cell? ⟨b, 12, none⟩ = some c12 ∧ x.cell? ⟨b, 13, none⟩ = some c13 ∧ x.cell? ⟨b, 14, none⟩ = some c14 := by
  refine ⟨?_, ?_, ?_, ?_, ?_, ?_, ?_, ?_, ?_, ?_, ?_, ?_, ?_, ?_, ?_⟩ <;> (rw [Lib.cell_of_heap h]; rfl)

theorem wideL_none {im : ImgL} {r : RelL} (h : symAt im r.sym = none) : wideL im r = 8 := by rw [wideL, h]
theorem wideL_some {im : ImgL} {r : RelL} {s : SymL} (h : symAt im r.sym = some s) : wideL im r = if r.kind = 2 then s.size else 8 := by rw [wideL, h]

set_option maxHeartbeats 4000000 in
set_option maxRecDepth 100000 in
theorem iwide_any (w : World) (v : ImgV) (im : ImgL) (r : RelL) (hs : LB kSym (· < w.heap.size) w v.syms im.syms) (hi : -9223372036854775808 ≤ r.sym ∧ r.sym ≤ 9223372036854775807) :
    Calls Try.prog 68 #[.agg (imgCells v im), .agg #[.int .i64 r.at_, .int .i64 r.kind, .int .i64 r.sym, .int .i64 r.add]] w fun e w' => e = .returned (.int .i64 (wideL im r)) ∧ Below w.heap.size w w' := by
  have B1 := Lib.hid (((Below.refl w.heap.size w).alloc (Nat.le_refl _) (.cells (imgCells v im) 38 (0, 0))).alloc (by simp) (.cells #[.int .i64 r.at_, .int .i64 r.kind, .int .i64 r.sym, .int .i64 r.add] 57 (0, 0)))
  have hsv := hs.form
  have HS := Lib.hid (isym_any ((w.alloc (.cells (imgCells v im) 38 (0, 0))).alloc (.cells #[.int .i64 r.at_, .int .i64 r.kind, .int .i64 r.sym, .int .i64 r.add] 57 (0, 0))) v im r.sym ((hs.below B1.out).mono B1.out.size) hi)
  have F1 : ((w.alloc (.cells (imgCells v im) 38 (0, 0))).alloc (.cells #[.int .i64 r.at_, .int .i64 r.kind, .int .i64 r.sym, .int .i64 r.add] 57 (0, 0))).heap[w.heap.size + 1]? = some (.cells #[.int .i64 r.at_, .int .i64 r.kind, .int .i64 r.sym, .int .i64 r.add] 57 (0, 0)) := by
    simpa only [World.size_alloc] using heap_alloc_new (w.alloc (.cells (imgCells v im) 38 (0, 0))) _
  have HF1 := Lib.hid F1
  have Hn : Hid (symAt im r.sym = none → wideL im r = 8) := Lib.hid wideL_none
  have Hsm : Hid (∀ s, symAt im r.sym = some s → wideL im r = if r.kind = 2 then s.size else 8) := Lib.hid (fun s h => wideL_some h)
  clear hs F1
  unfold imgCells at *
  go_enter Try.func68, Try.ntmps68
  go_wp2_with fail
  refine HS.out.mono ?_
  rintro e w2 ⟨rfl, hb2⟩
  have F2 := (hb2.block (w.heap.size + 1) (by simp)).trans HF1.out
  have B2 := Lib.hid (B1.out.trans (hb2.mono (by simp; omega)))
  have q1 : w2.cell? ⟨w.heap.size + 1, 1, none⟩ = some (.int .i64 r.kind) := by rw [Lib.cell_of_heap F2]; rfl
  have hB2 := B2.out.size
  have hzq : w.heap.size + 1 < w2.heap.size := World.block_lt_of_cell? _ _ q1
  clear hb2 F2 HS
  cases hsa : symAt im r.sym with
  | none =>
    have Hw := Lib.hid (Hn.out hsa)
    have hv : symV im r.sym = .tuple #[.agg #[.string ⟨#[]⟩, .string ⟨#[]⟩, .bool false, .int .i64 0, .bool false, .int .i64 0, .bool false, .int .i64 0, .int .i64 0], .bool false] := by rw [symV, symD, hsa]; rfl
    rw [hv]
    clear hv hsa
    go_wp2
    go_ret
    exact ⟨by rw [Hw.out]; rfl, B2.out.alloc hB2 _⟩
  | some s =>
    have Hw := Lib.hid (Hsm.out s hsa)
    have hv : symV im r.sym = .tuple #[.agg #[.string ⟨s.name.toArray⟩, .string ⟨s.version.toArray⟩, .bool s.old, .int .i64 s.kind, .bool s.weak, .int .i64 s.vis, .bool s.defined, .int .i64 s.value, .int .i64 s.size], .bool true] := by rw [symV, symD, hsa]; rfl
    rw [hv]
    clear hv hsa
    by_cases hk : r.kind = 2
    · have Hw2 : Hid (wideL im r = s.size) := Lib.hid (by rw [Hw.out, if_pos hk])
      go_wp2
      go_ret
      exact ⟨by rw [Hw2.out]; rfl, B2.out.alloc hB2 _⟩
    · have Hw2 : Hid (wideL im r = 8) := Lib.hid (by rw [Hw.out, if_neg hk])
      have hkb : (r.kind == 2) = false := by rw [beq_eq_false_iff_ne]; exact hk
      go_wp2
      go_ret
      exact ⟨by rw [Hw2.out]; rfl, B2.out.alloc hB2 _⟩

set_option maxHeartbeats 4000000 in
set_option maxRecDepth 100000 in
theorem jwide_any (w : World) (v : ImgV) (im : ImgL) (r : RelL) (hs : LB kSym (· < w.heap.size) w v.syms im.syms) :
    Calls Try.prog 18 #[.agg (imgCells v im), .agg #[.int .i64 r.at_, .int .i64 r.kind, .int .i64 r.sym, .int .i64 r.add]] w fun e w' => e = .returned (.int .i64 (wideL im r)) ∧ Below w.heap.size w w' := by
  unfold imgCells
  obtain ⟨sa, sb, soff, scap, hsv, hsm, hsc, hat⟩ := hs.at
  rw [hsv]
  have Hat := Lib.hid hat
  clear hs hat hsv
  obtain ⟨rat, rkind, rsym, radd⟩ := r
  simp only
  by_cases hk : rkind = 2
  case neg =>
    have Hw : Hid (wideL im ⟨rat, rkind, rsym, radd⟩ = 8) := Lib.hid (by
      rw [wideL]; split
      · rw [if_neg hk]
      · rfl)
    have hkb : (rkind == 2) = false := by rw [beq_eq_false_iff_ne]; exact hk
    clear hk
    go_enter Try.func18, Try.ntmps18
    go_wp2
    go_ret
    exact ⟨by rw [Hw.out]; rfl, ((Below.refl _ _).alloc (Nat.le_refl _) _).alloc (by simp) _⟩
  case pos =>
    subst hk
    by_cases h1 : rsym < 0
    · have Hw : Hid (wideL im ⟨rat, 2, rsym, radd⟩ = 8) := Lib.hid (wideL_none (symAt_neg im rsym h1))
      go_enter Try.func18, Try.ntmps18
      go_wp2
      go_ret
      exact ⟨by rw [Hw.out]; rfl, ((Below.refl _ _).alloc (Nat.le_refl _) _).alloc (by simp) _⟩
    by_cases h2 : (im.syms.length : Int) ≤ rsym
    · have Hw : Hid (wideL im ⟨rat, 2, rsym, radd⟩ = 8) := Lib.hid (wideL_none (symAt_far im rsym h2))
      go_enter Try.func18, Try.ntmps18
      go_wp2
      go_ret
      exact ⟨by rw [Hw.out]; rfl, ((Below.refl _ _).alloc (Nat.le_refl _) _).alloc (by simp) _⟩
    · obtain ⟨k, rfl⟩ : ∃ k : Nat, rsym = k := ⟨rsym.toNat, by omega⟩
      have hlt : k < im.syms.length := by omega
      obtain rfl := Hat.out.addr (by omega)
      obtain ⟨s, hx⟩ : ∃ s, im.syms[k]? = some s := ⟨_, List.getElem?_eq_getElem hlt⟩
      obtain ⟨_, g0, g1, g2, g3, g4, g5, g6, g7, g8⟩ := Hat.out.sym9 k s hx
      have Hw : Hid (wideL im ⟨rat, 2, (k : Int), radd⟩ = s.size) := Lib.hid (by rw [wideL_some (symAt_in im k s hx)]; rfl)
      have hsb := World.block_lt_of_cell? _ _ g0
      clear hx h1 h2 g0 g1 g2 g3 g4 g5 g6 g7
      go_enter Try.func18, Try.ntmps18
      go_wp2
      go_ret
      exact ⟨by rw [Hw.out]; rfl, ((Below.refl _ _).alloc (Nat.le_refl _) _).alloc (by simp) _⟩

end Go.Proofs.Ytbliedldlimpgaa
