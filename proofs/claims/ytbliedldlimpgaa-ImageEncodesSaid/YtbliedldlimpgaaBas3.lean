/- Reading an image's bytes: what is read is what was written, and what was written is read. Plain Lean, no program in sight. -/
import Derived.Test.YtbliedldlimpgaaBas2

/- Reading an image's bytes: what is read is what was written, and what was written is read. Plain Lean, no program in sight. -/
namespace Go.Proofs.Ytbliedldlimpgaa
set_option linter.unusedVariables false
set_option linter.unusedSimpArgs false

/-! ### reading bytes -/
def bindP {α β : Type} (p : List UInt8 → Option (α × List UInt8)) (k : α → List UInt8 → Option (β × List UInt8)) : List UInt8 → Option (β × List UInt8) := fun l => match p l with
  | none => none
  | some (x, t) => k x t
def sgnL (n : Nat) : Int := if n < 9223372036854775808 then (n : Int) else (n : Int) - 18446744073709551616
/-- a number of so many bytes -/
def numP (size : Nat) (l : List UInt8) : Option (Int × List UInt8) := if size ≤ l.length then some (if size = 8 then sgnL (valL (l.take size)) else (valL (l.take size) : Int), l.drop size) else none
def wordP (l : List UInt8) : Option (Int × List UInt8) := if 8 ≤ l.length then some ((valL (l.take 8) : Int), l.drop 8) else none
/-- bytes with their number ahead -/
def partP (size most : Nat) : List UInt8 → Option (List UInt8 × List UInt8) := bindP (numP size) fun n t => if n ≤ most ∧ n ≤ t.length then some (t.take n.toNat, t.drop n.toNat) else none
def textP : List UInt8 → Option (List UInt8 × List UInt8) := partP 2 4096
def blockP : List UInt8 → Option (List UInt8 × List UInt8) := partP 4 1048576
def manyP {α : Type} (p : List UInt8 → Option (α × List UInt8)) : Nat → List UInt8 → Option (List α × List UInt8)
  | 0 => fun l => some ([], l)
  | n + 1 => bindP p fun x => bindP (manyP p n) fun xs t => some (x :: xs, t)
def bitP : List UInt8 → Option (Bool × List UInt8) := bindP (numP 1) fun n t => if 1 < n then none else some (n == 1, t)
def segP : List UInt8 → Option (SegL × List UInt8) := bindP (numP 4) fun a => bindP (numP 4) fun s => bindP (numP 1) fun p => bindP blockP fun b t => some (⟨a, s, b, p⟩, t)
def textsP (n : Int) : List UInt8 → Option (List (List UInt8) × List UInt8) := manyP textP n.toNat
def needP : List UInt8 → Option (NeedL × List UInt8) := bindP textP fun n => bindP (numP 1) fun k => bindP (textsP k) fun v t => some (⟨n, v⟩, t)
def symP : List UInt8 → Option (SymL × List UInt8) := bindP textP fun n => bindP textP fun v => bindP (numP 1) fun k => bindP (numP 1) fun vis => bindP bitP fun old => bindP bitP fun weak => bindP bitP fun defined => bindP (numP 8) fun value => bindP (numP 8) fun size t => some (⟨n, v, old, k, weak, vis, defined, value, size⟩, t)
def chainP : List UInt8 → Option (List Int × List UInt8) := bindP (numP 2) fun n => manyP (numP 2) n.toNat
def relP : List UInt8 → Option (RelL × List UInt8) := bindP (numP 1) fun k => bindP (numP 8) fun a => bindP (numP 8) fun s => bindP (numP 8) fun d t => some (⟨a, k, s, d⟩, t)
def slotP : List UInt8 → Option (SlotL × List UInt8) := bindP (numP 4) fun a => bindP (numP 4) fun s => bindP (numP 4) fun d t => some (⟨a, s, d⟩, t)
/-- an image -/
def imgP : List UInt8 → Option (ImgL × List UInt8) :=
  bindP textP fun magic => if magic ≠ magicL then fun _ => none else
  bindP textP fun name => bindP (numP 1) fun flags =>
  bindP (numP 1) fun n1 => bindP (manyP segP n1.toNat) fun segs =>
  bindP (numP 1) fun n2 => bindP (manyP needP n2.toNat) fun needed =>
  bindP (numP 1) fun n3 => bindP (textsP n3) fun runPath =>
  bindP (numP 2) fun n4 => bindP (manyP symP n4.toNat) fun syms =>
  bindP (numP 2) fun n5 => bindP (manyP chainP n5.toNat) fun buckets =>
  bindP (numP 1) fun shift => bindP (numP 1) fun n6 => bindP (manyP wordP n6.toNat) fun words =>
  bindP (numP 2) fun n7 => bindP (manyP relP n7.toNat) fun relocs =>
  bindP (numP 2) fun n8 => bindP (manyP slotP n8.toNat) fun slots =>
  bindP (numP 1) fun n9 => bindP (manyP (numP 4) n9.toNat) fun init =>
  bindP (numP 1) fun n10 => bindP (manyP (numP 4) n10.toNat) fun fini =>
  bindP (numP 2) fun tlsSize => bindP blockP fun tls t =>
  some (⟨name, flags, segs, needed, runPath, syms, buckets, words, shift, relocs, slots, init, fini, tls, tlsSize⟩, t)

/-! ### what is read is what was written -/
structure Codec {α : Type} (p : List UInt8 → Option (α × List UInt8)) (f : α → List UInt8) (ok : α → Prop) : Prop where
  there : ∀ x t, ok x → p (f x ++ t) = some (x, t)
  back : ∀ l x t, p l = some (x, t) → ok x ∧ f x ++ t = l
theorem bindP_some {α β : Type} {p : List UInt8 → Option (α × List UInt8)} {k : α → List UInt8 → Option (β × List UInt8)} {l : List UInt8} {r : β × List UInt8} (h : bindP p k l = some r) : ∃ x t, p l = some (x, t) ∧ k x t = some r := by
  unfold bindP at h
  cases hp : p l with
  | none => rw [hp] at h; cases h
  | some q => obtain ⟨x, t⟩ := q; rw [hp] at h; exact ⟨x, t, rfl, h⟩
theorem bindP_at {α β : Type} {p : List UInt8 → Option (α × List UInt8)} {k : α → List UInt8 → Option (β × List UInt8)} {l : List UInt8} {x : α} {t : List UInt8} (h : p l = some (x, t)) : bindP p k l = k x t := by
  unfold bindP; rw [h]
def okN (size : Nat) (n : Int) : Prop := if size = 8 then -9223372036854775808 ≤ n ∧ n < 9223372036854775808 else 0 ≤ n ∧ n < 256 ^ size
theorem valL_lt : ∀ l : List UInt8, valL l < 256 ^ l.length
  | [] => by simp [valL]
  | c :: l => by
    have := valL_lt l
    have hc := c.toNat_lt
    rw [valL, List.length_cons, Nat.pow_succ]; omega
theorem digits_val : ∀ l : List UInt8, ((List.range l.length).map fun i => UInt8.ofNat (valL l / 256 ^ i)) = l
  | [] => rfl
  | c :: l => by
    have hc := c.toNat_lt
    rw [List.length_cons, List.range_succ_eq_map, List.map_cons, List.map_map]
    have e : ((fun i => UInt8.ofNat (valL (c :: l) / 256 ^ i)) ∘ Nat.succ) = fun i => UInt8.ofNat (valL l / 256 ^ i) := by
      funext i
      simp only [Function.comp, Nat.succ_eq_add_one, valL]
      rw [Nat.pow_succ, Nat.mul_comm (256 ^ i), ← Nat.div_div_eq_div_mul, show (c.toNat + 256 * valL l) / 256 = valL l by omega]
    rw [e, digits_val l]
    congr 1
    simp only [valL, Nat.pow_zero, Nat.div_one]
    have : UInt8.ofNat (c.toNat + 256 * valL l) = UInt8.ofNat c.toNat := by
      apply UInt8.toNat.inj
      simp
    rw [this]; simp
theorem digitsL_nat (size m : Nat) (h : m < 18446744073709551616) : digitsL size (m : Int) = (List.range size).map fun i => UInt8.ofNat (m / 256 ^ i) := by
  rw [digitsL]
  have : ((m : Int) % 18446744073709551616).toNat = m := by omega
  rw [this]
theorem digitsL_sgn (size m : Nat) (h : m < 18446744073709551616) : digitsL size (sgnL m) = digitsL size (m : Int) := by
  unfold digitsL sgnL
  split
  · rfl
  · rw [Int.sub_emod_right]
theorem pow8 {size : Nat} (h : size ≤ 8) : 256 ^ size ≤ 18446744073709551616 := Nat.le_trans (Nat.pow_le_pow_right (by decide) h) (by decide)
theorem num_codec (size : Nat) (hs : size ≤ 8) : Codec (numP size) (digitsL size) (okN size) where
  there x t hx := by
    have hl := digitsL_len size x
    have e1 : (digitsL size x ++ t).take size = digitsL size x := by rw [List.take_append_of_le_length (by omega), List.take_of_length_le (by omega)]
    have e2 : (digitsL size x ++ t).drop size = t := by rw [List.drop_append_of_le_length (by omega), List.drop_eq_nil_of_le (by omega)]; rfl
    rw [numP, if_pos (by simp [hl]), e1, e2]
    unfold okN at hx
    by_cases h8 : size = 8
    · subst h8
      rw [if_pos rfl] at hx
      rw [if_pos rfl]
      have hv : valL (digitsL 8 x) = (x % 18446744073709551616).toNat := by
        rw [digitsL, val_digits 8 _ (by omega)]
      rw [hv]
      congr 2
      unfold sgnL
      split <;> omega
    · rw [if_neg h8] at hx
      rw [if_neg h8]
      have hp := pow8 hs
      have hx2 : x.toNat < 256 ^ size := by
        have : ((x.toNat : Nat) : Int) < ((256 ^ size : Nat) : Int) := by rw [Int.toNat_of_nonneg hx.1, Int.natCast_pow]; exact hx.2
        omega
      rw [val_digitsL size x hx.1 (by omega) hx2]
  back l x t h := by
    unfold numP at h
    by_cases hl : size ≤ l.length
    · rw [if_pos hl] at h
      obtain ⟨rfl, rfl⟩ := Prod.mk.inj (Option.some.inj h)
      have hlen : (l.take size).length = size := by rw [List.length_take]; omega
      have hv := valL_lt (l.take size)
      rw [hlen] at hv
      have hp := pow8 hs
      have hd : digitsL size (valL (l.take size) : Int) = l.take size := by
        rw [digitsL_nat size _ (by omega)]
        have := digits_val (l.take size)
        rwa [hlen] at this
      by_cases h8 : size = 8
      · subst h8
        rw [if_pos rfl]
        refine ⟨?_, ?_⟩
        · unfold okN sgnL
          rw [if_pos rfl]
          have : (256 : Nat) ^ 8 = 18446744073709551616 := by decide
          split <;> omega
        · rw [digitsL_sgn 8 _ (by omega), hd, List.take_append_drop]
      · rw [if_neg h8]
        refine ⟨?_, by rw [hd, List.take_append_drop]⟩
        unfold okN
        rw [if_neg h8]
        refine ⟨by omega, ?_⟩
        have : ((valL (l.take size) : Nat) : Int) < ((256 ^ size : Nat) : Int) := by omega
        rwa [Int.natCast_pow] at this
    · rw [if_neg hl] at h; cases h
theorem word_codec : Codec wordP (digitsL 8) (fun n => 0 ≤ n ∧ n < 18446744073709551616) where
  there x t hx := by
    have hl := digitsL_len 8 x
    have e1 : (digitsL 8 x ++ t).take 8 = digitsL 8 x := by rw [List.take_append_of_le_length (by omega), List.take_of_length_le (by omega)]
    have e2 : (digitsL 8 x ++ t).drop 8 = t := by rw [List.drop_append_of_le_length (by omega), List.drop_eq_nil_of_le (by omega)]; rfl
    rw [wordP, if_pos (by simp [hl]), e1, e2, val_digitsL 8 x hx.1 hx.2 (by have : (256 : Nat) ^ 8 = 18446744073709551616 := by decide
                                                                            omega)]
  back l x t h := by
    unfold wordP at h
    by_cases hl : 8 ≤ l.length
    · rw [if_pos hl] at h
      obtain ⟨rfl, rfl⟩ := Prod.mk.inj (Option.some.inj h)
      have hlen : (l.take 8).length = 8 := by rw [List.length_take]; omega
      have hv := valL_lt (l.take 8)
      rw [hlen] at hv
      have : (256 : Nat) ^ 8 = 18446744073709551616 := by decide
      have hd : digitsL 8 (valL (l.take 8) : Int) = l.take 8 := by
        rw [digitsL_nat 8 _ (by omega)]
        have := digits_val (l.take 8)
        rwa [hlen] at this
      exact ⟨by omega, by rw [hd, List.take_append_drop]⟩
    · rw [if_neg hl] at h; cases h
theorem part_codec (size most : Nat) (hs : size ≤ 4) (hm : most < 256 ^ size) : Codec (partP size most) (fun s => digitsL size s.length ++ s) (fun s => s.length ≤ most) where
  there x t hx := by
    have hk : okN size (x.length : Int) := by
      unfold okN
      rw [if_neg (by omega)]
      refine ⟨by omega, ?_⟩
      have : ((x.length : Nat) : Int) < ((256 ^ size : Nat) : Int) := by omega
      rwa [Int.natCast_pow] at this
    rw [partP, List.append_assoc, bindP_at ((num_codec size (by omega)).there _ _ hk), if_pos ⟨by omega, by simp; omega⟩, Int.toNat_natCast,
      List.take_append_of_le_length (Nat.le_refl _), List.take_length, List.drop_append_of_le_length (Nat.le_refl _), List.drop_length]
    rfl
  back l x t h := by
    obtain ⟨n, u, h1, h2⟩ := bindP_some h
    obtain ⟨h3, h4⟩ := (num_codec size (by omega)).back _ _ _ h1
    by_cases hc : n ≤ (most : Int) ∧ n ≤ u.length
    · rw [if_pos hc] at h2
      obtain ⟨rfl, rfl⟩ := Prod.mk.inj (Option.some.inj h2)
      have hn0 : 0 ≤ n := by
        unfold okN at h3
        rw [if_neg (by omega)] at h3; exact h3.1
      have hlen : (u.take n.toNat).length = n.toNat := by rw [List.length_take]; omega
      refine ⟨by rw [hlen]; omega, ?_⟩
      rw [hlen, Int.toNat_of_nonneg hn0, List.append_assoc, List.take_append_drop, h4]
    · rw [if_neg hc] at h2; cases h2
theorem text_codec : Codec textP textL' (fun s => s.length ≤ 4096) := part_codec 2 4096 (by decide) (by decide)
theorem block_codec : Codec blockP blockL (fun s => s.length ≤ 1048576) := part_codec 4 1048576 (by decide) (by decide)
theorem many_codec {α : Type} {p : List UInt8 → Option (α × List UInt8)} {f : α → List UInt8} {ok : α → Prop} (c : Codec p f ok) : ∀ n, Codec (manyP p n) (fun l => (l.map f).flatten) (fun l => l.length = n ∧ ∀ x ∈ l, ok x)
  | 0 => { there := fun x t hx => by
             have : x = [] := List.length_eq_zero_iff.1 hx.1
             subst this; rfl
           back := fun l x t h => by
             obtain ⟨rfl, rfl⟩ := Prod.mk.inj (Option.some.inj h)
             exact ⟨⟨rfl, fun x hx => by cases hx⟩, rfl⟩ }
  | n + 1 => { there := fun x t hx => by
                 cases x with
                 | nil => exact absurd hx.1 (by simp)
                 | cons a x =>
                   have h1 := c.there a ((x.map f).flatten ++ t) (hx.2 a (by simp))
                   have h2 := (many_codec c n).there x t ⟨by simpa using hx.1, fun y hy => hx.2 y (by simp [hy])⟩
                   rw [manyP, List.map_cons, List.flatten_cons, List.append_assoc, bindP_at h1, bindP_at h2]
               back := fun l x t h => by
                 obtain ⟨a, u, h1, h2⟩ := bindP_some h
                 obtain ⟨xs, u2, h3, h4⟩ := bindP_some h2
                 obtain ⟨rfl, rfl⟩ := Prod.mk.inj (Option.some.inj h4)
                 obtain ⟨b1, b2⟩ := c.back _ _ _ h1
                 obtain ⟨⟨b3, b4⟩, b5⟩ := (many_codec c n).back _ _ _ h3
                 refine ⟨⟨by simp [b3], fun y hy => ?_⟩, ?_⟩
                 · rcases List.mem_cons.1 hy with rfl | hy
                   · exact b1
                   · exact b4 y hy
                 · rw [List.map_cons, List.flatten_cons, List.append_assoc, b5, b2] }
theorem bit_codec : Codec bitP (fun b => digitsL 1 (oneL b)) (fun _ => True) where
  there x t _ := by
    rw [bitP, bindP_at ((num_codec 1 (by decide)).there _ _ (by cases x <;> simp [okN, oneL]))]
    cases x <;> rfl
  back l x t h := by
    obtain ⟨n, u, h1, h2⟩ := bindP_some h
    obtain ⟨h3, h4⟩ := (num_codec 1 (by decide)).back _ _ _ h1
    simp [okN] at h3
    by_cases hc : 1 < n
    · rw [if_pos hc] at h2; cases h2
    · rw [if_neg hc] at h2
      obtain ⟨rfl, rfl⟩ := Prod.mk.inj (Option.some.inj h2)
      refine ⟨trivial, ?_⟩
      rw [← h4]
      have : n = 0 ∨ n = 1 := by omega
      rcases this with rfl | rfl <;> rfl

def okSeg (s : SegL) : Prop := okN 4 s.at_ ∧ okN 4 s.size ∧ okN 1 s.perm ∧ s.bytes.length ≤ 1048576
theorem seg_codec : Codec segP segF okSeg where
  there x t h := by
    obtain ⟨h1, h2, h3, h4⟩ := h
    have n4 := num_codec 4 (by decide)
    have n1 := num_codec 1 (by decide)
    unfold segP segF
    simp only [List.append_assoc]
    rw [bindP_at (n4.there _ _ h1), bindP_at (n4.there _ _ h2), bindP_at (n1.there _ _ h3), bindP_at (block_codec.there _ _ h4)]
  back l x t h := by
    have n4 := num_codec 4 (by decide)
    have n1 := num_codec 1 (by decide)
    obtain ⟨a1, t1, p1, h⟩ := bindP_some h
    obtain ⟨a2, t2, p2, h⟩ := bindP_some h
    obtain ⟨a3, t3, p3, h⟩ := bindP_some h
    obtain ⟨a4, t4, p4, h⟩ := bindP_some h
    obtain ⟨rfl, rfl⟩ := Prod.mk.inj (Option.some.inj h)
    obtain ⟨o1, q1⟩ := n4.back _ _ _ p1
    obtain ⟨o2, q2⟩ := n4.back _ _ _ p2
    obtain ⟨o3, q3⟩ := n1.back _ _ _ p3
    obtain ⟨o4, q4⟩ := block_codec.back _ _ _ p4
    refine ⟨⟨o1, o2, o3, o4⟩, ?_⟩
    unfold segF
    simp only [List.append_assoc]
    rw [q4, q3, q2, q1]
def okLen (size n : Nat) : Prop := n < 256 ^ size
theorem okLen_N {size n : Nat} (hs : size ≤ 4) (h : okLen size n) : okN size (n : Int) := by
  unfold okN; rw [if_neg (by omega)]
  refine ⟨by omega, ?_⟩
  have : ((n : Nat) : Int) < ((256 ^ size : Nat) : Int) := by unfold okLen at h; omega
  rwa [Int.natCast_pow] at this
theorem okN_nat {size : Nat} {n : Int} (hs : size ≤ 4) (h : okN size n) : n = (n.toNat : Int) ∧ okLen size n.toNat := by
  unfold okN at h; rw [if_neg (by omega)] at h
  refine ⟨by omega, ?_⟩
  unfold okLen
  have : ((n.toNat : Nat) : Int) < ((256 ^ size : Nat) : Int) := by rw [Int.toNat_of_nonneg h.1, Int.natCast_pow]; exact h.2
  omega
/-- a list with its number ahead -/
theorem list_codec {α : Type} {p : List UInt8 → Option (α × List UInt8)} {f : α → List UInt8} {ok : α → Prop} (c : Codec p f ok) (size : Nat) (hs : size ≤ 4) :
    Codec (bindP (numP size) fun n => manyP p n.toNat) (fun l => digitsL size l.length ++ (l.map f).flatten) (fun l => okLen size l.length ∧ ∀ x ∈ l, ok x) where
  there x t h := by
    rw [List.append_assoc, bindP_at ((num_codec size (by omega)).there _ _ (okLen_N hs h.1)), Int.toNat_natCast, (many_codec c x.length).there _ _ ⟨rfl, h.2⟩]
  back l x t h := by
    obtain ⟨n, u, h1, h2⟩ := bindP_some h
    obtain ⟨o1, q1⟩ := (num_codec size (by omega)).back _ _ _ h1
    obtain ⟨⟨o2, o3⟩, q2⟩ := (many_codec c n.toNat).back _ _ _ h2
    obtain ⟨e1, e2⟩ := okN_nat hs o1
    refine ⟨⟨by rw [o2]; exact e2, o3⟩, ?_⟩
    rw [o2, List.append_assoc, q2, ← e1, q1]
def okTexts (l : List (List UInt8)) : Prop := okLen 1 l.length ∧ ∀ x ∈ l, x.length ≤ 4096
theorem texts_codec : Codec (bindP (numP 1) textsP) (fun l => digitsL 1 l.length ++ textsL l) okTexts := list_codec text_codec 1 (by decide)
theorem chain_codec : Codec chainP chainF (fun l => okLen 2 l.length ∧ ∀ x ∈ l, okN 2 x) := list_codec (num_codec 2 (by decide)) 2 (by decide)
theorem assocP {α β γ : Type} (p : List UInt8 → Option (α × List UInt8)) (k : α → List UInt8 → Option (β × List UInt8)) (m : β → List UInt8 → Option (γ × List UInt8)) : (bindP p fun x => bindP (k x) m) = bindP (bindP p k) m := by
  funext l
  unfold bindP
  cases p l <;> rfl
def okNeed (n : NeedL) : Prop := n.name.length ≤ 4096 ∧ okTexts n.versions
theorem need_codec : Codec needP needF okNeed where
  there x t h := by
    obtain ⟨h1, h2⟩ := h
    unfold needP needF
    simp only [List.append_assoc]
    rw [bindP_at (text_codec.there _ _ h1), assocP, bindP_at (by have := texts_codec.there _ t h2; rwa [List.append_assoc] at this)]
  back l x t h := by
    unfold needP at h
    obtain ⟨a1, t1, p1, h⟩ := bindP_some h
    rw [assocP] at h
    obtain ⟨a2, t2, p2, h⟩ := bindP_some h
    obtain ⟨rfl, rfl⟩ := Prod.mk.inj (Option.some.inj h)
    obtain ⟨o1, q1⟩ := text_codec.back _ _ _ p1
    obtain ⟨o2, q2⟩ := texts_codec.back _ _ _ p2
    refine ⟨⟨o1, o2⟩, ?_⟩
    unfold needF
    simp only [List.append_assoc] at q2 ⊢
    rw [q2, q1]
def okSym (s : SymL) : Prop := s.name.length ≤ 4096 ∧ s.version.length ≤ 4096 ∧ okN 1 s.kind ∧ okN 1 s.vis ∧ okN 8 s.value ∧ okN 8 s.size
theorem sym_codec : Codec symP symF okSym where
  there x t h := by
    obtain ⟨h1, h2, h3, h4, h5, h6⟩ := h
    have n8 := num_codec 8 (by decide)
    have n1 := num_codec 1 (by decide)
    unfold symP symF
    simp only [List.append_assoc]
    rw [bindP_at (text_codec.there _ _ h1), bindP_at (text_codec.there _ _ h2), bindP_at (n1.there _ _ h3), bindP_at (n1.there _ _ h4), bindP_at (bit_codec.there _ _ trivial), bindP_at (bit_codec.there _ _ trivial),
      bindP_at (bit_codec.there _ _ trivial), bindP_at (n8.there _ _ h5), bindP_at (n8.there _ _ h6)]
  back l x t h := by
    have n8 := num_codec 8 (by decide)
    have n1 := num_codec 1 (by decide)
    obtain ⟨a1, t1, p1, h⟩ := bindP_some h
    obtain ⟨a2, t2, p2, h⟩ := bindP_some h
    obtain ⟨a3, t3, p3, h⟩ := bindP_some h
    obtain ⟨a4, t4, p4, h⟩ := bindP_some h
    obtain ⟨a5, t5, p5, h⟩ := bindP_some h
    obtain ⟨a6, t6, p6, h⟩ := bindP_some h
    obtain ⟨a7, t7, p7, h⟩ := bindP_some h
    obtain ⟨a8, t8, p8, h⟩ := bindP_some h
    obtain ⟨a9, t9, p9, h⟩ := bindP_some h
    obtain ⟨rfl, rfl⟩ := Prod.mk.inj (Option.some.inj h)
    obtain ⟨o1, q1⟩ := text_codec.back _ _ _ p1
    obtain ⟨o2, q2⟩ := text_codec.back _ _ _ p2
    obtain ⟨o3, q3⟩ := n1.back _ _ _ p3
    obtain ⟨o4, q4⟩ := n1.back _ _ _ p4
    obtain ⟨_, q5⟩ := bit_codec.back _ _ _ p5
    obtain ⟨_, q6⟩ := bit_codec.back _ _ _ p6
    obtain ⟨_, q7⟩ := bit_codec.back _ _ _ p7
    obtain ⟨o8, q8⟩ := n8.back _ _ _ p8
    obtain ⟨o9, q9⟩ := n8.back _ _ _ p9
    refine ⟨⟨o1, o2, o3, o4, o8, o9⟩, ?_⟩
    unfold symF
    simp only [List.append_assoc]
    rw [q9, q8, q7, q6, q5, q4, q3, q2, q1]
def okRel (r : RelL) : Prop := okN 1 r.kind ∧ okN 8 r.at_ ∧ okN 8 r.sym ∧ okN 8 r.add
theorem rel_codec : Codec relP relF okRel where
  there x t h := by
    obtain ⟨h1, h2, h3, h4⟩ := h
    have n8 := num_codec 8 (by decide)
    have n1 := num_codec 1 (by decide)
    unfold relP relF
    simp only [List.append_assoc]
    rw [bindP_at (n1.there _ _ h1), bindP_at (n8.there _ _ h2), bindP_at (n8.there _ _ h3), bindP_at (n8.there _ _ h4)]
  back l x t h := by
    have n8 := num_codec 8 (by decide)
    have n1 := num_codec 1 (by decide)
    obtain ⟨a1, t1, p1, h⟩ := bindP_some h
    obtain ⟨a2, t2, p2, h⟩ := bindP_some h
    obtain ⟨a3, t3, p3, h⟩ := bindP_some h
    obtain ⟨a4, t4, p4, h⟩ := bindP_some h
    obtain ⟨rfl, rfl⟩ := Prod.mk.inj (Option.some.inj h)
    obtain ⟨o1, q1⟩ := n1.back _ _ _ p1
    obtain ⟨o2, q2⟩ := n8.back _ _ _ p2
    obtain ⟨o3, q3⟩ := n8.back _ _ _ p3
    obtain ⟨o4, q4⟩ := n8.back _ _ _ p4
    refine ⟨⟨o1, o2, o3, o4⟩, ?_⟩
    unfold relF
    simp only [List.append_assoc]
    rw [q4, q3, q2, q1]
def okSlot (s : SlotL) : Prop := okN 4 s.at_ ∧ okN 4 s.sym ∧ okN 4 s.stub
theorem slot_codec : Codec slotP slotF okSlot where
  there x t h := by
    obtain ⟨h1, h2, h3⟩ := h
    have n4 := num_codec 4 (by decide)
    unfold slotP slotF
    simp only [List.append_assoc]
    rw [bindP_at (n4.there _ _ h1), bindP_at (n4.there _ _ h2), bindP_at (n4.there _ _ h3)]
  back l x t h := by
    have n4 := num_codec 4 (by decide)
    obtain ⟨a1, t1, p1, h⟩ := bindP_some h
    obtain ⟨a2, t2, p2, h⟩ := bindP_some h
    obtain ⟨a3, t3, p3, h⟩ := bindP_some h
    obtain ⟨rfl, rfl⟩ := Prod.mk.inj (Option.some.inj h)
    obtain ⟨o1, q1⟩ := n4.back _ _ _ p1
    obtain ⟨o2, q2⟩ := n4.back _ _ _ p2
    obtain ⟨o3, q3⟩ := n4.back _ _ _ p3
    refine ⟨⟨o1, o2, o3⟩, ?_⟩
    unfold slotF
    simp only [List.append_assoc]
    rw [q3, q2, q1]
/-- an image that has a form -/
structure OkImg (im : ImgL) : Prop where
  name : im.name.length ≤ 4096
  flags : okN 1 im.flags
  segs : okLen 1 im.segs.length ∧ ∀ s ∈ im.segs, okSeg s
  needed : okLen 1 im.needed.length ∧ ∀ n ∈ im.needed, okNeed n
  runPath : okTexts im.runPath
  syms : okLen 2 im.syms.length ∧ ∀ s ∈ im.syms, okSym s
  buckets : okLen 2 im.buckets.length ∧ ∀ c ∈ im.buckets, okLen 2 c.length ∧ ∀ x ∈ c, okN 2 x
  shift : okN 1 im.shift
  words : okLen 1 im.words.length ∧ ∀ x ∈ im.words, 0 ≤ x ∧ x < 18446744073709551616
  relocs : okLen 2 im.relocs.length ∧ ∀ r ∈ im.relocs, okRel r
  slots : okLen 2 im.slots.length ∧ ∀ s ∈ im.slots, okSlot s
  init : okLen 1 im.init.length ∧ ∀ x ∈ im.init, okN 4 x
  fini : okLen 1 im.fini.length ∧ ∀ x ∈ im.fini, okN 4 x
  tlsSize : okN 2 im.tlsSize
  tls : im.tls.length ≤ 1048576
def formR (im : ImgL) : List UInt8 :=
  textL' magicL ++ (textL' im.name ++ (digitsL 1 im.flags ++ ((digitsL 1 im.segs.length ++ (im.segs.map segF).flatten) ++
  ((digitsL 1 im.needed.length ++ (im.needed.map needF).flatten) ++ ((digitsL 1 im.runPath.length ++ textsL im.runPath) ++
  ((digitsL 2 im.syms.length ++ (im.syms.map symF).flatten) ++ ((digitsL 2 im.buckets.length ++ (im.buckets.map chainF).flatten) ++
  (digitsL 1 im.shift ++ ((digitsL 1 im.words.length ++ numsL 8 im.words) ++ ((digitsL 2 im.relocs.length ++ (im.relocs.map relF).flatten) ++
  ((digitsL 2 im.slots.length ++ (im.slots.map slotF).flatten) ++ ((digitsL 1 im.init.length ++ numsL 4 im.init) ++ ((digitsL 1 im.fini.length ++ numsL 4 im.fini) ++
  (digitsL 2 im.tlsSize ++ blockL im.tls))))))))))))))
theorem formR_eq (im : ImgL) : formR im = formL im := by
  unfold formR formL; simp only [List.append_assoc]
theorem img_codec : Codec imgP formL OkImg where
  there x t h := by
    have n2 := num_codec 2 (by decide)
    have n1 := num_codec 1 (by decide)
    rw [← formR_eq]
    unfold imgP formR numsL
    simp only [List.append_assoc (_ ++ _) _ t, List.append_assoc (textL' _) _ t, List.append_assoc (digitsL _ x.flags) _ t, List.append_assoc (digitsL _ x.shift) _ t, List.append_assoc (digitsL _ x.tlsSize) _ t]
    rw [bindP_at (text_codec.there _ _ (by decide)), if_neg (by simp), bindP_at (text_codec.there _ _ h.name), bindP_at (n1.there _ _ h.flags),
      assocP, bindP_at ((list_codec seg_codec 1 (by decide)).there _ _ h.segs),
      assocP, bindP_at ((list_codec need_codec 1 (by decide)).there _ _ h.needed),
      assocP, bindP_at (texts_codec.there _ _ h.runPath),
      assocP, bindP_at ((list_codec sym_codec 2 (by decide)).there _ _ h.syms),
      assocP, bindP_at ((list_codec chain_codec 2 (by decide)).there _ _ h.buckets),
      bindP_at (n1.there _ _ h.shift),
      assocP, bindP_at ((list_codec word_codec 1 (by decide)).there _ _ h.words),
      assocP, bindP_at ((list_codec rel_codec 2 (by decide)).there _ _ h.relocs),
      assocP, bindP_at ((list_codec slot_codec 2 (by decide)).there _ _ h.slots),
      assocP, bindP_at ((list_codec (num_codec 4 (by decide)) 1 (by decide)).there _ _ h.init),
      assocP, bindP_at ((list_codec (num_codec 4 (by decide)) 1 (by decide)).there _ _ h.fini),
      bindP_at (n2.there _ _ h.tlsSize), bindP_at (block_codec.there _ _ h.tls)]
  back l x t h := by
    have n2 := num_codec 2 (by decide)
    have n1 := num_codec 1 (by decide)
    unfold imgP at h
    obtain ⟨a0, t0, p0, h⟩ := bindP_some h
    by_cases hm : a0 = magicL
    case neg => rw [if_pos hm] at h; cases h
    rw [if_neg (by simpa using hm)] at h
    subst hm
    obtain ⟨a1, t1, p1, h⟩ := bindP_some h
    obtain ⟨a2, t2, p2, h⟩ := bindP_some h
    rw [assocP] at h; obtain ⟨a3, t3, p3, h⟩ := bindP_some h
    rw [assocP] at h; obtain ⟨a4, t4, p4, h⟩ := bindP_some h
    rw [assocP] at h; obtain ⟨a5, t5, p5, h⟩ := bindP_some h
    rw [assocP] at h; obtain ⟨a6, t6, p6, h⟩ := bindP_some h
    rw [assocP] at h; obtain ⟨a7, t7, p7, h⟩ := bindP_some h
    obtain ⟨a8, t8, p8, h⟩ := bindP_some h
    rw [assocP] at h; obtain ⟨a9, t9, p9, h⟩ := bindP_some h
    rw [assocP] at h; obtain ⟨a10, t10, p10, h⟩ := bindP_some h
    rw [assocP] at h; obtain ⟨a11, t11, p11, h⟩ := bindP_some h
    rw [assocP] at h; obtain ⟨a12, t12, p12, h⟩ := bindP_some h
    rw [assocP] at h; obtain ⟨a13, t13, p13, h⟩ := bindP_some h
    obtain ⟨a14, t14, p14, h⟩ := bindP_some h
    obtain ⟨a15, t15, p15, h⟩ := bindP_some h
    obtain ⟨rfl, rfl⟩ := Prod.mk.inj (Option.some.inj h)
    obtain ⟨_, q0⟩ := text_codec.back _ _ _ p0
    obtain ⟨o1, q1⟩ := text_codec.back _ _ _ p1
    obtain ⟨o2, q2⟩ := n1.back _ _ _ p2
    obtain ⟨o3, q3⟩ := (list_codec seg_codec 1 (by decide)).back _ _ _ p3
    obtain ⟨o4, q4⟩ := (list_codec need_codec 1 (by decide)).back _ _ _ p4
    obtain ⟨o5, q5⟩ := texts_codec.back _ _ _ p5
    obtain ⟨o6, q6⟩ := (list_codec sym_codec 2 (by decide)).back _ _ _ p6
    obtain ⟨o7, q7⟩ := (list_codec chain_codec 2 (by decide)).back _ _ _ p7
    obtain ⟨o8, q8⟩ := n1.back _ _ _ p8
    obtain ⟨o9, q9⟩ := (list_codec word_codec 1 (by decide)).back _ _ _ p9
    obtain ⟨o10, q10⟩ := (list_codec rel_codec 2 (by decide)).back _ _ _ p10
    obtain ⟨o11, q11⟩ := (list_codec slot_codec 2 (by decide)).back _ _ _ p11
    obtain ⟨o12, q12⟩ := (list_codec (num_codec 4 (by decide)) 1 (by decide)).back _ _ _ p12
    obtain ⟨o13, q13⟩ := (list_codec (num_codec 4 (by decide)) 1 (by decide)).back _ _ _ p13
    obtain ⟨o14, q14⟩ := n2.back _ _ _ p14
    obtain ⟨o15, q15⟩ := block_codec.back _ _ _ p15
    refine ⟨⟨o1, o2, o3, o4, o5, o6, o7, o8, o9, o10, o11, o12, o13, o14, o15⟩, ?_⟩
    rw [← formR_eq]
    unfold formR
    simp only [List.append_assoc (_ ++ _) _ t15, List.append_assoc (textL' _) _ t15, List.append_assoc (digitsL _ a2) _ t15, List.append_assoc (digitsL _ a8) _ t15, List.append_assoc (digitsL _ a14) _ t15]
    unfold numsL
    rw [q15, q14, q13, q12, q11, q10, q9, q8, q7, q6, q5, q4, q3, q2, q1, q0]

end Go.Proofs.Ytbliedldlimpgaa
