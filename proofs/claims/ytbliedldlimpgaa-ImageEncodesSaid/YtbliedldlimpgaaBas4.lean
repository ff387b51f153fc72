/- Lemmas that the claim is proved from: what calls of functions of the program come to (contracts), and plain laws. Each lemma bears its own conditions. -/
import Derived.Test.YtbliedldlimpgaaBas2
import Derived.Test.YtbliedldlimpgaaBas3
import Derived.IntWalk
import Derived.BigQuiet
import Derived.Laws.IdiomStrings

/- Plain laws of an image that may be: it has a form, which is read back; nothing shorter or longer is read. Plain Lean, no program in sight. -/
namespace Go.Proofs.Ytbliedldlimpgaa
set_option linter.unusedVariables false
set_option linter.unusedSimpArgs false

theorem may_parts {im : ImgL} (h : mayL im = 0) : headB im = true ∧ segsB im.segs = true ∧ tlsB im = true ∧ symsB im = true ∧ tableB im = true ∧ relocsB im = true ∧ slotsB im = true ∧ runB im im.init = true ∧ runB im im.fini = true := by
  unfold mayL at h
  by_cases h1 : headB im = false
  · rw [if_pos h1] at h; cases h
  rw [if_neg h1] at h
  by_cases h2 : segsB im.segs = false
  · rw [if_pos h2] at h; cases h
  rw [if_neg h2] at h
  by_cases h3 : tlsB im = false
  · rw [if_pos h3] at h; cases h
  rw [if_neg h3] at h
  by_cases h4 : symsB im = false
  · rw [if_pos h4] at h; cases h
  rw [if_neg h4] at h
  by_cases h5 : tableB im = false
  · rw [if_pos h5] at h; cases h
  rw [if_neg h5] at h
  by_cases h6 : relocsB im = false
  · rw [if_pos h6] at h; cases h
  rw [if_neg h6] at h
  by_cases h7 : slotsB im = false
  · rw [if_pos h7] at h; cases h
  rw [if_neg h7] at h
  by_cases h8 : (runB im im.init && runB im im.fini) = false
  · rw [if_pos h8] at h; cases h
  simp only [Bool.not_eq_false, Bool.and_eq_true] at *
  exact ⟨h1, h2, h3, h4, h5, h6, h7, h8.1, h8.2⟩
theorem segsFrom_each : ∀ (l : List SegL) (e : Int), segsFrom e l = true → ∀ s ∈ l, segB s = true
  | [], _, _, s, hs => by cases hs
  | a :: l, e, h, s, hs => by
    simp only [segsFrom, Bool.and_eq_true] at h
    rcases List.mem_cons.1 hs with rfl | hs
    · exact h.1.2
    · exact segsFrom_each l _ h.2 s hs
theorem segB_good {s : SegL} (h : segB s = true) : 0 ≤ s.at_ ∧ s.at_ ≤ 65536 ∧ 1 ≤ s.size ∧ s.size ≤ 65536 ∧ 0 ≤ s.perm ∧ s.perm ≤ 7 ∧ s.at_ + s.size ≤ 65536 ∧ (s.bytes.length : Int) ≤ s.size := by
  simp only [segB, Bool.and_eq_true, decide_eq_true_eq] at h
  omega
theorem segs_good {im : ImgL} (h : segsB im.segs = true) : ∀ s ∈ im.segs, 0 ≤ s.at_ ∧ s.at_ ≤ 65536 ∧ 1 ≤ s.size ∧ s.size ≤ 65536 ∧ 0 ≤ s.perm ∧ s.perm ≤ 7 ∧ s.at_ + s.size ≤ 65536 ∧ (s.bytes.length : Int) ≤ s.size := fun s hs => by
  simp only [segsB, Bool.and_eq_true] at h
  exact segB_good (segsFrom_each _ _ h.2 s hs)
theorem holds_range {l : List SegL} {at_ n p : Int} (hl : ∀ s ∈ l, 0 ≤ s.at_ ∧ s.at_ ≤ 65536 ∧ 1 ≤ s.size ∧ s.size ≤ 65536 ∧ 0 ≤ s.perm ∧ s.perm ≤ 7 ∧ s.at_ + s.size ≤ 65536 ∧ (s.bytes.length : Int) ≤ s.size) (h : holdsB l at_ n p = true) : 0 ≤ at_ ∧ n ≤ 65536 ∧ at_ + n ≤ 65536 := by
  obtain ⟨s, hs, h2⟩ := List.any_eq_true.1 h
  have := hl s hs
  simp only [Bool.and_eq_true, decide_eq_true_eq] at h2
  omega
theorem symsFrom_each (segs : List SegL) (tls : Int) : ∀ (l done : List SymL), symsFrom segs tls done l = true → ∀ s ∈ l, symB segs tls s = true
  | [], _, _, s, hs => by cases hs
  | a :: l, done, h, s, hs => by
    simp only [symsFrom, Bool.and_eq_true] at h
    rcases List.mem_cons.1 hs with rfl | hs
    · exact h.1.1
    · exact symsFrom_each segs tls l _ h.2 s hs
theorem nameB_len {s : List UInt8} (h : nameB s = true) : 1 ≤ s.length ∧ s.length ≤ 64 := by
  simp only [nameB, Bool.and_eq_true, decide_eq_true_eq] at h; exact ⟨h.1.2, h.2⟩
theorem sizedB_len {s : List UInt8} (h : sizedB s = true) : 1 ≤ s.length ∧ s.length ≤ 200 := by
  simp only [sizedB, Bool.and_eq_true, decide_eq_true_eq] at h; exact h
theorem optB_len {s : List UInt8} (h : (decide (s = []) || nameB s) = true) : s.length ≤ 64 := by
  simp only [Bool.or_eq_true, decide_eq_true_eq] at h
  rcases h with h | h
  · rw [h]; decide
  · exact (nameB_len h).2
theorem sym_good {im : ImgL} (hg : segsB im.segs = true) (ht : tlsB im = true) {s : SymL} (h : symB im.segs im.tlsSize s = true) :
    (1 ≤ s.name.length ∧ s.name.length ≤ 64) ∧ s.version.length ≤ 64 ∧ (1 ≤ s.kind ∧ s.kind ≤ 3) ∧ (0 ≤ s.vis ∧ s.vis ≤ 2) ∧ (0 ≤ s.value ∧ s.value ≤ 65536) ∧ 0 ≤ s.size ∧ s.size ≤ 65536 := by
  simp only [symB, Bool.and_eq_true] at h
  obtain ⟨h1, h2⟩ := h
  simp only [symRightB, Bool.and_eq_true] at h1
  obtain ⟨⟨⟨⟨⟨⟨⟨⟨⟨a1, a2⟩, a3⟩, a4⟩, a5⟩, a6⟩, a7⟩, a8⟩, a9⟩, _⟩ := h1
  simp only [decide_eq_true_eq] at a3 a4 a5 a6 a7 a8
  refine ⟨nameB_len a1, optB_len a2, ⟨a3, a4⟩, ⟨a5, a6⟩, ?_⟩
  cases hd : s.defined with
  | false =>
    rw [hd] at a9
    simp at a9
    omega
  | true =>
    rw [hd] at h2
    simp only [Bool.not_true, Bool.false_or] at h2
    simp only [tlsB, Bool.and_eq_true, decide_eq_true_eq] at ht
    by_cases hk : s.kind = 3
    · rw [if_pos hk] at h2
      simp only [Bool.and_eq_true, decide_eq_true_eq] at h2
      omega
    · rw [if_neg hk] at h2
      have := holds_range (segs_good hg) h2
      omega
theorem relocsFrom_each (im : ImgL) : ∀ (l : List RelL) (e : Int), relocsFrom im e l = true → ∀ r ∈ l, relocB im r = true
  | [], _, _, s, hs => by cases hs
  | a :: l, e, h, s, hs => by
    simp only [relocsFrom, Bool.and_eq_true] at h
    rcases List.mem_cons.1 hs with rfl | hs
    · exact h.1.2
    · exact relocsFrom_each im l _ h.2 s hs
theorem slotsFrom_each (im : ImgL) : ∀ (l : List SlotL) (e : Int), slotsFrom im e l = true → ∀ r ∈ l, slotB im r = true
  | [], _, _, s, hs => by cases hs
  | a :: l, e, h, s, hs => by
    simp only [slotsFrom, Bool.and_eq_true] at h
    rcases List.mem_cons.1 hs with rfl | hs
    · exact h.1.2
    · exact slotsFrom_each im l _ h.2 s hs
theorem symAt_range {im : ImgL} {i : Int} {s : SymL} (h : symAt im i = some s) : 0 ≤ i ∧ i < im.syms.length ∧ s ∈ im.syms := by
  unfold symAt at h
  by_cases hi : i < 0
  · rw [if_pos hi] at h; cases h
  · rw [if_neg hi] at h
    have := (List.getElem?_eq_some_iff.1 h).1
    exact ⟨by omega, by omega, List.mem_of_getElem? h⟩
theorem reloc_good {im : ImgL} (hg : segsB im.segs = true) (hs : im.syms.length ≤ 512) {r : RelL} (h : relocB im r = true) :
    (0 ≤ r.at_ ∧ r.at_ + wideL im r ≤ 65536) ∧ (0 ≤ r.kind ∧ r.kind ≤ 7) ∧ (-1 ≤ r.sym ∧ r.sym ≤ 512) ∧ (-4294967296 ≤ r.add ∧ r.add ≤ 4294967296) := by
  unfold relocB at h
  by_cases hk : r.kind = 1
  · rw [if_pos hk] at h
    simp only [Bool.and_eq_true, decide_eq_true_eq] at h
    have := holds_range (segs_good hg) h.2
    have hw : wideL im r = 8 := by
      unfold wideL
      split
      · rw [if_neg (by omega)]
      · rfl
    omega
  · rw [if_neg hk] at h
    cases hsy : symAt im r.sym with
    | none => rw [hsy] at h; cases h
    | some s =>
      rw [hsy] at h
      have hr := symAt_range hsy
      simp only [Bool.and_eq_true, decide_eq_true_eq] at h
      obtain ⟨⟨h1, h2⟩, h3⟩ := h
      have hw : wideL im r = if r.kind = 2 then s.size else 8 := by rw [wideL, hsy]
      by_cases k1 : r.kind = 0 ∨ r.kind = 6
      · rw [if_pos k1] at h3
        simp only [Bool.and_eq_true] at h3
        have := holds_range (segs_good hg) h3.2
        rw [if_neg (by omega)] at hw
        omega
      rw [if_neg k1] at h3
      by_cases k2 : r.kind = 7
      · rw [if_pos k2] at h3
        simp only [Bool.and_eq_true] at h3
        have := holds_range (segs_good hg) h3.2
        rw [if_neg (by omega)] at hw
        omega
      rw [if_neg k2] at h3
      by_cases k3 : r.kind = 3
      · rw [if_pos k3] at h3
        simp only [Bool.and_eq_true] at h3
        have := holds_range (segs_good hg) h3.2
        rw [if_neg (by omega)] at hw
        omega
      rw [if_neg k3] at h3
      by_cases k4 : r.kind = 4 ∨ r.kind = 5
      · rw [if_pos k4] at h3
        simp only [Bool.and_eq_true] at h3
        have := holds_range (segs_good hg) h3.2
        rw [if_neg (by omega)] at hw
        omega
      rw [if_neg k4] at h3
      by_cases k5 : r.kind = 2
      · rw [if_pos k5] at h3
        simp only [Bool.and_eq_true] at h3
        have := holds_range (segs_good hg) h3.2
        rw [if_pos k5] at hw
        omega
      · rw [if_neg k5] at h3; cases h3
theorem slot_good {im : ImgL} (hg : segsB im.segs = true) (hs : im.syms.length ≤ 512) {s : SlotL} (h : slotB im s = true) :
    (0 ≤ s.at_ ∧ s.at_ ≤ 65536) ∧ (0 ≤ s.sym ∧ s.sym < im.syms.length) ∧ (0 ≤ s.stub ∧ s.stub ≤ 65536) := by
  simp only [slotB, Bool.and_eq_true] at h
  obtain ⟨⟨⟨h1, h2⟩, h3⟩, _⟩ := h
  have a := holds_range (segs_good hg) h2
  have b := holds_range (segs_good hg) h3
  cases hsy : symAt im s.sym with
  | none => rw [hsy] at h1; cases h1
  | some x =>
    have hr := symAt_range hsy
    omega
theorem chain_good {im : ImgL} (h : tableB im = true) : ∀ c ∈ im.buckets, c.length ≤ 512 ∧ ∀ i ∈ c, 0 ≤ i ∧ i < 512 := by
  have hd : ∀ c ∈ im.buckets, c.length ≤ (im.buckets.map List.length).sum := by
    intro c hc
    generalize im.buckets = bs at hc
    induction bs with
    | nil => cases hc
    | cons b bs ih =>
      simp only [List.map_cons, List.sum_cons]
      rcases List.mem_cons.1 hc with rfl | hc
      · omega
      · have := ih hc; omega
  simp only [tableB, Bool.and_eq_true, decide_eq_true_eq] at h
  obtain ⟨⟨⟨⟨⟨h1, _⟩, _⟩, _⟩, h5⟩, h6⟩ := h
  have hf := List.length_filter_le seenB im.syms
  have h7 := (chainsB_iff im im.buckets 0).1 h5
  intro c hc
  refine ⟨by have := hd c hc; omega, fun i hi => ?_⟩
  obtain ⟨j, hj⟩ := List.getElem?_of_mem hc
  obtain ⟨k, hk, rfl, _⟩ := entry_home.1 (h7.2 j c hj i hi)
  have := ((seenK_mem _ _ _).1 hk).1
  omega
theorem okN_small {size : Nat} {n : Int} (hs : size ≤ 4) (h0 : 0 ≤ n) (h1 : n < (256 : Int) ^ size) : okN size n := by
  unfold okN; rw [if_neg (by omega)]; exact ⟨h0, h1⟩
/-- an image that may be has a form -/
theorem may_ok {im : ImgL} (h : mayL im = 0) (hw : ∀ x ∈ im.words, 0 ≤ x ∧ x < 18446744073709551616) : OkImg im := by
  obtain ⟨hh, hg, ht, hs, htb, hr, hsl, hi, hf⟩ := may_parts h
  have p1 : (256 : Int) ^ 1 = 256 := by decide
  have p2 : (256 : Int) ^ 2 = 65536 := by decide
  have p4 : (256 : Int) ^ 4 = 4294967296 := by decide
  have q1 : 256 ^ 1 = 256 := by decide
  have q2 : 256 ^ 2 = 65536 := by decide
  have hch := chain_good htb
  have hgs := segs_good hg
  have run_good : ∀ l, runB im l = true → okLen 1 l.length ∧ ∀ x ∈ l, okN 4 x := by
    intro l hl
    simp only [runB, Bool.and_eq_true, decide_eq_true_eq] at hl
    refine ⟨by unfold okLen; omega, fun x hx => ?_⟩
    have := holds_range hgs (List.all_eq_true.1 hl.2 x hx)
    exact okN_small (by decide) this.1 (by omega)
  have hnames : ∀ l : List (List UInt8), l.length ≤ 16 → (∀ x ∈ l, x.length ≤ 4096) → okTexts l := fun l h1 h2 => ⟨by unfold okLen; omega, h2⟩
  have hh' := hh
  simp only [headB, Bool.and_eq_true] at hh
  obtain ⟨⟨⟨⟨⟨⟨a1, a2⟩, a3⟩, a4⟩, a5⟩, a6⟩, a7⟩ := hh
  simp only [decide_eq_true_eq] at a2 a3 a4 a5
  have hg' := hg
  simp only [segsB, Bool.and_eq_true, decide_eq_true_eq] at hg'
  have ht' := ht
  simp only [tlsB, Bool.and_eq_true, decide_eq_true_eq] at ht'
  have hs' := hs
  simp only [symsB, Bool.and_eq_true, decide_eq_true_eq] at hs'
  have htb' := htb
  simp only [tableB, Bool.and_eq_true, decide_eq_true_eq] at htb'
  obtain ⟨⟨⟨⟨⟨_, _⟩, b3⟩, b4⟩, _⟩, _⟩ := htb'
  simp only [sieveB, Bool.and_eq_true, decide_eq_true_eq] at b4
  obtain ⟨⟨b5, b6⟩, b7⟩ := b4
  have b8 : im.words.length ≤ 64 := by
    simp only [Bool.or_eq_true, decide_eq_true_eq] at b5; omega
  have hr' := hr
  simp only [relocsB, Bool.and_eq_true, decide_eq_true_eq] at hr'
  have hsl' := hsl
  simp only [slotsB, Bool.and_eq_true, decide_eq_true_eq] at hsl'
  refine ⟨by have := optB_len a1; omega, okN_small (by decide) a2 (by omega), ⟨by unfold okLen; omega, fun s hm => ?_⟩, ⟨by unfold okLen; omega, fun n hm => ?_⟩, hnames _ a5 (fun x hx => ?_), ⟨by unfold okLen; omega, fun s hm => ?_⟩,
    ⟨by unfold okLen; omega, fun c hc => ⟨by have := (hch c hc).1; unfold okLen; omega, fun x hx => ?_⟩⟩, okN_small (by decide) (by omega) (by omega), ⟨by unfold okLen; omega, hw⟩, ⟨by unfold okLen; omega, fun r hm => ?_⟩, ⟨by unfold okLen; omega, fun s hm => ?_⟩,
    run_good _ hi, run_good _ hf, okN_small (by decide) (by omega) (by omega), by omega⟩
  · have := hgs s hm
    exact ⟨okN_small (by decide) (by omega) (by omega), okN_small (by decide) (by omega) (by omega), okN_small (by decide) (by omega) (by omega), by omega⟩
  · have := List.all_eq_true.1 a6 n hm
    simp only [needB, Bool.and_eq_true, decide_eq_true_eq] at this
    obtain ⟨⟨c1, c2⟩, c3⟩ := this
    refine ⟨by have := sizedB_len c1; omega, hnames _ c2 (fun x hx => ?_)⟩
    have := nameB_len (List.all_eq_true.1 c3 x hx); omega
  · have := sizedB_len (List.all_eq_true.1 a7 x hx); omega
  · have := sym_good hg ht (symsFrom_each _ _ _ _ hs'.2 s hm)
    exact ⟨by omega, by omega, okN_small (by decide) (by omega) (by omega), okN_small (by decide) (by omega) (by omega), by unfold okN; rw [if_pos rfl]; omega, by unfold okN; rw [if_pos rfl]; omega⟩
  · have := (hch c hc).2 x hx
    exact okN_small (by decide) (by omega) (by omega)
  · have := reloc_good hg hs'.1 (relocsFrom_each _ _ _ hr'.2 r hm)
    have hat : r.at_ ≤ 9223372036854775807 := by
      have hw : 0 ≤ wideL im r := by
        unfold wideL
        split
        · rename_i s hsy
          have := sym_good hg ht (symsFrom_each _ _ _ _ hs'.2 s (symAt_range hsy).2.2)
          split <;> omega
        · omega
      omega
    exact ⟨okN_small (by decide) (by omega) (by omega), by unfold okN; rw [if_pos rfl]; omega, by unfold okN; rw [if_pos rfl]; omega, by unfold okN; rw [if_pos rfl]; omega⟩
  · have := slot_good hg hs'.1 (slotsFrom_each _ _ _ hsl'.2 s hm)
    exact ⟨okN_small (by decide) (by omega) (by omega), okN_small (by decide) (by omega) (by omega), okN_small (by decide) (by omega) (by omega)⟩
/-- bytes that are an image's, whole -/
def wholeP (b : List UInt8) : Option ImgL := match imgP b with
  | some (im, []) => some im
  | _ => none
theorem whole_form {im : ImgL} (h : OkImg im) : wholeP (formL im) = some im := by
  have := img_codec.there im [] h
  rw [List.append_nil] at this
  rw [wholeP, this]
theorem whole_back {b : List UInt8} {im : ImgL} (h : wholeP b = some im) : OkImg im ∧ formL im = b := by
  unfold wholeP at h
  cases hp : imgP b with
  | none => rw [hp] at h; cases h
  | some q =>
    obtain ⟨x, t⟩ := q
    rw [hp] at h
    cases t with
    | cons c t => cases h
    | nil =>
      cases Option.some.inj h
      have := img_codec.back _ _ _ hp
      rwa [List.append_nil] at this
theorem whole_more {im : ImgL} (h : OkImg im) {more : List UInt8} (hm : more ≠ []) : wholeP (formL im ++ more) = none := by
  rw [wholeP, img_codec.there im more h]
  cases more with
  | nil => exact absurd rfl hm
  | cons c t => rfl
theorem whole_cut {im : ImgL} (h : OkImg im) {n : Nat} (hn : n < (formL im).length) : wholeP ((formL im).take n) = none := by
  cases hw : wholeP ((formL im).take n) with
  | none => rfl
  | some x =>
    exfalso
    obtain ⟨h1, h2⟩ := whole_back hw
    have h3 := img_codec.there x ((formL im).drop n) h1
    rw [h2, List.take_append_drop] at h3
    have h4 := img_codec.there im [] h
    rw [List.append_nil, h3] at h4
    have h5 := (Prod.mk.inj (Option.some.inj h4)).2
    have : ((formL im).drop n).length = 0 := by rw [h5]; rfl
    rw [List.length_drop] at this
    omega
theorem form_inj {x y : ImgL} (hx : OkImg x) (hy : OkImg y) (h : formL x = formL y) : x = y := by
  have h1 := whole_form hx
  rw [h, whole_form hy] at h1
  exact (Option.some.inj h1).symm
theorem form_pos (im : ImgL) : 0 < (formL im).length := by
  rw [← formR_eq]
  simp [formR, textL', digitsL_len]
  omega

end Go.Proofs.Ytbliedldlimpgaa

namespace Go.Proofs.Ytbliedldlimpgaa
set_option linter.unusedVariables false
set_option linter.unusedSimpArgs false
open Go.RowKit

/-- a writer at block b, sound, with the bytes l; the blocks for which S holds are none of its own -/
structure WB (b : Nat) (S : Nat → Prop) (w : World) (l : List UInt8) : Prop where
  ex : ∃ v, w.heap[b]? = some (.cells #[.int .i64 0, v] 130 (0, 0)) ∧ OwnK 5 kByte (b + 1) (· = b) w v l ∧ ∀ x, S x → x < w.heap.size ∧ x ≠ b ∧ v.ownBlock ≠ some x
section
variable {b : Nat} {S S' : Nat → Prop} {w w' : World} {l : List UInt8}
theorem WB.lt (h : WB b S w l) : b < w.heap.size := by
  obtain ⟨v, h1, _⟩ := h.ex
  rcases Nat.lt_or_ge b w.heap.size with h' | h'
  · exact h'
  · rw [Array.getElem?_eq_none h'] at h1; cases h1
theorem WB.less (h : WB b S w l) (hi : ∀ x, S' x → S x) : WB b S' w l := by
  obtain ⟨v, h1, h2, h3⟩ := h.ex
  exact ⟨v, h1, h2, fun x hx => h3 x (hi x hx)⟩
theorem WB.below (h : WB b S w l) (hb : Below w.heap.size w w') : WB b S w' l := by
  have hlt := h.lt
  obtain ⟨v, h1, h2, h3⟩ := h.ex
  exact ⟨v, (hb.block b hlt).trans h1, h2.below hb, fun x hx => ⟨Nat.lt_of_lt_of_le (h3 x hx).1 hb.size, (h3 x hx).2⟩⟩
theorem WB.alloc (h : WB b S w l) (o : Obj) : WB b (fun x => S x ∨ x = w.heap.size) (w.alloc o) l := by
  have hlt := h.lt
  obtain ⟨v, h1, h2, h3⟩ := h.ex
  refine ⟨v, (heap_alloc_old w o hlt).trans h1, h2.alloc o, fun x hx => ?_⟩
  rcases hx with hx | rfl
  · exact ⟨by have := (h3 x hx).1; rw [World.size_alloc]; omega, (h3 x hx).2⟩
  · exact ⟨by simp, by omega, fun e => by have := (h2.lt _ e).2; omega⟩
theorem WB.inS (h : WB b S w l) {x : Nat} (hx : S x) : x < w.heap.size := by
  obtain ⟨v, _, _, h3⟩ := h.ex
  exact (h3 x hx).1
theorem WB.put {v v' : Value} (h1 : w.heap[b]? = some (.cells #[.int .i64 0, v] 130 (0, 0))) (h2 : OwnK 5 kByte (b + 1) (· = b) w v' l) (h3 : ∀ x, S x → x < w.heap.size ∧ x ≠ b ∧ v'.ownBlock ≠ some x) : WB b S (w.setCell ⟨b, 1, none⟩ v') l := by
  refine ⟨v', by simp [World.setCell, Array.getElem?_modify, h1], h2.step ((Step.refl (fun x => x ≠ b) w).setCell (p := ⟨b, 1, none⟩) (by simp) v') (fun x _ h => h), fun x hx => ?_⟩
  obtain ⟨a1, a2⟩ := h3 x hx
  exact ⟨by rw [World.size_setCell]; exact a1, a2⟩
theorem WB.sound (h : WB b S w l) : w.cell? ⟨b, 0, none⟩ = some (.int .i64 0) := by
  obtain ⟨v, h1, _⟩ := h.ex
  rw [Lib.cell_of_heap h1]; rfl
end

set_option maxHeartbeats 1000000 in
theorem sound_any (w : World) (b : Nat) (x : Int) (hc : w.cell? ⟨b, 0, none⟩ = some (.int .i64 x)) :
    Calls Try.prog 84 #[.pointer (some ⟨b, 0, none⟩)] w fun e w' => e = .returned (.bool (x == 0)) ∧ w' = w := by
  have hb := World.block_lt_of_cell? _ _ hc
  go_enter Try.func84, Try.ntmps84
  go_wp2
  go_ret
  exact ⟨rfl, rfl⟩

set_option maxHeartbeats 1000000 in
theorem sized_any (w : World) (n : Nat) (hn : n = 1 ∨ n = 2 ∨ n = 4 ∨ n = 8) :
    Calls Try.prog 83 #[.int .i64 (n : Int)] w fun e w' => e = .returned (.bool true) ∧ w' = w := by
  rcases hn with rfl | rfl | rfl | rfl
  all_goals
    go_enter Try.func83, Try.ntmps83
    go_wp2
    go_ret
    exact ⟨rfl, rfl⟩

set_option maxHeartbeats 2000000 in
theorem fits_any (w : World) (n : Nat) (x : Int) (hn : n = 1 ∨ n = 2 ∨ n = 4 ∨ n = 8) (hx : okN n x) :
    Calls Try.prog 85 #[.int .i64 x, .int .i64 (n : Int)] w fun e w' => e = .returned (.bool true) ∧ w' = w := by
  have p1 : (256 : Int) ^ 1 = 256 := by decide
  have p2 : (256 : Int) ^ 2 = 65536 := by decide
  have p4 : (256 : Int) ^ 4 = 4294967296 := by decide
  rcases hn with rfl | rfl | rfl | rfl
  case inr.inr.inr =>
    clear hx p1 p2 p4
    go_enter Try.func85, Try.ntmps85
    go_wp2
    go_ret
    exact ⟨rfl, rfl⟩
  all_goals
    unfold okN at hx
    rw [if_neg (by decide)] at hx
    simp only [p1, p2, p4] at hx
    obtain ⟨h0, h1⟩ := hx
    have hd : decide (0 ≤ x) = true := by rw [decide_eq_true_eq]; exact h0
    clear p1 p2 p4
  · have hq : (x / 256 == 0) = true := by rw [beq_iff_eq]; omega
    go_enter Try.func85, Try.ntmps85
    go_wp2
    go_ret
    exact ⟨rfl, rfl⟩
  · have hq : (x / 65536 == 0) = true := by rw [beq_iff_eq]; omega
    go_enter Try.func85, Try.ntmps85
    go_wp2
    go_ret
    exact ⟨rfl, rfl⟩
  · have hq : (x / 4294967296 == 0) = true := by rw [beq_iff_eq]; omega
    go_enter Try.func85, Try.ntmps85
    go_wp2
    go_ret
    exact ⟨rfl, rfl⟩

theorem flag_any (w : World) (x : Bool) : Calls Try.prog 38 #[.bool x] w fun e w' => e = .returned (.int .i64 (oneL x)) ∧ w' = w := by
  cases x
  all_goals
    go_enter Try.func38, Try.ntmps38
    go_wp2
    go_ret
    exact ⟨rfl, rfl⟩

end Go.Proofs.Ytbliedldlimpgaa

namespace Go.Proofs.Ytbliedldlimpgaa
set_option linter.unusedVariables false
set_option linter.unusedSimpArgs false
open Go.RowKit

theorem digitsL_succ (size : Nat) (n : Int) (i : Nat) (h : i < size) : (digitsL size n).take (i + 1) = (digitsL size n).take i ++ [UInt8.ofNat ((n % 18446744073709551616).toNat / 256 ^ i)] := by
  have hl : i < (digitsL size n).length := by rw [digitsL_len]; exact h
  rw [List.take_succ_eq_append_getElem hl]
  congr 2
  simp [digitsL]
theorem shr_byte (n : Int) (i : Nat) (h : i < 8) : IntKind.u8.wrap (n / 2 ^ (8 * i)) = ((UInt8.ofNat ((n % 18446744073709551616).toNat / 256 ^ i)).toNat : Int) := by
  have e : ∀ m : Nat, ((UInt8.ofNat m).toNat : Int) = (m : Int) % 256 := fun m => by simp
  rw [e, IntKind.wrap_u8']
  have : i = 0 ∨ i = 1 ∨ i = 2 ∨ i = 3 ∨ i = 4 ∨ i = 5 ∨ i = 6 ∨ i = 7 := by omega
  rcases this with rfl | rfl | rfl | rfl | rfl | rfl | rfl | rfl <;> simp only [Nat.mul_zero, Nat.mul_one, Nat.reduceMul, Nat.reducePow, Int.reducePow, Nat.pow_zero, Int.pow_zero] <;> omega
theorem numsL_take (size : Nat) (ns : List Int) (k : Nat) (n : Int) (hn : ns[k]? = some n) : numsL size (ns.take (k + 1)) = numsL size (ns.take k) ++ digitsL size n := by
  obtain ⟨h, rfl⟩ := List.getElem?_eq_some_iff.1 hn
  rw [numsL, List.take_succ_eq_append_getElem h, List.map_append, List.flatten_append]; simp [numsL]
theorem numsL_len (size : Nat) (ns : List Int) : (numsL size ns).length = size * ns.length := by
  induction ns with
  | nil => simp [numsL]
  | cons n ns ih => 
    have : numsL size (n :: ns) = digitsL size n ++ numsL size ns := by simp [numsL]
    rw [this, List.length_append, ih, digitsL_len, List.length_cons, Nat.mul_succ, Nat.add_comm]

set_option maxHeartbeats 16000000 in
set_option maxRecDepth 100000 in
theorem wnum_any (b : Nat) (S : Nat → Prop) (w : World) (l : List UInt8) (size : Nat) (ns : List Int) (u : Value) (h : WB b S w l) (hu : LB kInt S w u ns) (hs : size = 1 ∨ size = 2 ∨ size = 4 ∨ size = 8)
    (hf : ∀ n ∈ ns, okN size n) (hr : ∀ n ∈ ns, -9223372036854775808 ≤ n ∧ n ≤ 9223372036854775807) (hlen : l.length + size * ns.length ≤ 1000000000) :
    Calls Try.prog 36 #[.pointer (some ⟨b, 0, none⟩), .int .i64 (size : Int), u] w fun e w' => e = .returned (.tuple #[]) ∧ WB b S w' (l ++ numsL size ns) ∧ Step S w w' := by
  obtain ⟨ua, ub, uoff, ucap, rfl, hum, huc, hat⟩ := hu.at
  have Hat := Lib.hid hat
  have Hf := Lib.hid hf
  have Hr := Lib.hid hr
  have H := Lib.hid h
  have hs8 : 1 ≤ size ∧ size ≤ 8 := by omega
  have HS := Lib.hid (fun w => sized_any w size hs)
  have HF := Lib.hid (fun w x hx => fits_any w size x hs hx)
  have hc0 := h.sound
  have hbl := h.lt
  clear hu hat hf hr h hs
  go_enter Try.func36, Try.ntmps36
  go_wp2_with fail
  refine (HS.out _).mono ?_
  rintro e w2 ⟨rfl, rfl⟩
  clear hc0
  go_wp2_with fail
  go_loopw [8, 18] (fun _ i wr => ∃ k : Nat, i = .int .i64 k ∧ k ≤ ns.length ∧ WB b S wr (l ++ numsL size (ns.take k)) ∧ Step S w2 wr) (fun _ i _ => ns.length - (intOf i).toNat)
  case atStart => exact ⟨0, rfl, Nat.zero_le _, by simpa [numsL] using H.out, Step.refl _ _⟩
  case round =>
    obtain ⟨k, rfl, hk, hw, hst⟩ := hrel
    have Hw := Lib.hid hw
    have Hst := Lib.hid hst
    have hc0 := hw.sound
    have hbr := hw.lt
    by_cases hlt : k < ns.length
    · obtain rfl := Hat.out.addr (by omega)
      obtain ⟨n, hn⟩ : ∃ n, ns[k]? = some n := ⟨_, List.getElem?_eq_getElem hlt⟩
      have g := (Hst.out.cell (p := ⟨ub, uoff + k, none⟩) (Hat.out.inS (by omega))).trans (Hat.out.int1 k n hn)
      have hfn := Hf.out n (List.mem_of_getElem? hn)
      have hrn := Hr.out n (List.mem_of_getElem? hn)
      have Hnt := Lib.hid (numsL_take size ns k n hn)
      have hkl := numsL_len size (ns.take k)
      rw [List.length_take, Nat.min_eq_left hk] at hkl
      have hmul : size * k + size ≤ size * ns.length := by rw [← Nat.mul_succ]; exact Nat.mul_le_mul_left _ hlt
      have HFn := Lib.hid (fun w => HF.out w n hfn)
      clear hn hw hst hfn
      go_wp2_with fail
      refine (sound_any _ b 0 hc0).mono ?_
      rintro e w3 ⟨rfl, rfl⟩
      go_wp2_with fail
      refine (HFn.out _).mono ?_
      rintro e w3 ⟨rfl, rfl⟩
      clear hc0 g
      go_wp2_with fail
      go_loopw [8] (fun i wi => ∃ j : Nat, i = .int .i64 j ∧ j ≤ size ∧ WB b S wi (l ++ numsL size (ns.take k) ++ (digitsL size n).take j) ∧ Step S w2 wi) (fun i _ => size - (intOf i).toNat)
      case atStart => exact ⟨0, rfl, Nat.zero_le _, by have := Hw.out; simpa using this, Hst.out⟩
      case round =>
        obtain ⟨j, rfl, hj, hw, hst⟩ := hrel
        have Hw2 := Lib.hid hw
        have Hst2 := Lib.hid hst
        have hc0 := hw.sound
        have hbr2 := hw.lt
        clear hw hst
        by_cases hj2 : j < size
        · have hd1 : decide ((j : Int) < (size : Int)) = true := by rw [decide_eq_true_eq]; omega
          have Hds := Lib.hid (digitsL_succ size n j hj2)
          have hsb := shr_byte n j (by omega)
          obtain ⟨cb, hcb⟩ : ∃ cb : UInt8, UInt8.ofNat ((n % 18446744073709551616).toNat / 256 ^ j) = cb := ⟨_, rfl⟩
          rw [hcb] at hsb Hds
          clear hcb
          have hq0 : (0 : Int) ≤ 8 * (j : Int) := by omega
          have hq1 : 8 * (j : Int) ≤ 64 := by omega
          have hq2 : IntKind.i64.wrap (8 * (j : Int)) = 8 * (j : Int) := by rw [IntKind.wrap_i64]; omega
          have hq3 : (8 * (j : Int)).toNat = 8 * j := by omega
          have hdl : ((digitsL size n).take j).length = j := by rw [List.length_take, digitsL_len]; omega
          obtain ⟨v, hv1, hv2, hv3⟩ := Hw2.out.ex
          have Hv1 := Lib.hid hv1
          have Hv2 := Lib.hid hv2
          have Hv3 := Lib.hid hv3
          have hc1 : wr.cell? ⟨b, 1, none⟩ = some v := by rw [Lib.cell_of_heap hv1]; rfl
          obtain ⟨va, vc, hvf⟩ := hv2.form
          obtain ⟨L, hL⟩ : ∃ L, (l ++ numsL size (ns.take k) ++ (digitsL size n).take j).length = L := ⟨_, rfl⟩
          have hLb : L ≤ 1000000000 := by rw [← hL]; simp only [List.length_append]; omega
          have HL := Lib.hid hL
          rw [hL] at hvf
          clear hL
          subst hvf
          clear hv1 hv2 hv3
          go_wp2_with fail
          refine (sound_any _ b 0 hc0).mono ?_
          rintro e w3 ⟨rfl, rfl⟩
          go_wp2_with fail
          have fx : w3.frozen? ⟨b, 1, none⟩ = false := Lib.frozen_of_heap Hv1.out 1
          refine wp_region_phase 12 (by kernel_rfl) (by kernel_rfl) ?_
          simp only [List.take_succ_cons, List.take_zero, List.drop_succ_cons, List.drop_zero, List.take_nil, List.drop_nil]
          refine wpAny_of_held (S := fun w' => w'.cell? ⟨b, 1, none⟩ = some (.slice va L vc)) _ _ _ _ ?_
          have hHeld : (fun w' : World => w'.cell? ⟨b, 1, none⟩ = some (.slice va L vc)) w3.drew := hc1
          show wpAnyH _ _ _ _ _ _ _ _ (World.drew _)
          have Hd2 := Lib.hid Hv2.out.drew
          have Hd1 : Hid (w3.drew.heap[b]? = _) := Lib.hid Hv1.out
          have Hd3 : Hid (∀ x, S x → x < w3.drew.heap.size ∧ x ≠ b ∧ Value.ownBlock (.slice va L vc) ≠ some x) := Lib.hid Hv3.out
          have hst3 := Lib.hid Hst2.out.drew
          have hbd : b < w3.drew.heap.size := hbr2
          generalize w3.drew = wd at *
          refine wpAnyH_take (i := 0) (v := ?_) rfl (by kernel_rfl) (by kernel_rfl) (by kernel_rfl) (fun _ _ _ h => h) (Or.inl ⟨by rfl, ?_⟩) hHeld ?_
          rotate_left
          · (intro w hSw; (try dsimp only at hSw); go_simp; try with_reducible rfl)
          try simp only [Act.put, List.setIfInBounds_toArray, List.set_cons_zero, List.set_cons_succ]
          refine wpAnyH_take (i := 1) (v := ?_) rfl (by kernel_rfl) (by kernel_rfl) (by kernel_rfl) (fun _ _ _ h => h) (Or.inl ⟨by rfl, ?_⟩) hHeld ?_
          rotate_left
          · (intro w hSw; (try dsimp only at hSw); go_simp; try with_reducible rfl)
          try simp only [Act.put, List.setIfInBounds_toArray, List.set_cons_zero, List.set_cons_succ]
          refine wpAnyH_take (i := 2) (v := ?_) rfl (by kernel_rfl) (by kernel_rfl) (by kernel_rfl) (fun _ _ _ h => h) (Or.inl ⟨by rfl, ?_⟩) hHeld ?_
          rotate_left
          · (intro w hSw; (try dsimp only at hSw); go_simp; try with_reducible rfl)
          try simp only [Act.put, List.setIfInBounds_toArray, List.set_cons_zero, List.set_cons_succ]
          refine wpAnyH_take (i := 3) (v := ?_) rfl (by kernel_rfl) (by kernel_rfl) (by kernel_rfl) (fun _ _ _ h => h) (Or.inl ⟨by rfl, ?_⟩) hHeld ?_
          rotate_left
          · (intro w hSw; (try dsimp only at hSw); go_simp; try with_reducible rfl)
          try simp only [Act.put, List.setIfInBounds_toArray, List.set_cons_zero, List.set_cons_succ]
          refine wpAnyH_take (i := 4) (v := ?_) rfl (by kernel_rfl) (by kernel_rfl) (by kernel_rfl) (fun _ _ _ h => h) (Or.inl ⟨by rfl, ?_⟩) hHeld ?_
          rotate_left
          · (intro w hSw; (try dsimp only at hSw); go_simp; try with_reducible rfl)
          try simp only [Act.put, List.setIfInBounds_toArray, List.set_cons_zero, List.set_cons_succ]
          refine wpAnyH_take (i := 5) (v := ?_) rfl (by kernel_rfl) (by kernel_rfl) (by kernel_rfl) (fun _ _ _ h => h) (Or.inl ⟨by rfl, ?_⟩) hHeld ?_
          rotate_left
          · (intro w hSw; (try dsimp only at hSw); go_simp; try with_reducible rfl)
          try simp only [Act.put, List.setIfInBounds_toArray, List.set_cons_zero, List.set_cons_succ]
          refine wpAnyH_take (i := 6) (v := ?_) rfl (by kernel_rfl) (by kernel_rfl) (by kernel_rfl) (fun _ _ _ h => h) (Or.inl ⟨by rfl, ?_⟩) hHeld ?_
          rotate_left
          · (intro w hSw; (try dsimp only at hSw); go_simp; try with_reducible rfl)
          try simp only [Act.put, List.setIfInBounds_toArray, List.set_cons_zero, List.set_cons_succ]
          refine wpAnyH_take (i := 7) (v := ?_) rfl (by kernel_rfl) (by kernel_rfl) (by kernel_rfl) (fun _ _ _ h => h) (Or.inl ⟨by rfl, ?_⟩) hHeld ?_
          rotate_left
          · (intro w hSw; (try dsimp only at hSw); go_simp; try with_reducible rfl)
          try simp only [Act.put, List.setIfInBounds_toArray, List.set_cons_zero, List.set_cons_succ]
          refine wpAnyH_take (i := 8) (v := ?_) rfl (by kernel_rfl) (by kernel_rfl) (by kernel_rfl) (fun _ _ _ h => h) (Or.inl ⟨by rfl, ?_⟩) hHeld ?_
          rotate_left
          · (intro w hSw; (try dsimp only at hSw); go_simp; try with_reducible rfl)
          try simp only [Act.put, List.setIfInBounds_toArray, List.set_cons_zero, List.set_cons_succ]
          refine wpAnyH_take (i := 9) (v := ?_) rfl (by kernel_rfl) (by kernel_rfl) (by kernel_rfl) (fun _ _ _ h => h) (Or.inl ⟨by rfl, ?_⟩) hHeld ?_
          rotate_left
          · (intro w hSw; (try dsimp only at hSw); go_simp; try with_reducible rfl)
          try simp only [Act.put, List.setIfInBounds_toArray, List.set_cons_zero, List.set_cons_succ]
          clear hsb hq0 hq1 hq2 hq3
          refine wpAnyH_ready (rs := [10]) (by kernel_rfl) (by simp) ?_
          refine AllReadyH.cons rfl (fun K hK => ?_) AllReadyH.nil
          go_simp
          have Hd4 := Lib.hid ((heap_alloc_old wd (.cells #[.int .u8 cb.toNat] 5 (0, 0)) hbd).trans Hd1.out)
          have Hd5 := Lib.hid (Hd2.out.alloc (.cells #[.int .u8 cb.toNat] 5 (0, 0)))
          have Hd6 := Lib.hid (heap_alloc_new wd (.cells #[.int .u8 cb.toNat] 5 (0, 0)))
          have hst4 := Lib.hid (hst3.out.alloc (fun x hx => (Hd3.out x hx).1) (.cells #[.int .u8 cb.toNat] 5 (0, 0)))
          have hz4 : (wd.alloc (.cells #[.int .u8 cb.toNat] 5 (0, 0))).heap.size = wd.heap.size + 1 := by simp
          have hlo := Hd2.out.lt
          refine hK.out _ _ ((Lib.cell_of_heap Hd4.out 1).trans rfl) (fun hHeld => ?_)
          clear hK K
          try simp only [Act.put, List.setIfInBounds_toArray, List.set_cons_zero, List.set_cons_succ]
          generalize wd.alloc (.cells #[.int .u8 cb.toNat] 5 (0, 0)) = w4 at *
          refine wpAnyH_ready (rs := [11]) (by kernel_rfl) (by simp) ?_
          refine AllReadyH.cons rfl (fun K hK => ?_) AllReadyH.nil
          rw [if_pos (by rfl)]
          simp only [List.getElem_toArray, List.getElem_cons_succ, List.getElem_cons_zero]
          refine wp_appendK (K := kByte) (e := 5) (B := b + 1) (E := (· = b)) 36 (.int .u8 0) 1 Try.underlying36 info_byte rfl (by decide) (.tmp 51) (.tmp 57) ?_ L HL.out ?_ Hd5.out (fun x hx => by have hx : x = b := hx; omega) wd.heap.size cb [.int .u8 cb.toNat] ?_ ?_ ?_ rfl ?_ ?_ (by omega) (fun g c w5 hown hst5 hlt5 hne => ?_)
          · rfl
          · rfl
          · rfl
          · intro q u hu
            match q, hu with
            | 0, hu => simp at hu; subst hu; rw [Lib.cell_of_heap Hd6.out]; rfl
            | q + 1, hu => simp at hu
          · intro u hu; simp at hu; subst hu; rfl
          · rw [HL.out]; omega
          · rw [HL.out]; omega
          have hvb : Value.ownBlock (.slice va L vc) ≠ some b := fun e => Hd5.out.notE _ e rfl
          have Hb5 := Lib.hid ((hst5.block b ⟨by omega, hvb⟩).trans Hd4.out)
          have hst6 := Lib.hid (hst4.out.trans (hst5.imp (S' := S) (fun x hx => ⟨by have := (Hd3.out x hx).1; omega, (Hd3.out x hx).2.2⟩)))
          have Hd8 : Hid (∀ x, S x → x < w5.heap.size ∧ x ≠ b ∧ Value.ownBlock (.slice (some ⟨g, 0, none⟩) (L + 1) c) ≠ some x) := Lib.hid (fun x hx => by
            obtain ⟨a1, a2, a3⟩ := Hd3.out x hx
            exact ⟨by have := hst5.size; omega, a2, fun e => hne x (by omega) a3 (by simpa [Value.ownBlock] using e.symm)⟩)
          have Hown := Lib.hid hown
          refine hK.out _ _ ((Lib.cell_of_heap Hb5.out 1).trans rfl) (fun hHeld => ?_)
          clear hK K
          try simp only [Act.put, List.setIfInBounds_toArray, List.set_cons_zero, List.set_cons_succ]
          refine wpAnyH_done (by kernel_rfl) ?_ _
          simp only [phaseQ]
          have hc5 : w5.cell? ⟨b, 1, none⟩ = some (.slice va L vc) := by rw [Lib.cell_of_heap Hb5.out]; rfl
          have fx5 : w5.frozen? ⟨b, 1, none⟩ = false := Lib.frozen_of_heap Hb5.out 1
          clear hHeld hown hst5 hne hc1 hc0 fx Hd3 Hd4 Hd5 Hd6 hst3 hst4 hvb
          go_wp2
          go_roundw
          case rel =>
            refine ⟨j + 1, by go_num, by omega, ?_, hst6.out.setCell (p := ⟨b, 1, none⟩) (fun hS => (Hd8.out b hS).2.1 rfl) _⟩
            rw [Hds.out, ← List.append_assoc]
            exact WB.put Hb5.out Hown.out Hd8.out
          case measure => simp [intOf]; omega
        · have hje : (digitsL size n).take j = digitsL size n := by rw [List.take_of_length_le (by rw [digitsL_len]; omega)]
          have hd1 : decide ((j : Int) < (size : Int)) = false := by rw [decide_eq_false_iff_not]; omega
          have Hfin : Hid (WB b S wr (l ++ numsL size (ns.take (k + 1)))) := Lib.hid (by have := Hw2.out; rw [hje, List.append_assoc, ← Hnt.out] at this; exact this)
          clear hje hc0
          go_wp2
          go_roundw
          case rel => exact ⟨k + 1, by go_num, by omega, Hfin.out, Hst2.out⟩
          case measure => simp [intOf]; omega
    · have Hall : Hid (ns.take k = ns) := Lib.hid (List.take_of_length_le (by omega))
      rw [Hall.out] at hw
      have Hw2 := Lib.hid hw
      clear hw hst
      go_wp2
      go_end0
      exact ⟨rfl, Hw2.out, Hst.out⟩

end Go.Proofs.Ytbliedldlimpgaa

namespace Go.Proofs.Ytbliedldlimpgaa
set_option linter.unusedVariables false
set_option linter.unusedSimpArgs false
open Go.RowKit

theorem WB.later {b : Nat} {S : Nat → Prop} {w w' : World} {l : List UInt8} (h : WB b S w l) (hb : Below w.heap.size w w') : WB b (fun x => S x ∨ (w.heap.size ≤ x ∧ x < w'.heap.size)) w' l := by
  have hlt := h.lt
  obtain ⟨v, h1, h2, h3⟩ := h.ex
  refine ⟨v, (hb.block b hlt).trans h1, h2.below hb, fun x hx => ?_⟩
  rcases hx with hx | ⟨h4, h5⟩
  · exact ⟨Nat.lt_of_lt_of_le (h3 x hx).1 hb.size, (h3 x hx).2⟩
  · exact ⟨h5, by omega, fun e => by have := (h2.lt _ e).2; omega⟩
/-- the world behind '[]byte(text)' -/
def convW (w : World) (p : List UInt8) : World := w.drew.alloc (.cells (bytesRow ⟨p.toArray⟩ (grownCap w p.length 0 5)) 5 ((bytesRow ⟨p.toArray⟩ (grownCap w p.length 0 5)).size, (bytesRow ⟨p.toArray⟩ (grownCap w p.length 0 5)).size + 1))
theorem run_conv (w : World) (p : List UInt8) : (Go.convert 9 36 (.string ⟨p.toArray⟩)).run Try.prog w = Result.ok (.slice (some ⟨w.heap.size, 0, none⟩) p.length (grownCap w p.length 0 5)) (convW w p) := by
  have h := run_bytes_of_string (P := Try.prog) w 9 36 5 ⟨p.toArray⟩ Try.underlying9 Try.underlying36 Try.underlying5
  rw [size_mk] at h
  exact h
theorem convW_below (w : World) (p : List UInt8) : Below w.heap.size w (convW w p) := ((Below.refl _ w).drew).alloc (Nat.le_refl _) _
theorem convW_size (w : World) (p : List UInt8) : (convW w p).heap.size = w.heap.size + 1 := by unfold convW; rw [World.size_alloc]; rfl
theorem convW_lb (w : World) (p : List UInt8) (hp : p.length ≤ 9223372036854775807) : LB kByte (fun x => x = w.heap.size) (convW w p) (.slice (some ⟨w.heap.size, 0, none⟩) p.length (grownCap w p.length 0 5)) p := by
  refine ⟨some ⟨w.heap.size, 0, none⟩, w.heap.size, 0, _, rfl, hp, fun _ => rfl, ⟨grownCap_ge w _ 0 _, fun h => by cases h⟩, fun _ => rfl, fun i x hx => ⟨_, rfl, fun j u hu => ?_⟩⟩
  match j, hu with
  | 0, hu =>
    simp at hu; subst hu
    obtain ⟨hi, rfl⟩ := List.getElem?_eq_some_iff.1 hx
    have hh : (convW w p).heap[w.heap.size]? = _ := heap_alloc_new w.drew _
    have e1 : kByte.k = 1 := rfl
    rw [e1]
    simp only [World.cell?, hh, Nat.zero_add, Nat.mul_one, Nat.add_zero]
    exact bytesRow_at ⟨p.toArray⟩ _ i (by simpa using hi)
  | j + 1, hu => simp at hu

set_option maxHeartbeats 4000000 in
set_option maxRecDepth 100000 in
theorem wraw_any (b : Nat) (S : Nat → Prop) (w : World) (l m : List UInt8) (u : Value) (h : WB b S w l) (hu : LB kByte S w u m) (hlen : l.length + m.length ≤ 1000000000) :
    Calls Try.prog 82 #[.pointer (some ⟨b, 0, none⟩), u] w fun e w' => e = .returned (.tuple #[]) ∧ WB b S w' (l ++ m) ∧ Step S w w' := by
  obtain ⟨ua, uc, rfl⟩ := hu.form
  have Hu := Lib.hid hu
  have hc0 := h.sound
  have hbl := h.lt
  obtain ⟨v, hv1, hv2, hv3⟩ := h.ex
  have Hv1 := Lib.hid hv1
  have Hv2 := Lib.hid hv2
  have Hv3 := Lib.hid hv3
  have hc1 : w.cell? ⟨b, 1, none⟩ = some v := by rw [Lib.cell_of_heap hv1]; rfl
  obtain ⟨va, vc, rfl⟩ := hv2.form
  clear h hu hv1 hv2 hv3
  go_enter Try.func82, Try.ntmps82
  go_wp2_with fail
  refine (sound_any _ b 0 hc0).mono ?_
  rintro e w3 ⟨rfl, rfl⟩
  go_wp2_with (at_builtin; refine wpList_appendsK (B := b + 1) (E := (· = b)) plain_byte 36 (.int .u8 0) 1 Try.underlying36 info_byte rfl rfl (.tmp 12) (.tmp 13) rfl rfl Hv2.out (fun x hx => by have hx : x = b := hx; omega) _ m rfl Hu.out ?c1 ?c2 (by omega) ?_)
  case c1 => omega
  case c2 => omega
  intro v' w4 hown hst hne
  obtain ⟨va', vc', hvf⟩ := hown.form
  obtain ⟨L, hL⟩ : ∃ L, (l ++ m).length = L := ⟨_, rfl⟩
  rw [hL] at hvf
  clear hL
  subst hvf
  have hvb : Value.ownBlock (.slice va l.length vc) ≠ some b := fun e => Hv2.out.notE _ e rfl
  have Hb4 := Lib.hid ((hst.block b ⟨hbl, hvb⟩).trans Hv1.out)
  have Hst := Lib.hid (hst.imp (S' := S) (fun x hx => ⟨(Hv3.out x hx).1, (Hv3.out x hx).2.2⟩))
  have Hd8 : Hid (∀ x, S x → x < w4.heap.size ∧ x ≠ b ∧ Value.ownBlock (.slice va' L vc') ≠ some x) := Lib.hid (fun x hx => by
    obtain ⟨a1, a2, a3⟩ := Hv3.out x hx
    exact ⟨by have := hst.size; omega, a2, hne x a1 a3⟩)
  have Hown := Lib.hid hown
  have hc4 : w4.cell? ⟨b, 1, none⟩ = some (.slice va l.length vc) := by rw [Lib.cell_of_heap Hb4.out]; rfl
  have fx4 : w4.frozen? ⟨b, 1, none⟩ = false := Lib.frozen_of_heap Hb4.out 1
  clear hown hst hne hc0 hc1 hvb Hv2 Hv3 Hu
  go_wp2
  go_end0
  exact ⟨rfl, WB.put Hb4.out Hown.out Hd8.out, Hst.out.setCell (p := ⟨b, 1, none⟩) (fun hS => (Hd8.out b hS).2.1 rfl) _⟩

end Go.Proofs.Ytbliedldlimpgaa
