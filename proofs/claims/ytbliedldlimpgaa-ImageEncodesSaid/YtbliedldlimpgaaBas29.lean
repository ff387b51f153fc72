/- Lemmas that the claim is proved from: what calls of functions of the program come to (contracts), and plain laws. Each lemma bears its own conditions. -/
import Derived.Test.YtbliedldlimpgaaBas28
import Derived.Test.YtbliedldlimpgaaBas15
import Derived.Test.YtbliedldlimpgaaBas4
import Derived.Test.YtbliedldlimpgaaBas5

namespace Go.Proofs.Ytbliedldlimpgaa
set_option linter.unusedVariables false
set_option linter.unusedSimpArgs false
open Go.RowKit

/-- the image of the document's example -/
def leastL : ImgL := ⟨[], 0, [⟨0, 1, [], 5⟩], [], [], [], [[]], [0], 6, [], [], [], [], [], 0⟩
def leastV (s b c : Value) : ImgV := ⟨s, .slice none 0 0, .slice none 0 0, .slice none 0 0, b, c, .slice none 0 0, .slice none 0 0, .slice none 0 0, .slice none 0 0, .slice none 0 0⟩
theorem may_least : mayL leastL = 0 := by kernel_rfl
theorem may_rel : mayL { leastL with relocs := [⟨0, 1, -1, 0⟩] } = 94 := by kernel_rfl
theorem may_empty : mayL ⟨[], 0, [], [], [], [], [], [], 0, [], [], [], [], [], 0⟩ = 91 := by kernel_rfl

theorem seg_lb {w : World} {B g : Nat} (h1 : g < w.heap.size) (h0 : B ≤ g) (h : w.heap[g]? = some (.cells #[.int .i64 0, .int .i64 1, .slice none 0 0, .int .i64 5] 72 (0, 0))) :
    LB kSeg (fun b => B ≤ b ∧ b < w.heap.size) w (.slice (some ⟨g, 0, none⟩) 1 1) [⟨0, 1, [], 5⟩] := by
  refine ⟨some ⟨g, 0, none⟩, g, 0, 1, rfl, by decide, fun _ => rfl, ⟨Nat.le_refl _, fun h => by cases h⟩, fun _ => ⟨h0, h1⟩, fun i x hx => ?_⟩
  match i, hx with
  | 0, hx =>
    simp at hx; subst hx
    refine ⟨[.int .i64 0, .int .i64 1, .slice none 0 0, .int .i64 5], ⟨_, rfl, LB.nil _ _ _⟩, fun j u hu => ?_⟩
    rw [Lib.cell_of_heap h]
    simpa using hu
  | i + 1, hx => simp at hx

set_option maxHeartbeats 8000000 in
set_option maxRecDepth 100000 in
theorem ileast_any (w : World) : Calls Try.prog 19 #[] w fun e w' => ∃ s b c, e = .returned (.agg (imgCells (leastV s b c) leastL)) ∧ Below w.heap.size w w' ∧ ImgM (fun b => w.heap.size ≤ b ∧ b < w'.heap.size) w' (leastV s b c) leastL := by
  go_enter Try.func19, Try.ntmps19
  go_wp2_with fail
  refine (jmake_nil _).mono ?_
  rintro e w1 ⟨bv, wv, rfl, hb, hlb, hlw⟩
  obtain ⟨ba, bc, rfl⟩ := hlb.form
  obtain ⟨wa, wc, rfl⟩ := hlw.form
  simp only [List.length_cons, List.length_nil, Nat.zero_add] at *
  have HB := Lib.hid hb
  have HLb := Lib.hid hlb
  have HLw := Lib.hid hlw
  clear hb hlb hlw
  have hz0 := HB.out.size
  rw [World.size_alloc] at hz0
  have B1 : Hid (Below w.heap.size w (w1.alloc (.cells #[.slice ba 1 bc, .slice wa 1 wc, .int .i64 6] 32 (0, 0)))) := Lib.hid ((((Below.refl w.heap.size w).alloc (Nat.le_refl _) _).trans (HB.out.mono (by rw [World.size_alloc]; omega))).alloc (by omega) _)
  have FM := Lib.hid ((heap_alloc_old w1 (.cells #[.slice ba 1 bc, .slice wa 1 wc, .int .i64 6] 32 (0, 0)) (r := w.heap.size) (by omega)).trans ((HB.out.block w.heap.size (by rw [World.size_alloc]; omega)).trans (heap_alloc_new w (.cells #[.string ⟨#[]⟩, .int .i64 0, .slice none 0 0, .slice none 0 0, .slice none 0 0, .slice none 0 0, .slice none 0 0, .slice none 0 0, .int .i64 0, .slice none 0 0, .slice none 0 0, .slice none 0 0, .slice none 0 0, .slice none 0 0, .int .i64 0] 38 (0, 0)))))
  have FT := Lib.hid (heap_alloc_new w1 (.cells #[.slice ba 1 bc, .slice wa 1 wc, .int .i64 6] 32 (0, 0)))
  have Lb := Lib.hid ((HLb.out.keeps (fun b hb => heap_alloc_old w1 (.cells #[.slice ba 1 bc, .slice wa 1 wc, .int .i64 6] 32 (0, 0)) hb.2)).imp (S' := fun b => w.heap.size < b ∧ b < (w1.alloc (.cells #[.slice ba 1 bc, .slice wa 1 wc, .int .i64 6] 32 (0, 0))).heap.size) (fun b hb => ⟨by have := hb.1; rw [World.size_alloc] at this; omega, by have := hb.2; rw [World.size_alloc]; omega⟩))
  have Lw := Lib.hid ((HLw.out.keeps (fun b hb => heap_alloc_old w1 (.cells #[.slice ba 1 bc, .slice wa 1 wc, .int .i64 6] 32 (0, 0)) hb.2)).imp (S' := fun b => w.heap.size < b ∧ b < (w1.alloc (.cells #[.slice ba 1 bc, .slice wa 1 wc, .int .i64 6] 32 (0, 0))).heap.size) (fun b hb => ⟨by have := hb.1; rw [World.size_alloc] at this; omega, by have := hb.2; rw [World.size_alloc]; omega⟩))
  have hz1 : w1.heap.size < (w1.alloc (.cells #[.slice ba 1 bc, .slice wa 1 wc, .int .i64 6] 32 (0, 0))).heap.size := by simp
  clear HB HLb HLw
  go_upto_region 2 with fail
  generalize w1.alloc (.cells #[.slice ba 1 bc, .slice wa 1 wc, .int .i64 6] 32 (0, 0)) = w2 at *
  generalize w1.heap.size = tb at *
  have FT2 := Lib.hid ((heap_alloc_old w2 (.cells #[.int .i64 0, .int .i64 1, .slice none 0 0, .int .i64 5] 72 (0, 0)) hz1).trans FT.out)
  have FM2 := Lib.hid ((heap_alloc_old w2 (.cells #[.int .i64 0, .int .i64 1, .slice none 0 0, .int .i64 5] 72 (0, 0)) (r := w.heap.size) (by omega)).trans FM.out)
  have FS := Lib.hid (heap_alloc_new w2 (.cells #[.int .i64 0, .int .i64 1, .slice none 0 0, .int .i64 5] 72 (0, 0)))
  have B2 := Lib.hid (B1.out.alloc (by omega) (.cells #[.int .i64 0, .int .i64 1, .slice none 0 0, .int .i64 5] 72 (0, 0)))
  have Lb2 := Lib.hid (Lb.out.keeps (fun b hb => heap_alloc_old w2 (.cells #[.int .i64 0, .int .i64 1, .slice none 0 0, .int .i64 5] 72 (0, 0)) hb.2))
  have Lw2 := Lib.hid (Lw.out.keeps (fun b hb => heap_alloc_old w2 (.cells #[.int .i64 0, .int .i64 1, .slice none 0 0, .int .i64 5] 72 (0, 0)) hb.2))
  have hz2 : w2.heap.size < (w2.alloc (.cells #[.int .i64 0, .int .i64 1, .slice none 0 0, .int .i64 5] 72 (0, 0))).heap.size := by simp
  have hz2' := hz2
  clear FT FM B1 Lb Lw
  go_wp2_with (first | refine wpList_load_row rfl 32 (.tmp 1) rfl tb rfl _ _ _ _ FT2.out Try.underlying32 rfl (by kernel_rfl) ?_ | refine wpList_store_row rfl 38 (.tmp 0) (.tmp 10) rfl w.heap.size #[.string ⟨#[]⟩, .int .i64 0, .slice (some ⟨w2.heap.size, 0, none⟩) 1 1, .slice none 0 0, .slice none 0 0, .slice none 0 0, .slice ba 1 bc, .slice wa 1 wc, .int .i64 6, .slice none 0 0, .slice none 0 0, .slice none 0 0, .slice none 0 0, .slice none 0 0, .int .i64 0] rfl rfl _ _ FM2.out (by kernel_rfl) rfl (by simp [Value.oneCell']) ?_)
  go_wp2_with (first | refine wpList_load_row rfl 32 (.tmp 1) rfl tb rfl _ _ _ _ FT2.out Try.underlying32 rfl (by kernel_rfl) ?_ | refine wpList_store_row rfl 38 (.tmp 0) (.tmp 10) rfl w.heap.size #[.string ⟨#[]⟩, .int .i64 0, .slice (some ⟨w2.heap.size, 0, none⟩) 1 1, .slice none 0 0, .slice none 0 0, .slice none 0 0, .slice ba 1 bc, .slice wa 1 wc, .int .i64 6, .slice none 0 0, .slice none 0 0, .slice none 0 0, .slice none 0 0, .slice none 0 0, .int .i64 0] rfl rfl _ _ FM2.out (by kernel_rfl) rfl (by simp [Value.oneCell']) ?_)
  go_wp2_with fail
  generalize w2.alloc (.cells #[.int .i64 0, .int .i64 1, .slice none 0 0, .int .i64 5] 72 (0, 0)) = w3 at *
  have FR := Lib.hid (setRow_heap _ w.heap.size _ #[.string ⟨#[]⟩, .int .i64 0, .slice (some ⟨w2.heap.size, 0, none⟩) 1 1, .slice none 0 0, .slice none 0 0, .slice none 0 0, .slice ba 1 bc, .slice wa 1 wc, .int .i64 6, .slice none 0 0, .slice none 0 0, .slice none 0 0, .slice none 0 0, .slice none 0 0, .int .i64 0] _ _ FM2.out)
  refine bodyPost_ret (results_cell_row rfl _ _ w.heap.size _ _ _ _ rfl FR.out Try.underlying38 rfl (by kernel_rfl)) rfl ?_
  have hsz : (w3.setRow w.heap.size #[.string ⟨#[]⟩, .int .i64 0, .slice (some ⟨w2.heap.size, 0, none⟩) 1 1, .slice none 0 0, .slice none 0 0, .slice none 0 0, .slice ba 1 bc, .slice wa 1 wc, .int .i64 6, .slice none 0 0, .slice none 0 0, .slice none 0 0, .slice none 0 0, .slice none 0 0, .int .i64 0]).heap.size = w3.heap.size := by simp
  have hk : ∀ b, w.heap.size < b → (w3.setRow w.heap.size #[.string ⟨#[]⟩, .int .i64 0, .slice (some ⟨w2.heap.size, 0, none⟩) 1 1, .slice none 0 0, .slice none 0 0, .slice none 0 0, .slice ba 1 bc, .slice wa 1 wc, .int .i64 6, .slice none 0 0, .slice none 0 0, .slice none 0 0, .slice none 0 0, .slice none 0 0, .int .i64 0]).heap[b]? = w3.heap[b]? := fun b hb => setRow_other _ _ _ _ (Nat.ne_of_gt hb)
  refine ⟨.slice (some ⟨w2.heap.size, 0, none⟩) 1 1, .slice ba 1 bc, .slice wa 1 wc, rfl, ((Step.of_below B2.out).trans ((jm_row w3 w.heap.size #[.string ⟨#[]⟩, .int .i64 0, .slice (some ⟨w2.heap.size, 0, none⟩) 1 1, .slice none 0 0, .slice none 0 0, .slice none 0 0, .slice ba 1 bc, .slice wa 1 wc, .int .i64 6, .slice none 0 0, .slice none 0 0, .slice none 0 0, .slice none 0 0, .slice none 0 0, .int .i64 0]).imp (fun x hx => Nat.ne_of_lt hx))).below, ?_⟩
  exact
    { name := Nat.zero_le _
      flags := ⟨by decide, by decide⟩
      segs := seg_lb (hsz ▸ hz2') (by omega) ((hk _ (by omega)).trans FS.out)
      segsR := fun s hs => by simp [leastL] at hs; subst hs; exact ⟨⟨by decide, by decide⟩, ⟨by decide, by decide⟩, ⟨by decide, by decide⟩⟩
      needed := LB.nil _ _ _
      runPath := LB.nil _ _ _
      syms := LB.nil _ _ _
      buckets := (Lb2.out.keeps (fun b hb => hk b hb.1)).imp (fun b hb => ⟨Nat.le_of_lt hb.1, by rw [hsz]; have := hb.2; omega⟩)
      bucketsL := fun c hc => by simp [leastL] at hc; subst hc; decide
      words := (Lw2.out.keeps (fun b hb => hk b hb.1)).imp (fun b hb => ⟨Nat.le_of_lt hb.1, by rw [hsz]; have := hb.2; omega⟩)
      wordsR := fun x hx => by simp [leastL] at hx; subst hx; decide
      shift := ⟨by decide, by decide⟩
      relocs := LB.nil _ _ _
      relocsR := fun s hs => by simp [leastL] at hs
      slots := LB.nil _ _ _
      slotsR := fun s hs => by simp [leastL] at hs
      init := LB.nil _ _ _
      initR := fun s hs => by simp [leastL] at hs
      fini := LB.nil _ _ _
      finiR := fun s hs => by simp [leastL] at hs
      tls := LB.nil _ _ _
      tlsSize := ⟨by decide, by decide⟩ }

end Go.Proofs.Ytbliedldlimpgaa

namespace Go.Proofs.Ytbliedldlimpgaa
set_option linter.unusedVariables false
set_option linter.unusedSimpArgs false
open Go.RowKit

theorem okN_i64 {size : Nat} {n : Int} (hs : size = 1 ∨ size = 2 ∨ size = 4 ∨ size = 8) (h : okN size n) : -9223372036854775808 ≤ n ∧ n ≤ 9223372036854775807 := by
  have p1 : (256 : Int) ^ 1 = 256 := by decide
  have p2 : (256 : Int) ^ 2 = 65536 := by decide
  have p4 : (256 : Int) ^ 4 = 4294967296 := by decide
  unfold okN at h
  rcases hs with rfl | rfl | rfl | rfl
  · rw [if_neg (by decide)] at h; simp only [p1] at h; omega
  · rw [if_neg (by decide)] at h; simp only [p2] at h; omega
  · rw [if_neg (by decide)] at h; simp only [p4] at h; omega
  · rw [if_pos rfl] at h; omega
theorem all1 {P : Int → Prop} {a : Int} (ha : P a) : ∀ n ∈ [a], P n := fun n hn => by simp at hn; subst hn; exact ha
theorem all2 {P : Int → Prop} {a b : Int} (ha : P a) (hb : P b) : ∀ n ∈ [a, b], P n := fun n hn => by
  rcases List.mem_cons.1 hn with rfl | hn
  · exact ha
  · exact all1 hb n hn
theorem all3 {P : Int → Prop} {a b c : Int} (ha : P a) (hb : P b) (hc : P c) : ∀ n ∈ [a, b, c], P n := fun n hn => by
  rcases List.mem_cons.1 hn with rfl | hn
  · exact ha
  · exact all2 hb hc n hn
theorem all5 {P : Int → Prop} {a b c d e : Int} (ha : P a) (hb : P b) (hc : P c) (hd : P d) (he : P e) : ∀ n ∈ [a, b, c, d, e], P n := fun n hn => by
  rcases List.mem_cons.1 hn with rfl | hn
  · exact ha
  · rcases List.mem_cons.1 hn with rfl | hn
    · exact hb
    · exact all3 hc hd he n hn
theorem ts1 {P : List UInt8 → Prop} {a : List UInt8} (ha : P a) : ∀ n ∈ [a], P n := fun n hn => by simp at hn; subst hn; exact ha
theorem ts2 {P : List UInt8 → Prop} {a b : List UInt8} (ha : P a) (hb : P b) : ∀ n ∈ [a, b], P n := fun n hn => by
  rcases List.mem_cons.1 hn with rfl | hn
  · exact ha
  · exact ts1 hb n hn
/-- Num of numbers that stand in a slice made for the call -/
theorem wnum_built (b : Nat) (S : Nat → Prop) (w : World) (l : List UInt8) (size : Nat) (ns : List Int) (h : WB b S w l) (hs : size = 1 ∨ size = 2 ∨ size = 4 ∨ size = 8) (hf : ∀ n ∈ ns, okN size n) (hlen : l.length + size * ns.length ≤ 1000000000) (hn : ns.length ≤ 1000000) :
    Calls Try.prog 36 #[.pointer (some ⟨b, 0, none⟩), .int .i64 (size : Int), .slice (some ⟨w.heap.size, 0, none⟩) ns.length ns.length] (w.alloc (.cells (ns.map (Value.int .i64)).toArray 3 (0, 0))) fun e w' => e = .returned (.tuple #[]) ∧ WB b S w' (l ++ numsL size ns) ∧ Step S w w' := by
  refine (wnum_any b (fun x => S x ∨ x = w.heap.size) _ l size ns _ (h.alloc _) ((built_ints w ns (by omega)).imp (fun x hx => Or.inr hx)) hs hf (fun n hn => okN_i64 hs (hf n hn)) hlen).mono ?_
  rintro e w' ⟨he, hw, hs'⟩
  exact ⟨he, hw.less (fun x hx => Or.inl hx), (Step.later ((Below.refl _ w).alloc (Nat.le_refl _) _) (fun x hx => h.inS hx)).trans (hs'.imp (fun x hx => Or.inl hx))⟩
theorem wtext_built (b : Nat) (S : Nat → Prop) (w : World) (l : List UInt8) (ss : List (List UInt8)) (h : WB b S w l) (hf : ∀ s ∈ ss, s.length ≤ 4096) (hlen : l.length + 4098 * ss.length ≤ 1000000000) :
    Calls Try.prog 35 #[.pointer (some ⟨b, 0, none⟩), .slice (some ⟨w.heap.size, 0, none⟩) ss.length ss.length] (w.alloc (.cells (ss.map (fun s => Value.string ⟨s.toArray⟩)).toArray 9 (0, 0))) fun e w' => e = .returned (.tuple #[]) ∧ WB b S w' (l ++ textsL ss) ∧ Step S w w' := by
  refine (wtext_any b (fun x => S x ∨ x = w.heap.size) _ l ss _ (h.alloc _) ((built_strs w ss (by omega) (fun s hs => by have := hf s hs; omega)).imp (fun x hx => Or.inr hx)) hf hlen).mono ?_
  rintro e w' ⟨he, hw, hs'⟩
  exact ⟨he, hw.less (fun x hx => Or.inl hx), (Step.later ((Below.refl _ w).alloc (Nat.le_refl _) _) (fun x hx => h.inS hx)).trans (hs'.imp (fun x hx => Or.inl hx))⟩
theorem flat_len {α : Type} (f : α → List UInt8) (m : Nat) : ∀ l : List α, (∀ x ∈ l, (f x).length ≤ m) → (l.map f).flatten.length ≤ m * l.length
  | [], _ => by simp
  | x :: l, h => by
    have h1 := flat_len f m l (fun y hy => h y (by simp [hy]))
    have h2 := h x (by simp)
    rw [List.map_cons, List.flatten_cons, List.length_append, List.length_cons, Nat.mul_succ]; omega
theorem flat_take {α : Type} (f : α → List UInt8) (l : List α) (k : Nat) (x : α) (hx : l[k]? = some x) : ((l.take (k + 1)).map f).flatten = ((l.take k).map f).flatten ++ f x := by
  obtain ⟨h, rfl⟩ := List.getElem?_eq_some_iff.1 hx
  rw [List.take_succ_eq_append_getElem h, List.map_append, List.flatten_append]; simp
theorem flat_take_len {α : Type} (f : α → List UInt8) (m n : Nat) (l : List α) (k : Nat) (h : ∀ x ∈ l, (f x).length ≤ m) (hk : k ≤ n) : ((l.take k).map f).flatten.length ≤ m * n := by
  have h1 := flat_len f m (l.take k) (fun x hx => h x (List.mem_of_mem_take hx))
  have h2 := List.length_take_le k l
  exact Nat.le_trans h1 (Nat.mul_le_mul_left _ (by omega))
theorem segF_len {s : SegL} (h : okSeg s) : (segF s).length ≤ 1048589 := by
  unfold segF blockL; simp only [List.length_append, digitsL_len]; have := h.2.2.2; omega
theorem needF_len {n : NeedL} (h : okNeed n) : (needF n).length ≤ 1053187 := by
  have h1 := textsL_len n.versions h.2.2
  have h2 : n.versions.length < 256 := h.2.1
  unfold needF textL'; simp only [List.length_append, digitsL_len]; have := h.1; omega
theorem symF_len {s : SymL} (h : okSym s) : (symF s).length ≤ 8217 := by
  unfold symF textL'; simp only [List.length_append, digitsL_len]; have := h.1; have := h.2.1; omega
theorem chainF_len {c : List Int} (h : okLen 2 c.length) : (chainF c).length ≤ 131074 := by
  have h2 : c.length < 65536 := h
  unfold chainF; simp only [List.length_append, digitsL_len, numsL_len]; omega
theorem relF_len (r : RelL) : (relF r).length ≤ 25 := by unfold relF; simp only [List.length_append, digitsL_len]; omega
theorem slotF_len (r : SlotL) : (slotF r).length ≤ 12 := by unfold slotF; simp only [List.length_append, digitsL_len]; omega
theorem digitsL_wrap (x : Int) : digitsL 8 (IntKind.i64.wrap x) = digitsL 8 x := by
  unfold digitsL
  rw [IntKind.wrap_i64]
  have : ((x + 9223372036854775808) % 18446744073709551616 - 9223372036854775808) % 18446744073709551616 = x % 18446744073709551616 := by omega
  rw [this]
/-- how long an image's lists are -/
structure Few (im : ImgL) : Prop where
  segs : im.segs.length ≤ 8
  needed : im.needed.length ≤ 16
  runPath : im.runPath.length ≤ 16
  syms : im.syms.length ≤ 512
  buckets : im.buckets.length ≤ 512
  words : im.words.length ≤ 64
  relocs : im.relocs.length ≤ 512
  slots : im.slots.length ≤ 128
  init : im.init.length ≤ 8
  fini : im.fini.length ≤ 8
theorem may_few {im : ImgL} (h : mayL im = 0) : Few im := by
  obtain ⟨hh, hg, ht, hs, htb, hr, hsl, hi, hf⟩ := may_parts h
  simp only [headB, Bool.and_eq_true, decide_eq_true_eq] at hh
  simp only [segsB, Bool.and_eq_true, decide_eq_true_eq] at hg
  simp only [symsB, Bool.and_eq_true, decide_eq_true_eq] at hs
  simp only [tableB, Bool.and_eq_true, decide_eq_true_eq] at htb
  simp only [relocsB, Bool.and_eq_true, decide_eq_true_eq] at hr
  simp only [slotsB, Bool.and_eq_true, decide_eq_true_eq] at hsl
  simp only [runB, Bool.and_eq_true, decide_eq_true_eq] at hi hf
  have hsv := htb.1.1.2
  simp only [sieveB, Bool.and_eq_true, Bool.or_eq_true, decide_eq_true_eq] at hsv
  exact ⟨hg.1.2, hh.1.1.1.2, hh.1.1.2, hs.1, htb.1.1.1.2, by omega, hr.1, hsl.1, hi.1, hf.1⟩

end Go.Proofs.Ytbliedldlimpgaa
