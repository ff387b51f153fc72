/- Lemmas that the claim is proved from: what calls of functions of the program come to (contracts), and plain laws. Each lemma bears its own conditions. -/
import Derived.Test.YtjnahiomnaedeaaGW3
import Derived.Test.YtjnahiomnaedeaaGPlain2
import Derived.Deep.AppendLies
namespace Go.Proofs.Ytjnahiomnaedeaa
set_option linter.unusedVariables false
set_option linter.unusedSimpArgs false
open Go.RowKit

theorem info_int : (Try.prog.info? 3).map (fun i => (i.zero, i.size, i.bytes)) = some (some (.int .i64 0), 1, 8) := by kernel_rfl

/-- v is a slice of ints that the call has made (its row is a block from B on, or it is nil), and reads as xs. -/
def Own (B : Nat) (w : World) (v : Value) (xs : List Int) : Prop := w.ownsRow B 3 1 v xs.length (xs.map (Value.int .i64))

/-- A slice of ints whose cells lie below block B. -/
def IntsB (B : Nat) (w : World) (v : Value) (xs : List Int) : Prop :=
  ∃ (a : Option Addr) (b off cap : Nat), v = .slice a xs.length cap ∧ xs.length ≤ 9223372036854775807 ∧ (0 < xs.length → a = some ⟨b, off, none⟩) ∧ (0 < xs.length → b < B) ∧
    ∀ i, i < xs.length → w.cell? ⟨b, off + i, none⟩ = some (.int .i64 (nth xs i))
def IntRowsB (B : Nat) (w : World) (v : Value) (g : List (List Int)) : Prop :=
  ∃ (a : Option Addr) (b off cap : Nat), v = .slice a g.length cap ∧ g.length ≤ 9223372036854775807 ∧ (0 < g.length → a = some ⟨b, off, none⟩) ∧ (0 < g.length → b < B) ∧
    ∀ i, i < g.length → ∃ rv, w.cell? ⟨b, off + i, none⟩ = some rv ∧ IntsB B w rv (row g i)

theorem Ints.toB {w : World} {v : Value} {xs : List Int} (h : Ints w v xs) : IntsB w.heap.size w v xs := by
  obtain ⟨a, b, off, cap, hv, hm, ha, hc⟩ := h
  exact ⟨a, b, off, cap, hv, hm, ha, fun h0 => World.block_lt_of_cell? _ _ (hc 0 h0), hc⟩
theorem IntRows.toB {w : World} {v : Value} {g : List (List Int)} (h : IntRows w v g) : IntRowsB w.heap.size w v g := by
  obtain ⟨a, b, off, cap, hv, hm, ha, hc⟩ := h
  refine ⟨a, b, off, cap, hv, hm, ha, fun h0 => ?_, fun i hi => ?_⟩
  · obtain ⟨rv, h1, _⟩ := hc 0 h0; exact World.block_lt_of_cell? _ _ h1
  · obtain ⟨rv, h1, h2⟩ := hc i hi; exact ⟨rv, h1, h2.toB⟩
theorem IntsB.ints {B : Nat} {w : World} {v : Value} {xs : List Int} (h : IntsB B w v xs) : Ints w v xs := by
  obtain ⟨a, b, off, cap, hv, hm, ha, _, hc⟩ := h
  exact ⟨a, b, off, cap, hv, hm, ha, hc⟩
theorem IntRowsB.rows {B : Nat} {w : World} {v : Value} {g : List (List Int)} (h : IntRowsB B w v g) : IntRows w v g := by
  obtain ⟨a, b, off, cap, hv, hm, ha, _, hc⟩ := h
  refine ⟨a, b, off, cap, hv, hm, ha, fun i hi => ?_⟩
  obtain ⟨rv, h1, h2⟩ := hc i hi; exact ⟨rv, h1, h2.ints⟩
theorem IntsB.below {B : Nat} {w w' : World} {v : Value} {xs : List Int} (h : IntsB B w v xs) (hb : Below B w w') : IntsB B w' v xs := by
  obtain ⟨a, b, off, cap, hv, hm, ha, hlt, hc⟩ := h
  exact ⟨a, b, off, cap, hv, hm, ha, hlt, fun i hi => by rw [hb.cell (p := ⟨b, off + i, none⟩) (hlt (by omega))]; exact hc i hi⟩
theorem IntRowsB.below {B : Nat} {w w' : World} {v : Value} {g : List (List Int)} (h : IntRowsB B w v g) (hb : Below B w w') : IntRowsB B w' v g := by
  obtain ⟨a, b, off, cap, hv, hm, ha, hlt, hc⟩ := h
  refine ⟨a, b, off, cap, hv, hm, ha, hlt, fun i hi => ?_⟩
  obtain ⟨rv, h1, h2⟩ := hc i hi
  exact ⟨rv, by rw [hb.cell (p := ⟨b, off + i, none⟩) (hlt (by omega))]; exact h1, h2.below hb⟩
theorem IntsB.mono {B B' : Nat} {w : World} {v : Value} {xs : List Int} (h : IntsB B w v xs) (hB : B ≤ B') : IntsB B' w v xs := by
  obtain ⟨a, b, off, cap, hv, hm, ha, hlt, hc⟩ := h
  exact ⟨a, b, off, cap, hv, hm, ha, fun h0 => Nat.lt_of_lt_of_le (hlt h0) hB, hc⟩

theorem Own.nil (B : Nat) (w : World) : Own B w (.slice none 0 0) [] := World.ownsRow_nil w B 3 1
theorem Own.alloc {B : Nat} {w : World} {v : Value} {xs : List Int} (h : Own B w v xs) (o : Obj) : Own B (w.alloc o) v xs := World.ownsRow.alloc h o
theorem Own.drew {B : Nat} {w : World} {v : Value} {xs : List Int} (h : Own B w v xs) : Own B w.drew v xs := h
theorem Own.drewN {B : Nat} {w : World} {v : Value} {xs : List Int} (h : Own B w v xs) (n : Nat) : Own B (w.drewN n) v xs := h
theorem Own.ints {B : Nat} {w : World} {v : Value} {xs : List Int} (h : Own B w v xs) : Ints w v xs := by
  have h' := h
  obtain ⟨h1, h2⟩ := h
  rcases h2 with ⟨rfl, h0⟩ | ⟨g, cap, cur, rfl, hg, hh, hle, hcap, hs, ht⟩
  · obtain rfl : xs = [] := List.eq_nil_of_length_eq_zero h0
    exact ⟨none, 0, 0, 0, rfl, by simp, fun h => absurd h (by simp), fun i hi => absurd hi (by simp)⟩
  · refine ⟨some ⟨g, 0, none⟩, g, 0, cap, rfl, by unfold maxLen at hcap; omega, fun _ => rfl, fun i hi => ?_⟩
    have := World.ownsRow.cells h' (g := g) rfl i (.int .i64 (nth xs i)) (by simp [nth, List.getD, hi])
    simpa [Addr.add_lit] using this

/-- two values own no block together -/
def Apart (u v : Value) : Prop := ∀ k, u.ownBlock = some k → v.ownBlock ≠ some k
theorem Apart.symm {u v : Value} (h : Apart u v) : Apart v u := fun k hk e => h k e hk
theorem Apart.nil (v : Value) : Apart (.slice none 0 0) v := fun k hk => by simp [Value.ownBlock] at hk
theorem Own.other {B : Nat} {w w' : World} {u v : Value} {xs : List Int} (h : Own B w u xs) (hg : w.grownBy w' v.ownBlock) (ha : Apart u v) : Own B w' u xs := by
  refine World.ownsRow.kept h hg ?_
  cases hu : u.ownBlock with
  | none => exact Or.inl rfl
  | some k => exact Or.inr (fun e => ha k hu e.symm)
theorem Own.lt {B : Nat} {w : World} {v : Value} {xs : List Int} (h : Own B w v xs) : ∀ k, v.ownBlock = some k → B ≤ k ∧ k < w.heap.size := World.ownsRow.lt h
theorem Apart.grow {B : Nat} {w : World} {u v : Value} {xs : List Int} (hu : Own B w u xs) (ha : Apart u v) {g n c : Nat} (hat : v.ownBlock = some g ∨ g = w.heap.size) : Apart u (.slice (some ⟨g, 0, none⟩) n c) := by
  intro k hk e
  simp [Value.ownBlock] at e
  subst e
  rcases hat with h1 | h1
  · exact ha _ hk h1
  · have := (hu.lt _ hk).2; omega

/-- append of one int to a slice that the call has made -/
theorem wpList_append1 (w : World) {ops : Array Oper} {rest : List Oper} {o : Oper} {a : Act} {Q : Exit → Act → World → Prop} (hgd : o.guard = none) (s x : Operand)
    (ho : o.op = .call { callee := .builtin .append, args := #[s, x], argTypes := #[23, 23] })
    (B : Nat) (v : Value) (xs : List Int) (n : Nat) (hn : xs.length = n) (hs : a.eval s = v) (hown : Own B w v xs) (nb : Nat) (y : Int) (hx : a.eval x = .slice (some ⟨nb, 0, none⟩) 1 1) (hcell : w.cell? ⟨nb, 0, none⟩ = some (.int .i64 y))
    (hlen : xs.length ≤ 1099511627776) (hB : B ≤ w.heap.size)
    (h : ∀ g c w', Own B w' (.slice (some ⟨g, 0, none⟩) (n + 1) c) (xs ++ [y]) → w.grownBy w' v.ownBlock → Below B w w' → (v.ownBlock = some g ∨ g = w.heap.size) →
      wpList Try.prog ops Q rest (a.put o.dst (.slice (some ⟨g, 0, none⟩) (n + 1) c)) w') : wpList Try.prog ops Q (o :: rest) a w := by
  subst hn
  obtain ⟨i0, hi, hz0, hz1, hz2⟩ := info_parts info_int
  have hlt := World.ownsRow.lt hown
  refine wpList_append_lies w hgd s x 23 ho B 3 i0 (.int .i64 0) 1 8 Try.underlying23 hi hz0 hz1 hz2 rfl (by decide) v xs.length (xs.map (Value.int .i64)) hs hown ⟨nb, 0, none⟩ 1 1 [.int .i64 y] hx rfl ?_ ?_ (by decide) ?_ ?_ hB _ rfl ?_
  · intro j u hj
    match j, hj with
    | 0, hj => simp at hj; subst hj; simpa [Addr.add_lit] using hcell
    | j + 1, hj => simp at hj
  · intro u hu; simp at hu; subst hu; rfl
  · unfold maxLen; omega
  · omega
  · intro g c w' h1 h2 h3 _
    refine h g c w' ?_ h2 ((Below.refl B w).grown h2 hB fun k hk => (hlt k hk).1) h3
    simpa [Own] using h1

set_option maxHeartbeats 400000 in
theorem once_any (B : Nat) (w : World) (v u : Value) (xs ys : List Int) (hv : Own B w v xs) (hu : IntsB B w u ys) (hB : B ≤ w.heap.size) (hl : xs.length + ys.length ≤ 1000000) :
    Calls Try.prog 23 #[v, u] w fun e w' => ∃ r, e = .returned r ∧ Own B w' r (onceL xs ys) ∧ Below B w w' := by
  have Hu := Lib.hid hu
  obtain ⟨a, b, off, cap, rfl, hm, ha, hb, hc⟩ := hu
  go_enter Try.func23, Try.ntmps23
  go_wp2
  go_loopw [0, 5] (fun s i wr => ∃ k zs, k ≤ ys.length ∧ i = .int .i64 (k : Nat) ∧ Own B wr s zs ∧ zs = onceL xs (ys.take k) ∧ Below B w wr ∧ B ≤ wr.heap.size) (fun _ i _ => ys.length - (intOf i).toNat)
  case atStart => exact ⟨0, xs, Nat.zero_le _, rfl, hv, by simp [onceL], Below.refl _ _, hB⟩
  case round =>
    obtain ⟨k, zs, hk, rfl, ho, hz, hbel, hBr⟩ := hrel
    have Ho := Lib.hid ho; clear ho hv
    have Hlen := Lib.hid (onceL_len (ys.take k) xs); 
    have hzl : zs.length ≤ 1000000 := by have := Hlen.out; rw [← hz] at this; have := List.length_take_le k ys; omega
    have Hz := Lib.hid hz; clear hz
    by_cases hlt : k < ys.length
    · obtain rfl := ha (by omega)
      have gc : wr.cell? ⟨b, off + k, none⟩ = some (.int .i64 (nth ys k)) := by rw [hbel.cell (p := ⟨b, off + k, none⟩) (hb (by omega))]; exact hc k hlt
      have gc' : ∀ o, (wr.alloc o).cell? ⟨b, off + k, none⟩ = some (.int .i64 (nth ys k)) := fun o => by rw [World.cell?_alloc_past _ _ _ (World.block_lt_of_cell? _ _ gc)]; exact gc
      have Hs := Lib.hid (onceL_snoc xs ys k hlt)
      clear hc
      by_cases hmem : nth ys k ∈ zs
      · go_wp2_with (go_at_call 17; refine (has_any _ _ zs _ Ho.out.ints).mono ?_; rintro e w' ⟨rfl, rfl⟩)
        go_roundw
        case rel => exact ⟨k + 1, zs, by omega, by go_num, Ho.out, by rw [Hs.out, ← Hz.out, addL, if_pos hmem], hbel, hBr⟩
        case measure => simp [intOf]; omega
      · go_wp2_with (first
          | (go_at_call 17; refine (has_any _ _ zs _ Ho.out.ints).mono ?_; rintro e w' ⟨rfl, rfl⟩)
          | (at_builtin; refine wpList_append1 _ rfl (.tmp 19) (.tmp 24) rfl B _ zs _ rfl rfl (Ho.out.alloc _) wr.heap.size (nth ys k) rfl ?c1 (by omega) ?c2 ?_))
        case c1 => simp
        case c2 => simp; omega
        intro g1 c1 w1 hown hgr hbel1 _
        have Hown := Lib.hid hown; clear hown
        go_wp2
        go_roundw
        case rel => exact ⟨k + 1, zs ++ [nth ys k], by omega, by go_num, Hown.out, by rw [Hs.out, ← Hz.out, addL, if_neg hmem], (hbel.alloc hBr _).trans hbel1, Nat.le_trans (by simp; omega) hbel1.size⟩
        case measure => simp [intOf]; omega
    · go_wp2
      go_ret
      exact ⟨_, rfl, by have := Hz.out; rw [List.take_of_length_le (by omega)] at this; rw [← this]; exact Ho.out, hbel⟩

end Go.Proofs.Ytjnahiomnaedeaa
