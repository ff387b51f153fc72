/- Lemmas that the claim is proved from: what calls of functions of the program come to (contracts), and plain laws. Each lemma bears its own conditions. -/
import Derived.Test.YtgoecmfjidcieaaDoorFR1
import Derived.Laws.AppendOwnNone
namespace Go.Proofs.YtgoecmfjidcieaaDoor
set_option linter.unusedVariables false
set_option linter.unusedSimpArgs false
open Go.RowKit

/-- append of all of a slice of texts to one that the call has made -/
theorem wpList_appendStrs (w : World) {ops : Array Oper} {rest : List Oper} {o : Oper} {a : Act} {Q : Exit → Act → World → Prop} (hgd : o.guard = none) (s x : Operand)
    (ho : o.op = .call { callee := .builtin .append, args := #[s, x], argTypes := #[44, 44] })
    (B : Nat) (v u : Value) (xs ys : List (List UInt8)) (hs : a.eval s = v) (hown : OwnS B w v xs) (hx : a.eval x = u) {B2 : Nat} (hu : OwnS B2 w u ys)
    (hlen : xs.length + ys.length ≤ 1099511627776) (hB : B ≤ w.heap.size)
    (h : ∀ v' w', OwnS B w' v' (xs ++ ys) → Below B w w' → wpList Tryd.prog ops Q rest (a.put o.dst v') w') : wpList Tryd.prog ops Q (o :: rest) a w := by
  obtain ⟨i0, hi, hz0, hz1, hz2⟩ := info_parts info_string
  have hlt := World.ownsRow.lt hown
  have hu' := hu
  rcases hu.2 with ⟨rfl, h0⟩ | ⟨g, cap, cur, rfl, hg, hh, _⟩
  · obtain rfl : ys = [] := List.eq_nil_of_length_eq_zero h0
    refine wpList_append_own_none hgd s x 44 ho B 9 i0 1 Tryd.underlying44 hi v xs.length (Go.Proofs.YtgoecmfjidcieaaDoor.strs xs) hs hown hx ?_
    exact h v w (by simpa using hown) (Below.refl _ _)
  · refine wpList_append_own w hgd s x 44 ho B 9 i0 (.string ⟨#[]⟩) 1 16 Tryd.underlying44 hi hz0 hz1 hz2 rfl (by decide) v xs.length (Go.Proofs.YtgoecmfjidcieaaDoor.strs xs) hs hown ⟨g, 0, none⟩ ys.length cap (Go.Proofs.YtgoecmfjidcieaaDoor.strs ys) hx (by simp [Go.Proofs.YtgoecmfjidcieaaDoor.strs]) ?_ ?_ ?_ ?_ hB ?_
    · exact World.ownsRow.cells hu' (g := g) rfl
    · intro u hu; simp only [Go.Proofs.YtgoecmfjidcieaaDoor.strs, List.mem_map] at hu; obtain ⟨y, _, rfl⟩ := hu; rfl
    · unfold maxLen; omega
    · omega
    · intro v' w' h1 h2 _
      refine h v' w' ?_ ((Below.refl B w).grown h2 hB fun k hk => (hlt k hk).1)
      simpa [OwnS, Go.Proofs.YtgoecmfjidcieaaDoor.strs] using h1

set_option maxHeartbeats 2000000 in
set_option maxRecDepth 100000 in
theorem above_any (B : Nat) (w : World) (v : Value) (xs : List (List UInt8)) (hv : OwnS B w v xs) (hl : xs.length ≤ 16777216) :
    Calls Tryd.prog 32 #[v] w fun e w' => ∃ u, e = .returned u ∧ OwnS B w u xs.dropLast ∧ w' = w := by
  have hh := hv
  by_cases h0 : xs.length = 0
  · obtain ⟨a, c, rfl⟩ := hv.form
    obtain rfl := List.eq_nil_of_length_eq_zero h0
    clear hv
    go_enter Tryd.func32, Tryd.ntmps32
    go_wp2
    go_ret
    exact ⟨_, rfl, hh, rfl⟩
  · rcases hv.2 with ⟨_, hz⟩ | ⟨g, cap, cur, rfl, _⟩
    · exact absurd hz h0
    have hcap := hh.cap rfl
    have Hdl := Lib.hid (hh.dropLast rfl)
    have e1 : ((xs.length : Int) - 1).toNat = xs.length - 1 := by omega
    clear hv hh
    go_enter Tryd.func32, Tryd.ntmps32
    go_wp2
    go_ret
    exact ⟨_, rfl, by first | exact Hdl.out | (rw [← e1] at Hdl; exact Hdl.out), rfl⟩

set_option maxHeartbeats 2000000 in
set_option maxRecDepth 100000 in
theorem under_any (B : Nat) (w : World) (v : Value) (xs : List (List UInt8)) (p : List UInt8) (hv : OwnS B w v xs) (hl : xs.length ≤ 16777216) :
    Calls Tryd.prog 33 #[v, .string ⟨p.toArray⟩] w fun e w' => ∃ u, e = .returned u ∧ OwnS w.heap.size w' u (xs ++ [p]) ∧ Below w.heap.size w w' := by
  have Hv := Lib.hid hv
  obtain ⟨a, c, rfl⟩ := hv.form
  clear hv
  go_enter Tryd.func33, Tryd.ntmps33
  go_wp2_with (at_builtin; refine wpList_appendStrs _ rfl (.tmp 6) (.tmp 7) rfl w.heap.size _ _ [] xs rfl (OwnS.nil _ _) rfl Hv.out (by simp; omega) (Nat.le_refl _) ?_)
  intro v1 w1 hown1 hb1
  have Hown1 := Lib.hid hown1
  have Hb1 := Lib.hid hb1
  have hB1 := hb1.size
  clear hown1 hb1
  go_wp2_with (at_builtin; refine wpList_appendStr _ rfl (.tmp 9) (.tmp 11) rfl w.heap.size _ _ rfl (Hown1.out.alloc _) w1.heap.size p rfl ?c1 (by first | omega | (simp; omega)) ?c2 ?_)
  case c1 => simp
  case c2 => first | omega | (simp; omega)
  intro v2 w2 hown2 hb2
  have Hown2 := Lib.hid hown2
  have Hb2 := Lib.hid ((Hb1.out.alloc hB1 _).trans hb2)
  clear hown2 hb2
  go_wp2
  go_ret
  exact ⟨_, rfl, by simpa using Hown2.out, Hb2.out⟩

def textL (l : List (List UInt8)) : List UInt8 := (l.map (47 :: ·)).flatten
theorem textL_snoc (l : List (List UInt8)) (x : List UInt8) : textL (l ++ [x]) = textL l ++ 47 :: x := by simp [textL]
theorem textL_len (l : List (List UInt8)) (h : ∀ q ∈ l, q.length ≤ 200) : (textL l).length ≤ l.length * 201 := by
  induction l with
  | nil => simp [textL]
  | cons x r ih =>
    have hx := h x (by simp)
    have := ih (fun q hq => h q (List.mem_cons_of_mem _ hq))
    simp only [textL, List.map_cons, List.flatten_cons, List.length_append, List.length_cons] at this ⊢
    omega
theorem textL_whole : ∀ (l : List (List UInt8)), l ≠ [] → textL l = wholeL l
  | [], h => absurd rfl h
  | [x], _ => by simp [textL, wholeL, List.intercalate]
  | x :: y :: r, _ => by
    have ih := textL_whole (y :: r) (by simp)
    simp only [textL, wholeL, List.intercalate, List.map_cons, List.flatten_cons, List.intersperse_cons_cons] at ih ⊢
    rw [ih]; simp

set_option maxHeartbeats 4000000 in
set_option maxRecDepth 100000 in
theorem text_any (w : World) (v : Value) (l : List (List UInt8)) (hv : Strs w v l) (hq : ∀ q ∈ l, q.length ≤ 200) (hn : l.length ≤ 1000) :
    Calls Tryd.prog 34 #[v] w fun e w' => e = .returned (.string ⟨(wholeL l).toArray⟩) ∧ w' = w := by
  obtain ⟨a, b, off, cap, rfl, hm, ha, _, hc⟩ := hv
  have Hc := Lib.hid hc
  have Hq := Lib.hid hq
  clear hc hq
  by_cases h0 : l.length = 0
  · obtain rfl := List.eq_nil_of_length_eq_zero h0
    go_enter Tryd.func34, Tryd.ntmps34
    go_wp2
    go_ret
    exact ⟨rfl, rfl⟩
  have Hw := Lib.hid (textL_whole l (fun e => h0 (by rw [e]; rfl)))
  go_enter Tryd.func34, Tryd.ntmps34
  go_wp2
  go_loop [3, 4] (fun s i => ∃ k : Nat, k ≤ l.length ∧ i = .int .i64 k ∧ s = .string ⟨(textL (l.take k)).toArray⟩) (fun _ i => l.length - (intOf i).toNat)
  case atStart => exact ⟨0, Nat.zero_le _, rfl, rfl⟩
  case round =>
    obtain ⟨k, hk, rfl, rfl⟩ := hrel
    by_cases hlt : k < l.length
    · obtain rfl := ha (by omega)
      have gc := Hc.out k hlt
      have Hs : Hid (textL (l.take (k + 1)) = textL (l.take k) ++ 47 :: snth l k) := Lib.hid (by rw [snth_take l k hlt, textL_snoc])
      have q1 := Hq.out _ (snth_mem l k hlt)
      have q2 := textL_len (l.take k) (fun q hq => Hq.out q (List.mem_of_mem_take hq))
      have q3 : (l.take k).length * 201 ≤ 1000 * 201 := Nat.mul_le_mul (by rw [List.length_take]; omega) (Nat.le_refl _)
      have q4 : (textL (l.take k)).length ≤ 201000 := by omega
      clear q2 q3
      generalize snth l k = p at *
      generalize textL (l.take k) = out at *
      have s1 := size_mk' p
      have s2 := size_mk' out
      have s3 := size_mk' (47 :: p)
      have s4 : (47 :: p).length = p.length + 1 := by simp
      have a1 : (⟨#[47]⟩ : ByteArray) ++ ⟨p.toArray⟩ = ⟨(47 :: p).toArray⟩ := mk_append' [47] p
      have a2 : (⟨out.toArray⟩ : ByteArray) ++ ⟨(47 :: p).toArray⟩ = ⟨(out ++ 47 :: p).toArray⟩ := mk_append' _ _
      go_wp2
      go_round
      case rel => exact ⟨k + 1, by omega, by go_num, by rw [Hs.out]⟩
      case measure => simp [intOf]; omega
    · have e : textL (l.take k) = wholeL l := by rw [List.take_of_length_le (by omega), Hw.out]
      have He := Lib.hid e
      clear e
      go_wp2
      go_ret
      exact ⟨by rw [← He.out]; rfl, rfl⟩

end Go.Proofs.YtgoecmfjidcieaaDoor
