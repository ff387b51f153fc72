/- Lemmas that the claim is proved from: what calls of functions of the program come to (contracts), and plain laws. Each lemma bears its own conditions. -/
import Derived.Test.YtbliedldlimpgaaBas2
import Derived.Test.YtbliedldlimpgaaBas4
import Derived.Test.YtbliedldlimpgaaBas5
import Derived.Test.YtbliedldlimpgaaBas29
import Derived.Lib.AppendStr
import Derived.IntWalk
import Derived.BigQuiet
import Derived.Deep.DeepCutAuto

namespace Go.Proofs.Ytbliedldlimpgaa
set_option linter.unusedVariables false
set_option linter.unusedSimpArgs false
open Go.RowKit

/-! ### the reference's writer: sizes, digits -/
theorem xgreatest_any (w : World) (n : Nat) (hn : n = 1 ∨ n = 2 ∨ n = 4 ∨ n = 8) :
    Calls Try.prog 99 #[.int .i64 (n : Int)] w fun e w' => e = .returned (.int .i64 (if n = 1 then 255 else if n = 2 then 65535 else if n = 4 then 4294967295 else 0)) ∧ w' = w := by
  rcases hn with rfl | rfl | rfl | rfl
  all_goals
    go_enter Try.func99, Try.ntmps99
    go_wp2
    go_ret
    exact ⟨rfl, rfl⟩
theorem xsized_any (w : World) (n : Nat) (hn : n = 1 ∨ n = 2 ∨ n = 4 ∨ n = 8) :
    Calls Try.prog 87 #[.int .i64 (n : Int)] w fun e w' => e = .returned (.bool true) ∧ w' = w := by
  have HG := Lib.hid (xgreatest_any w n hn)
  rcases hn with rfl | rfl | rfl | rfl
  case inr.inr.inr =>
    go_enter Try.func87, Try.ntmps87
    go_wp2
    go_ret
    exact ⟨rfl, rfl⟩
  all_goals
    go_enter Try.func87, Try.ntmps87
    go_wp2_with fail
    refine HG.out.mono ?_
    rintro e w2 ⟨rfl, rfl⟩
    go_wp2
    go_ret
    exact ⟨rfl, rfl⟩
set_option maxHeartbeats 2000000 in
theorem xfits_any (w : World) (n : Nat) (x : Int) (hn : n = 1 ∨ n = 2 ∨ n = 4 ∨ n = 8) (hx : okN n x) :
    Calls Try.prog 88 #[.int .i64 (n : Int), .int .i64 x] w fun e w' => e = .returned (.bool true) ∧ w' = w := by
  have p1 : (256 : Int) ^ 1 = 256 := by decide
  have p2 : (256 : Int) ^ 2 = 65536 := by decide
  have p4 : (256 : Int) ^ 4 = 4294967296 := by decide
  have HG := Lib.hid (xgreatest_any w n hn)
  rcases hn with rfl | rfl | rfl | rfl
  case inr.inr.inr =>
    clear hx p1 p2 p4
    go_enter Try.func88, Try.ntmps88
    go_wp2
    go_ret
    exact ⟨rfl, rfl⟩
  all_goals
    unfold okN at hx
    rw [if_neg (by decide)] at hx
    simp only [p1, p2, p4] at hx
    obtain ⟨h0, h1⟩ := hx
    have hd : decide (0 ≤ x) = true := by rw [decide_eq_true_eq]; exact h0
    clear p1 p2 p4
  · have hq : decide (x ≤ 255) = true := by rw [decide_eq_true_eq]; omega
    go_enter Try.func88, Try.ntmps88
    go_wp2_with fail
    refine HG.out.mono ?_
    rintro e w2 ⟨rfl, rfl⟩
    go_wp2
    go_ret
    exact ⟨rfl, rfl⟩
  · have hq : decide (x ≤ 65535) = true := by rw [decide_eq_true_eq]; omega
    go_enter Try.func88, Try.ntmps88
    go_wp2_with fail
    refine HG.out.mono ?_
    rintro e w2 ⟨rfl, rfl⟩
    go_wp2
    go_ret
    exact ⟨rfl, rfl⟩
  · have hq : decide (x ≤ 4294967295) = true := by rw [decide_eq_true_eq]; omega
    go_enter Try.func88, Try.ntmps88
    go_wp2_with fail
    refine HG.out.mono ?_
    rintro e w2 ⟨rfl, rfl⟩
    go_wp2
    go_ret
    exact ⟨rfl, rfl⟩

theorem u64_start (n : Int) : IntKind.u64.wrap n = (((n % 18446744073709551616).toNat / 256 ^ 0 : Nat) : Int) := by
  rw [show IntKind.u64.wrap n = n % 18446744073709551616 from by simp [IntKind.wrap, IntKind.bits, IntKind.signed], Nat.pow_zero, Nat.div_one]
  omega
theorem u64_next (M j : Nat) : ((M / 256 ^ j : Nat) : Int) / 256 = ((M / 256 ^ (j + 1) : Nat) : Int) := by
  rw [Nat.pow_succ, ← Nat.div_div_eq_div_mul]
  generalize M / 256 ^ j = m
  omega
theorem u64_byte (m : Nat) : ((m : Int) % 256) = ((UInt8.ofNat m).toNat : Int) := by simp
set_option maxHeartbeats 8000000 in
set_option maxRecDepth 100000 in
theorem xdigits_any (w : World) (size : Nat) (n : Int) (hs : size = 1 ∨ size = 2 ∨ size = 4 ∨ size = 8) :
    Calls Try.prog 86 #[.int .i64 (size : Int), .int .i64 n] w fun e w' => ∃ r, e = .returned r ∧ OwnK 5 kByte w.heap.size (fun _ => False) w' r (digitsL size n) ∧ Below w.heap.size w w' := by
  have hs8 : 1 ≤ size ∧ size ≤ 8 := by omega
  clear hs
  go_enter Try.func86, Try.ntmps86
  go_wp2_with fail
  go_loopw [5, 6, 7] (fun o u i wr => ∃ j : Nat, i = .int .i64 j ∧ j ≤ size ∧ u = .int .u64 (((n % 18446744073709551616).toNat / 256 ^ j : Nat) : Int) ∧ OwnK 5 kByte w.heap.size (fun _ => False) wr o ((digitsL size n).take j) ∧ Below w.heap.size w wr) (fun _ _ i _ => size - (intOf i).toNat)
  case atStart => exact ⟨0, rfl, Nat.zero_le _, by rw [u64_start], by exact OwnK.nil _ _ _ _ _, Below.refl _ _⟩
  case round =>
    obtain ⟨j, rfl, hj, rfl, hown, hbel⟩ := hrel
    have hBr := hbel.size
    have Hown := Lib.hid hown
    have Hbel := Lib.hid hbel
    by_cases hlt : j < size
    · have Hds := Lib.hid (digitsL_succ size n j hlt)
      have Hn := Lib.hid (u64_next (n % 18446744073709551616).toNat j)
      have hm : (n % 18446744073709551616).toNat / 256 ^ j < 18446744073709551616 := Nat.lt_of_le_of_lt (Nat.div_le_self _ _) (by omega)
      obtain ⟨m2, hm2⟩ : ∃ m2, (n % 18446744073709551616).toNat / 256 ^ (j + 1) = m2 := ⟨_, rfl⟩
      have Hm2 := Lib.hid hm2
      rw [hm2] at Hn
      clear hm2
      generalize (n % 18446744073709551616).toNat / 256 ^ j = m at *
      have hb := u64_byte m
      have hn := Hn.out
      obtain ⟨cb, hcb⟩ : ∃ cb, UInt8.ofNat m = cb := ⟨_, rfl⟩
      rw [hcb] at Hds hb
      clear hcb Hn
      have hdl : ((digitsL size n).take j).length = j := by rw [List.length_take, digitsL_len]; omega
      obtain ⟨oa, oc, rfl⟩ := hown.form
      rw [hdl]
      rw [hdl] at Hown
      have Hdl := Lib.hid hdl
      clear hown hbel hdl
      go_wp2_with (at_builtin; refine wpList_appendK (α := UInt8) (K := kByte) (e := 5) (B := w.heap.size) (E := fun _ => False) 36 (.int .u8 0) 1 Try.underlying36 info_byte rfl (by decide) rfl (.tmp 15) (.tmp 19) rfl j Hdl.out rfl (Hown.out.alloc _) (fun _ h => h.elim) wr.heap.size cb [.int .u8 cb.toNat] rfl ?c1 ?c2 rfl ?c3 ?c4 ?c5 ?_)
      case c1 =>
        intro j u hu
        match j, hu with
        | 0, hu => simp at hu; subst hu; rw [Lib.cell_of_heap (heap_alloc_new wr _)]; rfl
        | j + 1, hu => simp at hu
      case c2 => intro u hu; simp at hu; subst hu; rfl
      case c3 => rw [Hdl.out]; omega
      case c4 => rw [Hdl.out]; omega
      case c5 => simp; omega
      intro g c w3 hown3 hst3 _
      have Hown3 := Lib.hid hown3
      have hlo := (Hown.out.alloc (.cells #[.int .u8 cb.toNat] 5 (0, 0))).lt
      have B3 := Lib.hid (((Hbel.out.alloc (by omega) (.cells #[.int .u8 cb.toNat] 5 (0, 0))).trans (hst3.imp (S' := (· < w.heap.size)) (fun b hb => ⟨by have h1 : b < w.heap.size := hb; omega, fun e => by have := (hlo b e).1; have h1 : b < w.heap.size := hb; omega⟩)).below))
      clear hown3 hst3 hlo Hown
      go_wp2
      go_roundw
      case rel => exact ⟨j + 1, by go_num, by omega, by rw [Hm2.out], by rw [Hds.out]; exact Hown3.out, B3.out⟩
      case measure => simp [intOf]; omega
    · have he : j = size := by omega
      subst he
      have Ht : Hid ((digitsL j n).take j = digitsL j n) := Lib.hid (List.take_of_length_le (by rw [digitsL_len]; omega))
      rw [Ht.out] at hown
      have Ho := Lib.hid hown
      clear hown hbel Hown
      go_wp2
      go_ret
      exact ⟨_, rfl, Ho.out, Hbel.out⟩

end Go.Proofs.Ytbliedldlimpgaa

namespace Go.Proofs.Ytbliedldlimpgaa
set_option linter.unusedVariables false
set_option linter.unusedSimpArgs false
open Go.RowKit

section
variable {α : Type} {e : TypeId} {K : Kind α} {f : α → Value} {B : Nat} {E : Nat → Prop} {w w' : World} {v : Value} {l : List α}
/-- append of all of a list, at the operation: for a step of a region that draws its order -/
theorem wp_appendsK {o : Oper} {a : Act} {C : Act → World → Prop} {Q : Exit → Act → World → Prop} (hp : Plain K f) (t : TypeId) (z : Value) (bytes : Nat) (ht : Try.prog.underlying t = some (.slice e)) (hinfo : (Try.prog.info? e).map (fun i => (i.zero, i.size, i.bytes)) = some (some z, 1, bytes))
    (hzs : z.cells.size = 1) (s x : Operand)
    (ho : o.op = .call { callee := .builtin .append, args := #[s, x], argTypes := #[t, t] })
    (hs : a.eval s = v) (hown : OwnK e K B E w v l) (hE : ∀ b, E b → b < w.heap.size) {S : Nat → Prop} (u : Value) (m : List α) (hx : a.eval x = u) (hu : LB K S w u m)
    (hlen : (l.length + m.length) * bytes ≤ 140737488355328) (hl63 : l.length + m.length ≤ 9223372036854775807) (hB : B ≤ w.heap.size)
    (h : ∀ v' w', OwnK e K B E w' v' (l ++ m) → Step (fun b => b < w.heap.size ∧ v.ownBlock ≠ some b) w w' → (∀ b, b < w.heap.size → v.ownBlock ≠ some b → v'.ownBlock ≠ some b) → C (a.put o.dst v') w') : o.wp Try.prog a w C Q := by
  obtain ⟨i0, hi, hz0, hz1, hz2⟩ := info_parts hinfo
  have h1 := hown.plain_row hp
  obtain ⟨ua, ub, uoff, ucap, hv, hm, ha, hcap, hS, hc⟩ := hu
  cases ua with
  | none =>
    have hm0 : m = [] := by
      cases m with
      | nil => rfl
      | cons y m => exact absurd (ha (by simp)) (by simp)
    subst hm0
    have hc0 := hcap.2 rfl
    subst hc0
    have hxx : a.eval x = .slice none 0 0 := hx.trans hv
    have hrun := run_append_owned_none (P := Try.prog) (w := w) B t o.type e i0 1 ht hi v l.length (l.map f) h1
    unfold Oper.wp
    simp [execOp, ho, resolve, invoke, builtin, hs, hxx, hrun, Result.andThen]
    exact h v w (by rw [List.append_nil]; exact hown) (Step.refl _ _) (fun b _ h => h)
  | some ad =>
    have hxx : a.eval x = .slice (some ad) m.length ucap := hx.trans hv
    have hcl : ∀ j u, (m.map f)[j]? = some u → w.cell? (ad.add j) = some u := by
      intro j u hj
      rw [List.getElem?_map] at hj
      cases hmj : m[j]? with
      | none => rw [hmj] at hj; cases hj
      | some y =>
        rw [hmj] at hj
        have hu : f y = u := by simpa using hj
        subst hu
        have hml : 0 < m.length := by have := (List.getElem?_eq_some_iff.1 hmj).1; omega
        obtain rfl : ad = ⟨ub, uoff, none⟩ := by have := ha hml; simpa using this
        obtain ⟨row, r1, r2⟩ := hc j y hmj
        have := hp.into r1
        subst this
        have := r2 0 (f y) rfl
        rw [hp.one] at this
        simpa [Addr.add_lit] using this
    have hone : ∀ u ∈ m.map f, u.oneCell' = true := by
      intro u hu
      simp only [List.mem_map] at hu
      obtain ⟨y, _, rfl⟩ := hu
      exact hp.cell y
    obtain ⟨v', w', hr, g1, g2, _, g4⟩ := run_append_own_at (P := Try.prog) w B t o.type e i0 z 1 bytes ht hi hz0 hz1 hz2 hzs (by decide) v l.length (l.map f) h1 ad m.length ucap (m.map f) (by simp) hcl hone (by unfold maxLen; omega) hlen hB
    have hlt := World.ownsRow.lt h1
    have hst : Step (fun b => b < w.heap.size ∧ v.ownBlock ≠ some b) w w' := Step.of_grown g2 (fun b hb => ⟨hb.1, hb.2⟩)
    have hfin := h v' w' (.of_plain hp (by rw [List.length_append, List.map_append]; exact g1) (by
        intro g hg hEg
        rcases g4 with h' | h'
        · exact hown.notE g (by rw [← h']; exact hg) hEg
        · have : g = w.heap.size := by rw [h'] at hg; exact (Option.some.inj hg).symm
          have := hE _ hEg; omega)) hst (by
        intro b hb hne e
        rcases g4 with h' | h'
        · exact hne (by rw [← h']; exact e)
        · have : b = w.heap.size := by rw [h'] at e; exact (Option.some.inj e).symm
          omega)
    unfold Oper.wp execOp
    simp only [ho, resolve, invoke, builtin, Sem.run_bind, Sem.run_pure, Result.andThen_ok, List.map_toArray, List.map_cons, List.map_nil, hs, hxx, hr]
    exact hfin
end
/-- where a list of bytes lies behind an append of a text -/
theorem append_str_at {w w' : World} {B : Nat} {t u ty e : TypeId} {i : TypeInfo} (ht : Try.prog.underlying t = some (.slice e)) (hu : Try.prog.underlying u = some .string) (hi : Try.prog.info? e = some i) (hz : i.zero = some (.int .u8 0)) (hsize : i.size = 1) (hby : i.bytes = 1)
    {v v' : Value} {n : Nat} {xs : List Value} (hown : w.ownsRow B e 1 v n xs) {s : ByteArray} (hbytes : n + s.size ≤ 140737488355328)
    (hr : (Builtin.append_ #[t, u] ty #[v, .string s]).run Try.prog w = .ok v' w') (hnil : v' = .slice none 0 0 ↔ v = .slice none 0 0 ∧ s.size = 0) : v'.ownBlock = v.ownBlock ∨ v'.ownBlock = some w.heap.size := by
  have hxl : xs.length = n := by simpa using hown.1
  rcases hown.2 with ⟨rfl, rfl⟩ | ⟨g, cap, cur, rfl, hbg, hg, hnc, hcm, hcs, htake⟩
  · by_cases hm : s.size = 0
    · rw [hnil.2 ⟨rfl, hm⟩]; exact Or.inl rfl
    · have h2 := run_append_nil_string (P := Try.prog) w t u ty e i (.int .u8 0) ht hu hi hz s (by omega) (by omega) (by rw [hby]; omega)
      rw [hr] at h2
      cases h2
      exact Or.inr rfl
  · have hcs' : cur.size = cap := by simpa using hcs
    by_cases hroom : n + s.size ≤ cap
    · have h2 := Lib.run_append_room_string (P := Try.prog) w t u ty e i ht hu hi hsize g n cap cur hg s hroom (by omega)
      rw [hr] at h2
      cases h2
      exact Or.inl rfl
    · have holds : ∀ j u, xs[j]? = some u → w.cell? ((⟨g, 0, none⟩ : Addr).add j) = some u := hown.cells (g := g) rfl
      have h2 := Lib.run_append_grow_string (P := Try.prog) w t u ty e i (.int .u8 0) ht hu hi hz ⟨g, 0, none⟩ n cap xs (by rw [hsize]; simpa using hxl) holds s (by omega) (by omega) (by rw [hby]; exact growslice_fits (by omega) (by omega))
      rw [hr] at h2
      cases h2
      exact Or.inr rfl
section
variable {B : Nat} {E : Nat → Prop} {w w' : World} {v : Value} {l : List UInt8}
/-- append of a text's bytes, at the operation -/
theorem wp_appendStrK {o : Oper} {a : Act} {C : Act → World → Prop} {Q : Exit → Act → World → Prop} (s x : Operand)
    (ho : o.op = .call { callee := .builtin .append, args := #[s, x], argTypes := #[36, 9] })
    (hs : a.eval s = v) (hown : OwnK 5 kByte B E w v l) (hE : ∀ b, E b → b < w.heap.size) (m : List UInt8) (hx : a.eval x = .string ⟨m.toArray⟩)
    (hlen : l.length + m.length ≤ 140737488355328) (hB : B ≤ w.heap.size)
    (h : ∀ v' w', OwnK 5 kByte B E w' v' (l ++ m) → Step (fun b => b < w.heap.size ∧ v.ownBlock ≠ some b) w w' → (∀ b, b < w.heap.size → v.ownBlock ≠ some b → v'.ownBlock ≠ some b) → C (a.put o.dst v') w') : o.wp Try.prog a w C Q := by
  obtain ⟨i0, hi, hz0, hz1, hz2⟩ := info_parts info_byte
  have h1 := hown.plain_row plain_byte
  have hsz := size_mk m
  obtain ⟨v', w', hr, g1, g2, g3⟩ := Lib.run_append_own_string (P := Try.prog) w B 36 9 o.type 5 i0 Try.underlying36 Try.underlying9 hi hz0 hz1 hz2 v l.length _ h1 ⟨m.toArray⟩ (by unfold maxLen; omega) (by omega) hB
  have g4 := append_str_at Try.underlying36 Try.underlying9 hi hz0 hz1 hz2 h1 (by omega) hr g3
  have hst : Step (fun b => b < w.heap.size ∧ v.ownBlock ≠ some b) w w' := Step.of_grown g2 (fun b hb => ⟨hb.1, hb.2⟩)
  have e1 : Lib.strCells ⟨m.toArray⟩ = m.map (fun x : UInt8 => Value.int .u8 x.toNat) := by simp [Lib.strCells]
  rw [hsz, e1] at g1
  have hfin := h v' w' (.of_plain plain_byte (by rw [List.length_append, List.map_append]; exact g1) (by
      intro g hg hEg
      rcases g4 with h' | h'
      · exact hown.notE g (by rw [← h']; exact hg) hEg
      · have : g = w.heap.size := by rw [h'] at hg; exact (Option.some.inj hg).symm
        have := hE _ hEg; omega)) hst (by
      intro b hb hne e
      rcases g4 with h' | h'
      · exact hne (by rw [← h']; exact e)
      · have : b = w.heap.size := by rw [h'] at e; exact (Option.some.inj e).symm
        omega)
  unfold Oper.wp execOp
  simp only [ho, resolve, invoke, builtin, Sem.run_bind, Sem.run_pure, Result.andThen_ok, List.map_toArray, List.map_cons, List.map_nil, hs, hx, hr]
  exact hfin
end

/-- the reference's writer at block b, sound, with the bytes l; the blocks for which S holds are none of its own -/
structure WJ (b : Nat) (S : Nat → Prop) (w : World) (l : List UInt8) : Prop where
  ex : ∃ v, w.heap[b]? = some (.cells #[v, .int .i64 0] 86 (0, 0)) ∧ OwnK 5 kByte (b + 1) (· = b) w v l ∧ ∀ x, S x → x < w.heap.size ∧ x ≠ b ∧ v.ownBlock ≠ some x
section
variable {b : Nat} {S S' : Nat → Prop} {w w' : World} {l : List UInt8}
theorem WJ.lt (h : WJ b S w l) : b < w.heap.size := by
  obtain ⟨v, h1, _⟩ := h.ex
  rcases Nat.lt_or_ge b w.heap.size with h' | h'
  · exact h'
  · rw [Array.getElem?_eq_none h'] at h1; cases h1
theorem WJ.less (h : WJ b S w l) (hi : ∀ x, S' x → S x) : WJ b S' w l := by
  obtain ⟨v, h1, h2, h3⟩ := h.ex
  exact ⟨v, h1, h2, fun x hx => h3 x (hi x hx)⟩
theorem WJ.below (h : WJ b S w l) (hb : Below w.heap.size w w') : WJ b S w' l := by
  have hlt := h.lt
  obtain ⟨v, h1, h2, h3⟩ := h.ex
  exact ⟨v, (hb.block b hlt).trans h1, h2.below hb, fun x hx => ⟨Nat.lt_of_lt_of_le (h3 x hx).1 hb.size, (h3 x hx).2⟩⟩
theorem WJ.alloc (h : WJ b S w l) (o : Obj) : WJ b (fun x => S x ∨ x = w.heap.size) (w.alloc o) l := by
  have hlt := h.lt
  obtain ⟨v, h1, h2, h3⟩ := h.ex
  refine ⟨v, (heap_alloc_old w o hlt).trans h1, h2.alloc o, fun x hx => ?_⟩
  rcases hx with hx | rfl
  · exact ⟨by have := (h3 x hx).1; rw [World.size_alloc]; omega, (h3 x hx).2⟩
  · exact ⟨by simp, by omega, fun e => by have := (h2.lt _ e).2; omega⟩
theorem WJ.inS (h : WJ b S w l) {x : Nat} (hx : S x) : x < w.heap.size := by
  obtain ⟨v, _, _, h3⟩ := h.ex
  exact (h3 x hx).1
theorem WJ.put {v v' : Value} (h1 : w.heap[b]? = some (.cells #[v, .int .i64 0] 86 (0, 0))) (h2 : OwnK 5 kByte (b + 1) (· = b) w v' l) (h3 : ∀ x, S x → x < w.heap.size ∧ x ≠ b ∧ v'.ownBlock ≠ some x) : WJ b S (w.setCell ⟨b, 0, none⟩ v') l := by
  refine ⟨v', by simp [World.setCell, Array.getElem?_modify, h1], h2.step ((Step.refl (fun x => x ≠ b) w).setCell (p := ⟨b, 0, none⟩) (by simp) v') (fun x _ h => h), fun x hx => ?_⟩
  obtain ⟨a1, a2⟩ := h3 x hx
  exact ⟨by rw [World.size_setCell]; exact a1, a2⟩
theorem WJ.sound (h : WJ b S w l) : w.cell? ⟨b, 1, none⟩ = some (.int .i64 0) := by
  obtain ⟨v, h1, _⟩ := h.ex
  rw [Lib.cell_of_heap h1]; rfl
end

set_option maxHeartbeats 16000000 in
set_option maxRecDepth 100000 in
theorem xnum_any (b : Nat) (S : Nat → Prop) (w : World) (l : List UInt8) (size : Nat) (ns : List Int) (u : Value) (h : WJ b S w l) (hu : LB kInt S w u ns) (hs : size = 1 ∨ size = 2 ∨ size = 4 ∨ size = 8)
    (hf : ∀ n ∈ ns, okN size n) (hr : ∀ n ∈ ns, -9223372036854775808 ≤ n ∧ n ≤ 9223372036854775807) (hlen : l.length + size * ns.length ≤ 1000000000) :
    Calls Try.prog 41 #[.pointer (some ⟨b, 0, none⟩), .int .i64 (size : Int), u] w fun e w' => e = .returned (.tuple #[]) ∧ WJ b S w' (l ++ numsL size ns) ∧ Step S w w' := by
  obtain ⟨ua, ub, uoff, ucap, rfl, hum, huc, hat⟩ := hu.at
  have Hat := Lib.hid hat
  have Hf := Lib.hid hf
  have Hr := Lib.hid hr
  have H := Lib.hid h
  have HS := Lib.hid (fun w => xsized_any w size hs)
  have HF := Lib.hid (fun w x hx => xfits_any w size x hs hx)
  have HDg := Lib.hid (fun w n => xdigits_any w size n hs)
  have hs8 : 1 ≤ size ∧ size ≤ 8 := by omega
  have hc1 := h.sound
  have hbl := h.lt
  clear hu hat hf hr h hs
  go_enter Try.func41, Try.ntmps41
  go_wp2_with fail
  refine (HS.out _).mono ?_
  rintro e w0 ⟨rfl, rfl⟩
  clear hc1
  go_wp2_with fail
  go_loopw [6] (fun i wr => ∃ k : Nat, i = .int .i64 k ∧ k ≤ ns.length ∧ WJ b S wr (l ++ numsL size (ns.take k)) ∧ Step S w0 wr) (fun i _ => ns.length - (intOf i).toNat)
  case atStart => exact ⟨0, rfl, Nat.zero_le _, by simpa [numsL] using H.out, Step.refl _ _⟩
  case round =>
    obtain ⟨k, rfl, hk, hw, hst⟩ := hrel
    have Hst := Lib.hid hst
    have hc1 := hw.sound
    have hbr := hw.lt
    by_cases hlt : k < ns.length
    · obtain rfl := Hat.out.addr (by omega)
      obtain ⟨n, hn⟩ : ∃ n, ns[k]? = some n := ⟨_, List.getElem?_eq_getElem hlt⟩
      have huS := Hat.out.inS (by omega)
      have g := (Hst.out.cell (p := ⟨ub, uoff + k, none⟩) huS).trans (Hat.out.int1 k n hn)
      have hsb := World.block_lt_of_cell? _ _ g
      have hfn := Hf.out n (List.mem_of_getElem? hn)
      have hrn := Hr.out n (List.mem_of_getElem? hn)
      have Hnt := Lib.hid (numsL_take size ns k n hn)
      have hkl := numsL_len size (ns.take k)
      rw [List.length_take, Nat.min_eq_left hk] at hkl
      have hmul : size * k + size ≤ size * ns.length := by rw [← Nat.mul_succ]; exact Nat.mul_le_mul_left _ hlt
      have HFn := Lib.hid (fun w => HF.out w n hfn)
      have hdl := digitsL_len size n
      obtain ⟨v, hv1, hv2, hv3⟩ := hw.ex
      have Hv1 := Lib.hid hv1
      have Hv2 := Lib.hid hv2
      have Hv3 := Lib.hid hv3
      have hc0 : wr.cell? ⟨b, 0, none⟩ = some v := by rw [Lib.cell_of_heap hv1]; rfl
      obtain ⟨va, vc, hvf⟩ := hv2.form
      obtain ⟨L, hL⟩ : ∃ L, (l ++ numsL size (ns.take k)).length = L := ⟨_, rfl⟩
      have HL := Lib.hid hL
      rw [hL] at hvf
      subst hvf
      have hLb : L ≤ 1000000000 - size := by rw [← hL]; simp only [List.length_append]; omega
      clear hn hw hst hfn hv1 hv2 hv3 hL hkl hmul
      go_wp2_with fail
      refine (HFn.out _).mono ?_
      rintro e w3 ⟨rfl, rfl⟩
      clear hc1
      go_wp2_with fail
      have fx : w3.frozen? ⟨b, 0, none⟩ = false := Lib.frozen_of_heap Hv1.out 0
      refine wp_region_phase 12 (by kernel_rfl) (by kernel_rfl) ?_
      simp only [List.take_succ_cons, List.take_zero, List.drop_succ_cons, List.drop_zero, List.take_nil, List.drop_nil]
      refine wpAny_of_held (S := fun w' => w'.cell? ⟨b, 0, none⟩ = some (.slice va L vc) ∧ w'.cell? ⟨ub, uoff + k, none⟩ = some (.int .i64 n)) _ _ _ _ ?_
      have hHeld : (fun w' : World => w'.cell? ⟨b, 0, none⟩ = some (.slice va L vc) ∧ w'.cell? ⟨ub, uoff + k, none⟩ = some (.int .i64 n)) w3.drew := ⟨hc0, g⟩
      show wpAnyH _ _ _ _ _ _ _ _ (World.drew _)
      have Hd2 := Lib.hid Hv2.out.drew
      have Hd1 : Hid (w3.drew.heap[b]? = _) := Lib.hid Hv1.out
      have Hd3 : Hid (∀ x, S x → x < w3.drew.heap.size ∧ x ≠ b ∧ Value.ownBlock (.slice va L vc) ≠ some x) := Lib.hid Hv3.out
      have hst3 := Lib.hid Hst.out.drew
      have hbd : b < w3.drew.heap.size := hbr
      have hsbd : ub < w3.drew.heap.size := hsb
      generalize w3.drew = wd at *
      refine wpAnyH_take (i := 0) (v := ?_) rfl (by kernel_rfl) (by kernel_rfl) (by kernel_rfl) (fun _ _ _ h => h) (Or.inl ⟨by rfl, ?_⟩) hHeld ?_
      rotate_left
      · (intro w hSw; (try dsimp only at hSw); go_simp; try with_reducible rfl)
      simp only [List.getElem_toArray, List.getElem_cons_zero, List.getElem_cons_succ, Act.put, List.setIfInBounds_toArray, List.set_cons_zero, List.set_cons_succ]
      refine wpAnyH_take (i := 1) (v := ?_) rfl (by kernel_rfl) (by kernel_rfl) (by kernel_rfl) (fun _ _ _ h => h) (Or.inl ⟨by rfl, ?_⟩) hHeld ?_
      rotate_left
      · (intro w hSw; (try dsimp only at hSw); go_simp; try with_reducible rfl)
      simp only [List.getElem_toArray, List.getElem_cons_zero, List.getElem_cons_succ, Act.put, List.setIfInBounds_toArray, List.set_cons_zero, List.set_cons_succ]
      refine wpAnyH_take (i := 2) (v := ?_) rfl (by kernel_rfl) (by kernel_rfl) (by kernel_rfl) (fun _ _ _ h => h) (Or.inl ⟨by rfl, ?_⟩) hHeld ?_
      rotate_left
      · (intro w hSw; (try dsimp only at hSw); go_simp; try with_reducible rfl)
      simp only [List.getElem_toArray, List.getElem_cons_zero, List.getElem_cons_succ, Act.put, List.setIfInBounds_toArray, List.set_cons_zero, List.set_cons_succ]
      refine wpAnyH_take (i := 3) (v := ?_) rfl (by kernel_rfl) (by kernel_rfl) (by kernel_rfl) (fun _ _ _ h => h) (Or.inl ⟨by rfl, ?_⟩) hHeld ?_
      rotate_left
      · (intro w hSw; (try dsimp only at hSw); go_simp; try with_reducible rfl)
      simp only [List.getElem_toArray, List.getElem_cons_zero, List.getElem_cons_succ, Act.put, List.setIfInBounds_toArray, List.set_cons_zero, List.set_cons_succ]
      refine wpAnyH_take (i := 4) (v := ?_) rfl (by kernel_rfl) (by kernel_rfl) (by kernel_rfl) (fun _ _ _ h => h) (Or.inl ⟨by rfl, ?_⟩) hHeld ?_
      rotate_left
      · (intro w hSw; (try dsimp only at hSw); go_simp; try with_reducible rfl)
      simp only [List.getElem_toArray, List.getElem_cons_zero, List.getElem_cons_succ, Act.put, List.setIfInBounds_toArray, List.set_cons_zero, List.set_cons_succ]
      refine wpAnyH_take (i := 5) (v := ?_) rfl (by kernel_rfl) (by kernel_rfl) (by kernel_rfl) (fun _ _ _ h => h) (Or.inl ⟨by rfl, ?_⟩) hHeld ?_
      rotate_left
      · (intro w hSw; (try dsimp only at hSw); go_simp; try with_reducible rfl)
      simp only [List.getElem_toArray, List.getElem_cons_zero, List.getElem_cons_succ, Act.put, List.setIfInBounds_toArray, List.set_cons_zero, List.set_cons_succ]
      refine wpAnyH_take (i := 6) (v := ?_) rfl (by kernel_rfl) (by kernel_rfl) (by kernel_rfl) (fun _ _ _ h => h) (Or.inl ⟨by rfl, ?_⟩) hHeld ?_
      rotate_left
      · (intro w hSw; (try dsimp only at hSw); go_simp; try with_reducible rfl)
      simp only [List.getElem_toArray, List.getElem_cons_zero, List.getElem_cons_succ, Act.put, List.setIfInBounds_toArray, List.set_cons_zero, List.set_cons_succ]
      refine wpAnyH_take (i := 7) (v := ?_) rfl (by kernel_rfl) (by kernel_rfl) (by kernel_rfl) (fun _ _ _ h => h) (Or.inl ⟨by rfl, ?_⟩) hHeld ?_
      rotate_left
      · (intro w hSw; (try dsimp only at hSw); go_simp; try with_reducible rfl)
      simp only [List.getElem_toArray, List.getElem_cons_zero, List.getElem_cons_succ, Act.put, List.setIfInBounds_toArray, List.set_cons_zero, List.set_cons_succ]
      refine wpAnyH_take (i := 8) (v := ?_) rfl (by kernel_rfl) (by kernel_rfl) (by kernel_rfl) (fun _ _ _ h => h) (Or.inl ⟨by rfl, ?_⟩) hHeld ?_
      rotate_left
      · (intro w hSw; (try dsimp only at hSw); go_simp; try with_reducible rfl)
      simp only [List.getElem_toArray, List.getElem_cons_zero, List.getElem_cons_succ, Act.put, List.setIfInBounds_toArray, List.set_cons_zero, List.set_cons_succ]
      refine wpAnyH_take (i := 9) (v := ?_) rfl (by kernel_rfl) (by kernel_rfl) (by kernel_rfl) (fun _ _ _ h => h) (Or.inl ⟨by rfl, ?_⟩) hHeld ?_
      rotate_left
      · (intro w hSw; (try dsimp only at hSw); go_simp; try with_reducible rfl)
      simp only [List.getElem_toArray, List.getElem_cons_zero, List.getElem_cons_succ, Act.put, List.setIfInBounds_toArray, List.set_cons_zero, List.set_cons_succ]
      refine wpAnyH_ready (rs := [10]) (by kernel_rfl) (by simp) ?_
      refine AllReadyH.cons rfl (fun K hK => ?_) AllReadyH.nil
      go_simp
      refine (HDg.out _ n).mono ?_
      rintro e w4 ⟨r, rfl, hro, hb4⟩
      obtain ⟨ra, rc, rfl⟩ := hro.form
      have Hro := Lib.hid hro
      have Hd4 := Lib.hid ((hb4.block b hbd).trans Hd1.out)
      have Hd5 := Lib.hid (Hd2.out.below hb4)
      have hst4 := Lib.hid (hst3.out.trans (Step.later hb4 (fun x hx => (Hd3.out x hx).1)))
      have hz4 := hb4.size
      refine hK.out _ _ (⟨(Lib.cell_of_heap Hd4.out 0).trans rfl, (hb4.cell (p := ⟨ub, uoff + k, none⟩) (by show ub < wd.heap.size; exact hsbd)).trans hHeld.2⟩) (fun hHeld => ?_)
      clear hK K hro hb4
      try simp only [Act.put, List.setIfInBounds_toArray, List.set_cons_zero, List.set_cons_succ]
      refine wpAnyH_ready (rs := [11]) (by kernel_rfl) (by simp) ?_
      refine AllReadyH.cons rfl (fun K hK => ?_) AllReadyH.nil
      rw [if_pos (by rfl)]
      simp only [List.getElem_toArray, List.getElem_cons_succ, List.getElem_cons_zero]
      refine wp_appendsK (B := b + 1) (E := (· = b)) plain_byte 36 (.int .u8 0) 1 Try.underlying36 info_byte rfl (.tmp 43) (.tmp 49) (by rfl) (by rfl) Hd5.out (fun x hx => by have hx : x = b := hx; omega) _ (digitsL size n) (by rfl) Hro.out.lb (by rw [HL.out, hdl]; omega) (by rw [HL.out, hdl]; omega) (by omega) (fun v' w5 hown hst5 hne => ?_)
      obtain ⟨va', vc', hvf⟩ := hown.form
      obtain ⟨L', hL'⟩ : ∃ L', (l ++ numsL size (ns.take k) ++ digitsL size n).length = L' := ⟨_, rfl⟩
      rw [hL'] at hvf
      clear hL'
      subst hvf
      have hvb : Value.ownBlock (.slice va L vc) ≠ some b := fun e => Hd5.out.notE _ e rfl
      have Hb5 := Lib.hid ((hst5.block b ⟨by omega, hvb⟩).trans Hd4.out)
      have hst6 := Lib.hid (hst4.out.trans (hst5.imp (S' := S) (fun x hx => ⟨by have := (Hd3.out x hx).1; omega, (Hd3.out x hx).2.2⟩)))
      have Hd8 : Hid (∀ x, S x → x < w5.heap.size ∧ x ≠ b ∧ Value.ownBlock (.slice va' L' vc') ≠ some x) := Lib.hid (fun x hx => by
        obtain ⟨a1, a2, a3⟩ := Hd3.out x hx
        exact ⟨by have := hst5.size; omega, a2, hne x (by omega) a3⟩)
      have Hown := Lib.hid hown
      refine hK.out _ _ (⟨(Lib.cell_of_heap Hb5.out 0).trans rfl, (hst5.cell (p := ⟨ub, uoff + k, none⟩) (by have := Hd3.out ub huS; exact ⟨by show ub < _; omega, this.2.2⟩)).trans hHeld.2⟩) (fun hHeld => ?_)
      clear hK K
      try simp only [Act.put, List.setIfInBounds_toArray, List.set_cons_zero, List.set_cons_succ]
      refine wpAnyH_done (by kernel_rfl) ?_ _
      simp only [phaseQ]
      have hc5 : w5.cell? ⟨b, 0, none⟩ = some (.slice va L vc) := by rw [Lib.cell_of_heap Hb5.out]; rfl
      have fx5 : w5.frozen? ⟨b, 0, none⟩ = false := Lib.frozen_of_heap Hb5.out 0
      have hz5 : b < w5.heap.size := by have := hst5.size; omega
      have Hfin := Lib.hid (WJ.put Hb5.out Hown.out Hd8.out)
      have Hstf : Hid (Step S w0 (w5.setCell ⟨b, 0, none⟩ (.slice va' L' vc'))) := Lib.hid (hst6.out.setCell (p := ⟨b, 0, none⟩) (fun hS => (Hd8.out b hS).2.1 rfl) _)
      clear hHeld hown hst5 hne hc0 fx Hd1 Hd2 Hd3 Hd4 Hd5 hst3 hst4 hvb Hv1 Hv2 Hv3
      clear Hro
      go_wp2
      go_roundw
      case rel =>
        refine ⟨k + 1, by go_num, by omega, ?_, Hstf.out⟩
        have h := Hfin.out
        rw [List.append_assoc, ← Hnt.out] at h
        exact h
      case measure => simp [intOf]; omega
    · have Hall : Hid (ns.take k = ns) := Lib.hid (List.take_of_length_le (by omega))
      rw [Hall.out] at hw
      have Hw2 := Lib.hid hw
      clear hw hst
      go_wp2
      go_end0
      exact ⟨rfl, Hw2.out, Hst.out⟩


end Go.Proofs.Ytbliedldlimpgaa

namespace Go.Proofs.Ytbliedldlimpgaa
set_option linter.unusedVariables false
set_option linter.unusedSimpArgs false
open Go.RowKit

theorem xnum_built (b : Nat) (S : Nat → Prop) (w : World) (l : List UInt8) (size : Nat) (ns : List Int) (h : WJ b S w l) (hs : size = 1 ∨ size = 2 ∨ size = 4 ∨ size = 8) (hf : ∀ n ∈ ns, okN size n) (hlen : l.length + size * ns.length ≤ 1000000000) (hn : ns.length ≤ 1000000) :
    Calls Try.prog 41 #[.pointer (some ⟨b, 0, none⟩), .int .i64 (size : Int), .slice (some ⟨w.heap.size, 0, none⟩) ns.length ns.length] (w.alloc (.cells (ns.map (Value.int .i64)).toArray 3 (0, 0))) fun e w' => e = .returned (.tuple #[]) ∧ WJ b S w' (l ++ numsL size ns) ∧ Step S w w' := by
  refine (xnum_any b (fun x => S x ∨ x = w.heap.size) _ l size ns _ (h.alloc _) ((built_ints w ns (by omega)).imp (fun x hx => Or.inr hx)) hs hf (fun n hn => okN_i64 hs (hf n hn)) hlen).mono ?_
  rintro e w' ⟨he, hw, hs'⟩
  exact ⟨he, hw.less (fun x hx => Or.inl hx), (Step.later ((Below.refl _ w).alloc (Nat.le_refl _) _) (fun x hx => h.inS hx)).trans (hs'.imp (fun x hx => Or.inl hx))⟩
theorem jone_any (w : World) (x : Bool) : Calls Try.prog 44 #[.bool x] w fun e w' => e = .returned (.int .i64 (oneL x)) ∧ w' = w := by
  cases x
  all_goals
    go_enter Try.func44, Try.ntmps44
    go_wp2
    go_ret
    exact ⟨rfl, rfl⟩
set_option maxHeartbeats 4000000 in
theorem xbytes_any (b : Nat) (S : Nat → Prop) (w : World) (l : List UInt8) (h : WJ b S w l) :
    Calls Try.prog 45 #[.pointer (some ⟨b, 0, none⟩)] w fun e w' => ∃ v, e = .returned (.tuple #[v, .int .i64 0]) ∧ OwnK 5 kByte (b + 1) (· = b) w v l ∧ w' = w := by
  have hc1 := h.sound
  have hbl := h.lt
  obtain ⟨v, hv1, hv2, hv3⟩ := h.ex
  have hc0 : w.cell? ⟨b, 0, none⟩ = some v := by rw [Lib.cell_of_heap hv1]; rfl
  obtain ⟨va, vc, rfl⟩ := hv2.form
  have Hv2 := Lib.hid hv2
  clear h hv1 hv2 hv3
  go_enter Try.func45, Try.ntmps45
  go_wp2
  go_ret2
  exact ⟨_, rfl, Hv2.out, rfl⟩

set_option maxHeartbeats 16000000 in
set_option maxRecDepth 100000 in
theorem xtext_any (b : Nat) (S : Nat → Prop) (w : World) (l : List UInt8) (ss : List (List UInt8)) (u : Value) (h : WJ b S w l) (hu : LB kStr S w u ss) (hf : ∀ s ∈ ss, s.length ≤ 4096) (hlen : l.length + 4098 * ss.length ≤ 1000000000) :
    Calls Try.prog 40 #[.pointer (some ⟨b, 0, none⟩), u] w fun e w' => e = .returned (.tuple #[]) ∧ WJ b S w' (l ++ textsL ss) ∧ Step S w w' := by
  obtain ⟨ua, ub, uoff, ucap, rfl, hum, huc, hat⟩ := hu.at
  have Hat := Lib.hid hat
  have Hf := Lib.hid hf
  have H := Lib.hid h
  have HDg := Lib.hid (fun w n => xdigits_any w 2 n (by decide))
  have hbl := h.lt
  clear hu hat hf h
  go_enter Try.func40, Try.ntmps40
  go_wp2_with fail
  go_loopw [4] (fun i wr => ∃ k : Nat, i = .int .i64 k ∧ k ≤ ss.length ∧ WJ b S wr (l ++ textsL (ss.take k)) ∧ Step S w wr) (fun i _ => ss.length - (intOf i).toNat)
  case atStart => exact ⟨0, rfl, Nat.zero_le _, by simpa [textsL] using H.out, Step.refl _ _⟩
  case round =>
    obtain ⟨k, rfl, hk, hw, hst⟩ := hrel
    have Hst := Lib.hid hst
    have hc1 := hw.sound
    have hbr := hw.lt
    by_cases hlt : k < ss.length
    · obtain rfl := Hat.out.addr (by omega)
      obtain ⟨p, hp⟩ : ∃ p, ss[k]? = some p := ⟨_, List.getElem?_eq_getElem hlt⟩
      have huS := Hat.out.inS (by omega)
      obtain ⟨g0, hpz⟩ := Hat.out.str1 k p hp
      have g := (Hst.out.cell (p := ⟨ub, uoff + k, none⟩) huS).trans g0
      have hsb := World.block_lt_of_cell? _ _ g
      have hpl := Hf.out p (List.mem_of_getElem? hp)
      have hsz := size_mk p
      have Htt := Lib.hid (textsL_take ss k p hp)
      have htl := textsL_len (ss.take k) (fun s hs => Hf.out s (List.mem_of_mem_take hs))
      rw [List.length_take, Nat.min_eq_left hk] at htl
      have hng : ¬ 4096 < p.length := by omega
      have hdl := digitsL_len 2 (p.length : Int)
      obtain ⟨v, hv1, hv2, hv3⟩ := hw.ex
      have Hv1 := Lib.hid hv1
      have Hv2 := Lib.hid hv2
      have Hv3 := Lib.hid hv3
      have hc0 : wr.cell? ⟨b, 0, none⟩ = some v := by rw [Lib.cell_of_heap hv1]; rfl
      obtain ⟨va, vc, hvf⟩ := hv2.form
      obtain ⟨L, hL⟩ : ∃ L, (l ++ textsL (ss.take k)).length = L := ⟨_, rfl⟩
      have HL := Lib.hid hL
      rw [hL] at hvf
      subst hvf
      have hLb : L ≤ 1000000000 - 4098 := by rw [← hL]; simp only [List.length_append]; omega
      have hL4 : (l ++ textsL (ss.take k) ++ digitsL 2 (p.length : Int)).length ≤ 1000000000 - 4096 := by rw [List.length_append, hL, hdl]; omega
      have Hp := Lib.hid hp
      clear hp hw hst hv1 hv2 hv3 hL htl g0
      go_wp2_with fail
      clear hc1
      have fx : wr.frozen? ⟨b, 0, none⟩ = false := Lib.frozen_of_heap Hv1.out 0
      refine wp_region_phase 12 (by kernel_rfl) (by kernel_rfl) ?_
      simp only [List.take_succ_cons, List.take_zero, List.drop_succ_cons, List.drop_zero, List.take_nil, List.drop_nil]
      refine wpAny_of_held (S := fun w' => w'.cell? ⟨b, 0, none⟩ = some (.slice va L vc) ∧ w'.cell? ⟨ub, uoff + k, none⟩ = some (.string ⟨p.toArray⟩)) _ _ _ _ ?_
      have hHeld : (fun w' : World => w'.cell? ⟨b, 0, none⟩ = some (.slice va L vc) ∧ w'.cell? ⟨ub, uoff + k, none⟩ = some (.string ⟨p.toArray⟩)) wr.drew := ⟨hc0, g⟩
      show wpAnyH _ _ _ _ _ _ _ _ (World.drew _)
      have Hd2 := Lib.hid Hv2.out.drew
      have Hd1 : Hid (wr.drew.heap[b]? = _) := Lib.hid Hv1.out
      have Hd3 : Hid (∀ x, S x → x < wr.drew.heap.size ∧ x ≠ b ∧ Value.ownBlock (.slice va L vc) ≠ some x) := Lib.hid Hv3.out
      have hst3 := Lib.hid Hst.out.drew
      have hbd : b < wr.drew.heap.size := hbr
      have hsbd : ub < wr.drew.heap.size := hsb
      generalize wr.drew = wd at *
      refine wpAnyH_take (i := 0) (v := ?_) rfl (by kernel_rfl) (by kernel_rfl) (by kernel_rfl) (fun _ _ _ h => h) (Or.inl ⟨by rfl, ?_⟩) hHeld ?_
      rotate_left
      · (intro w hSw; (try dsimp only at hSw); go_simp; try with_reducible rfl)
      simp only [List.getElem_toArray, List.getElem_cons_zero, List.getElem_cons_succ, Act.put, List.setIfInBounds_toArray, List.set_cons_zero, List.set_cons_succ]
      refine wpAnyH_take (i := 1) (v := ?_) rfl (by kernel_rfl) (by kernel_rfl) (by kernel_rfl) (fun _ _ _ h => h) (Or.inl ⟨by rfl, ?_⟩) hHeld ?_
      rotate_left
      · (intro w hSw; (try dsimp only at hSw); go_simp; try with_reducible rfl)
      simp only [List.getElem_toArray, List.getElem_cons_zero, List.getElem_cons_succ, Act.put, List.setIfInBounds_toArray, List.set_cons_zero, List.set_cons_succ]
      refine wpAnyH_take (i := 2) (v := ?_) rfl (by kernel_rfl) (by kernel_rfl) (by kernel_rfl) (fun _ _ _ h => h) (Or.inl ⟨by rfl, ?_⟩) hHeld ?_
      rotate_left
      · (intro w hSw; (try dsimp only at hSw); go_simp; try with_reducible rfl)
      simp only [List.getElem_toArray, List.getElem_cons_zero, List.getElem_cons_succ, Act.put, List.setIfInBounds_toArray, List.set_cons_zero, List.set_cons_succ]
      refine wpAnyH_take (i := 3) (v := ?_) rfl (by kernel_rfl) (by kernel_rfl) (by kernel_rfl) (fun _ _ _ h => h) (Or.inl ⟨by rfl, ?_⟩) hHeld ?_
      rotate_left
      · (intro w hSw; (try dsimp only at hSw); go_simp; try with_reducible rfl)
      simp only [List.getElem_toArray, List.getElem_cons_zero, List.getElem_cons_succ, Act.put, List.setIfInBounds_toArray, List.set_cons_zero, List.set_cons_succ]
      refine wpAnyH_take (i := 4) (v := ?_) rfl (by kernel_rfl) (by kernel_rfl) (by kernel_rfl) (fun _ _ _ h => h) (Or.inl ⟨by rfl, ?_⟩) hHeld ?_
      rotate_left
      · (intro w hSw; (try dsimp only at hSw); go_simp; try with_reducible rfl)
      simp only [List.getElem_toArray, List.getElem_cons_zero, List.getElem_cons_succ, Act.put, List.setIfInBounds_toArray, List.set_cons_zero, List.set_cons_succ]
      refine wpAnyH_take (i := 5) (v := ?_) rfl (by kernel_rfl) (by kernel_rfl) (by kernel_rfl) (fun _ _ _ h => h) (Or.inl ⟨by rfl, ?_⟩) hHeld ?_
      rotate_left
      · (intro w hSw; (try dsimp only at hSw); go_simp; try with_reducible rfl)
      simp only [List.getElem_toArray, List.getElem_cons_zero, List.getElem_cons_succ, Act.put, List.setIfInBounds_toArray, List.set_cons_zero, List.set_cons_succ]
      refine wpAnyH_take (i := 6) (v := ?_) rfl (by kernel_rfl) (by kernel_rfl) (by kernel_rfl) (fun _ _ _ h => h) (Or.inl ⟨by rfl, ?_⟩) hHeld ?_
      rotate_left
      · (intro w hSw; (try dsimp only at hSw); go_simp; try with_reducible rfl)
      simp only [List.getElem_toArray, List.getElem_cons_zero, List.getElem_cons_succ, Act.put, List.setIfInBounds_toArray, List.set_cons_zero, List.set_cons_succ]
      refine wpAnyH_take (i := 7) (v := ?_) rfl (by kernel_rfl) (by kernel_rfl) (by kernel_rfl) (fun _ _ _ h => h) (Or.inl ⟨by rfl, ?_⟩) hHeld ?_
      rotate_left
      · (intro w hSw; (try dsimp only at hSw); go_simp; try with_reducible rfl)
      simp only [List.getElem_toArray, List.getElem_cons_zero, List.getElem_cons_succ, Act.put, List.setIfInBounds_toArray, List.set_cons_zero, List.set_cons_succ]
      refine wpAnyH_take (i := 8) (v := ?_) rfl (by kernel_rfl) (by kernel_rfl) (by kernel_rfl) (fun _ _ _ h => h) (Or.inl ⟨by rfl, ?_⟩) hHeld ?_
      rotate_left
      · (intro w hSw; (try dsimp only at hSw); go_simp; try with_reducible rfl)
      simp only [List.getElem_toArray, List.getElem_cons_zero, List.getElem_cons_succ, Act.put, List.setIfInBounds_toArray, List.set_cons_zero, List.set_cons_succ]
      refine wpAnyH_take (i := 9) (v := ?_) rfl (by kernel_rfl) (by kernel_rfl) (by kernel_rfl) (fun _ _ _ h => h) (Or.inl ⟨by rfl, ?_⟩) hHeld ?_
      rotate_left
      · (intro w hSw; (try dsimp only at hSw); go_simp; try with_reducible rfl)
      simp only [List.getElem_toArray, List.getElem_cons_zero, List.getElem_cons_succ, Act.put, List.setIfInBounds_toArray, List.set_cons_zero, List.set_cons_succ]
      refine wpAnyH_ready (rs := [10]) (by kernel_rfl) (by simp) ?_
      refine AllReadyH.cons rfl (fun K hK => ?_) AllReadyH.nil
      go_simp
      refine (HDg.out _ (p.length : Int)).mono ?_
      rintro e w4 ⟨r, rfl, hro, hb4⟩
      obtain ⟨ra, rc, rfl⟩ := hro.form
      have Hro := Lib.hid hro
      have Hd4 := Lib.hid ((hb4.block b hbd).trans Hd1.out)
      have Hd5 := Lib.hid (Hd2.out.below hb4)
      have hst4 := Lib.hid (hst3.out.trans (Step.later hb4 (fun x hx => (Hd3.out x hx).1)))
      have hz4 := hb4.size
      refine hK.out _ _ (⟨(Lib.cell_of_heap Hd4.out 0).trans rfl, (hb4.cell (p := ⟨ub, uoff + k, none⟩) (by show ub < wd.heap.size; exact hsbd)).trans hHeld.2⟩) (fun hHeld => ?_)
      clear hK K hro hb4
      try simp only [Act.put, List.setIfInBounds_toArray, List.set_cons_zero, List.set_cons_succ]
      refine wpAnyH_ready (rs := [11]) (by kernel_rfl) (by simp) ?_
      refine AllReadyH.cons rfl (fun K hK => ?_) AllReadyH.nil
      rw [if_pos (by rfl)]
      simp only [List.getElem_toArray, List.getElem_cons_succ, List.getElem_cons_zero]
      refine wp_appendsK (B := b + 1) (E := (· = b)) plain_byte 36 (.int .u8 0) 1 Try.underlying36 info_byte rfl (.tmp 31) (.tmp 37) (by rfl) (by rfl) Hd5.out (fun x hx => by have hx : x = b := hx; omega) _ (digitsL 2 (p.length : Int)) (by rfl) Hro.out.lb (by rw [HL.out, hdl]; omega) (by rw [HL.out, hdl]; omega) (by omega) (fun v' w5 hown hst5 hne => ?_)
      obtain ⟨va', vc', hvf⟩ := hown.form
      obtain ⟨L', hL'⟩ : ∃ L', (l ++ textsL (ss.take k) ++ digitsL 2 (p.length : Int)).length = L' := ⟨_, rfl⟩
      rw [hL'] at hvf
      clear hL'
      subst hvf
      have hvb : Value.ownBlock (.slice va L vc) ≠ some b := fun e => Hd5.out.notE _ e rfl
      have Hb5 := Lib.hid ((hst5.block b ⟨by omega, hvb⟩).trans Hd4.out)
      have hst6 := Lib.hid (hst4.out.trans (hst5.imp (S' := S) (fun x hx => ⟨by have := (Hd3.out x hx).1; omega, (Hd3.out x hx).2.2⟩)))
      have Hd8 : Hid (∀ x, S x → x < w5.heap.size ∧ x ≠ b ∧ Value.ownBlock (.slice va' L' vc') ≠ some x) := Lib.hid (fun x hx => by
        obtain ⟨a1, a2, a3⟩ := Hd3.out x hx
        exact ⟨by have := hst5.size; omega, a2, hne x (by omega) a3⟩)
      have Hown := Lib.hid hown
      refine hK.out _ _ (⟨(Lib.cell_of_heap Hb5.out 0).trans rfl, (hst5.cell (p := ⟨ub, uoff + k, none⟩) (by have := Hd3.out ub huS; exact ⟨by show ub < _; omega, this.2.2⟩)).trans hHeld.2⟩) (fun hHeld => ?_)
      clear hK K
      try simp only [Act.put, List.setIfInBounds_toArray, List.set_cons_zero, List.set_cons_succ]
      refine wpAnyH_done (by kernel_rfl) ?_ _
      simp only [phaseQ]
      have hc5 : w5.cell? ⟨b, 0, none⟩ = some (.slice va L vc) := by rw [Lib.cell_of_heap Hb5.out]; rfl
      have fx5 : w5.frozen? ⟨b, 0, none⟩ = false := Lib.frozen_of_heap Hb5.out 0
      have hz5 : b < w5.heap.size := by have := hst5.size; omega
      have Hfin := Lib.hid (WJ.put Hb5.out Hown.out Hd8.out)
      have Hstf : Hid (Step S w (w5.setCell ⟨b, 0, none⟩ (.slice va' L' vc'))) := Lib.hid (hst6.out.setCell (p := ⟨b, 0, none⟩) (fun hS => (Hd8.out b hS).2.1 rfl) _)
      clear hHeld hown hst5 hne hc0 fx Hd1 Hd2 Hd3 Hd4 Hd5 hst3 hst4 hvb Hv1 Hv2 Hv3
      clear Hro
      go_wp2_with fail
      clear hc5 fx5
      obtain ⟨w6, hw6⟩ : ∃ x, x = w5.setCell ⟨b, 0, none⟩ (.slice va' L' vc') := ⟨_, rfl⟩
      rw [← hw6] at Hfin Hstf ⊢
      clear hw6
      have hw := Hfin.out
      have Hst := Lib.hid Hstf.out
      have hbr := hw.lt
      have g := (Hst.out.cell (p := ⟨ub, uoff + k, none⟩) huS).trans (Hat.out.str1 k p Hp.out).1
      have hsb := World.block_lt_of_cell? _ _ g
      clear HL Hfin Hstf Hown Hb5 Hd8 hst6
      generalize hLd : l ++ textsL (ss.take k) ++ digitsL 2 (p.length : Int) = Ld at *
      obtain ⟨v, hv1, hv2, hv3⟩ := hw.ex
      have Hv1 := Lib.hid hv1
      have Hv2 := Lib.hid hv2
      have Hv3 := Lib.hid hv3
      have hc0 : w6.cell? ⟨b, 0, none⟩ = some v := by rw [Lib.cell_of_heap hv1]; rfl
      obtain ⟨va, vc, hvf⟩ := hv2.form
      obtain ⟨L, hL⟩ : ∃ L, (Ld).length = L := ⟨_, rfl⟩
      have HL := Lib.hid hL
      rw [hL] at hL4
      rw [hL] at hvf
      subst hvf
      clear hw hv1 hv2 hv3
      have fx : w6.frozen? ⟨b, 0, none⟩ = false := Lib.frozen_of_heap Hv1.out 0
      refine wp_region_phase 10 (by kernel_rfl) (by kernel_rfl) ?_
      simp only [List.take_succ_cons, List.take_zero, List.drop_succ_cons, List.drop_zero, List.take_nil, List.drop_nil]
      refine wpAny_of_held (S := fun w' => w'.cell? ⟨b, 0, none⟩ = some (.slice va L vc) ∧ w'.cell? ⟨ub, uoff + k, none⟩ = some (.string ⟨p.toArray⟩)) _ _ _ _ ?_
      have hHeld : (fun w' : World => w'.cell? ⟨b, 0, none⟩ = some (.slice va L vc) ∧ w'.cell? ⟨ub, uoff + k, none⟩ = some (.string ⟨p.toArray⟩)) w6.drew := ⟨hc0, g⟩
      show wpAnyH _ _ _ _ _ _ _ _ (World.drew _)
      have Hd2 := Lib.hid Hv2.out.drew
      have Hd1 : Hid (w6.drew.heap[b]? = _) := Lib.hid Hv1.out
      have Hd3 : Hid (∀ x, S x → x < w6.drew.heap.size ∧ x ≠ b ∧ Value.ownBlock (.slice va L vc) ≠ some x) := Lib.hid Hv3.out
      have hst3 := Lib.hid Hst.out.drew
      have hbd : b < w6.drew.heap.size := hbr
      have hsbd : ub < w6.drew.heap.size := hsb
      generalize w6.drew = wd at *
      refine wpAnyH_take (i := 0) (v := ?_) rfl (by kernel_rfl) (by kernel_rfl) (by kernel_rfl) (fun _ _ _ h => h) (Or.inl ⟨by rfl, ?_⟩) hHeld ?_
      rotate_left
      · (intro w hSw; (try dsimp only at hSw); go_simp; try with_reducible rfl)
      simp only [List.getElem_toArray, List.getElem_cons_zero, List.getElem_cons_succ, Act.put, List.setIfInBounds_toArray, List.set_cons_zero, List.set_cons_succ]
      refine wpAnyH_take (i := 1) (v := ?_) rfl (by kernel_rfl) (by kernel_rfl) (by kernel_rfl) (fun _ _ _ h => h) (Or.inl ⟨by rfl, ?_⟩) hHeld ?_
      rotate_left
      · (intro w hSw; (try dsimp only at hSw); go_simp; try with_reducible rfl)
      simp only [List.getElem_toArray, List.getElem_cons_zero, List.getElem_cons_succ, Act.put, List.setIfInBounds_toArray, List.set_cons_zero, List.set_cons_succ]
      refine wpAnyH_take (i := 2) (v := ?_) rfl (by kernel_rfl) (by kernel_rfl) (by kernel_rfl) (fun _ _ _ h => h) (Or.inl ⟨by rfl, ?_⟩) hHeld ?_
      rotate_left
      · (intro w hSw; (try dsimp only at hSw); go_simp; try with_reducible rfl)
      simp only [List.getElem_toArray, List.getElem_cons_zero, List.getElem_cons_succ, Act.put, List.setIfInBounds_toArray, List.set_cons_zero, List.set_cons_succ]
      refine wpAnyH_take (i := 3) (v := ?_) rfl (by kernel_rfl) (by kernel_rfl) (by kernel_rfl) (fun _ _ _ h => h) (Or.inl ⟨by rfl, ?_⟩) hHeld ?_
      rotate_left
      · (intro w hSw; (try dsimp only at hSw); go_simp; try with_reducible rfl)
      simp only [List.getElem_toArray, List.getElem_cons_zero, List.getElem_cons_succ, Act.put, List.setIfInBounds_toArray, List.set_cons_zero, List.set_cons_succ]
      refine wpAnyH_take (i := 4) (v := ?_) rfl (by kernel_rfl) (by kernel_rfl) (by kernel_rfl) (fun _ _ _ h => h) (Or.inl ⟨by rfl, ?_⟩) hHeld ?_
      rotate_left
      · (intro w hSw; (try dsimp only at hSw); go_simp; try with_reducible rfl)
      simp only [List.getElem_toArray, List.getElem_cons_zero, List.getElem_cons_succ, Act.put, List.setIfInBounds_toArray, List.set_cons_zero, List.set_cons_succ]
      refine wpAnyH_take (i := 5) (v := ?_) rfl (by kernel_rfl) (by kernel_rfl) (by kernel_rfl) (fun _ _ _ h => h) (Or.inl ⟨by rfl, ?_⟩) hHeld ?_
      rotate_left
      · (intro w hSw; (try dsimp only at hSw); go_simp; try with_reducible rfl)
      simp only [List.getElem_toArray, List.getElem_cons_zero, List.getElem_cons_succ, Act.put, List.setIfInBounds_toArray, List.set_cons_zero, List.set_cons_succ]
      refine wpAnyH_take (i := 6) (v := ?_) rfl (by kernel_rfl) (by kernel_rfl) (by kernel_rfl) (fun _ _ _ h => h) (Or.inl ⟨by rfl, ?_⟩) hHeld ?_
      rotate_left
      · (intro w hSw; (try dsimp only at hSw); go_simp; try with_reducible rfl)
      simp only [List.getElem_toArray, List.getElem_cons_zero, List.getElem_cons_succ, Act.put, List.setIfInBounds_toArray, List.set_cons_zero, List.set_cons_succ]
      refine wpAnyH_take (i := 7) (v := ?_) rfl (by kernel_rfl) (by kernel_rfl) (by kernel_rfl) (fun _ _ _ h => h) (Or.inl ⟨by rfl, ?_⟩) hHeld ?_
      rotate_left
      · (intro w hSw; (try dsimp only at hSw); go_simp; try with_reducible rfl)
      simp only [List.getElem_toArray, List.getElem_cons_zero, List.getElem_cons_succ, Act.put, List.setIfInBounds_toArray, List.set_cons_zero, List.set_cons_succ]
      refine wpAnyH_take (i := 8) (v := ?_) rfl (by kernel_rfl) (by kernel_rfl) (by kernel_rfl) (fun _ _ _ h => h) (Or.inl ⟨by rfl, ?_⟩) hHeld ?_
      rotate_left
      · (intro w hSw; (try dsimp only at hSw); go_simp; try with_reducible rfl)
      simp only [List.getElem_toArray, List.getElem_cons_zero, List.getElem_cons_succ, Act.put, List.setIfInBounds_toArray, List.set_cons_zero, List.set_cons_succ]
      have Hd4 := Hd1
      have Hd5 := Hd2
      have hst4 := hst3
      have hz4 : wd.heap.size ≤ wd.heap.size := Nat.le_refl _
      refine wpAnyH_ready (rs := [9]) (by kernel_rfl) (by simp) ?_
      refine AllReadyH.cons rfl (fun K hK => ?_) AllReadyH.nil
      rw [if_pos (by rfl)]
      simp only [List.getElem_toArray, List.getElem_cons_succ, List.getElem_cons_zero]
      refine wp_appendStrK (B := b + 1) (E := (· = b)) (.tmp 45) (.tmp 49) (by rfl) (by rfl) Hd5.out (fun x hx => by have hx : x = b := hx; omega) (p) (by rfl) (by rw [HL.out]; omega) (by omega) (fun v' w5 hown hst5 hne => ?_)
      obtain ⟨va', vc', hvf⟩ := hown.form
      obtain ⟨L', hL'⟩ : ∃ L', (Ld ++ p).length = L' := ⟨_, rfl⟩
      rw [hL'] at hvf
      clear hL'
      subst hvf
      have hvb : Value.ownBlock (.slice va L vc) ≠ some b := fun e => Hd5.out.notE _ e rfl
      have Hb5 := Lib.hid ((hst5.block b ⟨by omega, hvb⟩).trans Hd4.out)
      have hst6 := Lib.hid (hst4.out.trans (hst5.imp (S' := S) (fun x hx => ⟨by have := (Hd3.out x hx).1; omega, (Hd3.out x hx).2.2⟩)))
      have Hd8 : Hid (∀ x, S x → x < w5.heap.size ∧ x ≠ b ∧ Value.ownBlock (.slice va' L' vc') ≠ some x) := Lib.hid (fun x hx => by
        obtain ⟨a1, a2, a3⟩ := Hd3.out x hx
        exact ⟨by have := hst5.size; omega, a2, hne x (by omega) a3⟩)
      have Hown := Lib.hid hown
      refine hK.out _ _ (⟨(Lib.cell_of_heap Hb5.out 0).trans rfl, (hst5.cell (p := ⟨ub, uoff + k, none⟩) (by have := Hd3.out ub huS; exact ⟨by show ub < _; omega, this.2.2⟩)).trans hHeld.2⟩) (fun hHeld => ?_)
      clear hK K
      try simp only [Act.put, List.setIfInBounds_toArray, List.set_cons_zero, List.set_cons_succ]
      refine wpAnyH_done (by kernel_rfl) ?_ _
      simp only [phaseQ]
      have hc5 : w5.cell? ⟨b, 0, none⟩ = some (.slice va L vc) := by rw [Lib.cell_of_heap Hb5.out]; rfl
      have fx5 : w5.frozen? ⟨b, 0, none⟩ = false := Lib.frozen_of_heap Hb5.out 0
      have hz5 : b < w5.heap.size := by have := hst5.size; omega
      have Hfin := Lib.hid (WJ.put Hb5.out Hown.out Hd8.out)
      have Hstf : Hid (Step S w (w5.setCell ⟨b, 0, none⟩ (.slice va' L' vc'))) := Lib.hid (hst6.out.setCell (p := ⟨b, 0, none⟩) (fun hS => (Hd8.out b hS).2.1 rfl) _)
      clear hHeld hown hst5 hne hc0 fx Hd1 Hd2 Hd3 Hd4 Hd5 hst3 hst4 hvb Hv1 Hv2 Hv3
      go_wp2
      go_roundw
      case rel =>
        refine ⟨k + 1, by go_num, by omega, ?_, Hstf.out⟩
        have h := Hfin.out
        rw [← hLd, List.append_assoc, List.append_assoc, ← Htt.out] at h
        exact h
      case measure => simp [intOf]; omega
    · have Hall : Hid (ss.take k = ss) := Lib.hid (List.take_of_length_le (by omega))
      rw [Hall.out] at hw
      have Hw2 := Lib.hid hw
      clear hw hst
      go_wp2
      go_end0
      exact ⟨rfl, Hw2.out, Hst.out⟩
theorem xtext_built (b : Nat) (S : Nat → Prop) (w : World) (l : List UInt8) (ss : List (List UInt8)) (h : WJ b S w l) (hf : ∀ s ∈ ss, s.length ≤ 4096) (hlen : l.length + 4098 * ss.length ≤ 1000000000) :
    Calls Try.prog 40 #[.pointer (some ⟨b, 0, none⟩), .slice (some ⟨w.heap.size, 0, none⟩) ss.length ss.length] (w.alloc (.cells (ss.map (fun s => Value.string ⟨s.toArray⟩)).toArray 9 (0, 0))) fun e w' => e = .returned (.tuple #[]) ∧ WJ b S w' (l ++ textsL ss) ∧ Step S w w' := by
  refine (xtext_any b (fun x => S x ∨ x = w.heap.size) _ l ss _ (h.alloc _) ((built_strs w ss (by omega) (fun s hs => by have := hf s hs; omega)).imp (fun x hx => Or.inr hx)) hf hlen).mono ?_
  rintro e w' ⟨he, hw, hs'⟩
  exact ⟨he, hw.less (fun x hx => Or.inl hx), (Step.later ((Below.refl _ w).alloc (Nat.le_refl _) _) (fun x hx => h.inS hx)).trans (hs'.imp (fun x hx => Or.inl hx))⟩

set_option maxHeartbeats 8000000 in
set_option maxRecDepth 100000 in
theorem xblock_any (b : Nat) (S : Nat → Prop) (w : World) (l m : List UInt8) (u : Value) (h : WJ b S w l) (hu : LB kByte S w u m) (hm : m.length ≤ 1048576) (hlen : l.length + 4 + m.length ≤ 1000000000) :
    Calls Try.prog 42 #[.pointer (some ⟨b, 0, none⟩), u] w fun e w' => e = .returned (.tuple #[]) ∧ WJ b S w' (l ++ blockL m) ∧ Step S w w' := by
  obtain ⟨ua, uc, rfl⟩ := hu.form
  have hng : ¬ 1048576 < m.length := by omega
  have HU := Lib.hid hu
  have HDg := Lib.hid (fun w n => xdigits_any w 4 n (by decide))
  have hdl := digitsL_len 4 (m.length : Int)
  have hc1 := h.sound
  have hbr := h.lt
  have Hst : Hid (Step S w w) := Lib.hid (Step.refl _ _)
  obtain ⟨v, hv1, hv2, hv3⟩ := h.ex
  have Hv1 := Lib.hid hv1
  have Hv2 := Lib.hid hv2
  have Hv3 := Lib.hid hv3
  have hc0 : w.cell? ⟨b, 0, none⟩ = some v := by rw [Lib.cell_of_heap hv1]; rfl
  obtain ⟨va, vc, hvf⟩ := hv2.form
  obtain ⟨L, hL⟩ : ∃ L, (l).length = L := ⟨_, rfl⟩
  have HL := Lib.hid hL
  rw [hL] at hvf
  subst hvf
  have hLb : L ≤ 1000000000 - 4 - m.length := by rw [← hL]; omega
  have hL4 : (l ++ digitsL 4 (m.length : Int)).length + m.length ≤ 1000000000 := by rw [List.length_append, hL, hdl]; omega
  clear h hu hv1 hv2 hv3 hL
  go_enter Try.func42, Try.ntmps42
  go_wp2_with fail
  clear hc1
  have fx : w.frozen? ⟨b, 0, none⟩ = false := Lib.frozen_of_heap Hv1.out 0
  refine wp_region_phase 9 (by kernel_rfl) (by kernel_rfl) ?_
  simp only [List.take_succ_cons, List.take_zero, List.drop_succ_cons, List.drop_zero, List.take_nil, List.drop_nil]
  refine wpAny_of_held (S := fun w' => w'.cell? ⟨b, 0, none⟩ = some (.slice va L vc)) _ _ _ _ ?_
  have hHeld : (fun w' : World => w'.cell? ⟨b, 0, none⟩ = some (.slice va L vc)) w.drew := hc0
  show wpAnyH _ _ _ _ _ _ _ _ (World.drew _)
  have Hd2 := Lib.hid Hv2.out.drew
  have Hd1 : Hid (w.drew.heap[b]? = _) := Lib.hid Hv1.out
  have Hd3 : Hid (∀ x, S x → x < w.drew.heap.size ∧ x ≠ b ∧ Value.ownBlock (.slice va L vc) ≠ some x) := Lib.hid Hv3.out
  have hst3 := Lib.hid Hst.out.drew
  have hbd : b < w.drew.heap.size := hbr
  generalize w.drew = wd at *
  refine wpAnyH_take (i := 0) (v := ?_) rfl (by kernel_rfl) (by kernel_rfl) (by kernel_rfl) (fun _ _ _ h => h) (Or.inl ⟨by rfl, ?_⟩) hHeld ?_
  rotate_left
  · (intro w hSw; (try dsimp only at hSw); go_simp; try with_reducible rfl)
  simp only [List.getElem_toArray, List.getElem_cons_zero, List.getElem_cons_succ, Act.put, List.setIfInBounds_toArray, List.set_cons_zero, List.set_cons_succ]
  refine wpAnyH_take (i := 1) (v := ?_) rfl (by kernel_rfl) (by kernel_rfl) (by kernel_rfl) (fun _ _ _ h => h) (Or.inl ⟨by rfl, ?_⟩) hHeld ?_
  rotate_left
  · (intro w hSw; (try dsimp only at hSw); go_simp; try with_reducible rfl)
  simp only [List.getElem_toArray, List.getElem_cons_zero, List.getElem_cons_succ, Act.put, List.setIfInBounds_toArray, List.set_cons_zero, List.set_cons_succ]
  refine wpAnyH_take (i := 2) (v := ?_) rfl (by kernel_rfl) (by kernel_rfl) (by kernel_rfl) (fun _ _ _ h => h) (Or.inl ⟨by rfl, ?_⟩) hHeld ?_
  rotate_left
  · (intro w hSw; (try dsimp only at hSw); go_simp; try with_reducible rfl)
  simp only [List.getElem_toArray, List.getElem_cons_zero, List.getElem_cons_succ, Act.put, List.setIfInBounds_toArray, List.set_cons_zero, List.set_cons_succ]
  refine wpAnyH_take (i := 3) (v := ?_) rfl (by kernel_rfl) (by kernel_rfl) (by kernel_rfl) (fun _ _ _ h => h) (Or.inl ⟨by rfl, ?_⟩) hHeld ?_
  rotate_left
  · (intro w hSw; (try dsimp only at hSw); go_simp; try with_reducible rfl)
  simp only [List.getElem_toArray, List.getElem_cons_zero, List.getElem_cons_succ, Act.put, List.setIfInBounds_toArray, List.set_cons_zero, List.set_cons_succ]
  refine wpAnyH_take (i := 4) (v := ?_) rfl (by kernel_rfl) (by kernel_rfl) (by kernel_rfl) (fun _ _ _ h => h) (Or.inl ⟨by rfl, ?_⟩) hHeld ?_
  rotate_left
  · (intro w hSw; (try dsimp only at hSw); go_simp; try with_reducible rfl)
  simp only [List.getElem_toArray, List.getElem_cons_zero, List.getElem_cons_succ, Act.put, List.setIfInBounds_toArray, List.set_cons_zero, List.set_cons_succ]
  refine wpAnyH_take (i := 5) (v := ?_) rfl (by kernel_rfl) (by kernel_rfl) (by kernel_rfl) (fun _ _ _ h => h) (Or.inl ⟨by rfl, ?_⟩) hHeld ?_
  rotate_left
  · (intro w hSw; (try dsimp only at hSw); go_simp; try with_reducible rfl)
  simp only [List.getElem_toArray, List.getElem_cons_zero, List.getElem_cons_succ, Act.put, List.setIfInBounds_toArray, List.set_cons_zero, List.set_cons_succ]
  refine wpAnyH_take (i := 6) (v := ?_) rfl (by kernel_rfl) (by kernel_rfl) (by kernel_rfl) (fun _ _ _ h => h) (Or.inl ⟨by rfl, ?_⟩) hHeld ?_
  rotate_left
  · (intro w hSw; (try dsimp only at hSw); go_simp; try with_reducible rfl)
  simp only [List.getElem_toArray, List.getElem_cons_zero, List.getElem_cons_succ, Act.put, List.setIfInBounds_toArray, List.set_cons_zero, List.set_cons_succ]
  refine wpAnyH_ready (rs := [7]) (by kernel_rfl) (by simp) ?_
  refine AllReadyH.cons rfl (fun K hK => ?_) AllReadyH.nil
  go_simp
  refine (HDg.out _ (m.length : Int)).mono ?_
  rintro e w4 ⟨r, rfl, hro, hb4⟩
  obtain ⟨ra, rc, rfl⟩ := hro.form
  have Hro := Lib.hid hro
  have Hd4 := Lib.hid ((hb4.block b hbd).trans Hd1.out)
  have Hd5 := Lib.hid (Hd2.out.below hb4)
  have hst4 := Lib.hid (hst3.out.trans (Step.later hb4 (fun x hx => (Hd3.out x hx).1)))
  have hz4 := hb4.size
  refine hK.out _ _ ((Lib.cell_of_heap Hd4.out 0).trans rfl) (fun hHeld => ?_)
  clear hK K hro hb4
  try simp only [Act.put, List.setIfInBounds_toArray, List.set_cons_zero, List.set_cons_succ]
  refine wpAnyH_ready (rs := [8]) (by kernel_rfl) (by simp) ?_
  refine AllReadyH.cons rfl (fun K hK => ?_) AllReadyH.nil
  rw [if_pos (by rfl)]
  simp only [List.getElem_toArray, List.getElem_cons_succ, List.getElem_cons_zero]
  refine wp_appendsK (B := b + 1) (E := (· = b)) plain_byte 36 (.int .u8 0) 1 Try.underlying36 info_byte rfl (.tmp 19) (.tmp 22) (by rfl) (by rfl) Hd5.out (fun x hx => by have hx : x = b := hx; omega) _ (digitsL 4 (m.length : Int)) (by rfl) Hro.out.lb (by rw [HL.out, hdl]; omega) (by rw [HL.out, hdl]; omega) (by omega) (fun v' w5 hown hst5 hne => ?_)
  obtain ⟨va', vc', hvf⟩ := hown.form
  obtain ⟨L', hL'⟩ : ∃ L', (l ++ digitsL 4 (m.length : Int)).length = L' := ⟨_, rfl⟩
  rw [hL'] at hvf
  clear hL'
  subst hvf
  have hvb : Value.ownBlock (.slice va L vc) ≠ some b := fun e => Hd5.out.notE _ e rfl
  have Hb5 := Lib.hid ((hst5.block b ⟨by omega, hvb⟩).trans Hd4.out)
  have hst6 := Lib.hid (hst4.out.trans (hst5.imp (S' := S) (fun x hx => ⟨by have := (Hd3.out x hx).1; omega, (Hd3.out x hx).2.2⟩)))
  have Hd8 : Hid (∀ x, S x → x < w5.heap.size ∧ x ≠ b ∧ Value.ownBlock (.slice va' L' vc') ≠ some x) := Lib.hid (fun x hx => by
    obtain ⟨a1, a2, a3⟩ := Hd3.out x hx
    exact ⟨by have := hst5.size; omega, a2, hne x (by omega) a3⟩)
  have Hown := Lib.hid hown
  refine hK.out _ _ ((Lib.cell_of_heap Hb5.out 0).trans rfl) (fun hHeld => ?_)
  clear hK K
  try simp only [Act.put, List.setIfInBounds_toArray, List.set_cons_zero, List.set_cons_succ]
  refine wpAnyH_done (by kernel_rfl) ?_ _
  simp only [phaseQ]
  have hc5 : w5.cell? ⟨b, 0, none⟩ = some (.slice va L vc) := by rw [Lib.cell_of_heap Hb5.out]; rfl
  have fx5 : w5.frozen? ⟨b, 0, none⟩ = false := Lib.frozen_of_heap Hb5.out 0
  have hz5 : b < w5.heap.size := by have := hst5.size; omega
  have Hfin := Lib.hid (WJ.put Hb5.out Hown.out Hd8.out)
  have Hstf : Hid (Step S w (w5.setCell ⟨b, 0, none⟩ (.slice va' L' vc'))) := Lib.hid (hst6.out.setCell (p := ⟨b, 0, none⟩) (fun hS => (Hd8.out b hS).2.1 rfl) _)
  clear hHeld hown hst5 hne hc0 fx Hd1 Hd2 Hd3 Hd4 Hd5 hst3 hst4 hvb Hv1 Hv2 Hv3
  clear Hro
  go_upto_region 4 with fail
  clear hc5 fx5
  obtain ⟨w6, hw6⟩ : ∃ x, x = w5.setCell ⟨b, 0, none⟩ (.slice va' L' vc') := ⟨_, rfl⟩
  rw [← hw6] at Hfin Hstf ⊢
  clear hw6
  have hw := Hfin.out
  have Hst := Lib.hid Hstf.out
  have hbr := hw.lt
  clear HL Hfin Hstf Hown Hb5 Hd8 hst6
  generalize hLd : l ++ digitsL 4 (m.length : Int) = Ld at *
  obtain ⟨v, hv1, hv2, hv3⟩ := hw.ex
  have Hv1 := Lib.hid hv1
  have Hv2 := Lib.hid hv2
  have Hv3 := Lib.hid hv3
  have hc0 : w6.cell? ⟨b, 0, none⟩ = some v := by rw [Lib.cell_of_heap hv1]; rfl
  obtain ⟨va, vc, hvf⟩ := hv2.form
  obtain ⟨L, hL⟩ : ∃ L, (Ld).length = L := ⟨_, rfl⟩
  have HL := Lib.hid hL
  rw [hL] at hL4
  rw [hL] at hvf
  subst hvf
  have HU6 := Lib.hid (HU.out.step Hst.out)
  clear hw hv1 hv2 hv3
  go_wp2_with (at_builtin; refine wpList_appendsK (B := b + 1) (E := (· = b)) plain_byte 36 (.int .u8 0) 1 Try.underlying36 info_byte rfl rfl (.tmp 30) (.tmp 31) rfl rfl Hv2.out (fun x hx => by have hx : x = b := hx; omega) _ m rfl HU6.out ?c1 ?c2 (by omega) ?_)
  case c1 => omega
  case c2 => omega
  intro v' w4 hown hst hne
  obtain ⟨va', vc', hvf⟩ := hown.form
  obtain ⟨L', hL'⟩ : ∃ L', (Ld ++ m).length = L' := ⟨_, rfl⟩
  rw [hL'] at hvf
  clear hL'
  subst hvf
  have hvb : Value.ownBlock (.slice va L vc) ≠ some b := fun e => Hv2.out.notE _ e rfl
  have Hb4 := Lib.hid ((hst.block b ⟨hbr, hvb⟩).trans Hv1.out)
  have Hst7 := Lib.hid (Hst.out.trans (hst.imp (S' := S) (fun x hx => ⟨(Hv3.out x hx).1, (Hv3.out x hx).2.2⟩)))
  have Hd8 : Hid (∀ x, S x → x < w4.heap.size ∧ x ≠ b ∧ Value.ownBlock (.slice va' L' vc') ≠ some x) := Lib.hid (fun x hx => by
    obtain ⟨a1, a2, a3⟩ := Hv3.out x hx
    exact ⟨by have := hst.size; omega, a2, hne x a1 a3⟩)
  have Hown := Lib.hid hown
  have hc4 : w4.cell? ⟨b, 0, none⟩ = some (.slice va L vc) := by rw [Lib.cell_of_heap Hb4.out]; rfl
  have fx4 : w4.frozen? ⟨b, 0, none⟩ = false := Lib.frozen_of_heap Hb4.out 0
  have hz4 : b < w4.heap.size := by have := hst.size; omega
  clear hown hst hne hc0 hvb Hv2 Hv3 HU6
  go_wp2
  go_end0
  refine ⟨rfl, ?_, Hst7.out.setCell (p := ⟨b, 0, none⟩) (fun hS => (Hd8.out b hS).2.1 rfl) _⟩
  have h := WJ.put Hb4.out Hown.out Hd8.out
  rw [← hLd, List.append_assoc] at h
  exact h

set_option maxHeartbeats 8000000 in
set_option maxRecDepth 100000 in
theorem jcounted_any (b : Nat) (S : Nat → Prop) (w : World) (l : List UInt8) (ss : List (List UInt8)) (u : Value) (h : WJ b S w l) (hu : LB kStr S w u ss) (hf : ∀ s ∈ ss, s.length ≤ 4096) (hc : okLen 1 ss.length) (hlen : l.length + 1 + 4098 * ss.length ≤ 1000000000) :
    Calls Try.prog 43 #[.pointer (some ⟨b, 0, none⟩), u] w fun e w' => e = .returned (.tuple #[]) ∧ WJ b S w' (l ++ numsL 1 [(ss.length : Int)] ++ textsL ss) ∧ Step S w w' := by
  obtain ⟨ua, uc, rfl⟩ := hu.form
  have hum := hu.max
  have HU := Lib.hid hu
  have HN := Lib.hid (xnum_built b S w l 1 [(ss.length : Int)] h (by decide) (all1 (okLen_N (by decide) hc)) (by simp only [List.length_cons, List.length_nil]; omega) (by simp))
  have Hf := Lib.hid hf
  have hbl := h.lt
  clear h hu hf
  go_enter Try.func43, Try.ntmps43
  go_wp2_with fail
  refine HN.out.mono ?_
  rintro e w2 ⟨rfl, hw2, hs2⟩
  have Hs2 := Lib.hid hs2
  have hl4 := numsL_len 1 [(ss.length : Int)]
  simp only [List.length_cons, List.length_nil] at hl4
  have HT := Lib.hid (xtext_any b S w2 _ ss _ hw2 (HU.out.step hs2) Hf.out (by rw [List.length_append]; omega))
  clear hw2 hs2 HN
  go_wp2_with fail
  refine HT.out.mono ?_
  rintro e w3 ⟨rfl, hw3, hs3⟩
  have Hw3 := Lib.hid hw3
  have Hs3 := Lib.hid (Hs2.out.trans hs3)
  clear hw3 hs3 HT
  go_wp2
  go_end0
  exact ⟨rfl, Hw3.out, Hs3.out⟩

end Go.Proofs.Ytbliedldlimpgaa
