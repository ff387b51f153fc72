/- under: what stands in a directory, by its names, sorted -/
import Derived.Test.YtgoecmfjidcieaaDoorFK2
import Derived.Maps.RangeWalk
import Derived.Sort.OwnSorted
namespace Go.Proofs.YtgoecmfjidcieaaDoor
set_option linter.unusedVariables false
set_option linter.unusedSimpArgs false
open Go.RowKit

theorem ranges_below {H : Type} {P : Program} {k : TypeId} {R : Value → Option (DataW H × List MemPlace)} {w w' : World} {b r n B : Nat} {D : DataW H} {left : Lit → Bool} {cnt : Nat} (h : w.ranges P k R b r n D left cnt) (hb : Below B w w') (h1 : b < B) (h2 : r < B) :
    w'.ranges P k R b r n D left cnt := by
  obtain ⟨es, clock, since, seen, c0, hbb, F, hs, hD, hr, rest⟩ := h
  exact ⟨es, clock, since, seen, c0, (hb.block b h1).trans hbb, F, hs, hD, (hb.block r h2).trans hr, rest⟩
theorem strs_enc (xs : List (List UInt8)) : strs xs = xs.map encStr := rfl

theorem isUnder_yes {p q : List UInt8} (h1 : (q != [47]) = true) (h2 : (upL q == p) = true) : isUnder p q = true := by
  unfold isUnder; simp at h1 h2; simp [h1, h2]
theorem isUnder_no1 {p q : List UInt8} (h1 : q = [47]) : isUnder p q = false := by
  unfold isUnder; simp [h1]
theorem isUnder_no2 {p q : List UInt8} (h2 : (upL q == p) = false) : isUnder p q = false := by
  unfold isUnder; simp at h2; simp [h2]
theorem under_snoc_yes {p x : List UInt8} (ss : List (List UInt8)) (h : isUnder p x = true) : ((ss ++ [x]).filter (isUnder p)).map nameOf = (ss.filter (isUnder p)).map nameOf ++ [nameOf x] := by
  rw [List.filter_append, List.filter_cons_of_pos h]; simp
theorem under_snoc_no {p x : List UInt8} (ss : List (List UInt8)) (h : isUnder p x = false) : ((ss ++ [x]).filter (isUnder p)).map nameOf = (ss.filter (isUnder p)).map nameOf := by
  rw [List.filter_append, List.filter_cons_of_neg (by simp [h])]; simp
theorem under_count (p : List UInt8) (ss : List (List UInt8)) : ((ss.filter (isUnder p)).map nameOf).length ≤ ss.length := by
  rw [List.length_map]; exact List.length_filter_le _ _

set_option maxHeartbeats 8000000 in
set_option maxRecDepth 100000 in
theorem funder_any (w : World) (s b : Nat) (st : StL) (p : List UInt8) (hM : SM s b w st) (hok : OkA st) :
    Calls Tryd.prog 40 #[.pointer (some ⟨s, 0, none⟩), .string ⟨p.toArray⟩] w fun e w' => ∃ v l, e = .returned v ∧ OwnS w.heap.size w' v l ∧ UnderIs st p l ∧ l.length ≤ 501 ∧ Below w.heap.size w w' := by
  obtain ⟨D, hown0, hrep⟩ := hM.map
  have hsize := hrep.size
  have hcount := hok.st.count
  have hble := hown0.lt
  have s0 := hM.cell0
  have Hkey : Hid (∀ x, Maps.has D (.string x) = true → x ≠ [] ∧ x.length ≤ 3000) := Lib.hid (fun x hx => hok.k.key x (by rw [← hrep.has]; exact hx))
  have Hrep := Lib.hid hrep
  clear hM hok hrep
  go_enter Tryd.func40, Tryd.ntmps40
  go_wp2_with (at_range; refine wpList_range_own _ rfl _ 64 rfl 9 58 kString Tryd.underlying64 _ b st.count _ rfl hown0 ?_; intro w0 hrg0 hg0 hs0)
  have hb0 := (Below.refl w.heap.size w).grown hg0 (Nat.le_refl _) (fun j hj => by cases hj)
  have Hb0 := Lib.hid hb0
  have Hrg0 := Lib.hid hrg0
  have Hs0 := Lib.hid (show w.heap.size + 1 ≤ w0.heap.size by omega)
  have Hown0 := Lib.hid hown0
  clear hs0 hg0 hb0 hrg0 s0 hown0
  go_frame
  go_loopw [5] (fun v wr => ∃ (left : Lit → Bool) (cnt : Nat) (ss : List (List UInt8)), wr.ranges Tryd.prog 9 nodeR b w.heap.size st.count D left cnt ∧ ss.length + cnt ≤ Maps.size D ∧
      OwnS (w.heap.size + 1) wr v ((ss.filter (isUnder p)).map nameOf) ∧ Collected D left ss ∧ Below w.heap.size w wr ∧ w.heap.size + 1 ≤ wr.heap.size)
    (fun _ wr => wr.rangeLeft b w.heap.size)
  case atStart => exact ⟨_, _, [], Hrg0.out, by simp, OwnS.nil _ _, Collected.start D, Hb0.out, Hs0.out⟩
  case round =>
    clear Hb0 Hrg0 Hs0
    obtain ⟨left, cnt, ss, hrg, hcs, hown, hC, hbel, hsz⟩ := hrel
    have hul := under_count p ss
    have HC := Lib.hid hC
    have Hbel := Lib.hid hbel
    have Hrg := Lib.hid hrg
    obtain ⟨fa, fc, hform⟩ := hown.form
    obtain ⟨us, hus⟩ : ∃ us, us = (ss.filter (isUnder p)).map nameOf := ⟨_, rfl⟩
    obtain ⟨un, hun⟩ : ∃ un, un = us.length := ⟨_, rfl⟩
    rw [← hus, ← hun] at hform
    rw [← hus, ← hun] at hul
    rw [← hus] at hown
    subst hform
    have Hown := Lib.hid hown
    have Hus := Lib.hid hus
    have Hun := Lib.hid hun
    clear hown hC hbel hrg hus hun
    go_wp2_with (at_next; refine wpList_next_ranges _ rfl _ rfl 9 kString nodeR encStr (fun n : NodeL => .agg #[.int .i64 n.kind, .int .i64 n.id, .string ⟨n.bytes.toArray⟩, .string ⟨n.dest.toArray⟩]) (fun key kl hk => by obtain ⟨x, hx, _⟩ := Maps.keyOf_str Tryd.underlying9 hk; exact ⟨x, hx⟩) (fun v y hv => by obtain ⟨n, rfl, _⟩ := nodeR_inv hv; exact ⟨n, rfl⟩) b w.heap.size st.count _ _ _ rfl Hrg.out ?_ ?_)
    · intro hc0 hl0
      have hperm := HC.out.perm Hown0.out kString Tryd.underlying9 hl0
      have hUnd : Hid (UnderIs st p (((ss.filter (isUnder p)).map nameOf).mergeSort leB)) := Lib.hid ⟨ss, HC.out.1, fun q => by rw [HC.out.2 q, hl0, ← Hrep.out.has]; simp, rfl⟩
      rw [← Hus.out] at hUnd
      clear hl0 hperm
      by_cases h0 : un = 0
      · have hus0 : us = [] := List.eq_nil_of_length_eq_zero (Hun.out.symm.trans h0)
        have HSo := Lib.hid (Tryd.slices_Sort_string_none fa fc wr)
        clear Hus Hun
        subst hus0
        subst h0
        go_wp2_with fail
        refine HSo.out.mono ?_
        rintro e w' ⟨rfl, rfl⟩
        go_wp2
        go_ret
        exact ⟨_, _, rfl, (by simpa using Hown.out.mono (Nat.le_succ _)), hUnd.out, by simp, Hbel.out⟩
      · obtain ⟨hfst, hh⟩ := Hown.out
        rcases hh with ⟨hnil, hz⟩ | ⟨g, cap, cur, hv, hbase, hb, h1, h2, h3, h4⟩
        · exact absurd (Hun.out.trans hz) h0
        rw [strs_enc] at h4
        have hfa : fa = some ⟨g, 0, none⟩ ∧ fc = cap := by
          simp only [Value.slice.injEq] at hv; exact ⟨hv.1, hv.2.2⟩
        obtain ⟨rfl, rfl⟩ := hfa
        have HSo0 := Tryd.slices_Sort_string g 0 fc us wr (holds_of_block hb (by simpa using h4)) (Array.getElem?_eq_some_iff.1 hb).1 (by rw [← Hun.out]; omega)
        rw [← Hun.out] at HSo0
        have HSo := Lib.hid HSo0
        have HR := Lib.hid (fun n os => ownsRow_sorted (w := wr) (n := n) (os := os) (ts := us.mergeSort leB) (ss := us) (by simp) hbase hb h1 h2 (by simpa using h3))
        clear hfst hv hb h1 h2 h3 h4 HSo0
        go_wp2_with fail
        refine HSo.out.mono ?_
        rintro e w' ⟨rfl, nn, os, rfl⟩
        go_wp2
        go_ret
        refine ⟨_, _, rfl, OwnS.mono (B := w.heap.size + 1) ?_ (Nat.le_succ _), hUnd.out, by rw [List.length_mergeSort, ← Hun.out]; omega, Hbel.out.grown (grownBy_sorted _) (by omega) (fun j hj => by cases hj; omega)⟩
        unfold OwnS
        rw [List.length_mergeSort, Hun.out]
        exact HR.out nn os
    · intro x c kl yd yp w2 cnt2 hkey hlk hv hat hrg2 hlt hg2 hs2 hen
      obtain ⟨x', ex, rfl, _⟩ := Maps.keyOf_str Tryd.underlying9 hkey
      obtain rfl : x = x' := encStr_inj ex
      have hhas : Maps.has D (.string x) = true := Maps.has_true_of_atKey hat
      obtain ⟨hx0, hxl⟩ := Hkey.out x hhas
      have Hown2 := Lib.hid (show OwnS (w.heap.size + 1) w2 (.slice fa un fc) us from Hown.out.kept hg2 (Or.inr (fun e => by have := (Hown.out.lt _ e).1; omega)))
      have HC2 := Lib.hid (HC.out.step hlk hat)
      have Hbel2 := Lib.hid (Hbel.out.grown hg2 (by omega) (fun j hj => by cases hj; exact Nat.le_refl _))
      have hsz2 : w.heap.size + 1 ≤ w2.heap.size := by have := hg2.size; omega
      have Hrg2 := Lib.hid hrg2
      have hm : Hid (w2.rangeLeft b w.heap.size < wr.rangeLeft b w.heap.size) := Lib.hid (by rw [hrg2.left_eq, Hrg.out.left_eq]; exact hlt)
      have hen2 : (Instr.entry (.pointer (some ⟨w.heap.size, 0, none⟩))).run Tryd.prog w2 = .ok (.tuple #[.string ⟨x.toArray⟩, .agg #[.int .i64 c.kind, .int .i64 c.id, .string ⟨c.bytes.toArray⟩, .string ⟨c.dest.toArray⟩]]) w2 := hen
      clear hs2 hg2 hkey hlk hv hat hrg2 hen ex hhas Hown HC Hbel Hrg
      have hsx := size_mk' x
      by_cases h47 : x = [47]
      · have Hno := Lib.hid (under_snoc_no ss (isUnder_no1 (p := p) h47))
        subst h47
        go_wp2
        go_roundw
        case rel => exact ⟨_, cnt2, ss ++ [[47]], Hrg2.out, by simp; omega, by rw [Hno.out, ← Hus.out]; exact Hown2.out, HC2.out, Hbel2.out, hsz2⟩
        case measure => exact hm.out
      · have hn47 : (x != [47]) = true := by simp [h47]
        have hn47b : (x == [47]) = false := by simp [h47]
        have HU := Lib.hid (fun w => up_any w x hx0 (by omega))
        cases hup : (upL x == p) with
        | false =>
          have Hno := Lib.hid (under_snoc_no ss (isUnder_no2 (p := p) hup))
          clear h47
          generalize upL x = ux at *
          go_wp2_with fail
          refine (HU.out _).mono ?_
          rintro e w3 ⟨rfl, rfl⟩
          go_wp2
          go_roundw
          case rel => exact ⟨_, cnt2, ss ++ [x], Hrg2.out, by simp; omega, by rw [Hno.out, ← Hus.out]; exact Hown2.out, HC2.out, Hbel2.out, hsz2⟩
          case measure => exact hm.out
        | true =>
          have Hyes := Lib.hid (under_snoc_yes ss (isUnder_yes (p := p) hn47 hup))
          obtain ⟨hls1, hls2⟩ := lastSlash_le x
          have HL := Lib.hid (fun w => Tryd.strings_LastIndexByte ⟨x.toArray⟩ 47 (by rw [hsx]; omega) w)
          have e1 : Lib.lastIndexByte ⟨x.toArray⟩ 47 = lastSlash x := rfl
          rw [e1] at HL
          have hsl : (Instr.slice 9 (.string ⟨x.toArray⟩) (some (.int .i64 (lastSlash x + 1))) none none).run Tryd.prog w2 = .ok (.string ⟨(nameOf x).toArray⟩) w2 := by
            obtain ⟨k, hk⟩ : ∃ k : Nat, lastSlash x + 1 = k := ⟨(lastSlash x + 1).toNat, by omega⟩
            rw [hk, show nameOf x = x.drop k by rw [nameOf, hk]; rfl]
            rw [run_slice_string_l (P := Tryd.prog) w2 9 ⟨x.toArray⟩ Tryd.underlying9 .i64 k (by omega) (by rw [hsx]; omega), Lib.extract_eq]
            simp [hsx]
            exact List.take_of_length_le (by simp)
          clear h47 e1
          generalize upL x = ux at *
          generalize lastSlash x = ls at *
          generalize nameOf x = nx at *
          go_wp2_with fail
          refine (HU.out _).mono ?_
          rintro e w3 ⟨rfl, rfl⟩
          go_wp2_with fail
          refine (HL.out _).mono ?_
          rintro e w3 ⟨rfl, rfl⟩
          go_wp2_with (at_builtin; refine wpList_appendStr _ rfl (.tmp 24) (.tmp 30) rfl (w.heap.size + 1) _ _ rfl (Hown2.out.alloc _) w3.heap.size nx rfl ?c1 (by rw [← Hun.out]; omega) ?c2 ?_)
          case c1 => rw [Lib.cell_of_heap (heap_alloc_new _ _)]; rfl
          case c2 => first | omega | (simp; omega)
          intro v' w4 hown' hbel'
          have Hown' := Lib.hid hown'
          have Hrg4 := Lib.hid (ranges_below (Hrg2.out.alloc _) hbel' (by omega) (by omega))
          have hm4 : Hid (w4.rangeLeft b w.heap.size < wr.rangeLeft b w.heap.size) := Lib.hid (by rw [Hrg4.out.left_eq, ← Hrg2.out.left_eq]; exact hm.out)
          have Hbel4 := Lib.hid ((Hbel2.out.alloc (by omega) _).trans (hbel'.mono (Nat.le_succ _)))
          have hsz4 : Hid (w.heap.size + 1 ≤ w4.heap.size) := Lib.hid (by have := hbel'.size; simp at this; omega)
          clear hown' hbel' hsl
          go_wp2
          go_roundw
          case rel => exact ⟨_, cnt2, ss ++ [x], Hrg4.out, by simp; omega, by rw [Hyes.out, ← Hus.out]; exact Hown'.out, HC2.out, Hbel4.out, hsz4.out⟩
          case measure => exact hm4.out

end Go.Proofs.YtgoecmfjidcieaaDoor
