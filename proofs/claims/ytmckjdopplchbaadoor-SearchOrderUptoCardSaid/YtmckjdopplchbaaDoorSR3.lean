/- Lemmas that the claim is proved from: what calls of functions of the program come to (contracts), and plain laws. Each lemma bears its own conditions. -/
import Derived.Test.YtmckjdopplchbaaDoorSR2
import Derived.Maps.AppendAt
namespace Go.Proofs.YtmckjdopplchbaaDoor
set_option linter.unusedVariables false
set_option linter.unusedSimpArgs false
open Go.RowKit

/-- append of one text to a slice that the call has made; where the new one lies -/
theorem wpList_appendStrAt (w : World) {ops : Array Oper} {rest : List Oper} {o : Oper} {a : Act} {Q : Exit → Act → World → Prop} (hgd : o.guard = none) (s x : Operand)
    (ho : o.op = .call { callee := .builtin .append, args := #[s, x], argTypes := #[29, 29] })
    (B : Nat) (v : Value) (xs : List (List UInt8)) (hs : a.eval s = v) (hown : OwnS B w v xs) (nb : Nat) (c : List UInt8) (hx : a.eval x = .slice (some ⟨nb, 0, none⟩) 1 1) (hcell : w.cell? ⟨nb, 0, none⟩ = some (.string ⟨c.toArray⟩))
    (hlen : xs.length ≤ 1099511627776) (hB : B ≤ w.heap.size)
    (h : ∀ v' w', OwnS B w' v' (xs ++ [c]) → Below B w w' → w.grownBy w' v.ownBlock → (v'.ownBlock = v.ownBlock ∨ v'.ownBlock = some w.heap.size) → wpList Tryd.prog ops Q rest (a.put o.dst v') w') : wpList Tryd.prog ops Q (o :: rest) a w := by
  obtain ⟨i0, hi, hz0, hz1, hz2⟩ := info_parts info_string
  have hlt := World.ownsRow.lt hown
  refine wpList_append_own_at w hgd s x 29 ho B 9 i0 (.string ⟨#[]⟩) 1 16 Tryd.underlying29 hi hz0 hz1 hz2 rfl (by decide) v xs.length (Go.Proofs.YtmckjdopplchbaaDoor.strs xs) hs hown ⟨nb, 0, none⟩ 1 1 [.string ⟨c.toArray⟩] hx rfl ?_ ?_ ?_ ?_ hB ?_
  · intro j u hj
    match j, hj with
    | 0, hj => simp at hj; subst hj; simpa [Addr.add_lit] using hcell
    | j + 1, hj => simp at hj
  · intro u hu; simp at hu; subst hu; rfl
  · unfold maxLen; omega
  · omega
  · intro v' w' h1 h2 _ h4
    refine h v' w' ?_ ((Below.refl B w).grown h2 hB fun k hk => (hlt k hk).1) h2 h4
    simpa [OwnS, Go.Proofs.YtmckjdopplchbaaDoor.strs] using h1

/-- the closure's variable: one cell in block ob, a slice of texts that the call has made behind it, not in block b -/
def OutAt (ob b : Nat) (w : World) (xs : List (List UInt8)) : Prop := ∃ x, w.heap[ob]? = some (.cells #[x] 29 (0, 0)) ∧ OwnS (ob + 1) w x xs ∧ x.ownBlock ≠ some b
/-- .. wherever -/
def OutIs (ob : Nat) (w : World) (xs : List (List UInt8)) : Prop := ∃ x, w.heap[ob]? = some (.cells #[x] 29 (0, 0)) ∧ OwnS (ob + 1) w x xs
theorem OutAt.out {ob b : Nat} {w : World} {xs : List (List UInt8)} (h : OutAt ob b w xs) : OutIs ob w xs := ⟨h.choose, h.choose_spec.1, h.choose_spec.2.1⟩
theorem OutIs.lt {ob : Nat} {w : World} {xs : List (List UInt8)} (h : OutIs ob w xs) : ob < w.heap.size := by
  obtain ⟨x, h1, _⟩ := h
  rcases Nat.lt_or_ge ob w.heap.size with h' | h'
  · exact h'
  · simp [Array.getElem?_eq_none h'] at h1
theorem OutIs.at {ob b : Nat} {w : World} {xs : List (List UInt8)} (h : OutIs ob w xs) (hb : b ≤ ob ∨ w.heap.size ≤ b) : OutAt ob b w xs := by
  obtain ⟨x, h1, h2⟩ := h
  refine ⟨x, h1, h2, fun e => ?_⟩
  have := h2.lt _ e
  omega
theorem OutIs.below {ob : Nat} {w w' : World} {xs : List (List UInt8)} (h : OutIs ob w xs) (hb : Below w.heap.size w w') : OutIs ob w' xs := by
  have hlt := h.lt
  obtain ⟨x, h1, h2⟩ := h
  exact ⟨x, by rw [hb.block ob hlt]; exact h1, h2.below hb⟩
theorem OutAt.below {ob b : Nat} {w w' : World} {xs : List (List UInt8)} (h : OutAt ob b w xs) (hb : Below w.heap.size w w') : OutAt ob b w' xs := by
  have hlt := h.out.lt
  obtain ⟨x, h1, h2, h3⟩ := h
  exact ⟨x, by rw [hb.block ob hlt]; exact h1, h2.below hb, h3⟩
theorem OutAt.stored {ob b : Nat} {w : World} {x u : Value} {xs : List (List UInt8)} (h1 : w.heap[ob]? = some (.cells #[x] 29 (0, 0))) (hu : OwnS (ob + 1) w u xs) (hn : u.ownBlock ≠ some b) : OutAt ob b (w.setCell ⟨ob, 0, none⟩ u) xs :=
  ⟨u, by simp [World.setCell, Array.getElem?_modify, h1], ownsRow_setCell_below hu (show ob < ob + 1 by omega) u, hn⟩
/-- v is a slice of texts in block b -/
def StrsIn (b : Nat) (w : World) (v : Value) (xs : List (List UInt8)) : Prop :=
  ∃ (a : Option Addr) (off cap : Nat), v = .slice a xs.length cap ∧ xs.length ≤ 9223372036854775807 ∧ (0 < xs.length → a = some ⟨b, off, none⟩) ∧ b < w.heap.size ∧
    ∀ i, i < xs.length → w.cell? ⟨b, off + i, none⟩ = some (.string ⟨(snth xs i).toArray⟩)
theorem StrsB.in {B : Nat} {w : World} {v : Value} {xs : List (List UInt8)} (h : StrsB B w v xs) (h0 : 0 < B) (hB : B ≤ w.heap.size) : ∃ b, b < B ∧ StrsIn b w v xs := by
  obtain ⟨a, b, off, cap, hv, hm, ha, _, hlt, hc⟩ := h
  rcases Nat.eq_zero_or_pos xs.length with h | h
  · exact ⟨0, h0, a, 0, cap, hv, hm, fun h' => by omega, by omega, fun i hi => by omega⟩
  · exact ⟨b, hlt h, a, off, cap, hv, hm, ha, Nat.lt_of_lt_of_le (hlt h) hB, hc⟩

set_option maxHeartbeats 4000000 in
set_option maxRecDepth 100000 in
theorem dirs_in (m : Int) (ob g1 g2 b : Nat) (w : World) (dv : Value) (xs ds : List (List UInt8)) (name o : List UInt8) (hm : w.cell? ⟨0, 0, none⟩ = some (.int .i64 m)) (h0 : 0 < ob) (h1 : w.cell? ⟨g1, 0, none⟩ = some (.string ⟨o.toArray⟩)) (h2 : w.cell? ⟨g2, 0, none⟩ = some (.string ⟨name.toArray⟩))
    (hg1 : g1 < ob) (hg2 : g2 < ob) (ho' : OutAt ob b w xs) (hd : StrsIn b w dv ds) (hbo : b ≠ ob) (hl : xs.length + ds.length ≤ 16777216) (hn : name.length ≤ 1000) (ho : o.length ≤ 5000) :
    Calls Tryd.prog 37 #[dv, .pointer (some ⟨g1, 0, none⟩), .pointer (some ⟨g2, 0, none⟩), .pointer (some ⟨ob, 0, none⟩)] w fun e w' => e = .returned (.tuple #[]) ∧ OutIs ob w' (inL name o xs ds) ∧ Below ob w w' := by
  obtain ⟨a, off, cap, rfl, hmx, ha, hblt, hc⟩ := hd
  have Hc := Lib.hid hc
  have Hm := Lib.hid hm
  have H1 := Lib.hid h1
  have H2 := Lib.hid h2
  have HO := Lib.hid ho'
  have hsn := size_mk name
  clear hc hm h1 h2 ho'
  go_enter Tryd.func37, Tryd.ntmps37
  go_wp2
  go_loopw [13] (fun i wr => ∃ (k : Nat), i = .int .i64 k ∧ k ≤ ds.length ∧ OutAt ob b wr (inL name o xs (ds.take k)) ∧ wr.heap[b]? = w.heap[b]? ∧ Below ob w wr ∧ w.heap.size ≤ wr.heap.size) (fun i _ => ds.length - (intOf i).toNat)
  case atStart => exact ⟨0, rfl, Nat.zero_le _, HO.out, rfl, Below.refl _ _, Nat.le_refl _⟩
  case round =>
    obtain ⟨k, rfl, hk, hout, hkb, hbel, hsz⟩ := hrel
    have Hout := Lib.hid hout
    have Hbel := Lib.hid hbel
    have Hkb := Lib.hid hkb
    have hBr : ob ≤ wr.heap.size := Nat.le_of_lt hout.out.lt
    by_cases hlt : k < ds.length
    · obtain rfl := ha (by omega)
      have gc : wr.cell? ⟨b, off + k, none⟩ = some (.string ⟨(snth ds k).toArray⟩) := by
        rw [World.cell?_of_block (a := ⟨b, off + k, none⟩) hkb]; exact Hc.out k hlt
      have c1 : wr.cell? ⟨g1, 0, none⟩ = some (.string ⟨o.toArray⟩) := by rw [hbel.cell (p := ⟨g1, 0, none⟩) hg1]; exact H1.out
      have hsn2 := inL_snoc name o (snth ds k) (ds.take k) xs
      rw [← snth_take ds k hlt] at hsn2
      have Hsn := Lib.hid hsn2
      have hil := inL_len name o (ds.take k) xs
      have hil2 : (inL name o xs (ds.take k)).length ≤ 16777216 := by rw [List.length_take] at hil; omega
      have hmr : wr.cell? ⟨0, 0, none⟩ = some (.int .i64 m) := by rw [hbel.cell (p := ⟨0, 0, none⟩) h0]; exact Hm.out
      clear hbel hsn2 hil hkb
      generalize snth ds k = d at *
      generalize inL name o xs (ds.take k) = out at *
      have HE := Lib.hid (expand_any m wr d o hmr (Or.inl ho))
      have hxl := expandL_le d o
      clear hmr
      generalize expandL d o = x at *
      obtain ⟨x1, x2⟩ := x
      simp only at hxl Hsn HE
      by_cases hx : x2 = 0
      · subst hx
        have s1 := size_mk x1
        have s2 := size_mk (x1 ++ [47])
        have s3 : (x1 ++ [47]).length = x1.length + 1 := by simp
        have a1 : (⟨x1.toArray⟩ : ByteArray) ++ ⟨#[47]⟩ = ⟨(x1 ++ [47]).toArray⟩ := mk_append x1 [47]
        have a2 : (⟨(x1 ++ [47]).toArray⟩ : ByteArray) ++ ⟨name.toArray⟩ = ⟨(x1 ++ 47 :: name).toArray⟩ := by rw [mk_append]; simp
        go_wp2_with fail
        refine HE.out.mono ?_
        rintro e w2 ⟨rfl, hb2⟩
        have Hb2 := Lib.hid (Hbel.out.trans (hb2.mono hBr))
        have Hout2 := Lib.hid (hout.below hb2)
        have Hkb2 := Lib.hid ((hb2.block b (by omega)).trans Hkb.out)
        have hz2 := hb2.size
        have c2 : w2.cell? ⟨g2, 0, none⟩ = some (.string ⟨name.toArray⟩) := by rw [Hb2.out.cell (p := ⟨g2, 0, none⟩) hg2]; exact H2.out
        have hm2 : w2.cell? ⟨0, 0, none⟩ = some (.int .i64 m) := by rw [Hb2.out.cell (p := ⟨0, 0, none⟩) h0]; exact Hm.out
        have HC := Lib.hid (clean_any m w2 (x1 ++ 47 :: name) hm2)
        clear hout hb2 hm2
        go_wp2_with fail
        refine HC.out.mono ?_
        rintro e w3 ⟨rfl, hb3⟩
        have hB2 : ob ≤ w2.heap.size := Nat.le_of_lt Hout2.out.out.lt
        have Hb3 := Lib.hid (Hb2.out.trans (hb3.mono hB2))
        have hz3 := hb3.size
        have Hkb3 := Lib.hid ((hb3.block b (by omega)).trans Hkb2.out)
        have hout3 := Hout2.out.below hb3
        have hB3 := hout3.out.lt
        have Hout3 := Lib.hid hout3
        clear hb3
        have Hp : Hid (putL out (x1 ++ 47 :: name) = if (cleanL (x1 ++ 47 :: name)).2 = 0 then out ++ [(cleanL (x1 ++ 47 :: name)).1] else out) := Lib.hid rfl
        generalize cleanL (x1 ++ 47 :: name) = y at *
        obtain ⟨y1, y2⟩ := y
        simp only at Hp
        by_cases hy : y2 = 0
        · subst hy
          obtain ⟨z, hz, hown, hzb⟩ := hout3
          have Hz := Lib.hid hz
          have Hown := Lib.hid hown
          have Hzb := Lib.hid hzb
          have cz : w3.cell? ⟨ob, 0, none⟩ = some z := by rw [Lib.cell_of_heap hz]; rfl
          obtain ⟨za, zc, hze⟩ := hown.form
          clear hz hown hzb
          subst hze
          go_wp2_with (at_builtin; refine wpList_appendStrAt _ rfl (.tmp 35) (.tmp 37) rfl (ob + 1) _ out rfl (Hown.out.alloc _) w3.heap.size y1 rfl ?c1 (by omega) ?c2 ?_)
          case c1 => simp
          case c2 => first | omega | (simp; omega)
          intro v' w4 hown' hbel' hgrow hat
          have Hvb : Hid (v'.ownBlock ≠ some b) := Lib.hid (by
            rcases hat with h | h
            · rw [h]; exact Hzb.out
            · rw [h]; intro e; injection e with e; first | omega | (simp at e; omega))
          obtain ⟨va, vc, rfl⟩ := hown'.form
          have hz4 : w4.heap[ob]? = some (.cells #[.slice za out.length zc] 29 (0, 0)) := by
            rw [hbel'.block ob (by omega), Lib.alloc_old w3 _ ob hB3]; exact Hz.out
          have c4 : w4.cell? ⟨ob, 0, none⟩ = some (.slice za out.length zc) := by rw [Lib.cell_of_heap hz4]; rfl
          have f4 : w4.frozen? ⟨ob, 0, none⟩ = false := Lib.frozen_of_heap hz4 0
          have Hfin := Lib.hid (OutAt.stored hz4 hown' Hvb.out)
          have Hb4 := Lib.hid ((Hb3.out.alloc (Nat.le_of_lt hB3) _).trans (hbel'.mono (show ob ≤ ob + 1 by omega)))
          have hz4' := hgrow.size
          have Hkb4 : Hid (w4.heap[b]? = w.heap[b]?) := Lib.hid (by
            rw [hgrow.block b (by simp; omega) (fun e => Hzb.out e.symm), Lib.alloc_old w3 _ b (by omega)]; exact Hkb3.out)
          simp only [World.size_alloc] at hz4'
          clear hown' hbel' hz4 hgrow hat
          go_wp2
          go_roundw
          case rel => exact ⟨k + 1, by go_num, by omega, by rw [Hsn.out]; simp only [if_true]; rw [Hp.out]; simpa using Hfin.out, by rw [Below.heap_setCell _ _ _ _ hbo]; exact Hkb4.out, Hb4.out.setCell (p := ⟨ob, 0, none⟩) (Nat.le_refl _) _, by simp [World.setCell]; omega⟩
          case measure => simp [intOf]; omega
        · clear hout3
          go_wp2
          go_roundw
          case rel => exact ⟨k + 1, by go_num, by omega, by rw [Hsn.out]; simp only [if_true]; rw [Hp.out, if_neg hy]; exact Hout3.out, Hkb3.out, Hb3.out, by omega⟩
          case measure => simp [intOf]; omega
      · go_wp2_with fail
        refine HE.out.mono ?_
        rintro e w2 ⟨rfl, hb2⟩
        have Hu := Lib.hid (hout.below hb2)
        have Hb2 := Lib.hid (Hbel.out.trans (hb2.mono hBr))
        have Hkb2 := Lib.hid ((hb2.block b (by omega)).trans Hkb.out)
        have hz2 := hb2.size
        clear hout hb2
        go_wp2
        go_roundw
        case rel => exact ⟨k + 1, by go_num, by omega, by rw [Hsn.out, if_neg hx]; exact Hu.out, Hkb2.out, Hb2.out, by omega⟩
        case measure => simp [intOf]; omega
    · have hown2 := hout.out
      rw [List.take_of_length_le (by omega)] at hown2
      have Hown2 := Lib.hid hown2
      clear hout hown2 hbel hkb
      go_wp2
      go_end0
      exact ⟨rfl, Hown2.out, Hbel.out⟩

end Go.Proofs.YtmckjdopplchbaaDoor
