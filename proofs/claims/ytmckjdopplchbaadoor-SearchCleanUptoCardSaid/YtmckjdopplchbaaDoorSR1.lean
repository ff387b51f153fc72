/- Lemmas that the claim is proved from: what calls of functions of the program come to (contracts), and plain laws. Each lemma bears its own conditions. -/
import Derived.Test.YtmckjdopplchbaaDoorFR3
import Derived.Test.YtmckjdopplchbaaDoorTE2
import Derived.Test.YtmckjdopplchbaaDoorTL3
namespace Go.Proofs.YtmckjdopplchbaaDoor
set_option linter.unusedVariables false
set_option linter.unusedSimpArgs false
open Go.RowKit

/-- a path, cleaned, behind others -/
def putL (l : List (List UInt8)) (path : List UInt8) : List (List UInt8) := if (cleanL path).2 = 0 then l ++ [(cleanL path).1] else l
theorem putL_len (l : List (List UInt8)) (path : List UInt8) : (putL l path).length ≤ l.length + 1 := by unfold putL; split <;> simp
/-- a name in directories, behind others -/
def inL (name o : List UInt8) (l : List (List UInt8)) : List (List UInt8) → List (List UInt8)
  | [] => l
  | d :: ds => inL name o (if (expandL d o).2 = 0 then putL l ((expandL d o).1 ++ 47 :: name) else l) ds
theorem inL_snoc (name o d : List UInt8) : ∀ (ds l : List (List UInt8)), inL name o l (ds ++ [d]) = if (expandL d o).2 = 0 then putL (inL name o l ds) ((expandL d o).1 ++ 47 :: name) else inL name o l ds
  | [], l => rfl
  | e :: ds, l => by rw [List.cons_append, inL, inL_snoc name o d ds, inL]
theorem inL_len (name o : List UInt8) : ∀ (ds l : List (List UInt8)), (inL name o l ds).length ≤ l.length + ds.length
  | [], l => by simp [inL]
  | d :: ds, l => by
    rw [inL]
    have := inL_len name o ds (if (expandL d o).2 = 0 then putL l ((expandL d o).1 ++ 47 :: name) else l)
    have h2 := putL_len l ((expandL d o).1 ++ 47 :: name)
    split at this
    · simp only [List.length_cons]; rename_i h; rw [if_pos h]; omega
    · simp only [List.length_cons]; rename_i h; rw [if_neg h]; omega

set_option maxHeartbeats 2000000 in
set_option maxRecDepth 100000 in
theorem put_any (B : Nat) (w : World) (v : Value) (xs : List (List UInt8)) (path : List UInt8) (hv : OwnS B w v xs) (hB : B ≤ w.heap.size) (hl : xs.length ≤ 16777216) :
    Calls Tryd.prog 42 #[v, .string ⟨path.toArray⟩] w fun e w' => ∃ u, e = .returned u ∧ OwnS B w' u (putL xs path) ∧ Below B w w' := by
  have HC := Lib.hid (cclean_any w path)
  have Hv := Lib.hid hv
  obtain ⟨a, c, hve⟩ := hv.form
  clear hv
  by_cases he : (cleanL path).2 = 0
  · have Hp : Hid (putL xs path = xs ++ [(cleanL path).1]) := Lib.hid (if_pos he)
    rw [he] at HC
    clear he
    generalize (cleanL path).1 = p at *
    go_enter Tryd.func42, Tryd.ntmps42
    go_wp2_with fail
    refine HC.out.mono ?_
    rintro e w2 ⟨rfl, hb2⟩
    have Hv2 := Lib.hid (Hv.out.below hb2)
    have hB2 : B ≤ w2.heap.size := Nat.le_trans hB hb2.size
    have Hb2 := Lib.hid (hb2.mono hB)
    clear hb2
    subst hve
    go_wp2_with (at_builtin; refine wpList_appendStr _ rfl (.tmp 15) (.tmp 17) rfl B _ xs rfl (Hv2.out.alloc _) w2.heap.size p rfl ?c1 (by omega) ?c2 ?_)
    case c1 => simp
    case c2 => first | omega | (simp; omega)
    intro v' w3 hown' hbel'
    have Hown' := Lib.hid hown'
    have Hbel' := Lib.hid ((Hb2.out.alloc hB2 _).trans hbel')
    clear hown' hbel'
    go_wp2
    go_ret
    exact ⟨_, rfl, by rw [Hp.out]; exact Hown'.out, Hbel'.out⟩
  · have Hp : Hid (putL xs path = xs) := Lib.hid (if_neg he)
    generalize (cleanL path).1 = p at *
    generalize (cleanL path).2 = q at *
    go_enter Tryd.func42, Tryd.ntmps42
    go_wp2_with fail
    refine HC.out.mono ?_
    rintro e w2 ⟨rfl, hb2⟩
    have Hv2 := Lib.hid (Hv.out.below hb2)
    have Hb2 := Lib.hid (hb2.mono hB)
    clear hb2
    subst hve
    go_wp2
    go_ret
    exact ⟨_, rfl, by rw [Hp.out]; exact Hv2.out, Hb2.out⟩

set_option maxHeartbeats 4000000 in
set_option maxRecDepth 100000 in
theorem in_any (B : Nat) (w : World) (v dv : Value) (xs ds : List (List UInt8)) (name o : List UInt8) (hv : OwnS B w v xs) (hd : StrsB B w dv ds) (hB : B ≤ w.heap.size) (hl : xs.length + ds.length ≤ 16777216) (hn : name.length ≤ 1000) (ho : o.length ≤ 5000) :
    Calls Tryd.prog 41 #[v, .string ⟨name.toArray⟩, .string ⟨o.toArray⟩, dv] w fun e w' => ∃ u, e = .returned u ∧ OwnS B w' u (inL name o xs ds) ∧ Below B w w' := by
  obtain ⟨a, b, off, cap, rfl, hm, ha, _, hblt, hc⟩ := hd
  have Hc := Lib.hid hc
  have Hv := Lib.hid hv
  have hsn := size_mk name
  clear hc hv
  go_enter Tryd.func41, Tryd.ntmps41
  go_wp2
  go_loopw [0, 9] (fun l i wr => ∃ (k : Nat), i = .int .i64 k ∧ k ≤ ds.length ∧ OwnS B wr l (inL name o xs (ds.take k)) ∧ Below B w wr) (fun _ i _ => ds.length - (intOf i).toNat)
  case atStart => exact ⟨0, rfl, Nat.zero_le _, Hv.out, Below.refl _ _⟩
  case round =>
    obtain ⟨k, rfl, hk, hown, hbel⟩ := hrel
    have Hown := Lib.hid hown
    have Hbel := Lib.hid hbel
    have hBr : B ≤ wr.heap.size := Nat.le_trans hB hbel.size
    by_cases hlt : k < ds.length
    · obtain rfl := ha (by omega)
      have gc : wr.cell? ⟨b, off + k, none⟩ = some (.string ⟨(snth ds k).toArray⟩) := by
        rw [hbel.cell (p := ⟨b, off + k, none⟩) (hblt (by omega))]; exact Hc.out k hlt
      have hsn2 := inL_snoc name o (snth ds k) (ds.take k) xs
      rw [← snth_take ds k hlt] at hsn2
      have Hsn := Lib.hid hsn2
      have hil := inL_len name o (ds.take k) xs
      have hil2 : (inL name o xs (ds.take k)).length ≤ 16777216 := by rw [List.length_take] at hil; omega
      clear hbel hsn2 hil
      generalize snth ds k = d at *
      generalize inL name o xs (ds.take k) = out at *
      have HE := Lib.hid (rexpand_any wr d o ho)
      have hxl := expandL_le d o
      generalize expandL d o = x at *
      obtain ⟨x1, x2⟩ := x
      simp only at hxl Hsn HE
      by_cases hx : x2 = 0
      · subst hx
        have s1 := size_mk x1
        have s2 := size_mk (x1 ++ [47])
        have s3 : (x1 ++ [47]).length = x1.length + 1 := by simp
        have a1 : (⟨x1.toArray⟩ : ByteArray) ++ ⟨#[47]⟩ = ⟨(x1 ++ [47]).toArray⟩ := mk_append x1 [47]
        have a2 : (⟨(x1 ++ [47]).toArray⟩ : ByteArray) ++ ⟨name.toArray⟩ = ⟨(x1 ++ 47 :: name).toArray⟩ := by rw [mk_append]; simp
        go_wp2_with fail
        refine HE.out.mono ?_
        rintro e w2 ⟨rfl, hb2⟩
        have HP := Lib.hid (put_any B w2 _ out (x1 ++ 47 :: name) (hown.below hb2) (Nat.le_trans hBr hb2.size) hil2)
        have Hb2 := Lib.hid (Hbel.out.trans (hb2.mono hBr))
        clear hown hb2
        go_wp2_with fail
        refine HP.out.mono ?_
        rintro e w3 ⟨u, rfl, hu, hb3⟩
        have Hu := Lib.hid hu
        have Hb3 := Lib.hid (Hb2.out.trans hb3)
        clear hu hb3
        go_wp2
        go_roundw
        case rel => exact ⟨k + 1, by go_num, by omega, by rw [Hsn.out]; simpa using Hu.out, Hb3.out⟩
        case measure => simp [intOf]; omega
      · go_wp2_with fail
        refine HE.out.mono ?_
        rintro e w2 ⟨rfl, hb2⟩
        have Hu := Lib.hid (hown.below hb2)
        have Hb2 := Lib.hid (Hbel.out.trans (hb2.mono hBr))
        clear hown hb2
        go_wp2
        go_roundw
        case rel => exact ⟨k + 1, by go_num, by omega, by rw [Hsn.out, if_neg hx]; exact Hu.out, Hb2.out⟩
        case measure => simp [intOf]; omega
    · have hown2 := hown
      rw [List.take_of_length_le (by omega)] at hown2
      have Hown2 := Lib.hid hown2
      clear hown hown2 hbel
      go_wp2
      go_ret
      exact ⟨_, rfl, Hown2.out, Hbel.out⟩

end Go.Proofs.YtmckjdopplchbaaDoor
