/- Lemmas that the claim is proved from: what calls of functions of the program come to (contracts), and plain laws. Each lemma bears its own conditions. -/
import Derived.Test.YtmckjdopplchbaaDoorTB1
import Derived.Test.YtmckjdopplchbaaDoorTPlain
import Derived.Below
import Derived.BigQuiet
import Derived.Lib.Hide
import Derived.WalkKit
import Derived.WalkSmall
namespace Go.Proofs.YtmckjdopplchbaaDoor
set_option linter.unusedVariables false
set_option linter.unusedSimpArgs false
open Go.RowKit

def lenOf : Value → Nat | .string s => s.size | _ => 0
theorem size_mk (l : List UInt8) : ByteArray.size ⟨l.toArray⟩ = l.length := by simp [ByteArray.size]
theorem str_eq (a b : List UInt8) : ((⟨a.toArray⟩ : ByteArray) = ⟨b.toArray⟩) ↔ a = b := by simp

theorem byteCells_len (l : List UInt8) : (Lib.byteCells l).length = l.length := by simp [Lib.byteCells]

theorem cutOrigin (t : List UInt8) (b : Bool) (h : wORIGIN.isPrefixOf t = b) (w : World) :
    Calls Tryd.prog 29 #[.string ⟨t.toArray⟩, .string ⟨#[79, 82, 73, 71, 73, 78]⟩] w fun e w' => e = .returned (.tuple #[.string ⟨(if b then t.drop 6 else t).toArray⟩, .bool b]) ∧ w' = w := by
  have := Tryd.strings_CutPrefix ⟨t.toArray⟩ ⟨#[79, 82, 73, 71, 73, 78]⟩ w
  simp only [List.toList_toArray, Lib.trimPrefix, Lib.hasPrefix] at this
  subst h
  exact this
theorem cutLib (t : List UInt8) (b : Bool) (h : wLIB.isPrefixOf t = b) (w : World) :
    Calls Tryd.prog 29 #[.string ⟨t.toArray⟩, .string ⟨#[76, 73, 66]⟩] w fun e w' => e = .returned (.tuple #[.string ⟨(if b then t.drop 3 else t).toArray⟩, .bool b]) ∧ w' = w := by
  have := Tryd.strings_CutPrefix ⟨t.toArray⟩ ⟨#[76, 73, 66]⟩ w
  simp only [List.toList_toArray, Lib.trimPrefix, Lib.hasPrefix] at this
  subst h
  exact this

set_option maxHeartbeats 8000000 in
set_option maxRecDepth 100000 in
theorem expand_any (m : Int) (w : World) (text o : List UInt8) (hm : w.cell? ⟨0, 0, none⟩ = some (.int .i64 m)) (hlim : o.length ≤ 5000 ∨ 36 ∉ text) :
    Calls Tryd.prog 13 #[.string ⟨text.toArray⟩, .string ⟨o.toArray⟩] w fun e w' =>
      e = .returned (.tuple #[.string ⟨(expandL text o).1.toArray⟩, .int .i64 (expandL text o).2]) ∧ Below w.heap.size w w' := by
  have h0 : 0 < w.heap.size := World.block_lt_of_cell? w _ hm
  have hsz := size_mk text
  go_enter Tryd.func13, Tryd.ntmps13
  by_cases hl : text.length ≤ 200
  · go_wp2
    have Hdef : Hid (expandL text o = fin (exp o 0 text)) := Lib.hid (by simp [expandL, hl])
    have Hm := Lib.hid hm
    clear hm hsz
    go_loopw [0] (fun t wr => ∃ rest out, t = .string ⟨rest.toArray⟩ ∧ Lib.IsBuilder 53 5 w.heap.size w.heap.size (Lib.byteCells out) wr ∧ Below w.heap.size w wr ∧ (exp o 0 rest).map (out ++ ·) = exp o 0 text ∧ out.length + 5001 * rest.length ≤ 5001 * 200 ∧ (o.length ≤ 5000 ∨ 36 ∉ rest)) (fun t _ => lenOf t)
    case atStart => exact ⟨text, [], rfl, Lib.fresh_isBuilder 53 5 w, (Below.refl _ _).alloc (Nat.le_refl _) _, by simp, by simp; omega, hlim⟩
    case round =>
      obtain ⟨rest, out, rfl, hb, hbel, he, hlen, hlm⟩ := hrel
      have Hb := Lib.hid hb
      have Hbel := Lib.hid hbel
      have He := Lib.hid he
      have Hlm := Lib.hid hlm
      have hBr := hbel.size
      have Hmr : Hid (wr.cell? ⟨0, 0, none⟩ = some (.int .i64 m)) := Lib.hid (by rw [hbel.cell (p := ⟨0, 0, none⟩) h0]; exact Hm.out)
      clear hb hbel he hlm
      have hsz := size_mk rest
      cases hq : rest.isEmpty with
      | true =>
        have Hq := Lib.hid hq
        have Hfin : Hid (expandL text o = fin (some out)) := Lib.hid (by
          obtain rfl : rest = [] := List.isEmpty_iff.1 Hq.out
          rw [Hdef.out, ← He.out]; simp [exp_nil])
        have hlo := byteCells_len out
        by_cases hout : out.length ≤ 200
        · go_wp2_with (go_at_call 30; refine (Tryd.Builder_Len w.heap.size w.heap.size _ wr Hb.out).mono ?_; rintro e w' ⟨rfl, rfl⟩)
          refine (Tryd.Builder_String_any w.heap.size w.heap.size (out) _ Hb.out hBr).mono ?_
          rintro e w' ⟨rfl, hb'⟩
          go_wp2
          go_ret2
          have e : expandL text o = (out, 0) := by rw [Hfin.out]; exact if_pos hout
          exact ⟨by rw [e]; rfl, Hbel.out.trans hb'⟩
        · go_wp2_with (go_at_call 30; refine (Tryd.Builder_Len w.heap.size w.heap.size _ wr Hb.out).mono ?_; rintro e w' ⟨rfl, rfl⟩)
          go_ret2
          have e : expandL text o = ([], 2) := by rw [Hfin.out]; exact if_neg hout
          exact ⟨by rw [e]; rfl, Hbel.out⟩
      | false =>
        have hls : ByteArray.size ⟨rest.toArray⟩ < 4294967281 := by omega
        have HC0 := Lib.hid (Tryd.strings_Cut ⟨rest.toArray⟩ ⟨[36].toArray⟩ m wr hls Hmr.out)
        rcases cut_dollar rest 36 with ⟨hd, tl, hr, hn, hc⟩ | ⟨hn, hc⟩
        · have HC : Calls Tryd.prog 27 #[.string ⟨rest.toArray⟩, .string ⟨#[36]⟩] wr fun e w' => e = .returned (.tuple #[.string ⟨hd.toArray⟩, .string ⟨tl.toArray⟩, .bool true]) ∧ ∃ n, w' = wr.drewN n := by
            have := HC0.out
            simp only [List.toList_toArray, hc] at this
            exact this
          have Hhn := Lib.hid hn
          have Hr := Lib.hid hr
          have hlr : rest.length = hd.length + 1 + tl.length := by rw [hr]; simp; omega
          have hlo := byteCells_len out
          have hsh := size_mk hd
          clear hr hn hc HC0
          have Ho : Hid (o.length ≤ 5000) := Lib.hid (by rcases Hlm.out with h1 | h1; · exact h1
                                                         · exact absurd (by rw [Hr.out]; simp) h1)
          have HW1 : Hid (∀ n, Calls Tryd.prog 28 #[.pointer (some ⟨w.heap.size, 0, none⟩), .string ⟨hd.toArray⟩] (wr.drewN n) fun e w' => e = .returned (.tuple #[.int .i64 hd.length, .nilIface]) ∧ (Lib.IsBuilder 53 5 w.heap.size w.heap.size (Lib.byteCells (out ++ hd)) w' ∧ Below w.heap.size w w')) := Lib.hid (by
            intro n
            refine (writeString_any w.heap.size w.heap.size (Lib.byteCells out) ⟨hd.toArray⟩ _ (show Lib.IsBuilder 53 5 w.heap.size w.heap.size (Lib.byteCells out) (wr.drewN n) from Hb.out) (by omega) (by simpa using hBr)).mono ?_
            rintro e w2 ⟨rfl, hb2, hbel2⟩
            exact ⟨by rw [hsh], by rw [Lib.byteCells_append]; exact Or.inr hb2, Hbel.out.trans ((below_drewN (Below.refl _ wr) n).trans hbel2)⟩)
          cases hO : wORIGIN.isPrefixOf tl with
          | true =>
            have HO := Lib.hid hO
            have HO1 := Lib.hid (cutOrigin tl true hO)
            obtain ⟨x, bl, hbl⟩ : ∃ (x : ByteArray) (bl : Bool), ∀ w, Calls Tryd.prog 29 #[.string ⟨tl.toArray⟩, .string ⟨#[76, 73, 66]⟩] w fun e w' => e = .returned (.tuple #[.string x, .bool bl]) ∧ w' = w := ⟨_, _, cutLib tl _ rfl⟩
            have HL1 := Lib.hid hbl
            clear hbl
            have hwz := size_mk o
            go_wp2_with (go_at_call 27; refine HC.mono ?_; rintro e w' ⟨rfl, n, rfl⟩)
            refine (HW1.out n).mono ?_
            rintro e w2 ⟨rfl, hb2, hbel2⟩
            have Hb2 := Lib.hid hb2
            have Hbel2 := Lib.hid hbel2
            have hB2 := hbel2.size
            have hlo2 := byteCells_len (out ++ hd)
            have hlo3 : (out ++ hd).length = out.length + hd.length := by simp
            clear hb2 hbel2
            go_wp2_with fail
            refine (HO1.out _).mono ?_
            rintro e w' ⟨rfl, rfl⟩
            go_wp2_with fail
            refine (HL1.out _).mono ?_
            rintro e w' ⟨rfl, rfl⟩
            go_wp2_with fail
            refine (writeString_any w.heap.size w.heap.size _ ⟨o.toArray⟩ _ Hb2.out (by have := Ho.out; omega) hB2).mono ?_
            rintro e w3 ⟨rfl, hb3, hbel3⟩
            have Hb3 : Hid (Lib.IsBuilder 53 5 w.heap.size w.heap.size (Lib.byteCells (out ++ hd ++ o)) w3) := Lib.hid (by rw [Lib.byteCells_append (out ++ hd)]; exact Or.inr hb3)
            have Hbel3 := Lib.hid (Hbel2.out.trans hbel3)
            clear hb3 hbel3
            have hlt : (tl.drop 6).length ≤ tl.length := by simp
            go_wp2
            go_roundw
            case rel =>
              refine ⟨tl.drop 6, out ++ hd ++ o, rfl, Hb3.out, Hbel3.out, ?_, ?_, Or.inl Ho.out⟩
              · rw [← He.out, Hr.out, exp_head _ _ _ Hhn.out, exp_origin _ _ HO.out]
                cases exp o 0 (tl.drop 6) <;> simp
              · have := Ho.out
                simp only [List.length_append]
                omega
            case measure => simp [lenOf, size_mk]; omega
          | false =>
            have HO := Lib.hid hO
            have HO1 := Lib.hid (cutOrigin tl false hO)
            cases hL : wLIB.isPrefixOf tl with
            | true =>
              have HL := Lib.hid hL
              have HL1 := Lib.hid (cutLib tl true hL)
              have hwz : ByteArray.size ⟨#[108, 105, 98]⟩ = 3 := rfl
              go_wp2_with (go_at_call 27; refine HC.mono ?_; rintro e w' ⟨rfl, n, rfl⟩)
              refine (HW1.out n).mono ?_
              rintro e w2 ⟨rfl, hb2, hbel2⟩
              have Hb2 := Lib.hid hb2
              have Hbel2 := Lib.hid hbel2
              have hB2 := hbel2.size
              have hlo2 := byteCells_len (out ++ hd)
              have hlo3 : (out ++ hd).length = out.length + hd.length := by simp
              clear hb2 hbel2
              go_wp2_with fail
              refine (HO1.out _).mono ?_
              rintro e w' ⟨rfl, rfl⟩
              go_wp2_with fail
              refine (HL1.out _).mono ?_
              rintro e w' ⟨rfl, rfl⟩
              go_wp2_with fail
              refine (writeString_any w.heap.size w.heap.size _ ⟨#[108, 105, 98]⟩ _ Hb2.out (by have := Ho.out; omega) hB2).mono ?_
              rintro e w3 ⟨rfl, hb3, hbel3⟩
              have Hb3 : Hid (Lib.IsBuilder 53 5 w.heap.size w.heap.size (Lib.byteCells (out ++ hd ++ wlib)) w3) := Lib.hid (by rw [Lib.byteCells_append (out ++ hd)]; exact Or.inr hb3)
              have Hbel3 := Lib.hid (Hbel2.out.trans hbel3)
              clear hb3 hbel3
              have hlt : (tl.drop 3).length ≤ tl.length := by simp
              go_wp2
              go_roundw
              case rel =>
                refine ⟨tl.drop 3, out ++ hd ++ wlib, rfl, Hb3.out, Hbel3.out, ?_, ?_, Or.inl Ho.out⟩
                · rw [← He.out, Hr.out, exp_head _ _ _ Hhn.out, exp_lib _ _ HO.out HL.out]
                  cases exp o 0 (tl.drop 3) <;> simp
                · have := Ho.out
                  simp only [List.length_append, show wlib.length = 3 from rfl]
                  omega
              case measure => simp [lenOf, size_mk]; omega
            | false =>
              have HL := Lib.hid hL
              have HL1 := Lib.hid (cutLib tl false hL)
              have Hfin : Hid (expandL text o = fin none) := Lib.hid (by rw [Hdef.out, ← He.out, Hr.out, exp_head _ _ _ Hhn.out, exp_bad _ _ HO.out HL.out]; rfl)
              go_wp2_with (go_at_call 27; refine HC.mono ?_; rintro e w' ⟨rfl, n, rfl⟩)
              refine (HW1.out n).mono ?_
              rintro e w2 ⟨rfl, hb2, hbel2⟩
              have Hb2 := Lib.hid hb2
              have Hbel2 := Lib.hid hbel2
              have hB2 := hbel2.size
              have hlo2 := byteCells_len (out ++ hd)
              have hlo3 : (out ++ hd).length = out.length + hd.length := by simp
              clear hb2 hbel2
              go_wp2_with fail
              refine (HO1.out _).mono ?_
              rintro e w' ⟨rfl, rfl⟩
              go_wp2_with fail
              refine (HL1.out _).mono ?_
              rintro e w' ⟨rfl, rfl⟩
              go_wp2_with fail
              go_ret2
              exact ⟨by rw [Hfin.out]; rfl, Hbel2.out⟩
        · have HC : Calls Tryd.prog 27 #[.string ⟨rest.toArray⟩, .string ⟨#[36]⟩] wr fun e w' => e = .returned (.tuple #[.string ⟨rest.toArray⟩, .string ⟨[].toArray⟩, .bool false]) ∧ ∃ n, w' = wr.drewN n := by
            have := HC0.out
            simp only [List.toList_toArray, hc] at this
            exact this
          have hsz' := size_mk rest
          have hlo := byteCells_len out
          have Hfin : Hid (expandL text o = fin (some (out ++ rest))) := Lib.hid (by rw [Hdef.out, ← He.out, exp_plain _ _ hn]; rfl)
          go_wp2_with (go_at_call 27; refine HC.mono ?_; rintro e w' ⟨rfl, n, rfl⟩)
          refine (writeString_any w.heap.size w.heap.size (Lib.byteCells out) ⟨rest.toArray⟩ _ (show Lib.IsBuilder 53 5 w.heap.size w.heap.size (Lib.byteCells out) (wr.drewN n) from Hb.out) (by omega) (by simpa using hBr)).mono ?_
          rintro e w2 ⟨rfl, hb2, hbel2⟩
          have Hb2 : Hid (Lib.IsBuilder 53 5 w.heap.size w.heap.size (Lib.byteCells (out ++ rest)) w2) := Lib.hid (by rw [Lib.byteCells_append]; exact Or.inr hb2)
          have Hbel2 : Hid (Below w.heap.size w w2) := Lib.hid (Hbel.out.trans ((below_drewN (Below.refl _ wr) n).trans hbel2))
          have hBr2 := Hbel2.out.size
          have hlo2 := byteCells_len (out ++ rest)
          have hlo3 : (out ++ rest).length = out.length + rest.length := by simp
          clear hb2 hbel2
          by_cases hout : (out ++ rest).length ≤ 200
          · go_wp2_with (go_at_call 30; refine (Tryd.Builder_Len w.heap.size w.heap.size _ w2 Hb2.out).mono ?_; rintro e w' ⟨rfl, rfl⟩)
            refine (Tryd.Builder_String_any w.heap.size w.heap.size ((out ++ rest)) _ Hb2.out hBr2).mono ?_
            rintro e w' ⟨rfl, hb'⟩
            go_wp2
            go_ret2
            have e : expandL text o = ((out ++ rest), 0) := by rw [Hfin.out]; exact if_pos hout
            exact ⟨by rw [e]; rfl, Hbel2.out.trans hb'⟩
          · go_wp2_with (go_at_call 30; refine (Tryd.Builder_Len w.heap.size w.heap.size _ w2 Hb2.out).mono ?_; rintro e w' ⟨rfl, rfl⟩)
            go_ret2
            have e : expandL text o = ([], 2) := by rw [Hfin.out]; exact if_neg hout
            exact ⟨by rw [e]; rfl, Hbel2.out⟩
  · go_wp2
    go_ret2
    exact ⟨by simp [expandL, hl], Below.refl _ _⟩

end Go.Proofs.YtmckjdopplchbaaDoor
