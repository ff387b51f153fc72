/- Lemmas that the claim is proved from: what calls of functions of the program come to (contracts), and plain laws. Each lemma bears its own conditions. -/
import Derived.Test.YtmckjdopplchbaaDoorTE1
import Derived.Lib.BufferRead
import Derived.Laws.AppendOwn
namespace Go.Proofs.YtmckjdopplchbaaDoor
set_option linter.unusedVariables false
set_option linter.unusedSimpArgs false
open Go.RowKit

theorem prefix_take (word l : List UInt8) (h : word.length ≤ l.length) : (l.take word.length == word) = word.isPrefixOf l := by
  rw [Bool.eq_iff_iff]
  simp only [beq_iff_eq, List.isPrefixOf_iff_prefix]
  constructor
  · intro h; rw [← h]; exact List.take_prefix _ _
  · rintro ⟨t, rfl⟩; simp
theorem prefix_short (word l : List UInt8) (h : l.length < word.length) : word.isPrefixOf l = false := by
  cases hb : word.isPrefixOf l with
  | false => rfl
  | true => have := (List.isPrefixOf_iff_prefix.1 hb).length_le; omega

theorem slice_mk (w : World) (l : List UInt8) (a b : Nat) (hab : a ≤ b) (hb : b ≤ l.length) :
    (Instr.slice 9 (.string ⟨l.toArray⟩) (some (.int .i64 a)) (some (.int .i64 b)) none).run Tryd.prog w = .ok (.string ⟨((l.drop a).take (b - a)).toArray⟩) w := by
  have hsz := size_mk l
  rw [run_slice_string (P := Tryd.prog) w 9 ⟨l.toArray⟩ .i64 .i64 a b Tryd.underlying9 (by omega) (by omega) (by rw [hsz]; omega)]
  rw [Lib.extract_eq]
  simp

set_option maxHeartbeats 1000000 in
set_option maxRecDepth 100000 in
theorem at_any (w : World) (l word : List UInt8) (k : Nat) (hk : k ≤ l.length) (hl : l.length ≤ 1000000) (hw : word.length ≤ 100) :
    Calls Tryd.prog 32 #[.string ⟨l.toArray⟩, .int .i64 k, .string ⟨word.toArray⟩] w fun e w' => e = .returned (.bool (word.isPrefixOf (l.drop k))) ∧ w' = w := by
  have hsz := size_mk l
  have hsw := size_mk word
  go_enter Tryd.func32, Tryd.ntmps32
  by_cases hr : word.length ≤ l.length - k
  · have Hp := Lib.hid (prefix_take word (l.drop k) (by simpa using hr))
    have hrun := slice_mk w l k (k + word.length) (by omega) (by omega)
    have e : k + word.length - k = word.length := by omega
    rw [e] at hrun
    simp only [Int.natCast_add] at hrun
    go_wp2
    go_ret
    exact ⟨by rw [← Hp.out]; rfl, rfl⟩
  · have Hp := Lib.hid (prefix_short word (l.drop k) (by simp; omega))
    go_wp2
    go_ret
    exact ⟨by rw [Hp.out]; rfl, rfl⟩

theorem info_byte : (Tryd.prog.info? 5).map (fun i => (i.zero, i.size, i.bytes)) = some (some (.int .u8 0), 1, 1) := by kernel_rfl

/-- v is a slice of bytes that the call has made, and reads as xs. -/
def OwnB (B : Nat) (w : World) (v : Value) (xs : List UInt8) : Prop := w.ownsRow B 5 1 v xs.length (Lib.byteCells xs)
theorem OwnB.nil (B : Nat) (w : World) : OwnB B w (.slice none 0 0) [] := World.ownsRow_nil w B 5 1
theorem OwnB.form {B : Nat} {w : World} {v : Value} {xs : List UInt8} (h : OwnB B w v xs) : ∃ a c, v = .slice a xs.length c := by
  rcases h.2 with ⟨rfl, h0⟩ | ⟨g, cap, cur, rfl, _⟩
  · exact ⟨none, 0, by rw [h0]⟩
  · exact ⟨_, _, rfl⟩
theorem OwnB.conv {B : Nat} {w : World} {v : Value} {xs : List UInt8} (h : OwnB B w v xs) : (convert 51 9 v).run Tryd.prog w = .ok (.string ⟨xs.toArray⟩) w := by
  have h' := h
  obtain ⟨_, h2⟩ := h
  rcases h2 with ⟨rfl, h0⟩ | ⟨g, cap, cur, rfl, hg, hh, hle, hcap, hs, ht⟩
  · obtain rfl : xs = [] := List.eq_nil_of_length_eq_zero h0
    exact Lib.run_convert_nil_bytes w 51 9 5 0 Tryd.underlying51 Tryd.underlying5 Tryd.underlying9
  · refine run_convert_bytes_back w 51 9 5 ⟨g, 0, none⟩ cap xs Tryd.underlying51 Tryd.underlying5 Tryd.underlying9 (fun j hj => ?_)
    exact World.ownsRow.cells h' (g := g) rfl j _ (by simp [Lib.byteCells, hj])

theorem wpList_appendByte (w : World) {ops : Array Oper} {rest : List Oper} {o : Oper} {a : Act} {Q : Exit → Act → World → Prop} (hgd : o.guard = none) (s x : Operand)
    (ho : o.op = .call { callee := .builtin .append, args := #[s, x], argTypes := #[51, 51] })
    (B : Nat) (v : Value) (xs : List UInt8) (hs : a.eval s = v) (hown : OwnB B w v xs) (nb : Nat) (c : UInt8) (hx : a.eval x = .slice (some ⟨nb, 0, none⟩) 1 1) (hcell : w.cell? ⟨nb, 0, none⟩ = some (.int .u8 c.toNat))
    (hlen : xs.length ≤ 1099511627776) (hB : B ≤ w.heap.size)
    (h : ∀ v' w', OwnB B w' v' (xs ++ [c]) → Below B w w' → wpList Tryd.prog ops Q rest (a.put o.dst v') w') : wpList Tryd.prog ops Q (o :: rest) a w := by
  obtain ⟨i0, hi, hz0, hz1, hz2⟩ := info_parts info_byte
  have hlt := World.ownsRow.lt hown
  refine wpList_append_own w hgd s x 51 ho B 5 i0 (.int .u8 0) 1 1 Tryd.underlying51 hi hz0 hz1 hz2 rfl (by decide) v xs.length (Lib.byteCells xs) hs hown ⟨nb, 0, none⟩ 1 1 [.int .u8 c.toNat] hx rfl ?_ ?_ ?_ ?_ hB ?_
  · intro j u hj
    match j, hj with
    | 0, hj => simp at hj; subst hj; simpa [Addr.add_lit] using hcell
    | j + 1, hj => simp at hj
  · intro u hu; simp at hu; subst hu; rfl
  · unfold maxLen; omega
  · omega
  · intro v' w' h1 h2 _
    refine h v' w' ?_ ((Below.refl B w).grown h2 hB fun k hk => (hlt k hk).1)
    simpa [OwnB, Lib.byteCells] using h1

theorem wpList_appendText (w : World) {ops : Array Oper} {rest : List Oper} {o : Oper} {a : Act} {Q : Exit → Act → World → Prop} (hgd : o.guard = none) (s x : Operand)
    (ho : o.op = .call { callee := .builtin .append, args := #[s, x], argTypes := #[51, 9] })
    (B : Nat) (v : Value) (xs ys : List UInt8) (hs : a.eval s = v) (hown : OwnB B w v xs) (hx : a.eval x = .string ⟨ys.toArray⟩)
    (hlen : xs.length + ys.length ≤ 1099511627776) (hB : B ≤ w.heap.size)
    (h : ∀ v' w', OwnB B w' v' (xs ++ ys) → Below B w w' → wpList Tryd.prog ops Q rest (a.put o.dst v') w') : wpList Tryd.prog ops Q (o :: rest) a w := by
  obtain ⟨i0, hi, hz0, hz1, hz2⟩ := info_parts info_byte
  have hlt := World.ownsRow.lt hown
  have hsz := size_mk ys
  refine Lib.wpList_append_own_string w hgd s x 51 9 ho B 5 i0 Tryd.underlying51 Tryd.underlying9 hi hz0 hz1 hz2 v xs.length (Lib.byteCells xs) hs hown ⟨ys.toArray⟩ hx ?_ ?_ hB ?_
  · unfold maxLen; omega
  · omega
  · intro v' w' h1 h2 _
    refine h v' w' ?_ ((Below.refl B w).grown h2 hB fun k hk => (hlt k hk).1)
    rw [Lib.strCells_eq, ← Lib.byteCells_append, hsz] at h1
    simpa [OwnB] using h1

theorem OwnB.alloc {B : Nat} {w : World} {v : Value} {xs : List UInt8} (h : OwnB B w v xs) (o : Obj) : OwnB B (w.alloc o) v xs := World.ownsRow.alloc h o
theorem getElem_mk (l : List UInt8) (k : Nat) (h : k < ByteArray.size ⟨l.toArray⟩) (h' : k < l.length) : (⟨l.toArray⟩ : ByteArray)[k] = l[k] := rfl

set_option maxHeartbeats 8000000 in
set_option maxRecDepth 100000 in
theorem rexpand_any (w : World) (text o : List UInt8) (hlim : o.length ≤ 5000) :
    Calls Tryd.prog 14 #[.string ⟨text.toArray⟩, .string ⟨o.toArray⟩] w fun e w' =>
      e = .returned (.tuple #[.string ⟨(expandL text o).1.toArray⟩, .int .i64 (expandL text o).2]) ∧ Below w.heap.size w w' := by
  have hsz := size_mk text
  go_enter Tryd.func14, Tryd.ntmps14
  by_cases hl : text.length ≤ 200
  · go_wp2
    have Hdef : Hid (expandL text o = fin (exp o 0 text)) := Lib.hid (by simp [expandL, hl])
    go_loopw [6, 7] (fun v i wr => ∃ (k : Nat) (out : List UInt8), i = .int .i64 k ∧ k ≤ text.length ∧ OwnB w.heap.size wr v out ∧ Below w.heap.size w wr ∧ (exp o 0 (text.drop k)).map (out ++ ·) = exp o 0 text ∧ out.length ≤ 5001 * k) (fun _ i _ => text.length - (intOf i).toNat)
    case atStart => exact ⟨0, [], rfl, Nat.zero_le _, OwnB.nil _ _, Below.refl _ _, by simp, by simp⟩
    case round =>
      obtain ⟨k, out, rfl, hk, hown, hbel, he, hlen⟩ := hrel
      have Hown := Lib.hid hown
      have Hbel := Lib.hid hbel
      have He := Lib.hid he
      have hBr := hbel.size
      obtain ⟨va, vc, rfl⟩ := hown.form
      clear hown hbel he
      by_cases hlt : k < text.length
      · have Hx := Lib.hid (getElem_mk text k (by omega) hlt)
        obtain ⟨c, hcx⟩ : ∃ c, text[k] = c := ⟨_, rfl⟩
        have Hd : Hid (text.drop k = c :: text.drop (k + 1)) := Lib.hid (by rw [← hcx]; exact List.drop_eq_getElem_cons hlt)
        have hx : (⟨text.toArray⟩ : ByteArray)[k]'(by omega) = c := by rw [getElem_mk text k (by omega) hlt]; exact hcx
        clear hcx Hx
        by_cases hc : c = 36
        · obtain rfl := hc
          have hc' : (((36 : UInt8).toNat : Int) != 36) = false := by decide
          have hpO : (36 :: wORIGIN).isPrefixOf (text.drop k) = wORIGIN.isPrefixOf (text.drop (k + 1)) := by rw [Hd.out]; simp [List.isPrefixOf]
          have hpL : (36 :: wLIB).isPrefixOf (text.drop k) = wLIB.isPrefixOf (text.drop (k + 1)) := by rw [Hd.out]; simp [List.isPrefixOf]
          have HAO := at_any wr text (36 :: wORIGIN) k hk (by omega) (by decide)
          have HAL := at_any wr text (36 :: wLIB) k hk (by omega) (by decide)
          rw [hpO] at HAO
          rw [hpL] at HAL
          have HAO' := Lib.hid HAO
          have HAL' := Lib.hid HAL
          clear HAO HAL hpO hpL
          cases hO : wORIGIN.isPrefixOf (text.drop (k + 1)) with
          | true =>
            have hlen7 : 6 ≤ text.length - (k + 1) := by
              have := (List.isPrefixOf_iff_prefix.1 hO).length_le
              simpa [wORIGIN] using this
            have HX := Lib.hid (exp_origin o (text.drop (k + 1)) hO)
            rw [hO] at HAO'
            clear hO
            go_wp2_with fail
            refine HAO'.out.mono ?_
            rintro e w' ⟨rfl, rfl⟩
            go_wp2_with (at_builtin; refine wpList_appendText _ rfl (.tmp 32) (.tmp 33) rfl w.heap.size _ out o rfl Hown.out rfl (by omega) hBr ?_)
            intro v' w2 hown' hbel'
            have Hown' := Lib.hid hown'
            have Hbel' := Lib.hid hbel'
            clear hown' hbel'
            go_wp2
            go_roundw
            case rel =>
              refine ⟨k + 6 + 1, out ++ o, by go_num, by omega, Hown'.out, Hbel.out.trans Hbel'.out, ?_, by simp; omega⟩
              rw [← He.out, Hd.out, HX.out, List.drop_drop, show k + 6 + 1 = k + 1 + 6 by omega]
              cases exp o 0 (text.drop (k + 1 + 6)) <;> simp
            case measure => simp [intOf]; omega
          | false =>
            rw [hO] at HAO'
            cases hL : wLIB.isPrefixOf (text.drop (k + 1)) with
            | true =>
              have hlen4 : 3 ≤ text.length - (k + 1) := by
                have := (List.isPrefixOf_iff_prefix.1 hL).length_le
                simpa [wLIB] using this
              have HX := Lib.hid (exp_lib o (text.drop (k + 1)) hO hL)
              rw [hL] at HAL'
              clear hO hL
              go_wp2_with fail
              refine HAO'.out.mono ?_
              rintro e w' ⟨rfl, rfl⟩
              go_wp2_with fail
              refine HAL'.out.mono ?_
              rintro e w' ⟨rfl, rfl⟩
              go_wp2_with (at_builtin; refine wpList_appendText _ rfl (.tmp 41) (.const (.string ⟨#[108, 105, 98]⟩)) rfl w.heap.size _ out wlib rfl Hown.out rfl (by simp [wlib]; omega) hBr ?_)
              intro v' w2 hown' hbel'
              have Hown' := Lib.hid hown'
              have Hbel' := Lib.hid hbel'
              clear hown' hbel'
              go_wp2
              go_roundw
              case rel =>
                refine ⟨k + 3 + 1, out ++ wlib, by go_num, by omega, Hown'.out, Hbel.out.trans Hbel'.out, ?_, by simp [wlib]; omega⟩
                rw [← He.out, Hd.out, HX.out, List.drop_drop, show k + 3 + 1 = k + 1 + 3 by omega]
                cases exp o 0 (text.drop (k + 1 + 3)) <;> simp
              case measure => simp [intOf]; omega
            | false =>
              have HX := Lib.hid (exp_bad o (text.drop (k + 1)) hO hL)
              rw [hL] at HAL'
              clear hO hL
              have Hfin : Hid (expandL text o = fin none) := Lib.hid (by rw [Hdef.out, ← He.out, Hd.out, HX.out]; rfl)
              go_wp2_with fail
              refine HAO'.out.mono ?_
              rintro e w' ⟨rfl, rfl⟩
              go_wp2_with fail
              refine HAL'.out.mono ?_
              rintro e w' ⟨rfl, rfl⟩
              go_wp2
              go_ret2
              exact ⟨by rw [Hfin.out]; rfl, Hbel.out⟩
        · have hc' : ((c.toNat : Int) != 36) = true := by
            have : c.toNat ≠ 36 := fun e => hc (UInt8.toNat_inj.1 e)
            simp; omega
          have HX := Lib.hid (exp_other o c (text.drop (k + 1)) hc)
          clear hc
          go_wp2_with (at_builtin; refine wpList_appendByte _ rfl (.tmp 22) (.tmp 26) rfl w.heap.size _ out rfl (Hown.out.alloc _) wr.heap.size c rfl ?c1 (by omega) ?c2 ?_)
          case c1 => simp
          case c2 => simp; omega
          intro v' w' hown' hbel'
          have Hown' := Lib.hid hown'
          have Hbel' := Lib.hid hbel'
          clear hown' hbel'
          go_wp2
          go_roundw
          case rel =>
            refine ⟨k + 1, out ++ [c], by go_num, by omega, Hown'.out, (Hbel.out.alloc hBr _).trans Hbel'.out, ?_, by simp; omega⟩
            rw [← He.out, Hd.out, HX.out]
            cases exp o 0 (text.drop (k + 1)) <;> simp
          case measure => simp [intOf]; omega
      · have Hfin : Hid (expandL text o = fin (some out)) := Lib.hid (by
          rw [Hdef.out, ← He.out, List.drop_eq_nil_of_le (by omega)]; simp [exp_nil])
        have Hc := Lib.hid Hown.out.conv
        by_cases hout : out.length ≤ 200
        · have hc := Hc.out
          go_wp2
          go_ret2
          have e : expandL text o = (out, 0) := by rw [Hfin.out]; exact if_pos hout
          exact ⟨by rw [e]; rfl, Hbel.out⟩
        · go_wp2
          go_ret2
          have e : expandL text o = ([], 2) := by rw [Hfin.out]; exact if_neg hout
          exact ⟨by rw [e]; rfl, Hbel.out⟩
  · go_wp2
    go_ret2
    exact ⟨by simp [expandL, hl], Below.refl _ _⟩

end Go.Proofs.YtmckjdopplchbaaDoor
