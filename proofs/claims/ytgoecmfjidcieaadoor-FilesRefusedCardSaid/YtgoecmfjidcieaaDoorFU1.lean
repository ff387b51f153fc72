/- the directory a path stands in, and a name in a directory: up, join; Within of both -/
import Derived.Test.YtgoecmfjidcieaaDoorFR3
import Derived.Test.YtgoecmfjidcieaaDoorFPlain2
import Derived.Lib.LastIndexByte
namespace Go.Proofs.YtgoecmfjidcieaaDoor
set_option linter.unusedVariables false
set_option linter.unusedSimpArgs false
open Go.RowKit

def lastSlash (l : List UInt8) : Int := Lib.lastIndexByte ⟨l.toArray⟩ 47
def upL (p : List UInt8) : List UInt8 := p.take (max 1 (lastSlash p)).toNat
def joinL (d p : List UInt8) : List UInt8 := if d = [47] then d ++ p else d ++ 47 :: p
theorem lastSlash_le (l : List UInt8) : -1 ≤ lastSlash l ∧ lastSlash l < l.length := by
  have e : (⟨l.toArray⟩ : ByteArray).size = l.length := by simp [ByteArray.size]
  unfold lastSlash
  rcases Lib.lastIndexByte_spec ⟨l.toArray⟩ 47 with ⟨h, _⟩ | ⟨i, hi, h, _⟩
  · rw [h]; omega
  · rw [h]; omega
theorem lastSlash_at (a x : List UInt8) (hx : (47 : UInt8) ∉ x) : lastSlash (a ++ 47 :: x) = a.length := by
  have e : (⟨(a ++ 47 :: x).toArray⟩ : ByteArray).size = a.length + x.length + 1 := by simp [ByteArray.size]; omega
  have hg : ∀ j, j < a.length + x.length + 1 → ((⟨(a ++ 47 :: x).toArray⟩ : ByteArray).data[j]!) = (a ++ 47 :: x).getD j 0 := by
    intro j hj
    have hj' : j < (a ++ 47 :: x).length := by simp; omega
    have e1 : (a ++ 47 :: x)[j]? = some ((a ++ 47 :: x)[j]) := List.getElem?_eq_getElem hj'
    simp only [List.getD_eq_getElem?_getD, e1, Array.getElem!_eq_getD, Array.getD_eq_getD_getElem?, List.getElem?_toArray, Option.getD_some]
  unfold lastSlash
  rcases Lib.lastIndexByte_spec ⟨(a ++ 47 :: x).toArray⟩ 47 with ⟨_, h⟩ | ⟨i, hi, h, hc, hn⟩
  · exfalso
    have := h a.length (by rw [e]; omega)
    rw [hg _ (by omega)] at this
    exact this (by simp)
  · rw [h]
    rw [e] at hi hn
    rcases Nat.lt_trichotomy i a.length with h1 | h1 | h1
    · exfalso
      have := hn a.length h1 (by omega)
      rw [hg _ (by omega)] at this
      exact this (by simp)
    · rw [h1]
    · exfalso
      rw [hg i hi] at hc
      have e1 : (a ++ 47 :: x).getD i 0 = x.getD (i - a.length - 1) 0 := by
        obtain ⟨k, rfl⟩ : ∃ k, i = a.length + (k + 1) := ⟨i - a.length - 1, by omega⟩
        simp [List.getElem?_append_right, show a.length + (k + 1) - a.length - 1 = k by omega]
      rw [e1] at hc
      have hlt : i - a.length - 1 < x.length := by omega
      have e2 : x.getD (i - a.length - 1) 0 = x[i - a.length - 1] := by simp [hlt]
      rw [e2] at hc
      have : x[i - a.length - 1] = 47 := by
        apply UInt8.toNat_inj.1
        have h47 : (47 : UInt8).toNat = 47 := rfl
        omega
      exact hx (this ▸ List.getElem_mem hlt)
theorem upL_whole (r : List (List UInt8)) (hr : ∀ q ∈ r, (47 : UInt8) ∉ q) : upL (wholeL r) = wholeL r.dropLast := by
  rcases List.eq_nil_or_concat r with rfl | ⟨rs, x, rfl⟩
  · decide
  · have h1 : wholeL (rs ++ [x]) = textL rs ++ 47 :: x := by rw [← textL_whole _ (by simp), textL_snoc]
    have h2 := lastSlash_at (textL rs) x (hr x (by simp))
    have h3 : (rs ++ [x]).dropLast = rs := by simp
    rw [List.concat_eq_append] at *
    rw [upL, h1, h2, h3]
    by_cases h0 : rs = []
    · subst h0
      show List.take (max 1 (0 : Int)).toNat (47 :: x) = [47]
      rfl
    · rw [textL_whole rs h0]
      have : 1 ≤ (wholeL rs).length := by simp [wholeL]
      rw [show (max 1 ((wholeL rs).length : Int)).toNat = (wholeL rs).length by omega]
      simp
theorem upL_ne {p : List UInt8} (h : p ≠ []) : upL p ≠ [] := by
  cases p with
  | nil => exact absurd rfl h
  | cons c r =>
    unfold upL
    obtain ⟨k, hk⟩ : ∃ k, (max 1 (lastSlash (c :: r))).toNat = k + 1 := ⟨(max 1 (lastSlash (c :: r))).toNat - 1, by omega⟩
    rw [hk]; simp
theorem upL_len (p : List UInt8) : (upL p).length ≤ p.length := by unfold upL; simp; omega

set_option maxHeartbeats 2000000 in
set_option maxRecDepth 100000 in
theorem up_any (w : World) (p : List UInt8) (h0 : p ≠ []) (hl : p.length ≤ 1099511627776) :
    Calls Tryd.prog 35 #[.string ⟨p.toArray⟩] w fun e w' => e = .returned (.string ⟨(upL p).toArray⟩) ∧ w' = w := by
  have hsz := size_mk' p
  have hb := lastSlash_le p
  have hp : 0 < p.length := List.length_pos_iff.2 h0
  have HL := Lib.hid (Tryd.strings_LastIndexByte ⟨p.toArray⟩ 47 (by rw [hsz]; omega) w)
  have e1 : Lib.lastIndexByte ⟨p.toArray⟩ 47 = lastSlash p := rfl
  rw [e1] at HL
  have Hx : Hid ((⟨p.toArray⟩ : ByteArray).extract 0 (max 1 (lastSlash p)).toNat = ⟨(upL p).toArray⟩) := Lib.hid (by rw [Lib.extract_eq]; simp [upL])
  clear h0 e1
  generalize lastSlash p = k at *
  go_enter Tryd.func35, Tryd.ntmps35
  go_wp2_with fail
  refine HL.out.mono ?_
  rintro e w2 ⟨rfl, rfl⟩
  go_wp2
  go_ret
  exact ⟨by rw [← Hx.out]; try rfl, rfl⟩

set_option maxHeartbeats 2000000 in
set_option maxRecDepth 100000 in
theorem join_any (w : World) (d p : List UInt8) (hl : d.length ≤ 1099511627776) (hl2 : p.length ≤ 1099511627776) :
    Calls Tryd.prog 52 #[.string ⟨d.toArray⟩, .string ⟨p.toArray⟩] w fun e w' => e = .returned (.string ⟨(joinL d p).toArray⟩) ∧ w' = w := by
  have hsz := size_mk' d
  have hsp := size_mk' p
  by_cases h : d = [47]
  · subst h
    have Hj : Hid ((⟨#[47]⟩ : ByteArray) ++ ⟨p.toArray⟩ = ⟨(joinL [47] p).toArray⟩) := Lib.hid (by rw [joinL, if_pos rfl]; exact mk_append' [47] p)
    go_enter Tryd.func52, Tryd.ntmps52
    go_wp2
    go_ret
    exact ⟨by rw [← Hj.out]; try rfl, rfl⟩
  · have hb : (d == [47]) = false := by simp [h]
    have hs2 := size_mk' (d ++ [47])
    have a1 : (⟨d.toArray⟩ : ByteArray) ++ ⟨#[47]⟩ = ⟨(d ++ [47]).toArray⟩ := mk_append' d [47]
    have a2 : (⟨(d ++ [47]).toArray⟩ : ByteArray) ++ ⟨p.toArray⟩ = ⟨(d ++ [47] ++ p).toArray⟩ := mk_append' _ p
    have e3 : (d ++ [47]).length = d.length + 1 := by simp
    have Hj : Hid (d ++ [47] ++ p = joinL d p) := Lib.hid (by rw [joinL, if_neg h]; simp)
    rw [← Hj.out]
    clear h
    go_enter Tryd.func52, Tryd.ntmps52
    go_wp2
    go_ret
    exact ⟨by simp only [List.append_assoc, List.cons_append, List.nil_append]; try rfl, rfl⟩

def withinL (path : List UInt8) : List UInt8 × Int := if (cleanL path).2 = 0 then (upL (cleanL path).1, 0) else ([], (cleanL path).2)

set_option maxHeartbeats 2000000 in
set_option maxRecDepth 100000 in
theorem within_any (m : Int) (w : World) (path : List UInt8) (hm : w.cell? ⟨0, 0, none⟩ = some (.int .i64 m)) :
    Calls Tryd.prog 11 #[.string ⟨path.toArray⟩] w fun e w' => e = .returned (.tuple #[.string ⟨(withinL path).1.toArray⟩, .int .i64 (withinL path).2]) ∧ Below w.heap.size w w' := by
  have HC := Lib.hid (clean_any m w path hm)
  clear hm
  by_cases h : (cleanL path).2 = 0
  · obtain ⟨_, h1, h2, _⟩ := cleanL_idem h
    have h3 : (cleanL path).1.length ≤ 200 := by
      obtain ⟨l, hl, _⟩ := cleanL_ok h
      have := (partsL_inv hl).1
      omega
    have hw : withinL path = (upL (cleanL path).1, 0) := by rw [withinL, if_pos h]
    rw [hw]
    rw [h] at HC
    have hne : (cleanL path).1 ≠ [] := fun e => by rw [e] at h1; simp at h1
    clear h h2 hw h1
    generalize (cleanL path).1 = p at *
    have HU := Lib.hid (fun w => up_any w p hne (by omega))
    clear hne
    go_enter Tryd.func11, Tryd.ntmps11
    go_wp2_with fail
    refine HC.out.mono ?_
    rintro e w2 ⟨rfl, hb⟩
    have Hb := Lib.hid hb
    clear hb
    go_wp2_with fail
    refine (HU.out _).mono ?_
    rintro e w3 ⟨rfl, rfl⟩
    go_wp2
    go_ret2
    exact ⟨rfl, Hb.out⟩
  · have hw : withinL path = ([], (cleanL path).2) := by rw [withinL, if_neg h]
    rw [hw]
    have hd : ((cleanL path).2 != 0) = true := by simp [h]
    clear h hw
    generalize (cleanL path).1 = p at *
    generalize (cleanL path).2 = n at *
    go_enter Tryd.func11, Tryd.ntmps11
    go_wp2_with fail
    refine HC.out.mono ?_
    rintro e w2 ⟨rfl, hb⟩
    have Hb := Lib.hid hb
    clear hb
    go_wp2
    go_ret2
    exact ⟨rfl, Hb.out⟩

set_option maxHeartbeats 2000000 in
set_option maxRecDepth 100000 in
theorem cwithin_any (w : World) (path : List UInt8) :
    Calls Tryd.prog 12 #[.string ⟨path.toArray⟩] w fun e w' => e = .returned (.tuple #[.string ⟨(withinL path).1.toArray⟩, .int .i64 (withinL path).2]) ∧ Below w.heap.size w w' := by
  have HC := Lib.hid (cclean_any w path)
  by_cases h : (cleanL path).2 = 0
  · obtain ⟨l, h1, h2, h3⟩ := cleanL_ok h
    have hr := rightParts_of h1
    have hpl := partsL_inv h1
    have hwt := weight_of h1 h2
    have hps := partsL_some h1
    have hlen : (lexF [] l).length ≤ 201 := by have := lexF_len l []; simp at this; omega
    have hq : ∀ q ∈ lexF [] l, q.length ≤ 200 := fun q hq => by
      rcases lexF_mem l [] q hq with h | h
      · simp at h
      · exact hps.2.2 q h
    have hab : partsL (wholeL (lexF [] l)) = some (lexF [] l) := by
      refine partsL_whole hr ?_
      have : 1 ≤ path.length := by cases path with
        | nil => cases h2
        | cons _ _ => simp
      omega
    have hup := upL_whole (lexF [] l) hr.noSep
    have hw : withinL path = (wholeL (lexF [] l).dropLast, 0) := by rw [withinL, if_pos h, h3, hup]
    rw [hw]
    rw [h3] at HC
    clear h h1 h2 h3 hr hpl hwt hps hup hw
    generalize lexF [] l = r at *
    have HA := Lib.hid (fun w => cparts_any w (wholeL r))
    rw [hab] at HA
    clear hab
    have Hq := Lib.hid hq
    clear hq
    generalize wholeL r = p at *
    go_enter Tryd.func12, Tryd.ntmps12
    go_wp2_with fail
    refine HC.out.mono ?_
    rintro e w2 ⟨rfl, hb⟩
    have Hb := Lib.hid hb
    have hb1 := hb.size
    clear hb
    go_wp2_with fail
    refine (HA.out _).mono ?_
    rintro e w3 ⟨v, rfl, hv, hb⟩
    have hv' : OwnS w2.heap.size w3 v r := hv
    have HB := Lib.hid (above_any _ _ _ _ hv' (by omega))
    have Hb2 := Lib.hid (Hb.out.trans (hb.mono hb1))
    clear hb hv hv'
    go_wp2_with fail
    refine HB.out.mono ?_
    rintro e w4 ⟨u, rfl, hu, rfl⟩
    have HT := Lib.hid (text_any _ _ _ hu.strs (fun q hq => Hq.out q (List.dropLast_subset _ hq)) (by simp; omega))
    clear hu
    go_wp2_with fail
    refine HT.out.mono ?_
    rintro e w5 ⟨rfl, rfl⟩
    go_wp2
    go_ret2
    exact ⟨rfl, Hb2.out⟩
  · have hw : withinL path = ([], (cleanL path).2) := by rw [withinL, if_neg h]
    have hp : (cleanL path).1 = [] := by rw [cleanL_bad h]
    rw [hw]
    have hd : ((cleanL path).2 != 0) = true := by simp [h]
    rw [hp] at HC
    have HA := Lib.hid (fun w => cparts_any w [])
    clear h hw hp
    generalize (cleanL path).2 = n at *
    go_enter Tryd.func12, Tryd.ntmps12
    go_wp2_with fail
    refine HC.out.mono ?_
    rintro e w2 ⟨rfl, hb⟩
    have Hb := Lib.hid hb
    have hb1 := hb.size
    clear hb
    go_wp2_with fail
    refine (HA.out _).mono ?_
    rintro e w3 ⟨v, rfl, hv, hb⟩
    have Hb2 := Lib.hid (Hb.out.trans (hb.mono hb1))
    clear hb hv
    go_wp2
    go_ret2
    exact ⟨rfl, Hb2.out⟩

end Go.Proofs.YtgoecmfjidcieaaDoor
