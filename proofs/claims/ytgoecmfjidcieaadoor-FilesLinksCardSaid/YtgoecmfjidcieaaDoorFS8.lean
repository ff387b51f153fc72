/- Mkdir, Symlink -/
import Derived.Test.YtgoecmfjidcieaaDoorFS7
namespace Go.Proofs.YtgoecmfjidcieaaDoor
set_option linter.unusedVariables false
set_option linter.unusedSimpArgs false
open Go.RowKit

theorem placeL_len (st : StL) (path : List UInt8) : (placeL st path).1.length ≤ 3000 := by
  unfold placeL
  cases h : absL path with
  | none => simp
  | some l =>
    have h1 := walkL_len st.has false l [47] 0
    have h2 := absL_weight h
    simp only [List.length_singleton] at h1
    simp only
    split
    · simp
    · split
      · simp
      · simp only; omega

def mkdirL (st : StL) (path : List UInt8) : Int × StL :=
  if (placeL st path).2.2 ≠ 0 then ((placeL st path).2.2, st) else if (placeL st path).2.1.kind ≠ 0 then (32, st) else freshL st (placeL st path).1 ⟨2, 0, [], []⟩
def symL (st : StL) (path to_ : List UInt8) : Int × StL :=
  if (placeL st path).2.2 ≠ 0 then ((placeL st path).2.2, st) else if (placeL st path).2.1.kind ≠ 0 then (32, st) else if partsL to_ = none ∨ to_ = [] then (30, st) else freshL st (placeL st path).1 ⟨3, 0, [], to_⟩

set_option maxHeartbeats 4000000 in
set_option maxRecDepth 100000 in
theorem mkdir_any (m : Int) (w : World) (s b : Nat) (st : StL) (path : List UInt8) (hm : w.cell? ⟨0, 0, none⟩ = some (.int .i64 m)) (hM : SM s b w st) (hok : OkSt st) :
    Calls Tryd.prog 27 #[.pointer (some ⟨s, 0, none⟩), .string ⟨path.toArray⟩] w fun e w' => e = .returned (.int .i64 (mkdirL st path).1) ∧ SM s b w' (mkdirL st path).2 ∧ w.grownBy w' (some b) := by
  have HP := Lib.hid (place_any m w s b st path hm hM hok)
  have hpl := placeL_len st path
  have hc := hok.count
  have HM := Lib.hid hM
  clear hm hM hok
  unfold mkdirL
  generalize placeL st path = R at *
  obtain ⟨p, n, e⟩ := R
  simp only at hpl ⊢
  have HP2 : Hid (Calls Tryd.prog 38 #[.pointer (some ⟨s, 0, none⟩), .string ⟨path.toArray⟩] w fun e' w' => e' = .returned (.tuple #[.string ⟨p.toArray⟩, .agg #[.int .i64 n.kind, .int .i64 n.id, .string ⟨n.bytes.toArray⟩, .string ⟨n.dest.toArray⟩], .int .i64 e]) ∧ Below w.heap.size w w') := HP
  clear HP
  by_cases he : e ≠ 0
  · have heb : (e != 0) = true := by simp [he]
    rw [if_pos he]
    clear he
    go_enter Tryd.func27, Tryd.ntmps27
    go_wp2_with fail
    refine HP2.out.mono ?_
    rintro e' w2 ⟨rfl, hb⟩
    have HS := Lib.hid ((HM.out.below hb).alloc (.cells #[.int .i64 n.kind, .int .i64 n.id, .string ⟨n.bytes.toArray⟩, .string ⟨n.dest.toArray⟩] 58))
    have HG := Lib.hid (grown_none (b := b) (grown_of_below (hb.alloc hb.size (.cells #[.int .i64 n.kind, .int .i64 n.id, .string ⟨n.bytes.toArray⟩, .string ⟨n.dest.toArray⟩] 58))))
    clear hb
    go_wp2
    go_ret
    exact ⟨rfl, HS.out, HG.out⟩
  · have heb : (e != 0) = false := by simpa using he
    rw [if_neg he]
    clear he
    by_cases hk : n.kind ≠ 0
    · have hkb : (n.kind != 0) = true := by simp [hk]
      rw [if_pos hk]
      clear hk
      go_enter Tryd.func27, Tryd.ntmps27
      go_wp2_with fail
      refine HP2.out.mono ?_
      rintro e' w2 ⟨rfl, hb⟩
      have HS := Lib.hid ((HM.out.below hb).alloc (.cells #[.int .i64 n.kind, .int .i64 n.id, .string ⟨n.bytes.toArray⟩, .string ⟨n.dest.toArray⟩] 58))
      have HG := Lib.hid (grown_none (b := b) (grown_of_below (hb.alloc hb.size (.cells #[.int .i64 n.kind, .int .i64 n.id, .string ⟨n.bytes.toArray⟩, .string ⟨n.dest.toArray⟩] 58))))
      clear hb
      go_wp2
      go_ret
      exact ⟨rfl, HS.out, HG.out⟩
    · have hkb : (n.kind != 0) = false := by simpa using hk
      rw [if_neg hk]
      clear hk
      go_enter Tryd.func27, Tryd.ntmps27
      go_wp2_with fail
      refine HP2.out.mono ?_
      rintro e' w2 ⟨rfl, hb⟩
      have HF := Lib.hid (fresh_any _ s b st p ⟨2, 0, [], []⟩ ((HM.out.below hb).alloc (.cells #[.int .i64 n.kind, .int .i64 n.id, .string ⟨n.bytes.toArray⟩, .string ⟨n.dest.toArray⟩] 58)) hc hpl)
      have HG := Lib.hid (grown_of_below (hb.alloc hb.size (.cells #[.int .i64 n.kind, .int .i64 n.id, .string ⟨n.bytes.toArray⟩, .string ⟨n.dest.toArray⟩] 58)))
      clear hb
      go_wp2_with fail
      refine HF.out.mono ?_
      rintro e' w3 ⟨rfl, hS, hG⟩
      have HS := Lib.hid hS
      have HG3 := Lib.hid (grown_trans HG.out hG)
      clear hS hG
      go_wp2
      go_ret
      exact ⟨rfl, HS.out, HG3.out⟩

set_option maxHeartbeats 4000000 in
set_option maxRecDepth 100000 in
theorem sym_any (m : Int) (w : World) (s b : Nat) (st : StL) (path to_ : List UInt8) (hm : w.cell? ⟨0, 0, none⟩ = some (.int .i64 m)) (hM : SM s b w st) (hok : OkSt st) :
    Calls Tryd.prog 19 #[.pointer (some ⟨s, 0, none⟩), .string ⟨path.toArray⟩, .string ⟨to_.toArray⟩] w fun e w' => e = .returned (.int .i64 (symL st path to_).1) ∧ SM s b w' (symL st path to_).2 ∧ w.grownBy w' (some b) := by
  have HP := Lib.hid (place_any m w s b st path hm hM hok)
  have h0lt : 0 < w.heap.size := World.block_lt_of_cell? _ _ hm
  have hpl := placeL_len st path
  have hc := hok.count
  have HM := Lib.hid hM
  have Hm := Lib.hid hm
  clear hm hM hok
  unfold symL
  generalize placeL st path = R at *
  obtain ⟨p, n, e⟩ := R
  simp only at hpl ⊢
  have HP2 : Hid (Calls Tryd.prog 38 #[.pointer (some ⟨s, 0, none⟩), .string ⟨path.toArray⟩] w fun e' w' => e' = .returned (.tuple #[.string ⟨p.toArray⟩, .agg #[.int .i64 n.kind, .int .i64 n.id, .string ⟨n.bytes.toArray⟩, .string ⟨n.dest.toArray⟩], .int .i64 e]) ∧ Below w.heap.size w w') := HP
  clear HP
  have hts := size_mk' to_
  by_cases he : e ≠ 0
  · have heb : (e != 0) = true := by simp [he]
    rw [if_pos he]
    clear he
    go_enter Tryd.func19, Tryd.ntmps19
    go_wp2_with fail
    refine HP2.out.mono ?_
    rintro e' w2 ⟨rfl, hb⟩
    have HS := Lib.hid ((HM.out.below hb).alloc (.cells #[.int .i64 n.kind, .int .i64 n.id, .string ⟨n.bytes.toArray⟩, .string ⟨n.dest.toArray⟩] 58))
    have HG := Lib.hid (grown_none (b := b) (grown_of_below (hb.alloc hb.size (.cells #[.int .i64 n.kind, .int .i64 n.id, .string ⟨n.bytes.toArray⟩, .string ⟨n.dest.toArray⟩] 58))))
    clear hb
    go_wp2
    go_ret
    exact ⟨rfl, HS.out, HG.out⟩
  · have heb : (e != 0) = false := by simpa using he
    rw [if_neg he]
    clear he
    by_cases hk : n.kind ≠ 0
    · have hkb : (n.kind != 0) = true := by simp [hk]
      rw [if_pos hk]
      clear hk
      go_enter Tryd.func19, Tryd.ntmps19
      go_wp2_with fail
      refine HP2.out.mono ?_
      rintro e' w2 ⟨rfl, hb⟩
      have HS := Lib.hid ((HM.out.below hb).alloc (.cells #[.int .i64 n.kind, .int .i64 n.id, .string ⟨n.bytes.toArray⟩, .string ⟨n.dest.toArray⟩] 58))
      have HG := Lib.hid (grown_none (b := b) (grown_of_below (hb.alloc hb.size (.cells #[.int .i64 n.kind, .int .i64 n.id, .string ⟨n.bytes.toArray⟩, .string ⟨n.dest.toArray⟩] 58))))
      clear hb
      go_wp2
      go_ret
      exact ⟨rfl, HS.out, HG.out⟩
    · have hkb : (n.kind != 0) = false := by simpa using hk
      rw [if_neg hk]
      clear hk
      have hcase : (partsL to_ = none ∨ to_ = []) ∨ ∃ l c tl, partsL to_ = some l ∧ to_ = c :: tl := by
        cases hp : partsL to_ with
        | none => exact Or.inl (Or.inl rfl)
        | some l => cases to_ with
          | nil => exact Or.inl (Or.inr rfl)
          | cons c tl => exact Or.inr ⟨l, c, tl, rfl, rfl⟩
      have HPar : Hid (∀ w', Below w.heap.size w w' → _) := Lib.hid (fun w' hb => parts_any m w' to_ ((hb.cell (p := ⟨0, 0, none⟩) h0lt).trans Hm.out))
      rcases hcase with hbad | ⟨l, c, tl, hp, rfl⟩
      · rw [if_pos hbad]
        have hb3 : (partsL to_).isSome = false ∨ ((partsL to_).isSome = true ∧ to_ = []) := by
          rcases hbad with h | h
          · exact Or.inl (by rw [h]; rfl)
          · cases hp : (partsL to_).isSome
            · exact Or.inl rfl
            · exact Or.inr ⟨rfl, h⟩
        clear hbad
        rcases hb3 with h3 | ⟨h3, rfl⟩
        all_goals
          rw [h3] at HPar
          clear h3
          go_enter Tryd.func19, Tryd.ntmps19
          go_wp2_with fail
          refine HP2.out.mono ?_
          rintro e' w2 ⟨rfl, hb⟩
          have hba := hb.alloc hb.size (.cells #[.int .i64 n.kind, .int .i64 n.id, .string ⟨n.bytes.toArray⟩, .string ⟨n.dest.toArray⟩] 58)
          have hMa := (HM.out.below hb).alloc (.cells #[.int .i64 n.kind, .int .i64 n.id, .string ⟨n.bytes.toArray⟩, .string ⟨n.dest.toArray⟩] 58)
          have HX := Lib.hid (HPar.out _ hba)
          have HS := Lib.hid hMa
          have HB := Lib.hid hba
          clear hb hba hMa
          go_wp2_with fail
          refine HX.out.mono ?_
          rintro e' w3 ⟨v, rfl, hown, hb⟩
          have HS3 := Lib.hid (HS.out.below hb)
          have HG3 := Lib.hid (grown_none (b := b) (grown_of_below (HB.out.trans (hb.mono HB.out.size))))
          clear hown hb
          go_wp2
          go_ret
          exact ⟨rfl, HS3.out, HG3.out⟩
      · have hpt := partsL_inv hp
        rw [if_neg (by rintro (h | h); rw [h] at hp; cases hp; cases h)]
        have h3 : (partsL (c :: tl)).isSome = true := by rw [hp]; rfl
        rw [h3] at HPar
        have hxl : (c :: tl).length = tl.length + 1 := rfl
        have hce : ((c :: tl) == []) = false := rfl
        clear h3 hp hpt
        go_enter Tryd.func19, Tryd.ntmps19
        go_wp2_with fail
        refine HP2.out.mono ?_
        rintro e' w2 ⟨rfl, hb⟩
        have hba := hb.alloc hb.size (.cells #[.int .i64 n.kind, .int .i64 n.id, .string ⟨n.bytes.toArray⟩, .string ⟨n.dest.toArray⟩] 58)
        have hMa := (HM.out.below hb).alloc (.cells #[.int .i64 n.kind, .int .i64 n.id, .string ⟨n.bytes.toArray⟩, .string ⟨n.dest.toArray⟩] 58)
        have HX := Lib.hid (HPar.out _ hba)
        have HS := Lib.hid hMa
        have HB := Lib.hid hba
        clear hb hba hMa
        go_wp2_with fail
        refine HX.out.mono ?_
        rintro e' w3 ⟨v, rfl, hown, hb⟩
        have HF := Lib.hid (fresh_any _ s b st p ⟨3, 0, [], c :: tl⟩ (HS.out.below hb) hc hpl)
        have HG := Lib.hid (grown_of_below (HB.out.trans (hb.mono HB.out.size)))
        clear hown hb
        go_wp2_with fail
        refine HF.out.mono ?_
        rintro e' w4 ⟨rfl, hS, hG⟩
        have HS4 := Lib.hid hS
        have HG4 := Lib.hid (grown_trans HG.out hG)
        clear hS hG
        go_wp2
        go_ret
        exact ⟨rfl, HS4.out, HG4.out⟩

end Go.Proofs.YtgoecmfjidcieaaDoor
