/- Lemmas that the claim is proved from: what calls of functions of the program come to (contracts), and plain laws. Each lemma bears its own conditions. -/
import Derived.Test.YtmckjdopplchbaaDoorSR5
namespace Go.Proofs.YtmckjdopplchbaaDoor
set_option linter.unusedVariables false
set_option linter.unusedSimpArgs false
open Go.RowKit

/-- pair i of a list, behind names that simp leaves alone -/
def pkey (ks : List (List UInt8 × List UInt8)) (i : Nat) : List UInt8 := (ks.getD i ([], [])).1
def pval (ks : List (List UInt8 × List UInt8)) (i : Nat) : List UInt8 := (ks.getD i ([], [])).2
theorem pkey_take (ks : List (List UInt8 × List UInt8)) (i : Nat) (h : i < ks.length) : ks.take (i + 1) = ks.take i ++ [(pkey ks i, pval ks i)] := by
  rw [List.take_succ_eq_append_getElem h, pkey, pval, show ks.getD i ([], []) = ks[i] by simp [List.getD, h]]
/-- v is a slice of pairs of texts that reads as ks; its cells lie below block B -/
def PairsB (B : Nat) (w : World) (v : Value) (ks : List (List UInt8 × List UInt8)) : Prop :=
  ∃ (a : Option Addr) (b off cap : Nat), v = .slice a ks.length cap ∧ ks.length ≤ 9223372036854775807 ∧ (0 < ks.length → a = some ⟨b, off, none⟩) ∧ ks.length ≤ cap ∧ (0 < ks.length → b < B) ∧
    ∀ i, i < ks.length → w.cell? ⟨b, off + i * 2, none⟩ = some (.string ⟨(pkey ks i).toArray⟩) ∧ w.cell? ⟨b, off + i * 2 + 1, none⟩ = some (.string ⟨(pval ks i).toArray⟩)
theorem PairsB.below {B : Nat} {w w' : World} {v : Value} {ks : List (List UInt8 × List UInt8)} (h : PairsB B w v ks) (hb : Below B w w') : PairsB B w' v ks := by
  obtain ⟨a, b, off, cap, hv, hm, ha, hcap, hlt, hc⟩ := h
  exact ⟨a, b, off, cap, hv, hm, ha, hcap, hlt, fun i hi => by
    rw [hb.cell (p := ⟨b, off + i * 2, none⟩) (hlt (by omega)), hb.cell (p := ⟨b, off + i * 2 + 1, none⟩) (hlt (by omega))]; exact hc i hi⟩
theorem PairsB.mono {B B' : Nat} {w : World} {v : Value} {ks : List (List UInt8 × List UInt8)} (h : PairsB B w v ks) (hB : B ≤ B') : PairsB B' w v ks := by
  obtain ⟨a, b, off, cap, hv, hm, ha, hcap, hlt, hc⟩ := h
  exact ⟨a, b, off, cap, hv, hm, ha, hcap, fun h0 => Nat.lt_of_lt_of_le (hlt h0) hB, hc⟩

/-- the path that is known for a name: the first -/
def knownL (name : List UInt8) : List (List UInt8 × List UInt8) → Option (List UInt8)
  | [] => none
  | k :: ks => if k.1 = name then some k.2 else knownL name ks
theorem knownL_hit (name x : List UInt8) : ∀ (a b : List (List UInt8 × List UInt8)), knownL name a = none → knownL name (a ++ (name, x) :: b) = some x
  | [], b, _ => by simp [knownL]
  | k :: a, b, h => by
    rw [knownL] at h
    split at h
    · cases h
    · rename_i hne
      rw [List.cons_append, knownL, if_neg hne, knownL_hit name x a b h]
theorem knownL_miss (name : List UInt8) (k : List UInt8 × List UInt8) (hk : k.1 ≠ name) : ∀ a : List (List UInt8 × List UInt8), knownL name a = none → knownL name (a ++ [k]) = none
  | [], _ => by simp [knownL, hk]
  | q :: a, h => by
    rw [knownL] at h
    split at h
    · cases h
    · rename_i hne
      rw [List.cons_append, knownL, if_neg hne, knownL_miss name k hk a h]
theorem pkey_split (ks : List (List UInt8 × List UInt8)) (i : Nat) (h : i < ks.length) : ks = ks.take i ++ (pkey ks i, pval ks i) :: ks.drop (i + 1) := by
  rw [pkey, pval, show ks.getD i ([], []) = ks[i] by simp [List.getD, h]]
  conv => lhs; rw [← List.take_append_drop i ks, List.drop_eq_getElem_cons h]

/-- what cached answers -/
def knownV (o : Option (List UInt8)) : Value := .tuple #[.string ⟨(o.getD []).toArray⟩, .bool o.isSome]

set_option maxHeartbeats 2000000 in
set_option maxRecDepth 100000 in
theorem cached_any (w : World) (pv cv : Value) (ks : List (List UInt8 × List UInt8)) (name : List UInt8) (hc : PairsB w.heap.size w cv ks) :
    Calls Tryd.prog 38 #[.agg #[pv, cv], .string ⟨name.toArray⟩] w fun e w' => e = .returned (knownV (knownL name ks)) ∧ Below w.heap.size w w' := by
  obtain ⟨a, b, off, cap, rfl, hmx, ha, _, hblt, hc⟩ := hc
  have Hc := Lib.hid hc
  clear hc
  go_enter Tryd.func38, Tryd.ntmps38
  go_wp2
  go_loopw [11] (fun i wr => ∃ (k : Nat), i = .int .i64 k ∧ k ≤ ks.length ∧ knownL name (ks.take k) = none ∧ Below w.heap.size w wr) (fun i _ => ks.length - (intOf i).toNat)
  case atStart => exact ⟨0, rfl, Nat.zero_le _, rfl, (Below.refl _ _).alloc (Nat.le_refl _) _⟩
  case round =>
    obtain ⟨k, rfl, hk, hno, hbel⟩ := hrel
    have Hno := Lib.hid hno
    have Hbel := Lib.hid hbel
    have hBr := hbel.size
    by_cases hlt : k < ks.length
    · obtain rfl := ha (by omega)
      have gc : wr.cell? ⟨b, off + k * 2, none⟩ = some (.string ⟨(pkey ks k).toArray⟩) := by
        rw [hbel.cell (p := ⟨b, off + k * 2, none⟩) (hblt (by omega))]; exact (Hc.out k hlt).1
      have gc2 : wr.cell? ⟨b, off + k * 2 + 1, none⟩ = some (.string ⟨(pval ks k).toArray⟩) := by
        rw [hbel.cell (p := ⟨b, off + k * 2 + 1, none⟩) (hblt (by omega))]; exact (Hc.out k hlt).2
      have Ht := Lib.hid (pkey_take ks k hlt)
      have Hs := Lib.hid (pkey_split ks k hlt)
      clear hno hbel
      generalize pkey ks k = p at *
      generalize pval ks k = q at *
      by_cases he : p = name
      · subst he
        have Hk : Hid (knownL p ks = some q) := Lib.hid (by rw [Hs.out]; exact knownL_hit p q _ _ Hno.out)
        go_wp2
        go_ret2
        exact ⟨by rw [Hk.out]; rfl, Hbel.out.alloc hBr _⟩
      · have hez : (p == name) = false := by rw [beq_eq_false_iff_ne]; exact he
        have He := Lib.hid he
        clear he
        go_wp2
        go_roundw
        case rel => exact ⟨k + 1, by go_num, by omega, by rw [Ht.out]; exact knownL_miss name (p, q) He.out _ Hno.out, Hbel.out.alloc hBr _⟩
        case measure => simp [intOf]; omega
    · have Hk : Hid (knownL name ks = none) := Lib.hid (by have := Hno.out; rw [List.take_of_length_le (by omega)] at this; exact this)
      clear hno hbel
      go_wp2
      go_ret2
      exact ⟨by rw [Hk.out]; rfl, Hbel.out⟩

end Go.Proofs.YtmckjdopplchbaaDoor
