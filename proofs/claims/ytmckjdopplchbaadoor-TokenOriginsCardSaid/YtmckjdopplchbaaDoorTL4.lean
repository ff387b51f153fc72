/- Lemmas that the claim is proved from: what calls of functions of the program come to (contracts), and plain laws. Each lemma bears its own conditions. -/
import Derived.Test.YtmckjdopplchbaaDoorTL3
namespace Go.Proofs.YtmckjdopplchbaaDoor
set_option linter.unusedVariables false
set_option linter.unusedSimpArgs false
open Go.RowKit

def tSign : List UInt8 := [36, 79, 82, 73, 71, 73, 78, 47, 36, 76, 73, 66, 58]
def tTail : List UInt8 := [47, 108, 105, 98, 58]
/-- a text k times over -/
def rep (x : List UInt8) : Nat → List UInt8
  | 0 => []
  | k + 1 => rep x k ++ x
theorem rep_length (x : List UInt8) : ∀ k, (rep x k).length = k * x.length
  | 0 => by simp [rep]
  | k + 1 => by rw [rep, List.length_append, rep_length x k, Nat.succ_mul]
theorem exp_sign (o : List UInt8) : exp o 0 tSign = some (o ++ tTail) := by
  simp [tSign, exp, wORIGIN, wLIB, wlib, tTail, List.isPrefixOf]
theorem exp_rep (o : List UInt8) : ∀ k, exp o 0 (rep tSign k) = some (rep (o ++ tTail) k)
  | 0 => by simp [rep, exp_nil]
  | k + 1 => by
    rw [rep, exp_append o tSign (rep tSign k) 0 _ (Nat.zero_le _) (exp_rep o k), exp_sign]
    simp [rep]

set_option maxHeartbeats 2000000 in
set_option maxRecDepth 100000 in
theorem law_origins (m : Int) (w : World) (o : List UInt8) (n : Int) (hm : w.cell? ⟨0, 0, none⟩ = some (.int .i64 m)) (_ : ByteArray.size ⟨o.toArray⟩ ≤ maxLen) (hn : (Lit.int .u8 n).wf = true) :
    Calls Tryd.prog 6 #[.string ⟨o.toArray⟩, .int .u8 n] w fun e w' => e = .returned (.bool true) ∧ Below w.heap.size w w' := by
  have h0 : 0 < w.heap.size := World.block_lt_of_cell? w _ hm
  have hso := size_mk o
  have Hm := Lib.hid hm
  have H1 := Lib.hid (tawake_any m w hm)
  obtain ⟨hn0, hn1⟩ : 0 ≤ n ∧ n ≤ 255 := by
    simp [Lit.wf, IntKind.min, IntKind.max, IntKind.signed, IntKind.bits] at hn
    omega
  clear hm hn
  go_enter Tryd.func6, Tryd.ntmps6
  go_wp2_with fail
  refine H1.out.mono ?_
  rintro e w1 ⟨rfl, hb1⟩
  have hm1 : w1.cell? ⟨0, 0, none⟩ = some (.int .i64 m) := by rw [hb1.cell (p := ⟨0, 0, none⟩) h0]; exact Hm.out
  have Hm1 := Lib.hid hm1
  have Hb1 := Lib.hid hb1
  clear hm1 hb1
  by_cases hl : o.length ≤ 500
  case neg =>
    go_wp2
    go_ret
    exact ⟨rfl, Hb1.out⟩
  obtain ⟨K, hK, hK8⟩ : ∃ K : Nat, n % 9 = K ∧ K ≤ 8 := ⟨(n % 9).toNat, by omega, by omega⟩
  go_wp2_with fail
  rw [hK]
  clear hK
  go_loop [7, 8, 9] (fun a b i => ∃ k : Nat, k ≤ K ∧ i = .int .i64 k ∧ a = .string ⟨(rep tSign k).toArray⟩ ∧ b = .string ⟨(rep (o ++ tTail) k).toArray⟩) (fun _ _ i => K - (intOf i).toNat)
  case atStart => exact ⟨0, Nat.zero_le _, rfl, rfl, rfl⟩
  case round =>
    obtain ⟨k, hk, rfl, rfl, rfl⟩ := hrel
    by_cases hlt : k < K
    · have ha : (⟨(rep tSign k).toArray⟩ : ByteArray) ++ ⟨#[36, 79, 82, 73, 71, 73, 78, 47, 36, 76, 73, 66, 58]⟩ = ⟨(rep tSign (k + 1)).toArray⟩ := mk_append (rep tSign k) tSign
      have hb : (⟨o.toArray⟩ : ByteArray) ++ ⟨#[47, 108, 105, 98, 58]⟩ = ⟨(o ++ tTail).toArray⟩ := mk_append o tTail
      have hc : (⟨(rep (o ++ tTail) k).toArray⟩ : ByteArray) ++ ⟨(o ++ tTail).toArray⟩ = ⟨(rep (o ++ tTail) (k + 1)).toArray⟩ := mk_append _ _
      have s1 := size_mk (rep tSign k)
      have s2 := size_mk (rep (o ++ tTail) k)
      have s3 := size_mk (o ++ tTail)
      have q1 : (rep tSign k).length ≤ 200 := by rw [rep_length]; simp [tSign]; omega
      have q2 : (rep (o ++ tTail) k).length ≤ 8 * 505 := by
        rw [rep_length]
        exact Nat.mul_le_mul (by omega) (by simp [tTail]; omega)
      have q3 : (o ++ tTail).length ≤ 505 := by simp [tTail]; omega
      go_wp2
      go_round
      case rel => exact ⟨k + 1, by omega, by go_num, rfl, rfl⟩
      case measure => simp [intOf]; omega
    · obtain rfl : k = K := by omega
      have hwl := size_mk (rep (o ++ tTail) k)
      have hwl3 : (rep (o ++ tTail) k).length ≤ 8 * 505 := by
        rw [rep_length]
        exact Nat.mul_le_mul hK8 (by simp [tTail]; omega)
      have htl : (rep tSign k).length ≤ 200 := by rw [rep_length]; simp [tSign]; omega
      have H2 := expand_any m w1 (rep tSign k) o Hm1.out (Or.inl (by omega))
      by_cases hw : (rep (o ++ tTail) k).length ≤ 200
      · have he : expandL (rep tSign k) o = (rep (o ++ tTail) k, 0) := by rw [expandL, if_pos htl, exp_rep]; exact if_pos hw
        rw [he] at H2
        have H2' := Lib.hid H2
        clear H2 he
        generalize rep (o ++ tTail) k = want at *
        go_wp2_with fail
        refine H2'.out.mono ?_
        rintro e w2 ⟨rfl, hb2⟩
        have Hb2 := Lib.hid (Hb1.out.trans (hb2.mono Hb1.out.size))
        clear hb2
        go_wp2
        go_ret
        exact ⟨by simp, Hb2.out⟩
      · have he : expandL (rep tSign k) o = ([], 2) := by rw [expandL, if_pos htl, exp_rep]; exact if_neg hw
        rw [he] at H2
        have H2' := Lib.hid H2
        clear H2 he
        generalize rep (o ++ tTail) k = want at *
        go_wp2_with fail
        refine H2'.out.mono ?_
        rintro e w2 ⟨rfl, hb2⟩
        have Hb2 := Lib.hid (Hb1.out.trans (hb2.mono Hb1.out.size))
        clear hb2
        go_wp2
        go_ret
        exact ⟨rfl, Hb2.out⟩

end Go.Proofs.YtmckjdopplchbaaDoor
