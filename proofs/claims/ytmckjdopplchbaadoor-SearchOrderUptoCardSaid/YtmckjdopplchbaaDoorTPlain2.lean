/- Lemmas that the claim is proved from: what calls of functions of the program come to (contracts), and plain laws. Each lemma bears its own conditions. -/
import Derived.Test.YtmckjdopplchbaaDoorTPlain
import Derived.Lib.Split
namespace Go.Proofs.YtmckjdopplchbaaDoor
set_option linter.unusedVariables false
set_option linter.unusedSimpArgs false
open Go.RowKit

/-- the pieces between colons that have bytes; cur: the bytes since the last colon -/
def pcs : List UInt8 → List UInt8 → List (List UInt8)
  | cur, [] => if cur = [] then [] else [cur]
  | cur, c :: l => if c = 58 then (if cur = [] then pcs [] l else cur :: pcs [] l) else pcs (cur ++ [c]) l
def splitL (l : List UInt8) : List (List UInt8) := pcs [] l
theorem pcs_head : ∀ (h cur r : List UInt8), 58 ∉ h → pcs cur (h ++ r) = pcs (cur ++ h) r
  | [], cur, r, _ => by simp
  | c :: h, cur, r, hn => by
    simp only [List.mem_cons, not_or] at hn
    rw [List.cons_append, pcs, if_neg (fun e => hn.1 e.symm), pcs_head h (cur ++ [c]) r hn.2]
    simp
theorem split_cut (l : List UInt8) :
    (∃ i : Nat, Lib.index l [58] = i ∧ i < l.length ∧ l = l.take i ++ 58 :: l.drop (i + 1) ∧ 58 ∉ l.take i) ∨ (58 ∉ l ∧ Lib.index l [58] = -1) := by
  have hc := cut_dollar l 58
  rcases Lib.index_spec l [58] with ⟨h1, h2⟩ | ⟨i, h1, h2, h3, h4⟩
  · right
    refine ⟨?_, h1⟩
    rcases hc with ⟨h, t, _, _, hc⟩ | ⟨hn, _⟩
    · rw [Lib.cut, if_neg (by omega)] at hc; simp at hc
    · exact hn
  · left
    have hroom := Lib.index_room l [58] (by omega)
    simp at hroom
    rcases hc with ⟨h, t, hl, hn, hc⟩ | ⟨hn, hc⟩
    · rw [Lib.cut, if_pos (by omega)] at hc
      simp only [Prod.mk.injEq, h1, Int.toNat_natCast, List.length_singleton] at hc
      exact ⟨i, h1, by omega, by rw [hc.1, hc.2.1, ← hl], by rw [hc.1]; exact hn⟩
    · rw [Lib.cut, if_pos (by omega)] at hc; simp at hc
theorem splitK_all : ∀ (n : Nat) (l : List UInt8), l.length ≤ n →
    (Lib.splitK [58] 0 (Lib.count l [58]) l).filter (fun x => decide (x ≠ [])) = splitL l ∧ (Lib.splitK [58] 0 (Lib.count l [58]) l).length = Lib.count l [58] + 1 := by
  intro n
  induction n with
  | zero =>
    intro l hl
    obtain rfl : l = [] := List.eq_nil_of_length_eq_zero (by omega)
    have hm : Lib.index [] [58] = -1 := by rcases split_cut [] with ⟨i, _, h, _⟩ | ⟨_, h⟩; · simp at h
                                           · exact h
    rw [Lib.count_miss hm]
    exact ⟨rfl, rfl⟩
  | succ n ih =>
    intro l hl
    rcases split_cut l with ⟨i, h1, h2, h3, h4⟩ | ⟨hn, h1⟩
    · rw [Lib.count_hit (by simp) h1, Nat.add_comm 1, Lib.splitK, if_neg (by rw [h1]; simp), h1]
      obtain ⟨a1, a2⟩ := ih (l.drop (i + 1)) (by simp; omega)
      simp only [Int.toNat_natCast, List.length_singleton, Nat.add_zero]
      refine ⟨?_, by rw [List.length_cons, a2]⟩
      rw [List.filter_cons, a1]
      have e : splitL l = pcs (l.take i) (58 :: l.drop (i + 1)) := by
        rw [splitL]
        conv => lhs; rw [h3]
        rw [pcs_head _ _ _ h4]; rfl
      rw [e, pcs, if_pos rfl]
      by_cases h0 : l.take i = []
      · simp [h0]; rfl
      · simp [h0]; rfl
    · rw [Lib.count_miss h1]
      refine ⟨?_, rfl⟩
      have e : splitL l = pcs l [] := by
        have := pcs_head l [] [] hn
        simpa [splitL] using this
      rw [e, pcs, Lib.splitK]
      by_cases h0 : l = []
      · simp [h0]
      · simp [h0]

/-- what strings.Split at the colon leaves, without the empty ones -/
theorem splitB_all (l : List UInt8) :
    ∃ ps : List (List UInt8), (Lib.splitB ⟨#[58]⟩ 0 (Lib.countB ⟨l.toArray⟩ ⟨#[58]⟩) ⟨l.toArray⟩).map Value.string = ps.map (fun x => Value.string ⟨x.toArray⟩) ∧
      ps.length = Lib.countB ⟨l.toArray⟩ ⟨#[58]⟩ + 1 ∧ ps.filter (fun x => decide (x ≠ [])) = splitL l := by
  refine ⟨(Lib.splitB ⟨#[58]⟩ 0 (Lib.countB ⟨l.toArray⟩ ⟨#[58]⟩) ⟨l.toArray⟩).map (·.data.toList), ?_, ?_, ?_⟩
  · rw [List.map_map]; rfl
  · rw [Lib.splitB_data]; exact (splitK_all l.length l (Nat.le_refl _)).2
  · rw [Lib.splitB_data]; exact (splitK_all l.length l (Nat.le_refl _)).1

end Go.Proofs.YtmckjdopplchbaaDoor
