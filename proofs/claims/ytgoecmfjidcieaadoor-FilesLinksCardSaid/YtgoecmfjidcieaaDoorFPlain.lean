/- Lemmas that the claim is proved from: what calls of functions of the program come to (contracts), and plain laws. Each lemma bears its own conditions. -/
import Derived.Lib.Split
import Derived.Lib.Join
import Derived.Lib.IndexMore
namespace Go.Proofs.YtgoecmfjidcieaaDoor
set_option linter.unusedVariables false
set_option linter.unusedSimpArgs false


/-- all pieces between a byte's places; cur: the bytes since the last one -/
def pcA (sep : UInt8) : List UInt8 → List UInt8 → List (List UInt8)
  | cur, [] => [cur]
  | cur, c :: l => if c = sep then cur :: pcA sep [] l else pcA sep (cur ++ [c]) l
theorem pcA_head (sep : UInt8) : ∀ (h cur r : List UInt8), sep ∉ h → pcA sep cur (h ++ r) = pcA sep (cur ++ h) r
  | [], cur, r, _ => by simp
  | c :: h, cur, r, hn => by
    simp only [List.mem_cons, not_or] at hn
    rw [List.cons_append, pcA, if_neg (fun e => hn.1 e.symm), pcA_head sep h (cur ++ [c]) r hn.2]
    simp
theorem index_byte (l : List UInt8) (c : UInt8) :
    (∃ i : Nat, Lib.index l [c] = i ∧ i < l.length ∧ l = l.take i ++ c :: l.drop (i + 1) ∧ c ∉ l.take i) ∨ (c ∉ l ∧ Lib.index l [c] = -1) := by
  have key : ∀ j, Lib.occAt l [c] j = true ↔ l[j]? = some c := by
    intro j
    unfold Lib.occAt
    rw [List.isPrefixOf_iff_prefix]
    constructor
    · rintro ⟨t, ht⟩
      have := congrArg (·[0]?) ht
      simpa using this.symm
    · intro h
      refine ⟨l.drop (j + 1), ?_⟩
      obtain ⟨h1, h2⟩ := List.getElem?_eq_some_iff.1 h
      rw [List.drop_eq_getElem_cons h1, h2]
      rfl
  rcases Lib.index_spec l [c] with ⟨h1, h2⟩ | ⟨i, h1, h2, h3, h4⟩
  · right
    refine ⟨fun hm => ?_, h1⟩
    obtain ⟨j, hj, hc⟩ := List.getElem_of_mem hm
    have := (key j).2 (by simp [hj, hc])
    rw [h2 j (by omega)] at this
    exact absurd this (by simp)
  · left
    have hi := (key i).1 h3
    obtain ⟨hi1, hi2⟩ := List.getElem?_eq_some_iff.1 hi
    refine ⟨i, h1, hi1, ?_, fun hm => ?_⟩
    · rw [← hi2, ← List.drop_eq_getElem_cons hi1, List.take_append_drop]
    · obtain ⟨j, hj, hc⟩ := List.getElem_of_mem hm
      simp only [List.length_take] at hj
      rw [List.getElem_take] at hc
      have := (key j).2 (List.getElem?_eq_some_iff.2 ⟨by omega, hc⟩)
      rw [h4 j (by omega)] at this
      exact absurd this (by simp)
theorem splitK_pcA (sep : UInt8) : ∀ (n : Nat) (l : List UInt8), l.length ≤ n →
    Lib.splitK [sep] 0 (Lib.count l [sep]) l = pcA sep [] l ∧ (pcA sep [] l).length = Lib.count l [sep] + 1 := by
  intro n
  induction n with
  | zero =>
    intro l hl
    obtain rfl : l = [] := List.eq_nil_of_length_eq_zero (by omega)
    have hm : Lib.index [] [sep] = -1 := by
      rcases index_byte [] sep with ⟨i, _, h, _⟩ | ⟨_, h⟩
      · simp at h
      · exact h
    rw [Lib.count_miss hm]
    exact ⟨rfl, rfl⟩
  | succ n ih =>
    intro l hl
    rcases index_byte l sep with ⟨i, h1, h2, h3, h4⟩ | ⟨hn, h1⟩
    · rw [Lib.count_hit (by simp) h1, Nat.add_comm 1, Lib.splitK, if_neg (by rw [h1]; simp), h1]
      obtain ⟨a1, a2⟩ := ih (l.drop (i + 1)) (by simp; omega)
      simp only [Int.toNat_natCast, List.length_singleton, Nat.add_zero]
      have e : pcA sep [] l = l.take i :: pcA sep [] (l.drop (i + 1)) := by
        conv => lhs; rw [h3]
        rw [pcA_head sep _ _ _ h4, List.nil_append, pcA, if_pos rfl]
      rw [e, a1]
      exact ⟨rfl, by rw [List.length_cons, a2]⟩
    · rw [Lib.count_miss h1]
      have e : pcA sep [] l = [l] := by
        have := pcA_head sep l [] [] hn
        simp only [List.append_nil, List.nil_append] at this
        rw [this, pcA]
      rw [e]
      exact ⟨rfl, rfl⟩
/-- what strings.Split at one byte leaves -/
theorem splitB_pcA (sep : UInt8) (l : List UInt8) :
    (Lib.splitB ⟨#[sep]⟩ 0 (Lib.countB ⟨l.toArray⟩ ⟨#[sep]⟩) ⟨l.toArray⟩).map Value.string = (pcA sep [] l).map (fun x => Value.string ⟨x.toArray⟩) ∧
      Lib.countB ⟨l.toArray⟩ ⟨#[sep]⟩ + 1 = (pcA sep [] l).length := by
  have h := splitK_pcA sep l.length l (Nat.le_refl _)
  refine ⟨?_, h.2.symm⟩
  rw [← h.1]
  show _ = (Lib.splitK (⟨#[sep]⟩ : ByteArray).data.toList 0 _ (⟨l.toArray⟩ : ByteArray).data.toList).map _
  rw [← Lib.splitB_data, List.map_map]
  rfl
theorem pcA_len (sep : UInt8) : ∀ (l cur : List UInt8), (pcA sep cur l).length ≤ l.length + 1
  | [], cur => by simp [pcA]
  | c :: l, cur => by
    rw [pcA]
    have h1 := pcA_len sep l []
    have h2 := pcA_len sep l (cur ++ [c])
    split
    · simp; omega
    · simp; omega
theorem pcA_piece (sep : UInt8) : ∀ (l cur : List UInt8), ∀ q ∈ pcA sep cur l, q.length ≤ cur.length + l.length
  | [], cur, q, hq => by simp [pcA] at hq; subst hq; simp
  | c :: l, cur, q, hq => by
    rw [pcA] at hq
    split at hq
    · rcases List.mem_cons.1 hq with rfl | hq
      · simp
      · have := pcA_piece sep l [] q hq; simp at this ⊢; omega
    · have := pcA_piece sep l (cur ++ [c]) q hq; simp at this ⊢; omega

/-- may a byte stand in a part? -/
def letterN (n : Int) : Bool :=
  (decide (97 ≤ n) && decide (n ≤ 122)) || (decide (65 ≤ n) && decide (n ≤ 90)) || (decide (48 ≤ n) && decide (n ≤ 57)) || (n == 46) || (n == 45) || (n == 95)
def letterB (c : UInt8) : Bool := letterN c.toNat
def rightB (p : List UInt8) : Bool := p.all letterB && decide (p.length ≤ 64)
/-- the parts that count -/
def keepB (p : List UInt8) : Bool := decide (p ≠ []) && decide (p ≠ [46])
def partsL (path : List UInt8) : Option (List (List UInt8)) :=
  if path.length ≤ 200 ∧ (pcA 47 [] path).all rightB = true then some ((pcA 47 [] path).filter keepB) else none
/-- parts without a way up -/
def lexF (out : List (List UInt8)) : List (List UInt8) → List (List UInt8)
  | [] => out
  | p :: ps => lexF (if p ≠ [46, 46] then out ++ [p] else out.dropLast) ps
theorem lexF_snoc (p : List UInt8) : ∀ (ps out : List (List UInt8)), lexF out (ps ++ [p]) = if p ≠ [46, 46] then lexF out ps ++ [p] else (lexF out ps).dropLast
  | [], out => rfl
  | q :: ps, out => by rw [List.cons_append, lexF, lexF_snoc p ps, lexF]
theorem lexF_len : ∀ (ps out : List (List UInt8)), (lexF out ps).length ≤ out.length + ps.length
  | [], out => by simp [lexF]
  | p :: ps, out => by
    rw [lexF]
    have := lexF_len ps (if p ≠ [46, 46] then out ++ [p] else out.dropLast)
    split at this
    · simp at this ⊢; split <;> simp_all <;> omega
    · simp at this ⊢; split <;> simp_all <;> omega
def wholeL (l : List (List UInt8)) : List UInt8 := 47 :: [47].intercalate l
/-- a path, cleaned, and the errno -/
def cleanL (path : List UInt8) : List UInt8 × Int :=
  match partsL path with
  | none => ([], 30)
  | some l => if path.head? = some 47 then (wholeL (lexF [] l), 0) else ([], 30)

end Go.Proofs.YtgoecmfjidcieaaDoor
