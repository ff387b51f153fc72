/- Lemmas that the claim is proved from: what calls of functions of the program come to (contracts), and plain laws. Each lemma bears its own conditions. -/
import Derived.Test.YtgoecmfjidcieaaDoorFW3
namespace Go.Proofs.YtgoecmfjidcieaaDoor
set_option linter.unusedVariables false
set_option linter.unusedSimpArgs false
open Go.RowKit

theorem inter_len (sep : List UInt8) (N : Nat) : ∀ (qs : List (List UInt8)), (∀ q ∈ qs, q.length ≤ N) → (sep.intercalate qs).length ≤ qs.length * (N + sep.length)
  | [], _ => by simp [List.intercalate]
  | [x], h => by
    have := h x (by simp)
    simp [List.intercalate]; omega
  | x :: y :: r, h => by
    have ih := inter_len sep N (y :: r) (fun q hq => h q (List.mem_cons_of_mem _ hq))
    have hx := h x (by simp)
    simp only [List.intercalate, List.intersperse_cons_cons, List.flatten_cons, List.length_append, List.length_cons] at ih ⊢
    rw [Nat.add_mul, Nat.one_mul]
    omega
theorem lexF_mem : ∀ (ps out : List (List UInt8)) (q : List UInt8), q ∈ lexF out ps → q ∈ out ∨ q ∈ ps
  | [], out, q, h => Or.inl h
  | p :: ps, out, q, h => by
    rw [lexF] at h
    rcases lexF_mem ps _ q h with h | h
    · split at h
      · rcases List.mem_append.1 h with h | h
        · exact Or.inl h
        · exact Or.inr (by rw [List.mem_singleton.1 h]; simp)
      · exact Or.inl ((List.dropLast_subset _) h)
    · exact Or.inr (List.mem_cons_of_mem _ h)
theorem partsL_some {path : List UInt8} {l : List (List UInt8)} (h : partsL path = some l) : path.length ≤ 200 ∧ l.length ≤ 201 ∧ ∀ q ∈ l, q.length ≤ 200 := by
  unfold partsL at h
  split at h
  · rename_i hc
    obtain rfl := Option.some.inj h
    refine ⟨hc.1, ?_, fun q hq => ?_⟩
    · have h1 := pcA_len 47 path []
      have h2 : ((pcA 47 [] path).filter keepB).length ≤ (pcA 47 [] path).length := List.length_filter_le _ _
      omega
    · have := pcA_piece 47 path [] q (List.mem_filter.1 hq).1
      simp at this; omega
  · cases h

theorem mk_append' (a b : List UInt8) : (⟨a.toArray⟩ : ByteArray) ++ ⟨b.toArray⟩ = ⟨(a ++ b).toArray⟩ := by
  apply ByteArray.ext
  rw [ByteArray.data_append]
  simp

/-- strings.Join at one byte, of a slice of texts -/
theorem join_byte (w : World) (sep : UInt8) (v : Value) (qs : List (List UInt8)) (hv : Strs w v qs) (hl : ([sep].intercalate qs).length ≤ 140737488355328) (hn : qs.length ≤ 140737488355328) :
    Calls Tryd.prog 48 #[v, .string ⟨#[sep]⟩] w fun e w' => e = .returned (.string ⟨([sep].intercalate qs).toArray⟩) ∧ Below w.heap.size w w' := by
  obtain ⟨a, b, off, cap, rfl, _, ha, hcap, hc⟩ := hv
  by_cases h0 : qs.length = 0
  · obtain rfl : qs = [] := List.eq_nil_of_length_eq_zero h0
    refine (Tryd.strings_Join_none a cap ⟨#[sep]⟩ w).mono ?_
    rintro e w' ⟨rfl, rfl⟩
    exact ⟨rfl, Below.refl _ _⟩
  · obtain rfl := ha (by omega)
    have hb := World.block_lt_of_cell? _ _ (hc 0 (by omega))
    have hmap : ((qs.map fun x => (⟨x.toArray⟩ : ByteArray)).map (·.data.toList)) = qs := by
      rw [List.map_map]; simp [Function.comp_def]
    have hJ := Tryd.strings_Join b off cap (qs.map fun x => (⟨x.toArray⟩ : ByteArray)) ⟨#[sep]⟩ w (by
      intro j x hx
      have hj : j < qs.length := by
        have := (List.getElem?_eq_some_iff.1 hx).1
        simpa using this
      rw [hc j hj, snth_eq qs j hj]
      simp [hj] at hx
      rw [← hx]) hb (by simpa using hn) (by simpa using hcap) (by
      rw [hmap]
      exact hl)
    rw [hmap, show (⟨#[sep]⟩ : ByteArray).data.toList = [sep] from rfl, List.length_map] at hJ
    exact hJ

set_option maxHeartbeats 2000000 in
set_option maxRecDepth 100000 in
theorem whole_any (w : World) (v : Value) (qs : List (List UInt8)) (hv : Strs w v qs) (hq : ∀ q ∈ qs, q.length ≤ 200) (hn : qs.length ≤ 201) :
    Calls Tryd.prog 29 #[v] w fun e w' => e = .returned (.string ⟨(wholeL qs).toArray⟩) ∧ Below w.heap.size w w' := by
  have hl := inter_len [47] 200 qs hq
  have hl2 : qs.length * (200 + 1) ≤ 201 * 201 := Nat.mul_le_mul hn (by omega)
  have hl3 : ([47].intercalate qs).length ≤ 40401 := by simp only [List.length_singleton] at hl; omega
  have HJ := Lib.hid (join_byte w 47 v qs hv (by omega) (by omega))
  have Hw : Hid (wholeL qs = [47] ++ [47].intercalate qs) := Lib.hid rfl
  clear hv hq hl hl2
  generalize [47].intercalate qs = s at *
  have hs := size_mk' s
  have ha : (⟨#[47]⟩ : ByteArray) ++ ⟨s.toArray⟩ = ⟨([47] ++ s).toArray⟩ := mk_append' [47] s
  go_enter Tryd.func29, Tryd.ntmps29
  go_wp2_with fail
  refine HJ.out.mono ?_
  rintro e w2 ⟨rfl, hb2⟩
  go_wp2
  go_ret
  exact ⟨by rw [Hw.out]; simp, hb2⟩

set_option maxHeartbeats 4000000 in
set_option maxRecDepth 100000 in
theorem clean_any (m : Int) (w : World) (path : List UInt8) (hm : w.cell? ⟨0, 0, none⟩ = some (.int .i64 m)) :
    Calls Tryd.prog 9 #[.string ⟨path.toArray⟩] w fun e w' => e = .returned (.tuple #[.string ⟨(cleanL path).1.toArray⟩, .int .i64 (cleanL path).2]) ∧ Below w.heap.size w w' := by
  have hsz := size_mk' path
  have HP := Lib.hid (parts_any m w path hm)
  clear hm
  cases hp : partsL path with
  | none =>
    have hcl : cleanL path = ([], 30) := by rw [cleanL, hp]
    rw [hp] at HP
    rw [hcl]
    go_enter Tryd.func9, Tryd.ntmps9
    go_wp2_with fail
    refine HP.out.mono ?_
    rintro e w2 ⟨v, rfl, hown, hb⟩
    have Hb := Lib.hid hb
    clear hown hb
    go_wp2
    go_ret2
    exact ⟨rfl, Hb.out⟩
  | some l =>
    have Hps := Lib.hid (partsL_some hp)
    have hplen : path.length ≤ 200 := Hps.out.1
    rw [hp] at HP
    cases hq : path.isEmpty with
    | true =>
      obtain rfl := List.isEmpty_iff.1 hq
      have hcl : cleanL [] = ([], 30) := by rw [cleanL, hp]; rfl
      rw [hcl]
      go_enter Tryd.func9, Tryd.ntmps9
      go_wp2_with fail
      refine HP.out.mono ?_
      rintro e w2 ⟨v, rfl, hown, hb⟩
      have Hb := Lib.hid hb
      clear hown hb
      go_wp2
      go_ret2
      exact ⟨rfl, Hb.out⟩
    | false =>
      have h0 : 0 < path.length := by
        cases path with
        | nil => simp at hq
        | cons c r => simp
      obtain ⟨c, hcx⟩ : ∃ c, path[0] = c := ⟨_, rfl⟩
      have hx : (⟨path.toArray⟩ : ByteArray)[0]'(by omega) = c := hcx
      have hhead : path.head? = some c := by rw [List.head?_eq_getElem?, List.getElem?_eq_getElem h0, hcx]
      clear hcx
      by_cases hc : c = 47
      · obtain rfl := hc
        have hcl : cleanL path = (wholeL (lexF [] l), 0) := by rw [cleanL, hp]; simp only; rw [if_pos hhead]
        have hc' : (((47 : UInt8).toNat : Int) != 47) = false := by decide
        rw [hcl]
        clear hcl hhead
        go_enter Tryd.func9, Tryd.ntmps9
        go_wp2_with fail
        refine HP.out.mono ?_
        rintro e w2 ⟨v, rfl, hown, hb⟩
        have Hb := Lib.hid hb
        have HL := Lib.hid (lexical_any w2 v l hown.strs (by have := Hps.out.2.1; omega))
        clear hown hb
        go_wp2_with fail
        refine HL.out.mono ?_
        rintro e w3 ⟨u, rfl, hown3, hb3⟩
        have Hb3 := Lib.hid (Hb.out.trans (hb3.mono Hb.out.size))
        have HW := Lib.hid (whole_any w3 u (lexF [] l) hown3.strs (fun q hq => by
          rcases lexF_mem l [] q hq with h | h
          · simp at h
          · exact Hps.out.2.2 q h) (by have h1 := lexF_len l []; have h2 := Hps.out.2.1; simp at h1; omega))
        clear hown3 hb3
        go_wp2_with fail
        refine HW.out.mono ?_
        rintro e w4 ⟨rfl, hb4⟩
        have Hb4 := Lib.hid (Hb3.out.trans (hb4.mono Hb3.out.size))
        clear hb4
        go_wp2
        go_ret2
        exact ⟨rfl, Hb4.out⟩
      · have hcl : cleanL path = ([], 30) := by
          rw [cleanL, hp]; simp only
          rw [if_neg (by rw [hhead]; simp [hc])]
        have hc' : ((c.toNat : Int) != 47) = true := by
          have : c.toNat ≠ 47 := fun e => hc (UInt8.toNat_inj.1 e)
          simp; omega
        rw [hcl]
        clear hcl hhead
        go_enter Tryd.func9, Tryd.ntmps9
        go_wp2_with fail
        refine HP.out.mono ?_
        rintro e w2 ⟨v, rfl, hown, hb⟩
        have Hb := Lib.hid hb
        clear hown hb
        go_wp2
        go_ret2
        exact ⟨rfl, Hb.out⟩

end Go.Proofs.YtgoecmfjidcieaaDoor
