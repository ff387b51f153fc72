/- Real, and file -/
import Derived.Test.YtgoecmfjidcieaaDoorFS3
import Derived.Laws.ResultCell
import Derived.Laws.Rows
import Derived.Laws.Tables
namespace Go.Proofs.YtgoecmfjidcieaaDoor
set_option linter.unusedVariables false
set_option linter.unusedSimpArgs false
open Go.RowKit

theorem walkL_len (N : List UInt8 → Option NodeL) (last : Bool) (todo : List (List UInt8)) (a : List UInt8) (k : Nat) : (walkL N last todo a k).1.length ≤ a.length + 1 + weight todo + (9 - k) * 202 := by
  match todo with
  | [] => rw [walkL_nil]; simp only; omega
  | p :: r =>
    by_cases h1 : p = [46, 46]
    · subst h1
      have h2 := walkL_len N last r (upL a) k
      have h3 := upL_len a
      rw [walkL_up]
      simp only [weight]; omega
    · cases hn : N (joinL a p) with
      | none =>
        have := joinL_len a p
        rw [walkL_none h1 hn]
        simp only [weight]
        split <;> simp only [List.length_nil] <;> omega
      | some n =>
        by_cases h2 : n.kind = 3 ∧ (last = true ∨ r ≠ [])
        · by_cases h3 : 8 ≤ k
          · rw [walkL_loop h1 hn h2.1 h2.2 h3]; simp
          · have ih := walkL_len N last ((partsL n.dest).getD [] ++ r) (if n.dest.head? = some 47 then [47] else a) (k + 1)
            have h4 := weight_parts n.dest
            have h5 : (if n.dest.head? = some 47 then [47] else a).length ≤ a.length + 1 := by split <;> simp
            rw [walkL_link h1 hn h2.1 h2.2 h3]
            rw [weight_append] at ih
            simp only [weight]
            omega
        · by_cases h4 : n.kind ≠ 2 ∧ r ≠ []
          · rw [walkL_file h1 hn h2 h4.1 h4.2]; simp
          · have ih := walkL_len N last r (joinL a p) k
            have := joinL_len a p
            rw [walkL_on h1 hn h2 h4]
            simp only [weight]; omega
termination_by (9 - k, todo.length)
decreasing_by all_goals (simp_wf; first | (apply Prod.Lex.right; simp) | (apply Prod.Lex.left; omega) | omega)

def realL (st : StL) (path : List UInt8) : List UInt8 × Int :=
  match absL path with
  | none => ([], 30)
  | some l => if (walkL st.has true l [47] 0).2 = 0 then ((walkL st.has true l [47] 0).1, 0) else ([], (walkL st.has true l [47] 0).2)
def fileL (st : StL) (path : List UInt8) : NodeL × Int :=
  if (realL st path).2 = 0 then (if (st.get (realL st path).1).kind = 2 then (NodeL.zero, 33) else (st.get (realL st path).1, 0)) else (NodeL.zero, (realL st path).2)
theorem absL_weight {path : List UInt8} {l : List (List UInt8)} (h : absL path = some l) : weight l ≤ 201 := by
  have h1 := partsL_weight (absL_some h)
  have h2 := (partsL_inv (absL_some h)).1
  omega
theorem realL_len (st : StL) (path : List UInt8) : (realL st path).1.length ≤ 3000 := by
  unfold realL
  cases h : absL path with
  | none => simp
  | some l =>
    have h1 := walkL_len st.has true l [47] 0
    have h2 := absL_weight h
    simp only [List.length_singleton] at h1
    simp only
    split
    · simp only; omega
    · simp

set_option maxHeartbeats 4000000 in
set_option maxRecDepth 100000 in
theorem real_any (m : Int) (w : World) (s b : Nat) (st : StL) (path : List UInt8) (hm : w.cell? ⟨0, 0, none⟩ = some (.int .i64 m)) (hM : SM s b w st) (hok : OkSt st) :
    Calls Tryd.prog 20 #[.pointer (some ⟨s, 0, none⟩), .string ⟨path.toArray⟩] w fun e w' => e = .returned (.tuple #[.string ⟨(realL st path).1.toArray⟩, .int .i64 (realL st path).2]) ∧ Below w.heap.size w w' := by
  have hsz := size_mk' path
  have HP := Lib.hid (parts_any m w path hm)
  have HM := Lib.hid hM
  have Hok := Lib.hid hok
  have Hm := Lib.hid hm
  have h0lt : 0 < w.heap.size := World.block_lt_of_cell? _ _ hm
  clear hm hM hok
  cases hp : partsL path with
  | none =>
    have ha : absL path = none := by unfold absL; split <;> first | exact hp | rfl
    have hcl : realL st path = ([], 30) := by rw [realL, ha]
    rw [hp] at HP
    rw [hcl]
    go_enter Tryd.func20, Tryd.ntmps20
    go_wp2_with fail
    refine HP.out.mono ?_
    rintro e w2 ⟨v, rfl, hown, hb⟩
    have Hb := Lib.hid hb
    clear hown hb
    go_wp2
    go_ret2
    exact ⟨rfl, Hb.out⟩
  | some l =>
    rw [hp] at HP
    have Hps := Lib.hid (partsL_some hp)
    have hplen : path.length ≤ 200 := Hps.out.1
    cases hq : path.isEmpty with
    | true =>
      obtain rfl := List.isEmpty_iff.1 hq
      have hcl : realL st [] = ([], 30) := by rw [realL]; rfl
      rw [hcl]
      go_enter Tryd.func20, Tryd.ntmps20
      go_wp2_with fail
      refine HP.out.mono ?_
      rintro e w2 ⟨v, rfl, hown, hb⟩
      have Hb := Lib.hid hb
      clear hown hb
      go_wp2
      go_ret2
      exact ⟨rfl, Hb.out⟩
    | false =>
      have h0 : 0 < path.length := by
        cases path with
        | nil => simp at hq
        | cons c r => simp
      obtain ⟨c, hcx⟩ : ∃ c, path[0] = c := ⟨_, rfl⟩
      have hx : (⟨path.toArray⟩ : ByteArray)[0]'(by omega) = c := hcx
      have hhead : path.head? = some c := by rw [List.head?_eq_getElem?, List.getElem?_eq_getElem h0, hcx]
      clear hcx
      by_cases hc : c = 47
      · obtain rfl := hc
        have ha : absL path = some l := by rw [absL, if_pos hhead, hp]
        have hc' : (((47 : UInt8).toNat : Int) != 47) = false := by decide
        have hwt := absL_weight ha
        have Hre : Hid (realL st path = if (walkL st.has true l [47] 0).2 = 0 then ((walkL st.has true l [47] 0).1, 0) else ([], (walkL st.has true l [47] 0).2)) := Lib.hid (by rw [realL, ha])
        clear ha hhead hp
        rw [Hre.out]
        clear Hre
        have HW : Hid (∀ (w' : World) (v : Value), Below w.heap.size w w' → Strs w' v l → Calls Tryd.prog 41 #[.pointer (some ⟨s, 0, none⟩), v, .bool true] w' fun e w'' => e = .returned (.tuple #[.string ⟨(walkL st.has true l [47] 0).1.toArray⟩, .int .i64 (walkL st.has true l [47] 0).2]) ∧ Below w'.heap.size w' w'') :=
          Lib.hid fun w' v hb hv => walk_any m w' s b st v l true ((hb.cell (p := ⟨0, 0, none⟩) h0lt).trans Hm.out) (HM.out.below hb) Hok.out hv hwt
        obtain ⟨W, hW⟩ : ∃ W, W = walkL st.has true l [47] 0 := ⟨_, rfl⟩
        rw [← hW] at HW ⊢
        clear hW
        obtain ⟨W1, W2⟩ := W
        simp only at HW ⊢
        by_cases h2 : W2 = 0
        · have h2b : (W2 != 0) = false := by simp [h2]
          rw [if_pos h2]
          clear h2
          go_enter Tryd.func20, Tryd.ntmps20
          go_wp2_with fail
          refine HP.out.mono ?_
          rintro e w2 ⟨v, rfl, hown, hb⟩
          have Hb := Lib.hid hb
          have hbs := hb.size
          have hown' : OwnS w.heap.size w2 v l := hown
          have HX := Lib.hid (HW.out w2 v hb hown'.strs)
          clear hown hb hown'
          go_wp2_with fail
          refine HX.out.mono ?_
          rintro e w3 ⟨rfl, hb3⟩
          have Hb3 := Lib.hid (Hb.out.trans (hb3.mono hbs))
          clear hb3
          go_wp2
          go_ret2
          exact ⟨rfl, Hb3.out⟩
        · have h2b : (W2 != 0) = true := by simp [h2]
          rw [if_neg h2]
          clear h2
          go_enter Tryd.func20, Tryd.ntmps20
          go_wp2_with fail
          refine HP.out.mono ?_
          rintro e w2 ⟨v, rfl, hown, hb⟩
          have Hb := Lib.hid hb
          have hbs := hb.size
          have hown' : OwnS w.heap.size w2 v l := hown
          have HX := Lib.hid (HW.out w2 v hb hown'.strs)
          clear hown hb hown'
          go_wp2_with fail
          refine HX.out.mono ?_
          rintro e w3 ⟨rfl, hb3⟩
          have Hb3 := Lib.hid (Hb.out.trans (hb3.mono hbs))
          clear hb3
          go_wp2
          go_ret2
          exact ⟨rfl, Hb3.out⟩
      · have ha : absL path = none := if_neg (by rw [hhead]; simp [hc])
        have hcl : realL st path = ([], 30) := by rw [realL, ha]
        have hc' : ((c.toNat : Int) != 47) = true := by
          have : c.toNat ≠ 47 := fun e => hc (UInt8.toNat_inj.1 e)
          simp; omega
        rw [hcl]
        clear hcl hhead ha
        go_enter Tryd.func20, Tryd.ntmps20
        go_wp2_with fail
        refine HP.out.mono ?_
        rintro e w2 ⟨v, rfl, hown, hb⟩
        have Hb := Lib.hid hb
        clear hown hb
        go_wp2
        go_ret2
        exact ⟨rfl, Hb.out⟩

theorem field0 (k i : Int) (x y : ByteArray) (w : World) : (Instr.field 58 (.agg #[.int .i64 k, .int .i64 i, .string x, .string y]) 0).run Tryd.prog w = .ok (.int .i64 k) w := by kernel_rfl

theorem below_setRow {B : Nat} {a w : World} (h : Below B a w) (g : Nat) (cs : Array Value) (hg : B ≤ g) : Below B a (w.setRow g cs) :=
  ⟨h.os, h.tape, h.output, by simpa using h.size, fun k hk => (setRow_other w g k cs (by omega)).trans (h.block k hk)⟩
theorem results_row_tmp {P : Program} {fn : Func} {p u : Tmp} {ty : TypeId} (h : fn.results = #[.cell p ty, .tmp u]) (tmps : Array Value) (w : World) (g : Nat) (t : TypeId) (cs : Array Value) (fr : Nat × Nat) (d : TypeDesc)
    (hp : tmps.getD p undef = .pointer (some ⟨g, 0, none⟩)) (hg : w.heap[g]? = some (.cells cs t fr))
    (hu : P.underlying ty = some d) (hd : (match d with | .struct _ | .array _ _ => true | _ => false) = true) (hi : (P.info? ty).map (·.size) = some cs.size) :
    (results fn tmps).run P w = .ok (.tuple #[.agg cs, tmps.getD u undef]) w := by
  rw [results_cell_tmp h, hp]
  simp [asAddr, run_loadVar_row w g t ty cs fr d hg hu hd hi, Result.andThen]

set_option maxHeartbeats 4000000 in
set_option maxRecDepth 100000 in
theorem file_any (m : Int) (w : World) (s b : Nat) (st : StL) (path : List UInt8) (hm : w.cell? ⟨0, 0, none⟩ = some (.int .i64 m)) (hM : SM s b w st) (hok : OkSt st) :
    Calls Tryd.prog 37 #[.pointer (some ⟨s, 0, none⟩), .string ⟨path.toArray⟩] w fun e w' => e = .returned (.tuple #[nodeV (fileL st path).1, .int .i64 (fileL st path).2]) ∧ Below w.heap.size w w' := by
  have HR : Hid (∀ w', Below w.heap.size w w' → _) := Lib.hid (fun w' hb => real_any m w' s b st path ((hb.cell (p := ⟨0, 0, none⟩) (World.block_lt_of_cell? _ _ hm)).trans hm) (hM.below hb) hok)
  have HM := Lib.hid hM
  have hrl := realL_len st path
  clear hM hm hok
  unfold fileL
  obtain ⟨R, hR⟩ : ∃ R, R = realL st path := ⟨_, rfl⟩
  rw [← hR] at HR hrl ⊢
  clear hR
  obtain ⟨p, e⟩ := R
  simp only at HR hrl ⊢
  by_cases he : e = 0
  · subst he
    rw [if_pos rfl]
    obtain ⟨n, hn⟩ : ∃ n, n = st.get p := ⟨_, rfl⟩
    have HL : Hid (∀ w', Below w.heap.size w w' → (Instr.lookup 64 (.map (some b)) (.string ⟨p.toArray⟩) false).run Tryd.prog w' = .ok (.agg #[.int .i64 n.kind, .int .i64 n.id, .string ⟨n.bytes.toArray⟩, .string ⟨n.dest.toArray⟩]) w') := Lib.hid (fun w' hb => by rw [hn]; exact (HM.out.below hb).look1 p (by omega))
    rw [← hn]
    clear hn
    by_cases h2 : n.kind = 2
    · have h2b : (n.kind == 2) = true := by simp [h2]
      rw [if_pos h2]
      clear h2
      go_enter Tryd.func37, Tryd.ntmps37
      go_wp2_with fail
      refine (HR.out _ ((Below.refl _ w).alloc (Nat.le_refl _) _)).mono ?_
      rintro e w2 ⟨rfl, hb⟩
      have hbs := hb.size
      rw [World.size_alloc] at hbs
      have hbw := ((Below.refl _ w).alloc (Nat.le_refl w.heap.size) (.cells #[.int .i64 0, .int .i64 0, .string ⟨#[]⟩, .string ⟨#[]⟩] 58)).trans (hb.mono (by simp))
      have Hb := Lib.hid hbw
      have cc : w2.heap[w.heap.size]? = some (.cells #[.int .i64 0, .int .i64 0, .string ⟨#[]⟩, .string ⟨#[]⟩] 58) := (hb.block w.heap.size (by simp)).trans (MapKept.heap_alloc w _).1
      have s0 := (HM.out.below hbw).cell0
      have hl := HL.out w2 hbw
      have hf := field0 n.kind n.id ⟨n.bytes.toArray⟩ ⟨n.dest.toArray⟩ w2
      have Hcc := Lib.hid cc
      clear hb hbw cc
      go_wp2_with (refine wpList_store_row rfl 58 (.tmp 4) (.tmp 26) rfl w.heap.size (#[.int .i64 0, .int .i64 0, .string ⟨#[]⟩, .string ⟨#[]⟩]) rfl rfl _ _ Hcc.out (by kernel_rfl) rfl (by simp [Value.oneCell']) ?_)
      go_wp2_with fail
      have FR := Lib.hid (setRow_heap _ w.heap.size _ (#[.int .i64 0, .int .i64 0, .string ⟨#[]⟩, .string ⟨#[]⟩]) _ _ Hcc.out)
      refine bodyPost_ret (results_row_tmp rfl _ _ w.heap.size _ _ _ _ rfl FR.out Tryd.underlying58 rfl (by kernel_rfl)) rfl ?_
      exact ⟨rfl, below_setRow Hb.out _ _ (Nat.le_refl _)⟩
    · have h2b : (n.kind == 2) = false := by simp [h2]
      rw [if_neg h2]
      clear h2
      go_enter Tryd.func37, Tryd.ntmps37
      go_wp2_with fail
      refine (HR.out _ ((Below.refl _ w).alloc (Nat.le_refl _) _)).mono ?_
      rintro e w2 ⟨rfl, hb⟩
      have hbs := hb.size
      rw [World.size_alloc] at hbs
      have hbw := ((Below.refl _ w).alloc (Nat.le_refl w.heap.size) (.cells #[.int .i64 0, .int .i64 0, .string ⟨#[]⟩, .string ⟨#[]⟩] 58)).trans (hb.mono (by simp))
      have Hb := Lib.hid hbw
      have cc : w2.heap[w.heap.size]? = some (.cells #[.int .i64 0, .int .i64 0, .string ⟨#[]⟩, .string ⟨#[]⟩] 58) := (hb.block w.heap.size (by simp)).trans (MapKept.heap_alloc w _).1
      have s0 := (HM.out.below hbw).cell0
      have hl := HL.out w2 hbw
      have hf := field0 n.kind n.id ⟨n.bytes.toArray⟩ ⟨n.dest.toArray⟩ w2
      have Hcc := Lib.hid cc
      clear hb hbw cc
      go_wp2_with (refine wpList_store_row rfl 58 (.tmp 4) (.tmp 32) rfl w.heap.size (#[.int .i64 n.kind, .int .i64 n.id, .string ⟨n.bytes.toArray⟩, .string ⟨n.dest.toArray⟩]) rfl rfl _ _ Hcc.out (by kernel_rfl) rfl (by simp [Value.oneCell']) ?_)
      go_wp2_with fail
      have FR := Lib.hid (setRow_heap _ w.heap.size _ (#[.int .i64 n.kind, .int .i64 n.id, .string ⟨n.bytes.toArray⟩, .string ⟨n.dest.toArray⟩]) _ _ Hcc.out)
      refine bodyPost_ret (results_row_tmp rfl _ _ w.heap.size _ _ _ _ rfl FR.out Tryd.underlying58 rfl (by kernel_rfl)) rfl ?_
      exact ⟨rfl, below_setRow Hb.out _ _ (Nat.le_refl _)⟩
  · have heb : (e != 0) = true := by simp [he]
    rw [if_neg he]
    clear he
    go_enter Tryd.func37, Tryd.ntmps37
    go_wp2_with fail
    refine (HR.out _ ((Below.refl _ w).alloc (Nat.le_refl _) _)).mono ?_
    rintro e w2 ⟨rfl, hb⟩
    have hbs := hb.size
    rw [World.size_alloc] at hbs
    have hbw := ((Below.refl _ w).alloc (Nat.le_refl w.heap.size) (.cells #[.int .i64 0, .int .i64 0, .string ⟨#[]⟩, .string ⟨#[]⟩] 58)).trans (hb.mono (by simp))
    have Hb := Lib.hid hbw
    have cc : w2.heap[w.heap.size]? = some (.cells #[.int .i64 0, .int .i64 0, .string ⟨#[]⟩, .string ⟨#[]⟩] 58) := (hb.block w.heap.size (by simp)).trans (MapKept.heap_alloc w _).1
    have Hcc := Lib.hid cc
    clear hb hbw cc
    go_wp2_with (refine wpList_store_row rfl 58 (.tmp 4) (.tmp 16) rfl w.heap.size (#[.int .i64 0, .int .i64 0, .string ⟨#[]⟩, .string ⟨#[]⟩]) rfl rfl _ _ Hcc.out (by kernel_rfl) rfl (by simp [Value.oneCell']) ?_)
    go_wp2_with fail
    have FR := Lib.hid (setRow_heap _ w.heap.size _ (#[.int .i64 0, .int .i64 0, .string ⟨#[]⟩, .string ⟨#[]⟩]) _ _ Hcc.out)
    refine bodyPost_ret (results_row_tmp rfl _ _ w.heap.size _ _ _ _ rfl FR.out Tryd.underlying58 rfl (by kernel_rfl)) rfl ?_
    exact ⟨rfl, below_setRow Hb.out _ _ (Nat.le_refl _)⟩

end Go.Proofs.YtgoecmfjidcieaaDoor
