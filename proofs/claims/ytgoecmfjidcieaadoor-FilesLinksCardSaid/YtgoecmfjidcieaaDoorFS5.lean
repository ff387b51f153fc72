/- place, and Find -/
import Derived.Test.YtgoecmfjidcieaaDoorFS4
import Derived.StillTailTactics
import Derived.Deep.DeepCutAuto
namespace Go.Proofs.YtgoecmfjidcieaaDoor
set_option linter.unusedVariables false
set_option linter.unusedSimpArgs false
open Go.RowKit

def placeL (st : StL) (path : List UInt8) : List UInt8 × NodeL × Int :=
  match absL path with
  | none => ([], NodeL.zero, 30)
  | some l =>
    if l = [] ∨ l.getLast? = some [46, 46] then ([], NodeL.zero, 30)
    else if (walkL st.has false l [47] 0).2 ≠ 0 ∧ (walkL st.has false l [47] 0).1 = [] then ([], NodeL.zero, (walkL st.has false l [47] 0).2)
    else ((walkL st.has false l [47] 0).1, st.get (walkL st.has false l [47] 0).1, 0)

theorem results_tmp_row_tmp {P : Program} {fn : Func} {x p u : Tmp} {ty : TypeId} (h : fn.results = #[.tmp x, .cell p ty, .tmp u]) (tmps : Array Value) (w : World) (g : Nat) (t : TypeId) (cs : Array Value) (fr : Nat × Nat) (d : TypeDesc)
    (hp : tmps.getD p undef = .pointer (some ⟨g, 0, none⟩)) (hg : w.heap[g]? = some (.cells cs t fr))
    (hu : P.underlying ty = some d) (hd : (match d with | .struct _ | .array _ _ => true | _ => false) = true) (hi : (P.info? ty).map (·.size) = some cs.size) :
    (results fn tmps).run P w = .ok (.tuple #[tmps.getD x undef, .agg cs, tmps.getD u undef]) w := by
  have hp' : tmps[p]?.getD undef = .pointer (some ⟨g, 0, none⟩) := by simpa using hp
  simp [results, h, hp', asAddr, run_loadVar_row w g t ty cs fr d hg hu hd hi, Sem.run_bind, Result.andThen]

set_option maxHeartbeats 4000000 in
set_option maxRecDepth 100000 in
theorem find_any (m : Int) (w : World) (s b : Nat) (st : StL) (path : List UInt8) (hm : w.cell? ⟨0, 0, none⟩ = some (.int .i64 m)) (hM : SM s b w st) (hok : OkSt st) :
    Calls Tryd.prog 14 #[.pointer (some ⟨s, 0, none⟩), .string ⟨path.toArray⟩] w fun e w' => e = .returned (.tuple #[.int .i64 (fileL st path).1.id, .int .i64 (fileL st path).2]) ∧ Below w.heap.size w w' := by
  have HF := Lib.hid (file_any m w s b st path hm hM hok)
  clear hm hM hok
  generalize fileL st path = F at *
  obtain ⟨n, e⟩ := F
  have HF2 : Hid (Calls Tryd.prog 37 #[.pointer (some ⟨s, 0, none⟩), .string ⟨path.toArray⟩] w fun e' w' => e' = .returned (.tuple #[.agg #[.int .i64 n.kind, .int .i64 n.id, .string ⟨n.bytes.toArray⟩, .string ⟨n.dest.toArray⟩], .int .i64 e]) ∧ Below w.heap.size w w') := HF
  clear HF
  go_enter Tryd.func14, Tryd.ntmps14
  go_wp2_with fail
  refine HF2.out.mono ?_
  rintro e w2 ⟨rfl, hb⟩
  have Hb := Lib.hid hb
  have hbs := hb.size
  clear hb
  go_wp2
  go_ret2
  exact ⟨rfl, Hb.out.alloc hbs _⟩

set_option maxHeartbeats 4000000 in
set_option maxRecDepth 100000 in
theorem place_on (w : World) (s b : Nat) (st : StL) (path : List UInt8) (l : List (List UInt8)) (p : List UInt8) (e : Int) (hM : SM s b w st) (hp : p.length ≤ 3000) (hl : l.length ≤ 1000)
    (hpar : ∀ w', Below w.heap.size w w' → Calls Tryd.prog 28 #[.string ⟨path.toArray⟩] w' fun e w'' => ∃ v, e = .returned (.tuple #[v, .bool true]) ∧ OwnS w'.heap.size w'' v l ∧ Below w'.heap.size w' w'')
    (h0 : path.head? = some 47) (hne : l ≠ []) (hla : l.getLast? ≠ some [46, 46])
    (hw : ∀ (w' : World) (v : Value), Below w.heap.size w w' → Strs w' v l → Calls Tryd.prog 41 #[.pointer (some ⟨s, 0, none⟩), v, .bool false] w' fun e' w'' => e' = .returned (.tuple #[.string ⟨p.toArray⟩, .int .i64 e]) ∧ Below w'.heap.size w' w'')
    (he : ¬ (e ≠ 0 ∧ p = [])) :
    Calls Tryd.prog 38 #[.pointer (some ⟨s, 0, none⟩), .string ⟨path.toArray⟩] w fun e' w' => e' = .returned (.tuple #[.string ⟨p.toArray⟩, nodeV (st.get p), .int .i64 0]) ∧ Below w.heap.size w w' := by
  have hsz := size_mk' path
  obtain ⟨c, tl, rfl⟩ : ∃ c tl, path = c :: tl := by cases path with
    | nil => cases h0
    | cons c tl => exact ⟨c, tl, rfl⟩
  simp only [List.head?_cons, Option.some.injEq] at h0
  subst h0
  have hx : (⟨((47 : UInt8) :: tl).toArray⟩ : ByteArray)[0]'(by simp [ByteArray.size]) = 47 := rfl
  have hc' : (((47 : UInt8).toNat : Int) != 47) = false := by decide
  have hxl : ((47 : UInt8) :: tl).length = tl.length + 1 := rfl
  have hsp := size_mk' p
  have HM := Lib.hid hM
  have HPar := Lib.hid hpar
  have HW := Lib.hid hw
  have hll : 0 < l.length := List.length_pos_iff.2 hne
  have hl0 : (l.length == 0) = false := by simp; omega
  have hl00 : ((l.length : Int) == 0) = false := by simp; omega
  have hlg : l.getLast? = some (snth l (l.length - 1)) := by
    rw [List.getLast?_eq_getElem?, List.getElem?_eq_getElem (by omega), snth_eq l _ (by omega)]
  have hlb : (snth l (l.length - 1) == [46, 46]) = false := by
    rw [hlg] at hla; simpa using hla
  obtain ⟨n, hn⟩ : ∃ n, n = st.get p := ⟨_, rfl⟩
  have HL : Hid (∀ w', Below w.heap.size w w' → (Instr.lookup 64 (.map (some b)) (.string ⟨p.toArray⟩) false).run Tryd.prog w' = .ok (.agg #[.int .i64 n.kind, .int .i64 n.id, .string ⟨n.bytes.toArray⟩, .string ⟨n.dest.toArray⟩]) w') := Lib.hid (fun w' hb => by rw [hn]; exact (HM.out.below hb).look1 p (by omega))
  rw [← hn]
  clear hn hM hpar hw hla hlg hne
  have e1 : ((l.length : Int) - 1).toNat = l.length - 1 := by omega
  have hkey : (e != 0) = false ∨ ((e != 0) = true ∧ p.isEmpty = false) := by
    by_cases h : e = 0
    · left; simp [h]
    · right
      refine ⟨by simp [h], ?_⟩
      cases p with
      | nil => exact absurd ⟨h, rfl⟩ he
      | cons c r => rfl
  clear he
  rcases hkey with hk | ⟨hk, hk2⟩
  · go_enter Tryd.func38, Tryd.ntmps38
    go_wp2_with fail
    have hb0 := (Below.refl _ w).alloc (Nat.le_refl w.heap.size) (.cells #[.int .i64 0, .int .i64 0, .string ⟨#[]⟩, .string ⟨#[]⟩] 58)
    have Hb0 := Lib.hid hb0
    refine (HPar.out _ hb0).mono ?_
    rintro e w2 ⟨v, rfl, hown, hb⟩
    have hbs := hb.size
    rw [World.size_alloc] at hbs
    have hbw := hb0.trans (hb.mono (by simp))
    have cc : w2.heap[w.heap.size]? = some (.cells #[.int .i64 0, .int .i64 0, .string ⟨#[]⟩, .string ⟨#[]⟩] 58) := (hb.block w.heap.size (by simp)).trans (MapKept.heap_alloc w _).1
    have HX := Lib.hid (HW.out w2 v hbw hown.strs)
    obtain ⟨a1, b1, off1, cap1, rfl, hm1, ha1, hcap1, hcl⟩ := hown.strs
    obtain rfl := ha1 hll
    have gc := hcl (l.length - 1) (by omega)
    have Hbw := Lib.hid hbw
    have Hcc := Lib.hid cc
    clear hcl hb hown cc hbw hb0
    go_wp2_with fail
    refine HX.out.mono ?_
    rintro e w3 ⟨rfl, hb3⟩
    have hb3s := hb3.size
    have hbw3 := Hbw.out.trans (hb3.mono (show w.heap.size ≤ w2.heap.size by omega))
    have Hcc3 := Lib.hid ((hb3.block w.heap.size (by omega)).trans Hcc.out)
    have s0 := (HM.out.below hbw3).cell0
    have hlk : (Instr.lookup 64 (.map (some b)) (.string ⟨p.toArray⟩) false).run Tryd.prog w3.drew = .ok (.agg #[.int .i64 n.kind, .int .i64 n.id, .string ⟨n.bytes.toArray⟩, .string ⟨n.dest.toArray⟩]) w3.drew := HL.out w3.drew hbw3.drew
    have FZ : Hid (w3.drew.heap[w.heap.size]? = some (.cells #[.int .i64 0, .int .i64 0, .string ⟨#[]⟩, .string ⟨#[]⟩] 58)) := Lib.hid ((hb3.block w.heap.size (by omega)).trans Hcc.out)
    have Hb3 := Lib.hid hbw3.drew
    clear hb3 hbw3 Hcc gc
    go_upto_region 9 with fail
    go_still_tail 8, (by kernel_rfl)
    change wpList _ _ _ _ _ w3.drew
    have Hlk := Lib.hid hlk
    clear hlk s0
    refine wpList_store_row rfl 58 (.tmp 5) (.tmp 61) rfl w.heap.size (#[.int .i64 n.kind, .int .i64 n.id, .string ⟨n.bytes.toArray⟩, .string ⟨n.dest.toArray⟩]) rfl rfl _ _ FZ.out (by kernel_rfl) rfl (by simp [Value.oneCell']) ?_
    have FR := Lib.hid (setRow_heap _ w.heap.size _ (#[.int .i64 n.kind, .int .i64 n.id, .string ⟨n.bytes.toArray⟩, .string ⟨n.dest.toArray⟩]) _ _ FZ.out)
    go_wp2
    refine bodyPost_ret (results_tmp_row_tmp rfl _ _ w.heap.size _ _ _ _ rfl FR.out Tryd.underlying58 rfl (by kernel_rfl)) rfl ?_
    exact ⟨rfl, below_setRow Hb3.out _ _ (Nat.le_refl _)⟩
  · go_enter Tryd.func38, Tryd.ntmps38
    go_wp2_with fail
    have hb0 := (Below.refl _ w).alloc (Nat.le_refl w.heap.size) (.cells #[.int .i64 0, .int .i64 0, .string ⟨#[]⟩, .string ⟨#[]⟩] 58)
    have Hb0 := Lib.hid hb0
    refine (HPar.out _ hb0).mono ?_
    rintro e w2 ⟨v, rfl, hown, hb⟩
    have hbs := hb.size
    rw [World.size_alloc] at hbs
    have hbw := hb0.trans (hb.mono (by simp))
    have cc : w2.heap[w.heap.size]? = some (.cells #[.int .i64 0, .int .i64 0, .string ⟨#[]⟩, .string ⟨#[]⟩] 58) := (hb.block w.heap.size (by simp)).trans (MapKept.heap_alloc w _).1
    have HX := Lib.hid (HW.out w2 v hbw hown.strs)
    obtain ⟨a1, b1, off1, cap1, rfl, hm1, ha1, hcap1, hcl⟩ := hown.strs
    obtain rfl := ha1 hll
    have gc := hcl (l.length - 1) (by omega)
    have Hbw := Lib.hid hbw
    have Hcc := Lib.hid cc
    clear hcl hb hown cc hbw hb0
    go_wp2_with fail
    refine HX.out.mono ?_
    rintro e w3 ⟨rfl, hb3⟩
    have hb3s := hb3.size
    have hbw3 := Hbw.out.trans (hb3.mono (show w.heap.size ≤ w2.heap.size by omega))
    have Hcc3 := Lib.hid ((hb3.block w.heap.size (by omega)).trans Hcc.out)
    have s0 := (HM.out.below hbw3).cell0
    have hlk : (Instr.lookup 64 (.map (some b)) (.string ⟨p.toArray⟩) false).run Tryd.prog w3.drew = .ok (.agg #[.int .i64 n.kind, .int .i64 n.id, .string ⟨n.bytes.toArray⟩, .string ⟨n.dest.toArray⟩]) w3.drew := HL.out w3.drew hbw3.drew
    have FZ : Hid (w3.drew.heap[w.heap.size]? = some (.cells #[.int .i64 0, .int .i64 0, .string ⟨#[]⟩, .string ⟨#[]⟩] 58)) := Lib.hid ((hb3.block w.heap.size (by omega)).trans Hcc.out)
    have Hb3 := Lib.hid hbw3.drew
    clear hb3 hbw3 Hcc gc
    go_upto_region 9 with fail
    go_still_tail 8, (by kernel_rfl)
    change wpList _ _ _ _ _ w3.drew
    have Hlk := Lib.hid hlk
    clear hlk s0
    refine wpList_store_row rfl 58 (.tmp 5) (.tmp 61) rfl w.heap.size (#[.int .i64 n.kind, .int .i64 n.id, .string ⟨n.bytes.toArray⟩, .string ⟨n.dest.toArray⟩]) rfl rfl _ _ FZ.out (by kernel_rfl) rfl (by simp [Value.oneCell']) ?_
    have FR := Lib.hid (setRow_heap _ w.heap.size _ (#[.int .i64 n.kind, .int .i64 n.id, .string ⟨n.bytes.toArray⟩, .string ⟨n.dest.toArray⟩]) _ _ FZ.out)
    go_wp2
    refine bodyPost_ret (results_tmp_row_tmp rfl _ _ w.heap.size _ _ _ _ rfl FR.out Tryd.underlying58 rfl (by kernel_rfl)) rfl ?_
    exact ⟨rfl, below_setRow Hb3.out _ _ (Nat.le_refl _)⟩

end Go.Proofs.YtgoecmfjidcieaaDoor
