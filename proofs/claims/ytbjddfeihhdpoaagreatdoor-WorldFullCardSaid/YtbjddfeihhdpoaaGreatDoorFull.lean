/- WorldFull: for every input the law returns true, and its arguments read behind the call as they did. The two tables of unicode/utf8 are laid as the row lists them. -/
import Derived.Test.YtbjddfeihhdpoaaGreatDoorVn
import Derived.Test.YtbjddfeihhdpoaaGreatDoorVo
import Derived.Test.YtbjddfeihhdpoaaGreatDoorVp
import Derived.Test.YtbjddfeihhdpoaaGreatDoorVq
import Derived.Test.YtbjddfeihhdpoaaGreatDoorVr
import Derived.Test.YtbjddfeihhdpoaaGreatDoorCards
import Derived.Test.YtbjddfeihhdpoaaGreatDoorTie
import Derived.ProofKit
import Derived.OpenShut
import Derived.Carry
import Derived.Deep.DeepHandedRow
import Derived.Lib.LaidTab
import Derived.Lib.Strings
import Derived.Shelf.Vars
set_option linter.unusedVariables false
set_option linter.unusedSimpArgs false
namespace Go.Proofs.YtbjddfeihhdpoaaGreatDoor.worldFull
open Go.ChangeShapes Go.WideShapes Go.ChangeAt Go.RowKit

theorem own : ownKnob Tryz.prog.godebug = .none := by kernel_rfl
theorem laidOut : laidOutB Tryz.prog = true := by kernel_rfl
/-- the cells that a laid datum of bytes makes -/
def flat : Nat → DataW Unit → List Value
  | 0, _ => []
  | n + 1, .agg ds => ds.flatMap (flat n)
  | _ + 1, .lit (.int k x) => [.int k x]
  | _ + 1, _ => []
def putCells (vs : List Value) : Obj → Obj
  | .cells _ t frozen => .cells vs.toArray t frozen
  | o => o
/-- a world in which the listed tables lie as the rows list them: for the witness -/
noncomputable def laidWorld (os : Os) : World :=
  { World.holding Tryz.prog os ⟨#[], #[], []⟩ with heap := ((World.holding Tryz.prog os ⟨#[], #[], []⟩).heap.modify 1 (putCells (flat 3 Rows.laid_unicode_utf8_first))).modify 2 (putCells (flat 3 Rows.laid_unicode_utf8_acceptRanges)) }
theorem cell_one {P : Program} {w : World} {r : Reach} {base : Nat} {t : TypeId} {v : Value} (h : Cell.okWide P w r base t v) : v.oneCell' = true := by
  cases v with
  | agg cs => exfalso; unfold Cell.okWide Cell.ok at h; split at h <;> simp_all
  | tuple vs => exfalso; unfold Cell.okWide Cell.ok at h; split at h <;> simp_all
  | _ => rfl
theorem row_one {P : Program} {w : World} {r : Reach} {base : Nat} {t : TypeId} {cs : Array Value} (h : Row.okWide P w r base t cs) : ∀ v ∈ cs.toList, v.oneCell' = true := by
  intro v hv
  obtain ⟨ts, _, _, hc⟩ := h
  obtain ⟨i, hi, he⟩ := List.getElem_of_mem hv
  obtain ⟨u, _, hu⟩ := hc i v (by rw [← Array.getElem?_toList, List.getElem?_eq_getElem hi, he])
  exact cell_one hu
theorem struct_cells {P : Program} {w : World} {r : Reach} {base : Nat} {t : TypeId} {fs : Array Field} {v : Value} (ht : P.underlying t = some (.struct fs)) (h : Value.okWide P w r base t v) : ∃ cs, v = .agg cs ∧ cs.size = P.cellsOf t ∧ ∀ u ∈ cs.toList, u.oneCell' = true := by
  unfold Value.okWide at h
  rw [ht] at h
  obtain ⟨cs, h1, h2, h3⟩ := h
  exact ⟨cs, h1, h2, row_one h3⟩
theorem wf_u8 {n : Int} (h : (Lit.int .u8 n).wf = true) : 0 ≤ n ∧ n < 256 := by
  simp [Lit.wf, IntKind.min, IntKind.max, IntKind.signed, IntKind.bits] at h
  omega

set_option maxRecDepth 100000 in
theorem contract (H : Type) (enc : TypeId × Value → H) (W : World) (base : Nat) (args : Array Value) (ds gs : List (DataW H)) (before : List MemPlace)
    (hval : ∀ (j : Nat) t v, Tryz.f3.params[j]? = some t → args[j]? = some v → Value.okWide Tryz.prog W .any base t v)
    (hW : DataW.Whole enc Tryz.prog Tryz.f3.params.toList Rows.worldFullSpec.vars false W args.toList ds gs before) :
    Calls Tryz.prog 3 args W fun e W' => ∃ v, e = .returned v ∧ Rows.worldFullSpec.post enc Tryz.prog Tryz.f3 false true false false W args v W' := by
  have hW' := hW
  obtain ⟨p, q, hA0, hV, rfl, hfz, hnd⟩ := hW
  have hA : DataW.TrodAll enc Tryz.prog W 0 (fun _ => true) true Tryz.f3.params.toList args.toList ds p := hA0
  rw [Tryz.params3] at hA hval
  obtain ⟨v0, v1, v2, d0, d1, d2, p0, p1, p2, rfl, rfl, rfl, h0, h1, h2⟩ := trodAll_three hA
  obtain ⟨rfl, rfl⟩ := trodVars_none hV
  obtain ⟨s0, rfl, hs0, ho0⟩ := struct_cells Tryz.underlying28 (hval 0 28 v0 rfl rfl)
  obtain ⟨x1, rfl, rfl, rfl, w1⟩ := open_int Tryz.underlying5 (hval 1 5 v1 rfl rfl) h1
  obtain ⟨s2, rfl, hs2, ho2⟩ := struct_cells Tryz.underlying32 (hval 2 32 v2 rfl rfl)
  obtain ⟨hx0, hx1⟩ := wf_u8 w1
  obtain ⟨n0, rfl⟩ := Int.eq_ofNat_of_zero_le hx0
  clear hA0
  simp only [List.append_nil, List.nil_append] at hW' hfz
  have hlt0 : ∀ x ∈ p0, x.block < W.heap.size := fun x hx => hW'.lt x (by simp [hx])
  have hlt2 : ∀ x ∈ p2, x.block < W.heap.size := fun x hx => hW'.lt x (by simp [hx])
  refine (full_any W (n0 := n0) (by omega) (hs0.trans (show Tryz.prog.cellsOf 28 = 4 by kernel_rfl)) ho0 (hs2.trans (show Tryz.prog.cellsOf 32 = 7 by kernel_rfl)) ho2).mono fun e W' ⟨he, hb⟩ => ?_
  subst he
  exact ⟨_, rfl, ⟨_, _, _, [], p0 ++ ([] ++ p2), [], hW', trodAll_mk1 (shut_bool Tryz.underlying4 _), trodAll_mk3 (Below.trod laidOut (by kernel_rfl) (of_decide_eq_true (by kernel_rfl)) h0 hb hlt0) (shut_int Tryz.underlying5 w1) (Below.trod laidOut (by kernel_rfl) (of_decide_eq_true (by kernel_rfl)) h2 hb hlt2), rfl, hb.frame _, fun h => by cases h⟩⟩

set_option maxRecDepth 100000 in
theorem laid_met (os : Os) : laidMet Tryz.prog Rows.worldFullRow.laid ((laidWorld os).forCall (fun _ _ => 0) ⟨#[], #[.agg #[.slice .none 0 0, .slice .none 0 0, .slice .none 0 0, .bool false], .int .u8 0, .agg #[.int .i64 0, .string ⟨#[]⟩, .string ⟨#[]⟩, .slice .none 0 0, .int .i64 0, .int .i64 0, .int .i64 0]], []⟩).memory :=
  laidMet_of_run' 8 (by kernel_rfl) (by kernel_rfl)
theorem reads (os : Os) {H : Type} (enc : TypeId × Value → H) : ∃ places, DataW.whole enc Tryz.prog ((laidWorld os).forCall (fun _ _ => 0) ⟨#[], #[.agg #[.slice .none 0 0, .slice .none 0 0, .slice .none 0 0, .bool false], .int .u8 0, .agg #[.int .i64 0, .string ⟨#[]⟩, .string ⟨#[]⟩, .slice .none 0 0, .int .i64 0, .int .i64 0, .int .i64 0]], []⟩).memory Tryz.f3.params.toList Rows.worldFullSpec.vars false (#[.agg #[.slice .none 0 0, .slice .none 0 0, .slice .none 0 0, .bool false], .int .u8 0, .agg #[.int .i64 0, .string ⟨#[]⟩, .string ⟨#[]⟩, .slice .none 0 0, .int .i64 0, .int .i64 0, .int .i64 0]] : Array Value).toList 8 = some ([.agg [.nil, .agg [.nil, .nil], .lit (.bool false)], .lit (.int .u8 0), .agg [.lit (.int .i64 0), .lit (.string []), .lit (.string []), .nil, .lit (.int .i64 0), .lit (.int .i64 0), .lit (.int .i64 0)]], [], places) :=
  ⟨[], by kernel_rfl⟩

set_option maxRecDepth 100000 in
theorem lifted (os : Os) (started : os.Started) (H : Type) (enc : TypeId × Value → H) (F : Stop.Interp) :
    ReturnsInHanded {} Tryz.checked os 3 .any ((OpenSpec.ofChange Rows.worldFullSpec).preRow enc Tryz.prog Tryz.f3 Rows.worldFullRow.domain false Rows.worldFullRow.laid) (((OpenSpec.ofChange Rows.worldFullSpec).at F).post enc Tryz.prog Tryz.f3 false true false false) := by
  obtain ⟨places, hx⟩ := reads os enc
  refine returnsInHanded_of_row (C := Tryz.checked) (s := OpenSpec.ofChange Rows.worldFullSpec) own started (by kernel_rfl) Tryz.func3
    (witness_row_at (enc := enc) (C := Tryz.checked) false (laidWorld os) #[.agg #[.slice .none 0 0, .slice .none 0 0, .slice .none 0 0, .bool false], .int .u8 0, .agg #[.int .i64 0, .string ⟨#[]⟩, .string ⟨#[]⟩, .slice .none 0 0, .int .i64 0, .int .i64 0, .int .i64 0]] rfl (by kernel_rfl) (by kernel_rfl) (by kernel_rfl)
      (OpenSpec.preRow_of_cond 8 hx (by kernel_rfl) (fun k hk => by cases hk) (by kernel_rfl) (laid_met os))) ?_
  intro W base args ds gs before hval hW _ _ _ _ _ _
  exact contract H enc W base args ds gs before hval hW

theorem joined_all {P : Program} {f : FuncId} {fn : Func} {s : ChangeSpec} {c : OpenClaim} (h : List.all [c.wf (OpenSpec.ofChange s), laidOutB P, mapsRowed P, fn.params.all (P.readableRec ·), namedTie P c.named s.vars, c.stops == [], P.stops == [], c.knobs == [], P.stopKnobs == [],
    c.inPlace == P.inPlace f, c.unfollowed == P.unfollowed f, c.recurses == P.recurses f, c.named == P.varsNamed f,
    c.maps == (fn.params.toList ++ s.plain.varTypes P).any (P.mapsRec ·), c.ifaces == (fn.params.toList ++ s.plain.varTypes P).any (P.ifacesRec ·), c.mapsOut == P.mapsAmong fn.resultTypes.toList,
    c.loops == (fn.params.toList ++ s.plain.varTypes P).any (P.loopsFrom ·), c.wideKeys == (fn.params.toList ++ s.plain.varTypes P ++ fn.resultTypes.toList).any (P.wideKeysFrom ·),
    s.vars.all (P.varReadable ·), fn.resultTypes.all (fun t => P.readableRec t && decide (t < P.types.size)), c.ifacesOut == fn.resultTypes.toList.any (P.ifacesRec ·), c.loopsOut == fn.resultTypes.toList.any (P.loopsFrom ·), c.plainKeys == P.plainKeys, c.shortTexts.isNone, P.stopsHeard, P.mayEnter, c.lifted == P.liftsFinal, P.make == some c.make,
    c.kinds == (if c.domain.isEmpty then [] else fn.params.toList.map fun t => match P.underlying t with | some (.int k) => some k | _ => .none), c.pinned == c.pinnedBy,
    c.veiled == (fn.params.toList ++ s.plain.varTypes P ++ fn.resultTypes.toList).any (P.veiledRec ·), c.veiledFits P fn.params.toList (fn.params.toList ++ s.plain.varTypes P ++ fn.resultTypes.toList)] id = true) : joinedFacts P f fn s c = true := by
  simp only [List.all_cons, List.all_nil, id, Bool.and_true, Bool.and_eq_true] at h
  obtain ⟨k0, k1, k2, k3, k4, k5, k6, k7, k8, k9, k10, k11, k12, k13, k14, k15, k16, k17, k18, k19, k20, k21, k22, k23, k24, k25, k26, k27, k28, k29, k30, k31⟩ := h
  unfold joinedFacts
  simp only [Bool.and_eq_true]
  exact ⟨⟨⟨⟨⟨⟨⟨⟨⟨⟨⟨⟨⟨⟨⟨⟨⟨⟨⟨⟨⟨⟨⟨⟨⟨⟨⟨⟨⟨⟨⟨k0, k1⟩, k2⟩, k3⟩, k4⟩, k5⟩, k6⟩, k7⟩, k8⟩, k9⟩, k10⟩, k11⟩, k12⟩, k13⟩, k14⟩, k15⟩, k16⟩, k17⟩, k18⟩, k19⟩, k20⟩, k21⟩, k22⟩, k23⟩, k24⟩, k25⟩, k26⟩, k27⟩, k28⟩, k29⟩, k30⟩, k31⟩
theorem all_of_and {b : Bool} {l : List Bool} (h : b = true) (hl : l.all id = true) : (b :: l).all id = true := by
  rw [List.all_cons, hl, h]; rfl
set_option maxRecDepth 100000 in
theorem joined : joinedFacts Tryz.prog 3 Tryz.f3 (OpenSpec.ofChange Rows.worldFullSpec).bare Rows.worldFullRow = true :=
  joined_all (all_of_and a1 (all_of_and a2 (all_of_and a3 (all_of_and a4 (all_of_and a5 (all_of_and a6 (all_of_and a7 (all_of_and a8 (all_of_and a9 (all_of_and a10 (all_of_and a11 (all_of_and a12 (all_of_and a13 (all_of_and a14 (all_of_and a15 (all_of_and a16 (all_of_and a17 (all_of_and a17b (all_of_and a18 (all_of_and a19 (all_of_and a20 (all_of_and a21 (all_of_and a22 (all_of_and a23 (all_of_and a23b (all_of_and a24 (all_of_and a24b (all_of_and a24c (all_of_and a25 (all_of_and a26 (all_of_and a27 (all_of_and a28 rfl))))))))))))))))))))))))))))))))

theorem said : Rows.WorldFullSaid :=
  OpenClaim.holds_of_cond 3 Tryz.f3 rfl rfl rfl rfl rfl rfl rfl ⟨rfl, rfl, rfl, rfl, rfl⟩ rfl rfl rfl rfl rfl f_named Tryz.func3 joined
    (of_decide_eq_true (by kernel_rfl)) (by unfold Func.isWrapper; first | (rw [if_pos (by decide +kernel)]; kernel_rfl) | (rw [if_neg (by decide +kernel)]; exact ⟨rfl, rfl⟩))
    (fun os started H enc _ F => by rw [OpenClaim.pre_eq_preRow]; exact lifted os started H enc F)

theorem plain (f : FuncId) (fn : Func) (hf : Tryz.pinned.checked.prog.funcNamed "clevis/clevislaw22.WorldFull" = some f) (hfn : Tryz.pinned.checked.prog.funcs[f]? = some fn) :
    true = Tryz.pinned.checked.prog.looks [] ∧ ∀ (j : Nat) t, fn.params[j]? = some t → Tryz.pinned.checked.prog.wantsStandIn t = false := by
  obtain rfl : f = 3 := Option.some.inj ((show Tryz.prog.funcNamed "clevis/clevislaw22.WorldFull" = some 3 from f_named).symm.trans hf) |>.symm
  obtain rfl : fn = Tryz.f3 := (Option.some.inj (Tryz.func3.symm.trans hfn)).symm
  refine ⟨looks_is, fun j t ht => ?_⟩
  rw [Tryz.params3] at ht
  have hm : t ∈ (#[28, 5, 32] : Array TypeId) := Array.mem_of_getElem? ht
  simp only [List.mem_toArray, List.mem_cons, List.not_mem_nil, or_false] at hm
  rcases hm with rfl | rfl | rfl
  · exact (show Tryz.prog.wantsStandIn 28 = false by kernel_rfl)
  · exact (show Tryz.prog.wantsStandIn 5 = false by kernel_rfl)
  · exact (show Tryz.prog.wantsStandIn 32 = false by kernel_rfl)
theorem proved : Rows.WorldFullCardSaid :=
  Claim7.holds_tied_plain_at .later [] _ _ _ _ said (fun _ h => by cases h) (by kernel_rfl) (fun _ h => by cases h) worldFull_row_tie rfl ⟨rfl, rfl⟩ main_is rfl plain (goes_by goes_all rfl)

end Go.Proofs.YtbjddfeihhdpoaaGreatDoor.worldFull
