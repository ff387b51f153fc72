/- SearchClean: for every input of the bulk that the row allows the law returns true, and its arguments read behind the call as they did. The two tables of unicode/utf8 are laid as the row lists them. -/
import Derived.Test.YtmckjdopplchbaaDoorSOpen
namespace Go.Proofs.YtmckjdopplchbaaDoor.searchClean
set_option linter.unusedVariables false
set_option linter.unusedSimpArgs false
open Go.ChangeShapes Go.WideShapes Go.ChangeAt Go.RowKit

theorem law_of {H : Type} (m : Int) (W : World) (name o : List UInt8) (rpv pv cv : Value) (rp ps : List (List UInt8)) (ks : List (List UInt8 × List UInt8)) {d : DataW H} (hm : W.cell? ⟨0, 0, .none⟩ = some (.int .i64 m)) (hrp : StrsB W.heap.size W rpv rp) (hps : StrsB W.heap.size W pv ps) (hks : PairsB W.heap.size W cv ks)
    (hzo : ByteArray.size ⟨o.toArray⟩ ≤ maxLen) (hb : name.length + rp.length + ps.length + ks.length ≤ Rows.uptoBulk d) (hc : Rows.uptoSmall H ([d] ++ []) = true) :
    Calls Tryd.prog 11 #[.agg #[.string ⟨name.toArray⟩, .string ⟨o.toArray⟩, rpv, pv, cv]] W fun e w' => e = .returned (.bool true) ∧ Below W.heap.size W w' := by
  have := bulk_bound hc
  simp [Rows.uptoBulkAll] at this
  exact law_sclean m W name o rpv pv cv rp ps hm hrp hps hzo (by omega) (by omega)

theorem contract (H : Type) (enc : TypeId × Value → H) (W : World) (base : Nat) (args : Array Value) (ds gs : List (DataW H)) (before : List MemPlace)
    (hval : ∀ (j : Nat) t v, Tryd.f11.params[j]? = some t → args[j]? = some v → Value.okWide Tryd.prog W .any base t v)
    (hW : DataW.Whole enc Tryd.prog Tryd.f11.params.toList Rows.searchCleanSpec.vars false W args.toList ds gs before) (hcond : ∀ k, (Rows.OpenSpec.upto Rows.searchCleanSpec).cond = some k → k H (ds ++ gs) = true) (hS : W.ShapedOpen Tryd.prog) :
    Calls Tryd.prog 11 args W fun e W' => ∃ v, e = .returned v ∧ Rows.searchCleanSpec.post enc Tryd.prog Tryd.f11 false true false false W args v W' := by
  obtain ⟨m, hm⟩ := someMax hS
  have hW' := hW
  obtain ⟨p, q, hA0, hV, rfl, hfz, hnd⟩ := hW
  have hA : DataW.TrodAll enc Tryd.prog W 0 (fun _ => true) true Tryd.f11.params.toList args.toList ds p := hA0
  rw [Tryd.params11] at hA hval
  obtain ⟨v0, d0, rfl, rfl, h0⟩ := trodAll_one hA
  obtain ⟨rfl, rfl⟩ := trodVars_none hV
  obtain ⟨name, o, rpv, pv, cv, rp, ps, ks, rfl, hrp, hps, hks, hzo, hbk⟩ := open_want (hval 0 40 v0 rfl rfl) h0
  clear hA0
  simp only [List.append_nil] at hW' hfz
  have hlt0 : ∀ x ∈ p, x.block < W.heap.size := fun x hx => hW'.lt x (by simp [hx])
  refine (law_of m W name o rpv pv cv rp ps ks hm hrp hps hks hzo hbk (hcond _ rfl)).mono fun e W' ⟨he, hb⟩ => ?_
  subst he
  exact ⟨_, rfl, ⟨_, _, _, [], p, [], hW', trodAll_mk1 (shut_bool Tryd.underlying4 _), trodAll_mk1 (arg_want h0 hb hlt0), rfl, hb.frame _, fun h => by cases h⟩⟩

set_option maxRecDepth 100000 in
theorem laid_met (os : Os) : laidMet Tryd.prog Rows.searchCleanUptoRow.laid ((laidWorld os).forCall (fun _ _ => 0) ⟨#[], #[.agg #[.string ⟨#[]⟩, .string ⟨#[]⟩, .slice .none 0 0, .slice .none 0 0, .slice .none 0 0]], []⟩).memory :=
  laidMet_of_run' 8 (by kernel_rfl) (by kernel_rfl)
theorem reads (os : Os) {H : Type} (enc : TypeId × Value → H) : ∃ places, DataW.whole enc Tryd.prog ((laidWorld os).forCall (fun _ _ => 0) ⟨#[], #[.agg #[.string ⟨#[]⟩, .string ⟨#[]⟩, .slice .none 0 0, .slice .none 0 0, .slice .none 0 0]], []⟩).memory Tryd.f11.params.toList Rows.searchCleanSpec.vars false (#[.agg #[.string ⟨#[]⟩, .string ⟨#[]⟩, .slice .none 0 0, .slice .none 0 0, .slice .none 0 0]] : Array Value).toList 8 = some ([.agg [.lit (.string []), .lit (.string []), .nil, .agg [.nil, .nil]]], [], places) :=
  ⟨[], by kernel_rfl⟩

set_option maxRecDepth 100000 in
theorem lifted (os : Os) (started : os.Started) (H : Type) (enc : TypeId × Value → H) (F : Stop.Interp) :
    ReturnsInHanded {} Tryd.checked os 11 .any ((Rows.OpenSpec.upto Rows.searchCleanSpec).preRow enc Tryd.prog Tryd.f11 Rows.searchCleanUptoRow.domain false Rows.searchCleanUptoRow.laid) (((Rows.OpenSpec.upto Rows.searchCleanSpec).at F).post enc Tryd.prog Tryd.f11 false true false false) := by
  obtain ⟨places, hx⟩ := reads os enc
  refine returnsInHanded_of_row (C := Tryd.checked) (s := Rows.OpenSpec.upto Rows.searchCleanSpec) own started (by kernel_rfl) Tryd.func11
    (witness_row_at (enc := enc) (C := Tryd.checked) false (laidWorld os) #[.agg #[.string ⟨#[]⟩, .string ⟨#[]⟩, .slice .none 0 0, .slice .none 0 0, .slice .none 0 0]] rfl (by kernel_rfl) (by kernel_rfl) (by kernel_rfl)
      (OpenSpec.preRow_of_cond 8 hx (by kernel_rfl) (fun k hk => by cases hk; kernel_rfl) (by kernel_rfl) (laid_met os))) ?_
  intro W base args ds gs before hval hW _ hcond _ _ hS _
  exact contract H enc W base args ds gs before hval hW hcond hS

theorem said : Rows.SearchCleanUptoSaid :=
  OpenClaim.holds_of_cond 11 Tryd.f11 rfl rfl rfl rfl rfl rfl rfl ⟨rfl, rfl, rfl, rfl, rfl⟩ rfl rfl rfl rfl rfl (by kernel_rfl) Tryd.func11 (by kernel_rfl)
    (of_decide_eq_true (by kernel_rfl)) (by unfold Func.isWrapper; first | (rw [if_pos (by decide +kernel)]; kernel_rfl) | (rw [if_neg (by decide +kernel)]; exact ⟨rfl, rfl⟩))
    (fun os started H enc _ F => by rw [OpenClaim.pre_eq_preRow]; exact lifted os started H enc F)

theorem plain (f : FuncId) (fn : Func) (hf : Tryd.pinned.checked.prog.funcNamed "clevis/clevislaw12.SearchClean" = some f) (hfn : Tryd.pinned.checked.prog.funcs[f]? = some fn) :
    false = Tryd.pinned.checked.prog.looks [] ∧ ∀ (j : Nat) t, fn.params[j]? = some t → Tryd.pinned.checked.prog.wantsStandIn t = false := by
  obtain rfl : f = 11 := Option.some.inj ((show Tryd.prog.funcNamed "clevis/clevislaw12.SearchClean" = some 11 by kernel_rfl).symm.trans hf) |>.symm
  obtain rfl : fn = Tryd.f11 := (Option.some.inj (Tryd.func11.symm.trans hfn)).symm
  refine ⟨by kernel_rfl, fun j t ht => ?_⟩
  rw [Tryd.params11] at ht
  have hm : t ∈ (#[40] : Array TypeId) := Array.mem_of_getElem? ht
  simp only [List.mem_toArray, List.mem_cons, List.not_mem_nil, or_false] at hm
  rcases hm with rfl
  exact (show Tryd.prog.wantsStandIn 40 = false by kernel_rfl)

theorem proved : Rows.SearchCleanUptoCardSaid :=
  Claim7.holds_tied_plain_at .later [] _ _ _ _ said (fun _ h => by cases h) (by kernel_rfl) (fun _ h => by cases h) searchCleanUpto_row_tie rfl ⟨rfl, rfl⟩ (by kernel_rfl) rfl plain (by kernel_rfl)

end Go.Proofs.YtmckjdopplchbaaDoor.searchClean
