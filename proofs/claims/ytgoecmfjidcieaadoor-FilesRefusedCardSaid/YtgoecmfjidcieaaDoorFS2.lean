/- the store's walk, plain; the map's readings; Clone; append of a slice of texts -/
import Derived.Test.YtgoecmfjidcieaaDoorFS1
namespace Go.Proofs.YtgoecmfjidcieaaDoor
set_option linter.unusedVariables false
set_option linter.unusedSimpArgs false
open Go.RowKit

/-- a walk along parts: N what stands where, last: is the last link followed?, at: where it stands, k: the links so far -/
def walkL (N : List UInt8 → Option NodeL) (last : Bool) (todo : List (List UInt8)) (at_ : List UInt8) (k : Nat) : List UInt8 × Int :=
  match todo with
  | [] => (at_, 0)
  | p :: r =>
    if p = [46, 46] then walkL N last r (upL at_) k
    else match N (joinL at_ p) with
      | none => if r = [] then (joinL at_ p, 31) else ([], 31)
      | some n =>
        if n.kind = 3 ∧ (last = true ∨ r ≠ []) then
          if h : 8 ≤ k then ([], 35)
          else walkL N last ((partsL n.dest).getD [] ++ r) (if n.dest.head? = some 47 then [47] else at_) (k + 1)
        else if n.kind ≠ 2 ∧ r ≠ [] then ([], 34)
        else walkL N last r (joinL at_ p) k
termination_by (9 - k, todo.length)
decreasing_by all_goals (simp_wf; first | (apply Prod.Lex.right; simp) | (apply Prod.Lex.left; omega) | omega)

section
variable {N : List UInt8 → Option NodeL} {last : Bool} {r : List (List UInt8)} {p a : List UInt8} {k : Nat} {n : NodeL}
theorem walkL_nil : walkL N last [] a k = (a, 0) := by rw [walkL]
theorem walkL_up : walkL N last ([46, 46] :: r) a k = walkL N last r (upL a) k := by rw [walkL, if_pos rfl]
theorem walkL_none (hp : p ≠ [46, 46]) (hn : N (joinL a p) = none) : walkL N last (p :: r) a k = if r = [] then (joinL a p, 31) else ([], 31) := by rw [walkL, if_neg hp, hn]
theorem walkL_loop (hp : p ≠ [46, 46]) (hn : N (joinL a p) = some n) (h3 : n.kind = 3) (hl : last = true ∨ r ≠ []) (hk : 8 ≤ k) : walkL N last (p :: r) a k = ([], 35) := by
  rw [walkL, if_neg hp, hn]; simp only; rw [if_pos ⟨h3, hl⟩, dif_pos hk]
theorem walkL_link (hp : p ≠ [46, 46]) (hn : N (joinL a p) = some n) (h3 : n.kind = 3) (hl : last = true ∨ r ≠ []) (hk : ¬ 8 ≤ k) :
    walkL N last (p :: r) a k = walkL N last ((partsL n.dest).getD [] ++ r) (if n.dest.head? = some 47 then [47] else a) (k + 1) := by
  rw [walkL, if_neg hp, hn]; simp only; rw [if_pos ⟨h3, hl⟩, dif_neg hk]
theorem walkL_file (hp : p ≠ [46, 46]) (hn : N (joinL a p) = some n) (h3 : ¬ (n.kind = 3 ∧ (last = true ∨ r ≠ []))) (h2 : n.kind ≠ 2) (hr : r ≠ []) : walkL N last (p :: r) a k = ([], 34) := by
  rw [walkL, if_neg hp, hn]; simp only; rw [if_neg h3, if_pos ⟨h2, hr⟩]
theorem walkL_on (hp : p ≠ [46, 46]) (hn : N (joinL a p) = some n) (h3 : ¬ (n.kind = 3 ∧ (last = true ∨ r ≠ []))) (h2 : ¬ (n.kind ≠ 2 ∧ r ≠ [])) : walkL N last (p :: r) a k = walkL N last r (joinL a p) k := by
  rw [walkL, if_neg hp, hn]; simp only; rw [if_neg h3, if_neg h2]
end

theorem joinL_len (d p : List UInt8) : (joinL d p).length ≤ d.length + 1 + p.length := by unfold joinL; split <;> simp <;> omega
theorem joinL_ne (d p : List UInt8) (h : d ≠ []) : joinL d p ≠ [] := by unfold joinL; split <;> simp [h]
theorem partsL_weight {path : List UInt8} {l : List (List UInt8)} (h : partsL path = some l) : weight l ≤ path.length + 1 := by
  obtain ⟨_, _, rfl⟩ := partsL_inv h
  have h2 := weight_filter keepB (pcA 47 [] path)
  have h3 := weight_pcA 47 path []
  simp at h3; omega
theorem weight_parts (path : List UInt8) : weight ((partsL path).getD []) ≤ 201 := by
  cases h : partsL path with
  | none => simp [weight]
  | some l =>
    have := partsL_weight h
    have := (partsL_inv h).1
    simp only [Option.getD_some]; omega
theorem length_weight : ∀ l : List (List UInt8), l.length ≤ weight l
  | [] => by simp [weight]
  | x :: l => by have := length_weight l; simp only [weight, List.length_cons]; omega

section
variable {s b : Nat} {w : World} {st : StL}
theorem SM.look (h : SM s b w st) (p : List UInt8) (hp : p.length ≤ 1099511627776) :
    (Instr.lookup 64 (.map (some b)) (.string ⟨p.toArray⟩) true).run Tryd.prog w = .ok (.tuple #[nodeV (st.get p), .bool (st.has p).isSome]) w := by
  obtain ⟨D, h1, h2⟩ := h.map
  obtain ⟨v, ps, hrun, hv⟩ := h1.look_ok kString (t := 64) Tryd.underlying64 (zeroNode w) (nodeR_mk NodeL.zero) (keyS hp)
  obtain ⟨n, rfl, he⟩ := nodeR_inv hv
  rw [hrun, h2.has]
  have h3 : D.atKey (.string p) (nodeD NodeL.zero) = nodeD n := congrArg Prod.fst he
  rw [nodeD_inj (h3.symm.trans (h2.get p))]
theorem SM.look1 (h : SM s b w st) (p : List UInt8) (hp : p.length ≤ 1099511627776) :
    (Instr.lookup 64 (.map (some b)) (.string ⟨p.toArray⟩) false).run Tryd.prog w = .ok (nodeV (st.get p)) w := by
  obtain ⟨D, h1, h2⟩ := h.map
  obtain ⟨v, ps, hrun, hv⟩ := h1.lookup kString (t := 64) Tryd.underlying64 (zeroNode w) (nodeR_mk NodeL.zero) (keyS hp)
  obtain ⟨n, rfl, he⟩ := nodeR_inv hv
  rw [hrun]
  have h3 : D.atKey (.string p) (nodeD NodeL.zero) = nodeD n := congrArg Prod.fst he
  rw [nodeD_inj (h3.symm.trans (h2.get p))]
theorem SM.len (h : SM s b w st) (ty : TypeId) : (Builtin.len_ #[64] ty #[.map (some b)]).run Tryd.prog w = .ok (.int .i64 st.count) w := by
  obtain ⟨D, h1, h2⟩ := h.map
  rw [h1.len Tryd.underlying64 ty, h2.size]
end

theorem clone_any (B : Nat) (w : World) (v : Value) (l : List (List UInt8)) (hv : OwnS B w v l) (hl : l.length ≤ 1000000) :
    Calls Tryd.prog 53 #[v] w fun e w' => ∃ u, e = .returned u ∧ OwnS w.heap.size w' u l ∧ Below w.heap.size w w' := by
  have hh := hv
  rcases hv.2 with ⟨rfl, h0⟩ | ⟨g, cap, cur, rfl, hg, _⟩
  · obtain rfl : l = [] := List.eq_nil_of_length_eq_zero h0
    refine (Tryd.slices_Clone_string_nil 0 0 w).mono ?_
    rintro e w' ⟨rfl, rfl⟩
    exact ⟨_, rfl, OwnS.nil _ _, Below.refl _ _⟩
  · have hc := World.ownsRow.cells hh (g := g) rfl
    refine (Tryd.slices_Clone_string g 0 l.length cap (l.map fun x => (⟨x.toArray⟩ : ByteArray)) w (by simp) (by omega) (fun j hj => ?_)).mono ?_
    · have hj' : j < l.length := by simpa using hj
      have := hc j (.string ⟨(l[j]).toArray⟩) (by simp [strs, hj'])
      have e1 : (⟨g, 0, none⟩ : Addr).add j = ⟨g, j, none⟩ := by unfold Addr.add; split <;> simp_all
      rw [e1] at this
      rw [Nat.zero_add, this]
      simp [hj']
    · rintro e w' ⟨u, rfl, h1, _, h2⟩
      refine ⟨u, rfl, ?_, h2⟩
      have e1 : ((l.map fun x => (⟨x.toArray⟩ : ByteArray)).take l.length).map Value.string = strs l := by
        rw [List.take_of_length_le (by simp), List.map_map]; rfl
      rw [e1] at h1
      exact h1

/-- append of all of a slice of texts, wherever it lies -/
theorem wpList_appendStrs2 (w : World) {ops : Array Oper} {rest : List Oper} {o : Oper} {a : Act} {Q : Exit → Act → World → Prop} (hgd : o.guard = none) (s x : Operand)
    (ho : o.op = .call { callee := .builtin .append, args := #[s, x], argTypes := #[44, 44] })
    (B : Nat) (v : Value) (xs ys : List (List UInt8)) (hs : a.eval s = v) (hown : OwnS B w v xs) (g off n cap : Nat) (hn : n = ys.length) (hx : a.eval x = .slice (some ⟨g, off, none⟩) n cap)
    (hc : ∀ i, i < ys.length → w.cell? ⟨g, off + i, none⟩ = some (.string ⟨(snth ys i).toArray⟩))
    (hlen : xs.length + ys.length ≤ 1099511627776) (hB : B ≤ w.heap.size)
    (h : ∀ v' w', OwnS B w' v' (xs ++ ys) → Below B w w' → wpList Tryd.prog ops Q rest (a.put o.dst v') w') : wpList Tryd.prog ops Q (o :: rest) a w := by
  obtain ⟨i0, hi, hz0, hz1, hz2⟩ := info_parts info_string
  have hlt := World.ownsRow.lt hown
  subst hn
  refine wpList_append_own w hgd s x 44 ho B 9 i0 (.string ⟨#[]⟩) 1 16 Tryd.underlying44 hi hz0 hz1 hz2 rfl (by decide) v xs.length (Go.Proofs.YtgoecmfjidcieaaDoor.strs xs) hs hown ⟨g, off, none⟩ ys.length cap (Go.Proofs.YtgoecmfjidcieaaDoor.strs ys) hx (by simp [Go.Proofs.YtgoecmfjidcieaaDoor.strs]) ?_ ?_ ?_ ?_ hB ?_
  · intro j u hu
    have hj : j < ys.length := by have := (List.getElem?_eq_some_iff.1 hu).1; simpa [Go.Proofs.YtgoecmfjidcieaaDoor.strs] using this
    have e1 : (⟨g, off, none⟩ : Addr).add j = ⟨g, off + j, none⟩ := by unfold Addr.add; split <;> simp_all
    rw [e1, hc j hj, snth_eq ys j hj]
    simpa [Go.Proofs.YtgoecmfjidcieaaDoor.strs, hj] using hu
  · intro u hu; simp only [Go.Proofs.YtgoecmfjidcieaaDoor.strs, List.mem_map] at hu; obtain ⟨y, _, rfl⟩ := hu; rfl
  · unfold maxLen; omega
  · omega
  · intro v' w' h1 h2 _
    refine h v' w' ?_ ((Below.refl B w).grown h2 hB fun k hk => (hlt k hk).1)
    simpa [OwnS, Go.Proofs.YtgoecmfjidcieaaDoor.strs] using h1

end Go.Proofs.YtgoecmfjidcieaaDoor
