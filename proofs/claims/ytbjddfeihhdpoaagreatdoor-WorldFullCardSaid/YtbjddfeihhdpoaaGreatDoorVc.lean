import Derived.Test.YtbjddfeihhdpoaaGreatDoorVb
import Derived.Laws.Externs
set_option linter.unusedVariables false
set_option linter.unusedSimpArgs false
namespace Go.Proofs.YtbjddfeihhdpoaaGreatDoor
open Go
variable {P : Program} {ι : Map} {h : AH} {w : World} {F : T AT} {a : Act}

theorem puts_get : ∀ (l : List AC) (c : T AC) (k i : Nat), (puts l c k).get i = if k ≤ i ∧ i < k + l.length then l[i - k]? else c.get i
  | [], c, k, i => by simp [puts]; intro h1 h2; omega
  | x :: l, c, k, i => by
    rw [puts, puts_get l, T.get_set]
    simp only [List.length_cons]
    by_cases h1 : k + 1 ≤ i ∧ i < k + 1 + l.length
    · rw [if_pos h1, if_pos (by omega), show i - k = i - (k + 1) + 1 by omega, List.getElem?_cons_succ]
    · rw [if_neg h1]
      by_cases h2 : i = k
      · rw [if_pos h2, if_pos (by omega), h2, Nat.sub_self]; rfl
      · rw [if_neg h2, if_neg (by omega)]
/-- cells are stored, one by one -/
theorem run_storeCells_at (r k : Nat) (t : TypeId) (f : Nat × Nat) : ∀ (vs : List Value) (i : Nat) (w : World) (arr : Array Value), w.heap[r]? = some (.cells arr t f) → (f.1 = f.2 ∨ arr.size ≤ f.1) →
    (∀ v ∈ vs, v.oneCell' = true) → k + i + vs.length ≤ arr.size →
    ∃ w' arr', (storeCells ⟨r, k, none⟩ vs i).run P w = .ok () w' ∧ w'.heap[r]? = some (.cells arr' t f) ∧ arr'.size = arr.size ∧
      (∀ j, arr'[j]? = if k + i ≤ j ∧ j < k + i + vs.length then vs[j - (k + i)]? else arr[j]?) ∧ (∀ q, q ≠ r → w'.heap[q]? = w.heap[q]?) ∧ w'.heap.size = w.heap.size ∧ Calm w w'
  | [], i, w, arr, hh, hf, h1, hl => ⟨w, arr, rfl, hh, rfl, fun j => by rw [if_neg (by simp)], fun _ _ => rfl, rfl, .refl _⟩
  | v :: vs, i, w, arr, hh, hf, h1, hl => by
    simp only [List.length_cons] at hl
    have hc : w.cell? ⟨r, k + i, none⟩ = some arr[k + i] := by simp [World.cell?, hh]
    have hfr : w.frozen? ⟨r, k + i, none⟩ = false := by
      obtain ⟨f1, f2⟩ := f
      simp only [World.frozen?, hh]
      rw [Bool.and_eq_false_iff]
      rcases hf with hf | hf
      · have : f1 = f2 := hf
        by_cases h : f1 ≤ k + i
        · exact .inr (by simp; omega)
        · exact .inl (by simp; omega)
      · have : arr.size ≤ f1 := hf
        exact .inl (by simp; omega)
    have hs : (store ((⟨r, k, none⟩ : Addr).add i) v).run P w = .ok () (w.setCell ⟨r, k + i, none⟩ v) := by
      rw [Addr.add_o, run_store P w _ v .plain (h1 v (by simp)), hc]
      simp [hfr]
    have hat : ∀ q, (w.setCell ⟨r, k + i, none⟩ v).heap[q]? = if r = q then (w.heap[q]?).map (fun | .cells c e fr => .cells (c.setIfInBounds (k + i) v) e fr | o => o) else w.heap[q]? := fun q => by
      unfold World.setCell
      exact Array.getElem?_modify
    have hh' : (w.setCell ⟨r, k + i, none⟩ v).heap[r]? = some (.cells (arr.setIfInBounds (k + i) v) t f) := by rw [hat, if_pos rfl, hh]; rfl
    obtain ⟨w', arr', e1, e2, e3, e4, e5, e6, e7⟩ := run_storeCells_at r k t f vs (i + 1) _ _ hh' (by simpa using hf) (fun u hu => h1 u (by simp [hu])) (by simp; omega)
    refine ⟨w', arr', ?_, e2, by simpa using e3, fun j => ?_, fun q hq => by rw [e5 q hq, hat, if_neg (fun e => hq e.symm)], by rw [e6]; simp, e7⟩
    · show (storeCells ⟨r, k, none⟩ (v :: vs) i).run P w = _
      unfold storeCells
      rw [Sem.run_bind, hs]
      exact e1
    · rw [e4]
      simp only [List.length_cons]
      by_cases h1 : k + (i + 1) ≤ j ∧ j < k + (i + 1) + vs.length
      · rw [if_pos h1, if_pos (by omega), show j - (k + i) = j - (k + (i + 1)) + 1 by omega, List.getElem?_cons_succ]
      · rw [if_neg h1]
        by_cases h2 : j = k + i
        · subst h2
          rw [if_pos (by omega), Nat.sub_self, Array.getElem?_setIfInBounds_self_of_lt (by omega)]; rfl
        · rw [if_neg (by omega), Array.getElem?_setIfInBounds_ne (by omega)]
theorem one_all2 : ∀ {l : List AC} {us : List Value}, All2 (AC.den ι) l us → ∀ v ∈ us, v.oneCell' = true
  | [], [], _, v, hv => by cases hv
  | _ :: _, u :: us, hh, v, hv => by
    cases hv with
    | head => exact AC.den.one hh.1
    | tail _ hv => exact one_all2 hh.2 v hv
  | [], _ :: _, hh, _, _ => hh.elim
  | _ :: _, [], hh, _, _ => hh.elim
/-- a block's cells from k on are stored anew; 'n'' cells of it are known behind it -/
theorem blk_store {b r z : Nat} {c : T AC} {n n' : Nat} {t : TypeId} (hk : (Blk.cells c n t).ok ι z w.heap[r]?) {l : List AC} {us : List Value} (hl : All2 (AC.den ι) l us) (k : Nat) (hkn : k ≤ n) (hn : n ≤ n') (hn2 : n' ≤ z)
    (hkl : k + l.length ≤ z) (hcov : n' ≤ max n (k + l.length)) :
    ∃ w', (storeCells ⟨r, k, none⟩ us).run P w = .ok () w' ∧ (Blk.cells (puts l c k) n' t).ok ι z w'.heap[r]? ∧ (∀ q, q ≠ r → w'.heap[q]? = w.heap[q]?) ∧ w'.heap.size = w.heap.size ∧ Calm w w' := by
  obtain ⟨arr, f, hh, hz, hnz, hf, hc⟩ := hk
  have hlen := hl.length
  obtain ⟨w', arr', e1, e2, e3, e4, e5, e6, e7⟩ := run_storeCells_at (P := P) r k t f us 0 w arr hh (by rw [hz]; exact hf) (one_all2 hl) (by omega)
  refine ⟨w', e1, ⟨arr', f, e2, by omega, hn2, hf, fun i x hi hx => ?_⟩, e5, e6, e7⟩
  rw [puts_get] at hx
  rw [e4]
  simp only [Nat.add_zero]
  by_cases h1 : k ≤ i ∧ i < k + l.length
  · rw [if_pos h1] at hx
    rw [if_pos (by omega)]
    exact hl.get _ hx
  · rw [if_neg h1] at hx
    rw [if_neg (by omega)]
    exact hc i x (by omega) hx
theorem ok_store (R : Rel ι h w) (hF : RelF ι F a) {o : Oper} {id : Nat} {t : TypeId} {x y : Operand} (ho : o.op = .store t x y) : OK P ι h w id ((execOp a.eval o).run P w) (rh (storeA P h t (one F x) (opo F y))) := by
  cases hs : storeA P h t (one F x) (opo F y) with
  | none => trivial
  | some h' =>
    unfold storeA at hs
    split at hs
    · rename_i b k v hx hy
      split at hs
      · rename_i c n u z hb hz
        split at hs
        · rename_i hcc
          cases hs
          rw [Bool.and_eq_true] at hcc
          have h1 := eq_beq hcc.1
          have h2 := le_ble hcc.2
          obtain ⟨r, zz, er, hu, hk⟩ := p_den (one_den hF hx) R hb
          have hv := AV.den.cells (opo_den hF hy)
          have hzz : n ≤ zz := by obtain ⟨_, _, _, _, hn, _⟩ := hk; exact hn
          obtain ⟨w', e1, e2, e3, e4, e5⟩ := blk_store (P := P) (b := b) hk hv k (by omega) (Nat.le_refl n) hzz (by omega) (by omega)
          have hput := R.put hb er e2 e3 e4 e5
          refine ⟨ι, w', undef, .inr ⟨?_, rfl⟩, Ext.refl _, hput.1, hput.2, [], rfl, trivial⟩
          simp only [execOp, ho, hu]
          have hsz : (a.eval y).cells.size = z := by rw [← size_of_len hv]; exact h1
          have hst : (storeVar t ⟨r, k, none⟩ (a.eval y)).run P w = .ok () w' := by
            simp only [storeVar, Sem.run_bind, run_sz hz, Result.andThen_ok]
            rw [if_neg (by omega)]
            exact e1
          simp [Instr.storeAt, Instr.sureAddr, hst]
        · cases hs
      · cases hs
    · cases hs
/-! append -/
theorem Rel.del (R : Rel ι h w) (b : Nat) : Rel ι ⟨h.t.del b, h.n⟩ w ∧ Keep ι h w ι ⟨h.t.del b, h.n⟩ w := by
  have hg : ∀ c k, (h.t.del b).get c = some k → h.t.get c = some k := fun c k e => by
    rw [T.get_del] at e
    split at e
    · cases e
    · exact e
  exact ⟨⟨fun c k hc => R.blk c k (hg c k hc), fun c d k j r y z hc hd => R.inj c d k j r y z (hg c k hc) (hg d j hd), R.fresh⟩,
    ⟨Nat.le_refl _, fun r hr hn => ⟨rfl, fun ⟨c, k, z, hc, e⟩ => hn ⟨c, k, z, hg c k hc, e⟩⟩⟩, Nat.le_refl _, fun _ _ => rfl, .refl _⟩
/-- a block goes on under a new number -/
theorem Rel.move (R : Rel ι h w) {b r z : Nat} {k k' : Blk} {w' : World} (hb : h.t.get b = some k) (er : ι b = some (r, z)) (hk : k'.ok ι z w'.heap[r]?) (hw : ∀ q, q ≠ r → w'.heap[q]? = w.heap[q]?) (hs : w'.heap.size = w.heap.size) (hcm : Calm w w') :
    Rel (ι.add h.n r z) ⟨(h.t.del b).set h.n k', h.n + 1⟩ w' ∧ Keep ι h w (ι.add h.n r z) ⟨(h.t.del b).set h.n k', h.n + 1⟩ w' ∧ Ext ι (ι.add h.n r z) := by
  have hn := R.fresh h.n (Nat.le_refl _)
  have hx := Map.add_ext (r := r) (z := z) hn
  have hg : ∀ c j, ((h.t.del b).set h.n k').get c = some j → (c = h.n ∧ j = k') ∨ (c ≠ h.n ∧ c ≠ b ∧ h.t.get c = some j) := fun c j e => by
    rw [T.get_set] at e
    split at e
    · rename_i hc; cases e; exact .inl ⟨hc, rfl⟩
    · rename_i hc
      rw [T.get_del] at e
      split at e
      · cases e
      · rename_i hcb; exact .inr ⟨hc, hcb, e⟩
  have hne : ∀ c j, h.t.get c = some j → c ≠ b → ∀ y, ι c ≠ some (r, y) := fun c j hc hcb y e => hcb (R.inj c b j k r y z hc hb e er)
  refine ⟨⟨fun c j hc => ?_, fun c d j i q y y' hc hd ec ed => ?_, fun c hc => ?_⟩, ⟨⟨by omega, fun q hq ht => ⟨hw q (fun e => ht ⟨b, k, z, hb, by rw [e]; exact er⟩), ?_⟩⟩, Nat.le_succ _, fun c hc => if_neg (by omega), hcm⟩, hx⟩
  · rcases hg c j hc with ⟨rfl, rfl⟩ | ⟨h1, h2, h3⟩
    · exact ⟨r, z, Map.add_self _ _ _ _, hk.ext hx⟩
    · obtain ⟨q, y, e, hj⟩ := R.blk c j h3
      exact ⟨q, y, hx _ _ e, by rw [hw q (fun e' => hne c j h3 h2 y (by rw [← e']; exact e))]; exact hj.ext hx⟩
  · have hold : ∀ c (_ : Blk), c ≠ h.n → (ι.add h.n r z) c = ι c := fun c _ hc => if_neg hc
    rcases hg c j hc with ⟨rfl, rfl⟩ | ⟨h1, h2, h3⟩ <;> rcases hg d i hd with ⟨e1, rfl⟩ | ⟨h4, h5, h6⟩
    · exact e1.symm
    · rw [Map.add_self] at ec; cases ec
      rw [hold d i h4] at ed
      exact absurd ed (hne d i h6 h5 _)
    · subst e1
      rw [Map.add_self] at ed; cases ed
      rw [hold c j h1] at ec
      exact absurd ec (hne c j h3 h2 _)
    · rw [hold c j h1] at ec; rw [hold d i h4] at ed
      exact R.inj c d j i q y y' h3 h6 ec ed
  · have hc : h.n + 1 ≤ c := hc
    unfold Map.add
    rw [if_neg (by omega)]
    exact R.fresh c (by omega)
  · rintro ⟨c, j, y, hc, e⟩
    rcases hg c j hc with ⟨rfl, rfl⟩ | ⟨h1, h2, h3⟩
    · rw [Map.add_self] at e; cases e
      exact ht ⟨b, k, z, hb, er⟩
    · unfold Map.add at e
      rw [if_neg h1] at e
      exact ht ⟨c, j, y, h3, e⟩
theorem elems_ok (R : Rel ι h w) {x : AC} {n : Nat} {l : List AC} {z : Nat} (e : elems h x = some (n, l)) {u : Value} (hu : x.den ι u) (hlz : l.length = n * z) (hz : 0 < z) :
    (Builtin.lenOf u).run P w = .ok n w ∧ ∀ m, m ≤ n → ∃ us : List Value, (∀ w' : World, w'.heap = w.heap → (Builtin.firstCells z m u).run P w' = .ok ⟨us⟩ w') ∧ All2 (AC.den ι) (l.take (m * z)) us := by
  cases x with
  | v x =>
    have hx := hu.1
    subst hx
    cases u with
    | slice p i j =>
      cases p with
      | some p => cases e
      | none =>
        cases i with
        | succ i => cases e
        | zero =>
          cases j with
          | succ j => cases e
          | zero => cases e; exact ⟨rfl, fun m hm => ⟨[], fun _ _ => rfl, by rw [show m = 0 by omega]; simp [All2]⟩⟩
    | string s =>
      cases e
      refine ⟨rfl, fun m hm => ?_⟩
      have hsz : s.data.toList.length = s.size := rfl
      have hz1 : z = 1 ∨ s.size = 0 := by
        simp only [List.length_map, hsz] at hlz
        rcases Nat.eq_zero_or_pos s.size with h | h
        · exact .inr h
        · exact .inl (by have := Nat.eq_of_mul_eq_mul_left h (show s.size * 1 = s.size * z by omega); omega)
      refine ⟨((s.data.toList.take m).map fun b => Value.int .u8 b.toNat), ?_, ?_⟩
      · intro w' _
        obtain ⟨⟨s⟩⟩ := s
        simp [Builtin.firstCells]
      · have : ∀ q : List UInt8, All2 (AC.den ι) (q.map fun b => .v (.int .u8 b.toNat)) (q.map fun b => Value.int .u8 b.toNat) := by
          intro q
          induction q with
          | nil => trivial
          | cons a q ih => exact ⟨⟨rfl, rfl⟩, ih⟩
        rw [← List.map_take]
        have hm2 : s.data.toList.take (m * z) = s.data.toList.take m := by
          rcases hz1 with h | h
          · rw [h, Nat.mul_one]
          · have : m = 0 := by omega
            rw [this]; simp
        rw [hm2]
        exact this _
    | _ => cases e
  | s b q n' f =>
    obtain ⟨r, zz, k, er, hu, hnk, hk⟩ := hu
    simp only [elems] at e
    split at e
    · rename_i c m t hb
      split at e
      · rename_i l' hle hl
        cases e
        obtain ⟨r', zz', er', hblk⟩ := R.blk b _ hb
        rw [er] at er'; cases er'
        obtain ⟨us, h1, h2, h3⟩ := gets_cells hblk hl (le_ble hle)
        subst hu
        have hfz : n * f = n * z := by rw [← hlz, h1.length, h2]
        refine ⟨rfl, fun m hm => ⟨us.take (m * z), fun w' hw => ?_, h1.take _⟩⟩
        have hcell : ∀ p, w'.cell? p = w.cell? p := fun p => by simp [World.cell?, hw]
        have hmz : m * z ≤ n * z := Nat.mul_le_mul_right _ hm
        have := run_loadCells_list (P := P) w' ⟨r, q, none⟩ (us.take (m * z)) (fun j v hv => by
          rw [Addr.add_o, hcell]
          exact h3 j v (by
            obtain ⟨hj, e⟩ := List.getElem?_eq_some_iff.1 hv
            rw [List.getElem_take] at e
            exact List.getElem?_eq_some_iff.2 ⟨by simp at hj; omega, e⟩))
        rw [List.length_take, h2, Nat.min_eq_left (by omega)] at this
        exact this
      · cases e
    · cases e
  | nz b => obtain ⟨r, z, q, er, rfl⟩ := hu; cases e; exact ⟨rfl, fun m hm => ⟨[], fun _ _ => by rw [show m = 0 by omega]; simp [Builtin.firstCells, loadCells, loadCellsFrom], by rw [show m = 0 by omega]; simp [All2]⟩⟩
  | ne b => obtain ⟨r, z, q, k, er, rfl⟩ := hu; cases e; exact ⟨rfl, fun m hm => ⟨[], fun _ _ => by rw [show m = 0 by omega]; simp [Builtin.firstCells, loadCells, loadCellsFrom], by rw [show m = 0 by omega]; simp [All2]⟩⟩
  | _ => cases e
end Go.Proofs.YtbjddfeihhdpoaaGreatDoor
namespace Go.Proofs.YtbjddfeihhdpoaaGreatDoor
open Go
variable {P : Program} {ι : Map} {h : AH} {w : World} {F : T AT} {a : Act}

theorem srcOk_und {u : TypeId} (e : srcOk P u = true) : ∃ d, und P u = some d ∧ (d = .string ∨ ∃ q, d = .slice q) := by
  unfold srcOk at e
  split at e
  · rename_i q h; exact ⟨_, h, .inr ⟨q, rfl⟩⟩
  · rename_i h; exact ⟨_, h, .inl rfl⟩
  · cases e
theorem run_zeros {u : TypeId} (e : srcOk P u = true) (w : World) : (do pure ((← underlying u) matches .int _) : Sem Bool).run P w = .ok false w := by
  obtain ⟨d, hd, hh⟩ := srcOk_und e
  rw [Sem.run_bind, run_und hd]
  rcases hh with rfl | ⟨q, rfl⟩ <;> rfl
/-- append: where it fits -/
theorem run_append_fit {t u e : TypeId} {z : Nat} {ts : Array TypeId} {ty : TypeId} (h0 : ts[0]? = some t) (h1 : ts[1]? = some u) (ht : und P t = some (.slice e)) (hz : szT P e = some z) (hu : srcOk P u = true)
    {base : Option Addr} {n k m : Nat} {x : Value} {us : List Value} (hx : (Builtin.lenOf x).run P w = .ok m w) (hfit : n + m ≤ k) (hc : (Builtin.firstCells z m x).run P w = .ok ⟨us⟩ w)
    {w' : World} (hs : match base with | some p => (storeCells (p.add (n * z)) us).run P w = .ok () w' | none => w' = w) :
    (Builtin.append_ ts ty #[.slice base n k, x]).run P w = .ok (.slice base (n + m) k) w' := by
  obtain ⟨d, hd, hh⟩ := srcOk_und hu
  unfold Builtin.append_
  rcases hh with rfl | ⟨q, rfl⟩
  all_goals
    simp only [h0, h1, List.getElem?_toArray, List.getElem?_cons_zero, List.getElem?_cons_succ, Sem.run_bind, run_und ht, Result.andThen_ok, run_sz hz, run_und hd, Sem.run_pure, Bool.false_eq_true, if_false, hx]
    rw [if_pos hfit]
    simp only [Sem.run_bind, Bool.not_false, if_true, hc, Result.andThen_ok]
    cases base with
    | none => subst hs; simp
    | some p => simp [hs]
theorem zeroCells_size (zc : Array Value) (n : Nat) : (Builtin.zeroCells zc n).size = n * zc.size := by simp [Builtin.zeroCells]
/-- append: where a new block is made -/
theorem run_append_new {t u e : TypeId} {z : Nat} {ts : Array TypeId} {ty : TypeId} (h0 : ts[0]? = some t) (h1 : ts[1]? = some u) (ht : und P t = some (.slice e)) (hz : szT P e = some z) (hu : srcOk P u = true)
    {base : Option Addr} {n k m : Nat} {x : Value} {us old : List Value} (hx : (Builtin.lenOf x).run P w = .ok m w) (hfit : k < n + m) (hc : ∀ w', w'.heap = w.heap → (Builtin.firstCells z m x).run P w' = .ok ⟨us⟩ w')
    (ho : ∀ w', w'.heap = w.heap → (Builtin.firstCells z n (.slice base n k)).run P w' = .ok ⟨old⟩ w') (hg : growOk P e z (n + m) = true) (hn : n + m ≤ 4194304) (hus : us.length = m * z) (hold : old.length = n * z) :
    ∃ cap w' b, n + m ≤ cap ∧ (Builtin.append_ ts ty #[.slice base n k, x]).run P w = .ok (.slice (some ⟨w.heap.size, 0, none⟩) (n + m) cap) w' ∧ w'.heap = w.heap.push (.cells b e) ∧ Calm w w' ∧ b.size = cap * z ∧ ∃ rest, b = ⟨old ++ us ++ rest⟩ := by
  obtain ⟨d, hd, hh⟩ := srcOk_und hu
  unfold growOk at hg
  split at hg
  · rename_i zv hzv
    rw [Bool.and_eq_true] at hg
    have hzl := eq_beq hg.1
    obtain ⟨i, zval, hi, hzi, hzd⟩ := zeroT_den hzv (fun _ => none)
    have hzs : zval.cells.size = z := by rw [← size_of_len (AV.den.cells hzd)]; exact hzl
    have hb : i.bytes * (2 * (n + m)) ≤ 281474976710656 := by
      have := hg.2
      unfold bytesOk at this
      split at this
      · rename_i j hj
        rw [inf_info hj] at hi; cases hi
        exact le_ble this
      · cases this
    obtain ⟨cap, hcap⟩ : ∃ cap, cap = Question.cut (.appendCap (n + m) k e) (w.tape w.drawn (.appendCap (n + m) k e)) := ⟨_, rfl⟩
    have hle : n + m ≤ cap := by rw [hcap]; simp [Question.cut]
    obtain ⟨b, hbd⟩ : ∃ b : Array Value, b = (⟨old⟩ : Array Value) ++ ⟨us⟩ ++ Builtin.zeroCells zval.cells (cap - (n + m)) := ⟨_, rfl⟩
    refine ⟨cap, w.drew.alloc (.cells b e), b, hle, ?_, rfl, ⟨rfl, rfl, rfl⟩, ?_, (Builtin.zeroCells zval.cells (cap - (n + m))).toList, ?_⟩
    · have hnext : ¬ (Builtin.nextslicecap (n + m) k * i.bytes > 281474976710656) := by
        have h2 := nextslicecap_le (need := n + m) (old := k) hfit
        have := Nat.mul_le_mul_right i.bytes h2
        rw [Nat.mul_comm (2 * (n + m)) i.bytes] at this
        omega
      have hmax : ¬ (((n + m : Nat) : Int) > IntKind.i64.max) := by
        show ¬ (((n + m : Nat) : Int) > 9223372036854775807)
        omega
      unfold Builtin.append_
      rcases hh with rfl | ⟨q, rfl⟩
      all_goals
        simp only [h0, h1, List.getElem?_toArray, List.getElem?_cons_zero, List.getElem?_cons_succ, Sem.run_bind, run_und ht, Result.andThen_ok, run_sz hz, run_und hd, Sem.run_pure, Bool.false_eq_true, if_false, hx]
        rw [if_neg (by omega)]
        simp only [typeInfo, Sem.run_bind, run_program, Result.andThen_ok, hi, Sem.run_pure, Bool.false_eq_true, if_false]
        rw [if_neg (fun hh => hmax hh.1)]
        simp only [Sem.run_pure, Sem.run_bind, Result.andThen_ok, run_program, hi]
        rw [if_neg hnext]
        simp only [Sem.run_pure, Sem.run_bind, Result.andThen_ok, run_program, hi, run_choose, Question.forced, Bool.false_eq_true, if_false, ← hcap, World.drew_eq, run_askRoom, ho w.drew rfl, hc w.drew rfl, Bool.not_false, if_true, zeroValue, typeInfo, hzi, newRow, Sem.run_map, run_newObj, ← hbd]
        rfl
    · rw [hbd]
      have h3 : (Builtin.zeroCells zval.cells (cap - (n + m))).size = (cap - (n + m)) * z := by rw [zeroCells_size, hzs]
      have h4 : (⟨old⟩ : Array Value).size = n * z := hold
      have h5 : (⟨us⟩ : Array Value).size = m * z := hus
      rw [Array.size_append, Array.size_append, h3, h4, h5, ← Nat.add_mul, ← Nat.add_mul]
      congr 1; omega
    · rw [hbd]; apply Array.ext'; simp
  · cases hg
theorem blk_old {r z : Nat} {c : T AC} {n : Nat} {t : TypeId} (hk : (Blk.cells c n t).ok ι z w.heap[r]?) : ∃ old : List Value, old.length = n ∧ w.rangeAt r 0 old ∧ ∀ (i : Nat) (x : AC), i < n → c.get i = some x → ∃ u, old[i]? = some u ∧ x.den ι u := by
  obtain ⟨arr, f, hh, hz, hn, hf, hc⟩ := hk
  refine ⟨arr.toList.take n, by simp; omega, fun j v hv => ?_, fun i x hi hx => ?_⟩
  · rw [List.getElem?_take] at hv
    split at hv
    · simp only [World.cell?, hh, Nat.zero_add]
      simpa using hv
    · cases hv
  · obtain ⟨u, hu, hd⟩ := hc i x hi hx
    refine ⟨u, ?_, hd⟩
    rw [List.getElem?_take, if_pos hi]
    simpa using hu
theorem first_old {r z n k m : Nat} {old : List Value} (hr : w.rangeAt r 0 old) (hl : old.length = n * z) {w' : World} (hw : w'.heap = w.heap) : (Builtin.firstCells z n (.slice (some ⟨r, 0, none⟩) m k)).run P w' = .ok ⟨old⟩ w' := by
  have hc : ∀ p, w'.cell? p = w.cell? p := fun p => by simp [World.cell?, hw]
  have := run_loadCells_list (P := P) w' ⟨r, 0, none⟩ old (fun j v hv => by rw [Addr.add_o, hc]; exact hr j v hv)
  rw [hl] at this
  exact this
theorem exec_append {o : Oper} {args : Array Operand} {ts : Array TypeId} (ho : o.op = .call ⟨.builtin .append, args, ts⟩) {s x : Operand} (ha : args.toList = [s, x]) {r : Value} {w' : World}
    (hr : (Builtin.append_ ts o.type #[a.eval s, a.eval x]).run P w = .ok r w') : (execOp a.eval o).run P w = .ok (.value r) w' := by
  have : args = #[s, x] := Array.ext' ha
  subst this
  simp only [execOp, ho, resolve, Sem.run_bind, Sem.run_pure, Result.andThen_ok, invoke, builtin]
  rw [show Array.map a.eval #[s, x] = #[a.eval s, a.eval x] by simp, hr]
  rfl
/-- a new block behind an append -/
theorem grow_ok {h' : AH} (R : Rel ι h w) (R' : Rel ι ⟨h'.t, h.n⟩ w) (K' : Keep ι h w ι ⟨h'.t, h.n⟩ w) {id : Nat} {r : Result Next} {e : TypeId} {n z q cap : Nat} {c : T AC} {b : Array Value} {w' : World}
    (hr : r = .ok (.value (.slice (some ⟨w.heap.size, 0, none⟩) n cap)) w') (hw : w'.heap = w.heap.push (.cells b e)) (hcm : Calm w w') (hb : b.size = cap * z) (hn : n ≤ cap) (hq : q ≤ b.size)
    (hc : ∀ (i : Nat) (x : AC), i < q → c.get i = some x → ∃ u, b[i]? = some u ∧ x.den ι u) : OK P ι h w id r (grow h e n z c q h'.t) := by
  have hfr := R.fresh h.n (Nat.le_refl _)
  have hx := Map.add_ext (r := w.heap.size) (z := cap * z) hfr
  obtain ⟨A, B⟩ := R'.alloc h.n (cap * z) (.cells c q e) (.cells b e) (h.n + 1) hfr (Nat.le_succ _) (Nat.lt_succ_self _) ⟨b, (0, 0), rfl, hb, by omega, .inl rfl, fun i x hi hxx => by
    obtain ⟨u, hu, hd⟩ := hc i x hi hxx
    exact ⟨u, hu, hd.ext hx⟩⟩ (Nat.le_refl _)
  have hw2 : w'.heap = (w.alloc (.cells b e)).heap := hw
  refine ⟨_, w', _, .inl hr, hx, A.of_heap hw2, (K'.trans B).trans (Keep.of_heap hw2 hcm), w.heap.size, cap * z, cap, Map.add_self _ _ _ _, rfl, hn, by omega⟩
theorem all2_get_of {l : List AC} {us : List Value} (h : All2 (AC.den ι) l us) (i : Nat) {x : AC} (e : (mkT l.length l).get i = some x) : ∃ u, us[i]? = some u ∧ x.den ι u := by
  rw [mkT_get _ _ _ (Nat.le_refl _)] at e
  exact h.get i e
/-- a new block behind an append to nothing -/
theorem growP_ok (R : Rel ι h w) {id : Nat} {o : Oper} {args : Array Operand} {ts : Array TypeId} (ho : o.op = .call ⟨.builtin .append, args, ts⟩) {s x : Operand} (ha : args.toList = [s, x]) {t u e : TypeId} {z : Nat}
    (h0 : ts[0]? = some t) (h1 : ts[1]? = some u) (ht : und P t = some (.slice e)) (hz : szT P e = some z) (hu : srcOk P u = true) (hz0 : 0 < z) {l : List AC} {m : Nat}
    (hs : ∃ base, a.eval s = .slice base 0 0) (hel : (Builtin.lenOf (a.eval x)).run P w = .ok m w ∧ ∃ us : List Value, (∀ w' : World, w'.heap = w.heap → (Builtin.firstCells z m (a.eval x)).run P w' = .ok ⟨us⟩ w') ∧ All2 (AC.den ι) l us)
    (hl : l.length = m * z) (hm : 0 < m) (hm2 : m ≤ 1048576) : OK P ι h w id ((execOp a.eval o).run P w) (growP P h e m z l) := by
  unfold growP
  split
  · rename_i hg
    obtain ⟨base, hs⟩ := hs
    obtain ⟨us, hc, hall⟩ := hel.2
    have hold : ∀ w', w'.heap = w.heap → (Builtin.firstCells z 0 (.slice base 0 0)).run P w' = .ok ⟨([] : List Value)⟩ w' := fun w' _ => by
      cases base <;> simp [Builtin.firstCells, loadCells, loadCellsFrom]
    have hlen : us.length = m * z := by rw [← hall.length, hl]
    obtain ⟨cap, w', b, hle, hr, hw, hcm, hb, rest, hbr⟩ := run_append_new (P := P) (ty := o.type) (old := []) h0 h1 ht hz hu hel.1 (by omega) hc hold (by rw [Nat.zero_add]; exact hg) (by omega) hlen (by simp)
    rw [Nat.zero_add] at hr hle
    refine grow_ok (h' := h) R R (Keep.refl _ _ _) (exec_append ho ha (by rw [hs]; exact hr)) hw hcm hb hle (by rw [hb, hl]; exact Nat.mul_le_mul_right _ hle) (fun i y hi hy => ?_)
    obtain ⟨v, hv, hd⟩ := all2_get_of hall i hy
    refine ⟨v, ?_, hd⟩
    rw [hbr]
    simp only [List.nil_append]
    rw [List.getElem?_toArray]
    rw [List.getElem?_append_left (by rw [← hall.length]; exact hi)]
    exact hv
  · trivial
theorem ok_appendS (R : Rel ι h w) {id : Nat} {o : Oper} {args : Array Operand} {ts : Array TypeId} (ho : o.op = .call ⟨.builtin .append, args, ts⟩) {s x : Operand} (ha : args.toList = [s, x]) {t u e : TypeId} {z : Nat}
    (h0 : ts[0]? = some t) (h1 : ts[1]? = some u) (ht : und P t = some (.slice e)) (hz : szT P e = some z) (hu : srcOk P u = true) (hz0 : 0 < z) {l : List AC} {us : List Value} {b q n f m : Nat}
    (hs : (AC.s b q n f).den ι (a.eval s)) (hx : (Builtin.lenOf (a.eval x)).run P w = .ok m w) (hus : ∀ w' : World, w'.heap = w.heap → (Builtin.firstCells z m (a.eval x)).run P w' = .ok ⟨us⟩ w') (hall : All2 (AC.den ι) l us)
    (hl : l.length = m * z) (hm : 0 < m) (hm2 : m ≤ 1048576) : OK P ι h w id ((execOp a.eval o).run P w) (appendS P h e z b q n f m l) := by
  obtain ⟨r, y, k, er, hb, hnk, hk⟩ := hs
  unfold appendS
  split
  · rename_i c g v hc hblk
    rw [Bool.and_eq_true, Bool.and_eq_true] at hc
    have hfz := eq_beq hc.1.1
    subst hfz
    have hn := le_ble hc.1.2
    have hg := hc.2
    obtain ⟨r', y', er', hk'⟩ := R.blk b _ hblk
    rw [er] at er'; cases er'
    have hgy : g ≤ y := by obtain ⟨_, _, _, _, hh, _⟩ := hk'; exact hh
    split
    · rename_i hfit
      have hfit := le_ble hfit
      have hnm : n + m ≤ k := by
        have : (n + m) * f ≤ k * f := by omega
        exact Nat.le_of_mul_le_mul_right this hz0
      have hnf : n * f ≤ (n + m) * f := Nat.mul_le_mul_right _ (by omega)
      have hmf : (n + m) * f = n * f + m * f := Nat.add_mul _ _ _
      obtain ⟨w', e1, e2, e3, e4, e5⟩ := blk_store (P := P) (b := b) hk' hall (q + n * f) (by omega) (Nat.le_refl g) hgy (by omega) (by omega)
      have hput := R.put hblk er e2 e3 e4 e5
      refine ⟨ι, w', _, .inl (exec_append ho ha (r := .slice (some ⟨r, q, none⟩) (n + m) k) ?_), Ext.refl _, hput.1, hput.2, r, y, k, er, rfl, hnm, hk⟩
      rw [hb]
      exact run_append_fit h0 h1 ht hz hu hx hnm (hus w rfl) (by show (storeCells ((⟨r, q, none⟩ : Addr).add (n * f)) us).run P w = _; rw [Addr.add_o]; exact e1)
    · split
      · rename_i hcc
        rw [Bool.and_eq_true, Bool.and_eq_true] at hcc
        have hq0 := eq_beq hcc.1.1
        have hgn := eq_beq hcc.1.2
        have hve := eq_beq hcc.2
        subst hq0; subst hve
        have hmf : (n + m) * f = n * f + m * f := Nat.add_mul _ _ _
        by_cases hnm : n + m ≤ k
        · have hkf : (n + m) * f ≤ k * f := Nat.mul_le_mul_right _ hnm
          obtain ⟨w', e1, e2, e3, e4, e5⟩ := blk_store (P := P) (b := b) (n' := g + m * f) hk' hall g (Nat.le_refl _) (by omega) (by omega) (by omega) (by omega)
          obtain ⟨A, B, C⟩ := R.move hblk er e2 e3 e4 e5
          refine ⟨_, w', _, .inl (exec_append ho ha (r := .slice (some ⟨r, 0, none⟩) (n + m) k) ?_), C, A, B, r, y, k, Map.add_self _ _ _ _, rfl, hnm, hk⟩
          rw [hb]
          exact run_append_fit h0 h1 ht hz hu hx hnm (hus w rfl) (by show (storeCells ((⟨r, 0, none⟩ : Addr).add (n * f)) us).run P w = _; rw [Addr.add_o, Nat.zero_add, ← hgn]; exact e1)
        · obtain ⟨old, ho1, ho2, ho3⟩ := blk_old hk'
          have hlen : us.length = m * f := by rw [← hall.length, hl]
          obtain ⟨cap, w', bb, hle, hr, hw, hcm, hbs, rest, hbr⟩ := run_append_new (P := P) (ty := o.type) (base := some ⟨r, 0, none⟩) (n := n) (k := k) (old := old) h0 h1 ht hz hu hx (by omega) hus (fun w' hw => first_old ho2 (by rw [ho1, hgn]) hw) hg (by omega) hlen (by rw [ho1, hgn])
          obtain ⟨R', K'⟩ := R.del b
          have hcf : (n + m) * f ≤ cap * f := Nat.mul_le_mul_right _ hle
          refine grow_ok (h' := ⟨h.t.del b, h.n⟩) R R' K' (exec_append ho ha (by rw [hb]; exact hr)) hw hcm hbs hle (by rw [hbs]; omega) (fun i xx hi hxx => ?_)
          rw [puts_get] at hxx
          rw [hbr, List.getElem?_toArray]
          by_cases hig : g ≤ i ∧ i < g + l.length
          · rw [if_pos hig] at hxx
            obtain ⟨vv, hv, hd⟩ := hall.get _ hxx
            refine ⟨vv, ?_, hd⟩
            rw [List.append_assoc, List.getElem?_append_right (by omega), ho1, List.getElem?_append_left (by omega)]
            exact hv
          · rw [if_neg hig] at hxx
            obtain ⟨vv, hv, hd⟩ := ho3 i xx (by omega) hxx
            refine ⟨vv, ?_, hd⟩
            rw [List.append_assoc, List.getElem?_append_left (by omega)]
            exact hv
      · trivial
  · trivial
theorem ok_append (R : Rel ι h w) (hF : RelF ι F a) {o : Oper} {id : Nat} {args : Array Operand} {ts : Array TypeId} (ho : o.op = .call ⟨.builtin .append, args, ts⟩) :
    OK P ι h w id ((execOp a.eval o).run P w) (oAppend P h F args.toList ts.toList) := by
  unfold oAppend
  split
  · rename_i s x t u rest ha ht0
    have h0 : ts[0]? = some t := by rw [← Array.getElem?_toList, ht0]; rfl
    have h1 : ts[1]? = some u := by rw [← Array.getElem?_toList, ht0]; rfl
    split
    · rename_i sa xa e hs hx ht hu
      split
      · rename_i z hz
        change szT P e = some (z + 1) at hz
        have hsd := one_den hF hs
        have hxd := one_den hF hx
        cases hel : elems h xa with
        | none => trivial
        | some nl =>
          obtain ⟨n, l⟩ := nl
          cases n with
          | zero =>
            cases l with
            | cons c l => trivial
            | nil =>
              have hxl := elems_ok (P := P) R hel hxd (z := z + 1) (by simp) (by omega)
              obtain ⟨us, hus, hall⟩ := hxl.2 0 (Nat.le_refl _)
              have hus0 : us = [] := by
                have := hall.length
                simp at this
                exact List.eq_nil_of_length_eq_zero this.symm
              subst hus0
              have hsame : ∀ base n k, a.eval s = .slice base n k → n ≤ k → (execOp a.eval o).run P w = .ok (.value (a.eval s)) w := fun base n k hb hnk => by
                refine exec_append ho ha ?_
                rw [hb]
                exact run_append_fit (n := n) (m := 0) h0 h1 ht hz hu hxl.1 (by omega) (hus w rfl) (by cases base <;> rfl)
              cases sa with
              | v q =>
                simp only [appendA]
                split
                · rename_i heq; cases heq; exact ⟨_, hsame none 0 0 hsd.1 (Nat.le_refl _), hsd⟩
                all_goals first | trivial | (rename_i heq; cases heq)
              | nz b => obtain ⟨r, y, q, er, hb⟩ := hsd; exact ⟨_, hsame _ _ _ hb (Nat.le_refl _), r, y, q, er, hb⟩
              | ne b => obtain ⟨r, y, q, k, er, hb⟩ := hsd; exact ⟨_, hsame _ _ _ hb (Nat.zero_le _), r, y, q, k, er, hb⟩
              | s b q n f =>
                obtain ⟨r, y, k, er, hb, hnk, hk⟩ := hsd
                show OK P ι h w id _ (match Nat.beq f (z + 1) with | true => Res.v (.o (.c (.s b q n f))) | false => .no)
                split
                · exact ⟨_, hsame _ _ _ hb hnk, r, y, k, er, hb, hnk, hk⟩
                · trivial
              | _ => trivial
          | succ m =>
            simp only [appendA]
            split
            · rename_i hc
              rw [Bool.and_eq_true] at hc
              have hl := eq_beq hc.1
              have hm2 : m + 1 ≤ 1048576 := Nat.le_trans (Nat.le_mul_of_pos_right (m + 1) (Nat.succ_pos z)) (le_ble hc.2)
              have hxl := elems_ok (P := P) R hel hxd hl (by omega)
              obtain ⟨us, hus, hall⟩ := hxl.2 (m + 1) (Nat.le_refl _)
              rw [← hl, List.take_length] at hall
              split
              · exact growP_ok R ho ha h0 h1 ht hz hu (by omega) ⟨none, hsd.1⟩ ⟨hxl.1, us, hus, hall⟩ hl (by omega) hm2
              · obtain ⟨r, y, q, er, hb⟩ := hsd
                exact growP_ok R ho ha h0 h1 ht hz hu (by omega) ⟨_, hb⟩ ⟨hxl.1, us, hus, hall⟩ hl (by omega) hm2
              · exact ok_appendS R ho ha h0 h1 ht hz hu (by omega) hsd hxl.1 hus hall hl (by omega) hm2
              · trivial
            · trivial
      · trivial
    · trivial
  · trivial
end Go.Proofs.YtbjddfeihhdpoaaGreatDoor
namespace Go.Proofs.YtbjddfeihhdpoaaGreatDoor
open Go
variable {P : Program} {ι : Map} {h : AH} {w : World} {F : T AT} {a : Act}

theorem afind_key {k : Value} : ∀ {l : List AE} {i j : Nat} {v : AV}, afind k l i = some (some (j, v)) → ∃ x, l[j - i]? = some x ∧ keyEq k x.k = some true ∧ i ≤ j
  | [], i, j, v, e => by cases e
  | x :: l, i, j, v, e => by
    simp only [afind] at e
    split at e
    · rename_i hk; cases e; exact ⟨x, by rw [Nat.sub_self]; rfl, hk, Nat.le_refl _⟩
    · obtain ⟨y, h1, h2, h3⟩ := afind_key e
      exact ⟨y, by rw [show j - i = j - (i + 1) + 1 by omega, List.getElem?_cons_succ]; exact h1, h2, by omega⟩
    · cases e
theorem keyEq_eq {k e : Value} (h : keyEq k e = some true) : k = e ∧ Instr.sameBits 10000 e k = true := by
  have h0 : Instr.sameBits 10000 e k = Instr.sameBits (9999 + 1) e k := rfl
  rw [h0]
  cases k with
  | int j x =>
    cases e with
    | int l y =>
      simp only [keyEq] at h
      split at h
      · rename_i hj
        have h1 := kindN_inj hj
        have h2 := (intEq_iff x y).1 (by injection h)
        subst h1; subst h2
        exact ⟨rfl, by simp [Instr.sameBits]⟩
      · cases h
    | _ => cases h
  | string x =>
    cases e with
    | string y => have h2 := (strEq_iff x y).1 (by injection h); subst h2; exact ⟨rfl, (bytes_beq x x).2 rfl⟩
    | _ => cases h
  | bool x =>
    cases e with
    | bool y => have h2 : x = y := by injection h with h; exact eq_of_beq h
                subst h2; exact ⟨rfl, by simp [Instr.sameBits]⟩
    | _ => cases h
  | _ => cases h
theorem all2_modify {α β : Type} {R : α → β → Prop} {f : α → α} {g : β → β} (hfg : ∀ a b, R a b → R (f a) (g b)) : ∀ {l : List α} {m : List β} (i : Nat), All2 R l m → All2 R (l.modify i f) (m.modify i g)
  | [], [], i, _ => by simp [All2]
  | _ :: _, _ :: _, 0, h => ⟨hfg _ _ h.1, h.2⟩
  | _ :: _, _ :: _, i + 1, h => ⟨h.1, all2_modify hfg i h.2⟩
  | [], _ :: _, _, h => h.elim
  | _ :: _, [], _, h => h.elim
theorem all2_erase {α β : Type} {R : α → β → Prop} : ∀ {l : List α} {m : List β} (i : Nat), All2 R l m → All2 R (l.eraseIdx i) (m.eraseIdx i)
  | [], [], i, _ => by simp [All2]
  | _ :: _, _ :: _, 0, h => h.2
  | _ :: _, _ :: _, i + 1, h => ⟨h.1, all2_erase i h.2⟩
  | [], _ :: _, _, h => h.elim
  | _ :: _, [], _, h => h.elim
theorem run_setObj {r : Nat} {o o' : Obj} (hh : w.heap[r]? = some o) (hc : ∀ c e f, o ≠ .cells c e f) : ∃ w', (setObj r o').run P w = .ok () w' ∧ w'.heap[r]? = some o' ∧ (∀ q, q ≠ r → w'.heap[q]? = w.heap[q]?) ∧ w'.heap.size = w.heap.size ∧ Calm w w' := by
  have hlt : r < w.heap.size := by
    rcases Nat.lt_or_ge r w.heap.size with h | h
    · exact h
    · rw [Array.getElem?_eq_none h] at hh; cases hh
  refine ⟨{ w with heap := w.heap.setIfInBounds r o' }, ?_, ?_, fun q hq => ?_, by simp, ⟨rfl, rfl, rfl⟩⟩
  · simp only [setObj, Sem.run, hh]
  · simp [hlt]
  · exact Array.getElem?_setIfInBounds_ne (fun e => hq e.symm)
theorem run_getObj {r : Nat} {o : Obj} (hh : w.heap[r]? = some o) (hc : ∀ c e f, o ≠ .cells c e f) : (getObj r).run P w = .ok o w := by
  simp only [getObj, Sem.run, hh]
theorem run_update (R : Rel ι h w) (hF : RelF ι F a) {t kt et : TypeId} {kd : TypeDesc} (ht : und P t = some (.map kt et)) (hkd : und P kt = some kd) {b : Nat} {m : Operand} (hm : one F m = some (.m b)) {es : List AE} {c : Nat} (hb : h.t.get b = some (.map es c))
    {k : Value} (hok : keyOk kd k = true) {v : AV} {u : Value} (hv : v.den ι u) {r : Option (Nat × AV)} (hf : afind k es 0 = some r) :
    ∃ w', (Instr.mapUpdate t (a.eval m) k u).run P w = .ok () w' ∧
      Rel ι ⟨h.t.set b (match r with | some (i, _) => .map (es.modify i fun e => { e with k := k, v := v }) c | none => .map (es ++ [⟨k, v, c⟩]) (c + 1)), h.n⟩ w' ∧
      Keep ι h w ι ⟨h.t.set b (match r with | some (i, _) => .map (es.modify i fun e => { e with k := k, v := v }) c | none => .map (es ++ [⟨k, v, c⟩]) (c + 1)), h.n⟩ w' := by
  obtain ⟨q, z, er, hu⟩ := one_den hF hm
  obtain ⟨q', z', er', hblk⟩ := R.blk b _ hb
  rw [er] at er'; cases er'
  obtain ⟨ea, hea, hall⟩ := map_ok hblk
  have hnc : ∀ x y f, Obj.map ea c ≠ .cells x y f := fun _ _ _ e => by cases e
  have hnow := afind_now hok hall hf
  cases r with
  | none =>
    obtain ⟨w', e1, e2, e3, e4, e5⟩ := run_setObj (P := P) (o' := .map (ea.push { key := k, val := u, born := c }) (c + 1)) hea hnc
    refine ⟨w', ?_, R.put hb er (k' := .map (es ++ [⟨k, v, c⟩]) (c + 1)) ⟨_, e2, by rw [Array.toList_push]; exact hall.append ⟨⟨rfl, rfl, hv⟩, trivial⟩⟩ e3 e4 e5⟩
    rw [hu]
    simp only [Instr.mapUpdate, Sem.run_bind, run_und ht, Result.andThen_ok, run_getObj hea hnc, run_checkKey hkd hok, run_findKey hkd hnow]
    exact e1
  | some jv =>
    obtain ⟨j, v0⟩ := jv
    obtain ⟨u0, f1, f2, f3, f4⟩ := hnow
    obtain ⟨x, g1, g2, g3⟩ := afind_key hf
    obtain ⟨y, g4, g5⟩ := hall.get _ g1
    rw [Nat.sub_zero] at g4
    obtain ⟨hkx, hsb⟩ := keyEq_eq g2
    have hsb2 : Instr.sameBits 10000 y.key k = true := by rw [g5.1]; exact hsb
    obtain ⟨w', e1, e2, e3, e4, e5⟩ := run_setObj (P := P) (o' := .map (ea.modify j fun e => { e with key := k, val := u }) c) hea hnc
    refine ⟨w', ?_, R.put hb er (k' := .map (es.modify j fun e => { e with k := k, v := v }) c) ⟨_, e2, ?_⟩ e3 e4 e5⟩
    · rw [hu]
      have hyj : ea[j]? = some y := by rw [← Array.getElem?_toList]; exact g4
      simp only [Instr.mapUpdate, Sem.run_bind, run_und ht, Result.andThen_ok, run_getObj hea hnc, run_checkKey hkd hok, run_findKey hkd f1, hyj, Option.map_some, Option.getD_some, Instr.keyThatStays]
      rw [if_pos hsb2]
      exact e1
    · rw [Array.toList_modify]
      exact all2_modify (fun p q hh => ⟨rfl, hh.2.1, hv⟩) j hall
theorem ok_update (R : Rel ι h w) (hF : RelF ι F a) {o : Oper} {id : Nat} {t : TypeId} {m k x : Operand} (hex : ∀ w' , (Instr.mapUpdate t (a.eval m) (a.eval k) (a.eval x)).run P w = .ok () w' → (execOp a.eval o).run P w = .ok .skip w') :
    OK P ι h w id ((execOp a.eval o).run P w) (oUpdate P h F t m k x) := by
  unfold oUpdate
  split
  · rename_i kt et b kv v ht hm hk hv
    split
    · rename_i kd es c hkd hb
      have hkv := opv_eq hF hk
      have hvd := opo_den hF hv
      split
      · rename_i i v0 hok hf
        obtain ⟨w', e1, e2, e3⟩ := run_update (P := P) R hF ht hkd hm hb hok hvd hf
        exact ⟨ι, w', undef, .inr ⟨hex w' (by rw [hkv]; exact e1), rfl⟩, Ext.refl _, e2, e3, [], rfl, trivial⟩
      · rename_i hok hf
        obtain ⟨w', e1, e2, e3⟩ := run_update (P := P) R hF ht hkd hm hb hok hvd hf
        exact ⟨ι, w', undef, .inr ⟨hex w' (by rw [hkv]; exact e1), rfl⟩, Ext.refl _, e2, e3, [], rfl, trivial⟩
      · trivial
    · trivial
  · trivial
theorem exec_builtin {o : Oper} {b : Builtin} {args : Array Operand} {ts : Array TypeId} (ho : o.op = .call ⟨.builtin b, args, ts⟩) : ∃ cs, (execOp a.eval o).run P w = (builtin b ts o.type cs (args.map a.eval)).run P w :=
  ⟨args.map fun | .const _ => true | _ => false, by simp only [execOp, ho, resolve, Sem.run_bind, Sem.run_pure, Result.andThen_ok, invoke]; rfl⟩
end Go.Proofs.YtbjddfeihhdpoaaGreatDoor
namespace Go.Proofs.YtbjddfeihhdpoaaGreatDoor
open Go
variable {P : Program} {ι : Map} {h : AH} {w : World} {F : T AT} {a : Act}

theorem ok_len (R : Rel ι h w) (hF : RelF ι F a) {o : Oper} {id : Nat} {args : Array Operand} {ts : Array TypeId} (ho : o.op = .call ⟨.builtin .len, args, ts⟩) : OK P ι h w id ((execOp a.eval o).run P w) (oLen P h F args.toList ts.toList) := by
  unfold oLen
  split
  · rename_i x t rest ha ht0
    have h0 : ts[0]? = some t := by rw [← Array.getElem?_toList, ht0]; rfl
    have ha : args = #[x] := Array.ext' ha
    subst ha
    obtain ⟨cs, hex⟩ := exec_builtin (P := P) (a := a) (w := w) ho
    have hrun : ∀ {u : Value} {n : Int}, a.eval x = u → (Builtin.len_ ts o.type #[u]).run P w = .ok (goInt n) w → (execOp a.eval o).run P w = .ok (.value (.int .i64 n)) w := fun {u n} hu hr => by
      rw [hex]
      simp only [builtin, show Array.map a.eval #[x] = #[u] by simp [hu], Sem.run_bind, hr, Result.andThen_ok]
      rfl
    have hl : ∀ {u : Value} {d : TypeDesc}, und P t = some d → (Builtin.len_ ts o.type #[u]).run P w = (match d, u with
      | .string, .string s => .ok (goInt s.size) w
      | .slice _, .slice _ n _ => .ok (goInt n) w
      | .map _ _, .map none => .ok (goInt 0) w
      | _, _ => (Builtin.len_ ts o.type #[u]).run P w) := fun {u d} hd => by
      split <;> first | rfl | simp [Builtin.len_, h0, run_und hd]
    split
    · rename_i b q n f e hx hd
      obtain ⟨r, z, k, er, hu, _⟩ := one_den hF hx
      exact ⟨_, hrun hu (n := n) (by rw [hl hd]), rfl, rfl⟩
    · rename_i b hx hd
      obtain ⟨r, z, k, er, hu⟩ := one_den hF hx
      exact ⟨_, hrun hu (n := 0) (by rw [hl hd]; rfl), rfl, rfl⟩
    · rename_i b hx hd
      obtain ⟨r, z, k, k', er, hu⟩ := one_den hF hx
      exact ⟨_, hrun hu (n := 0) (by rw [hl hd]; rfl), rfl, rfl⟩
    · rename_i p n k e hx hd
      exact ⟨_, hrun (one_den hF hx).1 (n := n) (by rw [hl hd]), rfl, rfl⟩
    · rename_i s hx hd
      exact ⟨_, hrun (one_den hF hx).1 (n := s.size) (by rw [hl hd]), rfl, rfl⟩
    · rename_i k e hx hd
      exact ⟨_, hrun (one_den hF hx).1 (n := 0) (by rw [hl hd]), rfl, rfl⟩
    · rename_i b k e hx hd
      obtain ⟨r, z, er, hu⟩ := one_den hF hx
      split
      · rename_i es c hb
        obtain ⟨r', z', er', hblk⟩ := R.blk b _ hb
        rw [er] at er'; cases er'
        obtain ⟨ea, hea, hall⟩ := map_ok hblk
        have hn : es.length = ea.size := by have := hall.length; simpa using this
        refine ⟨_, hrun hu (n := es.length) ?_, rfl, rfl⟩
        have hnc : ∀ x y f, Obj.map ea c ≠ .cells x y f := fun _ _ _ e => by cases e
        simp [Builtin.len_, h0, run_und hd, run_getObj hea hnc, hn]
      · trivial
    · trivial
  · trivial
theorem ok_sliceData (hF : RelF ι F a) {o : Oper} {id : Nat} {args : Array Operand} {ts : Array TypeId} (ho : o.op = .call ⟨.builtin .unsafeSliceData, args, ts⟩) : OK P ι h w id ((execOp a.eval o).run P w) (orLite P F o (oSliceData F args.toList)) := by
  refine ok_orLite hF fun y e => ?_
  unfold oSliceData at e
  split at e
  · rename_i x ha
    have ha : args = #[x] := Array.ext' ha
    subst ha
    split at e
    · rename_i b k n f hx
      cases e
      obtain ⟨r, z, c, er, hu, hnc, _⟩ := one_den hF hx
      obtain ⟨cs, hex⟩ := exec_builtin (P := P) (a := a) (w := w) ho
      refine ⟨.pointer (some ⟨r, k, none⟩), ?_, r, z, er, rfl⟩
      rw [hex]
      obtain ⟨c', rfl⟩ : ∃ c', c = c' + 1 := ⟨c - 1, by omega⟩
      have h : ∀ l c (p : Addr), Builtin.unsafeSliceData_ ts o.type #[.slice (some p) l (c + 1)] = pure (.pointer (some p)) := fun _ _ _ => rfl
      simp only [builtin, show Array.map a.eval #[x] = #[a.eval x] by simp, hu, h, Sem.run_bind]
      rfl
    · cases e
  · cases e
theorem ok_copy (R : Rel ι h w) (hF : RelF ι F a) {o : Oper} {id : Nat} {args : Array Operand} {ts : Array TypeId} (ho : o.op = .call ⟨.builtin .copy, args, ts⟩) : OK P ι h w id ((execOp a.eval o).run P w) (oCopy P h F args.toList ts.toList) := by
  unfold oCopy
  split
  · rename_i d x t rest ha ht0
    have h0 : ts[0]? = some t := by rw [← Array.getElem?_toList, ht0]; rfl
    have ha : args = #[d, x] := Array.ext' ha
    subst ha
    obtain ⟨cs, hex⟩ := exec_builtin (P := P) (a := a) (w := w) ho
    split
    · rename_i dc xc e hd hx ht
      split
      · rename_i z n c hz hel
        change szT P e = some (z + 1) at hz
        unfold copyS
        split
        · rename_i b q k f
          split
          · rename_i g m u hcc hb
            rw [Bool.and_eq_true] at hcc
            have hfz := eq_beq hcc.1
            subst hfz
            have hcl := eq_beq hcc.2
            split
            · rename_i hfit
              have hfit := le_ble hfit
              obtain ⟨r, y, kk, er, hu, hnk, hk⟩ := one_den hF hd
              obtain ⟨r', y', er', hblk⟩ := R.blk b _ hb
              rw [er] at er'; cases er'
              obtain ⟨hl, hcells⟩ := elems_ok (P := P) R hel (one_den hF hx) hcl (by omega)
              obtain ⟨us, hus, hall⟩ := hcells (min n k) (Nat.min_le_left _ _)
              have hmy : m ≤ y := by obtain ⟨_, _, _, _, hh, _⟩ := hblk; exact hh
              have htl : (c.take (min n k * (z + 1))).length = min n k * (z + 1) := by
                rw [List.length_take, hcl]
                exact Nat.min_eq_left (Nat.mul_le_mul_right _ (Nat.min_le_left _ _))
              obtain ⟨w', e1, e2, e3, e4, e5⟩ := blk_store (P := P) (b := b) hblk hall q (by omega) (Nat.le_refl m) hmy (by omega) (by omega)
              have hput := R.put hb er e2 e3 e4 e5
              refine ⟨ι, w', .int .i64 (min n k : Nat), .inl ?_, Ext.refl _, hput.1, hput.2, rfl, rfl⟩
              rw [hex]
              simp only [builtin, show Array.map a.eval #[d, x] = #[a.eval d, a.eval x] by simp, hu, Builtin.copy_, h0, List.getElem?_toArray, List.getElem?_cons_zero, List.getElem?_cons_succ, Sem.run_bind, run_und ht, Result.andThen_ok, hl, run_sz hz]
              have hmin : Nat.min n k = min n k := rfl
              rw [hmin, hus w rfl]
              simp only [Result.andThen_ok, e1, Sem.run_pure]
              rfl
            · trivial
          · trivial
        · trivial
      · trivial
    · trivial
  · trivial
end Go.Proofs.YtbjddfeihhdpoaaGreatDoor
namespace Go.Proofs.YtbjddfeihhdpoaaGreatDoor
open Go
variable {P : Program} {ι : Map} {h : AH} {w : World} {F : T AT} {a : Act}

theorem alloc_ok (R : Rel ι h w) {k : Blk} {ob : Obj} {z : Nat} {id : Nat} {r : Result Next} {x : AT} {u : Value} (hk : k.ok (ι.add h.n w.heap.size z) z (some ob)) (hr : r = .ok (.value u) (w.alloc ob))
    (hx : x.den (ι.add h.n w.heap.size z) u) : OK P ι h w id r (.h ⟨h.t.set h.n k, h.n + 1⟩ x) := by
  have hfr := R.fresh h.n (Nat.le_refl _)
  obtain ⟨A, B⟩ := R.alloc h.n z k ob (h.n + 1) hfr (Nat.le_succ _) (Nat.lt_succ_self _) hk
  exact ⟨_, _, u, .inl hr, Map.add_ext hfr, A, B, hx⟩
theorem ok_range (R : Rel ι h w) (hF : RelF ι F a) {o : Oper} {id : Nat} {t : TypeId} {x : Operand} (ho : o.op = .range t x) : OK P ι h w id ((execOp a.eval o).run P w) (oRange P h F id t x) := by
  unfold oRange
  split
  · rename_i kt et b ht hx
    split
    · rename_i es c hb
      obtain ⟨r, z, er, hu⟩ := one_den hF hx
      obtain ⟨r', z', er', hblk⟩ := R.blk b _ hb
      rw [er] at er'; cases er'
      obtain ⟨ea, hea, hall⟩ := map_ok hblk
      have hnc : ∀ x y f, Obj.map ea c ≠ .cells x y f := fun _ _ _ e => by cases e
      have hfr := R.fresh h.n (Nat.le_refl _)
      refine alloc_ok R (z := 0) (ob := .mapIter (some r) c #[] c) ⟨some r, rfl, z, Map.add_ext hfr _ _ er⟩ ?_ (u := .pointer (some ⟨w.heap.size, 0, none⟩)) ⟨w.heap.size, 0, Map.add_self _ _ _ _, rfl⟩
      simp only [execOp, ho, hu]
      refine run_v _ w ?_
      simp [Instr.range, run_und ht, run_getObj hea hnc]
    · trivial
  · trivial
theorem ok_next (R : Rel ι h w) (hF : RelF ι F a) {o : Oper} {id : Nat} {x : Operand} {str : Bool} (ho : o.op = .next x str) : OK P ι h w id ((execOp a.eval o).run P w) (oNext h F x str) := by
  unfold oNext
  split
  · rename_i b hx
    split
    · rename_i m since seen last hb
      split
      · rename_i c hm
        obtain ⟨r, z, er, hu⟩ := one_den hF hx
        obtain ⟨r', z', er', hblk⟩ := R.blk b _ hb
        rw [er] at er'; cases er'
        obtain ⟨q, hq, hqm⟩ := hblk
        obtain ⟨rm, zm, em, hmap⟩ := R.blk m _ hm
        obtain ⟨ea, hea, hall⟩ := map_ok hmap
        have hea0 : ea = #[] := by
          have := hall.length
          simp at this
          exact Array.eq_empty_of_size_eq_zero this.symm
        subst hea0
        cases q with
        | none => exact hqm.elim
        | some q =>
          obtain ⟨y, hy⟩ := hqm
          rw [em] at hy; cases hy
          have hnc1 : ∀ x y f, Obj.mapIter (some rm) since ⟨seen⟩ last ≠ .cells x y f := fun _ _ _ e => by cases e
          have hnc2 : ∀ x y f, Obj.map (#[] : Array MapEntry) c ≠ .cells x y f := fun _ _ _ e => by cases e
          refine ⟨.tuple #[.bool false], ?_, [.bool false], rfl, ⟨rfl, rfl⟩, trivial⟩
          simp only [execOp, ho, hu]
          refine run_v _ w ?_
          simp [Instr.next, run_getObj hq hnc1, run_getObj hea hnc2, Question.forced]
      · trivial
    · trivial
  · trivial
theorem run_loadBytes {r : Nat} : ∀ (ns : List Int) (k : Nat) (acc : ByteArray), w.rangeAt r k (ns.map (Value.int .u8)) → (loadBytes ⟨r, k, none⟩ acc ns.length).run P w = .ok ⟨acc.data ++ (ns.map fun n => UInt8.ofNat n.toNat).toArray⟩ w
  | [], k, acc, _ => by simp [loadBytes]
  | n :: ns, k, acc, hr => by
    have h0 := hr 0 (.int .u8 n) rfl
    have hl : (load ⟨r, k, none⟩).run P w = .ok (.int .u8 n) w := by rw [run_load]; rw [Nat.add_zero] at h0; rw [h0]
    simp only [List.length_cons, loadBytes, Sem.run_bind, hl, Result.andThen_ok, Addr.add_o]
    rw [run_loadBytes ns (k + 1) _ (fun j v hv => by have := hr (j + 1) v (by simpa using hv); rw [show k + 1 + j = k + (j + 1) by omega]; exact this)]
    simp [ByteArray.push]
theorem lies_bytes {t : TypeId} (hs : P.cellsOf t = 1) (c k n : Nat) (hc : k + n ≤ c) : liesAt P P.depth t c k t n = true := by
  have hd : P.depth = (2 * (P.types.size + Made.depth) + 1) + 1 := rfl
  rw [hd]
  unfold liesAt
  rw [Bool.or_eq_true]
  refine .inl ?_
  rw [hd]
  unfold rowAt
  simp only [hs, Nat.div_one, Nat.mod_one]
  rw [if_neg (by omega), Bool.or_eq_true]
  refine .inl ?_
  rw [Bool.and_eq_true, Bool.and_eq_true]
  refine ⟨⟨rfl, decide_eq_true hc⟩, ?_⟩
  unfold sameLayout
  simp
/-- a block is given up -/
theorem Rel.drop (R : Rel ι h w) {b r z : Nat} {k : Blk} {w' : World} (hb : h.t.get b = some k) (er : ι b = some (r, z)) (hw : ∀ q, q ≠ r → w'.heap[q]? = w.heap[q]?) (hs : w'.heap.size = w.heap.size) (hcm : Calm w w') :
    Rel ι ⟨h.t.del b, h.n⟩ w' ∧ Keep ι h w ι ⟨h.t.del b, h.n⟩ w' := by
  obtain ⟨A, B⟩ := R.del b
  have hg : ∀ c j, (h.t.del b).get c = some j → c ≠ b ∧ h.t.get c = some j := fun c j e => by
    rw [T.get_del] at e
    split at e
    · cases e
    · rename_i hc; exact ⟨hc, e⟩
  refine ⟨⟨fun c j hc => ?_, A.inj, A.fresh⟩, ⟨by omega, fun q hq ht => ⟨hw q (fun e => ht ⟨b, k, z, hb, by rw [e]; exact er⟩), (B.1.2 q hq ht).2⟩⟩, Nat.le_refl _, fun _ _ => rfl, hcm⟩
  obtain ⟨h1, h2⟩ := hg c j hc
  obtain ⟨q, y, e, hj⟩ := R.blk c j h2
  exact ⟨q, y, e, by rw [hw q (fun e' => h1 (R.inj c b j k r y z h2 hb (by rw [← e']; exact e) er))]; exact hj⟩
theorem freeze_other (r k n q : Nat) (hq : q ≠ r) : (w.freeze ⟨r, k, none⟩ n).heap[q]? = w.heap[q]? := by
  unfold World.freeze
  split
  · rfl
  · exact (Array.getElem?_modify).trans (if_neg (fun e => hq e.symm))
theorem freeze_size (r k n : Nat) : (w.freeze ⟨r, k, none⟩ n).heap.size = w.heap.size := by
  unfold World.freeze
  split <;> simp
theorem ok_unsafeString (R : Rel ι h w) (hF : RelF ι F a) {o : Oper} {id : Nat} {args : Array Operand} {ts : Array TypeId} (ho : o.op = .call ⟨.builtin .unsafeString, args, ts⟩) : OK P ι h w id ((execOp a.eval o).run P w) (oUnsafeString P h F args.toList ts.toList) := by
  unfold oUnsafeString
  split
  · rename_i x nn t rest ha ht0
    have h0 : ts[0]? = some t := by rw [← Array.getElem?_toList, ht0]; rfl
    have ha : args = #[x, nn] := Array.ext' ha
    subst ha
    obtain ⟨cs, hex⟩ := exec_builtin (P := P) (a := a) (w := w) ho
    split
    · rename_i b k n hx hn
      split
      · rename_i c m e u hb ht
        split
        · rename_i s hc hsz hbytes
          rw [Bool.and_eq_true, Bool.and_eq_true] at hc
          have hfit := le_ble hc.1.1
          have heu := eq_beq hc.1.2
          have hn1 := le_ble hc.2
          subst heu
          obtain ⟨r, z, er, hu⟩ := one_den hF hx
          obtain ⟨kk, hnv⟩ := opn_eq hF hn
          obtain ⟨r', z', er', hblk⟩ := R.blk b _ hb
          rw [er] at er'; cases er'
          have hblk2 := hblk
          obtain ⟨q, f, hh, hz, hmz, _⟩ := hblk2
          obtain ⟨A, B⟩ := R.drop (w' := w.freeze ⟨r, k, none⟩ (n + 1)) hb er (fun q hq => freeze_other r k (n + 1) q hq) (freeze_size r k (n + 1)) (calm_freeze _ _ _)
          refine ⟨ι, w.freeze ⟨r, k, none⟩ (n + 1), .string ⟨⟨s⟩⟩, .inl ?_, Ext.refl _, A, B, rfl, rfl⟩
          rw [hex]
          simp only [builtin, show Array.map a.eval #[x, nn] = #[a.eval x, a.eval nn] by simp, hu, hnv]
          have hfun : Builtin.unsafeString_ ts o.type #[.pointer (some ⟨r, k, none⟩), .int kk (n + 1 : Nat)] = (asInt (.int kk (n + 1 : Nat)) >>= _) := rfl
          obtain ⟨⟨ns, hld, hs⟩, -⟩ := run_bytes (P := P) (cap := 0) hblk hfit hbytes
          obtain ⟨i, hi, his⟩ := szT_size hsz
          have hcells : P.cellsOf e = 1 := by simp [Program.cellsOf, hi, his]
          have hshape : w.shape? r = some (e, q.size) := by simp [World.shape?, hh]
          have hlies := lies_bytes (P := P) hcells q.size k (n + 1) (by omega)
          have hlb : (loadBytes ⟨r, k, none⟩ .empty (n + 1)).run P w = .ok ⟨⟨s⟩⟩ w := by
            unfold bytesIn at hbytes
            split at hbytes
            · rename_i l hl
              obtain ⟨us, g1, g2, g3⟩ := gets_cells hblk hl hfit
              obtain ⟨ns', rfl, rfl⟩ := bytesOf_all2 hbytes g1
              have := run_loadBytes (P := P) (w := w) ns' k .empty g3
              rw [show ns'.length = n + 1 by simpa using g2] at this
              rw [this]
              simp [ByteArray.empty, ByteArray.emptyWithCapacity]
              rfl
            · cases hbytes
          have hel : (elemOf t).run P w = .ok e w := by simp [elemOf, run_und ht]
          have hn0 : ¬ (((n + 1 : Nat) : Int) < 0) := by omega
          have hnm : ¬ (((n + 1 : Nat) : Int) > IntKind.i64.max) := by show ¬ (((n + 1 : Nat) : Int) > 9223372036854775807); omega
          have hnz : ¬ (((n + 1 : Nat) : Int) = 0) := by omega
          rw [Sem.run_bind]
          have : (Builtin.unsafeString_ ts o.type #[.pointer (some ⟨r, k, none⟩), .int kk (n + 1 : Nat)]).run P w = .ok (.string ⟨⟨s⟩⟩) (w.freeze ⟨r, k, none⟩ (n + 1)) := by
            rw [hfun]
            simp only [asInt, asIntOf, Sem.run_bind, Sem.run_pure, Result.andThen_ok, h0]
            rw [if_neg hn0]
            try simp only [Sem.run_bind, Sem.run_pure, Result.andThen_ok]
            rw [if_neg hnm]
            try simp only [Sem.run_bind, Sem.run_pure, Result.andThen_ok]
            rw [if_neg hnz]
            simp only [Sem.run_bind, hel, Result.andThen_ok, variablesAt, run_program, run_shape, hshape, hcells, Nat.div_one, Int.toNat_natCast, hlies, Sem.run_pure, if_true, hlb, run_freeze]
          exact (congrArg (fun z => Result.andThen z _) this).trans rfl
        · trivial
      · trivial
    · trivial
  · trivial
end Go.Proofs.YtbjddfeihhdpoaaGreatDoor
namespace Go.Proofs.YtbjddfeihhdpoaaGreatDoor
open Go
variable {P : Program} {ι : Map} {h : AH} {w : World} {F : T AT} {a : Act}

/-- what is asked of the program -/
structure Prg (P : Program) : Prop where
  mix : P.follows .mixedOrders = true
  ng : ∀ (g : FuncId) (fn : Func), P.funcs[g]? = some fn → (fn.name == "runtime.NumGoroutine") = false
  clone : ∀ (g : FuncId) (fn : Func), P.funcs[g]? = some fn → (fn.name == "maps.clone") = true → fn.body = none → Extern.findNext fn = none ∧ Extern.find fn = some Extern.MapsClone.clone
  noesc : ∀ (g : FuncId) (fn : Func), P.funcs[g]? = some fn → (fn.name == "internal/abi.NoEscape") = true → fn.body = none → Extern.findNext fn = none ∧ Extern.find fn = some Extern.AbiNoEscape.same
theorem args_den (hF : RelF ι F a) : ∀ {l : List Operand} {m : List AT}, args' F l = some m → All2 (AT.den ι) m (l.map a.eval)
  | [], m, e => by cases e; trivial
  | x :: l, m, e => by
    simp only [args'] at e
    split at e
    · rename_i p q hp hq
      cases e
      exact ⟨opd_den hF hp, args_den hF hq⟩
    · cases e
theorem fnT_get {g : FuncId} {fn : Func} (e : (fnT P).get g = some fn) : P.funcs[g]? = some fn := by
  unfold fnT at e
  rw [mkT_get _ _ _ (by simp)] at e
  simpa using e
theorem run_callFunc {g : FuncId} {fn : Func} {c : Code} (hp : Prg P) (hf : P.funcs[g]? = some fn) (hb : fn.body = some c) (args : Array Value) (w : World) : (callFunc g args).run P w = .ok (.enter g args) w := by
  have h1 : fn.name ≠ "runtime.NumGoroutine" := by have := hp.ng g fn hf; simpa using this
  simp [callFunc, hf, h1, hb]
theorem ok_callF (hp : Prg P) (R : Rel ι h w) (hF : RelF ι F a) {o : Oper} {id : Nat} {g : FuncId} {l : List AT} {vs : Array Value} (hl : All2 (AT.den ι) l vs.toList) (hr : (execOp a.eval o).run P w = (callFunc g vs).run P w) :
    OK P ι h w id ((execOp a.eval o).run P w) (callF P h F o g l) := by
  unfold callF
  split
  · rename_i fn hfn
    have hfn := fnT_get hfn
    split
    · rename_i c hb
      exact ⟨vs, by rw [hr]; exact run_callFunc hp hfn hb vs w, hl⟩
    · rename_i hb
      unfold ext
      split
      · rename_i t b
        split
        · rename_i es c hname hblk
          obtain ⟨hn, he⟩ := hp.clone g fn hfn hname hb
          obtain ⟨u, us, hvs, hu, hus⟩ : ∃ u us, vs.toList = u :: us ∧ (AC.ni t b).den ι u ∧ us = [] := by
            cases hv : vs.toList with
            | nil => rw [hv] at hl; exact hl.elim
            | cons u us =>
              rw [hv] at hl
              refine ⟨u, us, rfl, hl.1, ?_⟩
              cases us with
              | nil => rfl
              | cons _ _ => exact hl.2.elim
          subst hus
          have hvs : vs = #[u] := Array.ext' hvs
          subst hvs
          obtain ⟨r, z, er, hu⟩ := hu
          subst hu
          obtain ⟨r', z', er', hb'⟩ := R.blk b _ hblk
          rw [er] at er'; cases er'
          obtain ⟨ea, hea, hall⟩ := map_ok hb'
          have hnc : ∀ x y f, Obj.map ea c ≠ .cells x y f := fun _ _ _ e => by cases e
          have hfr := R.fresh h.n (Nat.le_refl _)
          refine alloc_ok R (z := 0) (ob := .map ea c) ⟨ea, rfl, hall.mono fun _ _ hh => ⟨hh.1, hh.2.1, hh.2.2.ext (Map.add_ext hfr)⟩⟩ ?_ (u := .iface t (.map (some w.heap.size))) ⟨w.heap.size, 0, Map.add_self _ _ _ _, rfl⟩
          rw [hr, run_callFunc_extern hfn (hp.ng g fn hfn) (by rw [hb]; rfl) hn he]
          have hc : Extern.MapsClone.clone #[.iface t (.map (some r))] = (getObj r >>= _) := rfl
          rw [hc, Sem.run_bind, run_getObj hea hnc]
          simp
        · trivial
      · rename_i b k
        split
        · rename_i hname
          obtain ⟨hn, he⟩ := hp.noesc g fn hfn hname hb
          obtain ⟨u, us, hvs, hu, hus⟩ : ∃ u us, vs.toList = u :: us ∧ (AC.p b k).den ι u ∧ us = [] := by
            cases hv : vs.toList with
            | nil => rw [hv] at hl; exact hl.elim
            | cons u us =>
              rw [hv] at hl
              refine ⟨u, us, rfl, hl.1, ?_⟩
              cases us with
              | nil => rfl
              | cons _ _ => exact hl.2.elim
          subst hus
          have hvs : vs = #[u] := Array.ext' hvs
          subst hvs
          refine ⟨u, ?_, hu⟩
          rw [hr, run_callFunc_extern hfn (hp.ng g fn hfn) (by rw [hb]; rfl) hn he]
          rfl
        · trivial
      · exact ok_lite0 hF
  · trivial
theorem ptrs_den {l : List (Nat × Nat)} {m : List Value} (hl : All2 (PtrAt ι) l m) : All2 (AT.den ι) (ptrs l) m := by
  induction l generalizing m with
  | nil => cases m with
    | nil => trivial
    | cons _ _ => exact hl.elim
  | cons x l ih => cases m with
    | nil => exact hl.elim
    | cons u m => exact ⟨hl.1, ih hl.2⟩
theorem ok_builtin (R : Rel ι h w) (hF : RelF ι F a) {o : Oper} {id : Nat} {b : Builtin} {args : Array Operand} {ts : Array TypeId} (ho : o.op = .call ⟨.builtin b, args, ts⟩) :
    OK P ι h w id ((execOp a.eval o).run P w) (oBuiltin P h F o b args.toList ts.toList) := by
  unfold oBuiltin
  split
  · exact ok_append R hF ho
  · exact ok_copy R hF ho
  · exact ok_len R hF ho
  · split
    · exact ok_lite0 hF
    · exact ok_unsafeString R hF ho
  · exact ok_sliceData hF ho
  · exact ok_lite0 hF
theorem ok_call (hp : Prg P) (R : Rel ι h w) (hF : RelF ι F a) {o : Oper} {id : Nat} {c : Call} (ho : o.op = .call c) : OK P ι h w id ((execOp a.eval o).run P w) (oCall P h F o c) := by
  obtain ⟨callee, args, ts⟩ := c
  unfold oCall
  cases callee with
  | invoke _ _ => trivial
  | builtin b => exact ok_builtin R hF ho
  | value f =>
    simp only
    split
    · rename_i g l hf hl
      have hv := (one_den hF hf).1
      refine ok_callF hp R hF (vs := args.map a.eval) (by simpa using args_den hF hl) ?_
      simp [execOp, ho, resolve, hv, Deferred.ofValue, invoke]
    · rename_i g p k l hf hl
      obtain ⟨m, q, hv, hm, hq⟩ := one_den hF hf
      refine ok_callF hp R hF (vs := ⟨m⟩ ++ args.map a.eval ++ ⟨q⟩) ?_ ?_
      · have := ((ptrs_den hm).append (args_den hF hl)).append (ptrs_den hq)
        simpa using this
      · simp [execOp, ho, resolve, hv, Deferred.ofValue, invoke]
    · trivial
theorem opA_ok (hp : Prg P) (R : Rel ι h w) (hF : RelF ι F a) (o : Oper) (id : Nat) : OK P ι h w id ((execOp a.eval o).run P w) (opA P h F id o) := by
  unfold opA
  cases ho : o.op with
  | move x => exact ok_move hF (by simp [execOp, ho])
  | assign x => exact ok_move hF (by simp [execOp, ho])
  | pick c x y => exact ok_pick hF ho
  | alloc t => exact ok_alloc ho
  | box t x => exact ok_box hF ho
  | build t ps => exact ok_build hF ho
  | buildSlice t n ps => exact ok_buildSlice hF ho
  | insert t m k x => exact ok_update R hF fun w' e => by simp [execOp, ho, e]
  | load t x => exact ok_load R hF ho
  | store t x y => exact ok_store R hF ho
  | nilCheck x => exact ok_nil hF ho
  | binOp op t x y t' => exact ok_bin hF ho
  | unOp op t x => exact ok_lite0 hF
  | convert s d x => exact ok_convert R hF ho
  | makeInterface t x => exact ok_iface hF ho
  | makeFunc f x c => exact ok_makeFunc hF ho
  | makeMap t r => exact ok_makeMap hF ho
  | makeSlice t l c => exact ok_makeSlice hF ho
  | slice t x l u m => exact ok_slice hF ho
  | fieldAddr t x i => exact ok_fieldAddr hF ho
  | field t x i => exact ok_field hF ho
  | indexAddr t x i => exact ok_indexAddr hF ho
  | index t x i => exact ok_index hF ho
  | lookup t x i ok => exact ok_lookup R hF ho
  | mapUpdate t m k x => exact ok_update R hF fun w' e => by simp [execOp, ho, e]
  | range t x => exact ok_range R hF ho
  | next x s => exact ok_next R hF ho
  | typeAssert x t t' ok => exact ok_assert hF ho
  | extract x i => exact ok_extract hF ho
  | call c => exact ok_call hp R hF ho
  | _ => trivial
end Go.Proofs.YtbjddfeihhdpoaaGreatDoor
