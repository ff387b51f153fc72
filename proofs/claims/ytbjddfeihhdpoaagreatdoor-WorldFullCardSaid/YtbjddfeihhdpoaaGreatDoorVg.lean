import Derived.Test.YtbjddfeihhdpoaaGreatDoorVf
import Derived.Shelf.SlIterI.Sorted
import Derived.Maps.OwnSet
set_option linter.unusedVariables false
set_option linter.unusedSimpArgs false
namespace Go.Proofs.YtbjddfeihhdpoaaGreatDoor
open Go
variable {P : Program} {ι κ : Map} {h : AH} {w : World} {F : T AT} {a : Act}

/-! slices.Sorted of a map's keys that are numbers -/
def keyInts : List AE → Option (List Nat)
  | [] => some []
  | e :: l => match e.k with
    | .int .i64 (.ofNat n) => match Nat.blt n 9223372036854775808 with
      | true => match keyInts l with
        | some m => some (n :: m)
        | none => none
      | false => none
    | _ => none
def insN (n : Nat) : List Nat → List Nat
  | [] => [n]
  | m :: l => match Nat.ble n m with
    | true => n :: m :: l
    | false => m :: insN n l
def sortN : List Nat → List Nat
  | [] => []
  | n :: l => insN n (sortN l)
/-- rising, from b on -/
def risB (b : Nat) : List Nat → Bool
  | [] => true
  | n :: l => Nat.ble b n && risB (n + 1) l
def bornL : List AE → List Nat
  | [] => []
  | e :: l => e.born :: bornL l
def allLt (c : Nat) : List Nat → Bool
  | [] => true
  | n :: l => Nat.blt n c && allLt c l
noncomputable def sortedR (e : TypeId) (h : AH) : List Nat → AH × AT
  | [] => (h, .o (.c (.v (.slice none 0 0))))
  | n :: l => (⟨h.t.set h.n (blk ((n :: l).map fun n => .v (.int .i64 (.ofNat n))) e), h.n + 1⟩, .o (.c (.s h.n 0 (n :: l).length 1)))
noncomputable def sortedM (e : TypeId) (h : AH) (es : List AE) (clock : Nat) : Option (AH × AT) := match keyInts es with
  | some ks => match risB 0 (sortN ks) && risB 0 (bornL es) && allLt clock (bornL es) && Nat.blt ks.length 1048576 with
    | true => some (sortedR e h (sortN ks))
    | false => none
  | none => none
noncomputable def sortedA (gs : Nat → Bool) (e : TypeId) (h : AH) (args : List AT) : Option (AH × AT) := match args with
  | [.o (.c (.f g [] [(b, 0)]))] => match gs g, h.t.get b with
    | true, some (.cells c n _) => match Nat.blt 0 n, c.get 0 with
      | true, some (.m m) => match h.t.get m with
        | some (.map es clock) => sortedM e h es clock
        | _ => none
      | _, _ => none
    | _, _ => none
  | _ => none
theorem insN_perm (n : Nat) : ∀ l, (insN n l).Perm (n :: l)
  | [] => .refl _
  | m :: l => by
    simp only [insN]
    split
    · exact .refl _
    · exact ((insN_perm n l).cons m).trans (.swap n m l)
theorem sortN_perm : ∀ l, (sortN l).Perm l
  | [] => .refl _
  | n :: l => (insN_perm n _).trans ((sortN_perm l).cons n)
theorem ris_pair : ∀ {l : List Nat} {b : Nat}, risB b l = true → (∀ x ∈ l, b ≤ x) ∧ l.Pairwise (fun x y => x < y)
  | [], _, _ => ⟨fun _ h => by (cases h), List.Pairwise.nil⟩
  | n :: l, b, h => by
    simp only [risB, Bool.and_eq_true] at h
    obtain ⟨h1, h2⟩ := ris_pair h.2
    have h3 := Nat.le_of_ble_eq_true h.1
    refine ⟨fun x hx => ?_, List.pairwise_cons.2 ⟨fun x hx => h1 x hx, h2⟩⟩
    rcases List.mem_cons.1 hx with rfl | hx
    · exact h3
    · have := h1 x hx; omega
theorem keyInts_ok : ∀ {es : List AE} {ks : List Nat}, keyInts es = some ks → es.map (·.k) = ks.map (fun n => .int .i64 (.ofNat n)) ∧ ∀ n ∈ ks, n < 9223372036854775808
  | [], ks, e => by cases e; exact ⟨rfl, fun _ h => by cases h⟩
  | x :: l, ks, e => by
    unfold keyInts at e
    split at e
    · rename_i n hk
      split at e
      · rename_i hn
        split at e
        · rename_i m hm
          cases e
          obtain ⟨h1, h2⟩ := keyInts_ok hm
          refine ⟨by rw [List.map_cons, h1, hk]; rfl, fun y hy => ?_⟩
          rcases List.mem_cons.1 hy with rfl | hy
          · exact lt_blt hn
          · exact h2 y hy
        · cases e
      · cases e
    · cases e
theorem allLt_ok {c : Nat} : ∀ {l : List Nat}, allLt c l = true → ∀ x ∈ l, x < c
  | [], _, _, h => by cases h
  | n :: l, h, x, hx => by
    simp only [allLt, Bool.and_eq_true] at h
    rcases List.mem_cons.1 hx with rfl | hx
    · exact lt_blt h.1
    · exact allLt_ok h.2 x hx
theorem bornL_eq : ∀ es : List AE, bornL es = es.map (·.born)
  | [] => rfl
  | e :: l => by rw [bornL, bornL_eq l]; rfl
theorem rise_nodup {l : List Nat} (h : l.Pairwise (fun x y => x < y)) : l.Nodup := h.imp fun h e => by omega
/-- the entries of the map and of what is known of it -/
theorem map_keys {es : List AE} : ∀ {ea : List MapEntry}, All2 (fun (x : AE) (e : MapEntry) => e.key = x.k ∧ e.born = x.born ∧ x.v.den ι e.val) es ea → ea.map (·.key) = es.map (·.k) ∧ ea.map (·.born) = es.map (·.born) := by
  induction es with
  | nil => intro ea h; cases ea with
    | nil => exact ⟨rfl, rfl⟩
    | cons _ _ => exact h.elim
  | cons x es ih => intro ea h; cases ea with
    | nil => exact h.elim
    | cons e ea =>
      obtain ⟨h1, h2⟩ := ih h.2
      exact ⟨by rw [List.map_cons, List.map_cons, h1, h.1.1], by rw [List.map_cons, List.map_cons, h2, h.1.2.1]⟩
theorem wfN {n : Nat} (h : n < 9223372036854775808) : (Lit.int .i64 (.ofNat n)).wf = true := by
  have h1 : IntKind.i64.min = -9223372036854775808 := by decide
  have h2 : IntKind.i64.max = 9223372036854775807 := by decide
  simp only [Lit.wf, h1, h2, Int.ofNat_eq_natCast, Bool.and_eq_true, decide_eq_true_eq]
  omega
abbrev noR : Value → Option (DataW Unit × List MemPlace) := fun _ => some (.nil, [])
theorem owns_map {b k : Nat} {ea : Array MapEntry} {clock : Nat} {ks : List Nat} (hu : P.underlying k = some (.int .i64)) (hb : w.heap[b]? = some (.map ea clock)) (hk : ea.toList.map (·.key) = ks.map (fun n => .int .i64 (.ofNat n))) (hlt : ∀ n ∈ ks, n < 9223372036854775808)
    (hnd : ks.Nodup) (hbn : (ea.toList.map (·.born)).Nodup) (hbl : ∀ x ∈ ea.toList, x.born < clock) (hsz : ks.length < 1048576) :
    ∃ D0 : DataW Unit, w.ownsMap P k noR b ea.size D0 ∧ Maps.size D0 = ks.length ∧ (intKeys D0).Perm (ks.map Int.ofNat) := by
  have hlen : ea.size = ks.length := by have := congrArg List.length hk; simpa using this
  have hrd : ∀ x ∈ ea.toList, ∃ n ∈ ks, WideElems.rd P k noR x = some (.int .i64 (.ofNat n), .nil) := fun x hx => by
    have : x.key ∈ ea.toList.map (·.key) := List.mem_map.2 ⟨x, hx, rfl⟩
    rw [hk] at this
    obtain ⟨n, hn, e⟩ := List.mem_map.1 this
    refine ⟨n, hn, ?_⟩
    have hkey := Maps.keyOf_int_mk (P := P) (k := k) (q := .i64) hu (wfN (hlt n hn))
    obtain ⟨xk, xv, xb⟩ := x
    simp only at e
    subst e
    exact WideElems.rd_mk (R := noR) (yv := (.nil, [])) hkey rfl
  have hrg : (ea.toList.map (WideElems.rg P k noR)).map (fun p => intOf p.1) = ks.map Int.ofNat := by
    have h1 : ∀ x ∈ ea.toList, (.int .i64 (intOf (WideElems.rg P k noR x).1) : Value) = x.key := fun x hx => by
      obtain ⟨n, _, e⟩ := hrd x hx
      rw [WideElems.rg_of e]
      have : x.key ∈ ea.toList.map (·.key) := List.mem_map.2 ⟨x, hx, rfl⟩
      rw [hk] at this
      obtain ⟨m, hm, e'⟩ := List.mem_map.1 this
      have h2 := WideElems.rd_key e
      rw [← e', Maps.keyOf_int_mk (P := P) (k := k) (q := .i64) hu (wfN (hlt m hm))] at h2
      cases h2
      exact e'
    have h2 : (ea.toList.map fun x => (.int .i64 (intOf (WideElems.rg P k noR x).1) : Value)) = ks.map fun n => .int .i64 (.ofNat n) := by
      rw [← hk]; exact List.map_congr_left h1
    have h3 := congrArg (List.map fun v : Value => match v with | .int _ n => n | _ => 0) h2
    simp only [List.map_map] at h3 ⊢
    have h4 : List.map Int.ofNat ks = List.map (fun (n : Nat) => (n : Int)) ks := rfl
    rw [h4]
    simpa [Function.comp_def] using h3
  refine ⟨.map ((ea.toList.map (WideElems.rg P k noR)).foldr DataW.insert []), ⟨ea, clock, hb, ⟨by rw [hlen]; unfold maxLen; omega, ⟨hbl, hbn, ?_⟩, fun x hx => let ⟨n, _, e⟩ := hrd x hx; ⟨_, e⟩⟩, Nat.le_refl _, rfl⟩, ?_, ?_⟩
  · rw [hk]; exact List.pairwise_map.2 (hnd.imp fun hne e => hne (by cases e; rfl))
  · show ((ea.toList.map (WideElems.rg P k noR)).foldr DataW.insert []).length = _
    rw [DataW.length_sorted, List.length_map, Array.length_toList, hlen]
  · show (((ea.toList.map (WideElems.rg P k noR)).foldr DataW.insert []).map fun p => intOf p.1).Perm _
    rw [← hrg]
    exact (WideShapes.sorted_perm _).map _
theorem sort_eq {ss : List Int} {ks : List Nat} (hp : ss.Perm (ks.map Int.ofNat)) (hs : (sortN ks).Pairwise (fun x y => x < y)) : ss.mergeSort (fun x y => decide (x ≤ y)) = (sortN ks).map Int.ofNat := by
  have tr : ∀ a b c : Int, leI a b = true → leI b c = true → leI a c = true := fun a b c h1 h2 => by simp only [leI, decide_eq_true_eq] at *; exact Int.le_trans h1 h2
  have to : ∀ a b : Int, (leI a b || leI b a) = true := fun a b => by simp only [leI, Bool.or_eq_true, decide_eq_true_eq]; exact Int.le_total a b
  refine List.Perm.eq_of_pairwise (le := fun a b => leI a b = true) (fun a b _ _ h1 h2 => ?_) (List.pairwise_mergeSort tr to ss) (List.pairwise_map.2 (hs.imp fun h => ?_)) (((List.mergeSort_perm ss _).trans hp).trans (((sortN_perm ks).map _).symm))
  · simp only [leI, decide_eq_true_eq] at h1 h2; exact Int.le_antisymm h1 h2
  · simp only [leI, decide_eq_true_eq]; exact Int.ofNat_le.2 (Nat.le_of_lt h)
/-- a block that was not the run's becomes one -/
theorem Rel.adopt (R : Rel ι h w) {g z : Nat} {k : Blk} (hg : ¬ Trk ι h g) (hk : k.ok (ι.add h.n g z) z w.heap[g]?) :
    Rel (ι.add h.n g z) ⟨h.t.set h.n k, h.n + 1⟩ w ∧ ∀ r, r ≠ g → ¬ Trk ι h r → ¬ Trk (ι.add h.n g z) ⟨h.t.set h.n k, h.n + 1⟩ r := by
  have hf := R.fresh h.n (Nat.le_refl _)
  have hx := Map.add_ext (r := g) (z := z) hf
  have hold : ∀ b, b ≠ h.n → ι.add h.n g z b = ι b := fun b hb => if_neg hb
  have hself := Map.add_self ι h.n g z
  refine ⟨⟨fun b j hb => ?_, fun b c j j' q y y' hb hc eb ec => ?_, fun b hb => ?_⟩, fun r hr hn ⟨b, j, y, hb, eb⟩ => ?_⟩
  · simp only [T.get_set] at hb
    split at hb
    · rename_i e; subst e; cases hb; exact ⟨g, z, hself, hk⟩
    · obtain ⟨q, y, e, hj⟩ := R.blk b j hb
      exact ⟨q, y, hx _ _ e, hj.ext hx⟩
  · simp only [T.get_set] at hb hc
    split at hb <;> split at hc
    · rename_i e1 e2; rw [e1, e2]
    · rename_i e1 e2
      subst e1
      rw [hself] at eb; cases eb
      rw [hold c e2] at ec
      exact absurd ⟨c, j', y', hc, ec⟩ hg
    · rename_i e1 e2
      subst e2
      rw [hself] at ec; cases ec
      rw [hold b e1] at eb
      exact absurd ⟨b, j, y, hb, eb⟩ hg
    · rename_i e1 e2
      rw [hold b e1] at eb
      rw [hold c e2] at ec
      exact R.inj b c j j' q y y' hb hc eb ec
  · have hb : h.n + 1 ≤ b := hb
    rw [hold b (by omega)]
    exact R.fresh b (by omega)
  · simp only [T.get_set] at hb
    split at hb
    · rename_i e
      subst e
      rw [hself] at eb; cases eb
      exact hr rfl
    · rename_i e
      rw [hold b e] at eb
      exact hn ⟨b, j, y, hb, eb⟩
end Go.Proofs.YtbjddfeihhdpoaaGreatDoor
namespace Go.Proofs.YtbjddfeihhdpoaaGreatDoor
open Go
variable {P : Program} {ι κ : Map} {h : AH} {w : World} {F : T AT} {a : Act}

theorem one_list {args : Array Value} {x : AT} (h : All2 (AT.den ι) [x] args.toList) : ∃ u, args = #[u] ∧ x.den ι u := by
  cases hv : args.toList with
  | nil => rw [hv] at h; exact h.elim
  | cons u us =>
    rw [hv] at h
    cases us with
    | cons _ _ => exact h.2.elim
    | nil => exact ⟨u, Array.ext' hv, h.1⟩
theorem closure_one {g : FuncId} {x : Nat × Nat} {u : Value} (h : (AC.f g [] [x]).den ι u) : ∃ y, u = .func (.func g) #[] #[y] ∧ PtrAt ι x y := by
  obtain ⟨m, l, hu, hm, hl⟩ := h
  cases m with
  | cons _ _ => exact hm.elim
  | nil =>
    cases l with
    | nil => exact hl.elim
    | cons y l =>
      cases l with
      | cons _ _ => exact hl.2.elim
      | nil => exact ⟨y, hu, hl.1⟩
theorem rise_of {es : List AE} (h : risB 0 (bornL es) = true) : (es.map (·.born)).Nodup := by
  rw [← bornL_eq]; exact rise_nodup (ris_pair h).2
/-- slices.Sorted of what maps.Keys handed back -/
theorem sorted_ok {ρs : Shelf.Ren} {gs : Nat → Bool} {e : TypeId} (L : SlLaysZI.n6 P ρs) (he : ρs.t 26 = e) (hu : P.underlying e = some (.int .i64)) (hsort : AnyZI.SortsIn P ρs Fence.wide 4) (e9 : ∀ args w, (callFunc (ρs.f 9) args).run P w = .ok (.enter (ρs.f 9) args) w)
    (hg : ∀ g, gs g = true → ∃ ρk : Shelf.Ren, SlLaysZI.n10 P ρk ∧ ρk.f 10 = g ∧ ρk.t 26 = e ∧ ∀ args w, (callFunc g args).run P w = .ok (.enter g args) w) :
    CallOk P (fun f' l h => if f' = ρs.f 6 then sortedA gs e h l else none) := by
  intro f' l h h' v ev ι w args R hl
  replace ev : (if f' = ρs.f 6 then sortedA gs e h l else none) = some (h', v) := ev
  by_cases hf : f' = ρs.f 6
  · subst hf
    rw [if_pos rfl] at ev
    unfold sortedA at ev
    split at ev
    · rename_i g b
      split at ev
      · rename_i c n t hgs hblk
        split at ev
        · rename_i m hn hc
          have hn := lt_blt hn
          split at ev
          · rename_i es clock hm
            unfold sortedM at ev
            split at ev
            · rename_i ks hks
              split at ev
              · rename_i hch
                injection ev with ev
                simp only [Bool.and_eq_true] at hch
                obtain ⟨⟨⟨hs, hb⟩, hcl⟩, hsz⟩ := hch
                have hsz := lt_blt hsz
                have hsr := (ris_pair hs).2
                obtain ⟨u, rfl, hu'⟩ := one_list hl
                obtain ⟨y, rfl, r, z, er, rfl⟩ := closure_one hu'
                obtain ⟨r', z', er', av, fr, hcell, hav, hnz, hfr, hcells⟩ := R.blk b _ hblk
                rw [er] at er'; cases er'
                obtain ⟨x0, hx0, hd0⟩ := hcells 0 _ hn hc
                obtain ⟨rm, zm, em, rfl⟩ := hd0
                obtain ⟨rm', zm', em', ea, hea, hall⟩ := R.blk m _ hm
                rw [em] at em'; cases em'
                obtain ⟨hkk, hbb⟩ := map_keys hall
                obtain ⟨hk1, hk2⟩ := keyInts_ok hks
                have hnd : ks.Nodup := (sortN_perm ks).nodup_iff.1 (rise_nodup hsr)
                obtain ⟨D0, hown, hsize, hperm⟩ := owns_map (w := w) (b := rm) (k := e) (ea := ea) (clock := clock) hu hea (hkk.trans hk1) hk2 hnd (by rw [hbb]; exact rise_of hb) (fun x hx => by
                  have : x.born ∈ ea.toList.map (·.born) := List.mem_map.2 ⟨x, hx, rfl⟩
                  rw [hbb, ← bornL_eq] at this
                  exact allLt_ok hcl _ this) hsz
                obtain ⟨ρk, K, hg10, hk26, eg⟩ := hg g hgs
                have hrl : r < w.heap.size := (Array.getElem?_eq_some_iff.1 hcell).1
                have hcell0 : w.cell? ⟨r, 0, none⟩ = some (.map (some rm)) := by
                  simp [World.cell?, hcell, hx0]
                have hseq := AnyZI.keys_gives K Fence.wide 2 trivial rfl (by omega) r rm ea.size D0 w hrl hcell0 (by rw [hk26]; exact hown)
                rw [hg10] at hseq
                have hcall := AnyZI.sorted_in L Fence.wide 5 trivial trivial trivial trivial rfl (by omega) hsort e9 g #[.pointer (some ⟨r, 0, none⟩)] trivial eg _ _ (by rw [hsize]; unfold maxLen; omega) (by rw [hsize]; omega) w hseq
                refine (callsIn_wide (n := 5)).1 (hcall.mono fun en w' hen => ?_)
                obtain ⟨v, ss, rfl, hS, hrow, hnil, hbel⟩ := hen
                rw [sort_eq (hS.trans hperm) hsr, he] at hrow
                have hlen : ss.length = (sortN ks).length := by
                  rw [(hS.trans hperm).length_eq, List.length_map, (sortN_perm ks).length_eq]
                have R' : Rel ι h w' := R.off fun q hq => hbel.block q (R.trk_lt hq)
                have K' : Keep ι h w ι h w' := ⟨⟨hbel.size, fun q hq hnq => ⟨hbel.block q hq, hnq⟩⟩, Nat.le_refl _, fun _ _ => rfl, hbel.os, hbel.tape, hbel.output⟩
                cases hso : sortN ks with
                | nil =>
                  rw [hso] at hlen ev
                  cases ev
                  have hss : ss = [] := List.eq_nil_of_length_eq_zero hlen
                  have hv := hnil.2 hss
                  subst hv
                  exact ⟨ι, .refl _, R', K', rfl, rfl⟩
                | cons n0 l0 =>
                  rw [hso] at hlen hrow ev
                  cases ev
                  rcases hrow.2 with ⟨_, h0⟩ | ⟨g', cap, cur, rfl, hbase, hgb, r1, r2, r3, r4⟩
                  · rw [hlen] at h0; cases h0
                  · have hgn : ¬ Trk ι h g' := fun ht => by
                      have := R.trk_lt ht; omega
                    have hz : cur.size = cap := by rw [r3, Nat.mul_one]
                    have hadopt := R'.adopt (g := g') (z := cap) (k := blk ((n0 :: l0).map fun n => .v (.int .i64 (.ofNat n))) e) hgn ⟨cur, (0, 0), hgb, hz, by rw [List.length_map, ← hlen]; exact r1, .inl rfl, fun i x hi hx => by
                      rw [List.length_map] at hi
                      rw [mkT_get _ _ _ (Nat.le_refl _)] at hx
                      have hx2 : (n0 :: l0)[i]? = some (n0 :: l0)[i] := List.getElem?_eq_getElem hi
                      rw [List.getElem?_map, hx2] at hx
                      cases hx
                      refine ⟨.int .i64 (.ofNat (n0 :: l0)[i]), ?_, rfl, rfl⟩
                      have h1 := congrArg (fun l : List Value => l[i]?) r4
                      simp only [Nat.mul_one] at h1
                      rw [List.getElem?_take_of_lt (by omega)] at h1
                      rw [← Array.getElem?_toList, h1, List.map_map, List.getElem?_map, hx2]
                      rfl⟩
                    obtain ⟨R2, hoth⟩ := hadopt
                    refine ⟨_, Map.add_ext (R.fresh h.n (Nat.le_refl _)), R2, ⟨⟨hbel.size, fun q hq hnq => ⟨hbel.block q hq, hoth q (by omega) hnq⟩⟩, Nat.le_succ _, fun b hb => if_neg (by omega), hbel.os, hbel.tape, hbel.output⟩, g', cap, cap, Map.add_self _ _ _ _, ?_, ?_, ?_⟩
                    · rw [← hlen]
                    · rw [← hlen]; exact r1
                    · omega
              · cases ev
            · cases ev
          · cases ev
        · cases ev
      · cases ev
    · cases ev
  · rw [if_neg hf] at ev; cases ev
end Go.Proofs.YtbjddfeihhdpoaaGreatDoor
