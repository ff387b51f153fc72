/- Lemmas. -/
import Derived.Test.YtpomdoliblilfaaBld22
import Derived.Maps.OwnSet
namespace Go.Proofs.Ytpomdoliblilfaa
set_option linter.unusedVariables false
set_option linter.unusedSimpArgs false
open Go.RowKit
theorem flat_rel:FlatK kRel:=fun _ _ _ _ _ _ h=>h
theorem row_rel:RowK kRel relCells (fun _=>True):=⟨fun h=>⟨h,trivial⟩,fun _ _ _ _=>rfl,fun _=>rfl,by decide,fun x u hu=>by
 simp only [relCells,List.mem_cons,List.not_mem_nil,or_false]at hu
 rcases hu with rfl | rfl | rfl | rfl<;>rfl⟩
theorem info_rel:(Try.prog.info? 124).map (fun i=>(i.zero,i.size,i.bytes))=some (some (.agg #[.int .i64 0,.int .i64 0,.int .i64 0,.int .i64 0]),4,32):=by kernel_rfl
theorem info_slot:(Try.prog.info? 62).map (fun i=>(i.zero,i.size,i.bytes))=some (some (.agg #[.int .i64 0,.int .i64 0,.int .i64 0]),3,24):=by kernel_rfl
theorem RowK.new_lb {α:Type} {K:Kind α} {f:α→List Value} {P:α→Prop} (hp:RowK K f P) (w:World) (t:TypeId) (l:List α) (hl:l.length≤9223372036854775807) (hok:∀ x∈l,P x):LB K (fun b=>b=w.heap.size) (w.alloc (.cells (l.flatMap f).toArray t (0,0))) (.slice (some ⟨w.heap.size,0,none⟩) l.length l.length) l:=by
 refine⟨some ⟨w.heap.size,0,none⟩,w.heap.size,0,l.length,rfl,hl,fun _=>rfl,⟨Nat.le_refl _,fun h=>by cases h⟩,fun _=>rfl,fun i x hx=>⟨f x,hp.made _ _ x (hok x (List.mem_of_getElem? hx)),fun j u hu=> ?_⟩⟩
 rw [Lib.cell_of_heap (heap_alloc_new _ _),Nat.zero_add]
 simpa using flat_get f K.k hp.len l i x hx j u hu
structure MakeL {α:Type} (e:TypeId) (K:Kind α) (B:Nat) (w1 w:World) (o:Value) (l:List α):Prop where
 own:OwnK e K B (fun _=>False) w o l
 below:Below B w1 w
 hB:B≤w.heap.size
section
variable {α : Type} {e : TypeId} {K : Kind α} {B : Nat} {w1 w w' : World} {o : Value} {l : List α}
theorem MakeL.start (e:TypeId) (K:Kind α) (w:World):MakeL e K w.heap.size w w (.slice none 0 0) []:=⟨OwnK.nil _ _ _ _ _,Below.refl _ _,Nat.le_refl _⟩
theorem MakeL.belowW (h:MakeL e K B w1 w o l) (hb:Below w.heap.size w w'):MakeL e K B w1 w' o l:=⟨h.own.below hb,h.below.trans (hb.mono h.hB),Nat.le_trans h.hB hb.size⟩
theorem MakeL.alloc (h:MakeL e K B w1 w o l) (x:Obj):MakeL e K B w1 (w.alloc x) o l:=h.belowW ((Below.refl _ w).alloc (Nat.le_refl _) x)
theorem MakeL.drew (h:MakeL e K B w1 w o l):MakeL e K B w1 w.drew o l:=h.belowW ((Below.refl _ w).drew)
theorem MakeL.append (hK:FlatK K) (h:MakeL e K B w1 w o l) {o':Value} {l':List α} {E:Nat→Prop} (hown:OwnK e K B E w' o' l') (hst:Step (fun b=>b<w.heap.size∧o.ownBlock≠some b) w w'):MakeL e K B w1 w' o' l':=by
 have hz:=hst.size
 have hB:=h.hB
 refine⟨hown.reE hK (fun _ _ h=>h),h.below.trans ((hst.imp (S':=(·<B)) (fun b hb=>⟨?_,fun e=> ?_⟩)).below),by omega⟩
 ·have hb:b<B:=hb;omega
 ·have:=(h.own.lt b e).1
  have hb:b<B:=hb;omega
end
def KD:DataW Unit:=((((DataW.map []:DataW Unit).put (.int .i64 0) (.lit (.int .i64 0))).put (.int .i64 1) (.lit (.int .i64 3))).put (.int .i64 2) (.lit (.int .i64 4))).put (.int .i64 3) (.lit (.int .i64 5))
theorem keyI (c:Int):WideAt.IsKeyLit (.int .i64 c):=trivial
theorem KD_at (c:Int):KD.atKey (.int .i64 c) (.lit (.int .i64 0))=.lit (.int .i64 (useKind c)):=by
 have t0:Maps.Tidy (DataW.map []:DataW Unit):=Maps.tidy_empty
 have t1:=Maps.Tidy.put t0 (keyI 0) (.lit (.int .i64 0))
 have t2:=Maps.Tidy.put t1 (keyI 1) (.lit (.int .i64 3))
 have t3:=Maps.Tidy.put t2 (keyI 2) (.lit (.int .i64 4))
 have t4:=Maps.Tidy.put t3 (keyI 3) (.lit (.int .i64 5))
 have ne:∀ a b:Int,a≠b→Lit.int .i64 a≠Lit.int .i64 b:=fun a b h e=>h (by cases e;rfl)
 unfold KD useKind
 by_cases h3:c=3
 ·subst h3;rw [Maps.atKey_put_same t3.isMap (keyI 3)];rfl
 ·rw [Maps.atKey_put_other (ne _ _ h3)]
  by_cases h2:c=2
  ·subst h2;rw [Maps.atKey_put_same t2.isMap (keyI 2)];rfl
  ·rw [Maps.atKey_put_other (ne _ _ h2)]
   by_cases h1:c=1
   ·subst h1;rw [Maps.atKey_put_same t1.isMap (keyI 1)];rfl
   ·rw [Maps.atKey_put_other (ne _ _ h1)]
    by_cases h0:c=0
    ·subst h0;rw [Maps.atKey_put_same t0.isMap (keyI 0)];rfl
    ·rw [Maps.atKey_put_other (ne _ _ h0),if_neg h0,if_neg h1,if_neg h2,if_neg h3]
     rfl
def KindsM (b:Nat) (w:World):Prop:=w.ownsMap (H:=Unit) Try.prog 118 (plainElem Try.prog 119) b 4 KD
theorem kUse:Maps.Keyed Try.prog 118:=Maps.int_keyed Try.underlying118
theorem wf64 {c:Int} (h:In63 c):(Lit.int .i64 c).wf=true:=by
 unfold In63 at h
 have e1:IntKind.i64.min= -9223372036854775808:=by decide
 have e2:IntKind.i64.max=9223372036854775807:=by decide
 simp [Lit.wf,e1,e2]
 omega
theorem KindsM.keep {b:Nat} {w w':World} (h:KindsM b w) (hb:w'.heap[b]? =w.heap[b]?):KindsM b w':=by
 obtain⟨es,clock,h1,h2⟩:=h
 exact⟨es,clock,hb.trans h1,h2⟩
theorem KindsM.look {b:Nat} {w:World} (h:KindsM b w) {c:Int} (hc:In63 c):(Instr.lookup 120 (.map (some b)) (.int .i64 c) false).run Try.prog w=.ok (.int .i64 (useKind c)) w:=by
 obtain⟨d,h1,h2,_⟩:=h.lookup_int (q:=.i64) kUse Try.underlying120 Try.underlying119 (by kernel_rfl) (Maps.keyOf_int_mk Try.underlying118 (wf64 hc))
 rw [KD_at]at h2
 cases h2
 exact h1
theorem kinds_made (w:World):∃ w2 w3 w4 w5,(Instr.mapUpdate 120 (.map (some w.heap.size)) (.int .i64 0) (.int .i64 0)).run Try.prog (w.alloc (.map #[] 0))=.ok () w2∧(Instr.mapUpdate 120 (.map (some w.heap.size)) (.int .i64 1) (.int .i64 3)).run Try.prog w2=.ok () w3∧
  (Instr.mapUpdate 120 (.map (some w.heap.size)) (.int .i64 2) (.int .i64 4)).run Try.prog w3=.ok () w4∧(Instr.mapUpdate 120 (.map (some w.heap.size)) (.int .i64 3) (.int .i64 5)).run Try.prog w4=.ok () w5∧KindsM w.heap.size w5∧Below w.heap.size w w5∧w.heap.size<w5.heap.size:=by
 have kk:∀ c:Int,In63 c→keyOf Try.prog 118 (.int .i64 c)=some (.int .i64 c):=fun c hc=>Maps.keyOf_int_mk Try.underlying118 (wf64 hc)
 have vv:∀ c:Int,In63 c→plainElem (H:=Unit) Try.prog 119 (.int .i64 c)=some (.lit (.int .i64 c),[]):=fun c hc=>plainElem_int Try.underlying119 (wf64 hc)
 obtain⟨w2,r2,o2,g2⟩:=(World.ownsMap_made w Try.prog 118 (plainElem (H:=Unit) Try.prog 119)).update kUse Try.underlying120 (by unfold maxLen;omega) (kk 0 (by decide)) (vv 0 (by decide))
 obtain⟨w3,r3,o3,g3⟩:=o2.update kUse Try.underlying120 (by unfold maxLen;omega) (kk 1 (by decide)) (vv 3 (by decide))
 obtain⟨w4,r4,o4,g4⟩:=o3.update kUse Try.underlying120 (by unfold maxLen;omega) (kk 2 (by decide)) (vv 4 (by decide))
 obtain⟨w5,r5,o5,g5⟩:=o4.update kUse Try.underlying120 (by unfold maxLen;omega) (kk 3 (by decide)) (vv 5 (by decide))
 have ge:∀ k,some w.heap.size=some k→w.heap.size≤k:=fun k hk=>by cases hk;exact Nat.le_refl _
 have z0:w.heap.size≤(w.alloc (.map #[] 0)).heap.size:=by simp
 refine⟨w2,w3,w4,w5,r2,r3,r4,r5,o5,?_,o5.lt⟩
 have z2:=g2.size
 have z3:=g3.size
 have z4:=g4.size
 exact((((((Below.refl _ w).alloc (Nat.le_refl _) _).grown g2 z0 ge).grown g3 (by omega) ge).grown g4 (by omega) ge).grown g5 (by omega) ge)
def refRel (weak:List (List UInt8)) (p:PlanL) (at_:Int) (r:RefL):RelL:=⟨at_+8*r.word,0,(p.sym weak r.name r.ver 2).2,r.add⟩
def copyRel (at_ k:Int) (v:VarL):List RelL:=if v.copied then [⟨at_,2,k,0⟩] else []
def varRel (weak:List (List UInt8)) (p:PlanL) (at_ k:Int) (v:VarL):List RelL:=copyRel at_ k v++v.refs.map (refRel weak p at_)
def varsOut (weak:List (List UInt8)) (p:PlanL) (nf:Nat) (vars:List Int):Nat→List VarL→List RelL
 | _,[]=>[]
 | k,v :: l=>varRel weak p (vars.getD k 0) (nf+k:Nat) v++varsOut weak p nf vars (k+1) l
theorem varsOut_snoc (weak:List (List UInt8)) (p:PlanL) (nf:Nat) (vars:List Int) (v:VarL):∀ (l:List VarL) (k:Nat),varsOut weak p nf vars k (l++[v])=varsOut weak p nf vars k l++varRel weak p (vars.getD (k+l.length) 0) (nf+(k+l.length):Nat) v
 | [],k=>by simp [varsOut]
 | x :: l,k=>by
  have h:=varsOut_snoc weak p nf vars v l (k+1)
  rw [List.cons_append]
  simp only [varsOut,List.length_cons]
  rw [h,List.append_assoc,show k+1+l.length=k+(l.length+1) by omega]
theorem refRels_eq {weak:List (List UInt8)} {p:PlanL} (at_:Int):∀ (l:List RefL) (out:List RelL),(∀ r∈l,RefIn p r)→refRels weak at_ l (p,out)=(p,out++l.map (refRel weak p at_))
 | [],out,_=>by simp [refRels]
 | r :: l,out,h=>by
  obtain⟨i,hi⟩:=h r (List.mem_cons_self ..)
  unfold refRels
  simp only [sym_found hi]
  rw [refRels_eq at_ l _ (fun x hx=>h x (List.mem_cons_of_mem _ hx))]
  simp [refRel,sym_found hi]
theorem varRels_eq {weak:List (List UInt8)} {p:PlanL} (nf:Nat) (vars:List Int):∀ (l:List VarL) (k:Nat) (out:List RelL),(∀ v∈l,VarIn p v)→varRels weak nf vars k l (p,out)=(p,out++varsOut weak p nf vars k l)
 | [],k,out,_=>by simp [varRels,varsOut]
 | v :: l,k,out,h=>by
  unfold varRels
  have h1:(if v.copied=true then (p,out++[⟨vars.getD k 0,2,((nf+k:Nat):Int),0⟩]) else (p,out))=(p,out++copyRel (vars.getD k 0) (nf+k:Nat) v):=by
   unfold copyRel;split<;>simp
  simp only [Int.natCast_add]at h1 ⊢
  rw [h1,refRels_eq _ _ _ (h v (List.mem_cons_self ..)),varRels_eq nf vars l (k+1) _ (fun x hx=>h x (List.mem_cons_of_mem _ hx))]
  simp [varsOut,varRel,List.append_assoc]
theorem rels_eq {s:SpecL} {p:PlanL} (y:LayL) (h:∀ v∈s.vars,VarIn p v):relsL s y p=(p,cellRels y.got 0 p.cells++varsOut s.weak p s.funcs.length y.vars 0 s.vars):=by
 unfold relsL;exact varRels_eq _ _ _ _ _ h
theorem cellRels_snoc (got:Int) (c:Int × Int):∀ (l:List (Int × Int)) (k:Nat),cellRels got k (l++[c])=cellRels got k l++[⟨got+8*(k+l.length:Nat),useKind c.1,c.2,0⟩]
 | [],k=>by simp [cellRels]
 | x :: l,k=>by
  have h:=cellRels_snoc got c l (k+1)
  rw [List.cons_append]
  simp only [cellRels,List.length_cons,List.cons_append]
  rw [h,show k+1+l.length=k+(l.length+1) by omega]
theorem cellRels_len (got:Int):∀ (l:List (Int × Int)) (k:Nat),(cellRels got k l).length=l.length
 | [],_=>rfl
 | x :: l,k=>by simp [cellRels,cellRels_len got l]
theorem varsOut_len (weak:List (List UInt8)) (p:PlanL) (nf:Nat) (vars:List Int):∀ (l:List VarL) (k:Nat),(varsOut weak p nf vars k l).length≤l.length+(l.flatMap (·.refs)).length
 | [],_=>by simp [varsOut]
 | v :: l,k=>by
  have:=varsOut_len weak p nf vars l (k+1)
  have h2:(copyRel (vars.getD k 0) (nf+k:Nat) v).length≤1:=by unfold copyRel;split<;>simp
  simp only [varsOut,varRel,List.length_append,List.length_map,List.length_cons,List.flatMap_cons]
  omega
end Go.Proofs.Ytpomdoliblilfaa
