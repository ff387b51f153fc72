/- Lemmas. -/
import Derived.Test.YtpomdoliblilfaaBld24
namespace Go.Proofs.Ytpomdoliblilfaa
set_option linter.unusedVariables false
set_option linter.unusedSimpArgs false
open Go.RowKit
def placeS (a n:Int) (s:SymL):SymL:={s with value:=a,size:=n }
def endF (stubs:Int) (funcs:List Int) (i:Nat):Int:=(funcs[i+1]?).getD stubs
theorem symsF_get (stubs:Int):∀ (funcs:List Int) (l:List SymL) (i:Nat),(symsF stubs funcs l)[i]? =if i<funcs.length then (l[i]?).map (placeS (funcs.getD i 0) (endF stubs funcs i-funcs.getD i 0)) else l[i]?
 | [],l,i=>by simp [symsF]
 | a :: r,[],i=>by cases r<;>simp [symsF]
 | [a],s :: l,i=>by
  cases i with
  | zero=>simp [symsF,placeS,endF]
  | succ i=>simp [symsF]
 | a :: b :: r,s :: l,i=>by
  have h:=symsF_get stubs (b :: r) l
  cases i with
  | zero=>simp [symsF,placeS,endF]
  | succ i=>
   have h1:=h i
   simp only [symsF,List.getElem?_cons_succ,h1,List.length_cons,endF]
   simp [Nat.succ_lt_succ_iff]
theorem symsV_get:∀ (ps:List Int) (vs:List VarL) (l:List SymL) (i:Nat),ps.length=vs.length→(symsV ps vs l)[i]? =if i<vs.length then (l[i]?).map (placeS (ps.getD i 0) (8*((vs.map (·.words.length)).getD i 0:Nat))) else l[i]?
 | [],[],l,i,_=>by cases l<;>simp [symsV]
 | a :: ps,v :: vs,[],i,_=>by simp [symsV]
 | a :: ps,v :: vs,s :: l,i,h=>by
  have h1:=symsV_get ps vs l (i-1) (by simpa using h)
  cases i with
  | zero=>simp [symsV,placeS]
  | succ i=>
   simp only [Nat.add_sub_cancel]at h1
   simp only [symsV,List.getElem?_cons_succ,h1]
   simp [Nat.succ_lt_succ_iff]
 | [],v :: vs,l,i,h=>by simp at h
 | a :: ps,[],l,i,h=>by simp at h
def foldF (stubs:Int) (funcs:List Int) (l:List SymL):Nat→List SymL
 | 0=>l
 | k+1=>(foldF stubs funcs l k).modify k (placeS (funcs.getD k 0) (endF stubs funcs k-funcs.getD k 0))
def foldV (nf:Nat) (vars:List Int) (vs:List VarL) (l:List SymL):Nat→List SymL
 | 0=>l
 | k+1=>(foldV nf vars vs l k).modify (nf+k) (placeS (vars.getD k 0) (8*((vs.map (·.words.length)).getD k 0:Nat)))
theorem foldF_len (stubs:Int) (funcs:List Int) (l:List SymL):∀ k,(foldF stubs funcs l k).length=l.length
 | 0=>rfl
 | k+1=>by simp [foldF,foldF_len stubs funcs l k]
theorem foldV_len (nf:Nat) (vars:List Int) (vs:List VarL) (l:List SymL):∀ k,(foldV nf vars vs l k).length=l.length
 | 0=>rfl
 | k+1=>by simp [foldV,foldV_len nf vars vs l k]
theorem foldF_get (stubs:Int) (funcs:List Int) (l:List SymL) (i:Nat):∀ k,(foldF stubs funcs l k)[i]? =if i<k then (l[i]?).map (placeS (funcs.getD i 0) (endF stubs funcs i-funcs.getD i 0)) else l[i]?
 | 0=>by simp [foldF]
 | k+1=>by
  have h:=foldF_get stubs funcs l i k
  rw [foldF,List.getElem?_modify,h]
  by_cases e:k=i
  ·subst e;simp
  ·by_cases h1:i<k
   ·simp [e,h1,Nat.lt_succ_of_lt h1]
   ·have h2:¬ i<k+1:=by omega
    simp [e,h1,h2]
theorem foldV_get (nf:Nat) (vars:List Int) (vs:List VarL) (l:List SymL) (i:Nat):∀ k,(foldV nf vars vs l k)[i]? =if nf≤i∧i<nf+k then (l[i]?).map (placeS (vars.getD (i-nf) 0) (8*((vs.map (·.words.length)).getD (i-nf) 0:Nat))) else l[i]?
 | 0=>by
  rw [if_neg (by omega)];rfl
 | k+1=>by
  have h:=foldV_get nf vars vs l i k
  rw [foldV,List.getElem?_modify,h]
  by_cases e:nf+k=i
  ·subst e
   rw [if_neg (by omega),if_pos (by omega),Nat.add_sub_cancel_left];simp
  ·by_cases h1:nf≤i∧i<nf+k
   ·rw [if_pos h1,if_pos (by omega)];simp [e]
   ·rw [if_neg h1,if_neg (by omega)];simp [e]
theorem symsL_fold {s:SpecL} {y:LayL} {l:List SymL} (hf:y.funcs.length=s.funcs.length) (hv:y.vars.length=s.vars.length):symsL s y l=foldV s.funcs.length y.vars s.vars (foldF y.stubs y.funcs l s.funcs.length) s.vars.length:=by
 apply List.ext_getElem?
 intro i
 rw [foldV_get,foldF_get]
 show((symsF y.stubs y.funcs l).take s.funcs.length++symsV y.vars s.vars ((symsF y.stubs y.funcs l).drop s.funcs.length))[i]? =_
 have hF:=symsF_get y.stubs y.funcs l
 have hlen:(symsF y.stubs y.funcs l).length=l.length:=by
  have:=congrArg List.length (symsF_bare y.stubs y.funcs l)
  simpa using this
 by_cases h1:i<s.funcs.length
 ·rw [if_neg (by omega)]
  by_cases h2:i<l.length
  ·rw [List.getElem?_append_left (by simp [hlen];omega),List.getElem?_take_of_lt h1,hF,hf]
  ·rw [if_pos h1,List.getElem?_eq_none (by omega:l.length≤i)]
   rw [List.getElem?_eq_none];rfl
   have h3:(symsV y.vars s.vars ((symsF y.stubs y.funcs l).drop s.funcs.length)).length=((symsF y.stubs y.funcs l).drop s.funcs.length).length:=by
    have:=congrArg List.length (symsV_bare y.vars s.vars ((symsF y.stubs y.funcs l).drop s.funcs.length))
    simpa using this
   simp only [List.length_append,h3,List.length_take,List.length_drop,hlen];omega
 ·rw [if_neg h1]
  by_cases h2:s.funcs.length≤l.length
  ·rw [List.getElem?_append_right (by simp [hlen];omega),symsV_get _ _ _ _ hv,List.length_take,hlen,Nat.min_eq_left h2,List.getElem?_drop,show s.funcs.length+(i-s.funcs.length)=i by omega,hF,hf]
   simp only [h1,if_false]
   by_cases h3:i-s.funcs.length<s.vars.length
   ·rw [if_pos h3,if_pos (by omega)]
   ·rw [if_neg h3,if_neg (by omega)]
  ·have h4:(symsF y.stubs y.funcs l).drop s.funcs.length=[]:=List.drop_eq_nil_of_le (by omega)
   have h3:(symsV y.vars s.vars ([]:List SymL))=[]:=by
    have:=congrArg List.length (symsV_bare y.vars s.vars [])
    exact List.eq_nil_of_length_eq_zero (by simpa using this)
   rw [h4,h3,List.append_nil,List.getElem?_eq_none (by omega:l.length≤i),List.getElem?_eq_none (by simp [hlen];omega)]
   split<;>rfl
theorem flatMap_set {α:Type} (f:α→List Value) (k:Nat) (hf:∀ x,(f x).length=k) (x':α) (j:Nat) (u:Value):∀ (l:List α) (i:Nat) (x:α),l[i]? =some x→f x'=(f x).set j u→j<k→(l.set i x').flatMap f=(l.flatMap f).set (i*k+j) u
 | [],i,x,hx,_,_=>by simp at hx
 | z :: l,0,x,hx,h,hj=>by
  simp only [List.getElem?_cons_zero,Option.some.injEq]at hx
  subst hx
  simp only [List.set_cons_zero,List.flatMap_cons,Nat.zero_mul,Nat.zero_add]
  rw [List.set_append_left _ _ (by rw [hf];exact hj),h]
 | z :: l,i+1,x,hx,h,hj=>by
  simp only [List.getElem?_cons_succ]at hx
  have h1:=flatMap_set f k hf x' j u l i x hx h hj
  simp only [List.set_cons_succ,List.flatMap_cons]
  rw [h1,List.set_append_right _ _ (by rw [hf,Nat.succ_mul];omega),hf]
  congr 2
  rw [Nat.succ_mul];omega
section
variable {α : Type} {e : TypeId} {K : Kind α} {f : α → List Value} {P : α → Prop} {B : Nat} {E : Nat → Prop} {w w' : World} {v : Value} {l : List α}
theorem RowsOf.row_eq (hp:RowK K f P) {S:Nat→Prop}:∀ {l:List α} {xs:List Value},RowsOf K S w l xs→xs=l.flatMap f∧∀ x∈l,P x
 | [],xs,h=>⟨h,fun _ h=>by cases h⟩
 | x :: l,xs,⟨r,ys,h1,h2,h3⟩=>by
  obtain⟨e1,e2⟩:=RowsOf.row_eq hp h3
  obtain⟨e3,e4⟩:=hp.cells_of h2
  refine⟨by rw [h1,e1,e3,List.flatMap_cons],fun y hy=> ?_⟩
  rcases List.mem_cons.1 hy with rfl | hy
  ·exact e4
  ·exact e2 y hy
theorem OwnK.setElem (hp:RowK K f P) (h:OwnK e K B E w v l) {g:Nat} (hg:v.ownBlock=some g) {i:Nat} {x x':α} (hx:l[i]? =some x) {j:Nat} {u:Value} (hj:j<K.k) (hu:f x'=(f x).set j u) (hP:P x'):OwnK e K B E (w.setCell ⟨g,i*K.k+j,none⟩ u) v (l.set i x'):=by
 obtain⟨xs,h1,h2,h3⟩:=h
 obtain⟨e1,e2⟩:=RowsOf.row_eq hp h2
 have hi:=(List.getElem?_eq_some_iff.1 hx).1
 refine⟨xs.set (i*K.k+j) u,⟨by rw [List.length_set,List.length_set];exact h1.1,?_⟩,?_,h3⟩
 ·rcases h1.2 with ⟨h0,_⟩ | ⟨g',cap,cur,hv,hg',hh,hn,hc,hs,ht⟩
  ·rw [h0]at hg;cases hg
  ·refine Or.inr ⟨g',cap,(cur.toList.set (i*K.k+j) u).toArray,by rw [List.length_set];exact hv,hg',?_,by rw [List.length_set];exact hn,hc,by simp [hs],?_⟩
   ·obtain rfl:g=g':=by rw [hv]at hg;exact(Option.some.inj hg).symm
    have hh':w.heap[g]? =some (.cells cur.toList.toArray e (0,0)):=by simpa using hh
    exact setCell_list hh' _ _
   ·have h9:(cur.toList.set (i*K.k+j) u).take (l.length*K.k)=(cur.toList.take (l.length*K.k)).set (i*K.k+j) u:=List.take_set ..
    rw [List.length_set]
    simpa [h9] using congrArg (fun z=>z.set (i*K.k+j) u) ht
 ·have:=RowsOf.of_row (l:=l.set i x') hp (fun b=>b<(w.setCell ⟨g,i*K.k+j,none⟩ u).heap.size∧¬ E b∧v.ownBlock≠some b) (w.setCell ⟨g,i*K.k+j,none⟩ u) (fun y hy=>by
   rcases List.mem_or_eq_of_mem_set hy with hy | rfl
   ·exact e2 y hy
   ·exact hP)
  rw [flatMap_set f K.k hp.len x' j u l i x hx hu hj]at this
  rw [e1];exact this
end
theorem row_sym:RowK kSym symCells SymOk:=⟨fun h=>h,fun _ _ _ h=>⟨rfl,h⟩,fun _=>rfl,by decide,one_sym⟩
section
variable {B pb : Nat} {w w' : World} {sv : SpecV} {s : SpecL} {own : Int} {v : PlanV} {p : PlanL}
theorem PStep.setHas (v:PlanV) (w:World) {g:Nat} (hg:v.has g) (i:Nat) (x:Value):PStep pb v v w (w.setCell ⟨g,i,none⟩ x):=
 ⟨(Step.refl _ w).setCell (fun h=>h.2.2 hg) x,fun _ h=>Or.inl h⟩
theorem PlanM.setSym (hM:PlanM B pb w sv s own v p) {g:Nat} (hg:v.syms.ownBlock=some g) {i:Nat} {x x':SymL} (hx:p.syms[i]? =some x) {j:Nat} {u:Value} (hj:j<9) (hu:symCells x'=(symCells x).set j u) (hok:SymOk x'):PlanM B pb (w.setCell ⟨g,i*9+j,none⟩ u) sv s own v {p with syms:=p.syms.set i x' }:=by
 have hne:g≠pb:=fun e=>hM.syms.notE g hg (Or.inl e)
 have hs:Step (fun b=>b≠g) w (w.setCell ⟨g,i*9+j,none⟩ u):=(Step.refl _ w).setCell (fun h=>h rfl) _
 refine⟨(hs.block pb (fun e=>hne e.symm)).trans hM.ex,hM.base,?_,?_,?_⟩
 ·exact hM.syms.setElem row_sym hg hx (K:=kSym) hj hu hok
 ·exact hM.cells.flat_keep flat_cell (fun b hb=>hs.block b (fun e=>hM.cells.notE b hb (Or.inr (Or.inl (by rw [e];exact hg)))))
 ·exact hM.jumps.flat_keep flat_int (fun b hb=>hs.block b (fun e=>hM.jumps.notE b hb (Or.inr (Or.inl (by rw [e];exact hg)))))
theorem PlanM.placeSym (hM:PlanM B pb w sv s own v p) {g:Nat} (hg:v.syms.ownBlock=some g) {i:Nat} (hi:i<p.syms.length) (a n:Int) (ha:In63 a) (hn:In63 n):PlanM B pb ((w.setCell ⟨g,i*9+7,none⟩ (.int .i64 a)).setCell ⟨g,i*9+8,none⟩ (.int .i64 n)) sv s own v {p with syms:=p.syms.modify i (placeS a n)}:=by
 obtain⟨x,hx⟩:∃ x,p.syms[i]? =some x:=⟨_,List.getElem?_eq_getElem hi⟩
 have hok:SymOk x:=by
  obtain⟨xs,_,h2,_⟩:=hM.syms
  exact(RowsOf.row_eq row_sym h2).2 x (List.mem_of_getElem? hx)
 have h1:=hM.setSym hg hx (j:=7) (u:=.int .i64 a) (x':={x with value:=a }) (by decide) rfl ⟨hok.name,hok.version,hok.kind,hok.vis,ha,hok.size⟩
 have h2:=h1.setSym hg (i:=i) (x:={x with value:=a }) (x':=placeS a n x) (by simp [hi]) (j:=8) (u:=.int .i64 n) (by decide) rfl ⟨hok.name,hok.version,hok.kind,hok.vis,ha,hn⟩
 have e:p.syms.modify i (placeS a n)=(p.syms.set i {x with value:=a }).set i (placeS a n x):=by
  apply List.ext_getElem?
  intro j
  rw [List.getElem?_modify,List.set_set,List.getElem?_set]
  by_cases e:i=j
  ·subst e;simp [hx,hi,(List.getElem?_eq_some_iff.1 hx).2]
  ·simp [e]
 rw [e];exact h2
end
end Go.Proofs.Ytpomdoliblilfaa
