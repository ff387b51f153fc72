/- Lemmas. -/
import Derived.Test.YtpomdoliblilfaaBld20
namespace Go.Proofs.Ytpomdoliblilfaa
set_option linter.unusedVariables false
set_option linter.unusedSimpArgs false
open Go.RowKit
structure RowK {α:Type} (K:Kind α) (f:α→List Value) (P:α→Prop):Prop where
 cells_of:∀ {S w x r},K.R S w x r→r=f x∧P x
 made:∀ S w x,P x→K.R S w x (f x)
 len:∀ x,(f x).length=K.k
 pos:0<K.k
 cell:∀ x,∀ u∈f x,u.oneCell'=true
theorem row_inst:RowK kInst instCells InstOk:=⟨fun h=>h,fun _ _ _ h=>⟨rfl,h⟩,fun _=>rfl,by decide,fun x u hu=>by
 simp only [instCells,List.mem_cons,List.not_mem_nil,or_false]at hu
 rcases hu with rfl | rfl | rfl | rfl | rfl<;>rfl⟩
theorem flat_get' {α:Type} (f:α→List Value) (k:Nat) (hf:∀ x,(f x).length=k):∀ (l:List α) (j:Nat) (u:Value),(l.flatMap f)[j]? =some u→∃ i x r,l[i]? =some x∧(f x)[r]? =some u∧j=i*k+r
 | [],j,u,h=>by simp at h
 | z :: l,j,u,h=>by
  rw [List.flatMap_cons]at h
  rcases Nat.lt_or_ge j (f z).length with hj | hj
  ·rw [List.getElem?_append_left hj]at h
   exact⟨0,z,j,rfl,h,by simp⟩
  ·rw [List.getElem?_append_right hj]at h
   obtain⟨i,x,r,h1,h2,h3⟩:=flat_get' f k hf l _ u h
   refine⟨i+1,x,r,h1,h2,?_⟩
   rw [hf z]at hj h3
   rw [Nat.add_mul,Nat.one_mul];omega
theorem RowsOf.of_row {α:Type} {K:Kind α} {f:α→List Value} {P:α→Prop} (hr:RowK K f P) (S:Nat→Prop) (w:World):∀ l:List α,(∀ x∈l,P x)→RowsOf K S w l (l.flatMap f)
 | [],_=>rfl
 | x :: l,h=>⟨f x,l.flatMap f,rfl,hr.made S w x (h x (List.mem_cons_self ..)),RowsOf.of_row hr S w l (fun y hy=>h y (List.mem_cons_of_mem _ hy))⟩
theorem flat_len {α:Type} (f:α→List Value) (k:Nat) (hf:∀ x,(f x).length=k):∀ l:List α,(l.flatMap f).length=l.length*k
 | []=>by simp
 | x :: l=>by rw [List.flatMap_cons,List.length_append,hf,flat_len f k hf l,List.length_cons,Nat.add_mul,Nat.one_mul];omega
section
variable {α : Type} {e : TypeId} {K : Kind α} {f : α → List Value} {P : α → Prop} {B : Nat} {E : Nat → Prop} {w w' : World} {v : Value} {l : List α}
theorem wpList_appendsR {ops:Array Oper} {rest:List Oper} {o:Oper} {a:Act} {Q:Exit→Act→World→Prop} (hp:RowK K f P) (t:TypeId) (z:Value) (bytes:Nat) (ht:Try.prog.underlying t=some (.slice e)) (hinfo:(Try.prog.info? e).map (fun i=>(i.zero,i.size,i.bytes))=some (some z,K.k,bytes))
  (hzs:z.cells.size=K.k) (hgd:o.guard=none) (s x:Operand)
  (ho:o.op=.call {callee:=.builtin .append,args:=#[s,x],argTypes:=#[t,t]})
  (hs:a.eval s=v) (hown:OwnK e K B E w v l) (hE:∀ b,E b→b<w.heap.size) {S:Nat→Prop} (u:Value) (m:List α) (hx:a.eval x=u) (hu:LB K S w u m)
  (hlen:(l.length+m.length)*bytes≤140737488355328) (hl63:l.length+m.length≤9223372036854775807) (hB:B≤w.heap.size)
  (h:∀ v' w',OwnK e K B E w' v' (l++m)→Step (fun b=>b<w.heap.size∧v.ownBlock≠some b) w w'→(∀ b,v'.ownBlock=some b→v.ownBlock=some b∨w.heap.size≤b)→wpList Try.prog ops Q rest (a.put o.dst v') w'):wpList Try.prog ops Q (o :: rest) a w:=by
 obtain⟨i0,hi,hz0,hz1,hz2⟩:=info_parts hinfo
 obtain⟨xs,h1,h2,h3⟩:=hown
 have hlt:=World.ownsRow.lt h1
 obtain⟨ua,ub,uoff,ucap,hv,hm,ha,hcap,hS,hc⟩:=hu
 cases ua with
 | none=>
  have hm0:m=[]:=by
   cases m with
   | nil=>rfl
   | cons y m=>exact absurd (ha (by simp)) (by simp)
  subst hm0
  have hc0:=hcap.2 rfl
  subst hc0
  refine wpList_append_own_none hgd s x t ho B e i0 K.k ht hi v l.length xs hs h1 (hx.trans hv) ?_
  exact h v w (by rw [List.append_nil];exact⟨xs,h1,h2,h3⟩) (Step.refl _ _) (fun b h=>Or.inl h)
 | some ad=>
  have hPm:∀ y∈m,P y:=fun y hy=>by
   obtain⟨i,hi⟩:=List.getElem?_of_mem hy
   obtain⟨row,r1,_⟩:=hc i y hi
   exact(hp.cells_of r1).2
  refine wpList_append_own_at w hgd s x t ho B e i0 z K.k bytes ht hi hz0 hz1 hz2 hzs hp.pos v l.length xs hs h1 ad m.length ucap (m.flatMap f) (hx.trans hv) (flat_len f K.k hp.len m) ?_ ?_ (by unfold maxLen;omega) hlen hB ?_
  ·intro j u hj
   obtain⟨i,y,r,g1,g2,rfl⟩:=flat_get' f K.k hp.len m j u hj
   have hml:0<m.length:=by have:=(List.getElem?_eq_some_iff.1 g1).1;omega
   obtain rfl:ad=⟨ub,uoff,none⟩:=by have:=ha hml;simpa using this
   obtain⟨row,r1,r2⟩:=hc i y g1
   have:=r2 r u (by rw [(hp.cells_of r1).1];exact g2)
   simpa [Addr.add_lit,Nat.add_assoc] using this
  ·intro u hu
   obtain⟨y,_,hy⟩:=List.mem_flatMap.1 hu
   exact hp.cell y u hy
  ·intro v' w' g1 g2 _ g4
   have hst:Step (fun b=>b<w.heap.size∧v.ownBlock≠some b) w w':=Step.of_grown g2 (fun b hb=>⟨hb.1,hb.2⟩)
   have hor:∀ b,v'.ownBlock=some b→v.ownBlock=some b∨w.heap.size≤b:=fun b hb=>by
    rcases g4 with h' | h'
    ·left;rw [← h'];exact hb
    ·right;rw [h']at hb;have:=(Option.some.inj hb).symm;omega
   have hfl:FlatK K:=fun _ _ _ _ x r h=>by obtain⟨h1,h2⟩:=hp.cells_of h;rw [h1];exact hp.made _ _ _ h2
   refine h v' w' ⟨xs++m.flatMap f,by rw [List.length_append];exact g1,?_,?_⟩ hst hor
   ·exact(h2.flat hfl).app (RowsOf.of_row hp _ _ m hPm)
   ·intro g hg hEg
    rcases hor g hg with h' | h'
    ·exact h3 g h' hEg
    ·have:=hE _ hEg;omega
end
theorem info_inst:(Try.prog.info? 65).map (fun i=>(i.zero,i.size,i.bytes))=some (some (.agg #[.int .i64 0,.int .i64 0,.int .i64 0,.int .i64 0,.int .i64 0]),5,40):=by kernel_rfl
end Go.Proofs.Ytpomdoliblilfaa
