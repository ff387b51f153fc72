/- Lemmas. -/
import Derived.Test.YtpomdoliblilfaaBld13
namespace Go.Proofs.Ytpomdoliblilfaa
set_option linter.unusedVariables false
set_option linter.unusedSimpArgs false
open Go.RowKit
theorem longL_pos (l:LineL):1≤longL l∧longL l≤3:=by unfold longL;split<;>omega
theorem linesLen_bd:∀ l:List LineL,0≤linesLen l∧linesLen l≤24*l.length
 | []=>by simp [linesLen]
 | x :: l=>by
  have h1:=linesLen_bd l
  have h2:=longL_pos x
  simp only [linesLen,List.length_cons]
  omega
theorem linesLen_next {l:List LineL} {k:Nat} {x:LineL} (h:l[k]? =some x):linesLen (l.take (k+1))=linesLen (l.take k)+longL x*8:=by
 rw [List.take_add_one,h,linesLen_append];simp [linesLen]
theorem startsL_snoc (f:FuncL):∀ (l:List FuncL) (a:Int),startsL a (l++[f])=startsL a l++[endL a l]
 | [],_=>rfl
 | g :: l,a=>by simp only [List.cons_append,startsL,endL,startsL_snoc f l]
theorem endL_snoc (f:FuncL):∀ (l:List FuncL) (a:Int),endL a (l++[f])=endL a l+linesLen f.lines
 | [],_=>rfl
 | g :: l,a=>by simp only [List.cons_append,endL,endL_snoc f l]
theorem startsL_len:∀ (l:List FuncL) (a:Int),(startsL a l).length=l.length
 | [],_=>rfl
 | f :: l,a=>by simp only [startsL,List.length_cons,startsL_len l]
theorem take_snocB {α:Type} {l:List α} {k:Nat} {x:α} (h:l[k]? =some x):l.take (k+1)=l.take k++[x]:=by rw [List.take_add_one,h];rfl
theorem endL_take_bd (l:List FuncL) (k:Nat):0≤endL 0 (l.take k)∧endL 0 (l.take k)≤24*(l.flatMap (·.lines)).length:=by
 rw [endL_lines]
 have h1:=linesLen_bd ((l.take k).flatMap (·.lines))
 have h2:=take_lines_len l k
 omega
def varsStep (q:List Int × Int × Int) (v:VarL):List Int × Int × Int:=
 if v.sym.kind=3 then (q.1++[q.2.2],q.2.1,q.2.2+8*v.words.length) else (q.1++[q.2.1],q.2.1+8*v.words.length,q.2.2)
theorem varsL_fold:∀ (l:List VarL) (d t:Int) (pre:List Int),l.foldl varsStep (pre,d,t)=(pre++(varsL d t l).1,(varsL d t l).2)
 | [],d,t,pre=>by simp [varsL]
 | v :: l,d,t,pre=>by
  by_cases h:v.sym.kind=3
  ·have hs:varsStep (pre,d,t) v=(pre++[t],d,t+8*v.words.length):=by unfold varsStep;rw [if_pos h]
   have e:varsL d t (v :: l)=(t :: (varsL d (t+8*v.words.length) l).1,(varsL d (t+8*v.words.length) l).2):=by rw [varsL,if_pos h]
   rw [List.foldl_cons,hs,varsL_fold l,e];simp
  ·have hs:varsStep (pre,d,t) v=(pre++[d],d+8*v.words.length,t):=by unfold varsStep;rw [if_neg h]
   have e:varsL d t (v :: l)=(d :: (varsL (d+8*v.words.length) t l).1,(varsL (d+8*v.words.length) t l).2):=by rw [varsL,if_neg h]
   rw [List.foldl_cons,hs,varsL_fold l,e];simp
theorem varsL_eq (l:List VarL) (d t:Int):varsL d t l=l.foldl varsStep ([],d,t):=by rw [varsL_fold];simp
theorem varsL_len:∀ (l:List VarL) (d t:Int),(varsL d t l).1.length=l.length
 | [],_,_=>rfl
 | v :: l,d,t=>by
  unfold varsL
  split<;>simp [varsL_len l]
theorem take_words {l:List VarL} {k:Nat} {f:VarL} (h:l[k]? =some f):(l.take (k+1)).flatMap (·.words)=(l.take k).flatMap (·.words)++f.words:=by
 rw [List.take_add_one,h,List.flatMap_append];simp
theorem take_words_len (l:List VarL) (k:Nat):((l.take k).flatMap (·.words)).length≤(l.flatMap (·.words)).length:=by
 have h:l.flatMap (·.words)=(l.take k).flatMap (·.words)++(l.drop k).flatMap (·.words):=by rw [← List.flatMap_append,List.take_append_drop]
 rw [h];simp
theorem words_le {l:List VarL} {k:Nat} {f:VarL} (h:l[k]? =some f):f.words.length≤(l.flatMap (·.words)).length:=by
 have:=take_words_len l (k+1)
 rw [take_words h]at this;simp at this ⊢;omega
theorem varsStep_len:∀ (l:List VarL) (q:List Int × Int × Int),(l.foldl varsStep q).1.length=q.1.length+l.length
 | [],q=>rfl
 | v :: l,q=>by
  rw [List.foldl_cons,varsStep_len l,List.length_cons]
  have:(varsStep q v).1.length=q.1.length+1:=by unfold varsStep;split<;>simp
  omega
theorem varsStep_mono:∀ (l:List VarL) (q:List Int × Int × Int),q.2.1≤(l.foldl varsStep q).2.1∧(l.foldl varsStep q).2.1≤q.2.1+8*(l.flatMap (·.words)).length∧q.2.2≤(l.foldl varsStep q).2.2∧(l.foldl varsStep q).2.2≤q.2.2+8*(l.flatMap (·.words)).length
 | [],q=>by simp
 | v :: l,q=>by
  have h1:=varsStep_mono l (varsStep q v)
  have h2:q.2.1≤(varsStep q v).2.1∧(varsStep q v).2.1≤q.2.1+8*v.words.length∧q.2.2≤(varsStep q v).2.2∧(varsStep q v).2.2≤q.2.2+8*v.words.length:=by unfold varsStep;split<;>simp<;>omega
  rw [List.foldl_cons,List.flatMap_cons,List.length_append]
  omega
theorem varsStep_bd (l:List VarL) (k:Nat) (D:Int):D≤((l.take k).foldl varsStep ([],D,0)).2.1∧((l.take k).foldl varsStep ([],D,0)).2.1≤D+8*(l.flatMap (·.words)).length∧0≤((l.take k).foldl varsStep ([],D,0)).2.2∧((l.take k).foldl varsStep ([],D,0)).2.2≤8*(l.flatMap (·.words)).length:=by
 have h1:=varsStep_mono (l.take k) ([],D,0)
 have h2:=take_words_len l k
 simp only at h1
 omega
theorem upL_bd {n:Int} (h0:0≤n):n≤upL n∧upL n≤n+63∧0≤upL n:=by unfold upL;omega
set_option maxHeartbeats 2000000 in
set_option maxRecDepth 100000 in
theorem up_anyB (w:World) (n:Int) (h0:0≤n) (h1:n≤1000000000):Calls Try.prog 44 #[.int .i64 n] w fun e w'=>e=.returned (.int .i64 (upL n))∧w'=w:=by
 have H:Hid (upL n=(n+64-1)/64*64):=Lib.hid (by unfold upL;rw [show n+63=n+64-1 by omega])
 rw [H.out]
 go_enter Try.func44,Try.ntmps44
 go_wp2
 go_ret
 exact⟨rfl,rfl⟩
set_option maxHeartbeats 2000000 in
set_option maxRecDepth 100000 in
theorem long_any (w:World) (l:LineL) (hl:In63 l.kind):
  Calls Try.prog 43 #[.agg #[.int .i64 l.kind,.int .i64 l.inst.op,.int .i64 l.inst.a,.int .i64 l.inst.b,.int .i64 l.inst.c,.int .i64 l.inst.imm,.int .i64 l.a,.string ⟨l.name.toArray⟩,.string ⟨l.ver.toArray⟩]] w fun e w'=>e=.returned (.int .i64 (longL l))∧Below w.heap.size w w':=by
 have HB:=Lib.hid ((Below.refl w.heap.size w).alloc (Nat.le_refl _) (.cells #[.int .i64 l.kind,.int .i64 l.inst.op,.int .i64 l.inst.a,.int .i64 l.inst.b,.int .i64 l.inst.c,.int .i64 l.inst.imm,.int .i64 l.a,.string ⟨l.name.toArray⟩,.string ⟨l.ver.toArray⟩] 77))
 by_cases h3:l.kind=3
 ·have HQ:Hid (longL l=3):=Lib.hid (by unfold longL;rw [if_pos (Or.inl h3)])
  have e3:(l.kind==3)=true:=by simp [h3]
  rw [HQ.out]
  clear h3
  go_enter Try.func43,Try.ntmps43
  go_wp2
  go_ret
  exact⟨rfl,HB.out⟩
 by_cases h4:l.kind=4
 ·have HQ:Hid (longL l=3):=Lib.hid (by unfold longL;rw [if_pos (Or.inr h4)])
  have e3:(l.kind==3)=false:=by simp [h3]
  have e4:(l.kind==4)=true:=by simp [h4]
  rw [HQ.out]
  clear h3 h4
  go_enter Try.func43,Try.ntmps43
  go_wp2
  go_ret
  exact⟨rfl,HB.out⟩
 ·have HQ:Hid (longL l=1):=Lib.hid (by unfold longL;rw [if_neg (by omega)])
  have e3:(l.kind==3)=false:=by simp [h3]
  have e4:(l.kind==4)=false:=by simp [h4]
  rw [HQ.out]
  clear h3 h4
  go_enter Try.func43,Try.ntmps43
  go_wp2
  go_ret
  exact⟨rfl,HB.out⟩
structure LayN where
 stubs:Int
 got:Int
 plt:Int
 text:Int
 data:Int
 tls:Int
def layCells (pb:Nat) (fv vv:Value) (y:LayN):List Value:=[.pointer (some ⟨pb,0,none⟩),fv,vv,.int .i64 y.stubs,.int .i64 y.got,.int .i64 y.plt,.int .i64 0,.int .i64 y.text,.int .i64 y.data,.int .i64 y.tls]
structure LayM (pb lb:Nat) (w0 w:World) (fv vv:Value) (fs vs:List Int) (y:LayN):Prop where
 ex:w.heap[lb]? =some (.cells (layCells pb fv vv y).toArray 83 (0,0))
 funcs:OwnK 3 kInt (lb+1) (fun b=>vv.ownBlock=some b) w fv fs
 vars:OwnK 3 kInt (lb+1) (fun b=>fv.ownBlock=some b) w vv vs
 below:Below lb w0 w
theorem LayM.lt {pb lb:Nat} {w0 w:World} {fv vv:Value} {fs vs:List Int} {y:LayN} (h:LayM pb lb w0 w fv vv fs vs y):lb<w.heap.size:=by
 rcases Nat.lt_or_ge lb w.heap.size with h' | h'
 ·exact h'
 ·have:=h.ex;rw [Array.getElem?_eq_none h']at this;cases this
theorem LayM.step {pb lb:Nat} {w0 w w':World} {fv vv:Value} {fs vs:List Int} {y:LayN} (h:LayM pb lb w0 w fv vv fs vs y) (hb:Below w.heap.size w w'):LayM pb lb w0 w' fv vv fs vs y:=
 ⟨(hb.block lb h.lt).trans h.ex,h.funcs.below hb,h.vars.below hb,h.below.trans (hb.mono (Nat.le_of_lt h.lt))⟩
theorem LayM.cell {pb lb:Nat} {w0 w:World} {fv vv:Value} {fs vs:List Int} {y:LayN} (h:LayM pb lb w0 w fv vv fs vs y) (i:Nat) (u:Value) (hu:(layCells pb fv vv y)[i]? =some u):w.cell? ⟨lb,i,none⟩=some u:=by
 rw [Lib.cell_of_heap h.ex];simpa using hu
theorem LayM.frozen {pb lb:Nat} {w0 w:World} {fv vv:Value} {fs vs:List Int} {y:LayN} (h:LayM pb lb w0 w fv vv fs vs y) (i:Nat):w.frozen? ⟨lb,i,none⟩=false:=Lib.frozen_of_heap h.ex i
theorem LayM.num {pb lb:Nat} {w0 w:World} {fv vv:Value} {fs vs:List Int} {y:LayN} (h:LayM pb lb w0 w fv vv fs vs y) (i:Nat) (n:Int) (y':LayN) (hy:(layCells pb fv vv y).set i (.int .i64 n)=layCells pb fv vv y'):LayM pb lb w0 (w.setCell ⟨lb,i,none⟩ (.int .i64 n)) fv vv fs vs y':=by
 have hs:Step (fun b=>b≠lb) w (w.setCell ⟨lb,i,none⟩ (.int .i64 n)):=(Step.refl _ w).setCell (fun h=>h rfl) _
 refine⟨by rw [← hy];exact setCell_list h.ex i _,?_,?_,h.below.setCell (Nat.le_refl _) _⟩
 ·exact h.funcs.plain_keep plain_int (fun g hg=>hs.block g (by have:=(h.funcs.lt g hg).1;omega))
 ·exact h.vars.plain_keep plain_int (fun g hg=>hs.block g (by have:=(h.vars.lt g hg).1;omega))
theorem LayM.putF {pb lb:Nat} {w0 w w1:World} {fv vv u:Value} {fs vs fs':List Int} {y:LayN} (h:LayM pb lb w0 w fv vv fs vs y) (hst:Step (fun b=>b<w.heap.size∧fv.ownBlock≠some b) w w1) (hown:OwnK 3 kInt (lb+1) (fun b=>b<w.heap.size∧¬ fv.ownBlock=some b) w1 u fs'):LayM pb lb w0 (w1.setCell ⟨lb,1,none⟩ u) u vv fs' vs y:=by
 have hlt:=h.lt
 have hnf:fv.ownBlock≠some lb:=fun e=>by have:=(h.funcs.lt lb e).1;omega
 have hs:Step (fun b=>b≠lb) w1 (w1.setCell ⟨lb,1,none⟩ u):=(Step.refl _ w1).setCell (fun h=>h rfl) _
 have hdis:∀ g,u.ownBlock=some g→vv.ownBlock≠some g:=fun g hg e=>by
  have h1:=h.vars.lt g e
  exact hown.notE g hg ⟨h1.2,fun e2=>h.vars.notE g e e2⟩
 refine⟨setCell_list ((hst.block lb ⟨hlt,hnf⟩).trans h.ex) 1 u,?_,?_,?_⟩
 ·exact(hown.reE flat_int (fun g hg e=>hdis g hg e)).plain_keep plain_int (fun g hg=>hs.block g (by have:=(hown.lt g hg).1;omega))
 ·exact((h.vars.plain_keep plain_int (fun g hg=>hst.block g ⟨(h.vars.lt g hg).2,fun e=>h.vars.notE g hg e⟩)).reE flat_int (fun g hg e=>hdis g e hg)).plain_keep plain_int (fun g hg=>hs.block g (by have:=(h.vars.lt g hg).1;omega))
 ·exact(h.below.trans ((hst.imp (S':=(·<lb)) (fun b hb=>⟨by have hb:b<lb:=hb;omega,fun e=>by have:=(h.funcs.lt b e).1;have hb:b<lb:=hb;omega⟩)).below)).setCell (Nat.le_refl _) _
theorem LayM.putV {pb lb:Nat} {w0 w w1:World} {fv vv u:Value} {fs vs vs':List Int} {y:LayN} (h:LayM pb lb w0 w fv vv fs vs y) (hst:Step (fun b=>b<w.heap.size∧vv.ownBlock≠some b) w w1) (hown:OwnK 3 kInt (lb+1) (fun b=>b<w.heap.size∧¬ vv.ownBlock=some b) w1 u vs'):LayM pb lb w0 (w1.setCell ⟨lb,2,none⟩ u) fv u fs vs' y:=by
 have hlt:=h.lt
 have hnf:vv.ownBlock≠some lb:=fun e=>by have:=(h.vars.lt lb e).1;omega
 have hs:Step (fun b=>b≠lb) w1 (w1.setCell ⟨lb,2,none⟩ u):=(Step.refl _ w1).setCell (fun h=>h rfl) _
 have hdis:∀ g,u.ownBlock=some g→fv.ownBlock≠some g:=fun g hg e=>by
  have h1:=h.funcs.lt g e
  exact hown.notE g hg ⟨h1.2,fun e2=>h.funcs.notE g e e2⟩
 refine⟨setCell_list ((hst.block lb ⟨hlt,hnf⟩).trans h.ex) 2 u,?_,?_,?_⟩
 ·exact((h.funcs.plain_keep plain_int (fun g hg=>hst.block g ⟨(h.funcs.lt g hg).2,fun e=>h.funcs.notE g hg e⟩)).reE flat_int (fun g hg e=>hdis g e hg)).plain_keep plain_int (fun g hg=>hs.block g (by have:=(h.funcs.lt g hg).1;omega))
 ·exact(hown.reE flat_int (fun g hg e=>hdis g hg e)).plain_keep plain_int (fun g hg=>hs.block g (by have:=(hown.lt g hg).1;omega))
 ·exact(h.below.trans ((hst.imp (S':=(·<lb)) (fun b hb=>⟨by have hb:b<lb:=hb;omega,fun e=>by have:=(h.vars.lt b e).1;have hb:b<lb:=hb;omega⟩)).below)).setCell (Nat.le_refl _) _
end Go.Proofs.Ytpomdoliblilfaa
