/- Lemmas. -/
import Derived.StillTail
import Derived.KernelRfl
import Derived.Test.YtfchpchabdhcgaaGreatChecked
set_option linter.unusedVariables false
set_option linter.unusedSimpArgs false
set_option maxHeartbeats 64000000
set_option maxRecDepth 100000
namespace Go.Proofs.YtfchpchabdhcgaaGreat
section
variable {P : Program}
def phaseB (md:Region.Mode) (ops:Array Oper) (n:Nat):Bool:=
 decide (n≤ops.size)&&
 ((List.range n).all fun i=>match ops[i]? with
  | some o=>(o.after.all fun e=> !Region.binds md e||decide (e.on<i))&&(match o.guard with | some (g,_)=>decide (g<n) | none=>true)
  | none=>false)&&
 ((List.range ops.size).all fun t=>decide (t<n)||(List.range n).all fun i=>Region.waitsFor md ops t i)&&
 Region.seqB md ops (ops.size-n) n (Array.replicate n true++Array.replicate (ops.size-n) false)
def phaseQ (P:Program) (ops:Array Oper) (tail:List Oper) (Q:Exit→Act→World→Prop):Exit→Act→World→Prop
 | .normal,a,w=>wpList P ops Q tail a w
 | .exit i,a,w=>Q (.exit i) a w
 | .goto l,a,w=>Q (.goto l) a w
 | .ret,a,w=>Q .ret a w
 | .panic c,a,w=>Q (.panic c) a w
 | .outgrown,a,w=>Q .outgrown a w
theorem wpAny_more {md:Region.Mode} {ops:Array Oper} {Q:Exit→Act→World→Prop}:∀ (f:Nat) (listed:Array Bool) (a:Act) (w:World),wpAny P md ops Q f listed a w→wpAny P md ops Q (f+1) listed a w
 | 0,_,_,_,h=>⟨fun _=>h.2,fun i hi=>by rw [h.1]at hi;cases hi⟩
 | f+1,_,_,_,h=>⟨h.1,fun i hi=>wpOp_mono (fun a' w' h'=>wpAny_more f _ a' w' h') (h.2 i hi)⟩
theorem wpAny_add {md:Region.Mode} {ops:Array Oper} {Q:Exit→Act→World→Prop} (f:Nat) (listed:Array Bool) (a:Act) (w:World) (h:wpAny P md ops Q f listed a w):∀ m,wpAny P md ops Q (f+m) listed a w
 | 0=>h
 | m+1=>wpAny_more _ _ _ _ (wpAny_add f listed a w h m)
theorem phaseQ_wp {o:Oper} {ops:Array Oper} {tail:List Oper} {Q:Exit→Act→World→Prop} {a:Act} {w:World} {K:Act→World→Prop} (h:o.wp P a w K (phaseQ P ops tail Q)):o.wp P a w K Q:=by
 unfold Oper.wp at *
 generalize (execOp a.eval o).run P w=r at *
 cases r with
 | ok n w'=>
  cases n<;>simp only [Oper.upon]at h ⊢<;>
   first
    | exact h
    | exact Calls.mono h (fun e w'' he=>by cases e<;>exact he)
    | exact Rows.mono h (fun _ _ he=>he)
 | halt x w'=>cases x<;>simp only [Oper.upon]at h ⊢<;>exact h
theorem yielded_take (l:List Oper) (n g:Nat) (tmps:Array Value) (h:g<n):yielded (l.take n).toArray tmps g=yielded l.toArray tmps g:=by
 unfold yielded
 simp [List.getElem?_take,h]
theorem waitsFor_after {md:Region.Mode} {ops:Array Oper} {t i:Nat} {o:Oper} (ho:ops[t]? =some o) (h:Region.waitsFor md ops t i=true):∃ e∈o.after,Region.binds md e=true∧e.on=i:=by
 obtain⟨oj,h1,h2⟩:=Region.waitsFor_spec h
 rw [ho]at h1
 cases h1
 exact h2
theorem getD_app (L:Array Bool) (m i:Nat) (h:i<L.size) (d:Bool):(L++Array.replicate m false).getD i d=L.getD i d:=by
 simp [Array.getD,Array.getElem_append,h,Nat.lt_add_right m h]
theorem getD_any (L:Array Bool) (i:Nat) (h:i<L.size) (d e:Bool):L.getD i d=L.getD i e:=by
 simp [Array.getD,h]
theorem wpAny_phase {md:Region.Mode} {l:List Oper} {Q:Exit→Act→World→Prop} (n:Nat) (hB:phaseB md l.toArray n=true):
  ∀ (f:Nat) (listed:Array Bool) (a:Act) (w:World),listed.size=n→
   wpAny P md (l.take n).toArray (phaseQ P l.toArray (l.drop n) Q) f listed a w→
   wpAny P md l.toArray Q (f+(l.length-n)) (listed++Array.replicate (l.length-n) false) a w:=by
 simp only [phaseB,Bool.and_eq_true,decide_eq_true_eq]at hB
 obtain⟨⟨⟨hn,hhead⟩,htail⟩,hseq⟩:=hB
 have hn':n≤l.length:=by simpa using hn
 have hh:∀ i,i<n→∃ o,l[i]? =some o∧(∀ e∈o.after,Region.binds md e=true→e.on<i)∧(∀ g b,o.guard=some (g,b)→g<n):=fun i hi=>by
  have:=(List.all_eq_true.1 hhead) i (List.mem_range.2 hi)
  have hil:i<l.length:=by omega
  rw [List.getElem?_toArray,List.getElem?_eq_getElem hil]at this
  refine⟨_,List.getElem?_eq_getElem hil,?_,?_⟩
  ·simp only [Bool.and_eq_true]at this
   intro e he hb
   have h1:=Array.all_eq_true'.1 this.1 e he
   simpa [hb] using h1
  ·simp only [Bool.and_eq_true]at this
   intro g b hg
   rw [hg]at this
   simpa using this.2
 have ht:∀ t,n≤t→t<l.length→∀ i,i<n→Region.waitsFor md l.toArray t i=true:=fun t h1 h2 i hi=>by
  have:=(List.all_eq_true.1 htail) t (List.mem_range.2 (by simpa using h2))
  simp only [Bool.or_eq_true,decide_eq_true_eq]at this
  rcases this with h | h
  ·omega
  ·exact(List.all_eq_true.1 h) i (List.mem_range.2 hi)
 have ready_head:∀ listed:Array Bool,listed.size=n→∀ i,i∈Region.ready md l.toArray (listed++Array.replicate (l.length-n) false)→(∃ k,k<n∧listed.getD k false=false)→
   i∈Region.ready md (l.take n).toArray listed:=fun listed hs i hi hex=>by
  obtain⟨h1,o,ho,hall⟩:=mem_ready.1 hi
  obtain⟨k,hk,hkf⟩:=hex
  have hil:i<l.length:=by
   have:=(Array.getElem?_eq_some_iff.1 ho).1
   simpa using this
  rcases Nat.lt_or_ge i n with hin | hin
  ·refine mem_ready.2 ⟨?_,o,?_,?_⟩
   ·rwa [getD_app _ _ _ (by omega)]at h1
   ·simpa [List.getElem?_take,hin] using ho
   ·intro e he hb
    have h2:=hall e he hb
    obtain⟨o',ho',hb',_⟩:=hh i hin
    have:o=o':=by
     have:l.toArray[i]? =some o':=by simpa using ho'
     rw [ho]at this;exact Option.some.inj this
    subst this
    have h3:=hb' e he hb
    rwa [getD_app _ _ _ (by omega)]at h2
  ·exfalso
   obtain⟨e,he,hb,hon⟩:=waitsFor_after ho (ht i hin hil k hk)
   have h2:=hall e he hb
   rw [hon]at h2
   rw [getD_app _ _ _ (by omega),hkf]at h2
   cases h2
 have all_listed:∀ listed:Array Bool,listed.size=n→Region.ready md (l.take n).toArray listed=[]→∀ k,k<n→listed.getD k false=true:=fun listed hs hr k=>by
  induction k using Nat.strongRecOn with
  | _ k ih=>
   intro hk
   rcases hc:listed.getD k false with _ | _
   ·exfalso
    obtain⟨o,ho,hb,_⟩:=hh k hk
    have:k∈Region.ready md (l.take n).toArray listed:=by
     refine mem_ready.2 ⟨?_,o,?_,fun e he hbd=>ih e.on (hb e he hbd) (by have:=hb e he hbd;omega)⟩
     ·rw [getD_any _ _ (by omega) true false];exact hc
     ·simpa [List.getElem?_take,hk] using ho
    rw [hr]at this
    cases this
   ·rfl
 have finish:∀ (listed:Array Bool) (a:Act) (w:World),listed.size=n→Region.ready md (l.take n).toArray listed=[]→wpList P l.toArray Q (l.drop n) a w→
   wpAny P md l.toArray Q (l.length-n) (listed++Array.replicate (l.length-n) false) a w:=fun listed a w hs hr h=>by
  have e:listed=Array.replicate n true:=by
   apply Array.ext
   ·simp [hs]
   ·intro i h1 h2
    have:=all_listed listed hs hr i (by omega)
    rw [Array.getD,dif_pos h1]at this
    simpa using this
  rw [e]
  have:=wpAny_of_seq (P:=P) (md:=md) (ops:=l.toArray) (Q':=Q) (l.drop n) n (Array.replicate n true++Array.replicate (l.length-n) false) a w (fun j=>by simp [List.getElem?_drop]) (by simpa using hseq) h
  simpa using this
 intro f
 induction f with
 | zero=>
  intro listed a w hs h
  rw [Nat.zero_add]
  exact finish listed a w hs h.1 h.2
 | succ f ih=>
  intro listed a w hs h
  by_cases hr:Region.ready md (l.take n).toArray listed=[]
  ·have:=wpAny_add _ _ _ _ (finish listed a w hs hr (h.1 hr)) (f+1)
   rwa [Nat.add_comm]at this
  ·have hex:∃ k,k<n∧listed.getD k false=false:=by
    obtain⟨k,hk⟩:=List.exists_mem_of_ne_nil _ hr
    obtain⟨h1,o,ho,_⟩:=mem_ready.1 hk
    have hkn:k<n:=by
     have:=(Array.getElem?_eq_some_iff.1 ho).1
     simp at this;omega
    refine⟨k,hkn,?_⟩
    rw [getD_any _ _ (by omega) false true];exact h1
   rw [show f+1+(l.length-n)=(f+(l.length-n))+1 by omega]
   refine⟨fun h0=> ?_,fun i hi=> ?_⟩
   ·exfalso
    obtain⟨k,hk⟩:=List.exists_mem_of_ne_nil _ hr
    obtain⟨h1,o,ho,hall⟩:=mem_ready.1 hk
    have hkn:k<n:=by
     have:=(Array.getElem?_eq_some_iff.1 ho).1
     simp at this;omega
    have:k∈Region.ready md l.toArray (listed++Array.replicate (l.length-n) false):=by
     refine mem_ready.2 ⟨?_,o,?_,fun e he hb=> ?_⟩
     ·rwa [getD_app _ _ _ (by omega)]
     ·simpa [List.getElem?_take,hkn] using ho
     ·have h2:=hall e he hb
      obtain⟨o',ho',hb',_⟩:=hh k hkn
      have:o=o':=by
       have h3:l[k]? =some o:=by simpa [List.getElem?_take,hkn] using ho
       rw [h3]at ho';exact Option.some.inj ho'
      subst this
      have h3:=hb' e he hb
      rwa [getD_app _ _ _ (by omega)]
    rw [h0]at this
    cases this
   ·have hir:=ready_head listed hs i hi hex
    have hstep:=h.2 i hir
    have hin:i<n:=by
     obtain⟨_,o,ho,_⟩:=mem_ready.1 hir
     have:=(Array.getElem?_eq_some_iff.1 ho).1
     simp at this;omega
    obtain⟨o,ho,_,hg⟩:=hh i hin
    have ho1:l.toArray[i]? =some o:=by simpa using ho
    have ho2:(l.take n).toArray[i]? =some o:=by simpa [List.getElem?_take,hin] using ho
    have hset:(listed++Array.replicate (l.length-n) false).setIfInBounds i true=listed.setIfInBounds i true++Array.replicate (l.length-n) false:=by
     apply Array.ext_getElem?
     intro j
     by_cases hji:i=j
     ·subst hji
      rw [Array.getElem?_setIfInBounds_self_of_lt (by simp;omega),Array.getElem?_append_left (by simp;omega),Array.getElem?_setIfInBounds_self_of_lt (by omega)]
     ·rw [Array.getElem?_setIfInBounds_ne hji]
      rcases Nat.lt_or_ge j listed.size with h1 | h1
      ·rw [Array.getElem?_append_left h1,Array.getElem?_append_left (by simpa using h1),Array.getElem?_setIfInBounds_ne hji]
      ·rw [Array.getElem?_append_right h1,Array.getElem?_append_right (by simpa using h1),Array.size_setIfInBounds]
    have hw:Region.wanted o (yielded (l.take n).toArray a.tmps)=Region.wanted o (yielded l.toArray a.tmps):=by
     unfold Region.wanted
     cases hgd:o.guard with
     | none=>rfl
     | some q=>simp only [yielded_take l n q.1 a.tmps (hg q.1 q.2 hgd)]
    unfold wpOp at hstep ⊢
    simp only [ho1,ho2]at hstep ⊢
    rw [hset]
    rw [hw]at hstep
    split
    ·rename_i hwt
     simp only [hwt,if_true]at hstep
     rcases hstep with hstep | ⟨h1,h2⟩
     ·exact .inl (phaseQ_wp (Oper.wp_mono (fun a' w' h'=>ih _ a' w' (by simpa using hs) h') hstep))
     ·exact .inr ⟨h1,by obtain⟨a',w',h'⟩:=h2;exact⟨a',w',h'⟩⟩
    ·rename_i hwt
     simp only [hwt]at hstep
     exact ih _ _ _ (by simpa using hs) hstep
theorem wp_region_phase {id:Nat} {Q:Exit→Act→World→Prop} {a:Act} {w:World} {l:List Oper} (n:Nat) (hm:P.follows .mixedOrders=true) (hB:phaseB .any l.toArray n=true)
  (h:wpAny P .any (l.take n).toArray (phaseQ P l.toArray (l.drop n) Q) n (Array.replicate n false) a {w with drawn:=w.drawn+1 }):(Code.region id l.toArray true).wp P Q a w:=by
 have hn:n≤l.length:=by
  simp only [phaseB,Bool.and_eq_true,decide_eq_true_eq]at hB
  simpa using hB.1.1.1
 refine wp_region_any hm ?_
 have:=wpAny_phase n hB n (Array.replicate n false) a _ (by simp) h
 have e:Array.replicate n false++Array.replicate (l.length-n) false=Array.replicate l.toArray.size false:=by
  simp [Array.replicate_append_replicate,Nat.add_sub_cancel' hn]
 rw [e,Nat.add_sub_cancel' hn]at this
 simpa using this
end
end Go.Proofs.YtfchpchabdhcgaaGreat
