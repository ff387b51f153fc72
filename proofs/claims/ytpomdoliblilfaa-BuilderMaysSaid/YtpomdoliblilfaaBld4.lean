/- Lemmas. -/
import Derived.Test.YtpomdoliblilfaaBld1
import Derived.BigQuiet
import Derived.Below
import Derived.KernelRfl
import Derived.Test.YtpomdoliblilfaaChecked
import Derived.StillTail
import Derived.Laws.AppendOwnNone
import Derived.Maps.AppendAt
import Derived.Deep.RegionHeld
import Derived.Deep.QuietTactic
import Derived.Deep.RegionHeld3
import Derived.Lib.Bytealg
import Derived.Laws.Externs
import Derived.Deep.DeepCutAuto
import Derived.Deep.CutBlock
import Derived.Lib.SlBytesConst
namespace Go.Proofs.Ytpomdoliblilfaa
set_option linter.unusedVariables false
set_option linter.unusedSimpArgs false
theorem sum_add (l:List Nat) (f g:Nat→Nat):(l.map fun k=>f k+g k).sum=(l.map f).sum+(l.map g).sum:=by
 induction l with
 | nil=>rfl
 | cons a l ih=>simp only [List.map_cons,List.sum_cons,ih];omega
theorem sum_zero (l:List Nat):(l.map fun _=>(0:Nat)).sum=0:=by
 induction l with
 | nil=>rfl
 | cons a l ih=>simp only [List.map_cons,List.sum_cons,ih]
theorem sum_congr (l:List Nat) (f g:Nat→Nat) (h:∀ k∈l,f k=g k):(l.map f).sum=(l.map g).sum:=by
 rw [List.map_congr_left h]
section
variable (home : Nat → Nat)
def atHome (S:List Nat) (b:Nat) (i:Int):Bool:=S.any fun k=>decide (i=(k:Int))&&decide (home k=b)
def onceAt (S:List Nat) (b:Nat) (c:List Int):Nat:=(S.map fun k=>if home k=b then c.count (k:Int) else 0).sum
theorem atHome_sum (S:List Nat) (hS:S.Nodup) (b:Nat) (i:Int):(if atHome home S b i then 1 else 0)=(S.map fun k=>if home k=b then (if i=(k:Int) then 1 else 0) else 0).sum:=by
 induction S with
 | nil=>rfl
 | cons k S ih=>
  obtain⟨hk,hS'⟩:=List.nodup_cons.1 hS
  simp only [List.map_cons,List.sum_cons]
  rw [← ih hS']
  by_cases h1:i=(k:Int)
  ·have h2:atHome home S b i=false:=by
    rw [atHome,List.any_eq_false]
    intro x hx
    have:x≠k:=fun e=>hk (e ▸ hx)
    simp;omega
   by_cases h3:home k=b<;>simp [atHome,h1,h3]at h2 ⊢<;>simpa using h2
  ·by_cases h3:home k=b<;>simp [atHome,h1,h3]
theorem countP_home (S:List Nat) (hS:S.Nodup) (b:Nat) (c:List Int):c.countP (atHome home S b)=onceAt home S b c:=by
 induction c with
 | nil=>simp [onceAt,sum_zero]
 | cons i c ih=>
  rw [List.countP_cons,ih]
  have:onceAt home S b (i :: c)=onceAt home S b c+(S.map fun k=>if home k=b then (if i=(k:Int) then 1 else 0) else 0).sum:=by
   unfold onceAt
   rw [← sum_add]
   apply sum_congr
   intro k _
   rw [List.count_cons]
   by_cases h3:home k=b<;>simp [h3]
  rw [this,← atHome_sum home S hS]
def homes (S:List Nat):Nat→List (List Int)→Nat
 | _,[]=>0
 | b,c :: l=>c.countP (atHome home S b)+homes S (b+1) l
theorem homes_sum (S:List Nat) (hS:S.Nodup):∀ (bs:List (List Int)) (b:Nat),homes home S b bs=(S.map fun k=>if home k<b then 0 else (bs.getD (home k-b) []).count (k:Int)).sum
 | [],b=>by
  refine(sum_zero S).symm.trans (sum_congr S _ _ (fun k _=> ?_))
  by_cases h:home k<b<;>simp [h]
 | c :: l,b=>by
  rw [homes,homes_sum S hS l (b+1),countP_home home S hS,onceAt,← sum_add]
  apply sum_congr
  intro k _
  by_cases h:home k<b
  ·simp [h,show home k<b+1 by omega,show home k≠b by omega]
  ·by_cases h2:home k=b
   ·simp [h2]
   ·have:home k-b=(home k-(b+1))+1:=by omega
    simp [h,h2,show ¬ home k<b+1 by omega,this]
theorem homes_le (S:List Nat):∀ (bs:List (List Int)) (b:Nat),homes home S b bs≤(bs.map List.length).sum
 | [],_=>Nat.le_refl _
 | c :: l,b=>by
  have:=homes_le S l (b+1)
  have h2:=List.countP_le_length (p:=atHome home S b) (l:=c)
  simp only [homes,List.map_cons,List.sum_cons];omega
theorem homes_all (S:List Nat):∀ (bs:List (List Int)) (b:Nat),homes home S b bs=(bs.map List.length).sum↔∀ j c,bs[j]? =some c→∀ i∈c,atHome home S (b+j) i=true
 | [],_=>by simp [homes]
 | c :: l,b=>by
  have h1:=homes_le home S l (b+1)
  have h2:=List.countP_le_length (p:=atHome home S b) (l:=c)
  have ih:=homes_all S l (b+1)
  have h3:=List.countP_eq_length (p:=atHome home S b) (l:=c)
  simp only [homes,List.map_cons,List.sum_cons]
  constructor
  ·intro h j d hj
   cases j with
   | zero=>simp at hj;subst hj;exact h3.1 (by omega)
   | succ j=>
    have:=ih.1 (by omega) j d (by simpa using hj)
    rwa [show b+1+j=b+(j+1) by omega]at this
  ·intro h
   have a1:=h3.2 (fun i hi=>by simpa using h 0 c (by simp) i hi)
   have a2:=ih.2 (fun j d hj=>by have:=h (j+1) d (by simpa using hj);rwa [show b+(j+1)=b+1+j by omega]at this)
   omega
theorem sum_ones (S:List Nat) (f:Nat→Nat) (h:∀ k∈S,f k≤1):(S.map f).sum=S.length↔∀ k∈S,f k=1:=by
 induction S with
 | nil=>simp
 | cons a S ih=>
  have h1:=h a (by simp)
  have hle:(S.map f).sum≤S.length:=by
   clear ih
   have h':∀ k∈S,f k≤1:=fun k hk=>h k (by simp [hk])
   clear h
   induction S with
   | nil=>simp
   | cons b S ih2=>
    have:=h' b (by simp)
    have:=ih2 (fun k hk=>h' k (by simp [hk]))
    simp only [List.map_cons,List.sum_cons,List.length_cons];omega
  have ih':=ih (fun k hk=>h k (by simp [hk]))
  simp only [List.map_cons,List.sum_cons,List.length_cons,List.mem_cons,forall_eq_or_imp]
  rw [← ih'];omega
theorem count_le_one (c:List Int) (h:c.Pairwise (·<·)) (i:Int):c.count i≤1:=by
 induction c with
 | nil=>simp
 | cons a c ih=>
  obtain⟨h1,h2⟩:=List.pairwise_cons.1 h
  rw [List.count_cons]
  by_cases e:a=i
  ·have:c.count i=0:=by
    rw [List.count_eq_zero]
    intro hi
    have:=h1 i hi
    omega
   simp [e,this]
  ·have:=ih h2
   simp [e];exact this
theorem home_iff (S:List Nat) (hS:S.Nodup) (bs:List (List Int)) (hb:∀ c∈bs,c.Pairwise (·<·)) (hn:(bs.map List.length).sum=S.length):
  (∀ j c,bs[j]? =some c→∀ i∈c,atHome home S j i=true)↔∀ k∈S,(bs.getD (home k) []).count (k:Int)=1:=by
 have h1:=homes_all home S bs 0
 have h2:=homes_sum home S hS bs 0
 simp only [Nat.not_lt_zero,if_false,Nat.sub_zero,Nat.zero_add]at h1 h2
 rw [← h1,h2,hn]
 refine sum_ones S _ (fun k _=> ?_)
 by_cases h:home k<bs.length
 ·rw [List.getD_eq_getElem?_getD,List.getElem?_eq_getElem h];exact count_le_one _ (hb _ (List.getElem_mem h)) _
 ·simp [List.getD,List.getElem?_eq_none (Nat.le_of_not_lt h)]
end
def noSymL:SymL:=⟨[],[],false,0,false,0,false,0,0⟩
def symN (syms:List SymL) (k:Nat):SymL:=syms[k]?.getD noSymL
def seenK (syms:List SymL) (n:Nat):List Nat:=(List.range n).filter fun k=>seenB (symN syms k)
def seenIx (syms:List SymL):List Nat:=seenK syms syms.length
theorem seenK_succ (syms:List SymL) (n:Nat):seenK syms (n+1)=seenK syms n++if seenB (symN syms n) then [n] else []:=by
 rw [seenK,List.range_succ,List.filter_append,List.filter_cons,List.filter_nil];rfl
theorem seenIx_nodup (syms:List SymL):(seenIx syms).Nodup:=List.nodup_range.sublist List.filter_sublist
theorem seenK_mem (syms:List SymL) (n k:Nat):k∈seenK syms n↔k<n∧seenB (symN syms k)=true:=by
 rw [seenK,List.mem_filter,List.mem_range]
theorem seenK_length (syms:List SymL):∀ n,n≤syms.length→(seenK syms n).length=((syms.take n).filter seenB).length
 | 0,_=>by simp [seenK]
 | n+1,h=>by
  rw [seenK_succ,List.length_append,seenK_length syms n (by omega),List.take_succ_eq_append_getElem (show n<syms.length by omega),List.filter_append,List.length_append]
  have:symN syms n=syms[n]:=by rw [symN,List.getElem?_eq_getElem (show n<syms.length by omega)];rfl
  rw [this]
  by_cases hs:seenB syms[n]=true<;>simp [hs]
theorem seenIx_length (syms:List SymL):(seenIx syms).length=(syms.filter seenB).length:=by
 rw [seenIx,seenK_length syms _ (Nat.le_refl _),List.take_length]
theorem seenK_le (syms:List SymL) (n:Nat):(seenK syms n).length≤n:=by
 have:=List.length_filter_le (fun k=>seenB (symN syms k)) (List.range n)
 rwa [List.length_range]at this
def risingB:List Int→Bool
 | a :: b :: l=>decide (a<b)&&risingB (b :: l)
 | _=>true
theorem rising_pairwise:∀ l:List Int,risingB l=true↔l.Pairwise (·<·)
 | []=>by simp [risingB]
 | [a]=>by simp [risingB]
 | a :: b :: l=>by
  have ih:=rising_pairwise (b :: l)
  rw [risingB,Bool.and_eq_true,ih,List.pairwise_cons (a:=a),decide_eq_true_eq]
  constructor
  ·rintro ⟨h1,h2⟩
   refine⟨fun c hc=> ?_,h2⟩
   rcases List.mem_cons.1 hc with rfl | hc
   ·exact h1
   ·have:=(List.pairwise_cons.1 h2).1 c hc;omega
  ·rintro ⟨h1,h2⟩
   exact⟨h1 b (by simp),h2⟩
def symHome (im:ImgL) (k:Nat):Nat:=homeL (symN im.syms k).name im.buckets.length
def standsB (im:ImgL) (k:Nat):Bool:=decide ((im.buckets.getD (symHome im k) []).count (k:Int)=1)&& !lacksB im.words im.shift (hashB (symN im.syms k).name)
def entryB (im:ImgL) (b:Nat) (i:Int):Bool:=match (if i<0 then none else im.syms[i.toNat]?)with
  | some s=>seenB s&&decide (homeL s.name im.buckets.length=b)&& !lacksB im.words im.shift (hashB s.name)
  | none=>false
theorem chainB_iff (im:ImgL) (b:Nat):∀ (l:List Int) (last:Int),chainB im.syms im.words im.shift im.buckets.length b last l=true↔(∀ i∈l,last<i)∧l.Pairwise (·<·)∧∀ i∈l,entryB im b i=true
 | [],_=>by simp [chainB]
 | i :: l,last=>by
  have ih:=chainB_iff im b l i
  have e:chainB im.syms im.words im.shift im.buckets.length b last (i :: l)=(decide (last<i)&&entryB im b i&&chainB im.syms im.words im.shift im.buckets.length b i l):=by rw [chainB];rfl
  rw [e,Bool.and_eq_true,Bool.and_eq_true,ih,decide_eq_true_eq,List.pairwise_cons]
  constructor
  ·rintro ⟨⟨h1,h2⟩,h3,h4,h5⟩
   refine⟨fun c hc=> ?_,⟨h3,h4⟩,fun c hc=> ?_⟩
   ·rcases List.mem_cons.1 hc with rfl | hc
    ·exact h1
    ·have:=h3 c hc;omega
   ·rcases List.mem_cons.1 hc with rfl | hc
    ·exact h2
    ·exact h5 c hc
  ·rintro ⟨h1,⟨h3,h4⟩,h5⟩
   exact⟨⟨h1 i (by simp),h5 i (by simp)⟩,h3,h4,fun c hc=>h5 c (by simp [hc])⟩
theorem entry_nonneg {im:ImgL} {b:Nat} {i:Int} (h:entryB im b i=true):0≤i:=by
 unfold entryB at h
 by_cases hi:i<0
 ·rw [if_pos hi]at h;cases h
 ·omega
theorem entry_home {im:ImgL} {b:Nat} {i:Int}:entryB im b i=true↔∃ k∈seenIx im.syms,i=(k:Int)∧symHome im k=b∧lacksB im.words im.shift (hashB (symN im.syms k).name)=false:=by
 constructor
 ·intro h
  have h0:=entry_nonneg h
  obtain⟨k,rfl⟩:∃ k:Nat,i=k:=⟨i.toNat,by omega⟩
  unfold entryB at h
  rw [if_neg (by omega),Int.toNat_natCast]at h
  cases hs:im.syms[k]? with
  | none=>rw [hs]at h;cases h
  | some s=>
   rw [hs]at h
   have hk:=(List.getElem?_eq_some_iff.1 hs).1
   have hn:symN im.syms k=s:=by rw [symN,hs];rfl
   simp only [Bool.and_eq_true,decide_eq_true_eq,Bool.not_eq_true']at h
   exact⟨k,(seenK_mem _ _ _).2 ⟨hk,by rw [hn];exact h.1.1⟩,rfl,by rw [symHome,hn];exact h.1.2,by rw [hn];exact h.2⟩
 ·rintro ⟨k,hk,rfl,h1,h2⟩
  obtain⟨hk1,hk2⟩:=(seenK_mem _ _ _).1 hk
  have hs:im.syms[k]? =some (symN im.syms k):=by rw [symN,List.getElem?_eq_getElem hk1];rfl
  unfold entryB
  rw [if_neg (by omega),Int.toNat_natCast,hs]
  simp only [Bool.and_eq_true,decide_eq_true_eq,Bool.not_eq_true']
  exact⟨⟨hk2,h1⟩,h2⟩
theorem chainsB_iff (im:ImgL):∀ (bs:List (List Int)) (b:Nat),chainsB im.syms im.words im.shift im.buckets.length b bs=true↔(∀ c∈bs,c.Pairwise (·<·))∧∀ j c,bs[j]? =some c→∀ i∈c,entryB im (b+j) i=true
 | [],_=>by simp [chainsB]
 | c :: l,b=>by
  have ih:=chainsB_iff im l (b+1)
  rw [chainsB,Bool.and_eq_true,ih,chainB_iff]
  constructor
  ·rintro ⟨⟨_,h2,h3⟩,h4,h5⟩
   refine⟨fun d hd=> ?_,fun j d hj=> ?_⟩
   ·rcases List.mem_cons.1 hd with rfl | hd
    ·exact h2
    ·exact h4 d hd
   ·cases j with
    | zero=>simp at hj;subst hj;exact h3
    | succ j=>rw [show b+(j+1)=b+1+j by omega];exact h5 j d (by simpa using hj)
  ·rintro ⟨h1,h2⟩
   have h0:=h2 0 c (by simp)
   refine⟨⟨fun i hi=> ?_,h1 c (by simp),h0⟩,fun d hd=>h1 d (by simp [hd]),fun j d hj=> ?_⟩
   ·have:=entry_nonneg (h0 i hi);omega
   ·have:=h2 (j+1) d (by simpa using hj)
    rwa [show b+(j+1)=b+1+j by omega]at this
def tableJ (im:ImgL):Bool:=
 decide (im.syms.length≤512)&&decide (1≤im.buckets.length)&&decide (im.buckets.length≤512)&&sieveB im.words im.shift&&im.buckets.all risingB&&
 decide ((im.buckets.map List.length).sum=(seenIx im.syms).length)&&(seenIx im.syms).all (standsB im)
theorem tableJ_eq (im:ImgL):tableJ im=tableB im:=by
 rw [Bool.eq_iff_iff]
 unfold tableJ tableB
 simp only [Bool.and_eq_true,decide_eq_true_eq]
 rw [chainsB_iff,← seenIx_length]
 simp only [Nat.zero_add]
 have hall:(im.buckets.all risingB=true)↔∀ c∈im.buckets,c.Pairwise (·<·):=by
  rw [List.all_eq_true];exact⟨fun h c hc=>(rising_pairwise c).1 (h c hc),fun h c hc=>(rising_pairwise c).2 (h c hc)⟩
 rw [hall]
 constructor
 ·rintro ⟨⟨⟨h0,h1⟩,h2⟩,h3⟩
  refine⟨⟨h0,h1,?_⟩,h2⟩
  have hh:=(home_iff (symHome im) (seenIx im.syms) (seenIx_nodup _) im.buckets h1 h2).2 (fun k hk=>by
   have:=List.all_eq_true.1 h3 k hk
   simp only [standsB,Bool.and_eq_true,decide_eq_true_eq]at this
   exact this.1)
  intro j c hj i hi
  have:=hh j c hj i hi
  simp only [atHome,List.any_eq_true,Bool.and_eq_true,decide_eq_true_eq]at this
  obtain⟨k,hk,h4,h5⟩:=this
  have h6:=List.all_eq_true.1 h3 k hk
  simp only [standsB,Bool.and_eq_true,decide_eq_true_eq,Bool.not_eq_true']at h6
  exact entry_home.2 ⟨k,hk,h4,h5,h6.2⟩
 ·rintro ⟨⟨h0,h1,h3⟩,h2⟩
  refine⟨⟨⟨h0,h1⟩,h2⟩,?_⟩
  have hh:=(home_iff (symHome im) (seenIx im.syms) (seenIx_nodup _) im.buckets h1 h2).1 (fun j c hj i hi=>by
   obtain⟨k,hk,h4,h5,_⟩:=entry_home.1 (h3 j c hj i hi)
   simp only [atHome,List.any_eq_true,Bool.and_eq_true,decide_eq_true_eq]
   exact⟨k,hk,h4,h5⟩)
  rw [List.all_eq_true]
  intro k hk
  have hc:=hh k hk
  simp only [standsB,Bool.and_eq_true,decide_eq_true_eq,Bool.not_eq_true']
  refine⟨hc,?_⟩
  have hmem:(k:Int)∈im.buckets.getD (symHome im k) []:=List.count_pos_iff.1 (by omega)
  rw [List.getD_eq_getElem?_getD]at hmem
  cases hb:im.buckets[symHome im k]? with
  | none=>rw [hb]at hmem;simp at hmem
  | some c=>
   rw [hb]at hmem
   obtain⟨k',_,h4,_,h6⟩:=entry_home.1 (h3 _ c hb (k:Int) (by simpa using hmem))
   have:k'=k:=by omega
   subst this
   exact h6
end Go.Proofs.Ytpomdoliblilfaa
namespace Go.Proofs.Ytpomdoliblilfaa
set_option linter.unusedVariables false
set_option linter.unusedSimpArgs false
open Go.RowKit
structure Later (w:World) where
 w':World
 h:Below w.heap.size w w'
instance Later.inst (w:World):Nonempty (Later w):=⟨⟨w,Below.refl _ w⟩⟩
theorem Later.cell {w:World} (x:Later w) {p:Addr} {v:Value} (c:w.cell? p=some v):x.w'.cell? p=some v:=(x.h.cell (World.block_lt_of_cell? _ _ c)).trans c
theorem Later.call {P:Program} {w:World} (x:Later w) {f:FuncId} {args:Array Value} {v:Value} (h:Calls P f args x.w' fun e w'=>e=.returned v∧Below x.w'.heap.size x.w' w'):
  Calls P f args x.w' fun e w''=>e=.returned v∧∃ y:Later w,w''=y.w':=
 h.mono fun _ w' ⟨he,hb⟩=>⟨he,⟨⟨w',x.h.trans (hb.mono x.h.size)⟩,rfl⟩⟩
theorem Later.call_same {P:Program} {w:World} (x:Later w) {f:FuncId} {args:Array Value} {v:Value} (h:Calls P f args x.w' fun e w'=>e=.returned v∧w'=x.w'):
  Calls P f args x.w' fun e w''=>e=.returned v∧∃ y:Later w,w''=y.w':=
 h.mono fun _ w' ⟨he,hb⟩=>⟨he,⟨x,hb⟩⟩
theorem wp_region_later {P:Program} {id:Nat} {Q:Exit→Act→World→Prop} {a:Act} {w:World} {l:List Oper} (hm:P.follows .mixedOrders=true) (hB:Region.lexB .any l.toArray=true)
  (h:wpQuiet P l.toArray (fun w'=>∃ x:Later w,w'=x.w') (fun a'=>∀ w',(∃ x:Later w,w'=x.w')→Q .normal a' w') l a):(Code.region id l.toArray true).wp P Q a w:=
 wp_region_quiet (C:=fun w'=>∃ x:Later w,w'=x.w') hm hB ⟨⟨_,(Below.refl _ w).drew⟩,rfl⟩ (by simpa using h)
end Go.Proofs.Ytpomdoliblilfaa
namespace Go.Proofs.Ytpomdoliblilfaa
set_option linter.unusedVariables false
set_option linter.unusedSimpArgs false
section
variable {P : Program}
def phaseB (md:Region.Mode) (ops:Array Oper) (n:Nat):Bool:=
 decide (n≤ops.size)&&
 ((List.range n).all fun i=>match ops[i]? with
  | some o=>(o.after.all fun e=> !Region.binds md e||decide (e.on<i))&&(match o.guard with | some (g,_)=>decide (g<n) | none=>true)
  | none=>false)&&
 ((List.range ops.size).all fun t=>decide (t<n)||(List.range n).all fun i=>Region.waitsFor md ops t i)&&
 Region.seqB md ops (ops.size-n) n (Array.replicate n true++Array.replicate (ops.size-n) false)
def phaseQ (P:Program) (ops:Array Oper) (tail:List Oper) (Q:Exit→Act→World→Prop):Exit→Act→World→Prop
 | .normal,a,w=>wpList P ops Q tail a w
 | .exit i,a,w=>Q (.exit i) a w
 | .goto l,a,w=>Q (.goto l) a w
 | .ret,a,w=>Q .ret a w
 | .panic c,a,w=>Q (.panic c) a w
 | .outgrown,a,w=>Q .outgrown a w
theorem wpAny_more {md:Region.Mode} {ops:Array Oper} {Q:Exit→Act→World→Prop}:∀ (f:Nat) (listed:Array Bool) (a:Act) (w:World),wpAny P md ops Q f listed a w→wpAny P md ops Q (f+1) listed a w
 | 0,_,_,_,h=>⟨fun _=>h.2,fun i hi=>by rw [h.1]at hi;cases hi⟩
 | f+1,_,_,_,h=>⟨h.1,fun i hi=>wpOp_mono (fun a' w' h'=>wpAny_more f _ a' w' h') (h.2 i hi)⟩
theorem wpAny_add {md:Region.Mode} {ops:Array Oper} {Q:Exit→Act→World→Prop} (f:Nat) (listed:Array Bool) (a:Act) (w:World) (h:wpAny P md ops Q f listed a w):∀ m,wpAny P md ops Q (f+m) listed a w
 | 0=>h
 | m+1=>wpAny_more _ _ _ _ (wpAny_add f listed a w h m)
theorem phaseQ_wp {o:Oper} {ops:Array Oper} {tail:List Oper} {Q:Exit→Act→World→Prop} {a:Act} {w:World} {K:Act→World→Prop} (h:o.wp P a w K (phaseQ P ops tail Q)):o.wp P a w K Q:=by
 unfold Oper.wp at *
 generalize (execOp a.eval o).run P w=r at *
 cases r with
 | ok n w'=>
  cases n<;>simp only [Oper.upon]at h ⊢<;>
   first
    | exact h
    | exact Calls.mono h (fun e w'' he=>by cases e<;>exact he)
    | exact Rows.mono h (fun _ _ he=>he)
 | halt x w'=>cases x<;>simp only [Oper.upon]at h ⊢<;>exact h
theorem yielded_take (l:List Oper) (n g:Nat) (tmps:Array Value) (h:g<n):yielded (l.take n).toArray tmps g=yielded l.toArray tmps g:=by
 unfold yielded
 simp [List.getElem?_take,h]
theorem waitsFor_after {md:Region.Mode} {ops:Array Oper} {t i:Nat} {o:Oper} (ho:ops[t]? =some o) (h:Region.waitsFor md ops t i=true):∃ e∈o.after,Region.binds md e=true∧e.on=i:=by
 obtain⟨oj,h1,h2⟩:=Region.waitsFor_spec h
 rw [ho]at h1
 cases h1
 exact h2
theorem getD_app (L:Array Bool) (m i:Nat) (h:i<L.size) (d:Bool):(L++Array.replicate m false).getD i d=L.getD i d:=by
 simp [Array.getD,Array.getElem_append,h,Nat.lt_add_right m h]
theorem getD_any (L:Array Bool) (i:Nat) (h:i<L.size) (d e:Bool):L.getD i d=L.getD i e:=by
 simp [Array.getD,h]
theorem wpAny_phase {md:Region.Mode} {l:List Oper} {Q:Exit→Act→World→Prop} (n:Nat) (hB:phaseB md l.toArray n=true):
  ∀ (f:Nat) (listed:Array Bool) (a:Act) (w:World),listed.size=n→
   wpAny P md (l.take n).toArray (phaseQ P l.toArray (l.drop n) Q) f listed a w→
   wpAny P md l.toArray Q (f+(l.length-n)) (listed++Array.replicate (l.length-n) false) a w:=by
 simp only [phaseB,Bool.and_eq_true,decide_eq_true_eq]at hB
 obtain⟨⟨⟨hn,hhead⟩,htail⟩,hseq⟩:=hB
 have hn':n≤l.length:=by simpa using hn
 have hh:∀ i,i<n→∃ o,l[i]? =some o∧(∀ e∈o.after,Region.binds md e=true→e.on<i)∧(∀ g b,o.guard=some (g,b)→g<n):=fun i hi=>by
  have:=(List.all_eq_true.1 hhead) i (List.mem_range.2 hi)
  have hil:i<l.length:=by omega
  rw [List.getElem?_toArray,List.getElem?_eq_getElem hil]at this
  refine⟨_,List.getElem?_eq_getElem hil,?_,?_⟩
  ·simp only [Bool.and_eq_true]at this
   intro e he hb
   have h1:=Array.all_eq_true'.1 this.1 e he
   simpa [hb] using h1
  ·simp only [Bool.and_eq_true]at this
   intro g b hg
   rw [hg]at this
   simpa using this.2
 have ht:∀ t,n≤t→t<l.length→∀ i,i<n→Region.waitsFor md l.toArray t i=true:=fun t h1 h2 i hi=>by
  have:=(List.all_eq_true.1 htail) t (List.mem_range.2 (by simpa using h2))
  simp only [Bool.or_eq_true,decide_eq_true_eq]at this
  rcases this with h | h
  ·omega
  ·exact(List.all_eq_true.1 h) i (List.mem_range.2 hi)
 have ready_head:∀ listed:Array Bool,listed.size=n→∀ i,i∈Region.ready md l.toArray (listed++Array.replicate (l.length-n) false)→(∃ k,k<n∧listed.getD k false=false)→
   i∈Region.ready md (l.take n).toArray listed:=fun listed hs i hi hex=>by
  obtain⟨h1,o,ho,hall⟩:=mem_ready.1 hi
  obtain⟨k,hk,hkf⟩:=hex
  have hil:i<l.length:=by
   have:=(Array.getElem?_eq_some_iff.1 ho).1
   simpa using this
  rcases Nat.lt_or_ge i n with hin | hin
  ·refine mem_ready.2 ⟨?_,o,?_,?_⟩
   ·rwa [getD_app _ _ _ (by omega)]at h1
   ·simpa [List.getElem?_take,hin] using ho
   ·intro e he hb
    have h2:=hall e he hb
    obtain⟨o',ho',hb',_⟩:=hh i hin
    have:o=o':=by
     have:l.toArray[i]? =some o':=by simpa using ho'
     rw [ho]at this;exact Option.some.inj this
    subst this
    have h3:=hb' e he hb
    rwa [getD_app _ _ _ (by omega)]at h2
  ·exfalso
   obtain⟨e,he,hb,hon⟩:=waitsFor_after ho (ht i hin hil k hk)
   have h2:=hall e he hb
   rw [hon]at h2
   rw [getD_app _ _ _ (by omega),hkf]at h2
   cases h2
 have all_listed:∀ listed:Array Bool,listed.size=n→Region.ready md (l.take n).toArray listed=[]→∀ k,k<n→listed.getD k false=true:=fun listed hs hr k=>by
  induction k using Nat.strongRecOn with
  | _ k ih=>
   intro hk
   rcases hc:listed.getD k false with _ | _
   ·exfalso
    obtain⟨o,ho,hb,_⟩:=hh k hk
    have:k∈Region.ready md (l.take n).toArray listed:=by
     refine mem_ready.2 ⟨?_,o,?_,fun e he hbd=>ih e.on (hb e he hbd) (by have:=hb e he hbd;omega)⟩
     ·rw [getD_any _ _ (by omega) true false];exact hc
     ·simpa [List.getElem?_take,hk] using ho
    rw [hr]at this
    cases this
   ·rfl
 have finish:∀ (listed:Array Bool) (a:Act) (w:World),listed.size=n→Region.ready md (l.take n).toArray listed=[]→wpList P l.toArray Q (l.drop n) a w→
   wpAny P md l.toArray Q (l.length-n) (listed++Array.replicate (l.length-n) false) a w:=fun listed a w hs hr h=>by
  have e:listed=Array.replicate n true:=by
   apply Array.ext
   ·simp [hs]
   ·intro i h1 h2
    have:=all_listed listed hs hr i (by omega)
    rw [Array.getD,dif_pos h1]at this
    simpa using this
  rw [e]
  have:=wpAny_of_seq (P:=P) (md:=md) (ops:=l.toArray) (Q':=Q) (l.drop n) n (Array.replicate n true++Array.replicate (l.length-n) false) a w (fun j=>by simp [List.getElem?_drop]) (by simpa using hseq) h
  simpa using this
 intro f
 induction f with
 | zero=>
  intro listed a w hs h
  rw [Nat.zero_add]
  exact finish listed a w hs h.1 h.2
 | succ f ih=>
  intro listed a w hs h
  by_cases hr:Region.ready md (l.take n).toArray listed=[]
  ·have:=wpAny_add _ _ _ _ (finish listed a w hs hr (h.1 hr)) (f+1)
   rwa [Nat.add_comm]at this
  ·have hex:∃ k,k<n∧listed.getD k false=false:=by
    obtain⟨k,hk⟩:=List.exists_mem_of_ne_nil _ hr
    obtain⟨h1,o,ho,_⟩:=mem_ready.1 hk
    have hkn:k<n:=by
     have:=(Array.getElem?_eq_some_iff.1 ho).1
     simp at this;omega
    refine⟨k,hkn,?_⟩
    rw [getD_any _ _ (by omega) false true];exact h1
   rw [show f+1+(l.length-n)=(f+(l.length-n))+1 by omega]
   refine⟨fun h0=> ?_,fun i hi=> ?_⟩
   ·exfalso
    obtain⟨k,hk⟩:=List.exists_mem_of_ne_nil _ hr
    obtain⟨h1,o,ho,hall⟩:=mem_ready.1 hk
    have hkn:k<n:=by
     have:=(Array.getElem?_eq_some_iff.1 ho).1
     simp at this;omega
    have:k∈Region.ready md l.toArray (listed++Array.replicate (l.length-n) false):=by
     refine mem_ready.2 ⟨?_,o,?_,fun e he hb=> ?_⟩
     ·rwa [getD_app _ _ _ (by omega)]
     ·simpa [List.getElem?_take,hkn] using ho
     ·have h2:=hall e he hb
      obtain⟨o',ho',hb',_⟩:=hh k hkn
      have:o=o':=by
       have h3:l[k]? =some o:=by simpa [List.getElem?_take,hkn] using ho
       rw [h3]at ho';exact Option.some.inj ho'
      subst this
      have h3:=hb' e he hb
      rwa [getD_app _ _ _ (by omega)]
    rw [h0]at this
    cases this
   ·have hir:=ready_head listed hs i hi hex
    have hstep:=h.2 i hir
    have hin:i<n:=by
     obtain⟨_,o,ho,_⟩:=mem_ready.1 hir
     have:=(Array.getElem?_eq_some_iff.1 ho).1
     simp at this;omega
    obtain⟨o,ho,_,hg⟩:=hh i hin
    have ho1:l.toArray[i]? =some o:=by simpa using ho
    have ho2:(l.take n).toArray[i]? =some o:=by simpa [List.getElem?_take,hin] using ho
    have hset:(listed++Array.replicate (l.length-n) false).setIfInBounds i true=listed.setIfInBounds i true++Array.replicate (l.length-n) false:=by
     apply Array.ext_getElem?
     intro j
     by_cases hji:i=j
     ·subst hji
      rw [Array.getElem?_setIfInBounds_self_of_lt (by simp;omega),Array.getElem?_append_left (by simp;omega),Array.getElem?_setIfInBounds_self_of_lt (by omega)]
     ·rw [Array.getElem?_setIfInBounds_ne hji]
      rcases Nat.lt_or_ge j listed.size with h1 | h1
      ·rw [Array.getElem?_append_left h1,Array.getElem?_append_left (by simpa using h1),Array.getElem?_setIfInBounds_ne hji]
      ·rw [Array.getElem?_append_right h1,Array.getElem?_append_right (by simpa using h1),Array.size_setIfInBounds]
    have hw:Region.wanted o (yielded (l.take n).toArray a.tmps)=Region.wanted o (yielded l.toArray a.tmps):=by
     unfold Region.wanted
     cases hgd:o.guard with
     | none=>rfl
     | some q=>simp only [yielded_take l n q.1 a.tmps (hg q.1 q.2 hgd)]
    unfold wpOp at hstep ⊢
    simp only [ho1,ho2]at hstep ⊢
    rw [hset]
    rw [hw]at hstep
    split
    ·rename_i hwt
     simp only [hwt,if_true]at hstep
     rcases hstep with hstep | ⟨h1,h2⟩
     ·exact .inl (phaseQ_wp (Oper.wp_mono (fun a' w' h'=>ih _ a' w' (by simpa using hs) h') hstep))
     ·exact .inr ⟨h1,by obtain⟨a',w',h'⟩:=h2;exact⟨a',w',h'⟩⟩
    ·rename_i hwt
     simp only [hwt]at hstep
     exact ih _ _ _ (by simpa using hs) hstep
theorem wp_region_phase {id:Nat} {Q:Exit→Act→World→Prop} {a:Act} {w:World} {l:List Oper} (n:Nat) (hm:P.follows .mixedOrders=true) (hB:phaseB .any l.toArray n=true)
  (h:wpAny P .any (l.take n).toArray (phaseQ P l.toArray (l.drop n) Q) n (Array.replicate n false) a {w with drawn:=w.drawn+1 }):(Code.region id l.toArray true).wp P Q a w:=by
 have hn:n≤l.length:=by
  simp only [phaseB,Bool.and_eq_true,decide_eq_true_eq]at hB
  simpa using hB.1.1.1
 refine wp_region_any hm ?_
 have:=wpAny_phase n hB n (Array.replicate n false) a _ (by simp) h
 have e:Array.replicate n false++Array.replicate (l.length-n) false=Array.replicate l.toArray.size false:=by
  simp [Array.replicate_append_replicate,Nat.add_sub_cancel' hn]
 rw [e,Nat.add_sub_cancel' hn]at this
 simpa using this
end
end Go.Proofs.Ytpomdoliblilfaa
namespace Go.Proofs.Ytpomdoliblilfaa
set_option linter.unusedVariables false
set_option linter.unusedSimpArgs false
open Go.RowKit
structure Step (S:Nat→Prop) (w w':World):Prop where
 os:w'.os=w.os
 tape:w'.tape=w.tape
 output:w'.output=w.output
 size:w.heap.size≤w'.heap.size
 block:∀ b,S b→w'.heap[b]? =w.heap[b]?
theorem Step.refl (S:Nat→Prop) (w:World):Step S w w:=⟨rfl,rfl,rfl,Nat.le_refl _,fun _ _=>rfl⟩
theorem Step.trans {S:Nat→Prop} {a b c:World} (h:Step S a b) (k:Step S b c):Step S a c:=⟨k.os.trans h.os,k.tape.trans h.tape,k.output.trans h.output,Nat.le_trans h.size k.size,fun i hi=>(k.block i hi).trans (h.block i hi)⟩
theorem Step.imp {S S':Nat→Prop} {w w':World} (h:Step S w w') (hi:∀ b,S' b→S b):Step S' w w':=⟨h.os,h.tape,h.output,h.size,fun b hb=>h.block b (hi b hb)⟩
theorem Step.drew {S:Nat→Prop} {a w:World} (h:Step S a w):Step S a w.drew:=⟨h.os,h.tape,h.output,h.size,h.block⟩
theorem Step.alloc {S:Nat→Prop} {a w:World} (h:Step S a w) (hS:∀ b,S b→b<w.heap.size) (o:Obj):Step S a (w.alloc o):=
 ⟨h.os,h.tape,h.output,Nat.le_trans h.size (by simp),fun b hb=>(Below.heap_alloc w o b (hS b hb)).trans (h.block b hb)⟩
theorem Step.setCell {S:Nat→Prop} {a w:World} (h:Step S a w) {p:Addr} (hp:¬ S p.block) (u:Value):Step S a (w.setCell p u):=
 ⟨h.os,h.tape,h.output,by simpa using h.size,fun b hb=>(Below.heap_setCell w p u b (fun e=>hp (e ▸ hb))).trans (h.block b hb)⟩
theorem Step.of_below {B:Nat} {w w':World} (h:Below B w w'):Step (·<B) w w':=⟨h.os,h.tape,h.output,h.size,h.block⟩
theorem Step.below {B:Nat} {w w':World} (h:Step (·<B) w w'):Below B w w':=⟨h.os,h.tape,h.output,h.size,h.block⟩
theorem Step.of_grown {S:Nat→Prop} {w w':World} {row:Option Nat} (h:w.grownBy w' row) (hS:∀ b,S b→b<w.heap.size∧row≠some b):Step S w w':=
 ⟨h.os,h.tape,h.output,h.size,fun b hb=>h.block b (hS b hb).1 (fun e=>(hS b hb).2 e.symm)⟩
theorem Step.cell {S:Nat→Prop} {w w':World} (h:Step S w w') {p:Addr} (hp:S p.block):w'.cell? p=w.cell? p:=World.cell?_of_block (h.block p.block hp)
def RowsOf {α:Type} (K:Kind α) (S:Nat→Prop) (w:World):List α→List Value→Prop
 | [],xs=>xs=[]
 | x :: l,xs=>∃ r ys,xs=r++ys∧K.R S w x r∧RowsOf K S w l ys
section
variable {α : Type} {K : Kind α} {S S' : Nat → Prop} {w w' : World}
theorem RowsOf.keeps:∀ {l:List α} {xs:List Value},RowsOf K S w l xs→Keeps S w w'→RowsOf K S w' l xs
 | [],_,h,_=>h
 | _ :: _,_,⟨r,ys,e,h1,h2⟩,hk=>⟨r,ys,e,K.keeps h1 hk,RowsOf.keeps h2 hk⟩
theorem RowsOf.imp:∀ {l:List α} {xs:List Value},RowsOf K S w l xs→(∀ b,S b→S' b)→RowsOf K S' w l xs
 | [],_,h,_=>h
 | _ :: _,_,⟨r,ys,e,h1,h2⟩,hi=>⟨r,ys,e,K.imp h1 hi,RowsOf.imp h2 hi⟩
theorem RowsOf.snoc:∀ {l:List α} {xs:List Value} {y:α} {r:List Value},RowsOf K S w l xs→K.R S w y r→RowsOf K S w (l++[y]) (xs++r)
 | [],xs,y,r,h,hr=>by
  have:xs=[]:=h
  subst this
  exact⟨r,[],by simp,hr,rfl⟩
 | _ :: _,_,y,r,⟨r0,ys,e,h1,h2⟩,hr=>⟨r0,ys++r,by rw [e,List.append_assoc],h1,RowsOf.snoc h2 hr⟩
theorem RowsOf.app:∀ {l m:List α} {xs ys:List Value},RowsOf K S w l xs→RowsOf K S w m ys→RowsOf K S w (l++m) (xs++ys)
 | [],m,xs,ys,h,hm=>by
  have:xs=[]:=h
  subst this
  exact hm
 | _ :: _,m,_,ys,⟨r0,zs,e,h1,h2⟩,hm=>⟨r0,zs++ys,by rw [e,List.append_assoc],h1,RowsOf.app h2 hm⟩
theorem RowsOf.get:∀ {l:List α} {xs:List Value},RowsOf K S w l xs→∀ i x,l[i]? =some x→∃ r,K.R S w x r∧∀ j u,r[j]? =some u→xs[i*K.k+j]? =some u
 | [],_,_,i,x,hx=>by simp at hx
 | y :: l,_,⟨r,ys,e,h1,h2⟩,i,x,hx=>by
  have hl:=K.len h1
  cases i with
  | zero=>
   simp at hx;subst hx
   refine⟨r,h1,fun j u hu=> ?_⟩
   rw [e,Nat.zero_mul,Nat.zero_add,List.getElem?_append_left (List.getElem?_eq_some_iff.1 hu).1];exact hu
  | succ i=>
   obtain⟨r',h3,h4⟩:=RowsOf.get h2 i x (by simpa using hx)
   refine⟨r',h3,fun j u hu=> ?_⟩
   rw [e,List.getElem?_append_right (by rw [hl,Nat.succ_mul];omega),hl,Nat.succ_mul]
   rw [show i*K.k+K.k+j-K.k=i*K.k+j by omega]
   exact h4 j u hu
end
def OwnK {α:Type} (e:TypeId) (K:Kind α) (B:Nat) (E:Nat→Prop) (w:World) (v:Value) (l:List α):Prop:=
 ∃ xs,w.ownsRow B e K.k v l.length xs∧RowsOf K (fun b=>b<w.heap.size∧¬ E b∧v.ownBlock≠some b) w l xs∧∀ g,v.ownBlock=some g→¬ E g
section
variable {α : Type} {e : TypeId} {K : Kind α} {B : Nat} {E : Nat → Prop} {w w' : World} {v : Value} {l : List α}
theorem OwnK.nil (e:TypeId) (K:Kind α) (B:Nat) (E:Nat→Prop) (w:World):OwnK e K B E w (.slice none 0 0) []:=
 ⟨[],World.ownsRow_nil w B e K.k,rfl,fun g h=>by simp [Value.ownBlock]at h⟩
theorem OwnK.lt (h:OwnK e K B E w v l):∀ k,v.ownBlock=some k→B≤k∧k<w.heap.size:=by
 obtain⟨xs,h1,_⟩:=h;exact World.ownsRow.lt h1
theorem OwnK.notE (h:OwnK e K B E w v l):∀ k,v.ownBlock=some k→¬ E k:=by
 obtain⟨xs,_,_,h3⟩:=h;exact h3
theorem OwnK.form (h:OwnK e K B E w v l):∃ a c,v=.slice a l.length c:=by
 obtain⟨xs,h1,_⟩:=h
 rcases h1.2 with ⟨rfl,h0⟩ | ⟨g,cap,cur,rfl,_⟩
 ·exact⟨none,0,by rw [h0]⟩
 ·exact⟨_,_,rfl⟩
theorem OwnK.step {S:Nat→Prop} (h:OwnK e K B E w v l) (hs:Step S w w') (hS:∀ b,b<w.heap.size→¬ E b→S b):OwnK e K B E w' v l:=by
 obtain⟨xs,h1,h2,h3⟩:=h
 have hlt:=World.ownsRow.lt h1
 have hsz:=hs.size
 refine⟨xs,⟨h1.1,?_⟩,?_,h3⟩
 ·rcases h1.2 with h0 | ⟨g,cap,cur,hv,hg,hh,r⟩
  ·exact Or.inl h0
  ·refine Or.inr ⟨g,cap,cur,hv,hg,?_,r⟩
   have ho:v.ownBlock=some g:=by rw [hv];rfl
   rw [hs.block g (hS g (hlt g ho).2 (h3 g ho))];exact hh
 ·exact(h2.keeps (fun b hb=>hs.block b (hS b hb.1 hb.2.1))).imp (fun b hb=>⟨by omega,hb.2⟩)
theorem OwnK.below (h:OwnK e K B E w v l) (hb:Below w.heap.size w w'):OwnK e K B E w' v l:=h.step (.of_below hb) fun _ h _=>h
theorem OwnK.alloc (h:OwnK e K B E w v l) (o:Obj):OwnK e K B E (w.alloc o) v l:=h.below ((Below.refl _ w).alloc (Nat.le_refl _) o)
theorem OwnK.drew (h:OwnK e K B E w v l):OwnK e K B E w.drew v l:=h.step ((Step.refl (fun _=>True) w).drew) fun _ _ _=>trivial
theorem OwnK.mono {B':Nat} (h:OwnK e K B E w v l) (hB:B'≤B):OwnK e K B' E w v l:=by
 obtain⟨xs,h1,h2,h3⟩:=h
 refine⟨xs,⟨h1.1,?_⟩,h2,h3⟩
 rcases h1.2 with h0 | ⟨g,cap,cur,hv,hg,r⟩
 ·exact Or.inl h0
 ·exact Or.inr ⟨g,cap,cur,hv,Nat.le_trans hB hg,r⟩
theorem OwnK.lb (h:OwnK e K B E w v l):LB K (fun b=>b<w.heap.size∧¬ E b) w v l:=by
 obtain⟨xs,h1,h2,h3⟩:=h
 have h1':=h1
 have h2':=h2.imp (S':=fun b=>b<w.heap.size∧¬ E b) fun b hb=>⟨hb.1,hb.2.1⟩
 have hlt:=World.ownsRow.lt h1
 rcases h1.2 with ⟨rfl,h0⟩ | ⟨g,cap,cur,rfl,hg,hh,hle,hcap,hs,ht⟩
 ·obtain rfl:l=[]:=List.eq_nil_of_length_eq_zero h0
  exact LB.nil _ _ _
 ·refine⟨some ⟨g,0,none⟩,g,0,cap,rfl,by unfold maxLen at hcap;omega,fun _=>rfl,⟨hle,fun h=>by cases h⟩,fun _=>⟨(hlt g rfl).2,h3 g rfl⟩,fun i x hx=> ?_⟩
  obtain⟨r,hr,hc⟩:=h2'.get i x hx
  refine⟨r,hr,fun j u hu=> ?_⟩
  have:=World.ownsRow.cells h1' (g:=g) rfl _ _ (hc j u hu)
  simpa [Addr.add_lit,Nat.add_assoc] using this
theorem wpList_appendK {ops:Array Oper} {rest:List Oper} {o:Oper} {a:Act} {Q:Exit→Act→World→Prop} (t:TypeId) (z:Value) (bytes:Nat) (ht:Try.prog.underlying t=some (.slice e)) (hinfo:(Try.prog.info? e).map (fun i=>(i.zero,i.size,i.bytes))=some (some z,K.k,bytes))
  (hzs:z.cells.size=K.k) (hk:0<K.k) (hgd:o.guard=none) (s x:Operand)
  (ho:o.op=.call {callee:=.builtin .append,args:=#[s,x],argTypes:=#[t,t]})
  (n:Nat) (hn:l.length=n) (hs:a.eval s=v) (hown:OwnK e K B E w v l) (hE:∀ b,E b→b<w.heap.size) (nb:Nat) (y:α) (row:List Value) (hx:a.eval x=.slice (some ⟨nb,0,none⟩) 1 1)
  (hcell:∀ j u,row[j]? =some u→w.cell? ⟨nb,j,none⟩=some u) (hone:∀ u∈row,u.oneCell'=true) (hrow:K.R (fun b=>b<w.heap.size∧¬ E b∧v.ownBlock≠some b) w y row)
  (hlen:(l.length+1)*bytes≤140737488355328) (hl63:l.length<1099511627776) (hB:B≤w.heap.size)
  (h:∀ g c w',OwnK e K B E w' (.slice (some ⟨g,0,none⟩) (n+1) c) (l++[y])→Step (fun b=>b<w.heap.size∧v.ownBlock≠some b) w w'→g<w'.heap.size→
   wpList Try.prog ops Q rest (a.put o.dst (.slice (some ⟨g,0,none⟩) (n+1) c)) w'):wpList Try.prog ops Q (o :: rest) a w:=by
 subst hn
 obtain⟨i0,hi,hz0,hz1,hz2⟩:=info_parts hinfo
 obtain⟨xs,h1,h2,h3⟩:=hown
 have hlt:=World.ownsRow.lt h1
 refine wpList_append_lies w hgd s x t ho B e i0 z K.k bytes ht hi hz0 hz1 hz2 hzs hk v l.length xs hs h1 ⟨nb,0,none⟩ 1 1 row hx (by rw [K.len hrow,Nat.one_mul]) ?_ hone (by decide) ?_ hlen hB _ rfl ?_
 ·intro j u hj
  have:=hcell j u hj
  simpa [Addr.add_lit] using this
 ·unfold maxLen;omega
 ·intro g c w' g1 g2 g3 g4
  have hst:Step (fun b=>b<w.heap.size∧v.ownBlock≠some b) w w':=Step.of_grown g2 (fun b hb=>⟨hb.1,hb.2⟩)
  have hsz:=hst.size
  have hgne:∀ b,b<w.heap.size→v.ownBlock≠some b→b≠g:=by
   intro b hb hne e
   subst e
   rcases g3 with h' | h'
   ·exact hne h'
   ·omega
  refine h g c w' ⟨xs++row,by simpa using g1,?_,?_⟩ hst g4
  ·have hr:=(h2.keeps (fun b hb=>hst.block b ⟨hb.1,hb.2.2⟩)).snoc (K.keeps hrow (fun b hb=>hst.block b ⟨hb.1,hb.2.2⟩))
   exact hr.imp fun b hb=>⟨by omega,hb.2.1,fun e=>hgne b hb.1 hb.2.2 (by simpa [Value.ownBlock] using e.symm)⟩
  ·intro g' hg' hEg
   have:g'=g:=by simpa [Value.ownBlock] using hg'.symm
   subst this
   rcases g3 with h' | h'
   ·exact h3 _ h' hEg
   ·have:=hE _ hEg;omega
end
end Go.Proofs.Ytpomdoliblilfaa
namespace Go.Proofs.Ytpomdoliblilfaa
set_option linter.unusedVariables false
set_option linter.unusedSimpArgs false
open Go.RowKit
structure Plain {α:Type} (K:Kind α) (f:α→Value):Prop where
 one:K.k=1
 into:∀ {S w x r},K.R S w x r→r=[f x]
 of:∀ S w x,K.R S w x [f x]
 cell:∀ x,(f x).oneCell'=true
theorem plain_byte:Plain kByte (fun x=>.int .u8 x.toNat):=⟨rfl,fun h=>h,fun _ _ _=>rfl,fun _=>rfl⟩
theorem plain_int:Plain kInt (fun x=>.int .i64 x):=⟨rfl,fun h=>h,fun _ _ _=>rfl,fun _=>rfl⟩
theorem plain_word:Plain kWord (fun x=>.int .u64 x):=⟨rfl,fun h=>h,fun _ _ _=>rfl,fun _=>rfl⟩
section
variable {α : Type} {e : TypeId} {K : Kind α} {f : α → Value} {B : Nat} {E : Nat → Prop} {w w' : World} {v : Value} {l : List α}
theorem RowsOf.plain (hp:Plain K f) {S:Nat→Prop}:∀ {l:List α} {xs:List Value},RowsOf K S w l xs→xs=l.map f
 | [],_,h=>h
 | _ :: _,_,⟨r,ys,h0,h1,h2⟩=>by rw [h0,hp.into h1,RowsOf.plain hp h2];rfl
theorem RowsOf.of_plain (hp:Plain K f) (S:Nat→Prop) (w:World):∀ l:List α,RowsOf K S w l (l.map f)
 | []=>rfl
 | x :: l=>⟨[f x],l.map f,rfl,hp.of S w x,RowsOf.of_plain hp S w l⟩
theorem OwnK.plain_row (hp:Plain K f) (h:OwnK e K B E w v l):w.ownsRow B e 1 v l.length (l.map f):=by
 obtain⟨xs,h1,h2,_⟩:=h
 rw [hp.one]at h1
 rwa [RowsOf.plain hp h2]at h1
theorem OwnK.of_plain (hp:Plain K f) (h:w.ownsRow B e 1 v l.length (l.map f)) (hE:∀ g,v.ownBlock=some g→¬ E g):OwnK e K B E w v l:=
 ⟨l.map f,by rw [hp.one];exact h,RowsOf.of_plain hp _ _ l,hE⟩
theorem OwnK.plain_keep (hp:Plain K f) (h:OwnK e K B E w v l) (hk:∀ g,v.ownBlock=some g→w'.heap[g]? =w.heap[g]?):OwnK e K B E w' v l:=by
 have h1:=h.plain_row hp
 refine .of_plain hp ⟨h1.1,?_⟩ h.notE
 rcases h1.2 with h0 | ⟨g,cap,cur,hv,hg,hh,r⟩
 ·exact Or.inl h0
 ·exact Or.inr ⟨g,cap,cur,hv,hg,by rw [hk g (by rw [hv];rfl)];exact hh,r⟩
theorem wpList_appendsK {ops:Array Oper} {rest:List Oper} {o:Oper} {a:Act} {Q:Exit→Act→World→Prop} (hp:Plain K f) (t:TypeId) (z:Value) (bytes:Nat) (ht:Try.prog.underlying t=some (.slice e)) (hinfo:(Try.prog.info? e).map (fun i=>(i.zero,i.size,i.bytes))=some (some z,1,bytes))
  (hzs:z.cells.size=1) (hgd:o.guard=none) (s x:Operand)
  (ho:o.op=.call {callee:=.builtin .append,args:=#[s,x],argTypes:=#[t,t]})
  (hs:a.eval s=v) (hown:OwnK e K B E w v l) (hE:∀ b,E b→b<w.heap.size) {S:Nat→Prop} (u:Value) (m:List α) (hx:a.eval x=u) (hu:LB K S w u m)
  (hlen:(l.length+m.length)*bytes≤140737488355328) (hl63:l.length+m.length≤9223372036854775807) (hB:B≤w.heap.size)
  (h:∀ v' w',OwnK e K B E w' v' (l++m)→Step (fun b=>b<w.heap.size∧v.ownBlock≠some b) w w'→(∀ b,b<w.heap.size→v.ownBlock≠some b→v'.ownBlock≠some b)→wpList Try.prog ops Q rest (a.put o.dst v') w'):wpList Try.prog ops Q (o :: rest) a w:=by
 obtain⟨i0,hi,hz0,hz1,hz2⟩:=info_parts hinfo
 have h1:=hown.plain_row hp
 obtain⟨ua,ub,uoff,ucap,hv,hm,ha,hcap,hS,hc⟩:=hu
 cases ua with
 | none=>
  have hm0:m=[]:=by
   cases m with
   | nil=>rfl
   | cons y m=>exact absurd (ha (by simp)) (by simp)
  subst hm0
  have hc0:=hcap.2 rfl
  subst hc0
  refine wpList_append_own_none hgd s x t ho B e i0 1 ht hi v l.length (l.map f) hs h1 (hx.trans hv) ?_
  exact h v w (by rw [List.append_nil];exact hown) (Step.refl _ _) (fun b _ h=>h)
 | some ad=>
  refine wpList_append_own_at w hgd s x t ho B e i0 z 1 bytes ht hi hz0 hz1 hz2 hzs (by decide) v l.length (l.map f) hs h1 ad m.length ucap (m.map f) (hx.trans hv) (by simp) ?_ ?_ (by unfold maxLen;omega) hlen hB ?_
  ·intro j u hj
   rw [List.getElem?_map]at hj
   cases hmj:m[j]? with
   | none=>rw [hmj]at hj;cases hj
   | some y=>
    rw [hmj]at hj
    have hu:f y=u:=by simpa using hj
    subst hu
    have hml:0<m.length:=by have:=(List.getElem?_eq_some_iff.1 hmj).1;omega
    obtain rfl:ad=⟨ub,uoff,none⟩:=by have:=ha hml;simpa using this
    obtain⟨row,r1,r2⟩:=hc j y hmj
    have:=hp.into r1
    subst this
    have:=r2 0 (f y) rfl
    rw [hp.one]at this
    simpa [Addr.add_lit] using this
  ·intro u hu
   simp only [List.mem_map]at hu
   obtain⟨y,_,rfl⟩:=hu
   exact hp.cell y
  ·intro v' w' g1 g2 _ g4
   have hlt:=World.ownsRow.lt h1
   have hlt':=World.ownsRow.lt g1
   have hst:Step (fun b=>b<w.heap.size∧v.ownBlock≠some b) w w':=Step.of_grown g2 (fun b hb=>⟨hb.1,hb.2⟩)
   refine h v' w' (.of_plain hp (by rw [List.length_append,List.map_append];exact g1) ?_) hst ?_
   ·intro g hg hEg
    rcases g4 with h' | h'
    ·exact hown.notE g (by rw [← h'];exact hg) hEg
    ·have:g=w.heap.size:=by rw [h']at hg;exact(Option.some.inj hg).symm
     have:=hE _ hEg;omega
   ·intro b hb hne e
    rcases g4 with h' | h'
    ·exact hne (by rw [← h'];exact e)
    ·have:b=w.heap.size:=by rw [h']at e;exact(Option.some.inj e).symm
     omega
end
section
variable {α : Type} {e : TypeId} {K : Kind α} {B : Nat} {E : Nat → Prop} {w w' : World} {v : Value} {l : List α}
theorem wp_appendK {o:Oper} {a:Act} {C:Act→World→Prop} {Q:Exit→Act→World→Prop} (t:TypeId) (z:Value) (bytes:Nat) (ht:Try.prog.underlying t=some (.slice e)) (hinfo:(Try.prog.info? e).map (fun i=>(i.zero,i.size,i.bytes))=some (some z,K.k,bytes))
  (hzs:z.cells.size=K.k) (hk:0<K.k) (s x:Operand)
  (ho:o.op=.call {callee:=.builtin .append,args:=#[s,x],argTypes:=#[t,t]})
  (n:Nat) (hn:l.length=n) (hs:a.eval s=v) (hown:OwnK e K B E w v l) (hE:∀ b,E b→b<w.heap.size) (nb:Nat) (y:α) (row:List Value) (hx:a.eval x=.slice (some ⟨nb,0,none⟩) 1 1)
  (hcell:∀ j u,row[j]? =some u→w.cell? ⟨nb,j,none⟩=some u) (hone:∀ u∈row,u.oneCell'=true) (hrow:K.R (fun b=>b<w.heap.size∧¬ E b∧v.ownBlock≠some b) w y row)
  (hlen:(l.length+1)*bytes≤140737488355328) (hl63:l.length<1099511627776) (hB:B≤w.heap.size)
  (h:∀ g c w',OwnK e K B E w' (.slice (some ⟨g,0,none⟩) (n+1) c) (l++[y])→Step (fun b=>b<w.heap.size∧v.ownBlock≠some b) w w'→g<w'.heap.size→(∀ b,b<w.heap.size→v.ownBlock≠some b→b≠g)→
   C (a.put o.dst (.slice (some ⟨g,0,none⟩) (n+1) c)) w'):o.wp Try.prog a w C Q:=by
 subst hn
 obtain⟨i0,hi,hz0,hz1,hz2⟩:=info_parts hinfo
 obtain⟨xs,h1,h2,h3⟩:=hown
 have hlt:=World.ownsRow.lt h1
 refine wp_append_lies w s x t ho B e i0 z K.k bytes ht hi hz0 hz1 hz2 hzs hk v l.length xs hs h1 ⟨nb,0,none⟩ 1 1 row hx (by rw [K.len hrow,Nat.one_mul]) ?_ hone (by decide) ?_ hlen hB _ rfl ?_
 ·intro j u hj
  have:=hcell j u hj
  simpa [Addr.add_lit] using this
 ·unfold maxLen;omega
 ·intro g c w' g1 g2 g3 g4
  have hst:Step (fun b=>b<w.heap.size∧v.ownBlock≠some b) w w':=Step.of_grown g2 (fun b hb=>⟨hb.1,hb.2⟩)
  have hsz:=hst.size
  have hgne:∀ b,b<w.heap.size→v.ownBlock≠some b→b≠g:=by
   intro b hb hne e
   subst e
   rcases g3 with h' | h'
   ·exact hne h'
   ·omega
  refine h g c w' ⟨xs++row,by simpa using g1,?_,?_⟩ hst g4 hgne
  ·have hr:=(h2.keeps (fun b hb=>hst.block b ⟨hb.1,hb.2.2⟩)).snoc (K.keeps hrow (fun b hb=>hst.block b ⟨hb.1,hb.2.2⟩))
   exact hr.imp fun b hb=>⟨by omega,hb.2.1,fun e=>hgne b hb.1 hb.2.2 (by simpa [Value.ownBlock] using e.symm)⟩
  ·intro g' hg' hEg
   have:g'=g:=by simpa [Value.ownBlock] using hg'.symm
   subst this
   rcases g3 with h' | h'
   ·exact h3 _ h' hEg
   ·have:=hE _ hEg;omega
end
theorem info_byte:(Try.prog.info? 5).map (fun i=>(i.zero,i.size,i.bytes))=some (some (.int .u8 0),1,1):=by kernel_rfl
end Go.Proofs.Ytpomdoliblilfaa
namespace Go.Proofs.Ytpomdoliblilfaa
set_option linter.unusedVariables false
set_option linter.unusedSimpArgs false
structure InstL where
  op:Int
  a:Int
  b:Int
  c:Int
  imm:Int
deriving DecidableEq
structure LineL where
  kind:Int
  inst:InstL
  a:Int
  name:List UInt8
  ver:List UInt8
structure FuncL where
  sym:SymL
  lines:List LineL
structure RefL where
  word:Int
  name:List UInt8
  ver:List UInt8
  add:Int
structure VarL where
  sym:SymL
  words:List Int
  refs:List RefL
  copied:Bool
structure SpecL where
  name:List UInt8
  flags:Int
  needed:List NeedL
  runPath:List (List UInt8)
  funcs:List FuncL
  vars:List VarL
  weak:List (List UInt8)
  init:List (List UInt8)
  fini:List (List UInt8)
def formsL:List (Bool × Bool × Bool × Bool):=
  [(false,false,false,false),(true,false,false,true),(true,true,false,false),(true,true,true,false),(true,true,true,false),(true,true,true,false),(true,true,true,false),(true,true,true,false),(true,true,true,false),
   (true,true,false,true),(true,true,false,true),(true,false,false,true),(true,false,false,true),(false,false,false,true),(true,false,false,true),(false,false,false,true),(true,false,false,false),(true,false,false,false),
   (false,false,false,false),(true,false,false,false),(true,false,false,false),(true,true,false,false),(false,false,false,true)]
def partB (is:Bool) (lo hi x:Int):Bool:=(is||decide (x=0))&&decide (lo≤x)&&decide (x≤hi)
def instB (i:InstL):Bool:=
  decide (0≤i.op)&&match formsL[i.op.toNat]? with
    | none=>false
    | some (a,b,c,n)=>partB a 0 15 i.a&&partB b 0 15 i.b&&partB c 0 15 i.c&&partB n (-2147483648) 2147483647 i.imm
structure PlanL where
  syms:List SymL
  cells:List (Int × Int)
  jumps:List Int
  fault:Int
def PlanL.fail (e:Int) (p:PlanL):PlanL:=if p.fault=0 then {p with fault:=e } else p
def PlanL.failIf (b:Bool) (e:Int) (p:PlanL):PlanL:=if b then p.fail e else p
def defSym (s:SymL):SymL:={s with defined:=true,value:=0,size:=0 }
def sameDef (t s:SymL):Bool:=decide (t.name=s.name)&&(decide (t.version=s.version)||(!t.old&& !s.old))
def PlanL.define (s:SymL) (tls:Bool) (e:Int) (p:PlanL):PlanL:=
  let p1:=p.failIf (!symRightB (defSym s)||(decide (s.kind=3) != tls)) e
  let p2:=p1.failIf (p.syms.any fun t=>sameDef t (defSym s)) 100
  {p2 with syms:=p.syms++[defSym s]}
def meantB (name ver:List UInt8) (s:SymL):Bool:=
  decide (s.name=name)&&((s.defined&&decide (ver=[])&& !s.old)||(s.defined&& !decide (ver=[])&&decide (s.version=ver))||(!s.defined&&decide (s.version=ver)))
def newSym (weak:List (List UInt8)) (name ver:List UInt8) (kind:Int):SymL:=⟨name,ver,false,kind,decide (name∈weak),0,false,0,0⟩
def PlanL.sym (weak:List (List UInt8)) (name ver:List UInt8) (kind:Int) (p:PlanL):PlanL × Nat:=
  match p.syms.findIdx? (meantB name ver)with
  | some i=>(p,i)
  | none=>({p with syms:=p.syms++[newSym weak name ver kind]},p.syms.length)
def symNone:SymL:=⟨[],[],false,0,false,0,false,0,0⟩
def PlanL.asked (weak:List (List UInt8)) (name ver:List UInt8) (e:Int) (kinds:List Int) (p:PlanL):PlanL × Nat:=
  let q:=p.sym weak name ver (kinds.headD 0)
  let s:=q.1.syms.getD q.2 symNone
  (q.1.failIf (!decide (s.kind∈kinds)|| !symRightB s) e,q.2)
def placeIn {α:Type} [DecidableEq α] (l:List α) (x:α):List α × Nat:=
  match l.findIdx? (fun y=>decide (y=x))with
  | some i=>(l,i)
  | none=>(l++[x],l.length)
def PlanL.cell (use sym:Int) (p:PlanL):PlanL × Nat:=let q:=placeIn p.cells (use,sym);({p with cells:=q.1 },q.2)
def PlanL.jump (sym:Int) (p:PlanL):PlanL:={p with jumps:=(placeIn p.jumps sym).1 }
def lineB (l:LineL):Bool:=decide (0≤l.kind)&&decide (l.kind≤4)&&decide (0≤l.a)&&decide (l.a<16)&&(!decide (l.kind=0)||instB l.inst)
def PlanL.line (l:LineL) (p:PlanL):PlanL:=p.failIf (!lineB l) 101
def PlanL.called (weak:List (List UInt8)) (l:LineL) (p:PlanL):PlanL:=
  if l.kind=1 then let q:=p.asked weak l.name l.ver 101 [1];q.1.jump q.2
  else if l.kind=3 then let q:=p.asked weak l.name l.ver 101 [3];((q.1.cell 1 q.2).1.cell 2 q.2).1
  else if l.kind=4 then let q:=p.asked weak l.name l.ver 101 [3];(q.1.cell 3 q.2).1
  else p
def PlanL.addressed (weak:List (List UInt8)) (l:LineL) (p:PlanL):PlanL:=
  if l.kind=2 then let q:=p.asked weak l.name l.ver 101 [2,1];(q.1.cell 0 q.2).1 else p
def SpecL.lines (s:SpecL):List LineL:=s.funcs.flatMap (·.lines)
def PlanL.needs (s:SpecL) (p:PlanL):PlanL:=
  s.lines.foldl (fun p l=>p.addressed s.weak l) (s.lines.foldl (fun p l=>p.called s.weak l) (s.lines.foldl (fun p l=>p.line l) p))
def PlanL.func (f:FuncL) (p:PlanL):PlanL:=
  ((p.failIf (decide (f.lines.length<1)||decide (256<f.lines.length)) 101).failIf (!decide (f.sym.kind=1)) 100).define f.sym false 100
def refsFrom (v:VarL):Int→List RefL→PlanL→PlanL
  | _,[],p=>p
  | last,r :: l,p=>refsFrom v r.word l (p.failIf (decide (r.word≤last)||decide ((v.words.length:Int)≤r.word)|| !decide (v.sym.kind=2)) 102)
def oddB (n:Int):Bool:=decide (n%2=1)
def PlanL.var (flags:Int) (v:VarL) (p:PlanL):PlanL:=
  refsFrom v (-1) v.refs ((p.failIf (decide (v.words.length<1)||decide (256<v.words.length)||decide (v.sym.kind=1)||(v.copied&&(!oddB flags|| !decide (v.sym.kind=2)||decide (0<v.refs.length)))) 102).define v.sym (decide (v.sym.kind=3)) 100)
def PlanL.refs (weak:List (List UInt8)) (v:VarL) (p:PlanL):PlanL:=v.refs.foldl (fun p r=>(p.asked weak r.name r.ver 102 [2,1]).1) p
def checkL (s:SpecL):PlanL:=
  let p:PlanL:=⟨[],[],[],0⟩
  let p:=p.failIf (decide (s.flags<0)||decide (15<s.flags)) 100
  let p:=s.funcs.foldl (fun p f=>p.func f) p
  let p:=s.vars.foldl (fun p v=>p.var s.flags v) p
  let p:=p.needs s
  s.vars.foldl (fun p v=>p.refs s.weak v) p
def longL (l:LineL):Int:=if l.kind=3∨l.kind=4 then 3 else 1
def linesLen:List LineL→Int
  | []=>0
  | l :: r=>longL l*8+linesLen r
def startsL:Int→List FuncL→List Int
  | _,[]=>[]
  | at_,f :: r=>at_ :: startsL (at_+linesLen f.lines) r
def endL:Int→List FuncL→Int
  | at_,[]=>at_
  | at_,f :: r=>endL (at_+linesLen f.lines) r
def varsL:Int→Int→List VarL→List Int × Int × Int
  | d,t,[]=>([],d,t)
  | d,t,v :: r=>
    if v.sym.kind=3 then let q:=varsL d (t+8*v.words.length) r;(t :: q.1,q.2)
    else let q:=varsL (d+8*v.words.length) t r;(d :: q.1,q.2)
structure LayL where
  funcs:List Int
  vars:List Int
  stubs:Int
  got:Int
  plt:Int
  data:Int
  tls:Int
def layL (s:SpecL) (p:PlanL):LayL:=
  let stubs:=endL 0 s.funcs
  let got:=upL (max 1 (stubs+24*p.jumps.length))
  let plt:=got+8*p.cells.length
  let v:=varsL (plt+8*p.jumps.length) 0 s.vars
  ⟨startsL 0 s.funcs,v.1,stubs,got,plt,v.2.1,v.2.2⟩
def loadL (got:Int) (reg use sym at_:Int) (p:PlanL):PlanL × InstL:=
  let q:=p.cell use sym
  (q.1,⟨11,reg,0,0,got+8*q.2-at_-8⟩)
def indexL (l:List Int) (x:Int):Int:=match l.findIdx? (fun y=>decide (y=x))with | some i=>i | none=> -1
def lowerL (weak:List (List UInt8)) (y:LayL) (x:LineL) (at_:Int) (p:PlanL):PlanL × List InstL:=
  if x.kind=1 then
    let q:=p.sym weak x.name x.ver 1
    (q.1,[⟨15,0,0,0,y.stubs+24*indexL q.1.jumps q.2-at_-8⟩])
  else if x.kind=2 then
    let q:=p.sym weak x.name x.ver 2
    let a:=loadL y.got x.a 0 q.2 at_ q.1
    (a.1,[a.2])
  else if x.kind=3 then
    let q:=p.sym weak x.name x.ver 3
    let a:=loadL y.got 13 2 q.2 at_ q.1
    let b:=loadL y.got x.a 1 q.2 (at_+8) a.1
    (b.1,[a.2,b.2,⟨21,x.a,13,0,0⟩])
  else if x.kind=4 then
    let q:=p.sym weak x.name x.ver 3
    let a:=loadL y.got 13 3 q.2 at_ q.1
    (a.1,[a.2,⟨20,x.a,0,0,0⟩,⟨3,x.a,x.a,13,0⟩])
  else (p,[x.inst])
def lowersL (weak:List (List UInt8)) (y:LayL):List LineL→PlanL × List InstL→PlanL × List InstL
  | [],q=>q
  | x :: r,q=>let a:=lowerL weak y x (8*q.2.length) q.1;lowersL weak y r (a.1,q.2++a.2)
def stubsL (plt:Int) (k:Nat):Nat→List InstL→List InstL
  | 0,out=>out
  | n+1,out=>stubsL plt (k+1) n (out++[⟨11,14,0,0,plt+8*k-8*out.length-8⟩,⟨17,14,0,0,0⟩,⟨22,0,0,0,k⟩])
def instsL (s:SpecL) (y:LayL) (p:PlanL):PlanL × List InstL:=
  let q:=lowersL s.weak y s.lines (p,[])
  (q.1,stubsL y.plt 0 q.1.jumps.length q.2)
def byteAt (n:Int) (i:Nat):UInt8:=UInt8.ofNat ((n%18446744073709551616).toNat/256 ^ i)
def wordsL (l:List Int):List UInt8:=l.flatMap (digitsL 8)
def instBytes (i:InstL):List UInt8:=[byteAt i.op 0,byteAt i.a 0,byteAt i.b 0,byteAt i.c 0,byteAt i.imm 0,byteAt i.imm 1,byteAt i.imm 2,byteAt i.imm 3]
def codeL (l:List InstL):List UInt8:=l.flatMap instBytes
def useKind (u:Int):Int:=if u=0 then 0 else if u=1 then 3 else if u=2 then 4 else if u=3 then 5 else 0
def cellRels (got:Int):Nat→List (Int × Int)→List RelL
  | _,[]=>[]
  | k,c :: r=>⟨got+8*k,useKind c.1,c.2,0⟩ :: cellRels got (k+1) r
def refRels (weak:List (List UInt8)) (at_:Int):List RefL→PlanL × List RelL→PlanL × List RelL
  | [],q=>q
  | r :: l,q=>let a:=q.1.sym weak r.name r.ver 2;refRels weak at_ l (a.1,q.2++[⟨at_+8*r.word,0,a.2,r.add⟩])
def varRels (weak:List (List UInt8)) (nf:Nat) (vars:List Int):Nat→List VarL→PlanL × List RelL→PlanL × List RelL
  | _,[],q=>q
  | k,v :: l,q=>
    let at_:=vars.getD k 0
    let q1:=if v.copied then (q.1,q.2++[⟨at_,2,nf+k,0⟩]) else q
    varRels weak nf vars (k+1) l (refRels weak at_ v.refs q1)
def relsL (s:SpecL) (y:LayL) (p:PlanL):PlanL × List RelL:=varRels s.weak s.funcs.length y.vars 0 s.vars (p,cellRels y.got 0 p.cells)
def namedL (s:SpecL) (funcs:List Int):List (List UInt8)→PlanL × List Int→PlanL × List Int
  | [],q=>q
  | n :: l,q=>
    match s.funcs.findIdx? (fun f=>decide (f.sym.name=n)&& !f.sym.old)with
    | some k=>namedL s funcs l (q.1,q.2++[funcs.getD k 0])
    | none=>namedL s funcs l (q.1.fail 103,q.2)
def symsF (stubs:Int):List Int→List SymL→List SymL
  | [],l=>l
  | _,[]=>[]
  | [a],s :: l=>{s with value:=a,size:=stubs-a } :: l
  | a :: b :: r,s :: l=>{s with value:=a,size:=b-a } :: symsF stubs (b :: r) l
def symsV:List Int→List VarL→List SymL→List SymL
  | a :: az,v :: vs,s :: l=>{s with value:=a,size:=8*v.words.length } :: symsV az vs l
  | _,_,l=>l
def symsL (s:SpecL) (y:LayL) (l:List SymL):List SymL:=
  let l1:=symsF y.stubs y.funcs l
  l1.take s.funcs.length++symsV y.vars s.vars (l1.drop s.funcs.length)
def countT (n:Nat):Nat:=max 1 ((n+3)/4)
def wideT (n:Nat):Nat:=if n≤8 then 1 else if n≤16 then 2 else if n≤32 then 4 else if n≤64 then 8 else if n≤128 then 16 else if n≤256 then 32 else 64
def bucketsT (syms:List SymL) (many:Nat):List (List Int):=(List.range many).map fun b=>((seenIx syms).filter fun k=>decide (homeL (symN syms k).name many=b)).map fun(k:Nat)=>(k:Int)
def markT (words:List Int) (h:Nat):List Int:=words.set (h/64%words.length) (((words.getD (h/64%words.length) 0).toNat|||(2 ^ (h%64)|||2 ^ (h/64%64)):Nat):Int)
def filterT (syms:List SymL):List Int:=((seenIx syms).map fun k=>(hashB (symN syms k).name).toNat).foldl markT (List.replicate (wideT (seenIx syms).length) 0)
def imgNone:ImgL:=⟨[],0,[],[],[],[],[],[],0,[],[],[],[],[],0⟩
def dataL (vars:List VarL):List Int:=vars.flatMap fun v=>if v.sym.kind=3 then [] else v.words
def blockT (vars:List VarL):List Int:=vars.flatMap fun v=>if v.sym.kind=3 then v.words else []
def slotsT (y:LayL):Nat→List Int→List SlotL
  | _,[]=>[]
  | k,j :: r=>⟨y.plt+8*k,j,y.stubs+(3*k+2)*8⟩ :: slotsT y (k+1) r
def imageL (s:SpecL) (y:LayL) (init fini:List Int) (q:PlanL) (insts:List InstL):ImgL:=
  let text:=codeL insts
  let data:=List.replicate (q.cells.length+q.jumps.length) 0++dataL s.vars
  let r:=relsL s y q
  {name:=s.name,flags:=s.flags,
    segs:=⟨0,max 1 text.length,text,5⟩ :: (if data=[] then [] else [⟨y.got,8*data.length,wordsL data,3⟩]),
    needed:=s.needed,runPath:=s.runPath,syms:=r.1.syms,
    buckets:=bucketsT r.1.syms (countT (seenIx r.1.syms).length),words:=filterT r.1.syms,shift:=6,
    relocs:=r.2,slots:=slotsT y 0 r.1.jumps,init:=init,fini:=fini,tls:=wordsL (blockT s.vars),tlsSize:=y.tls }
def buildL (s:SpecL):ImgL × Int:=
  if 512<s.funcs.length∨512<s.vars.length then (imgNone,104)
  else if (checkL s).fault≠0 then (imgNone,(checkL s).fault)
  else
    let p:=checkL s
    let y:=layL s p
    let i:=namedL s y.funcs s.init (p,[])
    let f:=namedL s y.funcs s.fini (i.1,[])
    if f.1.fault≠0 then (imgNone,f.1.fault)
    else if 512<p.syms.length∨65536<y.data∨4096<y.tls then (imgNone,104)
    else
      let q:=instsL s y {f.1 with syms:=symsL s y f.1.syms }
      if q.2.all instB=false then (imgNone,101)
      else
        let im:=imageL s y i.2 f.2 q.1 q.2
        if mayL im≠0 then (imgNone,mayL im) else (im,0)
end Go.Proofs.Ytpomdoliblilfaa
namespace Go.Proofs.Ytpomdoliblilfaa
set_option linter.unusedVariables false
set_option linter.unusedSimpArgs false
section
variable {p q r : PlanL} {b : Bool} {e : Int}
@[simp] theorem failIf_syms : (p.failIf b e).syms = p.syms := by unfold PlanL.failIf PlanL.fail; split <;> (try split) <;> rfl
@[simp] theorem failIf_cells : (p.failIf b e).cells = p.cells := by unfold PlanL.failIf PlanL.fail; split <;> (try split) <;> rfl
@[simp] theorem failIf_jumps : (p.failIf b e).jumps = p.jumps := by unfold PlanL.failIf PlanL.fail; split <;> (try split) <;> rfl
theorem failIf_or (b c:Bool) (e:Int) (p:PlanL):(p.failIf b e).failIf c e=p.failIf (b||c) e:=by
 unfold PlanL.failIf PlanL.fail
 by_cases h:p.fault=0<;>cases b<;>cases c<;>simp [h]
structure Ext (p q:PlanL):Prop where
 syms:p.syms <+: q.syms
 cells:p.cells <+: q.cells
 jumps:p.jumps <+: q.jumps
theorem Ext.refl (p:PlanL):Ext p p:=⟨List.prefix_refl _,List.prefix_refl _,List.prefix_refl _⟩
theorem Ext.trans (h:Ext p q) (k:Ext q r):Ext p r:=⟨h.syms.trans k.syms,h.cells.trans k.cells,h.jumps.trans k.jumps⟩
theorem Ext.failIf (b:Bool) (e:Int) (p:PlanL):Ext p (p.failIf b e):=⟨by simp,by simp,by simp⟩
end
theorem findIdx?_prefix {α:Type} {f:α→Bool} {l m:List α} {i:Nat} (h:l <+: m) (hf:l.findIdx? f=some i):m.findIdx? f=some i:=by
 obtain⟨t,rfl⟩:=h
 rw [List.findIdx?_append,hf];rfl
theorem findIdx?_snoc {α:Type} {f:α→Bool} {l:List α} {x:α} (h:l.findIdx? f=none) (hx:f x=true):(l++[x]).findIdx? f=some l.length:=by
 rw [List.findIdx?_append,h]
 simp [List.findIdx?_cons,hx]
theorem placeIn_prefix {α:Type} [DecidableEq α] (l:List α) (x:α):l <+: (placeIn l x).1:=by
 unfold placeIn
 split
 ·exact List.prefix_refl _
 ·exact List.prefix_append _ _
theorem placeIn_find {α:Type} [DecidableEq α] (l:List α) (x:α):(placeIn l x).1.findIdx? (fun y=>decide (y=x))=some (placeIn l x).2:=by
 unfold placeIn
 split
 ·rename_i h;exact h
 ·rename_i h;exact findIdx?_snoc h (by simp)
theorem placeIn_found {α:Type} [DecidableEq α] {l:List α} {x:α} {i:Nat} (h:l.findIdx? (fun y=>decide (y=x))=some i):placeIn l x=(l,i):=by
 unfold placeIn;rw [h]
theorem meant_new (weak:List (List UInt8)) (name ver:List UInt8) (k:Int):meantB name ver (newSym weak name ver k)=true:=by simp [meantB,newSym]
theorem sym_ext (weak:List (List UInt8)) (name ver:List UInt8) (k:Int) (p:PlanL):Ext p (p.sym weak name ver k).1:=by
 unfold PlanL.sym
 split
 ·exact Ext.refl p
 ·exact⟨List.prefix_append _ _,List.prefix_refl _,List.prefix_refl _⟩
theorem sym_find (weak:List (List UInt8)) (name ver:List UInt8) (k:Int) (p:PlanL):(p.sym weak name ver k).1.syms.findIdx? (meantB name ver)=some (p.sym weak name ver k).2:=by
 unfold PlanL.sym
 split
 ·rename_i h;exact h
 ·rename_i h;exact findIdx?_snoc h (meant_new _ _ _ _)
theorem sym_found {weak:List (List UInt8)} {name ver:List UInt8} {k:Int} {p:PlanL} {i:Nat} (h:p.syms.findIdx? (meantB name ver)=some i):p.sym weak name ver k=(p,i):=by
 unfold PlanL.sym;rw [h]
theorem asked_ext (weak:List (List UInt8)) (name ver:List UInt8) (e:Int) (ks:List Int) (p:PlanL):Ext p (p.asked weak name ver e ks).1:=(sym_ext weak name ver _ p).trans (Ext.failIf _ _ _)
theorem asked_find (weak:List (List UInt8)) (name ver:List UInt8) (e:Int) (ks:List Int) (p:PlanL):(p.asked weak name ver e ks).1.syms.findIdx? (meantB name ver)=some (p.asked weak name ver e ks).2:=by
 unfold PlanL.asked;simp only [failIf_syms];exact sym_find weak name ver _ p
theorem cell_ext (u s:Int) (p:PlanL):Ext p (p.cell u s).1:=⟨List.prefix_refl _,placeIn_prefix _ _,List.prefix_refl _⟩
theorem cell_find (u s:Int) (p:PlanL):(p.cell u s).1.cells.findIdx? (fun y=>decide (y=(u,s)))=some (p.cell u s).2:=placeIn_find _ _
theorem cell_found {u s:Int} {p:PlanL} {i:Nat} (h:p.cells.findIdx? (fun y=>decide (y=(u,s)))=some i):p.cell u s=(p,i):=by
 unfold PlanL.cell;rw [placeIn_found h]
theorem jump_ext (s:Int) (p:PlanL):Ext p (p.jump s):=⟨List.prefix_refl _,List.prefix_refl _,placeIn_prefix _ _⟩
theorem jump_find (s:Int) (p:PlanL):∃ k,(p.jump s).jumps.findIdx? (fun y=>decide (y=s))=some k:=⟨_,placeIn_find _ _⟩
structure LineIn (p:PlanL) (l:LineL):Prop where
 call:l.kind=1→∃ i:Nat,p.syms.findIdx? (meantB l.name l.ver)=some i∧∃ k,p.jumps.findIdx? (fun y=>decide (y=(i:Int)))=some k
 addr:l.kind=2→∃ i:Nat,p.syms.findIdx? (meantB l.name l.ver)=some i∧∃ k,p.cells.findIdx? (fun y=>decide (y=(0,(i:Int))))=some k
 tls:l.kind=3→∃ i:Nat,p.syms.findIdx? (meantB l.name l.ver)=some i∧(∃ k,p.cells.findIdx? (fun y=>decide (y=(1,(i:Int))))=some k)∧∃ k,p.cells.findIdx? (fun y=>decide (y=(2,(i:Int))))=some k
 tp:l.kind=4→∃ i:Nat,p.syms.findIdx? (meantB l.name l.ver)=some i∧∃ k,p.cells.findIdx? (fun y=>decide (y=(3,(i:Int))))=some k
theorem LineIn.ext {p q:PlanL} {l:LineL} (h:LineIn p l) (he:Ext p q):LineIn q l:=by
 refine⟨fun hk=> ?_,fun hk=> ?_,fun hk=> ?_,fun hk=> ?_⟩
 ·obtain⟨i,h1,k,h2⟩:=h.call hk
  exact⟨i,findIdx?_prefix he.syms h1,k,findIdx?_prefix he.jumps h2⟩
 ·obtain⟨i,h1,k,h2⟩:=h.addr hk
  exact⟨i,findIdx?_prefix he.syms h1,k,findIdx?_prefix he.cells h2⟩
 ·obtain⟨i,h1,⟨k,h2⟩,k',h3⟩:=h.tls hk
  exact⟨i,findIdx?_prefix he.syms h1,⟨k,findIdx?_prefix he.cells h2⟩,k',findIdx?_prefix he.cells h3⟩
 ·obtain⟨i,h1,k,h2⟩:=h.tp hk
  exact⟨i,findIdx?_prefix he.syms h1,k,findIdx?_prefix he.cells h2⟩
theorem called_ext (weak:List (List UInt8)) (l:LineL) (p:PlanL):Ext p (p.called weak l):=by
 unfold PlanL.called
 split
 ·exact(asked_ext _ _ _ _ _ p).trans (jump_ext _ _)
 ·split
  ·exact((asked_ext _ _ _ _ _ p).trans (cell_ext _ _ _)).trans (cell_ext _ _ _)
  ·split
   ·exact(asked_ext _ _ _ _ _ p).trans (cell_ext _ _ _)
   ·exact Ext.refl p
theorem addressed_ext (weak:List (List UInt8)) (l:LineL) (p:PlanL):Ext p (p.addressed weak l):=by
 unfold PlanL.addressed
 split
 ·exact(asked_ext _ _ _ _ _ p).trans (cell_ext _ _ _)
 ·exact Ext.refl p
theorem foldl_ext {α:Type} (f:PlanL→α→PlanL) (hf:∀ p x,Ext p (f p x)):∀ (l:List α) (p:PlanL),Ext p (l.foldl f p)
 | [],p=>Ext.refl p
 | x :: l,p=>(hf p x).trans (foldl_ext f hf l (f p x))
def CallIn (p:PlanL) (l:LineL):Prop:=
 (l.kind=1→∃ i:Nat,p.syms.findIdx? (meantB l.name l.ver)=some i∧∃ k,p.jumps.findIdx? (fun y=>decide (y=(i:Int)))=some k)∧
 (l.kind=3→∃ i:Nat,p.syms.findIdx? (meantB l.name l.ver)=some i∧(∃ k,p.cells.findIdx? (fun y=>decide (y=(1,(i:Int))))=some k)∧∃ k,p.cells.findIdx? (fun y=>decide (y=(2,(i:Int))))=some k)∧
 (l.kind=4→∃ i:Nat,p.syms.findIdx? (meantB l.name l.ver)=some i∧∃ k,p.cells.findIdx? (fun y=>decide (y=(3,(i:Int))))=some k)
def AddrIn (p:PlanL) (l:LineL):Prop:=l.kind=2→∃ i:Nat,p.syms.findIdx? (meantB l.name l.ver)=some i∧∃ k,p.cells.findIdx? (fun y=>decide (y=(0,(i:Int))))=some k
theorem CallIn.ext {p q:PlanL} {l:LineL} (h:CallIn p l) (he:Ext p q):CallIn q l:=by
 refine⟨fun hk=> ?_,fun hk=> ?_,fun hk=> ?_⟩
 ·obtain⟨i,h1,k,h2⟩:=h.1 hk
  exact⟨i,findIdx?_prefix he.syms h1,k,findIdx?_prefix he.jumps h2⟩
 ·obtain⟨i,h1,⟨k,h2⟩,k',h3⟩:=h.2.1 hk
  exact⟨i,findIdx?_prefix he.syms h1,⟨k,findIdx?_prefix he.cells h2⟩,k',findIdx?_prefix he.cells h3⟩
 ·obtain⟨i,h1,k,h2⟩:=h.2.2 hk
  exact⟨i,findIdx?_prefix he.syms h1,k,findIdx?_prefix he.cells h2⟩
theorem AddrIn.ext {p q:PlanL} {l:LineL} (h:AddrIn p l) (he:Ext p q):AddrIn q l:=fun hk=>by
 obtain⟨i,h1,k,h2⟩:=h hk
 exact⟨i,findIdx?_prefix he.syms h1,k,findIdx?_prefix he.cells h2⟩
theorem called_in (weak:List (List UInt8)) (l:LineL) (p:PlanL):CallIn (p.called weak l) l:=by
 have hf:∀ e ks,(p.asked weak l.name l.ver e ks).1.syms.findIdx? (meantB l.name l.ver)=some (p.asked weak l.name l.ver e ks).2:=fun e ks=>asked_find weak l.name l.ver e ks p
 refine⟨fun hk=> ?_,fun hk=> ?_,fun hk=> ?_⟩
 ·unfold PlanL.called
  rw [if_pos hk]
  exact⟨_,hf 101 [1],jump_find _ _⟩
 ·unfold PlanL.called
  rw [if_neg (by omega),if_pos hk]
  refine⟨_,hf 101 [3],⟨_,findIdx?_prefix (cell_ext 2 _ _).cells (cell_find 1 _ _)⟩,_,cell_find 2 _ _⟩
 ·unfold PlanL.called
  rw [if_neg (by omega),if_neg (by omega),if_pos hk]
  exact⟨_,hf 101 [3],_,cell_find 3 _ _⟩
theorem addressed_in (weak:List (List UInt8)) (l:LineL) (p:PlanL):AddrIn (p.addressed weak l) l:=fun hk=>by
 unfold PlanL.addressed
 rw [if_pos hk]
 exact⟨_,asked_find weak l.name l.ver 101 [2,1] p,_,cell_find 0 _ _⟩
theorem foldl_in {α:Type} {f:PlanL→α→PlanL} {P:PlanL→α→Prop} (hf:∀ p x,Ext p (f p x)) (hP:∀ p q x,P p x→Ext p q→P q x) (h:∀ p x,P (f p x) x):∀ (l:List α) (p:PlanL),∀ x∈l,P (l.foldl f p) x
 | [],_,x,hx=>by cases hx
 | y :: l,p,x,hx=>by
  rcases List.mem_cons.1 hx with rfl | hx
  ·exact hP _ _ _ (h p x) (foldl_ext f hf l (f p x))
  ·exact foldl_in hf hP h l (f p y) x hx
theorem needs_in (s:SpecL) (p:PlanL):∀ l∈s.lines,LineIn (p.needs s) l:=fun l hl=>by
 have h1:=foldl_in (f:=fun p l=>p.called s.weak l) (P:=CallIn) (fun p l=>called_ext s.weak l p) (fun p q x h he=>h.ext he) (fun p l=>called_in s.weak l p) s.lines (s.lines.foldl (fun p l=>p.line l) p) l hl
 have h2:=foldl_in (f:=fun p l=>p.addressed s.weak l) (P:=AddrIn) (fun p l=>addressed_ext s.weak l p) (fun p q x h he=>h.ext he) (fun p l=>addressed_in s.weak l p) s.lines (s.lines.foldl (fun p l=>p.called s.weak l) (s.lines.foldl (fun p l=>p.line l) p)) l hl
 have h3:=h1.ext (foldl_ext (fun p l=>p.addressed s.weak l) (fun p l=>addressed_ext s.weak l p) s.lines _)
 exact⟨h3.1,h2,h3.2.1,h3.2.2⟩
theorem refs_ext (weak:List (List UInt8)) (v:VarL) (p:PlanL):Ext p (p.refs weak v):=foldl_ext _ (fun p _=>asked_ext _ _ _ _ _ p) _ _
def RefIn (p:PlanL) (r:RefL):Prop:=∃ i:Nat,p.syms.findIdx? (meantB r.name r.ver)=some i
def VarIn (p:PlanL) (v:VarL):Prop:=∀ r∈v.refs,RefIn p r
theorem refs_in (weak:List (List UInt8)) (v:VarL) (p:PlanL):VarIn (p.refs weak v) v:=
 foldl_in (f:=fun p (r:RefL)=>(p.asked weak r.name r.ver 102 [2,1]).1) (P:=RefIn) (fun p r=>asked_ext _ _ _ _ _ p) (fun p q x ⟨i,h⟩ he=>⟨i,findIdx?_prefix he.syms h⟩) (fun p r=>⟨_,asked_find _ _ _ _ _ p⟩) v.refs p
structure Gathered (s:SpecL) (p:PlanL):Prop where
 lines:∀ l∈s.lines,LineIn p l
 vars:∀ v∈s.vars,VarIn p v
theorem check_in (s:SpecL):Gathered s (checkL s):=by
 obtain⟨p0,hp0⟩:∃ p0:PlanL,checkL s=s.vars.foldl (fun p v=>p.refs s.weak v) (p0.needs s):=⟨_,rfl⟩
 rw [hp0]
 refine⟨fun l hl=>((needs_in s p0 l hl)).ext (foldl_ext _ (fun p v=>refs_ext s.weak v p) _ _),?_⟩
 exact foldl_in (f:=fun p v=>p.refs s.weak v) (P:=VarIn) (fun p v=>refs_ext s.weak v p) (fun p q v h he r hr=>by obtain⟨i,h⟩:=h r hr;exact⟨i,findIdx?_prefix he.syms h⟩) (fun p v=>refs_in s.weak v p) s.vars _
structure Placed (s:SpecL) (l:List SymL):Prop where
 own:(s.funcs.map (fun f=>defSym f.sym)++s.vars.map (fun v=>defSym v.sym)) <+: l
 rest:∀ i x,s.funcs.length+s.vars.length≤i→l[i]? =some x→x.defined=false∧∀ k y,s.funcs.length+s.vars.length≤k→k<i→l[k]? =some y→¬ (y.name=x.name∧y.version=x.version)
end Go.Proofs.Ytpomdoliblilfaa
namespace Go.Proofs.Ytpomdoliblilfaa
set_option linter.unusedVariables false
set_option linter.unusedSimpArgs false
open Go.RowKit
abbrev Small63 (l:List UInt8):Prop:=l.length≤9223372036854775807
abbrev In63 (n:Int):Prop:= -9223372036854775808≤n∧n≤9223372036854775807
def instCells (x:InstL):List Value:=[.int .i64 x.op,.int .i64 x.a,.int .i64 x.b,.int .i64 x.c,.int .i64 x.imm]
structure InstOk (x:InstL):Prop where
 op:In63 x.op
 a:In63 x.a
 b:In63 x.b
 c:In63 x.c
 imm:In63 x.imm
def kInst:Kind InstL:={k:=5,R:=fun _ _ x r=>r=instCells x∧InstOk x,len:=fun h=>by rw [h.1];rfl,keeps:=fun h _=>h,imp:=fun h _=>h }
def lineCells (x:LineL):List Value:=[.int .i64 x.kind,.int .i64 x.inst.op,.int .i64 x.inst.a,.int .i64 x.inst.b,.int .i64 x.inst.c,.int .i64 x.inst.imm,.int .i64 x.a,.string ⟨x.name.toArray⟩,.string ⟨x.ver.toArray⟩]
structure LineOk (x:LineL):Prop where
 kind:In63 x.kind
 inst:InstOk x.inst
 a:In63 x.a
 name:Small63 x.name
 ver:Small63 x.ver
def kLine:Kind LineL:={k:=9,R:=fun _ _ x r=>r=lineCells x∧LineOk x,len:=fun h=>by rw [h.1];rfl,keeps:=fun h _=>h,imp:=fun h _=>h }
def kFunc:Kind FuncL:={k:=10,R:=fun S w x r=>∃ c,r=symCells x.sym++[c]∧LB kLine S w c x.lines∧SymOk x.sym,len:=fun⟨_,h,_⟩=>by rw [h];rfl,keeps:=fun⟨c,h,h',h3⟩ hk=>⟨c,h,h'.keeps hk,h3⟩,imp:=fun⟨c,h,h',h3⟩ hi=>⟨c,h,h'.imp hi,h3⟩}
def refCells (x:RefL):List Value:=[.int .i64 x.word,.string ⟨x.name.toArray⟩,.string ⟨x.ver.toArray⟩,.int .i64 x.add]
def kRef:Kind RefL:={k:=4,R:=fun _ _ x r=>r=refCells x∧In63 x.word∧In63 x.add∧Small63 x.name∧Small63 x.ver,len:=fun h=>by rw [h.1];rfl,keeps:=fun h _=>h,imp:=fun h _=>h }
def kVar:Kind VarL:={k:=12,R:=fun S w x r=>∃ c d,r=symCells x.sym++[c,d,.bool x.copied]∧LB kInt S w c x.words∧LB kRef S w d x.refs∧SymOk x.sym,len:=fun⟨_,_,h,_⟩=>by rw [h];rfl,keeps:=fun⟨c,d,h,h1,h2,h3⟩ hk=>⟨c,d,h,h1.keeps hk,h2.keeps hk,h3⟩,imp:=fun⟨c,d,h,h1,h2,h3⟩ hi=>⟨c,d,h,h1.imp hi,h2.imp hi,h3⟩}
def cellCells (x:Int × Int):List Value:=[.int .i64 x.1,.int .i64 x.2]
def kCell:Kind (Int × Int):={k:=2,R:=fun _ _ x r=>r=cellCells x,len:=fun h=>by rw [h];rfl,keeps:=fun h _=>h,imp:=fun h _=>h }
structure SpecV where
 needed:Value
 runPath:Value
 funcs:Value
 vars:Value
 weak:Value
 init:Value
 fini:Value
def specCells (v:SpecV) (s:SpecL):List Value:=[.string ⟨s.name.toArray⟩,.int .i64 s.flags,v.needed,v.runPath,v.funcs,v.vars,v.weak,v.init,v.fini]
structure SpecM (S:Nat→Prop) (w:World) (v:SpecV) (s:SpecL):Prop where
 needed:LB kNeed S w v.needed s.needed
 runPath:LB kStr S w v.runPath s.runPath
 funcs:LB kFunc S w v.funcs s.funcs
 vars:LB kVar S w v.vars s.vars
 weak:LB kStr S w v.weak s.weak
 init:LB kStr S w v.init s.init
 fini:LB kStr S w v.fini s.fini
 name:Small63 s.name
 flags:In63 s.flags
theorem SpecM.keeps {S:Nat→Prop} {w w':World} {v:SpecV} {s:SpecL} (h:SpecM S w v s) (hk:Keeps S w w'):SpecM S w' v s:=
 ⟨h.needed.keeps hk,h.runPath.keeps hk,h.funcs.keeps hk,h.vars.keeps hk,h.weak.keeps hk,h.init.keeps hk,h.fini.keeps hk,h.name,h.flags⟩
structure PlanV where
 syms:Value
 cells:Value
 jumps:Value
def PlanV.has (v:PlanV) (b:Nat):Prop:=v.syms.ownBlock=some b∨v.cells.ownBlock=some b∨v.jumps.ownBlock=some b
def planCells (sv:SpecV) (s:SpecL) (own:Int) (v:PlanV) (p:PlanL):List Value:=specCells sv s++[v.syms,.int .i64 own,v.cells,v.jumps,.int .i64 p.fault]
structure PlanM (B pb:Nat) (w:World) (sv:SpecV) (s:SpecL) (own:Int) (v:PlanV) (p:PlanL):Prop where
 ex:w.heap[pb]? =some (.cells (planCells sv s own v p).toArray 81 (0,0))
 base:B≤pb
 syms:OwnK 52 kSym B (fun b=>b=pb∨v.cells.ownBlock=some b∨v.jumps.ownBlock=some b) w v.syms p.syms
 cells:OwnK 122 kCell B (fun b=>b=pb∨v.syms.ownBlock=some b∨v.jumps.ownBlock=some b) w v.cells p.cells
 jumps:OwnK 3 kInt B (fun b=>b=pb∨v.syms.ownBlock=some b∨v.cells.ownBlock=some b) w v.jumps p.jumps
structure PStep (pb:Nat) (v v':PlanV) (w w':World):Prop where
 step:Step (fun b=>b<w.heap.size∧b≠pb∧¬ v.has b) w w'
 new:∀ b,v'.has b→v.has b∨w.heap.size≤b
theorem PStep.refl (pb:Nat) (v:PlanV) (w:World):PStep pb v v w w:=⟨Step.refl _ _,fun _ h=>Or.inl h⟩
theorem PStep.trans {pb:Nat} {v v1 v2:PlanV} {w w1 w2:World} (h:PStep pb v v1 w w1) (k:PStep pb v1 v2 w1 w2):PStep pb v v2 w w2:=by
 have hsz:=h.step.size
 refine⟨h.step.trans (k.step.imp fun b hb=>⟨by omega,hb.2.1,fun hh=> ?_⟩),fun b hb=> ?_⟩
 ·rcases h.new b hh with h1 | h1
  ·exact hb.2.2 h1
  ·omega
 ·rcases k.new b hb with h1 | h1
  ·exact h.new b h1
  ·right;omega
theorem PStep.below {pb:Nat} {v:PlanV} {w w':World} (h:Below w.heap.size w w'):PStep pb v v w w':=⟨(Step.of_below h).imp fun b hb=>hb.1,fun _ h=>Or.inl h⟩
section
variable {B pb : Nat} {w w' : World} {sv : SpecV} {s : SpecL} {own : Int} {v : PlanV} {p : PlanL}
theorem PlanM.lt (h:PlanM B pb w sv s own v p):pb<w.heap.size:=by
 rcases Nat.lt_or_ge pb w.heap.size with h' | h'
 ·exact h'
 ·have:=h.ex;rw [Array.getElem?_eq_none h']at this;cases this
theorem PlanM.has_lt (h:PlanM B pb w sv s own v p) {b:Nat} (hb:v.has b):B≤b∧b<w.heap.size∧b≠pb:=by
 rcases hb with h1 | h1 | h1
 ·have:=h.syms.lt b h1;exact⟨this.1,this.2,fun e=>h.syms.notE b h1 (Or.inl e)⟩
 ·have:=h.cells.lt b h1;exact⟨this.1,this.2,fun e=>h.cells.notE b h1 (Or.inl e)⟩
 ·have:=h.jumps.lt b h1;exact⟨this.1,this.2,fun e=>h.jumps.notE b h1 (Or.inl e)⟩
theorem PlanM.below (h:PlanM B pb w sv s own v p) (hb:Below w.heap.size w w'):PlanM B pb w' sv s own v p:=
 ⟨(hb.block pb h.lt).trans h.ex,h.base,h.syms.below hb,h.cells.below hb,h.jumps.below hb⟩
theorem PStep.low {v':PlanV} (h:PStep pb v v' w w') (hM:PlanM B pb w sv s own v p) (hB:B≤w.heap.size):Below B w w':=by
 refine(h.step.imp (S':=(·<B)) fun b hb=>⟨?_,?_,fun hh=> ?_⟩).below
 ·have hb:b<B:=hb;omega
 ·have hb:b<B:=hb;have:=hM.base;omega
 ·have hb:b<B:=hb;have:=(hM.has_lt hh).1;omega
theorem planCell {sv:SpecV} {s:SpecL} {own:Int} {v:PlanV} {p:PlanL} (h:w.heap[pb]? =some (.cells (planCells sv s own v p).toArray 81 (0,0))) (i:Nat) (u:Value) (hu:(planCells sv s own v p)[i]? =some u):w.cell? ⟨pb,i,none⟩=some u:=by
 rw [Lib.cell_of_heap h];simpa using hu
theorem PlanM.c0 (h:PlanM B pb w sv s own v p):w.cell? ⟨pb,0,none⟩=some (.string ⟨s.name.toArray⟩):=planCell h.ex 0 _ rfl
theorem PlanM.c1 (h:PlanM B pb w sv s own v p):w.cell? ⟨pb,1,none⟩=some (.int .i64 s.flags):=planCell h.ex 1 _ rfl
theorem PlanM.c2 (h:PlanM B pb w sv s own v p):w.cell? ⟨pb,2,none⟩=some sv.needed:=planCell h.ex 2 _ rfl
theorem PlanM.c3 (h:PlanM B pb w sv s own v p):w.cell? ⟨pb,3,none⟩=some sv.runPath:=planCell h.ex 3 _ rfl
theorem PlanM.c4 (h:PlanM B pb w sv s own v p):w.cell? ⟨pb,4,none⟩=some sv.funcs:=planCell h.ex 4 _ rfl
theorem PlanM.c5 (h:PlanM B pb w sv s own v p):w.cell? ⟨pb,5,none⟩=some sv.vars:=planCell h.ex 5 _ rfl
theorem PlanM.c6 (h:PlanM B pb w sv s own v p):w.cell? ⟨pb,6,none⟩=some sv.weak:=planCell h.ex 6 _ rfl
theorem PlanM.c7 (h:PlanM B pb w sv s own v p):w.cell? ⟨pb,7,none⟩=some sv.init:=planCell h.ex 7 _ rfl
theorem PlanM.c8 (h:PlanM B pb w sv s own v p):w.cell? ⟨pb,8,none⟩=some sv.fini:=planCell h.ex 8 _ rfl
theorem PlanM.c9 (h:PlanM B pb w sv s own v p):w.cell? ⟨pb,9,none⟩=some v.syms:=planCell h.ex 9 _ rfl
theorem PlanM.c10 (h:PlanM B pb w sv s own v p):w.cell? ⟨pb,10,none⟩=some (.int .i64 own):=planCell h.ex 10 _ rfl
theorem PlanM.c11 (h:PlanM B pb w sv s own v p):w.cell? ⟨pb,11,none⟩=some v.cells:=planCell h.ex 11 _ rfl
theorem PlanM.c12 (h:PlanM B pb w sv s own v p):w.cell? ⟨pb,12,none⟩=some v.jumps:=planCell h.ex 12 _ rfl
theorem PlanM.c13 (h:PlanM B pb w sv s own v p):w.cell? ⟨pb,13,none⟩=some (.int .i64 p.fault):=planCell h.ex 13 _ rfl
theorem PlanM.frozen (h:PlanM B pb w sv s own v p) (i:Nat):w.frozen? ⟨pb,i,none⟩=false:=Lib.frozen_of_heap h.ex i
theorem setCell_list {xs:List Value} {t:TypeId} (h:w.heap[pb]? =some (.cells xs.toArray t (0,0))) (i:Nat) (u:Value):(w.setCell ⟨pb,i,none⟩ u).heap[pb]? =some (.cells (xs.set i u).toArray t (0,0)):=by
 simp [World.setCell,Array.getElem?_modify,h]
theorem OwnK.setOther {α:Type} {e:TypeId} {K:Kind α} {E:Nat→Prop} {u:Value} {l:List α} (h:OwnK e K B E w u l) (hE:E pb) (i:Nat) (x:Value):OwnK e K B E (w.setCell ⟨pb,i,none⟩ x) u l:=
 h.step (S:=fun b=>b≠pb) ((Step.refl _ w).setCell (fun h=>h rfl) x) (fun b _ hb=>fun e=>hb (e ▸ hE))
theorem PlanM.setFault (h:PlanM B pb w sv s own v p) (e:Int):PlanM B pb (w.setCell ⟨pb,13,none⟩ (.int .i64 e)) sv s own v {p with fault:=e }:=
 ⟨setCell_list h.ex 13 _,h.base,h.syms.setOther (Or.inl rfl) 13 _,h.cells.setOther (Or.inl rfl) 13 _,h.jumps.setOther (Or.inl rfl) 13 _⟩
theorem PStep.set (v:PlanV) (i:Nat) (x:Value):PStep pb v v w (w.setCell ⟨pb,i,none⟩ x):=
 ⟨(Step.refl _ w).setCell (fun h=>h.2.1 rfl) x,fun _ h=>Or.inl h⟩
end
end Go.Proofs.Ytpomdoliblilfaa
namespace Go.Proofs.Ytpomdoliblilfaa
set_option linter.unusedVariables false
set_option linter.unusedSimpArgs false
open Go.RowKit
theorem find_start {α:Type} (f:α→Bool) (l:List α):(l.take 0).findIdx? f=none:=by simp
theorem find_next {α:Type} {f:α→Bool} {l:List α} {k:Nat} {x:α} (h:(l.take k).findIdx? f=none) (hx:l[k]? =some x) (hf:f x=false):(l.take (k+1)).findIdx? f=none:=by
 rw [List.take_add_one,hx,List.findIdx?_append,h]
 simp [List.findIdx?_cons,hf]
theorem find_hit {α:Type} {f:α→Bool} {l:List α} {k:Nat} {x:α} (h:(l.take k).findIdx? f=none) (hx:l[k]? =some x) (hf:f x=true):l.findIdx? f=some k:=by
 obtain⟨hk,hx'⟩:=List.getElem?_eq_some_iff.1 hx
 have e:l=l.take k++(x :: l.drop (k+1)):=by rw [← hx',← List.drop_eq_getElem_cons hk,List.take_append_drop]
 have hl:(l.take k).length=k:=by simp;omega
 clear hx hx' hk
 generalize l.take k=A at *
 generalize l.drop (k+1)=B at *
 rw [e,List.findIdx?_append,h]
 simp [List.findIdx?_cons,hf,hl]
theorem find_end {α:Type} {f:α→Bool} {l:List α} (h:(l.take l.length).findIdx? f=none):l.findIdx? f=none:=by rwa [List.take_length]at h
def idxV (o:Option Nat):Int:=match o with | some i=>i | none=> -1
theorem indexL_eq (l:List Int) (x:Int):indexL l x=idxV (l.findIdx? fun y=>decide (y=x)):=by unfold indexL idxV;rfl
set_option maxHeartbeats 2000000 in
set_option maxRecDepth 100000 in
theorem fail_any {B pb:Nat} {w:World} {sv:SpecV} {s:SpecL} {own:Int} {v:PlanV} {p:PlanL} (e:Int) (hM:PlanM B pb w sv s own v p):
  Calls Try.prog 39 #[.pointer (some ⟨pb,0,none⟩),.int .i64 e] w fun x w'=>x=.returned (.tuple #[])∧PlanM B pb w' sv s own v (p.fail e)∧PStep pb v v w w':=by
 have c:=hM.c13
 have f:=hM.frozen 13
 have HM:=Lib.hid hM
 by_cases h:p.fault=0
 ·have hb:(p.fault==0)=true:=by simp [h]
  have HP:Hid (p.fail e={p with fault:=e }):=Lib.hid (by unfold PlanL.fail;rw [if_pos h])
  rw [HP.out]
  have HN:=Lib.hid (hM.setFault e)
  clear hM h
  go_enter Try.func39,Try.ntmps39
  go_wp2
  go_end0
  exact⟨rfl,HN.out,PStep.set _ _ _⟩
 ·have hb:(p.fault==0)=false:=by simp [h]
  have HP:Hid (p.fail e=p):=Lib.hid (by unfold PlanL.fail;rw [if_neg h])
  rw [HP.out]
  clear hM h
  go_enter Try.func39,Try.ntmps39
  go_wp2
  go_end0
  exact⟨rfl,HM.out,PStep.refl _ _ _⟩
set_option maxHeartbeats 4000000 in
set_option maxRecDepth 100000 in
theorem indexInt_any {S:Nat→Prop} (w:World) (u:Value) (l:List Int) (x:Int) (hl:LB kInt S w u l):
  Calls Try.prog 86 #[u,.int .i64 x] w fun e w'=>e=.returned (.int .i64 (idxV (l.findIdx? fun y=>decide (y=x))))∧w'=w:=by
 obtain⟨a,b,off,cap,rfl,hm,_,hat⟩:=hl.at
 have Hat:=Lib.hid hat
 have ha:=hat.addr
 obtain⟨n,hn⟩:∃ n,n=l.length:=⟨_,rfl⟩
 have Hn:=Lib.hid hn
 rw [← hn]at hm ha ⊢
 clear hl hat hn
 go_enter Try.func86,Try.ntmps86
 go_wp2
 go_loop [8] (fun i=>∃ k:Nat,i=.int .i64 k∧k≤n∧(l.take k).findIdx? (fun y=>decide (y=x))=none) (fun i=>n-(intOf i).toNat)
 case atStart=>exact⟨0,rfl,Nat.zero_le _,find_start _ _⟩
 case round=>
  obtain⟨k,rfl,hk,hf⟩:=hrel
  have Hf:=Lib.hid hf
  clear hf
  by_cases hlt:k<n
  ·obtain rfl:=ha (by omega)
   obtain⟨y,hy⟩:∃ y,l[k]? =some y:=⟨_,List.getElem?_eq_getElem (by rw [← Hn.out];exact hlt)⟩
   have hc:=Hat.out.int1 k y hy
   have Hy:=Lib.hid hy
   have hk0:(0:Int)≤(k:Int):=Int.natCast_nonneg _
   have hk2:(k:Int)<(n:Int):=by omega
   clear hy
   by_cases hxy:y=x
   ·have Hh:=Lib.hid (find_hit Hf.out Hy.out (f:=fun y=>decide (y=x)) (by simp [hxy]))
    have hb:(x==y)=true:=by simp [hxy]
    clear hxy
    go_wp2
    go_ret
    exact⟨by rw [Hh.out];rfl,rfl⟩
   ·have Hh:=Lib.hid (find_next Hf.out Hy.out (f:=fun y=>decide (y=x)) (by simp [hxy]))
    have hb:(x==y)=false:=by simp;exact fun e=>hxy e.symm
    clear hxy
    go_wp2
    go_round
    case rel=>exact⟨k+1,by go_num,by omega,Hh.out⟩
    case measure=>simp [intOf];omega
  ·have Hh:Hid (l.findIdx? (fun y=>decide (y=x))=none):=Lib.hid (find_end (by have:=Hf.out;rwa [show k=l.length by have:=Hn.out;omega]at this))
   go_wp2
   go_ret
   exact⟨by rw [Hh.out];rfl,rfl⟩
set_option maxHeartbeats 4000000 in
set_option maxRecDepth 100000 in
theorem indexStr_any {S:Nat→Prop} (w:World) (u:Value) (l:List (List UInt8)) (x:List UInt8) (hl:LB kStr S w u l):
  Calls Try.prog 108 #[u,.string ⟨x.toArray⟩] w fun e w'=>e=.returned (.int .i64 (idxV (l.findIdx? fun y=>decide (y=x))))∧w'=w:=by
 obtain⟨a,b,off,cap,rfl,hm,_,hat⟩:=hl.at
 have Hat:=Lib.hid hat
 have ha:=hat.addr
 obtain⟨n,hn⟩:∃ n,n=l.length:=⟨_,rfl⟩
 have Hn:=Lib.hid hn
 rw [← hn]at hm ha ⊢
 clear hl hat hn
 go_enter Try.func108,Try.ntmps108
 go_wp2
 go_loop [8] (fun i=>∃ k:Nat,i=.int .i64 k∧k≤n∧(l.take k).findIdx? (fun y=>decide (y=x))=none) (fun i=>n-(intOf i).toNat)
 case atStart=>exact⟨0,rfl,Nat.zero_le _,find_start _ _⟩
 case round=>
  obtain⟨k,rfl,hk,hf⟩:=hrel
  have Hf:=Lib.hid hf
  clear hf
  by_cases hlt:k<n
  ·obtain rfl:=ha (by omega)
   obtain⟨y,hy⟩:∃ y,l[k]? =some y:=⟨_,List.getElem?_eq_getElem (by rw [← Hn.out];exact hlt)⟩
   have hc:=(Hat.out.str1 k y hy).1
   have Hy:=Lib.hid hy
   have hk0:(0:Int)≤(k:Int):=Int.natCast_nonneg _
   have hk2:(k:Int)<(n:Int):=by omega
   clear hy
   by_cases hxy:y=x
   ·have Hh:=Lib.hid (find_hit Hf.out Hy.out (f:=fun y=>decide (y=x)) (by simp [hxy]))
    have hb:(x==y)=true:=by simp [hxy]
    clear hxy
    go_wp2
    go_ret
    exact⟨by rw [Hh.out];rfl,rfl⟩
   ·have Hh:=Lib.hid (find_next Hf.out Hy.out (f:=fun y=>decide (y=x)) (by simp [hxy]))
    have hb:(x==y)=false:=by simp;exact fun e=>hxy e.symm
    clear hxy
    go_wp2
    go_round
    case rel=>exact⟨k+1,by go_num,by omega,Hh.out⟩
    case measure=>simp [intOf];omega
  ·have Hh:Hid (l.findIdx? (fun y=>decide (y=x))=none):=Lib.hid (find_end (by have:=Hf.out;rwa [show k=l.length by have:=Hn.out;omega]at this))
   go_wp2
   go_ret
   exact⟨by rw [Hh.out];rfl,rfl⟩
set_option maxHeartbeats 4000000 in
set_option maxRecDepth 100000 in
theorem indexKind_any {S:Nat→Prop} (w:World) (u:Value) (l:List Int) (x:Int) (hl:LB kInt S w u l):
  Calls Try.prog 105 #[u,.int .i64 x] w fun e w'=>e=.returned (.int .i64 (idxV (l.findIdx? fun y=>decide (y=x))))∧w'=w:=by
 obtain⟨a,b,off,cap,rfl,hm,_,hat⟩:=hl.at
 have Hat:=Lib.hid hat
 have ha:=hat.addr
 obtain⟨n,hn⟩:∃ n,n=l.length:=⟨_,rfl⟩
 have Hn:=Lib.hid hn
 rw [← hn]at hm ha ⊢
 clear hl hat hn
 go_enter Try.func105,Try.ntmps105
 go_wp2
 go_loop [8] (fun i=>∃ k:Nat,i=.int .i64 k∧k≤n∧(l.take k).findIdx? (fun y=>decide (y=x))=none) (fun i=>n-(intOf i).toNat)
 case atStart=>exact⟨0,rfl,Nat.zero_le _,find_start _ _⟩
 case round=>
  obtain⟨k,rfl,hk,hf⟩:=hrel
  have Hf:=Lib.hid hf
  clear hf
  by_cases hlt:k<n
  ·obtain rfl:=ha (by omega)
   obtain⟨y,hy⟩:∃ y,l[k]? =some y:=⟨_,List.getElem?_eq_getElem (by rw [← Hn.out];exact hlt)⟩
   have hc:=Hat.out.int1 k y hy
   have Hy:=Lib.hid hy
   have hk0:(0:Int)≤(k:Int):=Int.natCast_nonneg _
   have hk2:(k:Int)<(n:Int):=by omega
   clear hy
   by_cases hxy:y=x
   ·have Hh:=Lib.hid (find_hit Hf.out Hy.out (f:=fun y=>decide (y=x)) (by simp [hxy]))
    have hb:(x==y)=true:=by simp [hxy]
    clear hxy
    go_wp2
    go_ret
    exact⟨by rw [Hh.out];rfl,rfl⟩
   ·have Hh:=Lib.hid (find_next Hf.out Hy.out (f:=fun y=>decide (y=x)) (by simp [hxy]))
    have hb:(x==y)=false:=by simp;exact fun e=>hxy e.symm
    clear hxy
    go_wp2
    go_round
    case rel=>exact⟨k+1,by go_num,by omega,Hh.out⟩
    case measure=>simp [intOf];omega
  ·have Hh:Hid (l.findIdx? (fun y=>decide (y=x))=none):=Lib.hid (find_end (by have:=Hf.out;rwa [show k=l.length by have:=Hn.out;omega]at this))
   go_wp2
   go_ret
   exact⟨by rw [Hh.out];rfl,rfl⟩
theorem idxV_ge (o:Option Nat):decide (0≤idxV o)=o.isSome:=by
 cases o with
 | none=>rfl
 | some i=>simp [idxV]
set_option maxHeartbeats 2000000 in
set_option maxRecDepth 100000 in
theorem hasKind_any {S:Nat→Prop} (w:World) (u:Value) (l:List Int) (x:Int) (hl:LB kInt S w u l):
  Calls Try.prog 79 #[u,.int .i64 x] w fun e w'=>e=.returned (.bool (decide (x∈l)))∧w'=w:=by
 have HI:=Lib.hid (indexKind_any w u l x hl)
 have Hx:Hid (decide (0≤idxV (l.findIdx? fun y=>decide (y=x)))=decide (x∈l)):=Lib.hid (by
  rw [idxV_ge,Bool.eq_iff_iff,decide_eq_true_iff,List.findIdx?_isSome]
  simp)
 rw [← Hx.out]
 clear hl Hx
 generalize idxV (l.findIdx? fun y=>decide (y=x))=k at *
 go_enter Try.func79,Try.ntmps79
 go_wp2_with fail
 refine HI.out.mono ?_
 rintro e w' ⟨rfl,rfl⟩
 go_wp2
 go_ret
 exact⟨rfl,rfl⟩
set_option maxHeartbeats 2000000 in
set_option maxRecDepth 100000 in
theorem hasStr_any {S:Nat→Prop} (w:World) (u:Value) (l:List (List UInt8)) (x:List UInt8) (hl:LB kStr S w u l):
  Calls Try.prog 87 #[u,.string ⟨x.toArray⟩] w fun e w'=>e=.returned (.bool (decide (x∈l)))∧w'=w:=by
 have HI:=Lib.hid (indexStr_any w u l x hl)
 have Hx:Hid (decide (0≤idxV (l.findIdx? fun y=>decide (y=x)))=decide (x∈l)):=Lib.hid (by
  rw [idxV_ge,Bool.eq_iff_iff,decide_eq_true_iff,List.findIdx?_isSome]
  simp)
 rw [← Hx.out]
 clear hl Hx
 generalize idxV (l.findIdx? fun y=>decide (y=x))=k at *
 go_enter Try.func87,Try.ntmps87
 go_wp2_with fail
 refine HI.out.mono ?_
 rintro e w' ⟨rfl,rfl⟩
 go_wp2
 go_ret
 exact⟨rfl,rfl⟩
end Go.Proofs.Ytpomdoliblilfaa
namespace Go.Proofs.Ytpomdoliblilfaa
set_option linter.unusedVariables false
set_option linter.unusedSimpArgs false
open Go.RowKit
def FlatK {α:Type} (K:Kind α):Prop:=∀ S S' w w' x r,K.R S w x r→K.R S' w' x r
theorem flat_int:FlatK kInt:=fun _ _ _ _ _ _ h=>h
theorem flat_cell:FlatK kCell:=fun _ _ _ _ _ _ h=>h
theorem flat_sym:FlatK kSym:=fun _ _ _ _ _ _ h=>h
theorem flat_inst:FlatK kInst:=fun _ _ _ _ _ _ h=>h
section
variable {α : Type} {e : TypeId} {K : Kind α} {B : Nat} {E E' : Nat → Prop} {w w' : World} {v : Value} {l : List α}
theorem RowsOf.flat (hK:FlatK K) {S S':Nat→Prop}:∀ {l:List α} {xs:List Value},RowsOf K S w l xs→RowsOf K S' w' l xs
 | [],_,h=>h
 | _ :: _,_,⟨r,xs',h1,h2,h3⟩=>⟨r,xs',h1,hK _ _ _ _ _ _ h2,RowsOf.flat hK h3⟩
theorem OwnK.reE (hK:FlatK K) (h:OwnK e K B E w v l) (hE:∀ g,v.ownBlock=some g→¬ E' g):OwnK e K B E' w v l:=by
 obtain⟨xs,h1,h2,_⟩:=h
 exact⟨xs,h1,h2.flat hK,hE⟩
theorem OwnK.where_ {N g n c:Nat} (h:OwnK e K B (fun b=>b<N∧¬ v.ownBlock=some b) w' (.slice (some ⟨g,0,none⟩) n c) l):∀ b,(Value.slice (some ⟨g,0,none⟩) n c).ownBlock=some b→v.ownBlock=some b∨N≤b:=by
 intro b hb
 have:=h.notE b hb
 rcases Nat.lt_or_ge b N with h1 | h1
 ·left
  rcases Classical.em (v.ownBlock=some b)with h2 | h2
  ·exact h2
  ·exact absurd ⟨h1,h2⟩ this
 ·exact Or.inr h1
end
theorem info_cell:(Try.prog.info? 122).map (fun i=>(i.zero,i.size,i.bytes))=some (some (.agg #[.int .i64 0,.int .i64 0]),2,16):=by kernel_rfl
theorem info_intB:(Try.prog.info? 3).map (fun i=>(i.zero,i.size,i.bytes))=some (some (.int .i64 0),1,8):=by kernel_rfl
section
variable {B pb : Nat} {w w' : World} {sv : SpecV} {s : SpecL} {own : Int} {v : PlanV} {p : PlanL} {u : Value}
theorem PlanM.putCells {l:List (Int × Int)} (hM:PlanM B pb w sv s own v p) (hst:Step (fun b=>b<w.heap.size∧v.cells.ownBlock≠some b) w w') (hown:OwnK 122 kCell B (fun _=>False) w' u l)
  (hnew:∀ b,u.ownBlock=some b→v.cells.ownBlock=some b∨w.heap.size≤b):
  PlanM B pb (w'.setCell ⟨pb,11,none⟩ u) sv s own {v with cells:=u } {p with cells:=l }∧PStep pb v {v with cells:=u } w (w'.setCell ⟨pb,11,none⟩ u):=by
 have hpl:=hM.lt
 have hpc:v.cells.ownBlock≠some pb:=fun e=>hM.cells.notE pb e (Or.inl rfl)
 have hupb:u.ownBlock≠some pb:=fun e=>by rcases hnew pb e with h | h;exact hpc h;omega
 have hex:w'.heap[pb]? =some (.cells (planCells sv s own v p).toArray 81 (0,0)):=(hst.block pb ⟨hpl,hpc⟩).trans hM.ex
 have hs:OwnK 52 kSym B (fun b=>b=pb∨u.ownBlock=some b∨v.jumps.ownBlock=some b) w' v.syms p.syms:=
  (hM.syms.step hst (fun b hb hE=>⟨hb,fun h=>hE (Or.inr (Or.inl h))⟩)).reE flat_sym (fun g hg h=>by
   rcases h with h | h | h
   ·exact hM.syms.notE g hg (Or.inl h)
   ·rcases hnew g h with h' | h'
    ·exact hM.syms.notE g hg (Or.inr (Or.inl h'))
    ·have:=(hM.syms.lt g hg).2;omega
   ·exact hM.syms.notE g hg (Or.inr (Or.inr h)))
 have hj:OwnK 3 kInt B (fun b=>b=pb∨v.syms.ownBlock=some b∨u.ownBlock=some b) w' v.jumps p.jumps:=
  (hM.jumps.step hst (fun b hb hE=>⟨hb,fun h=>hE (Or.inr (Or.inr h))⟩)).reE flat_int (fun g hg h=>by
   rcases h with h | h | h
   ·exact hM.jumps.notE g hg (Or.inl h)
   ·exact hM.jumps.notE g hg (Or.inr (Or.inl h))
   ·rcases hnew g h with h' | h'
    ·exact hM.jumps.notE g hg (Or.inr (Or.inr h'))
    ·have:=(hM.jumps.lt g hg).2;omega)
 have hc:OwnK 122 kCell B (fun b=>b=pb∨v.syms.ownBlock=some b∨v.jumps.ownBlock=some b) w' u l:=hown.reE flat_cell (fun g hg h=>by
  rcases h with h | h | h
  ·exact hupb (h ▸ hg)
  ·rcases hnew g hg with h' | h'
   ·exact hM.syms.notE g h (Or.inr (Or.inl h'))
   ·have:=(hM.syms.lt g h).2;omega
  ·rcases hnew g hg with h' | h'
   ·exact hM.jumps.notE g h (Or.inr (Or.inr h'))
   ·have:=(hM.jumps.lt g h).2;omega)
 refine⟨⟨setCell_list hex 11 u,hM.base,hs.setOther (Or.inl rfl) 11 u,hc.setOther (Or.inl rfl) 11 u,hj.setOther (Or.inl rfl) 11 u⟩,⟨(hst.imp (fun b hb=>⟨hb.1,fun h=>hb.2.2 (Or.inr (Or.inl h))⟩)).setCell (fun h=>h.2.1 rfl) u,fun b hb=> ?_⟩⟩
 rcases hb with h | h | h
 ·exact Or.inl (Or.inl h)
 ·rcases hnew b h with h' | h'
  ·exact Or.inl (Or.inr (Or.inl h'))
  ·exact Or.inr h'
 ·exact Or.inl (Or.inr (Or.inr h))
theorem PlanM.putJumps {l:List Int} (hM:PlanM B pb w sv s own v p) (hst:Step (fun b=>b<w.heap.size∧v.jumps.ownBlock≠some b) w w') (hown:OwnK 3 kInt B (fun _=>False) w' u l)
  (hnew:∀ b,u.ownBlock=some b→v.jumps.ownBlock=some b∨w.heap.size≤b):
  PlanM B pb (w'.setCell ⟨pb,12,none⟩ u) sv s own {v with jumps:=u } {p with jumps:=l }∧PStep pb v {v with jumps:=u } w (w'.setCell ⟨pb,12,none⟩ u):=by
 have hpl:=hM.lt
 have hpc:v.jumps.ownBlock≠some pb:=fun e=>hM.jumps.notE pb e (Or.inl rfl)
 have hupb:u.ownBlock≠some pb:=fun e=>by rcases hnew pb e with h | h;exact hpc h;omega
 have hex:w'.heap[pb]? =some (.cells (planCells sv s own v p).toArray 81 (0,0)):=(hst.block pb ⟨hpl,hpc⟩).trans hM.ex
 have hs:OwnK 52 kSym B (fun b=>b=pb∨v.cells.ownBlock=some b∨u.ownBlock=some b) w' v.syms p.syms:=
  (hM.syms.step hst (fun b hb hE=>⟨hb,fun h=>hE (Or.inr (Or.inr h))⟩)).reE flat_sym (fun g hg h=>by
   rcases h with h | h | h
   ·exact hM.syms.notE g hg (Or.inl h)
   ·exact hM.syms.notE g hg (Or.inr (Or.inl h))
   ·rcases hnew g h with h' | h'
    ·exact hM.syms.notE g hg (Or.inr (Or.inr h'))
    ·have:=(hM.syms.lt g hg).2;omega)
 have hc:OwnK 122 kCell B (fun b=>b=pb∨v.syms.ownBlock=some b∨u.ownBlock=some b) w' v.cells p.cells:=
  (hM.cells.step hst (fun b hb hE=>⟨hb,fun h=>hE (Or.inr (Or.inr h))⟩)).reE flat_cell (fun g hg h=>by
   rcases h with h | h | h
   ·exact hM.cells.notE g hg (Or.inl h)
   ·exact hM.cells.notE g hg (Or.inr (Or.inl h))
   ·rcases hnew g h with h' | h'
    ·exact hM.cells.notE g hg (Or.inr (Or.inr h'))
    ·have:=(hM.cells.lt g hg).2;omega)
 have hj:OwnK 3 kInt B (fun b=>b=pb∨v.syms.ownBlock=some b∨v.cells.ownBlock=some b) w' u l:=hown.reE flat_int (fun g hg h=>by
  rcases h with h | h | h
  ·exact hupb (h ▸ hg)
  ·rcases hnew g hg with h' | h'
   ·exact hM.syms.notE g h (Or.inr (Or.inr h'))
   ·have:=(hM.syms.lt g h).2;omega
  ·rcases hnew g hg with h' | h'
   ·exact hM.cells.notE g h (Or.inr (Or.inr h'))
   ·have:=(hM.cells.lt g h).2;omega)
 refine⟨⟨setCell_list hex 12 u,hM.base,hs.setOther (Or.inl rfl) 12 u,hc.setOther (Or.inl rfl) 12 u,hj.setOther (Or.inl rfl) 12 u⟩,⟨(hst.imp (fun b hb=>⟨hb.1,fun h=>hb.2.2 (Or.inr (Or.inr h))⟩)).setCell (fun h=>h.2.1 rfl) u,fun b hb=> ?_⟩⟩
 rcases hb with h | h | h
 ·exact Or.inl (Or.inl h)
 ·exact Or.inl (Or.inr (Or.inl h))
 ·rcases hnew b h with h' | h'
  ·exact Or.inl (Or.inr (Or.inr h'))
  ·exact Or.inr h'
theorem PlanM.putSyms {l:List SymL} (hM:PlanM B pb w sv s own v p) (hst:Step (fun b=>b<w.heap.size∧v.syms.ownBlock≠some b) w w') (hown:OwnK 52 kSym B (fun _=>False) w' u l)
  (hnew:∀ b,u.ownBlock=some b→v.syms.ownBlock=some b∨w.heap.size≤b):
  PlanM B pb (w'.setCell ⟨pb,9,none⟩ u) sv s own {v with syms:=u } {p with syms:=l }∧PStep pb v {v with syms:=u } w (w'.setCell ⟨pb,9,none⟩ u):=by
 have hpl:=hM.lt
 have hpc:v.syms.ownBlock≠some pb:=fun e=>hM.syms.notE pb e (Or.inl rfl)
 have hupb:u.ownBlock≠some pb:=fun e=>by rcases hnew pb e with h | h;exact hpc h;omega
 have hex:w'.heap[pb]? =some (.cells (planCells sv s own v p).toArray 81 (0,0)):=(hst.block pb ⟨hpl,hpc⟩).trans hM.ex
 have hc:OwnK 122 kCell B (fun b=>b=pb∨u.ownBlock=some b∨v.jumps.ownBlock=some b) w' v.cells p.cells:=
  (hM.cells.step hst (fun b hb hE=>⟨hb,fun h=>hE (Or.inr (Or.inl h))⟩)).reE flat_cell (fun g hg h=>by
   rcases h with h | h | h
   ·exact hM.cells.notE g hg (Or.inl h)
   ·rcases hnew g h with h' | h'
    ·exact hM.cells.notE g hg (Or.inr (Or.inl h'))
    ·have:=(hM.cells.lt g hg).2;omega
   ·exact hM.cells.notE g hg (Or.inr (Or.inr h)))
 have hj:OwnK 3 kInt B (fun b=>b=pb∨u.ownBlock=some b∨v.cells.ownBlock=some b) w' v.jumps p.jumps:=
  (hM.jumps.step hst (fun b hb hE=>⟨hb,fun h=>hE (Or.inr (Or.inl h))⟩)).reE flat_int (fun g hg h=>by
   rcases h with h | h | h
   ·exact hM.jumps.notE g hg (Or.inl h)
   ·rcases hnew g h with h' | h'
    ·exact hM.jumps.notE g hg (Or.inr (Or.inl h'))
    ·have:=(hM.jumps.lt g hg).2;omega
   ·exact hM.jumps.notE g hg (Or.inr (Or.inr h)))
 have hs:OwnK 52 kSym B (fun b=>b=pb∨v.cells.ownBlock=some b∨v.jumps.ownBlock=some b) w' u l:=hown.reE flat_sym (fun g hg h=>by
  rcases h with h | h | h
  ·exact hupb (h ▸ hg)
  ·rcases hnew g hg with h' | h'
   ·exact hM.cells.notE g h (Or.inr (Or.inl h'))
   ·have:=(hM.cells.lt g h).2;omega
  ·rcases hnew g hg with h' | h'
   ·exact hM.jumps.notE g h (Or.inr (Or.inl h'))
   ·have:=(hM.jumps.lt g h).2;omega)
 refine⟨⟨setCell_list hex 9 u,hM.base,hs.setOther (Or.inl rfl) 9 u,hc.setOther (Or.inl rfl) 9 u,hj.setOther (Or.inl rfl) 9 u⟩,⟨(hst.imp (fun b hb=>⟨hb.1,fun h=>hb.2.2 (Or.inl h)⟩)).setCell (fun h=>h.2.1 rfl) u,fun b hb=> ?_⟩⟩
 rcases hb with h | h | h
 ·rcases hnew b h with h' | h'
  ·exact Or.inl (Or.inl h')
  ·exact Or.inr h'
 ·exact Or.inl (Or.inr (Or.inl h))
 ·exact Or.inl (Or.inr (Or.inr h))
end
theorem idxV_none {o:Option Nat} (h:o=none):idxV o= -1:=by rw [h];rfl
theorem idxV_some {o:Option Nat} {i:Nat} (h:o=some i):idxV o=i:=by rw [h];rfl
set_option maxHeartbeats 4000000 in
set_option maxRecDepth 100000 in
theorem placeInt_any {E:Nat→Prop} (B:Nat) (w:World) (u:Value) (l:List Int) (x:Int) (hown:OwnK 3 kInt B E w u l) (hl:l.length≤1000000) (hB:B≤w.heap.size):
  Calls Try.prog 104 #[u,.int .i64 x] w fun e w'=>∃ u',e=.returned (.tuple #[u',.int .i64 (placeIn l x).2])∧OwnK 3 kInt B (fun _=>False) w' u' (placeIn l x).1∧
   Step (fun b=>b<w.heap.size∧u.ownBlock≠some b) w w'∧∀ b,u'.ownBlock=some b→u.ownBlock=some b∨w.heap.size≤b:=by
 have HI:=Lib.hid (indexInt_any w u l x hown.lb)
 obtain⟨a,c,rfl⟩:=hown.form
 have H0:Hid (OwnK 3 kInt B (fun _=>False) w (.slice a l.length c) l):=Lib.hid (hown.reE flat_int (fun _ _ h=>h))
 cases hf:l.findIdx? (fun y=>decide (y=x))with
 | some i=>
  have HP:Hid (placeIn l x=(l,i)):=Lib.hid (placeIn_found hf)
  rw [idxV_some hf]at HI
  rw [HP.out]
  clear hf hown
  have hi:(0:Int)≤(i:Int):=Int.natCast_nonneg _
  obtain⟨n,hn⟩:∃ n,n=l.length:=⟨_,rfl⟩
  rw [← hn]at H0 HI ⊢
  clear hn hl
  go_enter Try.func104,Try.ntmps104
  go_wp2_with fail
  refine HI.out.mono ?_
  rintro e w' ⟨rfl,rfl⟩
  go_wp2
  go_ret2
  exact⟨_,rfl,H0.out,Step.refl _ _,fun b h=>Or.inl h⟩
 | none=>
  have HP:Hid (placeIn l x=(l++[x],l.length)):=Lib.hid (by unfold placeIn;rw [hf])
  rw [idxV_none hf]at HI
  rw [HP.out]
  clear hf
  have Hw:=Lib.hid ((hown.reE (E':=fun b=>b<w.heap.size+1∧¬ (Value.slice a l.length c).ownBlock=some b) flat_int (fun g hg h=>h.2 hg)).alloc (.cells #[.int .i64 x] 3))
  clear hown
  obtain⟨n,hn⟩:∃ n,n=l.length:=⟨_,rfl⟩
  have Hn:=Lib.hid hn
  rw [← hn]at H0 HI Hw hl ⊢
  clear hn
  go_enter Try.func104,Try.ntmps104
  go_wp2_with fail
  refine HI.out.mono ?_
  rintro e w' ⟨rfl,rfl⟩
  go_wp2_with (at_builtin;refine wpList_appendK 41 (.int .i64 0) 8 Try.underlying41 info_intB rfl (by decide) rfl (.tmp 14) (.tmp 16) rfl n Hn.out.symm rfl Hw.out (fun b hb=>by have:=hb.1;simp;omega) w'.heap.size x [.int .i64 x] rfl ?c1 (by simp [Value.oneCell']) rfl (by rw [← Hn.out];omega) (by rw [← Hn.out];omega) ?c2 ?_)
  case c1=>
   intro j u hj
   match j,hj with
   | 0,hj=>simp at hj;subst hj;rw [Lib.cell_of_heap (heap_alloc_new _ _)];rfl
   | j+1,hj=>simp at hj
  case c2=>simp;omega
  intro g c2 w2 hown2 hst hglt
  have Hown2:=Lib.hid hown2
  have Hst:=Lib.hid hst
  clear hown2 hst
  go_wp2
  go_ret2
  refine⟨_,rfl,Hown2.out.reE flat_int (fun _ _ h=>h),?_,fun b hb=> ?_⟩
  ·exact((Step.refl (fun b=>b<w'.heap.size∧(Value.slice a n c).ownBlock≠some b) w').alloc (fun b hb=>hb.1) _).trans (Hst.out.imp fun b hb=>⟨by have:=hb.1;simp;omega,hb.2⟩)
  ·rcases Hown2.out.where_ b hb with h | h
   ·exact Or.inl h
   ·right;omega
end Go.Proofs.Ytpomdoliblilfaa
namespace Go.Proofs.Ytpomdoliblilfaa
set_option linter.unusedVariables false
set_option linter.unusedSimpArgs false
open Go.RowKit
section
variable {S : Nat → Prop} {w : World} {a : Option Addr} {b off : Nat}
theorem LAt.cell2 {l:List (Int × Int)} (h:LAt kCell S w l a b off) (i:Nat) (x:Int × Int) (hx:l[i]? =some x):w.cell? ⟨b,off+i*2,none⟩=some (.int .i64 x.1)∧w.cell? ⟨b,off+i*2+1,none⟩=some (.int .i64 x.2):=by
 obtain⟨row,h1,h2⟩:=h.row i x hx
 have h1:row=cellCells x:=h1
 subst h1
 exact⟨h2 0 _ rfl,h2 1 _ rfl⟩
end
set_option maxHeartbeats 4000000 in
set_option maxRecDepth 100000 in
theorem indexCell_any {S:Nat→Prop} (w:World) (u:Value) (l:List (Int × Int)) (x:Int × Int) (hl:LB kCell S w u l) (hS:∀ b,S b→b<w.heap.size):
  Calls Try.prog 111 #[u,.agg #[.int .i64 x.1,.int .i64 x.2]] w fun e w'=>e=.returned (.int .i64 (idxV (l.findIdx? fun y=>decide (y=x))))∧Below w.heap.size w w':=by
 obtain⟨a,b,off,cap,rfl,hm,_,hat⟩:=hl.at
 have Hat:=Lib.hid hat
 have ha:=hat.addr
 have hin:0<l.length→b<w.heap.size:=fun h=>hS _ (hat.inS h)
 obtain⟨n,hn⟩:∃ n,n=l.length:=⟨_,rfl⟩
 have Hn:=Lib.hid hn
 rw [← hn]at hm ha hin ⊢
 obtain⟨x1,x2⟩:=x
 have hB0:=Lib.hid ((Below.refl w.heap.size w).alloc (Nat.le_refl _) (.cells #[.int .i64 x1,.int .i64 x2] 122))
 have Hx0:=Lib.hid (heap_alloc_new w (.cells #[.int .i64 x1,.int .i64 x2] 122))
 simp only
 clear hl hat hn
 go_enter Try.func111,Try.ntmps111
 go_wp2
 go_loopw [8] (fun i wr=>∃ k:Nat,i=.int .i64 k∧k≤n∧(l.take k).findIdx? (fun y=>decide (y=(x1,x2)))=none∧Below w.heap.size w wr∧wr.heap[w.heap.size]? =some (.cells #[.int .i64 x1,.int .i64 x2] 122 (0,0))) (fun i _=>n-(intOf i).toNat)
 case atStart=>exact⟨0,rfl,Nat.zero_le _,find_start _ _,hB0.out,Hx0.out⟩
 case round=>
  obtain⟨k,rfl,hk,hf,hbel,hbx⟩:=hrel
  have Hf:=Lib.hid hf
  have Hbel:=Lib.hid hbel
  have Hbx:=Lib.hid hbx
  by_cases hlt:k<n
  ·obtain rfl:=ha (by omega)
   have hbl:=hin (by omega)
   obtain⟨y,hy⟩:∃ y,l[k]? =some y:=⟨_,List.getElem?_eq_getElem (by rw [← Hn.out];exact hlt)⟩
   obtain⟨g1,g2⟩:=Hat.out.cell2 k y hy
   have c1:wr.cell? ⟨b,off+k*2,none⟩=some (.int .i64 y.1):=(hbel.cell (p:=⟨b,off+k*2,none⟩) hbl).trans g1
   have c2:wr.cell? ⟨b,off+k*2+1,none⟩=some (.int .i64 y.2):=(hbel.cell (p:=⟨b,off+k*2+1,none⟩) hbl).trans g2
   have d1:wr.cell? ⟨w.heap.size,0,none⟩=some (.int .i64 x1):=by rw [Lib.cell_of_heap hbx];rfl
   have d2:wr.cell? ⟨w.heap.size,1,none⟩=some (.int .i64 x2):=by rw [Lib.cell_of_heap hbx];rfl
   have Hy:=Lib.hid hy
   have hk0:(0:Int)≤(k:Int):=Int.natCast_nonneg _
   have hk2:(k:Int)<(n:Int):=by omega
   clear hy hf hbel hbx g1 g2
   obtain⟨y1,y2⟩:=y
   simp only at c1 c2
   cases hxy:decide ((y1,y2)=(x1,x2))with
   | true=>
    have Hh:=Lib.hid (find_hit Hf.out Hy.out hxy)
    have h2:y1=x1∧y2=x2:=by simpa using hxy
    obtain⟨rfl,rfl⟩:=h2
    have e1:(y1==y1)=true:=by simp
    have e2:(y2==y2)=true:=by simp
    clear hxy
    go_wp2_with fail
    go_quiet (fail)
    have HB2:=Lib.hid (show Below w.heap.size w (wr.drewN nq)from⟨Hbel.out.os,Hbel.out.tape,Hbel.out.output,Hbel.out.size,Hbel.out.block⟩)
    go_wp2
    go_ret
    exact⟨by rw [Hh.out];rfl,HB2.out⟩
   | false=>
    have Hh:=Lib.hid (find_next Hf.out Hy.out hxy)
    have h2:((x1==y1)&&(x2==y2))=false:=by
     have:¬ (y1=x1∧y2=x2):=by simpa using hxy
     rw [Bool.eq_false_iff]
     intro h
     simp at h
     exact this ⟨h.1.symm,h.2.symm⟩
    have h3:((x1==y1)=false)∨((x1==y1)=true∧(x2==y2)=false):=by
     cases hq:(x1==y1)
     ·exact Or.inl rfl
     ·rw [hq]at h2;exact Or.inr ⟨rfl,by simpa using h2⟩
    clear hxy h2
    rcases h3 with h3 | ⟨h3,h4⟩
    all_goals
     go_wp2_with fail
     go_quiet (fail)
     have HB2:=Lib.hid (show Below w.heap.size w (wr.drewN nq)from⟨Hbel.out.os,Hbel.out.tape,Hbel.out.output,Hbel.out.size,Hbel.out.block⟩)
     have HX2:=Lib.hid (show (wr.drewN nq).heap[w.heap.size]? =some (.cells #[.int .i64 x1,.int .i64 x2] 122 (0,0))from Hbx.out)
     go_wp2
     go_roundw
     case rel=>exact⟨k+1,by go_num,by omega,Hh.out,HB2.out,HX2.out⟩
     case measure=>simp [intOf];omega
  ·have Hh:Hid (l.findIdx? (fun y=>decide (y=(x1,x2)))=none):=Lib.hid (find_end (by have:=Hf.out;rwa [show k=l.length by have:=Hn.out;omega]at this))
   clear hf hbel hbx
   go_wp2
   go_ret
   exact⟨by rw [Hh.out];rfl,Hbel.out⟩
set_option maxHeartbeats 4000000 in
set_option maxRecDepth 100000 in
theorem placeCell_any {E:Nat→Prop} (B:Nat) (w:World) (u:Value) (l:List (Int × Int)) (x:Int × Int) (hown:OwnK 122 kCell B E w u l) (hl:l.length≤1000000) (hB:B≤w.heap.size):
  Calls Try.prog 107 #[u,.agg #[.int .i64 x.1,.int .i64 x.2]] w fun e w'=>∃ u',e=.returned (.tuple #[u',.int .i64 (placeIn l x).2])∧OwnK 122 kCell B (fun _=>False) w' u' (placeIn l x).1∧
   Step (fun b=>b<w.heap.size∧u.ownBlock≠some b) w w'∧∀ b,u'.ownBlock=some b→u.ownBlock=some b∨w.heap.size≤b:=by
 have H0:Hid (OwnK 122 kCell B (fun _=>False) w u l):=Lib.hid (hown.reE flat_cell (fun _ _ h=>h))
 have HI:=Lib.hid (indexCell_any (w.alloc (.cells #[.int .i64 x.1,.int .i64 x.2] 122)) u l x (H0.out.alloc _).lb (fun b hb=>hb.1))
 obtain⟨a,c,rfl⟩:=hown.form
 obtain⟨n,hn⟩:∃ n,n=l.length:=⟨_,rfl⟩
 have Hn:=Lib.hid hn
 rw [← hn]at H0 HI hown hl ⊢
 cases hf:l.findIdx? (fun y=>decide (y=x))with
 | some i=>
  have HP:Hid (placeIn l x=(l,i)):=Lib.hid (placeIn_found hf)
  rw [idxV_some hf]at HI
  rw [HP.out]
  obtain⟨x1,x2⟩:=x
  simp only at HI ⊢
  clear hf hown hn
  have hi:(0:Int)≤(i:Int):=Int.natCast_nonneg _
  go_enter Try.func107,Try.ntmps107
  go_wp2_with fail
  refine HI.out.mono ?_
  rintro e w' ⟨rfl,hb⟩
  have HB:=Lib.hid (((Below.refl w.heap.size w).alloc (Nat.le_refl _) (.cells #[.int .i64 x1,.int .i64 x2] 122)).trans (hb.mono (by simp)))
  clear hb
  go_wp2
  go_ret2
  exact⟨_,rfl,H0.out.below HB.out,(Step.of_below HB.out).imp (fun b hb=>hb.1),fun b h=>Or.inl h⟩
 | none=>
  have HP:Hid (placeIn l x=(l++[x],n)):=Lib.hid (by unfold placeIn;rw [hf,hn])
  rw [idxV_none hf]at HI
  rw [HP.out]
  obtain⟨x1,x2⟩:=x
  simp only at HI ⊢
  have Hw:Hid (∀ w',Below w.heap.size w w'→OwnK 122 kCell B (fun b=>b<w'.heap.size+1∧¬ (Value.slice a n c).ownBlock=some b) (w'.alloc (.cells #[.int .i64 x1,.int .i64 x2] 122)) (.slice a n c) l):=
   Lib.hid (fun w' hb=>((hown.below hb).reE flat_cell (fun g hg h=>h.2 hg)).alloc _)
  have Hnn:=Lib.hid hn
  clear hf hown hn
  go_enter Try.func107,Try.ntmps107
  go_wp2_with fail
  refine HI.out.mono ?_
  rintro e w' ⟨rfl,hb⟩
  have hbx:w'.heap[w.heap.size]? =some (.cells #[.int .i64 x1,.int .i64 x2] 122 (0,0)):=(hb.block w.heap.size (by simp)).trans (heap_alloc_new _ _)
  have HB:=Lib.hid (((Below.refl w.heap.size w).alloc (Nat.le_refl _) (.cells #[.int .i64 x1,.int .i64 x2] 122)).trans (hb.mono (by simp)))
  have d1:w'.cell? ⟨w.heap.size,0,none⟩=some (.int .i64 x1):=by rw [Lib.cell_of_heap hbx];rfl
  have d2:w'.cell? ⟨w.heap.size,1,none⟩=some (.int .i64 x2):=by rw [Lib.cell_of_heap hbx];rfl
  have hsz:=HB.out.size
  clear hb hbx
  go_wp2_with (at_builtin;refine wpList_appendK 79 (.agg #[.int .i64 0,.int .i64 0]) 16 Try.underlying79 info_cell rfl (by decide) rfl (.tmp 14) (.tmp 16) rfl n Hn.out.symm rfl (Hw.out _ HB.out) (fun b hb=>by have:=hb.1;simp;omega) w'.heap.size (x1,x2) [.int .i64 x1,.int .i64 x2] rfl ?c1 (by simp [Value.oneCell']) rfl (by rw [← Hn.out];omega) (by rw [← Hn.out];omega) ?c2 ?_)
  case c1=>
   intro j u hj
   match j,hj with
   | 0,hj=>simp at hj;subst hj;rw [Lib.cell_of_heap (heap_alloc_new _ _)];rfl
   | 1,hj=>simp at hj;subst hj;rw [Lib.cell_of_heap (heap_alloc_new _ _)];rfl
   | j+2,hj=>simp at hj
  case c2=>simp;omega
  intro g c2 w2 hown2 hst hglt
  have Hown2:=Lib.hid hown2
  have Hst:=Lib.hid hst
  clear hown2 hst d1 d2
  go_wp2
  go_ret2
  refine⟨_,rfl,Hown2.out.reE flat_cell (fun _ _ h=>h),?_,fun b hb=> ?_⟩
  ·exact(((Step.of_below HB.out).imp (S':=fun b=>b<w.heap.size∧(Value.slice a n c).ownBlock≠some b) (fun b hb=>hb.1)).alloc (fun b hb=>by have:=hb.1;omega) _).trans (Hst.out.imp fun b hb=>⟨by have:=hb.1;simp;omega,hb.2⟩)
  ·rcases Hown2.out.where_ b hb with h | h
   ·exact Or.inl h
   ·right;omega
set_option maxHeartbeats 4000000 in
set_option maxRecDepth 100000 in
theorem cell_any {B pb:Nat} {w:World} {sv:SpecV} {s:SpecL} {own:Int} {v:PlanV} {p:PlanL} (u x:Int) (hM:PlanM B pb w sv s own v p) (hl:p.cells.length≤1000000) (hB:B≤w.heap.size):
  Calls Try.prog 85 #[.pointer (some ⟨pb,0,none⟩),.int .i64 u,.int .i64 x] w fun e w'=>∃ v',e=.returned (.int .i64 (p.cell u x).2)∧PlanM B pb w' sv s own v' (p.cell u x).1∧PStep pb v v' w w':=by
 have c:=hM.c11
 have HM:=Lib.hid hM
 have HPl:=Lib.hid (placeCell_any B w v.cells p.cells (u,x) hM.cells hl hB)
 have Hpb:Hid (pb<w.heap.size∧v.cells.ownBlock≠some pb):=Lib.hid ⟨hM.lt,fun e=>hM.cells.notE pb e (Or.inl rfl)⟩
 unfold PlanL.cell
 obtain⟨ca,cc,hcf⟩:=hM.cells.form
 rw [hcf]at c HPl
 have Hcf:=Lib.hid hcf
 obtain⟨n,hn⟩:∃ n,n=p.cells.length:=⟨_,rfl⟩
 rw [← hn]at c HPl Hcf
 clear hM hcf hn hl
 generalize hq:placeIn p.cells (u,x)=q at *
 obtain⟨l',i⟩:=q
 simp only at HPl ⊢
 go_enter Try.func85,Try.ntmps85
 go_wp2_with fail
 refine HPl.out.mono ?_
 rintro e w2 ⟨u',rfl,hown,hst,hnew⟩
 have hex:w2.heap[pb]? =_:=(hst.block pb ⟨Hpb.out.1,by rw [← Hcf.out];exact Hpb.out.2⟩).trans HM.out.ex
 have hfz:w2.frozen? ⟨pb,11,none⟩=false:=Lib.frozen_of_heap hex 11
 have c2:=planCell hex 11 _ rfl
 have HR:=Lib.hid (HM.out.putCells (by rw [Hcf.out];exact hst) hown (by rw [Hcf.out];exact hnew))
 obtain⟨ua,uc,rfl⟩:=hown.form
 clear hown hst hnew hex
 go_wp2
 go_ret
 exact⟨_,rfl,HR.out.1,HR.out.2⟩
end Go.Proofs.Ytpomdoliblilfaa
namespace Go.Proofs.Ytpomdoliblilfaa
set_option linter.unusedVariables false
set_option linter.unusedSimpArgs false
open Go.RowKit
def formStr:List (List UInt8):=[[],[97,110],[97,98],[97,98,99],[97,98,99],[97,98,99],[97,98,99],[97,98,99],[97,98,99],[97,98,110],[97,98,110],[97,110],[97,110],[110],[97,110],[110],[97],[97],[],[97],[97],[97,98],[110]]
theorem forms_eq:formsL=formStr.map fun f=>(f.contains 97,f.contains 98,f.contains 99,f.contains 110):=by decide
theorem indexByte_neg (l:List UInt8) (c:UInt8):(Lib.indexByte l c<0)↔l.contains c=false:=by
 induction l with
 | nil=>simp [Lib.indexByte]
 | cons b l ih=>
  have hge:=Lib.indexByte_ge l c
  unfold Lib.indexByte
  cases hb:(b==c)with
  | true=>
   have:b=c:=by simpa using hb
   subst this
   simp
  | false=>
   have hne:¬ b=c:=by simpa using hb
   have hne':(c==b)=false:=by simp;exact fun e=>hne e.symm
   rw [if_neg (by simp),List.contains_cons,hne',Bool.false_or,← ih]
   cases h1:(Lib.indexByte l c== -1)with
   | true=>
    have:Lib.indexByte l c= -1:=by simpa using h1
    rw [if_pos rfl];omega
   | false=>
    have:¬ Lib.indexByte l c= -1:=by simpa using h1
    rw [if_neg (by simp)];omega
set_option maxHeartbeats 2000000 in
set_option maxRecDepth 100000 in
theorem indexByte1_any (w:World) (l:List UInt8) (c:Int):
  Calls Try.prog 106 #[.string ⟨l.toArray⟩,.int .u8 c] w fun e w'=>e=.returned (.int .i64 (Lib.indexByte l c.toNat.toUInt8))∧w'=w:=by
 go_enter Try.func106,Try.ntmps106
 go_wp2
 rw [run_callFunc_extern Try.func110 (by kernel_rfl) (by kernel_rfl) (by kernel_rfl) (e:=Extern.BytealgIndexByte.indexByte) (by kernel_rfl),Lib.run_indexByteString]
 simp only [Result.andThen]
 rw [Oper.upon_value]
 go_wp2
 go_ret
 exact⟨rfl,rfl⟩
set_option maxHeartbeats 2000000 in
set_option maxRecDepth 100000 in
theorem indexByte_any (w:World) (l:List UInt8) (c:Int):
  Calls Try.prog 83 #[.string ⟨l.toArray⟩,.int .u8 c] w fun e w'=>e=.returned (.int .i64 (Lib.indexByte l c.toNat.toUInt8))∧w'=w:=by
 have H:=Lib.hid (indexByte1_any w l c)
 generalize Lib.indexByte l c.toNat.toUInt8=k at *
 go_enter Try.func83,Try.ntmps83
 go_wp2_with fail
 refine H.out.mono ?_
 rintro e w' ⟨rfl,rfl⟩
 go_wp2
 go_ret
 exact⟨rfl,rfl⟩
def partAt (c:Int):Nat:=if c=97 then 1 else if c=98 then 2 else if c=99 then 3 else 4
set_option maxHeartbeats 2000000 in
set_option maxRecDepth 100000 in
theorem field_any (w:World) (b:Nat) (c:Int) (h0:0≤c) (h1:c≤255):
  Calls Try.prog 81 #[.pointer (some ⟨b,0,none⟩),.int .u8 c] w fun e w'=>e=.returned (.pointer (some ⟨b,partAt c,none⟩))∧w'=w:=by
 by_cases ha:c=97
 ·subst ha
  go_enter Try.func81,Try.ntmps81
  go_wp2
  go_ret
  exact⟨rfl,rfl⟩
 by_cases hb:c=98
 ·subst hb
  go_enter Try.func81,Try.ntmps81
  go_wp2
  go_ret
  exact⟨rfl,rfl⟩
 by_cases hc:c=99
 ·subst hc
  go_enter Try.func81,Try.ntmps81
  go_wp2
  go_ret
  exact⟨rfl,rfl⟩
 have H:Hid (partAt c=4):=Lib.hid (by unfold partAt;rw [if_neg ha,if_neg hb,if_neg hc])
 have e1:(c==97)=false:=by simp [ha]
 have e2:(c==98)=false:=by simp [hb]
 have e3:(c==99)=false:=by simp [hc]
 rw [H.out]
 clear ha hb hc
 go_enter Try.func81,Try.ntmps81
 go_wp2
 go_ret
 exact⟨rfl,rfl⟩
def lowOf (c:Int):Int:=if c=110 then -2147483648 else 0
def highOf (c:Int):Int:=if c=110 then 2147483647 else 15
set_option maxHeartbeats 2000000 in
set_option maxRecDepth 100000 in
theorem most_any (w:World) (c:Int):
  Calls Try.prog 82 #[.int .u8 c] w fun e w'=>e=.returned (.tuple #[.int .i64 (lowOf c),.int .i64 (highOf c)])∧w'=w:=by
 by_cases h:c=110
 ·subst h
  go_enter Try.func82,Try.ntmps82
  go_wp2
  go_ret2
  exact⟨rfl,rfl⟩
 ·have H:Hid (lowOf c=0∧highOf c=15):=Lib.hid (by unfold lowOf highOf;rw [if_neg h,if_neg h];exact⟨rfl,rfl⟩)
  have e1:(c==110)=false:=by simp [h]
  rw [H.out.1,H.out.2]
  clear h
  go_enter Try.func82,Try.ntmps82
  go_wp2
  go_ret2
  exact⟨rfl,rfl⟩
set_option maxHeartbeats 2000000 in
set_option maxRecDepth 100000 in
theorem shapes_any (w:World):
  Calls Try.prog 80 #[] w fun e w'=>e=.returned (.slice (some ⟨w.heap.size,0,none⟩) 23 23)∧Below w.heap.size w w'∧w.heap.size<w'.heap.size∧
   ∀ k (f:List UInt8),formStr[k]? =some f→w'.cell? ⟨w.heap.size,k*2+1,none⟩=some (.string ⟨f.toArray⟩):=by
 go_enter Try.func80,Try.ntmps80
 go_wp2
 go_ret
 refine⟨rfl,(Below.refl _ _).alloc (Nat.le_refl _) _,by simp,fun k f hf=> ?_⟩
 rw [Lib.cell_of_heap (heap_alloc_new _ _)]
 unfold formStr at hf
 iterate 23
  rcases k with _ | k
  ·simp only [List.getElem?_cons_zero,List.getElem?_cons_succ]at hf
   cases hf
   rfl
  simp only [List.getElem?_cons_succ]at hf
 cases hf
end Go.Proofs.Ytpomdoliblilfaa
namespace Go.Proofs.Ytpomdoliblilfaa
set_option linter.unusedVariables false
set_option linter.unusedSimpArgs false
open Go.RowKit
def partsB:List Int:=[97,98,99,110]
def okPart (f:List UInt8) (i:InstL) (c:Int):Bool:=partB (f.contains c.toNat.toUInt8) (lowOf c) (highOf c) (if c=97 then i.a else if c=98 then i.b else if c=99 then i.c else i.imm)
theorem instB_of {i:InstL} {f:List UInt8} (h0:0≤i.op) (hf:formStr[i.op.toNat]? =some f):instB i=(okPart f i 97&&okPart f i 98&&okPart f i 99&&okPart f i 110):=by
 unfold instB
 rw [forms_eq,List.getElem?_map,hf]
 simp only [Option.map_some,h0,decide_true,Bool.true_and]
 rfl
theorem instB_neg {i:InstL} (h0:i.op<0):instB i=false:=by unfold instB;rw [decide_eq_false (by omega)];rfl
theorem instB_far {i:InstL} (h0:0≤i.op) (h:23≤i.op):instB i=false:=by
 unfold instB
 rw [forms_eq,List.getElem?_map,List.getElem?_eq_none (by simp [formStr];omega)]
 simp
def mayErr (i:InstL):Int:=if instB i then 0 else 40
set_option maxHeartbeats 8000000 in
set_option maxRecDepth 100000 in
theorem imay1_any (w:World) (i:InstL) (hi:InstOk i):
  Calls Try.prog 47 #[.agg #[.int .i64 i.op,.int .i64 i.a,.int .i64 i.b,.int .i64 i.c,.int .i64 i.imm]] w fun e w'=>e=.returned (.int .i64 (mayErr i))∧Below w.heap.size w w':=by
 have Hi:=Lib.hid hi
 have Hsh:=Lib.hid (fun w=>shapes_any w)
 have HB0:=Lib.hid ((Below.refl w.heap.size w).alloc (Nat.le_refl _) (.cells #[.int .i64 i.op,.int .i64 i.a,.int .i64 i.b,.int .i64 i.c,.int .i64 i.imm] 65))
 have HX0:=Lib.hid (heap_alloc_new w (.cells #[.int .i64 i.op,.int .i64 i.a,.int .i64 i.b,.int .i64 i.c,.int .i64 i.imm] 65))
 have hz0:w.heap.size<(w.alloc (.cells #[.int .i64 i.op,.int .i64 i.a,.int .i64 i.b,.int .i64 i.c,.int .i64 i.imm] 65)).heap.size:=by simp
 have ho:=hi.op
 clear hi
 go_enter Try.func47,Try.ntmps47
 go_wp2_with fail
 generalize w.alloc (.cells #[.int .i64 i.op,.int .i64 i.a,.int .i64 i.b,.int .i64 i.c,.int .i64 i.imm] 65)=w0 at *
 refine(Hsh.out w0).mono ?_
 rintro e w1 ⟨rfl,hb1,hz1,hsh⟩
 have Hx1:=Lib.hid ((hb1.block w.heap.size hz0).trans HX0.out)
 have c0:w1.cell? ⟨w.heap.size,0,none⟩=some (.int .i64 i.op):=by rw [Lib.cell_of_heap Hx1.out];rfl
 have HB1:=Lib.hid (HB0.out.trans (hb1.mono (by omega)))
 clear hb1 Hsh HX0 HB0
 by_cases hneg:i.op<0
 ·have HE:Hid (mayErr i=40):=Lib.hid (by unfold mayErr;rw [instB_neg hneg];rfl)
  have Hsh:=Lib.hid hsh
  clear hsh
  go_wp2
  go_ret
  exact⟨by rw [HE.out];rfl,HB1.out⟩
 by_cases hfar:23≤i.op
 ·have HE:Hid (mayErr i=40):=Lib.hid (by unfold mayErr;rw [instB_far (by omega) hfar];rfl)
  have Hsh:=Lib.hid hsh
  clear hsh
  have h0:0≤i.op:=by omega
  go_wp2
  go_ret
  exact⟨by rw [HE.out];rfl,HB1.out⟩
 obtain⟨op,hop⟩:∃ op:Nat,i.op=op:=⟨i.op.toNat,by omega⟩
 obtain⟨f,hf⟩:∃ f,formStr[op]? =some f:=⟨_,List.getElem?_eq_getElem (by simp [formStr];omega)⟩
 have cf:=hsh op f hf
 have HI:=Lib.hid (instB_of (i:=i) (f:=f) (by omega) (by rw [hop];exact hf))
 have Hf:=Lib.hid hf
 rw [hop]at c0
 have h23:(op:Int)<23:=by omega
 have h23':op<23:=by omega
 clear hsh hf
 have Hop:=Lib.hid hop
 clear hneg hfar ho hop
 have HX:=Lib.hid (heap_alloc_new w1 (.cells #[.int .u8 97,.int .u8 98,.int .u8 99,.int .u8 110] 5 (4,5)))
 have HB2:=Lib.hid (HB1.out.alloc (by omega) (.cells #[.int .u8 97,.int .u8 98,.int .u8 99,.int .u8 110] 5 (4,5)))
 have Hx2:=Lib.hid ((heap_alloc_old w1 (.cells #[.int .u8 97,.int .u8 98,.int .u8 99,.int .u8 110] 5 (4,5)) (r:=w.heap.size) (by omega)).trans Hx1.out)
 have Hcf2:=Lib.hid ((World.cell?_alloc_lt w1 (.cells #[.int .u8 97,.int .u8 98,.int .u8 99,.int .u8 110] 5 (4,5)) ⟨w0.heap.size,op*2+1,none⟩ hz1).trans cf)
 have HIx:=Lib.hid (fun (w:World) (c:Int)=>indexByte_any w f c)
 have HFl:=Lib.hid (fun (w:World) (b:Nat) (c:Int) (h0:0≤c) (h1:c≤255)=>field_any w b c h0 h1)
 have HMo:=Lib.hid (fun (w:World) (c:Int)=>most_any w c)
 have hcv:(convert 42 42 (.slice (some ⟨w1.heap.size,0,none⟩) 4 4)).run Try.prog (w1.alloc (.cells #[.int .u8 97,.int .u8 98,.int .u8 99,.int .u8 110] 5))=.ok (.slice (some ⟨w1.heap.size,0,none⟩) 4 4) (w1.alloc (.cells #[.int .u8 97,.int .u8 98,.int .u8 99,.int .u8 110] 5 (4,5))):=Lib.run_convert_bytes_const w1 42 5 _ 4 4 Try.underlying42 Try.underlying5
 go_wp2_with fail
 clear c0 cf hcv
 generalize w1.alloc (.cells #[.int .u8 97,.int .u8 98,.int .u8 99,.int .u8 110] 5 (4,5))=w2 at *
 have b0:w2.cell? ⟨w1.heap.size,0,none⟩=some (.int .u8 97):=by rw [Lib.cell_of_heap HX.out];rfl
 have b1:w2.cell? ⟨w1.heap.size,1,none⟩=some (.int .u8 98):=by rw [Lib.cell_of_heap HX.out];rfl
 have b2:w2.cell? ⟨w1.heap.size,2,none⟩=some (.int .u8 99):=by rw [Lib.cell_of_heap HX.out];rfl
 have b3:w2.cell? ⟨w1.heap.size,3,none⟩=some (.int .u8 110):=by rw [Lib.cell_of_heap HX.out];rfl
 have cf:=Hcf2.out
 have d0:w2.cell? ⟨w.heap.size,0,none⟩=some (.int .i64 op):=by rw [Lib.cell_of_heap Hx2.out,← Hop.out];rfl
 have d1:w2.cell? ⟨w.heap.size,1,none⟩=some (.int .i64 i.a):=by rw [Lib.cell_of_heap Hx2.out];rfl
 have d2:w2.cell? ⟨w.heap.size,2,none⟩=some (.int .i64 i.b):=by rw [Lib.cell_of_heap Hx2.out];rfl
 have d3:w2.cell? ⟨w.heap.size,3,none⟩=some (.int .i64 i.c):=by rw [Lib.cell_of_heap Hx2.out];rfl
 have d4:w2.cell? ⟨w.heap.size,4,none⟩=some (.int .i64 i.imm):=by rw [Lib.cell_of_heap Hx2.out];rfl
 go_loop [23] (fun q=>∃ k:Nat,q=.int .i64 k∧k≤4∧∀ c∈partsB.take k,okPart f i c=true) (fun q=>4-(intOf q).toNat)
 case atStart=>exact⟨0,rfl,by omega,by simp⟩
 case round=>
  obtain⟨k,rfl,hk,hok⟩:=hrel
  have Hok:=Lib.hid hok
  clear hok
  by_cases hlt:k<4
  ·rcases (by omega:k=0∨k=1∨k=2∨k=3)with hk' | hk' | hk' | hk'
   ·subst hk'
    obtain⟨ix,hix⟩:∃ ix,ix=Lib.indexByte f (Int.toNat 97).toUInt8:=⟨_,rfl⟩
    have hneg:(ix<0)↔f.contains (97:UInt8)=false:=by rw [hix];exact indexByte_neg f 97
    have HP:Hid (okPart f i 97=partB (f.contains 97) 0 15 i.a):=Lib.hid rfl
    have Hix:=Lib.hid hix
    have HN:=Lib.hid hneg
    clear hix hneg
    have HW:Hid (∀ w:World,Calls Try.prog 83 #[.string ⟨f.toArray⟩,.int .u8 97] w fun e w'=>e=.returned (.int .i64 ix)∧w'=w):=Lib.hid (fun w=>by rw [Hix.out];exact indexByte_any w f 97)
    generalize hin:f.contains (97:UInt8)=is at *
    clear hin
    obtain⟨x,hx⟩:∃ x,x=i.a:=⟨_,rfl⟩
    have Hx:=Lib.hid hx
    rw [← hx]at d1 HP
    clear hx
    cases is with
    | false=>
     have hn:ix<0:=HN.out.2 rfl
     by_cases h0:x=0
     ·have HGood:Hid (okPart f i 97=true):=Lib.hid (by rw [HP.out];simp [partB,h0])
      have HNext:Hid (∀ c∈partsB.take 1,okPart f i c=true):=Lib.hid (by intro c hc;have h:=Hok.out c;simp [partsB]at h hc;rcases hc with rfl<;>simp_all [HGood.out])
      subst h0
      go_wp2_with fail
      refine(HFl.out w2 w.heap.size 97 (by decide) (by decide)).mono ?_
      rintro e w3 ⟨rfl,rfl⟩
      simp only [show partAt 97=1 from rfl]
      go_wp2_with fail
      refine(HMo.out _ 97).mono ?_
      rintro e w4 ⟨rfl,rfl⟩
      simp only [show lowOf 97=0 from rfl,show highOf 97=15 from rfl]
      go_wp2_with fail
      refine(HW.out _).mono ?_
      rintro e w5 ⟨rfl,rfl⟩
      go_wp2
      go_round
      case rel=>exact⟨1,by rfl,by omega,HNext.out⟩
      case measure=>simp [intOf]
     ·have HBad:Hid (okPart f i 97=false):=Lib.hid (by rw [HP.out];simp [partB,h0])
      have HE:Hid (mayErr i=40):=Lib.hid (by unfold mayErr;rw [HI.out,HBad.out];simp)
      have hb0:(x != 0)=true:=by simp [h0]
      clear h0
      go_wp2_with fail
      refine(HFl.out w2 w.heap.size 97 (by decide) (by decide)).mono ?_
      rintro e w3 ⟨rfl,rfl⟩
      simp only [show partAt 97=1 from rfl]
      go_wp2_with fail
      refine(HMo.out _ 97).mono ?_
      rintro e w4 ⟨rfl,rfl⟩
      simp only [show lowOf 97=0 from rfl,show highOf 97=15 from rfl]
      go_wp2_with fail
      refine(HW.out _).mono ?_
      rintro e w5 ⟨rfl,rfl⟩
      go_wp2
      go_ret
      exact⟨by rw [HE.out];rfl,HB2.out⟩
    | true=>
     have hn:¬ ix<0:=fun h=>by have:=HN.out.1 h;cases this
     by_cases h1:x<0
     ·have HBad:Hid (okPart f i 97=false):=Lib.hid (by rw [HP.out];simp [partB];omega)
      have HE:Hid (mayErr i=40):=Lib.hid (by unfold mayErr;rw [HI.out,HBad.out];simp)
      go_wp2_with fail
      refine(HFl.out w2 w.heap.size 97 (by decide) (by decide)).mono ?_
      rintro e w3 ⟨rfl,rfl⟩
      simp only [show partAt 97=1 from rfl]
      go_wp2_with fail
      refine(HMo.out _ 97).mono ?_
      rintro e w4 ⟨rfl,rfl⟩
      simp only [show lowOf 97=0 from rfl,show highOf 97=15 from rfl]
      go_wp2_with fail
      refine(HW.out _).mono ?_
      rintro e w5 ⟨rfl,rfl⟩
      go_wp2
      go_ret
      exact⟨by rw [HE.out];rfl,HB2.out⟩
     by_cases h2:15<x
     ·have HBad:Hid (okPart f i 97=false):=Lib.hid (by rw [HP.out];simp [partB];omega)
      have HE:Hid (mayErr i=40):=Lib.hid (by unfold mayErr;rw [HI.out,HBad.out];simp)
      go_wp2_with fail
      refine(HFl.out w2 w.heap.size 97 (by decide) (by decide)).mono ?_
      rintro e w3 ⟨rfl,rfl⟩
      simp only [show partAt 97=1 from rfl]
      go_wp2_with fail
      refine(HMo.out _ 97).mono ?_
      rintro e w4 ⟨rfl,rfl⟩
      simp only [show lowOf 97=0 from rfl,show highOf 97=15 from rfl]
      go_wp2_with fail
      refine(HW.out _).mono ?_
      rintro e w5 ⟨rfl,rfl⟩
      go_wp2
      go_ret
      exact⟨by rw [HE.out];rfl,HB2.out⟩
     have HGood:Hid (okPart f i 97=true):=Lib.hid (by rw [HP.out];simp [partB];omega)
     have HNext:Hid (∀ c∈partsB.take 1,okPart f i c=true):=Lib.hid (by intro c hc;have h:=Hok.out c;simp [partsB]at h hc;rcases hc with rfl<;>simp_all [HGood.out])
     go_wp2_with fail
     refine(HFl.out w2 w.heap.size 97 (by decide) (by decide)).mono ?_
     rintro e w3 ⟨rfl,rfl⟩
     simp only [show partAt 97=1 from rfl]
     go_wp2_with fail
     refine(HMo.out _ 97).mono ?_
     rintro e w4 ⟨rfl,rfl⟩
     simp only [show lowOf 97=0 from rfl,show highOf 97=15 from rfl]
     go_wp2_with fail
     refine(HW.out _).mono ?_
     rintro e w5 ⟨rfl,rfl⟩
     go_wp2
     go_round
     case rel=>exact⟨1,by rfl,by omega,HNext.out⟩
     case measure=>simp [intOf]
   ·subst hk'
    obtain⟨ix,hix⟩:∃ ix,ix=Lib.indexByte f (Int.toNat 98).toUInt8:=⟨_,rfl⟩
    have hneg:(ix<0)↔f.contains (98:UInt8)=false:=by rw [hix];exact indexByte_neg f 98
    have HP:Hid (okPart f i 98=partB (f.contains 98) 0 15 i.b):=Lib.hid rfl
    have Hix:=Lib.hid hix
    have HN:=Lib.hid hneg
    clear hix hneg
    have HW:Hid (∀ w:World,Calls Try.prog 83 #[.string ⟨f.toArray⟩,.int .u8 98] w fun e w'=>e=.returned (.int .i64 ix)∧w'=w):=Lib.hid (fun w=>by rw [Hix.out];exact indexByte_any w f 98)
    generalize hin:f.contains (98:UInt8)=is at *
    clear hin
    obtain⟨x,hx⟩:∃ x,x=i.b:=⟨_,rfl⟩
    have Hx:=Lib.hid hx
    rw [← hx]at d2 HP
    clear hx
    cases is with
    | false=>
     have hn:ix<0:=HN.out.2 rfl
     by_cases h0:x=0
     ·have HGood:Hid (okPart f i 98=true):=Lib.hid (by rw [HP.out];simp [partB,h0])
      have HNext:Hid (∀ c∈partsB.take 2,okPart f i c=true):=Lib.hid (by intro c hc;have h:=Hok.out c;simp [partsB]at h hc;rcases hc with rfl | rfl<;>simp_all [HGood.out])
      subst h0
      go_wp2_with fail
      refine(HFl.out w2 w.heap.size 98 (by decide) (by decide)).mono ?_
      rintro e w3 ⟨rfl,rfl⟩
      simp only [show partAt 98=2 from rfl]
      go_wp2_with fail
      refine(HMo.out _ 98).mono ?_
      rintro e w4 ⟨rfl,rfl⟩
      simp only [show lowOf 98=0 from rfl,show highOf 98=15 from rfl]
      go_wp2_with fail
      refine(HW.out _).mono ?_
      rintro e w5 ⟨rfl,rfl⟩
      go_wp2
      go_round
      case rel=>exact⟨2,by rfl,by omega,HNext.out⟩
      case measure=>simp [intOf]
     ·have HBad:Hid (okPart f i 98=false):=Lib.hid (by rw [HP.out];simp [partB,h0])
      have HE:Hid (mayErr i=40):=Lib.hid (by unfold mayErr;rw [HI.out,HBad.out];simp)
      have hb0:(x != 0)=true:=by simp [h0]
      clear h0
      go_wp2_with fail
      refine(HFl.out w2 w.heap.size 98 (by decide) (by decide)).mono ?_
      rintro e w3 ⟨rfl,rfl⟩
      simp only [show partAt 98=2 from rfl]
      go_wp2_with fail
      refine(HMo.out _ 98).mono ?_
      rintro e w4 ⟨rfl,rfl⟩
      simp only [show lowOf 98=0 from rfl,show highOf 98=15 from rfl]
      go_wp2_with fail
      refine(HW.out _).mono ?_
      rintro e w5 ⟨rfl,rfl⟩
      go_wp2
      go_ret
      exact⟨by rw [HE.out];rfl,HB2.out⟩
    | true=>
     have hn:¬ ix<0:=fun h=>by have:=HN.out.1 h;cases this
     by_cases h1:x<0
     ·have HBad:Hid (okPart f i 98=false):=Lib.hid (by rw [HP.out];simp [partB];omega)
      have HE:Hid (mayErr i=40):=Lib.hid (by unfold mayErr;rw [HI.out,HBad.out];simp)
      go_wp2_with fail
      refine(HFl.out w2 w.heap.size 98 (by decide) (by decide)).mono ?_
      rintro e w3 ⟨rfl,rfl⟩
      simp only [show partAt 98=2 from rfl]
      go_wp2_with fail
      refine(HMo.out _ 98).mono ?_
      rintro e w4 ⟨rfl,rfl⟩
      simp only [show lowOf 98=0 from rfl,show highOf 98=15 from rfl]
      go_wp2_with fail
      refine(HW.out _).mono ?_
      rintro e w5 ⟨rfl,rfl⟩
      go_wp2
      go_ret
      exact⟨by rw [HE.out];rfl,HB2.out⟩
     by_cases h2:15<x
     ·have HBad:Hid (okPart f i 98=false):=Lib.hid (by rw [HP.out];simp [partB];omega)
      have HE:Hid (mayErr i=40):=Lib.hid (by unfold mayErr;rw [HI.out,HBad.out];simp)
      go_wp2_with fail
      refine(HFl.out w2 w.heap.size 98 (by decide) (by decide)).mono ?_
      rintro e w3 ⟨rfl,rfl⟩
      simp only [show partAt 98=2 from rfl]
      go_wp2_with fail
      refine(HMo.out _ 98).mono ?_
      rintro e w4 ⟨rfl,rfl⟩
      simp only [show lowOf 98=0 from rfl,show highOf 98=15 from rfl]
      go_wp2_with fail
      refine(HW.out _).mono ?_
      rintro e w5 ⟨rfl,rfl⟩
      go_wp2
      go_ret
      exact⟨by rw [HE.out];rfl,HB2.out⟩
     have HGood:Hid (okPart f i 98=true):=Lib.hid (by rw [HP.out];simp [partB];omega)
     have HNext:Hid (∀ c∈partsB.take 2,okPart f i c=true):=Lib.hid (by intro c hc;have h:=Hok.out c;simp [partsB]at h hc;rcases hc with rfl | rfl<;>simp_all [HGood.out])
     go_wp2_with fail
     refine(HFl.out w2 w.heap.size 98 (by decide) (by decide)).mono ?_
     rintro e w3 ⟨rfl,rfl⟩
     simp only [show partAt 98=2 from rfl]
     go_wp2_with fail
     refine(HMo.out _ 98).mono ?_
     rintro e w4 ⟨rfl,rfl⟩
     simp only [show lowOf 98=0 from rfl,show highOf 98=15 from rfl]
     go_wp2_with fail
     refine(HW.out _).mono ?_
     rintro e w5 ⟨rfl,rfl⟩
     go_wp2
     go_round
     case rel=>exact⟨2,by rfl,by omega,HNext.out⟩
     case measure=>simp [intOf]
   ·subst hk'
    obtain⟨ix,hix⟩:∃ ix,ix=Lib.indexByte f (Int.toNat 99).toUInt8:=⟨_,rfl⟩
    have hneg:(ix<0)↔f.contains (99:UInt8)=false:=by rw [hix];exact indexByte_neg f 99
    have HP:Hid (okPart f i 99=partB (f.contains 99) 0 15 i.c):=Lib.hid rfl
    have Hix:=Lib.hid hix
    have HN:=Lib.hid hneg
    clear hix hneg
    have HW:Hid (∀ w:World,Calls Try.prog 83 #[.string ⟨f.toArray⟩,.int .u8 99] w fun e w'=>e=.returned (.int .i64 ix)∧w'=w):=Lib.hid (fun w=>by rw [Hix.out];exact indexByte_any w f 99)
    generalize hin:f.contains (99:UInt8)=is at *
    clear hin
    obtain⟨x,hx⟩:∃ x,x=i.c:=⟨_,rfl⟩
    have Hx:=Lib.hid hx
    rw [← hx]at d3 HP
    clear hx
    cases is with
    | false=>
     have hn:ix<0:=HN.out.2 rfl
     by_cases h0:x=0
     ·have HGood:Hid (okPart f i 99=true):=Lib.hid (by rw [HP.out];simp [partB,h0])
      have HNext:Hid (∀ c∈partsB.take 3,okPart f i c=true):=Lib.hid (by intro c hc;have h:=Hok.out c;simp [partsB]at h hc;rcases hc with rfl | rfl | rfl<;>simp_all [HGood.out])
      subst h0
      go_wp2_with fail
      refine(HFl.out w2 w.heap.size 99 (by decide) (by decide)).mono ?_
      rintro e w3 ⟨rfl,rfl⟩
      simp only [show partAt 99=3 from rfl]
      go_wp2_with fail
      refine(HMo.out _ 99).mono ?_
      rintro e w4 ⟨rfl,rfl⟩
      simp only [show lowOf 99=0 from rfl,show highOf 99=15 from rfl]
      go_wp2_with fail
      refine(HW.out _).mono ?_
      rintro e w5 ⟨rfl,rfl⟩
      go_wp2
      go_round
      case rel=>exact⟨3,by rfl,by omega,HNext.out⟩
      case measure=>simp [intOf]
     ·have HBad:Hid (okPart f i 99=false):=Lib.hid (by rw [HP.out];simp [partB,h0])
      have HE:Hid (mayErr i=40):=Lib.hid (by unfold mayErr;rw [HI.out,HBad.out];simp)
      have hb0:(x != 0)=true:=by simp [h0]
      clear h0
      go_wp2_with fail
      refine(HFl.out w2 w.heap.size 99 (by decide) (by decide)).mono ?_
      rintro e w3 ⟨rfl,rfl⟩
      simp only [show partAt 99=3 from rfl]
      go_wp2_with fail
      refine(HMo.out _ 99).mono ?_
      rintro e w4 ⟨rfl,rfl⟩
      simp only [show lowOf 99=0 from rfl,show highOf 99=15 from rfl]
      go_wp2_with fail
      refine(HW.out _).mono ?_
      rintro e w5 ⟨rfl,rfl⟩
      go_wp2
      go_ret
      exact⟨by rw [HE.out];rfl,HB2.out⟩
    | true=>
     have hn:¬ ix<0:=fun h=>by have:=HN.out.1 h;cases this
     by_cases h1:x<0
     ·have HBad:Hid (okPart f i 99=false):=Lib.hid (by rw [HP.out];simp [partB];omega)
      have HE:Hid (mayErr i=40):=Lib.hid (by unfold mayErr;rw [HI.out,HBad.out];simp)
      go_wp2_with fail
      refine(HFl.out w2 w.heap.size 99 (by decide) (by decide)).mono ?_
      rintro e w3 ⟨rfl,rfl⟩
      simp only [show partAt 99=3 from rfl]
      go_wp2_with fail
      refine(HMo.out _ 99).mono ?_
      rintro e w4 ⟨rfl,rfl⟩
      simp only [show lowOf 99=0 from rfl,show highOf 99=15 from rfl]
      go_wp2_with fail
      refine(HW.out _).mono ?_
      rintro e w5 ⟨rfl,rfl⟩
      go_wp2
      go_ret
      exact⟨by rw [HE.out];rfl,HB2.out⟩
     by_cases h2:15<x
     ·have HBad:Hid (okPart f i 99=false):=Lib.hid (by rw [HP.out];simp [partB];omega)
      have HE:Hid (mayErr i=40):=Lib.hid (by unfold mayErr;rw [HI.out,HBad.out];simp)
      go_wp2_with fail
      refine(HFl.out w2 w.heap.size 99 (by decide) (by decide)).mono ?_
      rintro e w3 ⟨rfl,rfl⟩
      simp only [show partAt 99=3 from rfl]
      go_wp2_with fail
      refine(HMo.out _ 99).mono ?_
      rintro e w4 ⟨rfl,rfl⟩
      simp only [show lowOf 99=0 from rfl,show highOf 99=15 from rfl]
      go_wp2_with fail
      refine(HW.out _).mono ?_
      rintro e w5 ⟨rfl,rfl⟩
      go_wp2
      go_ret
      exact⟨by rw [HE.out];rfl,HB2.out⟩
     have HGood:Hid (okPart f i 99=true):=Lib.hid (by rw [HP.out];simp [partB];omega)
     have HNext:Hid (∀ c∈partsB.take 3,okPart f i c=true):=Lib.hid (by intro c hc;have h:=Hok.out c;simp [partsB]at h hc;rcases hc with rfl | rfl | rfl<;>simp_all [HGood.out])
     go_wp2_with fail
     refine(HFl.out w2 w.heap.size 99 (by decide) (by decide)).mono ?_
     rintro e w3 ⟨rfl,rfl⟩
     simp only [show partAt 99=3 from rfl]
     go_wp2_with fail
     refine(HMo.out _ 99).mono ?_
     rintro e w4 ⟨rfl,rfl⟩
     simp only [show lowOf 99=0 from rfl,show highOf 99=15 from rfl]
     go_wp2_with fail
     refine(HW.out _).mono ?_
     rintro e w5 ⟨rfl,rfl⟩
     go_wp2
     go_round
     case rel=>exact⟨3,by rfl,by omega,HNext.out⟩
     case measure=>simp [intOf]
   ·subst hk'
    obtain⟨ix,hix⟩:∃ ix,ix=Lib.indexByte f (Int.toNat 110).toUInt8:=⟨_,rfl⟩
    have hneg:(ix<0)↔f.contains (110:UInt8)=false:=by rw [hix];exact indexByte_neg f 110
    have HP:Hid (okPart f i 110=partB (f.contains 110) (-2147483648) 2147483647 i.imm):=Lib.hid rfl
    have Hix:=Lib.hid hix
    have HN:=Lib.hid hneg
    clear hix hneg
    have HW:Hid (∀ w:World,Calls Try.prog 83 #[.string ⟨f.toArray⟩,.int .u8 110] w fun e w'=>e=.returned (.int .i64 ix)∧w'=w):=Lib.hid (fun w=>by rw [Hix.out];exact indexByte_any w f 110)
    generalize hin:f.contains (110:UInt8)=is at *
    clear hin
    obtain⟨x,hx⟩:∃ x,x=i.imm:=⟨_,rfl⟩
    have Hx:=Lib.hid hx
    rw [← hx]at d4 HP
    clear hx
    cases is with
    | false=>
     have hn:ix<0:=HN.out.2 rfl
     by_cases h0:x=0
     ·have HGood:Hid (okPart f i 110=true):=Lib.hid (by rw [HP.out];simp [partB,h0])
      have HNext:Hid (∀ c∈partsB.take 4,okPart f i c=true):=Lib.hid (by intro c hc;have h:=Hok.out c;simp [partsB]at h hc;rcases hc with rfl | rfl | rfl | rfl<;>simp_all [HGood.out])
      subst h0
      go_wp2_with fail
      refine(HFl.out w2 w.heap.size 110 (by decide) (by decide)).mono ?_
      rintro e w3 ⟨rfl,rfl⟩
      simp only [show partAt 110=4 from rfl]
      go_wp2_with fail
      refine(HMo.out _ 110).mono ?_
      rintro e w4 ⟨rfl,rfl⟩
      simp only [show lowOf 110=(-2147483648)from rfl,show highOf 110=2147483647 from rfl]
      go_wp2_with fail
      refine(HW.out _).mono ?_
      rintro e w5 ⟨rfl,rfl⟩
      go_wp2
      go_round
      case rel=>exact⟨4,by rfl,by omega,HNext.out⟩
      case measure=>simp [intOf]
     ·have HBad:Hid (okPart f i 110=false):=Lib.hid (by rw [HP.out];simp [partB,h0])
      have HE:Hid (mayErr i=40):=Lib.hid (by unfold mayErr;rw [HI.out,HBad.out];simp)
      have hb0:(x != 0)=true:=by simp [h0]
      clear h0
      go_wp2_with fail
      refine(HFl.out w2 w.heap.size 110 (by decide) (by decide)).mono ?_
      rintro e w3 ⟨rfl,rfl⟩
      simp only [show partAt 110=4 from rfl]
      go_wp2_with fail
      refine(HMo.out _ 110).mono ?_
      rintro e w4 ⟨rfl,rfl⟩
      simp only [show lowOf 110=(-2147483648)from rfl,show highOf 110=2147483647 from rfl]
      go_wp2_with fail
      refine(HW.out _).mono ?_
      rintro e w5 ⟨rfl,rfl⟩
      go_wp2
      go_ret
      exact⟨by rw [HE.out];rfl,HB2.out⟩
    | true=>
     have hn:¬ ix<0:=fun h=>by have:=HN.out.1 h;cases this
     by_cases h1:x<(-2147483648)
     ·have HBad:Hid (okPart f i 110=false):=Lib.hid (by rw [HP.out];simp [partB];omega)
      have HE:Hid (mayErr i=40):=Lib.hid (by unfold mayErr;rw [HI.out,HBad.out];simp)
      go_wp2_with fail
      refine(HFl.out w2 w.heap.size 110 (by decide) (by decide)).mono ?_
      rintro e w3 ⟨rfl,rfl⟩
      simp only [show partAt 110=4 from rfl]
      go_wp2_with fail
      refine(HMo.out _ 110).mono ?_
      rintro e w4 ⟨rfl,rfl⟩
      simp only [show lowOf 110=(-2147483648)from rfl,show highOf 110=2147483647 from rfl]
      go_wp2_with fail
      refine(HW.out _).mono ?_
      rintro e w5 ⟨rfl,rfl⟩
      go_wp2
      go_ret
      exact⟨by rw [HE.out];rfl,HB2.out⟩
     by_cases h2:2147483647<x
     ·have HBad:Hid (okPart f i 110=false):=Lib.hid (by rw [HP.out];simp [partB];omega)
      have HE:Hid (mayErr i=40):=Lib.hid (by unfold mayErr;rw [HI.out,HBad.out];simp)
      go_wp2_with fail
      refine(HFl.out w2 w.heap.size 110 (by decide) (by decide)).mono ?_
      rintro e w3 ⟨rfl,rfl⟩
      simp only [show partAt 110=4 from rfl]
      go_wp2_with fail
      refine(HMo.out _ 110).mono ?_
      rintro e w4 ⟨rfl,rfl⟩
      simp only [show lowOf 110=(-2147483648)from rfl,show highOf 110=2147483647 from rfl]
      go_wp2_with fail
      refine(HW.out _).mono ?_
      rintro e w5 ⟨rfl,rfl⟩
      go_wp2
      go_ret
      exact⟨by rw [HE.out];rfl,HB2.out⟩
     have HGood:Hid (okPart f i 110=true):=Lib.hid (by rw [HP.out];simp [partB];omega)
     have HNext:Hid (∀ c∈partsB.take 4,okPart f i c=true):=Lib.hid (by intro c hc;have h:=Hok.out c;simp [partsB]at h hc;rcases hc with rfl | rfl | rfl | rfl<;>simp_all [HGood.out])
     go_wp2_with fail
     refine(HFl.out w2 w.heap.size 110 (by decide) (by decide)).mono ?_
     rintro e w3 ⟨rfl,rfl⟩
     simp only [show partAt 110=4 from rfl]
     go_wp2_with fail
     refine(HMo.out _ 110).mono ?_
     rintro e w4 ⟨rfl,rfl⟩
     simp only [show lowOf 110=(-2147483648)from rfl,show highOf 110=2147483647 from rfl]
     go_wp2_with fail
     refine(HW.out _).mono ?_
     rintro e w5 ⟨rfl,rfl⟩
     go_wp2
     go_round
     case rel=>exact⟨4,by rfl,by omega,HNext.out⟩
     case measure=>simp [intOf]
  ·have HE:Hid (mayErr i=0):=Lib.hid (by
    have h:=Hok.out
    rw [List.take_of_length_le (by simp [partsB];omega)]at h
    unfold mayErr
    rw [HI.out,h 97 (by decide),h 98 (by decide),h 99 (by decide),h 110 (by decide)];rfl)
   go_wp2
   go_ret
   exact⟨by rw [HE.out];rfl,HB2.out⟩
end Go.Proofs.Ytpomdoliblilfaa
namespace Go.Proofs.Ytpomdoliblilfaa
set_option linter.unusedVariables false
set_option linter.unusedSimpArgs false
def bareS (s:SymL):SymL:={s with value:=0,size:=0 }
theorem meant_bare (n v:List UInt8) (s:SymL):meantB n v (bareS s)=meantB n v s:=rfl
theorem findIdx?_map {α β:Type} (g:α→β) (f:β→Bool):∀ l:List α,(l.map g).findIdx? f=l.findIdx? (fun x=>f (g x))
 | []=>rfl
 | x :: l=>by simp only [List.map_cons,List.findIdx?_cons,findIdx?_map g f l]
theorem find_bare {l m:List SymL} (h:l.map bareS=m.map bareS) (n v:List UInt8):l.findIdx? (meantB n v)=m.findIdx? (meantB n v):=by
 have h1:=findIdx?_map bareS (meantB n v) l
 have h2:=findIdx?_map bareS (meantB n v) m
 simp only [meant_bare]at h1 h2
 rw [← h1,← h2,h]
theorem symsF_bare (stubs:Int):∀ (ys:List Int) (l:List SymL),(symsF stubs ys l).map bareS=l.map bareS
 | [],l=>by unfold symsF;rfl
 | a :: ys,[]=>by unfold symsF;rfl
 | [a],s :: l=>by unfold symsF;rfl
 | a :: b :: r,s :: l=>by
  unfold symsF
  simp only [List.map_cons,symsF_bare stubs (b :: r) l]
  rfl
theorem symsV_bare:∀ (ys:List Int) (vs:List VarL) (l:List SymL),(symsV ys vs l).map bareS=l.map bareS
 | [],vs,l=>by unfold symsV;rfl
 | a :: ys,[],l=>by unfold symsV;rfl
 | a :: ys,v :: vs,[]=>by unfold symsV;rfl
 | a :: ys,v :: vs,s :: l=>by
  unfold symsV
  simp only [List.map_cons,symsV_bare ys vs l]
  rfl
theorem symsL_bare (s:SpecL) (y:LayL) (l:List SymL):(symsL s y l).map bareS=l.map bareS:=by
 unfold symsL
 simp only [List.map_append,symsV_bare]
 rw [← List.map_append,List.take_append_drop,symsF_bare]
theorem symsL_len (s:SpecL) (y:LayL) (l:List SymL):(symsL s y l).length=l.length:=by
 have:=congrArg List.length (symsL_bare s y l)
 simpa using this
theorem LineIn.bare {p q:PlanL} {l:LineL} (h:LineIn p l) (hs:q.syms.map bareS=p.syms.map bareS) (hc:q.cells=p.cells) (hj:q.jumps=p.jumps):LineIn q l:=by
 obtain⟨h1,h2,h3,h4⟩:=h
 refine⟨?_,?_,?_,?_⟩
 ·rw [find_bare hs,hj];exact h1
 ·rw [find_bare hs,hc];exact h2
 ·rw [find_bare hs,hc];exact h3
 ·rw [find_bare hs,hc];exact h4
theorem VarIn.bare {p q:PlanL} {v:VarL} (h:VarIn p v) (hs:q.syms.map bareS=p.syms.map bareS):VarIn q v:=fun r hr=>by
 obtain⟨i,h⟩:=h r hr
 exact⟨i,by rw [find_bare hs];exact h⟩
theorem lower_same {weak:List (List UInt8)} {y:LayL} {x:LineL} {at_:Int} {p:PlanL} (h:LineIn p x):(lowerL weak y x at_ p).1=p∧(8*(lowerL weak y x at_ p).2.length:Int)=longL x*8:=by
 unfold lowerL longL loadL
 by_cases h1:x.kind=1
 ·obtain⟨i,hi,k,hk⟩:=h.call h1
  simp [h1,sym_found hi]
 ·by_cases h2:x.kind=2
  ·obtain⟨i,hi,k,hk⟩:=h.addr h2
   simp [h2,sym_found hi,cell_found hk]
  ·by_cases h3:x.kind=3
   ·obtain⟨i,hi,⟨k,hk⟩,k',hk'⟩:=h.tls h3
    simp [h3,sym_found hi,cell_found hk,cell_found hk']
   ·by_cases h4:x.kind=4
    ·obtain⟨i,hi,k,hk⟩:=h.tp h4
     simp [h4,sym_found hi,cell_found hk]
    ·simp [h1,h2,h3,h4]
theorem lowers_same {weak:List (List UInt8)} {y:LayL} {p:PlanL}:∀ (ls:List LineL) (out:List InstL),(∀ l∈ls,LineIn p l)→(lowersL weak y ls (p,out)).1=p∧(8*(lowersL weak y ls (p,out)).2.length:Int)=8*out.length+linesLen ls
 | [],out,_=>by unfold lowersL linesLen;exact⟨rfl,by simp⟩
 | x :: ls,out,h=>by
  obtain⟨h1,h2⟩:=lower_same (weak:=weak) (y:=y) (at_:=8*out.length) (h x (List.mem_cons_self ..))
  unfold lowersL linesLen
  simp only [h1]
  obtain⟨g1,g2⟩:=lowers_same (weak:=weak) (y:=y) ls (out++(lowerL weak y x (8*out.length) p).2) (fun l hl=>h l (List.mem_cons_of_mem _ hl))
  refine⟨g1,g2.trans ?_⟩
  rw [List.length_append]
  omega
theorem linesLen_append:∀ (a b:List LineL),linesLen (a++b)=linesLen a+linesLen b
 | [],b=>by simp [linesLen]
 | x :: a,b=>by simp only [List.cons_append,linesLen,linesLen_append a b];omega
theorem endL_lines:∀ (fs:List FuncL) (at_:Int),endL at_ fs=at_+linesLen (fs.flatMap (·.lines))
 | [],at_=>by simp [endL,linesLen]
 | f :: fs,at_=>by simp only [endL,endL_lines fs,List.flatMap_cons,linesLen_append];omega
theorem stubs_at (plt:Int):∀ (n k:Nat) (out:List InstL),(stubsL plt k n out).length=out.length+3*n∧(∀ i,i<out.length→(stubsL plt k n out)[i]? =out[i]?)∧
  ∀ j,j<n→(stubsL plt k n out)[out.length+3*j]? =some ⟨11,14,0,0,plt+8*(k+j:Nat)-8*(out.length+3*j:Nat)-8⟩∧(stubsL plt k n out)[out.length+3*j+1]? =some ⟨17,14,0,0,0⟩∧(stubsL plt k n out)[out.length+3*j+2]? =some ⟨22,0,0,0,(k+j:Nat)⟩
 | 0,k,out=>by unfold stubsL;exact⟨rfl,fun _ _=>rfl,fun j hj=>absurd hj (by omega)⟩
 | n+1,k,out=>by
  obtain⟨h1,h2,h3⟩:=stubs_at plt n (k+1) (out++[⟨11,14,0,0,plt+8*k-8*out.length-8⟩,⟨17,14,0,0,0⟩,⟨22,0,0,0,k⟩])
  unfold stubsL
  simp only [List.length_append,List.length_cons,List.length_nil]at h1 h2 h3
  refine⟨by omega,fun i hi=> ?_,fun j hj=> ?_⟩
  ·rw [h2 i (by omega),List.getElem?_append_left hi]
  ·cases j with
   | zero=>
    refine⟨?_,?_,?_⟩
    ·rw [h2 _ (by omega),List.getElem?_append_right (by omega)]
     simp
    ·rw [h2 _ (by omega),List.getElem?_append_right (by omega)]
     simp
    ·rw [h2 _ (by omega),List.getElem?_append_right (by omega)]
     simp
   | succ j=>
    obtain⟨g1,g2,g3⟩:=h3 j (by omega)
    have e0:out.length+3*(j+1)=out.length+(0+1+1+1)+3*j:=by omega
    have e1:k+1+j=k+(j+1):=by omega
    rw [e1,← e0]at g1
    rw [← e0]at g2
    rw [e1,← e0]at g3
    exact⟨g1,g2,g3⟩
theorem fail_zero {p:PlanL} {e:Int} (he:e≠0):(p.fail e).fault≠0:=by
 unfold PlanL.fail
 split
 ·exact he
 ·assumption
theorem failIf_zero {p:PlanL} {b:Bool} {e:Int} (he:e≠0):(p.failIf b e).fault=0↔p.fault=0∧b=false:=by
 unfold PlanL.failIf
 cases b with
 | false=>simp
 | true=>simp [fail_zero he]
theorem define_zero {p:PlanL} {s:SymL} {tls:Bool} {e:Int} (he:e≠0) (h:(p.define s tls e).fault=0):p.fault=0:=by
 unfold PlanL.define at h
 have h1:((p.failIf (!symRightB (defSym s)||(decide (s.kind=3) != tls)) e).failIf (p.syms.any fun t=>sameDef t (defSym s)) 100).fault=0:=h
 exact((failIf_zero he).1 ((failIf_zero (by decide)).1 h1).1).1
theorem sym_fault (weak:List (List UInt8)) (n v:List UInt8) (k:Int) (p:PlanL):(p.sym weak n v k).1.fault=p.fault:=by unfold PlanL.sym;split<;>rfl
theorem asked_zero {weak:List (List UInt8)} {n v:List UInt8} {e:Int} {ks:List Int} {p:PlanL} (he:e≠0) (h:(p.asked weak n v e ks).1.fault=0):p.fault=0:=by
 have h1:=((failIf_zero he).1 h).1
 rwa [sym_fault]at h1
theorem func_zero {p:PlanL} {f:FuncL} (h:(p.func f).fault=0):p.fault=0:=by
 have h1:=define_zero (by decide) h
 exact((failIf_zero (by decide)).1 ((failIf_zero (by decide)).1 h1).1).1
theorem refsFrom_zero (v:VarL):∀ (l:List RefL) (last:Int) (p:PlanL),(refsFrom v last l p).fault=0→p.fault=0
 | [],_,_,h=>h
 | r :: l,last,p,h=>((failIf_zero (by decide)).1 (refsFrom_zero v l r.word _ h)).1
theorem var_zero {p:PlanL} {flags:Int} {v:VarL} (h:(p.var flags v).fault=0):p.fault=0∧1≤v.words.length∧v.words.length≤256∧v.sym.kind≠1:=by
 have h1:=define_zero (by decide) (refsFrom_zero v v.refs (-1) _ h)
 obtain⟨h2,h3⟩:=(failIf_zero (by decide)).1 h1
 simp only [Bool.or_eq_false_iff,decide_eq_false_iff_not]at h3
 exact⟨h2,by omega,by omega,h3.1.2⟩
theorem foldl_zero {α:Type} {f:PlanL→α→PlanL} (hf:∀ p x,(f p x).fault=0→p.fault=0):∀ (l:List α) (p:PlanL),(l.foldl f p).fault=0→p.fault=0
 | [],_,h=>h
 | x :: l,p,h=>hf p x (foldl_zero hf l (f p x) h)
theorem foldl_each {α:Type} {f:PlanL→α→PlanL} {P:α→Prop} (hf:∀ p x,(f p x).fault=0→p.fault=0) (hP:∀ p x,(f p x).fault=0→P x):∀ (l:List α) (p:PlanL),(l.foldl f p).fault=0→∀ x∈l,P x
 | [],_,_,x,hx=>by cases hx
 | y :: l,p,h,x,hx=>by
  rcases List.mem_cons.1 hx with rfl | hx
  ·exact hP p _ (foldl_zero hf l _ h)
  ·exact foldl_each hf hP l _ h x hx
theorem called_zero {weak:List (List UInt8)} {l:LineL} {p:PlanL} (h:(p.called weak l).fault=0):p.fault=0:=by
 unfold PlanL.called at h
 split at h
 ·exact asked_zero (by decide) h
 ·split at h
  ·exact asked_zero (by decide) h
  ·split at h
   ·exact asked_zero (by decide) h
   ·exact h
theorem addressed_zero {weak:List (List UInt8)} {l:LineL} {p:PlanL} (h:(p.addressed weak l).fault=0):p.fault=0:=by
 unfold PlanL.addressed at h
 split at h
 ·exact asked_zero (by decide) h
 ·exact h
theorem refs_zero {weak:List (List UInt8)} {v:VarL} {p:PlanL} (h:(p.refs weak v).fault=0):p.fault=0:=
 foldl_zero (fun p (r:RefL) h=>asked_zero (by decide) h) v.refs p h
theorem needs_zero {s:SpecL} {p:PlanL} (h:(p.needs s).fault=0):p.fault=0:=
 foldl_zero (fun _ _ h=>((failIf_zero (by decide)).1 h).1) _ _ (foldl_zero (fun _ _ h=>called_zero h) _ _ (foldl_zero (fun _ _ h=>addressed_zero h) _ _ h))
def check1 (s:SpecL):PlanL:=s.funcs.foldl (fun p f=>p.func f) ((⟨[],[],[],0⟩:PlanL).failIf (decide (s.flags<0)||decide (15<s.flags)) 100)
def check2 (s:SpecL):PlanL:=s.vars.foldl (fun p v=>p.var s.flags v) (check1 s)
theorem checkL_eq (s:SpecL):checkL s=s.vars.foldl (fun p v=>p.refs s.weak v) ((check2 s).needs s):=rfl
theorem check_zero {s:SpecL} (h:(checkL s).fault=0):0≤s.flags∧s.flags≤15∧∀ v∈s.vars,1≤v.words.length∧v.words.length≤256∧v.sym.kind≠1:=by
 rw [checkL_eq]at h
 have h1:=needs_zero (foldl_zero (fun _ _ h=>refs_zero h) _ _ h)
 have h2:=foldl_zero (fun _ _ h=>(var_zero h).1) s.vars _ h1
 have h3:=foldl_zero (fun _ _ h=>func_zero h) s.funcs _ h2
 have h4:=((failIf_zero (by decide)).1 h3).2
 simp only [Bool.or_eq_false_iff,decide_eq_false_iff_not]at h4
 exact⟨by omega,by omega,foldl_each (f:=fun p v=>p.var s.flags v) (fun _ _ h=>(var_zero h).1) (fun _ _ h=>(var_zero h).2) s.vars (check1 s) h1⟩
theorem fail_keep {p:PlanL} {e:Int} (h:p.fault≠0):(p.fail e).fault=p.fault:=by unfold PlanL.fail;rw [if_neg h]
theorem failIf_keep {p:PlanL} {b:Bool} {e:Int} (h:p.fault≠0):(p.failIf b e).fault=p.fault:=by unfold PlanL.failIf;split;exact fail_keep h;rfl
theorem func_syms (p:PlanL) (f:FuncL):(p.func f).syms=p.syms++[defSym f.sym]:=by unfold PlanL.func PlanL.define;simp
theorem refsFrom_syms (v:VarL):∀ (l:List RefL) (last:Int) (p:PlanL),(refsFrom v last l p).syms=p.syms
 | [],_,_=>rfl
 | r :: l,last,p=>by unfold refsFrom;rw [refsFrom_syms v l];simp
theorem var_syms (p:PlanL) (flags:Int) (v:VarL):(p.var flags v).syms=p.syms++[defSym v.sym]:=by unfold PlanL.var;rw [refsFrom_syms];unfold PlanL.define;simp
theorem funcs_syms:∀ (l:List FuncL) (p:PlanL),(l.foldl (fun p f=>p.func f) p).syms=p.syms++l.map (fun f=>defSym f.sym)
 | [],p=>by simp
 | f :: l,p=>by rw [List.foldl_cons,funcs_syms l,func_syms];simp
theorem vars_syms (flags:Int):∀ (l:List VarL) (p:PlanL),(l.foldl (fun p v=>p.var flags v) p).syms=p.syms++l.map (fun v=>defSym v.sym)
 | [],p=>by simp
 | v :: l,p=>by rw [List.foldl_cons,vars_syms flags l,var_syms];simp
theorem check2_syms (s:SpecL):(check2 s).syms=s.funcs.map (fun f=>defSym f.sym)++s.vars.map (fun v=>defSym v.sym):=by
 unfold check2 check1
 rw [vars_syms,funcs_syms];simp
theorem placed_new {s:SpecL} {p:PlanL} (weak:List (List UInt8)) (n v:List UInt8) (k:Int) (h:Placed s p.syms):Placed s (p.sym weak n v k).1.syms:=by
 unfold PlanL.sym
 split
 ·exact h
 ·rename_i hn
  refine⟨h.own.trans (List.prefix_append _ _),fun i x hi hx=> ?_⟩
  have hn':=List.findIdx?_eq_none_iff.1 hn
  rcases Nat.lt_or_ge i p.syms.length with h1 | h1
  ·simp only at hx
   rw [List.getElem?_append_left h1]at hx
   obtain⟨g1,g2⟩:=h.rest i x hi hx
   refine⟨g1,fun k y hk hki hy=> ?_⟩
   simp only at hy
   rw [List.getElem?_append_left (by omega)]at hy
   exact g2 k y hk hki hy
  ·have hlen:i<(p.syms++[newSym weak n v k]).length:=(List.getElem?_eq_some_iff.1 hx).1
   simp only [List.length_append,List.length_cons,List.length_nil]at hlen
   have hi2:i=p.syms.length:=by omega
   subst hi2
   simp only at hx
   rw [List.getElem?_append_right (Nat.le_refl _)]at hx
   simp at hx
   subst hx
   refine⟨rfl,fun k2 y hk hki hy hh=> ?_⟩
   simp only at hy
   rw [List.getElem?_append_left (by omega)]at hy
   have hd:=(h.rest k2 y hk hy).1
   have hm:=hn' y (List.mem_of_getElem? hy)
   simp only [newSym]at hh
   simp [meantB,hd,hh.1,hh.2]at hm
theorem placed_fold {s:SpecL} {α:Type} {f:PlanL→α→PlanL} (hf:∀ p x,Placed s p.syms→Placed s (f p x).syms):∀ (l:List α) (p:PlanL),Placed s p.syms→Placed s (l.foldl f p).syms
 | [],_,h=>h
 | x :: l,p,h=>placed_fold hf l (f p x) (hf p x h)
theorem placed_asked {s:SpecL} {p:PlanL} (weak:List (List UInt8)) (n v:List UInt8) (e:Int) (ks:List Int) (h:Placed s p.syms):Placed s (p.asked weak n v e ks).1.syms:=by
 unfold PlanL.asked;simp only [failIf_syms];exact placed_new weak n v _ h
theorem check_placed (s:SpecL):Placed s (checkL s).syms:=by
 rw [checkL_eq]
 refine placed_fold (fun p v h=>placed_fold (fun p r h=>placed_asked _ _ _ _ _ h) _ _ h) _ _ ?_
 unfold PlanL.needs
 refine placed_fold (fun p l h=> ?_) _ _ (placed_fold (fun p l h=> ?_) _ _ (placed_fold (fun p l h=> ?_) _ _ ?_))
 ·unfold PlanL.addressed
  split
  ·exact placed_asked _ _ _ _ _ h
  ·exact h
 ·unfold PlanL.called
  split
  ·exact placed_asked _ _ _ _ _ h
  ·split
   ·exact placed_asked _ _ _ _ _ h
   ·split
    ·exact placed_asked _ _ _ _ _ h
    ·exact h
 ·unfold PlanL.line;rw [failIf_syms];exact h
 ·refine⟨by rw [check2_syms];exact List.prefix_refl _,fun i x hi hx=> ?_⟩
  have h1:i<(check2 s).syms.length:=(List.getElem?_eq_some_iff.1 hx).1
  rw [check2_syms]at h1
  simp at h1;omega
end Go.Proofs.Ytpomdoliblilfaa
