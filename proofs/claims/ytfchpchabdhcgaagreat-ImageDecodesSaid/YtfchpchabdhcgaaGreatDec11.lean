/- Lemmas. -/
import Derived.Test.YtfchpchabdhcgaaGreatDec1
import Derived.Test.YtfchpchabdhcgaaGreatDec2
import Derived.Test.YtfchpchabdhcgaaGreatDec10
import Derived.BigQuiet
import Derived.Below
import Derived.KernelRfl
import Derived.Test.YtfchpchabdhcgaaGreatChecked
import Derived.Laws.AppendOwnNone
import Derived.Maps.AppendAt
import Derived.Deep.RegionHeld
import Derived.IntWalk
import Derived.Laws.IdiomStrings
import Derived.Lib.AppendStr
import Derived.Deep.DeepCutAuto
import Derived.OrdersHeld
set_option linter.unusedVariables false
set_option linter.unusedSimpArgs false
set_option maxHeartbeats 64000000
set_option maxRecDepth 100000
namespace Go.Proofs.YtfchpchabdhcgaaGreat
theorem sum_add (l:List Nat) (f g:Nat→Nat):(l.map fun k=>f k+g k).sum=(l.map f).sum+(l.map g).sum:=by
 induction l with
 | nil=>rfl
 | cons a l ih=>simp only [List.map_cons,List.sum_cons,ih];omega
theorem sum_zero (l:List Nat):(l.map fun _=>(0:Nat)).sum=0:=by
 induction l with
 | nil=>rfl
 | cons a l ih=>simp only [List.map_cons,List.sum_cons,ih]
theorem sum_congr (l:List Nat) (f g:Nat→Nat) (h:∀ k∈l,f k=g k):(l.map f).sum=(l.map g).sum:=by
 rw [List.map_congr_left h]
section
variable (home : Nat → Nat)
def atHome (S:List Nat) (b:Nat) (i:Int):Bool:=S.any fun k=>decide (i=(k:Int))&&decide (home k=b)
def onceAt (S:List Nat) (b:Nat) (c:List Int):Nat:=(S.map fun k=>if home k=b then c.count (k:Int) else 0).sum
theorem atHome_sum (S:List Nat) (hS:S.Nodup) (b:Nat) (i:Int):(if atHome home S b i then 1 else 0)=(S.map fun k=>if home k=b then (if i=(k:Int) then 1 else 0) else 0).sum:=by
 induction S with
 | nil=>rfl
 | cons k S ih=>
  obtain⟨hk,hS'⟩:=List.nodup_cons.1 hS
  simp only [List.map_cons,List.sum_cons]
  rw [← ih hS']
  by_cases h1:i=(k:Int)
  ·have h2:atHome home S b i=false:=by
    rw [atHome,List.any_eq_false]
    intro x hx
    have:x≠k:=fun e=>hk (e ▸ hx)
    simp;omega
   by_cases h3:home k=b<;>simp [atHome,h1,h3]at h2 ⊢<;>simpa using h2
  ·by_cases h3:home k=b<;>simp [atHome,h1,h3]
theorem countP_home (S:List Nat) (hS:S.Nodup) (b:Nat) (c:List Int):c.countP (atHome home S b)=onceAt home S b c:=by
 induction c with
 | nil=>simp [onceAt,sum_zero]
 | cons i c ih=>
  rw [List.countP_cons,ih]
  have:onceAt home S b (i :: c)=onceAt home S b c+(S.map fun k=>if home k=b then (if i=(k:Int) then 1 else 0) else 0).sum:=by
   unfold onceAt
   rw [← sum_add]
   apply sum_congr
   intro k _
   rw [List.count_cons]
   by_cases h3:home k=b<;>simp [h3]
  rw [this,← atHome_sum home S hS]
def homes (S:List Nat):Nat→List (List Int)→Nat
 | _,[]=>0
 | b,c :: l=>c.countP (atHome home S b)+homes S (b+1) l
theorem homes_sum (S:List Nat) (hS:S.Nodup):∀ (bs:List (List Int)) (b:Nat),homes home S b bs=(S.map fun k=>if home k<b then 0 else (bs.getD (home k-b) []).count (k:Int)).sum
 | [],b=>by
  refine(sum_zero S).symm.trans (sum_congr S _ _ (fun k _=> ?_))
  by_cases h:home k<b<;>simp [h]
 | c :: l,b=>by
  rw [homes,homes_sum S hS l (b+1),countP_home home S hS,onceAt,← sum_add]
  apply sum_congr
  intro k _
  by_cases h:home k<b
  ·simp [h,show home k<b+1 by omega,show home k≠b by omega]
  ·by_cases h2:home k=b
   ·simp [h2]
   ·have:home k-b=(home k-(b+1))+1:=by omega
    simp [h,h2,show ¬ home k<b+1 by omega,this]
theorem homes_le (S:List Nat):∀ (bs:List (List Int)) (b:Nat),homes home S b bs≤(bs.map List.length).sum
 | [],_=>Nat.le_refl _
 | c :: l,b=>by
  have:=homes_le S l (b+1)
  have h2:=List.countP_le_length (p:=atHome home S b) (l:=c)
  simp only [homes,List.map_cons,List.sum_cons];omega
theorem homes_all (S:List Nat):∀ (bs:List (List Int)) (b:Nat),homes home S b bs=(bs.map List.length).sum↔∀ j c,bs[j]? =some c→∀ i∈c,atHome home S (b+j) i=true
 | [],_=>by simp [homes]
 | c :: l,b=>by
  have h1:=homes_le home S l (b+1)
  have h2:=List.countP_le_length (p:=atHome home S b) (l:=c)
  have ih:=homes_all S l (b+1)
  have h3:=List.countP_eq_length (p:=atHome home S b) (l:=c)
  simp only [homes,List.map_cons,List.sum_cons]
  constructor
  ·intro h j d hj
   cases j with
   | zero=>simp at hj;subst hj;exact h3.1 (by omega)
   | succ j=>
    have:=ih.1 (by omega) j d (by simpa using hj)
    rwa [show b+1+j=b+(j+1) by omega]at this
  ·intro h
   have a1:=h3.2 (fun i hi=>by simpa using h 0 c (by simp) i hi)
   have a2:=ih.2 (fun j d hj=>by have:=h (j+1) d (by simpa using hj);rwa [show b+(j+1)=b+1+j by omega]at this)
   omega
theorem sum_ones (S:List Nat) (f:Nat→Nat) (h:∀ k∈S,f k≤1):(S.map f).sum=S.length↔∀ k∈S,f k=1:=by
 induction S with
 | nil=>simp
 | cons a S ih=>
  have h1:=h a (by simp)
  have hle:(S.map f).sum≤S.length:=by
   clear ih
   have h':∀ k∈S,f k≤1:=fun k hk=>h k (by simp [hk])
   clear h
   induction S with
   | nil=>simp
   | cons b S ih2=>
    have:=h' b (by simp)
    have:=ih2 (fun k hk=>h' k (by simp [hk]))
    simp only [List.map_cons,List.sum_cons,List.length_cons];omega
  have ih':=ih (fun k hk=>h k (by simp [hk]))
  simp only [List.map_cons,List.sum_cons,List.length_cons,List.mem_cons,forall_eq_or_imp]
  rw [← ih'];omega
theorem count_le_one (c:List Int) (h:c.Pairwise (·<·)) (i:Int):c.count i≤1:=by
 induction c with
 | nil=>simp
 | cons a c ih=>
  obtain⟨h1,h2⟩:=List.pairwise_cons.1 h
  rw [List.count_cons]
  by_cases e:a=i
  ·have:c.count i=0:=by
    rw [List.count_eq_zero]
    intro hi
    have:=h1 i hi
    omega
   simp [e,this]
  ·have:=ih h2
   simp [e];exact this
theorem home_iff (S:List Nat) (hS:S.Nodup) (bs:List (List Int)) (hb:∀ c∈bs,c.Pairwise (·<·)) (hn:(bs.map List.length).sum=S.length):
  (∀ j c,bs[j]? =some c→∀ i∈c,atHome home S j i=true)↔∀ k∈S,(bs.getD (home k) []).count (k:Int)=1:=by
 have h1:=homes_all home S bs 0
 have h2:=homes_sum home S hS bs 0
 simp only [Nat.not_lt_zero,if_false,Nat.sub_zero,Nat.zero_add]at h1 h2
 rw [← h1,h2,hn]
 refine sum_ones S _ (fun k _=> ?_)
 by_cases h:home k<bs.length
 ·rw [List.getD_eq_getElem?_getD,List.getElem?_eq_getElem h];exact count_le_one _ (hb _ (List.getElem_mem h)) _
 ·simp [List.getD,List.getElem?_eq_none (Nat.le_of_not_lt h)]
end
def noSymL:SymL:=⟨[],[],false,0,false,0,false,0,0⟩
def symN (syms:List SymL) (k:Nat):SymL:=syms[k]?.getD noSymL
def seenK (syms:List SymL) (n:Nat):List Nat:=(List.range n).filter fun k=>seenB (symN syms k)
def seenIx (syms:List SymL):List Nat:=seenK syms syms.length
theorem seenK_succ (syms:List SymL) (n:Nat):seenK syms (n+1)=seenK syms n++if seenB (symN syms n) then [n] else []:=by
 rw [seenK,List.range_succ,List.filter_append,List.filter_cons,List.filter_nil];rfl
theorem seenIx_nodup (syms:List SymL):(seenIx syms).Nodup:=List.nodup_range.sublist List.filter_sublist
theorem seenK_mem (syms:List SymL) (n k:Nat):k∈seenK syms n↔k<n∧seenB (symN syms k)=true:=by
 rw [seenK,List.mem_filter,List.mem_range]
theorem seenK_length (syms:List SymL):∀ n,n≤syms.length→(seenK syms n).length=((syms.take n).filter seenB).length
 | 0,_=>by simp [seenK]
 | n+1,h=>by
  rw [seenK_succ,List.length_append,seenK_length syms n (by omega),List.take_succ_eq_append_getElem (show n<syms.length by omega),List.filter_append,List.length_append]
  have:symN syms n=syms[n]:=by rw [symN,List.getElem?_eq_getElem (show n<syms.length by omega)];rfl
  rw [this]
  by_cases hs:seenB syms[n]=true<;>simp [hs]
theorem seenIx_length (syms:List SymL):(seenIx syms).length=(syms.filter seenB).length:=by
 rw [seenIx,seenK_length syms _ (Nat.le_refl _),List.take_length]
theorem seenK_le (syms:List SymL) (n:Nat):(seenK syms n).length≤n:=by
 have:=List.length_filter_le (fun k=>seenB (symN syms k)) (List.range n)
 rwa [List.length_range]at this
def risingB:List Int→Bool
 | a :: b :: l=>decide (a<b)&&risingB (b :: l)
 | _=>true
theorem rising_pairwise:∀ l:List Int,risingB l=true↔l.Pairwise (·<·)
 | []=>by simp [risingB]
 | [a]=>by simp [risingB]
 | a :: b :: l=>by
  have ih:=rising_pairwise (b :: l)
  rw [risingB,Bool.and_eq_true,ih,List.pairwise_cons (a:=a),decide_eq_true_eq]
  constructor
  ·rintro ⟨h1,h2⟩
   refine⟨fun c hc=> ?_,h2⟩
   rcases List.mem_cons.1 hc with rfl | hc
   ·exact h1
   ·have:=(List.pairwise_cons.1 h2).1 c hc;omega
  ·rintro ⟨h1,h2⟩
   exact⟨h1 b (by simp),h2⟩
def symHome (im:ImgL) (k:Nat):Nat:=homeL (symN im.syms k).name im.buckets.length
def standsB (im:ImgL) (k:Nat):Bool:=decide ((im.buckets.getD (symHome im k) []).count (k:Int)=1)&& !lacksB im.words im.shift (hashB (symN im.syms k).name)
def entryB (im:ImgL) (b:Nat) (i:Int):Bool:=match (if i<0 then none else im.syms[i.toNat]?)with
  | some s=>seenB s&&decide (homeL s.name im.buckets.length=b)&& !lacksB im.words im.shift (hashB s.name)
  | none=>false
theorem chainB_iff (im:ImgL) (b:Nat):∀ (l:List Int) (last:Int),chainB im.syms im.words im.shift im.buckets.length b last l=true↔(∀ i∈l,last<i)∧l.Pairwise (·<·)∧∀ i∈l,entryB im b i=true
 | [],_=>by simp [chainB]
 | i :: l,last=>by
  have ih:=chainB_iff im b l i
  have e:chainB im.syms im.words im.shift im.buckets.length b last (i :: l)=(decide (last<i)&&entryB im b i&&chainB im.syms im.words im.shift im.buckets.length b i l):=by rw [chainB];rfl
  rw [e,Bool.and_eq_true,Bool.and_eq_true,ih,decide_eq_true_eq,List.pairwise_cons]
  constructor
  ·rintro ⟨⟨h1,h2⟩,h3,h4,h5⟩
   refine⟨fun c hc=> ?_,⟨h3,h4⟩,fun c hc=> ?_⟩
   ·rcases List.mem_cons.1 hc with rfl | hc
    ·exact h1
    ·have:=h3 c hc;omega
   ·rcases List.mem_cons.1 hc with rfl | hc
    ·exact h2
    ·exact h5 c hc
  ·rintro ⟨h1,⟨h3,h4⟩,h5⟩
   exact⟨⟨h1 i (by simp),h5 i (by simp)⟩,h3,h4,fun c hc=>h5 c (by simp [hc])⟩
theorem entry_nonneg {im:ImgL} {b:Nat} {i:Int} (h:entryB im b i=true):0≤i:=by
 unfold entryB at h
 by_cases hi:i<0
 ·rw [if_pos hi]at h;cases h
 ·omega
theorem entry_home {im:ImgL} {b:Nat} {i:Int}:entryB im b i=true↔∃ k∈seenIx im.syms,i=(k:Int)∧symHome im k=b∧lacksB im.words im.shift (hashB (symN im.syms k).name)=false:=by
 constructor
 ·intro h
  have h0:=entry_nonneg h
  obtain⟨k,rfl⟩:∃ k:Nat,i=k:=⟨i.toNat,by omega⟩
  unfold entryB at h
  rw [if_neg (by omega),Int.toNat_natCast]at h
  cases hs:im.syms[k]? with
  | none=>rw [hs]at h;cases h
  | some s=>
   rw [hs]at h
   have hk:=(List.getElem?_eq_some_iff.1 hs).1
   have hn:symN im.syms k=s:=by rw [symN,hs];rfl
   simp only [Bool.and_eq_true,decide_eq_true_eq,Bool.not_eq_true']at h
   exact⟨k,(seenK_mem _ _ _).2 ⟨hk,by rw [hn];exact h.1.1⟩,rfl,by rw [symHome,hn];exact h.1.2,by rw [hn];exact h.2⟩
 ·rintro ⟨k,hk,rfl,h1,h2⟩
  obtain⟨hk1,hk2⟩:=(seenK_mem _ _ _).1 hk
  have hs:im.syms[k]? =some (symN im.syms k):=by rw [symN,List.getElem?_eq_getElem hk1];rfl
  unfold entryB
  rw [if_neg (by omega),Int.toNat_natCast,hs]
  simp only [Bool.and_eq_true,decide_eq_true_eq,Bool.not_eq_true']
  exact⟨⟨hk2,h1⟩,h2⟩
theorem chainsB_iff (im:ImgL):∀ (bs:List (List Int)) (b:Nat),chainsB im.syms im.words im.shift im.buckets.length b bs=true↔(∀ c∈bs,c.Pairwise (·<·))∧∀ j c,bs[j]? =some c→∀ i∈c,entryB im (b+j) i=true
 | [],_=>by simp [chainsB]
 | c :: l,b=>by
  have ih:=chainsB_iff im l (b+1)
  rw [chainsB,Bool.and_eq_true,ih,chainB_iff]
  constructor
  ·rintro ⟨⟨_,h2,h3⟩,h4,h5⟩
   refine⟨fun d hd=> ?_,fun j d hj=> ?_⟩
   ·rcases List.mem_cons.1 hd with rfl | hd
    ·exact h2
    ·exact h4 d hd
   ·cases j with
    | zero=>simp at hj;subst hj;exact h3
    | succ j=>rw [show b+(j+1)=b+1+j by omega];exact h5 j d (by simpa using hj)
  ·rintro ⟨h1,h2⟩
   have h0:=h2 0 c (by simp)
   refine⟨⟨fun i hi=> ?_,h1 c (by simp),h0⟩,fun d hd=>h1 d (by simp [hd]),fun j d hj=> ?_⟩
   ·have:=entry_nonneg (h0 i hi);omega
   ·have:=h2 (j+1) d (by simpa using hj)
    rwa [show b+(j+1)=b+1+j by omega]at this
def tableJ (im:ImgL):Bool:=
 decide (im.syms.length≤512)&&decide (1≤im.buckets.length)&&decide (im.buckets.length≤512)&&sieveB im.words im.shift&&im.buckets.all risingB&&
 decide ((im.buckets.map List.length).sum=(seenIx im.syms).length)&&(seenIx im.syms).all (standsB im)
theorem tableJ_eq (im:ImgL):tableJ im=tableB im:=by
 rw [Bool.eq_iff_iff]
 unfold tableJ tableB
 simp only [Bool.and_eq_true,decide_eq_true_eq]
 rw [chainsB_iff,← seenIx_length]
 simp only [Nat.zero_add]
 have hall:(im.buckets.all risingB=true)↔∀ c∈im.buckets,c.Pairwise (·<·):=by
  rw [List.all_eq_true];exact⟨fun h c hc=>(rising_pairwise c).1 (h c hc),fun h c hc=>(rising_pairwise c).2 (h c hc)⟩
 rw [hall]
 constructor
 ·rintro ⟨⟨⟨h0,h1⟩,h2⟩,h3⟩
  refine⟨⟨h0,h1,?_⟩,h2⟩
  have hh:=(home_iff (symHome im) (seenIx im.syms) (seenIx_nodup _) im.buckets h1 h2).2 (fun k hk=>by
   have:=List.all_eq_true.1 h3 k hk
   simp only [standsB,Bool.and_eq_true,decide_eq_true_eq]at this
   exact this.1)
  intro j c hj i hi
  have:=hh j c hj i hi
  simp only [atHome,List.any_eq_true,Bool.and_eq_true,decide_eq_true_eq]at this
  obtain⟨k,hk,h4,h5⟩:=this
  have h6:=List.all_eq_true.1 h3 k hk
  simp only [standsB,Bool.and_eq_true,decide_eq_true_eq,Bool.not_eq_true']at h6
  exact entry_home.2 ⟨k,hk,h4,h5,h6.2⟩
 ·rintro ⟨⟨h0,h1,h3⟩,h2⟩
  refine⟨⟨⟨h0,h1⟩,h2⟩,?_⟩
  have hh:=(home_iff (symHome im) (seenIx im.syms) (seenIx_nodup _) im.buckets h1 h2).1 (fun j c hj i hi=>by
   obtain⟨k,hk,h4,h5,_⟩:=entry_home.1 (h3 j c hj i hi)
   simp only [atHome,List.any_eq_true,Bool.and_eq_true,decide_eq_true_eq]
   exact⟨k,hk,h4,h5⟩)
  rw [List.all_eq_true]
  intro k hk
  have hc:=hh k hk
  simp only [standsB,Bool.and_eq_true,decide_eq_true_eq,Bool.not_eq_true']
  refine⟨hc,?_⟩
  have hmem:(k:Int)∈im.buckets.getD (symHome im k) []:=List.count_pos_iff.1 (by omega)
  rw [List.getD_eq_getElem?_getD]at hmem
  cases hb:im.buckets[symHome im k]? with
  | none=>rw [hb]at hmem;simp at hmem
  | some c=>
   rw [hb]at hmem
   obtain⟨k',_,h4,_,h6⟩:=entry_home.1 (h3 _ c hb (k:Int) (by simpa using hmem))
   have:k'=k:=by omega
   subst this
   exact h6
end Go.Proofs.YtfchpchabdhcgaaGreat
namespace Go.Proofs.YtfchpchabdhcgaaGreat
def valL:List UInt8→Nat
 | []=>0
 | c :: l=>c.toNat+256*valL l
theorem val_digits:∀ (size m:Nat),m<256 ^ size→valL ((List.range size).map fun i=>UInt8.ofNat (m/256 ^ i))=m
 | 0,m,h=>by simp at h;simp [valL,h]
 | size+1,m,h=>by
  rw [List.range_succ_eq_map,List.map_cons,List.map_map,valL]
  have e:((fun i=>UInt8.ofNat (m/256 ^ i))∘Nat.succ)=fun i=>UInt8.ofNat (m/256/256 ^ i):=by
   funext i
   simp only [Function.comp,Nat.succ_eq_add_one]
   rw [Nat.pow_succ,Nat.mul_comm,Nat.div_div_eq_div_mul]
  rw [e,val_digits size (m/256) (by rw [Nat.pow_succ]at h;exact Nat.div_lt_of_lt_mul (by rw [Nat.mul_comm];exact h))]
  simp
  omega
theorem digitsL_len (size:Nat) (n:Int):(digitsL size n).length=size:=by simp [digitsL]
theorem val_digitsL (size:Nat) (n:Int) (h0:0≤n) (h1:n<18446744073709551616) (h:n.toNat<256 ^ size):(valL (digitsL size n):Int)=n:=by
 rw [digitsL,Int.emod_eq_of_lt h0 h1,val_digits size n.toNat h,Int.toNat_of_nonneg h0]
end Go.Proofs.YtfchpchabdhcgaaGreat
namespace Go.Proofs.YtfchpchabdhcgaaGreat
def bindP {α β:Type} (p:List UInt8→Option (α × List UInt8)) (k:α→List UInt8→Option (β × List UInt8)):List UInt8→Option (β × List UInt8):=fun l=>match p l with
  | none=>none
  | some (x,t)=>k x t
def sgnL (n:Nat):Int:=if n<9223372036854775808 then (n:Int) else (n:Int)-18446744073709551616
def numP (size:Nat) (l:List UInt8):Option (Int × List UInt8):=if size≤l.length then some (if size=8 then sgnL (valL (l.take size)) else (valL (l.take size):Int),l.drop size) else none
def wordP (l:List UInt8):Option (Int × List UInt8):=if 8≤l.length then some ((valL (l.take 8):Int),l.drop 8) else none
def partP (size most:Nat):List UInt8→Option (List UInt8 × List UInt8):=bindP (numP size) fun n t=>if n≤most∧n≤t.length then some (t.take n.toNat,t.drop n.toNat) else none
def textP:List UInt8→Option (List UInt8 × List UInt8):=partP 2 4096
def blockP:List UInt8→Option (List UInt8 × List UInt8):=partP 4 1048576
def manyP {α:Type} (p:List UInt8→Option (α × List UInt8)):Nat→List UInt8→Option (List α × List UInt8)
  | 0=>fun l=>some ([],l)
  | n+1=>bindP p fun x=>bindP (manyP p n) fun xs t=>some (x :: xs,t)
def bitP:List UInt8→Option (Bool × List UInt8):=bindP (numP 1) fun n t=>if 1<n then none else some (n==1,t)
def segP:List UInt8→Option (SegL × List UInt8):=bindP (numP 4) fun a=>bindP (numP 4) fun s=>bindP (numP 1) fun p=>bindP blockP fun b t=>some (⟨a,s,b,p⟩,t)
def textsP (n:Int):List UInt8→Option (List (List UInt8) × List UInt8):=manyP textP n.toNat
def needP:List UInt8→Option (NeedL × List UInt8):=bindP textP fun n=>bindP (numP 1) fun k=>bindP (textsP k) fun v t=>some (⟨n,v⟩,t)
def symP:List UInt8→Option (SymL × List UInt8):=bindP textP fun n=>bindP textP fun v=>bindP (numP 1) fun k=>bindP (numP 1) fun vis=>bindP bitP fun old=>bindP bitP fun weak=>bindP bitP fun defined=>bindP (numP 8) fun value=>bindP (numP 8) fun size t=>some (⟨n,v,old,k,weak,vis,defined,value,size⟩,t)
def chainP:List UInt8→Option (List Int × List UInt8):=bindP (numP 2) fun n=>manyP (numP 2) n.toNat
def relP:List UInt8→Option (RelL × List UInt8):=bindP (numP 1) fun k=>bindP (numP 8) fun a=>bindP (numP 8) fun s=>bindP (numP 8) fun d t=>some (⟨a,k,s,d⟩,t)
def slotP:List UInt8→Option (SlotL × List UInt8):=bindP (numP 4) fun a=>bindP (numP 4) fun s=>bindP (numP 4) fun d t=>some (⟨a,s,d⟩,t)
def imgP:List UInt8→Option (ImgL × List UInt8):=
  bindP textP fun magic=>if magic≠magicL then fun _=>none else
  bindP textP fun name=>bindP (numP 1) fun flags=>
  bindP (numP 1) fun n1=>bindP (manyP segP n1.toNat) fun segs=>
  bindP (numP 1) fun n2=>bindP (manyP needP n2.toNat) fun needed=>
  bindP (numP 1) fun n3=>bindP (textsP n3) fun runPath=>
  bindP (numP 2) fun n4=>bindP (manyP symP n4.toNat) fun syms=>
  bindP (numP 2) fun n5=>bindP (manyP chainP n5.toNat) fun buckets=>
  bindP (numP 1) fun shift=>bindP (numP 1) fun n6=>bindP (manyP wordP n6.toNat) fun words=>
  bindP (numP 2) fun n7=>bindP (manyP relP n7.toNat) fun relocs=>
  bindP (numP 2) fun n8=>bindP (manyP slotP n8.toNat) fun slots=>
  bindP (numP 1) fun n9=>bindP (manyP (numP 4) n9.toNat) fun init=>
  bindP (numP 1) fun n10=>bindP (manyP (numP 4) n10.toNat) fun fini=>
  bindP (numP 2) fun tlsSize=>bindP blockP fun tls t=>
  some (⟨name,flags,segs,needed,runPath,syms,buckets,words,shift,relocs,slots,init,fini,tls,tlsSize⟩,t)
structure Codec {α:Type} (p:List UInt8→Option (α × List UInt8)) (f:α→List UInt8) (ok:α→Prop):Prop where
  there:∀ x t,ok x→p (f x++t)=some (x,t)
  back:∀ l x t,p l=some (x,t)→ok x∧f x++t=l
theorem bindP_some {α β:Type} {p:List UInt8→Option (α × List UInt8)} {k:α→List UInt8→Option (β × List UInt8)} {l:List UInt8} {r:β × List UInt8} (h:bindP p k l=some r):∃ x t,p l=some (x,t)∧k x t=some r:=by
  unfold bindP at h
  cases hp:p l with
  | none=>rw [hp]at h;cases h
  | some q=>obtain⟨x,t⟩:=q;rw [hp]at h;exact⟨x,t,rfl,h⟩
theorem bindP_at {α β:Type} {p:List UInt8→Option (α × List UInt8)} {k:α→List UInt8→Option (β × List UInt8)} {l:List UInt8} {x:α} {t:List UInt8} (h:p l=some (x,t)):bindP p k l=k x t:=by
  unfold bindP;rw [h]
def okN (size:Nat) (n:Int):Prop:=if size=8 then -9223372036854775808≤n∧n<9223372036854775808 else 0≤n∧n<256 ^ size
theorem valL_lt:∀ l:List UInt8,valL l<256 ^ l.length
  | []=>by simp [valL]
  | c :: l=>by
    have:=valL_lt l
    have hc:=c.toNat_lt
    rw [valL,List.length_cons,Nat.pow_succ];omega
theorem digits_val:∀ l:List UInt8,((List.range l.length).map fun i=>UInt8.ofNat (valL l/256 ^ i))=l
  | []=>rfl
  | c :: l=>by
    have hc:=c.toNat_lt
    rw [List.length_cons,List.range_succ_eq_map,List.map_cons,List.map_map]
    have e:((fun i=>UInt8.ofNat (valL (c :: l)/256 ^ i))∘Nat.succ)=fun i=>UInt8.ofNat (valL l/256 ^ i):=by
      funext i
      simp only [Function.comp,Nat.succ_eq_add_one,valL]
      rw [Nat.pow_succ,Nat.mul_comm (256 ^ i),← Nat.div_div_eq_div_mul,show(c.toNat+256*valL l)/256=valL l by omega]
    rw [e,digits_val l]
    congr 1
    simp only [valL,Nat.pow_zero,Nat.div_one]
    have:UInt8.ofNat (c.toNat+256*valL l)=UInt8.ofNat c.toNat:=by
      apply UInt8.toNat.inj
      simp
    rw [this];simp
theorem digitsL_nat (size m:Nat) (h:m<18446744073709551616):digitsL size (m:Int)=(List.range size).map fun i=>UInt8.ofNat (m/256 ^ i):=by
  rw [digitsL]
  have:((m:Int)%18446744073709551616).toNat=m:=by omega
  rw [this]
theorem digitsL_sgn (size m:Nat) (h:m<18446744073709551616):digitsL size (sgnL m)=digitsL size (m:Int):=by
  unfold digitsL sgnL
  split
  · rfl
  · rw [Int.sub_emod_right]
theorem pow8 {size:Nat} (h:size≤8):256 ^ size≤18446744073709551616:=Nat.le_trans (Nat.pow_le_pow_right (by decide) h) (by decide)
theorem num_codec (size:Nat) (hs:size≤8):Codec (numP size) (digitsL size) (okN size) where
  there x t hx:=by
    have hl:=digitsL_len size x
    have e1:(digitsL size x++t).take size=digitsL size x:=by rw [List.take_append_of_le_length (by omega),List.take_of_length_le (by omega)]
    have e2:(digitsL size x++t).drop size=t:=by rw [List.drop_append_of_le_length (by omega),List.drop_eq_nil_of_le (by omega)];rfl
    rw [numP,if_pos (by simp [hl]),e1,e2]
    unfold okN at hx
    by_cases h8:size=8
    · subst h8
      rw [if_pos rfl]at hx
      rw [if_pos rfl]
      have hv:valL (digitsL 8 x)=(x%18446744073709551616).toNat:=by
        rw [digitsL,val_digits 8 _ (by omega)]
      rw [hv]
      congr 2
      unfold sgnL
      split<;>omega
    · rw [if_neg h8]at hx
      rw [if_neg h8]
      have hp:=pow8 hs
      have hx2:x.toNat<256 ^ size:=by
        have:((x.toNat:Nat):Int)<((256 ^ size:Nat):Int):=by rw [Int.toNat_of_nonneg hx.1,Int.natCast_pow];exact hx.2
        omega
      rw [val_digitsL size x hx.1 (by omega) hx2]
  back l x t h:=by
    unfold numP at h
    by_cases hl:size≤l.length
    · rw [if_pos hl]at h
      obtain⟨rfl,rfl⟩:=Prod.mk.inj (Option.some.inj h)
      have hlen:(l.take size).length=size:=by rw [List.length_take];omega
      have hv:=valL_lt (l.take size)
      rw [hlen]at hv
      have hp:=pow8 hs
      have hd:digitsL size (valL (l.take size):Int)=l.take size:=by
        rw [digitsL_nat size _ (by omega)]
        have:=digits_val (l.take size)
        rwa [hlen]at this
      by_cases h8:size=8
      · subst h8
        rw [if_pos rfl]
        refine⟨?_,?_⟩
        · unfold okN sgnL
          rw [if_pos rfl]
          have:(256:Nat) ^ 8=18446744073709551616:=by decide
          split<;>omega
        · rw [digitsL_sgn 8 _ (by omega),hd,List.take_append_drop]
      · rw [if_neg h8]
        refine⟨?_,by rw [hd,List.take_append_drop]⟩
        unfold okN
        rw [if_neg h8]
        refine⟨by omega,?_⟩
        have:((valL (l.take size):Nat):Int)<((256 ^ size:Nat):Int):=by omega
        rwa [Int.natCast_pow]at this
    · rw [if_neg hl]at h;cases h
theorem word_codec:Codec wordP (digitsL 8) (fun n=>0≤n∧n<18446744073709551616) where
  there x t hx:=by
    have hl:=digitsL_len 8 x
    have e1:(digitsL 8 x++t).take 8=digitsL 8 x:=by rw [List.take_append_of_le_length (by omega),List.take_of_length_le (by omega)]
    have e2:(digitsL 8 x++t).drop 8=t:=by rw [List.drop_append_of_le_length (by omega),List.drop_eq_nil_of_le (by omega)];rfl
    rw [wordP,if_pos (by simp [hl]),e1,e2,val_digitsL 8 x hx.1 hx.2 (by
                                                                            have:(256:Nat) ^ 8=18446744073709551616:=by decide
                                                                            omega)]
  back l x t h:=by
    unfold wordP at h
    by_cases hl:8≤l.length
    · rw [if_pos hl]at h
      obtain⟨rfl,rfl⟩:=Prod.mk.inj (Option.some.inj h)
      have hlen:(l.take 8).length=8:=by rw [List.length_take];omega
      have hv:=valL_lt (l.take 8)
      rw [hlen]at hv
      have:(256:Nat) ^ 8=18446744073709551616:=by decide
      have hd:digitsL 8 (valL (l.take 8):Int)=l.take 8:=by
        rw [digitsL_nat 8 _ (by omega)]
        have:=digits_val (l.take 8)
        rwa [hlen]at this
      exact⟨by omega,by rw [hd,List.take_append_drop]⟩
    · rw [if_neg hl]at h;cases h
theorem part_codec (size most:Nat) (hs:size≤4) (hm:most<256 ^ size):Codec (partP size most) (fun s=>digitsL size s.length++s) (fun s=>s.length≤most) where
  there x t hx:=by
    have hk:okN size (x.length:Int):=by
      unfold okN
      rw [if_neg (by omega)]
      refine⟨by omega,?_⟩
      have:((x.length:Nat):Int)<((256 ^ size:Nat):Int):=by omega
      rwa [Int.natCast_pow]at this
    rw [partP,List.append_assoc,bindP_at ((num_codec size (by omega)).there _ _ hk),if_pos ⟨by omega,by simp;omega⟩,Int.toNat_natCast,
      List.take_append_of_le_length (Nat.le_refl _),List.take_length,List.drop_append_of_le_length (Nat.le_refl _),List.drop_length]
    rfl
  back l x t h:=by
    obtain⟨n,u,h1,h2⟩:=bindP_some h
    obtain⟨h3,h4⟩:=(num_codec size (by omega)).back _ _ _ h1
    by_cases hc:n≤(most:Int)∧n≤u.length
    · rw [if_pos hc]at h2
      obtain⟨rfl,rfl⟩:=Prod.mk.inj (Option.some.inj h2)
      have hn0:0≤n:=by
        unfold okN at h3
        rw [if_neg (by omega)]at h3;exact h3.1
      have hlen:(u.take n.toNat).length=n.toNat:=by rw [List.length_take];omega
      refine⟨by rw [hlen];omega,?_⟩
      rw [hlen,Int.toNat_of_nonneg hn0,List.append_assoc,List.take_append_drop,h4]
    · rw [if_neg hc]at h2;cases h2
theorem text_codec:Codec textP textL' (fun s=>s.length≤4096):=part_codec 2 4096 (by decide) (by decide)
theorem block_codec:Codec blockP blockL (fun s=>s.length≤1048576):=part_codec 4 1048576 (by decide) (by decide)
theorem many_codec {α:Type} {p:List UInt8→Option (α × List UInt8)} {f:α→List UInt8} {ok:α→Prop} (c:Codec p f ok):∀ n,Codec (manyP p n) (fun l=>(l.map f).flatten) (fun l=>l.length=n∧∀ x∈l,ok x)
  | 0=>{
           there:=fun x t hx=>by
             have:x=[]:=List.length_eq_zero_iff.1 hx.1
             subst this;rfl
           back:=fun l x t h=>by
             obtain⟨rfl,rfl⟩:=Prod.mk.inj (Option.some.inj h)
             exact⟨⟨rfl,fun x hx=>by cases hx⟩,rfl⟩}
  | n+1=>{
               there:=fun x t hx=>by
                 cases x with
                 | nil=>exact absurd hx.1 (by simp)
                 | cons a x=>
                   have h1:=c.there a ((x.map f).flatten++t) (hx.2 a (by simp))
                   have h2:=(many_codec c n).there x t ⟨by simpa using hx.1,fun y hy=>hx.2 y (by simp [hy])⟩
                   rw [manyP,List.map_cons,List.flatten_cons,List.append_assoc,bindP_at h1,bindP_at h2]
               back:=fun l x t h=>by
                 obtain⟨a,u,h1,h2⟩:=bindP_some h
                 obtain⟨xs,u2,h3,h4⟩:=bindP_some h2
                 obtain⟨rfl,rfl⟩:=Prod.mk.inj (Option.some.inj h4)
                 obtain⟨b1,b2⟩:=c.back _ _ _ h1
                 obtain⟨⟨b3,b4⟩,b5⟩:=(many_codec c n).back _ _ _ h3
                 refine⟨⟨by simp [b3],fun y hy=> ?_⟩,?_⟩
                 · rcases List.mem_cons.1 hy with rfl | hy
                   · exact b1
                   · exact b4 y hy
                 · rw [List.map_cons,List.flatten_cons,List.append_assoc,b5,b2]}
theorem bit_codec:Codec bitP (fun b=>digitsL 1 (oneL b)) (fun _=>True) where
  there x t _:=by
    rw [bitP,bindP_at ((num_codec 1 (by decide)).there _ _ (by cases x<;>simp [okN,oneL]))]
    cases x<;>rfl
  back l x t h:=by
    obtain⟨n,u,h1,h2⟩:=bindP_some h
    obtain⟨h3,h4⟩:=(num_codec 1 (by decide)).back _ _ _ h1
    simp [okN]at h3
    by_cases hc:1<n
    · rw [if_pos hc]at h2;cases h2
    · rw [if_neg hc]at h2
      obtain⟨rfl,rfl⟩:=Prod.mk.inj (Option.some.inj h2)
      refine⟨trivial,?_⟩
      rw [← h4]
      have:n=0∨n=1:=by omega
      rcases this with rfl | rfl<;>rfl
def okSeg (s:SegL):Prop:=okN 4 s.at_∧okN 4 s.size∧okN 1 s.perm∧s.bytes.length≤1048576
theorem seg_codec:Codec segP segF okSeg where
  there x t h:=by
    obtain⟨h1,h2,h3,h4⟩:=h
    have n4:=num_codec 4 (by decide)
    have n1:=num_codec 1 (by decide)
    unfold segP segF
    simp only [List.append_assoc]
    rw [bindP_at (n4.there _ _ h1),bindP_at (n4.there _ _ h2),bindP_at (n1.there _ _ h3),bindP_at (block_codec.there _ _ h4)]
  back l x t h:=by
    have n4:=num_codec 4 (by decide)
    have n1:=num_codec 1 (by decide)
    obtain⟨a1,t1,p1,h⟩:=bindP_some h
    obtain⟨a2,t2,p2,h⟩:=bindP_some h
    obtain⟨a3,t3,p3,h⟩:=bindP_some h
    obtain⟨a4,t4,p4,h⟩:=bindP_some h
    obtain⟨rfl,rfl⟩:=Prod.mk.inj (Option.some.inj h)
    obtain⟨o1,q1⟩:=n4.back _ _ _ p1
    obtain⟨o2,q2⟩:=n4.back _ _ _ p2
    obtain⟨o3,q3⟩:=n1.back _ _ _ p3
    obtain⟨o4,q4⟩:=block_codec.back _ _ _ p4
    refine⟨⟨o1,o2,o3,o4⟩,?_⟩
    unfold segF
    simp only [List.append_assoc]
    rw [q4,q3,q2,q1]
def okLen (size n:Nat):Prop:=n<256 ^ size
theorem okLen_N {size n:Nat} (hs:size≤4) (h:okLen size n):okN size (n:Int):=by
  unfold okN;rw [if_neg (by omega)]
  refine⟨by omega,?_⟩
  have:((n:Nat):Int)<((256 ^ size:Nat):Int):=by unfold okLen at h;omega
  rwa [Int.natCast_pow]at this
theorem okN_nat {size:Nat} {n:Int} (hs:size≤4) (h:okN size n):n=(n.toNat:Int)∧okLen size n.toNat:=by
  unfold okN at h;rw [if_neg (by omega)]at h
  refine⟨by omega,?_⟩
  unfold okLen
  have:((n.toNat:Nat):Int)<((256 ^ size:Nat):Int):=by rw [Int.toNat_of_nonneg h.1,Int.natCast_pow];exact h.2
  omega
theorem list_codec {α:Type} {p:List UInt8→Option (α × List UInt8)} {f:α→List UInt8} {ok:α→Prop} (c:Codec p f ok) (size:Nat) (hs:size≤4):
    Codec (bindP (numP size) fun n=>manyP p n.toNat) (fun l=>digitsL size l.length++(l.map f).flatten) (fun l=>okLen size l.length∧∀ x∈l,ok x) where
  there x t h:=by
    rw [List.append_assoc,bindP_at ((num_codec size (by omega)).there _ _ (okLen_N hs h.1)),Int.toNat_natCast,(many_codec c x.length).there _ _ ⟨rfl,h.2⟩]
  back l x t h:=by
    obtain⟨n,u,h1,h2⟩:=bindP_some h
    obtain⟨o1,q1⟩:=(num_codec size (by omega)).back _ _ _ h1
    obtain⟨⟨o2,o3⟩,q2⟩:=(many_codec c n.toNat).back _ _ _ h2
    obtain⟨e1,e2⟩:=okN_nat hs o1
    refine⟨⟨by rw [o2];exact e2,o3⟩,?_⟩
    rw [o2,List.append_assoc,q2,← e1,q1]
def okTexts (l:List (List UInt8)):Prop:=okLen 1 l.length∧∀ x∈l,x.length≤4096
theorem texts_codec:Codec (bindP (numP 1) textsP) (fun l=>digitsL 1 l.length++textsL l) okTexts:=list_codec text_codec 1 (by decide)
theorem chain_codec:Codec chainP chainF (fun l=>okLen 2 l.length∧∀ x∈l,okN 2 x):=list_codec (num_codec 2 (by decide)) 2 (by decide)
theorem assocP {α β γ:Type} (p:List UInt8→Option (α × List UInt8)) (k:α→List UInt8→Option (β × List UInt8)) (m:β→List UInt8→Option (γ × List UInt8)):(bindP p fun x=>bindP (k x) m)=bindP (bindP p k) m:=by
  funext l
  unfold bindP
  cases p l<;>rfl
def okNeed (n:NeedL):Prop:=n.name.length≤4096∧okTexts n.versions
theorem need_codec:Codec needP needF okNeed where
  there x t h:=by
    obtain⟨h1,h2⟩:=h
    unfold needP needF
    simp only [List.append_assoc]
    rw [bindP_at (text_codec.there _ _ h1),assocP,bindP_at (by have:=texts_codec.there _ t h2;rwa [List.append_assoc]at this)]
  back l x t h:=by
    unfold needP at h
    obtain⟨a1,t1,p1,h⟩:=bindP_some h
    rw [assocP]at h
    obtain⟨a2,t2,p2,h⟩:=bindP_some h
    obtain⟨rfl,rfl⟩:=Prod.mk.inj (Option.some.inj h)
    obtain⟨o1,q1⟩:=text_codec.back _ _ _ p1
    obtain⟨o2,q2⟩:=texts_codec.back _ _ _ p2
    refine⟨⟨o1,o2⟩,?_⟩
    unfold needF
    simp only [List.append_assoc]at q2 ⊢
    rw [q2,q1]
def okSym (s:SymL):Prop:=s.name.length≤4096∧s.version.length≤4096∧okN 1 s.kind∧okN 1 s.vis∧okN 8 s.value∧okN 8 s.size
theorem sym_codec:Codec symP symF okSym where
  there x t h:=by
    obtain⟨h1,h2,h3,h4,h5,h6⟩:=h
    have n8:=num_codec 8 (by decide)
    have n1:=num_codec 1 (by decide)
    unfold symP symF
    simp only [List.append_assoc]
    rw [bindP_at (text_codec.there _ _ h1),bindP_at (text_codec.there _ _ h2),bindP_at (n1.there _ _ h3),bindP_at (n1.there _ _ h4),bindP_at (bit_codec.there _ _ trivial),bindP_at (bit_codec.there _ _ trivial),
      bindP_at (bit_codec.there _ _ trivial),bindP_at (n8.there _ _ h5),bindP_at (n8.there _ _ h6)]
  back l x t h:=by
    have n8:=num_codec 8 (by decide)
    have n1:=num_codec 1 (by decide)
    obtain⟨a1,t1,p1,h⟩:=bindP_some h
    obtain⟨a2,t2,p2,h⟩:=bindP_some h
    obtain⟨a3,t3,p3,h⟩:=bindP_some h
    obtain⟨a4,t4,p4,h⟩:=bindP_some h
    obtain⟨a5,t5,p5,h⟩:=bindP_some h
    obtain⟨a6,t6,p6,h⟩:=bindP_some h
    obtain⟨a7,t7,p7,h⟩:=bindP_some h
    obtain⟨a8,t8,p8,h⟩:=bindP_some h
    obtain⟨a9,t9,p9,h⟩:=bindP_some h
    obtain⟨rfl,rfl⟩:=Prod.mk.inj (Option.some.inj h)
    obtain⟨o1,q1⟩:=text_codec.back _ _ _ p1
    obtain⟨o2,q2⟩:=text_codec.back _ _ _ p2
    obtain⟨o3,q3⟩:=n1.back _ _ _ p3
    obtain⟨o4,q4⟩:=n1.back _ _ _ p4
    obtain⟨_,q5⟩:=bit_codec.back _ _ _ p5
    obtain⟨_,q6⟩:=bit_codec.back _ _ _ p6
    obtain⟨_,q7⟩:=bit_codec.back _ _ _ p7
    obtain⟨o8,q8⟩:=n8.back _ _ _ p8
    obtain⟨o9,q9⟩:=n8.back _ _ _ p9
    refine⟨⟨o1,o2,o3,o4,o8,o9⟩,?_⟩
    unfold symF
    simp only [List.append_assoc]
    rw [q9,q8,q7,q6,q5,q4,q3,q2,q1]
def okRel (r:RelL):Prop:=okN 1 r.kind∧okN 8 r.at_∧okN 8 r.sym∧okN 8 r.add
theorem rel_codec:Codec relP relF okRel where
  there x t h:=by
    obtain⟨h1,h2,h3,h4⟩:=h
    have n8:=num_codec 8 (by decide)
    have n1:=num_codec 1 (by decide)
    unfold relP relF
    simp only [List.append_assoc]
    rw [bindP_at (n1.there _ _ h1),bindP_at (n8.there _ _ h2),bindP_at (n8.there _ _ h3),bindP_at (n8.there _ _ h4)]
  back l x t h:=by
    have n8:=num_codec 8 (by decide)
    have n1:=num_codec 1 (by decide)
    obtain⟨a1,t1,p1,h⟩:=bindP_some h
    obtain⟨a2,t2,p2,h⟩:=bindP_some h
    obtain⟨a3,t3,p3,h⟩:=bindP_some h
    obtain⟨a4,t4,p4,h⟩:=bindP_some h
    obtain⟨rfl,rfl⟩:=Prod.mk.inj (Option.some.inj h)
    obtain⟨o1,q1⟩:=n1.back _ _ _ p1
    obtain⟨o2,q2⟩:=n8.back _ _ _ p2
    obtain⟨o3,q3⟩:=n8.back _ _ _ p3
    obtain⟨o4,q4⟩:=n8.back _ _ _ p4
    refine⟨⟨o1,o2,o3,o4⟩,?_⟩
    unfold relF
    simp only [List.append_assoc]
    rw [q4,q3,q2,q1]
def okSlot (s:SlotL):Prop:=okN 4 s.at_∧okN 4 s.sym∧okN 4 s.stub
theorem slot_codec:Codec slotP slotF okSlot where
  there x t h:=by
    obtain⟨h1,h2,h3⟩:=h
    have n4:=num_codec 4 (by decide)
    unfold slotP slotF
    simp only [List.append_assoc]
    rw [bindP_at (n4.there _ _ h1),bindP_at (n4.there _ _ h2),bindP_at (n4.there _ _ h3)]
  back l x t h:=by
    have n4:=num_codec 4 (by decide)
    obtain⟨a1,t1,p1,h⟩:=bindP_some h
    obtain⟨a2,t2,p2,h⟩:=bindP_some h
    obtain⟨a3,t3,p3,h⟩:=bindP_some h
    obtain⟨rfl,rfl⟩:=Prod.mk.inj (Option.some.inj h)
    obtain⟨o1,q1⟩:=n4.back _ _ _ p1
    obtain⟨o2,q2⟩:=n4.back _ _ _ p2
    obtain⟨o3,q3⟩:=n4.back _ _ _ p3
    refine⟨⟨o1,o2,o3⟩,?_⟩
    unfold slotF
    simp only [List.append_assoc]
    rw [q3,q2,q1]
structure OkImg (im:ImgL):Prop where
  name:im.name.length≤4096
  flags:okN 1 im.flags
  segs:okLen 1 im.segs.length∧∀ s∈im.segs,okSeg s
  needed:okLen 1 im.needed.length∧∀ n∈im.needed,okNeed n
  runPath:okTexts im.runPath
  syms:okLen 2 im.syms.length∧∀ s∈im.syms,okSym s
  buckets:okLen 2 im.buckets.length∧∀ c∈im.buckets,okLen 2 c.length∧∀ x∈c,okN 2 x
  shift:okN 1 im.shift
  words:okLen 1 im.words.length∧∀ x∈im.words,0≤x∧x<18446744073709551616
  relocs:okLen 2 im.relocs.length∧∀ r∈im.relocs,okRel r
  slots:okLen 2 im.slots.length∧∀ s∈im.slots,okSlot s
  init:okLen 1 im.init.length∧∀ x∈im.init,okN 4 x
  fini:okLen 1 im.fini.length∧∀ x∈im.fini,okN 4 x
  tlsSize:okN 2 im.tlsSize
  tls:im.tls.length≤1048576
def formR (im:ImgL):List UInt8:=
  textL' magicL++(textL' im.name++(digitsL 1 im.flags++((digitsL 1 im.segs.length++(im.segs.map segF).flatten)++
  ((digitsL 1 im.needed.length++(im.needed.map needF).flatten)++((digitsL 1 im.runPath.length++textsL im.runPath)++
  ((digitsL 2 im.syms.length++(im.syms.map symF).flatten)++((digitsL 2 im.buckets.length++(im.buckets.map chainF).flatten)++
  (digitsL 1 im.shift++((digitsL 1 im.words.length++numsL 8 im.words)++((digitsL 2 im.relocs.length++(im.relocs.map relF).flatten)++
  ((digitsL 2 im.slots.length++(im.slots.map slotF).flatten)++((digitsL 1 im.init.length++numsL 4 im.init)++((digitsL 1 im.fini.length++numsL 4 im.fini)++
  (digitsL 2 im.tlsSize++blockL im.tls))))))))))))))
theorem formR_eq (im:ImgL):formR im=formL im:=by
  unfold formR formL;simp only [List.append_assoc]
theorem img_codec:Codec imgP formL OkImg where
  there x t h:=by
    have n2:=num_codec 2 (by decide)
    have n1:=num_codec 1 (by decide)
    rw [← formR_eq]
    unfold imgP formR numsL
    simp only [List.append_assoc (_++_) _ t,List.append_assoc (textL' _) _ t,List.append_assoc (digitsL _ x.flags) _ t,List.append_assoc (digitsL _ x.shift) _ t,List.append_assoc (digitsL _ x.tlsSize) _ t]
    rw [bindP_at (text_codec.there _ _ (by decide)),if_neg (by simp),bindP_at (text_codec.there _ _ h.name),bindP_at (n1.there _ _ h.flags),
      assocP,bindP_at ((list_codec seg_codec 1 (by decide)).there _ _ h.segs),
      assocP,bindP_at ((list_codec need_codec 1 (by decide)).there _ _ h.needed),
      assocP,bindP_at (texts_codec.there _ _ h.runPath),
      assocP,bindP_at ((list_codec sym_codec 2 (by decide)).there _ _ h.syms),
      assocP,bindP_at ((list_codec chain_codec 2 (by decide)).there _ _ h.buckets),
      bindP_at (n1.there _ _ h.shift),
      assocP,bindP_at ((list_codec word_codec 1 (by decide)).there _ _ h.words),
      assocP,bindP_at ((list_codec rel_codec 2 (by decide)).there _ _ h.relocs),
      assocP,bindP_at ((list_codec slot_codec 2 (by decide)).there _ _ h.slots),
      assocP,bindP_at ((list_codec (num_codec 4 (by decide)) 1 (by decide)).there _ _ h.init),
      assocP,bindP_at ((list_codec (num_codec 4 (by decide)) 1 (by decide)).there _ _ h.fini),
      bindP_at (n2.there _ _ h.tlsSize),bindP_at (block_codec.there _ _ h.tls)]
  back l x t h:=by
    have n2:=num_codec 2 (by decide)
    have n1:=num_codec 1 (by decide)
    unfold imgP at h
    obtain⟨a0,t0,p0,h⟩:=bindP_some h
    by_cases hm:a0=magicL
    case neg=>rw [if_pos hm]at h;cases h
    rw [if_neg (by simpa using hm)]at h
    subst hm
    obtain⟨a1,t1,p1,h⟩:=bindP_some h
    obtain⟨a2,t2,p2,h⟩:=bindP_some h
    rw [assocP]at h;obtain⟨a3,t3,p3,h⟩:=bindP_some h
    rw [assocP]at h;obtain⟨a4,t4,p4,h⟩:=bindP_some h
    rw [assocP]at h;obtain⟨a5,t5,p5,h⟩:=bindP_some h
    rw [assocP]at h;obtain⟨a6,t6,p6,h⟩:=bindP_some h
    rw [assocP]at h;obtain⟨a7,t7,p7,h⟩:=bindP_some h
    obtain⟨a8,t8,p8,h⟩:=bindP_some h
    rw [assocP]at h;obtain⟨a9,t9,p9,h⟩:=bindP_some h
    rw [assocP]at h;obtain⟨a10,t10,p10,h⟩:=bindP_some h
    rw [assocP]at h;obtain⟨a11,t11,p11,h⟩:=bindP_some h
    rw [assocP]at h;obtain⟨a12,t12,p12,h⟩:=bindP_some h
    rw [assocP]at h;obtain⟨a13,t13,p13,h⟩:=bindP_some h
    obtain⟨a14,t14,p14,h⟩:=bindP_some h
    obtain⟨a15,t15,p15,h⟩:=bindP_some h
    obtain⟨rfl,rfl⟩:=Prod.mk.inj (Option.some.inj h)
    obtain⟨_,q0⟩:=text_codec.back _ _ _ p0
    obtain⟨o1,q1⟩:=text_codec.back _ _ _ p1
    obtain⟨o2,q2⟩:=n1.back _ _ _ p2
    obtain⟨o3,q3⟩:=(list_codec seg_codec 1 (by decide)).back _ _ _ p3
    obtain⟨o4,q4⟩:=(list_codec need_codec 1 (by decide)).back _ _ _ p4
    obtain⟨o5,q5⟩:=texts_codec.back _ _ _ p5
    obtain⟨o6,q6⟩:=(list_codec sym_codec 2 (by decide)).back _ _ _ p6
    obtain⟨o7,q7⟩:=(list_codec chain_codec 2 (by decide)).back _ _ _ p7
    obtain⟨o8,q8⟩:=n1.back _ _ _ p8
    obtain⟨o9,q9⟩:=(list_codec word_codec 1 (by decide)).back _ _ _ p9
    obtain⟨o10,q10⟩:=(list_codec rel_codec 2 (by decide)).back _ _ _ p10
    obtain⟨o11,q11⟩:=(list_codec slot_codec 2 (by decide)).back _ _ _ p11
    obtain⟨o12,q12⟩:=(list_codec (num_codec 4 (by decide)) 1 (by decide)).back _ _ _ p12
    obtain⟨o13,q13⟩:=(list_codec (num_codec 4 (by decide)) 1 (by decide)).back _ _ _ p13
    obtain⟨o14,q14⟩:=n2.back _ _ _ p14
    obtain⟨o15,q15⟩:=block_codec.back _ _ _ p15
    refine⟨⟨o1,o2,o3,o4,o5,o6,o7,o8,o9,o10,o11,o12,o13,o14,o15⟩,?_⟩
    rw [← formR_eq]
    unfold formR
    simp only [List.append_assoc (_++_) _ t15,List.append_assoc (textL' _) _ t15,List.append_assoc (digitsL _ a2) _ t15,List.append_assoc (digitsL _ a8) _ t15,List.append_assoc (digitsL _ a14) _ t15]
    unfold numsL
    rw [q15,q14,q13,q12,q11,q10,q9,q8,q7,q6,q5,q4,q3,q2,q1,q0]
end Go.Proofs.YtfchpchabdhcgaaGreat
namespace Go.Proofs.YtfchpchabdhcgaaGreat
theorem may_parts {im:ImgL} (h:mayL im=0):headB im=true∧segsB im.segs=true∧tlsB im=true∧symsB im=true∧tableB im=true∧relocsB im=true∧slotsB im=true∧runB im im.init=true∧runB im im.fini=true:=by
 unfold mayL at h
 by_cases h1:headB im=false
 ·rw [if_pos h1]at h;cases h
 rw [if_neg h1]at h
 by_cases h2:segsB im.segs=false
 ·rw [if_pos h2]at h;cases h
 rw [if_neg h2]at h
 by_cases h3:tlsB im=false
 ·rw [if_pos h3]at h;cases h
 rw [if_neg h3]at h
 by_cases h4:symsB im=false
 ·rw [if_pos h4]at h;cases h
 rw [if_neg h4]at h
 by_cases h5:tableB im=false
 ·rw [if_pos h5]at h;cases h
 rw [if_neg h5]at h
 by_cases h6:relocsB im=false
 ·rw [if_pos h6]at h;cases h
 rw [if_neg h6]at h
 by_cases h7:slotsB im=false
 ·rw [if_pos h7]at h;cases h
 rw [if_neg h7]at h
 by_cases h8:(runB im im.init&&runB im im.fini)=false
 ·rw [if_pos h8]at h;cases h
 simp only [Bool.not_eq_false,Bool.and_eq_true]at*
 exact⟨h1,h2,h3,h4,h5,h6,h7,h8.1,h8.2⟩
theorem segsFrom_each:∀ (l:List SegL) (e:Int),segsFrom e l=true→∀ s∈l,segB s=true
 | [],_,_,s,hs=>by cases hs
 | a :: l,e,h,s,hs=>by
  simp only [segsFrom,Bool.and_eq_true]at h
  rcases List.mem_cons.1 hs with rfl | hs
  ·exact h.1.2
  ·exact segsFrom_each l _ h.2 s hs
theorem segB_good {s:SegL} (h:segB s=true):0≤s.at_∧s.at_≤65536∧1≤s.size∧s.size≤65536∧0≤s.perm∧s.perm≤7∧s.at_+s.size≤65536∧(s.bytes.length:Int)≤s.size:=by
 simp only [segB,Bool.and_eq_true,decide_eq_true_eq]at h
 omega
theorem segs_good {im:ImgL} (h:segsB im.segs=true):∀ s∈im.segs,0≤s.at_∧s.at_≤65536∧1≤s.size∧s.size≤65536∧0≤s.perm∧s.perm≤7∧s.at_+s.size≤65536∧(s.bytes.length:Int)≤s.size:=fun s hs=>by
 simp only [segsB,Bool.and_eq_true]at h
 exact segB_good (segsFrom_each _ _ h.2 s hs)
theorem holds_range {l:List SegL} {at_ n p:Int} (hl:∀ s∈l,0≤s.at_∧s.at_≤65536∧1≤s.size∧s.size≤65536∧0≤s.perm∧s.perm≤7∧s.at_+s.size≤65536∧(s.bytes.length:Int)≤s.size) (h:holdsB l at_ n p=true):0≤at_∧n≤65536∧at_+n≤65536:=by
 obtain⟨s,hs,h2⟩:=List.any_eq_true.1 h
 have:=hl s hs
 simp only [Bool.and_eq_true,decide_eq_true_eq]at h2
 omega
theorem symsFrom_each (segs:List SegL) (tls:Int):∀ (l done:List SymL),symsFrom segs tls done l=true→∀ s∈l,symB segs tls s=true
 | [],_,_,s,hs=>by cases hs
 | a :: l,done,h,s,hs=>by
  simp only [symsFrom,Bool.and_eq_true]at h
  rcases List.mem_cons.1 hs with rfl | hs
  ·exact h.1.1
  ·exact symsFrom_each segs tls l _ h.2 s hs
theorem nameB_len {s:List UInt8} (h:nameB s=true):1≤s.length∧s.length≤64:=by
 simp only [nameB,Bool.and_eq_true,decide_eq_true_eq]at h;exact⟨h.1.2,h.2⟩
theorem sizedB_len {s:List UInt8} (h:sizedB s=true):1≤s.length∧s.length≤200:=by
 simp only [sizedB,Bool.and_eq_true,decide_eq_true_eq]at h;exact h
theorem optB_len {s:List UInt8} (h:(decide (s=[])||nameB s)=true):s.length≤64:=by
 simp only [Bool.or_eq_true,decide_eq_true_eq]at h
 rcases h with h | h
 ·rw [h];decide
 ·exact(nameB_len h).2
theorem sym_good {im:ImgL} (hg:segsB im.segs=true) (ht:tlsB im=true) {s:SymL} (h:symB im.segs im.tlsSize s=true):
  (1≤s.name.length∧s.name.length≤64)∧s.version.length≤64∧(1≤s.kind∧s.kind≤3)∧(0≤s.vis∧s.vis≤2)∧(0≤s.value∧s.value≤65536)∧0≤s.size∧s.size≤65536:=by
 simp only [symB,Bool.and_eq_true]at h
 obtain⟨h1,h2⟩:=h
 simp only [symRightB,Bool.and_eq_true]at h1
 obtain⟨⟨⟨⟨⟨⟨⟨⟨⟨a1,a2⟩,a3⟩,a4⟩,a5⟩,a6⟩,a7⟩,a8⟩,a9⟩,_⟩:=h1
 simp only [decide_eq_true_eq]at a3 a4 a5 a6 a7 a8
 refine⟨nameB_len a1,optB_len a2,⟨a3,a4⟩,⟨a5,a6⟩,?_⟩
 cases hd:s.defined with
 | false=>
  rw [hd]at a9
  simp at a9
  omega
 | true=>
  rw [hd]at h2
  simp only [Bool.not_true,Bool.false_or]at h2
  simp only [tlsB,Bool.and_eq_true,decide_eq_true_eq]at ht
  by_cases hk:s.kind=3
  ·rw [if_pos hk]at h2
   simp only [Bool.and_eq_true,decide_eq_true_eq]at h2
   omega
  ·rw [if_neg hk]at h2
   have:=holds_range (segs_good hg) h2
   omega
theorem relocsFrom_each (im:ImgL):∀ (l:List RelL) (e:Int),relocsFrom im e l=true→∀ r∈l,relocB im r=true
 | [],_,_,s,hs=>by cases hs
 | a :: l,e,h,s,hs=>by
  simp only [relocsFrom,Bool.and_eq_true]at h
  rcases List.mem_cons.1 hs with rfl | hs
  ·exact h.1.2
  ·exact relocsFrom_each im l _ h.2 s hs
theorem slotsFrom_each (im:ImgL):∀ (l:List SlotL) (e:Int),slotsFrom im e l=true→∀ r∈l,slotB im r=true
 | [],_,_,s,hs=>by cases hs
 | a :: l,e,h,s,hs=>by
  simp only [slotsFrom,Bool.and_eq_true]at h
  rcases List.mem_cons.1 hs with rfl | hs
  ·exact h.1.2
  ·exact slotsFrom_each im l _ h.2 s hs
theorem symAt_range {im:ImgL} {i:Int} {s:SymL} (h:symAt im i=some s):0≤i∧i<im.syms.length∧s∈im.syms:=by
 unfold symAt at h
 by_cases hi:i<0
 ·rw [if_pos hi]at h;cases h
 ·rw [if_neg hi]at h
  have:=(List.getElem?_eq_some_iff.1 h).1
  exact⟨by omega,by omega,List.mem_of_getElem? h⟩
theorem reloc_good {im:ImgL} (hg:segsB im.segs=true) (hs:im.syms.length≤512) {r:RelL} (h:relocB im r=true):
  (0≤r.at_∧r.at_+wideL im r≤65536)∧(0≤r.kind∧r.kind≤7)∧(-1≤r.sym∧r.sym≤512)∧(-4294967296≤r.add∧r.add≤4294967296):=by
 unfold relocB at h
 by_cases hk:r.kind=1
 ·rw [if_pos hk]at h
  simp only [Bool.and_eq_true,decide_eq_true_eq]at h
  have:=holds_range (segs_good hg) h.2
  have hw:wideL im r=8:=by
   unfold wideL
   split
   ·rw [if_neg (by omega)]
   ·rfl
  omega
 ·rw [if_neg hk]at h
  cases hsy:symAt im r.sym with
  | none=>rw [hsy]at h;cases h
  | some s=>
   rw [hsy]at h
   have hr:=symAt_range hsy
   simp only [Bool.and_eq_true,decide_eq_true_eq]at h
   obtain⟨⟨h1,h2⟩,h3⟩:=h
   have hw:wideL im r=if r.kind=2 then s.size else 8:=by rw [wideL,hsy]
   by_cases k1:r.kind=0∨r.kind=6
   ·rw [if_pos k1]at h3
    simp only [Bool.and_eq_true]at h3
    have:=holds_range (segs_good hg) h3.2
    rw [if_neg (by omega)]at hw
    omega
   rw [if_neg k1]at h3
   by_cases k2:r.kind=7
   ·rw [if_pos k2]at h3
    simp only [Bool.and_eq_true]at h3
    have:=holds_range (segs_good hg) h3.2
    rw [if_neg (by omega)]at hw
    omega
   rw [if_neg k2]at h3
   by_cases k3:r.kind=3
   ·rw [if_pos k3]at h3
    simp only [Bool.and_eq_true]at h3
    have:=holds_range (segs_good hg) h3.2
    rw [if_neg (by omega)]at hw
    omega
   rw [if_neg k3]at h3
   by_cases k4:r.kind=4∨r.kind=5
   ·rw [if_pos k4]at h3
    simp only [Bool.and_eq_true]at h3
    have:=holds_range (segs_good hg) h3.2
    rw [if_neg (by omega)]at hw
    omega
   rw [if_neg k4]at h3
   by_cases k5:r.kind=2
   ·rw [if_pos k5]at h3
    simp only [Bool.and_eq_true]at h3
    have:=holds_range (segs_good hg) h3.2
    rw [if_pos k5]at hw
    omega
   ·rw [if_neg k5]at h3;cases h3
theorem slot_good {im:ImgL} (hg:segsB im.segs=true) (hs:im.syms.length≤512) {s:SlotL} (h:slotB im s=true):
  (0≤s.at_∧s.at_≤65536)∧(0≤s.sym∧s.sym<im.syms.length)∧(0≤s.stub∧s.stub≤65536):=by
 simp only [slotB,Bool.and_eq_true]at h
 obtain⟨⟨⟨h1,h2⟩,h3⟩,_⟩:=h
 have a:=holds_range (segs_good hg) h2
 have b:=holds_range (segs_good hg) h3
 cases hsy:symAt im s.sym with
 | none=>rw [hsy]at h1;cases h1
 | some x=>
  have hr:=symAt_range hsy
  omega
theorem chain_good {im:ImgL} (h:tableB im=true):∀ c∈im.buckets,c.length≤512∧∀ i∈c,0≤i∧i<512:=by
 have hd:∀ c∈im.buckets,c.length≤(im.buckets.map List.length).sum:=by
  intro c hc
  generalize im.buckets=bs at hc
  induction bs with
  | nil=>cases hc
  | cons b bs ih=>
   simp only [List.map_cons,List.sum_cons]
   rcases List.mem_cons.1 hc with rfl | hc
   ·omega
   ·have:=ih hc;omega
 simp only [tableB,Bool.and_eq_true,decide_eq_true_eq]at h
 obtain⟨⟨⟨⟨⟨h1,_⟩,_⟩,_⟩,h5⟩,h6⟩:=h
 have hf:=List.length_filter_le seenB im.syms
 have h7:=(chainsB_iff im im.buckets 0).1 h5
 intro c hc
 refine⟨by have:=hd c hc;omega,fun i hi=> ?_⟩
 obtain⟨j,hj⟩:=List.getElem?_of_mem hc
 obtain⟨k,hk,rfl,_⟩:=entry_home.1 (h7.2 j c hj i hi)
 have:=((seenK_mem _ _ _).1 hk).1
 omega
theorem okN_small {size:Nat} {n:Int} (hs:size≤4) (h0:0≤n) (h1:n<(256:Int) ^ size):okN size n:=by
 unfold okN;rw [if_neg (by omega)];exact⟨h0,h1⟩
theorem may_ok {im:ImgL} (h:mayL im=0) (hw:∀ x∈im.words,0≤x∧x<18446744073709551616):OkImg im:=by
 obtain⟨hh,hg,ht,hs,htb,hr,hsl,hi,hf⟩:=may_parts h
 have p1:(256:Int) ^ 1=256:=by decide
 have p2:(256:Int) ^ 2=65536:=by decide
 have p4:(256:Int) ^ 4=4294967296:=by decide
 have q1:256 ^ 1=256:=by decide
 have q2:256 ^ 2=65536:=by decide
 have hch:=chain_good htb
 have hgs:=segs_good hg
 have run_good:∀ l,runB im l=true→okLen 1 l.length∧∀ x∈l,okN 4 x:=by
  intro l hl
  simp only [runB,Bool.and_eq_true,decide_eq_true_eq]at hl
  refine⟨by unfold okLen;omega,fun x hx=> ?_⟩
  have:=holds_range hgs (List.all_eq_true.1 hl.2 x hx)
  exact okN_small (by decide) this.1 (by omega)
 have hnames:∀ l:List (List UInt8),l.length≤16→(∀ x∈l,x.length≤4096)→okTexts l:=fun l h1 h2=>⟨by unfold okLen;omega,h2⟩
 have hh':=hh
 simp only [headB,Bool.and_eq_true]at hh
 obtain⟨⟨⟨⟨⟨⟨a1,a2⟩,a3⟩,a4⟩,a5⟩,a6⟩,a7⟩:=hh
 simp only [decide_eq_true_eq]at a2 a3 a4 a5
 have hg':=hg
 simp only [segsB,Bool.and_eq_true,decide_eq_true_eq]at hg'
 have ht':=ht
 simp only [tlsB,Bool.and_eq_true,decide_eq_true_eq]at ht'
 have hs':=hs
 simp only [symsB,Bool.and_eq_true,decide_eq_true_eq]at hs'
 have htb':=htb
 simp only [tableB,Bool.and_eq_true,decide_eq_true_eq]at htb'
 obtain⟨⟨⟨⟨⟨_,_⟩,b3⟩,b4⟩,_⟩,_⟩:=htb'
 simp only [sieveB,Bool.and_eq_true,decide_eq_true_eq]at b4
 obtain⟨⟨b5,b6⟩,b7⟩:=b4
 have b8:im.words.length≤64:=by
  simp only [Bool.or_eq_true,decide_eq_true_eq]at b5;omega
 have hr':=hr
 simp only [relocsB,Bool.and_eq_true,decide_eq_true_eq]at hr'
 have hsl':=hsl
 simp only [slotsB,Bool.and_eq_true,decide_eq_true_eq]at hsl'
 refine⟨by have:=optB_len a1;omega,okN_small (by decide) a2 (by omega),⟨by unfold okLen;omega,fun s hm=> ?_⟩,⟨by unfold okLen;omega,fun n hm=> ?_⟩,hnames _ a5 (fun x hx=> ?_),⟨by unfold okLen;omega,fun s hm=> ?_⟩,
  ⟨by unfold okLen;omega,fun c hc=>⟨by have:=(hch c hc).1;unfold okLen;omega,fun x hx=> ?_⟩⟩,okN_small (by decide) (by omega) (by omega),⟨by unfold okLen;omega,hw⟩,⟨by unfold okLen;omega,fun r hm=> ?_⟩,⟨by unfold okLen;omega,fun s hm=> ?_⟩,
  run_good _ hi,run_good _ hf,okN_small (by decide) (by omega) (by omega),by omega⟩
 ·have:=hgs s hm
  exact⟨okN_small (by decide) (by omega) (by omega),okN_small (by decide) (by omega) (by omega),okN_small (by decide) (by omega) (by omega),by omega⟩
 ·have:=List.all_eq_true.1 a6 n hm
  simp only [needB,Bool.and_eq_true,decide_eq_true_eq]at this
  obtain⟨⟨c1,c2⟩,c3⟩:=this
  refine⟨by have:=sizedB_len c1;omega,hnames _ c2 (fun x hx=> ?_)⟩
  have:=nameB_len (List.all_eq_true.1 c3 x hx);omega
 ·have:=sizedB_len (List.all_eq_true.1 a7 x hx);omega
 ·have:=sym_good hg ht (symsFrom_each _ _ _ _ hs'.2 s hm)
  exact⟨by omega,by omega,okN_small (by decide) (by omega) (by omega),okN_small (by decide) (by omega) (by omega),by unfold okN;rw [if_pos rfl];omega,by unfold okN;rw [if_pos rfl];omega⟩
 ·have:=(hch c hc).2 x hx
  exact okN_small (by decide) (by omega) (by omega)
 ·have:=reloc_good hg hs'.1 (relocsFrom_each _ _ _ hr'.2 r hm)
  have hat:r.at_≤9223372036854775807:=by
   have hw:0≤wideL im r:=by
    unfold wideL
    split
    ·rename_i s hsy
     have:=sym_good hg ht (symsFrom_each _ _ _ _ hs'.2 s (symAt_range hsy).2.2)
     split<;>omega
    ·omega
   omega
  exact⟨okN_small (by decide) (by omega) (by omega),by unfold okN;rw [if_pos rfl];omega,by unfold okN;rw [if_pos rfl];omega,by unfold okN;rw [if_pos rfl];omega⟩
 ·have:=slot_good hg hs'.1 (slotsFrom_each _ _ _ hsl'.2 s hm)
  exact⟨okN_small (by decide) (by omega) (by omega),okN_small (by decide) (by omega) (by omega),okN_small (by decide) (by omega) (by omega)⟩
def wholeP (b:List UInt8):Option ImgL:=match imgP b with
 | some (im,[])=>some im
 | _=>none
theorem whole_form {im:ImgL} (h:OkImg im):wholeP (formL im)=some im:=by
 have:=img_codec.there im [] h
 rw [List.append_nil]at this
 rw [wholeP,this]
end Go.Proofs.YtfchpchabdhcgaaGreat
namespace Go.Proofs.YtfchpchabdhcgaaGreat
open Go.RowKit
structure Later (w:World) where
 w':World
 h:Below w.heap.size w w'
instance Later.inst (w:World):Nonempty (Later w):=⟨⟨w,Below.refl _ w⟩⟩
theorem Later.cell {w:World} (x:Later w) {p:Addr} {v:Value} (c:w.cell? p=some v):x.w'.cell? p=some v:=(x.h.cell (World.block_lt_of_cell? _ _ c)).trans c
theorem Later.call {P:Program} {w:World} (x:Later w) {f:FuncId} {args:Array Value} {v:Value} (h:Calls P f args x.w' fun e w'=>e=.returned v∧Below x.w'.heap.size x.w' w'):
  Calls P f args x.w' fun e w''=>e=.returned v∧∃ y:Later w,w''=y.w':=
 h.mono fun _ w' ⟨he,hb⟩=>⟨he,⟨⟨w',x.h.trans (hb.mono x.h.size)⟩,rfl⟩⟩
theorem Later.call_same {P:Program} {w:World} (x:Later w) {f:FuncId} {args:Array Value} {v:Value} (h:Calls P f args x.w' fun e w'=>e=.returned v∧w'=x.w'):
  Calls P f args x.w' fun e w''=>e=.returned v∧∃ y:Later w,w''=y.w':=
 h.mono fun _ w' ⟨he,hb⟩=>⟨he,⟨x,hb⟩⟩
theorem wp_region_later {P:Program} {id:Nat} {Q:Exit→Act→World→Prop} {a:Act} {w:World} {l:List Oper} (hm:P.follows .mixedOrders=true) (hB:Region.lexB .any l.toArray=true)
  (h:wpQuiet P l.toArray (fun w'=>∃ x:Later w,w'=x.w') (fun a'=>∀ w',(∃ x:Later w,w'=x.w')→Q .normal a' w') l a):(Code.region id l.toArray true).wp P Q a w:=
 wp_region_quiet (C:=fun w'=>∃ x:Later w,w'=x.w') hm hB ⟨⟨_,(Below.refl _ w).drew⟩,rfl⟩ (by simpa using h)
end Go.Proofs.YtfchpchabdhcgaaGreat
namespace Go.Proofs.YtfchpchabdhcgaaGreat
open Go.RowKit
structure Step (S:Nat→Prop) (w w':World):Prop where
 os:w'.os=w.os
 tape:w'.tape=w.tape
 output:w'.output=w.output
 size:w.heap.size≤w'.heap.size
 block:∀ b,S b→w'.heap[b]? =w.heap[b]?
theorem Step.refl (S:Nat→Prop) (w:World):Step S w w:=⟨rfl,rfl,rfl,Nat.le_refl _,fun _ _=>rfl⟩
theorem Step.trans {S:Nat→Prop} {a b c:World} (h:Step S a b) (k:Step S b c):Step S a c:=⟨k.os.trans h.os,k.tape.trans h.tape,k.output.trans h.output,Nat.le_trans h.size k.size,fun i hi=>(k.block i hi).trans (h.block i hi)⟩
theorem Step.imp {S S':Nat→Prop} {w w':World} (h:Step S w w') (hi:∀ b,S' b→S b):Step S' w w':=⟨h.os,h.tape,h.output,h.size,fun b hb=>h.block b (hi b hb)⟩
theorem Step.drew {S:Nat→Prop} {a w:World} (h:Step S a w):Step S a w.drew:=⟨h.os,h.tape,h.output,h.size,h.block⟩
theorem Step.alloc {S:Nat→Prop} {a w:World} (h:Step S a w) (hS:∀ b,S b→b<w.heap.size) (o:Obj):Step S a (w.alloc o):=
 ⟨h.os,h.tape,h.output,Nat.le_trans h.size (by simp),fun b hb=>(Below.heap_alloc w o b (hS b hb)).trans (h.block b hb)⟩
theorem Step.setCell {S:Nat→Prop} {a w:World} (h:Step S a w) {p:Addr} (hp:¬ S p.block) (u:Value):Step S a (w.setCell p u):=
 ⟨h.os,h.tape,h.output,by simpa using h.size,fun b hb=>(Below.heap_setCell w p u b (fun e=>hp (e ▸ hb))).trans (h.block b hb)⟩
theorem Step.of_below {B:Nat} {w w':World} (h:Below B w w'):Step (·<B) w w':=⟨h.os,h.tape,h.output,h.size,h.block⟩
theorem Step.below {B:Nat} {w w':World} (h:Step (·<B) w w'):Below B w w':=⟨h.os,h.tape,h.output,h.size,h.block⟩
theorem Step.of_grown {S:Nat→Prop} {w w':World} {row:Option Nat} (h:w.grownBy w' row) (hS:∀ b,S b→b<w.heap.size∧row≠some b):Step S w w':=
 ⟨h.os,h.tape,h.output,h.size,fun b hb=>h.block b (hS b hb).1 (fun e=>(hS b hb).2 e.symm)⟩
theorem Step.keeps {S:Nat→Prop} {w w':World} (h:Step S w w'):Keeps S w w':=h.block
theorem Step.cell {S:Nat→Prop} {w w':World} (h:Step S w w') {p:Addr} (hp:S p.block):w'.cell? p=w.cell? p:=World.cell?_of_block (h.block p.block hp)
theorem LB.step {α:Type} {K:Kind α} {S:Nat→Prop} {w w':World} {v:Value} {l:List α} (h:LB K S w v l) (hs:Step S w w'):LB K S w' v l:=h.keeps hs.keeps
def RowsOf {α:Type} (K:Kind α) (S:Nat→Prop) (w:World):List α→List Value→Prop
 | [],xs=>xs=[]
 | x :: l,xs=>∃ r ys,xs=r++ys∧K.R S w x r∧RowsOf K S w l ys
section
variable {α : Type} {K : Kind α} {S S' : Nat → Prop} {w w' : World}
theorem RowsOf.keeps:∀ {l:List α} {xs:List Value},RowsOf K S w l xs→Keeps S w w'→RowsOf K S w' l xs
 | [],_,h,_=>h
 | _ :: _,_,⟨r,ys,e,h1,h2⟩,hk=>⟨r,ys,e,K.keeps h1 hk,RowsOf.keeps h2 hk⟩
theorem RowsOf.imp:∀ {l:List α} {xs:List Value},RowsOf K S w l xs→(∀ b,S b→S' b)→RowsOf K S' w l xs
 | [],_,h,_=>h
 | _ :: _,_,⟨r,ys,e,h1,h2⟩,hi=>⟨r,ys,e,K.imp h1 hi,RowsOf.imp h2 hi⟩
theorem RowsOf.snoc:∀ {l:List α} {xs:List Value} {y:α} {r:List Value},RowsOf K S w l xs→K.R S w y r→RowsOf K S w (l++[y]) (xs++r)
 | [],xs,y,r,h,hr=>by
  have:xs=[]:=h
  subst this
  exact⟨r,[],by simp,hr,rfl⟩
 | _ :: _,_,y,r,⟨r0,ys,e,h1,h2⟩,hr=>⟨r0,ys++r,by rw [e,List.append_assoc],h1,RowsOf.snoc h2 hr⟩
theorem RowsOf.get:∀ {l:List α} {xs:List Value},RowsOf K S w l xs→∀ i x,l[i]? =some x→∃ r,K.R S w x r∧∀ j u,r[j]? =some u→xs[i*K.k+j]? =some u
 | [],_,_,i,x,hx=>by simp at hx
 | y :: l,_,⟨r,ys,e,h1,h2⟩,i,x,hx=>by
  have hl:=K.len h1
  cases i with
  | zero=>
   simp at hx;subst hx
   refine⟨r,h1,fun j u hu=> ?_⟩
   rw [e,Nat.zero_mul,Nat.zero_add,List.getElem?_append_left (List.getElem?_eq_some_iff.1 hu).1];exact hu
  | succ i=>
   obtain⟨r',h3,h4⟩:=RowsOf.get h2 i x (by simpa using hx)
   refine⟨r',h3,fun j u hu=> ?_⟩
   rw [e,List.getElem?_append_right (by rw [hl,Nat.succ_mul];omega),hl,Nat.succ_mul]
   rw [show i*K.k+K.k+j-K.k=i*K.k+j by omega]
   exact h4 j u hu
end
def OwnK {α:Type} (e:TypeId) (K:Kind α) (B:Nat) (E:Nat→Prop) (w:World) (v:Value) (l:List α):Prop:=
 ∃ xs,w.ownsRow B e K.k v l.length xs∧RowsOf K (fun b=>b<w.heap.size∧¬ E b∧v.ownBlock≠some b) w l xs∧∀ g,v.ownBlock=some g→¬ E g
section
variable {α : Type} {e : TypeId} {K : Kind α} {B : Nat} {E : Nat → Prop} {w w' : World} {v : Value} {l : List α}
theorem OwnK.nil (e:TypeId) (K:Kind α) (B:Nat) (E:Nat→Prop) (w:World):OwnK e K B E w (.slice none 0 0) []:=
 ⟨[],World.ownsRow_nil w B e K.k,rfl,fun g h=>by simp [Value.ownBlock]at h⟩
theorem OwnK.lt (h:OwnK e K B E w v l):∀ k,v.ownBlock=some k→B≤k∧k<w.heap.size:=by
 obtain⟨xs,h1,_⟩:=h;exact World.ownsRow.lt h1
theorem OwnK.notE (h:OwnK e K B E w v l):∀ k,v.ownBlock=some k→¬ E k:=by
 obtain⟨xs,_,_,h3⟩:=h;exact h3
theorem OwnK.form (h:OwnK e K B E w v l):∃ a c,v=.slice a l.length c:=by
 obtain⟨xs,h1,_⟩:=h
 rcases h1.2 with ⟨rfl,h0⟩ | ⟨g,cap,cur,rfl,_⟩
 ·exact⟨none,0,by rw [h0]⟩
 ·exact⟨_,_,rfl⟩
theorem OwnK.step {S:Nat→Prop} (h:OwnK e K B E w v l) (hs:Step S w w') (hS:∀ b,b<w.heap.size→¬ E b→S b):OwnK e K B E w' v l:=by
 obtain⟨xs,h1,h2,h3⟩:=h
 have hlt:=World.ownsRow.lt h1
 have hsz:=hs.size
 refine⟨xs,⟨h1.1,?_⟩,?_,h3⟩
 ·rcases h1.2 with h0 | ⟨g,cap,cur,hv,hg,hh,r⟩
  ·exact Or.inl h0
  ·refine Or.inr ⟨g,cap,cur,hv,hg,?_,r⟩
   have ho:v.ownBlock=some g:=by rw [hv];rfl
   rw [hs.block g (hS g (hlt g ho).2 (h3 g ho))];exact hh
 ·exact(h2.keeps (fun b hb=>hs.block b (hS b hb.1 hb.2.1))).imp (fun b hb=>⟨by omega,hb.2⟩)
theorem OwnK.below (h:OwnK e K B E w v l) (hb:Below w.heap.size w w'):OwnK e K B E w' v l:=h.step (.of_below hb) fun _ h _=>h
theorem OwnK.alloc (h:OwnK e K B E w v l) (o:Obj):OwnK e K B E (w.alloc o) v l:=h.below ((Below.refl _ w).alloc (Nat.le_refl _) o)
theorem OwnK.drew (h:OwnK e K B E w v l):OwnK e K B E w.drew v l:=h.step ((Step.refl (fun _=>True) w).drew) fun _ _ _=>trivial
theorem OwnK.mono {B':Nat} (h:OwnK e K B E w v l) (hB:B'≤B):OwnK e K B' E w v l:=by
 obtain⟨xs,h1,h2,h3⟩:=h
 refine⟨xs,⟨h1.1,?_⟩,h2,h3⟩
 rcases h1.2 with h0 | ⟨g,cap,cur,hv,hg,r⟩
 ·exact Or.inl h0
 ·exact Or.inr ⟨g,cap,cur,hv,Nat.le_trans hB hg,r⟩
theorem OwnK.less {E':Nat→Prop} (h:OwnK e K B E w v l) (hE:∀ b,E' b→E b):OwnK e K B E' w v l:=by
 obtain⟨xs,h1,h2,h3⟩:=h
 exact⟨xs,h1,h2.imp fun b hb=>⟨hb.1,fun h=>hb.2.1 (hE b h),hb.2.2⟩,fun g hg h=>h3 g hg (hE g h)⟩
theorem OwnK.lb (h:OwnK e K B E w v l):LB K (fun b=>b<w.heap.size∧¬ E b) w v l:=by
 obtain⟨xs,h1,h2,h3⟩:=h
 have h1':=h1
 have h2':=h2.imp (S':=fun b=>b<w.heap.size∧¬ E b) fun b hb=>⟨hb.1,hb.2.1⟩
 have hlt:=World.ownsRow.lt h1
 rcases h1.2 with ⟨rfl,h0⟩ | ⟨g,cap,cur,rfl,hg,hh,hle,hcap,hs,ht⟩
 ·obtain rfl:l=[]:=List.eq_nil_of_length_eq_zero h0
  exact LB.nil _ _ _
 ·refine⟨some ⟨g,0,none⟩,g,0,cap,rfl,by unfold maxLen at hcap;omega,fun _=>rfl,⟨hle,fun h=>by cases h⟩,fun _=>⟨(hlt g rfl).2,h3 g rfl⟩,fun i x hx=> ?_⟩
  obtain⟨r,hr,hc⟩:=h2'.get i x hx
  refine⟨r,hr,fun j u hu=> ?_⟩
  have:=World.ownsRow.cells h1' (g:=g) rfl _ _ (hc j u hu)
  simpa [Addr.add_lit,Nat.add_assoc] using this
theorem wpList_appendK {ops:Array Oper} {rest:List Oper} {o:Oper} {a:Act} {Q:Exit→Act→World→Prop} (t:TypeId) (z:Value) (bytes:Nat) (ht:Tryz.prog.underlying t=some (.slice e)) (hinfo:(Tryz.prog.info? e).map (fun i=>(i.zero,i.size,i.bytes))=some (some z,K.k,bytes))
  (hzs:z.cells.size=K.k) (hk:0<K.k) (hgd:o.guard=none) (s x:Operand)
  (ho:o.op=.call {callee:=.builtin .append,args:=#[s,x],argTypes:=#[t,t]})
  (n:Nat) (hn:l.length=n) (hs:a.eval s=v) (hown:OwnK e K B E w v l) (hE:∀ b,E b→b<w.heap.size) (nb:Nat) (y:α) (row:List Value) (hx:a.eval x=.slice (some ⟨nb,0,none⟩) 1 1)
  (hcell:∀ j u,row[j]? =some u→w.cell? ⟨nb,j,none⟩=some u) (hone:∀ u∈row,u.oneCell'=true) (hrow:K.R (fun b=>b<w.heap.size∧¬ E b∧v.ownBlock≠some b) w y row)
  (hlen:(l.length+1)*bytes≤140737488355328) (hl63:l.length<1099511627776) (hB:B≤w.heap.size)
  (h:∀ g c w',OwnK e K B E w' (.slice (some ⟨g,0,none⟩) (n+1) c) (l++[y])→Step (fun b=>b<w.heap.size∧v.ownBlock≠some b) w w'→g<w'.heap.size→
   wpList Tryz.prog ops Q rest (a.put o.dst (.slice (some ⟨g,0,none⟩) (n+1) c)) w'):wpList Tryz.prog ops Q (o :: rest) a w:=by
 subst hn
 obtain⟨i0,hi,hz0,hz1,hz2⟩:=info_parts hinfo
 obtain⟨xs,h1,h2,h3⟩:=hown
 have hlt:=World.ownsRow.lt h1
 refine wpList_append_lies w hgd s x t ho B e i0 z K.k bytes ht hi hz0 hz1 hz2 hzs hk v l.length xs hs h1 ⟨nb,0,none⟩ 1 1 row hx (by rw [K.len hrow,Nat.one_mul]) ?_ hone (by decide) ?_ hlen hB _ rfl ?_
 ·intro j u hj
  have:=hcell j u hj
  simpa [Addr.add_lit] using this
 ·unfold maxLen;omega
 ·intro g c w' g1 g2 g3 g4
  have hst:Step (fun b=>b<w.heap.size∧v.ownBlock≠some b) w w':=Step.of_grown g2 (fun b hb=>⟨hb.1,hb.2⟩)
  have hsz:=hst.size
  have hgne:∀ b,b<w.heap.size→v.ownBlock≠some b→b≠g:=by
   intro b hb hne e
   subst e
   rcases g3 with h' | h'
   ·exact hne h'
   ·omega
  refine h g c w' ⟨xs++row,by simpa using g1,?_,?_⟩ hst g4
  ·have hr:=(h2.keeps (fun b hb=>hst.block b ⟨hb.1,hb.2.2⟩)).snoc (K.keeps hrow (fun b hb=>hst.block b ⟨hb.1,hb.2.2⟩))
   exact hr.imp fun b hb=>⟨by omega,hb.2.1,fun e=>hgne b hb.1 hb.2.2 (by simpa [Value.ownBlock] using e.symm)⟩
  ·intro g' hg' hEg
   have:g'=g:=by simpa [Value.ownBlock] using hg'.symm
   subst this
   rcases g3 with h' | h'
   ·exact h3 _ h' hEg
   ·have:=hE _ hEg;omega
end
end Go.Proofs.YtfchpchabdhcgaaGreat
namespace Go.Proofs.YtfchpchabdhcgaaGreat
open Go.RowKit
structure Plain {α:Type} (K:Kind α) (f:α→Value):Prop where
 one:K.k=1
 into:∀ {S w x r},K.R S w x r→r=[f x]
 of:∀ S w x,K.R S w x [f x]
 cell:∀ x,(f x).oneCell'=true
theorem plain_byte:Plain kByte (fun x=>.int .u8 x.toNat):=⟨rfl,fun h=>h,fun _ _ _=>rfl,fun _=>rfl⟩
theorem plain_int:Plain kInt (fun x=>.int .i64 x):=⟨rfl,fun h=>h,fun _ _ _=>rfl,fun _=>rfl⟩
section
variable {α : Type} {e : TypeId} {K : Kind α} {f : α → Value} {B : Nat} {E : Nat → Prop} {w w' : World} {v : Value} {l : List α}
theorem RowsOf.plain (hp:Plain K f) {S:Nat→Prop}:∀ {l:List α} {xs:List Value},RowsOf K S w l xs→xs=l.map f
 | [],_,h=>h
 | _ :: _,_,⟨r,ys,h0,h1,h2⟩=>by rw [h0,hp.into h1,RowsOf.plain hp h2];rfl
theorem RowsOf.of_plain (hp:Plain K f) (S:Nat→Prop) (w:World):∀ l:List α,RowsOf K S w l (l.map f)
 | []=>rfl
 | x :: l=>⟨[f x],l.map f,rfl,hp.of S w x,RowsOf.of_plain hp S w l⟩
theorem OwnK.plain_row (hp:Plain K f) (h:OwnK e K B E w v l):w.ownsRow B e 1 v l.length (l.map f):=by
 obtain⟨xs,h1,h2,_⟩:=h
 rw [hp.one]at h1
 rwa [RowsOf.plain hp h2]at h1
theorem OwnK.of_plain (hp:Plain K f) (h:w.ownsRow B e 1 v l.length (l.map f)) (hE:∀ g,v.ownBlock=some g→¬ E g):OwnK e K B E w v l:=
 ⟨l.map f,by rw [hp.one];exact h,RowsOf.of_plain hp _ _ l,hE⟩
theorem wpList_appendsK {ops:Array Oper} {rest:List Oper} {o:Oper} {a:Act} {Q:Exit→Act→World→Prop} (hp:Plain K f) (t:TypeId) (z:Value) (bytes:Nat) (ht:Tryz.prog.underlying t=some (.slice e)) (hinfo:(Tryz.prog.info? e).map (fun i=>(i.zero,i.size,i.bytes))=some (some z,1,bytes))
  (hzs:z.cells.size=1) (hgd:o.guard=none) (s x:Operand)
  (ho:o.op=.call {callee:=.builtin .append,args:=#[s,x],argTypes:=#[t,t]})
  (hs:a.eval s=v) (hown:OwnK e K B E w v l) (hE:∀ b,E b→b<w.heap.size) {S:Nat→Prop} (u:Value) (m:List α) (hx:a.eval x=u) (hu:LB K S w u m)
  (hlen:(l.length+m.length)*bytes≤140737488355328) (hl63:l.length+m.length≤9223372036854775807) (hB:B≤w.heap.size)
  (h:∀ v' w',OwnK e K B E w' v' (l++m)→Step (fun b=>b<w.heap.size∧v.ownBlock≠some b) w w'→(∀ b,b<w.heap.size→v.ownBlock≠some b→v'.ownBlock≠some b)→wpList Tryz.prog ops Q rest (a.put o.dst v') w'):wpList Tryz.prog ops Q (o :: rest) a w:=by
 obtain⟨i0,hi,hz0,hz1,hz2⟩:=info_parts hinfo
 have h1:=hown.plain_row hp
 obtain⟨ua,ub,uoff,ucap,hv,hm,ha,hcap,hS,hc⟩:=hu
 cases ua with
 | none=>
  have hm0:m=[]:=by
   cases m with
   | nil=>rfl
   | cons y m=>exact absurd (ha (by simp)) (by simp)
  subst hm0
  have hc0:=hcap.2 rfl
  subst hc0
  refine wpList_append_own_none hgd s x t ho B e i0 1 ht hi v l.length (l.map f) hs h1 (hx.trans hv) ?_
  exact h v w (by rw [List.append_nil];exact hown) (Step.refl _ _) (fun b _ h=>h)
 | some ad=>
  refine wpList_append_own_at w hgd s x t ho B e i0 z 1 bytes ht hi hz0 hz1 hz2 hzs (by decide) v l.length (l.map f) hs h1 ad m.length ucap (m.map f) (hx.trans hv) (by simp) ?_ ?_ (by unfold maxLen;omega) hlen hB ?_
  ·intro j u hj
   rw [List.getElem?_map]at hj
   cases hmj:m[j]? with
   | none=>rw [hmj]at hj;cases hj
   | some y=>
    rw [hmj]at hj
    have hu:f y=u:=by simpa using hj
    subst hu
    have hml:0<m.length:=by have:=(List.getElem?_eq_some_iff.1 hmj).1;omega
    obtain rfl:ad=⟨ub,uoff,none⟩:=by have:=ha hml;simpa using this
    obtain⟨row,r1,r2⟩:=hc j y hmj
    have:=hp.into r1
    subst this
    have:=r2 0 (f y) rfl
    rw [hp.one]at this
    simpa [Addr.add_lit] using this
  ·intro u hu
   simp only [List.mem_map]at hu
   obtain⟨y,_,rfl⟩:=hu
   exact hp.cell y
  ·intro v' w' g1 g2 _ g4
   have hlt:=World.ownsRow.lt h1
   have hlt':=World.ownsRow.lt g1
   have hst:Step (fun b=>b<w.heap.size∧v.ownBlock≠some b) w w':=Step.of_grown g2 (fun b hb=>⟨hb.1,hb.2⟩)
   refine h v' w' (.of_plain hp (by rw [List.length_append,List.map_append];exact g1) ?_) hst ?_
   ·intro g hg hEg
    rcases g4 with h' | h'
    ·exact hown.notE g (by rw [← h'];exact hg) hEg
    ·have:g=w.heap.size:=by rw [h']at hg;exact(Option.some.inj hg).symm
     have:=hE _ hEg;omega
   ·intro b hb hne e
    rcases g4 with h' | h'
    ·exact hne (by rw [← h'];exact e)
    ·have:b=w.heap.size:=by rw [h']at e;exact(Option.some.inj e).symm
     omega
end
section
variable {α : Type} {e : TypeId} {K : Kind α} {B : Nat} {E : Nat → Prop} {w w' : World} {v : Value} {l : List α}
theorem wp_appendK {o:Oper} {a:Act} {C:Act→World→Prop} {Q:Exit→Act→World→Prop} (t:TypeId) (z:Value) (bytes:Nat) (ht:Tryz.prog.underlying t=some (.slice e)) (hinfo:(Tryz.prog.info? e).map (fun i=>(i.zero,i.size,i.bytes))=some (some z,K.k,bytes))
  (hzs:z.cells.size=K.k) (hk:0<K.k) (s x:Operand)
  (ho:o.op=.call {callee:=.builtin .append,args:=#[s,x],argTypes:=#[t,t]})
  (n:Nat) (hn:l.length=n) (hs:a.eval s=v) (hown:OwnK e K B E w v l) (hE:∀ b,E b→b<w.heap.size) (nb:Nat) (y:α) (row:List Value) (hx:a.eval x=.slice (some ⟨nb,0,none⟩) 1 1)
  (hcell:∀ j u,row[j]? =some u→w.cell? ⟨nb,j,none⟩=some u) (hone:∀ u∈row,u.oneCell'=true) (hrow:K.R (fun b=>b<w.heap.size∧¬ E b∧v.ownBlock≠some b) w y row)
  (hlen:(l.length+1)*bytes≤140737488355328) (hl63:l.length<1099511627776) (hB:B≤w.heap.size)
  (h:∀ g c w',OwnK e K B E w' (.slice (some ⟨g,0,none⟩) (n+1) c) (l++[y])→Step (fun b=>b<w.heap.size∧v.ownBlock≠some b) w w'→g<w'.heap.size→(∀ b,b<w.heap.size→v.ownBlock≠some b→b≠g)→
   C (a.put o.dst (.slice (some ⟨g,0,none⟩) (n+1) c)) w'):o.wp Tryz.prog a w C Q:=by
 subst hn
 obtain⟨i0,hi,hz0,hz1,hz2⟩:=info_parts hinfo
 obtain⟨xs,h1,h2,h3⟩:=hown
 have hlt:=World.ownsRow.lt h1
 refine wp_append_lies w s x t ho B e i0 z K.k bytes ht hi hz0 hz1 hz2 hzs hk v l.length xs hs h1 ⟨nb,0,none⟩ 1 1 row hx (by rw [K.len hrow,Nat.one_mul]) ?_ hone (by decide) ?_ hlen hB _ rfl ?_
 ·intro j u hj
  have:=hcell j u hj
  simpa [Addr.add_lit] using this
 ·unfold maxLen;omega
 ·intro g c w' g1 g2 g3 g4
  have hst:Step (fun b=>b<w.heap.size∧v.ownBlock≠some b) w w':=Step.of_grown g2 (fun b hb=>⟨hb.1,hb.2⟩)
  have hsz:=hst.size
  have hgne:∀ b,b<w.heap.size→v.ownBlock≠some b→b≠g:=by
   intro b hb hne e
   subst e
   rcases g3 with h' | h'
   ·exact hne h'
   ·omega
  refine h g c w' ⟨xs++row,by simpa using g1,?_,?_⟩ hst g4 hgne
  ·have hr:=(h2.keeps (fun b hb=>hst.block b ⟨hb.1,hb.2.2⟩)).snoc (K.keeps hrow (fun b hb=>hst.block b ⟨hb.1,hb.2.2⟩))
   exact hr.imp fun b hb=>⟨by omega,hb.2.1,fun e=>hgne b hb.1 hb.2.2 (by simpa [Value.ownBlock] using e.symm)⟩
  ·intro g' hg' hEg
   have:g'=g:=by simpa [Value.ownBlock] using hg'.symm
   subst this
   rcases g3 with h' | h'
   ·exact h3 _ h' hEg
   ·have:=hE _ hEg;omega
end
theorem info_byte:(Tryz.prog.info? 5).map (fun i=>(i.zero,i.size,i.bytes))=some (some (.int .u8 0),1,1):=by kernel_rfl
end Go.Proofs.YtfchpchabdhcgaaGreat
namespace Go.Proofs.YtfchpchabdhcgaaGreat
open Go.RowKit
structure WB (b:Nat) (S:Nat→Prop) (w:World) (l:List UInt8):Prop where
 ex:∃ v,w.heap[b]? =some (.cells #[.int .i64 0,v] 120 (0,0))∧OwnK 5 kByte (b+1) (·=b) w v l∧∀ x,S x→x<w.heap.size∧x≠b∧v.ownBlock≠some x
section
variable {b : Nat} {S S' : Nat → Prop} {w w' : World} {l : List UInt8}
theorem WB.lt (h:WB b S w l):b<w.heap.size:=by
 obtain⟨v,h1,_⟩:=h.ex
 rcases Nat.lt_or_ge b w.heap.size with h' | h'
 ·exact h'
 ·rw [Array.getElem?_eq_none h']at h1;cases h1
theorem WB.less (h:WB b S w l) (hi:∀ x,S' x→S x):WB b S' w l:=by
 obtain⟨v,h1,h2,h3⟩:=h.ex
 exact⟨v,h1,h2,fun x hx=>h3 x (hi x hx)⟩
theorem WB.below (h:WB b S w l) (hb:Below w.heap.size w w'):WB b S w' l:=by
 have hlt:=h.lt
 obtain⟨v,h1,h2,h3⟩:=h.ex
 exact⟨v,(hb.block b hlt).trans h1,h2.below hb,fun x hx=>⟨Nat.lt_of_lt_of_le (h3 x hx).1 hb.size,(h3 x hx).2⟩⟩
theorem WB.alloc (h:WB b S w l) (o:Obj):WB b (fun x=>S x∨x=w.heap.size) (w.alloc o) l:=by
 have hlt:=h.lt
 obtain⟨v,h1,h2,h3⟩:=h.ex
 refine⟨v,(heap_alloc_old w o hlt).trans h1,h2.alloc o,fun x hx=> ?_⟩
 rcases hx with hx | rfl
 ·exact⟨by have:=(h3 x hx).1;rw [World.size_alloc];omega,(h3 x hx).2⟩
 ·exact⟨by simp,by omega,fun e=>by have:=(h2.lt _ e).2;omega⟩
theorem WB.inS (h:WB b S w l) {x:Nat} (hx:S x):x<w.heap.size:=by
 obtain⟨v,_,_,h3⟩:=h.ex
 exact(h3 x hx).1
theorem WB.put {v v':Value} (h1:w.heap[b]? =some (.cells #[.int .i64 0,v] 120 (0,0))) (h2:OwnK 5 kByte (b+1) (·=b) w v' l) (h3:∀ x,S x→x<w.heap.size∧x≠b∧v'.ownBlock≠some x):WB b S (w.setCell ⟨b,1,none⟩ v') l:=by
 refine⟨v',by simp [World.setCell,Array.getElem?_modify,h1],h2.step ((Step.refl (fun x=>x≠b) w).setCell (p:=⟨b,1,none⟩) (by simp) v') (fun x _ h=>h),fun x hx=> ?_⟩
 obtain⟨a1,a2⟩:=h3 x hx
 exact⟨by rw [World.size_setCell];exact a1,a2⟩
theorem WB.sound (h:WB b S w l):w.cell? ⟨b,0,none⟩=some (.int .i64 0):=by
 obtain⟨v,h1,_⟩:=h.ex
 rw [Lib.cell_of_heap h1];rfl
end
theorem sound_any (w:World) (b:Nat) (x:Int) (hc:w.cell? ⟨b,0,none⟩=some (.int .i64 x)):
  Calls Tryz.prog 43 #[.pointer (some ⟨b,0,none⟩)] w fun e w'=>e=.returned (.bool (x==0))∧w'=w:=by
 have hb:=World.block_lt_of_cell? _ _ hc
 go_enter Tryz.func43,Tryz.ntmps43
 go_wp2
 go_ret
 exact⟨rfl,rfl⟩
theorem sized_any (w:World) (n:Nat) (hn:n=1∨n=2∨n=4∨n=8):
  Calls Tryz.prog 40 #[.int .i64 (n:Int)] w fun e w'=>e=.returned (.bool true)∧w'=w:=by
 rcases hn with rfl | rfl | rfl | rfl
 all_goals
  go_enter Tryz.func40,Tryz.ntmps40
  go_wp2
  go_ret
  exact⟨rfl,rfl⟩
theorem fits_any (w:World) (n:Nat) (x:Int) (hn:n=1∨n=2∨n=4∨n=8) (hx:okN n x):
  Calls Tryz.prog 72 #[.int .i64 x,.int .i64 (n:Int)] w fun e w'=>e=.returned (.bool true)∧w'=w:=by
 have p1:(256:Int) ^ 1=256:=by decide
 have p2:(256:Int) ^ 2=65536:=by decide
 have p4:(256:Int) ^ 4=4294967296:=by decide
 rcases hn with rfl | rfl | rfl | rfl
 case inr.inr.inr=>
  clear hx p1 p2 p4
  go_enter Tryz.func72,Tryz.ntmps72
  go_wp2
  go_ret
  exact⟨rfl,rfl⟩
 all_goals
  unfold okN at hx
  rw [if_neg (by decide)]at hx
  simp only [p1,p2,p4]at hx
  obtain⟨h0,h1⟩:=hx
  have hd:decide (0≤x)=true:=by rw [decide_eq_true_eq];exact h0
  clear p1 p2 p4
 ·have hq:(x/256==0)=true:=by rw [beq_iff_eq];omega
  go_enter Tryz.func72,Tryz.ntmps72
  go_wp2
  go_ret
  exact⟨rfl,rfl⟩
 ·have hq:(x/65536==0)=true:=by rw [beq_iff_eq];omega
  go_enter Tryz.func72,Tryz.ntmps72
  go_wp2
  go_ret
  exact⟨rfl,rfl⟩
 ·have hq:(x/4294967296==0)=true:=by rw [beq_iff_eq];omega
  go_enter Tryz.func72,Tryz.ntmps72
  go_wp2
  go_ret
  exact⟨rfl,rfl⟩
theorem flag_any (w:World) (x:Bool):Calls Tryz.prog 30 #[.bool x] w fun e w'=>e=.returned (.int .i64 (oneL x))∧w'=w:=by
 cases x
 all_goals
  go_enter Tryz.func30,Tryz.ntmps30
  go_wp2
  go_ret
  exact⟨rfl,rfl⟩
end Go.Proofs.YtfchpchabdhcgaaGreat
namespace Go.Proofs.YtfchpchabdhcgaaGreat
open Go.RowKit
theorem digitsL_succ (size:Nat) (n:Int) (i:Nat) (h:i<size):(digitsL size n).take (i+1)=(digitsL size n).take i++[UInt8.ofNat ((n%18446744073709551616).toNat/256 ^ i)]:=by
 have hl:i<(digitsL size n).length:=by rw [digitsL_len];exact h
 rw [List.take_succ_eq_append_getElem hl]
 congr 2
 simp [digitsL]
theorem shr_byte (n:Int) (i:Nat) (h:i<8):IntKind.u8.wrap (n/2 ^ (8*i))=((UInt8.ofNat ((n%18446744073709551616).toNat/256 ^ i)).toNat:Int):=by
 have e:∀ m:Nat,((UInt8.ofNat m).toNat:Int)=(m:Int)%256:=fun m=>by simp
 rw [e,IntKind.wrap_u8']
 have:i=0∨i=1∨i=2∨i=3∨i=4∨i=5∨i=6∨i=7:=by omega
 rcases this with rfl | rfl | rfl | rfl | rfl | rfl | rfl | rfl<;>simp only [Nat.mul_zero,Nat.mul_one,Nat.reduceMul,Nat.reducePow,Int.reducePow,Nat.pow_zero,Int.pow_zero]<;>omega
theorem numsL_take (size:Nat) (ns:List Int) (k:Nat) (n:Int) (hn:ns[k]? =some n):numsL size (ns.take (k+1))=numsL size (ns.take k)++digitsL size n:=by
 obtain⟨h,rfl⟩:=List.getElem?_eq_some_iff.1 hn
 rw [numsL,List.take_succ_eq_append_getElem h,List.map_append,List.flatten_append];simp [numsL]
theorem numsL_len (size:Nat) (ns:List Int):(numsL size ns).length=size*ns.length:=by
 induction ns with
 | nil=>simp [numsL]
 | cons n ns ih=>
  have:numsL size (n :: ns)=digitsL size n++numsL size ns:=by simp [numsL]
  rw [this,List.length_append,ih,digitsL_len,List.length_cons,Nat.mul_succ,Nat.add_comm]
theorem wnum_any (b:Nat) (S:Nat→Prop) (w:World) (l:List UInt8) (size:Nat) (ns:List Int) (u:Value) (h:WB b S w l) (hu:LB kInt S w u ns) (hs:size=1∨size=2∨size=4∨size=8)
  (hf:∀ n∈ns,okN size n) (hr:∀ n∈ns,-9223372036854775808≤n∧n≤9223372036854775807) (hlen:l.length+size*ns.length≤1000000000):
  Calls Tryz.prog 28 #[.pointer (some ⟨b,0,none⟩),.int .i64 (size:Int),u] w fun e w'=>e=.returned (.tuple #[])∧WB b S w' (l++numsL size ns)∧Step S w w':=by
 obtain⟨ua,ub,uoff,ucap,rfl,hum,huc,hat⟩:=hu.at
 have Hat:=Lib.hid hat
 have Hf:=Lib.hid hf
 have Hr:=Lib.hid hr
 have H:=Lib.hid h
 have hs8:1≤size∧size≤8:=by omega
 have HS:=Lib.hid (fun w=>sized_any w size hs)
 have HF:=Lib.hid (fun w x hx=>fits_any w size x hs hx)
 have hc0:=h.sound
 have hbl:=h.lt
 clear hu hat hf hr h hs
 go_enter Tryz.func28,Tryz.ntmps28
 go_wp2_with fail
 refine(HS.out _).mono ?_
 rintro e w2 ⟨rfl,rfl⟩
 clear hc0
 go_wp2_with fail
 go_loopw [8,18] (fun _ i wr=>∃ k:Nat,i=.int .i64 k∧k≤ns.length∧WB b S wr (l++numsL size (ns.take k))∧Step S w2 wr) (fun _ i _=>ns.length-(intOf i).toNat)
 case atStart=>exact⟨0,rfl,Nat.zero_le _,by simpa [numsL] using H.out,Step.refl _ _⟩
 case round=>
  obtain⟨k,rfl,hk,hw,hst⟩:=hrel
  have Hw:=Lib.hid hw
  have Hst:=Lib.hid hst
  have hc0:=hw.sound
  have hbr:=hw.lt
  by_cases hlt:k<ns.length
  ·obtain rfl:=Hat.out.addr (by omega)
   obtain⟨n,hn⟩:∃ n,ns[k]? =some n:=⟨_,List.getElem?_eq_getElem hlt⟩
   have g:=(Hst.out.cell (p:=⟨ub,uoff+k,none⟩) (Hat.out.inS (by omega))).trans (Hat.out.int1 k n hn)
   have hfn:=Hf.out n (List.mem_of_getElem? hn)
   have hrn:=Hr.out n (List.mem_of_getElem? hn)
   have Hnt:=Lib.hid (numsL_take size ns k n hn)
   have hkl:=numsL_len size (ns.take k)
   rw [List.length_take,Nat.min_eq_left hk]at hkl
   have hmul:size*k+size≤size*ns.length:=by rw [← Nat.mul_succ];exact Nat.mul_le_mul_left _ hlt
   have HFn:=Lib.hid (fun w=>HF.out w n hfn)
   clear hn hw hst hfn
   go_wp2_with fail
   refine(sound_any _ b 0 hc0).mono ?_
   rintro e w3 ⟨rfl,rfl⟩
   go_wp2_with fail
   refine(HFn.out _).mono ?_
   rintro e w3 ⟨rfl,rfl⟩
   clear hc0 g
   go_wp2_with fail
   go_loopw [8] (fun i wi=>∃ j:Nat,i=.int .i64 j∧j≤size∧WB b S wi (l++numsL size (ns.take k)++(digitsL size n).take j)∧Step S w2 wi) (fun i _=>size-(intOf i).toNat)
   case atStart=>exact⟨0,rfl,Nat.zero_le _,by have:=Hw.out;simpa using this,Hst.out⟩
   case round=>
    obtain⟨j,rfl,hj,hw,hst⟩:=hrel
    have Hw2:=Lib.hid hw
    have Hst2:=Lib.hid hst
    have hc0:=hw.sound
    have hbr2:=hw.lt
    clear hw hst
    by_cases hj2:j<size
    ·have hd1:decide ((j:Int)<(size:Int))=true:=by rw [decide_eq_true_eq];omega
     have Hds:=Lib.hid (digitsL_succ size n j hj2)
     have hsb:=shr_byte n j (by omega)
     obtain⟨cb,hcb⟩:∃ cb:UInt8,UInt8.ofNat ((n%18446744073709551616).toNat/256 ^ j)=cb:=⟨_,rfl⟩
     rw [hcb]at hsb Hds
     clear hcb
     have hq0:(0:Int)≤8*(j:Int):=by omega
     have hq1:8*(j:Int)≤64:=by omega
     have hq2:IntKind.i64.wrap (8*(j:Int))=8*(j:Int):=by rw [IntKind.wrap_i64];omega
     have hq3:(8*(j:Int)).toNat=8*j:=by omega
     have hdl:((digitsL size n).take j).length=j:=by rw [List.length_take,digitsL_len];omega
     obtain⟨v,hv1,hv2,hv3⟩:=Hw2.out.ex
     have Hv1:=Lib.hid hv1
     have Hv2:=Lib.hid hv2
     have Hv3:=Lib.hid hv3
     have hc1:wr.cell? ⟨b,1,none⟩=some v:=by rw [Lib.cell_of_heap hv1];rfl
     obtain⟨va,vc,hvf⟩:=hv2.form
     obtain⟨L,hL⟩:∃ L,(l++numsL size (ns.take k)++(digitsL size n).take j).length=L:=⟨_,rfl⟩
     have hLb:L≤1000000000:=by rw [← hL];simp only [List.length_append];omega
     have HL:=Lib.hid hL
     rw [hL]at hvf
     clear hL
     subst hvf
     clear hv1 hv2 hv3
     go_wp2_with fail
     refine(sound_any _ b 0 hc0).mono ?_
     rintro e w3 ⟨rfl,rfl⟩
     go_wp2_with fail
     have fx:w3.frozen? ⟨b,1,none⟩=false:=Lib.frozen_of_heap Hv1.out 1
     refine wp_region_phase 12 (by kernel_rfl) (by kernel_rfl) ?_
     simp only [List.take_succ_cons,List.take_zero,List.drop_succ_cons,List.drop_zero,List.take_nil,List.drop_nil]
     refine wpAny_of_held (S:=fun w'=>w'.cell? ⟨b,1,none⟩=some (.slice va L vc)) _ _ _ _ ?_
     have hHeld:(fun w':World=>w'.cell? ⟨b,1,none⟩=some (.slice va L vc)) w3.drew:=hc1
     show wpAnyH _ _ _ _ _ _ _ _ (World.drew _)
     have Hd2:=Lib.hid Hv2.out.drew
     have Hd1:Hid (w3.drew.heap[b]? =_):=Lib.hid Hv1.out
     have Hd3:Hid (∀ x,S x→x<w3.drew.heap.size∧x≠b∧Value.ownBlock (.slice va L vc)≠some x):=Lib.hid Hv3.out
     have hst3:=Lib.hid Hst2.out.drew
     have hbd:b<w3.drew.heap.size:=hbr2
     generalize w3.drew=wd at *
     refine wpAnyH_take (i:=0) (v:= ?_) rfl (by kernel_rfl) (by kernel_rfl) (by kernel_rfl) (fun _ _ _ h=>h) (Or.inl ⟨by rfl,?_⟩) hHeld ?_
     rotate_left
     ·(intro w hSw;(try dsimp only at hSw);go_simp;try with_reducible rfl)
     try simp only [Act.put,List.setIfInBounds_toArray,List.set_cons_zero,List.set_cons_succ]
     refine wpAnyH_take (i:=1) (v:= ?_) rfl (by kernel_rfl) (by kernel_rfl) (by kernel_rfl) (fun _ _ _ h=>h) (Or.inl ⟨by rfl,?_⟩) hHeld ?_
     rotate_left
     ·(intro w hSw;(try dsimp only at hSw);go_simp;try with_reducible rfl)
     try simp only [Act.put,List.setIfInBounds_toArray,List.set_cons_zero,List.set_cons_succ]
     refine wpAnyH_take (i:=2) (v:= ?_) rfl (by kernel_rfl) (by kernel_rfl) (by kernel_rfl) (fun _ _ _ h=>h) (Or.inl ⟨by rfl,?_⟩) hHeld ?_
     rotate_left
     ·(intro w hSw;(try dsimp only at hSw);go_simp;try with_reducible rfl)
     try simp only [Act.put,List.setIfInBounds_toArray,List.set_cons_zero,List.set_cons_succ]
     refine wpAnyH_take (i:=3) (v:= ?_) rfl (by kernel_rfl) (by kernel_rfl) (by kernel_rfl) (fun _ _ _ h=>h) (Or.inl ⟨by rfl,?_⟩) hHeld ?_
     rotate_left
     ·(intro w hSw;(try dsimp only at hSw);go_simp;try with_reducible rfl)
     try simp only [Act.put,List.setIfInBounds_toArray,List.set_cons_zero,List.set_cons_succ]
     refine wpAnyH_take (i:=4) (v:= ?_) rfl (by kernel_rfl) (by kernel_rfl) (by kernel_rfl) (fun _ _ _ h=>h) (Or.inl ⟨by rfl,?_⟩) hHeld ?_
     rotate_left
     ·(intro w hSw;(try dsimp only at hSw);go_simp;try with_reducible rfl)
     try simp only [Act.put,List.setIfInBounds_toArray,List.set_cons_zero,List.set_cons_succ]
     refine wpAnyH_take (i:=5) (v:= ?_) rfl (by kernel_rfl) (by kernel_rfl) (by kernel_rfl) (fun _ _ _ h=>h) (Or.inl ⟨by rfl,?_⟩) hHeld ?_
     rotate_left
     ·(intro w hSw;(try dsimp only at hSw);go_simp;try with_reducible rfl)
     try simp only [Act.put,List.setIfInBounds_toArray,List.set_cons_zero,List.set_cons_succ]
     refine wpAnyH_take (i:=6) (v:= ?_) rfl (by kernel_rfl) (by kernel_rfl) (by kernel_rfl) (fun _ _ _ h=>h) (Or.inl ⟨by rfl,?_⟩) hHeld ?_
     rotate_left
     ·(intro w hSw;(try dsimp only at hSw);go_simp;try with_reducible rfl)
     try simp only [Act.put,List.setIfInBounds_toArray,List.set_cons_zero,List.set_cons_succ]
     refine wpAnyH_take (i:=7) (v:= ?_) rfl (by kernel_rfl) (by kernel_rfl) (by kernel_rfl) (fun _ _ _ h=>h) (Or.inl ⟨by rfl,?_⟩) hHeld ?_
     rotate_left
     ·(intro w hSw;(try dsimp only at hSw);go_simp;try with_reducible rfl)
     try simp only [Act.put,List.setIfInBounds_toArray,List.set_cons_zero,List.set_cons_succ]
     refine wpAnyH_take (i:=8) (v:= ?_) rfl (by kernel_rfl) (by kernel_rfl) (by kernel_rfl) (fun _ _ _ h=>h) (Or.inl ⟨by rfl,?_⟩) hHeld ?_
     rotate_left
     ·(intro w hSw;(try dsimp only at hSw);go_simp;try with_reducible rfl)
     try simp only [Act.put,List.setIfInBounds_toArray,List.set_cons_zero,List.set_cons_succ]
     refine wpAnyH_take (i:=9) (v:= ?_) rfl (by kernel_rfl) (by kernel_rfl) (by kernel_rfl) (fun _ _ _ h=>h) (Or.inl ⟨by rfl,?_⟩) hHeld ?_
     rotate_left
     ·(intro w hSw;(try dsimp only at hSw);go_simp;try with_reducible rfl)
     try simp only [Act.put,List.setIfInBounds_toArray,List.set_cons_zero,List.set_cons_succ]
     clear hsb hq0 hq1 hq2 hq3
     refine wpAnyH_ready (rs:=[10]) (by kernel_rfl) (by simp) ?_
     refine AllReadyH.cons rfl (fun K hK=> ?_) AllReadyH.nil
     go_simp
     have Hd4:=Lib.hid ((heap_alloc_old wd (.cells #[.int .u8 cb.toNat] 5 (0,0)) hbd).trans Hd1.out)
     have Hd5:=Lib.hid (Hd2.out.alloc (.cells #[.int .u8 cb.toNat] 5 (0,0)))
     have Hd6:=Lib.hid (heap_alloc_new wd (.cells #[.int .u8 cb.toNat] 5 (0,0)))
     have hst4:=Lib.hid (hst3.out.alloc (fun x hx=>(Hd3.out x hx).1) (.cells #[.int .u8 cb.toNat] 5 (0,0)))
     have hz4:(wd.alloc (.cells #[.int .u8 cb.toNat] 5 (0,0))).heap.size=wd.heap.size+1:=by simp
     have hlo:=Hd2.out.lt
     refine hK.out _ _ ((Lib.cell_of_heap Hd4.out 1).trans rfl) (fun hHeld=> ?_)
     clear hK K
     try simp only [Act.put,List.setIfInBounds_toArray,List.set_cons_zero,List.set_cons_succ]
     generalize wd.alloc (.cells #[.int .u8 cb.toNat] 5 (0,0))=w4 at *
     refine wpAnyH_ready (rs:=[11]) (by kernel_rfl) (by simp) ?_
     refine AllReadyH.cons rfl (fun K hK=> ?_) AllReadyH.nil
     rw [if_pos (by rfl)]
     simp only [List.getElem_toArray,List.getElem_cons_succ,List.getElem_cons_zero]
     refine wp_appendK (K:=kByte) (e:=5) (B:=b+1) (E:=(·=b)) 22 (.int .u8 0) 1 Tryz.underlying22 info_byte rfl (by decide) (.tmp 51) (.tmp 57) ?_ L HL.out ?_ Hd5.out (fun x hx=>by have hx:x=b:=hx;omega) wd.heap.size cb [.int .u8 cb.toNat] ?_ ?_ ?_ rfl ?_ ?_ (by omega) (fun g c w5 hown hst5 hlt5 hne=> ?_)
     ·rfl
     ·rfl
     ·rfl
     ·intro q u hu
      match q,hu with
      | 0,hu=>simp at hu;subst hu;rw [Lib.cell_of_heap Hd6.out];rfl
      | q+1,hu=>simp at hu
     ·intro u hu;simp at hu;subst hu;rfl
     ·rw [HL.out];omega
     ·rw [HL.out];omega
     have hvb:Value.ownBlock (.slice va L vc)≠some b:=fun e=>Hd5.out.notE _ e rfl
     have Hb5:=Lib.hid ((hst5.block b ⟨by omega,hvb⟩).trans Hd4.out)
     have hst6:=Lib.hid (hst4.out.trans (hst5.imp (S':=S) (fun x hx=>⟨by have:=(Hd3.out x hx).1;omega,(Hd3.out x hx).2.2⟩)))
     have Hd8:Hid (∀ x,S x→x<w5.heap.size∧x≠b∧Value.ownBlock (.slice (some ⟨g,0,none⟩) (L+1) c)≠some x):=Lib.hid (fun x hx=>by
      obtain⟨a1,a2,a3⟩:=Hd3.out x hx
      exact⟨by have:=hst5.size;omega,a2,fun e=>hne x (by omega) a3 (by simpa [Value.ownBlock] using e.symm)⟩)
     have Hown:=Lib.hid hown
     refine hK.out _ _ ((Lib.cell_of_heap Hb5.out 1).trans rfl) (fun hHeld=> ?_)
     clear hK K
     try simp only [Act.put,List.setIfInBounds_toArray,List.set_cons_zero,List.set_cons_succ]
     refine wpAnyH_done (by kernel_rfl) ?_ _
     simp only [phaseQ]
     have hc5:w5.cell? ⟨b,1,none⟩=some (.slice va L vc):=by rw [Lib.cell_of_heap Hb5.out];rfl
     have fx5:w5.frozen? ⟨b,1,none⟩=false:=Lib.frozen_of_heap Hb5.out 1
     clear hHeld hown hst5 hne hc1 hc0 fx Hd3 Hd4 Hd5 Hd6 hst3 hst4 hvb
     go_wp2
     go_roundw
     case rel=>
      refine⟨j+1,by go_num,by omega,?_,hst6.out.setCell (p:=⟨b,1,none⟩) (fun hS=>(Hd8.out b hS).2.1 rfl) _⟩
      rw [Hds.out,← List.append_assoc]
      exact WB.put Hb5.out Hown.out Hd8.out
     case measure=>simp [intOf];omega
    ·have hje:(digitsL size n).take j=digitsL size n:=by rw [List.take_of_length_le (by rw [digitsL_len];omega)]
     have hd1:decide ((j:Int)<(size:Int))=false:=by rw [decide_eq_false_iff_not];omega
     have Hfin:Hid (WB b S wr (l++numsL size (ns.take (k+1)))):=Lib.hid (by have:=Hw2.out;rw [hje,List.append_assoc,← Hnt.out]at this;exact this)
     clear hje hc0
     go_wp2
     go_roundw
     case rel=>exact⟨k+1,by go_num,by omega,Hfin.out,Hst2.out⟩
     case measure=>simp [intOf];omega
  ·have Hall:Hid (ns.take k=ns):=Lib.hid (List.take_of_length_le (by omega))
   rw [Hall.out]at hw
   have Hw2:=Lib.hid hw
   clear hw hst
   go_wp2
   go_end0
   exact⟨rfl,Hw2.out,Hst.out⟩
end Go.Proofs.YtfchpchabdhcgaaGreat
namespace Go.Proofs.YtfchpchabdhcgaaGreat
open Go.RowKit
theorem WB.later {b:Nat} {S:Nat→Prop} {w w':World} {l:List UInt8} (h:WB b S w l) (hb:Below w.heap.size w w'):WB b (fun x=>S x∨(w.heap.size≤x∧x<w'.heap.size)) w' l:=by
 have hlt:=h.lt
 obtain⟨v,h1,h2,h3⟩:=h.ex
 refine⟨v,(hb.block b hlt).trans h1,h2.below hb,fun x hx=> ?_⟩
 rcases hx with hx | ⟨h4,h5⟩
 ·exact⟨Nat.lt_of_lt_of_le (h3 x hx).1 hb.size,(h3 x hx).2⟩
 ·exact⟨h5,by omega,fun e=>by have:=(h2.lt _ e).2;omega⟩
def convW (w:World) (p:List UInt8):World:=w.drew.alloc (.cells (bytesRow ⟨p.toArray⟩ (grownCap w p.length 0 5)) 5 ((bytesRow ⟨p.toArray⟩ (grownCap w p.length 0 5)).size,(bytesRow ⟨p.toArray⟩ (grownCap w p.length 0 5)).size+1))
theorem run_conv (w:World) (p:List UInt8):(Go.convert 9 22 (.string ⟨p.toArray⟩)).run Tryz.prog w=Result.ok (.slice (some ⟨w.heap.size,0,none⟩) p.length (grownCap w p.length 0 5)) (convW w p):=by
 have h:=run_bytes_of_string (P:=Tryz.prog) w 9 22 5 ⟨p.toArray⟩ Tryz.underlying9 Tryz.underlying22 Tryz.underlying5
 rw [size_mk]at h
 exact h
theorem convW_below (w:World) (p:List UInt8):Below w.heap.size w (convW w p):=((Below.refl _ w).drew).alloc (Nat.le_refl _) _
theorem convW_size (w:World) (p:List UInt8):(convW w p).heap.size=w.heap.size+1:=by unfold convW;rw [World.size_alloc];rfl
theorem convW_lb (w:World) (p:List UInt8) (hp:p.length≤9223372036854775807):LB kByte (fun x=>x=w.heap.size) (convW w p) (.slice (some ⟨w.heap.size,0,none⟩) p.length (grownCap w p.length 0 5)) p:=by
 refine⟨some ⟨w.heap.size,0,none⟩,w.heap.size,0,_,rfl,hp,fun _=>rfl,⟨grownCap_ge w _ 0 _,fun h=>by cases h⟩,fun _=>rfl,fun i x hx=>⟨_,rfl,fun j u hu=> ?_⟩⟩
 match j,hu with
 | 0,hu=>
  simp at hu;subst hu
  obtain⟨hi,rfl⟩:=List.getElem?_eq_some_iff.1 hx
  have hh:(convW w p).heap[w.heap.size]? =_:=heap_alloc_new w.drew _
  have e1:kByte.k=1:=rfl
  rw [e1]
  simp only [World.cell?,hh,Nat.zero_add,Nat.mul_one,Nat.add_zero]
  exact bytesRow_at ⟨p.toArray⟩ _ i (by simpa using hi)
 | j+1,hu=>simp at hu
theorem wraw_any (b:Nat) (S:Nat→Prop) (w:World) (l m:List UInt8) (u:Value) (h:WB b S w l) (hu:LB kByte S w u m) (hlen:l.length+m.length≤1000000000):
  Calls Tryz.prog 71 #[.pointer (some ⟨b,0,none⟩),u] w fun e w'=>e=.returned (.tuple #[])∧WB b S w' (l++m)∧Step S w w':=by
 obtain⟨ua,uc,rfl⟩:=hu.form
 have Hu:=Lib.hid hu
 have hc0:=h.sound
 have hbl:=h.lt
 obtain⟨v,hv1,hv2,hv3⟩:=h.ex
 have Hv1:=Lib.hid hv1
 have Hv2:=Lib.hid hv2
 have Hv3:=Lib.hid hv3
 have hc1:w.cell? ⟨b,1,none⟩=some v:=by rw [Lib.cell_of_heap hv1];rfl
 obtain⟨va,vc,rfl⟩:=hv2.form
 clear h hu hv1 hv2 hv3
 go_enter Tryz.func71,Tryz.ntmps71
 go_wp2_with fail
 refine(sound_any _ b 0 hc0).mono ?_
 rintro e w3 ⟨rfl,rfl⟩
 go_wp2_with (at_builtin;refine wpList_appendsK (B:=b+1) (E:=(·=b)) plain_byte 22 (.int .u8 0) 1 Tryz.underlying22 info_byte rfl rfl (.tmp 12) (.tmp 13) rfl rfl Hv2.out (fun x hx=>by have hx:x=b:=hx;omega) _ m rfl Hu.out ?c1 ?c2 (by omega) ?_)
 case c1=>omega
 case c2=>omega
 intro v' w4 hown hst hne
 obtain⟨va',vc',hvf⟩:=hown.form
 obtain⟨L,hL⟩:∃ L,(l++m).length=L:=⟨_,rfl⟩
 rw [hL]at hvf
 clear hL
 subst hvf
 have hvb:Value.ownBlock (.slice va l.length vc)≠some b:=fun e=>Hv2.out.notE _ e rfl
 have Hb4:=Lib.hid ((hst.block b ⟨hbl,hvb⟩).trans Hv1.out)
 have Hst:=Lib.hid (hst.imp (S':=S) (fun x hx=>⟨(Hv3.out x hx).1,(Hv3.out x hx).2.2⟩))
 have Hd8:Hid (∀ x,S x→x<w4.heap.size∧x≠b∧Value.ownBlock (.slice va' L vc')≠some x):=Lib.hid (fun x hx=>by
  obtain⟨a1,a2,a3⟩:=Hv3.out x hx
  exact⟨by have:=hst.size;omega,a2,hne x a1 a3⟩)
 have Hown:=Lib.hid hown
 have hc4:w4.cell? ⟨b,1,none⟩=some (.slice va l.length vc):=by rw [Lib.cell_of_heap Hb4.out];rfl
 have fx4:w4.frozen? ⟨b,1,none⟩=false:=Lib.frozen_of_heap Hb4.out 1
 clear hown hst hne hc0 hc1 hvb Hv2 Hv3 Hu
 go_wp2
 go_end0
 exact⟨rfl,WB.put Hb4.out Hown.out Hd8.out,Hst.out.setCell (p:=⟨b,1,none⟩) (fun hS=>(Hd8.out b hS).2.1 rfl) _⟩
end Go.Proofs.YtfchpchabdhcgaaGreat
namespace Go.Proofs.YtfchpchabdhcgaaGreat
open Go.RowKit
theorem Step.later {S:Nat→Prop} {w w':World} (h:Below w.heap.size w w') (hS:∀ x,S x→x<w.heap.size):Step S w w':=(Step.of_below h).imp hS
theorem built_ints (w:World) (ns:List Int) (hl:ns.length≤9223372036854775807):LB kInt (fun x=>x=w.heap.size) (w.alloc (.cells (ns.map (Value.int .i64)).toArray 3 (0,0))) (.slice (some ⟨w.heap.size,0,none⟩) ns.length ns.length) ns:=by
 refine⟨some ⟨w.heap.size,0,none⟩,w.heap.size,0,_,rfl,hl,fun _=>rfl,⟨Nat.le_refl _,fun h=>by cases h⟩,fun _=>rfl,fun i x hx=>⟨_,rfl,fun j u hu=> ?_⟩⟩
 match j,hu with
 | 0,hu=>
  simp at hu;subst hu
  rw [Lib.cell_of_heap (heap_alloc_new w _)]
  simp [kInt,hx]
 | j+1,hu=>simp at hu
theorem built_strs (w:World) (ss:List (List UInt8)) (hl:ss.length≤9223372036854775807) (hz:∀ s∈ss,s.length≤9223372036854775807):LB kStr (fun x=>x=w.heap.size) (w.alloc (.cells (ss.map (fun s=>Value.string ⟨s.toArray⟩)).toArray 9 (0,0))) (.slice (some ⟨w.heap.size,0,none⟩) ss.length ss.length) ss:=by
 refine⟨some ⟨w.heap.size,0,none⟩,w.heap.size,0,_,rfl,hl,fun _=>rfl,⟨Nat.le_refl _,fun h=>by cases h⟩,fun _=>rfl,fun i x hx=>⟨_,⟨rfl,hz x (List.mem_of_getElem? hx)⟩,fun j u hu=> ?_⟩⟩
 match j,hu with
 | 0,hu=>
  simp at hu;subst hu
  rw [Lib.cell_of_heap (heap_alloc_new w _)]
  simp [kStr,hx]
 | j+1,hu=>simp at hu
theorem textsL_take (ss:List (List UInt8)) (k:Nat) (s:List UInt8) (hs:ss[k]? =some s):textsL (ss.take (k+1))=textsL (ss.take k)++(digitsL 2 s.length++s):=by
 obtain⟨h,rfl⟩:=List.getElem?_eq_some_iff.1 hs
 rw [textsL,List.take_succ_eq_append_getElem h,List.map_append,List.flatten_append];simp [textsL,textL']
theorem textsL_len (ss:List (List UInt8)) (h:∀ s∈ss,s.length≤4096):(textsL ss).length≤4098*ss.length:=by
 induction ss with
 | nil=>simp [textsL]
 | cons s ss ih=>
  have e:textsL (s :: ss)=textL' s++textsL ss:=by simp [textsL]
  have h1:=ih (fun x hx=>h x (by simp [hx]))
  have h2:=h s (by simp)
  rw [e,List.length_append,List.length_cons,textL',List.length_append,digitsL_len]
  omega
theorem numsL_one (size:Nat) (n:Int):numsL size [n]=digitsL size n:=by simp [numsL]
theorem wtext_any (b:Nat) (S:Nat→Prop) (w:World) (l:List UInt8) (ss:List (List UInt8)) (u:Value) (h:WB b S w l) (hu:LB kStr S w u ss) (hf:∀ s∈ss,s.length≤4096) (hlen:l.length+4098*ss.length≤1000000000):
  Calls Tryz.prog 27 #[.pointer (some ⟨b,0,none⟩),u] w fun e w'=>e=.returned (.tuple #[])∧WB b S w' (l++textsL ss)∧Step S w w':=by
 obtain⟨ua,ub,uoff,ucap,rfl,hum,huc,hat⟩:=hu.at
 have Hat:=Lib.hid hat
 have Hf:=Lib.hid hf
 have H:=Lib.hid h
 have hbl:=h.lt
 clear hu hat hf h
 go_enter Tryz.func27,Tryz.ntmps27
 go_wp2_with fail
 go_loopw [8] (fun i wr=>∃ k:Nat,i=.int .i64 k∧k≤ss.length∧WB b S wr (l++textsL (ss.take k))∧Step S w wr) (fun i _=>ss.length-(intOf i).toNat)
 case atStart=>exact⟨0,rfl,Nat.zero_le _,by have:=H.out;simpa [textsL] using this,Step.refl _ _⟩
 case round=>
  obtain⟨k,rfl,hk,hw,hst⟩:=hrel
  have Hw:=Lib.hid hw
  have Hst:=Lib.hid hst
  have hbr:=hw.lt
  by_cases hlt:k<ss.length
  ·obtain rfl:=Hat.out.addr (by omega)
   obtain⟨p,hp⟩:∃ p,ss[k]? =some p:=⟨_,List.getElem?_eq_getElem hlt⟩
   obtain⟨g0,hpz⟩:=Hat.out.str1 k p hp
   have g:=(Hst.out.cell (p:=⟨ub,uoff+k,none⟩) (Hat.out.inS (by omega))).trans g0
   have hpl:=Hf.out p (List.mem_of_getElem? hp)
   have hsz:=size_mk p
   have Htt:=Lib.hid (textsL_take ss k p hp)
   have htl:=textsL_len (ss.take k) (fun s hs=>Hf.out s (List.mem_of_mem_take hs))
   rw [List.length_take,Nat.min_eq_left hk]at htl
   have hm:(p.length:Int).tmod 4097=(p.length:Int):=by rw [Int.tmod_eq_emod_of_nonneg (by omega)];omega
   have hng:¬ 4096<p.length:=by omega
   have hcv:=fun w=>run_conv w p
   have HWa:=Lib.hid (Hw.out.alloc (.cells #[.int .i64 (p.length:Int)] 3 (0,0)))
   have HUa:=Lib.hid ((built_ints wr [(p.length:Int)] (by simp)).imp (S':=fun x=>S x∨x=wr.heap.size) (fun x hx=>Or.inr hx))
   have HSa:=Lib.hid (Step.later ((Below.refl _ wr).alloc (Nat.le_refl _) (.cells #[.int .i64 (p.length:Int)] 3 (0,0))) (S:=S) (fun x hx=>Hw.out.inS hx))
   have HN:=Lib.hid (wnum_any b (fun x=>S x∨x=wr.heap.size) (wr.alloc (.cells #[.int .i64 (p.length:Int)] 3 (0,0))) _ 2 [(p.length:Int)] _ HWa.out HUa.out (by decide) (fun n hn=>by simp at hn;subst hn;exact okLen_N (by decide) (by unfold okLen;omega)) (fun n hn=>by simp at hn;subst hn;omega) (by simp only [List.length_append,List.length_cons,List.length_nil];omega))
   rw [numsL_one]at HN
   clear hp hw hst g0
   go_wp2_with fail
   refine HN.out.mono ?_
   rintro e w3 ⟨rfl,hw3,hs3⟩
   have Hw3:=Lib.hid (hw3.less (S':=S) (fun x hx=>Or.inl hx))
   have Hs3:=Lib.hid ((Hst.out.trans HSa.out).trans (hs3.imp (S':=S) (fun x hx=>Or.inl hx)))
   have hdl:=digitsL_len 2 (p.length:Int)
   have HR:=Lib.hid (wraw_any b (fun x=>S x∨(w3.heap.size≤x∧x<(convW w3 p).heap.size)) (convW w3 p) _ p _ (Hw3.out.later (convW_below w3 p)) ((convW_lb w3 p hpz).imp (fun x hx=>Or.inr (by have:=convW_size w3 p;subst hx;omega))) (by simp only [List.length_append];omega))
   clear hw3 hs3 HN HUa HWa
   go_wp2_with fail
   refine HR.out.mono ?_
   rintro e w4 ⟨rfl,hw4,hs4⟩
   have Hw4:=Lib.hid (hw4.less (S':=S) (fun x hx=>Or.inl hx))
   have Hs4:=Lib.hid ((Hs3.out.trans (Step.later (convW_below w3 p) (fun x hx=>Hw3.out.inS hx))).trans (hs4.imp (S':=S) (fun x hx=>Or.inl hx)))
   clear hw4 hs4 HR
   go_wp2
   go_roundw
   case rel=>exact⟨k+1,by go_num,by omega,by rw [Htt.out,← List.append_assoc,← List.append_assoc];exact Hw4.out,Hs4.out⟩
   case measure=>simp [intOf];omega
  ·have Hall:Hid (ss.take k=ss):=Lib.hid (List.take_of_length_le (by omega))
   rw [Hall.out]at hw
   have Hw2:=Lib.hid hw
   clear hw hst
   go_wp2
   go_end0
   exact⟨rfl,Hw2.out,Hst.out⟩
theorem wblock_any (b:Nat) (S:Nat→Prop) (w:World) (l m:List UInt8) (u:Value) (h:WB b S w l) (hu:LB kByte S w u m) (hm:m.length≤1048576) (hlen:l.length+4+m.length≤1000000000):
  Calls Tryz.prog 29 #[.pointer (some ⟨b,0,none⟩),u] w fun e w'=>e=.returned (.tuple #[])∧WB b S w' (l++blockL m)∧Step S w w':=by
 obtain⟨ua,uc,rfl⟩:=hu.form
 have hng:¬ 1048576<m.length:=by omega
 have HWa:=Lib.hid (h.alloc (.cells #[.int .i64 (m.length:Int)] 3 (0,0)))
 have HUa:=Lib.hid ((built_ints w [(m.length:Int)] (by simp)).imp (S':=fun x=>S x∨x=w.heap.size) (fun x hx=>Or.inr hx))
 have HSa:=Lib.hid (Step.later ((Below.refl _ w).alloc (Nat.le_refl _) (.cells #[.int .i64 (m.length:Int)] 3 (0,0))) (S:=S) (fun x hx=>h.inS hx))
 have HN:=Lib.hid (wnum_any b (fun x=>S x∨x=w.heap.size) (w.alloc (.cells #[.int .i64 (m.length:Int)] 3 (0,0))) _ 4 [(m.length:Int)] _ HWa.out HUa.out (by decide) (fun n hn=>by simp at hn;subst hn;exact okLen_N (by decide) (by unfold okLen;omega)) (fun n hn=>by simp at hn;subst hn;omega) (by simp only [List.length_cons,List.length_nil];omega))
 rw [numsL_one]at HN
 have hdl:=digitsL_len 4 (m.length:Int)
 have HU:=Lib.hid hu
 have hbl:=h.lt
 clear h hu
 go_enter Tryz.func29,Tryz.ntmps29
 go_wp2_with fail
 refine HN.out.mono ?_
 rintro e w3 ⟨rfl,hw3,hs3⟩
 have Hw3:=Lib.hid (hw3.less (S':=S) (fun x hx=>Or.inl hx))
 have Hs3:=Lib.hid (HSa.out.trans (hs3.imp (S':=S) (fun x hx=>Or.inl hx)))
 have HR:=Lib.hid (wraw_any b S w3 _ m _ Hw3.out (HU.out.step Hs3.out) (by simp only [List.length_append];omega))
 clear hw3 hs3 HN HUa HWa
 go_wp2_with fail
 refine HR.out.mono ?_
 rintro e w4 ⟨rfl,hw4,hs4⟩
 have Hw4:=Lib.hid hw4
 have Hs4:=Lib.hid (Hs3.out.trans hs4)
 clear hw4 hs4 HR
 go_wp2
 go_end0
 exact⟨rfl,by rw [blockL,← List.append_assoc];exact Hw4.out,Hs4.out⟩
theorem wnew_any (w:World):Calls Tryz.prog 26 #[] w fun e w'=>e=.returned (.pointer (some ⟨w.heap.size,0,none⟩))∧WB w.heap.size (·<w.heap.size) w' []∧Below w.heap.size w w'∧w'.heap.size=w.heap.size+1:=by
 have h0:=heap_alloc_new w (.cells #[.int .i64 0,.slice none 0 0] 120 (0,0))
 have B0:=(Below.refl w.heap.size w).alloc (Nat.le_refl _) (.cells #[.int .i64 0,.slice none 0 0] 120 (0,0))
 have hz:(w.alloc (.cells #[.int .i64 0,.slice none 0 0] 120 (0,0))).heap.size=w.heap.size+1:=by simp
 have Hf:Hid (WB w.heap.size (·<w.heap.size) (w.alloc (.cells #[.int .i64 0,.slice none 0 0] 120 (0,0))) []):=Lib.hid ⟨_,h0,OwnK.nil _ _ _ _ _,fun x hx=>⟨by rw [hz];have:x<w.heap.size:=hx;omega,by have:x<w.heap.size:=hx;omega,by simp [Value.ownBlock]⟩⟩
 have HB:=Lib.hid B0
 have HZ:=Lib.hid hz
 clear h0 B0 hz
 go_enter Tryz.func26,Tryz.ntmps26
 go_wp2
 go_ret
 exact⟨rfl,Hf.out,HB.out,HZ.out⟩
theorem wbytes_any (b:Nat) (S:Nat→Prop) (w:World) (l:List UInt8) (h:WB b S w l) (hlen:l.length≤1000000000):
  Calls Tryz.prog 31 #[.pointer (some ⟨b,0,none⟩)] w fun e w'=>∃ v,e=.returned (.tuple #[v,.int .i64 0])∧OwnK 5 kByte w.heap.size (fun _=>False) w' v l∧Below w.heap.size w w':=by
 have hc0:=h.sound
 have hbl:=h.lt
 obtain⟨v,hv1,hv2,hv3⟩:=h.ex
 have hc1:w.cell? ⟨b,1,none⟩=some v:=by rw [Lib.cell_of_heap hv1];rfl
 have Hlb:=Lib.hid hv2.lb
 obtain⟨va,vc,rfl⟩:=hv2.form
 clear h hv1 hv2 hv3
 go_enter Tryz.func31,Tryz.ntmps31
 go_wp2_with fail
 refine(sound_any _ b 0 hc0).mono ?_
 rintro e w3 ⟨rfl,rfl⟩
 go_wp2_with (at_builtin;refine wpList_appendsK (B:=w3.heap.size) (E:=fun _=>False) (l:=[]) plain_byte 22 (.int .u8 0) 1 Tryz.underlying22 info_byte rfl rfl (.const (.slice none 0 0)) (.tmp 17) rfl rfl (OwnK.nil _ _ _ _ _) (fun x hx=>hx.elim) _ l rfl Hlb.out ?c1 ?c2 (Nat.le_refl _) ?_)
 case c1=>simp;omega
 case c2=>simp;omega
 intro v' w4 hown hst hne
 have hb4:Below w3.heap.size w3 w4:=(hst.imp (S':=(·<w3.heap.size)) (fun x hx=>⟨hx,by simp [Value.ownBlock]⟩)).below
 have Hown:=Lib.hid hown
 have Hb4:=Lib.hid hb4
 clear hown hst hne hb4 hc0 hc1 Hlb
 go_wp2
 go_ret2
 exact⟨v',rfl,Hown.out,Hb4.out⟩
end Go.Proofs.YtfchpchabdhcgaaGreat
namespace Go.Proofs.YtfchpchabdhcgaaGreat
open Go.RowKit
theorem xgreatest_any (w:World) (n:Nat) (hn:n=1∨n=2∨n=4∨n=8):
  Calls Tryz.prog 106 #[.int .i64 (n:Int)] w fun e w'=>e=.returned (.int .i64 (if n=1 then 255 else if n=2 then 65535 else if n=4 then 4294967295 else 0))∧w'=w:=by
 rcases hn with rfl | rfl | rfl | rfl
 all_goals
  go_enter Tryz.func106,Tryz.ntmps106
  go_wp2
  go_ret
  exact⟨rfl,rfl⟩
theorem xsized_any (w:World) (n:Nat) (hn:n=1∨n=2∨n=4∨n=8):
  Calls Tryz.prog 87 #[.int .i64 (n:Int)] w fun e w'=>e=.returned (.bool true)∧w'=w:=by
 have HG:=Lib.hid (xgreatest_any w n hn)
 rcases hn with rfl | rfl | rfl | rfl
 case inr.inr.inr=>
  go_enter Tryz.func87,Tryz.ntmps87
  go_wp2
  go_ret
  exact⟨rfl,rfl⟩
 all_goals
  go_enter Tryz.func87,Tryz.ntmps87
  go_wp2_with fail
  refine HG.out.mono ?_
  rintro e w2 ⟨rfl,rfl⟩
  go_wp2
  go_ret
  exact⟨rfl,rfl⟩
theorem xfits_any (w:World) (n:Nat) (x:Int) (hn:n=1∨n=2∨n=4∨n=8) (hx:okN n x):
  Calls Tryz.prog 100 #[.int .i64 (n:Int),.int .i64 x] w fun e w'=>e=.returned (.bool true)∧w'=w:=by
 have p1:(256:Int) ^ 1=256:=by decide
 have p2:(256:Int) ^ 2=65536:=by decide
 have p4:(256:Int) ^ 4=4294967296:=by decide
 have HG:=Lib.hid (xgreatest_any w n hn)
 rcases hn with rfl | rfl | rfl | rfl
 case inr.inr.inr=>
  clear hx p1 p2 p4
  go_enter Tryz.func100,Tryz.ntmps100
  go_wp2
  go_ret
  exact⟨rfl,rfl⟩
 all_goals
  unfold okN at hx
  rw [if_neg (by decide)]at hx
  simp only [p1,p2,p4]at hx
  obtain⟨h0,h1⟩:=hx
  have hd:decide (0≤x)=true:=by rw [decide_eq_true_eq];exact h0
  clear p1 p2 p4
 ·have hq:decide (x≤255)=true:=by rw [decide_eq_true_eq];omega
  go_enter Tryz.func100,Tryz.ntmps100
  go_wp2_with fail
  refine HG.out.mono ?_
  rintro e w2 ⟨rfl,rfl⟩
  go_wp2
  go_ret
  exact⟨rfl,rfl⟩
 ·have hq:decide (x≤65535)=true:=by rw [decide_eq_true_eq];omega
  go_enter Tryz.func100,Tryz.ntmps100
  go_wp2_with fail
  refine HG.out.mono ?_
  rintro e w2 ⟨rfl,rfl⟩
  go_wp2
  go_ret
  exact⟨rfl,rfl⟩
 ·have hq:decide (x≤4294967295)=true:=by rw [decide_eq_true_eq];omega
  go_enter Tryz.func100,Tryz.ntmps100
  go_wp2_with fail
  refine HG.out.mono ?_
  rintro e w2 ⟨rfl,rfl⟩
  go_wp2
  go_ret
  exact⟨rfl,rfl⟩
theorem u64_start (n:Int):IntKind.u64.wrap n=(((n%18446744073709551616).toNat/256 ^ 0:Nat):Int):=by
 rw [show IntKind.u64.wrap n=n%18446744073709551616 from by simp [IntKind.wrap,IntKind.bits,IntKind.signed],Nat.pow_zero,Nat.div_one]
 omega
theorem u64_next (M j:Nat):((M/256 ^ j:Nat):Int)/256=((M/256 ^ (j+1):Nat):Int):=by
 rw [Nat.pow_succ,← Nat.div_div_eq_div_mul]
 generalize M/256 ^ j=m
 omega
theorem u64_byte (m:Nat):((m:Int)%256)=((UInt8.ofNat m).toNat:Int):=by simp
theorem xdigits_any (w:World) (size:Nat) (n:Int) (hs:size=1∨size=2∨size=4∨size=8):
  Calls Tryz.prog 99 #[.int .i64 (size:Int),.int .i64 n] w fun e w'=>∃ r,e=.returned r∧OwnK 5 kByte w.heap.size (fun _=>False) w' r (digitsL size n)∧Below w.heap.size w w':=by
 have hs8:1≤size∧size≤8:=by omega
 clear hs
 go_enter Tryz.func99,Tryz.ntmps99
 go_wp2_with fail
 go_loopw [5,6,7] (fun o u i wr=>∃ j:Nat,i=.int .i64 j∧j≤size∧u=.int .u64 (((n%18446744073709551616).toNat/256 ^ j:Nat):Int)∧OwnK 5 kByte w.heap.size (fun _=>False) wr o ((digitsL size n).take j)∧Below w.heap.size w wr) (fun _ _ i _=>size-(intOf i).toNat)
 case atStart=>exact⟨0,rfl,Nat.zero_le _,by rw [u64_start],by exact OwnK.nil _ _ _ _ _,Below.refl _ _⟩
 case round=>
  obtain⟨j,rfl,hj,rfl,hown,hbel⟩:=hrel
  have hBr:=hbel.size
  have Hown:=Lib.hid hown
  have Hbel:=Lib.hid hbel
  by_cases hlt:j<size
  ·have Hds:=Lib.hid (digitsL_succ size n j hlt)
   have Hn:=Lib.hid (u64_next (n%18446744073709551616).toNat j)
   have hm:(n%18446744073709551616).toNat/256 ^ j<18446744073709551616:=Nat.lt_of_le_of_lt (Nat.div_le_self _ _) (by omega)
   obtain⟨m2,hm2⟩:∃ m2,(n%18446744073709551616).toNat/256 ^ (j+1)=m2:=⟨_,rfl⟩
   have Hm2:=Lib.hid hm2
   rw [hm2]at Hn
   clear hm2
   generalize (n%18446744073709551616).toNat/256 ^ j=m at *
   have hb:=u64_byte m
   have hn:=Hn.out
   obtain⟨cb,hcb⟩:∃ cb,UInt8.ofNat m=cb:=⟨_,rfl⟩
   rw [hcb]at Hds hb
   clear hcb Hn
   have hdl:((digitsL size n).take j).length=j:=by rw [List.length_take,digitsL_len];omega
   obtain⟨oa,oc,rfl⟩:=hown.form
   rw [hdl]
   rw [hdl]at Hown
   have Hdl:=Lib.hid hdl
   clear hown hbel hdl
   go_wp2_with (at_builtin;refine wpList_appendK (α:=UInt8) (K:=kByte) (e:=5) (B:=w.heap.size) (E:=fun _=>False) 22 (.int .u8 0) 1 Tryz.underlying22 info_byte rfl (by decide) rfl (.tmp 15) (.tmp 19) rfl j Hdl.out rfl (Hown.out.alloc _) (fun _ h=>h.elim) wr.heap.size cb [.int .u8 cb.toNat] rfl ?c1 ?c2 rfl ?c3 ?c4 ?c5 ?_)
   case c1=>
    intro j u hu
    match j,hu with
    | 0,hu=>simp at hu;subst hu;rw [Lib.cell_of_heap (heap_alloc_new wr _)];rfl
    | j+1,hu=>simp at hu
   case c2=>intro u hu;simp at hu;subst hu;rfl
   case c3=>rw [Hdl.out];omega
   case c4=>rw [Hdl.out];omega
   case c5=>simp;omega
   intro g c w3 hown3 hst3 _
   have Hown3:=Lib.hid hown3
   have hlo:=(Hown.out.alloc (.cells #[.int .u8 cb.toNat] 5 (0,0))).lt
   have B3:=Lib.hid (((Hbel.out.alloc (by omega) (.cells #[.int .u8 cb.toNat] 5 (0,0))).trans (hst3.imp (S':=(·<w.heap.size)) (fun b hb=>⟨by have h1:b<w.heap.size:=hb;omega,fun e=>by have:=(hlo b e).1;have h1:b<w.heap.size:=hb;omega⟩)).below))
   clear hown3 hst3 hlo Hown
   go_wp2
   go_roundw
   case rel=>exact⟨j+1,by go_num,by omega,by rw [Hm2.out],by rw [Hds.out];exact Hown3.out,B3.out⟩
   case measure=>simp [intOf];omega
  ·have he:j=size:=by omega
   subst he
   have Ht:Hid ((digitsL j n).take j=digitsL j n):=Lib.hid (List.take_of_length_le (by rw [digitsL_len];omega))
   rw [Ht.out]at hown
   have Ho:=Lib.hid hown
   clear hown hbel Hown
   go_wp2
   go_ret
   exact⟨_,rfl,Ho.out,Hbel.out⟩
end Go.Proofs.YtfchpchabdhcgaaGreat
namespace Go.Proofs.YtfchpchabdhcgaaGreat
open Go
def opN:List Oper→Nat→Oper
 | [],_=>{dst:=none,op:=.assign (.const undef),type:=0,pos:= "",after:=#[],guard:=none }
 | o :: _,0=>o
 | _ :: l,n+1=>opN l n
theorem opN_zero (o:Oper) (l:List Oper):opN (o :: l) 0=o:=rfl
theorem opN_succ (o:Oper) (l:List Oper) (n:Nat):opN (o :: l) (n+1)=opN l n:=rfl
theorem opN_get:∀ (l:List Oper) (n:Nat),n<l.length→l[n]? =some (opN l n)
 | [],n,h=>absurd h (by simp)
 | _ :: _,0,_=>rfl
 | _ :: l,n+1,h=>by rw [List.getElem?_cons_succ];exact opN_get l n (by simpa using h)
def takesB (md:Region.Mode) (ops:Array Oper):List Nat→Array Bool→Bool
 | [],_=>true
 | i :: is,l=>decide (i<ops.size)&&Region.free md ops l i&&(Region.ready md ops l).contains i&&takesB md ops is (l.setIfInBounds i true)
def takesL:List Nat→Array Bool→Array Bool
 | [],l=>l
 | i :: is,l=>takesL is (l.setIfInBounds i true)
def Takes (P:Program) (ops:Array Oper) (S:World→Prop) (G:Act→Prop):List Nat→Act→Prop
 | [],a=>G a
 | i :: is,a=>∃ v,YieldsIf P ops S (opN ops.toList i) v a∧Takes P ops S G is (a.put (opN ops.toList i).dst v)
theorem wpAnyH_takes {P:Program} {ops:Array Oper} {Q:Exit→Act→World→Prop} {md:Region.Mode} {S:World→Prop} (hs:Region.noSelect ops=true) (hQ:∀ c n v a w,Q (.panic c) (Act.put a (some n) v) w→Q (.panic c) a w) {w:World} (hS:S w):
  ∀ (is:List Nat) (fuel:Nat) (listed:Array Bool) (a:Act),takesB md ops is listed=true→Takes P ops S (fun a=>wpAnyH P md ops Q S fuel (takesL is listed) a w) is a→wpAnyH P md ops Q S (fuel+is.length) listed a w
 | [],_,_,_,_,h=>h
 | i :: is,fuel,listed,a,hb,h=>by
  simp only [takesB,Bool.and_eq_true,decide_eq_true_eq]at hb
  obtain⟨v,hy,h⟩:=h
  have hi:ops[i]? =some (opN ops.toList i):=by
   have:=opN_get ops.toList i (by simpa using hb.1.1.1)
   simpa using this
  exact wpAnyH_take hi hs hb.1.1.2 hb.1.2 (fun c a w h=>by
   revert h
   cases (opN ops.toList i).dst with
   | none=>exact fun h=>h
   | some n=>exact fun h=>hQ c n v a w h) hy hS (wpAnyH_takes hs hQ hS is fuel (listed.setIfInBounds i true) (a.put (opN ops.toList i).dst v) hb.2 h)
theorem wpAnyH_reads {P:Program} {ops:Array Oper} {Q:Exit→Act→World→Prop} {md:Region.Mode} {S:World→Prop} (is:List Nat) {fuel f':Nat} {listed l':Array Bool} {a:Act} {w:World} (hS:S w) (hQ:∀ c n v a w,Q (.panic c) (Act.put a (some n) v) w→Q (.panic c) a w)
  (hb:(Region.noSelect ops&&takesB md ops is listed)=true) (hf:f'+is.length=fuel) (hl:takesL is listed=l') (h:Takes P ops S (fun a=>wpAnyH P md ops Q S f' l' a w) is a):wpAnyH P md ops Q S fuel listed a w:=by
 simp only [Bool.and_eq_true]at hb
 subst hf hl
 exact wpAnyH_takes hb.1 hQ hS is f' listed a hb.2 h
end Go.Proofs.YtfchpchabdhcgaaGreat
namespace Go.Proofs.YtfchpchabdhcgaaGreat
open Go.RowKit
section
variable {α : Type} {e : TypeId} {K : Kind α} {f : α → Value} {B : Nat} {E : Nat → Prop} {w w' : World} {v : Value} {l : List α}
theorem wp_appendsK {o:Oper} {a:Act} {C:Act→World→Prop} {Q:Exit→Act→World→Prop} (hp:Plain K f) (t:TypeId) (z:Value) (bytes:Nat) (ht:Tryz.prog.underlying t=some (.slice e)) (hinfo:(Tryz.prog.info? e).map (fun i=>(i.zero,i.size,i.bytes))=some (some z,1,bytes))
  (hzs:z.cells.size=1) (s x:Operand)
  (ho:o.op=.call {callee:=.builtin .append,args:=#[s,x],argTypes:=#[t,t]})
  (hs:a.eval s=v) (hown:OwnK e K B E w v l) (hE:∀ b,E b→b<w.heap.size) {S:Nat→Prop} (u:Value) (m:List α) (hx:a.eval x=u) (hu:LB K S w u m)
  (hlen:(l.length+m.length)*bytes≤140737488355328) (hl63:l.length+m.length≤9223372036854775807) (hB:B≤w.heap.size)
  (h:∀ v' w',OwnK e K B E w' v' (l++m)→Step (fun b=>b<w.heap.size∧v.ownBlock≠some b) w w'→(∀ b,b<w.heap.size→v.ownBlock≠some b→v'.ownBlock≠some b)→C (a.put o.dst v') w'):o.wp Tryz.prog a w C Q:=by
 obtain⟨i0,hi,hz0,hz1,hz2⟩:=info_parts hinfo
 have h1:=hown.plain_row hp
 obtain⟨ua,ub,uoff,ucap,hv,hm,ha,hcap,hS,hc⟩:=hu
 cases ua with
 | none=>
  have hm0:m=[]:=by
   cases m with
   | nil=>rfl
   | cons y m=>exact absurd (ha (by simp)) (by simp)
  subst hm0
  have hc0:=hcap.2 rfl
  subst hc0
  have hxx:a.eval x=.slice none 0 0:=hx.trans hv
  have hrun:=run_append_owned_none (P:=Tryz.prog) (w:=w) B t o.type e i0 1 ht hi v l.length (l.map f) h1
  unfold Oper.wp
  simp [execOp,ho,resolve,invoke,builtin,hs,hxx,hrun,Result.andThen]
  exact h v w (by rw [List.append_nil];exact hown) (Step.refl _ _) (fun b _ h=>h)
 | some ad=>
  have hxx:a.eval x=.slice (some ad) m.length ucap:=hx.trans hv
  have hcl:∀ j u,(m.map f)[j]? =some u→w.cell? (ad.add j)=some u:=by
   intro j u hj
   rw [List.getElem?_map]at hj
   cases hmj:m[j]? with
   | none=>rw [hmj]at hj;cases hj
   | some y=>
    rw [hmj]at hj
    have hu:f y=u:=by simpa using hj
    subst hu
    have hml:0<m.length:=by have:=(List.getElem?_eq_some_iff.1 hmj).1;omega
    obtain rfl:ad=⟨ub,uoff,none⟩:=by have:=ha hml;simpa using this
    obtain⟨row,r1,r2⟩:=hc j y hmj
    have:=hp.into r1
    subst this
    have:=r2 0 (f y) rfl
    rw [hp.one]at this
    simpa [Addr.add_lit] using this
  have hone:∀ u∈m.map f,u.oneCell'=true:=by
   intro u hu
   simp only [List.mem_map]at hu
   obtain⟨y,_,rfl⟩:=hu
   exact hp.cell y
  obtain⟨v',w',hr,g1,g2,_,g4⟩:=run_append_own_at (P:=Tryz.prog) w B t o.type e i0 z 1 bytes ht hi hz0 hz1 hz2 hzs (by decide) v l.length (l.map f) h1 ad m.length ucap (m.map f) (by simp) hcl hone (by unfold maxLen;omega) hlen hB
  have hlt:=World.ownsRow.lt h1
  have hst:Step (fun b=>b<w.heap.size∧v.ownBlock≠some b) w w':=Step.of_grown g2 (fun b hb=>⟨hb.1,hb.2⟩)
  have hfin:=h v' w' (.of_plain hp (by rw [List.length_append,List.map_append];exact g1) (by
    intro g hg hEg
    rcases g4 with h' | h'
    ·exact hown.notE g (by rw [← h'];exact hg) hEg
    ·have:g=w.heap.size:=by rw [h']at hg;exact(Option.some.inj hg).symm
     have:=hE _ hEg;omega)) hst (by
    intro b hb hne e
    rcases g4 with h' | h'
    ·exact hne (by rw [← h'];exact e)
    ·have:b=w.heap.size:=by rw [h']at e;exact(Option.some.inj e).symm
     omega)
  unfold Oper.wp execOp
  simp only [ho,resolve,invoke,builtin,Sem.run_bind,Sem.run_pure,Result.andThen_ok,List.map_toArray,List.map_cons,List.map_nil,hs,hxx,hr]
  exact hfin
end
theorem append_str_at {w w':World} {B:Nat} {t u ty e:TypeId} {i:TypeInfo} (ht:Tryz.prog.underlying t=some (.slice e)) (hu:Tryz.prog.underlying u=some .string) (hi:Tryz.prog.info? e=some i) (hz:i.zero=some (.int .u8 0)) (hsize:i.size=1) (hby:i.bytes=1)
  {v v':Value} {n:Nat} {xs:List Value} (hown:w.ownsRow B e 1 v n xs) {s:ByteArray} (hbytes:n+s.size≤140737488355328)
  (hr:(Builtin.append_ #[t,u] ty #[v,.string s]).run Tryz.prog w=.ok v' w') (hnil:v'=.slice none 0 0↔v=.slice none 0 0∧s.size=0):v'.ownBlock=v.ownBlock∨v'.ownBlock=some w.heap.size:=by
 have hxl:xs.length=n:=by simpa using hown.1
 rcases hown.2 with ⟨rfl,rfl⟩ | ⟨g,cap,cur,rfl,hbg,hg,hnc,hcm,hcs,htake⟩
 ·by_cases hm:s.size=0
  ·rw [hnil.2 ⟨rfl,hm⟩];exact Or.inl rfl
  ·have h2:=run_append_nil_string (P:=Tryz.prog) w t u ty e i (.int .u8 0) ht hu hi hz s (by omega) (by omega) (by rw [hby];omega)
   rw [hr]at h2
   cases h2
   exact Or.inr rfl
 ·have hcs':cur.size=cap:=by simpa using hcs
  by_cases hroom:n+s.size≤cap
  ·have h2:=Lib.run_append_room_string (P:=Tryz.prog) w t u ty e i ht hu hi hsize g n cap cur hg s hroom (by omega)
   rw [hr]at h2
   cases h2
   exact Or.inl rfl
  ·have holds:∀ j u,xs[j]? =some u→w.cell? ((⟨g,0,none⟩:Addr).add j)=some u:=hown.cells (g:=g) rfl
   have h2:=Lib.run_append_grow_string (P:=Tryz.prog) w t u ty e i (.int .u8 0) ht hu hi hz ⟨g,0,none⟩ n cap xs (by rw [hsize];simpa using hxl) holds s (by omega) (by omega) (by rw [hby];exact growslice_fits (by omega) (by omega))
   rw [hr]at h2
   cases h2
   exact Or.inr rfl
section
variable {B : Nat} {E : Nat → Prop} {w w' : World} {v : Value} {l : List UInt8}
theorem wp_appendStrK {o:Oper} {a:Act} {C:Act→World→Prop} {Q:Exit→Act→World→Prop} (s x:Operand)
  (ho:o.op=.call {callee:=.builtin .append,args:=#[s,x],argTypes:=#[22,9]})
  (hs:a.eval s=v) (hown:OwnK 5 kByte B E w v l) (hE:∀ b,E b→b<w.heap.size) (m:List UInt8) (hx:a.eval x=.string ⟨m.toArray⟩)
  (hlen:l.length+m.length≤140737488355328) (hB:B≤w.heap.size)
  (h:∀ v' w',OwnK 5 kByte B E w' v' (l++m)→Step (fun b=>b<w.heap.size∧v.ownBlock≠some b) w w'→(∀ b,b<w.heap.size→v.ownBlock≠some b→v'.ownBlock≠some b)→C (a.put o.dst v') w'):o.wp Tryz.prog a w C Q:=by
 obtain⟨i0,hi,hz0,hz1,hz2⟩:=info_parts info_byte
 have h1:=hown.plain_row plain_byte
 have hsz:=size_mk m
 obtain⟨v',w',hr,g1,g2,g3⟩:=Lib.run_append_own_string (P:=Tryz.prog) w B 22 9 o.type 5 i0 Tryz.underlying22 Tryz.underlying9 hi hz0 hz1 hz2 v l.length _ h1 ⟨m.toArray⟩ (by unfold maxLen;omega) (by omega) hB
 have g4:=append_str_at Tryz.underlying22 Tryz.underlying9 hi hz0 hz1 hz2 h1 (by omega) hr g3
 have hst:Step (fun b=>b<w.heap.size∧v.ownBlock≠some b) w w':=Step.of_grown g2 (fun b hb=>⟨hb.1,hb.2⟩)
 have e1:Lib.strCells ⟨m.toArray⟩=m.map (fun x:UInt8=>Value.int .u8 x.toNat):=by simp [Lib.strCells]
 rw [hsz,e1]at g1
 have hfin:=h v' w' (.of_plain plain_byte (by rw [List.length_append,List.map_append];exact g1) (by
   intro g hg hEg
   rcases g4 with h' | h'
   ·exact hown.notE g (by rw [← h'];exact hg) hEg
   ·have:g=w.heap.size:=by rw [h']at hg;exact(Option.some.inj hg).symm
    have:=hE _ hEg;omega)) hst (by
   intro b hb hne e
   rcases g4 with h' | h'
   ·exact hne (by rw [← h'];exact e)
   ·have:b=w.heap.size:=by rw [h']at e;exact(Option.some.inj e).symm
    omega)
 unfold Oper.wp execOp
 simp only [ho,resolve,invoke,builtin,Sem.run_bind,Sem.run_pure,Result.andThen_ok,List.map_toArray,List.map_cons,List.map_nil,hs,hx,hr]
 exact hfin
end
structure WJ (b:Nat) (S:Nat→Prop) (w:World) (l:List UInt8):Prop where
 ex:∃ v,w.heap[b]? =some (.cells #[v,.int .i64 0] 109 (0,0))∧OwnK 5 kByte (b+1) (·=b) w v l∧∀ x,S x→x<w.heap.size∧x≠b∧v.ownBlock≠some x
section
variable {b : Nat} {S S' : Nat → Prop} {w w' : World} {l : List UInt8}
theorem WJ.lt (h:WJ b S w l):b<w.heap.size:=by
 obtain⟨v,h1,_⟩:=h.ex
 rcases Nat.lt_or_ge b w.heap.size with h' | h'
 ·exact h'
 ·rw [Array.getElem?_eq_none h']at h1;cases h1
theorem WJ.less (h:WJ b S w l) (hi:∀ x,S' x→S x):WJ b S' w l:=by
 obtain⟨v,h1,h2,h3⟩:=h.ex
 exact⟨v,h1,h2,fun x hx=>h3 x (hi x hx)⟩
theorem WJ.below (h:WJ b S w l) (hb:Below w.heap.size w w'):WJ b S w' l:=by
 have hlt:=h.lt
 obtain⟨v,h1,h2,h3⟩:=h.ex
 exact⟨v,(hb.block b hlt).trans h1,h2.below hb,fun x hx=>⟨Nat.lt_of_lt_of_le (h3 x hx).1 hb.size,(h3 x hx).2⟩⟩
theorem WJ.alloc (h:WJ b S w l) (o:Obj):WJ b (fun x=>S x∨x=w.heap.size) (w.alloc o) l:=by
 have hlt:=h.lt
 obtain⟨v,h1,h2,h3⟩:=h.ex
 refine⟨v,(heap_alloc_old w o hlt).trans h1,h2.alloc o,fun x hx=> ?_⟩
 rcases hx with hx | rfl
 ·exact⟨by have:=(h3 x hx).1;rw [World.size_alloc];omega,(h3 x hx).2⟩
 ·exact⟨by simp,by omega,fun e=>by have:=(h2.lt _ e).2;omega⟩
theorem WJ.inS (h:WJ b S w l) {x:Nat} (hx:S x):x<w.heap.size:=by
 obtain⟨v,_,_,h3⟩:=h.ex
 exact(h3 x hx).1
theorem WJ.put {v v':Value} (h1:w.heap[b]? =some (.cells #[v,.int .i64 0] 109 (0,0))) (h2:OwnK 5 kByte (b+1) (·=b) w v' l) (h3:∀ x,S x→x<w.heap.size∧x≠b∧v'.ownBlock≠some x):WJ b S (w.setCell ⟨b,0,none⟩ v') l:=by
 refine⟨v',by simp [World.setCell,Array.getElem?_modify,h1],h2.step ((Step.refl (fun x=>x≠b) w).setCell (p:=⟨b,0,none⟩) (by simp) v') (fun x _ h=>h),fun x hx=> ?_⟩
 obtain⟨a1,a2⟩:=h3 x hx
 exact⟨by rw [World.size_setCell];exact a1,a2⟩
theorem WJ.sound (h:WJ b S w l):w.cell? ⟨b,1,none⟩=some (.int .i64 0):=by
 obtain⟨v,h1,_⟩:=h.ex
 rw [Lib.cell_of_heap h1];rfl
end
theorem xnum_any (b:Nat) (S:Nat→Prop) (w:World) (l:List UInt8) (size:Nat) (ns:List Int) (u:Value) (h:WJ b S w l) (hu:LB kInt S w u ns) (hs:size=1∨size=2∨size=4∨size=8)
  (hf:∀ n∈ns,okN size n) (hr:∀ n∈ns,-9223372036854775808≤n∧n≤9223372036854775807) (hlen:l.length+size*ns.length≤1000000000):
  Calls Tryz.prog 60 #[.pointer (some ⟨b,0,none⟩),.int .i64 (size:Int),u] w fun e w'=>e=.returned (.tuple #[])∧WJ b S w' (l++numsL size ns)∧Step S w w':=by
 obtain⟨ua,ub,uoff,ucap,rfl,hum,huc,hat⟩:=hu.at
 have Hat:=Lib.hid hat
 have Hf:=Lib.hid hf
 have Hr:=Lib.hid hr
 have H:=Lib.hid h
 have HS:=Lib.hid (fun w=>xsized_any w size hs)
 have HF:=Lib.hid (fun w x hx=>xfits_any w size x hs hx)
 have HDg:=Lib.hid (fun w n=>xdigits_any w size n hs)
 have hs8:1≤size∧size≤8:=by omega
 have hc1:=h.sound
 have hbl:=h.lt
 clear hu hat hf hr h hs
 go_enter Tryz.func60,Tryz.ntmps60
 go_wp2_with fail
 refine(HS.out _).mono ?_
 rintro e w0 ⟨rfl,rfl⟩
 clear hc1
 go_wp2_with fail
 go_loopw [6] (fun i wr=>∃ k:Nat,i=.int .i64 k∧k≤ns.length∧WJ b S wr (l++numsL size (ns.take k))∧Step S w0 wr) (fun i _=>ns.length-(intOf i).toNat)
 case atStart=>exact⟨0,rfl,Nat.zero_le _,by simpa [numsL] using H.out,Step.refl _ _⟩
 case round=>
  obtain⟨k,rfl,hk,hw,hst⟩:=hrel
  have Hst:=Lib.hid hst
  have hc1:=hw.sound
  have hbr:=hw.lt
  by_cases hlt:k<ns.length
  ·obtain rfl:=Hat.out.addr (by omega)
   obtain⟨n,hn⟩:∃ n,ns[k]? =some n:=⟨_,List.getElem?_eq_getElem hlt⟩
   have huS:=Hat.out.inS (by omega)
   have g:=(Hst.out.cell (p:=⟨ub,uoff+k,none⟩) huS).trans (Hat.out.int1 k n hn)
   have hsb:=World.block_lt_of_cell? _ _ g
   have hfn:=Hf.out n (List.mem_of_getElem? hn)
   have hrn:=Hr.out n (List.mem_of_getElem? hn)
   have Hnt:=Lib.hid (numsL_take size ns k n hn)
   have hkl:=numsL_len size (ns.take k)
   rw [List.length_take,Nat.min_eq_left hk]at hkl
   have hmul:size*k+size≤size*ns.length:=by rw [← Nat.mul_succ];exact Nat.mul_le_mul_left _ hlt
   have HFn:=Lib.hid (fun w=>HF.out w n hfn)
   have hdl:=digitsL_len size n
   obtain⟨v,hv1,hv2,hv3⟩:=hw.ex
   have Hv1:=Lib.hid hv1
   have Hv2:=Lib.hid hv2
   have Hv3:=Lib.hid hv3
   have hc0:wr.cell? ⟨b,0,none⟩=some v:=by rw [Lib.cell_of_heap hv1];rfl
   obtain⟨va,vc,hvf⟩:=hv2.form
   obtain⟨L,hL⟩:∃ L,(l++numsL size (ns.take k)).length=L:=⟨_,rfl⟩
   have HL:=Lib.hid hL
   rw [hL]at hvf
   subst hvf
   have hLb:L≤1000000000-size:=by rw [← hL];simp only [List.length_append];omega
   clear hn hw hst hfn hv1 hv2 hv3 hL hkl hmul
   go_wp2_with fail
   refine(HFn.out _).mono ?_
   rintro e w3 ⟨rfl,rfl⟩
   clear hc1
   go_wp2_with fail
   have fx:w3.frozen? ⟨b,0,none⟩=false:=Lib.frozen_of_heap Hv1.out 0
   refine wp_region_phase 12 (by kernel_rfl) (by kernel_rfl) ?_
   simp only [List.take_succ_cons,List.take_zero,List.drop_succ_cons,List.drop_zero,List.take_nil,List.drop_nil]
   refine wpAny_of_held (S:=fun w'=>w'.cell? ⟨b,0,none⟩=some (.slice va L vc)∧w'.cell? ⟨ub,uoff+k,none⟩=some (.int .i64 n)) _ _ _ _ ?_
   have hHeld:(fun w':World=>w'.cell? ⟨b,0,none⟩=some (.slice va L vc)∧w'.cell? ⟨ub,uoff+k,none⟩=some (.int .i64 n)) w3.drew:=⟨hc0,g⟩
   show wpAnyH _ _ _ _ _ _ _ _ (World.drew _)
   have Hd2:=Lib.hid Hv2.out.drew
   have Hd1:Hid (w3.drew.heap[b]? =_):=Lib.hid Hv1.out
   have Hd3:Hid (∀ x,S x→x<w3.drew.heap.size∧x≠b∧Value.ownBlock (.slice va L vc)≠some x):=Lib.hid Hv3.out
   have hst3:=Lib.hid Hst.out.drew
   have hbd:b<w3.drew.heap.size:=hbr
   have hsbd:ub<w3.drew.heap.size:=hsb
   generalize w3.drew=wd at *
   refine wpAnyH_take (i:=0) (v:= ?_) rfl (by kernel_rfl) (by kernel_rfl) (by kernel_rfl) (fun _ _ _ h=>h) (Or.inl ⟨by rfl,?_⟩) hHeld ?_
   rotate_left
   ·(intro w hSw;(try dsimp only at hSw);go_simp;try with_reducible rfl)
   simp only [List.getElem_toArray,List.getElem_cons_zero,List.getElem_cons_succ,Act.put,List.setIfInBounds_toArray,List.set_cons_zero,List.set_cons_succ]
   refine wpAnyH_take (i:=1) (v:= ?_) rfl (by kernel_rfl) (by kernel_rfl) (by kernel_rfl) (fun _ _ _ h=>h) (Or.inl ⟨by rfl,?_⟩) hHeld ?_
   rotate_left
   ·(intro w hSw;(try dsimp only at hSw);go_simp;try with_reducible rfl)
   simp only [List.getElem_toArray,List.getElem_cons_zero,List.getElem_cons_succ,Act.put,List.setIfInBounds_toArray,List.set_cons_zero,List.set_cons_succ]
   refine wpAnyH_take (i:=2) (v:= ?_) rfl (by kernel_rfl) (by kernel_rfl) (by kernel_rfl) (fun _ _ _ h=>h) (Or.inl ⟨by rfl,?_⟩) hHeld ?_
   rotate_left
   ·(intro w hSw;(try dsimp only at hSw);go_simp;try with_reducible rfl)
   simp only [List.getElem_toArray,List.getElem_cons_zero,List.getElem_cons_succ,Act.put,List.setIfInBounds_toArray,List.set_cons_zero,List.set_cons_succ]
   refine wpAnyH_take (i:=3) (v:= ?_) rfl (by kernel_rfl) (by kernel_rfl) (by kernel_rfl) (fun _ _ _ h=>h) (Or.inl ⟨by rfl,?_⟩) hHeld ?_
   rotate_left
   ·(intro w hSw;(try dsimp only at hSw);go_simp;try with_reducible rfl)
   simp only [List.getElem_toArray,List.getElem_cons_zero,List.getElem_cons_succ,Act.put,List.setIfInBounds_toArray,List.set_cons_zero,List.set_cons_succ]
   refine wpAnyH_take (i:=4) (v:= ?_) rfl (by kernel_rfl) (by kernel_rfl) (by kernel_rfl) (fun _ _ _ h=>h) (Or.inl ⟨by rfl,?_⟩) hHeld ?_
   rotate_left
   ·(intro w hSw;(try dsimp only at hSw);go_simp;try with_reducible rfl)
   simp only [List.getElem_toArray,List.getElem_cons_zero,List.getElem_cons_succ,Act.put,List.setIfInBounds_toArray,List.set_cons_zero,List.set_cons_succ]
   refine wpAnyH_take (i:=5) (v:= ?_) rfl (by kernel_rfl) (by kernel_rfl) (by kernel_rfl) (fun _ _ _ h=>h) (Or.inl ⟨by rfl,?_⟩) hHeld ?_
   rotate_left
   ·(intro w hSw;(try dsimp only at hSw);go_simp;try with_reducible rfl)
   simp only [List.getElem_toArray,List.getElem_cons_zero,List.getElem_cons_succ,Act.put,List.setIfInBounds_toArray,List.set_cons_zero,List.set_cons_succ]
   refine wpAnyH_take (i:=6) (v:= ?_) rfl (by kernel_rfl) (by kernel_rfl) (by kernel_rfl) (fun _ _ _ h=>h) (Or.inl ⟨by rfl,?_⟩) hHeld ?_
   rotate_left
   ·(intro w hSw;(try dsimp only at hSw);go_simp;try with_reducible rfl)
   simp only [List.getElem_toArray,List.getElem_cons_zero,List.getElem_cons_succ,Act.put,List.setIfInBounds_toArray,List.set_cons_zero,List.set_cons_succ]
   refine wpAnyH_take (i:=7) (v:= ?_) rfl (by kernel_rfl) (by kernel_rfl) (by kernel_rfl) (fun _ _ _ h=>h) (Or.inl ⟨by rfl,?_⟩) hHeld ?_
   rotate_left
   ·(intro w hSw;(try dsimp only at hSw);go_simp;try with_reducible rfl)
   simp only [List.getElem_toArray,List.getElem_cons_zero,List.getElem_cons_succ,Act.put,List.setIfInBounds_toArray,List.set_cons_zero,List.set_cons_succ]
   refine wpAnyH_take (i:=8) (v:= ?_) rfl (by kernel_rfl) (by kernel_rfl) (by kernel_rfl) (fun _ _ _ h=>h) (Or.inl ⟨by rfl,?_⟩) hHeld ?_
   rotate_left
   ·(intro w hSw;(try dsimp only at hSw);go_simp;try with_reducible rfl)
   simp only [List.getElem_toArray,List.getElem_cons_zero,List.getElem_cons_succ,Act.put,List.setIfInBounds_toArray,List.set_cons_zero,List.set_cons_succ]
   refine wpAnyH_take (i:=9) (v:= ?_) rfl (by kernel_rfl) (by kernel_rfl) (by kernel_rfl) (fun _ _ _ h=>h) (Or.inl ⟨by rfl,?_⟩) hHeld ?_
   rotate_left
   ·(intro w hSw;(try dsimp only at hSw);go_simp;try with_reducible rfl)
   simp only [List.getElem_toArray,List.getElem_cons_zero,List.getElem_cons_succ,Act.put,List.setIfInBounds_toArray,List.set_cons_zero,List.set_cons_succ]
   refine wpAnyH_ready (rs:=[10]) (by kernel_rfl) (by simp) ?_
   refine AllReadyH.cons rfl (fun K hK=> ?_) AllReadyH.nil
   go_simp
   refine(HDg.out _ n).mono ?_
   rintro e w4 ⟨r,rfl,hro,hb4⟩
   obtain⟨ra,rc,rfl⟩:=hro.form
   have Hro:=Lib.hid hro
   have Hd4:=Lib.hid ((hb4.block b hbd).trans Hd1.out)
   have Hd5:=Lib.hid (Hd2.out.below hb4)
   have hst4:=Lib.hid (hst3.out.trans (Step.later hb4 (fun x hx=>(Hd3.out x hx).1)))
   have hz4:=hb4.size
   refine hK.out _ _ (⟨(Lib.cell_of_heap Hd4.out 0).trans rfl,(hb4.cell (p:=⟨ub,uoff+k,none⟩) (by show ub<wd.heap.size;exact hsbd)).trans hHeld.2⟩) (fun hHeld=> ?_)
   clear hK K hro hb4
   try simp only [Act.put,List.setIfInBounds_toArray,List.set_cons_zero,List.set_cons_succ]
   refine wpAnyH_ready (rs:=[11]) (by kernel_rfl) (by simp) ?_
   refine AllReadyH.cons rfl (fun K hK=> ?_) AllReadyH.nil
   rw [if_pos (by rfl)]
   simp only [List.getElem_toArray,List.getElem_cons_succ,List.getElem_cons_zero]
   refine wp_appendsK (B:=b+1) (E:=(·=b)) plain_byte 22 (.int .u8 0) 1 Tryz.underlying22 info_byte rfl (.tmp 43) (.tmp 49) (by rfl) (by rfl) Hd5.out (fun x hx=>by have hx:x=b:=hx;omega) _ (digitsL size n) (by rfl) Hro.out.lb (by rw [HL.out,hdl];omega) (by rw [HL.out,hdl];omega) (by omega) (fun v' w5 hown hst5 hne=> ?_)
   obtain⟨va',vc',hvf⟩:=hown.form
   obtain⟨L',hL'⟩:∃ L',(l++numsL size (ns.take k)++digitsL size n).length=L':=⟨_,rfl⟩
   rw [hL']at hvf
   clear hL'
   subst hvf
   have hvb:Value.ownBlock (.slice va L vc)≠some b:=fun e=>Hd5.out.notE _ e rfl
   have Hb5:=Lib.hid ((hst5.block b ⟨by omega,hvb⟩).trans Hd4.out)
   have hst6:=Lib.hid (hst4.out.trans (hst5.imp (S':=S) (fun x hx=>⟨by have:=(Hd3.out x hx).1;omega,(Hd3.out x hx).2.2⟩)))
   have Hd8:Hid (∀ x,S x→x<w5.heap.size∧x≠b∧Value.ownBlock (.slice va' L' vc')≠some x):=Lib.hid (fun x hx=>by
    obtain⟨a1,a2,a3⟩:=Hd3.out x hx
    exact⟨by have:=hst5.size;omega,a2,hne x (by omega) a3⟩)
   have Hown:=Lib.hid hown
   refine hK.out _ _ (⟨(Lib.cell_of_heap Hb5.out 0).trans rfl,(hst5.cell (p:=⟨ub,uoff+k,none⟩) (by have:=Hd3.out ub huS;exact⟨by show ub<_;omega,this.2.2⟩)).trans hHeld.2⟩) (fun hHeld=> ?_)
   clear hK K
   try simp only [Act.put,List.setIfInBounds_toArray,List.set_cons_zero,List.set_cons_succ]
   refine wpAnyH_done (by kernel_rfl) ?_ _
   simp only [phaseQ]
   have hc5:w5.cell? ⟨b,0,none⟩=some (.slice va L vc):=by rw [Lib.cell_of_heap Hb5.out];rfl
   have fx5:w5.frozen? ⟨b,0,none⟩=false:=Lib.frozen_of_heap Hb5.out 0
   have hz5:b<w5.heap.size:=by have:=hst5.size;omega
   have Hfin:=Lib.hid (WJ.put Hb5.out Hown.out Hd8.out)
   have Hstf:Hid (Step S w0 (w5.setCell ⟨b,0,none⟩ (.slice va' L' vc'))):=Lib.hid (hst6.out.setCell (p:=⟨b,0,none⟩) (fun hS=>(Hd8.out b hS).2.1 rfl) _)
   clear hHeld hown hst5 hne hc0 fx Hd1 Hd2 Hd3 Hd4 Hd5 hst3 hst4 hvb Hv1 Hv2 Hv3
   clear Hro
   go_wp2
   go_roundw
   case rel=>
    refine⟨k+1,by go_num,by omega,?_,Hstf.out⟩
    have h:=Hfin.out
    rw [List.append_assoc,← Hnt.out]at h
    exact h
   case measure=>simp [intOf];omega
  ·have Hall:Hid (ns.take k=ns):=Lib.hid (List.take_of_length_le (by omega))
   rw [Hall.out]at hw
   have Hw2:=Lib.hid hw
   clear hw hst
   go_wp2
   go_end0
   exact⟨rfl,Hw2.out,Hst.out⟩
end Go.Proofs.YtfchpchabdhcgaaGreat
