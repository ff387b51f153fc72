/- Lemmas. -/
import Derived.Test.YtfchpchabdhcgaaGreatDec24
set_option linter.unusedVariables false
set_option linter.unusedSimpArgs false
set_option maxHeartbeats 64000000
set_option maxRecDepth 100000
namespace Go.Proofs.YtfchpchabdhcgaaGreat
open Go.RowKit
theorem count_take_succ (c:List Int) (k:Nat) (x y:Int) (hx:c[k]? =some y):(c.take (k+1)).count x=(c.take k).count x+if y=x then 1 else 0:=by
 obtain⟨h,rfl⟩:=List.getElem?_eq_some_iff.1 hx
 rw [List.take_succ_eq_append_getElem h,List.count_append,List.count_singleton]
 by_cases e:c[k]=x<;>simp [e]
theorem sum_take_le:∀ (l:List Nat) (n:Nat),(l.take n).sum≤l.sum
 | [],n=>by simp
 | a :: l,0=>by simp
 | a :: l,n+1=>by have:=sum_take_le l n;simp only [List.take_succ_cons,List.sum_cons];omega
theorem sum_take_succ (l:List Nat) (k:Nat) (x:Nat) (hx:l[k]? =some x):(l.take (k+1)).sum=(l.take k).sum+x:=by
 obtain⟨h,rfl⟩:=List.getElem?_eq_some_iff.1 hx
 rw [List.take_succ_eq_append_getElem h,List.sum_append];simp
theorem rising_snoc:∀ (l:List Int) (a b:Int),risingB (l++[a])=true→risingB (l++[a,b])=decide (a<b)
 | [],a,b,_=>by simp [risingB]
 | [x],a,b,h=>by
  simp only [List.cons_append,List.nil_append,risingB,Bool.and_eq_true,decide_eq_true_eq]at h ⊢
  simp [h.1]
 | x :: y :: l,a,b,h=>by
  have e1:risingB (x :: y :: l++[a])=(decide (x<y)&&risingB (y :: l++[a])):=rfl
  have e2:risingB (x :: y :: l++[a,b])=(decide (x<y)&&risingB (y :: l++[a,b])):=rfl
  rw [e1,Bool.and_eq_true]at h
  rw [e2,h.1,rising_snoc (y :: l) a b h.2];rfl
theorem rising_step (c:List Int) (k:Nat) (a b:Int) (ha:c[k]? =some a) (hb:c[k+1]? =some b) (h:risingB (c.take (k+1))=true):risingB (c.take (k+2))=decide (a<b):=by
 obtain⟨h1,rfl⟩:=List.getElem?_eq_some_iff.1 ha
 obtain⟨h2,rfl⟩:=List.getElem?_eq_some_iff.1 hb
 rw [List.take_succ_eq_append_getElem h1]at h
 rw [List.take_succ_eq_append_getElem h2,List.take_succ_eq_append_getElem h1,List.append_assoc]
 exact rising_snoc _ _ _ h
theorem rising_bad (c:List Int) (k:Nat) (h:risingB (c.take k)=false):risingB c=false:=by
 cases hr:risingB c with
 | false=>rfl
 | true=>
  have:=((rising_pairwise c).1 hr).sublist (List.take_sublist k c)
  rw [(rising_pairwise _).2 this]at h;cases h
theorem jstandsn_any (w:World) (v:Value) (c:List Int) (x:Int) (hc:LB kInt (·<w.heap.size) w v c):
  Calls Tryz.prog 95 #[v,.int .i64 x] w fun e w'=>e=.returned (.int .i64 (c.count x:Nat))∧w'=w:=by
 obtain⟨sa,sb,soff,scap,rfl,hsm,hsc,hat⟩:=hc.at
 have Hat:=Lib.hid hat
 clear hc hat
 go_enter Tryz.func95,Tryz.ntmps95
 go_wp2
 go_loop [5,6] (fun n i=>∃ k:Nat,k≤c.length∧i=.int .i64 k∧n=.int .i64 (((c.take k).count x:Nat):Int)) (fun _ i=>c.length-(intOf i).toNat)
 case atStart=>exact⟨0,Nat.zero_le _,rfl,by simp⟩
 case round=>
  obtain⟨k,hk,rfl,rfl⟩:=hrel
  have hle:(c.take k).count x≤k:=by have:=List.count_le_length (a:=x) (l:=c.take k);rw [List.length_take]at this;omega
  by_cases hlt:k<c.length
  ·obtain rfl:=Hat.out.addr (by omega)
   obtain⟨y,hy⟩:∃ y,c[k]? =some y:=⟨_,List.getElem?_eq_getElem hlt⟩
   have g:=Hat.out.int1 k y hy
   have Hs:=Lib.hid (count_take_succ c k x y hy)
   clear hy
   generalize (c.take k).count x=m at *
   by_cases e:y=x
   ·have Hs2:Hid ((c.take (k+1)).count x=m+1):=Lib.hid (by rw [Hs.out,if_pos e])
    have hb:(y==x)=true:=by rw [beq_iff_eq];exact e
    clear e
    go_wp2
    go_round
    case rel=>exact⟨k+1,by omega,by go_num,by rw [Hs2.out];go_num⟩
    case measure=>simp [intOf];omega
   ·have Hs2:Hid ((c.take (k+1)).count x=m):=Lib.hid (by rw [Hs.out,if_neg e];omega)
    have hb:(y==x)=false:=by rw [beq_eq_false_iff_ne];exact e
    clear e
    go_wp2
    go_round
    case rel=>exact⟨k+1,by omega,by go_num,by rw [Hs2.out]⟩
    case measure=>simp [intOf];omega
  ·have He:Hid ((c.take k).count x=c.count x):=Lib.hid (by rw [List.take_of_length_le (by omega)])
   generalize (c.take k).count x=m at *
   go_wp2
   go_ret
   exact⟨by rw [← He.out];rfl,rfl⟩
end Go.Proofs.YtfchpchabdhcgaaGreat
