/- Lemmas. -/
import Derived.Test.YtpomdoliblilfaaBld16
import Derived.Test.YtpomdoliblilfaaBld5
namespace Go.Proofs.Ytpomdoliblilfaa
set_option linter.unusedVariables false
set_option linter.unusedSimpArgs false
open Go.RowKit
theorem flat_byte:FlatK kByte:=fun _ _ _ _ _ _ h=>h
theorem digitsL_succB (size:Nat) (n:Int) (i:Nat) (h:i<size):(digitsL size n).take (i+1)=(digitsL size n).take i++[byteAt n i]:=by
 have hl:i<(digitsL size n).length:=by rw [digitsL_len];exact h
 rw [List.take_succ_eq_append_getElem hl]
 congr 2
 simp [digitsL,byteAt]
theorem shr_byteB (n:Int) (i:Nat) (h:i<8):IntKind.u8.wrap (n/2 ^ (8*i))=((byteAt n i).toNat:Int):=by
 have e:∀ m:Nat,((UInt8.ofNat m).toNat:Int)=(m:Int)%256:=fun m=>by simp
 unfold byteAt
 rw [e,IntKind.wrap_u8']
 have:i=0∨i=1∨i=2∨i=3∨i=4∨i=5∨i=6∨i=7:=by omega
 rcases this with rfl | rfl | rfl | rfl | rfl | rfl | rfl | rfl<;>simp only [Nat.mul_zero,Nat.mul_one,Nat.reduceMul,Nat.reducePow,Int.reducePow,Nat.pow_zero,Int.pow_zero]<;>omega
theorem byteAt_wrap (n:Int) (i:Nat):byteAt (IntKind.u64.wrap n) i=byteAt n i:=by
 unfold byteAt
 have:IntKind.u64.wrap n=n%18446744073709551616:=by rw [IntKind.wrap_u64]
 rw [this]
 congr 2
 omega
theorem wordsL_take {ns:List Int} {k:Nat} {n:Int} (hn:ns[k]? =some n):wordsL (ns.take (k+1))=wordsL (ns.take k)++digitsL 8 n:=by
 rw [take_snocB hn];unfold wordsL;rw [List.flatMap_append];simp
theorem wordsL_len (ns:List Int):(wordsL ns).length=8*ns.length:=by
 induction ns with
 | nil=>rfl
 | cons n ns ih=>
  have:wordsL (n :: ns)=digitsL 8 n++wordsL ns:=rfl
  rw [this,List.length_append,ih,digitsL_len,List.length_cons];omega
def MadeK {α:Type} (e:TypeId) (K:Kind α) (w:World) (l:List α) (x:Ending) (w':World):Prop:=∃ r,x=.returned r∧OwnK e K w.heap.size (fun _=>False) w' r l∧Below w.heap.size w w'
set_option maxHeartbeats 16000000 in
set_option maxRecDepth 100000 in
theorem words_any {S:Nat→Prop} (w:World) (u:Value) (ns:List Int) (hu:LB kInt S w u ns) (hS:∀ b,S b→b<w.heap.size) (hl:ns.length≤100000000):
  Calls Try.prog 22 #[u] w (MadeK 5 kByte w (wordsL ns)):=by
 obtain⟨ua,ub,uoff,ucap,rfl,hum,huc,hat⟩:=hu.at
 have hua:=hat.addr
 have Hat:=Lib.hid (hat.keeps (S:=S) (w':=w) (fun b _=>rfl))
 have HS:=Lib.hid hS
 obtain⟨m,hm⟩:∃ m,m=ns.length:=⟨_,rfl⟩
 have Hm:=Lib.hid hm
 rw [← hm]at hum huc hua hl ⊢
 clear hu hat hS hm
 go_enter Try.func22,Try.ntmps22
 go_wp2_with fail
 go_loopw [3,9] (fun o i wr=>∃ k:Nat,i=.int .i64 k∧k≤m∧OwnK 5 kByte w.heap.size (fun b=>b<w.heap.size) wr o (wordsL (ns.take k))∧Below w.heap.size w wr) (fun _ i _=>m-(intOf i).toNat)
 case atStart=>exact⟨0,rfl,Nat.zero_le _,OwnK.nil _ _ _ _ _,Below.refl _ _⟩
 case round=>
  obtain⟨k,rfl,hk,ho,hb⟩:=hrel
  have HO:=Lib.hid ho
  have HB:=Lib.hid hb
  clear ho hb
  by_cases hlt:k<m
  ·obtain rfl:=hua (by omega)
   obtain⟨n,hn⟩:∃ n,ns[k]? =some n:=⟨_,List.getElem?_eq_getElem (by rw [← Hm.out];exact hlt)⟩
   have g:=(HB.out.cell (p:=⟨ub,uoff+k,none⟩) (HS.out _ (Hat.out.inS (by rw [← Hm.out];omega)))).trans (Hat.out.int1 k n hn)
   have Hnt:=Lib.hid (wordsL_take hn)
   have Hkl:=Lib.hid (show (wordsL (ns.take k)).length=8*k by rw [wordsL_len,List.length_take];have:=Hm.out;omega)
   have hk2:(k:Int)<(m:Int):=by omega
   clear hn
   go_wp2_with fail
   clear g
   go_loopw [3,13] (fun o i wi=>∃ j:Nat,i=.int .i64 j∧j≤8∧OwnK 5 kByte w.heap.size (fun b=>b<w.heap.size) wi o (wordsL (ns.take k)++(digitsL 8 n).take j)∧Below w.heap.size w wi) (fun _ i _=>8-(intOf i).toNat)
   case atStart=>exact⟨0,rfl,Nat.zero_le _,by simpa using HO.out,HB.out⟩
   case round=>
    obtain⟨j,rfl,hj,ho,hb⟩:=hrel
    have HO2:=Lib.hid ho
    have HB2:=Lib.hid hb
    have hz:=hb.size
    clear ho hb
    by_cases hjt:j<8
    ·have Hds:=Lib.hid (digitsL_succB 8 n j hjt)
     have hj2:(j:Int)<8:=by omega
     obtain⟨oa,oc,hof⟩:=HO2.out.form
     obtain⟨L,hL⟩:∃ L,L=(wordsL (ns.take k)++(digitsL 8 n).take j).length:=⟨_,rfl⟩
     have HL:=Lib.hid hL
     have hLb:L≤1000000000:=by rw [hL,List.length_append,Hkl.out,List.length_take,digitsL_len];omega
     rw [← hL]at hof
     subst hof
     have hq0:(0:Int)≤8*(j:Int):=by omega
     have hq1:8*(j:Int)≤64:=by omega
     have hq2:IntKind.i64.wrap (8*(j:Int))=8*(j:Int):=by rw [IntKind.wrap_i64];omega
     have hq3:(8*(j:Int)).toNat=8*j:=by omega
     have hsb:=shr_byteB (IntKind.u64.wrap n) j hjt
     rw [byteAt_wrap]at hsb
     obtain⟨cb,hcb⟩:∃ cb,byteAt n j=cb:=⟨_,rfl⟩
     rw [hcb]at hsb Hds
     obtain⟨mm,hmm⟩:∃ mm,IntKind.u64.wrap n=mm:=⟨_,rfl⟩
     have hmm0:0≤mm:=by rw [← hmm,IntKind.wrap_u64];omega
     rw [hmm]at hsb
     clear hL hcb
     go_upto_region 8 with fail
     have HOw:=Lib.hid ((HO2.out.reE (E':=fun b=>b<wr.heap.size+1∧¬ (Value.slice oa L oc).ownBlock=some b) flat_byte (fun g hg h=>h.2 hg)).alloc (.cells #[.int .u8 cb.toNat] 5))
     have Hzb:Hid ((wr.alloc (.cells #[.int .u8 cb.toNat] 5)).heap.size=wr.heap.size+1):=Lib.hid (by simp)
     go_wp2_with (at_builtin;go_loud (refine wpList_appendK 42 (.int .u8 0) 1 Try.underlying42 info_byte rfl (by decide) rfl (.tmp 16) (.tmp 23) rfl L HL.out.symm rfl HOw.out (fun b hb=>by have h1:=hb.1;have h2:=Hzb.out;omega) wr.heap.size cb [.int .u8 cb.toNat] rfl (cells_row (xs:=[.int .u8 cb.toNat]) (heap_alloc_new wr (.cells #[.int .u8 cb.toNat] 5))) (by simp [Value.oneCell']) rfl (by rw [← HL.out];omega) (by rw [← HL.out];omega) (by have h2:=Hzb.out;omega) ?_))
     intro g c2 w7 hown7 hst7 hglt
     have Hbel:Hid (Below w.heap.size w w7):=Lib.hid (by
      have h2:=Hzb.out
      exact HB2.out.trans (((Below.refl w.heap.size wr).alloc (by omega) (.cells #[.int .u8 cb.toNat] 5)).trans ((hst7.imp (S':=(·<w.heap.size)) (fun b hb=>⟨by have hb:b<w.heap.size:=hb;omega,fun e=>by have h3:=(HO2.out.lt b e).1;have hb:b<w.heap.size:=hb;omega⟩)).below)))
     have HO7:=Lib.hid (hown7.reE (E':=fun b=>b<w.heap.size) flat_byte (fun g hg h=>by have:=(hown7.lt g hg).1;omega))
     clear hown7 hst7 hq0 hq1 hq2 hq3 hsb hmm
     go_wp2
     go_roundw
     case rel=>exact⟨j+1,by go_num,by omega,by rw [Hds.out];exact HO7.out,Hbel.out⟩
     case measure=>simp [intOf];omega
    ·have HE:=Lib.hid (show OwnK 5 kByte w.heap.size (fun b=>b<w.heap.size) wr u3 (wordsL (ns.take (k+1))) by
      have h:=HO2.out
      rw [show (digitsL 8 n).take j=digitsL 8 n from List.take_of_length_le (by rw [digitsL_len];omega)]at h
      rw [Hnt.out];exact h)
     go_wp2
     go_roundw
     case rel=>exact⟨k+1,by go_num,by omega,HE.out,HB2.out⟩
     case measure=>simp [intOf];omega
  ·have HE:=Lib.hid (show OwnK 5 kByte w.heap.size (fun _=>False) wr u3 (wordsL ns) by
    have h:=HO.out
    rw [List.take_of_length_le (by have:=Hm.out;omega)]at h
    exact h.reE flat_byte (fun _ _ h=>h))
   go_wp2
   go_ret
   exact⟨_,rfl,HE.out,HB.out⟩
end Go.Proofs.Ytpomdoliblilfaa
