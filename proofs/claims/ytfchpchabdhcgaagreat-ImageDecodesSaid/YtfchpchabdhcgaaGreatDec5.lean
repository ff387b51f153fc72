/- Lemmas. -/
import Derived.Test.YtfchpchabdhcgaaGreatDec4
set_option linter.unusedVariables false
set_option linter.unusedSimpArgs false
set_option maxHeartbeats 64000000
set_option maxRecDepth 100000
namespace Go.Proofs.YtfchpchabdhcgaaGreat
open Go.RowKit
structure ImgV where
 segs:Value
 needed:Value
 runPath:Value
 syms:Value
 buckets:Value
 words:Value
 relocs:Value
 slots:Value
 init:Value
 fini:Value
 tls:Value
def imgCells (v:ImgV) (im:ImgL):Array Value:=
 #[.string ⟨im.name.toArray⟩,.int .i64 im.flags,v.segs,v.needed,v.runPath,v.syms,v.buckets,v.words,.int .i64 im.shift,v.relocs,v.slots,v.init,v.fini,v.tls,.int .i64 im.tlsSize]
theorem any_take_succ {α:Type} (f:α→Bool) (l:List α) (k:Nat) (x:α) (hx:l[k]? =some x) (ha:(l.take k).any f=false) (hf:f x=false):(l.take (k+1)).any f=false:=by
 obtain⟨h,rfl⟩:=List.getElem?_eq_some_iff.1 hx
 rw [List.take_succ_eq_append_getElem h,List.any_append,ha]
 simp [hf]
theorem any_hit {α:Type} (f:α→Bool) (l:List α) (k:Nat) (x:α) (hx:l[k]? =some x) (hf:f x=true):l.any f=true:=
 List.any_eq_true.2 ⟨x,List.mem_of_getElem? hx,hf⟩
def SegOk (s:SegL):Prop:=0≤s.at_∧s.at_≤65536∧1≤s.size∧s.size≤65536∧0≤s.perm∧s.perm≤7
def holdB (s:SegL) (at_ n p:Int):Bool:=decide (s.at_≤at_)&&decide (n≤s.size)&&decide (at_-s.at_≤s.size-n)&&permB s.perm p
theorem holdsB_any (l:List SegL) (at_ n p:Int):holdsB l at_ n p=l.any fun s=>holdB s at_ n p:=rfl
theorem permB_bits (p q:Int) (h0:0≤p) (h1:p≤7) (hq:q=0∨q=2∨q=4):(bits BinOp.and .i64 p q==q)=permB p q:=by
 obtain⟨n,rfl⟩:∃ n:Nat,p=n:=⟨p.toNat,by omega⟩
 have hn:n≤7:=by omega
 have h:∀ m:Nat,m≤7→(bits BinOp.and .i64 ((m:Nat):Int) 0==0)=permB ((m:Nat):Int) 0∧(bits BinOp.and .i64 ((m:Nat):Int) 2==2)=permB ((m:Nat):Int) 2∧(bits BinOp.and .i64 ((m:Nat):Int) 4==4)=permB ((m:Nat):Int) 4:=by decide +kernel
 rcases hq with rfl | rfl | rfl
 ·exact(h n hn).1
 ·exact(h n hn).2.1
 ·exact(h n hn).2.2
theorem holds_any (w:World) (v:ImgV) (im:ImgL) (at_ n p:Int) (hs:LB kSeg (·<w.heap.size) w v.segs im.segs) (hok:∀ s∈im.segs,SegOk s)
  (ha: -9223372036854775808≤at_∧at_≤9223372036854775807) (hn:0≤n∧n≤9223372036854775807) (hp:p=0∨p=2∨p=4):
  Calls Tryz.prog 75 #[.agg (imgCells v im),.agg #[.int .i64 at_,.int .i64 n,.int .i64 p]] w fun e w'=>e=.returned (.bool (holdsB im.segs at_ n p))∧Below w.heap.size w w':=by
 rw [holdsB_any]
 unfold imgCells
 obtain⟨sa,sb,soff,scap,hsv,hsm,hsc,hat⟩:=hs.at
 rw [hsv]
 have Hat:=Lib.hid hat
 have Hok:=Lib.hid hok
 have Hp:=Lib.hid hp
 clear hs hat hok hp hsv
 go_enter Tryz.func75,Tryz.ntmps75
 go_wp2
 go_loopw [10] (fun i wr=>∃ (k:Nat),i=.int .i64 k∧k≤im.segs.length∧(im.segs.take k).any (fun s=>holdB s at_ n p)=false∧Below w.heap.size w wr∧wr.heap[w.heap.size+1]? =some (.cells #[.int .i64 at_,.int .i64 n,.int .i64 p] 127 (0,0))) (fun i _=>im.segs.length-(intOf i).toNat)
 case atStart=>exact⟨0,rfl,Nat.zero_le _,rfl,((Below.refl _ _).alloc (Nat.le_refl _) _).alloc (by simp) _,by simpa only [World.size_alloc] using heap_alloc_new (w.alloc _) _⟩
 case round=>
  obtain⟨k,rfl,hk,hno,hbel,hq⟩:=hrel
  have Hno:=Lib.hid hno
  have Hbel:=Lib.hid hbel
  have Hq:=Lib.hid hq
  have hBr:=hbel.size
  by_cases hlt:k<im.segs.length
  ·obtain rfl:=Hat.out.addr (by omega)
   obtain⟨s,hx⟩:∃ s,im.segs[k]? =some s:=⟨_,List.getElem?_eq_getElem hlt⟩
   obtain⟨c,g0,g1,g2,g3,hc⟩:=(Hat.out.below hbel).seg4 k s hx
   obtain⟨ca,cc,rfl⟩:=hc.form
   clear hc
   obtain⟨o1,o2,o3,o4,o5,o6⟩:=Hok.out s (List.mem_of_getElem? hx)
   have q0:wr.cell? ⟨w.heap.size+1,0,none⟩=some (.int .i64 at_):=by rw [Lib.cell_of_heap hq];rfl
   have q1:wr.cell? ⟨w.heap.size+1,1,none⟩=some (.int .i64 n):=by rw [Lib.cell_of_heap hq];rfl
   have q2:wr.cell? ⟨w.heap.size+1,2,none⟩=some (.int .i64 p):=by rw [Lib.cell_of_heap hq];rfl
   have hpb:=permB_bits s.perm p o5 o6 Hp.out
   have Hhit:Hid (holdB s at_ n p=true→im.segs.any (fun s=>holdB s at_ n p)=true):=Lib.hid (any_hit (fun s=>holdB s at_ n p) _ k s hx)
   have Hmiss:Hid (holdB s at_ n p=false→(im.segs.take (k+1)).any (fun s=>holdB s at_ n p)=false):=Lib.hid (any_take_succ (fun s=>holdB s at_ n p) _ k s hx Hno.out)
   have Hd:Hid (holdB s at_ n p=(decide (s.at_≤at_)&&decide (n≤s.size)&&decide (at_-s.at_≤s.size-n)&&permB s.perm p)):=Lib.hid rfl
   have hzq:w.heap.size+1<wr.heap.size:=by
    rcases Nat.lt_or_ge (w.heap.size+1) wr.heap.size with h' | h'
    ·exact h'
    ·rw [Array.getElem?_eq_none h']at hq;cases hq
   clear hno hbel hq hx
   generalize holdB s at_ n p=hb at *
   generalize s.at_=sat at *
   generalize s.size=ssz at *
   generalize s.perm=spm at *
   generalize permB spm p=pb at *
   by_cases h1:sat≤at_
   ·by_cases h2:n≤ssz
    ·by_cases h3:at_-sat≤ssz-n
     ·cases pb with
      | true=>
       have Hh:=Lib.hid (Hhit.out (by rw [Hd.out];simp [h1,h2,h3]))
       go_wp2
       go_ret
       exact⟨by rw [Hh.out];rfl,Hbel.out.alloc hBr _⟩
      | false=>
       have Hm:=Lib.hid (Hmiss.out (by rw [Hd.out];simp))
       go_wp2
       go_roundw
       case rel=>exact⟨k+1,by go_num,by omega,Hm.out,Hbel.out.alloc hBr _,by rw [Lib.alloc_old _ _ _ hzq];exact Hq.out⟩
       case measure=>simp [intOf];omega
     ·have Hm:=Lib.hid (Hmiss.out (by rw [Hd.out];simp [h3]))
      go_wp2
      go_roundw
      case rel=>exact⟨k+1,by go_num,by omega,Hm.out,Hbel.out.alloc hBr _,by rw [Lib.alloc_old _ _ _ hzq];exact Hq.out⟩
      case measure=>simp [intOf];omega
    ·have Hm:=Lib.hid (Hmiss.out (by rw [Hd.out];simp [h2]))
     go_wp2
     go_roundw
     case rel=>exact⟨k+1,by go_num,by omega,Hm.out,Hbel.out.alloc hBr _,by rw [Lib.alloc_old _ _ _ hzq];exact Hq.out⟩
     case measure=>simp [intOf];omega
   ·have Hm:=Lib.hid (Hmiss.out (by rw [Hd.out];simp [h1]))
    go_wp2
    go_roundw
    case rel=>exact⟨k+1,by go_num,by omega,Hm.out,Hbel.out.alloc hBr _,by rw [Lib.alloc_old _ _ _ hzq];exact Hq.out⟩
    case measure=>simp [intOf];omega
  ·have Hn2:Hid (im.segs.any (fun s=>holdB s at_ n p)=false):=Lib.hid (by have:=Hno.out;rw [List.take_of_length_le (by omega)]at this;exact this)
   clear hno hbel hq
   go_wp2
   go_ret
   exact⟨by rw [Hn2.out];rfl,Hbel.out⟩
end Go.Proofs.YtfchpchabdhcgaaGreat
