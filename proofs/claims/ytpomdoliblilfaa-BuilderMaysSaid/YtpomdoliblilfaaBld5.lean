/- Lemmas. -/
import Derived.Test.YtpomdoliblilfaaBld3
import Derived.Test.YtpomdoliblilfaaBld1
import Derived.Test.YtpomdoliblilfaaBld4
import Derived.Deep.DeepCutAuto
namespace Go.Proofs.Ytpomdoliblilfaa
set_option linter.unusedVariables false
set_option linter.unusedSimpArgs false
open Go.RowKit
structure ImgV where
 segs:Value
 needed:Value
 runPath:Value
 syms:Value
 buckets:Value
 words:Value
 relocs:Value
 slots:Value
 init:Value
 fini:Value
 tls:Value
def imgCells (v:ImgV) (im:ImgL):Array Value:=
 #[.string ⟨im.name.toArray⟩,.int .i64 im.flags,v.segs,v.needed,v.runPath,v.syms,v.buckets,v.words,.int .i64 im.shift,v.relocs,v.slots,v.init,v.fini,v.tls,.int .i64 im.tlsSize]
theorem any_take_succ {α:Type} (f:α→Bool) (l:List α) (k:Nat) (x:α) (hx:l[k]? =some x) (ha:(l.take k).any f=false) (hf:f x=false):(l.take (k+1)).any f=false:=by
 obtain⟨h,rfl⟩:=List.getElem?_eq_some_iff.1 hx
 rw [List.take_succ_eq_append_getElem h,List.any_append,ha]
 simp [hf]
theorem any_hit {α:Type} (f:α→Bool) (l:List α) (k:Nat) (x:α) (hx:l[k]? =some x) (hf:f x=true):l.any f=true:=
 List.any_eq_true.2 ⟨x,List.mem_of_getElem? hx,hf⟩
def SegOk (s:SegL):Prop:=0≤s.at_∧s.at_≤65536∧1≤s.size∧s.size≤65536∧0≤s.perm∧s.perm≤7
def holdB (s:SegL) (at_ n p:Int):Bool:=decide (s.at_≤at_)&&decide (n≤s.size)&&decide (at_-s.at_≤s.size-n)&&permB s.perm p
theorem holdsB_any (l:List SegL) (at_ n p:Int):holdsB l at_ n p=l.any fun s=>holdB s at_ n p:=rfl
theorem permB_bits (p q:Int) (h0:0≤p) (h1:p≤7) (hq:q=0∨q=2∨q=4):(bits BinOp.and .i64 p q==q)=permB p q:=by
 obtain⟨n,rfl⟩:∃ n:Nat,p=n:=⟨p.toNat,by omega⟩
 have hn:n≤7:=by omega
 have h:∀ m:Nat,m≤7→(bits BinOp.and .i64 ((m:Nat):Int) 0==0)=permB ((m:Nat):Int) 0∧(bits BinOp.and .i64 ((m:Nat):Int) 2==2)=permB ((m:Nat):Int) 2∧(bits BinOp.and .i64 ((m:Nat):Int) 4==4)=permB ((m:Nat):Int) 4:=by decide +kernel
 rcases hq with rfl | rfl | rfl
 ·exact(h n hn).1
 ·exact(h n hn).2.1
 ·exact(h n hn).2.2
set_option maxHeartbeats 8000000 in
set_option maxRecDepth 100000 in
theorem holds_any (w:World) (v:ImgV) (im:ImgL) (at_ n p:Int) (hs:LB kSeg (·<w.heap.size) w v.segs im.segs) (hok:∀ s∈im.segs,SegOk s)
  (ha: -9223372036854775808≤at_∧at_≤9223372036854775807) (hn:0≤n∧n≤9223372036854775807) (hp:p=0∨p=2∨p=4):
  Calls Try.prog 93 #[.agg (imgCells v im),.agg #[.int .i64 at_,.int .i64 n,.int .i64 p]] w fun e w'=>e=.returned (.bool (holdsB im.segs at_ n p))∧Below w.heap.size w w':=by
 rw [holdsB_any]
 unfold imgCells
 obtain⟨sa,sb,soff,scap,hsv,hsm,hsc,hat⟩:=hs.at
 rw [hsv]
 have Hat:=Lib.hid hat
 have Hok:=Lib.hid hok
 have Hp:=Lib.hid hp
 clear hs hat hok hp hsv
 go_enter Try.func93,Try.ntmps93
 go_wp2
 go_loopw [10] (fun i wr=>∃ (k:Nat),i=.int .i64 k∧k≤im.segs.length∧(im.segs.take k).any (fun s=>holdB s at_ n p)=false∧Below w.heap.size w wr∧wr.heap[w.heap.size+1]? =some (.cells #[.int .i64 at_,.int .i64 n,.int .i64 p] 164 (0,0))) (fun i _=>im.segs.length-(intOf i).toNat)
 case atStart=>exact⟨0,rfl,Nat.zero_le _,rfl,((Below.refl _ _).alloc (Nat.le_refl _) _).alloc (by simp) _,by simpa only [World.size_alloc] using heap_alloc_new (w.alloc _) _⟩
 case round=>
  obtain⟨k,rfl,hk,hno,hbel,hq⟩:=hrel
  have Hno:=Lib.hid hno
  have Hbel:=Lib.hid hbel
  have Hq:=Lib.hid hq
  have hBr:=hbel.size
  by_cases hlt:k<im.segs.length
  ·obtain rfl:=Hat.out.addr (by omega)
   obtain⟨s,hx⟩:∃ s,im.segs[k]? =some s:=⟨_,List.getElem?_eq_getElem hlt⟩
   obtain⟨c,g0,g1,g2,g3,hc⟩:=(Hat.out.below hbel).seg4 k s hx
   obtain⟨ca,cc,rfl⟩:=hc.form
   clear hc
   obtain⟨o1,o2,o3,o4,o5,o6⟩:=Hok.out s (List.mem_of_getElem? hx)
   have q0:wr.cell? ⟨w.heap.size+1,0,none⟩=some (.int .i64 at_):=by rw [Lib.cell_of_heap hq];rfl
   have q1:wr.cell? ⟨w.heap.size+1,1,none⟩=some (.int .i64 n):=by rw [Lib.cell_of_heap hq];rfl
   have q2:wr.cell? ⟨w.heap.size+1,2,none⟩=some (.int .i64 p):=by rw [Lib.cell_of_heap hq];rfl
   have hpb:=permB_bits s.perm p o5 o6 Hp.out
   have Hhit:Hid (holdB s at_ n p=true→im.segs.any (fun s=>holdB s at_ n p)=true):=Lib.hid (any_hit (fun s=>holdB s at_ n p) _ k s hx)
   have Hmiss:Hid (holdB s at_ n p=false→(im.segs.take (k+1)).any (fun s=>holdB s at_ n p)=false):=Lib.hid (any_take_succ (fun s=>holdB s at_ n p) _ k s hx Hno.out)
   have Hd:Hid (holdB s at_ n p=(decide (s.at_≤at_)&&decide (n≤s.size)&&decide (at_-s.at_≤s.size-n)&&permB s.perm p)):=Lib.hid rfl
   have hzq:w.heap.size+1<wr.heap.size:=by
    rcases Nat.lt_or_ge (w.heap.size+1) wr.heap.size with h' | h'
    ·exact h'
    ·rw [Array.getElem?_eq_none h']at hq;cases hq
   clear hno hbel hq hx
   generalize holdB s at_ n p=hb at *
   generalize s.at_=sat at *
   generalize s.size=ssz at *
   generalize s.perm=spm at *
   generalize permB spm p=pb at *
   by_cases h1:sat≤at_
   ·by_cases h2:n≤ssz
    ·by_cases h3:at_-sat≤ssz-n
     ·cases pb with
      | true=>
       have Hh:=Lib.hid (Hhit.out (by rw [Hd.out];simp [h1,h2,h3]))
       go_wp2
       go_ret
       exact⟨by rw [Hh.out];rfl,Hbel.out.alloc hBr _⟩
      | false=>
       have Hm:=Lib.hid (Hmiss.out (by rw [Hd.out];simp))
       go_wp2
       go_roundw
       case rel=>exact⟨k+1,by go_num,by omega,Hm.out,Hbel.out.alloc hBr _,by rw [Lib.alloc_old _ _ _ hzq];exact Hq.out⟩
       case measure=>simp [intOf];omega
     ·have Hm:=Lib.hid (Hmiss.out (by rw [Hd.out];simp [h3]))
      go_wp2
      go_roundw
      case rel=>exact⟨k+1,by go_num,by omega,Hm.out,Hbel.out.alloc hBr _,by rw [Lib.alloc_old _ _ _ hzq];exact Hq.out⟩
      case measure=>simp [intOf];omega
    ·have Hm:=Lib.hid (Hmiss.out (by rw [Hd.out];simp [h2]))
     go_wp2
     go_roundw
     case rel=>exact⟨k+1,by go_num,by omega,Hm.out,Hbel.out.alloc hBr _,by rw [Lib.alloc_old _ _ _ hzq];exact Hq.out⟩
     case measure=>simp [intOf];omega
   ·have Hm:=Lib.hid (Hmiss.out (by rw [Hd.out];simp [h1]))
    go_wp2
    go_roundw
    case rel=>exact⟨k+1,by go_num,by omega,Hm.out,Hbel.out.alloc hBr _,by rw [Lib.alloc_old _ _ _ hzq];exact Hq.out⟩
    case measure=>simp [intOf];omega
  ·have Hn2:Hid (im.segs.any (fun s=>holdB s at_ n p)=false):=Lib.hid (by have:=Hno.out;rw [List.take_of_length_le (by omega)]at this;exact this)
   clear hno hbel hq
   go_wp2
   go_ret
   exact⟨by rw [Hn2.out];rfl,Hbel.out⟩
end Go.Proofs.Ytpomdoliblilfaa
namespace Go.Proofs.Ytpomdoliblilfaa
set_option linter.unusedVariables false
set_option linter.unusedSimpArgs false
open Go.RowKit
set_option maxHeartbeats 8000000 in
set_option maxRecDepth 100000 in
theorem jstands_any (w:World) (v:ImgV) (im:ImgL) (at_ n p:Int) (hs:LB kSeg (·<w.heap.size) w v.segs im.segs) (hok:∀ s∈im.segs,SegOk s)
  (ha: -9223372036854775808≤at_∧at_≤9223372036854775807) (hn:0≤n∧n≤9223372036854775807) (hp:p=0∨p=2∨p=4):
  Calls Try.prog 66 #[.agg (imgCells v im),.int .i64 at_,.int .i64 n,.int .i64 p] w fun e w'=>e=.returned (.bool (holdsB im.segs at_ n p))∧Below w.heap.size w w':=by
 rw [holdsB_any]
 unfold imgCells
 obtain⟨sa,sb,soff,scap,hsv,hsm,hsc,hat⟩:=hs.at
 rw [hsv]
 have Hat:=Lib.hid hat
 have Hok:=Lib.hid hok
 have Hp:=Lib.hid hp
 clear hs hat hok hp hsv
 go_enter Try.func66,Try.ntmps66
 go_wp2
 go_loopw [9] (fun i wr=>∃ (k:Nat),i=.int .i64 k∧k≤im.segs.length∧(im.segs.take k).any (fun s=>holdB s at_ n p)=false∧Below w.heap.size w wr∧wr.cell? ⟨w.heap.size,2,none⟩=some (.slice sa im.segs.length scap)∧w.heap.size<wr.heap.size) (fun i _=>im.segs.length-(intOf i).toNat)
 case atStart=>exact⟨0,rfl,Nat.zero_le _,rfl,(Below.refl _ _).alloc (Nat.le_refl _) _,by simp,by simp⟩
 case round=>
  obtain⟨k,rfl,hk,hno,hbel,hq,hzq⟩:=hrel
  have Hno:=Lib.hid hno
  have Hbel:=Lib.hid hbel
  have Hq:=Lib.hid hq
  have hBr:=hbel.size
  by_cases hlt:k<im.segs.length
  ·obtain rfl:=Hat.out.addr (by omega)
   obtain⟨s,hx⟩:∃ s,im.segs[k]? =some s:=⟨_,List.getElem?_eq_getElem hlt⟩
   obtain⟨c,g0,g1,g2,g3,hc⟩:=(Hat.out.below hbel).seg4 k s hx
   obtain⟨ca,cc,rfl⟩:=hc.form
   clear hc
   obtain⟨o1,o2,o3,o4,o5,o6⟩:=Hok.out s (List.mem_of_getElem? hx)
   have hpb:=permB_bits s.perm p o5 o6 Hp.out
   have Hhit:Hid (holdB s at_ n p=true→im.segs.any (fun s=>holdB s at_ n p)=true):=Lib.hid (any_hit (fun s=>holdB s at_ n p) _ k s hx)
   have Hmiss:Hid (holdB s at_ n p=false→(im.segs.take (k+1)).any (fun s=>holdB s at_ n p)=false):=Lib.hid (any_take_succ (fun s=>holdB s at_ n p) _ k s hx Hno.out)
   have Hd:Hid (holdB s at_ n p=(decide (s.at_≤at_)&&decide (n≤s.size)&&decide (at_-s.at_≤s.size-n)&&permB s.perm p)):=Lib.hid rfl
   clear hno hbel hx
   generalize holdB s at_ n p=hb at *
   generalize s.at_=sat at *
   generalize s.size=ssz at *
   generalize s.perm=spm at *
   generalize permB spm p=pb at *
   cases pb with
   | false=>
    have Hm:=Lib.hid (Hmiss.out (by rw [Hd.out];simp))
    go_wp2
    go_roundw
    case rel=>exact⟨k+1,by go_num,by omega,Hm.out,Hbel.out.alloc hBr _,by rw [World.cell?_alloc_lt _ _ _ hzq];exact Hq.out,by simp;omega⟩
    case measure=>simp [intOf];omega
   | true=>
    by_cases h1:sat≤at_
    case neg=>
     have Hm:=Lib.hid (Hmiss.out (by rw [Hd.out];simp [h1]))
     go_wp2
     go_roundw
     case rel=>exact⟨k+1,by go_num,by omega,Hm.out,Hbel.out.alloc hBr _,by rw [World.cell?_alloc_lt _ _ _ hzq];exact Hq.out,by simp;omega⟩
     case measure=>simp [intOf];omega
    by_cases h2:n≤ssz
    case neg=>
     have Hm:=Lib.hid (Hmiss.out (by rw [Hd.out];simp [h2]))
     go_wp2
     go_roundw
     case rel=>exact⟨k+1,by go_num,by omega,Hm.out,Hbel.out.alloc hBr _,by rw [World.cell?_alloc_lt _ _ _ hzq];exact Hq.out,by simp;omega⟩
     case measure=>simp [intOf];omega
    by_cases h3:at_≤sat+ssz-n
    ·have Hh:=Lib.hid (Hhit.out (by rw [Hd.out];simp [h1,h2];omega))
     go_wp2
     go_ret
     exact⟨by rw [Hh.out];rfl,Hbel.out.alloc hBr _⟩
    ·have Hm:=Lib.hid (Hmiss.out (by rw [Hd.out];simp [h1,h2];omega))
     go_wp2
     go_roundw
     case rel=>exact⟨k+1,by go_num,by omega,Hm.out,Hbel.out.alloc hBr _,by rw [World.cell?_alloc_lt _ _ _ hzq];exact Hq.out,by simp;omega⟩
     case measure=>simp [intOf];omega
  ·have Hn2:Hid (im.segs.any (fun s=>holdB s at_ n p)=false):=Lib.hid (by have:=Hno.out;rw [List.take_of_length_le (by omega)]at this;exact this)
   clear hno hbel
   go_wp2
   go_ret
   exact⟨by rw [Hn2.out];rfl,Hbel.out⟩
end Go.Proofs.Ytpomdoliblilfaa
namespace Go.Proofs.Ytpomdoliblilfaa
set_option linter.unusedVariables false
set_option linter.unusedSimpArgs false
open Go.RowKit
theorem symAt_neg (im:ImgL) (i:Int) (h:i<0):symAt im i=none:=by rw [symAt,if_pos h]
theorem symAt_far (im:ImgL) (i:Int) (h:(im.syms.length:Int)≤i):symAt im i=none:=by
 rw [symAt,if_neg (by omega)]
 exact List.getElem?_eq_none (by omega)
theorem symAt_in (im:ImgL) (k:Nat) (s:SymL) (h:im.syms[k]? =some s):symAt im k=some s:=by
 rw [symAt,if_neg (by omega),Int.toNat_natCast];exact h
def noSym:SymL:=⟨[],[],false,0,false,0,false,0,0⟩
def symD (im:ImgL) (i:Int):SymL:=(symAt im i).getD noSym
def symV (im:ImgL) (i:Int):Value:=.tuple #[.agg (symCells (symD im i)).toArray,.bool (symAt im i).isSome]
set_option maxHeartbeats 4000000 in
set_option maxRecDepth 100000 in
theorem isym_any (w:World) (v:ImgV) (im:ImgL) (i:Int) (hs:LB kSym (·<w.heap.size) w v.syms im.syms) (hi: -9223372036854775808≤i∧i≤9223372036854775807):
  Calls Try.prog 98 #[.agg (imgCells v im),.int .i64 i] w fun e w'=>e=.returned (symV im i)∧Below w.heap.size w w':=by
 unfold imgCells
 obtain⟨sa,sb,soff,scap,hsv,hsm,hsc,hat⟩:=hs.at
 rw [hsv]
 have Hat:=Lib.hid hat
 clear hs hat hsv
 by_cases h1:i<0
 ·have Hv:Hid (symV im i=.tuple #[.agg #[.string ⟨#[]⟩,.string ⟨#[]⟩,.bool false,.int .i64 0,.bool false,.int .i64 0,.bool false,.int .i64 0,.int .i64 0],.bool false]):=Lib.hid (by rw [symV,symD,symAt_neg im i h1];rfl)
  go_enter Try.func98,Try.ntmps98
  go_wp2
  refine bodyPost_ret (v:=.tuple #[.agg #[.string ⟨#[]⟩,.string ⟨#[]⟩,.bool false,.int .i64 0,.bool false,.int .i64 0,.bool false,.int .i64 0,.int .i64 0],.bool false]) (by simp [results,Try.results98,go_sem]) rfl ⟨by rw [Hv.out],((Below.refl _ _).alloc (Nat.le_refl _) _).alloc (by simp) _⟩
 by_cases h2:(im.syms.length:Int)≤i
 ·have Hv:Hid (symV im i=.tuple #[.agg #[.string ⟨#[]⟩,.string ⟨#[]⟩,.bool false,.int .i64 0,.bool false,.int .i64 0,.bool false,.int .i64 0,.int .i64 0],.bool false]):=Lib.hid (by rw [symV,symD,symAt_far im i h2];rfl)
  go_enter Try.func98,Try.ntmps98
  go_wp2
  refine bodyPost_ret (v:=.tuple #[.agg #[.string ⟨#[]⟩,.string ⟨#[]⟩,.bool false,.int .i64 0,.bool false,.int .i64 0,.bool false,.int .i64 0,.int .i64 0],.bool false]) (by simp [results,Try.results98,go_sem]) rfl ⟨by rw [Hv.out],((Below.refl _ _).alloc (Nat.le_refl _) _).alloc (by simp) _⟩
 ·obtain⟨k,rfl⟩:∃ k:Nat,i=k:=⟨i.toNat,by omega⟩
  have hlt:k<im.syms.length:=by omega
  obtain rfl:=Hat.out.addr (by omega)
  obtain⟨s,hx⟩:∃ s,im.syms[k]? =some s:=⟨_,List.getElem?_eq_getElem hlt⟩
  obtain⟨_,g0,g1,g2,g3,g4,g5,g6,g7,g8⟩:=Hat.out.sym9 k s hx
  have Hv:Hid (symV im (k:Int)=.tuple #[.agg #[.string ⟨s.name.toArray⟩,.string ⟨s.version.toArray⟩,.bool s.old,.int .i64 s.kind,.bool s.weak,.int .i64 s.vis,.bool s.defined,.int .i64 s.value,.int .i64 s.size],.bool true]):=Lib.hid (by rw [symV,symD,symAt_in im k s hx];rfl)
  have hsb:=World.block_lt_of_cell? _ _ g0
  clear hx h1 h2
  obtain⟨name,version,old,kind,weak,vis,defined,value,size⟩:=s
  simp only at *
  go_enter Try.func98,Try.ntmps98
  go_wp2
  refine bodyPost_ret (v:=.tuple #[.agg #[.string ⟨name.toArray⟩,.string ⟨version.toArray⟩,.bool old,.int .i64 kind,.bool weak,.int .i64 vis,.bool defined,.int .i64 value,.int .i64 size],.bool true]) (by simp [results,Try.results98,go_sem]) rfl ⟨by rw [Hv.out],((Below.refl _ _).alloc (Nat.le_refl _) _).alloc (by simp) _⟩
set_option maxHeartbeats 1000000 in
theorem ismall_any (w:World) (n:Int):
  Calls Try.prog 95 #[.int .i64 n] w fun e w'=>e=.returned (.bool (decide (-4294967296≤n)&&decide (n≤4294967296)))∧w'=w:=by
 by_cases h1: -4294967296≤n
 ·have hd1:decide (-4294967296≤n)=true:=by rw [decide_eq_true_eq];exact h1
  go_enter Try.func95,Try.ntmps95
  go_wp2
  go_ret
  exact⟨ret_bool' (by simp [h1]),rfl⟩
 ·have hd1:decide (-4294967296≤n)=false:=by rw [decide_eq_false_iff_not];exact h1
  go_enter Try.func95,Try.ntmps95
  go_wp2
  go_ret
  exact⟨ret_bool' (by simp [h1]),rfl⟩
theorem upL_same (n:Int) (h0:0≤n) (h:n%64=0):upL n=n:=by unfold upL;omega
theorem upL_next (n:Int) (h0:0≤n) (h:n%64≠0):upL n=n-n%64+64:=by unfold upL;omega
set_option maxHeartbeats 1000000 in
theorem jup_any (w:World) (n:Int) (h0:0≤n) (h1:n≤1000000):
  Calls Try.prog 64 #[.int .i64 n] w fun e w'=>e=.returned (.int .i64 (upL n))∧w'=w:=by
 by_cases h:n%64=0
 ·have hb:(n%64==0)=true:=by rw [beq_iff_eq];exact h
  have Hr:=Lib.hid (upL_same n h0 h)
  clear h
  go_enter Try.func64,Try.ntmps64
  go_wp2
  go_ret
  exact⟨by rw [Hr.out];rfl,rfl⟩
 ·have hb:(n%64==0)=false:=by rw [beq_eq_false_iff_ne];exact h
  have Hr:=Lib.hid (upL_next n h0 h)
  clear h
  go_enter Try.func64,Try.ntmps64
  go_wp2
  go_ret
  exact⟨by rw [Hr.out];rfl,rfl⟩
end Go.Proofs.Ytpomdoliblilfaa
namespace Go.Proofs.Ytpomdoliblilfaa
set_option linter.unusedVariables false
set_option linter.unusedSimpArgs false
open Go.RowKit
theorem img_cells {x:World} {b:Nat} {c0 c1 c2 c3 c4 c5 c6 c7 c8 c9 c10 c11 c12 c13 c14:Value} (h:x.heap[b]? =some (.cells #[c0,c1,c2,c3,c4,c5,c6,c7,c8,c9,c10,c11,c12,c13,c14] 44 (0,0))):
  x.cell? ⟨b,0,none⟩=some c0∧x.cell? ⟨b,1,none⟩=some c1∧x.cell? ⟨b,2,none⟩=some c2∧x.cell? ⟨b,3,none⟩=some c3∧x.cell? ⟨b,4,none⟩=some c4∧x.cell? ⟨b,5,none⟩=some c5∧x.cell? ⟨b,6,none⟩=some c6∧x.cell? ⟨b,7,none⟩=some c7∧
  x.cell? ⟨b,8,none⟩=some c8∧x.cell? ⟨b,9,none⟩=some c9∧x.cell? ⟨b,10,none⟩=some c10∧x.cell? ⟨b,11,none⟩=some c11∧x.cell? ⟨b,12,none⟩=some c12∧x.cell? ⟨b,13,none⟩=some c13∧x.cell? ⟨b,14,none⟩=some c14:=by
 refine⟨?_,?_,?_,?_,?_,?_,?_,?_,?_,?_,?_,?_,?_,?_,?_⟩<;>(rw [Lib.cell_of_heap h];rfl)
theorem wideL_none {im:ImgL} {r:RelL} (h:symAt im r.sym=none):wideL im r=8:=by rw [wideL,h]
theorem wideL_some {im:ImgL} {r:RelL} {s:SymL} (h:symAt im r.sym=some s):wideL im r=if r.kind=2 then s.size else 8:=by rw [wideL,h]
set_option maxHeartbeats 4000000 in
set_option maxRecDepth 100000 in
theorem iwide_any (w:World) (v:ImgV) (im:ImgL) (r:RelL) (hs:LB kSym (·<w.heap.size) w v.syms im.syms) (hi: -9223372036854775808≤r.sym∧r.sym≤9223372036854775807):
  Calls Try.prog 97 #[.agg (imgCells v im),.agg #[.int .i64 r.at_,.int .i64 r.kind,.int .i64 r.sym,.int .i64 r.add]] w fun e w'=>e=.returned (.int .i64 (wideL im r))∧Below w.heap.size w w':=by
 have B1:=Lib.hid (((Below.refl w.heap.size w).alloc (Nat.le_refl _) (.cells (imgCells v im) 44 (0,0))).alloc (by simp) (.cells #[.int .i64 r.at_,.int .i64 r.kind,.int .i64 r.sym,.int .i64 r.add] 124 (0,0)))
 have hsv:=hs.form
 have HS:=Lib.hid (isym_any ((w.alloc (.cells (imgCells v im) 44 (0,0))).alloc (.cells #[.int .i64 r.at_,.int .i64 r.kind,.int .i64 r.sym,.int .i64 r.add] 124 (0,0))) v im r.sym ((hs.below B1.out).mono B1.out.size) hi)
 have F1:((w.alloc (.cells (imgCells v im) 44 (0,0))).alloc (.cells #[.int .i64 r.at_,.int .i64 r.kind,.int .i64 r.sym,.int .i64 r.add] 124 (0,0))).heap[w.heap.size+1]? =some (.cells #[.int .i64 r.at_,.int .i64 r.kind,.int .i64 r.sym,.int .i64 r.add] 124 (0,0)):=by
  simpa only [World.size_alloc] using heap_alloc_new (w.alloc (.cells (imgCells v im) 44 (0,0))) _
 have HF1:=Lib.hid F1
 have Hn:Hid (symAt im r.sym=none→wideL im r=8):=Lib.hid wideL_none
 have Hsm:Hid (∀ s,symAt im r.sym=some s→wideL im r=if r.kind=2 then s.size else 8):=Lib.hid (fun s h=>wideL_some h)
 clear hs F1
 unfold imgCells at *
 go_enter Try.func97,Try.ntmps97
 go_wp2_with fail
 refine HS.out.mono ?_
 rintro e w2 ⟨rfl,hb2⟩
 have F2:=(hb2.block (w.heap.size+1) (by simp)).trans HF1.out
 have B2:=Lib.hid (B1.out.trans (hb2.mono (by simp;omega)))
 have q1:w2.cell? ⟨w.heap.size+1,1,none⟩=some (.int .i64 r.kind):=by rw [Lib.cell_of_heap F2];rfl
 have hB2:=B2.out.size
 have hzq:w.heap.size+1<w2.heap.size:=World.block_lt_of_cell? _ _ q1
 clear hb2 F2 HS
 cases hsa:symAt im r.sym with
 | none=>
  have Hw:=Lib.hid (Hn.out hsa)
  have hv:symV im r.sym=.tuple #[.agg #[.string ⟨#[]⟩,.string ⟨#[]⟩,.bool false,.int .i64 0,.bool false,.int .i64 0,.bool false,.int .i64 0,.int .i64 0],.bool false]:=by rw [symV,symD,hsa];rfl
  rw [hv]
  clear hv hsa
  go_wp2
  go_ret
  exact⟨by rw [Hw.out];rfl,B2.out.alloc hB2 _⟩
 | some s=>
  have Hw:=Lib.hid (Hsm.out s hsa)
  have hv:symV im r.sym=.tuple #[.agg #[.string ⟨s.name.toArray⟩,.string ⟨s.version.toArray⟩,.bool s.old,.int .i64 s.kind,.bool s.weak,.int .i64 s.vis,.bool s.defined,.int .i64 s.value,.int .i64 s.size],.bool true]:=by rw [symV,symD,hsa];rfl
  rw [hv]
  clear hv hsa
  by_cases hk:r.kind=2
  ·have Hw2:Hid (wideL im r=s.size):=Lib.hid (by rw [Hw.out,if_pos hk])
   go_wp2
   go_ret
   exact⟨by rw [Hw2.out];rfl,B2.out.alloc hB2 _⟩
  ·have Hw2:Hid (wideL im r=8):=Lib.hid (by rw [Hw.out,if_neg hk])
   have hkb:(r.kind==2)=false:=by rw [beq_eq_false_iff_ne];exact hk
   go_wp2
   go_ret
   exact⟨by rw [Hw2.out];rfl,B2.out.alloc hB2 _⟩
set_option maxHeartbeats 4000000 in
set_option maxRecDepth 100000 in
theorem jwide_any (w:World) (v:ImgV) (im:ImgL) (r:RelL) (hs:LB kSym (·<w.heap.size) w v.syms im.syms):
  Calls Try.prog 68 #[.agg (imgCells v im),.agg #[.int .i64 r.at_,.int .i64 r.kind,.int .i64 r.sym,.int .i64 r.add]] w fun e w'=>e=.returned (.int .i64 (wideL im r))∧Below w.heap.size w w':=by
 unfold imgCells
 obtain⟨sa,sb,soff,scap,hsv,hsm,hsc,hat⟩:=hs.at
 rw [hsv]
 have Hat:=Lib.hid hat
 clear hs hat hsv
 obtain⟨rat,rkind,rsym,radd⟩:=r
 simp only
 by_cases hk:rkind=2
 case neg=>
  have Hw:Hid (wideL im ⟨rat,rkind,rsym,radd⟩=8):=Lib.hid (by
   rw [wideL];split
   ·rw [if_neg hk]
   ·rfl)
  have hkb:(rkind==2)=false:=by rw [beq_eq_false_iff_ne];exact hk
  clear hk
  go_enter Try.func68,Try.ntmps68
  go_wp2
  go_ret
  exact⟨by rw [Hw.out];rfl,((Below.refl _ _).alloc (Nat.le_refl _) _).alloc (by simp) _⟩
 case pos=>
  subst hk
  by_cases h1:rsym<0
  ·have Hw:Hid (wideL im ⟨rat,2,rsym,radd⟩=8):=Lib.hid (wideL_none (symAt_neg im rsym h1))
   go_enter Try.func68,Try.ntmps68
   go_wp2
   go_ret
   exact⟨by rw [Hw.out];rfl,((Below.refl _ _).alloc (Nat.le_refl _) _).alloc (by simp) _⟩
  by_cases h2:(im.syms.length:Int)≤rsym
  ·have Hw:Hid (wideL im ⟨rat,2,rsym,radd⟩=8):=Lib.hid (wideL_none (symAt_far im rsym h2))
   go_enter Try.func68,Try.ntmps68
   go_wp2
   go_ret
   exact⟨by rw [Hw.out];rfl,((Below.refl _ _).alloc (Nat.le_refl _) _).alloc (by simp) _⟩
  ·obtain⟨k,rfl⟩:∃ k:Nat,rsym=k:=⟨rsym.toNat,by omega⟩
   have hlt:k<im.syms.length:=by omega
   obtain rfl:=Hat.out.addr (by omega)
   obtain⟨s,hx⟩:∃ s,im.syms[k]? =some s:=⟨_,List.getElem?_eq_getElem hlt⟩
   obtain⟨_,g0,g1,g2,g3,g4,g5,g6,g7,g8⟩:=Hat.out.sym9 k s hx
   have Hw:Hid (wideL im ⟨rat,2,(k:Int),radd⟩=s.size):=Lib.hid (by rw [wideL_some (symAt_in im k s hx)];rfl)
   have hsb:=World.block_lt_of_cell? _ _ g0
   clear hx h1 h2 g0 g1 g2 g3 g4 g5 g6 g7
   go_enter Try.func68,Try.ntmps68
   go_wp2
   go_ret
   exact⟨by rw [Hw.out];rfl,((Below.refl _ _).alloc (Nat.le_refl _) _).alloc (by simp) _⟩
end Go.Proofs.Ytpomdoliblilfaa
namespace Go.Proofs.Ytpomdoliblilfaa
set_option linter.unusedVariables false
set_option linter.unusedSimpArgs false
open Go.RowKit
theorem val_bool {a b:Bool} (h:a=b):Value.bool a=.bool b:=by rw [h]
def head0 (im:ImgL):Bool:=(decide (im.name=[])||nameB im.name)&&decide (0≤im.flags)&&decide (im.flags<16)&&decide (im.needed.length≤16)&&decide (im.runPath.length≤16)
def need0 (n:NeedL):Bool:=sizedB n.name&&decide (n.versions.length≤16)
theorem all_take_snoc {α:Type} (f:α→Bool) (l:List α) (k:Nat) (x:α) (hx:l[k]? =some x):(l.take (k+1)).all f=((l.take k).all f&&f x):=by
 obtain⟨h,rfl⟩:=List.getElem?_eq_some_iff.1 hx
 rw [List.take_succ_eq_append_getElem h,List.all_append]
 simp
set_option maxHeartbeats 16000000 in
set_option maxRecDepth 100000 in
theorem ihead_any (w:World) (v:ImgV) (im:ImgL) (hne:LB kNeed (·<w.heap.size) w v.needed im.needed) (hrp:LB kStr (·<w.heap.size) w v.runPath im.runPath) (hz:im.name.length≤9223372036854775807):
  Calls Try.prog 55 #[.agg (imgCells v im)] w fun e w'=>e=.returned (.bool (headB im))∧Below w.heap.size w w':=by
 have hsn:=size_mk im.name
 unfold imgCells
 obtain⟨na,nb,noff,ncap,hnv,hnm,hnc,hnat⟩:=hne.at
 obtain⟨ra,rb,roff,rcap,hrv,hrm,hrc,hrat⟩:=hrp.at
 rw [hnv,hrv]
 have B1:=Lib.hid ((Below.refl w.heap.size w).alloc (Nat.le_refl _) (.cells #[.string ⟨im.name.toArray⟩,.int .i64 im.flags,v.segs,.slice na im.needed.length ncap,.slice ra im.runPath.length rcap,v.syms,v.buckets,v.words,.int .i64 im.shift,v.relocs,v.slots,v.init,v.fini,v.tls,.int .i64 im.tlsSize] 44 (0,0)))
 have F1:=Lib.hid (heap_alloc_new w (.cells #[.string ⟨im.name.toArray⟩,.int .i64 im.flags,v.segs,.slice na im.needed.length ncap,.slice ra im.runPath.length rcap,v.syms,v.buckets,v.words,.int .i64 im.shift,v.relocs,v.slots,v.init,v.fini,v.tls,.int .i64 im.tlsSize] 44 (0,0)))
 have Hnat:=Lib.hid hnat
 have Hrat:=Lib.hid hrat
 have Hh:Hid (headB im=(head0 im&&im.needed.all needB&&im.runPath.all sizedB)):=Lib.hid rfl
 have H0:Hid (head0 im=((decide (im.name=[])||nameB im.name)&&decide (0≤im.flags)&&decide (im.flags<16)&&decide (im.needed.length≤16)&&decide (im.runPath.length≤16))):=Lib.hid rfl
 clear hne hrp hnat hrat hnv hrv
 go_enter Try.func55,Try.ntmps55
 go_upto_region 1 with fail
 go_cut [3] (fun s3 wx=>s3=.bool (head0 im)∧Below w.heap.size w wx∧wx.heap[w.heap.size]? =some (.cells #[.string ⟨im.name.toArray⟩,.int .i64 im.flags,v.segs,.slice na im.needed.length ncap,.slice ra im.runPath.length rcap,v.syms,v.buckets,v.words,.int .i64 im.shift,v.relocs,v.slots,v.init,v.fini,v.tls,.int .i64 im.tlsSize] 44 (0,0)))
 case first=>
  cases hq:im.name.isEmpty with
  | true=>
   have Hv:=Lib.hid (List.isEmpty_iff.1 hq)
   go_wp2_with fail
   all_goals go_meet
   all_goals first
    | (refine ⟨val_bool ?_,B1.out,F1.out⟩;rw [H0.out,Bool.eq_iff_iff];simp [Hv.out];done)
    | (refine ⟨val_bool ?_,B1.out,F1.out⟩;rw [H0.out,Bool.eq_iff_iff];simp [Hv.out];omega)
  | false=>
   have Hv:Hid (decide (im.name=[])=false):=Lib.hid (by rw [decide_eq_false_iff_not];intro e;rw [e]at hq;simp at hq)
   go_wp2_with fail
   refine(vname_any _ im.name hz).mono ?_
   rintro e w2 ⟨rfl,hb2⟩
   have F2:=Lib.hid ((hb2.block w.heap.size (by simp)).trans F1.out)
   have B2:=Lib.hid (B1.out.trans (hb2.mono B1.out.size))
   clear hb2
   obtain⟨c0,c1,c2,c3,c4,c5,c6,c7,c8,c9,c10,c11,c12,c13,c14⟩:=img_cells F2.out
   cases hn:nameB im.name
   all_goals
    have Hn:=Lib.hid hn
    go_wp2_with fail
    all_goals go_meet
    all_goals first
     | (refine ⟨val_bool ?_,B2.out,F2.out⟩;rw [H0.out,Bool.eq_iff_iff];simp [Hv.out,Hn.out];done)
     | (refine ⟨val_bool ?_,B2.out,F2.out⟩;rw [H0.out,Bool.eq_iff_iff];simp [Hv.out,Hn.out];omega)
 case rest=>
  obtain⟨rfl,hbw,hfw⟩:=hcut
  have Bw:=Lib.hid hbw
  have Fw:=Lib.hid hfw
  obtain⟨c0,c1,c2,c3,c4,c5,c6,c7,c8,c9,c10,c11,c12,c13,c14⟩:=img_cells hfw
  clear hbw hfw c0 c1 c2 c5 c6 c7 c8 c9 c10 c11 c12 c13 c14 H0 B1 F1
  generalize head0 im=h0 at *
  go_wp2_with fail
  go_loopw [3,43] (fun s3 i wr=>∃ k:Nat,i=.int .i64 k∧k≤im.needed.length∧s3=.bool (h0&&(im.needed.take k).all needB)∧Below w.heap.size w wr∧wr.heap[w.heap.size]? =some (.cells #[.string ⟨im.name.toArray⟩,.int .i64 im.flags,v.segs,.slice na im.needed.length ncap,.slice ra im.runPath.length rcap,v.syms,v.buckets,v.words,.int .i64 im.shift,v.relocs,v.slots,v.init,v.fini,v.tls,.int .i64 im.tlsSize] 44 (0,0))) (fun _ i _=>im.needed.length-(intOf i).toNat)
  case atStart=>exact⟨0,rfl,Nat.zero_le _,by simp,Bw.out,Fw.out⟩
  case round=>
   obtain⟨k,rfl,hk,rfl,hbel,hf⟩:=hrel
   have Hbel:=Lib.hid hbel
   have Hf:=Lib.hid hf
   have hBr:=hbel.size
   have hzq:w.heap.size<wr.heap.size:=by
    rcases Nat.lt_or_ge w.heap.size wr.heap.size with h' | h'
    ·exact h'
    ·rw [Array.getElem?_eq_none h']at hf;cases hf
   by_cases hlt:k<im.needed.length
   ·obtain rfl:=Hnat.out.addr (by omega)
    obtain⟨n,hx⟩:∃ n,im.needed[k]? =some n:=⟨_,List.getElem?_eq_getElem hlt⟩
    have hnbS:=Hnat.out.inS (by omega)
    obtain⟨c,g0w,g1w,hver,hnz⟩:=Hnat.out.need2 k n hx
    have g0:=(hbel.cell (p:=⟨nb,noff+k*2,none⟩) hnbS).trans g0w
    have g1:=(hbel.cell (p:=⟨nb,noff+k*2+1,none⟩) hnbS).trans g1w
    clear g0w g1w
    obtain⟨va,vb,voff,vcap,rfl,hvm,hvc,hvat⟩:=hver.at
    have Hvat:=Lib.hid hvat
    have Hsn:=Lib.hid (all_take_snoc needB im.needed k n hx)
    have hsz2:=size_mk n.name
    have Hn0:Hid (need0 n=(decide (1≤n.name.length)&&decide (n.name.length≤200)&&decide (n.versions.length≤16))):=Lib.hid rfl
    have Hnp:Hid (needB n=(need0 n&&n.versions.all nameB)):=Lib.hid rfl
    clear hbel hf hver hvat hx
    generalize hok:(h0&&(im.needed.take k).all needB)=ok at *
    have Hok:=Lib.hid hok
    clear hok
    go_upto_region 5 with fail
    go_cut [3] (fun s3 wx=>s3=.bool (ok&&need0 n)∧wx=wr.alloc (.cells #[.string ⟨n.name.toArray⟩,.slice va n.versions.length vcap] 73 (0,0)))
    case first=>
     cases ok with
     | false=>
      go_wp2_with fail
      go_meet
      exact⟨rfl,rfl⟩
     | true=>
      go_wp2_with fail
      all_goals go_meet
      all_goals first
       | (refine ⟨val_bool ?_,rfl⟩;rw [Hn0.out,Bool.eq_iff_iff];simp;done)
       | (refine ⟨val_bool ?_,rfl⟩;rw [Hn0.out,Bool.eq_iff_iff];simp;omega)
    case rest=>
     obtain⟨rfl,hwx⟩:=hcut
     have Bc:Hid (Below w.heap.size w wc):=Lib.hid (by rw [hwx];exact Hbel.out.alloc hBr _)
     have Fc:Hid (wc.heap[w.heap.size]? =some (.cells #[.string ⟨im.name.toArray⟩,.int .i64 im.flags,v.segs,.slice (some ⟨nb,noff,none⟩) im.needed.length ncap,.slice ra im.runPath.length rcap,v.syms,v.buckets,v.words,.int .i64 im.shift,v.relocs,v.slots,v.init,v.fini,v.tls,.int .i64 im.tlsSize] 44 (0,0))):=Lib.hid (by rw [hwx,Lib.alloc_old _ _ _ hzq];exact Hf.out)
     have d1:wc.cell? ⟨wr.heap.size,1,none⟩=some (.slice va n.versions.length vcap):=by
      rw [hwx,Lib.cell_of_heap (heap_alloc_new wr _)];rfl
     clear hwx Hbel Hf hBr hzq g0 g1
     generalize wr.heap.size=b5 at *
     generalize hok2:(ok&&need0 n)=ok2 at *
     have Hok2:=Lib.hid hok2
     clear hok2
     go_wp2_with fail
     go_loopw [3,69] (fun s3 j wi=>∃ q:Nat,j=.int .i64 q∧q≤n.versions.length∧s3=.bool (ok2&&(n.versions.take q).all nameB)∧Below w.heap.size w wi∧wi.heap[w.heap.size]? =some (.cells #[.string ⟨im.name.toArray⟩,.int .i64 im.flags,v.segs,.slice (some ⟨nb,noff,none⟩) im.needed.length ncap,.slice ra im.runPath.length rcap,v.syms,v.buckets,v.words,.int .i64 im.shift,v.relocs,v.slots,v.init,v.fini,v.tls,.int .i64 im.tlsSize] 44 (0,0))) (fun _ j _=>n.versions.length-(intOf j).toNat)
     case atStart=>exact⟨0,rfl,Nat.zero_le _,by simp,Bc.out,Fc.out⟩
     case round=>
      obtain⟨q,rfl,hq,rfl,hbel,hf⟩:=hrel
      have Hbel:=Lib.hid hbel
      have Hf:=Lib.hid hf
      by_cases hlt2:q<n.versions.length
      ·obtain rfl:=Hvat.out.addr (by omega)
       obtain⟨y,hy⟩:∃ y,n.versions[q]? =some y:=⟨_,List.getElem?_eq_getElem hlt2⟩
       obtain⟨hv2,hyz⟩:=(Hvat.out.below hbel).str1 q y hy
       have Hsy:=Lib.hid (all_take_snoc nameB n.versions q y hy)
       clear hbel hf hy
       generalize hok3:(ok2&&(n.versions.take q).all nameB)=ok3 at *
       have Hok3:=Lib.hid hok3
       clear hok3
       cases ok3 with
       | false=>
        go_wp2
        go_roundw
        case rel=>exact⟨q+1,by go_num,by omega,val_bool (by rw [Hsy.out,← Bool.and_assoc,Hok3.out];rfl),Hbel.out,Hf.out⟩
        case measure=>simp [intOf];omega
       | true=>
        have hzi:w.heap.size≤wr.heap.size:=Hbel.out.size
        have hzi2:w.heap.size<wr.heap.size:=by
         rcases Nat.lt_or_ge w.heap.size wr.heap.size with h' | h'
         ·exact h'
         ·have:=Hf.out;rw [Array.getElem?_eq_none h']at this;cases this
        go_wp2_with fail
        refine(vname_any _ y hyz).mono ?_
        rintro e w5 ⟨rfl,hb5⟩
        have B5:=Lib.hid (Hbel.out.trans (hb5.mono hzi))
        have F5:=Lib.hid ((hb5.block w.heap.size hzi2).trans Hf.out)
        clear hb5
        go_wp2
        go_roundw
        case rel=>exact⟨q+1,by go_num,by omega,val_bool (by rw [Hsy.out,← Bool.and_assoc,Hok3.out];rfl),B5.out,F5.out⟩
        case measure=>simp [intOf];omega
      ·have Hall:Hid (n.versions.take q=n.versions):=Lib.hid (List.take_of_length_le (by omega))
       clear hbel hf
       go_wp2
       go_roundw
       case rel=>exact⟨k+1,by go_num,by omega,val_bool (by rw [Hsn.out,Hnp.out,← Hok2.out,← Hok.out,Hall.out];simp [Bool.and_assoc]),Hbel.out,Hf.out⟩
       case measure=>simp [intOf];omega
   ·have hf2:=hf
    obtain⟨c0,c1,c2,c3,c4,c5,c6,c7,c8,c9,c10,c11,c12,c13,c14⟩:=img_cells hf
    have Hall:Hid (im.needed.take k=im.needed):=Lib.hid (List.take_of_length_le (by omega))
    rw [Hall.out]
    generalize hok:(h0&&im.needed.all needB)=ok at *
    have Hok:=Lib.hid hok
    clear hbel hf hf2 hok c0 c1 c2 c3 c5 c6 c7 c8 c9 c10 c11 c12 c13 c14
    go_wp2_with fail
    go_loop [3,83] (fun s3 i=>∃ q:Nat,i=.int .i64 q∧q≤im.runPath.length∧s3=.bool (ok&&(im.runPath.take q).all sizedB)) (fun _ i=>im.runPath.length-(intOf i).toNat)
    case atStart=>exact⟨0,rfl,Nat.zero_le _,by simp⟩
    case round=>
     obtain⟨q,rfl,hq,rfl⟩:=hrel
     by_cases hlt2:q<im.runPath.length
     ·obtain rfl:=Hrat.out.addr (by omega)
      obtain⟨y,hy⟩:∃ y,im.runPath[q]? =some y:=⟨_,List.getElem?_eq_getElem hlt2⟩
      obtain⟨hv2,hyz⟩:=(Hrat.out.below Hbel.out).str1 q y hy
      have Hsy:=Lib.hid (all_take_snoc sizedB im.runPath q y hy)
      have hszy:=size_mk y
      have Hsz:Hid (sizedB y=(decide (1≤y.length)&&decide (y.length≤200))):=Lib.hid rfl
      clear hy
      generalize hok3:(ok&&(im.runPath.take q).all sizedB)=ok3 at *
      have Hok3:=Lib.hid hok3
      clear hok3
      cases ok3 with
      | false=>
       go_wp2
       go_round
       case rel=>exact⟨q+1,by go_num,by omega,val_bool (by rw [Hsy.out,← Bool.and_assoc,Hok3.out];rfl)⟩
       case measure=>simp [intOf];omega
      | true=>
       by_cases hy1:1≤y.length
       ·have hd1:decide (1≤(y.length:Int))=true:=by rw [decide_eq_true_eq];omega
        by_cases hy2:y.length≤200
        ·have hd2:decide ((y.length:Int)≤200)=true:=by rw [decide_eq_true_eq];omega
         go_wp2
         go_round
         case rel=>exact⟨q+1,by go_num,by omega,val_bool (by rw [Hsy.out,← Bool.and_assoc,Hok3.out,Hsz.out];simp [hy1,hy2])⟩
         case measure=>simp [intOf];omega
        ·have hd2:decide ((y.length:Int)≤200)=false:=by rw [decide_eq_false_iff_not];omega
         go_wp2
         go_round
         case rel=>exact⟨q+1,by go_num,by omega,val_bool (by rw [Hsy.out,← Bool.and_assoc,Hok3.out,Hsz.out];simp [hy2])⟩
         case measure=>simp [intOf];omega
       ·have hd1:decide (1≤(y.length:Int))=false:=by rw [decide_eq_false_iff_not];omega
        go_wp2
        go_round
        case rel=>exact⟨q+1,by go_num,by omega,val_bool (by rw [Hsy.out,← Bool.and_assoc,Hok3.out,Hsz.out];simp [hy1])⟩
        case measure=>simp [intOf];omega
     ·have Hall2:Hid (im.runPath.take q=im.runPath):=Lib.hid (List.take_of_length_le (by omega))
      go_wp2
      go_ret
      exact⟨ret_bool' (by rw [Hh.out,Hall2.out]),Hbel.out⟩
end Go.Proofs.Ytpomdoliblilfaa
namespace Go.Proofs.Ytpomdoliblilfaa
set_option linter.unusedVariables false
set_option linter.unusedSimpArgs false
open Go.RowKit
theorem drop_cons {α:Type} (l:List α) (k:Nat) (x:α) (hx:l[k]? =some x):l.drop k=x :: l.drop (k+1):=by
 obtain⟨h,rfl⟩:=List.getElem?_eq_some_iff.1 hx
 exact List.drop_eq_getElem_cons h
def SegGood (e:Int) (s:SegL):Prop:=
 e≤s.at_∧0≤s.at_∧s.at_≤65536∧s.at_%64=0∧1≤s.size∧s.at_+s.size≤65536∧(s.bytes.length:Int)≤s.size∧0≤s.perm∧s.perm≤7
theorem segsFrom_good {e:Int} {s:SegL} {l:List SegL} (h:SegGood e s):segsFrom e (s :: l)=segsFrom (upL (s.at_+s.size)) l:=by
 obtain⟨h1,h2,h3,h4,h5,h6,h7,h8,h9⟩:=h
 simp [segsFrom,segB,h1,h2,h3,h4,h5,h6,h7,h8,h9]
theorem segsFrom_bad {e:Int} {s:SegL} {l:List SegL} (h:¬ SegGood e s):segsFrom e (s :: l)=false:=by
 rw [segsFrom]
 by_cases h1:(decide (e≤s.at_)&&segB s)=true
 ·exfalso
  apply h
  simp [segB]at h1
  unfold SegGood
  omega
 ·simp only [Bool.not_eq_true]at h1
  rw [h1];rfl
set_option maxHeartbeats 16000000 in
set_option maxRecDepth 100000 in
theorem isegs_any (w:World) (v:ImgV) (im:ImgL) (hs:LB kSeg (·<w.heap.size) w v.segs im.segs) (hr:∀ s∈im.segs,-9223372036854775808≤s.at_∧s.size≤9223372036854775807):
  Calls Try.prog 56 #[.agg (imgCells v im)] w fun e w'=>e=.returned (.bool (segsB im.segs))∧Below w.heap.size w w':=by
 unfold imgCells
 obtain⟨sa,sb,soff,scap,hsv,hsm,hsc,hat⟩:=hs.at
 rw [hsv]
 have Hat:=Lib.hid hat
 have Hr:=Lib.hid hr
 have Hd:Hid (segsB im.segs=(decide (1≤im.segs.length)&&decide (im.segs.length≤8)&&segsFrom 0 im.segs)):=Lib.hid rfl
 clear hs hat hsv hr
 go_enter Try.func56,Try.ntmps56
 go_wp2
 go_loopw [3,9] (fun s3 i wr=>∃ (k:Nat) (e:Int),i=.int .i64 k∧k≤im.segs.length∧s3=.int .i64 e∧0≤e∧e≤200000∧segsFrom 0 im.segs=segsFrom e (im.segs.drop k)∧Below w.heap.size w wr∧wr.cell? ⟨w.heap.size,2,none⟩=some (.slice sa im.segs.length scap)∧w.heap.size<wr.heap.size) (fun _ i _=>im.segs.length-(intOf i).toNat)
 case atStart=>exact⟨0,0,rfl,Nat.zero_le _,rfl,by omega,by omega,by simp,(Below.refl _ _).alloc (Nat.le_refl _) _,by simp,by simp⟩
 case round=>
  obtain⟨k,e,rfl,hk,rfl,he0,he1,hse,hbel,hq,hzq⟩:=hrel
  have Hq:=Lib.hid hq
  have Hse:=Lib.hid hse
  have Hbel:=Lib.hid hbel
  have hBr:=hbel.size
  by_cases hlt:k<im.segs.length
  ·obtain rfl:=Hat.out.addr (by omega)
   obtain⟨s,hx⟩:∃ s,im.segs[k]? =some s:=⟨_,List.getElem?_eq_getElem hlt⟩
   obtain⟨c,g0,g1,g2,g3,hc⟩:=(Hat.out.below hbel).seg4 k s hx
   obtain⟨ca,cc,rfl⟩:=hc.form
   have hr:=Hr.out s (List.mem_of_getElem? hx)
   have Hdc:=Lib.hid (drop_cons im.segs k s hx)
   have hcm:=hc.max
   clear hbel hse hx hc hq
   by_cases hg:SegGood e s
   ·have Hn:Hid (segsFrom 0 im.segs=segsFrom (upL (s.at_+s.size)) (im.segs.drop (k+1))):=Lib.hid (by rw [Hse.out,Hdc.out,segsFrom_good hg])
    obtain⟨h1,h2,h3,h4,h5,h6,h7,h8,h9⟩:=hg
    have Hu:Hid (s.at_+(s.size+64-1)/64*64=upL (s.at_+s.size)):=Lib.hid (by unfold upL;omega)
    have hu0:0≤upL (s.at_+s.size):=by unfold upL;omega
    have hu1:upL (s.at_+s.size)≤200000:=by unfold upL;omega
    have hm:(s.at_%64 != 0)=false:=by rw [bne_eq_false_iff_eq];exact h4
    clear h4
    have Hu0:=Lib.hid hu0
    have Hu1:=Lib.hid hu1
    clear hu0 hu1
    generalize s.at_=sat at *
    generalize s.size=ssz at *
    generalize s.perm=spm at *
    go_wp2
    go_roundw
    case rel=>exact⟨k+1,_,by go_num,by omega,by rw [← Hu.out],Hu0.out,Hu1.out,Hn.out,Hbel.out.alloc hBr _,by rw [World.cell?_alloc_lt _ _ _ hzq];exact Hq.out,by simp;omega⟩
    case measure=>simp [intOf];omega
   ·have Hn:Hid (segsB im.segs=false):=Lib.hid (by rw [Hd.out,Hse.out,Hdc.out,segsFrom_bad hg];simp)
    have Hg:Hid (¬ (e≤s.at_∧0≤s.at_∧s.at_≤65536∧s.at_%64=0∧1≤s.size∧s.at_+s.size≤65536∧(s.bytes.length:Int)≤s.size∧0≤s.perm∧s.perm≤7)):=Lib.hid hg
    clear hg
    generalize s.at_=sat at *
    generalize s.size=ssz at *
    generalize s.perm=spm at *
    by_cases h1:e≤sat
    ·go_wp2
     all_goals first
      | (go_ret;exact⟨by rw [Hn.out];rfl,Hbel.out.alloc hBr _⟩)
      | (exfalso;have:=Hg.out;(try simp only [beq_eq_false_iff_ne,bne_eq_false_iff_eq,bne_iff_ne,beq_iff_eq,ne_eq]at *);omega)
    ·go_wp2
     go_ret
     exact⟨by rw [Hn.out];rfl,Hbel.out.alloc hBr _⟩
  ·have Hn:Hid (segsFrom 0 im.segs=true):=Lib.hid (by rw [hse,List.drop_eq_nil_of_le (by omega)];rfl)
   clear hse hbel
   by_cases h1:1≤im.segs.length
   ·have hd1:decide (1≤(im.segs.length:Int))=true:=by rw [decide_eq_true_eq];omega
    go_wp2
    go_ret
    exact⟨ret_bool' (by rw [Hd.out,Hn.out,Bool.eq_iff_iff];simp [h1];omega),Hbel.out⟩
   ·have hd1:decide (1≤(im.segs.length:Int))=false:=by rw [decide_eq_false_iff_not];omega
    go_wp2
    go_ret
    exact⟨ret_bool' (by rw [Hd.out];simp [h1]),Hbel.out⟩
end Go.Proofs.Ytpomdoliblilfaa
namespace Go.Proofs.Ytpomdoliblilfaa
set_option linter.unusedVariables false
set_option linter.unusedSimpArgs false
theorem digitsL_len (size:Nat) (n:Int):(digitsL size n).length=size:=by simp [digitsL]
end Go.Proofs.Ytpomdoliblilfaa
namespace Go.Proofs.Ytpomdoliblilfaa
set_option linter.unusedVariables false
set_option linter.unusedSimpArgs false
structure Codec {α:Type} (p:List UInt8→Option (α × List UInt8)) (f:α→List UInt8) (ok:α→Prop):Prop where
 there:∀ x t,ok x→p (f x++t)=some (x,t)
 back:∀ l x t,p l=some (x,t)→ok x∧f x++t=l
def okN (size:Nat) (n:Int):Prop:=if size=8 then -9223372036854775808≤n∧n<9223372036854775808 else 0≤n∧n<256 ^ size
def okSeg (s:SegL):Prop:=okN 4 s.at_∧okN 4 s.size∧okN 1 s.perm∧s.bytes.length≤1048576
def okLen (size n:Nat):Prop:=n<256 ^ size
def okTexts (l:List (List UInt8)):Prop:=okLen 1 l.length∧∀ x∈l,x.length≤4096
def okNeed (n:NeedL):Prop:=n.name.length≤4096∧okTexts n.versions
def okSym (s:SymL):Prop:=s.name.length≤4096∧s.version.length≤4096∧okN 1 s.kind∧okN 1 s.vis∧okN 8 s.value∧okN 8 s.size
def okRel (r:RelL):Prop:=okN 1 r.kind∧okN 8 r.at_∧okN 8 r.sym∧okN 8 r.add
def okSlot (s:SlotL):Prop:=okN 4 s.at_∧okN 4 s.sym∧okN 4 s.stub
structure OkImg (im:ImgL):Prop where
 name:im.name.length≤4096
 flags:okN 1 im.flags
 segs:okLen 1 im.segs.length∧∀ s∈im.segs,okSeg s
 needed:okLen 1 im.needed.length∧∀ n∈im.needed,okNeed n
 runPath:okTexts im.runPath
 syms:okLen 2 im.syms.length∧∀ s∈im.syms,okSym s
 buckets:okLen 2 im.buckets.length∧∀ c∈im.buckets,okLen 2 c.length∧∀ x∈c,okN 2 x
 shift:okN 1 im.shift
 words:okLen 1 im.words.length∧∀ x∈im.words,0≤x∧x<18446744073709551616
 relocs:okLen 2 im.relocs.length∧∀ r∈im.relocs,okRel r
 slots:okLen 2 im.slots.length∧∀ s∈im.slots,okSlot s
 init:okLen 1 im.init.length∧∀ x∈im.init,okN 4 x
 fini:okLen 1 im.fini.length∧∀ x∈im.fini,okN 4 x
 tlsSize:okN 2 im.tlsSize
 tls:im.tls.length≤1048576
end Go.Proofs.Ytpomdoliblilfaa
namespace Go.Proofs.Ytpomdoliblilfaa
set_option linter.unusedVariables false
set_option linter.unusedSimpArgs false
theorem may_parts {im:ImgL} (h:mayL im=0):headB im=true∧segsB im.segs=true∧tlsB im=true∧symsB im=true∧tableB im=true∧relocsB im=true∧slotsB im=true∧runB im im.init=true∧runB im im.fini=true:=by
 unfold mayL at h
 by_cases h1:headB im=false
 ·rw [if_pos h1]at h;cases h
 rw [if_neg h1]at h
 by_cases h2:segsB im.segs=false
 ·rw [if_pos h2]at h;cases h
 rw [if_neg h2]at h
 by_cases h3:tlsB im=false
 ·rw [if_pos h3]at h;cases h
 rw [if_neg h3]at h
 by_cases h4:symsB im=false
 ·rw [if_pos h4]at h;cases h
 rw [if_neg h4]at h
 by_cases h5:tableB im=false
 ·rw [if_pos h5]at h;cases h
 rw [if_neg h5]at h
 by_cases h6:relocsB im=false
 ·rw [if_pos h6]at h;cases h
 rw [if_neg h6]at h
 by_cases h7:slotsB im=false
 ·rw [if_pos h7]at h;cases h
 rw [if_neg h7]at h
 by_cases h8:(runB im im.init&&runB im im.fini)=false
 ·rw [if_pos h8]at h;cases h
 simp only [Bool.not_eq_false,Bool.and_eq_true]at*
 exact⟨h1,h2,h3,h4,h5,h6,h7,h8.1,h8.2⟩
theorem segsFrom_each:∀ (l:List SegL) (e:Int),segsFrom e l=true→∀ s∈l,segB s=true
 | [],_,_,s,hs=>by cases hs
 | a :: l,e,h,s,hs=>by
  simp only [segsFrom,Bool.and_eq_true]at h
  rcases List.mem_cons.1 hs with rfl | hs
  ·exact h.1.2
  ·exact segsFrom_each l _ h.2 s hs
theorem segB_good {s:SegL} (h:segB s=true):0≤s.at_∧s.at_≤65536∧1≤s.size∧s.size≤65536∧0≤s.perm∧s.perm≤7∧s.at_+s.size≤65536∧(s.bytes.length:Int)≤s.size:=by
 simp only [segB,Bool.and_eq_true,decide_eq_true_eq]at h
 omega
theorem segs_good {im:ImgL} (h:segsB im.segs=true):∀ s∈im.segs,0≤s.at_∧s.at_≤65536∧1≤s.size∧s.size≤65536∧0≤s.perm∧s.perm≤7∧s.at_+s.size≤65536∧(s.bytes.length:Int)≤s.size:=fun s hs=>by
 simp only [segsB,Bool.and_eq_true]at h
 exact segB_good (segsFrom_each _ _ h.2 s hs)
theorem holds_range {l:List SegL} {at_ n p:Int} (hl:∀ s∈l,0≤s.at_∧s.at_≤65536∧1≤s.size∧s.size≤65536∧0≤s.perm∧s.perm≤7∧s.at_+s.size≤65536∧(s.bytes.length:Int)≤s.size) (h:holdsB l at_ n p=true):0≤at_∧n≤65536∧at_+n≤65536:=by
 obtain⟨s,hs,h2⟩:=List.any_eq_true.1 h
 have:=hl s hs
 simp only [Bool.and_eq_true,decide_eq_true_eq]at h2
 omega
theorem symsFrom_each (segs:List SegL) (tls:Int):∀ (l done:List SymL),symsFrom segs tls done l=true→∀ s∈l,symB segs tls s=true
 | [],_,_,s,hs=>by cases hs
 | a :: l,done,h,s,hs=>by
  simp only [symsFrom,Bool.and_eq_true]at h
  rcases List.mem_cons.1 hs with rfl | hs
  ·exact h.1.1
  ·exact symsFrom_each segs tls l _ h.2 s hs
theorem nameB_len {s:List UInt8} (h:nameB s=true):1≤s.length∧s.length≤64:=by
 simp only [nameB,Bool.and_eq_true,decide_eq_true_eq]at h;exact⟨h.1.2,h.2⟩
theorem optB_len {s:List UInt8} (h:(decide (s=[])||nameB s)=true):s.length≤64:=by
 simp only [Bool.or_eq_true,decide_eq_true_eq]at h
 rcases h with h | h
 ·rw [h];decide
 ·exact(nameB_len h).2
theorem sym_good {im:ImgL} (hg:segsB im.segs=true) (ht:tlsB im=true) {s:SymL} (h:symB im.segs im.tlsSize s=true):
  (1≤s.name.length∧s.name.length≤64)∧s.version.length≤64∧(1≤s.kind∧s.kind≤3)∧(0≤s.vis∧s.vis≤2)∧(0≤s.value∧s.value≤65536)∧0≤s.size∧s.size≤65536:=by
 simp only [symB,Bool.and_eq_true]at h
 obtain⟨h1,h2⟩:=h
 simp only [symRightB,Bool.and_eq_true]at h1
 obtain⟨⟨⟨⟨⟨⟨⟨⟨⟨a1,a2⟩,a3⟩,a4⟩,a5⟩,a6⟩,a7⟩,a8⟩,a9⟩,_⟩:=h1
 simp only [decide_eq_true_eq]at a3 a4 a5 a6 a7 a8
 refine⟨nameB_len a1,optB_len a2,⟨a3,a4⟩,⟨a5,a6⟩,?_⟩
 cases hd:s.defined with
 | false=>
  rw [hd]at a9
  simp at a9
  omega
 | true=>
  rw [hd]at h2
  simp only [Bool.not_true,Bool.false_or]at h2
  simp only [tlsB,Bool.and_eq_true,decide_eq_true_eq]at ht
  by_cases hk:s.kind=3
  ·rw [if_pos hk]at h2
   simp only [Bool.and_eq_true,decide_eq_true_eq]at h2
   omega
  ·rw [if_neg hk]at h2
   have:=holds_range (segs_good hg) h2
   omega
theorem relocsFrom_each (im:ImgL):∀ (l:List RelL) (e:Int),relocsFrom im e l=true→∀ r∈l,relocB im r=true
 | [],_,_,s,hs=>by cases hs
 | a :: l,e,h,s,hs=>by
  simp only [relocsFrom,Bool.and_eq_true]at h
  rcases List.mem_cons.1 hs with rfl | hs
  ·exact h.1.2
  ·exact relocsFrom_each im l _ h.2 s hs
theorem symAt_range {im:ImgL} {i:Int} {s:SymL} (h:symAt im i=some s):0≤i∧i<im.syms.length∧s∈im.syms:=by
 unfold symAt at h
 by_cases hi:i<0
 ·rw [if_pos hi]at h;cases h
 ·rw [if_neg hi]at h
  have:=(List.getElem?_eq_some_iff.1 h).1
  exact⟨by omega,by omega,List.mem_of_getElem? h⟩
theorem reloc_good {im:ImgL} (hg:segsB im.segs=true) (hs:im.syms.length≤512) {r:RelL} (h:relocB im r=true):
  (0≤r.at_∧r.at_+wideL im r≤65536)∧(0≤r.kind∧r.kind≤7)∧(-1≤r.sym∧r.sym≤512)∧(-4294967296≤r.add∧r.add≤4294967296):=by
 unfold relocB at h
 by_cases hk:r.kind=1
 ·rw [if_pos hk]at h
  simp only [Bool.and_eq_true,decide_eq_true_eq]at h
  have:=holds_range (segs_good hg) h.2
  have hw:wideL im r=8:=by
   unfold wideL
   split
   ·rw [if_neg (by omega)]
   ·rfl
  omega
 ·rw [if_neg hk]at h
  cases hsy:symAt im r.sym with
  | none=>rw [hsy]at h;cases h
  | some s=>
   rw [hsy]at h
   have hr:=symAt_range hsy
   simp only [Bool.and_eq_true,decide_eq_true_eq]at h
   obtain⟨⟨h1,h2⟩,h3⟩:=h
   have hw:wideL im r=if r.kind=2 then s.size else 8:=by rw [wideL,hsy]
   by_cases k1:r.kind=0∨r.kind=6
   ·rw [if_pos k1]at h3
    simp only [Bool.and_eq_true]at h3
    have:=holds_range (segs_good hg) h3.2
    rw [if_neg (by omega)]at hw
    omega
   rw [if_neg k1]at h3
   by_cases k2:r.kind=7
   ·rw [if_pos k2]at h3
    simp only [Bool.and_eq_true]at h3
    have:=holds_range (segs_good hg) h3.2
    rw [if_neg (by omega)]at hw
    omega
   rw [if_neg k2]at h3
   by_cases k3:r.kind=3
   ·rw [if_pos k3]at h3
    simp only [Bool.and_eq_true]at h3
    have:=holds_range (segs_good hg) h3.2
    rw [if_neg (by omega)]at hw
    omega
   rw [if_neg k3]at h3
   by_cases k4:r.kind=4∨r.kind=5
   ·rw [if_pos k4]at h3
    simp only [Bool.and_eq_true]at h3
    have:=holds_range (segs_good hg) h3.2
    rw [if_neg (by omega)]at hw
    omega
   rw [if_neg k4]at h3
   by_cases k5:r.kind=2
   ·rw [if_pos k5]at h3
    simp only [Bool.and_eq_true]at h3
    have:=holds_range (segs_good hg) h3.2
    rw [if_pos k5]at hw
    omega
   ·rw [if_neg k5]at h3;cases h3
theorem chain_good {im:ImgL} (h:tableB im=true):∀ c∈im.buckets,c.length≤512∧∀ i∈c,0≤i∧i<512:=by
 have hd:∀ c∈im.buckets,c.length≤(im.buckets.map List.length).sum:=by
  intro c hc
  generalize im.buckets=bs at hc
  induction bs with
  | nil=>cases hc
  | cons b bs ih=>
   simp only [List.map_cons,List.sum_cons]
   rcases List.mem_cons.1 hc with rfl | hc
   ·omega
   ·have:=ih hc;omega
 simp only [tableB,Bool.and_eq_true,decide_eq_true_eq]at h
 obtain⟨⟨⟨⟨⟨h1,_⟩,_⟩,_⟩,h5⟩,h6⟩:=h
 have hf:=List.length_filter_le seenB im.syms
 have h7:=(chainsB_iff im im.buckets 0).1 h5
 intro c hc
 refine⟨by have:=hd c hc;omega,fun i hi=> ?_⟩
 obtain⟨j,hj⟩:=List.getElem?_of_mem hc
 obtain⟨k,hk,rfl,_⟩:=entry_home.1 (h7.2 j c hj i hi)
 have:=((seenK_mem _ _ _).1 hk).1
 omega
end Go.Proofs.Ytpomdoliblilfaa
