/- Lemmas. -/
import Derived.Test.YtfchpchabdhcgaaGreatDec5
set_option linter.unusedVariables false
set_option linter.unusedSimpArgs false
set_option maxHeartbeats 64000000
set_option maxRecDepth 100000
namespace Go.Proofs.YtfchpchabdhcgaaGreat
open Go.RowKit
theorem jstands_any (w:World) (v:ImgV) (im:ImgL) (at_ n p:Int) (hs:LB kSeg (·<w.heap.size) w v.segs im.segs) (hok:∀ s∈im.segs,SegOk s)
  (ha: -9223372036854775808≤at_∧at_≤9223372036854775807) (hn:0≤n∧n≤9223372036854775807) (hp:p=0∨p=2∨p=4):
  Calls Tryz.prog 93 #[.agg (imgCells v im),.int .i64 at_,.int .i64 n,.int .i64 p] w fun e w'=>e=.returned (.bool (holdsB im.segs at_ n p))∧Below w.heap.size w w':=by
 rw [holdsB_any]
 unfold imgCells
 obtain⟨sa,sb,soff,scap,hsv,hsm,hsc,hat⟩:=hs.at
 rw [hsv]
 have Hat:=Lib.hid hat
 have Hok:=Lib.hid hok
 have Hp:=Lib.hid hp
 clear hs hat hok hp hsv
 go_enter Tryz.func93,Tryz.ntmps93
 go_wp2
 go_loopw [9] (fun i wr=>∃ (k:Nat),i=.int .i64 k∧k≤im.segs.length∧(im.segs.take k).any (fun s=>holdB s at_ n p)=false∧Below w.heap.size w wr∧wr.cell? ⟨w.heap.size,2,none⟩=some (.slice sa im.segs.length scap)∧w.heap.size<wr.heap.size) (fun i _=>im.segs.length-(intOf i).toNat)
 case atStart=>exact⟨0,rfl,Nat.zero_le _,rfl,(Below.refl _ _).alloc (Nat.le_refl _) _,by simp,by simp⟩
 case round=>
  obtain⟨k,rfl,hk,hno,hbel,hq,hzq⟩:=hrel
  have Hno:=Lib.hid hno
  have Hbel:=Lib.hid hbel
  have Hq:=Lib.hid hq
  have hBr:=hbel.size
  by_cases hlt:k<im.segs.length
  ·obtain rfl:=Hat.out.addr (by omega)
   obtain⟨s,hx⟩:∃ s,im.segs[k]? =some s:=⟨_,List.getElem?_eq_getElem hlt⟩
   obtain⟨c,g0,g1,g2,g3,hc⟩:=(Hat.out.below hbel).seg4 k s hx
   obtain⟨ca,cc,rfl⟩:=hc.form
   clear hc
   obtain⟨o1,o2,o3,o4,o5,o6⟩:=Hok.out s (List.mem_of_getElem? hx)
   have hpb:=permB_bits s.perm p o5 o6 Hp.out
   have Hhit:Hid (holdB s at_ n p=true→im.segs.any (fun s=>holdB s at_ n p)=true):=Lib.hid (any_hit (fun s=>holdB s at_ n p) _ k s hx)
   have Hmiss:Hid (holdB s at_ n p=false→(im.segs.take (k+1)).any (fun s=>holdB s at_ n p)=false):=Lib.hid (any_take_succ (fun s=>holdB s at_ n p) _ k s hx Hno.out)
   have Hd:Hid (holdB s at_ n p=(decide (s.at_≤at_)&&decide (n≤s.size)&&decide (at_-s.at_≤s.size-n)&&permB s.perm p)):=Lib.hid rfl
   clear hno hbel hx
   generalize holdB s at_ n p=hb at *
   generalize s.at_=sat at *
   generalize s.size=ssz at *
   generalize s.perm=spm at *
   generalize permB spm p=pb at *
   cases pb with
   | false=>
    have Hm:=Lib.hid (Hmiss.out (by rw [Hd.out];simp))
    go_wp2
    go_roundw
    case rel=>exact⟨k+1,by go_num,by omega,Hm.out,Hbel.out.alloc hBr _,by rw [World.cell?_alloc_lt _ _ _ hzq];exact Hq.out,by simp;omega⟩
    case measure=>simp [intOf];omega
   | true=>
    by_cases h1:sat≤at_
    case neg=>
     have Hm:=Lib.hid (Hmiss.out (by rw [Hd.out];simp [h1]))
     go_wp2
     go_roundw
     case rel=>exact⟨k+1,by go_num,by omega,Hm.out,Hbel.out.alloc hBr _,by rw [World.cell?_alloc_lt _ _ _ hzq];exact Hq.out,by simp;omega⟩
     case measure=>simp [intOf];omega
    by_cases h2:n≤ssz
    case neg=>
     have Hm:=Lib.hid (Hmiss.out (by rw [Hd.out];simp [h2]))
     go_wp2
     go_roundw
     case rel=>exact⟨k+1,by go_num,by omega,Hm.out,Hbel.out.alloc hBr _,by rw [World.cell?_alloc_lt _ _ _ hzq];exact Hq.out,by simp;omega⟩
     case measure=>simp [intOf];omega
    by_cases h3:at_≤sat+ssz-n
    ·have Hh:=Lib.hid (Hhit.out (by rw [Hd.out];simp [h1,h2];omega))
     go_wp2
     go_ret
     exact⟨by rw [Hh.out];rfl,Hbel.out.alloc hBr _⟩
    ·have Hm:=Lib.hid (Hmiss.out (by rw [Hd.out];simp [h1,h2];omega))
     go_wp2
     go_roundw
     case rel=>exact⟨k+1,by go_num,by omega,Hm.out,Hbel.out.alloc hBr _,by rw [World.cell?_alloc_lt _ _ _ hzq];exact Hq.out,by simp;omega⟩
     case measure=>simp [intOf];omega
  ·have Hn2:Hid (im.segs.any (fun s=>holdB s at_ n p)=false):=Lib.hid (by have:=Hno.out;rw [List.take_of_length_le (by omega)]at this;exact this)
   clear hno hbel
   go_wp2
   go_ret
   exact⟨by rw [Hn2.out];rfl,Hbel.out⟩
end Go.Proofs.YtfchpchabdhcgaaGreat
