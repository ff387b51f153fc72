/- Lemmas. -/
import Derived.Test.YtfchpchabdhcgaaGreatDec29
import Derived.Test.YtfchpchabdhcgaaGreatDec4
import Derived.Test.YtfchpchabdhcgaaGreatDec12
import Derived.Test.YtfchpchabdhcgaaGreatDec6
import Derived.Test.YtfchpchabdhcgaaGreatDec11
import Derived.Test.YtfchpchabdhcgaaGreatDec9
import Derived.Test.YtfchpchabdhcgaaGreatDec20
import Derived.Test.YtfchpchabdhcgaaGreatDec27
import Derived.Test.YtfchpchabdhcgaaGreatDec31
import Derived.Test.YtfchpchabdhcgaaGreatRows
import Derived.ProofKit
import Derived.OpenShut
import Derived.Carry
import Derived.Deep.Matrix
import Derived.Deep.Slices
import Derived.Deep.DeepCutAuto
import Derived.Deep.QuietTactic
import Derived.BigQuiet
import Derived.IntWalk
set_option linter.unusedVariables false
set_option linter.unusedSimpArgs false
set_option maxHeartbeats 64000000
set_option maxRecDepth 100000
namespace Go.Proofs.YtfchpchabdhcgaaGreat
open Go.RowKit
theorem all_bad {α:Type} (f:α→Bool) (l:List α) (k:Nat) (x:α) (hx:l[k]? =some x) (hf:f x=false):l.all f=false:=by
 rw [List.all_eq_false]
 exact⟨x,List.mem_of_getElem? hx,by simp [hf]⟩
theorem jhead_any (w:World) (v:ImgV) (im:ImgL) (hne:LB kNeed (·<w.heap.size) w v.needed im.needed) (hrp:LB kStr (·<w.heap.size) w v.runPath im.runPath) (hz:im.name.length≤9223372036854775807):
  Calls Tryz.prog 52 #[.agg (imgCells v im)] w fun e w'=>e=.returned (.bool (headB im))∧Below w.heap.size w w':=by
 have hsn:=size_mk im.name
 unfold imgCells
 obtain⟨na,nb,noff,ncap,hnv,hnm,hnc,hnat⟩:=hne.at
 obtain⟨ra,rb,roff,rcap,hrv,hrm,hrc,hrat⟩:=hrp.at
 rw [hnv,hrv]
 have B1:=Lib.hid ((Below.refl w.heap.size w).alloc (Nat.le_refl _) (.cells #[.string ⟨im.name.toArray⟩,.int .i64 im.flags,v.segs,.slice na im.needed.length ncap,.slice ra im.runPath.length rcap,v.syms,v.buckets,v.words,.int .i64 im.shift,v.relocs,v.slots,v.init,v.fini,v.tls,.int .i64 im.tlsSize] 40 (0,0)))
 have F1:=Lib.hid (heap_alloc_new w (.cells #[.string ⟨im.name.toArray⟩,.int .i64 im.flags,v.segs,.slice na im.needed.length ncap,.slice ra im.runPath.length rcap,v.syms,v.buckets,v.words,.int .i64 im.shift,v.relocs,v.slots,v.init,v.fini,v.tls,.int .i64 im.tlsSize] 40 (0,0)))
 have Hnat:=Lib.hid hnat
 have Hrat:=Lib.hid hrat
 have Hh:Hid (headB im=(head0 im&&im.needed.all needB&&im.runPath.all sizedB)):=Lib.hid rfl
 have H0:Hid (head0 im=((decide (im.name=[])||nameB im.name)&&decide (0≤im.flags)&&decide (im.flags<16)&&decide (im.needed.length≤16)&&decide (im.runPath.length≤16))):=Lib.hid rfl
 clear hne hrp hnat hrat hnv hrv
 go_enter Tryz.func52,Tryz.ntmps52
 go_upto_region 1 with fail
 go_cut [36] (fun s36 wx=>s36=.bool (!head0 im)∧Below w.heap.size w wx∧wx.heap[w.heap.size]? =some (.cells #[.string ⟨im.name.toArray⟩,.int .i64 im.flags,v.segs,.slice na im.needed.length ncap,.slice ra im.runPath.length rcap,v.syms,v.buckets,v.words,.int .i64 im.shift,v.relocs,v.slots,v.init,v.fini,v.tls,.int .i64 im.tlsSize] 40 (0,0)))
 case first=>
  cases hq:im.name.isEmpty with
  | true=>
   have Hv:=Lib.hid (List.isEmpty_iff.1 hq)
   go_wp2_with fail
   all_goals go_meet
   all_goals first
    | (refine ⟨val_bool ?_,B1.out,F1.out⟩;rw [H0.out,Bool.eq_iff_iff];simp [Hv.out];done)
    | (refine ⟨val_bool ?_,B1.out,F1.out⟩;rw [H0.out,Bool.eq_iff_iff];simp [Hv.out];omega)
  | false=>
   have Hv:Hid (decide (im.name=[])=false):=Lib.hid (by rw [decide_eq_false_iff_not];intro e;rw [e]at hq;simp at hq)
   go_wp2_with fail
   refine(jname_any _ im.name hz).mono ?_
   rintro e w2 ⟨rfl,rfl⟩
   cases hn:nameB im.name
   all_goals
    have Hn:=Lib.hid hn
    go_wp2_with fail
    all_goals go_meet
    all_goals first
     | (refine ⟨val_bool ?_,B1.out,F1.out⟩;rw [H0.out,Bool.eq_iff_iff];simp [Hv.out,Hn.out];done)
     | (refine ⟨val_bool ?_,B1.out,F1.out⟩;rw [H0.out,Bool.eq_iff_iff];simp [Hv.out,Hn.out];omega)
 case rest=>
  obtain⟨rfl,hbw,hfw⟩:=hcut
  have Bw:=Lib.hid hbw
  obtain⟨c0,c1,c2,c3,c4,c5,c6,c7,c8,c9,c10,c11,c12,c13,c14⟩:=img_cells hfw
  clear hbw hfw c0 c1 c2 c5 c6 c7 c8 c9 c10 c11 c12 c13 c14 H0 B1 F1
  generalize head0 im=h0 at *
  cases h0 with
  | false=>
   have Hr:Hid (headB im=false):=Lib.hid (by rw [Hh.out];rfl)
   go_wp2
   go_ret
   exact⟨by rw [Hr.out];rfl,Bw.out⟩
  | true=>
   go_wp2_with fail
   go_loop [3,4] (fun i _=>∃ k:Nat,i=.int .i64 k∧k≤im.needed.length∧(im.needed.take k).all needB=true) (fun i _=>im.needed.length-(intOf i).toNat)
   case atStart=>exact⟨0,rfl,Nat.zero_le _,rfl⟩
   case round=>
    obtain⟨k,rfl,hk,hall⟩:=hrel
    have Hall:=Lib.hid hall
    clear hall
    by_cases hlt:k<im.needed.length
    ·obtain rfl:=Hnat.out.addr (by omega)
     obtain⟨n,hx⟩:∃ n,im.needed[k]? =some n:=⟨_,List.getElem?_eq_getElem hlt⟩
     have hnbS:=Hnat.out.inS (by omega)
     obtain⟨c,g0w,g1w,hver,hnz⟩:=Hnat.out.need2 k n hx
     have g0:=(Bw.out.cell (p:=⟨nb,noff+k*2,none⟩) hnbS).trans g0w
     have g1:=(Bw.out.cell (p:=⟨nb,noff+k*2+1,none⟩) hnbS).trans g1w
     obtain⟨va,vb,voff,vcap,rfl,hvm,hvc,hvat⟩:=hver.at
     have Hvat:=Lib.hid hvat
     have Hsn:=Lib.hid (all_take_snoc needB im.needed k n hx)
     have Hbad:Hid (needB n=false→headB im=false):=Lib.hid (fun h=>by rw [Hh.out,all_bad needB im.needed k n hx h];simp)
     have Hnp:Hid (needB n=(sizedB n.name&&decide (n.versions.length≤16)&&n.versions.all nameB)):=Lib.hid rfl
     clear hver hvat hx g0w g1w
     go_wp2_with fail
     refine(jsized_any _ n.name).mono ?_
     rintro e w3 ⟨rfl,rfl⟩
     cases hsz:sizedB n.name with
     | false=>
      have Hr:=Lib.hid (Hbad.out (by rw [Hnp.out,hsz];rfl))
      go_wp2
      go_ret
      exact⟨by rw [Hr.out];rfl,Bw.out⟩
     | true=>
      have Hsz:=Lib.hid hsz
      by_cases hl:n.versions.length≤16
      case neg=>
       have Hr:=Lib.hid (Hbad.out (by rw [Hnp.out];simp [hl]))
       have hl2:16<n.versions.length:=by omega
       go_wp2
       go_ret
       exact⟨by rw [Hr.out];rfl,Bw.out⟩
      have hl2:¬ 16<n.versions.length:=by omega
      go_wp2_with fail
      go_loop [4] (fun j=>∃ q:Nat,j=.int .i64 q∧q≤n.versions.length∧(n.versions.take q).all nameB=true) (fun j=>n.versions.length-(intOf j).toNat)
      case atStart=>exact⟨0,rfl,Nat.zero_le _,rfl⟩
      case round=>
       obtain⟨q,rfl,hq,hall2⟩:=hrel
       have Hall2:=Lib.hid hall2
       clear hall2
       by_cases hlt2:q<n.versions.length
       ·obtain rfl:=Hvat.out.addr (by omega)
        obtain⟨y,hy⟩:∃ y,n.versions[q]? =some y:=⟨_,List.getElem?_eq_getElem hlt2⟩
        obtain⟨hv2,hyz⟩:=(Hvat.out.below Bw.out).str1 q y hy
        have Hsy:=Lib.hid (all_take_snoc nameB n.versions q y hy)
        have Hbad2:Hid (nameB y=false→headB im=false):=Lib.hid (fun h=>Hbad.out (by rw [Hnp.out,all_bad nameB n.versions q y hy h];simp))
        clear hy
        go_wp2_with fail
        refine(jname_any _ y hyz).mono ?_
        rintro e w3 ⟨rfl,rfl⟩
        cases hny:nameB y with
        | false=>
         have Hr:=Lib.hid (Hbad2.out hny)
         go_wp2
         go_ret
         exact⟨by rw [Hr.out];rfl,Bw.out⟩
        | true=>
         have Hny:=Lib.hid hny
         go_wp2
         go_round
         case rel=>exact⟨q+1,by go_num,by omega,by rw [Hsy.out,Hall2.out,Hny.out];rfl⟩
         case measure=>simp [intOf];omega
       ·have Hv:Hid (n.versions.all nameB=true):=Lib.hid (by have:=Hall2.out;rw [List.take_of_length_le (by omega)]at this;exact this)
        go_wp2
        go_round
        case rel=>
         have hfin:(im.needed.take (k+1)).all needB=true:=by rw [Hsn.out,Hall.out,Hnp.out,Hsz.out,Hv.out];simp [hl]
         exact⟨k+1,by go_num,by omega,by simpa using hfin⟩
        case measure=>simp [intOf];omega
    ·have Hna:Hid (im.needed.all needB=true):=Lib.hid (by have:=Hall.out;rw [List.take_of_length_le (by omega)]at this;exact this)
     go_wp2_with fail
     go_loop [5] (fun i=>∃ q:Nat,i=.int .i64 q∧q≤im.runPath.length∧(im.runPath.take q).all sizedB=true) (fun i=>im.runPath.length-(intOf i).toNat)
     case atStart=>exact⟨0,rfl,Nat.zero_le _,rfl⟩
     case round=>
      obtain⟨q,rfl,hq,hall2⟩:=hrel
      have Hall2:=Lib.hid hall2
      clear hall2
      by_cases hlt2:q<im.runPath.length
      ·obtain rfl:=Hrat.out.addr (by omega)
       obtain⟨y,hy⟩:∃ y,im.runPath[q]? =some y:=⟨_,List.getElem?_eq_getElem hlt2⟩
       obtain⟨hv2,hyz⟩:=(Hrat.out.below Bw.out).str1 q y hy
       have Hsy:=Lib.hid (all_take_snoc sizedB im.runPath q y hy)
       have Hbad2:Hid (sizedB y=false→headB im=false):=Lib.hid (fun h=>by rw [Hh.out,all_bad sizedB im.runPath q y hy h];simp)
       clear hy
       go_wp2_with fail
       refine(jsized_any _ y).mono ?_
       rintro e w3 ⟨rfl,rfl⟩
       cases hny:sizedB y with
       | false=>
        have Hr:=Lib.hid (Hbad2.out hny)
        go_wp2
        go_ret
        exact⟨by rw [Hr.out];rfl,Bw.out⟩
       | true=>
        have Hny:=Lib.hid hny
        go_wp2
        go_round
        case rel=>exact⟨q+1,by go_num,by omega,by rw [Hsy.out,Hall2.out,Hny.out];rfl⟩
        case measure=>simp [intOf];omega
      ·have Hr:Hid (headB im=true):=Lib.hid (by
        have h:=Hall2.out
        rw [List.take_of_length_le (by omega)]at h
        rw [Hh.out,Hna.out,h];rfl)
       go_wp2
       go_ret
       exact⟨by rw [Hr.out];rfl,Bw.out⟩
end Go.Proofs.YtfchpchabdhcgaaGreat
namespace Go.Proofs.YtfchpchabdhcgaaGreat
open Go.RowKit
theorem jsegs_any (w:World) (v:ImgV) (im:ImgL) (hs:LB kSeg (·<w.heap.size) w v.segs im.segs) (hr:∀ s∈im.segs,-9223372036854775808≤s.at_∧s.size≤9223372036854775807):
  Calls Tryz.prog 53 #[.agg (imgCells v im)] w fun e w'=>e=.returned (.bool (segsB im.segs))∧Below w.heap.size w w':=by
 unfold imgCells
 obtain⟨sa,sb,soff,scap,hsv,hsm,hsc,hat⟩:=hs.at
 rw [hsv]
 have Hat:=Lib.hid hat
 have Hr:=Lib.hid hr
 have Hd:Hid (segsB im.segs=(decide (1≤im.segs.length)&&decide (im.segs.length≤8)&&segsFrom 0 im.segs)):=Lib.hid rfl
 clear hs hat hsv hr
 by_cases hl1:1≤im.segs.length
 case neg=>
  have Hn:Hid (segsB im.segs=false):=Lib.hid (by rw [Hd.out];simp [hl1])
  have hl2:im.segs.length<1:=by omega
  go_enter Tryz.func53,Tryz.ntmps53
  go_wp2
  go_ret
  exact⟨by rw [Hn.out];rfl,(Below.refl _ _).alloc (Nat.le_refl _) _⟩
 by_cases hl2:im.segs.length≤8
 case neg=>
  have Hn:Hid (segsB im.segs=false):=Lib.hid (by rw [Hd.out];simp [hl2])
  have hl3:¬ im.segs.length<1:=by omega
  have hl4:8<im.segs.length:=by omega
  go_enter Tryz.func53,Tryz.ntmps53
  go_wp2
  go_ret
  exact⟨by rw [Hn.out];rfl,(Below.refl _ _).alloc (Nat.le_refl _) _⟩
 have hl3:¬ im.segs.length<1:=by omega
 have hl4:¬ 8<im.segs.length:=by omega
 have Hd2:Hid (segsB im.segs=segsFrom 0 im.segs):=Lib.hid (by rw [Hd.out];simp [hl1,hl2])
 clear Hd
 go_enter Tryz.func53,Tryz.ntmps53
 go_wp2
 go_loopw [3] (fun i wr=>∃ (k:Nat) (e:Int),i=.int .i64 k∧k≤im.segs.length∧0≤e∧e≤200000∧segsFrom 0 im.segs=segsFrom e (im.segs.drop k)∧(k=0→e=0)∧(∀ p,0<k→im.segs[k-1]? =some p→e=upL (p.at_+p.size)∧0≤p.at_∧p.at_≤65536∧1≤p.size∧p.size≤65536)∧Below w.heap.size w wr∧wr.cell? ⟨w.heap.size,2,none⟩=some (.slice sa im.segs.length scap)∧w.heap.size<wr.heap.size) (fun i _=>im.segs.length-(intOf i).toNat)
 case atStart=>exact⟨0,0,rfl,Nat.zero_le _,by omega,by omega,by simp,fun _=>rfl,fun p h=>absurd h (Nat.lt_irrefl 0),(Below.refl _ _).alloc (Nat.le_refl _) _,by simp,by simp⟩
 case round=>
  obtain⟨k,e,rfl,hk,he0,he1,hse,hk0,hkp,hbel,hq,hzq⟩:=hrel
  have Hse:=Lib.hid hse
  have Hk0:=Lib.hid hk0
  have Hkp:=Lib.hid hkp
  have Hbel:=Lib.hid hbel
  have Hq:=Lib.hid hq
  have hBr:=hbel.size
  by_cases hlt:k<im.segs.length
  ·obtain rfl:=Hat.out.addr (by omega)
   obtain⟨s,hx⟩:∃ s,im.segs[k]? =some s:=⟨_,List.getElem?_eq_getElem hlt⟩
   obtain⟨c,g0,g1,g2,g3,hc⟩:=(Hat.out.below hbel).seg4 k s hx
   obtain⟨ca,cc,rfl⟩:=hc.form
   have hr:=Hr.out s (List.mem_of_getElem? hx)
   have Hdc:=Lib.hid (drop_cons im.segs k s hx)
   have Hx:=Lib.hid hx
   have hcm:=hc.max
   clear hse hx hc hk0 hkp
   by_cases hg:0≤s.at_∧s.at_≤65536∧s.at_%64=0∧1≤s.size∧s.at_+s.size≤65536∧(s.bytes.length:Int)≤s.size∧0≤s.perm∧s.perm≤7
   ·have Hgood:Hid (e≤s.at_→SegGood e s):=Lib.hid (fun h=>⟨h,hg.1,hg.2.1,hg.2.2.1,hg.2.2.2.1,hg.2.2.2.2.1,hg.2.2.2.2.2.1,hg.2.2.2.2.2.2.1,hg.2.2.2.2.2.2.2⟩)
    have Hyes:Hid (e≤s.at_→segsFrom 0 im.segs=segsFrom (upL (s.at_+s.size)) (im.segs.drop (k+1))):=Lib.hid (fun h=>by rw [Hse.out,Hdc.out,segsFrom_good (Hgood.out h)])
    have Hno:Hid (¬ e≤s.at_→segsB im.segs=false):=Lib.hid (fun h=>by rw [Hd2.out,Hse.out,Hdc.out,segsFrom_bad (fun hg=>h hg.1)])
    obtain⟨h2,h3,h4,h5,h6,h7,h8,h9⟩:=hg
    have Hnext:Hid (∀ p,0<k+1→im.segs[k+1-1]? =some p→upL (s.at_+s.size)=upL (p.at_+p.size)∧0≤p.at_∧p.at_≤65536∧1≤p.size∧p.size≤65536):=Lib.hid (fun p _ hp=>by
     rw [Nat.add_sub_cancel,Hx.out]at hp
     obtain rfl:=Option.some.inj hp
     exact⟨rfl,h2,h3,h5,by omega⟩)
    have Hu0:Hid (0≤upL (s.at_+s.size)∧upL (s.at_+s.size)≤200000):=Lib.hid (by unfold upL;omega)
    have hm:(s.at_%64 != 0)=false:=by rw [bne_eq_false_iff_eq];exact h4
    clear h4
    generalize hsat:s.at_=sat at *
    generalize hssz:s.size=ssz at *
    generalize s.perm=spm at *
    have Hsat:=Lib.hid hsat
    have Hssz:=Lib.hid hssz
    clear hsat hssz
    by_cases hk1:k=0
    ·subst hk1
     have he:=Hk0.out rfl
     subst he
     have Hy:=Lib.hid (Hyes.out h2)
     simp only [Nat.zero_mul,Nat.add_zero]at g0 g1 g2 g3
     clear hbel
     go_wp2_with fail
     go_quiet (fail)
     go_wp2
     go_roundw
     case rel=>exact⟨1,_,by go_num,by omega,Hu0.out.1,Hu0.out.2,Hy.out,fun h=>by omega,Hnext.out,below_drewN (Hbel.out.alloc hBr _) _,by rw [World.cell?_drewN,World.cell?_alloc_lt _ _ _ hzq];exact Hq.out,by simp;omega⟩
     case measure=>simp [intOf];omega
    ·obtain⟨p,hp⟩:∃ p,im.segs[k-1]? =some p:=⟨_,List.getElem?_eq_getElem (by omega)⟩
     obtain⟨hpe,p0,p1,p2,p3⟩:=Hkp.out p (by omega) hp
     obtain⟨_,q0,q1,_,_,_⟩:=(Hat.out.below hbel).seg4 (k-1) p hp
     have hk2:0<k:=by omega
     obtain⟨kk,rfl⟩:∃ kk,k=kk+1:=⟨k-1,by omega⟩
     simp only [Nat.add_sub_cancel]at q0 q1
     have hsbz:sb<wr.heap.size:=World.block_lt_of_cell? _ _ q0
     have hkk0:(0:Int)≤kk:=by omega
     have hkk1:(kk:Int)<im.segs.length:=by omega
     have hkk2:kk<im.segs.length:=by omega
     have hup0:0≤p.at_+p.size:=by omega
     have hup1:p.at_+p.size≤1000000:=by omega
     clear hbel hp
     generalize p.at_=pat at *
     generalize p.size=psz at *
     have Hpe:=Lib.hid hpe
     clear hpe
     by_cases h1:upL (pat+psz)≤sat
     ·have Hy:=Lib.hid (Hyes.out (by rw [Hpe.out];exact h1))
      go_wp2_with fail
      refine wp_region_quiet_lit (by kernel_rfl) (by kernel_rfl) ?_
      repeat (any_goals (first | go_big_quiet_step ((go_at_call 91;exact Calls.quiet_of_same (jup_any _ _ hup0 hup1))) | quiet_step ((go_at_call 91;exact Calls.quiet_of_same (jup_any _ _ hup0 hup1)))))
      all_goals (refine wpQuiet_nil ?_;intro _ hw';obtain⟨nq,hw''⟩:=hw';subst hw'')
      go_wp2
      go_roundw
      case rel=>exact⟨kk+1+1,_,by go_num,by omega,Hu0.out.1,Hu0.out.2,Hy.out,fun h=>by omega,Hnext.out,below_drewN (Hbel.out.alloc hBr _) _,by rw [World.cell?_drewN,World.cell?_alloc_lt _ _ _ hzq];exact Hq.out,by simp;omega⟩
      case measure=>simp [intOf];omega
     ·have Hn:Hid (segsB im.segs=false):=Lib.hid (Hno.out (by rw [Hpe.out];exact h1))
      go_wp2_with fail
      refine wp_region_quiet_lit (by kernel_rfl) (by kernel_rfl) ?_
      repeat (any_goals (first | go_big_quiet_step ((go_at_call 91;exact Calls.quiet_of_same (jup_any _ _ hup0 hup1))) | quiet_step ((go_at_call 91;exact Calls.quiet_of_same (jup_any _ _ hup0 hup1)))))
      all_goals (refine wpQuiet_nil ?_;intro _ hw';obtain⟨nq,hw''⟩:=hw';subst hw'')
      go_wp2
      go_ret
      exact⟨by rw [Hn.out];rfl,below_drewN (Hbel.out.alloc hBr _) _⟩
   ·have Hn:Hid (segsB im.segs=false):=Lib.hid (by rw [Hd2.out,Hse.out,Hdc.out,segsFrom_bad (fun h=>hg h.2)])
    have Hg:=Lib.hid hg
    clear hg hbel
    generalize s.at_=sat at *
    generalize s.size=ssz at *
    generalize s.perm=spm at *
    go_wp2_with fail
    all_goals first
     | (go_ret;exact⟨by rw [Hn.out];rfl,Hbel.out.alloc hBr _⟩)
     | (exfalso;have:=Hg.out;(try simp only [beq_eq_false_iff_ne,bne_eq_false_iff_eq,bne_iff_ne,beq_iff_eq,ne_eq]at *);omega)
  ·have Hn:Hid (segsB im.segs=true):=Lib.hid (by rw [Hd2.out,hse,List.drop_eq_nil_of_le (by omega)];rfl)
   clear hse hbel
   go_wp2
   go_ret
   exact⟨by rw [Hn.out];rfl,Hbel.out⟩
end Go.Proofs.YtfchpchabdhcgaaGreat
