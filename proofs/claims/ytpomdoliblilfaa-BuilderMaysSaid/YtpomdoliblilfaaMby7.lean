/- Lemmas. -/
import Derived.Test.YtpomdoliblilfaaBld5
import Derived.Deep.QuietTactic
import Derived.BigQuiet
import Derived.IntWalk
namespace Go.Proofs.Ytpomdoliblilfaa
set_option linter.unusedVariables false
set_option linter.unusedSimpArgs false
open Go.RowKit
set_option maxHeartbeats 16000000 in
set_option maxRecDepth 100000 in
theorem jsegs_any (w:World) (v:ImgV) (im:ImgL) (hs:LB kSeg (·<w.heap.size) w v.segs im.segs) (hr:∀ s∈im.segs,-9223372036854775808≤s.at_∧s.size≤9223372036854775807):
  Calls Try.prog 27 #[.agg (imgCells v im)] w fun e w'=>e=.returned (.bool (segsB im.segs))∧Below w.heap.size w w':=by
 unfold imgCells
 obtain⟨sa,sb,soff,scap,hsv,hsm,hsc,hat⟩:=hs.at
 rw [hsv]
 have Hat:=Lib.hid hat
 have Hr:=Lib.hid hr
 have Hd:Hid (segsB im.segs=(decide (1≤im.segs.length)&&decide (im.segs.length≤8)&&segsFrom 0 im.segs)):=Lib.hid rfl
 clear hs hat hsv hr
 by_cases hl1:1≤im.segs.length
 case neg=>
  have Hn:Hid (segsB im.segs=false):=Lib.hid (by rw [Hd.out];simp [hl1])
  have hl2:im.segs.length<1:=by omega
  go_enter Try.func27,Try.ntmps27
  go_wp2
  go_ret
  exact⟨by rw [Hn.out];rfl,(Below.refl _ _).alloc (Nat.le_refl _) _⟩
 by_cases hl2:im.segs.length≤8
 case neg=>
  have Hn:Hid (segsB im.segs=false):=Lib.hid (by rw [Hd.out];simp [hl2])
  have hl3:¬ im.segs.length<1:=by omega
  have hl4:8<im.segs.length:=by omega
  go_enter Try.func27,Try.ntmps27
  go_wp2
  go_ret
  exact⟨by rw [Hn.out];rfl,(Below.refl _ _).alloc (Nat.le_refl _) _⟩
 have hl3:¬ im.segs.length<1:=by omega
 have hl4:¬ 8<im.segs.length:=by omega
 have Hd2:Hid (segsB im.segs=segsFrom 0 im.segs):=Lib.hid (by rw [Hd.out];simp [hl1,hl2])
 clear Hd
 go_enter Try.func27,Try.ntmps27
 go_wp2
 go_loopw [3] (fun i wr=>∃ (k:Nat) (e:Int),i=.int .i64 k∧k≤im.segs.length∧0≤e∧e≤200000∧segsFrom 0 im.segs=segsFrom e (im.segs.drop k)∧(k=0→e=0)∧(∀ p,0<k→im.segs[k-1]? =some p→e=upL (p.at_+p.size)∧0≤p.at_∧p.at_≤65536∧1≤p.size∧p.size≤65536)∧Below w.heap.size w wr∧wr.cell? ⟨w.heap.size,2,none⟩=some (.slice sa im.segs.length scap)∧w.heap.size<wr.heap.size) (fun i _=>im.segs.length-(intOf i).toNat)
 case atStart=>exact⟨0,0,rfl,Nat.zero_le _,by omega,by omega,by simp,fun _=>rfl,fun p h=>absurd h (Nat.lt_irrefl 0),(Below.refl _ _).alloc (Nat.le_refl _) _,by simp,by simp⟩
 case round=>
  obtain⟨k,e,rfl,hk,he0,he1,hse,hk0,hkp,hbel,hq,hzq⟩:=hrel
  have Hse:=Lib.hid hse
  have Hk0:=Lib.hid hk0
  have Hkp:=Lib.hid hkp
  have Hbel:=Lib.hid hbel
  have Hq:=Lib.hid hq
  have hBr:=hbel.size
  by_cases hlt:k<im.segs.length
  ·obtain rfl:=Hat.out.addr (by omega)
   obtain⟨s,hx⟩:∃ s,im.segs[k]? =some s:=⟨_,List.getElem?_eq_getElem hlt⟩
   obtain⟨c,g0,g1,g2,g3,hc⟩:=(Hat.out.below hbel).seg4 k s hx
   obtain⟨ca,cc,rfl⟩:=hc.form
   have hr:=Hr.out s (List.mem_of_getElem? hx)
   have Hdc:=Lib.hid (drop_cons im.segs k s hx)
   have Hx:=Lib.hid hx
   have hcm:=hc.max
   clear hse hx hc hk0 hkp
   by_cases hg:0≤s.at_∧s.at_≤65536∧s.at_%64=0∧1≤s.size∧s.at_+s.size≤65536∧(s.bytes.length:Int)≤s.size∧0≤s.perm∧s.perm≤7
   ·have Hgood:Hid (e≤s.at_→SegGood e s):=Lib.hid (fun h=>⟨h,hg.1,hg.2.1,hg.2.2.1,hg.2.2.2.1,hg.2.2.2.2.1,hg.2.2.2.2.2.1,hg.2.2.2.2.2.2.1,hg.2.2.2.2.2.2.2⟩)
    have Hyes:Hid (e≤s.at_→segsFrom 0 im.segs=segsFrom (upL (s.at_+s.size)) (im.segs.drop (k+1))):=Lib.hid (fun h=>by rw [Hse.out,Hdc.out,segsFrom_good (Hgood.out h)])
    have Hno:Hid (¬ e≤s.at_→segsB im.segs=false):=Lib.hid (fun h=>by rw [Hd2.out,Hse.out,Hdc.out,segsFrom_bad (fun hg=>h hg.1)])
    obtain⟨h2,h3,h4,h5,h6,h7,h8,h9⟩:=hg
    have Hnext:Hid (∀ p,0<k+1→im.segs[k+1-1]? =some p→upL (s.at_+s.size)=upL (p.at_+p.size)∧0≤p.at_∧p.at_≤65536∧1≤p.size∧p.size≤65536):=Lib.hid (fun p _ hp=>by
     rw [Nat.add_sub_cancel,Hx.out]at hp
     obtain rfl:=Option.some.inj hp
     exact⟨rfl,h2,h3,h5,by omega⟩)
    have Hu0:Hid (0≤upL (s.at_+s.size)∧upL (s.at_+s.size)≤200000):=Lib.hid (by unfold upL;omega)
    have hm:(s.at_%64 != 0)=false:=by rw [bne_eq_false_iff_eq];exact h4
    clear h4
    generalize hsat:s.at_=sat at *
    generalize hssz:s.size=ssz at *
    generalize s.perm=spm at *
    have Hsat:=Lib.hid hsat
    have Hssz:=Lib.hid hssz
    clear hsat hssz
    by_cases hk1:k=0
    ·subst hk1
     have he:=Hk0.out rfl
     subst he
     have Hy:=Lib.hid (Hyes.out h2)
     simp only [Nat.zero_mul,Nat.add_zero]at g0 g1 g2 g3
     clear hbel
     go_wp2_with fail
     go_quiet (fail)
     go_wp2
     go_roundw
     case rel=>exact⟨1,_,by go_num,by omega,Hu0.out.1,Hu0.out.2,Hy.out,fun h=>by omega,Hnext.out,below_drewN (Hbel.out.alloc hBr _) _,by rw [World.cell?_drewN,World.cell?_alloc_lt _ _ _ hzq];exact Hq.out,by simp;omega⟩
     case measure=>simp [intOf];omega
    ·obtain⟨p,hp⟩:∃ p,im.segs[k-1]? =some p:=⟨_,List.getElem?_eq_getElem (by omega)⟩
     obtain⟨hpe,p0,p1,p2,p3⟩:=Hkp.out p (by omega) hp
     obtain⟨_,q0,q1,_,_,_⟩:=(Hat.out.below hbel).seg4 (k-1) p hp
     have hk2:0<k:=by omega
     obtain⟨kk,rfl⟩:∃ kk,k=kk+1:=⟨k-1,by omega⟩
     simp only [Nat.add_sub_cancel]at q0 q1
     have hsbz:sb<wr.heap.size:=World.block_lt_of_cell? _ _ q0
     have hkk0:(0:Int)≤kk:=by omega
     have hkk1:(kk:Int)<im.segs.length:=by omega
     have hkk2:kk<im.segs.length:=by omega
     have hup0:0≤p.at_+p.size:=by omega
     have hup1:p.at_+p.size≤1000000:=by omega
     clear hbel hp
     generalize p.at_=pat at *
     generalize p.size=psz at *
     have Hpe:=Lib.hid hpe
     clear hpe
     by_cases h1:upL (pat+psz)≤sat
     ·have Hy:=Lib.hid (Hyes.out (by rw [Hpe.out];exact h1))
      go_wp2_with fail
      refine wp_region_quiet_lit (by kernel_rfl) (by kernel_rfl) ?_
      repeat (any_goals (first | go_big_quiet_step ((go_at_call 64;exact Calls.quiet_of_same (jup_any _ _ hup0 hup1))) | quiet_step ((go_at_call 64;exact Calls.quiet_of_same (jup_any _ _ hup0 hup1)))))
      all_goals (refine wpQuiet_nil ?_;intro _ hw';obtain⟨nq,hw''⟩:=hw';subst hw'')
      go_wp2
      go_roundw
      case rel=>exact⟨kk+1+1,_,by go_num,by omega,Hu0.out.1,Hu0.out.2,Hy.out,fun h=>by omega,Hnext.out,below_drewN (Hbel.out.alloc hBr _) _,by rw [World.cell?_drewN,World.cell?_alloc_lt _ _ _ hzq];exact Hq.out,by simp;omega⟩
      case measure=>simp [intOf];omega
     ·have Hn:Hid (segsB im.segs=false):=Lib.hid (Hno.out (by rw [Hpe.out];exact h1))
      go_wp2_with fail
      refine wp_region_quiet_lit (by kernel_rfl) (by kernel_rfl) ?_
      repeat (any_goals (first | go_big_quiet_step ((go_at_call 64;exact Calls.quiet_of_same (jup_any _ _ hup0 hup1))) | quiet_step ((go_at_call 64;exact Calls.quiet_of_same (jup_any _ _ hup0 hup1)))))
      all_goals (refine wpQuiet_nil ?_;intro _ hw';obtain⟨nq,hw''⟩:=hw';subst hw'')
      go_wp2
      go_ret
      exact⟨by rw [Hn.out];rfl,below_drewN (Hbel.out.alloc hBr _) _⟩
   ·have Hn:Hid (segsB im.segs=false):=Lib.hid (by rw [Hd2.out,Hse.out,Hdc.out,segsFrom_bad (fun h=>hg h.2)])
    have Hg:=Lib.hid hg
    clear hg hbel
    generalize s.at_=sat at *
    generalize s.size=ssz at *
    generalize s.perm=spm at *
    go_wp2_with fail
    all_goals first
     | (go_ret;exact⟨by rw [Hn.out];rfl,Hbel.out.alloc hBr _⟩)
     | (exfalso;have:=Hg.out;(try simp only [beq_eq_false_iff_ne,bne_eq_false_iff_eq,bne_iff_ne,beq_iff_eq,ne_eq]at *);omega)
  ·have Hn:Hid (segsB im.segs=true):=Lib.hid (by rw [Hd2.out,hse,List.drop_eq_nil_of_le (by omega)];rfl)
   clear hse hbel
   go_wp2
   go_ret
   exact⟨by rw [Hn.out];rfl,Hbel.out⟩
end Go.Proofs.Ytpomdoliblilfaa
