/- Lemmas. -/
import Derived.Test.YtpomdoliblilfaaBld6
import Derived.Test.YtpomdoliblilfaaMby5
namespace Go.Proofs.Ytpomdoliblilfaa
set_option linter.unusedVariables false
set_option linter.unusedSimpArgs false
open Go.RowKit
def slot0B (im:ImgL) (s:SlotL):Bool:=(match symAt im s.sym with
   | some x=>decide (x.kind=1)
   | none=>false)&&holdsB im.segs s.at_ 8 0&&holdsB im.segs s.stub 8 4
theorem slotB_0 (im:ImgL) (s:SlotL):slotB im s=(slot0B im s&&im.relocs.all fun r=> !meetB im s r):=rfl
theorem slot0B_none {im:ImgL} {s:SlotL} (h:symAt im s.sym=none):slot0B im s=false:=by rw [slot0B,h];rfl
theorem slot0B_some {im:ImgL} {s:SlotL} {x:SymL} (h:symAt im s.sym=some x):slot0B im s=(decide (x.kind=1)&&holdsB im.segs s.at_ 8 0&&holdsB im.segs s.stub 8 4):=by rw [slot0B,h]
set_option maxHeartbeats 16000000 in
set_option maxRecDepth 100000 in
theorem jslots_any (w:World) (v:ImgV) (im:ImgL) (hs:LB kSeg (·<w.heap.size) w v.segs im.segs) (hg:segsB im.segs=true) (hy:LB kSym (·<w.heap.size) w v.syms im.syms)
    (hr:LB kRel (·<w.heap.size) w v.relocs im.relocs) (hrr:∀ r∈im.relocs,RelOk r) (hrel:relocsB im=true) (hsz:∀ s∈im.syms,0≤s.size∧s.size≤9223372036854775807) (hsl:im.syms.length≤512)
    (ht:LB kSlot (·<w.heap.size) w v.slots im.slots) (hto:∀ s∈im.slots,SlotOk s):
    Calls Try.prog 30 #[.agg (imgCells v im)] w fun e w'=>e=.returned (.bool (slotsB im))∧Below w.heap.size w w':=by
  obtain⟨sa,sb,soff,scap,hsv,hsm,hsc,hsat⟩:=hy.at
  obtain⟨ra,rb,roff,rcap,hrv,hrm,hrc,hrat⟩:=hr.at
  obtain⟨ta,tb,toff,tcap,htv,htm,htc,htat⟩:=ht.at
  obtain⟨vsegs,vneeded,vrunPath,vsyms,vbuckets,vwords,vrelocs,vslots,vinit,vfini,vtls⟩:=v
  simp only at hsv hrv htv
  subst hsv hrv htv
  have HH:Hid (∀ (w':World) (x n p:Int),Below w.heap.size w w'→(-9223372036854775808≤x∧x≤9223372036854775807)→(0≤n∧n≤9223372036854775807)→p=0∨p=2∨p=4→
    Calls Try.prog 66 #[.agg (imgCells ⟨vsegs,vneeded,vrunPath,.slice sa im.syms.length scap,vbuckets,vwords,.slice ra im.relocs.length rcap,.slice ta im.slots.length tcap,vinit,vfini,vtls⟩ im),.int .i64 x,.int .i64 n,.int .i64 p] w' fun e w''=>e=.returned (.bool (holdsB im.segs x n p))∧Below w'.heap.size w' w''):=Lib.hid (fun w' x n p hb hx hn hp=>jstands_any w' _ im x n p ((hs.below hb).mono hb.size) (segOk_of hg) hx hn hp)
  have HW:Hid (∀ (w':World) (r:RelL),Below w.heap.size w w'→
    Calls Try.prog 68 #[.agg (imgCells ⟨vsegs,vneeded,vrunPath,.slice sa im.syms.length scap,vbuckets,vwords,.slice ra im.relocs.length rcap,.slice ta im.slots.length tcap,vinit,vfini,vtls⟩ im),.agg #[.int .i64 r.at_,.int .i64 r.kind,.int .i64 r.sym,.int .i64 r.add]] w' fun e w''=>e=.returned (.int .i64 (wideL im r))∧Below w'.heap.size w' w''):=Lib.hid (fun w' r hb=>jwide_any w' _ im r ((hy.below hb).mono hb.size))
  unfold imgCells at *
  have Hsat:=Lib.hid hsat
  have Hrat:=Lib.hid hrat
  have Htat:=Lib.hid htat
  have Hto:=Lib.hid hto
  have HD:Hid (slotsB im=(decide (im.slots.length≤128)&&slotsFrom im 0 im.slots)):=Lib.hid rfl
  have Hg:=Lib.hid hg
  have Hrel:Hid (∀ r∈im.relocs,0≤r.at_∧r.at_≤65536∧0≤wideL im r∧wideL im r≤65536):=Lib.hid (by
    have h:=hrel
    simp only [relocsB,Bool.and_eq_true]at h
    intro r hm
    have h1:=(reloc_good hg hsl (relocsFrom_each im _ _ h.2 r hm)).1
    have h2:0≤wideL im r:=by
      unfold wideL
      split
      · rename_i s hs
        have:=(hsz s (symAt_range hs).2.2).1
        split<;>omega
      · omega
    omega)
  clear hs hg hy hr hrr hrel hsz ht hto hsat hrat htat
  generalize hI:(Array.mk [.string ⟨im.name.toArray⟩,.int .i64 im.flags,vsegs,vneeded,vrunPath,.slice sa im.syms.length scap,vbuckets,vwords,.int .i64 im.shift,.slice ra im.relocs.length rcap,.slice ta im.slots.length tcap,vinit,vfini,vtls,.int .i64 im.tlsSize]:Array Value)=I at HH HW
  have F0:=Lib.hid (heap_alloc_new w (.cells I 44 (0,0)))
  have B1:=Lib.hid ((Below.refl w.heap.size w).alloc (Nat.le_refl _) (.cells I 44 (0,0)))
  subst hI
  by_cases h5:im.slots.length≤128
  case neg=>
    have Hn:Hid (slotsB im=false):=Lib.hid (by rw [HD.out,decide_eq_false (p:=im.slots.length≤128) h5];rfl)
    have h6:128<im.slots.length:=by omega
    go_enter Try.func30,Try.ntmps30
    go_wp2
    go_ret
    exact⟨by rw [Hn.out];rfl,B1.out⟩
  have h6:¬ 128<im.slots.length:=by omega
  have HD2:Hid (slotsB im=slotsFrom im 0 im.slots):=Lib.hid (by rw [HD.out,decide_eq_true (p:=im.slots.length≤128) h5];rfl)
  clear HD
  go_enter Try.func30,Try.ntmps30
  go_wp2_with fail
  go_loopw [3] (fun i wr=>∃ (k:Nat) (x:Int),i=.int .i64 k∧0≤x∧x≤100000∧k≤im.slots.length∧slotsFrom im 0 im.slots=slotsFrom im x (im.slots.drop k)∧(k=0→x=0)∧(∀ p,0<k→im.slots[k-1]? =some p→x=p.at_+8∧0≤p.at_)∧Below w.heap.size w wr∧
    wr.heap[w.heap.size]? =some (.cells #[.string ⟨im.name.toArray⟩,.int .i64 im.flags,vsegs,vneeded,vrunPath,.slice sa im.syms.length scap,vbuckets,vwords,.int .i64 im.shift,.slice ra im.relocs.length rcap,.slice ta im.slots.length tcap,vinit,vfini,vtls,.int .i64 im.tlsSize] 44 (0,0))∧w.heap.size<wr.heap.size) (fun i _=>im.slots.length-(intOf i).toNat)
  case atStart=>exact⟨0,0,rfl,by decide,by decide,Nat.zero_le _,by simp,fun _=>rfl,fun p h=>absurd h (Nat.lt_irrefl 0),B1.out,F0.out,by simp⟩
  case round=>
    obtain⟨k,x,rfl,hx0,hx1,hk,hse,hk0,hkp,hbel,hF,hzq⟩:=hrel
    have Hse:=Lib.hid hse
    have Hk0:=Lib.hid hk0
    have Hkp:=Lib.hid hkp
    have Hbel:=Lib.hid hbel
    have hBr:=hbel.size
    clear hse hk0 hkp
    obtain⟨i0,i1,i2,i3,i4,i5,i6,i7,i8,i9,i10,i11,i12,i13,i14⟩:=img_cells hF
    by_cases hlt:k<im.slots.length
    · obtain rfl:=Htat.out.addr (by omega)
      obtain⟨s,hx⟩:∃ s,im.slots[k]? =some s:=⟨_,List.getElem?_eq_getElem hlt⟩
      obtain⟨g0,g1,g2⟩:=(Htat.out.below hbel).slot3 k s hx
      have hso:=Hto.out s (List.mem_of_getElem? hx)
      have hsa:=hso.2.1
      have Hso:=Lib.hid hso
      have Hx:=Lib.hid hx
      have Hdc:=Lib.hid (drop_cons im.slots k s hx)
      have hsb:=World.block_lt_of_cell? _ _ g0
      have HFs:=Lib.hid (heap_alloc_new wr (.cells #[.int .i64 s.at_,.int .i64 s.sym,.int .i64 s.stub] 62 (0,0)))
      have HFi:=Lib.hid ((heap_alloc_old wr (.cells #[.int .i64 s.at_,.int .i64 s.sym,.int .i64 s.stub] 62 (0,0)) hzq).trans hF)
      have HBs:=Lib.hid (Hbel.out.alloc hBr (.cells #[.int .i64 s.at_,.int .i64 s.sym,.int .i64 s.stub] 62 (0,0)))
      clear hx hbel hF Hbel hso
      go_upto_region 7 with fail
      have hz1:wr.heap.size<(wr.alloc (.cells #[.int .i64 s.at_,.int .i64 s.sym,.int .i64 s.stub] 62 (0,0))).heap.size:=by simp
      generalize wr.alloc (.cells #[.int .i64 s.at_,.int .i64 s.sym,.int .i64 s.stub] 62 (0,0))=w1 at *
      generalize wr.heap.size=zs at *
      clear g0 g1 g2 i0 i1 i2 i3 i4 i5 i6 i7 i8 i9 i10 i11 i12 i13 i14
      have t0:w1.cell? ⟨zs,0,none⟩=some (.int .i64 s.at_):=by rw [Lib.cell_of_heap HFs.out];rfl
      have t1:w1.cell? ⟨zs,1,none⟩=some (.int .i64 s.sym):=by rw [Lib.cell_of_heap HFs.out];rfl
      have t2:w1.cell? ⟨zs,2,none⟩=some (.int .i64 s.stub):=by rw [Lib.cell_of_heap HFs.out];rfl
      obtain⟨i0,i1,i2,i3,i4,i5,i6,i7,i8,i9,i10,i11,i12,i13,i14⟩:=img_cells HFi.out
      go_cut [57] (fun s57 wx=>s57=.bool (!slot0B im s)∧Below w1.heap.size w1 wx)
      case first=>
        by_cases k0:s.sym<0
        · have d0:decide (s.sym<0)=true:=by rw [decide_eq_true_eq];exact k0
          have Hn:=Lib.hid (slot0B_none (im:=im) (symAt_neg im s.sym k0))
          clear k0
          go_wp2_with fail
          go_meet
          exact⟨by rw [Hn.out];rfl,Below.refl _ _⟩
        have d0:decide (s.sym<0)=false:=by rw [decide_eq_false_iff_not];exact k0
        by_cases k1:(im.syms.length:Int)≤s.sym
        · have d1:decide ((im.syms.length:Int)≤s.sym)=true:=by rw [decide_eq_true_eq];exact k1
          have Hn:=Lib.hid (slot0B_none (im:=im) (symAt_far im s.sym k1))
          clear k1
          go_wp2_with fail
          go_meet
          exact⟨by rw [Hn.out];rfl,Below.refl _ _⟩
        have d1:decide ((im.syms.length:Int)≤s.sym)=false:=by rw [decide_eq_false_iff_not];exact k1
        obtain⟨m,hm⟩:∃ m:Nat,s.sym=m:=⟨s.sym.toNat,by omega⟩
        have hmlt:m<im.syms.length:=by omega
        obtain rfl:=Hsat.out.addr (by omega)
        obtain⟨y,hy⟩:∃ y,im.syms[m]? =some y:=⟨_,List.getElem?_eq_getElem hmlt⟩
        have hsa2:symAt im s.sym=some y:=by rw [hm];exact symAt_in im m y hy
        have HN:=Lib.hid (slot0B_some hsa2)
        obtain⟨_,_,_,_,y3,_,_,_,_,_⟩:=(Hsat.out.below HBs.out).sym9 m y hy
        have HH1:=Lib.hid (HH.out w1 s.at_ 8 0 HBs.out Hso.out.2.1 (by decide) (by decide))
        rw [hm]at t1 d0 d1
        have d1n:decide (im.syms.length≤m)=false:=by rw [decide_eq_false_iff_not];omega
        have hm0:(0:Int)≤m:=by omega
        have hm1:(m:Int)<im.syms.length:=by omega
        clear hsa2 hy hm k0 k1
        by_cases hk:y.kind=1
        case neg=>
          have b1:(y.kind != 1)=true:=by rw [bne_iff_ne];exact hk
          have Hn:Hid (slot0B im s=false):=Lib.hid (by rw [HN.out,decide_eq_false (p:=y.kind=1) hk];rfl)
          clear hk
          go_wp2_with fail
          go_meet
          exact⟨by rw [Hn.out];rfl,Below.refl _ _⟩
        have b1:(y.kind != 1)=false:=by rw [bne_eq_false_iff_eq];exact hk
        have HN2:Hid (slot0B im s=(holdsB im.segs s.at_ 8 0&&holdsB im.segs s.stub 8 4)):=Lib.hid (by rw [HN.out,decide_eq_true (p:=y.kind=1) hk];rfl)
        clear hk
        go_wp2_with fail
        refine HH1.out.mono ?_
        rintro e w2 ⟨rfl,hb2⟩
        have hz2:=hb2.size
        have S2:=Lib.hid ((hb2.block zs (by omega)).trans HFs.out)
        have F2:=Lib.hid ((hb2.block w.heap.size (by omega)).trans HFi.out)
        have B2:=Lib.hid (HBs.out.trans (hb2.mono (by omega)))
        have HB2:=Lib.hid hb2
        clear hb2 t0 t1 t2 i0 i1 i2 i3 i4 i5 i6 i7 i8 i9 i10 i11 i12 i13 i14 y3 HH1
        cases hh1:holdsB im.segs s.at_ 8 0 with
        | false=>
          have Hn:Hid (slot0B im s=false):=Lib.hid (by rw [HN2.out,hh1];rfl)
          clear hh1
          go_wp2_with fail
          go_meet
          exact⟨by rw [Hn.out];rfl,HB2.out⟩
        | true=>
          have HN3:Hid (slot0B im s=holdsB im.segs s.stub 8 4):=Lib.hid (by rw [HN2.out,hh1];rfl)
          clear hh1
          have t0:w2.cell? ⟨zs,0,none⟩=some (.int .i64 s.at_):=by rw [Lib.cell_of_heap S2.out];rfl
          have t2:w2.cell? ⟨zs,2,none⟩=some (.int .i64 s.stub):=by rw [Lib.cell_of_heap S2.out];rfl
          obtain⟨i0,i1,i2,i3,i4,i5,i6,i7,i8,i9,i10,i11,i12,i13,i14⟩:=img_cells F2.out
          have HH2:=Lib.hid (HH.out w2 s.stub 8 4 B2.out Hso.out.2.2 (by decide) (by decide))
          go_wp2_with fail
          refine HH2.out.mono ?_
          rintro e w3 ⟨rfl,hb3⟩
          have HB3:=Lib.hid (HB2.out.trans (hb3.mono (by omega)))
          clear hb3 t0 t2 i0 i1 i2 i3 i4 i5 i6 i7 i8 i9 i10 i11 i12 i13 i14 HH2
          cases hh2:holdsB im.segs s.stub 8 4 with
          | false=>
            have Hn:Hid (slot0B im s=false):=Lib.hid (by rw [HN3.out,hh2])
            clear hh2
            go_wp2_with fail
            go_meet
            exact⟨by rw [Hn.out];first | rfl | (rw [d1n];rfl),HB3.out⟩
          | true=>
            have Hn:Hid (slot0B im s=true):=Lib.hid (by rw [HN3.out,hh2])
            clear hh2
            go_wp2_with fail
            go_meet
            exact⟨by rw [Hn.out];first | rfl | (rw [d1n];rfl),HB3.out⟩
      case rest=>
        obtain⟨rfl,hbc⟩:=hcut
        have hzc:=hbc.size
        have Bc:=Lib.hid (HBs.out.trans (hbc.mono (by omega)))
        have Fc:=Lib.hid ((hbc.block w.heap.size (by omega)).trans HFi.out)
        have Sc:=Lib.hid ((hbc.block zs (by omega)).trans HFs.out)
        clear hbc t0 t1 t2 i0 i1 i2 i3 i4 i5 i6 i7 i8 i9 i10 i11 i12 i13 i14 HFi HFs
        cases hsl0:slot0B im s with
        | false=>
          have Hn:Hid (slotsB im=false):=Lib.hid (by rw [HD2.out,Hse.out,Hdc.out,slotsFrom_bad (by rw [slotB_0,hsl0];rfl)])
          clear hsl0
          go_wp2
          go_ret
          exact⟨by rw [Hn.out];rfl,Bc.out⟩
        | true=>
        have Hrg:Hid (0≤s.at_∧s.at_≤65536):=Lib.hid (by
          have h:=hsl0
          unfold slot0B at h
          simp only [Bool.and_eq_true]at h
          have:=holds_range (segs_good Hg.out) h.1.2
          omega)
        have ha0:=Hrg.out.1
        have ha1:=Hrg.out.2
        have HS0:=Lib.hid hsl0
        clear hsl0
        have Hnext:Hid (∀ p,0<k+1→im.slots[k+1-1]? =some p→s.at_+8=p.at_+8∧0≤p.at_):=Lib.hid (fun p _ hp=>by
          rw [Nat.add_sub_cancel,Hx.out]at hp
          obtain rfl:=Option.some.inj hp
          exact⟨rfl,Hrg.out.1⟩)
        obtain⟨w2,hw2⟩:∃ x:World,x=wc:=⟨_,rfl⟩
        subst hw2
        go_upto_region 9 with fail
        go_cut [72] (fun s72 wx=>s72=.bool (decide (s.at_<x))∧Below w2.heap.size w2 wx)
        case first=>
          obtain⟨i0,i1,i2,i3,i4,i5,i6,i7,i8,i9,i10,i11,i12,i13,i14⟩:=img_cells Fc.out
          have t0:w2.cell? ⟨zs,0,none⟩=some (.int .i64 s.at_):=by rw [Lib.cell_of_heap Sc.out];rfl
          have m0:=fun x:Later w2=>x.cell t0
          have l0:=fun x:Later w2=>x.cell i0
          have l1:=fun x:Later w2=>x.cell i1
          have l2:=fun x:Later w2=>x.cell i2
          have l3:=fun x:Later w2=>x.cell i3
          have l4:=fun x:Later w2=>x.cell i4
          have l5:=fun x:Later w2=>x.cell i5
          have l6:=fun x:Later w2=>x.cell i6
          have l7:=fun x:Later w2=>x.cell i7
          have l8:=fun x:Later w2=>x.cell i8
          have l9:=fun x:Later w2=>x.cell i9
          have l10:=fun x:Later w2=>x.cell i10
          have l11:=fun x:Later w2=>x.cell i11
          have l12:=fun x:Later w2=>x.cell i12
          have l13:=fun x:Later w2=>x.cell i13
          have l14:=fun x:Later w2=>x.cell i14
          by_cases hk1:k=0
          · subst hk1
            have he:=Hk0.out rfl
            subst he
            have hd:Hid (decide (s.at_<0)=false):=Lib.hid (by rw [decide_eq_false_iff_not];omega)
            clear i0 i1 i2 i3 i4 i5 i6 i7 i8 i9 i10 i11 i12 i13 i14 t0
            refine wp_region_later (by kernel_rfl) (by kernel_rfl) ?_
            repeat (go_big_quiet_step (fail))
            refine wpQuiet_nil ?_
            rintro wq ⟨⟨_,hq⟩,rfl⟩
            try simp only at hq
            have Hq:=Lib.hid hq
            clear hq
            go_wp2_with fail
            go_meet
            exact⟨by rw [hd.out],Hq.out⟩
          · obtain⟨p,hp⟩:∃ p,im.slots[k-1]? =some p:=⟨_,List.getElem?_eq_getElem (by omega)⟩
            obtain⟨hpe,p0⟩:=Hkp.out p (by omega) hp
            obtain⟨q0,q1,q2⟩:=(Htat.out.below Bc.out).slot3 (k-1) p hp
            have hk2:0<k:=by omega
            obtain⟨kk,rfl⟩:∃ kk,k=kk+1:=⟨k-1,by omega⟩
            simp only [Nat.add_sub_cancel]at q0 q1 q2
            have hkk0:(0:Int)≤kk:=by omega
            have hkk1:(kk:Int)<im.slots.length:=by omega
            have hkk2:kk<im.slots.length:=by omega
            have hpx:p.at_≤100000:=by omega
            have n0:=fun x:Later w2=>x.cell q0
            have Hpe:=Lib.hid hpe
            clear hpe hp i0 i1 i2 i3 i4 i5 i6 i7 i8 i9 i10 i11 i12 i13 i14 t0 q0 q1 q2
            refine wp_region_later (by kernel_rfl) (by kernel_rfl) ?_
            repeat (go_big_quiet_step (fail))
            refine wpQuiet_nil ?_
            rintro wq ⟨⟨_,hq⟩,rfl⟩
            try simp only at hq
            have Hq:=Lib.hid hq
            clear hq
            go_wp2_with fail
            go_meet
            exact⟨by rw [Hpe.out],Hq.out⟩
        case rest=>
          obtain⟨rfl,hbd⟩:=hcut
          have hzd:=hbd.size
          have Bd:=Lib.hid (Bc.out.trans (hbd.mono (by omega)))
          have Fd:=Lib.hid ((hbd.block w.heap.size (by omega)).trans Fc.out)
          have Sd:=Lib.hid ((hbd.block zs (by omega)).trans Sc.out)
          clear hbd Fc Sc
          obtain⟨w3,hw3⟩:∃ x:World,x=wc:=⟨_,rfl⟩
          subst hw3
          by_cases h1:x≤s.at_
          case neg=>
            have Hn:Hid (slotsB im=false):=Lib.hid (by rw [HD2.out,Hse.out,Hdc.out,slotsFrom_low h1])
            have hd:decide (s.at_<x)=true:=by rw [decide_eq_true_eq];omega
            go_wp2
            go_ret
            exact⟨by rw [Hn.out];rfl,Bd.out⟩
          have hd:decide (s.at_<x)=false:=by rw [decide_eq_false_iff_not];omega
          have Hyes:Hid (slotB im s=true→slotsFrom im 0 im.slots=slotsFrom im (s.at_+8) (im.slots.drop (k+1))):=Lib.hid (fun h=>by rw [Hse.out,Hdc.out,slotsFrom_ok h1 h])
          have hz3:zs<w3.heap.size:=by omega
          have hz4:w.heap.size<w3.heap.size:=by omega
          clear hzc hzd
          go_wp2_with fail
          go_loopw [5] (fun i wi=>∃ (q:Nat),i=.int .i64 q∧q≤im.relocs.length∧(im.relocs.take q).all (fun r=> !meetB im s r)=true∧Below w3.heap.size w3 wi) (fun i _=>im.relocs.length-(intOf i).toNat)
          case atStart=>exact⟨0,rfl,Nat.zero_le _,rfl,Below.refl _ _⟩
          case round=>
            obtain⟨q,rfl,hq,hall,hbi⟩:=hrel
            have Hall:=Lib.hid hall
            have Hbi:=Lib.hid hbi
            have hzi:=hbi.size
            clear hall
            obtain⟨i0,i1,i2,i3,i4,i5,i6,i7,i8,i9,i10,i11,i12,i13,i14⟩:=img_cells ((hbi.block w.heap.size (by omega)).trans Fd.out)
            by_cases hlt2:q<im.relocs.length
            · obtain rfl:=Hrat.out.addr (by omega)
              obtain⟨r,hxr⟩:∃ r,im.relocs[q]? =some r:=⟨_,List.getElem?_eq_getElem hlt2⟩
              obtain⟨g0,g1,g2,g3⟩:=(Hrat.out.below (Bd.out.trans (hbi.mono (by omega)))).rel4 q r hxr
              obtain⟨ra0,ra1,rw0,rw1⟩:=Hrel.out r (List.mem_of_getElem? hxr)
              have Hsq:=Lib.hid (all_take_snoc (fun r=> !meetB im s r) im.relocs q r hxr)
              have Hme:=Lib.hid (fun h=>slotB_meet (s:=s) hxr h)
              have HWr:=Lib.hid (fun w' hb=>HW.out w' r hb)
              have hrbw:=World.block_lt_of_cell? _ _ g0
              have HFr:=Lib.hid (heap_alloc_new wr (.cells #[.int .i64 r.at_,.int .i64 r.kind,.int .i64 r.sym,.int .i64 r.add] 124 (0,0)))
              have HF5:=Lib.hid ((heap_alloc_old wr (.cells #[.int .i64 r.at_,.int .i64 r.kind,.int .i64 r.sym,.int .i64 r.add] 124 (0,0)) (r:=w.heap.size) (by omega)).trans ((hbi.block w.heap.size (by omega)).trans Fd.out))
              have HS5:=Lib.hid ((heap_alloc_old wr (.cells #[.int .i64 r.at_,.int .i64 r.kind,.int .i64 r.sym,.int .i64 r.add] 124 (0,0)) (r:=zs) (by omega)).trans ((hbi.block zs (by omega)).trans Sd.out))
              have HB5:=Lib.hid (hbi.alloc hzi (.cells #[.int .i64 r.at_,.int .i64 r.kind,.int .i64 r.sym,.int .i64 r.add] 124 (0,0)))
              have hz5:wr.heap.size<(wr.alloc (.cells #[.int .i64 r.at_,.int .i64 r.kind,.int .i64 r.sym,.int .i64 r.add] 124 (0,0))).heap.size:=by simp
              clear hxr hbi Hbi
              go_upto_region 15 with fail
              generalize wr.alloc (.cells #[.int .i64 r.at_,.int .i64 r.kind,.int .i64 r.sym,.int .i64 r.add] 124 (0,0))=w5 at *
              generalize wr.heap.size=zr at *
              clear g0 g1 g2 g3 i0 i1 i2 i3 i4 i5 i6 i7 i8 i9 i10 i11 i12 i13 i14
              have t0:w5.cell? ⟨zs,0,none⟩=some (.int .i64 s.at_):=by rw [Lib.cell_of_heap HS5.out];rfl
              have u0:w5.cell? ⟨zr,0,none⟩=some (.int .i64 r.at_):=by rw [Lib.cell_of_heap HFr.out];rfl
              have u1:w5.cell? ⟨zr,1,none⟩=some (.int .i64 r.kind):=by rw [Lib.cell_of_heap HFr.out];rfl
              have u2:w5.cell? ⟨zr,2,none⟩=some (.int .i64 r.sym):=by rw [Lib.cell_of_heap HFr.out];rfl
              have u3:w5.cell? ⟨zr,3,none⟩=some (.int .i64 r.add):=by rw [Lib.cell_of_heap HFr.out];rfl
              obtain⟨i0,i1,i2,i3,i4,i5,i6,i7,i8,i9,i10,i11,i12,i13,i14⟩:=img_cells HF5.out
              have HME:Hid (meetB im s r=(decide (s.at_<r.at_+wideL im r)&&decide (r.at_<s.at_+8))):=Lib.hid (by unfold meetB;rw [Bool.and_comm])
              have l0:=fun x:Later w5=>x.cell i0
              have l1:=fun x:Later w5=>x.cell i1
              have l2:=fun x:Later w5=>x.cell i2
              have l3:=fun x:Later w5=>x.cell i3
              have l4:=fun x:Later w5=>x.cell i4
              have l5:=fun x:Later w5=>x.cell i5
              have l6:=fun x:Later w5=>x.cell i6
              have l7:=fun x:Later w5=>x.cell i7
              have l8:=fun x:Later w5=>x.cell i8
              have l9:=fun x:Later w5=>x.cell i9
              have l10:=fun x:Later w5=>x.cell i10
              have l11:=fun x:Later w5=>x.cell i11
              have l12:=fun x:Later w5=>x.cell i12
              have l13:=fun x:Later w5=>x.cell i13
              have l14:=fun x:Later w5=>x.cell i14
              have m0:=fun x:Later w5=>x.cell t0
              have n0:=fun x:Later w5=>x.cell u0
              have n1:=fun x:Later w5=>x.cell u1
              have n2:=fun x:Later w5=>x.cell u2
              have n3:=fun x:Later w5=>x.cell u3
              obtain⟨wd,hwd⟩:∃ wd,wideL im r=wd:=⟨_,rfl⟩
              rw [hwd]at HWr HME rw0 rw1
              clear hwd t0 u0 u1 u2 u3 i0 i1 i2 i3 i4 i5 i6 i7 i8 i9 i10 i11 i12 i13 i14
              have B5:=Lib.hid (Bd.out.trans (HB5.out.mono (by omega)))
              by_cases e1:s.at_<r.at_+wd
              case neg=>
                have b1:decide (s.at_<r.at_+wd)=false:=by rw [decide_eq_false_iff_not];exact e1
                have Hm:Hid ((im.relocs.take (q+1)).all (fun r=> !meetB im s r)=true):=Lib.hid (by rw [Hsq.out,Hall.out,HME.out,b1];rfl)
                clear e1
                go_wp2_with fail
                refine wp_region_later (by kernel_rfl) (by kernel_rfl) ?_
                repeat (go_big_quiet_step (first | (go_at_call 68;refine Later.call _ (HWr.out _ ?_);exact B5.out.trans ((Later.h _).mono (by omega)))))
                refine wpQuiet_nil ?_
                rintro wq ⟨⟨_,hq⟩,rfl⟩
                try simp only at hq
                have Hq:=Lib.hid (HB5.out.trans (hq.mono (by omega)))
                clear hq l0 l1 l2 l3 l4 l5 l6 l7 l8 l9 l10 l11 l12 l13 l14 m0 n0 n1 n2 n3
                go_wp2
                go_roundw
                case rel=>exact⟨q+1,by go_num,by omega,Hm.out,Hq.out⟩
                case measure=>simp [intOf];omega
              have b1:decide (s.at_<r.at_+wd)=true:=by rw [decide_eq_true_eq];exact e1
              by_cases e2:r.at_<s.at_+8
              case neg=>
                have b2:decide (r.at_<s.at_+8)=false:=by rw [decide_eq_false_iff_not];exact e2
                have Hm:Hid ((im.relocs.take (q+1)).all (fun r=> !meetB im s r)=true):=Lib.hid (by rw [Hsq.out,Hall.out,HME.out,b2,b1];rfl)
                clear e1 e2
                go_wp2_with fail
                refine wp_region_later (by kernel_rfl) (by kernel_rfl) ?_
                repeat (go_big_quiet_step (first | (go_at_call 68;refine Later.call _ (HWr.out _ ?_);exact B5.out.trans ((Later.h _).mono (by omega)))))
                refine wpQuiet_nil ?_
                rintro wq ⟨⟨_,hq⟩,rfl⟩
                try simp only at hq
                have Hq:=Lib.hid (HB5.out.trans (hq.mono (by omega)))
                clear hq l0 l1 l2 l3 l4 l5 l6 l7 l8 l9 l10 l11 l12 l13 l14 m0 n0 n1 n2 n3
                go_wp2
                go_roundw
                case rel=>exact⟨q+1,by go_num,by omega,Hm.out,Hq.out⟩
                case measure=>simp [intOf];omega
              have b2:decide (r.at_<s.at_+8)=true:=by rw [decide_eq_true_eq];exact e2
              have Hn:Hid (slotsB im=false):=Lib.hid (by rw [HD2.out,Hse.out,Hdc.out,slotsFrom_bad (Hme.out (by rw [HME.out,b1,b2];rfl))])
              clear e1 e2
              go_wp2_with fail
              refine wp_region_later (by kernel_rfl) (by kernel_rfl) ?_
              repeat (go_big_quiet_step (first | (go_at_call 68;refine Later.call _ (HWr.out _ ?_);exact B5.out.trans ((Later.h _).mono (by omega)))))
              refine wpQuiet_nil ?_
              rintro wq ⟨⟨_,hq⟩,rfl⟩
              try simp only at hq
              have Hq:=Lib.hid (B5.out.trans (hq.mono (by omega)))
              clear hq l0 l1 l2 l3 l4 l5 l6 l7 l8 l9 l10 l11 l12 l13 l14 m0 n0 n1 n2 n3
              go_wp2
              go_ret
              exact⟨by rw [Hn.out];rfl,Hq.out⟩
            · have Hall2:Hid (im.relocs.all (fun r=> !meetB im s r)=true):=Lib.hid (by have:=Hall.out;rwa [List.take_of_length_le (by omega)]at this)
              have Hy:Hid (slotsFrom im 0 im.slots=slotsFrom im (s.at_+8) (im.slots.drop (k+1))):=Lib.hid (Hyes.out (by rw [slotB_0,HS0.out,Hall2.out];rfl))
              have hFi3:=(hbi.block w.heap.size (by omega)).trans Fd.out
              clear hbi
              go_wp2
              go_roundw
              case rel=>exact⟨k+1,s.at_+8,by go_num,by omega,by omega,by omega,Hy.out,fun h=>by omega,Hnext.out,Bd.out.trans (Hbi.out.mono (by omega)),hFi3,by omega⟩
              case measure=>simp [intOf];omega
    · have hd:Hid (slotsB im=true):=Lib.hid (by rw [HD2.out,Hse.out,List.drop_eq_nil_of_le (by omega)];rfl)
      clear hbel hF
      go_wp2
      go_ret
      exact⟨by rw [hd.out];rfl,Hbel.out⟩
end Go.Proofs.Ytpomdoliblilfaa
