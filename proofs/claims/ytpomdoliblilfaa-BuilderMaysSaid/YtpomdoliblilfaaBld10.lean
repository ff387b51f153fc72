/- Lemmas. -/
import Derived.Test.YtpomdoliblilfaaBld9
import Derived.Test.YtpomdoliblilfaaBld4
namespace Go.Proofs.Ytpomdoliblilfaa
set_option linter.unusedVariables false
set_option linter.unusedSimpArgs false
open Go.RowKit
theorem sym_at {weak:List (List UInt8)} {name ver:List UInt8} {kind:Int} (p:PlanL):∃ x,(p.sym weak name ver kind).1.syms[(p.sym weak name ver kind).2]? =some x:=by
 have h:=sym_find weak name ver kind p
 obtain⟨hlt,_⟩:=List.findIdx?_eq_some_iff_getElem.1 h
 exact⟨_,List.getElem?_eq_getElem hlt⟩
theorem sym_len {weak:List (List UInt8)} {name ver:List UInt8} {kind:Int} (p:PlanL):(p.sym weak name ver kind).1.syms.length≤p.syms.length+1∧(p.sym weak name ver kind).2≤p.syms.length∧(p.sym weak name ver kind).2<(p.sym weak name ver kind).1.syms.length:=by
 unfold PlanL.sym
 split
 ·rename_i h
  obtain⟨hlt,_⟩:=List.findIdx?_eq_some_iff_getElem.1 h
  exact⟨by simp,by simp;omega,by simpa using hlt⟩
 ·exact⟨by simp,by simp,by simp⟩
set_option maxHeartbeats 16000000 in
set_option maxRecDepth 100000 in
theorem asked_any {B pb:Nat} {w:World} {sv:SpecV} {s:SpecL} {own:Int} {v:PlanV} {p:PlanL} (name ver:List UInt8) (e:Int) (k0:Int) (ks:List Int) (kv:Value) (hM:PlanM B pb w sv s own v p) (hS:SpecM (·<B) w sv s) (hK:LB kInt (Kept pb v w) w kv (k0 :: ks)) (hn:Small63 name) (hv:Small63 ver) (hk:In63 k0) (hl:p.syms.length≤1000000) (hB:B≤w.heap.size):
  Calls Try.prog 42 #[.pointer (some ⟨pb,0,none⟩),.string ⟨name.toArray⟩,.string ⟨ver.toArray⟩,.int .i64 e,kv] w (AskPost B pb sv s own v w (p.asked s.weak name ver e (k0 :: ks))):=by
 have HSym:=Lib.hid (sym_any name ver k0 hM hS hn hv hk hl hB)
 have HQ:Hid (p.asked s.weak name ver e (k0 :: ks)=((p.sym s.weak name ver k0).1.failIf (!decide (((p.sym s.weak name ver k0).1.syms.getD (p.sym s.weak name ver k0).2 symNone).kind∈(k0 :: ks))|| !symRightB ((p.sym s.weak name ver k0).1.syms.getD (p.sym s.weak name ver k0).2 symNone)) e,(p.sym s.weak name ver k0).2)):=Lib.hid rfl
 obtain⟨x,hx⟩:=sym_at (weak:=s.weak) (name:=name) (ver:=ver) (kind:=k0) p
 have hx2:(p.sym s.weak name ver k0).1.syms.getD (p.sym s.weak name ver k0).2 symNone=x:=by rw [List.getD_eq_getElem?_getD,hx];rfl
 rw [hx2]at HQ
 have hlen:=sym_len (weak:=s.weak) (name:=name) (ver:=ver) (kind:=k0) p
 obtain⟨ka,kb,koff,kcap,hkf,hkm,hkcap,hkat⟩:=hK.at
 obtain rfl:=hkat.addr (by simp)
 have c0:w.cell? ⟨kb,koff,none⟩=some (.int .i64 k0):=hkat.int1 0 k0 rfl
 have hnk:(0:Int)<((k0 :: ks).length:Int):=Int.natCast_pos.2 (by simp)
 have hnk':0<(k0 :: ks).length:=by simp
 have HK:=Lib.hid hK
 subst hkf
 generalize p.sym s.weak name ver k0=q at *
 obtain⟨q1,q2⟩:=q
 simp only at hx hlen HQ
 have Hx:=Lib.hid hx
 have HR:=Lib.hid (fun (w':World) (hb:SymOk x)=>vright_any w' x hb)
 generalize hkl:(k0 :: ks)=kl at *
 clear hx hx2 hM hS hK hkat hn hv hk hkl
 obtain⟨m,hm⟩:∃ m,m=kl.length:=⟨_,rfl⟩
 have Hm:=Lib.hid hm
 rw [← hm]at HK hnk hnk' hkm hkcap ⊢
 clear hm
 go_enter Try.func42,Try.ntmps42
 go_wp2_with fail
 refine HSym.out.mono ?_
 rintro r w1 ⟨v1,rfl,hM1,hs1⟩
 have HM1:=Lib.hid hM1
 have HS1:=Lib.hid hs1
 simp only at hM1
 clear hs1 c0
 obtain⟨sa,sbk,soff,scap,hsf,hsm,hscap,hat⟩:=hM1.syms.lb.at
 have Hsf:=Lib.hid hsf
 obtain rfl:=hat.addr (by omega)
 have c9:=hM1.c9
 rw [hsf]at c9
 obtain⟨hxo,g0,g1,g2,g3,g4,g5,g6,g7,g8⟩:=hM1.symAt hsf q2 x Hx.out
 have Hxo:=Lib.hid hxo
 obtain⟨n,hn⟩:∃ n,n=q1.syms.length:=⟨_,rfl⟩
 rw [← hn]at c9 hlen hsm hscap
 have hq2:(q2:Int)<(n:Int):=by omega
 have hq2':q2<n:=hlen.2.2
 clear hsf hat hxo hn hM1
 have HHas:Hid (Calls Try.prog 79 #[.slice (some ⟨kb,koff,none⟩) m kcap,.int .i64 x.kind] w1 fun e w'=>e=.returned (.bool (decide (x.kind∈kl)))∧w'=w1):=Lib.hid (hasKind_any w1 _ kl x.kind (HK.out.keeps (fun b hb=>HS1.out.block hb)))
 go_upto_region 2 with fail
 go_cut [40]from 19 to 43 (fun v40 wx=>v40=.bool (!decide (x.kind∈kl)|| !symRightB x)∧Below w1.heap.size w1 wx)
 case first=>
  cases hd:decide (x.kind∈kl)with
  | true=>
   rw [hd]at HHas
   go_wp2_with fail
   refine HHas.out.mono ?_
   rintro r w2 ⟨rfl,rfl⟩
   go_wp2_with fail
   refine(HR.out _ Hxo.out).mono ?_
   rintro r w3 ⟨rfl,hb3⟩
   have Hb3:=Lib.hid hb3
   clear hb3
   cases hr:symRightB x with
   | true=>
    rw [rightErr_ok hr]
    have Hr:=Lib.hid hr
    have Hd:=Lib.hid hd
    clear hr hd
    go_wp2
    go_meet
    exact⟨by rw [Hd.out,Hr.out];rfl,Hb3.out⟩
   | false=>
    rw [rightErr_bad hr]
    have Hr:=Lib.hid hr
    have Hd:=Lib.hid hd
    clear hr hd
    go_wp2
    go_meet
    exact⟨by rw [Hd.out,Hr.out];rfl,Hb3.out⟩
  | false=>
   rw [hd]at HHas
   go_wp2_with fail
   refine HHas.out.mono ?_
   rintro r w2 ⟨rfl,rfl⟩
   have Hd:=Lib.hid hd
   clear hd
   go_wp2
   go_meet
   exact⟨by rw [Hd.out];rfl,Below.refl _ _⟩
 case rest=>
 obtain⟨rfl,hb⟩:=hcut
 rename World=>w4
 have HM4:=Lib.hid (HM1.out.below hb)
 have HS4:=Lib.hid (HS1.out.trans (PStep.below hb))
 clear hb c9 g0 g1 g2 g3 g4 g5 g6 g7 g8
 generalize (!decide (x.kind∈kl)|| !symRightB x)=bad at *
 rcases (by cases bad<;>simp:bad=true∨bad=false)with hbad | hbad
 ·subst hbad
  go_wp2_with fail
  refine(fail_any e HM4.out).mono ?_
  rintro e2 w5 ⟨rfl,hM5,hs5⟩
  have HE:Hid (AskPost B pb sv s own v w (q1.failIf true e,q2) (.returned (.int .i64 q2)) w5):=Lib.hid ⟨v1,rfl,hM5,HS4.out.trans hs5⟩
  rw [← HQ.out]at HE
  clear hM5 hs5
  go_wp2
  go_ret
  exact HE.out
 ·subst hbad
  have HE:Hid (AskPost B pb sv s own v w (q1.failIf false e,q2) (.returned (.int .i64 q2)) w4):=Lib.hid ⟨v1,rfl,HM4.out,HS4.out⟩
  rw [← HQ.out]at HE
  go_wp2
  go_ret
  exact HE.out
end Go.Proofs.Ytpomdoliblilfaa
namespace Go.Proofs.Ytpomdoliblilfaa
set_option linter.unusedVariables false
set_option linter.unusedSimpArgs false
open Go.RowKit
def DoPost (B pb:Nat) (sv:SpecV) (s:SpecL) (own:Int) (v:PlanV) (w:World) (q:PlanL) (r:Ending) (w':World):Prop:=
 ∃ v',r=.returned (.tuple #[])∧PlanM B pb w' sv s own v' q∧PStep pb v v' w w'
theorem lineB_kind0 {l:LineL} (h0:0≤l.a) (h1:l.a<16) (hk:l.kind=0):lineB l=instB l.inst:=by simp [lineB,h0,h1,hk]
theorem lineB_kind {l:LineL} (h0:0≤l.a) (h1:l.a<16) (hk0:0≤l.kind) (hk1:l.kind≤4) (hk:¬ l.kind=0):lineB l=true:=by simp [lineB,h0,h1,hk0,hk1,hk]
theorem lineB_bad {l:LineL} (h:l.kind<0∨4<l.kind∨l.a<0∨16≤l.a):lineB l=false:=by
 unfold lineB
 rcases h with h | h | h | h
 ·simp [show ¬ 0≤l.kind by omega]
 ·simp [show ¬ l.kind≤4 by omega]
 ·simp [show ¬ 0≤l.a by omega]
 ·simp [show ¬ l.a<16 by omega]
set_option maxHeartbeats 16000000 in
set_option maxRecDepth 100000 in
theorem line_any {B pb:Nat} {w:World} {sv:SpecV} {s:SpecL} {own:Int} {v:PlanV} {p:PlanL} (l:LineL) (hM:PlanM B pb w sv s own v p) (hl:LineOk l):
  Calls Try.prog 76 #[.pointer (some ⟨pb,0,none⟩),.agg #[.int .i64 l.kind,.int .i64 l.inst.op,.int .i64 l.inst.a,.int .i64 l.inst.b,.int .i64 l.inst.c,.int .i64 l.inst.imm,.int .i64 l.a,.string ⟨l.name.toArray⟩,.string ⟨l.ver.toArray⟩]] w (DoPost B pb sv s own v w (p.line l)):=by
 have HM1:=Lib.hid (hM.alloc (.cells #[.int .i64 l.kind,.int .i64 l.inst.op,.int .i64 l.inst.a,.int .i64 l.inst.b,.int .i64 l.inst.c,.int .i64 l.inst.imm,.int .i64 l.a,.string ⟨l.name.toArray⟩,.string ⟨l.ver.toArray⟩] 77))
 have HS1:=Lib.hid (PStep.alloc (pb:=pb) v w (.cells #[.int .i64 l.kind,.int .i64 l.inst.op,.int .i64 l.inst.a,.int .i64 l.inst.b,.int .i64 l.inst.c,.int .i64 l.inst.imm,.int .i64 l.a,.string ⟨l.name.toArray⟩,.string ⟨l.ver.toArray⟩] 77))
 have HX1:=Lib.hid (heap_alloc_new w (.cells #[.int .i64 l.kind,.int .i64 l.inst.op,.int .i64 l.inst.a,.int .i64 l.inst.b,.int .i64 l.inst.c,.int .i64 l.inst.imm,.int .i64 l.a,.string ⟨l.name.toArray⟩,.string ⟨l.ver.toArray⟩] 77))
 have HQ:Hid (p.line l=p.failIf (!lineB l) 101):=Lib.hid rfl
 have HMay:=Lib.hid (fun w=>imay1_any w l.inst hl.inst)
 have hk:=hl.kind
 have ha:=hl.a
 clear hM hl
 go_enter Try.func76,Try.ntmps76
 go_upto_region 1 with fail
 generalize w.alloc (.cells #[.int .i64 l.kind,.int .i64 l.inst.op,.int .i64 l.inst.a,.int .i64 l.inst.b,.int .i64 l.inst.c,.int .i64 l.inst.imm,.int .i64 l.a,.string ⟨l.name.toArray⟩,.string ⟨l.ver.toArray⟩] 77)=w1 at *
 have c0:w1.cell? ⟨w.heap.size,0,none⟩=some (.int .i64 l.kind):=by rw [Lib.cell_of_heap HX1.out];rfl
 have c1:w1.cell? ⟨w.heap.size,1,none⟩=some (.int .i64 l.inst.op):=by rw [Lib.cell_of_heap HX1.out];rfl
 have c2:w1.cell? ⟨w.heap.size,2,none⟩=some (.int .i64 l.inst.a):=by rw [Lib.cell_of_heap HX1.out];rfl
 have c3:w1.cell? ⟨w.heap.size,3,none⟩=some (.int .i64 l.inst.b):=by rw [Lib.cell_of_heap HX1.out];rfl
 have c4:w1.cell? ⟨w.heap.size,4,none⟩=some (.int .i64 l.inst.c):=by rw [Lib.cell_of_heap HX1.out];rfl
 have c5:w1.cell? ⟨w.heap.size,5,none⟩=some (.int .i64 l.inst.imm):=by rw [Lib.cell_of_heap HX1.out];rfl
 have c6:w1.cell? ⟨w.heap.size,6,none⟩=some (.int .i64 l.a):=by rw [Lib.cell_of_heap HX1.out];rfl
 go_cut [32]from 4 to 34 (fun v32 wx=>v32=.bool (!lineB l)∧Below w1.heap.size w1 wx)
 case first=>
  by_cases h1:l.kind<0
  ·have HB:=Lib.hid (lineB_bad (l:=l) (Or.inl h1))
   go_wp2
   go_meet
   exact⟨by rw [HB.out];rfl,Below.refl _ _⟩
  by_cases h2:4<l.kind
  ·have HB:=Lib.hid (lineB_bad (l:=l) (Or.inr (Or.inl h2)))
   go_wp2
   go_meet
   exact⟨by rw [HB.out];rfl,Below.refl _ _⟩
  by_cases h3:l.a<0
  ·have HB:=Lib.hid (lineB_bad (l:=l) (Or.inr (Or.inr (Or.inl h3))))
   go_wp2
   go_meet
   exact⟨by rw [HB.out];rfl,Below.refl _ _⟩
  by_cases h4:16≤l.a
  ·have HB:=Lib.hid (lineB_bad (l:=l) (Or.inr (Or.inr (Or.inr h4))))
   go_wp2
   go_meet
   exact⟨by rw [HB.out];rfl,Below.refl _ _⟩
  by_cases h5:l.kind=0
  ·have HB:=Lib.hid (lineB_kind0 (l:=l) (by omega) (by omega) h5)
   have hb5:(l.kind==0)=true:=by simp [h5]
   rw [h5]at c0
   clear hk h1 h2 h5 hb5
   cases hi:instB l.inst with
   | true=>
    have HE:Hid (mayErr l.inst=0):=Lib.hid (by unfold mayErr;rw [hi];rfl)
    have HI:=Lib.hid hi
    clear hi
    go_wp2_with fail
    refine(HMay.out _).mono ?_
    rintro e w2 ⟨rfl,hb⟩
    have Hb:=Lib.hid hb
    rw [HE.out]
    clear hb
    go_wp2
    go_meet
    exact⟨by rw [HB.out,HI.out];rfl,Hb.out⟩
   | false=>
    have HE:Hid (mayErr l.inst=40):=Lib.hid (by unfold mayErr;rw [hi];rfl)
    have HI:=Lib.hid hi
    clear hi
    go_wp2_with fail
    refine(HMay.out _).mono ?_
    rintro e w2 ⟨rfl,hb⟩
    have Hb:=Lib.hid hb
    rw [HE.out]
    clear hb
    go_wp2
    go_meet
    exact⟨by rw [HB.out,HI.out];rfl,Hb.out⟩
  ·have HB:=Lib.hid (lineB_kind (l:=l) (by omega) (by omega) (by omega) (by omega) h5)
   have hb5:(l.kind==0)=false:=by simp [h5]
   clear h5
   go_wp2
   go_meet
   exact⟨by rw [HB.out];rfl,Below.refl _ _⟩
 case rest=>
 obtain⟨rfl,hb⟩:=hcut
 rename World=>w3
 have HM3:=Lib.hid (HM1.out.below hb)
 have HS3:=Lib.hid (HS1.out.trans (PStep.below hb))
 clear hb c0 c1 c2 c3 c4 c5 c6
 generalize (!lineB l)=bad at *
 rcases (by cases bad<;>simp:bad=true∨bad=false)with hbad | hbad
 ·subst hbad
  go_wp2_with fail
  refine(fail_any 101 HM3.out).mono ?_
  rintro e2 w5 ⟨rfl,hM5,hs5⟩
  have HE:Hid (DoPost B pb sv s own v w (p.failIf true 101) (.returned (.tuple #[])) w5):=Lib.hid ⟨v,rfl,hM5,HS3.out.trans hs5⟩
  rw [← HQ.out]at HE
  clear hM5 hs5
  go_wp2
  go_end0
  exact HE.out
 ·subst hbad
  have HE:Hid (DoPost B pb sv s own v w (p.failIf false 101) (.returned (.tuple #[])) w3):=Lib.hid ⟨v,rfl,HM3.out,HS3.out⟩
  rw [← HQ.out]at HE
  go_wp2
  go_end0
  exact HE.out
end Go.Proofs.Ytpomdoliblilfaa
