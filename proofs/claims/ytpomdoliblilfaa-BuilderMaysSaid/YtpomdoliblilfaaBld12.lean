/- Lemmas. -/
import Derived.Test.YtpomdoliblilfaaBld11
namespace Go.Proofs.Ytpomdoliblilfaa
set_option linter.unusedVariables false
set_option linter.unusedSimpArgs false
open Go.RowKit
section
variable {S : Nat → Prop} {w : World} {a : Option Addr} {b off : Nat}
theorem LAt.func10 {l:List FuncL} (h:LAt kFunc S w l a b off) (i:Nat) (x:FuncL) (hx:l[i]? =some x):∃ c,LB kLine S w c x.lines∧SymOk x.sym∧w.cell? ⟨b,off+i*10,none⟩=some (.string ⟨x.sym.name.toArray⟩)∧w.cell? ⟨b,off+i*10+1,none⟩=some (.string ⟨x.sym.version.toArray⟩)∧
  w.cell? ⟨b,off+i*10+2,none⟩=some (.bool x.sym.old)∧w.cell? ⟨b,off+i*10+3,none⟩=some (.int .i64 x.sym.kind)∧w.cell? ⟨b,off+i*10+4,none⟩=some (.bool x.sym.weak)∧w.cell? ⟨b,off+i*10+5,none⟩=some (.int .i64 x.sym.vis)∧
  w.cell? ⟨b,off+i*10+6,none⟩=some (.bool x.sym.defined)∧w.cell? ⟨b,off+i*10+7,none⟩=some (.int .i64 x.sym.value)∧w.cell? ⟨b,off+i*10+8,none⟩=some (.int .i64 x.sym.size)∧w.cell? ⟨b,off+i*10+9,none⟩=some c:=by
 obtain⟨row,⟨c,h1,h1',h3⟩,h2⟩:=h.row i x hx
 subst h1
 exact⟨c,h1',h3,h2 0 _ rfl,h2 1 _ rfl,h2 2 _ rfl,h2 3 _ rfl,h2 4 _ rfl,h2 5 _ rfl,h2 6 _ rfl,h2 7 _ rfl,h2 8 _ rfl,h2 9 _ rfl⟩
theorem LAt.line9 {l:List LineL} (h:LAt kLine S w l a b off) (i:Nat) (x:LineL) (hx:l[i]? =some x):LineOk x∧w.cell? ⟨b,off+i*9,none⟩=some (.int .i64 x.kind)∧w.cell? ⟨b,off+i*9+1,none⟩=some (.int .i64 x.inst.op)∧
  w.cell? ⟨b,off+i*9+2,none⟩=some (.int .i64 x.inst.a)∧w.cell? ⟨b,off+i*9+3,none⟩=some (.int .i64 x.inst.b)∧w.cell? ⟨b,off+i*9+4,none⟩=some (.int .i64 x.inst.c)∧w.cell? ⟨b,off+i*9+5,none⟩=some (.int .i64 x.inst.imm)∧
  w.cell? ⟨b,off+i*9+6,none⟩=some (.int .i64 x.a)∧w.cell? ⟨b,off+i*9+7,none⟩=some (.string ⟨x.name.toArray⟩)∧w.cell? ⟨b,off+i*9+8,none⟩=some (.string ⟨x.ver.toArray⟩):=by
 obtain⟨row,⟨h1,h1'⟩,h2⟩:=h.row i x hx
 subst h1
 exact⟨h1',h2 0 _ rfl,h2 1 _ rfl,h2 2 _ rfl,h2 3 _ rfl,h2 4 _ rfl,h2 5 _ rfl,h2 6 _ rfl,h2 7 _ rfl,h2 8 _ rfl⟩
theorem LAt.var12 {l:List VarL} (h:LAt kVar S w l a b off) (i:Nat) (x:VarL) (hx:l[i]? =some x):∃ c d,LB kInt S w c x.words∧LB kRef S w d x.refs∧SymOk x.sym∧w.cell? ⟨b,off+i*12,none⟩=some (.string ⟨x.sym.name.toArray⟩)∧w.cell? ⟨b,off+i*12+1,none⟩=some (.string ⟨x.sym.version.toArray⟩)∧
  w.cell? ⟨b,off+i*12+2,none⟩=some (.bool x.sym.old)∧w.cell? ⟨b,off+i*12+3,none⟩=some (.int .i64 x.sym.kind)∧w.cell? ⟨b,off+i*12+4,none⟩=some (.bool x.sym.weak)∧w.cell? ⟨b,off+i*12+5,none⟩=some (.int .i64 x.sym.vis)∧
  w.cell? ⟨b,off+i*12+6,none⟩=some (.bool x.sym.defined)∧w.cell? ⟨b,off+i*12+7,none⟩=some (.int .i64 x.sym.value)∧w.cell? ⟨b,off+i*12+8,none⟩=some (.int .i64 x.sym.size)∧
  w.cell? ⟨b,off+i*12+9,none⟩=some c∧w.cell? ⟨b,off+i*12+10,none⟩=some d∧w.cell? ⟨b,off+i*12+11,none⟩=some (.bool x.copied):=by
 obtain⟨row,⟨c,d,h1,h1',h3,h4⟩,h2⟩:=h.row i x hx
 subst h1
 exact⟨c,d,h1',h3,h4,h2 0 _ rfl,h2 1 _ rfl,h2 2 _ rfl,h2 3 _ rfl,h2 4 _ rfl,h2 5 _ rfl,h2 6 _ rfl,h2 7 _ rfl,h2 8 _ rfl,h2 9 _ rfl,h2 10 _ rfl,h2 11 _ rfl⟩
theorem LAt.ref4 {l:List RefL} (h:LAt kRef S w l a b off) (i:Nat) (x:RefL) (hx:l[i]? =some x):(In63 x.word∧In63 x.add∧Small63 x.name∧Small63 x.ver)∧w.cell? ⟨b,off+i*4,none⟩=some (.int .i64 x.word)∧w.cell? ⟨b,off+i*4+1,none⟩=some (.string ⟨x.name.toArray⟩)∧
  w.cell? ⟨b,off+i*4+2,none⟩=some (.string ⟨x.ver.toArray⟩)∧w.cell? ⟨b,off+i*4+3,none⟩=some (.int .i64 x.add):=by
 obtain⟨row,⟨h1,h1'⟩,h2⟩:=h.row i x hx
 subst h1
 exact⟨h1',h2 0 _ rfl,h2 1 _ rfl,h2 2 _ rfl,h2 3 _ rfl⟩
end
def PlanL.sz (p:PlanL):Nat:=p.syms.length+p.cells.length+p.jumps.length
theorem foldl_sz {α:Type} {F:PlanL→α→PlanL} {c:Nat} (hF:∀ p x,(F p x).sz≤p.sz+c):∀ (l:List α) (p:PlanL),(l.foldl F p).sz≤p.sz+c*l.length
 | [],p=>by simp
 | x :: l,p=>by
  have h1:=foldl_sz hF l (F p x)
  have h2:=hF p x
  rw [List.foldl_cons,List.length_cons,Nat.mul_add];omega
theorem take_lines {l:List FuncL} {k:Nat} {f:FuncL} (h:l[k]? =some f):(l.take (k+1)).flatMap (·.lines)=(l.take k).flatMap (·.lines)++f.lines:=by
 rw [List.take_add_one,h,List.flatMap_append];simp
theorem take_lines_len (l:List FuncL) (k:Nat):((l.take k).flatMap (·.lines)).length≤(l.flatMap (·.lines)).length:=by
 have h:l.flatMap (·.lines)=(l.take k).flatMap (·.lines)++(l.drop k).flatMap (·.lines):=by rw [← List.flatMap_append,List.take_append_drop]
 rw [h];simp
theorem foldl_take_next {α β:Type} {F:β→α→β} {l:List α} {k:Nat} {x:α} (h:l[k]? =some x) (p:β):(l.take (k+1)).foldl F p=F ((l.take k).foldl F p) x:=by
 rw [List.take_add_one,h,List.foldl_append];rfl
set_option maxHeartbeats 16000000 in
set_option maxRecDepth 100000 in
theorem each_line {B pb:Nat} {w:World} {sv:SpecV} {s:SpecL} {own:Int} {v:PlanV} {p:PlanL} (F:PlanL→LineL→PlanL)
  (hDo:∀ (w:World) (v:PlanV) (p:PlanL) (l:LineL),PlanM B pb w sv s own v p→SpecM (·<B) w sv s→LineOk l→p.sz≤999990→B≤w.heap.size→
   Calls Try.prog 76 #[.pointer (some ⟨pb,0,none⟩),.agg #[.int .i64 l.kind,.int .i64 l.inst.op,.int .i64 l.inst.a,.int .i64 l.inst.b,.int .i64 l.inst.c,.int .i64 l.inst.imm,.int .i64 l.a,.string ⟨l.name.toArray⟩,.string ⟨l.ver.toArray⟩]] w (DoPost B pb sv s own v w (F p l)))
  (hF:∀ p l,(F p l).sz≤p.sz+3) (hM:PlanM B pb w sv s own v p) (hS:SpecM (·<B) w sv s) (hsz:p.sz+3*s.lines.length≤999990) (hB:B≤w.heap.size):
  Calls Try.prog 75 #[.pointer (some ⟨pb,0,none⟩),.func (.func 76) #[.pointer (some ⟨pb,0,none⟩)] #[]] w (DoPost B pb sv s own v w (s.lines.foldl F p)):=by
 have HDo:=Lib.hid hDo
 have HF:=Lib.hid hF
 have HM:=Lib.hid hM
 have HS:=Lib.hid hS
 have c4:=hM.c4
 obtain⟨fa,fb,foff,fcap,hff,hfm,hfcap,hfat⟩:=hS.funcs.at
 rw [hff]at c4
 have Hff:=Lib.hid hff
 have hfa:=hfat.addr
 obtain⟨m,hm⟩:∃ m,m=s.funcs.length:=⟨_,rfl⟩
 have Hm:=Lib.hid hm
 have Hfat:=Lib.hid hfat
 rw [← hm]at c4 hfm hfcap hfa Hff
 have hpl:=hM.lt
 clear hDo hF hM hS hff hfat hm
 go_enter Try.func75,Try.ntmps75
 go_wp2_with fail
 go_loopw [14] (fun i wr=>∃ (k:Nat) (v':PlanV),i=.int .i64 k∧k≤m∧PlanM B pb wr sv s own v' (((s.funcs.take k).flatMap (·.lines)).foldl F p)∧PStep pb v v' w wr) (fun i _=>m-(intOf i).toNat)
 case atStart=>exact⟨0,v,rfl,Nat.zero_le _,by simpa using HM.out,PStep.refl _ _ _⟩
 case round=>
  obtain⟨k,v1,rfl,hk,hM1,hs1⟩:=hrel
  have HM1:=Lib.hid hM1
  have HS1:=Lib.hid hs1
  have hz1:=hs1.step.size
  have HL1:=Lib.hid (hs1.low HM.out hB)
  clear hM1 hs1
  by_cases hlt:k<m
  ·obtain rfl:=hfa (by omega)
   obtain⟨f,hf⟩:∃ f,s.funcs[k]? =some f:=⟨_,List.getElem?_eq_getElem (by rw [← Hm.out];exact hlt)⟩
   obtain⟨lv,hlv,-,g0,g1,g2,g3,g4,g5,g6,g7,g8,g9⟩:=(Hfat.out.below HL1.out).func10 k f hf
   have Hlv:=Lib.hid hlv
   obtain⟨la,lb,loff,lcap,hlf,hlm,hlcap,hlat⟩:=hlv.at
   have hla:=hlat.addr
   subst hlf
   have Hf:=Lib.hid hf
   have hk2:(k:Int)<(m:Int):=by omega
   obtain⟨q,hq⟩:∃ q,q=((s.funcs.take k).flatMap (·.lines)).foldl F p:=⟨_,rfl⟩
   have Hnext:Hid (((s.funcs.take (k+1)).flatMap (·.lines)).foldl F p=f.lines.foldl F q):=Lib.hid (by rw [take_lines hf,List.foldl_append,hq])
   have Hqsz:Hid (q.sz+3*f.lines.length≤999990):=Lib.hid (by
    have h1:=foldl_sz HF.out ((s.funcs.take k).flatMap (·.lines)) p
    have h2:=take_lines_len s.funcs (k+1)
    rw [take_lines hf,List.length_append]at h2
    rw [← hq]at h1
    have h3:s.lines.length=(s.funcs.flatMap (·.lines)).length:=rfl
    omega)
   rw [← hq]at HM1
   clear hq hf hlv
   obtain⟨c,hc⟩:∃ c,c=f.lines.length:=⟨_,rfl⟩
   have Hc:=Lib.hid hc
   rw [← hc]at g9 hlm hlcap hla
   clear hc
   have Hlat:=Lib.hid hlat
   clear hlat
   generalize hw1:wr=w1 at *
   clear hw1
   go_wp2_with fail
   have HM2:=Lib.hid (HM1.out.alloc (.cells #[.string ⟨f.sym.name.toArray⟩,.string ⟨f.sym.version.toArray⟩,.bool f.sym.old,.int .i64 f.sym.kind,.bool f.sym.weak,.int .i64 f.sym.vis,.bool f.sym.defined,.int .i64 f.sym.value,.int .i64 f.sym.size,.slice la c lcap] 68))
   have HS2:=Lib.hid (HS1.out.trans (PStep.alloc v1 w1 (.cells #[.string ⟨f.sym.name.toArray⟩,.string ⟨f.sym.version.toArray⟩,.bool f.sym.old,.int .i64 f.sym.kind,.bool f.sym.weak,.int .i64 f.sym.vis,.bool f.sym.defined,.int .i64 f.sym.value,.int .i64 f.sym.size,.slice la c lcap] 68)))
   clear g0 g1 g2 g3 g4 g5 g6 g7 g8 g9
   have Hlat2:=Lib.hid (Hlat.out.below ((Below.refl B w1).alloc (by omega) (.cells #[.string ⟨f.sym.name.toArray⟩,.string ⟨f.sym.version.toArray⟩,.bool f.sym.old,.int .i64 f.sym.kind,.bool f.sym.weak,.int .i64 f.sym.vis,.bool f.sym.defined,.int .i64 f.sym.value,.int .i64 f.sym.size,.slice la c lcap] 68)))
   have HSp2:=Lib.hid (HS.out.keeps (.of_below (HL1.out.trans ((Below.refl B w1).alloc (by omega) (.cells #[.string ⟨f.sym.name.toArray⟩,.string ⟨f.sym.version.toArray⟩,.bool f.sym.old,.int .i64 f.sym.kind,.bool f.sym.weak,.int .i64 f.sym.vis,.bool f.sym.defined,.int .i64 f.sym.value,.int .i64 f.sym.size,.slice la c lcap] 68)))))
   have hz2:=HS2.out.step.size
   generalize w1.alloc (.cells #[.string ⟨f.sym.name.toArray⟩,.string ⟨f.sym.version.toArray⟩,.bool f.sym.old,.int .i64 f.sym.kind,.bool f.sym.weak,.int .i64 f.sym.vis,.bool f.sym.defined,.int .i64 f.sym.value,.int .i64 f.sym.size,.slice la c lcap] 68)=w2 at *
   go_loopw [21] (fun i wr=>∃ (j:Nat) (v':PlanV),i=.int .i64 j∧j≤c∧PlanM B pb wr sv s own v' ((f.lines.take j).foldl F q)∧PStep pb v1 v' w2 wr) (fun i _=>c-(intOf i).toNat)
   case atStart=>exact⟨0,v1,rfl,Nat.zero_le _,HM2.out,PStep.refl _ _ _⟩
   case round=>
    obtain⟨j,v3,rfl,hj,hM3,hs3⟩:=hrel
    have HM3:=Lib.hid hM3
    have HS3:=Lib.hid hs3
    have hz3:=hs3.step.size
    have HL3:=Lib.hid (hs3.low HM2.out (by omega))
    clear hM3 hs3
    by_cases hjt:j<c
    ·obtain rfl:=hla (by omega)
     obtain⟨x,hx⟩:∃ x,f.lines[j]? =some x:=⟨_,List.getElem?_eq_getElem (by rw [← Hc.out];exact hjt)⟩
     obtain⟨hxo,l0,l1,l2,l3,l4,l5,l6,l7,l8⟩:=(Hlat2.out.below HL3.out).line9 j x hx
     have Hstep:=Lib.hid (foldl_take_next (F:=F) hx q)
     have hj2:(j:Int)<(c:Int):=by omega
     have HM4:=Lib.hid (HM3.out.alloc (.cells #[.int .i64 x.kind,.int .i64 x.inst.op,.int .i64 x.inst.a,.int .i64 x.inst.b,.int .i64 x.inst.c,.int .i64 x.inst.imm,.int .i64 x.a,.string ⟨x.name.toArray⟩,.string ⟨x.ver.toArray⟩] 77))
     have HS4:=Lib.hid (HS3.out.trans (PStep.alloc v3 wr (.cells #[.int .i64 x.kind,.int .i64 x.inst.op,.int .i64 x.inst.a,.int .i64 x.inst.b,.int .i64 x.inst.c,.int .i64 x.inst.imm,.int .i64 x.a,.string ⟨x.name.toArray⟩,.string ⟨x.ver.toArray⟩] 77)))
     have HCall:=Lib.hid (HDo.out (wr.alloc (.cells #[.int .i64 x.kind,.int .i64 x.inst.op,.int .i64 x.inst.a,.int .i64 x.inst.b,.int .i64 x.inst.c,.int .i64 x.inst.imm,.int .i64 x.a,.string ⟨x.name.toArray⟩,.string ⟨x.ver.toArray⟩] 77)) v3 ((f.lines.take j).foldl F q) x HM4.out (HSp2.out.keeps (.of_below (HL3.out.trans ((Below.refl B wr).alloc (by omega) (.cells #[.int .i64 x.kind,.int .i64 x.inst.op,.int .i64 x.inst.a,.int .i64 x.inst.b,.int .i64 x.inst.c,.int .i64 x.inst.imm,.int .i64 x.a,.string ⟨x.name.toArray⟩,.string ⟨x.ver.toArray⟩] 77))))) hxo (by
      have h1:=foldl_sz HF.out (f.lines.take j) q
      have h2:=Hqsz.out
      rw [List.length_take]at h1
      have h3:min j f.lines.length≤f.lines.length:=Nat.min_le_right _ _
      omega) (by simp;omega))
     clear hx hxo
     go_wp2_with fail
     refine HCall.out.mono ?_
     rintro e w5 ⟨v5,rfl,hM5,hs5⟩
     have HM5:=Lib.hid hM5
     have HS5:=Lib.hid (HS4.out.trans hs5)
     clear hM5 hs5 l0 l1 l2 l3 l4 l5 l6 l7 l8
     go_wp2
     go_roundw
     case rel=>exact⟨j+1,v5,by go_num,by omega,by rw [Hstep.out];exact HM5.out,HS5.out⟩
     case measure=>simp [intOf];omega
    ·have HMe:Hid (PlanM B pb wr sv s own v3 (f.lines.foldl F q)):=Lib.hid (by
      have h:=HM3.out
      rwa [List.take_of_length_le (by have:=Hc.out;omega)]at h)
     go_wp2
     go_roundw
     case rel=>exact⟨k+1,v3,by go_num,by omega,by rw [Hnext.out];exact HMe.out,HS2.out.trans HS3.out⟩
     case measure=>simp [intOf];omega
  ·have HE:Hid (DoPost B pb sv s own v w (s.lines.foldl F p) (.returned (.tuple #[])) wr):=Lib.hid ⟨v1,rfl,by
    have h:=HM1.out
    rwa [List.take_of_length_le (by have:=Hm.out;omega)]at h,HS1.out⟩
   go_wp2
   go_end0
   exact HE.out
set_option maxHeartbeats 16000000 in
set_option maxRecDepth 100000 in
theorem each_called {B pb:Nat} {w:World} {sv:SpecV} {s:SpecL} {own:Int} {v:PlanV} {p:PlanL} (F:PlanL→LineL→PlanL)
  (hDo:∀ (w:World) (v:PlanV) (p:PlanL) (l:LineL),PlanM B pb w sv s own v p→SpecM (·<B) w sv s→LineOk l→p.sz≤999990→B≤w.heap.size→
   Calls Try.prog 77 #[.pointer (some ⟨pb,0,none⟩),.agg #[.int .i64 l.kind,.int .i64 l.inst.op,.int .i64 l.inst.a,.int .i64 l.inst.b,.int .i64 l.inst.c,.int .i64 l.inst.imm,.int .i64 l.a,.string ⟨l.name.toArray⟩,.string ⟨l.ver.toArray⟩]] w (DoPost B pb sv s own v w (F p l)))
  (hF:∀ p l,(F p l).sz≤p.sz+3) (hM:PlanM B pb w sv s own v p) (hS:SpecM (·<B) w sv s) (hsz:p.sz+3*s.lines.length≤999990) (hB:B≤w.heap.size):
  Calls Try.prog 75 #[.pointer (some ⟨pb,0,none⟩),.func (.func 77) #[.pointer (some ⟨pb,0,none⟩)] #[]] w (DoPost B pb sv s own v w (s.lines.foldl F p)):=by
 have HDo:=Lib.hid hDo
 have HF:=Lib.hid hF
 have HM:=Lib.hid hM
 have HS:=Lib.hid hS
 have c4:=hM.c4
 obtain⟨fa,fb,foff,fcap,hff,hfm,hfcap,hfat⟩:=hS.funcs.at
 rw [hff]at c4
 have Hff:=Lib.hid hff
 have hfa:=hfat.addr
 obtain⟨m,hm⟩:∃ m,m=s.funcs.length:=⟨_,rfl⟩
 have Hm:=Lib.hid hm
 have Hfat:=Lib.hid hfat
 rw [← hm]at c4 hfm hfcap hfa Hff
 have hpl:=hM.lt
 clear hDo hF hM hS hff hfat hm
 go_enter Try.func75,Try.ntmps75
 go_wp2_with fail
 go_loopw [14] (fun i wr=>∃ (k:Nat) (v':PlanV),i=.int .i64 k∧k≤m∧PlanM B pb wr sv s own v' (((s.funcs.take k).flatMap (·.lines)).foldl F p)∧PStep pb v v' w wr) (fun i _=>m-(intOf i).toNat)
 case atStart=>exact⟨0,v,rfl,Nat.zero_le _,by simpa using HM.out,PStep.refl _ _ _⟩
 case round=>
  obtain⟨k,v1,rfl,hk,hM1,hs1⟩:=hrel
  have HM1:=Lib.hid hM1
  have HS1:=Lib.hid hs1
  have hz1:=hs1.step.size
  have HL1:=Lib.hid (hs1.low HM.out hB)
  clear hM1 hs1
  by_cases hlt:k<m
  ·obtain rfl:=hfa (by omega)
   obtain⟨f,hf⟩:∃ f,s.funcs[k]? =some f:=⟨_,List.getElem?_eq_getElem (by rw [← Hm.out];exact hlt)⟩
   obtain⟨lv,hlv,-,g0,g1,g2,g3,g4,g5,g6,g7,g8,g9⟩:=(Hfat.out.below HL1.out).func10 k f hf
   have Hlv:=Lib.hid hlv
   obtain⟨la,lb,loff,lcap,hlf,hlm,hlcap,hlat⟩:=hlv.at
   have hla:=hlat.addr
   subst hlf
   have Hf:=Lib.hid hf
   have hk2:(k:Int)<(m:Int):=by omega
   obtain⟨q,hq⟩:∃ q,q=((s.funcs.take k).flatMap (·.lines)).foldl F p:=⟨_,rfl⟩
   have Hnext:Hid (((s.funcs.take (k+1)).flatMap (·.lines)).foldl F p=f.lines.foldl F q):=Lib.hid (by rw [take_lines hf,List.foldl_append,hq])
   have Hqsz:Hid (q.sz+3*f.lines.length≤999990):=Lib.hid (by
    have h1:=foldl_sz HF.out ((s.funcs.take k).flatMap (·.lines)) p
    have h2:=take_lines_len s.funcs (k+1)
    rw [take_lines hf,List.length_append]at h2
    rw [← hq]at h1
    have h3:s.lines.length=(s.funcs.flatMap (·.lines)).length:=rfl
    omega)
   rw [← hq]at HM1
   clear hq hf hlv
   obtain⟨c,hc⟩:∃ c,c=f.lines.length:=⟨_,rfl⟩
   have Hc:=Lib.hid hc
   rw [← hc]at g9 hlm hlcap hla
   clear hc
   have Hlat:=Lib.hid hlat
   clear hlat
   generalize hw1:wr=w1 at *
   clear hw1
   go_wp2_with fail
   have HM2:=Lib.hid (HM1.out.alloc (.cells #[.string ⟨f.sym.name.toArray⟩,.string ⟨f.sym.version.toArray⟩,.bool f.sym.old,.int .i64 f.sym.kind,.bool f.sym.weak,.int .i64 f.sym.vis,.bool f.sym.defined,.int .i64 f.sym.value,.int .i64 f.sym.size,.slice la c lcap] 68))
   have HS2:=Lib.hid (HS1.out.trans (PStep.alloc v1 w1 (.cells #[.string ⟨f.sym.name.toArray⟩,.string ⟨f.sym.version.toArray⟩,.bool f.sym.old,.int .i64 f.sym.kind,.bool f.sym.weak,.int .i64 f.sym.vis,.bool f.sym.defined,.int .i64 f.sym.value,.int .i64 f.sym.size,.slice la c lcap] 68)))
   clear g0 g1 g2 g3 g4 g5 g6 g7 g8 g9
   have Hlat2:=Lib.hid (Hlat.out.below ((Below.refl B w1).alloc (by omega) (.cells #[.string ⟨f.sym.name.toArray⟩,.string ⟨f.sym.version.toArray⟩,.bool f.sym.old,.int .i64 f.sym.kind,.bool f.sym.weak,.int .i64 f.sym.vis,.bool f.sym.defined,.int .i64 f.sym.value,.int .i64 f.sym.size,.slice la c lcap] 68)))
   have HSp2:=Lib.hid (HS.out.keeps (.of_below (HL1.out.trans ((Below.refl B w1).alloc (by omega) (.cells #[.string ⟨f.sym.name.toArray⟩,.string ⟨f.sym.version.toArray⟩,.bool f.sym.old,.int .i64 f.sym.kind,.bool f.sym.weak,.int .i64 f.sym.vis,.bool f.sym.defined,.int .i64 f.sym.value,.int .i64 f.sym.size,.slice la c lcap] 68)))))
   have hz2:=HS2.out.step.size
   generalize w1.alloc (.cells #[.string ⟨f.sym.name.toArray⟩,.string ⟨f.sym.version.toArray⟩,.bool f.sym.old,.int .i64 f.sym.kind,.bool f.sym.weak,.int .i64 f.sym.vis,.bool f.sym.defined,.int .i64 f.sym.value,.int .i64 f.sym.size,.slice la c lcap] 68)=w2 at *
   go_loopw [21] (fun i wr=>∃ (j:Nat) (v':PlanV),i=.int .i64 j∧j≤c∧PlanM B pb wr sv s own v' ((f.lines.take j).foldl F q)∧PStep pb v1 v' w2 wr) (fun i _=>c-(intOf i).toNat)
   case atStart=>exact⟨0,v1,rfl,Nat.zero_le _,HM2.out,PStep.refl _ _ _⟩
   case round=>
    obtain⟨j,v3,rfl,hj,hM3,hs3⟩:=hrel
    have HM3:=Lib.hid hM3
    have HS3:=Lib.hid hs3
    have hz3:=hs3.step.size
    have HL3:=Lib.hid (hs3.low HM2.out (by omega))
    clear hM3 hs3
    by_cases hjt:j<c
    ·obtain rfl:=hla (by omega)
     obtain⟨x,hx⟩:∃ x,f.lines[j]? =some x:=⟨_,List.getElem?_eq_getElem (by rw [← Hc.out];exact hjt)⟩
     obtain⟨hxo,l0,l1,l2,l3,l4,l5,l6,l7,l8⟩:=(Hlat2.out.below HL3.out).line9 j x hx
     have Hstep:=Lib.hid (foldl_take_next (F:=F) hx q)
     have hj2:(j:Int)<(c:Int):=by omega
     have HM4:=Lib.hid (HM3.out.alloc (.cells #[.int .i64 x.kind,.int .i64 x.inst.op,.int .i64 x.inst.a,.int .i64 x.inst.b,.int .i64 x.inst.c,.int .i64 x.inst.imm,.int .i64 x.a,.string ⟨x.name.toArray⟩,.string ⟨x.ver.toArray⟩] 77))
     have HS4:=Lib.hid (HS3.out.trans (PStep.alloc v3 wr (.cells #[.int .i64 x.kind,.int .i64 x.inst.op,.int .i64 x.inst.a,.int .i64 x.inst.b,.int .i64 x.inst.c,.int .i64 x.inst.imm,.int .i64 x.a,.string ⟨x.name.toArray⟩,.string ⟨x.ver.toArray⟩] 77)))
     have HCall:=Lib.hid (HDo.out (wr.alloc (.cells #[.int .i64 x.kind,.int .i64 x.inst.op,.int .i64 x.inst.a,.int .i64 x.inst.b,.int .i64 x.inst.c,.int .i64 x.inst.imm,.int .i64 x.a,.string ⟨x.name.toArray⟩,.string ⟨x.ver.toArray⟩] 77)) v3 ((f.lines.take j).foldl F q) x HM4.out (HSp2.out.keeps (.of_below (HL3.out.trans ((Below.refl B wr).alloc (by omega) (.cells #[.int .i64 x.kind,.int .i64 x.inst.op,.int .i64 x.inst.a,.int .i64 x.inst.b,.int .i64 x.inst.c,.int .i64 x.inst.imm,.int .i64 x.a,.string ⟨x.name.toArray⟩,.string ⟨x.ver.toArray⟩] 77))))) hxo (by
      have h1:=foldl_sz HF.out (f.lines.take j) q
      have h2:=Hqsz.out
      rw [List.length_take]at h1
      have h3:min j f.lines.length≤f.lines.length:=Nat.min_le_right _ _
      omega) (by simp;omega))
     clear hx hxo
     go_wp2_with fail
     refine HCall.out.mono ?_
     rintro e w5 ⟨v5,rfl,hM5,hs5⟩
     have HM5:=Lib.hid hM5
     have HS5:=Lib.hid (HS4.out.trans hs5)
     clear hM5 hs5 l0 l1 l2 l3 l4 l5 l6 l7 l8
     go_wp2
     go_roundw
     case rel=>exact⟨j+1,v5,by go_num,by omega,by rw [Hstep.out];exact HM5.out,HS5.out⟩
     case measure=>simp [intOf];omega
    ·have HMe:Hid (PlanM B pb wr sv s own v3 (f.lines.foldl F q)):=Lib.hid (by
      have h:=HM3.out
      rwa [List.take_of_length_le (by have:=Hc.out;omega)]at h)
     go_wp2
     go_roundw
     case rel=>exact⟨k+1,v3,by go_num,by omega,by rw [Hnext.out];exact HMe.out,HS2.out.trans HS3.out⟩
     case measure=>simp [intOf];omega
  ·have HE:Hid (DoPost B pb sv s own v w (s.lines.foldl F p) (.returned (.tuple #[])) wr):=Lib.hid ⟨v1,rfl,by
    have h:=HM1.out
    rwa [List.take_of_length_le (by have:=Hm.out;omega)]at h,HS1.out⟩
   go_wp2
   go_end0
   exact HE.out
set_option maxHeartbeats 16000000 in
set_option maxRecDepth 100000 in
theorem each_addressed {B pb:Nat} {w:World} {sv:SpecV} {s:SpecL} {own:Int} {v:PlanV} {p:PlanL} (F:PlanL→LineL→PlanL)
  (hDo:∀ (w:World) (v:PlanV) (p:PlanL) (l:LineL),PlanM B pb w sv s own v p→SpecM (·<B) w sv s→LineOk l→p.sz≤999990→B≤w.heap.size→
   Calls Try.prog 78 #[.pointer (some ⟨pb,0,none⟩),.agg #[.int .i64 l.kind,.int .i64 l.inst.op,.int .i64 l.inst.a,.int .i64 l.inst.b,.int .i64 l.inst.c,.int .i64 l.inst.imm,.int .i64 l.a,.string ⟨l.name.toArray⟩,.string ⟨l.ver.toArray⟩]] w (DoPost B pb sv s own v w (F p l)))
  (hF:∀ p l,(F p l).sz≤p.sz+3) (hM:PlanM B pb w sv s own v p) (hS:SpecM (·<B) w sv s) (hsz:p.sz+3*s.lines.length≤999990) (hB:B≤w.heap.size):
  Calls Try.prog 75 #[.pointer (some ⟨pb,0,none⟩),.func (.func 78) #[.pointer (some ⟨pb,0,none⟩)] #[]] w (DoPost B pb sv s own v w (s.lines.foldl F p)):=by
 have HDo:=Lib.hid hDo
 have HF:=Lib.hid hF
 have HM:=Lib.hid hM
 have HS:=Lib.hid hS
 have c4:=hM.c4
 obtain⟨fa,fb,foff,fcap,hff,hfm,hfcap,hfat⟩:=hS.funcs.at
 rw [hff]at c4
 have Hff:=Lib.hid hff
 have hfa:=hfat.addr
 obtain⟨m,hm⟩:∃ m,m=s.funcs.length:=⟨_,rfl⟩
 have Hm:=Lib.hid hm
 have Hfat:=Lib.hid hfat
 rw [← hm]at c4 hfm hfcap hfa Hff
 have hpl:=hM.lt
 clear hDo hF hM hS hff hfat hm
 go_enter Try.func75,Try.ntmps75
 go_wp2_with fail
 go_loopw [14] (fun i wr=>∃ (k:Nat) (v':PlanV),i=.int .i64 k∧k≤m∧PlanM B pb wr sv s own v' (((s.funcs.take k).flatMap (·.lines)).foldl F p)∧PStep pb v v' w wr) (fun i _=>m-(intOf i).toNat)
 case atStart=>exact⟨0,v,rfl,Nat.zero_le _,by simpa using HM.out,PStep.refl _ _ _⟩
 case round=>
  obtain⟨k,v1,rfl,hk,hM1,hs1⟩:=hrel
  have HM1:=Lib.hid hM1
  have HS1:=Lib.hid hs1
  have hz1:=hs1.step.size
  have HL1:=Lib.hid (hs1.low HM.out hB)
  clear hM1 hs1
  by_cases hlt:k<m
  ·obtain rfl:=hfa (by omega)
   obtain⟨f,hf⟩:∃ f,s.funcs[k]? =some f:=⟨_,List.getElem?_eq_getElem (by rw [← Hm.out];exact hlt)⟩
   obtain⟨lv,hlv,-,g0,g1,g2,g3,g4,g5,g6,g7,g8,g9⟩:=(Hfat.out.below HL1.out).func10 k f hf
   have Hlv:=Lib.hid hlv
   obtain⟨la,lb,loff,lcap,hlf,hlm,hlcap,hlat⟩:=hlv.at
   have hla:=hlat.addr
   subst hlf
   have Hf:=Lib.hid hf
   have hk2:(k:Int)<(m:Int):=by omega
   obtain⟨q,hq⟩:∃ q,q=((s.funcs.take k).flatMap (·.lines)).foldl F p:=⟨_,rfl⟩
   have Hnext:Hid (((s.funcs.take (k+1)).flatMap (·.lines)).foldl F p=f.lines.foldl F q):=Lib.hid (by rw [take_lines hf,List.foldl_append,hq])
   have Hqsz:Hid (q.sz+3*f.lines.length≤999990):=Lib.hid (by
    have h1:=foldl_sz HF.out ((s.funcs.take k).flatMap (·.lines)) p
    have h2:=take_lines_len s.funcs (k+1)
    rw [take_lines hf,List.length_append]at h2
    rw [← hq]at h1
    have h3:s.lines.length=(s.funcs.flatMap (·.lines)).length:=rfl
    omega)
   rw [← hq]at HM1
   clear hq hf hlv
   obtain⟨c,hc⟩:∃ c,c=f.lines.length:=⟨_,rfl⟩
   have Hc:=Lib.hid hc
   rw [← hc]at g9 hlm hlcap hla
   clear hc
   have Hlat:=Lib.hid hlat
   clear hlat
   generalize hw1:wr=w1 at *
   clear hw1
   go_wp2_with fail
   have HM2:=Lib.hid (HM1.out.alloc (.cells #[.string ⟨f.sym.name.toArray⟩,.string ⟨f.sym.version.toArray⟩,.bool f.sym.old,.int .i64 f.sym.kind,.bool f.sym.weak,.int .i64 f.sym.vis,.bool f.sym.defined,.int .i64 f.sym.value,.int .i64 f.sym.size,.slice la c lcap] 68))
   have HS2:=Lib.hid (HS1.out.trans (PStep.alloc v1 w1 (.cells #[.string ⟨f.sym.name.toArray⟩,.string ⟨f.sym.version.toArray⟩,.bool f.sym.old,.int .i64 f.sym.kind,.bool f.sym.weak,.int .i64 f.sym.vis,.bool f.sym.defined,.int .i64 f.sym.value,.int .i64 f.sym.size,.slice la c lcap] 68)))
   clear g0 g1 g2 g3 g4 g5 g6 g7 g8 g9
   have Hlat2:=Lib.hid (Hlat.out.below ((Below.refl B w1).alloc (by omega) (.cells #[.string ⟨f.sym.name.toArray⟩,.string ⟨f.sym.version.toArray⟩,.bool f.sym.old,.int .i64 f.sym.kind,.bool f.sym.weak,.int .i64 f.sym.vis,.bool f.sym.defined,.int .i64 f.sym.value,.int .i64 f.sym.size,.slice la c lcap] 68)))
   have HSp2:=Lib.hid (HS.out.keeps (.of_below (HL1.out.trans ((Below.refl B w1).alloc (by omega) (.cells #[.string ⟨f.sym.name.toArray⟩,.string ⟨f.sym.version.toArray⟩,.bool f.sym.old,.int .i64 f.sym.kind,.bool f.sym.weak,.int .i64 f.sym.vis,.bool f.sym.defined,.int .i64 f.sym.value,.int .i64 f.sym.size,.slice la c lcap] 68)))))
   have hz2:=HS2.out.step.size
   generalize w1.alloc (.cells #[.string ⟨f.sym.name.toArray⟩,.string ⟨f.sym.version.toArray⟩,.bool f.sym.old,.int .i64 f.sym.kind,.bool f.sym.weak,.int .i64 f.sym.vis,.bool f.sym.defined,.int .i64 f.sym.value,.int .i64 f.sym.size,.slice la c lcap] 68)=w2 at *
   go_loopw [21] (fun i wr=>∃ (j:Nat) (v':PlanV),i=.int .i64 j∧j≤c∧PlanM B pb wr sv s own v' ((f.lines.take j).foldl F q)∧PStep pb v1 v' w2 wr) (fun i _=>c-(intOf i).toNat)
   case atStart=>exact⟨0,v1,rfl,Nat.zero_le _,HM2.out,PStep.refl _ _ _⟩
   case round=>
    obtain⟨j,v3,rfl,hj,hM3,hs3⟩:=hrel
    have HM3:=Lib.hid hM3
    have HS3:=Lib.hid hs3
    have hz3:=hs3.step.size
    have HL3:=Lib.hid (hs3.low HM2.out (by omega))
    clear hM3 hs3
    by_cases hjt:j<c
    ·obtain rfl:=hla (by omega)
     obtain⟨x,hx⟩:∃ x,f.lines[j]? =some x:=⟨_,List.getElem?_eq_getElem (by rw [← Hc.out];exact hjt)⟩
     obtain⟨hxo,l0,l1,l2,l3,l4,l5,l6,l7,l8⟩:=(Hlat2.out.below HL3.out).line9 j x hx
     have Hstep:=Lib.hid (foldl_take_next (F:=F) hx q)
     have hj2:(j:Int)<(c:Int):=by omega
     have HM4:=Lib.hid (HM3.out.alloc (.cells #[.int .i64 x.kind,.int .i64 x.inst.op,.int .i64 x.inst.a,.int .i64 x.inst.b,.int .i64 x.inst.c,.int .i64 x.inst.imm,.int .i64 x.a,.string ⟨x.name.toArray⟩,.string ⟨x.ver.toArray⟩] 77))
     have HS4:=Lib.hid (HS3.out.trans (PStep.alloc v3 wr (.cells #[.int .i64 x.kind,.int .i64 x.inst.op,.int .i64 x.inst.a,.int .i64 x.inst.b,.int .i64 x.inst.c,.int .i64 x.inst.imm,.int .i64 x.a,.string ⟨x.name.toArray⟩,.string ⟨x.ver.toArray⟩] 77)))
     have HCall:=Lib.hid (HDo.out (wr.alloc (.cells #[.int .i64 x.kind,.int .i64 x.inst.op,.int .i64 x.inst.a,.int .i64 x.inst.b,.int .i64 x.inst.c,.int .i64 x.inst.imm,.int .i64 x.a,.string ⟨x.name.toArray⟩,.string ⟨x.ver.toArray⟩] 77)) v3 ((f.lines.take j).foldl F q) x HM4.out (HSp2.out.keeps (.of_below (HL3.out.trans ((Below.refl B wr).alloc (by omega) (.cells #[.int .i64 x.kind,.int .i64 x.inst.op,.int .i64 x.inst.a,.int .i64 x.inst.b,.int .i64 x.inst.c,.int .i64 x.inst.imm,.int .i64 x.a,.string ⟨x.name.toArray⟩,.string ⟨x.ver.toArray⟩] 77))))) hxo (by
      have h1:=foldl_sz HF.out (f.lines.take j) q
      have h2:=Hqsz.out
      rw [List.length_take]at h1
      have h3:min j f.lines.length≤f.lines.length:=Nat.min_le_right _ _
      omega) (by simp;omega))
     clear hx hxo
     go_wp2_with fail
     refine HCall.out.mono ?_
     rintro e w5 ⟨v5,rfl,hM5,hs5⟩
     have HM5:=Lib.hid hM5
     have HS5:=Lib.hid (HS4.out.trans hs5)
     clear hM5 hs5 l0 l1 l2 l3 l4 l5 l6 l7 l8
     go_wp2
     go_roundw
     case rel=>exact⟨j+1,v5,by go_num,by omega,by rw [Hstep.out];exact HM5.out,HS5.out⟩
     case measure=>simp [intOf];omega
    ·have HMe:Hid (PlanM B pb wr sv s own v3 (f.lines.foldl F q)):=Lib.hid (by
      have h:=HM3.out
      rwa [List.take_of_length_le (by have:=Hc.out;omega)]at h)
     go_wp2
     go_roundw
     case rel=>exact⟨k+1,v3,by go_num,by omega,by rw [Hnext.out];exact HMe.out,HS2.out.trans HS3.out⟩
     case measure=>simp [intOf];omega
  ·have HE:Hid (DoPost B pb sv s own v w (s.lines.foldl F p) (.returned (.tuple #[])) wr):=Lib.hid ⟨v1,rfl,by
    have h:=HM1.out
    rwa [List.take_of_length_le (by have:=Hm.out;omega)]at h,HS1.out⟩
   go_wp2
   go_end0
   exact HE.out
theorem line_sz (p:PlanL) (l:LineL):(p.line l).sz≤p.sz+3:=by unfold PlanL.line PlanL.sz;simp
theorem called_sz (weak:List (List UInt8)) (p:PlanL) (l:LineL):(p.called weak l).sz≤p.sz+3:=by
 have h1:=fun ks=>asked_cells weak l.name l.ver 101 ks p
 have h2:=fun ks=>asked_jumps weak l.name l.ver 101 ks p
 have h3:=fun ks=>asked_syms_len weak l.name l.ver 101 ks p
 unfold PlanL.called PlanL.sz
 split
 ·have h4:=placeIn_len (p.asked weak l.name l.ver 101 [1]).1.jumps ((p.asked weak l.name l.ver 101 [1]).2:Int)
  simp only [PlanL.jump]
  rw [h1 [1]]
  rw [h2 [1]]at h4 ⊢
  have:=h3 [1]
  omega
 ·split
  ·simp only [PlanL.cell]
   have h5:=placeIn_len (p.asked weak l.name l.ver 101 [3]).1.cells ((1:Int),((p.asked weak l.name l.ver 101 [3]).2:Int))
   have h6:=placeIn_len (placeIn (p.asked weak l.name l.ver 101 [3]).1.cells ((1:Int),((p.asked weak l.name l.ver 101 [3]).2:Int))).1 ((2:Int),((p.asked weak l.name l.ver 101 [3]).2:Int))
   rw [h1 [3]]at h5 h6 ⊢
   rw [h2 [3]]
   have:=h3 [3]
   omega
  ·split
   ·simp only [PlanL.cell]
    have h5:=placeIn_len (p.asked weak l.name l.ver 101 [3]).1.cells ((3:Int),((p.asked weak l.name l.ver 101 [3]).2:Int))
    rw [h1 [3]]at h5 ⊢
    rw [h2 [3]]
    have:=h3 [3]
    omega
   ·omega
theorem addressed_sz (weak:List (List UInt8)) (p:PlanL) (l:LineL):(p.addressed weak l).sz≤p.sz+3:=by
 have h1:=fun ks=>asked_cells weak l.name l.ver 101 ks p
 have h2:=fun ks=>asked_jumps weak l.name l.ver 101 ks p
 have h3:=fun ks=>asked_syms_len weak l.name l.ver 101 ks p
 unfold PlanL.addressed PlanL.sz
 split
 ·simp only [PlanL.cell]
  have h5:=placeIn_len (p.asked weak l.name l.ver 101 [2,1]).1.cells ((0:Int),((p.asked weak l.name l.ver 101 [2,1]).2:Int))
  rw [h1 [2,1]]at h5 ⊢
  rw [h2 [2,1]]
  have:=h3 [2,1]
  omega
 ·omega
set_option maxHeartbeats 16000000 in
set_option maxRecDepth 100000 in
theorem needs_any {B pb:Nat} {w:World} {sv:SpecV} {s:SpecL} {own:Int} {v:PlanV} {p:PlanL} (hM:PlanM B pb w sv s own v p) (hS:SpecM (·<B) w sv s) (hsz:p.sz+9*s.lines.length≤999990) (hB:B≤w.heap.size):
  Calls Try.prog 41 #[.pointer (some ⟨pb,0,none⟩)] w (DoPost B pb sv s own v w (p.needs s)):=by
 have HS:=Lib.hid hS
 have HM:=Lib.hid hM
 have E1:=Lib.hid (each_line (fun p l=>p.line l) (fun w v p l hM hS hl hs hB=>line_any l hM hl) line_sz hM hS (by omega) hB)
 have E2:=Lib.hid (fun (w:World) (v:PlanV) (p:PlanL) (hM:PlanM B pb w sv s own v p) (hS:SpecM (·<B) w sv s) (hsz:p.sz+3*s.lines.length≤999990) (hB:B≤w.heap.size)=>each_called (fun p l=>p.called s.weak l) (fun w v p l hM hS hl hs hB=>called_any l hM hS hl (by unfold PlanL.sz at hs;omega) (by unfold PlanL.sz at hs;omega) (by unfold PlanL.sz at hs;omega) hB) (called_sz s.weak) hM hS hsz hB)
 have E3:=Lib.hid (fun (w:World) (v:PlanV) (p:PlanL) (hM:PlanM B pb w sv s own v p) (hS:SpecM (·<B) w sv s) (hsz:p.sz+3*s.lines.length≤999990) (hB:B≤w.heap.size)=>each_addressed (fun p l=>p.addressed s.weak l) (fun w v p l hM hS hl hs hB=>addressed_any l hM hS hl (by unfold PlanL.sz at hs;omega) (by unfold PlanL.sz at hs;omega) hB) (addressed_sz s.weak) hM hS hsz hB)
 have Z1:=Lib.hid (foldl_sz line_sz s.lines p)
 have Z2:=Lib.hid (fun q=>foldl_sz (called_sz s.weak) s.lines q)
 have HQ:Hid (p.needs s=s.lines.foldl (fun p l=>p.addressed s.weak l) (s.lines.foldl (fun p l=>p.called s.weak l) (s.lines.foldl (fun p l=>p.line l) p))):=Lib.hid rfl
 clear hM hS
 go_enter Try.func41,Try.ntmps41
 go_wp2_with fail
 refine E1.out.mono ?_
 rintro e w1 ⟨v1,rfl,hM1,hs1⟩
 have HM1:=Lib.hid hM1
 have HS1:=Lib.hid hs1
 have hz1:=hs1.step.size
 have HL1:=Lib.hid (hs1.low HM.out hB)
 clear hM1 hs1 E1
 go_wp2_with fail
 refine(E2.out w1 v1 _ HM1.out (HS.out.keeps (.of_below HL1.out)) (by have:=Z1.out;omega) (by omega)).mono ?_
 rintro e w2 ⟨v2,rfl,hM2,hs2⟩
 have HM2:=Lib.hid hM2
 have HS2:=Lib.hid (HS1.out.trans hs2)
 have hz2:=HS2.out.step.size
 have HL2:=Lib.hid (HS2.out.low HM.out hB)
 clear hM2 hs2 E2
 go_wp2_with fail
 refine(E3.out w2 v2 _ HM2.out (HS.out.keeps (.of_below HL2.out)) (by have:=Z1.out;have:=Z2.out (s.lines.foldl (fun p l=>p.line l) p);omega) (by omega)).mono ?_
 rintro e w3 ⟨v3,rfl,hM3,hs3⟩
 have HE:Hid (DoPost B pb sv s own v w (p.needs s) (.returned (.tuple #[])) w3):=Lib.hid ⟨v3,rfl,by rw [HQ.out];exact hM3,HS2.out.trans hs3⟩
 clear hM3 hs3 E3
 go_wp2
 go_end0
 exact HE.out
end Go.Proofs.Ytpomdoliblilfaa
