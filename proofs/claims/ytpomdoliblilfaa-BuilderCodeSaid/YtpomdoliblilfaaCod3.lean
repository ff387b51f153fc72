/- Lemmas. -/
import Derived.Test.YtpomdoliblilfaaCod2
namespace Go.Proofs.Ytpomdoliblilfaa
set_option linter.unusedVariables false
set_option linter.unusedSimpArgs false
structure WordsAt (s:SpecL) (im:ImgL) (i:Nat) (v:VarL) (x:SymL):Prop where
 sym:im.syms[s.funcs.length+i]? =some x
 kind:x.kind=v.sym.kind
 size:x.size=8*v.words.length
 tls:v.sym.kind=3→∃ o:Nat,x.value=8*o∧∀ j n,v.words[j]? =some n→(blockT s.vars)[o+j]? =some n
 data:v.sym.kind≠3→∃ o:Nat,x.value=(layL s (checkL s)).got+8*o∧∀ j n,v.words[j]? =some n→(dataT s)[o+j]? =some n
theorem build_segs {s:SpecL} (h:(buildL s).2=0):(buildL s).1.segs=segsT s∧(buildL s).1.tls=wordsL (blockT s.vars)∧(buildL s).1.slots=slotsT (layL s (checkL s)) 0 (placedQ s).jumps:=by
 obtain⟨_,_,he,_⟩:=buildL_ok h
 rw [he,← image_eq s _ rfl]
 exact⟨rfl,rfl,rfl⟩
end Go.Proofs.Ytpomdoliblilfaa
namespace Go.Proofs.Ytpomdoliblilfaa
set_option linter.unusedVariables false
set_option linter.unusedSimpArgs false
theorem slotsT_get (y:LayL):∀ (l:List Int) (k i:Nat) (z:SlotL),(slotsT y k l)[i]? =some z→i<l.length∧z.at_=y.plt+8*((k+i:Nat):Int)∧z.stub=y.stubs+(3*((k+i:Nat):Int)+2)*8
 | [],k,i,z,h=>by simp [slotsT]at h
 | j :: l,k,0,z,h=>by
  simp [slotsT]at h
  subst h
  exact⟨by simp,rfl,rfl⟩
 | j :: l,k,i+1,z,h=>by
  unfold slotsT at h
  obtain⟨h1,h2,h3⟩:=slotsT_get y l (k+1) i z (by simpa using h)
  have e:k+1+i=k+(i+1):=by omega
  rw [e]at h2 h3
  exact⟨by simpa using h1,h2,h3⟩
structure StubAt (l:List InstL) (z:SlotL) (k i:Nat):Prop where
 stub:z.stub=8*((i:Int)+2)
 lt:i+2<l.length
 ldp:∃ m,l[i]? =some ⟨11,14,0,0,m⟩∧8*(i:Int)+8+m=z.at_
 jmp:l[i+1]? =some ⟨17,14,0,0,0⟩
 bind:l[i+2]? =some ⟨22,0,0,0,k⟩
theorem build_code {s:SpecL} (h:(buildL s).2=0):(∃ g,(buildL s).1.segs[0]? =some g∧g.bytes=codeL (instsQ s).2)∧(instsQ s).2.all instB=true∧∀ k z,(buildL s).1.slots[k]? =some z→∃ i,StubAt (instsQ s).2 z k i:=by
 obtain⟨hs,hi,he,_⟩:=buildL_ok h
 refine⟨⟨_,by rw [(build_segs h).1];rfl,rfl⟩,hi,fun k z hz=> ?_⟩
 rw [(build_segs h).2.2]at hz
 obtain⟨h1,h2,h3⟩:=slotsT_get _ _ _ _ _ hz
 rw [Nat.zero_add]at h2 h3
 obtain⟨y,hy⟩:∃ y,y=layL s (checkL s):=⟨_,rfl⟩
 have hlow:=(lowers_same (weak:=s.weak) (y:=y) (p:=placedQ s) s.lines [] (insts_plan s).2)
 have hst:y.stubs=linesLen s.lines:=by
  have e:(layL s (checkL s)).stubs=endL 0 s.funcs:=rfl
  rw [hy,e,endL_lines,Int.zero_add];rfl
 obtain⟨out,ho⟩:∃ out,out=(lowersL s.weak y s.lines (placedQ s,[])).2:=⟨_,rfl⟩
 have hlen:(8*out.length:Int)=y.stubs:=by rw [hst,ho,hlow.2];simp
 have hins:(instsQ s).2=stubsL y.plt 0 (placedQ s).jumps.length out:=by
  show(instsL s (layL s (checkL s)) (placedQ s)).2=_
  unfold instsL
  rw [← hy]
  show stubsL y.plt 0 (lowersL s.weak y s.lines (placedQ s,[])).1.jumps.length _=_
  rw [hlow.1,← ho]
 obtain⟨g1,-,g3⟩:=stubs_at y.plt (placedQ s).jumps.length 0 out
 obtain⟨q1,q2,q3⟩:=g3 k h1
 rw [hins]
 rw [← hy]at h2 h3
 refine⟨out.length+3*k,?_,by rw [g1];omega,⟨_,q1,?_⟩,q2,by rw [q3,Nat.zero_add]⟩
 ·rw [h3,← hlen];omega
 ·rw [h2,Nat.zero_add];omega
end Go.Proofs.Ytpomdoliblilfaa
