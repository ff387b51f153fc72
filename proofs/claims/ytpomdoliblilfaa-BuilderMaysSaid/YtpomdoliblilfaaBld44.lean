/- BuilderNames. -/
import Derived.Test.YtpomdoliblilfaaBld43
namespace Go.Proofs.Ytpomdoliblilfaa
set_option linter.unusedVariables false
set_option linter.unusedSimpArgs false
open Go.RowKit
theorem buildL_ok {s:SpecL} (h:(buildL s).2=0):Sound s∧(instsQ s).2.all instB=true∧(buildL s).1=imageL s (layL s (checkL s)) (initQ s).2 (finiQ s).2 (instsQ s).1 (instsQ s).2∧mayL (buildL s).1=0:=by
 rw [build_eq]at h ⊢
 by_cases h1:512<s.funcs.length∨512<s.vars.length
 ·rw [if_pos h1]at h;exact absurd h (by decide)
 rw [if_neg h1]at h ⊢
 by_cases h2:(checkL s).fault≠0
 ·rw [if_pos h2]at h;exact absurd h h2
 rw [if_neg h2]at h ⊢
 by_cases h3:(finiQ s).1.fault≠0
 ·rw [if_pos h3]at h;exact absurd h h3
 rw [if_neg h3]at h ⊢
 by_cases h4:512<(checkL s).syms.length∨65536<(layL s (checkL s)).data∨4096<(layL s (checkL s)).tls
 ·rw [if_pos h4]at h;exact absurd h (by decide)
 rw [if_neg h4]at h ⊢
 by_cases h5:(instsQ s).2.all instB=false
 ·rw [if_pos h5]at h;exact absurd h (by decide)
 rw [if_neg h5]at h ⊢
 by_cases h6:mayL (imageL s (layL s (checkL s)) (initQ s).2 (finiQ s).2 (instsQ s).1 (instsQ s).2)≠0
 ·rw [if_pos h6]at h;exact absurd h h6
 rw [if_neg h6]
 exact⟨⟨h1,by simpa using h2,by simpa using h3,h4⟩,by simpa using h5,rfl,by simpa using h6⟩
theorem named_len (s:SpecL) (funcs:List Int):∀ (l:List (List UInt8)) (q:PlanL × List Int),(namedL s funcs l q).1.fault=0→(namedL s funcs l q).2.length=q.2.length+l.length
 | [],q,_=>rfl
 | n :: l,q,h=>by
  unfold namedL at h ⊢
  split
  ·rename_i i hi
   simp only [hi]at h
   rw [named_len s funcs l _ h]
   simp;omega
  ·rename_i hi
   simp only [hi]at h
   have h4:=(named_plan s funcs l (q.1.fail 103,q.2)).2.2.2 (by show(q.1.fail 103).fault≠0;unfold PlanL.fail;split<;>simp_all)
   exact absurd h h4
theorem build_names {s:SpecL} (h:(buildL s).2=0):(buildL s).1.name=s.name∧(buildL s).1.flags=s.flags∧(buildL s).1.needed=s.needed∧(buildL s).1.runPath=s.runPath∧(buildL s).1.init.length=s.init.length∧(buildL s).1.fini.length=s.fini.length:=by
 obtain⟨hs,_,he,_⟩:=buildL_ok h
 rw [he]
 have h1:(initQ s).1.fault=0:=by
  by_cases h0:(initQ s).1.fault=0
  ·exact h0
  ·exact absurd hs.fini ((named_plan s (layL s (checkL s)).funcs s.fini ((initQ s).1,[])).2.2.2 h0)
 refine⟨rfl,rfl,rfl,rfl,?_,?_⟩
 ·have:=named_len s (layL s (checkL s)).funcs s.init (checkL s,[]) h1
  rw [List.length_nil,Nat.zero_add]at this
  exact this
 ·have:=named_len s (layL s (checkL s)).funcs s.fini ((initQ s).1,[]) hs.fini
  rw [List.length_nil,Nat.zero_add]at this
  exact this
section
variable {c : Int} (hc : c ≠ 0)
include hc
theorem failIf_c {p:PlanL} {b:Bool} {e:Int} (h:p.fault=c):(p.failIf b e).fault=c:=(failIf_keep (by rw [h];exact hc)).trans h
theorem define_c {p:PlanL} {s:SymL} {tls:Bool} {e:Int} (h:p.fault=c):(p.define s tls e).fault=c:=failIf_c hc (failIf_c hc h)
theorem asked_c {weak:List (List UInt8)} {n v:List UInt8} {e:Int} {ks:List Int} {p:PlanL} (h:p.fault=c):(p.asked weak n v e ks).1.fault=c:=failIf_c hc (by rw [sym_fault];exact h)
theorem func_c {p:PlanL} {f:FuncL} (h:p.fault=c):(p.func f).fault=c:=define_c hc (failIf_c hc (failIf_c hc h))
theorem refsFrom_c (v:VarL):∀ (l:List RefL) (last:Int) (p:PlanL),p.fault=c→(refsFrom v last l p).fault=c
 | [],_,_,h=>h
 | r :: l,last,p,h=>refsFrom_c v l r.word _ (failIf_c hc h)
theorem var_c {p:PlanL} {flags:Int} {v:VarL} (h:p.fault=c):(p.var flags v).fault=c:=refsFrom_c hc v v.refs (-1) _ (define_c hc (failIf_c hc h))
omit hc in
theorem foldl_c {α:Type} {f:PlanL→α→PlanL} (hf:∀ p x,p.fault=c→(f p x).fault=c):∀ (l:List α) (p:PlanL),p.fault=c→(l.foldl f p).fault=c
 | [],_,h=>h
 | x :: l,p,h=>foldl_c hf l (f p x) (hf p x h)
theorem called_c {weak:List (List UInt8)} {l:LineL} {p:PlanL} (h:p.fault=c):(p.called weak l).fault=c:=by
 unfold PlanL.called
 split
 ·exact asked_c hc h
 ·split
  ·exact asked_c hc h
  ·split
   ·exact asked_c hc h
   ·exact h
theorem addressed_c {weak:List (List UInt8)} {l:LineL} {p:PlanL} (h:p.fault=c):(p.addressed weak l).fault=c:=by
 unfold PlanL.addressed
 split
 ·exact asked_c hc h
 ·exact h
theorem refs_c {weak:List (List UInt8)} {v:VarL} {p:PlanL} (h:p.fault=c):(p.refs weak v).fault=c:=
 foldl_c (fun p (r:RefL) h=>asked_c hc h) v.refs p h
theorem needs_c {s:SpecL} {p:PlanL} (h:p.fault=c):(p.needs s).fault=c:=
 foldl_c (fun _ _ h=>addressed_c hc h) _ _ (foldl_c (fun _ _ h=>called_c hc h) _ _ (foldl_c (fun _ _ h=>failIf_c hc h) _ _ h))
end
theorem check_flags {s:SpecL} (h:s.flags<0∨15<s.flags):(checkL s).fault=100:=by
 have hc:(100:Int)≠0:=by decide
 have h0:((⟨[],[],[],0⟩:PlanL).failIf (decide (s.flags<0)||decide (15<s.flags)) 100).fault=100:=by
  have hb:(decide (s.flags<0)||decide (15<s.flags))=true:=by simpa using h
  rw [hb];rfl
 rw [checkL_eq]
 exact foldl_c (fun _ _ h=>refs_c hc h) _ _ (needs_c hc (foldl_c (fun _ _ h=>var_c hc h) _ _ (foldl_c (fun _ _ h=>func_c hc h) _ _ h0)))
theorem build_flags {s:SpecL} (h:s.flags<0∨15<s.flags):(buildL s).2=100∨(buildL s).2=104:=by
 rw [build_eq]
 by_cases h1:512<s.funcs.length∨512<s.vars.length
 ·rw [if_pos h1];exact Or.inr rfl
 ·rw [if_neg h1,if_pos (by rw [check_flags h];decide),check_flags h];exact Or.inl rfl
theorem spec_one {S:Nat→Prop} {w:World} {v:SpecV} {s:SpecL} (h:SpecM S w v s):(specCells v s).toArray.all (·.oneCell')=true:=by
 obtain⟨a0,c0,h0⟩:=h.needed.form
 obtain⟨a1,c1,h1⟩:=h.runPath.form
 obtain⟨a2,c2,h2⟩:=h.funcs.form
 obtain⟨a3,c3,h3⟩:=h.vars.form
 obtain⟨a4,c4,h4⟩:=h.weak.form
 obtain⟨a5,c5,h5⟩:=h.init.form
 obtain⟨a6,c6,h6⟩:=h.fini.form
 unfold specCells
 rw [h0,h1,h2,h3,h4,h5,h6]
 simp [Value.oneCell']
structure Reach (s:SpecL):Prop where
 run:s.runPath.length*16≤140737488355328
 need:s.needed.length*40≤140737488355328
 vers:∀ n∈s.needed,n.versions.length*16≤140737488355328
end Go.Proofs.Ytpomdoliblilfaa
