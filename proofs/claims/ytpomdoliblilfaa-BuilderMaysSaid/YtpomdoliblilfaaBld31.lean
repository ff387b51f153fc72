/- Lemmas. -/
import Derived.Test.YtpomdoliblilfaaBld30
import Derived.WalkSpells
namespace Go.Proofs.Ytpomdoliblilfaa
set_option linter.unusedVariables false
set_option linter.unusedSimpArgs false
open Go.RowKit
theorem row_str:RowK kStr (fun x=>[.string ⟨x.toArray⟩]) (fun x=>x.length≤9223372036854775807):=⟨fun h=>h,fun _ _ _ h=>⟨rfl,h⟩,fun _=>rfl,by decide,fun x u hu=>by
 rcases List.mem_singleton.1 hu with rfl;rfl⟩
theorem flat_str:FlatK kStr:=fun _ _ _ _ _ _ h=>h
theorem info_strB:(Try.prog.info? 9).map (fun i=>(i.zero,i.size,i.bytes))=some (some (.string ⟨#[]⟩),1,16):=by kernel_rfl
theorem OwnK.empty {α:Type} {e:TypeId} {K:Kind α} {E:Nat→Prop} {w:World} {g:Nat} (hg:w.heap[g]? =some (.cells #[] e (0,0))) (hE:¬ E g):OwnK e K g E w (.slice (some ⟨g,0,none⟩) 0 0) []:=
 ⟨[],⟨by simp,Or.inr ⟨g,0,#[],rfl,Nat.le_refl _,hg,Nat.le_refl _,by unfold maxLen;omega,by simp,by simp⟩⟩,rfl,fun g' hg'=>by
  have:g'=g:=by simpa [Value.ownBlock] using hg'.symm
  rw [this];exact hE⟩
set_option maxHeartbeats 4000000 in
set_option maxRecDepth 100000 in
theorem sclone_any {S:Nat→Prop} (w:World) (u:Value) (l:List (List UInt8)) (hu:LB kStr S w u l) (hS:∀ b,S b→b<w.heap.size) (hl:l.length*16≤140737488355328):
  Calls Try.prog 17 #[u] w (MadeK 9 kStr w l):=by
 obtain⟨ua,ub,uo,uc,rfl,hum,huc,huat⟩:=hu.at
 have hl0:ua=none→l=[]:=fun e=>by
  cases l with
  | nil=>rfl
  | cons x l=>exact absurd (huat.addr (by simp)) (by rw [e];simp)
 have Hl0:=Lib.hid hl0
 have Hu:=Lib.hid hu
 have HS:=Lib.hid hS
 obtain⟨n,hn⟩:∃ n,n=l.length:=⟨_,rfl⟩
 have Hn:=Lib.hid hn
 rw [← hn]at hum huc hl ⊢
 have hEq:=Lib.run_eql_slice_nil (P:=Try.prog) w 24 9 ua n uc 0 0 Try.underlying24
 clear hu huat hn hl0 hS
 cases ua with
 | none=>
  have HL:Hid (l=[]):=Lib.hid (Hl0.out rfl)
  rw [HL.out]
  go_enter Try.func17,Try.ntmps17
  go_wp2
  go_ret
  exact⟨_,rfl,OwnK.nil _ _ _ _ _,Below.refl _ _⟩
 | some ad=>
  have HX:=Lib.hid (heap_alloc_new w (.cells #[] 9 (0,0)))
  have HO:=Lib.hid (OwnK.empty (K:=kStr) (E:=fun _=>False) HX.out (fun h=>h))
  have HB:=Lib.hid ((Below.refl w.heap.size w).alloc (Nat.le_refl _) (.cells #[] 9 (0,0)))
  have HU:=Lib.hid (Hu.out.keeps (w':=w.alloc (.cells #[] 9 (0,0))) (fun b hb=>HB.out.block b (HS.out b hb)))
  rw [← Hn.out]at HU
  have hzz:Hid (w.heap.size≤(w.alloc (.cells #[] 9 (0,0))).heap.size):=Lib.hid (by simp)
  go_enter Try.func17,Try.ntmps17
  go_wp2_with (at_builtin;go_loud (refine wpList_appendsR (v:=.slice (some ⟨w.heap.size,0,none⟩) 0 0) (l:=[]) row_str 24 _ 16 Try.underlying24 info_strB rfl rfl (.tmp 5) (.tmp 6) rfl rfl HO.out (fun b hb=>hb.elim) (.slice (some ad) n uc) l rfl HU.out (by rw [← Hn.out];simp only [List.length_nil];omega) (by rw [← Hn.out];simp only [List.length_nil];omega) hzz.out ?_))
  intro r3 w3 hown3 hst3 hne3
  have HR:=Lib.hid hown3
  have hsz:=hst3.size
  have HB3:=Lib.hid (HB.out.trans ((hst3.imp (S':=(·<w.heap.size)) (fun b hb=>⟨by have hb:b<w.heap.size:=hb;first | omega | (simp;omega),fun e=>by have hb:b<w.heap.size:=hb;simp [Value.ownBlock]at e;omega⟩)).below))
  clear hown3 hst3 hne3
  go_wp2
  go_ret
  exact⟨_,rfl,by simpa using HR.out,HB3.out⟩
end Go.Proofs.Ytpomdoliblilfaa
namespace Go.Proofs.Ytpomdoliblilfaa
set_option linter.unusedVariables false
set_option linter.unusedSimpArgs false
open Go.RowKit
theorem check_sz {s:SpecL} (h:FewL s):(checkL s).sz≤40000:=by
 have hl:=h.lines
 have hf:=h.funcs
 have hv:=h.vars
 have hr:=h.refs
 rw [checkL_eq,refs_flat]
 obtain⟨p0,hp0⟩:∃ p0:PlanL,p0=(⟨[],[],[],0⟩:PlanL).failIf (decide (s.flags<0)||decide (15<s.flags)) 100:=⟨_,rfl⟩
 have h0:p0.sz≤0:=by rw [hp0,failIf_sz];exact Nat.le_refl _
 have h1:=foldl_sz (F:=fun(p:PlanL) (x:FuncL)=>p.func x) (c:=1) (fun p x=>func_sz p x) s.funcs p0
 have h2:=foldl_sz (F:=fun(p:PlanL) (x:VarL)=>p.var s.flags x) (c:=1) (fun p x=>var_sz p s.flags x) s.vars (s.funcs.foldl (fun p x=>p.func x) p0)
 have e2:check2 s=s.vars.foldl (fun p v=>p.var s.flags v) (s.funcs.foldl (fun p f=>p.func f) p0):=by rw [hp0];rfl
 rw [e2]
 obtain⟨p2,hp2⟩:∃ p2:PlanL,p2=s.vars.foldl (fun p v=>p.var s.flags v) (s.funcs.foldl (fun p f=>p.func f) p0):=⟨_,rfl⟩
 rw [← hp2]at h2 ⊢
 have h3:=foldl_sz line_sz s.lines p2
 have h4:=foldl_sz (called_sz s.weak) s.lines (s.lines.foldl (fun p l=>p.line l) p2)
 have h5:=foldl_sz (addressed_sz s.weak) s.lines (s.lines.foldl (fun p l=>p.called s.weak l) (s.lines.foldl (fun p l=>p.line l) p2))
 have h6:=foldl_sz (F:=fun p (r:RefL)=>(p.asked s.weak r.name r.ver 102 [2,1]).1) (c:=1) (fun p r=>asked_sz _ _ _ _ _ p) (s.vars.flatMap (·.refs)) (p2.needs s)
 have e7:p2.needs s=s.lines.foldl (fun p l=>p.addressed s.weak l) (s.lines.foldl (fun p l=>p.called s.weak l) (s.lines.foldl (fun p l=>p.line l) p2)):=rfl
 rw [← e7]at h5
 omega
theorem startsL_bd:∀ (fs:List FuncL) (a:Int),∀ x∈startsL a fs,a≤x∧x≤endL a fs
 | [],_,x,hx=>by cases hx
 | f :: fs,a,x,hx=>by
  have hb:=linesLen_bd f.lines
  have he:∀ (fs:List FuncL) (a:Int),a≤endL a fs:=by
   intro fs
   induction fs with
   | nil=>intro a;exact Int.le_refl _
   | cons g gs ih=>intro a;have:=ih (a+linesLen g.lines);have:=linesLen_bd g.lines;simp only [endL];omega
  rcases List.mem_cons.1 hx with rfl | hx
  ·have:=he fs (x+linesLen f.lines);simp only [endL];omega
  ·have:=startsL_bd fs (a+linesLen f.lines) x hx
   simp only [endL];omega
theorem varsL_mono (l:List VarL) (d t:Int):d≤(varsL d t l).2.1∧(varsL d t l).2.1≤d+8*(l.flatMap (·.words)).length∧t≤(varsL d t l).2.2∧(varsL d t l).2.2≤t+8*(l.flatMap (·.words)).length:=by
 rw [varsL_eq];exact varsStep_mono l ([],d,t)
theorem varsL_bd:∀ (l:List VarL) (d t:Int),∀ x∈(varsL d t l).1,(d≤x∧x≤(varsL d t l).2.1)∨(t≤x∧x≤(varsL d t l).2.2)
 | [],_,_,x,hx=>by cases hx
 | v :: l,d,t,x,hx=>by
  unfold varsL at hx ⊢
  by_cases h:v.sym.kind=3
  ·simp only [h,if_true]at hx ⊢
   have hm:=varsL_mono l d (t+8*v.words.length)
   rcases List.mem_cons.1 hx with rfl | hx
   ·right;omega
   ·have:=varsL_bd l d (t+8*v.words.length) x hx
    omega
  ·simp only [h,if_false]at hx ⊢
   have hm:=varsL_mono l (d+8*v.words.length) t
   rcases List.mem_cons.1 hx with rfl | hx
   ·left;omega
   ·have:=varsL_bd l (d+8*v.words.length) t x hx
    omega
structure LayBd (s:SpecL) (y:LayL):Prop where
 stubs:0≤y.stubs∧y.stubs≤48000
 got:0≤y.got∧y.got≤1100000
 plt:0≤y.plt∧y.plt≤1500000
 data:0≤y.data∧y.data≤2000000
 tls:0≤y.tls∧y.tls≤16000
 funcs:y.funcs.length=s.funcs.length
 vars:y.vars.length=s.vars.length
 funcsR:∀ x∈y.funcs,0≤x∧x≤100000000
 varsR:∀ x∈y.vars,0≤x∧x≤100000000
theorem lay_bd {s:SpecL} {p:PlanL} (h:FewL s) (hp:p.sz≤40000):LayBd s (layL s p):=by
 have hl:=h.lines
 have hw:=h.words
 unfold PlanL.sz at hp
 have e1:=endL_lines s.funcs 0
 have e2:=linesLen_bd s.lines
 have e3:endL 0 s.funcs=linesLen s.lines:=by rw [e1];simp [SpecL.lines]
 have hs:0≤endL 0 s.funcs∧endL 0 s.funcs≤48000:=by omega
 have hg:=upL_bd (n:=max 1 (endL 0 s.funcs+24*(p.jumps.length:Int))) (by omega)
 have hg2:0≤upL (max 1 (endL 0 s.funcs+24*(p.jumps.length:Int)))∧upL (max 1 (endL 0 s.funcs+24*(p.jumps.length:Int)))≤1100000:=by omega
 obtain⟨got,hgot⟩:∃ got,got=upL (max 1 (endL 0 s.funcs+24*(p.jumps.length:Int))):=⟨_,rfl⟩
 have hm:=varsL_mono s.vars (got+8*(p.cells.length:Int)+8*(p.jumps.length:Int)) 0
 have hb:=varsL_bd s.vars (got+8*(p.cells.length:Int)+8*(p.jumps.length:Int)) 0
 have hst:=startsL_bd s.funcs 0
 rw [← hgot]at hg2
 have e:layL s p=⟨startsL 0 s.funcs,(varsL (got+8*(p.cells.length:Int)+8*(p.jumps.length:Int)) 0 s.vars).1,endL 0 s.funcs,got,got+8*(p.cells.length:Int),(varsL (got+8*(p.cells.length:Int)+8*(p.jumps.length:Int)) 0 s.vars).2.1,(varsL (got+8*(p.cells.length:Int)+8*(p.jumps.length:Int)) 0 s.vars).2.2⟩:=by rw [hgot];rfl
 rw [e]
 exact⟨hs,hg2,⟨by show 0≤got+_;omega,by show got+_≤_;omega⟩,⟨by show 0≤(varsL _ _ _).2.1;omega,by show(varsL _ _ _).2.1≤_;omega⟩,⟨by show 0≤(varsL _ _ _).2.2;omega,by show(varsL _ _ _).2.2≤_;omega⟩,startsL_len _ _,varsL_len _ _ _,
  fun x hx=>by have:=hst x hx;omega,fun x hx=>by have:=hb x hx;omega⟩
def UseOk (p:PlanL):Prop:=∀ c∈p.cells,0≤c.1∧c.1≤3
theorem useOk_cell {u x:Int} {p:PlanL} (h:UseOk p) (hu:0≤u∧u≤3):UseOk (p.cell u x).1:=by
 intro c hc
 have hc:c∈(placeIn p.cells (u,x)).1:=hc
 unfold placeIn at hc
 split at hc
 ·exact h c hc
 ·rcases List.mem_append.1 hc with hc | hc
  ·exact h c hc
  ·rcases List.mem_singleton.1 hc with rfl;exact hu
theorem useOk_eq {p q:PlanL} (h:UseOk p) (e:q.cells=p.cells):UseOk q:=fun c hc=>h c (e ▸ hc)
theorem useOk_fold {α:Type} {f:PlanL→α→PlanL} (hf:∀ p x,UseOk p→UseOk (f p x)):∀ (l:List α) (p:PlanL),UseOk p→UseOk (l.foldl f p)
 | [],_,h=>h
 | x :: l,p,h=>useOk_fold hf l (f p x) (hf p x h)
theorem asked_use {weak:List (List UInt8)} {n v:List UInt8} {e:Int} {ks:List Int} {p:PlanL} (h:UseOk p):UseOk (p.asked weak n v e ks).1:=useOk_eq h (asked_cells weak n v e ks p)
theorem refsFrom_cells (v:VarL):∀ (l:List RefL) (last:Int) (p:PlanL),(refsFrom v last l p).cells=p.cells
 | [],_,_=>rfl
 | r :: l,last,p=>by unfold refsFrom;rw [refsFrom_cells v l];simp
theorem check_use (s:SpecL):UseOk (checkL s):=by
 rw [checkL_eq]
 refine useOk_fold (fun p v h=>useOk_fold (fun p r h=>asked_use h) _ _ h) _ _ ?_
 unfold PlanL.needs
 refine useOk_fold (fun p l h=> ?_) _ _ (useOk_fold (fun p l h=> ?_) _ _ (useOk_fold (fun p l h=> ?_) _ _ ?_))
 ·unfold PlanL.addressed
  split
  ·exact useOk_cell (asked_use h) (by omega)
  ·exact h
 ·unfold PlanL.called
  split
  ·exact useOk_eq (asked_use h) rfl
  ·split
   ·exact useOk_cell (useOk_cell (asked_use h) (by omega)) (by omega)
   ·split
    ·exact useOk_cell (asked_use h) (by omega)
    ·exact h
 ·exact useOk_eq h (by unfold PlanL.line;simp)
 ·unfold check2 check1
  refine useOk_fold (fun p v h=>useOk_eq h (by unfold PlanL.var;rw [refsFrom_cells];unfold PlanL.define;simp)) _ _ (useOk_fold (fun p f h=>useOk_eq h (by unfold PlanL.func PlanL.define;simp)) _ _ ?_)
  intro c hc
  simp at hc
theorem refsFrom_bd (v:VarL):∀ (l:List RefL) (last:Int) (p:PlanL),(refsFrom v last l p).fault=0→∀ r∈l,last<r.word∧r.word<v.words.length∧v.sym.kind=2
 | [],_,_,_,r,hr=>by cases hr
 | r :: l,last,p,h,x,hx=>by
  have h1:(refsFrom v r.word l (p.failIf (decide (r.word≤last)||decide ((v.words.length:Int)≤r.word)|| !decide (v.sym.kind=2)) 102)).fault=0:=h
  have h2:=(failIf_zero (by decide)).1 (refsFrom_zero v l r.word _ h1)
  simp only [Bool.or_eq_false_iff,decide_eq_false_iff_not,Bool.not_eq_false',decide_eq_true_eq]at h2
  rcases List.mem_cons.1 hx with rfl | hx
  ·exact⟨by omega,by omega,h2.2.2⟩
  ·have h3:=refsFrom_bd v l r.word _ h1 x hx
   exact⟨by omega,h3.2.1,h3.2.2⟩
theorem check_refs {s:SpecL} (h:(checkL s).fault=0):∀ v∈s.vars,∀ r∈v.refs,0≤r.word∧r.word<v.words.length∧v.sym.kind=2:=by
 rw [checkL_eq]at h
 have h1:=needs_zero (foldl_zero (fun _ _ h=>refs_zero h) _ _ h)
 intro v hv r hr
 have h2:=foldl_each (f:=fun p v=>p.var s.flags v) (P:=fun v=>∀ r∈v.refs,(-1:Int)<r.word∧r.word<v.words.length∧v.sym.kind=2) (fun _ _ h=>(var_zero h).1) (fun p v h=>refsFrom_bd v v.refs (-1) _ h) s.vars (check1 s) h1 v hv r hr
 exact⟨by omega,h2.2⟩
theorem check_syms_len (s:SpecL):s.funcs.length+s.vars.length≤(checkL s).syms.length:=by
 have h:=(check_placed s).own.length_le
 simpa using h
end Go.Proofs.Ytpomdoliblilfaa
