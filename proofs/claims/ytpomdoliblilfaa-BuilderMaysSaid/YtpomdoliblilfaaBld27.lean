/- Lemmas. -/
import Derived.Test.YtpomdoliblilfaaBld26
import Derived.Test.YtpomdoliblilfaaBld7
namespace Go.Proofs.Ytpomdoliblilfaa
set_option linter.unusedVariables false
set_option linter.unusedSimpArgs false
open Go.RowKit
theorem wideT_of {n k:Nat} (hk:k=1∨k=2∨k=4∨k=8∨k=16∨k=32∨k=64) (h1:k=1∨4*k<n) (h2:64≤k∨n≤8*k):wideT n=k:=by
 unfold wideT
 rcases hk with rfl | rfl | rfl | rfl | rfl | rfl | rfl<;>(repeat' split)<;>omega
theorem wideT_pow (n:Nat):powB (wideT n)=true:=by
 rw [powB_iff];unfold wideT
 (repeat' split)<;>simp
set_option maxHeartbeats 4000000 in
set_option maxRecDepth 100000 in
theorem twide_any (w:World) (n:Nat) (hn:n≤1000000):
  Calls Try.prog 52 #[.int .i64 (n:Int)] w fun e w'=>e=.returned (.int .i64 (wideT n:Nat))∧w'=w:=by
 go_enter Try.func52,Try.ntmps52
 go_wp2
 go_loop [3] (fun u=>∃ k:Nat,u=.int .i64 (k:Int)∧(k=1∨k=2∨k=4∨k=8∨k=16∨k=32∨k=64)∧(k=1∨4*k<n)) (fun u=>64-(intOf u).toNat)
 case atStart=>exact⟨1,rfl,Or.inl rfl,Or.inl rfl⟩
 case round=>
  obtain⟨k,rfl,hk,h1⟩:=hrel
  have Hk:=Lib.hid hk
  have H1:=Lib.hid h1
  have hk0:1≤k∧k≤64:=by omega
  clear hk h1
  by_cases hlt:k<64
  ·have hlt2:(k:Int)<64:=by omega
   by_cases h8:8*k<n
   ·have h82:8*(k:Int)<(n:Int):=by omega
    have HN:Hid ((k*2=1∨k*2=2∨k*2=4∨k*2=8∨k*2=16∨k*2=32∨k*2=64)∧(k*2=1∨4*(k*2)<n)):=Lib.hid (by have:=Hk.out;omega)
    go_wp2
    go_round
    case rel=>exact⟨k*2,by go_num,HN.out.1,HN.out.2⟩
    case measure=>simp [intOf];omega
   ·have h82:¬ 8*(k:Int)<(n:Int):=by omega
    have HE:=Lib.hid (wideT_of Hk.out H1.out (Or.inr (by omega)))
    go_wp2
    go_ret
    exact⟨by rw [HE.out];rfl,rfl⟩
  ·have hlt2:¬ (k:Int)<64:=by omega
   have HE:=Lib.hid (wideT_of Hk.out H1.out (Or.inl (by omega)))
   go_wp2
   go_ret
   exact⟨by rw [HE.out];rfl,rfl⟩
theorem ret_i {k:IntKind} {a b:Int} (h:a=b):Ending.returned (.int k a)=.returned (.int k b):=by rw [h]
theorem countT_eq (n:Nat):((countT n:Nat):Int)=max 1 (((n:Int)+4-1)/4):=by unfold countT;omega
set_option maxHeartbeats 4000000 in
set_option maxRecDepth 100000 in
theorem tcount_any (w:World) (n:Nat) (hn:n≤1000000):
  Calls Try.prog 53 #[.int .i64 (n:Int)] w fun e w'=>e=.returned (.int .i64 (countT n:Nat))∧w'=w:=by
 have HE:=Lib.hid (countT_eq n)
 go_enter Try.func53,Try.ntmps53
 go_wp2
 all_goals
  go_ret
  exact⟨ret_i (by rw [HE.out];omega),rfl⟩
theorem info_wordB:(Try.prog.info? 117).map (fun i=>(i.zero,i.size,i.bytes))=some (some (.int .u64 0),1,8):=by kernel_rfl
theorem flat_word:FlatK kWord:=fun _ _ _ _ _ _ h=>h
theorem row_word:RowK kWord (fun x=>[.int .u64 x]) (fun _=>True):=⟨fun h=>⟨h,trivial⟩,fun _ _ _ _=>rfl,fun _=>rfl,by decide,fun x u hu=>by
 rcases List.mem_singleton.1 hu with rfl;rfl⟩
theorem LAt.hash1' {S:Nat→Prop} {w:World} {a:Option Addr} {b off:Nat} {l:List Int} (h:LAt kHash S w l a b off) (i:Nat) (x:Int) (hx:l[i]? =some x):w.cell? ⟨b,off+i,none⟩=some (.int .u32 x):=by
 obtain⟨row,h1,h2⟩:=h.row i x hx
 have h1:row=[.int .u32 x]:=h1
 subst h1
 have:=h2 0 _ rfl
 simpa [kHash] using this
theorem markT_len (ws:List Int) (h:Nat):(markT ws h).length=ws.length:=by simp [markT]
theorem markT_range {ws:List Int} (hr:∀ x∈ws,0≤x∧x<18446744073709551616) (h:Nat):∀ x∈markT ws h,0≤x∧x<18446744073709551616:=fun x hx=>by
 unfold markT at hx
 rcases List.mem_or_eq_of_mem_set hx with hx | rfl
 ·exact hr x hx
 ·have h1:(ws.getD (h/64%ws.length) 0).toNat<2 ^ 64:=by
   rw [List.getD_eq_getElem?_getD]
   cases e:ws[h/64%ws.length]? with
   | none=>decide
   | some y=>
    have:=hr y (List.mem_of_getElem? e)
    have e2:(2:Nat) ^ 64=18446744073709551616:=by decide
    rw [e2];show y.toNat<_;omega
  have h2:2 ^ (h%64)|||2 ^ (h/64%64)<2 ^ 64:=by
   have:=marks_lt (h%64) (h/64%64) (Nat.mod_lt _ (by decide)) (Nat.mod_lt _ (by decide))
   have e2:(2:Nat) ^ 64=18446744073709551616:=by decide
   omega
  have h3:=Nat.or_lt_two_pow h1 h2
  have e2:(2:Nat) ^ 64=18446744073709551616:=by decide
  generalize (ws.getD (h/64%ws.length) 0).toNat|||(2 ^ (h%64)|||2 ^ (h/64%64))=K at *
  omega
def marksT (ws:List Int) (hs:List Int):List Int:=hs.foldl (fun ws h=>markT ws h.toNat) ws
theorem marksT_len:∀ (hs ws:List Int),(marksT ws hs).length=ws.length
 | [],_=>rfl
 | h :: hs,ws=>(marksT_len hs (markT ws h.toNat)).trans (markT_len ws _)
theorem marksT_range:∀ (hs ws:List Int),(∀ x∈ws,0≤x∧x<18446744073709551616)→∀ x∈marksT ws hs,0≤x∧x<18446744073709551616
 | [],_,h=>h
 | k :: hs,ws,h=>marksT_range hs (markT ws k.toNat) (markT_range h _)
theorem marksT_snoc (ws hs:List Int) (h:Int):marksT ws (hs++[h])=markT (marksT ws hs) h.toNat:=by unfold marksT;rw [List.foldl_append];rfl
def AddPost (w:World) (l:List Int) (e:Ending) (w':World):Prop:=∃ r,e=.returned (.tuple #[.agg #[r,.int .i64 6],.int .i64 0])∧OwnK 117 kWord w.heap.size (fun _=>False) w' r l∧Below w.heap.size w w'
theorem below_setRow {B:Nat} {a w:World} (h:Below B a w) (g:Nat) (cs:Array Value) (hg:B≤g):Below B a (w.setRow g cs):=
 ⟨h.os,h.tape,h.output,by simpa using h.size,fun k hk=>(setRow_other w g k cs (by omega)).trans (h.block k hk)⟩
theorem results_row_tmp {P:Program} {fn:Func} {p u:Tmp} {ty:TypeId} (h:fn.results=#[.cell p ty,.tmp u]) (tmps:Array Value) (w:World) (g:Nat) (t:TypeId) (cs:Array Value) (fr:Nat × Nat) (d:TypeDesc)
  (hp:tmps.getD p undef=.pointer (some ⟨g,0,none⟩)) (hg:w.heap[g]? =some (.cells cs t fr))
  (hu:P.underlying ty=some d) (hd:(match d with | .struct _ | .array _ _=>true | _=>false)=true) (hi:(P.info? ty).map (·.size)=some cs.size):
  (results fn tmps).run P w=.ok (.tuple #[.agg cs,tmps.getD u undef]) w:=by
 rw [results_cell_tmp h,hp]
 simp [asAddr,run_loadVar_row w g t ty cs fr d hg hu hd hi,Result.andThen]
structure AddSt (w0:World) (lb:Nat) (w:World) (r:Value) (l:List Int):Prop where
 ex:w.heap[lb]? =some (.cells #[r,.int .i64 6] 36 (0,0))
 ey:w.heap[lb+1]? =some (.cells #[.slice none 0 0,.int .i64 0] 36 (0,0))
 own:OwnK 117 kWord (lb+2) (fun _=>False) w r l
 low:Below lb w0 w
section
variable {w0 w w' : World} {lb : Nat} {r : Value} {l : List Int}
theorem AddSt.lt (h:AddSt w0 lb w r l):lb+1<w.heap.size:=by
 rcases Nat.lt_or_ge (lb+1) w.heap.size with h' | h'
 ·exact h'
 ·have:=h.ey;rw [Array.getElem?_eq_none h']at this;cases this
theorem AddSt.belowW (h:AddSt w0 lb w r l) (hb:Below w.heap.size w w'):AddSt w0 lb w' r l:=by
 have:=h.lt
 exact⟨(hb.block lb (by omega)).trans h.ex,(hb.block (lb+1) h.lt).trans h.ey,h.own.below hb,h.low.trans (hb.mono (by omega))⟩
theorem AddSt.frozen {g n c:Nat} (h:AddSt w0 lb w (.slice (some ⟨g,0,none⟩) n c) l) (j:Nat):w.frozen? ⟨g,j,none⟩=false:=by
 obtain⟨xs,h1,_⟩:=h.own
 rcases h1.2 with ⟨h0,_⟩ | ⟨g',cap,cur,hv,_,hh,_⟩
 ·cases h0
 ·cases hv;exact Lib.frozen_of_heap hh j
theorem AddSt.mark {g n c:Nat} (h:AddSt w0 lb w (.slice (some ⟨g,0,none⟩) n c) l) {q:Nat} {x:Int} (_:q<l.length) (hx:l[q]? =some x) (y:Nat):AddSt w0 lb (w.setCell ⟨g,q,none⟩ (.int .u64 (y:Int))) (.slice (some ⟨g,0,none⟩) n c) (l.set q (y:Int)):=by
 have hs:Step (fun b=>b≠g) w (w.setCell ⟨g,q,none⟩ (.int .u64 (y:Int))):=(Step.refl _ w).setCell (fun h=>h rfl) _
 have hg:=(h.own.lt g rfl).1
 refine⟨(hs.block lb (by omega)).trans h.ex,(hs.block (lb+1) (by omega)).trans h.ey,?_,h.low.setCell (by show lb≤g;omega) _⟩
 have h1:=h.own.setElem row_word (g:=g) rfl hx (j:=0) (u:=.int .u64 (y:Int)) (x':=(y:Int)) (by decide) rfl trivial
 simpa [kWord] using h1
end
set_option maxHeartbeats 16000000 in
set_option maxRecDepth 100000 in
theorem sadd_any (w:World) (u hv:Value) (ws hs:List Int) (hu:LB kWord (·<w.heap.size) w u ws) (hp:powB ws.length=true) (hr:∀ x∈ws,0≤x∧x<18446744073709551616) (hh:LB kHash (·<w.heap.size) w hv hs) (hhr:∀ x∈hs,0≤x∧x<4294967296) (hl:hs.length≤1000000):
  Calls Try.prog 91 #[.agg #[u,.int .i64 6],hv] w (AddPost w (marksT ws hs)):=by
 obtain⟨ua,ub,uo,uc,rfl,hum,huc,huat⟩:=hu.at
 obtain⟨ha_,hb,ho,hc,rfl,hhm,hhc,hhat⟩:=hh.at
 have hn:=(powB_iff _).1 hp
 have hn1:1≤ws.length∧ws.length≤64:=by omega
 have huaa:=huat.addr
 have hhaa:=hhat.addr
 have Huat:=Lib.hid huat
 have Hhat:=Lib.hid hhat
 have Hu:=Lib.hid hu
 have Hhr:=Lib.hid hhr
 have Hr:=Lib.hid hr
 have Hp:=Lib.hid hp
 obtain⟨n,hnn⟩:∃ n,n=ws.length:=⟨_,rfl⟩
 have Hn:=Lib.hid hnn
 obtain⟨m,hm⟩:∃ m,m=hs.length:=⟨_,rfl⟩
 have Hm:=Lib.hid hm
 have HRt:Hid (sieveErr ws 6=0):=Lib.hid (sieveErr_ok hp (by decide) (by decide))
 have HR:=Lib.hid (fun w':World=>sright_any w' ws ua uc 6 (by omega))
 rw [HRt.out,← hnn]at HR
 rw [← hnn]at hum huc hn1 ⊢
 rw [← hm]at hhm hhc hhaa hl ⊢
 have hnp:=hn
 rw [← hnn]at hnp
 clear hu hh huat hhat hhr hr hp hn hnn hm
 have HX0:=Lib.hid (heap_alloc_new w (.cells #[.slice ua n uc,.int .i64 6] 36 (0,0)))
 have HX:=Lib.hid ((heap_alloc_old (w.alloc (.cells #[.slice ua n uc,.int .i64 6] 36 (0,0))) (.cells #[.slice none 0 0,.int .i64 0] 36 (0,0)) (r:=w.heap.size) (by simp)).trans HX0.out)
 have HY:Hid (((w.alloc (.cells #[.slice ua n uc,.int .i64 6] 36 (0,0))).alloc (.cells #[.slice none 0 0,.int .i64 0] 36 (0,0))).heap[w.heap.size+1]? =some (.cells #[.slice none 0 0,.int .i64 0] 36 (0,0))):=Lib.hid (by
  have:=heap_alloc_new (w.alloc (.cells #[.slice ua n uc,.int .i64 6] 36 (0,0))) (.cells #[.slice none 0 0,.int .i64 0] 36 (0,0))
  rwa [World.size_alloc]at this)
 have HB:=Lib.hid (((Below.refl w.heap.size w).alloc (Nat.le_refl _) (.cells #[.slice ua n uc,.int .i64 6] 36 (0,0))).alloc (by simp) (.cells #[.slice none 0 0,.int .i64 0] 36 (0,0)))
 have hz:((w.alloc (.cells #[.slice ua n uc,.int .i64 6] 36 (0,0))).alloc (.cells #[.slice none 0 0,.int .i64 0] 36 (0,0))).heap.size=w.heap.size+2:=by simp
 have Hz:=Lib.hid hz
 have c01:((w.alloc (.cells #[.slice ua n uc,.int .i64 6] 36 (0,0))).alloc (.cells #[.slice none 0 0,.int .i64 0] 36 (0,0))).cell? ⟨w.heap.size,1,none⟩=some (.int .i64 6):=by rw [Lib.cell_of_heap HX.out];rfl
 clear hz HX0
 go_enter Try.func91,Try.ntmps91
 go_upto_region 1 with fail
 have c00:((w.alloc (.cells #[.slice ua n uc,.int .i64 6] 36 (0,0))).alloc (.cells #[.slice none 0 0,.int .i64 0] 36 (0,0))).cell? ⟨w.heap.size,0,none⟩=some (.slice ua n uc):=by rw [Lib.cell_of_heap HX.out];rfl
 generalize (w.alloc (.cells #[.slice ua n uc,.int .i64 6] 36 (0,0))).alloc (.cells #[.slice none 0 0,.int .i64 0] 36 (0,0))=w1 at *
 generalize hws:w.heap.size=lb at *
 have Hlb:=Lib.hid hws
 clear hws
 go_wp2_with fail
 refine(HR.out _).mono ?_
 rintro e w2 ⟨rfl,hb2⟩
 have hz1:=Hz.out
 have hz2:=hb2.size
 have HX2:=Lib.hid ((hb2.block lb (by omega)).trans HX.out)
 have HY2:=Lib.hid ((hb2.block (lb+1) (by omega)).trans HY.out)
 have HB2:=Lib.hid (HB.out.trans (hb2.mono (by omega)))
 clear hb2 c00 c01 HX HY HB
 have d0:w2.cell? ⟨lb,0,none⟩=some (.slice ua n uc):=by rw [Lib.cell_of_heap HX2.out];rfl
 have f0:w2.frozen? ⟨lb,0,none⟩=false:=Lib.frozen_of_heap HX2.out 0
 have HU2:=Lib.hid (Hu.out.below HB2.out)
 rw [← Hn.out]at HU2
 have HN:=Lib.hid (OwnK.nil 117 kWord (lb+2) (fun _=>False) w2)
 go_wp2_with (at_builtin;go_loud (refine wpList_appendsK (v:=.slice none 0 0) (l:=[]) plain_word 34 _ 8 Try.underlying34 info_wordB rfl rfl (.const (.slice none 0 0)) (.tmp 14) rfl rfl HN.out (fun b hb=>hb.elim) (.slice ua n uc) ws rfl HU2.out (by rw [← Hn.out];simp only [List.length_nil];omega) (by rw [← Hn.out];simp only [List.length_nil];omega) (by omega) ?_))
 intro r3 w3 hown3 hst3 hne3
 obtain⟨g,rc,hrf,hfz⟩:=hown3.form1 (by rw [← Hn.out];omega)
 rw [← Hn.out]at hrf
 subst hrf
 have hg:=hown3.lt g rfl
 have HX3:=Lib.hid ((hst3.block lb ⟨by omega,by simp [Value.ownBlock]⟩).trans HX2.out)
 have HY3:=Lib.hid ((hst3.block (lb+1) ⟨by omega,by simp [Value.ownBlock]⟩).trans HY2.out)
 have e0:w3.cell? ⟨lb,0,none⟩=some (.slice ua n uc):=by rw [Lib.cell_of_heap HX3.out];rfl
 have f3:w3.frozen? ⟨lb,0,none⟩=false:=Lib.frozen_of_heap HX3.out 0
 have hst4:Step (fun b=>b≠lb) w3 (w3.setCell ⟨lb,0,none⟩ (.slice (some ⟨g,0,none⟩) n rc)):=(Step.refl _ w3).setCell (fun h=>h rfl) _
 have HS4:Hid (AddSt w lb (w3.setCell ⟨lb,0,none⟩ (.slice (some ⟨g,0,none⟩) n rc)) (.slice (some ⟨g,0,none⟩) n rc) ws):=Lib.hid ⟨setCell_list HX3.out 0 _,(hst4.block (lb+1) (by omega)).trans HY3.out,hown3.flat_keep flat_word (fun b hb=>hst4.block b (by have:=(hown3.lt b hb).1;omega)),
  (HB2.out.trans ((hst3.imp (S':=(·<lb)) (fun b hb=>⟨by have hb:b<lb:=hb;omega,by simp [Value.ownBlock]⟩)).below)).setCell (Nat.le_refl _) _⟩
 clear hown3 hst3 hne3 hfz HX2 HY2 HB2 HX3 HY3 d0 f0 HU2 HN hst4 hz2
 go_upto_region 5 with fail
 clear e0 f3
 generalize w3.setCell ⟨lb,0,none⟩ (.slice (some ⟨g,0,none⟩) n rc)=w4 at *
 go_loopw [19] (fun i wr=>∃ k:Nat,i=.int .i64 k∧k≤m∧AddSt w lb wr (.slice (some ⟨g,0,none⟩) n rc) (marksT ws (hs.take k))) (fun i _=>m-(intOf i).toNat)
 case atStart=>exact⟨0,rfl,Nat.zero_le _,HS4.out⟩
 case round=>
  obtain⟨k,rfl,hk,hS⟩:=hrel
  have HS:=Lib.hid hS
  clear hS
  have hml:=marksT_len (hs.take k) ws
  by_cases hlt:k<m
  ·obtain⟨h0,hh0⟩:∃ h0,hs[k]? =some h0:=⟨_,List.getElem?_eq_getElem (by rw [← Hm.out];exact hlt)⟩
   have hr0:=Hhr.out h0 (List.mem_of_getElem? hh0)
   obtain⟨h,rfl⟩:∃ h:Nat,h0=h:=⟨h0.toNat,by omega⟩
   obtain rfl:=hhaa (by omega)
   have g0:=(Hhat.out.below HS.out.low).hash1' k _ hh0
   have HSn:Hid (marksT ws (hs.take (k+1))=markT (marksT ws (hs.take k)) h):=Lib.hid (by rw [take_snocB hh0,marksT_snoc,Int.toNat_natCast])
   have hrg:=marksT_range (hs.take k) ws Hr.out
   obtain⟨cur,hcur⟩:∃ cur,cur=marksT ws (hs.take k):=⟨_,rfl⟩
   rw [← hcur]at HS HSn hrg hml
   have hq:h/64%n<n:=Nat.mod_lt _ (by omega)
   obtain⟨x0,hx0⟩:∃ x0,cur[h/64%n]? =some x0:=⟨_,List.getElem?_eq_getElem (by have:=Hn.out;omega)⟩
   have hxr:=hrg x0 (List.mem_of_getElem? hx0)
   obtain⟨x,rfl⟩:∃ x:Nat,x0=x:=⟨x0.toNat,by omega⟩
   have HMk:Hid (markT cur h=cur.set (h/64%n) (((x|||(2 ^ (h%64)|||2 ^ (h/64%64)):Nat):Int))):=Lib.hid (by
    unfold markT
    rw [show cur.length=n by have:=Hn.out;omega,List.getD_eq_getElem?_getD,hx0];rfl)
   have k1:h%64<64:=Nat.mod_lt _ (by decide)
   have k2:h/64%64<64:=Nat.mod_lt _ (by decide)
   have hKl:=marks_lt (h%64) (h/64%64) k1 k2
   have HW:=Lib.hid (pow_word h n (by omega) (by have:=Hp.out;rwa [← Hn.out]at this))
   have HBt:=Lib.hid (marks_bits (h%64) (h/64%64) k1 k2)
   have HMs:=Lib.hid (fun w=>smarks_any w (some ⟨g,0,none⟩) n rc 6 h (by omega) hn1.1 hn1.2 (by decide) (by decide))
   rw [show (2:Nat) ^ (6:Int).toNat=64 from rfl]at HMs
   rw [HW.out,HBt.out]at HMs
   obtain⟨K,hK⟩:∃ K,K=2 ^ (h%64)|||2 ^ (h/64%64):=⟨_,rfl⟩
   rw [← hK]at HMk HMs hKl
   obtain⟨q,hq'⟩:∃ q,q=h/64%n:=⟨_,rfl⟩
   rw [← hq']at HMk HMs hq hx0
   have Hor:=Lib.hid (u64_or_nat x K (by omega) hKl)
   have hk2:(k:Int)<(m:Int):=by omega
   have e0:wr.cell? ⟨lb,0,none⟩=some (.slice (some ⟨g,0,none⟩) n rc):=by rw [Lib.cell_of_heap HS.out.ex];rfl
   have e1:wr.cell? ⟨lb,1,none⟩=some (.int .i64 6):=by rw [Lib.cell_of_heap HS.out.ex];rfl
   have Hx0:=Lib.hid hx0
   have Hlq:Hid (q<cur.length):=Lib.hid (by have:=Hn.out;omega)
   clear hh0 hcur hK hq' HW HBt hrg k1 k2 hx0 hml
   go_wp2_with fail
   refine(HMs.out _).mono ?_
   rintro e w5 ⟨rfl,hb5⟩
   have HS5:=Lib.hid (HS.out.belowW hb5)
   clear hb5 e0 e1 g0 HMs HS
   have HS6:=Lib.hid (HS5.out.belowW ((Below.refl _ w5).alloc (Nat.le_refl _) (.cells #[.int .i64 (q:Int),.int .u64 (K:Int)] 180 (0,0))))
   have HX6:=Lib.hid (heap_alloc_new w5 (.cells #[.int .i64 (q:Int),.int .u64 (K:Int)] 180 (0,0)))
   go_upto_region 8 with fail
   have hz6:w5.heap.size<(w5.alloc (.cells #[.int .i64 (q:Int),.int .u64 (K:Int)] 180 (0,0))).heap.size:=by simp
   generalize w5.alloc (.cells #[.int .i64 (q:Int),.int .u64 (K:Int)] 180 (0,0))=w6 at *
   generalize w5.heap.size=mb at *
   have e0:w6.cell? ⟨lb,0,none⟩=some (.slice (some ⟨g,0,none⟩) n rc):=by rw [Lib.cell_of_heap HS6.out.ex];rfl
   have m0:w6.cell? ⟨mb,0,none⟩=some (.int .i64 (q:Int)):=by rw [Lib.cell_of_heap HX6.out];rfl
   have m1:w6.cell? ⟨mb,1,none⟩=some (.int .u64 (K:Int)):=by rw [Lib.cell_of_heap HX6.out];rfl
   have gx:w6.cell? ⟨g,q,none⟩=some (.int .u64 (x:Int)):=by
    have h:=(HS6.out.own.lb.at_form rfl (by have:=Hlq.out;omega)).word1 q _ Hx0.out
    rwa [Nat.zero_add]at h
   have gf:=HS6.out.frozen q
   refine wp_region_phase 9 (by kernel_rfl) (by kernel_rfl) ?_
   simp only [List.take_succ_cons,List.take_zero,List.drop_succ_cons,List.drop_zero,List.take_nil,List.drop_nil]
   refine wpAny_of_held (S:=fun w':World=>w'.cell? ⟨lb,0,none⟩=some (.slice (some ⟨g,0,none⟩) n rc)∧w'.cell? ⟨mb,0,none⟩=some (.int .i64 (q:Int))∧w'.cell? ⟨mb,1,none⟩=some (.int .u64 (K:Int))∧w'.cell? ⟨g,q,none⟩=some (.int .u64 (x:Int))) _ _ _ _ ?_
   have hHeld:(fun w':World=>w'.cell? ⟨lb,0,none⟩=some (.slice (some ⟨g,0,none⟩) n rc)∧w'.cell? ⟨mb,0,none⟩=some (.int .i64 (q:Int))∧w'.cell? ⟨mb,1,none⟩=some (.int .u64 (K:Int))∧w'.cell? ⟨g,q,none⟩=some (.int .u64 (x:Int))) (World.drew w6):=⟨e0,m0,m1,gx⟩
   show wpAnyH _ _ _ _ _ _ _ _ (World.drew _)
   have HSd:=Lib.hid (HS6.out.belowW (Below.refl _ w6).drew)
   have gxd:(World.drew w6).cell? ⟨g,q,none⟩=some (.int .u64 (x:Int)):=gx
   have gfd:(World.drew w6).frozen? ⟨g,q,none⟩=false:=gf
   clear e0 m0 m1 gx gf
   generalize (World.drew w6)=wd at HSd hHeld gxd gfd ⊢
   have hq2:(q:Int)<(n:Int):=by omega
   have hor:=Hor.out
   refine wpAnyH_take (i:=0) (v:= ?_) rfl (by kernel_rfl) (by kernel_rfl) (by kernel_rfl) (fun _ _ _ h=>h) (Or.inl ⟨by rfl,?_⟩) hHeld ?_
   rotate_left
   ·(intro w hSw;(try dsimp only at hSw);go_simp;try with_reducible rfl)
   simp only [List.getElem_toArray,List.getElem_cons_zero,List.getElem_cons_succ,Act.put,List.setIfInBounds_toArray,List.set_cons_zero,List.set_cons_succ]
   refine wpAnyH_take (i:=1) (v:= ?_) rfl (by kernel_rfl) (by kernel_rfl) (by kernel_rfl) (fun _ _ _ h=>h) (Or.inl ⟨by rfl,?_⟩) hHeld ?_
   rotate_left
   ·(intro w hSw;(try dsimp only at hSw);go_simp;try with_reducible rfl)
   simp only [List.getElem_toArray,List.getElem_cons_zero,List.getElem_cons_succ,Act.put,List.setIfInBounds_toArray,List.set_cons_zero,List.set_cons_succ]
   refine wpAnyH_take (i:=2) (v:= ?_) rfl (by kernel_rfl) (by kernel_rfl) (by kernel_rfl) (fun _ _ _ h=>h) (Or.inl ⟨by rfl,?_⟩) hHeld ?_
   rotate_left
   ·(intro w hSw;(try dsimp only at hSw);go_simp;try with_reducible rfl)
   simp only [List.getElem_toArray,List.getElem_cons_zero,List.getElem_cons_succ,Act.put,List.setIfInBounds_toArray,List.set_cons_zero,List.set_cons_succ]
   refine wpAnyH_take (i:=3) (v:= ?_) rfl (by kernel_rfl) (by kernel_rfl) (by kernel_rfl) (fun _ _ _ h=>h) (Or.inl ⟨by rfl,?_⟩) hHeld ?_
   rotate_left
   ·(intro w hSw;(try dsimp only at hSw);go_simp;try with_reducible rfl)
   simp only [List.getElem_toArray,List.getElem_cons_zero,List.getElem_cons_succ,Act.put,List.setIfInBounds_toArray,List.set_cons_zero,List.set_cons_succ]
   refine wpAnyH_take (i:=4) (v:= ?_) rfl (by kernel_rfl) (by kernel_rfl) (by kernel_rfl) (fun _ _ _ h=>h) (Or.inl ⟨by rfl,?_⟩) hHeld ?_
   rotate_left
   ·(intro w hSw;(try dsimp only at hSw);go_simp;try with_reducible rfl)
   simp only [List.getElem_toArray,List.getElem_cons_zero,List.getElem_cons_succ,Act.put,List.setIfInBounds_toArray,List.set_cons_zero,List.set_cons_succ]
   refine wpAnyH_take (i:=5) (v:= ?_) rfl (by kernel_rfl) (by kernel_rfl) (by kernel_rfl) (fun _ _ _ h=>h) (Or.inl ⟨by rfl,?_⟩) hHeld ?_
   rotate_left
   ·(intro w hSw;(try dsimp only at hSw);go_simp;try with_reducible rfl)
   simp only [List.getElem_toArray,List.getElem_cons_zero,List.getElem_cons_succ,Act.put,List.setIfInBounds_toArray,List.set_cons_zero,List.set_cons_succ]
   refine wpAnyH_take (i:=6) (v:= ?_) rfl (by kernel_rfl) (by kernel_rfl) (by kernel_rfl) (fun _ _ _ h=>h) (Or.inl ⟨by rfl,?_⟩) hHeld ?_
   rotate_left
   ·(intro w hSw;(try dsimp only at hSw);go_simp;try with_reducible rfl)
   simp only [List.getElem_toArray,List.getElem_cons_zero,List.getElem_cons_succ,Act.put,List.setIfInBounds_toArray,List.set_cons_zero,List.set_cons_succ]
   refine wpAnyH_take (i:=7) (v:= ?_) rfl (by kernel_rfl) (by kernel_rfl) (by kernel_rfl) (fun _ _ _ h=>h) (Or.inl ⟨by rfl,?_⟩) hHeld ?_
   rotate_left
   ·(intro w hSw;(try dsimp only at hSw);go_simp;try with_reducible rfl)
   simp only [List.getElem_toArray,List.getElem_cons_zero,List.getElem_cons_succ,Act.put,List.setIfInBounds_toArray,List.set_cons_zero,List.set_cons_succ]
   refine wpAnyH_take (i:=8) (v:= ?_) rfl (by kernel_rfl) (by kernel_rfl) (by kernel_rfl) (fun _ _ _ h=>h) (Or.inl ⟨by rfl,?_⟩) hHeld ?_
   rotate_left
   ·(intro w hSw;(try dsimp only at hSw);go_simp;try with_reducible rfl)
   simp only [List.getElem_toArray,List.getElem_cons_zero,List.getElem_cons_succ,Act.put,List.setIfInBounds_toArray,List.set_cons_zero,List.set_cons_succ]
   refine wpAnyH_done (by kernel_rfl) ?_ _
   simp only [phaseQ]
   clear hHeld hor
   have HSe:=Lib.hid (HSd.out.mark Hlq.out Hx0.out (x|||K))
   rw [← HMk.out,← HSn.out]at HSe
   go_wp2
   go_roundw
   case rel=>exact⟨k+1,by go_num,by omega,HSe.out⟩
   case measure=>simp [intOf];omega
  ·have HE:Hid (AddSt w lb wr (.slice (some ⟨g,0,none⟩) n rc) (marksT ws hs)):=Lib.hid (by
    have h:=HS.out
    rwa [List.take_of_length_le (by have:=Hm.out;omega)]at h)
   have HEy:=Lib.hid HE.out.ey
   have e0:wr.cell? ⟨lb,0,none⟩=some (.slice (some ⟨g,0,none⟩) n rc):=by rw [Lib.cell_of_heap HS.out.ex];rfl
   have e1:wr.cell? ⟨lb,1,none⟩=some (.int .i64 6):=by rw [Lib.cell_of_heap HS.out.ex];rfl
   clear hml
   go_wp2_with (refine wpList_store_row rfl 36 (.tmp 4) (.tmp 37) rfl (lb+1) (#[.slice (some ⟨g,0,none⟩) n rc,.int .i64 6]) rfl rfl _ _ HEy.out (by kernel_rfl) rfl (by simp [Value.oneCell']) ?_)
   go_wp2_with fail
   have FR:=Lib.hid (setRow_heap _ (lb+1) _ (#[.slice (some ⟨g,0,none⟩) n rc,.int .i64 6]) _ _ HEy.out)
   refine bodyPost_ret (results_row_tmp rfl _ _ (lb+1) _ _ _ _ rfl FR.out Try.underlying36 rfl (by kernel_rfl)) rfl ?_
   exact⟨_,rfl,by have h:=HE.out.own;exact(h.flat_keep flat_word (fun b hb=>setRow_other _ _ b _ (by have:=(h.lt b hb).1;omega))).mono (by have:=Hlb.out;omega),by rw [Hlb.out];exact below_setRow HE.out.low _ _ (by omega)⟩
end Go.Proofs.Ytpomdoliblilfaa
namespace Go.Proofs.Ytpomdoliblilfaa
set_option linter.unusedVariables false
set_option linter.unusedSimpArgs false
open Go.RowKit
theorem replicate_zero (n:Nat):(madeCells (Value.int .u64 0).cells (n*1)).toList=(List.replicate n (0:Int)).map (fun x=>Value.int .u64 x):=by
 have e:(Value.int .u64 0).cells=#[.int .u64 0]:=rfl
 rw [Nat.mul_one,List.map_replicate]
 apply List.ext_getElem?
 intro i
 simp only [madeCells,e]
 by_cases h:i<n
 ·simp [h,Nat.mod_one]
 ·simp [h]
set_option maxHeartbeats 16000000 in
set_option maxRecDepth 100000 in
theorem smake_any (w:World) (n:Nat) (hv:Value) (hs:List Int) (hp:powB n=true) (hh:LB kHash (·<w.heap.size) w hv hs) (hhr:∀ x∈hs,0≤x∧x<4294967296) (hl:hs.length≤1000000):
  Calls Try.prog 51 #[.int .i64 (n:Int),.int .i64 6,hv] w (AddPost w (marksT (List.replicate n 0) hs)):=by
 have hn:=(powB_iff _).1 hp
 have hn1:1≤n∧n≤64:=by omega
 obtain⟨ha_,hb,ho,hc,rfl,hhm,hhc,-⟩:=hh.at
 have Hh:=Lib.hid hh
 have Hhr:=Lib.hid hhr
 have Hp:=Lib.hid hp
 obtain⟨m,hm⟩:∃ m,m=hs.length:=⟨_,rfl⟩
 have Hm:=Lib.hid hm
 rw [← hm]at hhm hhc ⊢
 have HRt:Hid (sieveErr (List.replicate n 0) 6=0):=Lib.hid (sieveErr_ok (by simpa using hp) (by decide) (by decide))
 have HR:=Lib.hid (fun (w':World) (a:Option Addr) (c:Nat)=>sright_any w' (List.replicate n 0) a c 6 (by simp;omega))
 rw [HRt.out,List.length_replicate]at HR
 obtain⟨i0,hi,hz0,hz1,hz2⟩:=info_parts info_wordB
 have HX0:=Lib.hid (heap_alloc_new w (.cells #[.slice none 0 0,.int .i64 0] 36 (0,0)))
 have HX:=Lib.hid ((heap_alloc_old (w.alloc (.cells #[.slice none 0 0,.int .i64 0] 36 (0,0))) (.cells #[.slice none 0 0,.int .i64 6] 36 (0,0)) (r:=w.heap.size) (by simp)).trans HX0.out)
 have HY:Hid (((w.alloc (.cells #[.slice none 0 0,.int .i64 0] 36 (0,0))).alloc (.cells #[.slice none 0 0,.int .i64 6] 36 (0,0))).heap[w.heap.size+1]? =some (.cells #[.slice none 0 0,.int .i64 6] 36 (0,0))):=Lib.hid (by
  have:=heap_alloc_new (w.alloc (.cells #[.slice none 0 0,.int .i64 0] 36 (0,0))) (.cells #[.slice none 0 0,.int .i64 6] 36 (0,0))
  rwa [World.size_alloc]at this)
 have HB:=Lib.hid (((Below.refl w.heap.size w).alloc (Nat.le_refl _) (.cells #[.slice none 0 0,.int .i64 0] 36 (0,0))).alloc (by simp) (.cells #[.slice none 0 0,.int .i64 6] 36 (0,0)))
 have hz:((w.alloc (.cells #[.slice none 0 0,.int .i64 0] 36 (0,0))).alloc (.cells #[.slice none 0 0,.int .i64 6] 36 (0,0))).heap.size=w.heap.size+2:=by simp
 have Hz:=Lib.hid hz
 have hn2:(1:Int)≤(n:Int):=by omega
 have hn3:(n:Int)≤64:=by omega
 clear hz HX0 hn hh hhr hp hm
 go_enter Try.func51,Try.ntmps51
 go_upto_region 2 with fail
 generalize (w.alloc (.cells #[.slice none 0 0,.int .i64 0] 36 (0,0))).alloc (.cells #[.slice none 0 0,.int .i64 6] 36 (0,0))=w1 at *
 generalize hws:w.heap.size=lb at *
 have Hlb:=Lib.hid hws
 clear hws
 have hz1':=Hz.out
 go_wp2_with (at_make;refine wpList_make_full _ rfl _ _ 34 rfl w1.heap.size 117 i0 (.int .u64 0) 1 Try.underlying34 hi hz0 hz1 .i64 .i64 _ _ n rfl rfl rfl rfl (by rw [hz2];omega) (by unfold maxLen;omega) (Nat.le_refl _) ?_;intro w2 hrow2 hg2;have HY2:=Lib.hid ((hg2.block (lb+1) (by omega) (by simp)).trans HY.out);have f1:w2.frozen? ⟨lb+1,0,none⟩=false:=Lib.frozen_of_heap HY2.out 0;have e1:w2.cell? ⟨lb+1,0,none⟩=some (.slice none 0 0):=(by rw [Lib.cell_of_heap HY2.out];rfl);have e2:w2.cell? ⟨lb+1,1,none⟩=some (.int .i64 6):=(by rw [Lib.cell_of_heap HY2.out];rfl))
 rw [replicate_zero]at hrow2
 have ho2:=OwnK.of_plain (e:=117) (B:=w1.heap.size) (E:=fun _=>False) (l:=List.replicate n 0) plain_word (by rw [List.length_replicate];exact hrow2) (fun _ _ h=>h)
 have HO2:=Lib.hid ho2
 have hlt2:=(World.ownsRow.lt hrow2 _ rfl).2
 have HX2:=Lib.hid ((hg2.block lb (by omega) (by simp)).trans HX.out)
 have HB2:=Lib.hid (HB.out.grown hg2 (by omega) (fun j hj=>by cases hj))
 clear hrow2 hg2 ho2 HX HY HB hi hz0 hz1
 rw [hz1']at HO2 hlt2
 change lb+2<w2.heap.size at hlt2
 have hst:Step (fun b=>b≠lb+1) w2 (w2.setCell ⟨lb+1,0,none⟩ (.slice (some ⟨lb+2,0,none⟩) n n)):=(Step.refl _ w2).setCell (fun h=>h rfl) _
 have HX3:=Lib.hid ((hst.block lb (by omega)).trans HX2.out)
 have HY3:=Lib.hid (setCell_list HY2.out 0 (.slice (some ⟨lb+2,0,none⟩) n n))
 have HO3:=Lib.hid (HO2.out.flat_keep flat_word (fun b hb=>hst.block b (by have:=(HO2.out.lt b hb).1;omega)))
 have HB3:=Lib.hid (HB2.out.setCell (p:=⟨lb+1,0,none⟩) (by show lb≤lb+1;omega) (.slice (some ⟨lb+2,0,none⟩) n n))
 clear hst HX2 HY2 HO2 HB2
 clear e1 e2 f1
 refine(HR.out _ (some ⟨lb+2,0,none⟩) n).mono ?_
 rintro e w4 ⟨rfl,hb4⟩
 have hz4:=hb4.size
 have hzs:(w2.setCell ⟨lb+1,0,none⟩ (.slice (some ⟨lb+2,0,none⟩) n n)).heap.size=w2.heap.size:=by simp
 have HX4:=Lib.hid ((hb4.block lb (by omega)).trans HX3.out)
 have HY4:=Lib.hid ((hb4.block (lb+1) (by omega)).trans HY3.out)
 have HO4:=Lib.hid (HO3.out.below hb4)
 have HB4:=Lib.hid (HB3.out.trans (hb4.mono (by omega)))
 clear hb4 HX3 HY3 HO3 HB3
 have e0:w4.cell? ⟨lb+1,0,none⟩=some (.slice (some ⟨lb+2,0,none⟩) n n):=by rw [Lib.cell_of_heap HY4.out];rfl
 have e1:w4.cell? ⟨lb+1,1,none⟩=some (.int .i64 6):=by rw [Lib.cell_of_heap HY4.out];rfl
 have HLW:Hid (LB kWord (·<w4.heap.size) w4 (.slice (some ⟨lb+2,0,none⟩) n n) (List.replicate n 0)):=Lib.hid (HO4.out.lb.imp fun b hb=>hb.1)
 have HLH:Hid (LB kHash (·<w4.heap.size) w4 (.slice ha_ m hc) hs):=Lib.hid (by rw [Hm.out];exact(Hh.out.below HB4.out).mono (by omega))
 have HAdd:=Lib.hid (sadd_any w4 _ _ _ hs HLW.out (by rw [List.length_replicate];exact Hp.out) (fun x hx=>by rw [(List.mem_replicate.1 hx).2];decide) HLH.out Hhr.out hl)
 have hz4':lb+2<w4.heap.size:=by omega
 clear hzs
 go_wp2_with fail
 refine HAdd.out.mono ?_
 rintro e w5 ⟨r,rfl,ho5,hb5⟩
 have HO5:=Lib.hid ho5
 have HX5:=Lib.hid ((hb5.block lb (by omega)).trans HX4.out)
 have HB5:=Lib.hid (HB4.out.trans (hb5.mono (by omega)))
 obtain⟨ra,rc,hrf⟩:=ho5.form
 rw [marksT_len,List.length_replicate]at hrf
 subst hrf
 clear ho5 hb5 e0 e1 HAdd
 go_wp2_with (refine wpList_store_row rfl 36 (.tmp 6) (.tmp 27) rfl lb (#[.slice ra n rc,.int .i64 6]) rfl rfl _ _ HX5.out (by kernel_rfl) rfl (by simp [Value.oneCell']) ?_)
 go_wp2_with fail
 have FR:=Lib.hid (setRow_heap _ lb _ (#[.slice ra n rc,.int .i64 6]) _ _ HX5.out)
 refine bodyPost_ret (results_row_tmp rfl _ _ lb _ _ _ _ rfl FR.out Try.underlying36 rfl (by kernel_rfl)) rfl ?_
 exact⟨_,rfl,by have h:=HO5.out;exact(h.flat_keep flat_word (fun b hb=>setRow_other _ _ b _ (by have:=(h.lt b hb).1;omega))).mono (by rw [Hlb.out];omega),by rw [Hlb.out];exact below_setRow HB5.out _ _ (Nat.le_refl _)⟩
end Go.Proofs.Ytpomdoliblilfaa
namespace Go.Proofs.Ytpomdoliblilfaa
set_option linter.unusedVariables false
set_option linter.unusedSimpArgs false
open Go.RowKit
structure BktM (B gb tb:Nat) (wv:Value) (w:World) (us:List Value) (ls:List (List Int)):Prop where
 ex:w.heap[gb]? =some (.cells us.toArray 41 (0,0))
 tab:w.heap[tb]? =some (.cells #[.slice (some ⟨gb,0,none⟩) us.length us.length,wv,.int .i64 6] 38 (0,0))
 len:us.length=ls.length
 gbase:B≤gb
 tbase:B≤tb
 ne:gb≠tb
 own:∀ (i:Nat) (u:Value) (l:List Int),us[i]? =some u→ls[i]? =some l→OwnK 3 kInt B (fun b=>b=gb∨b=tb) w u l
 apart:∀ (i j:Nat) (u v:Value) (g:Nat),i≠j→us[i]? =some u→us[j]? =some v→u.ownBlock=some g→v.ownBlock≠some g
section
variable {B gb tb : Nat} {wv : Value} {w w' : World} {us : List Value} {ls : List (List Int)}
theorem BktM.glt (h:BktM B gb tb wv w us ls):gb<w.heap.size:=by
 rcases Nat.lt_or_ge gb w.heap.size with h' | h'
 ·exact h'
 ·have:=h.ex;rw [Array.getElem?_eq_none h']at this;cases this
theorem BktM.tlt (h:BktM B gb tb wv w us ls):tb<w.heap.size:=by
 rcases Nat.lt_or_ge tb w.heap.size with h' | h'
 ·exact h'
 ·have:=h.tab;rw [Array.getElem?_eq_none h']at this;cases this
theorem BktM.belowW (h:BktM B gb tb wv w us ls) (hb:Below w.heap.size w w'):BktM B gb tb wv w' us ls:=
 ⟨(hb.block gb h.glt).trans h.ex,(hb.block tb h.tlt).trans h.tab,h.len,h.gbase,h.tbase,h.ne,fun i u l hu hl=>(h.own i u l hu hl).below hb,h.apart⟩
theorem BktM.start {many:Nat} (hg:w.heap[gb]? =some (.cells (List.replicate many (Value.slice none 0 0)).toArray 41 (0,0))) (ht:w.heap[tb]? =some (.cells #[.slice (some ⟨gb,0,none⟩) many many,wv,.int .i64 6] 38 (0,0))) (h1:B≤gb) (h2:B≤tb) (h3:gb≠tb):
  BktM B gb tb wv w (List.replicate many (Value.slice none 0 0)) (List.replicate many []):=by
 refine⟨hg,by rw [List.length_replicate];exact ht,by simp,h1,h2,h3,fun i u l hu hl=> ?_,fun i j u v g _ hu _ hg=> ?_⟩
 ·obtain rfl:=List.eq_of_mem_replicate (List.mem_of_getElem? hu)
  obtain rfl:=List.eq_of_mem_replicate (List.mem_of_getElem? hl)
  exact OwnK.nil _ _ _ _ _
 ·obtain rfl:=List.eq_of_mem_replicate (List.mem_of_getElem? hu)
  simp [Value.ownBlock]at hg
theorem BktM.append (h:BktM B gb tb wv w us ls) {i:Nat} {u u':Value} {l:List Int} {y:Int} (hu:us[i]? =some u) (hl:ls[i]? =some l) {E:Nat→Prop} (hown:OwnK 3 kInt B E w' u' (l++[y])) (hst:Step (fun b=>b<w.heap.size∧u.ownBlock≠some b) w w') (hnew:∀ b,u'.ownBlock=some b→u.ownBlock=some b∨w.heap.size≤b):
  BktM B gb tb wv (w'.setCell ⟨gb,i,none⟩ u') (us.set i u') (ls.set i (l++[y])):=by
 have hoi:=h.own i u l hu hl
 have hgu:u.ownBlock≠some gb:=fun e=>hoi.notE gb e (Or.inl rfl)
 have htu:u.ownBlock≠some tb:=fun e=>hoi.notE tb e (Or.inr rfl)
 have hgl:=h.glt
 have htl:=h.tlt
 have hg':=(hst.block gb ⟨hgl,hgu⟩).trans h.ex
 have hs2:Step (fun b=>b≠gb) w' (w'.setCell ⟨gb,i,none⟩ u'):=(Step.refl _ w').setCell (fun h=>h rfl) _
 have hg'u:u'.ownBlock≠some gb:=fun e=>by
  rcases hnew gb e with h1 | h1
  ·exact hgu h1
  ·omega
 have ht'u:u'.ownBlock≠some tb:=fun e=>by
  rcases hnew tb e with h1 | h1
  ·exact htu h1
  ·omega
 have hi:=(List.getElem?_eq_some_iff.1 hu).1
 refine⟨setCell_list hg' i u',?_,by simp [h.len],h.gbase,h.tbase,h.ne,fun j v m hv hm=> ?_,fun j k v z g hjk hv hz hg=> ?_⟩
 ·rw [List.length_set]
  exact(hs2.block tb (fun e=>h.ne e.symm)).trans ((hst.block tb ⟨htl,htu⟩).trans h.tab)
 ·by_cases e:i=j
  ·subst e
   rw [List.getElem?_set_self hi]at hv
   rw [List.getElem?_set_self (by rw [← h.len];exact hi)]at hm
   cases hv;cases hm
   refine(hown.reE flat_int (fun g hg hE=> ?_)).flat_keep flat_int (fun g hg=>hs2.block g (fun e=>hg'u (e ▸ hg)))
   rcases hE with rfl | rfl
   ·exact hg'u hg
   ·exact ht'u hg
  ·rw [List.getElem?_set_ne e]at hv hm
   have hoj:=h.own j v m hv hm
   refine hoj.flat_keep flat_int (fun g hg=> ?_)
   have hgg:g≠gb:=fun e=>hoj.notE g hg (Or.inl e)
   exact(hs2.block g hgg).trans (hst.block g ⟨(hoj.lt g hg).2,h.apart j i v u g (fun e'=>e e'.symm) hv hu hg⟩)
 ·by_cases e1:i=j
  ·subst e1
   rw [List.getElem?_set_self hi]at hv
   rw [List.getElem?_set_ne hjk]at hz
   cases hv
   obtain⟨m,hm⟩:∃ m,ls[k]? =some m:=⟨_,List.getElem?_eq_getElem (by rw [← h.len];exact(List.getElem?_eq_some_iff.1 hz).1)⟩
   rcases hnew g hg with h1 | h1
   ·exact h.apart i k u z g hjk hu hz h1
   ·intro e;have:=((h.own k z m hz hm).lt g e).2;omega
  ·rw [List.getElem?_set_ne e1]at hv
   obtain⟨m,hm⟩:∃ m,ls[j]? =some m:=⟨_,List.getElem?_eq_getElem (by rw [← h.len];exact(List.getElem?_eq_some_iff.1 hv).1)⟩
   by_cases e2:i=k
   ·subst e2
    rw [List.getElem?_set_self hi]at hz
    cases hz
    intro e
    rcases hnew g e with h1 | h1
    ·exact h.apart j i v u g hjk hv hu hg h1
    ·have:=((h.own j v m hv hm).lt g hg).2;omega
   ·rw [List.getElem?_set_ne e2]at hz
    exact h.apart j k v z g hjk hv hz hg
theorem BktM.lb (h:BktM B gb tb wv w us ls) (hl:us.length≤9223372036854775807):LB kInts (fun b=>B≤b∧b<w.heap.size) w (.slice (some ⟨gb,0,none⟩) us.length us.length) ls:=by
 refine⟨some ⟨gb,0,none⟩,gb,0,us.length,by rw [h.len],by rw [← h.len];exact hl,fun _=>rfl,⟨by rw [h.len];exact Nat.le_refl _,fun h=>by cases h⟩,fun _=>⟨h.gbase,h.glt⟩,fun i l hi=> ?_⟩
 obtain⟨u,hu⟩:∃ u,us[i]? =some u:=⟨_,List.getElem?_eq_getElem (by rw [h.len];exact(List.getElem?_eq_some_iff.1 hi).1)⟩
 have ho:=h.own i u l hu hi
 refine⟨[u],⟨u,rfl,?_⟩,fun j z hz=> ?_⟩
 ·obtain⟨a,c,hf⟩:=ho.form
  have hlb:=ho.lb
  obtain⟨a',b',off',cap',hv,hm,haa,hcap,hS,hc⟩:=hlb
  refine⟨a',b',off',cap',hv,hm,haa,hcap,fun hne=> ?_,fun i x hx=> ?_⟩
  ·have h1:=hS hne
   have hab:=haa hne
   have:u.ownBlock=some b':=by rw [hv,hab];rfl
   exact⟨(ho.lt b' this).1,h1.1⟩
  ·obtain⟨row,r1,r2⟩:=hc i x hx
   exact⟨row,r1,r2⟩
 ·have h0:j=0:=by
   rcases j with _ | j
   ·rfl
   ·simp at hz
  subst h0
  simp only [List.getElem?_cons_zero,Option.some.injEq]at hz
  subst hz
  rw [Lib.cell_of_heap h.ex]
  simp [kInts,hu]
end
def bktsT (syms:List SymL) (many:Nat) (ks:List Nat):List (List Int):=(List.range many).map fun b=>(ks.filter fun k=>decide (homeL (symN syms k).name many=b)).map fun(k:Nat)=>(k:Int)
theorem bktsT_nil (syms:List SymL) (many:Nat):bktsT syms many []=List.replicate many []:=by
 unfold bktsT
 simp only [List.filter_nil,List.map_nil]
 apply List.ext_getElem?
 intro i
 by_cases h:i<many<;>simp [h]
theorem bktsT_get (syms:List SymL) (many:Nat) (ks:List Nat) {b:Nat} (hb:b<many):(bktsT syms many ks)[b]? =some ((ks.filter fun k=>decide (homeL (symN syms k).name many=b)).map fun(k:Nat)=>(k:Int)):=by
 unfold bktsT
 rw [List.getElem?_map,List.getElem?_range hb];rfl
theorem bktsT_snoc (syms:List SymL) (many:Nat) (ks:List Nat) (k:Nat):bktsT syms many (ks++[k])=(bktsT syms many ks).set (homeL (symN syms k).name many) (((ks.filter fun j=>decide (homeL (symN syms j).name many=homeL (symN syms k).name many)).map fun(k:Nat)=>(k:Int))++[(k:Int)]):=by
 apply List.ext_getElem?
 intro i
 have hlen:(bktsT syms many ks).length=many:=by simp [bktsT]
 by_cases hi:i<many
 ·rw [bktsT_get _ _ _ hi,List.getElem?_set,hlen,bktsT_get _ _ _ hi,List.filter_append]
  by_cases e:homeL (symN syms k).name many=i
  ·subst e
   simp [hi]
  ·simp [e]
 ·rw [List.getElem?_eq_none (by simp [bktsT];omega),List.getElem?_eq_none (by simp [bktsT];omega)]
theorem bucketsT_eq (syms:List SymL) (many:Nat):bucketsT syms many=bktsT syms many (seenIx syms):=rfl
theorem filterT_eq (syms:List SymL):filterT syms=marksT (List.replicate (wideT (seenIx syms).length) 0) (hashesK syms syms.length):=by
 unfold filterT marksT hashesK
 rw [List.foldl_map,List.foldl_map]
 rfl
end Go.Proofs.Ytpomdoliblilfaa
