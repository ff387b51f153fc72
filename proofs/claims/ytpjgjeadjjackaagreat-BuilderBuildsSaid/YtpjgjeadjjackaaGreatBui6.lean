/- Lemmas. -/
import Derived.Test.YtpjgjeadjjackaaGreatBui4
import Derived.Test.YtpjgjeadjjackaaGreatBui3
import Derived.IntWalk
import Derived.Deep.QuietTactic
import Derived.BigQuiet
import Derived.Deep.RegionHeld3
import Derived.Deep.RegionLaw
import Derived.StillTactics
import Derived.Laws.BitsAllLaws
import Derived.Deep.RegionHeld
set_option linter.unusedVariables false
set_option linter.unusedSimpArgs false
set_option maxHeartbeats 64000000
set_option maxRecDepth 100000
namespace Go.Proofs.YtpjgjeadjjackaaGreat
open Go.RowKit
open Go.Proofs.Tryz renaming prog->asq
open _root_.Bool renaming and_eq_true->pJ,eq_iff_iff->Rq
open Go renaming heap_alloc_new->ah2,wpQuiet_nil->lD,below_drewN->eZ,wpAnyH_done->E5,heap_alloc_old->dX
open Go.IntWalk renaming u64_in->gG
open Go.Lib renaming cell_of_heap->aV
open Go.RowKit.Below renaming refl->PZ
open Go.World renaming block_lt_of_cell?->fD,cell?_of_block->Tg,size_alloc->lW,cell?_alloc_lt->qF
open Go.World.ownsRow renaming lt->AY
open _root_.Int renaming tmod_eq_emod_of_nonneg->fB,toNat_natCast->AZ,natCast_pow->Ia
open _root_.List renaming getElem?_eq_getElem->gP,take_of_length_le->dh,take_succ_eq_append_getElem->wC,mem_of_getElem?->dH,getElem?_eq_some_iff->Sm,getD_eq_getElem?_getD->tK,all_eq_false->P7,map_append->A7,drop_eq_nil_of_le->zY,append_nil->Y8
open _root_.Nat renaming and_two_pow_sub_one_eq_mod->rf,zero_le->alg,le_refl->oD,pow_lt_pow_right->KA,mod_lt->Ti,le_trans->eG,div_le_self->sO,lt_of_le_of_lt->ada,lt_of_lt_of_le->akb,pow_succ->uS
variable {n k b:Nat}{im:bK}{last i:Int}{l:List Int}
theorem XO:∀(a b:List UInt8) (h:Int),sK h (a++b)=sK (sK h a) b
 | [],_,_=>rfl
 | c :: a,b,h=>XO a b _
theorem Tj (h:Int) (p:List UInt8) (k:Nat) (c:UInt8) (hk:k<p.length) (hc:p[k]=c):sK h (p.take (k+1))=(33*sK h (p.take k)+c.toNat)%4294967296:=by
 rw[wC hk,XO,hc];rfl
theorem CW:∀(l:List UInt8) (h:Int),0<=h/\h<4294967296->0<=sK h l/\sK h l<4294967296
 | [],_,hh=>hh
 | c :: l,h,hh=>CW l _ ⟨Int.emod_nonneg _ abD,Int.emod_lt_of_pos _ abD⟩
theorem agV (hh:Int) (c:UInt8) (h:0<=hh/\hh<4294967296):(IntKind.u64.wrap (hh*33+IntKind.u64.wrap (c.toNat:Int))).tmod 4294967296=(33*hh+(c.toNat:Int))%4294967296:=by
 have hc:=c.toNat_lt;have h1:IntKind.u64.wrap (c.toNat:Int)=(c.toNat:Int):=gG _ ⟨wP,wP⟩;have h2:IntKind.u64.wrap (hh*33+(c.toNat:Int))=hh*33+(c.toNat:Int):=gG _ ⟨wP,wP⟩;rw[h1,h2,fB wP,Int.mul_comm]
theorem uG (s:List UInt8):0<=lw s/\lw s<4294967296:=CW s 5381 abD
theorem Oc (w:World) (p:List UInt8) (hp:p.length<=9223372036854775807):
  Calls asq 109 #[ax p] w fun e w'=>e=.returned (.int .u32 (lw p))/\w'=w:=by
 have hsz:=size_mk p;go_enter Tryz.func109,Tryz.ntmps109;go_wp2;go_loop [3,7] (fun h i=>∃k:Nat,k<=p.length/\i=ah k/\h=.int .u32 (sK 5381 (p.take k))) (fun _ i=>p.length-(intOf i).toNat);exact⟨0,alg _,rfl,rfl⟩;obtain⟨k,hk,rfl,rfl⟩:=hrel;by_cases hlt:k<p.length
 ·obtain⟨c,hcx⟩:∃c,p[k]=c:=⟨_,rfl⟩
  have hx:(⟨p.toArray⟩:ByteArray)[k]'wP=c:=hcx;have Hs:=aj (Tj 5381 p k c hlt hcx);have hr:=CW (p.take k) 5381 abD;clear hcx;generalize sK 5381 (p.take k)=hh at *;go_wp2;go_round;exact⟨k+1,wP,arH,by rw[Hs.af];go_num⟩;simp[intOf];omega
 ·have He:Hid (sK 5381 (p.take k)=lw p):=aj (by rw[dh wP];rfl)
  go_wp2;go_ret;exact⟨by rw[He.af];rfl,rfl⟩
theorem agW (w:World) (h0:Int) (p:List UInt8) (hp:p.length<=9223372036854775807) (hh0:0<=h0/\h0<4294967296):
  Calls asq 132 #[.int .u32 h0,ax p] w fun e w'=>e=.returned (.int .u32 (sK h0 p))/\w'=w:=by
 have hsz:=size_mk p;go_enter Tryz.func132,Tryz.ntmps132;go_wp2;go_loop [5,6] (fun h i=>∃k:Nat,k<=p.length/\i=ah k/\h=.int .u64 (sK h0 (p.take k))) (fun _ i=>p.length-(intOf i).toNat);exact⟨0,alg _,rfl,arH⟩;obtain⟨k,hk,rfl,rfl⟩:=hrel;have hr:=CW (p.take k) h0 hh0;by_cases hlt:k<p.length
 ·obtain⟨c,hcx⟩:∃c,p[k]=c:=⟨_,rfl⟩
  have hx:(⟨p.toArray⟩:ByteArray)[k]'wP=c:=hcx;have Hs:=aj (Tj h0 p k c hlt hcx);clear hcx;generalize sK h0 (p.take k)=hh at *;go_wp2;go_round;exact⟨k+1,wP,arH,by rw[Hs.af,<-agV hh c hr]⟩;simp[intOf];omega
 ·have He:Hid (sK h0 (p.take k)=sK h0 p):=aj (by rw[dh wP])
  generalize sK h0 (p.take k)=hh at *;go_wp2;go_ret;exact⟨by rw[<-He.af];go_num,rfl⟩
theorem Od (w:World) (p:List UInt8) (hp:p.length<=9223372036854775807):
  Calls asq 83 #[ax p] w fun e w'=>e=.returned (.int .u32 (lw p))/\w'=w:=by
 go_enter Tryz.func83,Tryz.ntmps83;go_wp2_with fail;refine(agW _ 5381 p hp abD).mono ?_;rintro e w2 ⟨rfl,rfl⟩;go_wp2;go_ret;exact⟨rfl,rfl⟩
def rq (n:Nat):Bool:=decide (n=1)||decide (n=2)||decide (n=4)||decide (n=8)||decide (n=16)||decide (n=32)||decide (n=64)
theorem Bo (ws:List Int) (s:Int):oz ws s=(rq ws.length&&decide (1<=s)&&decide (s<=31)):=rfl
theorem agX (n:Nat) (h0:1<=n) (h1:n<=64):(bits BinOp.and .i64 (n:Int) ((n:Int)-1) != 0)= !rq n:=by
 have h:∀m:Nat,m<=64->1<=m->(bits BinOp.and .i64 (m:Int) ((m:Int)-1) != 0)= !rq m:=by decide +kernel
 exact h n h1 h0
theorem Tk (n:Nat) (h:¬(1<=n/\n<=64)):rq n=false:=by simp[rq];omega
def pM (ws:List Int) (s:Int):Int:=if oz ws s then 0 else 20
theorem Jd {ws:List Int} {s:Int} (h:rq ws.length=true) (h1:1<=s) (h2:s<=31):pM ws s=0:=by rw[pM,Bo,h];simp[h1,h2]
theorem CX {ws:List Int} {s:Int} (h:¬(rq ws.length=true/\1<=s/\s<=31)):pM ws s=20:=by
 have:oz ws s=false:=by
  rw[Bo]
  cases hp:rq ws.length<;>simp
  by_cases h1:1<=s
  ·exact fun _=>by
    by_cases h2:s<=31
    ·exact absurd ⟨hp,h1,h2⟩ h
    ·omega
  ·intro h3;omega
 rw[pM,this];rfl
theorem E8 (w:World) (ws:List Int) (a:Option Addr) (c:Nat) (s:Int) (hz:ws.length<=9223372036854775807):
  Calls asq 110 #[.agg #[.slice a ws.length c,ah s]] w fun e w'=>e=.returned (ah (pM ws s))/\Below w w w':=by
 have Hb:=aj ((PZ w.heap.size w).alloc (oD _) (aB #[.slice a ws.length c,ah s] 36));by_cases h1:1<=ws.length
 case neg=>
  have Hr:=aj (CX (ws:=ws) (s:=s) (fun h=>by have:=h.1;rw[Tk _ wP]at this;cases this));have hl:ws.length<1:=wP;go_enter Tryz.func110,Tryz.ntmps110;go_wp2
  all_goals go_ret
  all_goals exact⟨by rw[Hr.af];rfl,Hb.af⟩
 by_cases h2:ws.length<=64
 case neg=>
  have Hr:=aj (CX (ws:=ws) (s:=s) (fun h=>by have:=h.1;rw[Tk _ wP]at this;cases this));have hl:¬ws.length<1:=wP;have hl2:64<ws.length:=wP;go_enter Tryz.func110,Tryz.ntmps110;go_wp2
  all_goals go_ret
  all_goals exact⟨by rw[Hr.af];rfl,Hb.af⟩
 have hl:¬ws.length<1:=wP;have hl2:¬64<ws.length:=wP;have Y9:=agX ws.length h1 h2
 cases hp:rq ws.length with
 | false=>
  have Hr:=aj (CX (ws:=ws) (s:=s) (fun h=>by have:=h.1;rw[hp]at this;cases this));rw[hp]at Y9;clear hp;simp only[Bool.not_false]at Y9;go_enter Tryz.func110,Tryz.ntmps110;go_wp2
  all_goals go_ret
  all_goals exact⟨by rw[Hr.af];rfl,Hb.af⟩
 | true=>
  have Hy:=aj (fun h3 h4=>Jd (ws:=ws) (s:=s) hp h3 h4);have Hn:=aj (fun h3=>CX (ws:=ws) (s:=s) h3);rw[hp]at Y9;clear hp;simp only[Bool.not_true]at Y9;by_cases h3:s<1
  ·have Hr:=aj (Hn.af (fun h=>wP))
   go_enter Tryz.func110,Tryz.ntmps110;go_wp2
   all_goals go_ret
   all_goals exact⟨by rw[Hr.af];rfl,Hb.af⟩
  by_cases h4:31<s
  ·have Hr:=aj (Hn.af (fun h=>wP))
   go_enter Tryz.func110,Tryz.ntmps110;go_wp2
   all_goals go_ret
   all_goals exact⟨by rw[Hr.af];rfl,Hb.af⟩
  ·have Hr:=aj (Hy.af wP wP)
   go_enter Tryz.func110,Tryz.ntmps110;go_wp2
   all_goals go_ret
   all_goals exact⟨by rw[Hr.af];rfl,Hb.af⟩
theorem uH (n:Nat):rq n=true↔(n=1∨n=2∨n=4∨n=8∨n=16∨n=32∨n=64):=by
 simp only[rq,Bool.or_eq_true,arI];omega
theorem agY (hk:k=1∨k=2∨k=4∨k=8∨k=16∨k=32∨k=64∨k=128) (h:rq n=true->k<=n) (hn:n≠k):rq n=true->k*2<=n:=by
 intro hp;have h1:=h hp;rw[uH]at hp;omega
theorem akJ (hk:k=1∨k=2∨k=4∨k=8∨k=16∨k=32∨k=64∨k=128) (h2:k<=64) (hn:n=k):rq n=true:=by rw[uH];omega
theorem ain (h:rq n=true->k<=n) (h2:¬k<=64):rq n=false:=by
 cases hp:rq n with
 | false=>rfl
 | true=>
  have h1:=h hp;rw[uH]at hp;omega
theorem adb (w:World) (n:Nat) (hz:n<=9223372036854775807):
  Calls asq 153 #[ah n] w fun e w'=>e=.returned (.bool (rq n))/\w'=w:=by
 go_enter Tryz.func153,Tryz.ntmps153;go_wp2;go_loop [3] (fun i=>∃k:Nat,i=ah k/\(k=1∨k=2∨k=4∨k=8∨k=16∨k=32∨k=64∨k=128)/\(rq n=true->k<=n)) (fun i=>200-(intOf i).toNat);exact⟨1,rfl,Or.inl rfl,fun h=>by rw[uH]at h;omega⟩;obtain⟨k,rfl,hk,hp⟩:=hrel;have Hk:=aj hk;have Hp:=aj hp;have hk0:1<=k/\k<=128:=wP;clear hk hp;by_cases h1:k<=64
 ·by_cases h2:n=k
  ·have Hr:=aj (akJ Hk.af h1 h2)
   have hb:((n:Int)==(k:Int))=true:=by rw[beq_iff_eq];omega
   clear h2;go_wp2;go_ret;exact⟨by rw[Hr.af];rfl,rfl⟩
  ·have Hq:=aj (agY Hk.af Hp.af h2)
   have hb:((n:Int)==(k:Int))=false:=by rw[arM];omega
   clear h2;go_wp2;go_round;exact⟨k*2,arH,by have:=Hk.af;omega,Hq.af⟩;simp[intOf];omega
 ·have Hr:=aj (ain Hp.af h1)
  go_wp2;go_ret;exact⟨by rw[Hr.af];rfl,rfl⟩
theorem Qr (w:World) (ws:List Int) (a:Option Addr) (c:Nat) (s:Int) (hz:ws.length<=9223372036854775807):
  Calls asq 137 #[.agg #[.slice a ws.length c,ah s]] w fun e w'=>e=.returned (.bool (oz ws s))/\Below w w w':=by
 have Hb:=aj ((PZ w.heap.size w).alloc (oD _) (aB #[.slice a ws.length c,ah s] 36));have Hd:=aj (Bo ws s);go_enter Tryz.func137,Tryz.ntmps137;go_wp2_with fail;refine(adb _ ws.length hz).mono ?_;rintro e w2 ⟨rfl,rfl⟩
 cases hp:rq ws.length with
 | false=>
  have Hr:Hid (oz ws s=false):=aj (by rw[Hd.af,hp];rfl);clear hp;go_wp2
  all_goals go_ret
  all_goals exact⟨by rw[Hr.af];rfl,Hb.af⟩
 | true=>
  have Hr:Hid (oz ws s=(decide (1<=s)&&decide (s<=31))):=aj (by rw[Hd.af,hp];simp);clear hp;by_cases h3:1<=s
  ·by_cases h4:s<=31
   ·have zC:Hid (oz ws s=true):=aj (by rw[Hr.af];simp[h3,h4])
    go_wp2
    all_goals go_ret
    all_goals exact⟨by rw[zC.af];rfl,Hb.af⟩
   ·have zC:Hid (oz ws s=decide (s<=31)):=aj (by rw[Hr.af];simp[h3])
    have h5:31<s:=wP;go_wp2
    all_goals go_ret
    all_goals exact⟨by rw[zC.af];rfl,Hb.af⟩
  ·have zC:Hid (oz ws s=false):=aj (by rw[Hr.af];simp[h3])
   go_wp2
   all_goals go_ret
   all_goals exact⟨by rw[zC.af];rfl,Hb.af⟩
theorem XP (p:List UInt8) (n:Nat):((jY p n:Nat):Int)=lw p%(n:Int):=by
 have h:=(uG p).1;rw[jY,Int.natCast_emod,Int.toNat_of_nonneg h]
theorem Rz (p:List UInt8) (n:Nat) (h:1<=n):jY p n<n:=Ti _ wP
theorem XQ (w:World) (p:List UInt8) (n:Nat) (hp:p.length<=9223372036854775807) (h1:1<=n) (h2:n<=512):
  Calls asq 81 #[ax p,ah n] w fun e w'=>e=.returned (ah (jY p n))/\w'=w:=by
 have hr:=uG p;have hh:=aj (XP p n);have hlt:=Rz p n h1;have hn0:((n:Int)==0)=false:=by rw[arM];omega
 have HJ:=Od w p hp;generalize lw p=g at *;have ht:g.tmod (n:Int)=g%(n:Int):=fB hr.1;have hm0:0<=g%(n:Int):=Int.emod_nonneg _ wP;have hm1:g%(n:Int)<n:=Int.emod_lt_of_pos _ wP;have hg:IntKind.u64.wrap g=g:=gG _ ⟨wP,wP⟩;have hnn:IntKind.u64.wrap (n:Int)=(n:Int):=gG _ ⟨wP,wP⟩;go_enter Tryz.func81,Tryz.ntmps81;go_wp2_with fail;refine HJ.mono ?_;rintro e w2 ⟨rfl,rfl⟩;go_wp2;go_ret;refine⟨?_,rfl⟩;rw[hh.af]
 rfl
theorem Tm (w:World) (n:Nat) (h:n<=63):
  Calls asq 152 #[.int .u32 n] w fun e w'=>e=.returned (.int .u64 ((2 ^ n:Nat):Int))/\w'=w:=by
 go_enter Tryz.func152,Tryz.ntmps152;go_wp2;go_loop [3,4] (fun x i=>∃k:Nat,k<=n/\i=.int .u32 k/\x=.int .u64 ((2 ^ k:Nat):Int)) (fun _ i=>n-(intOf i).toNat);exact⟨0,alg _,rfl,rfl⟩;obtain⟨k,hk,rfl,rfl⟩:=hrel;by_cases hlt:k<n
 ·have hP:2 ^ k<=4611686018427387904:=eG (Nat.pow_le_pow_right abD (show k<=62 by omega)) abD
  have Hn:=aj (uS 2 k);generalize 2 ^ k=P at *;go_wp2;go_round;exact⟨k+1,wP,arH,by rw[Hn.af];go_num⟩;simp[intOf];omega
 ·have He:Hid (2 ^ k=2 ^ n):=aj (by rw[show k=n by omega])
  generalize 2 ^ k=P at *;go_wp2;go_ret;refine⟨?_,rfl⟩;show Ending.returned (.int .u64 (P:Int))=_;rw[He.af,Ia]
  rfl
theorem Oe (w:World) (h:Nat) (n:Nat) (hh:h<4294967296) (hn:n<=64):
  Calls asq 131 #[.int .u32 h,ah n] w fun e w'=>e=.returned (.int .u32 ((h/2 ^ n:Nat):Int))/\w'=w:=by
 go_enter Tryz.func131,Tryz.ntmps131;go_wp2;go_loop [0,5] (fun x i=>∃k:Nat,k<=n/\i=ah k/\x=.int .u32 ((h/2 ^ k:Nat):Int)) (fun _ i=>n-(intOf i).toNat);exact⟨0,alg _,rfl,arG⟩;obtain⟨k,hk,rfl,rfl⟩:=hrel;have hP:h/2 ^ k<4294967296:=ada (sO _ _) hh;by_cases hlt:k<n
 ·have Hn:Hid (h/2 ^ (k+1)=h/2 ^ k/2):=aj (by rw[uS,Nat.div_div_eq_div_mul])
  generalize h/2 ^ k=P at *;go_wp2;go_round;exact⟨k+1,wP,arH,by rw[Hn.af];go_num⟩;simp[intOf];omega
 ·have He:Hid (h/2 ^ k=h/2 ^ n):=aj (by rw[show k=n by omega])
  generalize h/2 ^ k=P at *;go_wp2;go_ret;refine⟨?_,rfl⟩;show Ending.returned (.int .u32 (P:Int))=_;rw[He.af,Int.natCast_ediv,Ia]
  rfl
theorem ZQ {m P k:Nat} (hP:P=2 ^ k) (h:m/P%2=1):zz (m:Int) k=true:=by
 rw[zz,AZ,<-hP,h];rfl
theorem acC {m P k:Nat} (hP:P=2 ^ k) (h:¬m/P%2=1):zz (m:Int) k=false:=by
 rw[zz,AZ,<-hP,arM];exact h
theorem RA (w:World) (m k:Nat) (hm:m<18446744073709551616) (hk:k<=63):
  Calls asq 151 #[.int .u64 m,.int .u32 k] w fun e w'=>e=.returned (.bool (zz (m:Int) k))/\w'=w:=by
 have HP:=Tm w k hk;have Hy:=aj (@ZQ m (2 ^ k) k rfl);have Hn:=aj (@acC m (2 ^ k) k rfl);have hp:1<=2 ^ k:=Nat.one_le_two_pow;have hp2:2 ^ k<=9223372036854775808:=eG (Nat.pow_le_pow_right abD hk) abD;generalize 2 ^ k=P at *;have hp0:((P:Int)==0)=false:=by rw[arM];omega
 have hq:((m/P:Nat):Int)=(m:Int)/(P:Int):=Int.natCast_ediv m P;have hqb:m/P<=m:=sO _ _;generalize m/P=q at *;go_enter Tryz.func151,Tryz.ntmps151;go_wp2_with fail;refine HP.mono ?_;rintro e w2 ⟨rfl,rfl⟩;by_cases h1:q%2=1
 ·have Hr:=aj (Hy.af h1)
  have hd:((m:Int)/(P:Int)%2==1)=true:=by rw[beq_iff_eq];omega
  go_wp2;go_ret;exact⟨by rw[Hr.af];rfl,rfl⟩
 ·have Hr:=aj (Hn.af h1)
  have hd:((m:Int)/(P:Int)%2==1)=false:=by rw[arM];omega
  go_wp2;go_ret;exact⟨by rw[Hr.af];rfl,rfl⟩
theorem Qs (w:World) (ba:Option Addr) (n bc:Nat) (vw:Value) (s:Int) (p:List UInt8) (hp:p.length<=9223372036854775807) (h1:1<=n) (h2:n<=512):
  Calls asq 57 #[.agg #[.slice ba n bc,vw,ah s],ax p] w fun e w'=>e=.returned (ah (jY p n))/\Below w w w':=by
 have hr:=uG p;have hh:=aj (XP p n);have hn0:((n:Int)==0)=false:=by rw[arM];omega
 have HJ:=aj (fun w=>Oc w p hp);have Hb:=aj ((PZ w.heap.size w).alloc (oD _) (aB #[.slice ba n bc,vw,ah s] 38));generalize lw p=g at *;have ht:g.tmod (n:Int)=g%(n:Int):=fB hr.1;have hm0:0<=g%(n:Int):=Int.emod_nonneg _ wP;have hm1:g%(n:Int)<n:=Int.emod_lt_of_pos _ wP;have hnn:IntKind.u32.wrap (n:Int)=(n:Int):=by rw[IntKind.wrap];simp[IntKind.bits,IntKind.signed];omega
 go_enter Tryz.func57,Tryz.ntmps57;go_wp2_with fail;go_quiet ((go_at_call 109;exact Calls.quiet_of_same (HJ.af _)));go_wp2;go_ret;exact⟨by rw[hh.af];rfl,eZ Hb.af _⟩
theorem XR (im:bK) (l:List Int) (h:¬l.length<=8):jr im l=false:=by simp[jr,h]
theorem ZR (im:bK) (l:List Int) (k:Nat) (x:Int) (hx:l[k]? =some x) (h:bZ im.aI x 8 4=false):jr im l=false:=by
 have:l.all (fun a=>bZ im.aI a 8 4)=false:=by rw[P7];exact⟨x,dH hx,by simp[h]⟩
 rw[jr,this];simp
theorem ZT (im:bK) (l:List Int) (h:l.length<=8) (ha:(l.all fun a=>bZ im.aI a 8 4)=true):jr im l=true:=by rw[jr,ha];simp[h]
theorem agZ (w:World) (v:jv) (im:bK) (hs:LB rQ (·<w.heap.size) w v.aI im.aI) (hok:∀s∈im.aI,CU s)
  (hi:LB dJ (·<w.heap.size) w v.asb im.asb) (hf:LB dJ (·<w.heap.size) w v.aP im.aP)
  (XT:∀x∈im.asb,-9223372036854775808<=x/\x<=9223372036854775807) (hrf:∀x∈im.aP,-9223372036854775808<=x/\x<=9223372036854775807):
  Calls asq 64 #[.agg (aW v im)] w fun e w'=>e=.returned (.bool (jr im im.asb&&jr im im.aP))/\Below w w w':=by
 obtain⟨ia,ib,aio,yD,hiv,him,hic,ZU⟩:=hi.at;obtain⟨fa,fb,Cz,ru,Og,hfm,hfc,jP⟩:=hf.at;obtain⟨eO,cK,bR,gF,bS,dK,d9,ek,fM,fO,iH⟩:=v;simp only at hiv Og;subst hiv Og
 have HH:Hid (∀(w':World) (x:Int),Below w w w'-> -9223372036854775808<=x/\x<=9223372036854775807->
  Calls asq 113 #[.agg (aW ⟨eO,cK,bR,gF,bS,dK,d9,ek,.slice ia im.asb.length yD,.slice fa im.aP.length ru,iH⟩ im),.agg #[ah x,ah 8,ah 4]] w' fun e w''=>e=.returned (.bool (bZ im.aI x 8 4))/\Below w' w' w''):=aj (fun w' x hb hx=>G7 w' _ im x 8 4 ((hs.below hb).mono hb.size) hok hx abD abD)
 unfold aW at *;have ZV:=aj ZU;have tq:=aj jP;have ZW:=aj XT;have ZX:=aj hrf;clear hs hok hi hf ZU jP XT hrf;generalize hI:(Array.mk [ax im.arT,ah im.ar4,eO,cK,bR,gF,bS,dK,ah im.ase,d9,ek,.slice ia im.asb.length yD,.slice fa im.aP.length ru,iH,ah im.aJ]:Array Value)=I at HH;have F0:=aj (ah2 w (.cells I 44 (0,0)));subst hI;go_enter Tryz.func64,Tryz.ntmps64;go_wp2_with fail
 go_loopw [13] (fun i wr=>∃k:Nat,i=ah k/\k<=2/\(1<=k->jr im im.asb=true)/\(2<=k->jr im im.aP=true)/\Below w w wr/\
  wr.heap[w.heap.size]? =some (aB #[ax im.arT,ah im.ar4,eO,cK,bR,gF,bS,dK,ah im.ase,d9,ek,.slice ia im.asb.length yD,.slice fa im.aP.length ru,iH,ah im.aJ] 44)/\
  wr.cell? (ak (w+1) 0)=some (.slice ia im.asb.length yD)/\wr.cell? (ak (w+1) 1)=some (.slice fa im.aP.length ru)/\w.heap.size+1<wr.heap.size) (fun i _=>2-(intOf i).toNat)
 case atStart=>
  refine⟨0,rfl,wP,fun h=>wP,fun h=>wP,((PZ _ _).alloc (oD _) _).alloc arG _,?_,?_,?_,arG⟩
  ·rw[dX _ _ arG]
   exact F0.af
  all_goals
   have e2:=ah2 (w.alloc (aB #[ax im.arT,ah im.ar4,eO,cK,bR,gF,bS,dK,ah im.ase,d9,ek,.slice ia im.asb.length yD,.slice fa im.aP.length ru,iH,ah im.aJ] 44)) (aB #[.slice ia im.asb.length yD,.slice fa im.aP.length ru] 41);simp only[lW]at e2;rw[aV e2]
   rfl
 case round=>
  obtain⟨k,rfl,hk,h1,h2,hbel,hF,hc0,hc1,hz⟩:=hrel;have H1:=aj h1;have H2:=aj h2;have Bw:=aj hbel;have HF:=aj hF;have hBr:=hbel.size;by_cases hlt:k<2
  ·obtain⟨l,la,lb,Eo,jB,hcell,hlm,hlc,hat,hrange,hbad,hgood⟩:∃(l:List Int) (la:Option Addr) (lb Eo jB:Nat),wr.cell? (ak (w+1) k)=some (.slice la l.length jB)/\l.length<=9223372036854775807/\l.length<=jB/\mF dJ (·<w.heap.size) w l la lb Eo/\
     (∀x∈l,-9223372036854775808<=x/\x<=9223372036854775807)/\(jr im l=false->(jr im im.asb&&jr im im.aP)=false)/\(jr im l=true->(1<=k+1->jr im im.asb=true)/\(2<=k+1->jr im im.aP=true)):=by
    have aip:k=0∨k=1:=wP;rcases aip with rfl | rfl
    ·exact⟨im.asb,ia,ib,aio,yD,hc0,him,hic,ZV.af,ZW.af,fun h=>by rw[h];rfl,fun h=>⟨fun _=>h,fun h2=>wP⟩⟩
    ·exact⟨im.aP,fa,fb,Cz,ru,hc1,hfm,hfc,tq.af,ZX.af,fun h=>by rw[h];simp,fun h=>⟨fun _=>H1.af wP,fun _=>h⟩⟩
   have dP:=aj hat;have ZY:=aj hrange;have qL:=aj hbad;have Tn:=aj hgood;have Hc0:=aj hc0;have Hc1:=aj hc1;clear hat hrange hbad hgood h1 h2 hc0 hc1 hF hbel ZV tq;by_cases Qt:l.length<=8
   case neg=>
    have Hr:=aj (qL.af (XR im l Qt));have hl9:8<l.length:=wP;go_wp2;go_ret;exact⟨by rw[Hr.af];rfl,Bw.af⟩
   have hl9:¬8<l.length:=wP;have hkd:decide ((k:Int)<2)=true:=by rw[arI];omega
   go_wp2_with fail;go_loopw [22] (fun i wi=>∃q:Nat,i=ah q/\q<=l.length/\((l.take q).all fun a=>bZ im.aI a 8 4)=true/\Below w w wi/\Below wr wr wi) (fun i _=>l.length-(intOf i).toNat);exact⟨0,rfl,alg _,rfl,Bw.af,PZ _ _⟩;obtain⟨q,rfl,hq,hall,hb0,hb1⟩:=hrel;have iT:=aj hall;have Hb0:=aj hb0;have Hb1:=aj hb1;have hzi:=hb1.size;have hF2:=(hb1.block w.heap.size wP).trans HF.af;clear hall hb0 hb1;by_cases hlt2:q<l.length
   ·obtain rfl:=dP.af.addr wP
    obtain⟨x,hx⟩:∃x,l[q]? =some x:=⟨_,gP hlt2⟩;have hxc:=(dP.af.below Hb0.af).oC q x hx;have AA:=ZY.af x (dH hx);have sZ:Hid (bZ im.aI x 8 4=true->((l.take (q+1)).all fun a=>bZ im.aI a 8 4)=true):=aj (fun h=>by rw[jM _ l q x hx,iT.af,h];rfl);have Hno:Hid (bZ im.aI x 8 4=false->(jr im im.asb&&jr im im.aP)=false):=aj (fun h=>qL.af (ZR im l q x hx h));obtain⟨q0,q1,q2,q3,q4,q5,q6,q7,q8,q9,q10,Qu,q12,Qv,q14⟩:=bY hF2;have hHx:=HH.af wr x Hb0.af AA;go_wp2_with fail;refine hHx.mono ?_;rintro e w2 ⟨rfl,hb2⟩;have Hb2:=aj (Hb0.af.trans (hb2.mono wP));have Hb3:=aj (Hb1.af.trans (hb2.mono wP));have hz2:=hb2.size;clear hb2 q0 q1 q2 q3 q4 q5 q6 q7 q8 q9 q10 Qu q12 Qv q14 hF2 hHx hxc hx
    cases hh:bZ im.aI x 8 4 with
    | false=>
     have Hr:=aj (Hno.af hh);clear hh;go_wp2;go_ret;exact⟨by rw[Hr.af];rfl,Hb2.af⟩
    | true=>
     have Hy:=aj (sZ.af hh);clear hh;go_wp2;go_round
     case rel=>
      exact⟨q+1,arH,wP,Hy.af,Hb2.af,Hb3.af⟩
     simp[intOf];omega
   ·have Hl:=aj (Tn.af (ZT im l Qt (by have:=iT.af;rwa [dh wP]at this)))
    go_wp2;go_round
    case rel=>
     have e0:=Hb1.af.block (w.heap.size+1) hz;exact⟨k+1,arH,wP,Hl.af.1,Hl.af.2,Hb0.af,hF2,by rw[Tg (a:=(ak (w+1) 0)) e0];exact Hc0.af,by rw[Tg (a:=(ak (w+1) 1)) e0];exact Hc1.af,wP⟩
    simp[intOf];omega
  ·have Hr:Hid ((jr im im.asb&&jr im im.aP)=true):=aj (by rw[H1.af wP,H2.af wP];rfl)
   go_wp2;go_ret;exact⟨by rw[Hr.af];rfl,Bw.af⟩
theorem ag0 (w:World) (v:jv) (im:bK) (hs:LB rQ (·<w.heap.size) w v.aI im.aI) (hok:∀s∈im.aI,CU s)
  (hi:LB dJ (·<w.heap.size) w v.asb im.asb) (hf:LB dJ (·<w.heap.size) w v.aP im.aP)
  (XT:∀x∈im.asb,-9223372036854775808<=x/\x<=9223372036854775807) (hrf:∀x∈im.aP,-9223372036854775808<=x/\x<=9223372036854775807):
  Calls asq 90 #[.agg (aW v im)] w fun e w'=>e=.returned (.bool (jr im im.asb&&jr im im.aP))/\Below w w w':=by
 obtain⟨ia,ib,aio,yD,hiv,him,hic,ZU⟩:=hi.at;obtain⟨fa,fb,Cz,ru,Og,hfm,hfc,jP⟩:=hf.at;obtain⟨eO,cK,bR,gF,bS,dK,d9,ek,fM,fO,iH⟩:=v;simp only at hiv Og;subst hiv Og
 have HH:Hid (∀(w':World) (x:Int),Below w w w'-> -9223372036854775808<=x/\x<=9223372036854775807->
  Calls asq 136 #[.agg (aW ⟨eO,cK,bR,gF,bS,dK,d9,ek,.slice ia im.asb.length yD,.slice fa im.aP.length ru,iH⟩ im),ah x,ah 8,ah 4] w' fun e w''=>e=.returned (.bool (bZ im.aI x 8 4))/\Below w' w' w''):=aj (fun w' x hb hx=>CV w' _ im x 8 4 ((hs.below hb).mono hb.size) hok hx abD abD)
 unfold aW at *;have ZV:=aj ZU;have tq:=aj jP;have ZW:=aj XT;have ZX:=aj hrf;clear hs hok hi hf ZU jP XT hrf;generalize hI:(Array.mk [ax im.arT,ah im.ar4,eO,cK,bR,gF,bS,dK,ah im.ase,d9,ek,.slice ia im.asb.length yD,.slice fa im.aP.length ru,iH,ah im.aJ]:Array Value)=I at HH;have F0:=aj (ah2 w (.cells I 44 (0,0)));subst hI;go_enter Tryz.func90,Tryz.ntmps90;go_wp2_with fail
 go_loopw [12] (fun i wr=>∃k:Nat,i=ah k/\k<=2/\(1<=k->jr im im.asb=true)/\(2<=k->jr im im.aP=true)/\Below w w wr/\
  wr.heap[w.heap.size]? =some (aB #[ax im.arT,ah im.ar4,eO,cK,bR,gF,bS,dK,ah im.ase,d9,ek,.slice ia im.asb.length yD,.slice fa im.aP.length ru,iH,ah im.aJ] 44)/\
  wr.cell? (ak (w+1) 0)=some (.slice ia im.asb.length yD)/\wr.cell? (ak (w+1) 1)=some (.slice fa im.aP.length ru)/\w.heap.size+1<wr.heap.size) (fun i _=>2-(intOf i).toNat)
 case atStart=>
  refine⟨0,rfl,wP,fun h=>wP,fun h=>wP,((PZ _ _).alloc (oD _) _).alloc arG _,?_,?_,?_,arG⟩
  ·rw[dX _ _ arG]
   exact F0.af
  all_goals
   have e2:=ah2 (w.alloc (aB #[ax im.arT,ah im.ar4,eO,cK,bR,gF,bS,dK,ah im.ase,d9,ek,.slice ia im.asb.length yD,.slice fa im.aP.length ru,iH,ah im.aJ] 44)) (aB #[.slice ia im.asb.length yD,.slice fa im.aP.length ru] 41);simp only[lW]at e2;rw[aV e2]
   rfl
 case round=>
  obtain⟨k,rfl,hk,h1,h2,hbel,hF,hc0,hc1,hz⟩:=hrel;have H1:=aj h1;have H2:=aj h2;have Bw:=aj hbel;have HF:=aj hF;have hBr:=hbel.size;by_cases hlt:k<2
  ·obtain⟨l,la,lb,Eo,jB,hcell,hlm,hlc,hat,hrange,hbad,hgood⟩:∃(l:List Int) (la:Option Addr) (lb Eo jB:Nat),wr.cell? (ak (w+1) k)=some (.slice la l.length jB)/\l.length<=9223372036854775807/\l.length<=jB/\mF dJ (·<w.heap.size) w l la lb Eo/\
     (∀x∈l,-9223372036854775808<=x/\x<=9223372036854775807)/\(jr im l=false->(jr im im.asb&&jr im im.aP)=false)/\(jr im l=true->(1<=k+1->jr im im.asb=true)/\(2<=k+1->jr im im.aP=true)):=by
    have aip:k=0∨k=1:=wP;rcases aip with rfl | rfl
    ·exact⟨im.asb,ia,ib,aio,yD,hc0,him,hic,ZV.af,ZW.af,fun h=>by rw[h];rfl,fun h=>⟨fun _=>h,fun h2=>wP⟩⟩
    ·exact⟨im.aP,fa,fb,Cz,ru,hc1,hfm,hfc,tq.af,ZX.af,fun h=>by rw[h];simp,fun h=>⟨fun _=>H1.af wP,fun _=>h⟩⟩
   have dP:=aj hat;have ZY:=aj hrange;have qL:=aj hbad;have Tn:=aj hgood;have Hc0:=aj hc0;have Hc1:=aj hc1;clear hat hrange hbad hgood h1 h2 hc0 hc1 hF hbel ZV tq;by_cases Qt:l.length<=8
   case neg=>
    have Hr:=aj (qL.af (XR im l Qt));have hl9:8<l.length:=wP;go_wp2;go_ret;exact⟨by rw[Hr.af];rfl,Bw.af⟩
   have hl9:¬8<l.length:=wP;have hkd:decide ((k:Int)<2)=true:=by rw[arI];omega
   go_wp2_with fail;go_loopw [5] (fun i wi=>∃q:Nat,i=ah q/\q<=l.length/\((l.take q).all fun a=>bZ im.aI a 8 4)=true/\Below w w wi/\Below wr wr wi) (fun i _=>l.length-(intOf i).toNat);exact⟨0,rfl,alg _,rfl,Bw.af,PZ _ _⟩;obtain⟨q,rfl,hq,hall,hb0,hb1⟩:=hrel;have iT:=aj hall;have Hb0:=aj hb0;have Hb1:=aj hb1;have hzi:=hb1.size;have hF2:=(hb1.block w.heap.size wP).trans HF.af;clear hall hb0 hb1;by_cases hlt2:q<l.length
   ·obtain rfl:=dP.af.addr wP
    obtain⟨x,hx⟩:∃x,l[q]? =some x:=⟨_,gP hlt2⟩;have hxc:=(dP.af.below Hb0.af).oC q x hx;have AA:=ZY.af x (dH hx);have sZ:Hid (bZ im.aI x 8 4=true->((l.take (q+1)).all fun a=>bZ im.aI a 8 4)=true):=aj (fun h=>by rw[jM _ l q x hx,iT.af,h];rfl);have Hno:Hid (bZ im.aI x 8 4=false->(jr im im.asb&&jr im im.aP)=false):=aj (fun h=>qL.af (ZR im l q x hx h));obtain⟨q0,q1,q2,q3,q4,q5,q6,q7,q8,q9,q10,Qu,q12,Qv,q14⟩:=bY hF2;have hHx:=HH.af wr.drew x Hb0.af.drew AA;go_wp2_with fail;refine bA 7 TA TA ?_;simp only[ji];refine wpAny_of_held (S:=fun w'=>w'.cell? (ak w 0)=some (ax im.arT)/\w'.cell? (ak w 1)=some (ah im.ar4)/\w'.cell? (ak w 2)=some eO/\w'.cell? (ak w 3)=some cK/\w'.cell? (ak w 4)=some bR/\w'.cell? (ak w 5)=some gF/\w'.cell? (ak w 6)=some bS/\w'.cell? (ak w 7)=some dK/\w'.cell? (ak w 8)=some (ah im.ase)/\w'.cell? (ak w 9)=some d9/\w'.cell? (ak w 10)=some ek/\w'.cell? (ak w 11)=some (.slice ia im.asb.length yD)/\w'.cell? (ak w 12)=some (.slice fa im.aP.length ru)/\w'.cell? (ak w 13)=some iH/\w'.cell? (ak w 14)=some (ah im.aJ)/\w'.cell? (ak lb (Eo+q))=some (ah x)) _ _ _ _ ?_;have ay:(fun w':World=>w'.cell? (ak w 0)=some (ax im.arT)/\w'.cell? (ak w 1)=some (ah im.ar4)/\w'.cell? (ak w 2)=some eO/\w'.cell? (ak w 3)=some cK/\w'.cell? (ak w 4)=some bR/\w'.cell? (ak w 5)=some gF/\w'.cell? (ak w 6)=some bS/\w'.cell? (ak w 7)=some dK/\w'.cell? (ak w 8)=some (ah im.ase)/\w'.cell? (ak w 9)=some d9/\w'.cell? (ak w 10)=some ek/\w'.cell? (ak w 11)=some (.slice ia im.asb.length yD)/\w'.cell? (ak w 12)=some (.slice fa im.aP.length ru)/\w'.cell? (ak w 13)=some iH/\w'.cell? (ak w 14)=some (ah im.aJ)/\w'.cell? (ak lb (Eo+q))=some (ah x)) wr.drew:=⟨q0,q1,q2,q3,q4,q5,q6,q7,q8,q9,q10,Qu,q12,Qv,q14,hxc⟩;show wpAnyH _ _ _ _ _ _ _ _ wr.drew;refine arS 0 ay ?_;try simp only[bP]
    refine arS 1 ay ?_;try simp only[bP]
    refine arS 2 ay ?_;try simp only[bP]
    refine arS 3 ay ?_;try simp only[bP]
    refine arS 4 ay ?_;try simp only[bP]
    refine cO 5 fun K hK=> ?_
    go_simp;refine hHx.mono ?_;rintro e w2 ⟨rfl,hb2'⟩;have hb2:Below wr wr w2:=((PZ _ wr).drew).trans hb2';have Hb2:=aj (Hb0.af.trans (hb2.mono wP));have Hb3:=aj (Hb1.af.trans (hb2.mono wP));have hz2:=hb2.size;have hF3:=(hb2.block w.heap.size wP).trans hF2;have aiq:=(dP.af.below Hb2.af).oC q x hx;obtain⟨q0,q1,q2,q3,q4,q5,q6,q7,q8,q9,q10,Qu,q12,Qv,q14⟩:=bY hF3;refine hK.af _ _ ⟨q0,q1,q2,q3,q4,q5,q6,q7,q8,q9,q10,Qu,q12,Qv,q14,aiq⟩ (fun ay=> ?_);clear hK K q0 q1 q2 q3 q4 q5 q6 q7 q8 q9 q10 Qu q12 Qv q14;try simp only[bP]
    cases hh:bZ im.aI x 8 4 with
    | false=>
     have Hr:=aj (Hno.af hh);clear hh;refine arS 6 ay ?_;try simp only[bP]
     refine E5 TA ?_ _;simp only[dU];clear ay aiq hF3 hb2 hb2' hF2 hHx hxc hx;go_wp2;go_ret;exact⟨by rw[Hr.af];rfl,Hb2.af⟩
    | true=>
     have Hy:=aj (sZ.af hh);clear hh;refine arS 6 ay ?_;try simp only[bP]
     refine E5 TA ?_ _;simp only[dU];clear ay aiq hF3 hb2 hb2' hF2 hHx hxc hx;go_wp2;go_round;exact⟨q+1,arH,wP,Hy.af,Hb2.af,Hb3.af⟩;simp[intOf];omega
   ·have Hl:=aj (Tn.af (ZT im l Qt (by have:=iT.af;rwa [dh wP]at this)))
    go_wp2;go_round
    case rel=>
     have e0:=Hb1.af.block (w.heap.size+1) hz;exact⟨k+1,arH,wP,Hl.af.1,Hl.af.2,Hb0.af,hF2,by rw[Tg (a:=(ak (w+1) 0)) e0];exact Hc0.af,by rw[Tg (a:=(ak (w+1) 1)) e0];exact Hc1.af,wP⟩
    simp[intOf];omega
  ·have Hr:Hid ((jr im im.asb&&jr im im.aP)=true):=aj (by rw[H1.af wP,H2.af wP];rfl)
   go_wp2;go_ret;exact⟨by rw[Hr.af];rfl,Bw.af⟩
theorem Tp (w:World) (a:Option Addr) (n c:Nat) (s:Int) (h:Nat) (hh:h<4294967296) (h1:1<=n) (h2:n<=64) (h3:1<=s) (h4:s<=31):
  Calls asq 148 #[.agg #[.slice a n c,ah s],.int .u32 h] w fun e w'=>e=.returned (.agg #[ah (bits .and .i64 ((h:Int)/64) ((n:Int)-1)),.int .u64 (bits .or .u64 (IntKind.u64.wrap (2 ^ (h%64))) (IntKind.u64.wrap (2 ^ (h/2 ^ s.toNat%64))))])/\Below w w w':=by
 obtain⟨sn,rfl⟩:∃sn:Nat,s=sn:=⟨s.toNat,wP⟩;have e1:((h:Int)).tmod 64=((h%64:Nat):Int):=by rw[fB wP];omega
 have e2:((h:Int)/2 ^ sn).tmod 64=((h/2 ^ sn%64:Nat):Int):=by
  rw[fB (Int.ediv_nonneg wP (Int.le_of_lt (Int.pow_pos abD))),Int.natCast_emod,Int.natCast_ediv,Ia]
  rfl
 have k1:h%64<64:=Ti _ abD;have k2:h/2 ^ sn%64<64:=Ti _ abD;generalize hb1:h%64=b1 at *;generalize hb2:h/2 ^ sn%64=b2 at *;go_enter Tryz.func148,Tryz.ntmps148;go_wp2_with fail;refine bA 19 TA TA ?_;simp only[ji]
 have F0:((w.alloc (aB #[.slice a n c,ah (sn:Int)] 36)).alloc (aB #[ah 0,.int .u64 0] 220)).heap[w.heap.size]? =some (aB #[.slice a n c,ah (sn:Int)] 36):=by
  rw[dX _ _ arG];exact ah2 w _
 have c0:=(aV F0 0);have c1:=(aV F0 1);refine wpAny_of_held (S:=fun w'=>w'.cell? (ak w 0)=some (.slice a n c)/\w'.cell? (ak w 1)=some (ah (sn:Int))) _ _ _ _ ?_;have ay:(fun w':World=>w'.cell? (ak w 0)=some (.slice a n c)/\w'.cell? (ak w 1)=some (ah (sn:Int))) ((w.alloc (aB #[.slice a n c,ah (sn:Int)] 36)).alloc (aB #[ah 0,.int .u64 0] 220)).drew:=⟨c0,c1⟩;refine asr ?_;refine arS 0 ay ?_;try simp only[bP]
 refine arS 1 ay ?_;try simp only[bP]
 refine arS 2 ay ?_;try simp only[bP]
 refine arS 3 ay ?_;try simp only[bP]
 refine arS 4 ay ?_;try simp only[bP]
 refine arS 5 ay ?_;try simp only[bP]
 refine arS 6 ay ?_;try simp only[bP]
 refine arS 7 ay ?_;try simp only[bP]
 refine arS 8 ay ?_;try simp only[bP]
 refine arS 9 ay ?_;try simp only[bP]
 refine arS 10 ay ?_;try simp only[bP]
 refine arS 11 ay ?_;try simp only[bP]
 refine arS 12 ay ?_;try simp only[bP]
 refine arS 13 ay ?_;try simp only[bP]
 refine arS 14 ay ?_;try simp only[bP]
 refine arS 15 ay ?_;try simp only[bP]
 refine arS 16 ay ?_;try simp only[bP]
 refine arS 17 ay ?_;try simp only[bP]
 refine arS 18 ay ?_;try simp only[bP]
 refine E5 TA ?_ _;simp only[dU];clear ay;go_wp2
 have F1:((w.alloc (aB #[.slice a n c,ah (sn:Int)] 36)).alloc (aB #[ah (bits .and .i64 ((h:Int)/64) ((n:Int)-1)),.int .u64 (bits .or .u64 (IntKind.u64.wrap (2 ^ b1)) (IntKind.u64.wrap (2 ^ b2)))] 220)).drew.heap[w.heap.size+1]? =some (aB #[ah (bits .and .i64 ((h:Int)/64) ((n:Int)-1)),.int .u64 (bits .or .u64 (IntKind.u64.wrap (2 ^ b1)) (IntKind.u64.wrap (2 ^ b2)))] 220):=by
  have:=ah2 (w.alloc (aB #[.slice a n c,ah (sn:Int)] 36)) (aB #[ah (bits .and .i64 ((h:Int)/64) ((n:Int)-1)),.int .u64 (bits .or .u64 (IntKind.u64.wrap (2 ^ b1)) (IntKind.u64.wrap (2 ^ b2)))] 220);rw[lW]at this;exact this
 have d0:((w.alloc (aB #[.slice a n c,ah (sn:Int)] 36)).alloc (aB #[ah (bits .and .i64 ((h:Int)/64) ((n:Int)-1)),.int .u64 (bits .or .u64 (IntKind.u64.wrap (2 ^ b1)) (IntKind.u64.wrap (2 ^ b2)))] 220)).drew.cell? (ak (w+1) 0)=some (ah (bits .and .i64 ((h:Int)/64) ((n:Int)-1))):=aL F1 rfl;have d1:((w.alloc (aB #[.slice a n c,ah (sn:Int)] 36)).alloc (aB #[ah (bits .and .i64 ((h:Int)/64) ((n:Int)-1)),.int .u64 (bits .or .u64 (IntKind.u64.wrap (2 ^ b1)) (IntKind.u64.wrap (2 ^ b2)))] 220)).drew.cell? (ak (w+1) 1)=some (.int .u64 (bits .or .u64 (IntKind.u64.wrap (2 ^ b1)) (IntKind.u64.wrap (2 ^ b2)))):=aL F1 rfl;refine bodyPost_ret (v:=.agg #[ah (bits .and .i64 ((h:Int)/64) ((n:Int)-1)),.int .u64 (bits .or .u64 (IntKind.u64.wrap (2 ^ b1)) (IntKind.u64.wrap (2 ^ b2)))]) (by simp[results,Tryz.results148,d0,d1,go_sem]) rfl ⟨by rw[AZ,hb2],(((PZ _ _).alloc (oD _) _).alloc arG _).drew⟩
theorem ZZ (m k1 k2:Nat):m &&& (2 ^ k1|||2 ^ k2)=2 ^ k1|||2 ^ k2↔m.testBit k1=true/\m.testBit k2=true:=by
 constructor
 ·intro h
  have h1:=congrArg (fun x=>x.testBit k1) h;have h2:=congrArg (fun x=>x.testBit k2) h;simp only[Nat.testBit_and,Nat.testBit_or,Nat.testBit_two_pow_self]at h1 h2;simp at h1 h2;exact⟨h1,h2⟩
 ·rintro ⟨h1,h2⟩
  apply Nat.eq_of_testBit_eq;intro i;simp only[Nat.testBit_and,Nat.testBit_or,Nat.testBit_two_pow];by_cases e1:k1=i
  ·subst e1;simp[h1]
  ·by_cases e2:k2=i
   ·subst e2;simp[h2]
   ·simp[e1,e2]
theorem Oh (m k:Nat):zz (m:Int) k=m.testBit k:=by
 rw[zz,AZ,Nat.testBit_eq_decide_div_mod_eq];rw[Rq];simp
theorem Z0 (k:Nat) (h:k<64):IntKind.u64.wrap ((2:Int) ^ k)=((2 ^ k:Nat):Int):=by
 have:(2 ^ k:Nat)<2 ^ 64:=KA abD h;have e:(2:Nat) ^ 64=18446744073709551616:=abD;rw[show ((2:Int) ^ k)=((2 ^ k:Nat):Int) by rw[Ia];rfl];generalize 2 ^ k=P at *;exact gG _ ⟨wP,wP⟩
theorem Tq (k1 k2:Nat) (h1:k1<64) (h2:k2<64):bits .or .u64 (IntKind.u64.wrap ((2:Int) ^ k1)) (IntKind.u64.wrap ((2:Int) ^ k2))=((2 ^ k1|||2 ^ k2:Nat):Int):=by
 have a1:(2 ^ k1:Nat)<2 ^ 64:=KA abD h1;have a2:(2 ^ k2:Nat)<2 ^ 64:=KA abD h2;have e:(2:Nat) ^ 64=18446744073709551616:=abD;rw[Z0 k1 h1,Z0 k2 h2,u64_or_nat _ _ wP wP]
theorem RB (k1 k2:Nat) (h1:k1<64) (h2:k2<64):2 ^ k1|||2 ^ k2<18446744073709551616:=
 Nat.or_lt_two_pow (n:=64) (KA abD h1) (KA abD h2)
theorem ade (m k1 k2:Nat) (hm:m<18446744073709551616) (h1:k1<64) (h2:k2<64):
  (bits .and .u64 (m:Int) ((2 ^ k1|||2 ^ k2:Nat):Int) != ((2 ^ k1|||2 ^ k2:Nat):Int))= !(zz (m:Int) k1&&zz (m:Int) k2):=by
 rw[u64_and_nat _ _ hm (RB k1 k2 h1 h2),Oh,Oh];have h:=ZZ m k1 k2;rw[Rq];simp only[bne_iff_ne,ne_eq,Int.natCast_inj,h,Bool.not_eq_true',Bool.and_eq_false_iff]
 cases m.testBit k1<;>cases m.testBit k2<;>simp
theorem YR (a b:Nat) (ha:a<9223372036854775808) (hb:b<9223372036854775808):bits .and .i64 (a:Int) (b:Int)=((a &&& b:Nat):Int):=by
 have h1:(BitVec.ofInt 64 (a:Int)).toNat=a:=ofInt_u64 a wP;have h2:(BitVec.ofInt 64 (b:Int)).toNat=b:=ofInt_u64 b wP;have h3:a &&& b<9223372036854775808:=ada Nat.and_le_left ha;show IntKind.i64.wrap ((BitVec.ofInt 64 (a:Int) &&& BitVec.ofInt 64 (b:Int)).toNat:Int)=_;rw[BitVec.toNat_and,h1,h2];simp[IntKind.wrap,IntKind.bits,IntKind.signed];omega
theorem Z4 (h n:Nat) (hh:h<4294967296) (hp:rq n=true):bits .and .i64 ((h:Int)/64) ((n:Int)-1)=((h/64%n:Nat):Int):=by
 rw[uH]at hp;rw[show ((h:Int)/64)=((h/64:Nat):Int) by omega,show((n:Int)-1)=((n-1:Nat):Int) by omega,YR _ _ wP wP]
 congr 1
 rcases hp with rfl | rfl | rfl | rfl | rfl | rfl | rfl
 ·exact rf _ 0
 ·exact rf _ 1
 ·exact rf _ 2
 ·exact rf _ 3
 ·exact rf _ 4
 ·exact rf _ 5
 ·exact rf _ 6
theorem adf (w:World) (v:Value) (ws:List Int) (s:Int) (h:Nat) (hw:LB jQ (·<w.heap.size) w v ws) (hr:∀x∈ws,0<=x/\x<18446744073709551616) (hh:h<4294967296) (hs:oz ws s=true):
  Calls asq 114 #[.agg #[v,ah s],.int .u32 h] w fun e w'=>e=.returned (.bool (tH ws s (h:Int)))/\Below w w w':=by
 obtain⟨a,b,off,c,rfl,hm,hc,hat⟩:=hw.at;have hse:pM ws s=0:=by rw[pM,hs];rfl
 rw[Bo]at hs;simp only[pJ,arI]at hs;obtain⟨⟨hp,hs1⟩,hs2⟩:=hs;have hn:=(uH _).1 hp;have hn1:1<=ws.length/\ws.length<=64:=wP;obtain rfl:=hat.addr wP;have hk:h/64%ws.length<ws.length:=Ti _ wP;obtain⟨x,hx⟩:∃x,ws[h/64%ws.length]? =some x:=⟨_,gP hk⟩;have AA:=hr x (dH hx);obtain⟨m,rfl⟩:∃m:Nat,x=m:=⟨x.toNat,wP⟩;have k1:h%64<64:=Ti _ abD;have k2:h/2 ^ s.toNat%64<64:=Ti _ abD
 have air:Hid (tH ws s (h:Int)=(bits .and .u64 (m:Int) ((2 ^ (h%64)|||2 ^ (h/2 ^ s.toNat%64):Nat):Int) != ((2 ^ (h%64)|||2 ^ (h/2 ^ s.toNat%64):Nat):Int))):=aj (by
  rw[ade m _ _ wP k1 k2,tH,AZ,tK,hx];rfl)
 have HR:=aj (E8 (w.alloc (aB #[.slice (some ⟨b,off,none⟩) ws.length c,ah s] 36)) ws (some ⟨b,off,none⟩) c s wP);have HM:=aj (fun w=>Tp w (some ⟨b,off,none⟩) ws.length c s h hh hn1.1 hn1.2 hs1 hs2);have HW:=aj (Z4 h ws.length hh hp);have HB:=aj (Tq (h%64) (h/2 ^ s.toNat%64) k1 k2);have F1:=aj (ah2 w (aB #[.slice (some ⟨b,off,none⟩) ws.length c,ah s] 36));have B1:=aj ((PZ w.heap.size w).alloc (oD _) (aB #[.slice (some ⟨b,off,none⟩) ws.length c,ah s] 36));have dP:=aj hat;have hz1:w.heap.size<(w.alloc (aB #[.slice (some ⟨b,off,none⟩) ws.length c,ah s] 36)):=arG;clear hat hr hw hp hn hc hm;rw[hse]at HR;go_enter Tryz.func114,Tryz.ntmps114;go_wp2_with fail;generalize w.alloc (aB #[.slice (some ⟨b,off,none⟩) ws.length c,ah s] 36)=w1 at *;refine HR.af.mono ?_;rintro e w2 ⟨rfl,hb2⟩;have B2:=aj (B1.af.trans (hb2.mono wP));have F2:=(hb2.block _ hz1).trans F1.af;have c0:w2.cell? (ak w 0)=some (.slice (some ⟨b,off,none⟩) ws.length c):=aL F2 rfl;have c1:w2.cell? (ak w 1)=some (ah s):=aL F2 rfl;have hz2:=hb2.size;clear hb2 HR F1;go_wp2_with fail;refine(HM.af _).mono ?_;rintro e w3 ⟨rfl,hb3⟩;have B3:=aj (B2.af.trans (hb3.mono wP));have F3:=(hb3.block w.heap.size wP).trans F2;have d0:w3.cell? (ak w 0)=some (.slice (some ⟨b,off,none⟩) ws.length c):=aL F3 rfl;have d1:w3.cell? (ak w 1)=some (ah s):=aL F3 rfl;have hz3:=hb3.size;have hc:=(dP.af.below B3.af).YY _ _ hx;rw[HW.af,HB.af];clear hb3 F2 HM c0 c1 HW HB F3 hx;generalize 2 ^ (h%64)|||2 ^ (h/2 ^ s.toNat%64)=K at *;generalize h/64%ws.length=q at *;have hsb:=fD _ _ hc;have hsw:w.heap.size<w3:=wP;go_wp2_with fail;go_quiet (fail);go_wp2;go_ret;exact⟨by rw[air.af];rfl,eZ (B3.af.alloc wP _) _⟩
theorem adg (w:World) (v:Value) (ws:List Int) (s:Int) (h:Nat) (hw:LB jQ (·<w.heap.size) w v ws) (hr:∀x∈ws,0<=x/\x<18446744073709551616) (hh:h<4294967296) (hs:oz ws s=true):
  Calls asq 139 #[.agg #[v,ah s],.int .u32 h] w fun e w'=>e=.returned (.bool (tH ws s (h:Int)))/\Below w w w':=by
 obtain⟨a,b,off,c,rfl,hm,hc,hat⟩:=hw.at;have hsB:=hs;rw[Bo]at hs;simp only[pJ,arI]at hs;obtain⟨⟨hp,hs1⟩,hs2⟩:=hs;have hn:=(uH _).1 hp;have hn1:1<=ws.length/\ws.length<=64:=wP;obtain rfl:=hat.addr wP;have hk:h/64%ws.length<ws.length:=Ti _ wP;obtain⟨x,hx⟩:∃x,ws[h/64%ws.length]? =some x:=⟨_,gP hk⟩;have AA:=hr x (dH hx);obtain⟨m,rfl⟩:∃m:Nat,x=m:=⟨x.toNat,wP⟩;obtain⟨sn,rfl⟩:∃sn:Nat,s=sn:=⟨s.toNat,wP⟩;have k1:h%64<64:=Ti _ abD;have k2:h/2 ^ sn%64<64:=Ti _ abD
 have air:Hid (tH ws (sn:Int) (h:Int)=(!zz (m:Int) (h%64)|| !zz (m:Int) (h/2 ^ sn%64))):=aj (by
  rw[tH,AZ,tK,hx,AZ,Bool.not_and];rfl)
 have HR:=aj (Qr (w.alloc (aB #[.slice (some ⟨b,off,none⟩) ws.length c,ah (sn:Int)] 36)) ws (some ⟨b,off,none⟩) c sn wP);rw[hsB]at HR;have H1:=aj (fun w=>RA w m (h%64) wP wP);have H2:=aj (fun w=>RA w m (h/2 ^ sn%64) wP wP);have H3:=aj (fun w=>Oe w h sn hh wP);have hq:h/2 ^ sn<=h:=sO _ _;have F1:=aj (ah2 w (aB #[.slice (some ⟨b,off,none⟩) ws.length c,ah (sn:Int)] 36));have B1:=aj ((PZ w.heap.size w).alloc (oD _) (aB #[.slice (some ⟨b,off,none⟩) ws.length c,ah (sn:Int)] 36));have dP:=aj hat;have hz1:w.heap.size<(w.alloc (aB #[.slice (some ⟨b,off,none⟩) ws.length c,ah (sn:Int)] 36)):=arG;clear hat hr hw hp hn hc hm hsB;go_enter Tryz.func139,Tryz.ntmps139;go_wp2_with fail;generalize w.alloc (aB #[.slice (some ⟨b,off,none⟩) ws.length c,ah (sn:Int)] 36)=w1 at *;refine HR.af.mono ?_;rintro e w2 ⟨rfl,hb2⟩;have B2:=aj (B1.af.trans (hb2.mono wP));have F2:=(hb2.block _ hz1).trans F1.af;have c0:w2.cell? (ak w 0)=some (.slice (some ⟨b,off,none⟩) ws.length c):=aL F2 rfl;have c1:w2.cell? (ak w 1)=some (ah (sn:Int)):=aL F2 rfl;have hz2:=hb2.size;have hcx:=(dP.af.below B2.af).YY _ _ hx
 have e1:((h:Int)/64).tmod (ws.length:Int)=((h/64%ws.length:Nat):Int):=by
  rw[fB wP,Int.natCast_emod];rfl
 have hl0:((ws.length:Int)==0)=false:=by rw[arM];omega
 clear hb2 HR F1 F2 hx;generalize h/64%ws.length=q at *;go_wp2_with fail;go_quiet (fail);have e2:((h:Int)).tmod 64=((h%64:Nat):Int):=by rw[fB wP];omega
 generalize hb1:h%64=b1 at *;generalize h/2 ^ sn=hd at *;have e3:(hd:Int).tmod 64=((hd%64:Nat):Int):=by rw[fB wP];omega
 generalize hb2:hd%64=b2 at *;go_wp2_with fail;refine(H1.af _).mono ?_;rintro e w3 ⟨rfl,rfl⟩;go_wp2_with fail;refine(H3.af _).mono ?_;rintro e w3 ⟨rfl,rfl⟩;go_wp2_with fail;refine(H2.af _).mono ?_;rintro e w3 ⟨rfl,rfl⟩
 cases hx1:zz (m:Int) b1
 all_goals
  have Jz:=aj hx1;clear hx1;go_wp2;go_ret;exact⟨by rw[air.af,Jz.af];rfl,eZ B2.af _⟩
theorem Z5:(Tryz.prog.info? 3).map (fun i=>(i.zero,i.size,i.bytes))=some (some (ah 0),1,8):=TA
def oI (l:List Nat):List Int:=l.map fun(k:Nat)=>(k:Int)
theorem wD (l:List Nat):(oI l).length=l.length:=by simp[oI]
theorem JI {av:List bF} {s:bF} (h:av[k]? =some s):kX av k=s:=by rw[kX,h];rfl
theorem Tt (w:World) (v:Value) (av:List bF) (hs:LB gq (·<w.heap.size) w v av) (hz:av.length<=512):
  Calls asq 78 #[v] w fun e w'=>∃r,e=.returned r/\aX 3 dJ w.heap.size (fun _=>False) w' r (oI (bQ av))/\Below w w w':=by
 obtain⟨sa,sb,yu,jO,rfl,hsm,hsc,hat⟩:=hs.at;have dP:=aj hat;clear hs hat;go_enter Tryz.func78,Tryz.ntmps78;go_wp2;go_loopw [3,4] (fun o i wr=>∃k:Nat,i=ah k/\k<=av.length/\aX 3 dJ w.heap.size (fun _=>False) wr o (oI (nZ av k))/\Below w w wr) (fun _ i _=>av.length-(intOf i).toNat);exact⟨0,rfl,alg _,by exact aX.nil _ _ _ _ _,PZ _ _⟩;obtain⟨k,rfl,hk,hown,hbel⟩:=hrel;have hBr:=hbel.size;by_cases hlt:k<av.length
 ·obtain rfl:=dP.af.addr wP
  obtain⟨s,hx⟩:∃s,av[k]? =some s:=⟨_,gP hlt⟩;obtain⟨_,g0,g1,g2,g3,g4,g5,g6,g7,g8⟩:=(dP.af.below hbel).rR k s hx;have HS:=aj (ET av k);rw[JI hx]at HS;have hl:=FE av k;have hl2:=wD (nZ av k);obtain⟨oa,oc,rfl⟩:=hown.form;rw[hl2]at hown ⊢;have iZ:=aj hown;have di:=aj hbel;clear hown hbel hx;have hsb:=fD _ _ g0;go_wp2_with fail;refine(agA wr s).mono ?_;rintro e w2 ⟨rfl,hb2⟩;have B2:=aj (di.af.trans (hb2.mono hBr));have O2:=aj (iZ.af.below hb2);have hz2:=hb2.size;clear hb2 g0 g1 g2 g3 g4 g5 g6 g7 g8 iZ di
  cases hsn:ow s with
  | false=>
   rw[hsn]at HS;go_wp2;go_roundw
   case rel=>
    have h1:=O2.af;have h2:=HS.af;simp only[Bool.false_eq_true,if_false,Y8]at h2;exact⟨k+1,arH,wP,by rw[h2];exact h1,B2.af⟩
   simp[intOf];omega
  | true=>
   rw[hsn]at HS;go_wp2_with (at_builtin;refine fZ (α:=Int) (K:=dJ) (e:=3) (B:=w.heap.size) (E:=fun _=>False) 41 (ah 0) 8 Tryz.underlying41 Z5 rfl abD rfl (.tmp 16) (.tmp 18) rfl (nZ av k).length hl2 rfl (O2.af.alloc _) (fun _ h=>h.elim) w2.heap.size (k:Int) [ah (k:Int)] rfl ?c1 ?c2 rfl ?c3 ?c4 ?c5 ?_)
   case c1=>
    intro j u hu
    match j,hu with
    | 0,hu=>simp at hu;subst hu;simp
    | j+1,hu=>simp at hu
   case c2=>intro u hu;simp at hu;subst hu;rfl
   case c3=>omega
   case c4=>omega
   case c5=>simp;omega
   intro g c w3 hown3 oJ _;have Tu:=aj hown3;have hlo:=(O2.af.alloc (aB #[ah (k:Int)] 3)).lt;have B3:=aj (((B2.af.alloc wP (aB #[ah (k:Int)] 3)).trans (oJ.imp (S':=(·<w.heap.size)) (fun b hb=>⟨by have h1:b<w:=hb;omega,fun e=>by have:=(hlo b e).1;have h1:b<w:=hb;omega⟩)).below));clear hown3 oJ hlo;go_wp2;go_roundw
   case rel=>
    have h2:=HS.af;simp only[if_true]at h2;exact⟨k+1,arH,wP,by rw[h2,oI,A7];exact Tu.af,B3.af⟩
   simp[intOf];omega
 ·have he:k=av.length:=wP
  subst he;have iZ:=aj hown;have di:=aj hbel;clear hown hbel;go_wp2;go_ret;exact⟨_,rfl,iZ.af,di.af⟩
theorem ag1:(Tryz.prog.info? 134).map (fun i=>(i.zero,i.size,i.bytes))=some (some (.int .u32 0),1,4):=TA
def oW (av:List bF) (n:Nat):List Int:=(nZ av n).map fun k=>lw (kX av k).arT
structure tu (B:Nat) (w0 w:World) (va vl:Value) (at_ l:List Int) (pend:List (Nat × Value)):Prop where
 a:aX 3 dJ B (fun _=>False) w va at_
 l:aX 134 yX B (fun _=>False) w vl l
 apart:∀k,va.ownBlock=some k->vl.ownBlock≠some k
 pend:∀p∈pend,w.cell? (ak p.1 0)=some p.2/\va.ownBlock≠some p.1/\vl.ownBlock≠some p.1
 below:Below B w0 w
 hB:B<=w
section
variable {B : Nat} {w0 w : World} {va vl : Value} {at_ l : List Int} {pend : List (Nat × Value)}
theorem tu.drew (h:tu B w0 w va vl at_ l pend):tu B w0 w.drew va vl at_ l pend:=⟨h.a.drew,h.l.drew,h.apart,h.pend,h.below.drew,h.hB⟩
theorem tu.less {p2:List (Nat × Value)} (h:tu B w0 w va vl at_ l pend) (hp:∀p∈p2,p∈pend):tu B w0 w va vl at_ l p2:=⟨h.a,h.l,h.apart,fun p hx=>h.pend p (hp p hx),h.below,h.hB⟩
theorem tu.alloc (h:tu B w0 w va vl at_ l pend) (v:Value) (t:TypeId):tu B w0 (w.alloc (.cells #[v] t (0,0))) va vl at_ l ((w.heap.size,v) :: pend):=
 ⟨h.a.alloc _,h.l.alloc _,h.apart,fun p hp=>by
  rcases List.mem_cons.1 hp with rfl | hp
  ·refine⟨arG,fun e=> ?_,fun e=> ?_⟩
   ·have:=(h.a.lt _ e).2;simp at this
   ·have:=(h.l.lt _ e).2;simp at this
  ·obtain⟨h1,h2⟩:=h.pend p hp
   exact⟨by rw[qF _ _ _ (fD _ _ h1)];exact h1,h2⟩,h.below.alloc h.hB _,by have:=h.hB;rw[lW];omega⟩
theorem tu.alloc' (h:tu B w0 w va vl at_ l pend) (o:Obj):tu B w0 (w.alloc o) va vl at_ l pend:=
 ⟨h.a.alloc _,h.l.alloc _,h.apart,fun p hp=>by
  obtain⟨h1,h2⟩:=h.pend p hp;exact⟨by rw[qF _ _ _ (fD _ _ h1)];exact h1,h2⟩,h.below.alloc h.hB _,by have:=h.hB;rw[lW];omega⟩
theorem tu.cell (h:tu B w0 w va vl at_ l pend) {n:Nat} {v:Value} (hp:(n,v)∈pend):w.cell? (ak n 0)=some v:=(h.pend _ hp).1
theorem XU {α:Type} {e:TypeId} {K:Kind α} {w':World} {v:Value} {xs:List α} {row:Option Nat} (ani:∀S S' w w' x r,K.R S w x r->K.R S' w' x r) (h:aX e K B (fun _=>False) w v xs) (hs:Step (fun b=>b<w/\row≠some b) w w')
  (hne:∀k,v.ownBlock=some k->row≠some k):aX e K B (fun _=>False) w' v xs:=by
 obtain⟨ys,h1,h2,h3⟩:=h;have hlt:=AY h1;refine⟨ys,⟨h1.1,?_⟩,?_,h3⟩
 ·rcases h1.2 with h0 | ⟨g,cap,cur,hv,hg,hh,r⟩
  ·exact Or.inl h0
  ·refine Or.inr ⟨g,cap,cur,hv,hg,?_,r⟩
   have ho:v.ownBlock=some g:=by rw[hv];rfl
   rw[hs.block g ⟨(hlt g ho).2,hne g ho⟩];exact hh
 ·have:∀ {l:List α} {xs:List Value} {S S':Nat->Prop},fe K S w l xs->fe K S' w' l xs:=by
   intro l
   induction l with
   | nil=>intro xs S S' h;exact h
   | cons x l ih=>rintro xs S S' ⟨r,ys,e,a1,a2⟩;exact⟨r,ys,e,ani _ _ _ _ _ _ a1,ih a2⟩
  exact this h2
theorem tu.anj {o:Oper} {a:Act} {K:Act->World->Prop} {Q:Exit->Act->World->Prop} (h:tu B w0 w va vl at_ l pend) (s x:Operand)
  (ho:o.op=.call {callee:=.builtin .append,args:=#[s,x],argTypes:=#[41,41]}) (n:Nat) (hn:at_.length=n) (hs:a.eval s=va) (nb:Nat) (y:Int) (hx:a.eval x=.slice (some ⟨nb,0,none⟩) 1 1) (hp:(nb,Value.int .i64 y)∈pend) (hlen:n<=1000000)
  (hk:∀g c w',tu B w0 w' (.slice (some ⟨g,0,none⟩) (n+1) c) vl (at_++[y]) l pend->K (a.put o.dst (.slice (some ⟨g,0,none⟩) (n+1) c)) w'):Oper.wp asq o a w K Q:=by
 subst hn;obtain⟨i0,hi,hz0,hz1,hz2⟩:=info_parts Z5;obtain⟨xs,h1,h2,h3⟩:=h.a;have hlt:=AY h1;have hcell:=h.cell hp;refine wp_append_lies w s x 41 ho B 3 i0 (ah 0) 1 8 Tryz.underlying41 hi hz0 hz1 hz2 rfl abD va at_.length xs hs h1 (ak nb 0) 1 1 [ah y] hx rfl ?_ ?_ abD (by unfold maxLen;omega) wP h.hB _ rfl ?_
 ·intro j u hj
  match j,hj with
  | 0,hj=>simp at hj;subst hj;simpa [Addr.add_lit] using hcell
  | j+1,hj=>simp at hj
 ·intro u hu;simp at hu;subst hu;rfl
 ·intro g c w' g1 g2 g3 g4
  have hst:Step (fun b=>b<w/\va.ownBlock≠some b) w w':=Step.rU g2 (fun b hb=>⟨hb.1,hb.2⟩);refine hk g c w' ?_
  refine⟨⟨xs++[ah y],by have g5:=g1;simpa [dJ,yX] using g5,by
   have hr:fe dJ (fun b=>b<w/\¬False/\va.ownBlock≠some b) w at_ xs:=h2
   have:∀ {l:List Int} {xs:List Value} {S S':Nat->Prop} {w w':World},fe dJ S w l xs->fe dJ S' w' l xs:=by
    intro l
    induction l with
    | nil=>intro xs S S' w w' h;exact h
    | cons x l ih=>rintro xs S S' w w' ⟨r,ys,e,a1,a2⟩;exact⟨r,ys,e,a1,ih a2⟩
   exact(this hr).snoc rfl,fun _ _ hE=>hE⟩,XU (fun _ _ _ _ _ _ h=>h) h.l hst (fun k hk e=>h.apart k e hk),?_,fun p hp=> ?_,?_,eG h.hB hst.size⟩
  ·intro k hk e
   have:k=g:=by simpa [Value.ownBlock] using hk.symm
   subst this;rcases g3 with h' | h'
   ·exact h.apart _ h' e
   ·have:=(h.l.lt _ e).2;omega
  ·obtain⟨q1,q2,q3⟩:=h.pend p hp
   have hq:p.1<w.heap.size:=fD _ _ q1;refine⟨by rw[Tg (a:=(ak p.1 0)) (hst.block p.1 ⟨hq,q2⟩)];exact q1,?_,?_⟩
   ·intro e
    have:p.1=g:=by simpa [Value.ownBlock] using e.symm
    rcases g3 with h' | h'
    ·exact q2 (by rw[this];exact h')
    ·omega
   ·exact q3
  ·exact h.below.trans (hst.imp (S':=(·<B)) (fun b hb=>⟨akb hb h.hB,fun e=>by have h5:=(hlt b e).1;have h6:b<B:=hb;omega⟩)).below
theorem tu.ank {o:Oper} {a:Act} {K:Act->World->Prop} {Q:Exit->Act->World->Prop} (h:tu B w0 w va vl at_ l pend) (s x:Operand)
  (ho:o.op=.call {callee:=.builtin .append,args:=#[s,x],argTypes:=#[142,142]}) (n:Nat) (hn:l.length=n) (hs:a.eval s=vl) (nb:Nat) (y:Int) (hx:a.eval x=.slice (some ⟨nb,0,none⟩) 1 1) (hp:(nb,Value.int .u32 y)∈pend) (hlen:n<=1000000)
  (hk:∀g c w',tu B w0 w' va (.slice (some ⟨g,0,none⟩) (n+1) c) at_ (l++[y]) pend->K (a.put o.dst (.slice (some ⟨g,0,none⟩) (n+1) c)) w'):Oper.wp asq o a w K Q:=by
 subst hn;obtain⟨i0,hi,hz0,hz1,hz2⟩:=info_parts ag1;obtain⟨xs,h1,h2,h3⟩:=h.l;have hlt:=AY h1;have hcell:=h.cell hp;refine wp_append_lies w s x 142 ho B 134 i0 (.int .u32 0) 1 4 Tryz.underlying142 hi hz0 hz1 hz2 rfl abD vl l.length xs hs h1 (ak nb 0) 1 1 [.int .u32 y] hx rfl ?_ ?_ abD (by unfold maxLen;omega) wP h.hB _ rfl ?_
 ·intro j u hj
  match j,hj with
  | 0,hj=>simp at hj;subst hj;simpa [Addr.add_lit] using hcell
  | j+1,hj=>simp at hj
 ·intro u hu;simp at hu;subst hu;rfl
 ·intro g c w' g1 g2 g3 g4
  have hst:Step (fun b=>b<w/\vl.ownBlock≠some b) w w':=Step.rU g2 (fun b hb=>⟨hb.1,hb.2⟩);refine hk g c w' ?_
  refine⟨XU (fun _ _ _ _ _ _ h=>h) h.a hst (fun k hk e=>h.apart k hk e),⟨xs++[.int .u32 y],by have g5:=g1;simpa [dJ,yX] using g5,by
   have hr:fe yX (fun b=>b<w/\¬False/\vl.ownBlock≠some b) w l xs:=h2
   have:∀ {l:List Int} {xs:List Value} {S S':Nat->Prop} {w w':World},fe yX S w l xs->fe yX S' w' l xs:=by
    intro l
    induction l with
    | nil=>intro xs S S' w w' h;exact h
    | cons x l ih=>rintro xs S S' w w' ⟨r,ys,e,a1,a2⟩;exact⟨r,ys,e,a1,ih a2⟩
   exact(this hr).snoc rfl,fun _ _ hE=>hE⟩,?_,fun p hp=> ?_,?_,eG h.hB hst.size⟩
  ·intro k hk e
   have:k=g:=by simpa [Value.ownBlock] using e.symm
   subst this;rcases g3 with h' | h'
   ·exact h.apart _ hk h'
   ·have:=(h.a.lt _ hk).2;omega
  ·obtain⟨q1,q2,q3⟩:=h.pend p hp
   have hq:p.1<w.heap.size:=fD _ _ q1;refine⟨by rw[Tg (a:=(ak p.1 0)) (hst.block p.1 ⟨hq,q3⟩)];exact q1,?_,?_⟩
   ·exact q2
   ·intro e
    have:p.1=g:=by simpa [Value.ownBlock] using e.symm
    rcases g3 with h' | h'
    ·exact q3 (by rw[this];exact h')
    ·omega
  ·exact h.below.trans (hst.imp (S':=(·<B)) (fun b hb=>⟨akb hb h.hB,fun e=>by have h5:=(hlt b e).1;have h6:b<B:=hb;omega⟩)).below
end
theorem Z6 (av:List bF) (n:Nat):oW av (n+1)=oW av n++if ow (kX av n) then [lw (kX av n).arT] else []:=by
 rw[oW,ET,A7];by_cases h:ow (kX av n)=true
 ·rw[if_pos h,if_pos h];rfl
 ·rw[if_neg h,if_neg h];rfl
theorem abS (av:List bF) (n:Nat):(oW av n).length=(nZ av n).length:=by simp[oW]
theorem Qw (w:World) (v:Value) (av:List bF) (hs:LB gq (·<w.heap.size) w v av) (hz:av.length<=512):
  Calls asq 53 #[v] w fun e w'=>∃r l,e=.returned (.tuple #[r,l])/\aX 3 dJ w.heap.size (fun _=>False) w' r (oI (bQ av))/\aX 134 yX w.heap.size (fun _=>False) w' l (oW av av.length)/\Below w w w':=by
 obtain⟨sa,sb,yu,jO,rfl,hsm,hsc,hat⟩:=hs.at;have dP:=aj hat;clear hs hat;go_enter Tryz.func53,Tryz.ntmps53;go_wp2;go_loopw [4,5,10] (fun o p i wr=>∃k:Nat,i=ah k/\k<=av.length/\tu w.heap.size w wr o p (oI (nZ av k)) (oW av k) []) (fun _ _ i _=>av.length-(intOf i).toNat);exact⟨0,rfl,alg _,⟨aX.nil _ _ _ _ _,aX.nil _ _ _ _ _,fun k h=>by simp[Value.ownBlock]at h,fun p hp=>by simp at hp,PZ _ _,oD _⟩⟩;obtain⟨k,rfl,hk,hinv⟩:=hrel;have hBr:=hinv.below.size;have hlN:=FE av k;have hl2:=wD (nZ av k);have hl3:=abS av k;obtain⟨oa,oc,ho⟩:=hinv.a.form;obtain⟨pa,pc,hp⟩:=hinv.l.form;rw[hl2]at ho;rw[hl3]at hp;subst ho hp;by_cases hlt:k<av.length
 ·obtain rfl:=dP.af.addr wP
  obtain⟨s,hx⟩:∃s,av[k]? =some s:=⟨_,gP hlt⟩;obtain⟨hso,g0,g1,g2,g3,g4,g5,g6,g7,g8⟩:=(dP.af.below hinv.below).rR k s hx;have HS:=aj (ET av k);have HS2:=aj (Z6 av k);rw[JI hx]at HS HS2;have Z7:=aj hinv;have HJ:=aj (fun w=>Oc w s.arT hso.arT);have hsb:=fD _ _ g0;have Fs:=ah2 wr (aB (arK s) 54);have I1:=aj (hinv.alloc' (aB (arK s) 54));have hzs:(wr.alloc (aB (arK s) 54)).heap.size=wr.heap.size+1:=arG;have hown1:=fun k h=>(hinv.a.lt k h).2
  have hown2:=fun k h=>(hinv.l.lt k h).2
  clear hinv hx hso;go_upto_region 6 with fail
  generalize wr.alloc (aB (arK s) 54)=w1 at *;obtain⟨c0,c1,c2,c3,c4,c5,c6,c7,c8⟩:=lK Fs;go_wp2_with fail;refine(Xu w1 s).mono ?_;rintro e w2 ⟨rfl,hb2⟩;have hz2:=hb2.size;have cn:=(hb2.cell (fD _ _ c0)).trans c0
  have I2:tu w.heap.size w w2 (.slice oa (nZ av k).length oc) (.slice pa (nZ av k).length pc) (oI (nZ av k)) (oW av k) [(wr.heap.size,ax s.arT)]:=by
   refine⟨I1.af.a.below hb2,I1.af.l.below hb2,I1.af.apart,fun p hp=> ?_,I1.af.below.trans (hb2.mono wP),wP⟩;simp at hp;subst hp;exact⟨cn,fun e=>by have:=hown1 _ e;omega,fun e=>by have:=hown2 _ e;omega⟩
  clear hb2 c0 c1 c2 c3 c4 c5 c6 c7 c8 Fs I1 g0 g1 g2 g3 g4 g5 g6 g7 g8 Z7
  cases hsn:ow s with
  | false=>
   rw[hsn]at HS HS2;have I3:=aj I2;clear I2 cn;go_wp2;go_roundw
   case rel=>
    have h1:=HS.af;have h2:=HS2.af;simp only[Bool.false_eq_true,if_false,Y8]at h1 h2;exact⟨k+1,arH,wP,by rw[h1,h2];exact I3.af.less arG⟩
   simp[intOf];omega
  | true=>
   rw[hsn]at HS HS2;have I3:=aj I2.drew;have h1:=HS.af;have h2:=HS2.af;simp only[if_true]at h1 h2;have Qx:Hid (oI (nZ av (k+1))=oI (nZ av k)++[(k:Int)]):=aj (by rw[h1,oI,A7];rfl);have vG:=aj h2;have hlw:=fD _ _ cn;clear I2 h1 h2 HS HS2;generalize wr.heap.size=zs at *;go_wp2_with fail;refine wp_region_held_drew (S:=fun w'=>w'.cell? (ak zs 0)=some (ax s.arT)) TA (by exact I3.af.cell arG) (fun ay=> ?_);generalize w2.drew=wd at *;refine arS 0 ay ?_;try simp only[bP]
   refine arS 1 ay ?_;try simp only[bP]
   refine arS 4 ay ?_;try simp only[bP]
   refine arS 5 ay ?_;try simp only[bP]
   refine arS 6 ay ?_;try simp only[bP]
   refine cO 2 fun K hK=> ?_
   go_simp;have IA:=aj (I3.af.alloc (ah (k:Int)) 3);refine hK.af _ _ (by exact IA.af.cell arG) (fun ay=> ?_);clear hK K;try simp only[bP]
   generalize wd.alloc (aB #[ah (k:Int)] 3)=wA at *;refine cO 3 fun K hK=> ?_
   rw[if_pos (by rfl)];simp only[rz];refine IA.af.anj (.tmp 17) (.tmp 19) ?_ (nZ av k).length hl2 ?_ wd.heap.size (k:Int) ?_ arG wP (fun g c wAA hI=> ?_)
   ·rfl
   ·rfl
   ·rfl
   have IAA:=aj hI;clear hI;refine hK.af _ _ (by exact IAA.af.cell arG) (fun ay=> ?_);clear hK K;try simp only[bP]
   refine cO 7 fun K hK=> ?_
   go_simp;refine(HJ.af _).mono ?_;rintro e w5 ⟨rfl,hw5⟩;rw[hw5];refine hK.af _ _ (by exact IAA.af.cell arG) (fun ay=> ?_);clear hK K;try simp only[bP]
   have an2:=IAA;refine cO 8 fun K hK=> ?_
   go_simp;have akc:=aj (an2.af.alloc (.int .u32 (lw s.arT)) 134);refine hK.af _ _ (by exact akc.af.cell arG) (fun ay=> ?_);clear hK K;try simp only[bP]
   generalize wAA.alloc (aB #[.int .u32 (lw s.arT)] 134)=aqd at *;refine cO 9 fun K hK=> ?_
   rw[if_pos (by rfl)];simp only[rz];refine akc.af.ank (.tmp 21) (.tmp 25) ?_ (nZ av k).length hl3 ?_ wAA.heap.size (lw s.arT) ?_ arG wP (fun g c aqa hI=> ?_)
   ·rfl
   ·rfl
   ·rfl
   have ag2:=aj hI;clear hI;refine hK.af _ _ (by exact ag2.af.cell arG) (fun ay=> ?_);clear hK K;try simp only[bP]
   refine arS 10 ay ?_;try simp only[bP]
   refine arS 11 ay ?_;try simp only[bP]
   refine E5 TA ?_ _;clear ay;go_wp2;go_roundw;exact⟨k+1,arH,wP,by rw[Qx.af,vG.af];exact ag2.af.less arG⟩;simp[intOf];omega
 ·have he:k=av.length:=wP
  subst he;have Z7:=aj hinv;clear hinv;go_wp2;go_ret2;exact⟨_,_,rfl,Z7.af.a,Z7.af.l,Z7.af.below⟩
theorem Tv (c:List Int) (k:Nat) (x y:Int) (hx:c[k]? =some y):(c.take (k+1)).count x=(c.take k).count x+if y=x then 1 else 0:=by
 obtain⟨h,rfl⟩:=Sm.1 hx;rw[wC h,List.count_append,List.count_singleton];by_cases e:c[k]=x<;>simp[e]
theorem Qy:∀(l:List Nat) (n:Nat),(l.take n).sum<=l.sum
 | [],n=>arG
 | a :: l,0=>arG
 | a :: l,n+1=>by have:=Qy l n;simp only[List.take_succ_cons,List.sum_cons];omega
theorem Na (l:List Nat) (k:Nat) (x:Nat) (hx:l[k]? =some x):(l.take (k+1)).sum=(l.take k).sum+x:=by
 obtain⟨h,rfl⟩:=Sm.1 hx;rw[wC h,List.sum_append];simp
theorem Qz:∀(l:List Int) (a b:Int),iW (l++[a])=true->iW (l++[a,b])=decide (a<b)
 | [],a,b,_=>by simp[iW]
 | [x],a,b,h=>by
  simp only[List.cons_append,List.nil_append,iW,pJ,arI]at h ⊢;simp[h.1]
 | x :: y :: l,a,b,h=>by
  have e1:iW (x :: y :: l++[a])=(decide (x<y)&&iW (y :: l++[a])):=rfl;have e2:iW (x :: y :: l++[a,b])=(decide (x<y)&&iW (y :: l++[a,b])):=rfl;rw[e1,pJ]at h;rw[e2,h.1,Qz (y :: l) a b h.2];rfl
theorem abT (c:List Int) (k:Nat) (a b:Int) (ha:c[k]? =some a) (hb:c[k+1]? =some b) (h:iW (c.take (k+1))=true):iW (c.take (k+2))=decide (a<b):=by
 obtain⟨h1,rfl⟩:=Sm.1 ha;obtain⟨h2,rfl⟩:=Sm.1 hb;rw[wC h1]at h;rw[wC h2,wC h1,List.append_assoc];exact Qz _ _ _ h
theorem adh (c:List Int) (k:Nat) (h:iW (c.take k)=false):iW c=false:=by
 cases hr:iW c with
 | false=>rfl
 | true=>
  have:=((rising_pairwise c).1 hr).sublist (List.take_sublist k c);rw[(rising_pairwise _).2 this]at h;cases h
theorem Z8 (w:World) (v:Value) (c:List Int) (x:Int) (hc:LB dJ (·<w.heap.size) w v c):
  Calls asq 138 #[v,ah x] w fun e w'=>e=.returned (ah (c.count x:Nat))/\w'=w:=by
 obtain⟨sa,sb,yu,jO,rfl,hsm,hsc,hat⟩:=hc.at;have dP:=aj hat;clear hc hat;go_enter Tryz.func138,Tryz.ntmps138;go_wp2;go_loop [5,6] (fun n i=>∃k:Nat,k<=c.length/\i=ah k/\n=ah (((c.take k).count x:Nat):Int)) (fun _ i=>c.length-(intOf i).toNat);exact⟨0,alg _,rfl,arG⟩;obtain⟨k,hk,rfl,rfl⟩:=hrel;have hle:(c.take k).count x<=k:=by have:=List.count_le_length (a:=x) (l:=c.take k);rw[List.length_take]at this;omega
 by_cases hlt:k<c.length
 ·obtain rfl:=dP.af.addr wP
  obtain⟨y,hy⟩:∃y,c[k]? =some y:=⟨_,gP hlt⟩;have g:=dP.af.oC k y hy;have Hs:=aj (Tv c k x y hy);clear hy;generalize (c.take k).count x=m at *;by_cases e:y=x
  ·have Hs2:Hid ((c.take (k+1)).count x=m+1):=aj (by rw[Hs.af,if_pos e])
   have hb:(y==x)=true:=by rw[beq_iff_eq];exact e
   clear e;go_wp2;go_round;exact⟨k+1,wP,arH,by rw[Hs2.af];go_num⟩;simp[intOf];omega
  ·have Hs2:Hid ((c.take (k+1)).count x=m):=aj (by rw[Hs.af,if_neg e];omega)
   have hb:(y==x)=false:=by rw[arM];exact e
   clear e;go_wp2;go_round;exact⟨k+1,wP,arH,by rw[Hs2.af]⟩;simp[intOf];omega
 ·have He:Hid ((c.take k).count x=c.count x):=aj (by rw[dh wP])
  generalize (c.take k).count x=m at *;go_wp2;go_ret;exact⟨by rw[<-He.af];rfl,rfl⟩
def qG (im:bK):List Nat:=im.ar9.map List.length
theorem Bp (im:bK):wW im=(decide (im.av.length<=512)&&decide (1<=im.ar9.length)&&decide (im.ar9.length<=512)&&oz im.ar8 im.ase&&im.ar9.all iW&&
 decide ((qG im).sum=(bQ im.av).length)&&(bQ im.av).all (tC im)):=rfl
theorem abU (im:bK) (b:Nat) (h:(bQ im.av).length<((qG im).take b).sum):wW im=false:=by
 have:=Qy (qG im) b;rw[Bp,decide_eq_false (p:=(qG im).sum=(bQ im.av).length) wP];simp
theorem abV (im:bK) (b:Nat) (c:List Int) (hc:im.ar9[b]? =some c) (h:iW c=false):wW im=false:=by
 have:im.ar9.all iW=false:=by rw[P7];exact⟨c,dH hc,by simp[h]⟩
 rw[Bp,this];simp
theorem Z9 (im:bK) (k:Nat) (i:Nat) (hi:(bQ im.av)[k]? =some i) (h:tC im i=false):wW im=false:=by
 have:(bQ im.av).all (tC im)=false:=by rw[P7];exact⟨i,dH hi,by simp[h]⟩
 rw[Bp,this];simp
theorem XV (l:List Nat) (k i:Nat) (h:l[k]? =some i):(oI l)[k]? =some (i:Int):=by simp[oI,h]
theorem abW (w:World) (im:bK) (vb vw vs:Value) (hb:LB tJ (·<w.heap.size) w vb im.ar9) (hw:LB jQ (·<w.heap.size) w vw im.ar8) (hs:LB gq (·<w.heap.size) w vs im.av)
  (hr:∀x∈im.ar8,0<=x/\x<18446744073709551616) (hbl:∀c∈im.ar9,c.length<=140737488355328):
  Calls asq 87 #[.agg #[vb,vw,ah im.ase],vs] w fun e w'=>e=.returned (.bool (wW im))/\Below w w w':=by
 obtain⟨ba,bb,aac,Bq,rfl,hbm,hbc,aad⟩:=hb.at;obtain⟨sa,sb,yu,jO,rfl,hsm,hsc,rA⟩:=hs.at;obtain⟨wa,wc,hwv⟩:=hw.form;subst hwv;have Hw:=aj hw;have HT:=aj (Bp im);have RD:=aj aad;have CB:=aj rA;have Hr:=aj hr;have zk:=aj hbl;have Hs:=aj hs;have XW:=hw.max;clear hb hs hw aad rA hr hbl;have B1:=aj ((PZ w.heap.size w).alloc (oD _) (aB #[.slice ba im.ar9.length Bq,.slice wa im.ar8.length wc,ah im.ase] 38));have F1:=aj (ah2 w (aB #[.slice ba im.ar9.length Bq,.slice wa im.ar8.length wc,ah im.ase] 38));by_cases p1:im.av.length<=512
 case neg=>
  have Hn:Hid (wW im=false):=aj (by rw[HT.af,decide_eq_false (p:=im.av.length<=512) p1];simp);have q1:512<im.av.length:=wP;go_enter Tryz.func87,Tryz.ntmps87;go_wp2;go_ret;exact⟨by rw[Hn.af];rfl,B1.af⟩
 have q1:¬512<im.av.length:=wP;by_cases p2:1<=im.ar9.length
 case neg=>
  have Hn:Hid (wW im=false):=aj (by rw[HT.af,decide_eq_false (p:=1<=im.ar9.length) p2];simp);have q2:im.ar9.length<1:=wP;go_enter Tryz.func87,Tryz.ntmps87;go_wp2;go_ret;exact⟨by rw[Hn.af];rfl,B1.af⟩
 have q2:¬im.ar9.length<1:=wP;by_cases p3:im.ar9.length<=512
 case neg=>
  have Hn:Hid (wW im=false):=aj (by rw[HT.af,decide_eq_false (p:=im.ar9.length<=512) p3];simp);have q3:512<im.ar9.length:=wP;go_enter Tryz.func87,Tryz.ntmps87;go_wp2;go_ret;exact⟨by rw[Hn.af];rfl,B1.af⟩
 have q3:¬512<im.ar9.length:=wP;have Hf:=aj (fun w=>Qr w im.ar8 wa wc im.ase wP);go_enter Tryz.func87,Tryz.ntmps87;go_wp2_with fail;have hz1:w.heap.size<(w.alloc (aB #[.slice ba im.ar9.length Bq,.slice wa im.ar8.length wc,ah im.ase] 38)):=arG;generalize w.alloc (aB #[.slice ba im.ar9.length Bq,.slice wa im.ar8.length wc,ah im.ase] 38)=w1 at *;refine(Hf.af w1).mono ?_;rintro e w2 ⟨rfl,hb2⟩;have B2:=aj (B1.af.trans (hb2.mono wP));have F2:=aj ((hb2.block _ hz1).trans F1.af);have hz2:=hb2.size;clear hb2 B1 F1 Hf
 cases hsv:oz im.ar8 im.ase with
 | false=>
  have Hn:Hid (wW im=false):=aj (by rw[HT.af,hsv];simp);clear hsv;go_wp2;go_ret;exact⟨by rw[Hn.af];rfl,B2.af⟩
 | true=>
  have qm:=aj hsv;clear hsv;go_wp2_with fail;refine(Tt w2 _ im.av ((Hs.af.below B2.af).mono B2.af.size) p1).mono ?_;rintro e w3 ⟨r,rfl,hown,hb3⟩;have B3:=aj (B2.af.trans (hb3.mono wP));have F3:=aj ((hb3.block w.heap.size wP).trans F2.af);have hz3:=hb3.size;have hil:=wD (bQ im.av);have hsl:(bQ im.av).length<=512:=by have:=FE im.av im.av.length;rw[bQ];omega
  obtain⟨oa,oc,rfl⟩:=hown.form;have hlb:=hown.lb.imp (S':=(·<w3.heap.size)) (fun b h=>h.1);obtain⟨oa',ob,aqw,aqe,hov,hom,hoc,alp⟩:=hlb.at
  cases hov
  rw[hil];have alq:=aj alp;have Hil:=aj (XV (bQ im.av));have SI:=aj (fun k i (h:(bQ im.av)[k]? =some i)=>(Dk im.av im.av.length i).1 (dH h));clear hb3 hown hlb alp hom hoc F2 B2;generalize hN:(bQ im.av).length=N at *;have HN:=aj hN;clear hN;go_wp2_with fail;go_loopw [6,7,8] (fun m i _ wr=>∃(b:Nat),i=ah b/\b<=im.ar9.length/\m=ah ((((qG im).take b).sum:Nat):Int)/\((qG im).take b).sum<=N/\(im.ar9.take b).all iW=true/\Below w3 w3 wr) (fun _ i _ _=>im.ar9.length-(intOf i).toNat);exact⟨0,rfl,alg _,rfl,arG,rfl,PZ _ _⟩;obtain⟨b,rfl,hbk,rfl,hmn,hall,hbel⟩:=hrel;have iT:=aj hall;have di:=aj hbel;have F4:=(hbel.block w.heap.size wP).trans F3.af;have c0:wr.cell? (ak w 0)=some (.slice ba im.ar9.length Bq):=aL F4 rfl;have c1:wr.cell? (ak w 1)=some (.slice wa im.ar8.length wc):=aL F4 rfl;have c2:wr.cell? (ak w 2)=some (ah im.ase):=aL F4 rfl;have AB:=hbel.size;clear hall hbel;by_cases hlt:b<im.ar9.length
  ·obtain rfl:=RD.af.addr wP
   obtain⟨c,hc⟩:∃c,im.ar9[b]? =some c:=⟨_,gP hlt⟩;have hcl:=zk.af c (dH hc);obtain⟨cv,gc,KC⟩:=(RD.af.below B3.af).Si b c hc;have gc2:wr.cell? (ak bb (aac+b))=some cv:=iq di.af gc;obtain⟨ca,cb,ais,an3,rfl,hcm,hcc,Br⟩:=KC.at;have Bt:=aj Br;have aae:=aj (Na (qG im) b c.length (by simp[qG,hc]));have Za:=aj (abU im (b+1));have anl:=aj (abV im b c hc);have yx:=aj (jM iW im.ar9 b c hc);clear hc gc KC Br F4;rw[aae.af,HN.af]at Za;generalize hM:((qG im).take b).sum=M at *;clear hM;by_cases Bu:N<M+c.length
   ·have Hn:=aj (Za.af Bu)
    go_wp2;go_ret;exact⟨by rw[Hn.af];rfl,B3.af.trans (di.af.mono wP)⟩
   have hm2:¬((N:Int)<(M:Int)+(c.length:Int)):=wP;go_wp2_with fail;obtain ⟨wo,hwo⟩:=aiG (wr:World);go_loopw [8] (fun i wi=>∃(k:Nat),i=ah (k+1:Nat)/\(k+1<=c.length∨k=0)/\iW (c.take (k+1))=true/\Below wo wo wi) (fun i _=>c.length-(intOf i).toNat)
   case atStart=>
    refine⟨0,rfl,Or.inr rfl,?_,by rw[hwo];exact PZ _ _⟩
    cases c with
    | nil=>rfl
    | cons x l=>simp[iW]
   case round=>
    obtain⟨k,rfl,hk,XT,hbi⟩:=hrel;have ZW:=aj XT;have qi:=aj hbi;have d0:=(hbi.cell (by rw[hwo];exact fD _ _ c0)).trans (hwo ▸ c0);have d1:=(hbi.cell (by rw[hwo];exact fD _ _ gc2)).trans (hwo ▸ gc2);have alr:Below w3 w3 wr:=(by rw[hwo]at *;exact di.af:Below w3 w3 wo).trans (hbi.mono (by rw[hwo];omega));have adi:=aj alr;clear XT hbi alr;by_cases hk2:k+1<c.length
    ·obtain rfl:=Bt.af.addr wP
     obtain⟨x,hx⟩:∃x,c[k]? =some x:=⟨_,gP wP⟩;obtain⟨y,hy⟩:∃y,c[k+1]? =some y:=⟨_,gP hk2⟩;have gx:=(adi.af.cell (fD _ _ (Bt.af.oC k x hx))).trans (Bt.af.oC k x hx);have gy:=(adi.af.cell (fD _ _ (Bt.af.oC (k+1) y hy))).trans (Bt.af.oC (k+1) y hy);have hoff:ais+(k+1)=ais+k+1:=wP;rw[hoff]at gy;have uV:=aj (fun h=>abT c k x y hx hy h);have anm:=aj (adh c (k+2));clear hx hy;by_cases hxy:x<y
     ·have zC:Hid (iW (c.take (k+1+1))=true):=aj (by rw[uV.af ZW.af];simp[hxy])
      have hge:¬y<=x:=wP;go_wp2_with fail;go_quiet (fail);go_wp2;go_roundw;exact⟨k+1,arH,wP,zC.af,eZ qi.af _⟩;simp[intOf];omega
     ·have Hn:=aj (anl.af (anm.af (by rw[uV.af ZW.af];simp[hxy])))
      have hge:y<=x:=wP;go_wp2_with fail;go_quiet (fail);go_wp2;go_ret;exact⟨by rw[Hn.af];rfl,eZ (B3.af.trans (adi.af.mono wP)) _⟩
    ·have Hc:Hid (iW c=true):=aj (by
      have:=ZW.af
      rwa [dh wP]at this)
     go_wp2;go_roundw
     case rel=>
      refine⟨b+1,arH,wP,by rw[aae.af];go_num,by rw[aae.af];omega,by rw[yx.af,iT.af,Hc.af];rfl,adi.af⟩
     simp[intOf];omega
  ·have an4:Hid (im.ar9.all iW=true):=aj (by have:=iT.af;rwa [dh wP]at this)
   have Hsu:Hid (((qG im).take b).sum=(qG im).sum):=aj (by rw[dh (by simp[qG];omega)]);have FU:=aj F4;have hM1:((qG im).take b).sum<=512:=wP;rw[Hsu.af]at hmn hM1 ⊢;generalize hM:(qG im).sum=M at *;clear hM iT F4;go_wp2_with fail;go_loopw [9,10] (fun i _ wi=>∃(k:Nat),i=ah k/\k<=N/\((bQ im.av).take k).all (tC im)=true/\Below w3 w3 wi) (fun i _ _=>N-(intOf i).toNat);exact⟨0,rfl,alg _,rfl,di.af⟩;obtain⟨k,rfl,hk,hall,hbi⟩:=hrel;have iT:=aj hall;have qi:=aj hbi;clear hall c0 c1 c2 FU di;have F5:=(hbi.block w.heap.size wP).trans F3.af;have c0:wr.cell? (ak w 0)=some (.slice ba im.ar9.length Bq):=aL F5 rfl;have c1:wr.cell? (ak w 1)=some (.slice wa im.ar8.length wc):=aL F5 rfl;have c2:wr.cell? (ak w 2)=some (ah im.ase):=aL F5 rfl;have aqx:=hbi.size;clear hbi F5;by_cases hlt2:k<N
   ·have hkN:k<(bQ im.av).length:=by rw[HN.af];exact hlt2
    obtain⟨i,hi⟩:∃i,(bQ im.av)[k]? =some i:=⟨_,gP hkN⟩;obtain⟨hi1,hi2⟩:=SI.af k i hi;have hkl:k<(oI (bQ im.av)).length:=by rw[wD];exact hkN
    obtain rfl:=alq.af.addr wP;have go':=alq.af.oC k _ (Hil.af k i hi);have go1:=(qi.af.cell (fD _ _ go')).trans go';obtain rfl:=CB.af.addr wP;obtain⟨s,hx⟩:∃s,im.av[i]? =some s:=⟨_,gP hi1⟩;have hsn:=JI hx;obtain⟨hok,g0',_⟩:=(CB.af.below B3.af).rR i s hx;have g0:=(qi.af.cell (fD _ _ g0')).trans g0';have hnl:=hok.arT;have hrange:=uG s.arT;have hhome:=Rz s.arT im.ar9.length p2;have uV:Hid (tC im i=(decide ((im.ar9.getD (jY s.arT im.ar9.length) []).count (i:Int)=1)&& !tH im.ar8 im.ase (lw s.arT))):=aj (by rw[tC,Aq,hsn]);have qL:=aj (Z9 im k i hi);have yx:=aj (jM (tC im) (bQ im.av) k i hi);obtain⟨c,hc⟩:∃c,im.ar9[jY s.arT im.ar9.length]? =some c:=⟨_,gP hhome⟩;obtain rfl:=RD.af.addr wP;obtain⟨cv,gc',KC⟩:=(RD.af.below B3.af).Si _ c hc;have gc:=(qi.af.cell (fD _ _ gc')).trans gc';have HL:=aj (fun (w':World) (h:Below w3 w3 w')=>adg w' (.slice wa im.ar8.length wc) im.ar8 im.ase (lw s.arT).toNat ((Hw.af.below (B3.af.trans (h.mono wP))).mono (by have:=h.size;omega)) Hr.af wP qm.af);have HS:=aj (fun (w':World) (h:Below w3 w3 w')=>Z8 w' cv c (i:Int) ((KC.mono (by omega:w.heap.size<=w3)).below h |>.mono h.size));have HH:=aj (fun w'=>XQ w' s.arT im.ar9.length hnl p2 p3);have HA:=aj (fun w'=>Od w' s.arT hnl);rw[Int.toNat_of_nonneg hrange.1]at HL;obtain⟨ca,cc,rfl⟩:=KC.form;have Hgd:Hid (im.ar9.getD (jY s.arT im.ar9.length) []=c):=aj (by rw[tK,hc];rfl);rw[Hgd.af]at uV;have hblt:=fD _ _ gc;have aqy:=fD _ _ go1;clear hi hkN hkl go' hx hsn g0' hok hc gc' KC Hgd;generalize lw s.arT=hh at *;generalize jY s.arT im.ar9.length=hm at *;generalize hcn:c.count (i:Int)=cn at *;have l0:=fun x:Later wr=>x.cell c0
    have l1:=fun x:Later wr=>x.cell c1
    have l2:=fun x:Later wr=>x.cell c2
    have l3:=fun x:Later wr=>x.cell go1
    have l4:=fun x:Later wr=>x.cell gc
    clear Hr Hs;by_cases h1:cn=1
    ·have hd1:((cn:Int) != 1)=false:=by rw[bne_eq_false_iff_eq];omega
     go_wp2_with fail;refine dG TA TA ?_
     repeat (go_big_quiet_step (first | (go_at_call 81;exact Later.Ar _ (HH.af _)) | (go_at_call 138;refine Later.Ar _ (HS.af _ ?_);exact qi.af.trans ((Later.h _).mono wP)) | (go_at_call 83;exact Later.Ar _ (HA.af _)) | (go_at_call 139;refine Later.call _ (HL.af _ ?_);exact qi.af.trans ((Later.h _).mono wP))))
     refine lD ?_;rintro _ ⟨⟨wq,hq⟩,rfl⟩;try simp only at hq
     have Hq:=aj (qi.af.trans (hq.mono wP));clear hq l0 l1 l2 l3 l4 HL HS HH HA
     cases hlk:tH im.ar8 im.ase hh with
     | true=>
      have Hn:=aj (qL.af (by rw[uV.af,hlk];simp));clear hlk;go_wp2;go_ret;exact⟨by rw[Hn.af];rfl,B3.af.trans (Hq.af.mono wP)⟩
     | false=>
      have Hy:Hid (tC im i=true):=aj (by rw[uV.af,hlk,h1];rfl);clear hlk;go_wp2;go_roundw;exact⟨k+1,arH,wP,by rw[yx.af,iT.af,Hy.af];rfl,Hq.af⟩;simp[intOf];omega
    ·have hd1:((cn:Int) != 1)=true:=by rw[bne_iff_ne];omega
     have Hn:=aj (qL.af (by rw[uV.af,decide_eq_false (p:=cn=1) h1];rfl));go_wp2_with fail;refine dG TA TA ?_
     repeat (go_big_quiet_step (first | (go_at_call 81;exact Later.Ar _ (HH.af _)) | (go_at_call 138;refine Later.Ar _ (HS.af _ ?_);exact qi.af.trans ((Later.h _).mono wP))))
     refine lD ?_;rintro _ ⟨⟨wq,hq⟩,rfl⟩;try simp only at hq
     have Hq:=aj (qi.af.trans (hq.mono wP));clear hq l0 l1 l2 l3 l4 HL HS HH HA;go_wp2;go_ret;exact⟨by rw[Hn.af];rfl,B3.af.trans (Hq.af.mono wP)⟩
   ·have zC:Hid (wW im=decide (M=N)):=aj (by
     have h:=iT.af;rw[dh (by rw[HN.af];omega)]at h;rw[HT.af,qm.af,an4.af,h,decide_eq_true (p:=im.av.length<=512) p1,decide_eq_true (p:=1<=im.ar9.length) p2,decide_eq_true (p:=im.ar9.length<=512) p3];simp)
    go_wp2;go_ret;exact⟨vE (by rw[zC.af,Rq];simp;omega),B3.af.trans (qi.af.mono wP)⟩
def CE (im:bK):Int:=if nA im=true then 0 else 80
theorem Oi (h:nA im=false):CE im=80:=by rw[CE,h];rfl
theorem QA (h:nA im=true):CE im=0:=by rw[CE,h];rfl
abbrev Dr (im:bK) (b:Nat) (last:Int) (l:List Int):Bool:=chainB im.av im.ar8 im.ase im.ar9.length b last l
abbrev KE (im:bK) (b:Nat) (l:List (List Int)):Bool:=Ap im.av im.ar8 im.ase im.ar9.length b l
theorem aaf (im:bK):nA im=(decide (im.av.length<=512)&&decide (1<=im.ar9.length)&&decide (im.ar9.length<=512)&&oz im.ar8 im.ase&&KE im 0 im.ar9&&
 decide ((qG im).sum=(bQ im.av).length)):=by rw[Em];rfl
theorem RF (im:bK) (b:Nat) (last i:Int) (l:List Int):Dr im b last (i :: l)=(decide (last<i)&&rT im b i&&Dr im b i l):=by unfold Dr;rw[chainB];rfl
theorem akK (h:¬last<i):Dr im b last (i :: l)=false:=by rw[RF,decide_eq_false (p:=last<i) h];rfl
theorem P9 (h:rT im b i=false):Dr im b last (i :: l)=false:=by rw[RF,h];simp
theorem als (h:last<i) (h2:rT im b i=true):Dr im b last (i :: l)=Dr im b i l:=by rw[RF,h2,decide_eq_true (p:=last<i) h];rfl
theorem ait {c:List Int} {l:List (List Int)} (h:Dr im b (-1) c=false):KE im b (c :: l)=false:=by unfold KE;rw[Ap];unfold Dr at h;rw[h];rfl
theorem akL {c:List Int} {l:List (List Int)} (h:Dr im b (-1) c=true):KE im b (c :: l)=KE im (b+1) l:=by unfold KE;rw[Ap];unfold Dr at h;rw[h];rfl
theorem adj (h:(im.av.length:Int)<=i):rT im b i=false:=by
 unfold rT;rw[if_neg wP,List.getElem?_eq_none wP]
theorem ag3 {s:bF} (h:im.av[k]? =some s):rT im b (k:Int)=(ow s&&decide (jY s.arT im.ar9.length=b)&& !tH im.ar8 im.ase (lw s.arT)):=by
 unfold rT;rw[if_neg wP,AZ,h]
theorem adk (w:World) (im:bK) (vb vw vs:Value) (hb:LB tJ (·<w.heap.size) w vb im.ar9) (hw:LB jQ (·<w.heap.size) w vw im.ar8) (hs:LB gq (·<w.heap.size) w vs im.av)
  (hr:∀x∈im.ar8,0<=x/\x<18446744073709551616):
  Calls asq 61 #[.agg #[vb,vw,ah im.ase],vs] w fun e w'=>e=.returned (ah (CE im))/\Below w w w':=by
 obtain⟨ba,bb,aac,Bq,rfl,hbm,hbc,aad⟩:=hb.at;obtain⟨sa,sb,yu,jO,rfl,hsm,hsc,rA⟩:=hs.at;obtain⟨wa,wc,hwv⟩:=hw.form;subst hwv;have Hw:=aj hw;have HT:=aj (aaf im);have RD:=aj aad;have CB:=aj rA;have Hr:=aj hr;have Hs:=aj hs;have XW:=hw.max;have qL:=aj (fun h=>Oi (im:=im) h);clear hb hs hw aad rA hr;have B1:=aj ((PZ w.heap.size w).alloc (oD _) (aB #[.slice ba im.ar9.length Bq,.slice wa im.ar8.length wc,ah im.ase] 38));have F1:=aj (ah2 w (aB #[.slice ba im.ar9.length Bq,.slice wa im.ar8.length wc,ah im.ase] 38));by_cases p1:im.av.length<=512
 case neg=>
  have Hn:=aj (qL.af (by rw[HT.af,decide_eq_false (p:=im.av.length<=512) p1];simp));have q1:512<im.av.length:=wP;go_enter Tryz.func61,Tryz.ntmps61;go_wp2;go_ret;exact⟨by rw[Hn.af];rfl,B1.af⟩
 have q1:¬512<im.av.length:=wP;by_cases p2:1<=im.ar9.length
 case neg=>
  have Hn:=aj (qL.af (by rw[HT.af,decide_eq_false (p:=1<=im.ar9.length) p2];simp));have q2:im.ar9.length<1:=wP;go_enter Tryz.func61,Tryz.ntmps61;go_wp2;go_ret;exact⟨by rw[Hn.af];rfl,B1.af⟩
 have q2:¬im.ar9.length<1:=wP;by_cases p3:im.ar9.length<=512
 case neg=>
  have Hn:=aj (qL.af (by rw[HT.af,decide_eq_false (p:=im.ar9.length<=512) p3];simp));have q3:512<im.ar9.length:=wP;go_enter Tryz.func61,Tryz.ntmps61;go_wp2;go_ret;exact⟨by rw[Hn.af];rfl,B1.af⟩
 have q3:¬512<im.ar9.length:=wP;have Hf:=aj (fun w=>E8 w im.ar8 wa wc im.ase wP);go_enter Tryz.func61,Tryz.ntmps61;go_wp2_with fail;have hz1:w.heap.size<(w.alloc (aB #[.slice ba im.ar9.length Bq,.slice wa im.ar8.length wc,ah im.ase] 38)):=arG;generalize w.alloc (aB #[.slice ba im.ar9.length Bq,.slice wa im.ar8.length wc,ah im.ase] 38)=w1 at *;refine(Hf.af w1).mono ?_;rintro e w2 ⟨rfl,hb2⟩;have B2:=aj (B1.af.trans (hb2.mono wP));have F2:=aj ((hb2.block _ hz1).trans F1.af);have hz2:=hb2.size;clear hb2 B1 F1 Hf
 cases hsv:oz im.ar8 im.ase with
 | false=>
  have Hn:=aj (qL.af (by rw[HT.af,hsv];simp));have he:pM im.ar8 im.ase=20:=by rw[pM,hsv];rfl
  rw[he];clear hsv he;go_wp2;go_ret;exact⟨by rw[Hn.af];rfl,B2.af⟩
 | true=>
  have qm:=aj hsv;have he:pM im.ar8 im.ase=0:=by rw[pM,hsv];rfl
  rw[he];have c0:w2.cell? (ak w 0)=some (.slice ba im.ar9.length Bq):=aL F2.af rfl;clear hsv he;go_wp2_with fail;go_loopw [5,37] (fun n i wr=>∃(b M:Nat),i=ah b/\b<=im.ar9.length/\n=ah (M:Int)/\M=((qG im).take b).sum/\M<=513*b/\KE im 0 im.ar9=KE im b (im.ar9.drop b)/\Below w2 w2 wr) (fun _ i _=>im.ar9.length-(intOf i).toNat);exact⟨0,0,rfl,alg _,rfl,arG,arG,arG,PZ _ _⟩;obtain⟨b,M,rfl,hbk,rfl,hM,hMb,hch,hbel⟩:=hrel;have HM:=aj hM;have Hch:=aj hch;have di:=aj hbel;have AB:=hbel.size;have F4:=(hbel.block w.heap.size wP).trans F2.af;clear hM hch hbel c0;by_cases hlt:b<im.ar9.length
  ·obtain rfl:=RD.af.addr wP
   obtain⟨c,hc⟩:∃c,im.ar9[b]? =some c:=⟨_,gP hlt⟩;obtain⟨cv,gc,KC⟩:=(RD.af.below B2.af).Si b c hc;have gc2:wr.cell? (ak bb (aac+b))=some cv:=iq di.af gc;obtain⟨ca,cb,ais,an3,rfl,hcm,hcc,Br⟩:=KC.at;have Bt:=aj Br;have aae:=aj (Na (qG im) b c.length (by simp[qG,hc]));have mM:=aj (drop_cons im.ar9 b c hc);have hMx:M<=513*512:=eG hMb (Nat.mul_le_mul_left _ wP);clear hc gc KC Br F4;go_wp2_with fail;go_loopw [5,8,44] (fun n la i wi=>∃(k:Nat) (x:Int),i=ah k/\k<=c.length/\n=ah ((M+k:Nat):Int)/\la=ah x/\ -1<=x/\x<=512/\(k:Int)<=x+1/\Dr im b (-1) c=Dr im b x (c.drop k)/\Below w2 w2 wi) (fun _ _ i _=>c.length-(intOf i).toNat);exact⟨0,-1,rfl,alg _,rfl,rfl,abD,abD,abD,arG,di.af⟩;obtain⟨k,x,rfl,hk,rfl,rfl,hx0,hx1,hkx,hcx,hbi⟩:=hrel;have Hcx:=aj hcx;have qi:=aj hbi;have hzi:=hbi.size;have F5:=(hbi.block w.heap.size wP).trans F2.af;have c0:wr.cell? (ak w 0)=some (.slice (some ⟨bb,aac,none⟩) im.ar9.length Bq):=aL F5 rfl;have c1:wr.cell? (ak w 1)=some (.slice wa im.ar8.length wc):=aL F5 rfl;have c2:wr.cell? (ak w 2)=some (ah im.ase):=aL F5 rfl;clear hcx hbi F5;by_cases hlt2:k<c.length
   ·obtain rfl:=Bt.af.addr wP
    obtain⟨i,hi⟩:∃i,c[k]? =some i:=⟨_,gP hlt2⟩;have gi:=(qi.af.cell (fD _ _ (Bt.af.oC k i hi))).trans (Bt.af.oC k i hi);have Hdi:=aj (drop_cons c k i hi);have aag:Hid (Dr im b x (i :: c.drop (k+1))=false->CE im=80):=aj (fun h=>qL.af (by rw[HT.af,Hch.af,mM.af,ait (by rw[Hcx.af,Hdi.af,h])];simp));have l0:=fun y:Later wr=>y.cell c0
    have l1:=fun y:Later wr=>y.cell c1
    have l2:=fun y:Later wr=>y.cell c2
    clear hi c0 c1 c2;by_cases h1:x<i
    case neg=>
     have Hn:=aj (aag.af (akK h1));have hd1:decide (i<=x)=true:=by rw[arI];omega
     go_wp2_with fail;refine dG TA TA ?_
     repeat (go_big_quiet_step (fail))
     refine lD ?_;rintro _ ⟨⟨wq,hq⟩,rfl⟩;try simp only at hq
     have Hq:=aj hq;clear hq;go_wp2;go_ret;exact⟨by rw[Hn.af];rfl,B2.af.trans ((qi.af.trans (Hq.af.mono wP)).mono wP)⟩
    have hd1:decide (i<=x)=false:=by rw[arN];omega
    by_cases h2:(im.av.length:Int)<=i
    case pos=>
     have Hn:=aj (aag.af (P9 (adj h2)));have hd2:decide ((im.av.length:Int)<=i)=true:=by rw[arI];exact h2
     go_wp2_with fail;refine dG TA TA ?_
     repeat (go_big_quiet_step (fail))
     refine lD ?_;rintro _ ⟨⟨wq,hq⟩,rfl⟩;try simp only at hq
     have Hq:=aj hq;clear hq;go_wp2;go_ret;exact⟨by rw[Hn.af];rfl,B2.af.trans ((qi.af.trans (Hq.af.mono wP)).mono wP)⟩
    have hd2:decide ((im.av.length:Int)<=i)=false:=by rw[arN];exact h2
    obtain⟨j,rfl⟩:∃j:Nat,i=j:=⟨i.toNat,wP⟩;have hj:j<im.av.length:=wP;have aqz:decide (im.av.length<=j)=false:=by rw[arN];omega
    obtain rfl:=CB.af.addr wP;obtain⟨s,hx⟩:∃s,im.av[j]? =some s:=⟨_,gP hj⟩;have He:=aj (ag3 (b:=b) hx);obtain⟨hok,g0',g1',g2',g3',g4',g5',g6',g7',g8'⟩:=(CB.af.below B2.af).rR j s hx;have hnl:=hok.arT;have hrange:=uG s.arT;have QB:∀ {p:Addr} {v:Value},w2.cell? p=some v->wr.cell? p=some v:=fun {p v} h=>(qi.af.cell (fD _ _ h)).trans h
    have m0:=fun y:Later wr=>y.cell (QB g0')
    have m1:=fun y:Later wr=>y.cell (QB g1')
    have m2:=fun y:Later wr=>y.cell (QB g2')
    have m3:=fun y:Later wr=>y.cell (QB g3')
    have m4:=fun y:Later wr=>y.cell (QB g4')
    have m5:=fun y:Later wr=>y.cell (QB g5')
    have m6:=fun y:Later wr=>y.cell (QB g6')
    have m7:=fun y:Later wr=>y.cell (QB g7')
    have m8:=fun y:Later wr=>y.cell (QB g8')
    have HS:=aj (fun w'=>Xu w' s);have HH:=aj (fun w'=>Qs w' (some ⟨bb,aac,none⟩) im.ar9.length Bq (.slice wa im.ar8.length wc) im.ase s.arT hnl p2 p3);have HA:=aj (fun w'=>Oc w' s.arT hnl);have HL:=aj (fun (w':World) (h:Below w2 w2 w')=>adf w' (.slice wa im.ar8.length wc) im.ar8 im.ase (lw s.arT).toNat ((Hw.af.below (B2.af.trans (h.mono wP))).mono (by have:=h.size;omega)) Hr.af wP qm.af);rw[Int.toNat_of_nonneg hrange.1]at HL;clear g0' g1' g2' g3' g4' g5' g6' g7' g8' QB hx hok;generalize lw s.arT=hh at *;generalize jY s.arT im.ar9.length=hm at *
    cases hsn:ow s with
    | false=>
     have Hn:=aj (aag.af (P9 (by rw[He.af,hsn];rfl)));rw[hsn]at HS;clear hsn;go_wp2_with fail;refine dG TA TA ?_
     repeat (go_big_quiet_step (first | (go_at_call 108;exact Later.call _ (HS.af _))))
     refine lD ?_;rintro _ ⟨⟨wq,hq⟩,rfl⟩;try simp only at hq
     have Hq:=aj hq;clear hq;go_wp2;go_ret;exact⟨by rw[Hn.af];rfl,B2.af.trans ((qi.af.trans (Hq.af.mono wP)).mono wP)⟩
    | true=>
     rw[hsn]at HS He;clear hsn;by_cases h4:hm=b
     case neg=>
      have Hn:=aj (aag.af (P9 (by rw[He.af,decide_eq_false (p:=hm=b) h4];rfl)));have hd4:((hm:Int) != (b:Int))=true:=by rw[bne_iff_ne];omega
      go_wp2_with fail;refine dG TA TA ?_
      repeat (go_big_quiet_step (first | (go_at_call 108;exact Later.call _ (HS.af _)) | (go_at_call 57;exact Later.call _ (HH.af _))))
      refine lD ?_;rintro _ ⟨⟨wq,hq⟩,rfl⟩;try simp only at hq
      have Hq:=aj hq;clear hq;go_wp2;go_ret;exact⟨by rw[Hn.af];rfl,B2.af.trans ((qi.af.trans (Hq.af.mono wP)).mono wP)⟩
     have hd4:((hm:Int) != (b:Int))=false:=by rw[bne_eq_false_iff_eq];omega
     go_wp2_with fail;refine dG TA TA ?_
     repeat (go_big_quiet_step (first | (go_at_call 108;exact Later.call _ (HS.af _)) | (go_at_call 57;exact Later.call _ (HH.af _)) | (go_at_call 109;exact Later.Ar _ (HA.af _)) | (go_at_call 114;refine Later.call _ (HL.af _ ?_);exact qi.af.trans ((Later.h _).mono wP))))
     refine lD ?_;rintro _ ⟨⟨wq,hq⟩,rfl⟩;try simp only at hq
     have Hq:=aj hq;clear hq l0 l1 l2 m0 m1 m2 m3 m4 m5 m6 m7 m8 HS HH HA HL
     cases hlk:tH im.ar8 im.ase hh with
     | true=>
      have Hn:=aj (aag.af (P9 (by rw[He.af,hlk];simp)));clear hlk;go_wp2;go_ret;exact⟨by rw[Hn.af];rfl,B2.af.trans ((qi.af.trans (Hq.af.mono wP)).mono wP)⟩
     | false=>
      have Hy:Hid (Dr im b (-1) c=Dr im b (j:Int) (c.drop (k+1))):=aj (by rw[Hcx.af,Hdi.af,als h1 (by rw[He.af,hlk,decide_eq_true (p:=hm=b) h4];rfl)]);clear hlk;go_wp2;go_roundw;exact⟨k+1,(j:Int),arH,wP,arH,rfl,wP,wP,wP,Hy.af,qi.af.trans (Hq.af.mono wP)⟩;simp[intOf];omega
   ·have Hcc:Hid (Dr im b (-1) c=true):=aj (by rw[Hcx.af,zY wP];rfl)
    have hkl:k=c.length:=wP;have Hck:Hid (k=c.length):=aj hkl;clear hkl c0 c1 c2;go_wp2;go_roundw;exact⟨b+1,M+k,arH,wP,by first | rfl | go_num,by rw[aae.af,<-HM.af,Hck.af],wP,by rw[Hch.af,mM.af,akL Hcc.af],qi.af⟩;simp[intOf];omega
  ·have Nb:Hid (KE im 0 im.ar9=true):=aj (by rw[Hch.af,zY wP];rfl)
   have Hsu:Hid (M=(qG im).sum):=aj (by rw[HM.af,dh (by simp[qG];omega)]);have HR:Hid (nA im=decide (M=(bQ im.av).length)):=aj (by rw[HT.af,Nb.af,qm.af,Hsu.af,decide_eq_true (p:=im.av.length<=512) p1,decide_eq_true (p:=1<=im.ar9.length) p2,decide_eq_true (p:=im.ar9.length<=512) p3];simp);have HO:=aj (fun h=>QA (im:=im) h);have hsl:(bQ im.av).length<=512:=by have:=FE im.av im.av.length;rw[bQ];omega
   clear F4;go_wp2_with fail;refine(Qw wr _ im.av ((Hs.af.below (B2.af.trans (di.af.mono wP))).mono wP) p1).mono ?_;rintro e w3 ⟨r,l,rfl,hown,hown2,hb3⟩;have B3:=aj ((B2.af.trans (di.af.mono wP)).trans (hb3.mono wP));obtain⟨oa,oc,rfl⟩:=hown.form;obtain⟨pa,pc,rfl⟩:=hown2.form;rw[wD];clear hown hown2 hb3;generalize (bQ im.av).length=N at *;by_cases hMN:M=N
   ·have Hn:=aj (HO.af (by rw[HR.af];simp[hMN]))
    have hd:((M:Int) != (N:Int))=false:=by rw[bne_eq_false_iff_eq];omega
    go_wp2;go_ret;exact⟨by rw[Hn.af];rfl,B3.af⟩
   ·have Hn:=aj (qL.af (by rw[HR.af];simp[hMN]))
    have hd:((M:Int) != (N:Int))=true:=by rw[bne_iff_ne];omega
    go_wp2;go_ret;exact⟨by rw[Hn.af];rfl,B3.af⟩
end Go.Proofs.YtpjgjeadjjackaaGreat
