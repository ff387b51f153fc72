/- Lemmas. -/
import Derived.Test.YtfchpchabdhcgaaGreatDec2
import Derived.Laws.IdiomStrings
import Derived.BigQuiet
set_option linter.unusedVariables false
set_option linter.unusedSimpArgs false
set_option maxHeartbeats 64000000
set_option maxRecDepth 100000
namespace Go.Proofs.YtfchpchabdhcgaaGreat
open Go.RowKit
theorem nall_take_succ (p:List UInt8) (k:Nat) (h:k<p.length) (ha:(p.take k).all nameC=true) (hc:nameC p[k]=true):(p.take (k+1)).all nameC=true:=by
 rw [List.take_succ_eq_append_getElem h,List.all_append,ha]
 simp [hc]
theorem nname_no (p:List UInt8) (k:Nat) (h:k<p.length) (hc:nameC p[k]=false):nameB p=false:=by
 have:p.all nameC=false:=by
  rw [List.all_eq_false]
  exact⟨p[k],List.getElem_mem h,by simp [hc]⟩
 simp [nameB,this]
theorem vname_any (w:World) (p:List UInt8) (hp:p.length≤9223372036854775807):
  Calls Tryz.prog 73 #[.string ⟨p.toArray⟩] w fun e w'=>e=.returned (.bool (nameB p))∧Below w.heap.size w w':=by
 have hsz:=size_mk p
 have hconv:=run_bytes_of_string (P:=Tryz.prog) w 9 22 5 ⟨p.toArray⟩ Tryz.underlying9 Tryz.underlying22 Tryz.underlying5
 rw [hsz]at hconv
 have Hcells:Hid (∀ k (h:k<p.length),(w.drew.alloc (.cells (bytesRow ⟨p.toArray⟩ (grownCap w p.length 0 5)) 5 ((bytesRow ⟨p.toArray⟩ (grownCap w p.length 0 5)).size,(bytesRow ⟨p.toArray⟩ (grownCap w p.length 0 5)).size+1))).cell? ⟨w.heap.size,k,none⟩=some (.int .u8 p[k].toNat)):=Lib.hid (by
  intro k h
  have hh:(w.drew.alloc (.cells (bytesRow ⟨p.toArray⟩ (grownCap w p.length 0 5)) 5 ((bytesRow ⟨p.toArray⟩ (grownCap w p.length 0 5)).size,(bytesRow ⟨p.toArray⟩ (grownCap w p.length 0 5)).size+1))).heap[w.heap.size]? =_:=heap_alloc_new w.drew _
  simp only [World.cell?,hh]
  exact bytesRow_at ⟨p.toArray⟩ _ k (by simpa using h))
 have Hbel:Hid (Below w.heap.size w (w.drew.alloc (.cells (bytesRow ⟨p.toArray⟩ (grownCap w p.length 0 5)) 5 ((bytesRow ⟨p.toArray⟩ (grownCap w p.length 0 5)).size,(bytesRow ⟨p.toArray⟩ (grownCap w p.length 0 5)).size+1)))):=Lib.hid (((Below.refl _ w).drew).alloc (Nat.le_refl _) _)
 generalize (w.drew.alloc (.cells (bytesRow ⟨p.toArray⟩ (grownCap w p.length 0 5)) 5 ((bytesRow ⟨p.toArray⟩ (grownCap w p.length 0 5)).size,(bytesRow ⟨p.toArray⟩ (grownCap w p.length 0 5)).size+1)))=w1 at *
 generalize grownCap w p.length 0 5=gc at *
 go_enter Tryz.func73,Tryz.ntmps73
 go_wp2_with fail
 go_loop [8] (fun i=>∃ k:Nat,k≤p.length∧i=.int .i64 k∧(p.take k).all nameC=true) (fun i=>p.length-(intOf i).toNat)
 case atStart=>exact⟨0,Nat.zero_le _,rfl,by simp⟩
 case round=>
  obtain⟨k,hk,rfl,hall⟩:=hrel
  have Hall:=Lib.hid hall
  clear hall hconv
  by_cases hlt:k<p.length
  ·have g:=Hcells.out k hlt
   obtain⟨c,hcx⟩:∃ c,p[k]=c:=⟨_,rfl⟩
   rw [hcx]at g
   have Hyes:Hid (nameC c=true→(p.take (k+1)).all nameC=true):=Lib.hid (fun h=>nall_take_succ p k hlt Hall.out (by rw [hcx];exact h))
   have Hno:Hid (nameC c=false→nameB p=false):=Lib.hid (fun h=>nname_no p k hlt (by rw [hcx];exact h))
   have Hdef:Hid (nameC c=nameN c.toNat):=Lib.hid rfl
   clear hcx
   generalize (c.toNat:Int)=n at *
   generalize nameC c=bl at *
   cases bl with
   | true=>
    have Hy:=Lib.hid (Hyes.out rfl)
    clear Hyes Hno
    go_wp2
    all_goals try(exfalso;have:=Hdef.out;simp [nameN]at this;(try simp only [beq_eq_false_iff_ne,bne_eq_false_iff_eq,bne_iff_ne,beq_iff_eq,ne_eq]at *);omega)
    all_goals go_round
    all_goals first | exact⟨k+1,by omega,by go_num,Hy.out⟩ | (simp [intOf];done) | (simp [intOf];omega)
   | false=>
    have Hn:=Lib.hid (Hno.out rfl)
    clear Hyes Hno
    go_wp2
    all_goals try(exfalso;have:=Hdef.out;simp [nameN]at this;(try simp only [beq_eq_false_iff_ne,bne_eq_false_iff_eq,bne_iff_ne,beq_iff_eq,ne_eq]at *);omega)
    all_goals go_ret
    all_goals exact⟨by rw [Hn.out];rfl,Hbel.out⟩
  ·have hall:p.all nameC=true:=by have:=Hall.out;rw [List.take_of_length_le (by omega)]at this;exact this
   have hr:nameB p=(decide (1≤p.length)&&decide (p.length≤64)):=by simp [nameB,hall]
   have Hr:=Lib.hid hr
   clear hr hall
   by_cases h1:1≤p.length
   ·have hd1:decide (1≤(p.length:Int))=true:=by rw [decide_eq_true_eq];omega
    by_cases h2:p.length≤64
    ·have hd2:decide ((p.length:Int)≤64)=true:=by rw [decide_eq_true_eq];omega
     have Hr2:Hid (nameB p=true):=Lib.hid (by rw [Hr.out];simp [h1,h2])
     go_wp2
     go_ret
     exact⟨by rw [Hr2.out];rfl,Hbel.out⟩
    ·have hd2:decide ((p.length:Int)≤64)=false:=by rw [decide_eq_false_iff_not];omega
     have Hr2:Hid (nameB p=false):=Lib.hid (by rw [Hr.out];simp [h2])
     go_wp2
     go_ret
     exact⟨by rw [Hr2.out];rfl,Hbel.out⟩
   ·have hd1:decide (1≤(p.length:Int))=false:=by rw [decide_eq_false_iff_not];omega
    have Hr2:Hid (nameB p=false):=Lib.hid (by rw [Hr.out];simp [h1])
    go_wp2
    go_ret
    exact⟨by rw [Hr2.out];rfl,Hbel.out⟩
theorem jname_any (w:World) (p:List UInt8) (hp:p.length≤9223372036854775807):
  Calls Tryz.prog 89 #[.string ⟨p.toArray⟩] w fun e w'=>e=.returned (.bool (nameB p))∧w'=w:=by
 have hsz:=size_mk p
 by_cases h1:1≤p.length
 case neg=>
  have Hr:Hid (nameB p=false):=Lib.hid (by simp [nameB,h1])
  go_enter Tryz.func89,Tryz.ntmps89
  go_wp2
  go_ret
  exact⟨by rw [Hr.out];rfl,rfl⟩
 by_cases h2:p.length≤64
 case neg=>
  have Hr:Hid (nameB p=false):=Lib.hid (by simp [nameB,h2])
  go_enter Tryz.func89,Tryz.ntmps89
  go_wp2
  go_ret
  exact⟨by rw [Hr.out];rfl,rfl⟩
 have hg2:¬ 64<p.length:=by omega
 have hg1:¬ p.length<1:=by omega
 go_enter Tryz.func89,Tryz.ntmps89
 go_wp2
 go_loop [3] (fun i=>∃ k:Nat,k≤p.length∧i=.int .i64 k∧(p.take k).all nameC=true) (fun i=>p.length-(intOf i).toNat)
 case atStart=>exact⟨0,Nat.zero_le _,rfl,by simp⟩
 case round=>
  obtain⟨k,hk,rfl,hall⟩:=hrel
  have Hall:=Lib.hid hall
  clear hall
  by_cases hlt:k<p.length
  ·obtain⟨c,hcx⟩:∃ c,p[k]=c:=⟨_,rfl⟩
   have hx:(⟨p.toArray⟩:ByteArray)[k]'(by omega)=c:=hcx
   have Hyes:Hid (nameC c=true→(p.take (k+1)).all nameC=true):=Lib.hid (fun h=>nall_take_succ p k hlt Hall.out (by rw [hcx];exact h))
   have Hno:Hid (nameC c=false→nameB p=false):=Lib.hid (fun h=>nname_no p k hlt (by rw [hcx];exact h))
   have Hdef:Hid (nameC c=nameN c.toNat):=Lib.hid rfl
   clear hcx
   generalize nameC c=bl at *
   cases bl with
   | true=>
    have Hy:=Lib.hid (Hyes.out rfl)
    clear Hyes Hno
    go_wp2
    all_goals try(exfalso;have:=Hdef.out;simp [nameN]at this;(try simp only [beq_eq_false_iff_ne,bne_eq_false_iff_eq,bne_iff_ne,beq_iff_eq,ne_eq]at *);omega)
    all_goals go_round
    all_goals first | exact⟨k+1,by omega,by go_num,Hy.out⟩ | (simp [intOf];done) | (simp [intOf];omega)
   | false=>
    have Hn:=Lib.hid (Hno.out rfl)
    clear Hyes Hno
    go_wp2
    all_goals try(exfalso;have:=Hdef.out;simp [nameN]at this;(try simp only [beq_eq_false_iff_ne,bne_eq_false_iff_eq,bne_iff_ne,beq_iff_eq,ne_eq]at *);omega)
    all_goals go_ret
    all_goals exact⟨by rw [Hn.out];rfl,rfl⟩
  ·have hall:p.all nameC=true:=by have:=Hall.out;rw [List.take_of_length_le (by omega)]at this;exact this
   have Hr:Hid (nameB p=true):=Lib.hid (by simp [nameB,hall,h1,h2])
   go_wp2
   go_ret
   exact⟨by rw [Hr.out];rfl,rfl⟩
end Go.Proofs.YtfchpchabdhcgaaGreat
