/- Lemmas. -/
import Derived.Test.YtfchpchabdhcgaaGreatDec14
set_option linter.unusedVariables false
set_option linter.unusedSimpArgs false
set_option maxHeartbeats 64000000
set_option maxRecDepth 100000
namespace Go.Proofs.YtfchpchabdhcgaaGreat
open Go.RowKit
theorem powB_iff (n:Nat):powB n=true↔(n=1∨n=2∨n=4∨n=8∨n=16∨n=32∨n=64):=by
 simp only [powB,Bool.or_eq_true,decide_eq_true_eq];omega
theorem powB_next {n k:Nat} (hk:k=1∨k=2∨k=4∨k=8∨k=16∨k=32∨k=64∨k=128) (h:powB n=true→k≤n) (hn:n≠k):powB n=true→k*2≤n:=by
 intro hp
 have h1:=h hp
 rw [powB_iff]at hp
 omega
theorem powB_at {n k:Nat} (hk:k=1∨k=2∨k=4∨k=8∨k=16∨k=32∨k=64∨k=128) (h2:k≤64) (hn:n=k):powB n=true:=by rw [powB_iff];omega
theorem powB_end {n k:Nat} (h:powB n=true→k≤n) (h2:¬ k≤64):powB n=false:=by
 cases hp:powB n with
 | false=>rfl
 | true=>
  have h1:=h hp
  rw [powB_iff]at hp
  omega
theorem jwords_any (w:World) (n:Nat) (hz:n≤9223372036854775807):
  Calls Tryz.prog 107 #[.int .i64 n] w fun e w'=>e=.returned (.bool (powB n))∧w'=w:=by
 go_enter Tryz.func107,Tryz.ntmps107
 go_wp2
 go_loop [3] (fun i=>∃ k:Nat,i=.int .i64 k∧(k=1∨k=2∨k=4∨k=8∨k=16∨k=32∨k=64∨k=128)∧(powB n=true→k≤n)) (fun i=>200-(intOf i).toNat)
 case atStart=>exact⟨1,rfl,Or.inl rfl,fun h=>by rw [powB_iff]at h;omega⟩
 case round=>
  obtain⟨k,rfl,hk,hp⟩:=hrel
  have Hk:=Lib.hid hk
  have Hp:=Lib.hid hp
  have hk0:1≤k∧k≤128:=by omega
  clear hk hp
  by_cases h1:k≤64
  ·by_cases h2:n=k
   ·have Hr:=Lib.hid (powB_at Hk.out h1 h2)
    have hb:((n:Int)==(k:Int))=true:=by rw [beq_iff_eq];omega
    clear h2
    go_wp2
    go_ret
    exact⟨by rw [Hr.out];rfl,rfl⟩
   ·have Hq:=Lib.hid (powB_next Hk.out Hp.out h2)
    have hb:((n:Int)==(k:Int))=false:=by rw [beq_eq_false_iff_ne];omega
    clear h2
    go_wp2
    go_round
    case rel=>exact⟨k*2,by go_num,by have:=Hk.out;omega,Hq.out⟩
    case measure=>simp [intOf];omega
  ·have Hr:=Lib.hid (powB_end Hp.out h1)
   go_wp2
   go_ret
   exact⟨by rw [Hr.out];rfl,rfl⟩
theorem jfright_any (w:World) (ws:List Int) (a:Option Addr) (c:Nat) (s:Int) (hz:ws.length≤9223372036854775807):
  Calls Tryz.prog 94 #[.agg #[.slice a ws.length c,.int .i64 s]] w fun e w'=>e=.returned (.bool (sieveB ws s))∧Below w.heap.size w w':=by
 have Hb:=Lib.hid ((Below.refl w.heap.size w).alloc (Nat.le_refl _) (.cells #[.slice a ws.length c,.int .i64 s] 33 (0,0)))
 have Hd:=Lib.hid (sieveB_pow ws s)
 go_enter Tryz.func94,Tryz.ntmps94
 go_wp2_with fail
 refine(jwords_any _ ws.length hz).mono ?_
 rintro e w2 ⟨rfl,rfl⟩
 cases hp:powB ws.length with
 | false=>
  have Hr:Hid (sieveB ws s=false):=Lib.hid (by rw [Hd.out,hp];rfl)
  clear hp
  go_wp2
  all_goals go_ret
  all_goals exact⟨by rw [Hr.out];rfl,Hb.out⟩
 | true=>
  have Hr:Hid (sieveB ws s=(decide (1≤s)&&decide (s≤31))):=Lib.hid (by rw [Hd.out,hp];simp)
  clear hp
  by_cases h3:1≤s
  ·by_cases h4:s≤31
   ·have Hr2:Hid (sieveB ws s=true):=Lib.hid (by rw [Hr.out];simp [h3,h4])
    go_wp2
    all_goals go_ret
    all_goals exact⟨by rw [Hr2.out];rfl,Hb.out⟩
   ·have Hr2:Hid (sieveB ws s=decide (s≤31)):=Lib.hid (by rw [Hr.out];simp [h3])
    have h5:31<s:=by omega
    go_wp2
    all_goals go_ret
    all_goals exact⟨by rw [Hr2.out];rfl,Hb.out⟩
  ·have Hr2:Hid (sieveB ws s=false):=Lib.hid (by rw [Hr.out];simp [h3])
   go_wp2
   all_goals go_ret
   all_goals exact⟨by rw [Hr2.out];rfl,Hb.out⟩
end Go.Proofs.YtfchpchabdhcgaaGreat
