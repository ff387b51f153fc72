/- Lemmas. -/
import Derived.Test.YtfchpchabdhcgaaGreatDec22
set_option linter.unusedVariables false
set_option linter.unusedSimpArgs false
set_option maxHeartbeats 64000000
set_option maxRecDepth 100000
namespace Go.Proofs.YtfchpchabdhcgaaGreat
open Go.RowKit
theorem jlacks_any (w:World) (v:Value) (ws:List Int) (s:Int) (h:Nat) (hw:LB kWord (·<w.heap.size) w v ws) (hr:∀ x∈ws,0≤x∧x<18446744073709551616) (hh:h<4294967296) (hs:sieveB ws s=true):
  Calls Tryz.prog 96 #[.agg #[v,.int .i64 s],.int .u32 h] w fun e w'=>e=.returned (.bool (lacksB ws s (h:Int)))∧Below w.heap.size w w':=by
 obtain⟨a,b,off,c,rfl,hm,hc,hat⟩:=hw.at
 have hsB:=hs
 rw [sieveB_pow]at hs
 simp only [Bool.and_eq_true,decide_eq_true_eq]at hs
 obtain⟨⟨hp,hs1⟩,hs2⟩:=hs
 have hn:=(powB_iff _).1 hp
 have hn1:1≤ws.length∧ws.length≤64:=by omega
 obtain rfl:=hat.addr (by omega)
 have hk:h/64%ws.length<ws.length:=Nat.mod_lt _ (by omega)
 obtain⟨x,hx⟩:∃ x,ws[h/64%ws.length]? =some x:=⟨_,List.getElem?_eq_getElem hk⟩
 have hxr:=hr x (List.mem_of_getElem? hx)
 obtain⟨m,rfl⟩:∃ m:Nat,x=m:=⟨x.toNat,by omega⟩
 obtain⟨sn,rfl⟩:∃ sn:Nat,s=sn:=⟨s.toNat,by omega⟩
 have k1:h%64<64:=Nat.mod_lt _ (by decide)
 have k2:h/2 ^ sn%64<64:=Nat.mod_lt _ (by decide)
 have Hres:Hid (lacksB ws (sn:Int) (h:Int)=(!bitB (m:Int) (h%64)|| !bitB (m:Int) (h/2 ^ sn%64))):=Lib.hid (by
  rw [lacksB,Int.toNat_natCast,List.getD_eq_getElem?_getD,hx,Int.toNat_natCast,Bool.not_and];rfl)
 have HR:=Lib.hid (jfright_any (w.alloc (.cells #[.slice (some ⟨b,off,none⟩) ws.length c,.int .i64 (sn:Int)] 33 (0,0))) ws (some ⟨b,off,none⟩) c sn (by omega))
 rw [hsB]at HR
 have H1:=Lib.hid (fun w=>jhas_any w m (h%64) (by omega) (by omega))
 have H2:=Lib.hid (fun w=>jhas_any w m (h/2 ^ sn%64) (by omega) (by omega))
 have H3:=Lib.hid (fun w=>jshifted_any w h sn hh (by omega))
 have hq:h/2 ^ sn≤h:=Nat.div_le_self _ _
 have F1:=Lib.hid (heap_alloc_new w (.cells #[.slice (some ⟨b,off,none⟩) ws.length c,.int .i64 (sn:Int)] 33 (0,0)))
 have B1:=Lib.hid ((Below.refl w.heap.size w).alloc (Nat.le_refl _) (.cells #[.slice (some ⟨b,off,none⟩) ws.length c,.int .i64 (sn:Int)] 33 (0,0)))
 have Hat:=Lib.hid hat
 have hz1:w.heap.size<(w.alloc (.cells #[.slice (some ⟨b,off,none⟩) ws.length c,.int .i64 (sn:Int)] 33 (0,0))).heap.size:=by simp
 clear hat hr hw hp hn hc hm hsB
 go_enter Tryz.func96,Tryz.ntmps96
 go_wp2_with fail
 generalize w.alloc (.cells #[.slice (some ⟨b,off,none⟩) ws.length c,.int .i64 (sn:Int)] 33 (0,0))=w1 at *
 refine HR.out.mono ?_
 rintro e w2 ⟨rfl,hb2⟩
 have B2:=Lib.hid (B1.out.trans (hb2.mono (by omega)))
 have F2:=(hb2.block _ hz1).trans F1.out
 have c0:w2.cell? ⟨w.heap.size,0,none⟩=some (.slice (some ⟨b,off,none⟩) ws.length c):=by rw [Lib.cell_of_heap F2];rfl
 have c1:w2.cell? ⟨w.heap.size,1,none⟩=some (.int .i64 (sn:Int)):=by rw [Lib.cell_of_heap F2];rfl
 have hz2:=hb2.size
 have hcx:=(Hat.out.below B2.out).word1 _ _ hx
 have e1:((h:Int)/64).tmod (ws.length:Int)=((h/64%ws.length:Nat):Int):=by
  rw [Int.tmod_eq_emod_of_nonneg (by omega),Int.natCast_emod];rfl
 have hl0:((ws.length:Int)==0)=false:=by rw [beq_eq_false_iff_ne];omega
 clear hb2 HR F1 F2 hx
 generalize h/64%ws.length=q at *
 go_wp2_with fail
 go_quiet (fail)
 have e2:((h:Int)).tmod 64=((h%64:Nat):Int):=by rw [Int.tmod_eq_emod_of_nonneg (by omega)];omega
 generalize hb1:h%64=b1 at *
 generalize h/2 ^ sn=hd at *
 have e3:(hd:Int).tmod 64=((hd%64:Nat):Int):=by rw [Int.tmod_eq_emod_of_nonneg (by omega)];omega
 generalize hb2:hd%64=b2 at *
 go_wp2_with fail
 refine(H1.out _).mono ?_
 rintro e w3 ⟨rfl,rfl⟩
 go_wp2_with fail
 refine(H3.out _).mono ?_
 rintro e w3 ⟨rfl,rfl⟩
 go_wp2_with fail
 refine(H2.out _).mono ?_
 rintro e w3 ⟨rfl,rfl⟩
 cases hx1:bitB (m:Int) b1
 all_goals
  have Hx1:=Lib.hid hx1
  clear hx1
  go_wp2
  go_ret
  exact⟨by rw [Hres.out,Hx1.out];rfl,below_drewN B2.out _⟩
end Go.Proofs.YtfchpchabdhcgaaGreat
