/- Lemmas. -/
import Derived.Test.YtfchpchabdhcgaaGreatDec23
import Derived.Test.YtfchpchabdhcgaaGreatDec11
set_option linter.unusedVariables false
set_option linter.unusedSimpArgs false
set_option maxHeartbeats 64000000
set_option maxRecDepth 100000
namespace Go.Proofs.YtfchpchabdhcgaaGreat
open Go.RowKit
theorem info_int:(Tryz.prog.info? 3).map (fun i=>(i.zero,i.size,i.bytes))=some (some (.int .i64 0),1,8):=by kernel_rfl
def toInts (l:List Nat):List Int:=l.map fun(k:Nat)=>(k:Int)
theorem toInts_len (l:List Nat):(toInts l).length=l.length:=by simp [toInts]
theorem symN_at {syms:List SymL} {k:Nat} {s:SymL} (h:syms[k]? =some s):symN syms k=s:=by rw [symN,h];rfl
theorem jseenl_any (w:World) (v:Value) (syms:List SymL) (hs:LB kSym (·<w.heap.size) w v syms) (hz:syms.length≤512):
  Calls Tryz.prog 65 #[v] w fun e w'=>∃ r,e=.returned r∧OwnK 3 kInt w.heap.size (fun _=>False) w' r (toInts (seenIx syms))∧Below w.heap.size w w':=by
 obtain⟨sa,sb,soff,scap,rfl,hsm,hsc,hat⟩:=hs.at
 have Hat:=Lib.hid hat
 clear hs hat
 go_enter Tryz.func65,Tryz.ntmps65
 go_wp2
 go_loopw [3,4] (fun o i wr=>∃ k:Nat,i=.int .i64 k∧k≤syms.length∧OwnK 3 kInt w.heap.size (fun _=>False) wr o (toInts (seenK syms k))∧Below w.heap.size w wr) (fun _ i _=>syms.length-(intOf i).toNat)
 case atStart=>exact⟨0,rfl,Nat.zero_le _,by exact OwnK.nil _ _ _ _ _,Below.refl _ _⟩
 case round=>
  obtain⟨k,rfl,hk,hown,hbel⟩:=hrel
  have hBr:=hbel.size
  by_cases hlt:k<syms.length
  ·obtain rfl:=Hat.out.addr (by omega)
   obtain⟨s,hx⟩:∃ s,syms[k]? =some s:=⟨_,List.getElem?_eq_getElem hlt⟩
   obtain⟨_,g0,g1,g2,g3,g4,g5,g6,g7,g8⟩:=(Hat.out.below hbel).sym9 k s hx
   have HS:=Lib.hid (seenK_succ syms k)
   rw [symN_at hx]at HS
   have hl:=seenK_le syms k
   have hl2:=toInts_len (seenK syms k)
   obtain⟨oa,oc,rfl⟩:=hown.form
   rw [hl2]at hown ⊢
   have Hown:=Lib.hid hown
   have Hbel:=Lib.hid hbel
   clear hown hbel hx
   have hsb:=World.block_lt_of_cell? _ _ g0
   go_wp2_with fail
   refine(jseen_any wr s).mono ?_
   rintro e w2 ⟨rfl,hb2⟩
   have B2:=Lib.hid (Hbel.out.trans (hb2.mono hBr))
   have O2:=Lib.hid (Hown.out.below hb2)
   have hz2:=hb2.size
   clear hb2 g0 g1 g2 g3 g4 g5 g6 g7 g8 Hown Hbel
   cases hsn:seenB s with
   | false=>
    rw [hsn]at HS
    go_wp2
    go_roundw
    case rel=>
     have h1:=O2.out
     have h2:=HS.out
     simp only [Bool.false_eq_true,if_false,List.append_nil]at h2
     exact⟨k+1,by go_num,by omega,by rw [h2];exact h1,B2.out⟩
    case measure=>simp [intOf];omega
   | true=>
    rw [hsn]at HS
    go_wp2_with (at_builtin;refine wpList_appendK (α:=Int) (K:=kInt) (e:=3) (B:=w.heap.size) (E:=fun _=>False) 38 (.int .i64 0) 8 Tryz.underlying38 info_int rfl (by decide) rfl (.tmp 16) (.tmp 18) rfl (seenK syms k).length hl2 rfl (O2.out.alloc _) (fun _ h=>h.elim) w2.heap.size (k:Int) [.int .i64 (k:Int)] rfl ?c1 ?c2 rfl ?c3 ?c4 ?c5 ?_)
    case c1=>
     intro j u hu
     match j,hu with
     | 0,hu=>simp at hu;subst hu;simp
     | j+1,hu=>simp at hu
    case c2=>intro u hu;simp at hu;subst hu;rfl
    case c3=>omega
    case c4=>omega
    case c5=>simp;omega
    intro g c w3 hown3 hst3 _
    have Hown3:=Lib.hid hown3
    have hlo:=(O2.out.alloc (.cells #[.int .i64 (k:Int)] 3 (0,0))).lt
    have B3:=Lib.hid (((B2.out.alloc (by omega) (.cells #[.int .i64 (k:Int)] 3 (0,0))).trans (hst3.imp (S':=(·<w.heap.size)) (fun b hb=>⟨by have h1:b<w.heap.size:=hb;omega,fun e=>by have:=(hlo b e).1;have h1:b<w.heap.size:=hb;omega⟩)).below))
    clear hown3 hst3 hlo
    go_wp2
    go_roundw
    case rel=>
     have h2:=HS.out
     simp only [if_true]at h2
     exact⟨k+1,by go_num,by omega,by rw [h2,toInts,List.map_append];exact Hown3.out,B3.out⟩
    case measure=>simp [intOf];omega
  ·have he:k=syms.length:=by omega
   subst he
   have Hown:=Lib.hid hown
   have Hbel:=Lib.hid hbel
   clear hown hbel
   go_wp2
   go_ret
   exact⟨_,rfl,Hown.out,Hbel.out⟩
end Go.Proofs.YtfchpchabdhcgaaGreat
