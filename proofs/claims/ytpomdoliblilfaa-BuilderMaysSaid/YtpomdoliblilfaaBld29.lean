/- Lemmas. -/
import Derived.Test.YtpomdoliblilfaaBld28
import Derived.Test.YtpomdoliblilfaaBld18
import Derived.Deep.DeepCutAuto
import Derived.Laws.Tables
import Derived.Laws.ResultCell
namespace Go.Proofs.Ytpomdoliblilfaa
set_option linter.unusedVariables false
set_option linter.unusedSimpArgs false
open Go.RowKit
def bcodeOf (f:Func):Code:=f.body.getD .skip
def bbehind:Nat→Code→Code
 | 0,c=>c
 | n+1,.seq _ b=>bbehind n b
 | _+1,c=>c
def bfirstOf:Code→Code
 | .seq a _=>a
 | c=>c
def bRest (f:Func) (n:Nat):Code:=bbehind n (bcodeOf f)
def bCode (f:Func) (n:Nat):Code:=bfirstOf (bRest f n)
def bFrL (t:Array Value):List (Nat × Value)→Prop
 | []=>True
 | p :: l=>t.getD p.1 undef=p.2∧bFrL t l
def bFr (xs:List (Nat × Value)) (a:Act):Prop:=a.tmps.size=247∧a.defers=[]∧bFrL a.tmps xs
theorem blists_cons {n:Nat} {p:List Value→Prop} (h:∀ x t,t.length=n→p (x :: t)):∀ l:List Value,l.length=n+1→p l:=by
 intro l hl
 cases l with
 | nil=>cases hl
 | cons x t=>exact h x t (Nat.succ.inj hl)
theorem blists_nil {p:List Value→Prop} (h:p []):∀ l:List Value,l.length=0→p l:=by
 intro l hl
 cases l with
 | nil=>exact h
 | cons x t=>cases hl
set_option maxRecDepth 100000 in
set_option maxHeartbeats 4000000 in
theorem bframes {p:List Value→Prop} (h:∀ V0 V1 V2 V3 V4 V5 V6 V7 V8 V9 V10 V11 V12 V13 V14 V15 V16 V17 V18 V19 V20 V21 V22 V23 V24 V25 V26 V27 V28 V29 V30 V31 V32 V33 V34 V35 V36 V37 V38 V39
  V40 V41 V42 V43 V44 V45 V46 V47 V48 V49 V50 V51 V52 V53 V54 V55 V56 V57 V58 V59 V60 V61 V62 V63 V64 V65 V66 V67 V68 V69 V70 V71 V72 V73 V74 V75 V76 V77 V78 V79
  V80 V81 V82 V83 V84 V85 V86 V87 V88 V89 V90 V91 V92 V93 V94 V95 V96 V97 V98 V99 V100 V101 V102 V103 V104 V105 V106 V107 V108 V109 V110 V111 V112 V113 V114 V115 V116 V117 V118 V119
  V120 V121 V122 V123 V124 V125 V126 V127 V128 V129 V130 V131 V132 V133 V134 V135 V136 V137 V138 V139 V140 V141 V142 V143 V144 V145 V146 V147 V148 V149 V150 V151 V152 V153 V154 V155 V156 V157 V158 V159
  V160 V161 V162 V163 V164 V165 V166 V167 V168 V169 V170 V171 V172 V173 V174 V175 V176 V177 V178 V179 V180 V181 V182 V183 V184 V185 V186 V187 V188 V189 V190 V191 V192 V193 V194 V195 V196 V197 V198 V199
  V200 V201 V202 V203 V204 V205 V206 V207 V208 V209 V210 V211 V212 V213 V214 V215 V216 V217 V218 V219 V220 V221 V222 V223 V224 V225 V226 V227 V228 V229 V230 V231 V232 V233 V234 V235 V236 V237 V238 V239
  V240 V241 V242 V243 V244 V245 V246:Value,p [V0,V1,V2,V3,V4,V5,V6,V7,V8,V9,V10,V11,V12,V13,V14,V15,V16,V17,V18,V19,V20,V21,V22,V23,V24,V25,V26,V27,V28,V29,V30,V31,V32,V33,V34,V35,V36,V37,V38,V39,V40,V41,V42,V43,V44,V45,V46,V47,V48,V49,V50,V51,V52,V53,V54,V55,V56,V57,V58,V59,V60,V61,V62,V63,V64,V65,V66,V67,V68,V69,V70,V71,V72,V73,V74,V75,V76,V77,V78,V79,V80,V81,V82,V83,V84,V85,V86,V87,V88,V89,V90,V91,V92,V93,V94,V95,V96,V97,V98,V99,V100,V101,V102,V103,V104,V105,V106,V107,V108,V109,V110,V111,V112,V113,V114,V115,V116,V117,V118,V119,V120,V121,V122,V123,V124,V125,V126,V127,V128,V129,V130,V131,V132,V133,V134,V135,V136,V137,V138,V139,V140,V141,V142,V143,V144,V145,V146,V147,V148,V149,V150,V151,V152,V153,V154,V155,V156,V157,V158,V159,V160,V161,V162,V163,V164,V165,V166,V167,V168,V169,V170,V171,V172,V173,V174,V175,V176,V177,V178,V179,V180,V181,V182,V183,V184,V185,V186,V187,V188,V189,V190,V191,V192,V193,V194,V195,V196,V197,V198,V199,V200,V201,V202,V203,V204,V205,V206,V207,V208,V209,V210,V211,V212,V213,V214,V215,V216,V217,V218,V219,V220,V221,V222,V223,V224,V225,V226,V227,V228,V229,V230,V231,V232,V233,V234,V235,V236,V237,V238,V239,V240,V241,V242,V243,V244,V245,V246]):∀ l:List Value,l.length=247→p l:=by
 iterate 247 (refine blists_cons (fun _=> ?_))
 exact blists_nil (h _ _ _ _ _ _ _ _ _ _ _ _ _ _ _ _ _ _ _ _ _ _ _ _ _ _ _ _ _ _ _ _ _ _ _ _ _ _ _ _
  _ _ _ _ _ _ _ _ _ _ _ _ _ _ _ _ _ _ _ _ _ _ _ _ _ _ _ _ _ _ _ _ _ _ _ _ _ _ _ _
  _ _ _ _ _ _ _ _ _ _ _ _ _ _ _ _ _ _ _ _ _ _ _ _ _ _ _ _ _ _ _ _ _ _ _ _ _ _ _ _
  _ _ _ _ _ _ _ _ _ _ _ _ _ _ _ _ _ _ _ _ _ _ _ _ _ _ _ _ _ _ _ _ _ _ _ _ _ _ _ _
  _ _ _ _ _ _ _ _ _ _ _ _ _ _ _ _ _ _ _ _ _ _ _ _ _ _ _ _ _ _ _ _ _ _ _ _ _ _ _ _
  _ _ _ _ _ _ _ _ _ _ _ _ _ _ _ _ _ _ _ _ _ _ _ _ _ _ _ _ _ _ _ _ _ _ _ _ _ _ _ _
  _ _ _ _ _ _ _)
set_option maxRecDepth 100000 in
theorem bFr.elim {xs:List (Nat × Value)} {a:Act} {C:Act→Prop} (h:bFr xs a) (k:∀ V0 V1 V2 V3 V4 V5 V6 V7 V8 V9 V10 V11 V12 V13 V14 V15 V16 V17 V18 V19 V20 V21 V22 V23 V24 V25 V26 V27 V28 V29 V30 V31 V32 V33 V34 V35 V36 V37 V38 V39
  V40 V41 V42 V43 V44 V45 V46 V47 V48 V49 V50 V51 V52 V53 V54 V55 V56 V57 V58 V59 V60 V61 V62 V63 V64 V65 V66 V67 V68 V69 V70 V71 V72 V73 V74 V75 V76 V77 V78 V79
  V80 V81 V82 V83 V84 V85 V86 V87 V88 V89 V90 V91 V92 V93 V94 V95 V96 V97 V98 V99 V100 V101 V102 V103 V104 V105 V106 V107 V108 V109 V110 V111 V112 V113 V114 V115 V116 V117 V118 V119
  V120 V121 V122 V123 V124 V125 V126 V127 V128 V129 V130 V131 V132 V133 V134 V135 V136 V137 V138 V139 V140 V141 V142 V143 V144 V145 V146 V147 V148 V149 V150 V151 V152 V153 V154 V155 V156 V157 V158 V159
  V160 V161 V162 V163 V164 V165 V166 V167 V168 V169 V170 V171 V172 V173 V174 V175 V176 V177 V178 V179 V180 V181 V182 V183 V184 V185 V186 V187 V188 V189 V190 V191 V192 V193 V194 V195 V196 V197 V198 V199
  V200 V201 V202 V203 V204 V205 V206 V207 V208 V209 V210 V211 V212 V213 V214 V215 V216 V217 V218 V219 V220 V221 V222 V223 V224 V225 V226 V227 V228 V229 V230 V231 V232 V233 V234 V235 V236 V237 V238 V239
  V240 V241 V242 V243 V244 V245 V246:Value,bFr xs ⟨#[V0,V1,V2,V3,V4,V5,V6,V7,V8,V9,V10,V11,V12,V13,V14,V15,V16,V17,V18,V19,V20,V21,V22,V23,V24,V25,V26,V27,V28,V29,V30,V31,V32,V33,V34,V35,V36,V37,V38,V39,V40,V41,V42,V43,V44,V45,V46,V47,V48,V49,V50,V51,V52,V53,V54,V55,V56,V57,V58,V59,V60,V61,V62,V63,V64,V65,V66,V67,V68,V69,V70,V71,V72,V73,V74,V75,V76,V77,V78,V79,V80,V81,V82,V83,V84,V85,V86,V87,V88,V89,V90,V91,V92,V93,V94,V95,V96,V97,V98,V99,V100,V101,V102,V103,V104,V105,V106,V107,V108,V109,V110,V111,V112,V113,V114,V115,V116,V117,V118,V119,V120,V121,V122,V123,V124,V125,V126,V127,V128,V129,V130,V131,V132,V133,V134,V135,V136,V137,V138,V139,V140,V141,V142,V143,V144,V145,V146,V147,V148,V149,V150,V151,V152,V153,V154,V155,V156,V157,V158,V159,V160,V161,V162,V163,V164,V165,V166,V167,V168,V169,V170,V171,V172,V173,V174,V175,V176,V177,V178,V179,V180,V181,V182,V183,V184,V185,V186,V187,V188,V189,V190,V191,V192,V193,V194,V195,V196,V197,V198,V199,V200,V201,V202,V203,V204,V205,V206,V207,V208,V209,V210,V211,V212,V213,V214,V215,V216,V217,V218,V219,V220,V221,V222,V223,V224,V225,V226,V227,V228,V229,V230,V231,V232,V233,V234,V235,V236,V237,V238,V239,V240,V241,V242,V243,V244,V245,V246],[]⟩→C ⟨#[V0,V1,V2,V3,V4,V5,V6,V7,V8,V9,V10,V11,V12,V13,V14,V15,V16,V17,V18,V19,V20,V21,V22,V23,V24,V25,V26,V27,V28,V29,V30,V31,V32,V33,V34,V35,V36,V37,V38,V39,V40,V41,V42,V43,V44,V45,V46,V47,V48,V49,V50,V51,V52,V53,V54,V55,V56,V57,V58,V59,V60,V61,V62,V63,V64,V65,V66,V67,V68,V69,V70,V71,V72,V73,V74,V75,V76,V77,V78,V79,V80,V81,V82,V83,V84,V85,V86,V87,V88,V89,V90,V91,V92,V93,V94,V95,V96,V97,V98,V99,V100,V101,V102,V103,V104,V105,V106,V107,V108,V109,V110,V111,V112,V113,V114,V115,V116,V117,V118,V119,V120,V121,V122,V123,V124,V125,V126,V127,V128,V129,V130,V131,V132,V133,V134,V135,V136,V137,V138,V139,V140,V141,V142,V143,V144,V145,V146,V147,V148,V149,V150,V151,V152,V153,V154,V155,V156,V157,V158,V159,V160,V161,V162,V163,V164,V165,V166,V167,V168,V169,V170,V171,V172,V173,V174,V175,V176,V177,V178,V179,V180,V181,V182,V183,V184,V185,V186,V187,V188,V189,V190,V191,V192,V193,V194,V195,V196,V197,V198,V199,V200,V201,V202,V203,V204,V205,V206,V207,V208,V209,V210,V211,V212,V213,V214,V215,V216,V217,V218,V219,V220,V221,V222,V223,V224,V225,V226,V227,V228,V229,V230,V231,V232,V233,V234,V235,V236,V237,V238,V239,V240,V241,V242,V243,V244,V245,V246],[]⟩):C a:=by
 obtain⟨⟨l⟩,d⟩:=a
 obtain⟨h1,h2,h3⟩:=h
 dsimp only at h2
 subst h2
 exact bframes (p:=fun l=>bFr xs ⟨⟨l⟩,[]⟩→C ⟨⟨l⟩,[]⟩) k l h1 ⟨h1,rfl,h3⟩
theorem bd_seq (f:Func) (n:Nat) (h:(match bRest f n with | .seq _ _=>true | _=>false)=true):bRest f n=.seq (bCode f n) (bRest f (n+1)):=by
 have hb:∀ n c,bbehind (n+1) c=bbehind 1 (bbehind n c):=by
  intro n
  induction n with
  | zero=>intro c;rfl
  | succ n ih=>
   intro c
   cases c with
   | seq a b=>exact ih b
   | _=>rfl
 unfold bCode
 unfold bRest at h ⊢
 rw [hb n]
 generalize bbehind n (bcodeOf f)=c at h ⊢
 cases c with
 | seq a b=>rfl
 | _=>cases h
def nilV:ImgV:=⟨.slice none 0 0,.slice none 0 0,.slice none 0 0,.slice none 0 0,.slice none 0 0,.slice none 0 0,.slice none 0 0,.slice none 0 0,.slice none 0 0,.slice none 0 0,.slice none 0 0⟩
theorem imgM_none (S:Nat→Prop) (w:World):ImgM S w nilV imgNone where
 name:=Nat.zero_le _
 flags:=⟨by decide,by decide⟩
 segs:=LB.nil _ _ _
 segsR:=fun s hs=>(by cases hs)
 needed:=LB.nil _ _ _
 runPath:=LB.nil _ _ _
 syms:=LB.nil _ _ _
 buckets:=LB.nil _ _ _
 bucketsL:=fun s hs=>(by cases hs)
 words:=LB.nil _ _ _
 wordsR:=fun s hs=>(by cases hs)
 shift:=⟨by decide,by decide⟩
 relocs:=LB.nil _ _ _
 relocsR:=fun s hs=>(by cases hs)
 slots:=LB.nil _ _ _
 slotsR:=fun s hs=>(by cases hs)
 init:=LB.nil _ _ _
 initR:=fun s hs=>(by cases hs)
 fini:=LB.nil _ _ _
 finiR:=fun s hs=>(by cases hs)
 tls:=LB.nil _ _ _
 tlsSize:=⟨by decide,by decide⟩
def BuildPost (w:World) (s:SpecL) (e:Ending) (w':World):Prop:=
 ∃ iv,e=.returned (.tuple #[.agg (imgCells iv (buildL s).1),.int .i64 (buildL s).2])∧Below w.heap.size w w'∧ImgM (fun b=>w.heap.size≤b∧b<w'.heap.size) w' iv (buildL s).1
theorem build_none {w w':World} {s:SpecL} {e:Int} (h:buildL s=(imgNone,e)) (hb:Below w.heap.size w w'):BuildPost w s (.returned (.tuple #[.agg #[.string ⟨#[]⟩,.int .i64 0,.slice none 0 0,.slice none 0 0,.slice none 0 0,.slice none 0 0,.slice none 0 0,.slice none 0 0,.int .i64 0,.slice none 0 0,.slice none 0 0,.slice none 0 0,.slice none 0 0,.slice none 0 0,.int .i64 0],.int .i64 e])) w':=
 ⟨nilV,by rw [h];rfl,hb,by rw [h];exact imgM_none _ _⟩
structure FewL (s:SpecL):Prop where
 funcs:s.funcs.length≤2000
 vars:s.vars.length≤2000
 lines:s.lines.length≤2000
 words:(s.vars.flatMap (·.words)).length≤2000
 refs:(s.vars.flatMap (·.refs)).length≤2000
 init:s.init.length≤2000
 fini:s.fini.length≤2000
 run:s.runPath.length*16≤140737488355328
 need:s.needed.length*40≤140737488355328
 vers:∀ n∈s.needed,n.versions.length*16≤140737488355328
end Go.Proofs.Ytpomdoliblilfaa
