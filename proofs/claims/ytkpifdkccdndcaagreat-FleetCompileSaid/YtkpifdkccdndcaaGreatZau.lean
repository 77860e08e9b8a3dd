/-
  For every input the law returns true, and each argument reads behind the call as it read before. The last part of the proof; tools of ours have shortened it.
-/
import Derived.ProofKit
import Derived.ShutString
import Derived.Below
import Derived.Carry
import Derived.Test.YtkpifdkccdndcaaGreatZat
set_option linter.all false
set_option maxRecDepth 8000
set_option maxHeartbeats 16000000
namespace Go.Big
structure hk.raw(x:hk):Prop where
  s: ∀r∈x.s,r.bM
  bb: ∀l∈x.bb,∀r∈l,r.bM
  e: ∀r∈x.e,r.bM
  n1:x.s.length<=140737488355328
  sZ:x.bb.length<=140737488355328
  eZ:x.e.length<=140737488355328
  rm: ∀l∈x.bb,l.length<=140737488355328
structure mg.raw(x:mg):Prop where
  hf: ∀r∈x.hf,r.bM
  hS:x.hS.bM
  ez:x.ez.bM
  sZ:x.hf.length<=140737488355328
  dS:x.a5.length<=140737488355328
structure gg.raw(s:gg):Prop where
  ck: ∀x∈s.ck,x.eV.raw
  a3: ∀x∈s.a3,x.fX.bM
  cG: ∀x∈s.cG,x.raw
theorem aDY{x:bh}(h:x.bM):x.aci:=⟨by have:=h.2.2.1;omega,by have:=h.2.2.2;omega⟩
theorem CN{l:List bh}(h: ∀x∈l,x.bM)(aG:l.length<=140737488355328):vk l:=⟨aG,λx H=>aDY (h x H)⟩
def Fa(x:xN):Nat:=kj x.eV.s+kj x.eV.e+Ce x.eV.bb
def Fb(x:mg):Nat:=kj x.hf+kj [x.hS,x.ez]+x.a5.length
end Go.Big
namespace Go.Proofs.YtkpifdkccdndcaaGreat
open Go Go.DI Go.Big
noncomputable def Ct:c8 Tryz.prog:= .fJ 8 Unit (λ_=>True) (λ_=>[]) (λ_=> .bool true) λ_ _=>apj
@[simp] theorem aNE:Ct.f=8:=rfl
@[simp] theorem aNF:Ct.fn []=some (.bool true):=c8.gX (x:=()) trivial λ_ _=>rfl
abbrev SX(s:gg):Value:= .agg #[S s.ext,bE (s.ck.map pt) 6,bE (s.a5.map nL) 6,bE (s.a3.map fl) 9,bE (s.cG.map hc) 19,bE (s.dH.map qS) 4]
abbrev x0(K:hC):Value:= .agg #[S K.ext,bE (K.ck.map j3) 4,bE (K.a5.map qq) 4,bE (K.dG.map iC) 7,bE (K.gq.map qp) 3,bE (K.cG.map mX) 17,bE (K.dH.map qs) 2]
noncomputable def abh(s:gg)(K:hC)(e:Int)(p:mf)(h:lz s=(K,e,p)):c8 Tryz.prog:= .fJ 11 Unit (λ_=>s.bM) (λ_=>[SX s]) (λ_=> .tuple #[x0 K,S e,.agg #[S p.l,S p.c]]) λ_ W=>by have:=T7 W;rw[h]at this;exact this
@[simp] theorem aNI{s:gg}{K:hC}{e:Int}{p:mf}{h:lz s=(K,e,p)}:(abh s K e p h).f=11:=rfl
@[simp] theorem aNJ{s:gg}{K:hC}{e:Int}{p:mf}{h:lz s=(K,e,p)}(W:s.bM):(abh s K e p h).fn [SX s]=some (.tuple #[x0 K,S e,.agg #[S p.l,S p.c]]):=c8.gX (x:=()) W λ_ _=>rfl
noncomputable def abg(s:gg)(K:hC)(e:Int)(p:mf)(h:lz s=(K,e,p)):c8 Tryz.prog:= .fJ 12 Unit (λ_=>s.bM) (λ_=>[SX s]) (λ_=> .tuple #[x0 K,S e,.agg #[S p.l,S p.c]]) λ_ W=>by have:=aBf W;rw[h]at this;exact this
@[simp] theorem aNG{s:gg}{K:hC}{e:Int}{p:mf}{h:lz s=(K,e,p)}:(abg s K e p h).f=12:=rfl
@[simp] theorem aNH{s:gg}{K:hC}{e:Int}{p:mf}{h:lz s=(K,e,p)}(W:s.bM):(abg s K e p h).fn [SX s]=some (.tuple #[x0 K,S e,.agg #[S p.l,S p.c]]):=c8.gX (x:=()) W λ_ _=>rfl
noncomputable def abi(K:hC):c8 Tryz.prog:= .fJ 13 Unit (λ_=>K.ko) (λ_=>[x0 K,x0 K]) (λ_=> .bool true) λ_ h=>arX h
@[simp] theorem aNO{K:hC}:(abi K).f=13:=rfl
@[simp] theorem aNP{K:hC}(h:K.ko):(abi K).fn [x0 K,x0 K]=some (.bool true):=c8.gX (x:=()) h λ_ _=>rfl
noncomputable def abE(K:hC):c8 Tryz.prog:= .fJ 14 Unit (λ_=>K.lF) (λ_=>[x0 K]) (λ_=>S 0) λ_ h=>anW h
@[simp] theorem aPb{K:hC}:(abE K).f=14:=rfl
@[simp] theorem aPc{K:hC}(h:K.lF):(abE K).fn [x0 K]=some (S 0):=c8.gX (x:=()) h λ_ _=>rfl
theorem ayZ{x y:bh}(H:x.bM)(ah:y.bM):Cv.fn [bE [eS x,eS y] 3]=some (S (kj [x,y]:Nat)):=am0 (l:=[x,y]) (CN (λO bY=>by simp at bY;rcases bY with rfl|rfl<;>assumption) (by simp))
theorem ayY{x:bh}(H:x.bM):Cv.fn [bE [eS x] 3]=some (S (kj [x]:Nat)):=am0 (l:=[x]) (CN (λO bY=>by simp at bY;rcases bY with rfl;assumption) (by simp))
theorem aC0{s:gg}(h:s.raw){bq:Nat}(hF:bq<=600)(fM:s.ck.length<=10)(dg:s.a5.length<=10)(pW:s.a3.length<=80)(Hh:s.cG.length<=10)(akJ:s.dH.length<=20)(cS: ∀x∈s.ck,Fa x<=bq)(hT: ∀x∈s.cG,Fb x<=bq):s.bM:=by
  refine⟨λx H=> ?_,h.a3,λx H=> ?_,by omega,by omega,by omega,by omega,by omega⟩
  · have aF:=h.ck x H;have aO:=cS x H;unfold Fa at aO;have bn:=ZS (l:=x.eV.s);have bF:=ZS (l:=x.eV.e);have dp:=azu (l:=x.eV.bb);exact⟨aF.s,aF.bb,aF.e,by omega,by omega,by omega,λl aG=>by have:=aF.rm l aG;omega⟩
  · have aF:=h.cG x H;have aO:=hT x H;unfold Fb at aO;have bn:=ZS (l:=x.hf);exact⟨⟨⟨aF.hf,by omega⟩,aF.hS,aF.ez⟩,by omega⟩
structure zp(s:gg)(bq:Nat)(u:aL)(t:B):Prop where
  aH:u 1=bZ 0
  a4:t.M 0=some ⟨dT s,true⟩
  bd:u 3=S bq
theorem ar4{s:gg}(h:s.raw)(fM:s.ck.length<=10){cO:aL}{cd:B}(aq:zp s 0 cO cd)(bL:cO 4=S 0){Q:dr->aL->B->Prop}(bf: ∀bq u t,zp s bq u t->bq<=10000000000000000->(∀x∈s.ck,Fa x<=bq)->Q (.bI 0) u t):hs Tryz.prog (.loop QR) cO cd Q:=by
  refine jn (aY:=⟨[Cv,abr],[]⟩) (λi u t=> ∃bq,zp s bq u t/\u 4=S i/\bq<=i*1000000000000000/\ ∀x∈s.ck.take i,Fa x<=bq) s.ck.length ?_ ?_ 0 cO cd (Nat.zero_le _) ⟨0,aq,bL,by simp,by simp⟩
  · rintro i u t aa ⟨bq,⟨aH,a4,bd⟩,bL,hF,aO⟩ b9 a9;have H:s.ck[i]?=some s.ck[i]:=List.getElem?_eq_getElem aa;have aF:=h.ck _ (List.getElem_mem aa);have bn:=CN aF.s aF.n1;have bF:=CN aF.e aF.eZ;have dp:s.ck[i].eV.bb.length<=140737488355328/\ ∀x∈s.ck[i].eV.bb,vk x:=⟨aF.sZ,λl aG=>CN (aF.bb l aG) (aF.rm l aG)⟩;have dt:=EA bn;have dJ:=EA bF;have xS:=azv dp.1 dp.2;have bK:(i:Int)<s.ck.length:=(by omega);have bo:IntKind.i64.wrap ((i:Int)+1)=(i:Int)+1:=ct (by omega) (by omega);have cS:IntKind.i64.wrap ((bq:Int)+(kj s.ck[i].eV.s:Int))=(bq:Int)+(kj s.ck[i].eV.s:Int):=ct (by omega) (by omega);have fz:IntKind.i64.wrap ((bq:Int)+(kj s.ck[i].eV.s:Int)+(kj s.ck[i].eV.e:Int))=(bq:Int)+(kj s.ck[i].eV.s:Int)+(kj s.ck[i].eV.e:Int):=ct (by omega) (by omega);have hT:IntKind.i64.wrap ((bq:Int)+(kj s.ck[i].eV.s:Int)+(kj s.ck[i].eV.e:Int)+(Ce s.ck[i].eV.bb:Int))=(bq:Int)+(kj s.ck[i].eV.s:Int)+(kj s.ck[i].eV.e:Int)+(Ce s.ck[i].eV.bb:Int):=ct (by omega) (by omega);have cY:=aT a4;simp(disch:=first|omega|(simp only[ae,ad,af];omega)) [QR,ajc,dT,pt,aH,bd,bL,a4,bK,bo,cS,fz,hT,-al,-ar,-ai,-ao,-List.map_map];refine a9 _ _ ⟨bq+Fa s.ck[i],⟨by simp[aH],a4,by simp[Fa];omega⟩,by simp,by unfold Fa;omega,λx hH=> ?_⟩;rw[kB H]at hH;rcases List.mem_append.1 hH with hH|hH
    · have:=aO x hH;omega
    · simp at hH;subst hH;omega
  · rintro u t ⟨bq,⟨aH,a4,bd⟩,bL,hF,aO⟩;rw[List.take_length]at aO;have cY:=aT a4;simp[QR,dT,aH,bL,a4];exact bf bq _ _ ⟨by simp[aH],a4,by simp[bd]⟩ (by omega) aO
theorem ar5{s:gg}(h:s.raw)(fM:s.a3.length<=80){bN:Nat}(k5:bN<=10000000000000000){cO:aL}{cd:B}(aq:zp s bN cO cd)(cv:cO 5=S 0){Q:dr->aL->B->Prop}(bf: ∀bq u t,zp s bq u t->bq<=90000000000000000->bN<=bq->Q (.bI 2) u t):hs Tryz.prog (.loop QS) cO cd Q:=by
  refine jn (aY:=⟨[Cv],[]⟩) (λi u t=> ∃bq,zp s bq u t/\u 5=S i/\bq<=bN+i*1000000000000000/\bN<=bq) s.a3.length ?_ ?_ 0 cO cd (Nat.zero_le _) ⟨bN,aq,cv,by simp,Nat.le_refl _⟩
  · rintro i u t aa ⟨bq,⟨aH,a4,bd⟩,cv,hF,aO⟩ b9 a9;have H:s.a3[i]?=some s.a3[i]:=List.getElem?_eq_getElem aa;have aF:=h.a3 _ (List.getElem_mem aa);have bn:=ayY aF;simp only[eS]at bn;have dt:=EA (l:=[s.a3[i].fX]) (CN (λO bY=>by simp at bY;subst bY;exact aF) (by simp));have bK:(i:Int)<s.a3.length:=(by omega);have bo:IntKind.i64.wrap ((i:Int)+1)=(i:Int)+1:=ct (by omega) (by omega);have cS:IntKind.i64.wrap ((bq:Int)+(kj [s.a3[i].fX]:Int))=(bq:Int)+(kj [s.a3[i].fX]:Int):=ct (by omega) (by omega);have cY:=aT a4;simp(disch:=first|omega|(simp only[ae,ad,af];omega)) [QS,aje,dT,fl,aH,bd,cv,a4,bK,bo,cS,bn,jq,jw,-al,-ar,-ai,-ao,-List.map_map];exact a9 _ _ ⟨bq+kj [s.a3[i].fX],⟨by simp[aH],by simp(disch:=first|omega|(simp only[ae,ad,af];omega)) [a4,dT,-al,-ar,-ai,-ao,-List.map_map],by simp⟩,by simp,by omega,by omega⟩
  · rintro u t ⟨bq,⟨aH,a4,bd⟩,cv,hF,aO⟩;have cY:=aT a4;simp(disch:=first|omega|(simp only[ae,ad,af];omega)) [QS,dT,aH,cv,a4];exact bf bq _ _ ⟨by simp[aH],a4,by simp[bd]⟩ (by omega) aO
theorem ar6{s:gg}(h:s.raw)(fM:s.cG.length<=10){bN:Nat}(k5:bN<=90000000000000000){cO:aL}{cd:B}(aq:zp s bN cO cd)(db:cO 6=S 0){Q:dr->aL->B->Prop}(bf: ∀bq u t,zp s bq u t->bN<=bq->(∀x∈s.cG,Fb x<=bq)->Q (.bI 4) u t):hs Tryz.prog (.loop QT) cO cd Q:=by
  refine jn (aY:=⟨[Cv],[]⟩) (λi u t=> ∃bq,zp s bq u t/\u 6=S i/\bq<=bN+i*1000000000000000/\bN<=bq/\ ∀x∈s.cG.take i,Fb x<=bq) s.cG.length ?_ ?_ 0 cO cd (Nat.zero_le _) ⟨bN,aq,db,by simp,Nat.le_refl _,by simp⟩
  · rintro i u t aa ⟨bq,⟨aH,a4,bd⟩,db,hF,aO,X⟩ b9 a9;have H:s.cG[i]?=some s.cG[i]:=List.getElem?_eq_getElem aa;have aF:=h.cG _ (List.getElem_mem aa);have dF:=CN aF.hf aF.sZ;have bn:=ayZ aF.hS aF.ez;simp only[eS]at bn;have mU:=EA dF;have dt:=EA (l:=[s.cG[i].hS,s.cG[i].ez]) (CN (λO bY=>by simp at bY;rcases bY with rfl|rfl;exact aF.hS;exact aF.ez) (by simp));have dJ:=aF.dS;have bK:(i:Int)<s.cG.length:=(by omega);have bo:IntKind.i64.wrap ((i:Int)+1)=(i:Int)+1:=ct (by omega) (by omega);have cS:IntKind.i64.wrap ((bq:Int)+(kj s.cG[i].hf:Int))=(bq:Int)+(kj s.cG[i].hf:Int):=ct (by omega) (by omega);have fz:IntKind.i64.wrap ((bq:Int)+(kj s.cG[i].hf:Int)+(kj [s.cG[i].hS,s.cG[i].ez]:Int))=(bq:Int)+(kj s.cG[i].hf:Int)+(kj [s.cG[i].hS,s.cG[i].ez]:Int):=ct (by omega) (by omega);have hT:IntKind.i64.wrap ((bq:Int)+(kj s.cG[i].hf:Int)+(kj [s.cG[i].hS,s.cG[i].ez]:Int)+(s.cG[i].a5.length:Int))=(bq:Int)+(kj s.cG[i].hf:Int)+(kj [s.cG[i].hS,s.cG[i].ez]:Int)+(s.cG[i].a5.length:Int):=ct (by omega) (by omega);have cY:=aT a4;simp(disch:=first|omega|(simp only[ae,ad,af];omega)) [QT,ajg,dT,hc,aH,bd,db,a4,bK,bo,cS,fz,hT,bn,jq,jw,-al,-ar,-ai,-ao,-List.map_map];refine a9 _ _ ⟨bq+Fb s.cG[i],⟨by simp[aH],by simp(disch:=first|omega|(simp only[ae,ad,af];omega)) [a4,dT,-al,-ar,-ai,-ao,-List.map_map],by simp[Fb];omega⟩,by simp,by unfold Fb;omega,by omega,λx hH=> ?_⟩;rw[kB H]at hH;rcases List.mem_append.1 hH with hH|hH
    · have:=X x hH;omega
    · simp at hH;subst hH;omega
  · rintro u t ⟨bq,⟨aH,a4,bd⟩,db,hF,aO,X⟩;rw[List.take_length]at X;have cY:=aT a4;simp(disch:=first|omega|(simp only[ae,ad,af];omega)) [QT,dT,aH,db,a4];exact bf bq _ _ ⟨by simp[aH],a4,by simp[bd]⟩ aO X
theorem asd{s:gg}(h:s.raw):eg Tryz.prog 4 [.agg (dT s).toArray] (.bool true):=by
  by_cases fM:s.ck.length<=10
  · by_cases dg:s.a5.length<=10
    · by_cases pW:s.a3.length<=80
      · by_cases Hh:s.cG.length<=10
        · by_cases akJ:s.dH.length<=20
          · have cB: ¬(10:Int)<s.ck.length:=(by omega);have eQ: ¬(10:Int)<s.a5.length:=(by omega);have ht: ¬(80:Int)<s.a3.length:=(by omega);have ho: ¬(10:Int)<s.cG.length:=(by omega);have ly: ¬(20:Int)<s.dH.length:=(by omega);obtain⟨K,e,p,aB⟩: ∃K e p,lz s=(K,e,p):=⟨_,_,_,rfl⟩;refine iA (g0 (aY:=⟨[Ct,abh s K e p aB,abg s K e p aB,abi K,abE K],[]⟩) GY (by kernel_rfl) (by simp[uQ]) ?_);simp[uQ,El,Em,aja,ajb,dT,cB,eQ,ht,ho,ly];refine ar4 h fM ⟨by simp,by simp[dT],by simp⟩ (by simp) λTp c7 ec aq as6 auK=> ?_;simp[ajd];refine ar5 h pW as6 ⟨by simp[aq.aH],aq.a4,by simp[aq.bd]⟩ (by simp) λMR fb iG aq as7 afy=> ?_;simp[ajf];refine ar6 h Hh as7 ⟨by simp[aq.aH],aq.a4,by simp[aq.bd]⟩ (by simp) λTq zi vh aq aIL auL=> ?_;obtain⟨aH,a4,bd⟩:=aq;have cY:=aT a4;by_cases hF:Tq<=600
            · have Bs: ¬(600:Int)<Tq:=(by omega);have W:s.bM:=aC0 h hF fM dg pW Hh akJ (λx H=>by have:=auK x H;omega) auL;obtain⟨Jx,VX⟩:=adg W;rw[aB]at Jx VX;simp only at Jx VX;by_cases aU:e=0
              · have X:=VX aU;subst aU;simp(disch:=first|omega|(simp only[ae,ad,af];omega)) [QQ,YN,YO,YP,YQ,dT,aH,bd,a4,Bs]
              · simp(disch:=first|omega|(simp only[ae,ad,af];omega)) [QQ,YN,YO,YP,YQ,dT,aH,bd,a4,Bs,aU]
            · have Bs:(600:Int)<Tq:=(by omega);simp[QQ,bd,Bs]
          · refine iA (g0 (aY:=⟨[Ct],[]⟩) GY (by kernel_rfl) (by simp[uQ]) ?_);have cB: ¬(10:Int)<s.ck.length:=(by omega);have eQ: ¬(10:Int)<s.a5.length:=(by omega);have ht: ¬(80:Int)<s.a3.length:=(by omega);have ho: ¬(10:Int)<s.cG.length:=(by omega);have ly:(20:Int)<s.dH.length:=(by omega);simp[uQ,El,Em,dT,cB,eQ,ht,ho,ly]
        · refine iA (g0 (aY:=⟨[Ct],[]⟩) GY (by kernel_rfl) (by simp[uQ]) ?_);have cB: ¬(10:Int)<s.ck.length:=(by omega);have eQ: ¬(10:Int)<s.a5.length:=(by omega);have ht: ¬(80:Int)<s.a3.length:=(by omega);have ho:(10:Int)<s.cG.length:=(by omega);simp[uQ,El,Em,dT,cB,eQ,ht,ho]
      · refine iA (g0 (aY:=⟨[Ct],[]⟩) GY (by kernel_rfl) (by simp[uQ]) ?_);have cB: ¬(10:Int)<s.ck.length:=(by omega);have eQ: ¬(10:Int)<s.a5.length:=(by omega);have ht:(80:Int)<s.a3.length:=(by omega);simp[uQ,El,Em,dT,cB,eQ,ht]
    · refine iA (g0 (aY:=⟨[Ct],[]⟩) GY (by kernel_rfl) (by simp[uQ]) ?_);have cB: ¬(10:Int)<s.ck.length:=(by omega);have eQ:(10:Int)<s.a5.length:=(by omega);simp[uQ,El,Em,dT,cB,eQ]
  · refine iA (g0 (aY:=⟨[Ct],[]⟩) GY (by kernel_rfl) (by simp[uQ]) ?_);have cB:(10:Int)<s.ck.length:=(by omega);simp[uQ,El,Em,dT,cB]
end Go.Proofs.YtkpifdkccdndcaaGreat
namespace Go.Proofs.YtkpifdkccdndcaaGreat
open Go Go.DI Go.Big
abbrev Co:fF:= .gB (.int .i64) (.gB (.int .i64) .unit)
abbrev aab:fF:= .slice (.int .u32)
abbrev kF:fF:= .gB .bool (.gB aab (.gB aab .unit))
abbrev Ey:fF:= .gB .str (.gB (.slice kF) (.gB (.slice (.slice kF)) (.gB (.slice kF) .unit)))
abbrev y3:fF:= .gB Ey (.gB Co .unit)
abbrev CA:fF:= .gB .str (.gB (.int .i64) (.gB (.int .i64) (.gB .str (.gB Co .unit))))
abbrev CB:fF:= .gB (.int .i64) (.gB .str (.gB (.int .i64) (.gB kF (.gB .str (.gB Co .unit)))))
abbrev TK:fF:= .gB (.int .i64) (.gB (.int .i64) (.gB (.int .i64) (.gB (.int .i64) (.gB (.int .i64) .unit))))
abbrev y6:fF:= .gB .str (.gB (.int .i64) (.gB (.int .i64) (.gB (.int .i64) (.gB TK (.gB (.slice .str) (.gB (.slice kF) (.gB kF (.gB kF (.gB Co .unit)))))))))
abbrev CH:fF:= .gB .str (.gB .str (.gB Co .unit))
abbrev CD:fF:= .gB (.int .i64) (.gB (.slice y3) (.gB (.slice CA) (.gB (.slice CB) (.gB (.slice y6) (.gB (.slice CH) .unit)))))
def toPs(d:Co.aW):mf:=⟨d.1,d.2.1⟩
def toRw(d:kF.aW):bh:=⟨d.1,d.2.1,d.2.2.1⟩
def toRws(l:List kF.aW):List bh:=l.map toRw
def toLaw(d:Ey.aW):hk:=⟨d.1,toRws d.2.1,(kh (e:= .slice kF) d.2.2.1).map λl=>toRws l,toRws d.2.2.2.1⟩
def toSLaw(d:y3.aW):xN:=⟨toLaw d.1,toPs d.2.1⟩
def toSModel(d:CA.aW):zq:=⟨d.1,d.2.1,d.2.2.1,d.2.2.2.1,toPs d.2.2.2.2.1⟩
def toSNode(d:CB.aW):k4:=⟨d.1,d.2.1,d.2.2.1,toRw d.2.2.2.1,d.2.2.2.2.1,toPs d.2.2.2.2.2.1⟩
def toSp5(d:TK.aW):dY:=⟨d.1,d.2.1,d.2.2.1,d.2.2.2.1,d.2.2.2.2.1⟩
def toSPol(d:y6.aW):mg:=⟨d.1,d.2.1,d.2.2.1,d.2.2.2.1,toSp5 d.2.2.2.2.1,d.2.2.2.2.2.1,toRws d.2.2.2.2.2.2.1,toRw d.2.2.2.2.2.2.2.1,toRw d.2.2.2.2.2.2.2.2.1,toPs d.2.2.2.2.2.2.2.2.2.1⟩
def toSVol(d:CH.aW):zr:=⟨d.1,d.2.1,toPs d.2.2.1⟩
def toSrc(d:CD.aW):gg:=⟨d.1,(kh (e:=y3) d.2.1).map toSLaw,(kh (e:=CA) d.2.2.1).map toSModel,(kh (e:=CB) d.2.2.2.1).map toSNode,(kh (e:=y6) d.2.2.2.2.1).map toSPol,(kh (e:=CH) d.2.2.2.2.2.1).map toSVol⟩
theorem arP(l:List kF.aW):l.map (jW kF)=(toRws l).map eS:=by unfold toRws;rw[List.map_map];exact List.map_congr_left λx _=>rfl
theorem Nz(l:List kF.aW):bE (l.map (jW kF)) kF.cells=fT (toRws l):=by rw[arP];rfl
theorem arO(d:Ey.aW):jW Ey d=j3 (toLaw d):=by
  obtain⟨dS,s,bb,e,aJ⟩:=d;have z:=Nz s;have D:=Nz e;have Z:(kh (e:= .slice kF) bb).map (jW (.slice kF))=((kh (e:= .slice kF) bb).map λl=>toRws l).map λr=>[fT r]:=by rw[List.map_map];refine List.map_congr_left λx _=> ?_;show[bE (List.map (jW kF) x) kF.cells]=[fT (toRws x)];rw[Nz]
  show[Value.string dS]++([bE (List.map (jW kF) s) kF.cells]++([bE ((kh (e:= .slice kF) bb).map (jW (.slice kF))) 1]++([bE (List.map (jW kF) e) kF.cells]++[])))=_;rw[z,D,Z];rfl
theorem arQ(d:y3.aW):jW y3 d=pt (toSLaw d):=by obtain⟨l,p,aJ⟩:=d;show jW Ey l++(jW Co p++[])=_;rw[arO];rfl
theorem arR(d:y6.aW):jW y6 d=hc (toSPol d):=by obtain⟨dS,k,m,q,aY,tQ,hf,aDg,an,p,aJ⟩:=d;have z:=Nz hf;show[Value.string dS]++([S k]++([S m]++([S q]++(jW TK aY++([bE ((kh (e:= .str) tQ).map (jW .str)) 1]++([bE (List.map (jW kF) hf) kF.cells]++(jW kF aDg++(jW kF an++(jW Co p++[])))))))))=_;rw[z];rfl
theorem arS(d:CD.aW):jW CD d=dT (toSrc d):=by
  obtain⟨x,eY,tQ,n1,dX,c2,aJ⟩:=d;have z:(kh (e:=y3) eY).map (jW y3)=((kh (e:=y3) eY).map toSLaw).map pt:=by rw[List.map_map];exact List.map_congr_left λy _=>arQ y
  have D:(kh (e:=CA) tQ).map (jW CA)=((kh (e:=CA) tQ).map toSModel).map nL:=by rw[List.map_map];exact List.map_congr_left λy _=>rfl
  have Z:(kh (e:=CB) n1).map (jW CB)=((kh (e:=CB) n1).map toSNode).map fl:=by rw[List.map_map];exact List.map_congr_left λy _=>rfl
  have aw:(kh (e:=y6) dX).map (jW y6)=((kh (e:=y6) dX).map toSPol).map hc:=by rw[List.map_map];exact List.map_congr_left λy _=>arR y
  have aX:(kh (e:=CH) c2).map (jW CH)=((kh (e:=CH) c2).map toSVol).map qS:=by rw[List.map_map];exact List.map_congr_left λy _=>rfl
  show[S x]++([bE ((kh (e:=y3) eY).map (jW y3)) 6]++([bE ((kh (e:=CA) tQ).map (jW CA)) 6]++([bE ((kh (e:=CB) n1).map (jW CB)) 9]++([bE ((kh (e:=y6) dX).map (jW y6)) 19]++([bE ((kh (e:=CH) c2).map (jW CH)) 4]++[])))))=_;rw[z,D,Z,aw,aX];rfl
theorem R9{l:List Int}(h:xB aab l):dx l/\l.length<35184372087809:=by
  refine⟨λx H=> ?_,?_⟩
  · have aX:(Lit.int .u32 x).wf=true:=h.2 x H;simp only[Lit.wf,Bool.and_eq_true,decide_eq_true_eq]at aX;obtain⟨a,b⟩:=aX;have aM:IntKind.u32.min=0:=(by decide);have a1:IntKind.u32.max=4294967295:=(by decide);rw[aM]at a;rw[a1]at b;omega
  · have z:l.length*4<=reachBytes:=h.1;simp only[reachBytes]at z;omega
theorem NJ{d:kF.aW}(h:xB kF d):(toRw d).bM:=by obtain⟨_,z,D,_⟩:=h;exact⟨(R9 z).1,(R9 D).1,(R9 z).2,(R9 D).2⟩
theorem ZQ{e:fF}{l:List e.aW}(h:xB (.slice e) l):l.length<=140737488355328:=by have:=e.ay3 h.1;simp only[reachBytes]at this;exact Nat.le_trans this (by omega)
theorem FE{l:List kF.aW}(h:xB (.slice kF) l):(∀r∈toRws l,r.bM)/\(toRws l).length<=140737488355328:=by refine⟨λr aF=> ?_,by unfold toRws;rw[List.length_map];exact ZQ (e:=kF) h⟩;unfold toRws at aF;obtain⟨d,aR,rfl⟩:=List.mem_map.1 aF;exact NJ (h.2 d aR)
theorem ayQ{d:Ey.aW}(h:xB Ey d):(toLaw d).raw:=by
  obtain⟨_,z,D,Z,_⟩:=h;have bn:=FE z;have dp:=FE Z;refine⟨bn.1,λl aG=> ?_,dp.1,bn.2,?_,dp.2,λl aG=> ?_⟩
  · obtain⟨x,H,rfl⟩:=List.mem_map.1 aG;exact(FE (D.2 x H)).1
  · show(List.map _ _).length<=_;rw[List.length_map];exact ZQ (e:= .slice kF) D
  · obtain⟨x,H,rfl⟩:=List.mem_map.1 aG;exact(FE (D.2 x H)).2
theorem aCZ{d:CD.aW}(h:xB CD d):(toSrc d).raw:=by
  obtain⟨_,z,D,Z,aw,aX,_⟩:=h;refine⟨λx H=> ?_,λx H=> ?_,λx H=> ?_⟩
  · obtain⟨y,ah,rfl⟩:=List.mem_map.1 H;exact ayQ (z.2 y ah).1
  · obtain⟨y,ah,rfl⟩:=List.mem_map.1 H;obtain⟨_,_,_,g,_⟩:=Z.2 y ah;exact NJ g
  · obtain⟨y,ah,rfl⟩:=List.mem_map.1 H;obtain⟨_,_,_,_,_,aC,a2,bS,fA,_⟩:=aw.2 y ah;exact⟨(FE a2).1,NJ bS,NJ fA,(FE a2).2,ZQ (e:= .str) aC⟩
theorem asc(m:B)(fm:List Value)(h:wB m [CD] fm):bJ Tryz.prog 4 fm m λr _=>r= .bool true:=by
  refine ayS (λts bH=> ?_) m fm h;cases bH with
  | @cons _ d _ c2 ok J=>cases J;have e:M7 CD d= .agg (dT (toSrc d)).toArray:=(by rw[<-arS];rfl);rw[e];exact asd (aCZ ok)
end Go.Proofs.YtkpifdkccdndcaaGreat
namespace Go.Proofs.YtkpifdkccdndcaaGreat.fleetCompileDone
open Go.ChangeShapes Go.WideShapes Go.ChangeAt Go.RowKit
theorem own:ownKnob Tryz.prog.godebug=none:=by kernel_rfl
theorem laidOut:laidOutB Tryz.prog=true:=by kernel_rfl
theorem mixed:Tryz.prog.follows .mixedOrders=true:=by kernel_rfl
set_option maxRecDepth 100000 in
theorem lifted(os:Os)(abO:os.Started)(kD:Type)(enc:TypeId×Value->kD):
    ReturnsInHanded {} Tryz.checked os 4 .any (Rows.fleetCompileSpec.pre6 enc Tryz.prog Tryz.f4 Rows.fleetCompileRow.domain false) (Rows.fleetCompileSpec.post enc Tryz.prog Tryz.f4 false true false false):=by
  refine returnsInHanded_of_change_sized (C:=Tryz.checked) own abO (by kernel_rfl) Tryz.func4
    (ChangeSpec.witness6 (enc:=enc) (C:=Tryz.checked) false ⟨#[],#[.agg #[.int .i64 0,.slice none 0 0,.slice none 0 0,.slice none 0 0,.slice none 0 0,.slice none 0 0]],[]⟩ 8 (by kernel_rfl) (by kernel_rfl) (by kernel_rfl) (by kernel_rfl)) ?_
  intro cX base args b1 Jg apq afw k6 aIY auD _;have qA: ∀(j:Nat) t v,Tryz.f4.params[j]?=some t->args[j]?=some v->Value.okWide Tryz.prog cX .any base t v:=afw;have atd:=k6;obtain⟨p,q,Jk,kr,rfl,F2,lK⟩:=k6;have atA:Jg=[]:=(trodVars_none kr).1;have tF: ∀n∈DataW.weightsEach Tryz.prog Tryz.f4.params.toList b1,n<=reachBytes:= λn ak=>by have iQ:(DataW.weightsEach Tryz.prog (Tryz.f4.params.toList++Rows.fleetCompileSpec.plain.varTypes Tryz.prog) (b1++Jg)).all (· <=reachBytes)=true:=auD;have:=List.all_eq_true.1 iQ n (by rw[atA];simpa[Rows.fleetCompileSpec,ChangeSpec.plain,DataSpec.varTypes]using ak);simpa using this
  have jX:DataW.TrodAll enc Tryz.prog cX 0 (λ_=>true) true Tryz.f4.params.toList args.toList b1 p:=Jk;have zP:=Go.DI.ayO (f:=4) (n:=12) mixed (ts:=Tryz.f4.params.toList) (nb:=[CD]) (by kernel_rfl) (λj t v z D=>qA j t v (by simpa using z) D) jX tF (λm fm h=>asc m fm h);rw[Tryz.params4]at jX qA;obtain⟨CK,aQQ,jC,adt,kP,bK,aIS,rfl,rfl,bB,po⟩:=trodAll_cons jX;obtain⟨rfl,rfl,rfl⟩:=trodAll_nil po;obtain rfl:args= #[CK]:=by cases args;simp_all
  obtain⟨rfl,rfl⟩:=trodVars_none kr;have azk: ∀x∈kP,x.block<cX.heap.size:=by obtain⟨m,aK⟩:=bB;exact DataW.trod_lt m _ _ _ aK
  clear Jk afw;refine zP.mono λe aEN ⟨aU,acI⟩=> ?_;subst aU;exact⟨_,rfl,_,_,_,[],_,[],atd,trodAll_mk1 (shut_bool (by kernel_rfl) _),(trodAll_cons_mk (Below.trod laidOut (by kernel_rfl) (of_decide_eq_true (by kernel_rfl)) bB acI azk) trodAll_mk0),rfl,acI.frame _,λh=>by cases h⟩
theorem over:Rows.fleetCompileRow.holds Tryz.pinned (OpenSpec.ofChange Rows.fleetCompileSpec):=
  OpenClaim.holds_of_wide 4 Tryz.f4 rfl rfl rfl rfl rfl rfl rfl ⟨rfl,rfl,rfl,rfl,rfl⟩ rfl rfl rfl rfl rfl (by kernel_rfl) Tryz.func4 (by kernel_rfl)
    (of_decide_eq_true (by kernel_rfl)) (by unfold Func.isWrapper;first|(rw[if_pos (by decide+kernel)];kernel_rfl)|(rw[if_neg (by decide+kernel)];exact⟨rfl,rfl⟩))
    (λos abO kD enc _=>lifted os abO kD enc)
theorem proved:Rows.FleetCompileSaid:=over
#print axioms proved
end Go.Proofs.YtkpifdkccdndcaaGreat.fleetCompileDone
