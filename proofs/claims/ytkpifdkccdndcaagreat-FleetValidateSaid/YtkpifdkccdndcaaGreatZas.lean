/-
  A part of the proof of the statement, in texts that tools of ours (wip/shrink.py, irpack.py, relax.py, minify.py, join.py, lay.py) have shortened.
-/
import Derived.Test.YtkpifdkccdndcaaGreatZar
set_option linter.all false
set_option maxRecDepth 8000
set_option maxHeartbeats 16000000
namespace Go.Proofs.YtkpifdkccdndcaaGreat
open Go Go.DI Go.Big
theorem aNb{x:bp}(h:x.ok=true)(cl:x.n=0):x.small=true:=by
  have ay:0<x.d:=by simp only[bp.ok,bK,fU]at h;exact h.1.1
  unfold bp.small g4;rw[h,cl,ai5 (by omega),Int.ediv_self (by omega)];simp
theorem aJY{x:bp}(bH:0<=x.n):(x.ok&&decide (iI x .nil=0))=(x.small&& !decide (0<x.n)):=by
  cases aA:x.ok
  · have:x.small=false:=by
      cases M:x.small
      · rfl
      · rw[J3 M]at aA;cases aA
    rw[this];rfl
  · by_cases cl:x.n=0
    · rw[aNb aA cl];simp[aeD bH,cl]
    · have:0<x.n:=(by omega);simp[aeD bH,cl,this]
theorem gw.Cy{z:a4}{b cM:Bool}{bE:Nat->Nat}{bN:Nat->List ByteArray}{u ae:aM}{t bu:E}(h:gw z b bE bN u t)(iV:ae 8= .bool cM)(M: ∀k∈nW,ae k=u k)(bm: ∀o,o<t.next->bu.U o=t.U o):gw z cM bE bN ae bu:=by obtain⟨bC,cq,cZ,fR,gA,jC,uW⟩:=h.aib iV M;exact⟨bC,cq,(bm _ (aO cZ)).trans cZ,fR,λk a b=>(bm _ (aO (gA k a b))).trans (gA k a b),jC,uW⟩
theorem arU{a b c d e f:Nat}:v5 a b c d e f=(decide (a<=4)&&(decide (b<=4)&&(decide (c<=40)&&(decide (d<=24)&&(decide (e<=4)&&decide (f<=12)))))):=by
  unfold v5;congr 1
  · exact decide_eq_decide.2 (by omega)
  congr 1
  · exact decide_eq_decide.2 (by omega)
  congr 1
  · exact decide_eq_decide.2 (by omega)
  congr 1
  · exact decide_eq_decide.2 (by omega)
  congr 1
  · exact decide_eq_decide.2 (by omega)
  · exact decide_eq_decide.2 (by omega)
theorem Ed{u ae:aM}(B:ae 1=u 1)(af:ae 3=u 3)(aL:ae 4=u 4)(cm:ae 5=u 5)(dK:ae 6=u 6)(hh:ae 7=u 7): ∀k∈nW,ae k=u k:= λk aa=>by simp only[nW,oz,wi,or_false]at aa;rcases aa with rfl|rfl|rfl|rfl|rfl|rfl<;>assumption
theorem aKF{z:a4}(h:a4.dP z){R:gp}(gP:z.br[0]?=some R){b:Bool}{bE:Nat->Nat}{bN:Nat->List ByteArray}{u:aM}{t:E}(Y:gw z b bE bN u t){Q:dp->aM->E->Prop}
    (H: ∀ae bu,gw z (b&&rn R) bE bN ae bu->lb (P:=Z) ⟨[v3,JZ,G1,Eb],[]⟩ Jg ae bu Q):lb (P:=Z) ⟨[v3,JZ,G1,Eb],[]⟩ pU u t Q:=by
  have pO:0<z.br.length:=(dg.1 gP).1;have kl:(0:Int)<z.br.length:=by omega
  have lH:=(dg.1 gP).2;have Gs:R.ju.bD:=h.br R (fT gP);have aw:=Y.aw;have ch:=Y.ch;have aJ:=Y.aJ;have et:=aO aJ;have S:=aJY (x:=R.ju.bG) (aV.vS Gs);obtain⟨afh,aff,afk,OR,⟨GS,tT,fE⟩⟩:=R;simp only at Gs S
  replace H: ∀ae bu,∀{v:Bool},gw z v bE bN ae bu->(b&&(decide (afh=⟨#[]⟩)&&(decide (aff=0)&&(decide (afk= -1)&&(decide (OR=0)&&((aV.mk GS tT fE).bG.ok&&decide (iI (aV.mk GS tT fE).bG .nil=0)))))))=v->lb (P:=Z) ⟨[v3,JZ,G1,Eb],[]⟩ Jg ae bu Q:= λae bu v wK e=>H ae bu (by have:(b&&rn ⟨afh,aff,afk,OR,⟨GS,tT,fE⟩⟩)=v:=(by rw[<-e,S];rfl);rw[this];exact wK)
  cases b
  · skip
    simp(disch:=first|omega|simp only[DI.aF];omega) [pU,qt,qt,pU,bl,eL,aw,ch,aJ,pO,lH,-ao,-aB,-ai,-au,-List.map_map];exact H _ _ (Y.Cy (cM:=false) (by simp) (Ed (by simp) (by simp) (by simp) (by simp) (by simp) (by simp)) (λo ah=>by simp(disch:=first|omega|simp only[DI.aF];omega) [-ao,-aB,-ai,-au,-List.map_map])) rfl
  by_cases bY:afh=⟨#[]⟩
  case neg=>simp(disch:=first|omega|simp only[DI.aF];omega) [pU,qt,qt,pU,bl,eL,aw,ch,aJ,pO,lH,bY,-ao,-aB,-ai,-au,-List.map_map];exact H _ _ (Y.Cy (cM:=false) (by simp) (Ed (by simp) (by simp) (by simp) (by simp) (by simp) (by simp)) (λo ah=>by simp(disch:=first|omega|simp only[DI.aF];omega))) (by simp[bY])
  by_cases cN:aff=0
  case neg=>simp(disch:=first|omega|simp only[DI.aF];omega) [pU,qt,qt,pU,bl,eL,aw,ch,aJ,pO,lH,bY,cN,-ao,-aB,-ai,-au,-List.map_map];exact H _ _ (Y.Cy (cM:=false) (by simp) (Ed (by simp) (by simp) (by simp) (by simp) (by simp) (by simp)) (λo ah=>by simp(disch:=first|omega|simp only[DI.aF];omega))) (by simp[bY,cN])
  by_cases dI:afk= -1
  case neg=>simp(disch:=first|omega|simp only[DI.aF];omega) [pU,qt,qt,pU,bl,eL,aw,ch,aJ,pO,lH,bY,cN,dI,-ao,-aB,-ai,-au,-List.map_map];exact H _ _ (Y.Cy (cM:=false) (by simp) (Ed (by simp) (by simp) (by simp) (by simp) (by simp) (by simp)) (λo ah=>by simp(disch:=first|omega|simp only[DI.aF];omega))) (by simp[bY,cN,dI])
  by_cases ew:OR=0
  case neg=>simp(disch:=first|omega|simp only[DI.aF];omega) [pU,qt,qt,pU,bl,eL,aw,ch,aJ,pO,lH,bY,cN,dI,ew,-ao,-aB,-ai,-au,-List.map_map];exact H _ _ (Y.Cy (cM:=false) (by simp) (Ed (by simp) (by simp) (by simp) (by simp) (by simp) (by simp)) (λo ah=>by simp(disch:=first|omega|simp only[DI.aF];omega))) (by simp[bY,cN,dI,ew])
  cases gE:(aV.mk GS tT fE).bG.ok
  · skip
    simp(disch:=first|omega|simp only[DI.aF];omega) [pU,qt,qt,pU,bl,eL,aw,ch,aJ,pO,lH,bY,cN,dI,ew,gE,-ao,-aB,-ai,-au,-List.map_map];exact H _ _ (Y.Cy (cM:=false) (by simp) (Ed (by simp) (by simp) (by simp) (by simp) (by simp) (by simp)) (λo ah=>by simp(disch:=first|omega|simp only[DI.aF];omega))) (by simp[bY,cN,dI,ew,gE])
  have aa:(aV.mk GS tT fE).bD/\(aV.mk GS tT fE).bG.ok=true:=⟨Gs,gE⟩;by_cases ma:iI (aV.mk GS tT fE).bG .nil=0
  case neg=>simp(disch:=first|omega|simp only[DI.aF];omega) [pU,qt,qt,pU,bl,eL,aw,ch,aJ,pO,lH,bY,cN,dI,ew,gE,ma,-ao,-aB,-ai,-au,-List.map_map];exact H _ _ (Y.Cy (cM:=false) (by simp) (Ed (by simp) (by simp) (by simp) (by simp) (by simp) (by simp)) (λo ah=>by simp(disch:=first|omega|simp only[DI.aF];omega))) (by simp[bY,cN,dI,ew,gE,ma])
  simp(disch:=first|omega|simp only[DI.aF];omega) [pU,qt,qt,pU,bl,eL,aw,ch,aJ,pO,lH,bY,cN,dI,ew,gE,ma,-ao,-aB,-ai,-au,-List.map_map];exact H _ _ (Y.Cy (cM:=true) (by simp) (Ed (by simp) (by simp) (by simp) (by simp) (by simp) (by simp)) (λo ah=>by simp(disch:=first|omega|simp only[DI.aF];omega))) (by simp[bY,cN,dI,ew,gE,ma])
theorem aKG{z:a4}(h:a4.dP z):c4 Z 69 [.agg (bl z).toArray] (.bool (g6 z)):=by
  refine gR (ga (a0:=⟨[v3,JZ,G1,Eb],[]⟩) aEB (by kernel_rfl) (by simp[Jf]) ?_);cases B:eG z.ext 1 4
  · have ar:g6 z=false:=(by simp[g6,B]);simp[Jf,NM,NN,TT,TY,TZ,T0,pU,qt,Jg,TR,TS,TW,TX,bl,B,ar]
  cases H:v5 z.bO.length z.aR.length z.br.length z.c5.length z.bT.length z.cP.length
  · have ar:g6 z=false:=by
      rw[arU]at H;unfold g6;rw[B];cases bz:(decide (z.bO.length<=4)&&(decide (z.aR.length<=4)&&(decide (z.br.length<=40)&&(decide (z.c5.length<=24)&&(decide (z.bT.length<=4)&&decide (z.cP.length<=12))))))
      · simp only[oY,Hl,Ew]at bz⊢;rcases bz with bz|bz|bz|bz|bz|bz<;>simp[bz]
      · rw[bz]at H;cases H
    simp[Jf,NM,NN,TT,TY,TZ,T0,pU,qt,Jg,TR,TS,TW,TX,bl,B,H,ar]
  cases iN:z.br with
  | nil=>have mz:(z.br.length:Int)=0:=(by rw[iN];rfl);have pa:z.br.length=0:=(by rw[iN];rfl);have ar:g6 z=false:=(by simp[g6,iN,tn]);have gB:v5 z.bO.length z.aR.length 0 z.c5.length z.bT.length z.cP.length=true:=(by rw[<-mz];exact H);simp[Jf,NM,NN,bl,B,gB,ar,pa]
  |cons R ds=>
  have mz: ¬(z.br.length:Int)=0:=by rw[iN];simp;omega
  have pa: ¬z.br.length=0:=by rw[iN];simp
  have kl:(0:Int)<z.br.length:=by omega
  have pO:0<z.br.length:=by omega
  have Gs:R.ju.bD:=h.br R (by rw[iN];simp);have gP:z.br[0]?=some R:=by rw[iN];rfl
  have lH:=(dg.1 gP).2;simp[Jf,NM,NN,TT,TY,TZ,bl,B,H,pa];refine atb (z:=z) (by simp) (by simp) (by simp) (by simp) (by simp) (by simp) (by simp) (by simp[bl]) λu t bE Y aa=> ?_;refine aKx h Y (λ_=>by simp) (λ_=>Pl) ((aa 9 (by decide)).trans (by simp)) λu t bE bN Y K=> ?_;obtain⟨cM,aX⟩: ∃b,b=(true&&(fS ([]++z.bO.map (·.name))&&z.bO.all dY.oj)):=⟨_,rfl⟩;rw[<-aX]at Y K;simp[T0];refine aKy h (Y.kD (by simp) (fF (d:=0) (λ_=>by simp) (λ_=>by simp) (λ_=>by simp) (λ_=>by simp) (λ_=>by simp) (λ_=>by simp))) (λa6=>by rw[K a6];simp[ed]) (λa6=>by rw[K a6];simp[ed,Pl]) (by simp) λu t bE Gy Y hi=> ?_;obtain⟨dq,bg⟩: ∃b,b=(cM&&(fS (bN 4++z.aR.map (·.name))&&z.aR.all (nO z.bO.length))):=⟨_,rfl⟩;rw[<-bg]at Y hi;have dL:dq=true->cM=true:= λa6=>by rw[bg,bK]at a6;exact a6.1
  replace hi:dq=true->Gy=ed (ed (λ_=>[]) 3 (z.bO.map (·.name))) 4 (z.aR.map (·.name)):= λa6=>by rw[hi a6,K (dL a6)];simp[ed]
  replace bg:dq=(cM&&(fS (z.aR.map (·.name))&&z.aR.all (nO z.bO.length))):=by
    cases bz:cM
    · rw[bg,bz];rfl
    · rw[bg,bz,K bz];simp[ed]
  clear K;refine aKF h gP Y λu t Y=> ?_;obtain⟨jw,dU⟩: ∃b,b=(dq&&rn R):=⟨_,rfl⟩;rw[<-dU]at Y;have fp:jw=true->dq=true:= λa6=>by rw[dU,bK]at a6;exact a6.1
  simp[Jg];refine aKz h iN (Y.kD (by simp) (fF (d:=0) (λ_=>by simp) (λ_=>by simp) (λ_=>by simp) (λ_=>by simp) (λ_=>by simp) (λ_=>by simp))) (λa6=>by rw[hi (fp a6)];simp[ed]) (λa6=>by rw[hi (fp a6)];simp[ed,Pl]) (by simp) λu t bE bN Y K=> ?_;obtain⟨kQ,ha⟩: ∃b,b=(jw&&(fS (Gy 5++ds.map (·.name))&&Ab z.br ds)):=⟨_,rfl⟩;rw[<-ha]at Y K;have ns:kQ=true->jw=true:= λa6=>by rw[ha,bK]at a6;exact a6.1
  replace K:kQ=true->bN=ed (ed (ed (λ_=>[]) 3 (z.bO.map (·.name))) 4 (z.aR.map (·.name))) 5 (ds.map (·.name)):= λa6=>by rw[K a6,hi (fp (ns a6))];simp[ed]
  replace ha:kQ=(jw&&(fS (ds.map (·.name))&&Ab z.br ds)):=by
    cases bz:jw
    · rw[ha,bz];rfl
    · rw[ha,bz,hi (fp bz)];simp[ed]
  have sc:kQ=true->fS (ds.map (·.name))=true:= λa6=>by rw[ha]at a6;simp only[bK]at a6;exact a6.2.1
  clear hi;simp[TR];refine aKA h (Y.kD (by simp) (fF (d:=0) (λ_=>by simp) (λ_=>by simp) (λ_=>by simp) (λ_=>by simp) (λ_=>by simp) (λ_=>by simp))) (λa6=>by rw[K a6];have:=h.lk;rw[iN]at this;simp[ed]at this⊢;omega) (λa6=>by rw[K a6];simpa[ed]using sc a6) (by simp) λu t bE Gy Y hi=> ?_;obtain⟨ti,kF⟩: ∃b,b=(kQ&&(fS (bN 5++z.c5.map (·.name))&&z.c5.all (nE z.aR.length z.br))):=⟨_,rfl⟩;rw[<-kF]at Y hi;have mX:ti=true->kQ=true:= λa6=>by rw[kF,bK]at a6;exact a6.1
  replace hi:ti=true->Gy 6=[]/\Gy 7=[]:= λa6=>by rw[hi a6,K (mX a6)];simp[ed]
  replace kF:ti=(kQ&&(fS (ds.map (·.name)++z.c5.map (·.name))&&z.c5.all (nE z.aR.length z.br))):=by
    cases bz:kQ
    · rw[kF,bz];rfl
    · rw[kF,bz,K bz];simp[ed]
  clear K;simp[TS];refine aKD h (Y.kD (by simp) (fF (d:=0) (λ_=>by simp) (λ_=>by simp) (λ_=>by simp) (λ_=>by simp) (λ_=>by simp) (λ_=>by simp))) (λa6=>by rw[(hi a6).1];simp) (λa6=>by rw[(hi a6).1];exact Pl) (by simp) λu t bE bN Y K=> ?_;obtain⟨rD,ni⟩: ∃b,b=(ti&&(fS (Gy 6++z.bT.map (·.name))&&z.bT.all (k8 · z.aR.length))):=⟨_,rfl⟩;rw[<-ni]at Y K;have pg:rD=true->ti=true:= λa6=>by rw[ni,bK]at a6;exact a6.1
  replace K:rD=true->bN 7=[]:= λa6=>by rw[K a6,ny (by decide),(hi (pg a6)).2]
  replace ni:rD=(ti&&(fS (z.bT.map (·.name))&&z.bT.all (k8 · z.aR.length))):=by
    cases bz:ti
    · rw[ni,bz];rfl
    · rw[ni,bz,(hi bz).1];rfl
  clear hi;simp[TW];refine aKE h (Y.kD (by simp) (fF (d:=0) (λ_=>by simp) (λ_=>by simp) (λ_=>by simp) (λ_=>by simp) (λ_=>by simp) (λ_=>by simp))) (λa6=>by rw[K a6];simp) (λa6=>by rw[K a6];exact Pl) (by simp) λu t bE Gy Y hi=> ?_;obtain⟨vf,vn⟩: ∃b,b=(rD&&(fS (bN 7++z.cP.map (·.name))&&z.cP.all (sd z.bT.length))):=⟨_,rfl⟩;rw[<-vn]at Y
  replace vn:vf=(rD&&(fS (z.cP.map (·.name))&&z.cP.all (sd z.bT.length))):=by
    cases bz:rD
    · rw[vn,bz];rfl
    · rw[vn,bz,K bz];rfl
  have ar:g6 z=vf:=by
    rw[arU]at H;simp only[bK,fU]at H;obtain⟨py,u3,u4,Km,Wk,Wl⟩:=H;have ay:tn z.br=(rn R&&Ab z.br ds):=(by rw[iN];rfl);have bm:z.br.tail=ds:=(by rw[iN];rfl);rw[Bool.eq_iff_iff];unfold g6;simp only[B,py,u3,u4,Km,Wk,Wl,ay,bm,decide_true,oY];rw[vn,ni,kF,ha,dU,bg,aX];simp only[bK,xv,oY];constructor
    · rintro⟨⟨bh,bt⟩,c1,e0,hK,h3,jk,lf,lz,cM,dq,jw⟩;refine⟨⟨⟨⟨⟨⟨⟨lf,c1⟩,lz,e0⟩,bh⟩,?_,bt⟩,cM,hK⟩,dq,h3⟩,jw,jk⟩;exact asC cM
    · rintro⟨⟨⟨⟨⟨⟨⟨lf,c1⟩,lz,e0⟩,bh⟩,_,bt⟩,cM,hK⟩,dq,h3⟩,jw,jk⟩;exact⟨⟨bh,bt⟩,c1,e0,hK,h3,jk,lf,lz,cM,dq,jw⟩
  have ch:=Y.ch;simp[TX,ar,ch]
noncomputable def O4(z:a4)(h:a4.dP z):cf Z:= .ek 69 Unit (λ_=>True) (λ_=>[.agg (bl z).toArray]) (λ_=> .bool (g6 z)) λ_ _=>aKG h
@[simp] theorem aX1{z:a4}{h:a4.dP z}:(O4 z h).f=69:=rfl
@[simp] theorem aX2{z:a4}{h:a4.dP z}:(O4 z h).fn [.agg #[X z.ext,aQ (z.bO.map fH) 4,aQ (z.aR.map hD) 4,aQ (z.br.map eL) 7,aQ (z.c5.map hO) 3,aQ (z.bT.map eR) 17,aQ (z.cP.map iy) 2]]=some (.bool (g6 z)):=cf.eP (x:=()) trivial λ_ _=>rfl
theorem aKI{z:a4}(h:a4.dP z):c4 Z 18 [.agg (bl z).toArray] (X (if g6 z then 0 else 1)):=by
  refine gR (ga (a0:=⟨[O4 z h],[]⟩) aDE (by kernel_rfl) (by simp[S5]) ?_);cases S:g6 z
  · simp[S5,abY,abZ,ab0,bl,S]
  · simp[S5,abY,abZ,ab0,bl,S]
def atn:aV:=⟨false,bL 0,bL 1⟩
noncomputable def K6(d:gp):l8:=⟨d.g3,d.name,d.xj,hE d.ju,⟨#[]⟩,⟨0,0⟩⟩
def pZ(hG:List o1)(m:Int):ByteArray:=match hG[m.toNat]? with
  |some x=>x.name
  |none=>⟨#[]⟩
def HB(hG:List o1)(x:pB):l8:=⟨5,x.name,0,atn,pZ hG x.model,⟨0,0⟩⟩
def sO(ds:List gp)(d i:Nat):Bool:=match ds[i]? with
  |some x=>decide (x.parent=(d:Int))
  |none=>false
def sI(ds:List gp)(d i:Nat):List Nat:=(List.range i).filter (sO ds d)
noncomputable def sw(ds:List gp)(d:Nat):List l8:=if d=0 then[]else match ds[d]? with
  |some x=>[K6 x]
  |none=>[]
noncomputable def nu(z:a4):Nat->Nat->List l8
  |0,_=>[]
  |n+1,d=>sw z.br d++(sI z.br d z.br.length).flatMap (nu z n)++(z.c5.filter λx=>decide (x.q9=(d:Int))).map (HB z.aR)
noncomputable def kz(z:a4)(n d i:Nat):List l8:=sw z.br d++(sI z.br d i).flatMap (nu z n)
noncomputable def sL(z:a4)(n d i:Nat):List l8:=kz z n d z.br.length++((z.c5.take i).filter λx=>decide (x.q9=(d:Int))).map (HB z.aR)
theorem aew{z:a4}{n d:Nat}:nu z (n+1) d=sL z n d z.c5.length:=by unfold sL kz;rw[kM];rfl
theorem apy{ds:List gp}{d i:Nat}:sI ds d (i+1)=sI ds d i++if sO ds d i then[i]else[]:=by unfold sI;rw[List.range_succ,List.filter_append];cases h:sO ds d i<;>simp[h]
theorem aeH{z:a4}{n d i:Nat}(h:sO z.br d i=true):kz z n d (i+1)=kz z n d i++nu z n i:=by unfold kz;rw[apy,h];simp
theorem aeG{z:a4}{n d i:Nat}(h:sO z.br d i=false):kz z n d (i+1)=kz z n d i:=by unfold kz;rw[apy,h];simp
theorem aeJ{z:a4}{n d i:Nat}{x:pB}(F:z.c5[i]?=some x)(h:x.q9=(d:Int)):sL z n d (i+1)=sL z n d i++[HB z.aR x]:=by unfold sL;rw[l6 F,List.filter_append];simp[h]
theorem aeI{z:a4}{n d i:Nat}{x:pB}(F:z.c5[i]?=some x)(h: ¬x.q9=(d:Int)):sL z n d (i+1)=sL z n d i:=by unfold sL;rw[l6 F,List.filter_append];simp[h]
theorem aqN{z:a4}{n d:Nat}:sL z n d 0=kz z n d z.br.length:=by unfold sL;simp
def mP:Nat->Nat
  |0=>0
  |n+1=>25+40*mP n
theorem Wv{n:Nat}(h:n<=5):mP n<=65641025:=by
  have:n=0\/n=1\/n=2\/n=3\/n=4\/n=5:=by omega
  rcases this with rfl|rfl|rfl|rfl|rfl|rfl<;>decide
theorem Xw{α p7:Type}{f:α->List p7}{L:Nat}: ∀{l:List α},(∀x∈l,(f x).length<=L)->(l.flatMap f).length<=l.length*L
  |[],_=>by simp
  | x::l,h=>by have B:=h x (by simp);have H:=Xw (f:=f) (l:=l) λy ab=>h y (by simp[ab]);rw[List.flatMap_cons,mo,nB,mN];omega
theorem ajx{ds:List gp}{d:Nat}:(sw ds d).length<=1:=by
  unfold sw;split
  · simp
  · split<;>simp
theorem apx{ds:List gp}{d i:Nat}:(sI ds d i).length<=i:=by have:=List.length_filter_le (sO ds d) (List.range i);unfold sI;simpa using this
theorem U3{z:a4}(B:z.br.length<=40)(H:z.c5.length<=24): ∀n d,(nu z n d).length<=mP n
  |0,d=>by simp[nu,mP]
  | n+1,d=>by have cB:=U3 B H n;have bh:=ajx (ds:=z.br) (d:=d);have bt:=Xw (f:=nu z n) (L:=mP n) (l:=sI z.br d z.br.length) λx _=>cB x;have c1:(sI z.br d z.br.length).length<=40:=nC apx B;have e0:(sI z.br d z.br.length).length*mP n<=40*mP n:=s6 _ c1;have hK:=List.length_filter_le (λx:pB=>decide (x.q9=(d:Int))) z.c5;show(sw z.br d++_++_).length<=25+40*mP n;rw[mo,mo,jZ];omega
theorem aeF{z:a4}(B:z.br.length<=40)(H:z.c5.length<=24){n d i:Nat}(ag:i<=z.br.length):(kz z n d i).length<=1+i*mP n/\(kz z n d i).length<=1+40*mP n:=by have bh:=ajx (ds:=z.br) (d:=d);have bt:=Xw (f:=nu z n) (L:=mP n) (l:=sI z.br d i) λx _=>U3 B H n x;have e0:(sI z.br d i).length*mP n<=i*mP n:=s6 _ apx;have hK:i*mP n<=40*mP n:=s6 _ (by omega);unfold kz;rw[mo];omega
theorem aqM{z:a4}(B:z.br.length<=40)(H:z.c5.length<=24){n d i:Nat}:(sL z n d i).length<=mP (n+1):=by
  have bh:=(aeF B H (n:=n) (d:=d) (eB _)).2;have bt:=List.length_filter_le (λx:pB=>decide (x.q9=(d:Int))) (z.c5.take i);have c1:=List.length_take_le i z.c5;have e0:(z.c5.take i).length<=z.c5.length:=by rw[k9];omega
  unfold sL;rw[mo,jZ];show _<=25+40*mP n;omega
structure a4.rr(z:a4):Prop where
  lk:z.br.length<=40
  r2:z.c5.length<=24
  Vq: ∃R,z.br[0]?=some R/\R.g3=0/\R.parent= -1
  qU: ∀(i:Nat) (x:gp),z.br[i]?=some x->0<i-> ∃(p:Nat) (q:gp),x.parent=(p:Int)/\p<i/\z.br[p]?=some q/\x.g3=q.g3+1/\1<=x.g3/\x.g3<=4
  ok: ∀(i:Nat) (x:gp),z.br[i]?=some x->x.ju.bG.small=true
  Xi: ∀x∈z.c5,∃(k m:Nat) (y:o1),x.model=(k:Int)/\z.aR[k]?=some y/\x.q9=(m:Int)/\m<z.br.length
theorem a4.rr.aeM{z:a4}(h:a4.rr z){d i:Nat}{x:gp}(F:z.br[i]?=some x)(Y:x.parent=(d:Int)):d<i/\ ∃q,z.br[d]?=some q/\x.g3=q.g3+1/\x.g3<=4:=by
  by_cases bH:i=0
  · subst bH;obtain⟨R,B,_,af⟩:=h.Vq;rw[F]at B;cases B;omega
  · obtain⟨p,q,aX,bg,dU,ha,kF,ni⟩:=h.qU i x F (by omega);have:p=d:=(by omega);subst this;exact⟨bg,q,dU,ha,ni⟩
theorem a4.rr.Gz{z:a4}(h:a4.rr z){i:Nat}{x:gp}(F:z.br[i]?=some x):0<=x.g3/\x.g3<=4:=by
  by_cases bH:i=0
  · subst bH;obtain⟨R,B,H,af⟩:=h.Vq;rw[F]at B;cases B;omega
  · obtain⟨p,q,aX,bg,dU,ha,kF,ni⟩:=h.qU i x F (by omega);omega
theorem Vc{z:a4}(h:a4.rr z){n d:Nat}:kz z n d (d+1)=sw z.br d:=by
  unfold kz sI;have:(List.range (d+1)).filter (sO z.br d)=[]:=by
    rw[List.filter_eq_nil_iff];intro i ag;rw[yJ]at ag;unfold sO;cases F:z.br[i]? with
    |none=>simp
    | some x=>simp only[fU];intro Y;have:=(h.aeM F Y).1;omega
  rw[this];simp
theorem aHV{z:a4}{n i:Nat}{x:gp}(F:z.br[i]?=some x)(bH:0<i):nu z (n+1) i≠[]:=by show sw z.br i++_++_≠[];unfold sw;rw[if_neg (by omega),F];simp
theorem ass{z:a4}(h:g6 z=true):a4.rr z:=by
  unfold g6 at h;simp only[bK,fU,hJ]at h;obtain⟨B,py,u3,u4,Km,Wk,Wl,ay,aE,aN,aH,Y,S,_⟩:=h;cases iN:z.br with
  |nil=>rw[iN]at ay;cases ay
  | cons R ds=>
    rw[iN,Qp,bK,hJ]at ay;obtain⟨gN,gf⟩:=ay;simp only[rn,bK,fU]at gN;obtain⟨eT,fk,hB,js,mm,xa⟩:=gN;have g2: ∀i x,z.br[i]?=some x->0<i->mQ (R::ds) (i-1) x=true:=by intro i x F bH;rw[iN]at F;obtain⟨j,rfl⟩: ∃j,i=j+1:=⟨i-1,by omega⟩;rw[Ps]at F;have:=gf j (yJ.2 (dg.1 F).1);rw[F]at this;exact this
    refine⟨u4,Km,⟨R,by rw[iN];rfl,fk,hB⟩,λi x F bH=> ?_,λi x F=> ?_,λx F=> ?_⟩
    · have:=g2 i x F bH;simp only[mQ,bK]at this;obtain⟨bh,bt,c1,e0,hK⟩:=this;have bh:=rT.1 bh;have c1:=rT.1 c1;obtain⟨p,Y⟩:=xp bh.1;unfold JC at bt;rw[Y,u6]at bt;cases bz:(R::ds)[p]? with
      |none=>rw[bz]at bt;cases bt
      | some q=>rw[bz]at bt;simp only[fU]at bt;exact⟨p,q,Y,by omega,by rw[iN];exact bz,by omega,c1.1,c1.2⟩
    · by_cases bH:i=0
      · subst bH;rw[iN]at F;cases F;exact mm
      · have:=g2 i x F (by omega);simp only[mQ,bK]at this;exact this.2.2.2.2
    · have:=aH x F;simp only[nE,bK]at this;obtain⟨bh,bt,c1⟩:=this;have bh:=rT.1 bh;have bt:=rT.1 bt;obtain⟨k,aa⟩:=xp bh.1;obtain⟨m,aN⟩:=xp bt.1;have uF:k<z.aR.length:=(by omega);exact⟨k,m,z.aR[k],aa,c0 uF,aN,by rw[iN]at bt;rw[iN];omega⟩
abbrev y1(l:List l8):Value:=aQ (l.map qJ) 9
def nQ(l:List l8):List Value:=(l.map qJ).flatten
theorem U5{l:List l8}:(nQ l).length=l.length*9:=by unfold nQ;rw[CH (O:=9) λr aH=>by obtain⟨x,_,rfl⟩:=iK.1 aH;rfl,jZ]
theorem U4{a b:List l8}:nQ (a++b)=nQ a++nQ b:=by unfold nQ;rw[oy,Px]
theorem U6{x:l8}:nQ [x]=qJ x:=by simp[nQ]
def EL(f:Nat)(z:a4)(n:Nat):Prop:= ∀(d:Nat) (x:gp),z.br[d]?=some x->5=x.g3+(n:Int)->c4 Z f [.agg (bl z).toArray,X d] (y1 (nu z n d))
noncomputable def af1(z:a4)(n:Nat)(cB:EL 70 z n):cf Z:= .ek 70 Nat (λd=> ∃x,z.br[d]?=some x/\5=x.g3+(n:Int)) (λd=>[.agg (bl z).toArray,X d]) (λd=>y1 (nu z n d)) λd ⟨x,B,H⟩=>cB d x B H
@[simp] theorem aXk{z:a4}{n:Nat}{cB:EL 70 z n}:(af1 z n cB).f=70:=rfl
@[simp] theorem aXl{z:a4}{n:Nat}{cB:EL 70 z n}{d:Nat}(h: ∃x,z.br[d]?=some x/\5=x.g3+(n:Int)):(af1 z n cB).fn [.agg #[X z.ext,aQ (z.bO.map fH) 4,aQ (z.aR.map hD) 4,aQ (z.br.map eL) 7,aQ (z.c5.map hO) 3,aQ (z.bT.map eR) 17,aQ (z.cP.map iy) 2],X d]=some (y1 (nu z n d)):=cf.eP (x:=d) h λy ab=>by simp at ab;omega
theorem arl{z:a4}(aH:a4.dP z)(bm:a4.rr z){n d:Nat}{cn:gp}(g2:z.br[d]?=some cn)(aE:5=cn.g3+((n+1:Nat):Int))(cB:EL 70 z n){bF:aM}{bS:E}{cG:Nat}(my:bS.U 0=some ⟨bl z,true⟩)(jl:bS.U cG=some ⟨nQ (kz z n d (d+1)),true⟩)(ho:cG≠0)
    (jE:bF 1=X d) (rp:bF 2=cb 0) (afx:bF 6= .slice (some ⟨cG,0,none⟩) (kz z n d (d+1)).length 9) (afz:bF 9=X ((d+1:Nat):Int)) {Q:dp->aM->E->Prop}
    (a1: ∀u t o,t.U 0=some ⟨bl z,true⟩->t.U o=some ⟨nQ (kz z n d z.br.length),true⟩->o≠0->u 1=X d->u 2=cb 0->u 6= .slice (some ⟨o,0,none⟩) (kz z n d z.br.length).length 9->Q (.bw 0) u t):gD Z (.loop NQ) bF bS Q:=by
  have ze:d<z.br.length:=(dg.1 g2).1;have lp:=bm.lk;have xZ:=bm.Gz g2;have aji:=Wv (n:=n+1) (by omega);refine hC (a0:=⟨[af1 z n cB],[]⟩) (λi u t=> ∃o L,L=kz z n d i/\t.U 0=some ⟨bl z,true⟩/\t.U o=some ⟨nQ L,true⟩/\o≠0/\u 1=X d/\u 2=cb 0/\u 6= .slice (some ⟨o,0,none⟩) L.length 9/\u 9=X i) z.br.length ?_ ?_ (d+1) bF bS ze ⟨cG,_,rfl,my,jl,ho,jE,rp,afx,afz⟩
  · rintro i u t ag ⟨o,L,fh,aJ,bj,j8,aw,bR,dn,e4⟩ cp aZ;obtain⟨x,F⟩:=kS ag;have eA:=(dg.1 F).2;have bc:=e7 (n:=i) (by omega);have bn:(i:Int)<z.br.length:=(by omega);have et:=aO aJ;have cK:=aO bj;by_cases Y:x.parent=(d:Int)
    · have K:sO z.br d i=true:=(by unfold sO;rw[F];simp[Y]);obtain⟨Q2,q,bz,azb,Yv⟩:=bm.aeM F Y;rw[g2]at bz;cases bz;have Ie: ∃x,z.br[i]?=some x/\5=x.g3+(n:Int):=⟨x,F,by omega⟩;obtain⟨R,gN⟩: ∃R,R=nu z n i:=⟨_,rfl⟩;have aRz:R.length<=mP n:=(by rw[gN];exact U3 bm.lk bm.r2 n i);have ajl: ¬R.length=0:=by
        obtain⟨m,rfl⟩: ∃m,n=m+1:=⟨n-1,by omega⟩;have:=aHV (n:=m) F (by omega);rw[gN];exact λh=>this (pz.1 h)
      have tq:=(aeF bm.lk bm.r2 (n:=n) (d:=d) (i:=i) (by omega)).2;rw[<-fh]at tq;have aRt:25+40*mP n<=65641025:=aji;obtain⟨cs,fe⟩: ∃cs,cs=nQ L:=⟨_,rfl⟩;rw[<-fe]at bj;have gr:cs.length=L.length*9:=(by rw[fe,U5]);have hd:cs.take (L.length*9)=cs:=fw (by omega);have gv:(L.length+R.length)*120<=140737488355328/\L.length+R.length<=9223372036854775807:=(by omega);have aRA: ¬R=[]:= λh=>ajl (by rw[h];rfl);simp(disch:=first|omega|simp only[DI.aF];omega) [NQ,T3,bl,eL,aw,bR,dn,e4,aJ,bj,bn,bc,eA,Y,<-gN,gr,hd,gv,ajl,-ao,-aB,-ai,-au,-List.map_map];refine aZ _ _ ⟨t.next+4,L++R,by rw[fh,aeH K,gN],?_,?_,by omega,by simp[aw],by simp[bR],by simp,by simp⟩
      · simp(disch:=omega) [aJ]
      · rw[U4,<-fe];show _=some (fV.mk (cs++(R.map qJ).flatten) true);simp(disch:=first|omega|simp only[DI.aF];omega) [-ao,-aB,-ai,-au,-List.map_map]
    · have K:sO z.br d i=false:=(by unfold sO;rw[F];simp[Y]);simp(disch:=first|omega|simp only[DI.aF];omega) [NQ,T3,bl,eL,aw,bR,e4,aJ,bn,bc,eA,Y,-ao,-aB,-ai,-au,-List.map_map];exact aZ _ _ ⟨o,L,by rw[aeG K];exact fh,aJ,bj,j8,by simp[aw],by simp[bR],by simp[dn],by simp⟩
  · rintro u t ⟨o,L,fh,aJ,bj,j8,aw,bR,dn,e4⟩;have cg: ¬(((z.br.length:Nat):Int)<z.br.length):=(by omega);simp(disch:=omega) [NQ,T3,bl,bR,e4,aJ,cg];subst fh;exact a1 _ _ o aJ bj j8 (by simp[aw]) (by simp[bR]) (by simp[dn])
theorem arn{z:a4}(aH:a4.dP z)(bm:a4.rr z){n d:Nat}{cn:gp}(g2:z.br[d]?=some cn)(aE:5=cn.g3+((n+1:Nat):Int)){bF:aM}{bS:E}{cG:Nat}(my:bS.U 0=some ⟨bl z,true⟩)(jl:bS.U cG=some ⟨nQ (kz z n d z.br.length),true⟩)(ho:cG≠0)
    (jE:bF 1=X d) (rp:bF 2=cb 0) (afx:bF 6= .slice (some ⟨cG,0,none⟩) (kz z n d z.br.length).length 9) (afz:bF 10=X 0) {Q:dp->aM->E->Prop}
    (a1: ∀u t o,t.U o=some ⟨nQ (nu z (n+1) d),true⟩->u 6= .slice (some ⟨o,0,none⟩) (nu z (n+1) d).length 9->Q (.bw 2) u t):gD Z (.loop NR) bF bS Q:=by
  have lp:=bm.lk;have xZ:=bm.Gz g2;have azv:=bm.r2;have aji:=Wv (n:=n+1) (by omega);refine hC (a0:=⟨[afN],[]⟩) (λi u t=> ∃o L,L=sL z n d i/\t.U 0=some ⟨bl z,true⟩/\t.U o=some ⟨nQ L,true⟩/\o≠0/\u 1=X d/\u 2=cb 0/\u 6= .slice (some ⟨o,0,none⟩) L.length 9/\u 10=X i) z.c5.length ?_ ?_ 0 bF bS (hf _) ⟨cG,kz z n d z.br.length,aqN.symm,my,jl,ho,jE,rp,afx,by simpa using afz⟩
  · rintro i u t ag ⟨o,L,fh,aJ,bj,j8,aw,bR,dn,e4⟩ cp aZ;obtain⟨x,F⟩:=kS ag;have eA:=(dg.1 F).2;have bc:=e7 (n:=i) (by omega);have bn:(i:Int)<z.c5.length:=(by omega);have et:=aO aJ;have cK:=aO bj;by_cases Y:x.q9=(d:Int)
    · obtain⟨k,m,y,aa,ab,_⟩:=bm.Xi x (fT F);have uF:k<z.aR.length:=(dg.1 ab).1;have tx:(k:Int)<z.aR.length:=(by omega);have gX:=(dg.1 ab).2;have qZ:pZ z.aR x.model=y.name:=(by unfold pZ;rw[aa,u6,ab]);have tq:=aqM bm.lk bm.r2 (n:=n) (d:=d) (i:=i);rw[<-fh]at tq;obtain⟨cs,fe⟩: ∃cs,cs=nQ L:=⟨_,rfl⟩;rw[<-fe]at bj;have gr:cs.length=L.length*9:=(by rw[fe,U5]);have hd:cs.take (L.length*9)=cs:=fw (by omega);have gv:(L.length+1)*120<=140737488355328/\L.length<=9223372036854775806:=(by omega);simp(disch:=first|omega|simp only[DI.aF];omega) [NR,T4,bl,hO,hD,ec,aw,bR,dn,e4,aJ,bj,bn,bc,eA,Y,aa,tx,gX,gr,hd,gv,-ao,-aB,-ai,-au,-List.map_map];refine aZ _ _ ⟨t.next+21,L++[HB z.aR x],by rw[fh,aeJ F Y],?_,?_,by omega,by simp[aw],by simp[bR],by simp,by simp⟩
      · simp(disch:=omega) [aJ]
      · rw[U4,<-fe,U6,show qJ (HB z.aR x)=[X 5,ei x.name,X 0,.bool false,dy (bL 0),dy (bL 1),ei y.name,X 0,X 0] by rw[<-qZ];rfl];simp(disch:=first|omega|simp only[DI.aF];omega) [-ao,-aB,-ai,-au,-List.map_map]
    · simp(disch:=first|omega|simp only[DI.aF];omega) [NR,T4,bl,hO,aw,bR,e4,aJ,bn,bc,eA,Y,-ao,-aB,-ai,-au,-List.map_map];exact aZ _ _ ⟨o,L,by rw[aeI F Y];exact fh,aJ,bj,j8,by simp[aw],by simp[bR],by simp[dn],by simp⟩
  · rintro u t ⟨o,L,fh,aJ,bj,j8,aw,bR,dn,e4⟩;have cg: ¬(((z.c5.length:Nat):Int)<z.c5.length):=(by omega);simp(disch:=omega) [NR,T4,bl,bR,e4,aJ,cg];rw[<-aew]at fh;subst fh;exact a1 _ _ o bj (by simp[dn])
theorem aJW{z:a4}(aH:a4.dP z)(bm:a4.rr z){n:Nat}(cB:EL 70 z n):EL 70 z (n+1):=by
  intro d cn g2 aE;have ze:d<z.br.length:=(dg.1 g2).1;have Yd:(d:Int)<z.br.length:=by omega
  have LM:=(dg.1 g2).2;have xZ:=bm.Gz g2;have lp:=bm.lk;have aps:cn.ju.bD:=aH.br cn (fT g2);have da:=e7 (n:=d) (by omega);have lg: ∀(u:aM) (t:E) (o:Nat),t.U o=some ⟨nQ (nu z (n+1) d),true⟩->DI.eg 9 t (.slice (some ⟨o,0,none⟩) (nu z (n+1) d).length 9)=some (y1 (nu z (n+1) d)):= λu t o bj=>E3 (n:=8) bj (by simp) (λr aH=>by obtain⟨x,_,rfl⟩:=iK.1 aH;refine⟨rfl,λv S=> ?_⟩;simp only[qJ,oz,wi,or_false]at S;rcases S with rfl|rfl|rfl|rfl|rfl|rfl|rfl|rfl|rfl<;>rfl);refine gR (ga (a0:=⟨[O3],[]⟩) aED (by kernel_rfl) (by simp[T2]) ?_);by_cases bH:d=0
  · subst bH;simp[T2,adh,adi,adj,adk,adl,bl,eL,ze,LM];refine Kk 6 9 (by simp) λeu du bh bM=> ?_;refine arl aH bm g2 aE cB (cG:=9) (by rw[bM 0 (by simp[rY])];simp[bl,rY]) (by rw[Vc bm];simpa[sw,nQ,rY]using bh) (by simp) (by simp) (by simp) (by rw[Vc bm];simp[sw,rY]) (by simp;rfl) λu t o aJ bj j8 aw bR dn=> ?_;simp[adm];refine arn aH bm g2 aE aJ bj j8 (by simp[aw]) (by simp[bR]) (by simp[dn]) (by simp) λu t o bj dn=> ?_;have bs:=lg u t o bj;have cK:=aO bj;simp[adn,dn,bs]
  · have Yb:(0:Int)<d:=(by omega);have CV:0<d:=(by omega);have a6:sw z.br d=[K6 cn]:=(by unfold sw;rw[if_neg bH,g2]);simp(disch:=first|omega|simp only[DI.aF];omega) [T2,adh,adi,adj,adk,adl,bl,eL,ec,Yd,LM,CV,da,-ao,-aB,-ai,-au,-List.map_map];refine arl aH bm g2 aE cB (cG:=28) (by simp(disch:=first|omega|simp only[DI.aF];omega) [bl,rY,-ao,-aB,-ai,-au,-List.map_map]) (by rw[Vc bm,a6,U6];simp(disch:=first|omega|simp only[DI.aF];omega) [rY,qJ,K6,-ao,-aB,-ai,-au,-List.map_map]) (by simp) (by simp) (by simp) (by rw[Vc bm,a6];simp) (by simp) λu t o aJ bj j8 aw bR dn=> ?_;simp[adm];refine arn aH bm g2 aE aJ bj j8 (by simp[aw]) (by simp[bR]) (by simp[dn]) (by simp) λu t o bj dn=> ?_;have bs:=lg u t o bj;have cK:=aO bj;simp[adn,dn,bs]
theorem arq{z:a4}(aH:a4.dP z)(bm:a4.rr z): ∀n,EL 70 z n
  |0=> λd x F aE=>by have:=bm.Gz F;omega
  |n+1=>aJW aH bm (arq aH bm n)
noncomputable def Cq(z:a4):List l8:=nu z 5 0
theorem aJb{z:a4}(aH:a4.dP z)(bm:a4.rr z):c4 Z 70 [.agg (bl z).toArray,X 0] (y1 (Cq z)):=by obtain⟨R,B,H,_⟩:=bm.Vq;exact arq aH bm 5 0 R B (by rw[H];rfl)
def PA(z:a4)(n:Nat):Prop:= ∀(d:Nat) (x:gp),z.br[d]?=some x->5=x.g3+(n:Int)-> ∀(t:E) (o:Nat) (bX:List l8),t.U o=some ⟨nQ bX,true⟩->bX.length+mP n<=100000000-> ∀aI:Value->E->Prop,
  (∀o' bu,bu.U o'=some ⟨nQ (bX++nu z n d),true⟩->(o'=o\/t.next<=o')->t.next<=bu.next->(∀b,b<t.next->b≠o->bu.U b=t.U b)->aI (.slice (some ⟨o',0,none⟩) (bX++nu z n d).length 9) bu)->
  iE Z 66 [.agg (bl z).toArray,X d,.slice (some ⟨o,0,none⟩) bX.length 9] t aI
structure Ci(z:a4)(d uT:Nat)(r8:E)(bB:List l8)(u:aM)(t:E):Prop where
  mS: ∃ht o,t.U ht=some ⟨bl z,true⟩/\r8.next<=ht/\u 3=cb ht/\u 1=X d/\t.U o=some ⟨nQ bB,true⟩/\u 2= .slice (some ⟨o,0,none⟩) bB.length 9/\(o=uT\/r8.next<=o)/\o≠ht/\r8.next<=t.next/\(∀b,b<r8.next->b≠uT->t.U b=r8.U b)
theorem auI{z:a4}(aH:a4.dP z)(bm:a4.rr z){n d uT:Nat}{cn:gp}(g2:z.br[d]?=some cn)(aE:5=cn.g3+((n+1:Nat):Int))(cB:PA z n){r8:E}(azz:uT<r8.next){bX:List l8}(hv:bX.length+mP (n+1)<=100000000){bF:aM}{bS:E}(bH:Ci z d uT r8 (bX++kz z n d 0) bF bS)
    (B2:bF 37=aQ (z.br.map eL) 7) (z7:bF 38=X z.br.length) (qH:bF 39=X 0) {Q:dp->aM->E->Prop} (a1: ∀u t,Ci z d uT r8 (bX++kz z n d z.br.length) u t->Q (.bw 0) u t):gD Z (.loop Je) bF bS Q:=by
  have lp:=bm.lk;have xZ:=bm.Gz g2;refine hC (a0:=⟨[],[]⟩) (λi u t=>Ci z d uT r8 (bX++kz z n d i) u t/\u 37=aQ (z.br.map eL) 7/\u 38=X z.br.length/\u 39=X i) z.br.length ?_ ?_ 0 bF bS (hf _) ⟨bH,B2,z7,by simpa using qH⟩
  · rintro i u t ag ⟨⟨ht,o,hu,lT,bA,aw,bj,bR,eS,iO,hR,e2⟩,B2,z7,qH⟩ cp aZ;obtain⟨x,F⟩:=kS ag;have eA:=(dg.1 F).2;have bc:=e7 (n:=i) (by omega);have bn:(i:Int)<z.br.length:=(by omega);have qx:=aO hu;have cK:=aO bj;obtain⟨bB,iz⟩: ∃bB,bB=bX++kz z n d i:=⟨_,rfl⟩;rw[<-iz]at bj bR;by_cases Y:x.parent=(d:Int)
    · have K:sO z.br d i=true:=(by unfold sO;rw[F];simp[Y]);obtain⟨Q2,q,bz,azb,Yv⟩:=bm.aeM F Y;rw[g2]at bz;cases bz;have XV:bB.length+mP n<=100000000:=by
        have B:=(aeF bm.lk bm.r2 (n:=n) (d:=d) (i:=i) (by omega)).1;have H:(i+1)*mP n<=40*mP n:=s6 _ (by omega);have af:bX.length+(25+40*mP n)<=100000000:=hv;rw[mN]at H;rw[iz,mo];omega
      obtain⟨cs,fe⟩: ∃cs,cs=nQ bB:=⟨_,rfl⟩;rw[<-fe]at bj;simp(disch:=first|omega|simp only[DI.aF];omega) [Je,TK,TL,TM,bl,eL,aw,bR,bA,B2,z7,qH,hu,bn,eA,Y,-ao,-aB,-ai,-au,-List.map_map];refine cB i x F (by omega) _ o bB (by rw[<-fe];simp(disch:=first|omega|simp only[DI.aF];omega) [bj,-ao,-aB,-ai,-au,-List.map_map]) XV _ λo' bu aiV wI vx xU=> ?_;simp only[BL,vQ]at wI vx xU;simp[qH,bc,-ao,-aB,-ai,-au,-List.map_map];have eO: ∀b,b<r8.next->b≠uT->b≠o:= λb B H=>by rcases eS with rfl|b6;exact H;omega
      refine aZ _ _ ⟨⟨ht,o',?_,lT,by simp[bA],by simp[aw],by rw[aeH K,<-ug,<-iz];exact aiV,by rw[aeH K,<-ug,<-iz];simp,by omega,by omega,by omega,λb B H=> ?_⟩,by simp[B2],by simp[z7],by simp⟩
      · rw[xU ht (by omega) (Ne.symm iO)];simp(disch:=omega) [hu,-ao,-aB,-ai,-au,-List.map_map]
      · rw[xU b (by omega) (eO b B H),<-e2 b B H];have X1:b<t.next:=by omega
        simp(disch:=first|omega|simp only[DI.aF];omega) [-ao,-aB,-ai,-au,-List.map_map]
    · have K:sO z.br d i=false:=(by unfold sO;rw[F];simp[Y]);simp(disch:=first|omega|simp only[DI.aF];omega) [Je,TK,TL,TM,eL,aw,B2,z7,qH,bn,bc,eA,Y,-ao,-aB,-ai,-au,-List.map_map];refine aZ _ _ ⟨⟨ht,o,?_,lT,by simp[bA],by simp[aw],?_,by rw[aeG K,<-iz];simp[bR],eS,iO,by simp;omega,λb B H=> ?_⟩,by simp[B2],by simp[z7],by simp⟩
      · simp(disch:=omega) [hu,-ao,-aB,-ai,-au,-List.map_map]
      · rw[aeG K,<-iz];simp(disch:=omega) [bj,-ao,-aB,-ai,-au,-List.map_map]
      · rw[<-e2 b B H];have X1:b<t.next:=by omega
        simp(disch:=omega) [-ao,-aB,-ai,-au,-List.map_map]
  · rintro u t ⟨h,B2,z7,qH⟩;have cg: ¬(((z.br.length:Nat):Int)<z.br.length):=(by omega);simp[Je,TK,TL,TM,z7,qH,cg,-ao,-aB,-ai,-au,-List.map_map];obtain⟨ht,o,hu,lT,bA,aw,bj,bR,r⟩:=h;exact a1 _ _ ⟨ht,o,hu,lT,by simp[bA],by simp[aw],bj,by simp[bR],r⟩
theorem ahI{z:a4}(aH:a4.dP z)(bm:a4.rr z){n d uT:Nat}{cn:gp}(g2:z.br[d]?=some cn)(aE:5=cn.g3+((n+1:Nat):Int)){r8:E}(azz:uT<r8.next){bX:List l8}(hv:bX.length+mP (n+1)<=100000000){bF:aM}{bS:E}(bH:Ci z d uT r8 (bX++kz z n d z.br.length) bF bS)
    (GY:bF 54=aQ (z.c5.map hO) 3) (D7:bF 55=X z.c5.length) (JW:bF 56=X 0) {Q:dp->aM->E->Prop} (a1: ∀u t,Ci z d uT r8 (bX++nu z (n+1) d) u t->Q (.bw 2) u t):gD Z (.loop NL) bF bS Q:=by
  have azv:=bm.r2;refine hC (a0:=⟨[OY],[]⟩) (λi u t=>Ci z d uT r8 (bX++sL z n d i) u t/\u 54=aQ (z.c5.map hO) 3/\u 55=X z.c5.length/\u 56=X i) z.c5.length ?_ ?_ 0 bF bS (hf _) ⟨by rw[aqN];exact bH,GY,D7,by simpa using JW⟩
  · rintro i u t ag ⟨⟨ht,o,hu,lT,bA,aw,bj,bR,eS,iO,hR,e2⟩,GY,D7,JW⟩ cp aZ;obtain⟨x,F⟩:=kS ag;have eA:=(dg.1 F).2;have bc:=e7 (n:=i) (by omega);have bn:(i:Int)<z.c5.length:=(by omega);have qx:=aO hu;have cK:=aO bj;have eO: ∀b,b<r8.next->b≠uT->b≠o:= λb B H=>by rcases eS with rfl|b6;exact H;omega
    obtain⟨bB,iz⟩: ∃bB,bB=bX++sL z n d i:=⟨_,rfl⟩;rw[<-iz]at bj bR;by_cases Y:x.q9=(d:Int)
    · obtain⟨k,m,y,aa,ab,_⟩:=bm.Xi x (fT F);have uF:k<z.aR.length:=(dg.1 ab).1;have tx:(k:Int)<z.aR.length:=(by omega);have gX:=(dg.1 ab).2;have qZ:pZ z.aR x.model=y.name:=(by unfold pZ;rw[aa,u6,ab]);have XV:bB.length<=100000000:=by
        have:=aqM bm.lk bm.r2 (n:=n) (d:=d) (i:=i);rw[iz,mo];omega
      obtain⟨cs,fe⟩: ∃cs,cs=nQ bB:=⟨_,rfl⟩;rw[<-fe]at bj;have gr:cs.length=bB.length*9:=(by rw[fe,U5]);have hd:cs.take (bB.length*9)=cs:=fw (by omega);have gv:(bB.length+1)*120<=140737488355328/\bB.length<=9223372036854775806:=(by omega);simp(disch:=first|omega|simp only[DI.aF];omega) [NL,TN,TO,TJ,bl,hO,hD,aw,bR,bA,GY,D7,JW,hu,bj,bn,bc,eA,Y,aa,tx,gX,gr,hd,gv,-ao,-aB,-ai,-au,-List.map_map];refine aZ _ _ ⟨⟨ht,t.next+22,?_,lT,by simp[bA],by simp[aw],?_,by rw[aeJ F Y,<-ug,<-iz];simp,by omega,by omega,by simp;omega,λb B H=> ?_⟩,by simp[GY],by simp[D7],by simp⟩
      · simp(disch:=first|omega|simp only[DI.aF];omega) [hu,-ao,-aB,-ai,-au,-List.map_map]
      · rw[aeJ F Y,<-ug,<-iz,U4,<-fe,U6,show qJ (HB z.aR x)=[X 5,ei x.name,X 0,.bool false,dy (bL 0),dy (bL 1),ei y.name,X 0,X 0] by rw[<-qZ];rfl];simp(disch:=first|omega|simp only[DI.aF];omega) [-ao,-aB,-ai,-au,-List.map_map]
      · rw[<-e2 b B H];have X1:b<t.next:=by omega
        have aRK:=eO b B H;simp(disch:=first|omega|simp only[DI.aF];omega) [-ao,-aB,-ai,-au,-List.map_map]
    · simp(disch:=first|omega|simp only[DI.aF];omega) [NL,TN,TO,TJ,hO,aw,GY,D7,JW,bn,bc,eA,Y,-ao,-aB,-ai,-au,-List.map_map];refine aZ _ _ ⟨⟨ht,o,?_,lT,by simp[bA],by simp[aw],?_,by rw[aeI F Y,<-iz];simp[bR],eS,iO,by simp;omega,λb B H=> ?_⟩,by simp[GY],by simp[D7],by simp⟩
      · simp(disch:=first|omega|simp only[DI.aF];omega) [hu,-ao,-aB,-ai,-au,-List.map_map]
      · rw[aeI F Y,<-iz];simp(disch:=first|omega|simp only[DI.aF];omega) [bj,-ao,-aB,-ai,-au,-List.map_map]
      · rw[<-e2 b B H];have X1:b<t.next:=by omega
        simp(disch:=first|omega|simp only[DI.aF];omega) [-ao,-aB,-ai,-au,-List.map_map]
  · rintro u t ⟨h,GY,D7,JW⟩;have cg: ¬(((z.c5.length:Nat):Int)<z.c5.length):=(by omega);simp(disch:=first|omega|simp only[DI.aF];omega) [NL,TN,TO,TJ,D7,JW,cg,-ao,-aB,-ai,-au,-List.map_map];obtain⟨ht,o,hu,lT,bA,aw,bj,bR,r⟩:=h;rw[<-aew]at bj bR;exact a1 _ _ ⟨ht,o,hu,lT,by simp[bA],by simp[aw],bj,by simp[bR],r⟩
theorem auD{z:a4}(aH:a4.dP z)(bm:a4.rr z){n:Nat}(cB:PA z n):PA z (n+1):=by
  intro d cn g2 aE t o bX bj hv aI oN;have ze:d<z.br.length:=(dg.1 g2).1;have Yd:(d:Int)<z.br.length:=by omega
  have LM:=(dg.1 g2).2;have xZ:=bm.Gz g2;have aps:cn.ju.bD:=aH.br cn (fT g2);have cK:=aO bj;have aRy:bX.length<=100000000:=by omega
  obtain⟨cs,fe⟩: ∃cs,cs=nQ bX:=⟨_,rfl⟩;have gr:cs.length=bX.length*9:=by rw[fe,U5]
  have hd:cs.take (bX.length*9)=cs:=fw (by omega);have gv:(bX.length+1)*120<=140737488355328/\bX.length<=9223372036854775806:=by omega
  refine ga (a0:=⟨[D9],[]⟩) aEy (by kernel_rfl) (by simp[TI]) ?_
  have lg: ∀cC eu,Ci z d o t (bX++kz z n d 0) cC eu->cC 37=aQ (z.br.map eL) 7->cC 38=X z.br.length->cC 39=X 0-> ∀Q:dp->aM->E->Prop,
      (∀u bu,Ci z d o t (bX++kz z n d z.br.length) u bu->Q (.bw 0) u bu)->gD Z (.loop Je) cC eu Q:= λcC eu h B2 z7 qH Q a1=>auI aH bm g2 aE cB cK hv h B2 z7 qH a1
  by_cases bH:d=0
  · subst bH;simp(disch:=first|omega|simp only[DI.aF];omega) [TI,ac1,ac2,ac4,ac5,bl,eL,ze,LM,-ao,-aB,-ai,-au,-List.map_map];refine lg _ _ ⟨t.next,o,?_,by omega,by simp,by simp,?_,?_,.inl rfl,by omega,by simp;omega,λb B H=> ?_⟩ (by simp) (by simp) (by simp) _ λu bu h=> ?_
    · simp(disch:=first|omega|simp only[DI.aF];omega) [bl,-ao,-aB,-ai,-au,-List.map_map]
    · rw[show kz z n 0 0=[] by simp[kz,sw,sI],An];simp(disch:=first|omega|simp only[DI.aF];omega) [bj,-ao,-aB,-ai,-au,-List.map_map]
    · rw[show kz z n 0 0=[] by simp[kz,sw,sI],An];simp
    · simp(disch:=first|omega|simp only[DI.aF];omega) [-ao,-aB,-ai,-au,-List.map_map]
    obtain⟨ht,dG,hu,lT,bA,aw,ba,bR,r⟩:=h;have qx:=aO hu;simp(disch:=first|omega|simp only[DI.aF];omega) [ac6,bl,bA,hu,-ao,-aB,-ai,-au,-List.map_map];refine ahI aH bm g2 aE cK hv ⟨ht,dG,hu,lT,by simp[bA],by simp[aw],ba,by simp[bR],r⟩ (by simp) (by simp) (by simp) λu bu h=> ?_;obtain⟨ht,dG,hu,lT,bA,aw,ba,bR,eT,fk,hB,js⟩:=h;simp(disch:=first|omega|simp only[DI.aF];omega) [ac3,bR,-ao,-aB,-ai,-au,-List.map_map];simpa using oN dG bu ba eT hB js
  · have Yb:(0:Int)<d:=(by omega);have CV:0<d:=(by omega);have a6:kz z n d 0=[K6 cn]:=(by simp[kz,sw,sI,bH,g2]);rw[<-fe]at bj;have Mj:(∀x∈[cn.ju],x.bD)/\[cn.ju].length<1000000:=⟨λx F=>by simp at F;subst F;exact aps,by simp⟩;simp(disch:=first|omega|simp only[DI.aF];omega) [TI,ac1,ac2,ac4,ac5,bl,eL,ec,bj,Yd,LM,CV,gr,hd,gv,ss,sS,-ao,-aB,-ai,-au,-List.map_map];refine lg _ _ ⟨t.next,t.next+24,?_,by omega,by simp,by simp,?_,?_,.inr (by omega),by omega,by simp;omega,λb B H=> ?_⟩ (by simp) (by simp) (by simp) _ λu bu h=> ?_
    · simp(disch:=first|omega|simp only[DI.aF];omega) [bl,-ao,-aB,-ai,-au,-List.map_map]
    · rw[a6,U4,<-fe,U6];simp(disch:=first|omega|simp only[DI.aF];omega) [qJ,K6,-ao,-aB,-ai,-au,-List.map_map]
    · rw[a6];simp
    · simp(disch:=first|omega|simp only[DI.aF];omega) [-ao,-aB,-ai,-au,-List.map_map]
    obtain⟨ht,dG,hu,lT,bA,aw,ba,bR,r⟩:=h;have qx:=aO hu;simp(disch:=first|omega|simp only[DI.aF];omega) [ac6,bl,bA,hu,-ao,-aB,-ai,-au,-List.map_map];refine ahI aH bm g2 aE cK hv ⟨ht,dG,hu,lT,by simp[bA],by simp[aw],ba,by simp[bR],r⟩ (by simp) (by simp) (by simp) λu bu h=> ?_;obtain⟨ht,dG,hu,lT,bA,aw,ba,bR,eT,fk,hB,js⟩:=h;simp(disch:=first|omega|simp only[DI.aF];omega) [ac3,bR,-ao,-aB,-ai,-au,-List.map_map];simpa using oN dG bu ba eT hB js
theorem ahF{z:a4}(aH:a4.dP z)(bm:a4.rr z): ∀n,PA z n
  |0=> λd x F aE=>by have:=bm.Gz F;omega
  |n+1=>auD aH bm (ahF aH bm n)
end Go.Proofs.YtkpifdkccdndcaaGreat
namespace Go.DI
open Go
section
variable {P:Program} {t:E} {f:Nat} {args:List Value} {aI jR:Value->E->Prop}
theorem atc{a0:List (cf P)}(h:D2 a0 f args t aI):iE P f args t aI:= λW z fl m M aC=>(aqY M aC h).aD λhy N a6=>by obtain⟨_,dH,r,bu,H,af,aL,cm⟩:=a6;exact⟨W,dH,r,bu,H,af,aL,cm⟩
theorem iE.aLn(h:iE P f args t aI)(ay: ∀r bu,aI r bu-> ∃o cells,bu.U o=some ⟨cells,true⟩/\jR r (bu.an o (some ⟨cells,false⟩))):iE P f args t jR:= λW z fl m M aC=>(h W z fl m M aC).aD λhy N a6=>by
  obtain⟨e5,gS,r,eu,B,H,af,aL⟩:=a6;obtain⟨o,cells,ah,Ze⟩:=ay r eu B;have cK:=aO ah;have oJ: ∀p x,(eu.an o (some ⟨cells,false⟩)).U p=some x-> ∃y,eu.U p=some y/\y.cells=x.cells/\(x.own=true->y.own=true):= λp x F=>by
    by_cases e:p=o
    · subst e;rw[cW cK]at F;cases F;exact⟨_,ah,rfl,λh=>by cases h⟩
    · rw[dC e]at F;exact⟨x,F,rfl,λh=>h⟩
  refine⟨e5,gS,r,_,Ze,⟨λp x F=> ?_,λp bJ a2=> ?_,H.lI,H.inj,H.fa,λb cs K=> ?_⟩,af,aL.trans ⟨h7.refl _,j0.refl _,λ_ _ h=> .inl h,λ_ _ h=> .inl h,eB _,eB _,λ_ _ _=>rfl,λb K ⟨p,x,aX,bg,dU⟩=> ?_,λb K ⟨p,x,aX,bg⟩=> ?_⟩⟩
  · obtain⟨y,aj,ba,cD⟩:=oJ p x F;rcases H.lu p y aj with⟨b,cs,w,bM,dL,fp,ns⟩|⟨bM,dL⟩
    · exact .inl ⟨b,cs,w,bM,dL,λh=>fp (cD h),by rw[<-ba];exact ns⟩
    · exact .inr ⟨bM,by rw[<-ba];exact dL⟩
  · by_cases e:p=o
    · subst e;have:=(j6 a2).1;rw[cW cK]at this;cases this
    · rw[xP e]at a2;exact H.jB p bJ a2
  · obtain⟨bM,dL⟩:=H.bG b cs K;refine⟨bM,λp x Y F=> ?_⟩;obtain⟨y,aj,ba,cD⟩:=oJ p x F;have:=dL p y Y aj;cases bz:x.own
    · rfl
    · rw[cD bz]at this;cases this
  · obtain⟨y,aj,ba,cD⟩:=oJ p x bg;exact⟨p,y,aX,aj,cD dU⟩
  · obtain⟨y,aj,ba,cD⟩:=oJ p x bg;exact⟨p,y,aX,aj⟩
theorem aMC{x y:Value}{O:Nat}(h:iE P f [x,y,.slice (some ⟨t.next,0,none⟩) 0 O] ((t.bx 1).an t.next (some ⟨[],true⟩)) aI):iE P f [x,y,.slice none 0 0] t aI:= λW z fl m M aC=>by
  have b8:W t.next=none:=by
    cases a2:W t.next with
    |none=>rfl
    |some b=>have:=(M.fa _ _ a2).1;omega
  have qm:gx W z ((t.bx 1).an t.next (some ⟨[],true⟩)) m:=by
    refine⟨λo x F=> ?_,λo bJ a2=> ?_,M.lI,M.inj,λo b h=>⟨by have:=(M.fa o b h).1;simp only[BL,vQ];omega,(M.fa o b h).2⟩,λb cs K=> ?_⟩
    · by_cases ah:o=t.next
      · subst ah;rw[cW (by simp)]at F;cases F;exact .inr ⟨b8,rfl⟩
      · rw[dC ah,E.gm]at F;exact M.lu o x F
    · by_cases ah:o=t.next
      · subst ah;have:=(j6 a2).2;rw[show((t.bx 1).an t.next (some ⟨[],true⟩)).mp=t.mp from rfl,M.lI _ b8]at this;cases this
      · rw[xP ah]at a2;obtain⟨aX,bg⟩:=j6 a2;rw[E.gm]at aX;exact M.jB o bJ (o7 aX bg)
    · obtain⟨B,H⟩:=M.bG b cs K;refine⟨B,λo x Fm F=> ?_⟩;have ah:o≠t.next:= λe=>by subst e;rw[b8]at Fm;cases Fm
      rw[dC ah,E.gm]at F;exact H o x Fm F
  obtain⟨a,b,c,rfl,bC,cq,cZ⟩:=aC.VY;have aIW:=cZ.kx rfl;subst aIW;refine(h W z _ m qm (b5.cons bC (b5.cons cq (b5.cons .tX b5.nil)))).aD λhy bo a6=> ?_;obtain⟨e5,gS,r,eu,B,H,af,aL⟩:=a6;refine⟨e5,gS,r,eu,B,H,af,?_⟩;have XQ:bp t.next m.next W z t m W z ((t.bx 1).an t.next (some ⟨[],true⟩)) m:=⟨h7.refl _,j0.refl _,λ_ _ h=> .inl h,λ_ _ h=> .inl h,by simp,eB _,λ_ _ _=>rfl,λb K=> λ⟨o,x,aX,bg,dU⟩=>by
    have ah:o≠t.next:= λe=>by subst e;rw[b8]at aX;cases aX
    rw[dC ah,E.gm]at bg;exact⟨o,x,aX,bg,dU⟩,λb K=> λ⟨o,x,aX,bg⟩=>by
    have ah:o≠t.next:= λe=>by subst e;rw[b8]at aX;cases aX
    rw[dC ah,E.gm]at bg;exact⟨o,x,aX,bg⟩⟩
  exact XQ.trans (aL.Hd (by simp) (eB _))
end
end Go.DI
namespace Go.Proofs.YtkpifdkccdndcaaGreat
open Go Go.DI Go.Big
def Oe(bN:List dY)(k:Int):ByteArray:=match bN[k.toNat]? with
  |some x=>x.name
  |none=>⟨#[]⟩
def OG(bN:List hr)(k:Int):ByteArray:=match bN[k.toNat]? with
  |some x=>x.name
  |none=>⟨#[]⟩
noncomputable def nM(x:dY):PJ:=⟨tN x,⟨0,0⟩⟩
def nP(bN:List dY)(x:o1):PK:=⟨x.name,x.ext,x.BS,Oe bN x.qw,⟨0,0⟩⟩
noncomputable def oT(hG:List o1)(x:hr):EK:=⟨x.name,x.k,x.m,x.q,x.a0,x.aR.map (pZ hG),x.hz.map hE,hE x.kU,hE x.eS,⟨0,0⟩⟩
def m8(en:List hr)(x:uj):PL:=⟨x.name,OG en x.w9,⟨0,0⟩⟩
noncomputable def VT(z:a4):pD:=⟨z.ext,z.bO.map nM,z.aR.map (nP z.bO),Cq z,z.bT.map (oT z.aR),z.cP.map (m8 z.bT)⟩
structure a4.tI(z:a4):Prop where
  bO: ∀x∈z.bO,x.oj=true
  aqe: ∀x∈z.aR,∃(k:Nat) (y:dY),x.qw=(k:Int)/\z.bO[k]?=some y
  bT: ∀x∈z.bT,∀m∈x.aR,∃(k:Nat) (y:o1),m=(k:Int)/\z.aR[k]?=some y
  cP: ∀x∈z.cP,∃(k:Nat) (y:hr),x.w9=(k:Int)/\z.bT[k]?=some y
theorem apo{z:a4}(h:g6 z=true):a4.tI z:=by
  unfold g6 at h;simp only[bK,fU,hJ]at h;obtain⟨B,py,u3,u4,Km,Wk,Wl,ay,aE,aN,aH,Y,S,_⟩:=h;have key: ∀{α:Type} (l:List α) (k:Int),eG k 0 ((l.length:Int)-1)=true-> ∃(j:Nat) (y:α),k=(j:Int)/\l[j]?=some y:= λl k aa=>by have aa:=rT.1 aa;obtain⟨j,rfl⟩:=xp aa.1;have:j<l.length:=(by omega);exact⟨j,l[j],rfl,c0 this⟩
  refine⟨aE,λx F=> ?_,λx F m rN=> ?_,λx F=> ?_⟩
  · have:=aN x F;simp only[nO,bK]at this;exact key _ _ this.2.2
  · have:=Y x F;simp only[k8,bK,hJ]at this;exact key _ _ (this.2.2.2.1 m rN)
  · exact key _ _ (S x F)
theorem CF{α:Type}{l:List α}{f:α->List Value}{i:Nat}{x:α}(F:l[i]?=some x):((l.take (i+1)).map f).flatten=((l.take i).map f).flatten++f x:=by rw[l6 F];simp
theorem CG{α:Type}{l:List α}{f:α->List Value}{O i:Nat}(bs: ∀x,(f x).length=O)(ag:i<=l.length):(((l.take i).map f).flatten).length=i*O:=by rw[CH (O:=O) λr aH=>by obtain⟨x,_,rfl⟩:=iK.1 aH;exact bs x,jZ,k9];congr 1;omega
def zW:List Value:=[X 0,.slice none 0 0,.slice none 0 0,.slice none 0 0,.slice none 0 0,.slice none 0 0]
structure kO(z:a4)(w:Bool)(k p:Nat)(cells:List Value)(u:aM)(t:E):Prop where
  aw:u 1=cb 0
  bR:u 2=cb 1
  cv:u k=cb p
  aJ:t.U 0=some ⟨bl z,w⟩
  aj:t.U 1=some ⟨zW,true⟩
  hP:t.U p=some ⟨cells,true⟩
  dm:p≠0
  du:p≠1
theorem aII{z:a4}(aH:a4.dP z)(S:a4.tI z){w:Bool}{p cG:Nat}{cN dI ew gE:Value}{bF:aM}{bS:E}(bH:kO z w 5 p [X z.ext,.slice (some ⟨cG,0,none⟩) 0 6,cN,dI,ew,gE] bF bS)(jl:bS.U cG=some ⟨[],true⟩)(ho:cG≠0)(j9:cG≠1)(ka:cG≠p)
    (jt:bF 30=aQ (z.bO.map fH) 4) (iC:bF 31=X z.bO.length) (gg:bF 32=X 0) {Q:dp->aM->E->Prop} (a1: ∀u t o,kO z w 5 p [X z.ext,.slice (some ⟨o,0,none⟩) z.bO.length 6,cN,dI,ew,gE] u t->t.U o=some ⟨(z.bO.map (λx=>mI (nM x))).flatten,true⟩->o≠0->o≠1->o≠p->Q (.bw 0) u t):gD Z (.loop SN) bF bS Q:=by
  have C2:=aH.r1;refine hC (a0:=⟨[afT],[]⟩) (λi u t=> ∃o,kO z w 5 p [X z.ext,.slice (some ⟨o,0,none⟩) i 6,cN,dI,ew,gE] u t/\t.U o=some ⟨((z.bO.take i).map (λx=>mI (nM x))).flatten,true⟩/\o≠0/\o≠1/\o≠p/\u 30=aQ (z.bO.map fH) 4/\u 31=X z.bO.length/\u 32=X i) z.bO.length ?_ ?_ 0 bF bS (hf _) ⟨cG,bH,by simpa using jl,ho,j9,ka,jt,iC,by simpa using gg⟩
  · rintro i u t ag ⟨o,⟨aw,bR,cv,aJ,aj,hP,dm,du⟩,bj,ho,j9,ka,jt,iC,gg⟩ cp aZ;obtain⟨x,F⟩:=kS ag;have eA:=(dg.1 F).2;have bc:=e7 (n:=i) (by omega);have bn:(i:Int)<z.bO.length:=(by omega);have et:=aO aJ;have fP:=aO aj;have vP:=aO hP;have cK:=aO bj;obtain⟨cs,fe⟩: ∃cs,cs=((z.bO.take i).map (λx=>mI (nM x))).flatten:=⟨_,rfl⟩;rw[<-fe]at bj;have gr:cs.length=i*6:=(by rw[fe,CG (l:=z.bO) (f:=(λx=>mI (nM x))) (O:=6) (λ_=>rfl) (by omega)]);have hd:cs.take (i*6)=cs:=fw (by omega);have gv:(i+1)*104<=140737488355328/\i<=9223372036854775806:=(by omega);have ia:((z.bO.take (i+1)).map (λx=>mI (nM x))).flatten=cs++(λx=>mI (nM x)) x:=(by rw[CF (f:=(λx=>mI (nM x))) F,fe]);have hn:=aH.bO x (fT F);have qv:=dY.aqy hn (S.bO x (fT F));obtain⟨we,xs,Pq,ahi⟩:=x;have gJ:(dY.mk we xs Pq ahi).bD/\ ∀l∈Pq,l.length<1000000:=⟨hn,qv⟩;simp(disch:=first|omega|simp only[DI.aF];omega) [SN,abj,abk,fH,cv,jt,iC,gg,hP,bj,bn,bc,eA,gr,hd,gv,-ao,-aB,-ai,-au,-List.map_map];refine aZ _ _ ⟨t.next+4+6,⟨by simp[aw],by simp[bR],by simp[cv],?_,?_,?_,dm,du⟩,?_,by omega,by omega,by omega,by simp[jt],by simp[iC],by simp⟩
    · simp(disch:=first|omega|simp only[DI.aF];omega) [aJ,-ao,-aB,-ai,-au,-List.map_map]
    · simp(disch:=first|omega|simp only[DI.aF];omega) [aj,-ao,-aB,-ai,-au,-List.map_map]
    · simp(disch:=first|omega|simp only[DI.aF];omega) [-ao,-aB,-ai,-au,-List.map_map]
    · rw[ia];simp only[mI,nM,tN];simp(disch:=first|omega|simp only[DI.aF];omega) [-ao,-aB,-ai,-au,-List.map_map]
  · rintro u t ⟨o,⟨aw,bR,cv,aJ,aj,hP,dm,du⟩,bj,ho,j9,ka,jt,iC,gg⟩;have cg: ¬(((z.bO.length:Nat):Int)<z.bO.length):=(by omega);have et:=aO aJ;rw[kM]at bj;simp(disch:=first|omega|simp only[DI.aF];omega) [SN,abj,abk,iC,gg,cg,-ao,-aB,-ai,-au,-List.map_map];exact a1 _ _ o ⟨by simp[aw],by simp[bR],by simp[cv],aJ,aj,hP,dm,du⟩ bj ho j9 ka
theorem aJ9{z:a4}(aH:a4.dP z)(S:a4.tI z){w:Bool}{p cG:Nat}{cN dI ew gE:Value}{bF:aM}{bS:E}(bH:kO z w 4 p [X z.ext,.slice (some ⟨cG,0,none⟩) 0 6,cN,dI,ew,gE] bF bS)(jl:bS.U cG=some ⟨[],true⟩)(ho:cG≠0)(j9:cG≠1)(ka:cG≠p)
    (gg:bF 5=X 0) {Q:dp->aM->E->Prop} (a1: ∀u t o,kO z w 4 p [X z.ext,.slice (some ⟨o,0,none⟩) z.bO.length 6,cN,dI,ew,gE] u t->t.U o=some ⟨(z.bO.map (λx=>mI (nM x))).flatten,true⟩->o≠0->o≠1->o≠p->Q (.bw 0) u t):gD Z (.loop S0) bF bS Q:=by
  have C2:=aH.r1;refine hC (a0:=⟨[aga],[]⟩) (λi u t=> ∃o,kO z w 4 p [X z.ext,.slice (some ⟨o,0,none⟩) i 6,cN,dI,ew,gE] u t/\t.U o=some ⟨((z.bO.take i).map (λx=>mI (nM x))).flatten,true⟩/\o≠0/\o≠1/\o≠p/\u 5=X i) z.bO.length ?_ ?_ 0 bF bS (hf _) ⟨cG,bH,by simpa using jl,ho,j9,ka,by simpa using gg⟩
  · rintro i u t ag ⟨o,⟨aw,bR,cv,aJ,aj,hP,dm,du⟩,bj,ho,j9,ka,gg⟩ cp aZ;obtain⟨x,F⟩:=kS ag;have eA:=(dg.1 F).2;have bc:=e7 (n:=i) (by omega);have bn:(i:Int)<z.bO.length:=(by omega);have et:=aO aJ;have fP:=aO aj;have vP:=aO hP;have cK:=aO bj;obtain⟨cs,fe⟩: ∃cs,cs=((z.bO.take i).map (λx=>mI (nM x))).flatten:=⟨_,rfl⟩;rw[<-fe]at bj;have gr:cs.length=i*6:=(by rw[fe,CG (l:=z.bO) (f:=(λx=>mI (nM x))) (O:=6) (λ_=>rfl) (by omega)]);have hd:cs.take (i*6)=cs:=fw (by omega);have gv:(i+1)*104<=140737488355328/\i<=9223372036854775806:=(by omega);have ia:((z.bO.take (i+1)).map (λx=>mI (nM x))).flatten=cs++(λx=>mI (nM x)) x:=(by rw[CF (f:=(λx=>mI (nM x))) F,fe]);have hn:=aH.bO x (fT F);have qv:=dY.aqy hn (S.bO x (fT F));obtain⟨we,xs,Pq,ahi⟩:=x;have gJ:(dY.mk we xs Pq ahi).bD/\ ∀l∈Pq,l.length<1000000:=⟨hn,qv⟩;simp(disch:=first|omega|simp only[DI.aF];omega) [S0,abU,bl,fH,aw,cv,gg,aJ,hP,bj,bn,bc,eA,gr,hd,gv,-ao,-aB,-ai,-au,-List.map_map];refine aZ _ _ ⟨t.next+10,⟨by simp[aw],by simp[bR],by simp[cv],?_,?_,?_,dm,du⟩,?_,by omega,by omega,by omega,by simp⟩
    · simp(disch:=omega) [aJ]
    · simp(disch:=omega) [aj]
    · simp(disch:=first|omega|simp only[DI.aF];omega)
    · rw[ia];simp only[mI,nM,tN];simp(disch:=first|omega|simp only[DI.aF];omega)
  · rintro u t ⟨o,⟨aw,bR,cv,aJ,aj,hP,dm,du⟩,bj,ho,j9,ka,gg⟩;have cg: ¬(((z.bO.length:Nat):Int)<z.bO.length):=(by omega);have et:=aO aJ;rw[kM]at bj;simp(disch:=omega) [S0,abU,bl,aw,gg,aJ,cg];exact a1 _ _ o ⟨by simp[aw],by simp[bR],by simp[cv],aJ,aj,hP,dm,du⟩ bj ho j9 ka
theorem aIJ{z:a4}(aH:a4.dP z)(S:a4.tI z){w:Bool}{p cG:Nat}{bY dI ew gE:Value}{bF:aM}{bS:E}(bH:kO z w 5 p [X z.ext,bY,.slice (some ⟨cG,0,none⟩) 0 6,dI,ew,gE] bF bS)(jl:bS.U cG=some ⟨[],true⟩)(ho:cG≠0)(j9:cG≠1)(ka:cG≠p)
    (jt:bF 46=aQ (z.aR.map hD) 4) (iC:bF 47=X z.aR.length) (gg:bF 48=X 0) {Q:dp->aM->E->Prop} (a1: ∀u t o,kO z w 5 p [X z.ext,bY,.slice (some ⟨o,0,none⟩) z.aR.length 6,dI,ew,gE] u t->t.U o=some ⟨(z.aR.map (λx=>mJ (nP z.bO x))).flatten,true⟩->o≠0->o≠1->o≠p->Q (.bw 2) u t):gD Z (.loop SO) bF bS Q:=by
  have C2:=aH.de;refine hC (a0:=⟨[],[]⟩) (λi u t=> ∃o,kO z w 5 p [X z.ext,bY,.slice (some ⟨o,0,none⟩) i 6,dI,ew,gE] u t/\t.U o=some ⟨((z.aR.take i).map (λx=>mJ (nP z.bO x))).flatten,true⟩/\o≠0/\o≠1/\o≠p/\u 46=aQ (z.aR.map hD) 4/\u 47=X z.aR.length/\u 48=X i) z.aR.length ?_ ?_ 0 bF bS (hf _) ⟨cG,bH,by simpa using jl,ho,j9,ka,jt,iC,by simpa using gg⟩
  · rintro i u t ag ⟨o,⟨aw,bR,cv,aJ,aj,hP,dm,du⟩,bj,ho,j9,ka,jt,iC,gg⟩ cp aZ;obtain⟨x,F⟩:=kS ag;have eA:=(dg.1 F).2;have bc:=e7 (n:=i) (by omega);have bn:(i:Int)<z.aR.length:=(by omega);have et:=aO aJ;have fP:=aO aj;have vP:=aO hP;have cK:=aO bj;obtain⟨cs,fe⟩: ∃cs,cs=((z.aR.take i).map (λx=>mJ (nP z.bO x))).flatten:=⟨_,rfl⟩;rw[<-fe]at bj;have gr:cs.length=i*6:=(by rw[fe,CG (l:=z.aR) (f:=(λx=>mJ (nP z.bO x))) (O:=6) (λ_=>rfl) (by omega)]);have hd:cs.take (i*6)=cs:=fw (by omega);have gv:(i+1)*64<=140737488355328/\i<=9223372036854775806:=(by omega);have ia:((z.aR.take (i+1)).map (λx=>mJ (nP z.bO x))).flatten=cs++(λx=>mJ (nP z.bO x)) x:=(by rw[CF (f:=(λx=>mJ (nP z.bO x))) F,fe]);obtain⟨k,y,aa,ab⟩:=S.aqe x (fT F);have uF:k<z.bO.length:=(dg.1 ab).1;have tx:(k:Int)<z.bO.length:=(by omega);have gX:=(dg.1 ab).2;have qZ:Oe z.bO x.qw=y.name:=(by unfold Oe;rw[aa,u6,ab]);simp(disch:=first|omega|simp only[DI.aF];omega) [SO,abl,abm,bl,fH,hD,aw,cv,jt,iC,gg,aJ,hP,bj,bn,bc,eA,gr,hd,gv,aa,tx,gX,-ao,-aB,-ai,-au,-List.map_map];refine aZ _ _ ⟨t.next+4+17,⟨by simp[aw],by simp[bR],by simp[cv],?_,?_,?_,dm,du⟩,?_,by omega,by omega,by omega,by simp[jt],by simp[iC],by simp⟩
    · simp(disch:=first|omega|simp only[DI.aF];omega) [aJ,-ao,-aB,-ai,-au,-List.map_map]
    · simp(disch:=first|omega|simp only[DI.aF];omega) [aj,-ao,-aB,-ai,-au,-List.map_map]
    · simp(disch:=first|omega|simp only[DI.aF];omega) [-ao,-aB,-ai,-au,-List.map_map]
    · rw[ia];simp only[mJ,nP,qZ];simp(disch:=first|omega|simp only[DI.aF];omega) [-ao,-aB,-ai,-au,-List.map_map]
  · rintro u t ⟨o,⟨aw,bR,cv,aJ,aj,hP,dm,du⟩,bj,ho,j9,ka,jt,iC,gg⟩;have cg: ¬(((z.aR.length:Nat):Int)<z.aR.length):=(by omega);have et:=aO aJ;rw[kM]at bj;simp(disch:=first|omega|simp only[DI.aF];omega) [SO,abl,abm,iC,gg,cg,-ao,-aB,-ai,-au,-List.map_map];exact a1 _ _ o ⟨by simp[aw],by simp[bR],by simp[cv],aJ,aj,hP,dm,du⟩ bj ho j9 ka
theorem aKa{z:a4}(aH:a4.dP z)(S:a4.tI z){w:Bool}{p cG:Nat}{bY dI ew gE:Value}{bF:aM}{bS:E}(bH:kO z w 4 p [X z.ext,bY,.slice (some ⟨cG,0,none⟩) 0 6,dI,ew,gE] bF bS)(jl:bS.U cG=some ⟨[],true⟩)(ho:cG≠0)(j9:cG≠1)(ka:cG≠p)
    (gg:bF 6=X 0) {Q:dp->aM->E->Prop} (a1: ∀u t o,kO z w 4 p [X z.ext,bY,.slice (some ⟨o,0,none⟩) z.aR.length 6,dI,ew,gE] u t->t.U o=some ⟨(z.aR.map (λx=>mJ (nP z.bO x))).flatten,true⟩->o≠0->o≠1->o≠p->Q (.bw 2) u t):gD Z (.loop S1) bF bS Q:=by
  have C2:=aH.de;refine hC (a0:=⟨[],[]⟩) (λi u t=> ∃o,kO z w 4 p [X z.ext,bY,.slice (some ⟨o,0,none⟩) i 6,dI,ew,gE] u t/\t.U o=some ⟨((z.aR.take i).map (λx=>mJ (nP z.bO x))).flatten,true⟩/\o≠0/\o≠1/\o≠p/\u 6=X i) z.aR.length ?_ ?_ 0 bF bS (hf _) ⟨cG,bH,by simpa using jl,ho,j9,ka,by simpa using gg⟩
  · rintro i u t ag ⟨o,⟨aw,bR,cv,aJ,aj,hP,dm,du⟩,bj,ho,j9,ka,gg⟩ cp aZ;obtain⟨x,F⟩:=kS ag;have eA:=(dg.1 F).2;have bc:=e7 (n:=i) (by omega);have bn:(i:Int)<z.aR.length:=(by omega);have et:=aO aJ;have fP:=aO aj;have vP:=aO hP;have cK:=aO bj;obtain⟨cs,fe⟩: ∃cs,cs=((z.aR.take i).map (λx=>mJ (nP z.bO x))).flatten:=⟨_,rfl⟩;rw[<-fe]at bj;have gr:cs.length=i*6:=(by rw[fe,CG (l:=z.aR) (f:=(λx=>mJ (nP z.bO x))) (O:=6) (λ_=>rfl) (by omega)]);have hd:cs.take (i*6)=cs:=fw (by omega);have gv:(i+1)*64<=140737488355328/\i<=9223372036854775806:=(by omega);have ia:((z.aR.take (i+1)).map (λx=>mJ (nP z.bO x))).flatten=cs++(λx=>mJ (nP z.bO x)) x:=(by rw[CF (f:=(λx=>mJ (nP z.bO x))) F,fe]);obtain⟨k,y,aa,ab⟩:=S.aqe x (fT F);have uF:k<z.bO.length:=(dg.1 ab).1;have tx:(k:Int)<z.bO.length:=(by omega);have gX:=(dg.1 ab).2;have qZ:Oe z.bO x.qw=y.name:=(by unfold Oe;rw[aa,u6,ab]);simp(disch:=first|omega|simp only[DI.aF];omega) [S1,abV,bl,fH,hD,aw,cv,gg,aJ,hP,bj,bn,bc,eA,gr,hd,gv,aa,tx,gX,-ao,-aB,-ai,-au,-List.map_map];refine aZ _ _ ⟨t.next+7+17,⟨by simp[aw],by simp[bR],by simp[cv],?_,?_,?_,dm,du⟩,?_,by omega,by omega,by omega,by simp⟩
    · simp(disch:=first|omega|simp only[DI.aF];omega) [aJ]
    · simp(disch:=first|omega|simp only[DI.aF];omega) [aj]
    · simp(disch:=first|omega|simp only[DI.aF];omega)
    · rw[ia];simp only[mJ,nP,qZ];simp(disch:=first|omega|simp only[DI.aF];omega)
  · rintro u t ⟨o,⟨aw,bR,cv,aJ,aj,hP,dm,du⟩,bj,ho,j9,ka,gg⟩;have cg: ¬(((z.aR.length:Nat):Int)<z.aR.length):=(by omega);have et:=aO aJ;rw[kM]at bj;simp(disch:=omega) [S1,abV,bl,aw,gg,aJ,cg];exact a1 _ _ o ⟨by simp[aw],by simp[bR],by simp[cv],aJ,aj,hP,dm,du⟩ bj ho j9 ka
theorem aIM{z:a4}(aH:a4.dP z)(S:a4.tI z){w:Bool}{p cG:Nat}{bY cN dI ew:Value}{bF:aM}{bS:E}(bH:kO z w 5 p [X z.ext,bY,cN,dI,ew,.slice (some ⟨cG,0,none⟩) 0 4] bF bS)(jl:bS.U cG=some ⟨[],true⟩)(ho:cG≠0)(j9:cG≠1)(ka:cG≠p)
    (jt:bF 132=aQ (z.cP.map iy) 2) (iC:bF 133=X z.cP.length) (gg:bF 134=X 0) {Q:dp->aM->E->Prop} (a1: ∀u t o,kO z w 5 p [X z.ext,bY,cN,dI,ew,.slice (some ⟨o,0,none⟩) z.cP.length 4] u t->t.U o=some ⟨(z.cP.map (λx=>l5 (m8 z.bT x))).flatten,true⟩->o≠0->o≠1->o≠p->Q (.bw 8) u t):gD Z (.loop SR) bF bS Q:=by
  have C2:=aH.zX;refine hC (a0:=⟨[],[]⟩) (λi u t=> ∃o,kO z w 5 p [X z.ext,bY,cN,dI,ew,.slice (some ⟨o,0,none⟩) i 4] u t/\t.U o=some ⟨((z.cP.take i).map (λx=>l5 (m8 z.bT x))).flatten,true⟩/\o≠0/\o≠1/\o≠p/\u 132=aQ (z.cP.map iy) 2/\u 133=X z.cP.length/\u 134=X i) z.cP.length ?_ ?_ 0 bF bS (hf _) ⟨cG,bH,by simpa using jl,ho,j9,ka,jt,iC,by simpa using gg⟩
  · rintro i u t ag ⟨o,⟨aw,bR,cv,aJ,aj,hP,dm,du⟩,bj,ho,j9,ka,jt,iC,gg⟩ cp aZ;obtain⟨x,F⟩:=kS ag;have eA:=(dg.1 F).2;have bc:=e7 (n:=i) (by omega);have bn:(i:Int)<z.cP.length:=(by omega);have et:=aO aJ;have fP:=aO aj;have vP:=aO hP;have cK:=aO bj;obtain⟨cs,fe⟩: ∃cs,cs=((z.cP.take i).map (λx=>l5 (m8 z.bT x))).flatten:=⟨_,rfl⟩;rw[<-fe]at bj;have gr:cs.length=i*4:=(by rw[fe,CG (l:=z.cP) (f:=(λx=>l5 (m8 z.bT x))) (O:=4) (λ_=>rfl) (by omega)]);have hd:cs.take (i*4)=cs:=fw (by omega);have gv:(i+1)*48<=140737488355328/\i<=9223372036854775806:=(by omega);have ia:((z.cP.take (i+1)).map (λx=>l5 (m8 z.bT x))).flatten=cs++(λx=>l5 (m8 z.bT x)) x:=(by rw[CF (f:=(λx=>l5 (m8 z.bT x))) F,fe]);obtain⟨k,y,aa,ab⟩:=S.cP x (fT F);have uF:k<z.bT.length:=(dg.1 ab).1;have tx:(k:Int)<z.bT.length:=(by omega);have gX:=(dg.1 ab).2;have qZ:OG z.bT x.w9=y.name:=(by unfold OG;rw[aa,u6,ab]);simp(disch:=first|omega|simp only[DI.aF];omega) [SR,abh,abi,bl,eR,iy,aw,cv,jt,iC,gg,aJ,hP,bj,bn,bc,eA,gr,hd,gv,aa,tx,gX,-ao,-aB,-ai,-au,-List.map_map];refine aZ _ _ ⟨t.next+4+13,⟨by simp[aw],by simp[bR],by simp[cv],?_,?_,?_,dm,du⟩,?_,by omega,by omega,by omega,by simp[jt],by simp[iC],by simp⟩
    · simp(disch:=first|omega|simp only[DI.aF];omega) [aJ,-ao,-aB,-ai,-au,-List.map_map]
    · simp(disch:=first|omega|simp only[DI.aF];omega) [aj,-ao,-aB,-ai,-au,-List.map_map]
    · simp(disch:=first|omega|simp only[DI.aF];omega) [-ao,-aB,-ai,-au,-List.map_map]
    · rw[ia];simp only[l5,m8,qZ];simp(disch:=first|omega|simp only[DI.aF];omega) [-ao,-aB,-ai,-au,-List.map_map]
  · rintro u t ⟨o,⟨aw,bR,cv,aJ,aj,hP,dm,du⟩,bj,ho,j9,ka,jt,iC,gg⟩;have cg: ¬(((z.cP.length:Nat):Int)<z.cP.length):=(by omega);have et:=aO aJ;rw[kM]at bj;simp(disch:=first|omega|simp only[DI.aF];omega) [SR,abh,abi,iC,gg,cg,-ao,-aB,-ai,-au,-List.map_map];exact a1 _ _ o ⟨by simp[aw],by simp[bR],by simp[cv],aJ,aj,hP,dm,du⟩ bj ho j9 ka
theorem aKd{z:a4}(aH:a4.dP z)(S:a4.tI z){w:Bool}{p cG:Nat}{bY cN dI ew:Value}{bF:aM}{bS:E}(bH:kO z w 4 p [X z.ext,bY,cN,dI,ew,.slice (some ⟨cG,0,none⟩) 0 4] bF bS)(jl:bS.U cG=some ⟨[],true⟩)(ho:cG≠0)(j9:cG≠1)(ka:cG≠p)
    (gg:bF 12=X 0) {Q:dp->aM->E->Prop} (a1: ∀u t o,kO z w 4 p [X z.ext,bY,cN,dI,ew,.slice (some ⟨o,0,none⟩) z.cP.length 4] u t->t.U o=some ⟨(z.cP.map (λx=>l5 (m8 z.bT x))).flatten,true⟩->o≠0->o≠1->o≠p->Q (.bw 8) u t):gD Z (.loop S4) bF bS Q:=by
  have C2:=aH.zX;refine hC (a0:=⟨[],[]⟩) (λi u t=> ∃o,kO z w 4 p [X z.ext,bY,cN,dI,ew,.slice (some ⟨o,0,none⟩) i 4] u t/\t.U o=some ⟨((z.cP.take i).map (λx=>l5 (m8 z.bT x))).flatten,true⟩/\o≠0/\o≠1/\o≠p/\u 12=X i) z.cP.length ?_ ?_ 0 bF bS (hf _) ⟨cG,bH,by simpa using jl,ho,j9,ka,by simpa using gg⟩
  · rintro i u t ag ⟨o,⟨aw,bR,cv,aJ,aj,hP,dm,du⟩,bj,ho,j9,ka,gg⟩ cp aZ;obtain⟨x,F⟩:=kS ag;have eA:=(dg.1 F).2;have bc:=e7 (n:=i) (by omega);have bn:(i:Int)<z.cP.length:=(by omega);have et:=aO aJ;have fP:=aO aj;have vP:=aO hP;have cK:=aO bj;obtain⟨cs,fe⟩: ∃cs,cs=((z.cP.take i).map (λx=>l5 (m8 z.bT x))).flatten:=⟨_,rfl⟩;rw[<-fe]at bj;have gr:cs.length=i*4:=(by rw[fe,CG (l:=z.cP) (f:=(λx=>l5 (m8 z.bT x))) (O:=4) (λ_=>rfl) (by omega)]);have hd:cs.take (i*4)=cs:=fw (by omega);have gv:(i+1)*48<=140737488355328/\i<=9223372036854775806:=(by omega);have ia:((z.cP.take (i+1)).map (λx=>l5 (m8 z.bT x))).flatten=cs++(λx=>l5 (m8 z.bT x)) x:=(by rw[CF (f:=(λx=>l5 (m8 z.bT x))) F,fe]);obtain⟨k,y,aa,ab⟩:=S.cP x (fT F);have uF:k<z.bT.length:=(dg.1 ab).1;have tx:(k:Int)<z.bT.length:=(by omega);have gX:=(dg.1 ab).2;have qZ:OG z.bT x.w9=y.name:=(by unfold OG;rw[aa,u6,ab]);simp(disch:=first|omega|simp only[DI.aF];omega) [S4,abT,bl,eR,iy,aw,cv,gg,aJ,hP,bj,bn,bc,eA,gr,hd,gv,aa,tx,gX,-ao,-aB,-ai,-au,-List.map_map];refine aZ _ _ ⟨t.next+21,⟨by simp[aw],by simp[bR],by simp[cv],?_,?_,?_,dm,du⟩,?_,by omega,by omega,by omega,by simp⟩
    · simp(disch:=omega) [aJ]
    · simp(disch:=omega) [aj]
    · simp(disch:=first|omega|simp only[DI.aF];omega)
    · rw[ia];simp only[l5,m8,qZ];simp(disch:=first|omega|simp only[DI.aF];omega)
  · rintro u t ⟨o,⟨aw,bR,cv,aJ,aj,hP,dm,du⟩,bj,ho,j9,ka,gg⟩;have cg: ¬(((z.cP.length:Nat):Int)<z.cP.length):=(by omega);have et:=aO aJ;rw[kM]at bj;simp(disch:=omega) [S4,abT,bl,aw,gg,aJ,cg];exact a1 _ _ o ⟨by simp[aw],by simp[bR],by simp[cv],aJ,aj,hP,dm,du⟩ bj ho j9 ka
end Go.Proofs.YtkpifdkccdndcaaGreat
