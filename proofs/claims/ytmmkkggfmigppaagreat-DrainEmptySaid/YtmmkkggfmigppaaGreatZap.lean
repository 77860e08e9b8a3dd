/-
  A part of the proof of the statement, in texts that tools of ours (wip/shrink.py, irpack.py, relax.py, minify.py, join.py, lay.py) have shortened.
-/
import Derived.Test.YtmmkkggfmigppaaGreatZao
set_option linter.all false
set_option maxRecDepth 8000
set_option maxHeartbeats 16000000
namespace Go.Proofs.YtmmkkggfmigppaaGreat
open Go Go.DI Go.Big
def jV(ds:List gj)(k:Nat)(v:Int):Prop:= ∃q,ds[k]?=some q/\q.hl=v
theorem jV.app{ds:List gj}{k:Nat}{v:Int}{x:gj}(h:jV ds k v):jV (ds++[x]) k v:=by obtain⟨q,D,H⟩:=h;exact⟨q,by rw[tv (ek.1 D).1];exact D,H⟩
theorem jV.c0{ds:List gj}{k:Nat}{v:Int}(h:jV ds k v):k<ds.length:=by obtain⟨q,D,_⟩:=h;exact(ek.1 D).1
structure pJ(ds:List gj):Prop where
  n1:ds[0]?=some ⟨⟨#[]⟩,0,-1,0,fk 0 1⟩
  ke: ∀(i:Nat) (d:gj),0<i->ds[i]?=some d->d.name=jN 110 i/\0<=d.parent/\d.parent<i/\jV ds d.parent.toNat (d.hl-1)/\1<=d.hl/\d.hl<=4/\1<=d.ik/\d.ik<=64/\d.nJ=fk 0 1
theorem pJ.Ao{ds:List gj}(h:pJ ds):0<ds.length:=(ek.1 h.n1).1
theorem pJ.add{ds:List gj}(h:pJ ds){gq ik:Int}{p:Nat}(af:jV ds p (gq-1))(D:1<=gq)(H:gq<=4)(aq:1<=ik)(aF:ik<=64):pJ (ds++[ht ds.length gq p ik]) where
  n1:=by rw[tv h.Ao];exact h.n1
  ke i d ai G:=by
    by_cases c:i<ds.length
    · rw[tv c]at G;obtain⟨bw,bJ,cc,eI,fp⟩:=h.ke i d ai G;exact⟨bw,bJ,cc,eI.app,fp⟩
    · have aC:=(ek.1 G).1;simp only[j7,oX,wE]at aC;have e:i=ds.length:=(by omega);subst e;rw[uP (ev _)]at G;simp at G;subst G;have:=af.c0;exact⟨rfl,by simp[ht],by simp[ht];omega,by simpa[ht]using af.app,D,H,aq,aF,rfl⟩
theorem uo{ds:List gj}{gq ik:Int}{p:Int}:jV (ds++[ht ds.length gq p ik]) ds.length gq:=⟨ht ds.length gq p ik,by simp,rfl⟩
def o3(ds:List gj)(cm:List md):Prop:= ∀(i:Nat) (x:md),cm[i]?=some x->x.name=jN 100 i/\0<=x.model/\x.model<2/\ ∃m:Nat,x.sZ=m/\jV ds m 4
theorem o3.app{ds:List gj}{cm:List md}(h:o3 ds cm){d:gj}:o3 (ds++[d]) cm:= λi x G=>by obtain⟨a,b,c,m,e,f⟩:=h i x G;exact⟨a,b,c,m,e,f.app⟩
theorem o3.add{ds:List gj}{cm:List md}(h:o3 ds cm){m:Nat}(aw:jV ds m 4){y:Int}(c5:0<=y)(D:y<2):o3 ds (cm++[⟨jN 100 cm.length,y,m⟩]):= λi x G=>by
  by_cases c:i<cm.length
  · rw[tv c]at G;exact h i x G
  · have aC:=(ek.1 G).1;simp only[j7,oX,wE]at aC;have e:i=cm.length:=(by omega);subst e;rw[uP (ev _)]at G;simp at G;subst G;exact⟨rfl,c5,D,m,rfl,aw⟩
def xV:List Value:=[Z 0,.slice none 0 0,.slice none 0 0,.slice none 0 0,.slice none 0 0,.slice none 0 0,.slice none 0 0]
structure af3(l:List Int)(i:Nat)(K:Int)(fu fv hT gL:Value)(ds:List gj)(cm:List md)(h6 or:Nat)(t:W):Prop where
  aO:t.Y 0=some ⟨[dG l,Z i],true⟩
  aQ:t.Y 1=some ⟨xV,true⟩
  fg:t.Y 6=some ⟨[Z K,fu,fv,e6 h6 ds.length 7,e6 or cm.length 3,hT,gL],true⟩
  rF:t.Y h6=some ⟨(ds.map dU).flatten,true⟩
  iI:t.Y or=some ⟨(cm.map gn).flatten,true⟩
  ga:h6≠0/\h6≠1/\h6≠6
  hH:or≠0/\or≠1/\or≠6
  s6:h6≠or
def ka(l:List Int)(i:Nat)(K:Int)(fu fv hT gL:Value)(ds:List gj)(cm:List md)(t:W):Prop:= ∃h6 or,af3 l i K fu fv hT gL ds cm h6 or t
theorem ahA{l:List md}:(l.map gn).flatten.length=l.length*3:=by rw[sw (J:=3) λr ay=>by obtain⟨x,_,rfl⟩:=hc.1 ay;rfl,j8]
def HQ:List Nat:=[0,1,4,5,6,7,8,9,10,11]
theorem Nb{z aj:aP}(c5:aj 0=z 0)(D:aj 1=z 1)(aF:aj 4=z 4)(br:aj 5=z 5)(cR:aj 6=z 6)(fs:aj 7=z 7)(hz:aj 8=z 8)(ix:aj 9=z 9)(w3:aj 10=z 10)(Jw:aj 11=z 11): ∀k∈HQ,aj k=z k:= λk aa=>by simp only[HQ,g6,iG,or_false]at aa;rcases aa with rfl|rfl|rfl|rfl|rfl|rfl|rfl|rfl|rfl|rfl<;>assumption
theorem ahy{l:List Int}(aC:l.length<=140737488355328){K:Int}{fu fv hT gL:Value}{ds:List gj}{m:Nat}(aw:jV ds m 4): ∀(k i:Nat) (cm:List md),o3 ds cm->cm.length<=9->i+k<1000000->
    ∃ jg db,o3 ds jg/\jg.length<=9/\min (cm.length+min k 1) 9<=jg.length/\db<=i+k/\ ∀(z:aP) (t:W) (Q:dy->aP->W->Prop),z 0=cD 0->z 5=cD 6->z 11=Z m->z 12=Z k->ka l i K fu fv hT gL ds cm t->
      (∀aj aT,(∀s∈HQ,aj s=z s)->ka l db K fu fv hT gL ds jg aT->Q (.ba 2) aj aT)->fP al (.loop zJ) z t Q:=by
  intro k;induction k with
  | zero=>intro i cm ay ix ai;refine⟨cm,i,ay,ix,by omega,by omega,λz t Q c9 cu uB tg jA bY=> ?_⟩;refine eC (aB:=⟨[lK],[iM]⟩) λcK bk=> ?_;simp(disch:=first|omega|simp only[aE];omega) [zJ,Gw,Gx,tg,-O,-U,-N,-S,-List.map_map];exact bY _ _ (Nb (by simp) (by simp) (by simp) (by simp) (by simp) (by simp) (by simp) (by simp) (by simp) (by simp)) jA
  | succ k cn=>
    intro i cm ay ix ai;have b7:IntKind.i64.wrap (k:Int)=(k:Int):=fl (by omega) (by omega);have bU:(0:Int)<(k:Int)+1:=(by omega);by_cases aC4:cm.length<9
    case neg=>refine⟨cm,i,ay,ix,by omega,by omega,λz t Q c9 cu uB tg jA bY=> ?_⟩;refine eC (aB:=⟨[lK],[iM]⟩) λcK bk=> ?_;obtain⟨h6,or,k0⟩:=jA;have fg:=k0.fg;have uj:=bm fg;have IS: ¬(cm.length:Int)<9:=(by omega);simp(disch:=first|omega|simp only[aE];omega) [zJ,Gw,Gx,cu,tg,bU,IS,fg,-O,-U,-N,-S,-List.map_map];exact bY _ _ (Nb (by simp) (by simp) (by simp) (by simp) (by simp) (by simp) (by simp) (by simp) (by simp) (by simp)) ⟨h6,or,k0⟩
    obtain⟨y,ah⟩: ∃y:Int,y=if e5 l i 4=0 then 1 else 0:=⟨_,rfl⟩
    have E4:0<=y/\y<2:=(by rw[ah];split<;>omega);obtain⟨jg,db,bw,bJ,cc,eI,fp⟩:=cn (i+1) (cm++[⟨jN 100 cm.length,y,m⟩]) (ay.add aw E4.1 E4.2) (by simp;omega) (by omega);refine⟨jg,db,bw,bJ,by simp only[j7,oX,wE]at cc;omega,by omega,λz t Q c9 cu uB tg jA bY=> ?_⟩;obtain⟨h6,or,⟨aO,aQ,fg,rF,iI,ga,hH,s6⟩⟩:=jA;refine eC (aB:=⟨[lK],[iM]⟩) λcK bk=> ?_;have IS:(cm.length:Int)<9:=(by omega);have fq:=bm aO;have iE:=bm aQ;have uj:=bm fg;have au0:=bm rF;have sY:=bm iI;obtain⟨Sf,adF,Mp⟩:=hH;obtain⟨Mo,Sd,Se⟩:=ga;have aGM:0≠or:= λe=>Sf e.symm;have aGN:6≠or:= λe=>Mp e.symm;have jL:i<1000000/\l.length<=140737488355328/\(4:Int)<=1000000:=⟨by omega,aC,by decide⟩;have jK:lK.fn [.int .u8 100,Z cm.length]=some (.string (jN 100 cm.length)):=MM (C:=100) rfl ⟨by decide,by omega⟩;have fy:=ahA (l:=cm);have gD:(cm.length+1)*32<=140737488355328/\cm.length<=9223372036854775806:=by omega
    have mi: ∀(bI:aP) (bO:W),(∀s∈HQ,bI s=z s)->bI 12=Z k->bO.Y 0=some ⟨[dG l,Z (i+1:Nat)],true⟩->bO.Y 1=t.Y 1->bO.Y 6=some ⟨[Z K,fu,fv,e6 h6 ds.length 7,e6 (t.next+10) (cm.length+1) 3,hT,gL],true⟩->bO.Y h6=t.Y h6->
        bO.Y (t.next+10)=some ⟨(cm.map gn).flatten++[fH (jN 100 cm.length),Z y,Z m],true⟩->fP al (.loop zJ) bI bO Q:= λbI bO M Ey h1 aL kg rz oo=>by
      refine fp bI bO Q ((M 0 (by decide)).trans c9) ((M 5 (by decide)).trans cu) ((M 11 (by decide)).trans uB) Ey ⟨h6,t.next+10,⟨h1,aL.trans aQ,?_,rz.trans rF,?_,⟨Mo,Sd,Se⟩,⟨by omega,by omega,by omega⟩,by omega⟩⟩ λaj aT tW=>bY aj aT λs fb=>(tW s fb).trans (M s fb)
      · rw[kg];simp
      · rw[oo];simp[gn]
    by_cases pT:e5 l i 4=0
    · rw[if_pos pT]at ah;subst ah;simp(disch:=first|omega|simp only[aE];omega) [zJ,Gw,Gx,c9,cu,uB,tg,bU,IS,aO,fg,iI,jK,fy,gD,pT,b7,-O,-U,-N,-S,-List.map_map];refine bk _ _ (mi _ _ (Nb (by simp) (by simp) (by simp) (by simp) (by simp) (by simp) (by simp) (by simp) (by simp) (by simp)) (by simp[]) ?_ ?_ ?_ ?_ ?_)
      · simp(disch:=first|omega|simp only[aE];omega) [-O,-U,-N,-S,-List.map_map]
      · simp(disch:=first|omega|simp only[aE];omega) [-O,-U,-N,-S,-List.map_map]
      · simp(disch:=first|omega|simp only[aE];omega) [-O,-U,-N,-S,-List.map_map]
      · simp(disch:=first|omega|simp only[aE];omega) [-O,-U,-N,-S,-List.map_map]
      · simp(disch:=first|omega|simp only[aE];omega) [-O,-U,-N,-S,-List.map_map];exact ky (by omega)
    · rw[if_neg pT]at ah;subst ah;simp(disch:=first|omega|simp only[aE];omega) [zJ,Gw,Gx,c9,cu,uB,tg,bU,IS,aO,fg,iI,jK,fy,gD,pT,b7,-O,-U,-N,-S,-List.map_map];refine bk _ _ (mi _ _ (Nb (by simp) (by simp) (by simp) (by simp) (by simp) (by simp) (by simp) (by simp) (by simp) (by simp)) (by simp[]) ?_ ?_ ?_ ?_ ?_)
      · simp(disch:=first|omega|simp only[aE];omega) [-O,-U,-N,-S,-List.map_map]
      · simp(disch:=first|omega|simp only[aE];omega) [-O,-U,-N,-S,-List.map_map]
      · simp(disch:=first|omega|simp only[aE];omega) [-O,-U,-N,-S,-List.map_map]
      · simp(disch:=first|omega|simp only[aE];omega) [-O,-U,-N,-S,-List.map_map]
      · simp(disch:=first|omega|simp only[aE];omega) [-O,-U,-N,-S,-List.map_map];exact ky (by omega)
theorem k5{o:Nat}{n J:Int}{t:W}{l:List Int}(h:0<=J/\J<1000000/\l.length<=140737488355328/\n<=1000000):CO o n t (some ⟨[au (l.map λx=>[Z x]) 1,.int .i64 J],true⟩)=some (Z (e5 l J.toNat n),t.a4 o (some ⟨[dG l,Z (J+1)],true⟩)):=by obtain⟨i,rfl⟩:=kS h.1;rw[rn];exact avL (i:=i) ⟨by omega,h.2.2⟩
section
variable {l:List Int} {i:Nat} {K:Int} {fu fv hT gL:Value} {ds:List gj} {cm:List md} {t:W}
theorem ka.at(h:ka l i K fu fv hT gL ds cm t){J:Int}{db:Nat}(bL:J=db):ka l db K fu fv hT gL ds cm (t.a4 0 (some ⟨[dG l,Z J],true⟩)):=by subst bL;obtain⟨h6,or,⟨aO,aQ,fg,rF,iI,ga,hH,s6⟩⟩:=h;exact⟨h6,or,eZ (bm aO),by rw[b3 (by decide)];exact aQ,by rw[b3 (by decide)];exact fg,by rw[b3 ga.1];exact rF,by rw[b3 hH.1];exact iI,ga,hH,s6⟩
theorem wW(h:ka l i K fu fv hT gL ds cm t)(ax:ds.length<1000){gq pr ik:Int}{cg:Value->W->Prop}(j1: ∀aT,ka l i K fu fv hT gL (ds++[ht ds.length gq pr ik]) cm aT->cg (Z ds.length) aT):fQ al 108 [cD 6,Z gq,Z pr,Z ik] t cg:=by
  obtain⟨h6,or,⟨aO,aQ,fg,rF,iI,ga,hH,s6⟩⟩:=h;refine ahq fg rF ga.2.2 ax λaT Ha aD G kg rz vd=>j1 aT ⟨Ha,or,?_,?_,kg,rz,?_,?_,hH,?_⟩
  · rw[vd 0 (bm aO) (by decide) (λe=>ga.1 e.symm)];exact aO
  · rw[vd 1 (bm aQ) (by decide) (λe=>ga.2.1 e.symm)];exact aQ
  · rw[vd or (bm iI) hH.2.2 (λe=>s6 e.symm)];exact iI
  · have:=bm fg;exact⟨by omega,by omega,by omega⟩
  · have:=bm iI;omega
end
def HU:List Nat:=[0,1,4,5,6,7,8,9,10]
theorem ayr: ∀k∈HU,k∈HQ:=by decide
theorem aLr{z aj:aP}(c5:aj 0=z 0)(D:aj 1=z 1)(aF:aj 4=z 4)(br:aj 5=z 5)(cR:aj 6=z 6)(fs:aj 7=z 7)(hz:aj 8=z 8)(ix:aj 9=z 9)(w3:aj 10=z 10): ∀k∈HU,aj k=z k:= λk aa=>by simp only[HU,g6,iG,or_false]at aa;rcases aa with rfl|rfl|rfl|rfl|rfl|rfl|rfl|rfl|rfl<;>assumption
theorem Mi{l:List Int}(aC:l.length<=140737488355328){K:Int}{fu fv hT gL:Value}{ds:List gj}{cm:List md}{i q4:Nat}(aA:pJ ds)(ay:o3 ds cm)(ix:cm.length<=9)(ai:i+10<1000000)(aa:jV ds q4 3)(ax:ds.length<900):
    ∃ fx jg db,pJ fx/\o3 fx jg/\(jg.length<=9/\1<=jg.length)/\fx.length=ds.length+1/\db<=i+4/\(∀a v,jV ds a v->jV fx a v)/\ ∀(z:aP) (t:W) (Q:dy->aP->W->Prop),z 0=cD 0->z 5=cD 6->z 9=Z q4->ka l i K fu fv hT gL ds cm t->
      (∀aj aT,(∀s∈HU,aj s=z s)->ka l db K fu fv hT gL fx jg aT->Q .et aj aT)->iU (P:=al) ⟨[lK],[iM]⟩ Rm z t Q:=by
  have fC:=ks (l:=l) (i:=i) (n:=9) (by decide);have g3:=ks (l:=l) (i:=i+1) (n:=2) (by decide);obtain⟨bp,aY⟩: ∃bp,bp=8+e5 l i 9:=⟨_,rfl⟩;obtain⟨k,xb⟩:=kS (show 0<=1+e5 l (i+1) 2 by omega);have aiM:=aA.add (gq:=4) (ik:=bp) (p:=q4) aa (by decide) (by decide) (by omega) (by omega);obtain⟨jg,db,bw,bJ,cc,eI,fp⟩:=ahy (l:=l) aC (K:=K) (fu:=fu) (fv:=fv) (hT:=hT) (gL:=gL) (ds:=ds++[ht ds.length 4 q4 bp]) (m:=ds.length) uo k (i+2) cm ay.app ix (by omega);refine⟨_,jg,db,aiM,bw,⟨bJ,by omega⟩,by simp,by omega,λa v h=>h.app,λz t Q c9 cu hQ jA bY=> ?_⟩;obtain⟨h6,or,aw⟩:=jA;have aO:=aw.aO;have fq:=bm aO;have azh:IntKind.i64.wrap (8+e5 l i 9)=8+e5 l i 9:=fl (by omega) (by omega);simp(disch:=first|omega|simp only[aE];omega) [Rm,ab5,c9,cu,hQ,aO,k5,azh,-O,-U,-N,-S,-List.map_map];rw[<-aY];refine wW (ka.at ⟨h6,or,aw⟩ (db:=i+1) (by omega)) (by omega) λbO D=> ?_;obtain⟨Hb,Hi,k0⟩:=D;obtain⟨km,sG⟩: ∃km,km=i+1:=⟨_,rfl⟩;have aQ:=k0.aO;rw[<-sG]at aQ k0 xb g3;have iE:=bm aQ;have cX:IntKind.i64.wrap (1+e5 l km 2)=(k:Int):=by rw[xb];exact fl (by omega) (by omega)
  simp(disch:=first|omega|simp only[aE];omega) [c9,aQ,k5,cX,-O,-U,-N,-S,-List.map_map];refine fp _ _ _ (by simp[c9]) (by simp[cu]) (by simp) (by simp) (ka.at ⟨Hb,Hi,k0⟩ (db:=i+2) (by omega)) λaj aT M qT=> ?_;simp(disch:=first|omega|simp only[aE];omega) [-O,-U,-N,-S,-List.map_map];exact bY _ _ (λs fb=>(M s (ayr s fb)).trans (by simp only[HU,g6,iG,or_false]at fb;rcases fb with rfl|rfl|rfl|rfl|rfl|rfl|rfl|rfl|rfl<;>simp)) qT
theorem ajV:IntKind.i64.wrap 1=1:=fl (by decide) (by decide)
def wj:List Nat:=[0,1,4,5,6]
theorem avj{l:List Int}(aC:l.length<=140737488355328){K:Int}{fu fv hT gL:Value}{ds:List gj}{cm:List md}{i j l9 q4:Nat}(aA:pJ ds)(ay:o3 ds cm)(ix:cm.length<=9)(bx:j<1000)(ai:i+30<1000000)(ax:ds.length<800)(aa:j=0\/(jV ds l9 2/\jV ds q4 3)):
    ∃ (fx:List gj) (jg:List md) (db aet aeg:Nat),pJ fx/\o3 fx jg/\(jg.length<=9/\1<=jg.length)/\fx.length<=ds.length+4/\db<=i+9/\jV fx aet 2/\jV fx aeg 3/\ ∀(z:aP) (t:W) (Q:dy->aP->W->Prop),z 0=cD 0->z 5=cD 6->z 8=Z l9->z 9=Z q4->z 10=Z j->ka l i K fu fv hT gL ds cm t->
      (∀aj aT,(∀s∈wj,aj s=z s)->aj 8=Z aet->aj 9=Z aeg->aj 10=Z (j+1:Nat)->ka l db K fu fv hT gL fx jg aT->Q .et aj aT)->iU (P:=al) ⟨[lK],[iM]⟩ Ch z t Q:=by
  have b7:=gT (n:=j) (by omega);by_cases Bb:j=0
  · subst Bb;have Bb:(0:Int)=0:=rfl;have j:Nat:=0;have bw:=ks (l:=l) (i:=i) (n:=17) (by decide);have bJ:=ks (l:=l) (i:=i+1) (n:=17) (by decide);have cc:=ks (l:=l) (i:=i+2) (n:=9) (by decide);obtain⟨kP,D⟩: ∃bp,bp=16+e5 l i 17:=⟨_,rfl⟩;obtain⟨nd,H⟩: ∃bp,bp=16+e5 l (i+1) 17:=⟨_,rfl⟩;obtain⟨n8,aq⟩: ∃bp,bp=8+e5 l (i+2) 9:=⟨_,rfl⟩;have n1:jV ds 0 (1-1):=⟨_,aA.n1,rfl⟩;have gZ:=aA.add (gq:=1) (ik:=kP) (p:=0) n1 (by decide) (by decide) (by omega) (by omega);have gM:=gZ.add (gq:=2) (ik:=nd) (p:=ds.length) uo (by decide) (by decide) (by omega) (by omega);have kd:=gM.add (gq:=3) (ik:=n8) (p:=(ds++[ht ds.length 1 (0:Nat) kP]).length) uo (by decide) (by decide) (by omega) (by omega);have aL:(ds++[ht ds.length 1 ((0:Nat):Int) kP]).length=ds.length+1:=(by simp);have aU:(ds++[ht ds.length 1 ((0:Nat):Int) kP]++[ht (ds.length+1) 2 (ds.length:Int) nd]).length=ds.length+2:=(by simp);rw[aL]at gM kd;rw[aU]at kd;have hk:jV (ds++[ht ds.length 1 ((0:Nat):Int) kP]++[ht (ds.length+1) 2 (ds.length:Int) nd]) (ds.length+1) 2:=by
      have:=uo (ds:=ds++[ht ds.length 1 ((0:Nat):Int) kP]) (gq:=2) (ik:=nd) (p:=ds.length);rw[aL]at this;exact this
    have iO:jV (ds++[ht ds.length 1 ((0:Nat):Int) kP]++[ht (ds.length+1) 2 (ds.length:Int) nd]++[ht (ds.length+2) 3 ((ds.length+1:Nat):Int) n8]) (ds.length+2) 3:=by have:=uo (ds:=ds++[ht ds.length 1 ((0:Nat):Int) kP]++[ht (ds.length+1) 2 (ds.length:Int) nd]) (gq:=3) (ik:=n8) (p:=(ds.length+1:Nat));rw[aU]at this;exact this
    obtain⟨fx,jg,db,c8,dX,gl,gm,lg,lh,qC⟩:=Mi (l:=l) aC (K:=K) (fu:=fu) (fv:=fv) (hT:=hT) (gL:=gL) (i:=i+3) kd ay.app.app.app ix (by omega) iO (by simp;omega);refine⟨fx,jg,db,ds.length+1,ds.length+2,c8,dX,gl,by simp at gm;omega,by omega,lh _ _ (hk.app),lh _ _ iO,λz t Q c9 cu b1 hQ j5 jA bY=> ?_⟩;obtain⟨h6,or,aw⟩:=jA;have aO:=aw.aO;have fq:=bm aO;have cX:IntKind.i64.wrap (16+e5 l i 17)=kP:=(by rw[D];exact fl (by omega) (by omega));simp(disch:=first|omega|simp only[aE];omega) [Ch,c9,cu,j5,aO,k5,cX,-O,-U,-N,-S,-List.map_map];refine wW (ka.at ⟨h6,or,aw⟩ (db:=i+1) (by omega)) (by omega) λbO iY=> ?_;obtain⟨Hb,Hi,k0⟩:=iY;obtain⟨km,sG⟩: ∃km,km=i+1:=⟨_,rfl⟩;have aQ:=k0.aO;have iE:=bm aQ;rw[<-sG]at aQ k0 H bJ;have e2:IntKind.i64.wrap (16+e5 l km 17)=nd:=(by rw[H];exact fl (by omega) (by omega));simp(disch:=first|omega|simp only[aE];omega) [Gy,c9,cu,aQ,k5,e2,-O,-U,-N,-S,-List.map_map];refine wW (ds:=ds++[ht ds.length 1 ((0:Nat):Int) kP]) (ka.at ⟨Hb,Hi,k0⟩ (db:=i+2) (by omega)) (by omega) λiB sA=> ?_;obtain⟨Sn,vW,rM⟩:=sA;obtain⟨ln,kD⟩: ∃ln,ln=i+2:=⟨_,rfl⟩;have a8:=rM.aO;have iP:=bm a8;rw[<-kD]at a8 rM aq cc;rw[aL]at rM⊢;have mG:IntKind.i64.wrap (8+e5 l ln 9)=n8:=(by rw[aq];exact fl (by omega) (by omega));simp(disch:=first|omega|simp only[aE];omega) [c9,cu,a8,k5,mG,-O,-U,-N,-S,-List.map_map];refine wW (ds:=ds++[ht ds.length 1 ((0:Nat):Int) kP]++[ht (ds.length+1) 2 (ds.length:Int) nd]) (ka.at ⟨Sn,vW,rM⟩ (db:=i+3) (by omega)) (by omega) λNh qM=> ?_;rw[aU]at qM⊢;simp(disch:=first|omega|simp only[aE];omega) [-O,-U,-N,-S,-List.map_map];refine qC _ _ _ (by simp[c9]) (by simp[cu]) (by simp) qM λaj aT M qT=> ?_;have zi:=(M 10 (by decide)).trans (show _=Z (0:Nat) by simp[j5]);simp(disch:=first|omega|simp only[aE];omega) [zi,-O,-U,-N,-S,-List.map_map];exact bY _ _ (λs fb=>by
      simp only[wj,g6,iG,or_false]at fb;rcases fb with rfl|rfl|rfl|rfl|rfl
      · simpa using M 0 (by decide)
      · simpa using M 1 (by decide)
      · simpa using M 4 (by decide)
      · simpa using M 5 (by decide)
      · simpa using M 6 (by decide)) (by simpa using M 8 (by decide)) (by simpa using M 9 (by decide)) (by simp[ajV]) qT
  obtain⟨hk,iO⟩:=aa.resolve_left Bb;by_cases pT:e5 l i 4=0
  · skip
    have bw:=ks (l:=l) (i:=(i+1)) (n:=17) (by decide);have bJ:=ks (l:=l) (i:=(i+1)+1) (n:=17) (by decide);have cc:=ks (l:=l) (i:=(i+1)+2) (n:=9) (by decide);obtain⟨kP,D⟩: ∃bp,bp=16+e5 l (i+1) 17:=⟨_,rfl⟩;obtain⟨nd,H⟩: ∃bp,bp=16+e5 l ((i+1)+1) 17:=⟨_,rfl⟩;obtain⟨n8,aq⟩: ∃bp,bp=8+e5 l ((i+1)+2) 9:=⟨_,rfl⟩;have n1:jV ds 0 (1-1):=⟨_,aA.n1,rfl⟩;have gZ:=aA.add (gq:=1) (ik:=kP) (p:=0) n1 (by decide) (by decide) (by omega) (by omega);have gM:=gZ.add (gq:=2) (ik:=nd) (p:=ds.length) uo (by decide) (by decide) (by omega) (by omega);have kd:=gM.add (gq:=3) (ik:=n8) (p:=(ds++[ht ds.length 1 (0:Nat) kP]).length) uo (by decide) (by decide) (by omega) (by omega);have aL:(ds++[ht ds.length 1 ((0:Nat):Int) kP]).length=ds.length+1:=(by simp);have aU:(ds++[ht ds.length 1 ((0:Nat):Int) kP]++[ht (ds.length+1) 2 (ds.length:Int) nd]).length=ds.length+2:=(by simp);rw[aL]at gM kd;rw[aU]at kd;have hk:jV (ds++[ht ds.length 1 ((0:Nat):Int) kP]++[ht (ds.length+1) 2 (ds.length:Int) nd]) (ds.length+1) 2:=(by have:=uo (ds:=ds++[ht ds.length 1 ((0:Nat):Int) kP]) (gq:=2) (ik:=nd) (p:=ds.length);rw[aL]at this;exact this);have iO:jV (ds++[ht ds.length 1 ((0:Nat):Int) kP]++[ht (ds.length+1) 2 (ds.length:Int) nd]++[ht (ds.length+2) 3 ((ds.length+1:Nat):Int) n8]) (ds.length+2) 3:=by have:=uo (ds:=ds++[ht ds.length 1 ((0:Nat):Int) kP]++[ht (ds.length+1) 2 (ds.length:Int) nd]) (gq:=3) (ik:=n8) (p:=(ds.length+1:Nat));rw[aU]at this;exact this
    obtain⟨fx,jg,db,c8,dX,gl,gm,lg,lh,qC⟩:=Mi (l:=l) aC (K:=K) (fu:=fu) (fv:=fv) (hT:=hT) (gL:=gL) (i:=(i+1)+3) kd ay.app.app.app ix (by omega) iO (by simp;omega);refine⟨fx,jg,db,ds.length+1,ds.length+2,c8,dX,gl,by simp at gm;omega,by omega,lh _ _ (hk.app),lh _ _ iO,λz t Q c9 cu b1 hQ j5 jA bY=> ?_⟩;obtain⟨h6,or,aw⟩:=jA;have aO:=aw.aO;have fq:=bm aO;have cX:IntKind.i64.wrap (16+e5 l (i+1) 17)=kP:=(by rw[D];exact fl (by omega) (by omega));simp(disch:=first|omega|simp only[aE];omega) [Ch,c9,cu,j5,aO,k5,Bb,pT,cX,-O,-U,-N,-S,-List.map_map];refine wW (ka.at ⟨h6,or,aw⟩ (db:=(i+1)+1) (by omega)) (by omega) λbO iY=> ?_;obtain⟨Hb,Hi,k0⟩:=iY;obtain⟨km,sG⟩: ∃km,km=(i+1)+1:=⟨_,rfl⟩;have aQ:=k0.aO;have iE:=bm aQ;rw[<-sG]at aQ k0 H bJ;have e2:IntKind.i64.wrap (16+e5 l km 17)=nd:=(by rw[H];exact fl (by omega) (by omega));simp(disch:=first|omega|simp only[aE];omega) [Gy,c9,cu,aQ,k5,e2,-O,-U,-N,-S,-List.map_map];refine wW (ds:=ds++[ht ds.length 1 ((0:Nat):Int) kP]) (ka.at ⟨Hb,Hi,k0⟩ (db:=(i+1)+2) (by omega)) (by omega) λiB sA=> ?_;obtain⟨Sn,vW,rM⟩:=sA;obtain⟨ln,kD⟩: ∃ln,ln=(i+1)+2:=⟨_,rfl⟩;have a8:=rM.aO;have iP:=bm a8;rw[<-kD]at a8 rM aq cc;rw[aL]at rM⊢;have mG:IntKind.i64.wrap (8+e5 l ln 9)=n8:=(by rw[aq];exact fl (by omega) (by omega));simp(disch:=first|omega|simp only[aE];omega) [c9,cu,a8,k5,mG,-O,-U,-N,-S,-List.map_map];refine wW (ds:=ds++[ht ds.length 1 ((0:Nat):Int) kP]++[ht (ds.length+1) 2 (ds.length:Int) nd]) (ka.at ⟨Sn,vW,rM⟩ (db:=(i+1)+3) (by omega)) (by omega) λNh qM=> ?_;rw[aU]at qM⊢;simp(disch:=first|omega|simp only[aE];omega) [-O,-U,-N,-S,-List.map_map];refine qC _ _ _ (by simp[c9]) (by simp[cu]) (by simp) qM λaj aT M qT=> ?_;have zi:=(M 10 (by decide)).trans (show _=Z j by simp[j5]);simp(disch:=first|omega|simp only[aE];omega) [zi,b7,-O,-U,-N,-S,-List.map_map];exact bY _ _ (λs fb=>by
      simp only[wj,g6,iG,or_false]at fb;rcases fb with rfl|rfl|rfl|rfl|rfl
      · simpa using M 0 (by decide)
      · simpa using M 1 (by decide)
      · simpa using M 4 (by decide)
      · simpa using M 5 (by decide)
      · simpa using M 6 (by decide)) (by simpa using M 8 (by decide)) (by simpa using M 9 (by decide)) (by simp[]) qT
  by_cases yG:e5 l (i+1) 2=0
  · skip
    have cc:=ks (l:=l) (i:=i+2) (n:=9) (by decide);obtain⟨n8,aq⟩: ∃bp,bp=8+e5 l (i+2) 9:=⟨_,rfl⟩;have kd:=aA.add (gq:=3) (ik:=n8) (p:=l9) hk (by decide) (by decide) (by omega) (by omega);have ac1:jV (ds++[ht ds.length 3 (l9:Int) n8]) ds.length 3:=uo;obtain⟨fx,jg,db,c8,dX,gl,gm,lg,lh,qC⟩:=Mi (l:=l) aC (K:=K) (fu:=fu) (fv:=fv) (hT:=hT) (gL:=gL) (i:=i+3) kd ay.app ix (by omega) ac1 (by simp;omega);refine⟨fx,jg,db,l9,ds.length,c8,dX,gl,by simp at gm;omega,by omega,lh _ _ hk.app,lh _ _ ac1,λz t Q c9 cu b1 hQ j5 jA bY=> ?_⟩;obtain⟨h6,or,aw⟩:=jA;have aO:=aw.aO;have fq:=bm aO;have mG:IntKind.i64.wrap (8+e5 l (i+2) 9)=n8:=(by rw[aq];exact fl (by omega) (by omega));have Nm:((i:Int)+1+1).toNat=i+2:=(by omega);have aMW:IntKind.i64.wrap (8+e5 l (i+1+1) 9)=n8:=mG;simp(disch:=first|omega|simp only[aE];omega) [Ch,Gy,c9,cu,b1,j5,aO,k5,Bb,pT,yG,mG,Nm,-O,-U,-N,-S,-List.map_map];refine wW (ka.at ⟨h6,or,aw⟩ (db:=i+3) (by omega)) (by omega) λbO iY=> ?_;simp(disch:=first|omega|simp only[aE];omega) [-O,-U,-N,-S,-List.map_map];refine qC _ _ _ (by simp[c9]) (by simp[cu]) (by simp) iY λaj aT M qT=> ?_;have zi:=(M 10 (by decide)).trans (show _=Z j by simp[j5]);simp(disch:=first|omega|simp only[aE];omega) [zi,b7,-O,-U,-N,-S,-List.map_map];exact bY _ _ (λs fb=>by
      simp only[wj,g6,iG,or_false]at fb;rcases fb with rfl|rfl|rfl|rfl|rfl
      · simpa using M 0 (by decide)
      · simpa using M 1 (by decide)
      · simpa using M 4 (by decide)
      · simpa using M 5 (by decide)
      · simpa using M 6 (by decide)) (by simpa[b1]using M 8 (by decide)) (by simpa[hQ]using M 9 (by decide)) (by simp[]) qT
  · skip
    obtain⟨fx,jg,db,c8,dX,gl,gm,lg,lh,qC⟩:=Mi (l:=l) aC (K:=K) (fu:=fu) (fv:=fv) (hT:=hT) (gL:=gL) (i:=i+2) aA ay ix (by omega) iO (by omega);refine⟨fx,jg,db,l9,q4,c8,dX,gl,by omega,by omega,lh _ _ hk,lh _ _ iO,λz t Q c9 cu b1 hQ j5 jA bY=> ?_⟩;obtain⟨h6,or,aw⟩:=jA;have aO:=aw.aO;have fq:=bm aO;simp(disch:=first|omega|simp only[aE];omega) [Ch,Gy,c9,j5,aO,k5,Bb,pT,yG,-O,-U,-N,-S,-List.map_map];refine qC _ _ _ (by simp[c9]) (by simp[cu]) (by simp[hQ]) (ka.at ⟨h6,or,aw⟩ (db:=i+2) (by omega)) λaj aT M qT=> ?_;have zi:=(M 10 (by decide)).trans (show _=Z j by simp[j5]);simp(disch:=first|omega|simp only[aE];omega) [zi,b7,-O,-U,-N,-S,-List.map_map];exact bY _ _ (λs fb=>by
      simp only[wj,g6,iG,or_false]at fb;rcases fb with rfl|rfl|rfl|rfl|rfl
      · simpa using M 0 (by decide)
      · simpa using M 1 (by decide)
      · simpa using M 4 (by decide)
      · simpa using M 5 (by decide)
      · simpa using M 6 (by decide)) (by simpa[b1]using M 8 (by decide)) (by simpa[hQ]using M 9 (by decide)) (by simp[]) qT
theorem avk{l:List Int}(aC:l.length<=140737488355328){K:Int}{fu fv hT gL:Value}{ae:Nat}(rH:ae<=100): ∀(r j i:Nat) (ds:List gj) (cm:List md) (l9 q4:Nat),j+r=ae->pJ ds->o3 ds cm->cm.length<=9->ds.length<=1+4*j->i+10*r+100<1000000->(j=0\/(jV ds l9 2/\jV ds q4 3))->
    ∃ (fx:List gj) (jg:List md) (db:Nat),pJ fx/\o3 fx jg/\(jg.length<=9/\(1<=r+cm.length->1<=jg.length))/\fx.length<=1+4*ae/\db<=i+10*r/\ ∀(z:aP) (t:W) (Q:dy->aP->W->Prop),z 0=cD 0->z 5=cD 6->z 6=Z ae->z 8=Z l9->z 9=Z q4->z 10=Z j->ka l i K fu fv hT gL ds cm t->
      (∀aj aT,(∀s∈wj,aj s=z s)->ka l db K fu fv hT gL fx jg aT->Q (.ba 0) aj aT)->fP al (.loop Lj) z t Q:=by
  intro r;induction r with
  | zero=>intro j i ds cm l9 q4 bx aA ay ix ax ai aa;refine⟨ds,cm,i,aA,ay,⟨ix,by omega⟩,by omega,by omega,λz t Q c9 cu fU b1 hQ j5 jA bY=> ?_⟩;refine eC (aB:=⟨[lK],[iM]⟩) λcK bk=> ?_;have c: ¬(j:Int)<ae:=(by omega);have bN: ¬j<ae:=(by omega);simp(disch:=first|omega|simp only[aE];omega) [Lj,fU,j5,c,-O,-U,-N,-S,-List.map_map];exact bY _ _ (λs M=>by simp only[wj,g6,iG,or_false]at M;rcases M with rfl|rfl|rfl|rfl|rfl<;>simp) jA
  | succ r cn=>intro j i ds cm l9 q4 bx aA ay ix ax ai aa;obtain⟨yH,aw7,km,awX,awx,bw,bJ,cc,eI,fp,hv,jx,lf⟩:=avj (l:=l) aC (K:=K) (fu:=fu) (fv:=fv) (hT:=hT) (gL:=gL) (i:=i) (j:=j) aA ay ix (by omega) (by omega) (by omega) aa;obtain⟨VE,aw8,ln,c8,dX,gl,gm,lg,lh⟩:=cn (j+1) km yH aw7 awX awx (by omega) bw bJ cc.1 (by omega) (by omega) (.inr ⟨hv,jx⟩);refine⟨VE,aw8,ln,c8,dX,⟨gl.1,λ_=>gl.2 (by have:=cc.2;omega)⟩,gm,by omega,λz t Q c9 cu fU b1 hQ j5 jA bY=> ?_⟩;refine eC (aB:=⟨[lK],[iM]⟩) λcK bk=> ?_;have c:(j:Int)<ae:=(by omega);have bN:j<ae:=(by omega);simp(disch:=first|omega|simp only[aE];omega) [Lj,fU,j5,c,-O,-U,-N,-S,-List.map_map];refine lf _ _ _ (by simp[c9]) (by simp[cu]) (by simp[b1]) (by simp[hQ]) (by simp[j5]) jA λaj aT M hz ain w3 aw=> ?_;have e: ∀s∈wj,aj s=z s:= λs fb=>(M s fb).trans (by simp only[wj,g6,iG,or_false]at fb;rcases fb with rfl|rfl|rfl|rfl|rfl<;>simp);simp(disch:=first|omega|simp only[aE];omega) [-O,-U,-N,-S,-List.map_map];exact bk _ _ (lh aj aT Q ((e 0 (by decide)).trans c9) ((e 5 (by decide)).trans cu) ((e 6 (by decide)).trans fU) hz ain w3 aw λuU r6 zg=>bY uU r6 λs fb=>(zg s fb).trans (e s fb))
theorem ayw:lP 1 2:=by unfold lP;omega
theorem awD{n:Nat}:(((List.replicate n (fk 1 2)).map dQ).flatten).length=n*3:=by rw[awC,List.length_replicate]
def HS:List Nat:=[0,1,4,5,14,15,16,17]
theorem ayq{z aj:aP}(c5:aj 0=z 0)(D:aj 1=z 1)(aF:aj 4=z 4)(br:aj 5=z 5)(OQ:aj 14=z 14)(OR:aj 15=z 15)(OS:aj 16=z 16)(OT:aj 17=z 17): ∀k∈HS,aj k=z k:= λk aa=>by simp only[HS,g6,iG,or_false]at aa;rcases aa with rfl|rfl|rfl|rfl|rfl|rfl|rfl|rfl<;>assumption
theorem awM{P oH:Nat}{aW:List Nat}{gE bw bJ cc eI fp hv jx lf dt c8 dX gl gm lg:Value}{gA:List Int}{m:Int}{R:Nat}(iy:(R:Int)=if m<1 then 1 else m)(JB:R<=100)(Wn: ∀b∈aW,b≠P/\b≠oH)(JA:oH≠P){Q:dy->aP->W->Prop}:
    ∀ (r n:Nat) (tb:Nat) (z:aP) (t:W),n+r=R->z 16=Z m->z 17=cD P->z 18=Z n->t.Y P=some ⟨[gE,bw,bJ,cc,eI,fp,hv,jx,lf,e6 oH gA.length 1,e6 tb n 3,dt,c8,dX,gl,gm,lg],true⟩->t.Y oH=some ⟨gA.map Z,true⟩->t.Y tb=some ⟨((List.replicate n (fk 1 2)).map dQ).flatten,true⟩->
      tb≠P->tb≠oH->(∀b∈aW,b≠tb/\b<t.next)->
      (∀aj aT,(∀s∈HS,aj s=z s)->t.next<=aT.next->(∀b∈aW,aT.Y b=t.Y b)->aT.Y P=some ⟨[gE,bw,bJ,cc,eI,fp,hv,jx,lf,dG gA,hx (List.replicate R (fk 1 2)),dt,c8,dX,gl,gm,lg],true⟩->Q (.ba 6) aj aT)->fP al (.loop Gz) z t Q:=by
  intro r;induction r with
  | zero=>
    intro n tb z t ax n4 Hv rb w2 bX iI pg kE ea bY;have jz:n=R:=(by omega);subst jz;have Ma:=bm w2;have ct:=bm bX;have sY:=bm iI;refine sa (o:=oH) (p:=P) (j:=9) (J:=1) (bg:=gA.map λx=>[Z x]) (by rw[zm];exact bX) xo w2 (by simp) JA ?_;refine sa (o:=tb) (p:=P) (j:=10) (J:=3) (bg:=(List.replicate n (fk 1 2)).map dQ) (cells:=[gE,bw,bJ,cc,eI,fp,hv,jx,lf,dG gA,e6 tb n 3,dt,c8,dX,gl,gm,lg]) ?_ aeh ?_ (by simp) pg ?_
    · rw[b3 pg,b3 kE];exact iI
    · rw[eZ (by simpa using Ma)];simp
    refine eC (aB:=⟨[lK,we],[iM]⟩) λcK bk=> ?_;have c: ¬((n:Int)<if m<1 then 1 else m):=(by omega);simp(disch:=first|omega|simp only[aE];omega) [Gz,Ru,n4,rb,c,-O,-U,-N,-S,-List.map_map];refine bY _ _ (ayq (by simp) (by simp) (by simp) (by simp) (by simp) (by simp) (by simp) (by simp)) (by simp) (λb hb=> ?_) ?_
    · obtain⟨a7,bD⟩:=Wn b hb;obtain⟨b4,e0⟩:=ea b hb;rw[b3 a7,b3 b4,b3 a7,b3 bD]
    · rw[eZ (by simpa using Ma)];simp
  | succ r cn=>
    intro n tb z t ax n4 Hv rb w2 bX iI pg kE ea bY;refine eC (aB:=⟨[lK,we],[iM]⟩) λcK bk=> ?_;have Ma:=bm w2;have ct:=bm bX;have sY:=bm iI;have c:(n:Int)<if m<1 then 1 else m:=by omega
    have ayv:=ayw;have b7:=gT (n:=n) (by omega);have fy:=awD (n:=n);have aEB:(List.replicate n [Value.bool (fk 1 2).jE,bM (fk 1 2).a,bM (fk 1 2).b]).flatten.length=n*3:=(by simpa[dQ]using fy);have gD:(n+1)*56<=140737488355328/\n<=9223372036854775806:=(by omega);have aEK:P≠tb:= λe=>pg e.symm;have ajo:oH≠tb:= λe=>kE e.symm;simp(disch:=first|omega|simp only[aE];omega) [Gz,Ru,n4,Hv,rb,c,w2,iI,dQ,gD,b7,-O,-U,-N,-S,-List.map_map];refine bk _ _ (cn (n+1) (t.next+4) _ _ (by omega) (by simp[n4]) (by simp[Hv]) (by simp) ?_ ?_ ?_ (by omega) (by omega) (λb hb=> ?_) λaj aT M G ais aix=>bY aj aT (λs fb=>(M s fb).trans ?_) (by simp at G;omega) (λb hb=>(ais b hb).trans ?_) aix)
    · rw[eZ (by simp;omega)]
    · rw[b3 (by omega),b3 (by omega),b3 ajo,b3 (by omega),e9 ct];exact bX
    · rw[b3 (by omega),eZ (by simp),ky (by omega),List.replicate_succ'];simp[dQ]
    · have:=(ea b hb).2;exact⟨by omega,by simp;omega⟩
    · simp only[HS,g6,iG,or_false]at fb;rcases fb with rfl|rfl|rfl|rfl|rfl|rfl|rfl|rfl<;>simp
    · obtain⟨a7,bD⟩:=Wn b hb;obtain⟨b4,e0⟩:=ea b hb;rw[b3 a7,b3 (by omega),b3 b4,b3 (by omega),W.e9]
theorem aem{P oH:Nat}{aW:List Nat}{gE bw bJ cc eI fp hv jx lf dt c8 dX gl gm lg:Value}{gA:List Int}{m:Int}{R:Nat}(iy:(R:Int)=if m<1 then 1 else m)(JB:R<=100){z:aP}{t:W}{Q:dy->aP->W->Prop}(n4:z 16=Z m)(Hv:z 17=cD P)(rb:z 18=Z 0)
    (w2:t.Y P=some ⟨[gE,bw,bJ,cc,eI,fp,hv,jx,lf,e6 oH gA.length 1,.slice none 0 0,dt,c8,dX,gl,gm,lg],true⟩) (bX:t.Y oH=some ⟨gA.map Z,true⟩) (JA:oH≠P) (ea: ∀b∈aW,b≠P/\b≠oH/\b<t.next)
    (bY: ∀aj aT,(∀s∈HS,aj s=z s)->t.next<=aT.next->(∀b∈aW,aT.Y b=t.Y b)->aT.Y P=some ⟨[gE,bw,bJ,cc,eI,fp,hv,jx,lf,dG gA,hx (List.replicate R (fk 1 2)),dt,c8,dX,gl,gm,lg],true⟩->Q (.ba 6) aj aT):fP al (.loop Gz) z t Q:=by
  have Ma:=bm w2;have ct:=bm bX;refine Ny (o:=P) (j:=10) (J:=3) w2 rfl ?_;refine awM (P:=P) (oH:=oH) (aW:=aW) (gE:=gE) (bw:=bw) (bJ:=bJ) (cc:=cc) (eI:=eI) (fp:=fp) (hv:=hv) (jx:=jx) (lf:=lf) (dt:=dt) (c8:=c8) (dX:=dX) (gl:=gl) (gm:=gm) (lg:=lg) (gA:=gA) iy JB (λb hb=>⟨(ea b hb).1,(ea b hb).2.1⟩) JA R 0 t.next _ _ (by omega) n4 Hv (by simpa using rb) ?_ ?_ ?_ (by omega) (by omega) (λb hb=> ?_) λaj aT M G aa af=>bY aj aT M (by simp at G;omega) (λb hb=>(aa b hb).trans ?_) af
  · rw[eZ (by simp;omega)];rfl
  · rw[b3 JA,b3 (by omega),e9 ct];exact bX
  · rw[b3 (by omega),eZ (by simp)];simp
  · have:=(ea b hb).2.2;exact⟨by omega,by simp;omega⟩
  · obtain⟨a7,bD,b4⟩:=ea b hb;rw[b3 a7,b3 (by omega),e9 b4]
structure IB(x:ic)(n:Nat):Prop where
  eG:x.name=jN 112 n
  k:1<=x.k/\x.k<=2
  m:0<=x.m/\x.m<=2
  q:x.k<=x.q/\x.q<=x.k+x.m
  aB:x.aB.a=0/\x.aB.b=0/\x.aB.c=0/\0<=x.aB.d/\x.aB.d<=3/\0<=x.aB.e/\x.aB.e<=2
  gA:x.bc=[0,1]\/x.bc=[0]
  jt: ∃R:Nat,(R:Int)=(if x.m<1 then 1 else x.m)/\x.jt=List.replicate R (fk 1 2)
  oT:x.oT=fk 1 1000
  fj:x.fj=fk 30 1
theorem ad0{n R:Nat}{k m q eP nH:Int}{gA:List Int}(D:1<=k/\k<=2)(H:0<=m/\m<=2)(aq:k<=q/\q<=k+m)(aF:0<=eP/\eP<=3)(br:0<=nH/\nH<=2)(cR:gA=[0,1]\/gA=[0])(iy:(R:Int)=if m<1 then 1 else m):IB ⟨jN 112 n,k,m,q,⟨0,0,0,eP,nH⟩,gA,List.replicate R (fk 1 2),fk 1 1000,fk 30 1⟩ n:=
  ⟨rfl,D,H,aq,⟨rfl,rfl,rfl,aF.1,aF.2,br.1,br.2⟩,cR,⟨R,iy,rfl⟩,rfl,rfl⟩
def A1(ps:List ic)(dT:Nat):Prop:= ∀(i:Nat) (x:ic),ps[i]?=some x->IB x (dT-i)
theorem A1.add{ps:List ic}{dT:Nat}{x:ic}(h:A1 ps dT)(G:IB x (dT-ps.length)):A1 (ps++[x]) dT:= λi y ah=>by
  by_cases c:i<ps.length
  · rw[tv c]at ah;exact h i y ah
  · have aC:=(ek.1 ah).1;simp only[j7,oX,wE]at aC;have e:i=ps.length:=(by omega);subst e;rw[uP (ev _)]at ah;simp at ah;subst ah;exact G
structure af7(l:List Int)(i:Nat)(K:Int)(fu fv lB lC gL:Value)(ps:List ic)(op:Nat)(t:W):Prop where
  aO:t.Y 0=some ⟨[dG l,Z i],true⟩
  aQ:t.Y 1=some ⟨xV,true⟩
  fg:t.Y 6=some ⟨[Z K,fu,fv,lB,lC,e6 op ps.length 17,gL],true⟩
  qJ:t.Y op=some ⟨(ps.map eY).flatten,true⟩
  gY:op≠0
  ga:op≠1
  q0:op≠6
def IA(l:List Int)(i:Nat)(K:Int)(fu fv lB lC gL:Value)(ps:List ic)(t:W):Prop:= ∃op,af7 l i K fu fv lB lC gL ps op t
def AF:List Nat:=[0,1,4,5]
theorem ad2{l:List ic}:(l.map eY).flatten.length=l.length*17:=by rw[sw (J:=17) λr ay=>by obtain⟨x,_,rfl⟩:=hc.1 ay;rfl,j8]
theorem awk{l:List Int}(aC:l.length<=140737488355328){K:Int}{fu fv lB lC gL:Value}{dT:Nat}(np:dT<=100): ∀(r i:Nat) (ps:List ic),ps.length+r=dT->A1 ps dT->i+10*r+100<1000000->
    ∃ (Ap:List ic) (db:Nat),A1 Ap dT/\Ap.length=dT/\db<=i+10*r/\ ∀(z:aP) (t:W) (Q:dy->aP->W->Prop),z 0=cD 0->z 5=cD 6->z 14=Z r->IA l i K fu fv lB lC gL ps t->
      (∀aj aT,(∀s∈AF,aj s=z s)->IA l db K fu fv lB lC gL Ap aT->Q (.ba 4) aj aT)->fP al (.loop GA) z t Q:=by
  intro r;induction r with
  | zero=>intro i ps ax af ai;refine⟨ps,i,af,by omega,by omega,λz t Q c9 cu n3 jA bY=> ?_⟩;refine eC (aB:=⟨[lK,we],[iM]⟩) λcK bk=> ?_;simp(disch:=first|omega|simp only[aE];omega) [GA,n3,-O,-U,-N,-S,-List.map_map];exact bY _ _ (λs M=>by simp only[AF,g6,iG,or_false]at M;rcases M with rfl|rfl|rfl|rfl<;>simp) jA
  | succ r cn=>
    intro i ps ax af ai;have l7:=ks (l:=l) (i:=i) (n:=2) (by decide);have fC:=ks (l:=l) (i:=i+1) (n:=3) (by decide);obtain⟨k,aa⟩: ∃k,1+e5 l i 2=k:=⟨_,rfl⟩;obtain⟨m,aw⟩: ∃m,e5 l (i+1) 3=m:=⟨_,rfl⟩;rw[aw]at fC;have g3:=ks (l:=l) (i:=i+2) (n:=m+1) (by omega);obtain⟨MC,bf⟩: ∃q,e5 l (i+2) (m+1)=q:=⟨_,rfl⟩;rw[bf]at g3;obtain⟨q,ajw⟩: ∃q,k+MC=q:=⟨_,rfl⟩;have jF:=ks (l:=l) (i:=i+3) (n:=4) (by decide);obtain⟨eP,aq⟩: ∃m,e5 l (i+3) 4=m:=⟨_,rfl⟩;rw[aq]at jF;have m9:=ks (l:=l) (i:=i+4) (n:=3) (by decide);obtain⟨nH,aF⟩: ∃m,e5 l (i+4) 3=m:=⟨_,rfl⟩;rw[aF]at m9;obtain⟨R,iy⟩: ∃R:Nat,(R:Int)=if m<1 then 1 else m:=⟨(if m<1 then 1 else m).toNat,by split<;>omega⟩
    have JB:R<=2:=(by split at iy<;>omega);have cV:IntKind.i64.wrap (1+e5 l i 2)=k:=(by rw[fl (by omega) (by omega)];exact aa);have nh:IntKind.i64.wrap (m+1)=m+1:=fl (by omega) (by omega);have afB:IntKind.i64.wrap (k+MC)=q:=(by rw[fl (by omega) (by omega)];exact ajw);have gg:IntKind.i64.wrap (r:Int)=(r:Int):=fl (by omega) (by omega);have MD:(0:Int)<(r:Int)+1:=(by omega);have AJ:((i:Int)+1).toNat=i+1:=(by omega);have Nm:((i:Int)+1+1).toNat=i+2:=(by omega);have ae6:((i:Int)+1+1+1).toNat=i+3:=(by omega);have ae7:((i:Int)+1+1+1+1).toNat=i+4:=(by omega);have ae8:((i:Int)+1+1+1+1+1).toNat=i+5:=(by omega);have jK:lK.fn [.int .u8 112,.int .i64 ((r:Int)+1)]=some (.string (jN 112 (r+1))):=MM (n:=r+1) (C:=112) rfl ⟨by decide,by omega⟩;have aLC:lP 1 1000:=(by unfold lP;omega);have aLD:lP 30 1:=(by unfold lP;omega);by_cases Eb:e5 l (i+5) 5=0
    · skip
      obtain⟨Ap,db,c8,dX,gl,gm⟩:=cn (i+6) (ps++[⟨jN 112 (r+1),k,m,q,⟨0,0,0,eP,nH⟩,[0],List.replicate R (fk 1 2),fk 1 1000,fk 30 1⟩]) (by simp;omega) (af.add (by have:dT-ps.length=r+1:=(by omega);rw[this];exact ad0 ⟨by omega,by omega⟩ ⟨by omega,by omega⟩ ⟨by omega,by omega⟩ ⟨by omega,by omega⟩ ⟨by omega,by omega⟩ (.inr rfl) iy)) (by omega);refine⟨Ap,db,c8,dX,by omega,λz t Q c9 cu n3 jA bY=> ?_⟩;obtain⟨op,⟨aO,aQ,fg,qJ,gY,ga,q0⟩⟩:=jA;refine eC (aB:=⟨[lK,we],[iM]⟩) λcK bk=> ?_;have fq:=bm aO;have iE:=bm aQ;have uj:=bm fg;have avb:=bm qJ;simp(disch:=first|omega|simp only[aE];omega) [GA,Rn,Ro,Rp,Rq,Rr,Rs,Rt,c9,n3,MD,aO,k5,jK,dQ,cV,nh,afB,aw,bf,aq,aF,AJ,Nm,ae6,ae7,ae8,Eb,-O,-U,-N,-S,-List.map_map];refine aem (P:=t.next+14) (oH:=t.next+16) (aW:=[0,1,6,op]) (gE:=fH (jN 112 (r+1))) (bw:=Z k) (bJ:=Z m) (cc:=Z q) (eI:=Z 0) (fp:=Z 0) (hv:=Z 0) (jx:=Z eP) (lf:=Z nH) (dt:= .bool (fk 1 1000).jE) (c8:=bM (fk 1 1000).a) (dX:=bM (fk 1 1000).b) (gl:= .bool (fk 30 1).jE) (gm:=bM (fk 30 1).a) (lg:=bM (fk 30 1).b) (gA:=[0]) (m:=m) (R:=R) iy (by omega) (by simp) (by simp) (by simp) (by simp(disch:=first|omega|simp only[aE];omega) [-O,-U,-N,-S,-List.map_map]) (by simp(disch:=first|omega|simp only[aE];omega) [-O,-U,-N,-S,-List.map_map]) (by omega) (λb hb=> ?_) λaj aT M G ea vk=> ?_
      · simp only[g6,iG,or_false]at hb;simp only[l5,xU];omega
      have s5: ¬0=op:= λe=>gY e.symm;have CN: ¬1=op:= λe=>ga e.symm;have adG: ¬6=op:= λe=>q0 e.symm;have h1:aT.Y 0=some ⟨[dG l,Z (i+6:Nat)],true⟩:=(ea 0 (by simp)).trans (by simp(disch:=first|omega|simp only[aE];omega) [-O,-U,-N,-S,-List.map_map];omega);have aL:aT.Y 1=some ⟨xV,true⟩:=(ea 1 (by simp)).trans (by simp(disch:=first|omega|simp only[aE];omega) [aQ,-O,-U,-N,-S,-List.map_map]);have kg:aT.Y 6=some ⟨[Z K,fu,fv,lB,lC,e6 op ps.length 17,gL],true⟩:=(ea 6 (by simp)).trans (by simp(disch:=first|omega|simp only[aE];omega) [fg,-O,-U,-N,-S,-List.map_map]);have Ef:aT.Y op=some ⟨(ps.map eY).flatten,true⟩:=(ea op (by simp)).trans (by simp(disch:=first|omega|simp only[aE];omega) [qJ,-O,-U,-N,-S,-List.map_map]);have mH:aj 0=cD 0:=(M 0 (by decide)).trans (by simp[c9]);have tq:aj 1=z 1:=(M 1 (by decide)).trans (by simp);have tr:aj 4=z 4:=(M 4 (by decide)).trans (by simp);have n9:aj 5=cD 6:=(M 5 (by decide)).trans (by simp[cu]);have Uq:aj 14=Z ((r:Int)+1):=(M 14 (by decide)).trans (by simp[n3]);have Ii:aj 17=cD (t.next+14):=(M 17 (by decide)).trans (by simp);clear M ea G;obtain⟨P,O1⟩: ∃P,P=t.next+14:=⟨_,rfl⟩
      have oI:P≠0/\P≠1/\P≠6/\P≠op:=(by omega);rw[<-O1]at vk Ii;obtain⟨oI,fS,Hk,pp⟩:=oI;have rZ:=bm h1;have z8:=bm kg;have mp:=bm Ef;have avi:=bm vk;have fy:=ad2 (l:=ps);have gD:(ps.length+1)*240<=140737488355328/\ps.length<=9223372036854775806:=(by omega);simp(disch:=first|omega|simp only[aE];omega) [n9,Uq,Ii,kg,Ef,vk,fy,gD,gg,-O,-U,-N,-S,-List.map_map];refine bk _ _ (gm _ _ _ (by simp[mH]) (by simp[n9]) (by simp) ⟨aT.next+4,?_,?_,?_,?_,by omega,by omega,by omega⟩ λuU r6 zg EP=>bY uU r6 (λs fb=>(zg s fb).trans ?_) EP)
      · simp(disch:=first|omega|simp only[aE];omega) [h1,-O,-U,-N,-S,-List.map_map]
      · simp(disch:=first|omega|simp only[aE];omega) [aL,-O,-U,-N,-S,-List.map_map]
      · simp(disch:=first|omega|simp only[aE];omega) [-O,-U,-N,-S,-List.map_map]
      · simp(disch:=first|omega|simp only[aE];omega) [-O,-U,-N,-S,-List.map_map];rw[ky (by omega)];simp[eY]
      · simp only[AF,g6,iG,or_false]at fb;rcases fb with rfl|rfl|rfl|rfl<;>simp[mH,tq,tr,n9,c9,cu]
    · skip
      obtain⟨Ap,db,c8,dX,gl,gm⟩:=cn (i+6) (ps++[⟨jN 112 (r+1),k,m,q,⟨0,0,0,eP,nH⟩,[0,1],List.replicate R (fk 1 2),fk 1 1000,fk 30 1⟩]) (by simp;omega) (af.add (by have:dT-ps.length=r+1:=(by omega);rw[this];exact ad0 ⟨by omega,by omega⟩ ⟨by omega,by omega⟩ ⟨by omega,by omega⟩ ⟨by omega,by omega⟩ ⟨by omega,by omega⟩ (.inl rfl) iy)) (by omega);refine⟨Ap,db,c8,dX,by omega,λz t Q c9 cu n3 jA bY=> ?_⟩;obtain⟨op,⟨aO,aQ,fg,qJ,gY,ga,q0⟩⟩:=jA;refine eC (aB:=⟨[lK,we],[iM]⟩) λcK bk=> ?_;have fq:=bm aO;have iE:=bm aQ;have uj:=bm fg;have avb:=bm qJ;simp(disch:=first|omega|simp only[aE];omega) [GA,Rn,Ro,Rp,Rq,Rr,Rs,Rt,c9,n3,MD,aO,k5,jK,dQ,cV,nh,afB,aw,bf,aq,aF,AJ,Nm,ae6,ae7,ae8,Eb,-O,-U,-N,-S,-List.map_map];refine aem (P:=t.next+14) (oH:=t.next+10) (aW:=[0,1,6,op]) (gE:=fH (jN 112 (r+1))) (bw:=Z k) (bJ:=Z m) (cc:=Z q) (eI:=Z 0) (fp:=Z 0) (hv:=Z 0) (jx:=Z eP) (lf:=Z nH) (dt:= .bool (fk 1 1000).jE) (c8:=bM (fk 1 1000).a) (dX:=bM (fk 1 1000).b) (gl:= .bool (fk 30 1).jE) (gm:=bM (fk 30 1).a) (lg:=bM (fk 30 1).b) (gA:=[0,1]) (m:=m) (R:=R) iy (by omega) (by simp) (by simp) (by simp) (by simp(disch:=first|omega|simp only[aE];omega) [-O,-U,-N,-S,-List.map_map]) (by simp(disch:=first|omega|simp only[aE];omega) [-O,-U,-N,-S,-List.map_map]) (by omega) (λb hb=> ?_) λaj aT M G ea vk=> ?_
      · simp only[g6,iG,or_false]at hb;simp only[l5,xU];omega
      have s5: ¬0=op:= λe=>gY e.symm;have CN: ¬1=op:= λe=>ga e.symm;have adG: ¬6=op:= λe=>q0 e.symm;have h1:aT.Y 0=some ⟨[dG l,Z (i+6:Nat)],true⟩:=(ea 0 (by simp)).trans (by simp(disch:=first|omega|simp only[aE];omega) [-O,-U,-N,-S,-List.map_map];omega);have aL:aT.Y 1=some ⟨xV,true⟩:=(ea 1 (by simp)).trans (by simp(disch:=first|omega|simp only[aE];omega) [aQ,-O,-U,-N,-S,-List.map_map]);have kg:aT.Y 6=some ⟨[Z K,fu,fv,lB,lC,e6 op ps.length 17,gL],true⟩:=(ea 6 (by simp)).trans (by simp(disch:=first|omega|simp only[aE];omega) [fg,-O,-U,-N,-S,-List.map_map]);have Ef:aT.Y op=some ⟨(ps.map eY).flatten,true⟩:=(ea op (by simp)).trans (by simp(disch:=first|omega|simp only[aE];omega) [qJ,-O,-U,-N,-S,-List.map_map]);have mH:aj 0=cD 0:=(M 0 (by decide)).trans (by simp[c9]);have tq:aj 1=z 1:=(M 1 (by decide)).trans (by simp);have tr:aj 4=z 4:=(M 4 (by decide)).trans (by simp);have n9:aj 5=cD 6:=(M 5 (by decide)).trans (by simp[cu]);have Uq:aj 14=Z ((r:Int)+1):=(M 14 (by decide)).trans (by simp[n3]);have Ii:aj 17=cD (t.next+14):=(M 17 (by decide)).trans (by simp);clear M ea G;obtain⟨P,O1⟩: ∃P,P=t.next+14:=⟨_,rfl⟩
      have oI:P≠0/\P≠1/\P≠6/\P≠op:=(by omega);rw[<-O1]at vk Ii;obtain⟨oI,fS,Hk,pp⟩:=oI;have rZ:=bm h1;have z8:=bm kg;have mp:=bm Ef;have avi:=bm vk;have fy:=ad2 (l:=ps);have gD:(ps.length+1)*240<=140737488355328/\ps.length<=9223372036854775806:=(by omega);simp(disch:=first|omega|simp only[aE];omega) [n9,Uq,Ii,kg,Ef,vk,fy,gD,gg,-O,-U,-N,-S,-List.map_map];refine bk _ _ (gm _ _ _ (by simp[mH]) (by simp[n9]) (by simp) ⟨aT.next+4,?_,?_,?_,?_,by omega,by omega,by omega⟩ λuU r6 zg EP=>bY uU r6 (λs fb=>(zg s fb).trans ?_) EP)
      · simp(disch:=first|omega|simp only[aE];omega) [h1,-O,-U,-N,-S,-List.map_map]
      · simp(disch:=first|omega|simp only[aE];omega) [aL,-O,-U,-N,-S,-List.map_map]
      · simp(disch:=first|omega|simp only[aE];omega) [-O,-U,-N,-S,-List.map_map]
      · simp(disch:=first|omega|simp only[aE];omega) [-O,-U,-N,-S,-List.map_map];rw[ky (by omega)];simp[eY]
      · simp only[AF,g6,iG,or_false]at fb;rcases fb with rfl|rfl|rfl|rfl<;>simp[mH,tq,tr,n9,c9,cu]
def A3(ck:List pK)(dT u0:Nat):Prop:= ∀(i:Nat) (x:pK),ck[i]?=some x->x.name=jN 118 (dT-i)/\0<=x.pv/\x.pv<u0
theorem A3.add{ck:List pK}{dT u0:Nat}{x:pK}(h:A3 ck dT u0)(G:x.name=jN 118 (dT-ck.length)/\0<=x.pv/\x.pv<u0):A3 (ck++[x]) dT u0:= λi y ah=>by
  by_cases c:i<ck.length
  · rw[tv c]at ah;exact h i y ah
  · have aC:=(ek.1 ah).1;simp only[j7,oX,wE]at aC;have e:i=ck.length:=(by omega);subst e;rw[uP (ev _)]at ah;simp at ah;subst ah;exact G
structure agf(l:List Int)(i:Nat)(K:Int)(fu fv lB lC hT:Value)(ck:List pK)(qd:Nat)(t:W):Prop where
  aO:t.Y 0=some ⟨[dG l,Z i],true⟩
  aQ:t.Y 1=some ⟨xV,true⟩
  fg:t.Y 6=some ⟨[Z K,fu,fv,lB,lC,hT,e6 qd ck.length 2],true⟩
  yU:t.Y qd=some ⟨(ck.map g0).flatten,true⟩
  gY:qd≠0
  ga:qd≠1
  q0:qd≠6
def NT(l:List Int)(i:Nat)(K:Int)(fu fv lB lC hT:Value)(ck:List pK)(t:W):Prop:= ∃qd,agf l i K fu fv lB lC hT ck qd t
theorem azd{l:List pK}:(l.map g0).flatten.length=l.length*2:=by rw[sw (J:=2) λr ay=>by obtain⟨x,_,rfl⟩:=hc.1 ay;rfl,j8]
theorem azb{l:List Int}(aC:l.length<=140737488355328){K:Int}{fu fv lB lC:Value}{ps:List ic}(aEL:1<=ps.length/\ps.length<=1000){dT:Nat}(np:dT<=1000): ∀(r i:Nat) (ck:List pK),ck.length+r=dT->A3 ck dT ps.length->i+r+100<1000000->
    ∃ (yn:List pK) (db:Nat),A3 yn dT ps.length/\yn.length=dT/\db<=i+r/\ ∀(z:aP) (t:W) (Q:dy->aP->W->Prop),z 0=cD 0->z 5=cD 6->z 19=Z r->NT l i K fu fv lB lC (au (ps.map eY) 17) ck t->
      (∀aj aT,(∀s∈AF,aj s=z s)->NT l db K fu fv lB lC (au (ps.map eY) 17) yn aT->Q (.ba 8) aj aT)->fP al (.loop Lk) z t Q:=by
  intro r;induction r with
  | zero=>intro i ck ax af ai;refine⟨ck,i,af,by omega,by omega,λz t Q c9 cu uD jA bY=> ?_⟩;refine eC (aB:=⟨[lK],[iM]⟩) λcK bk=> ?_;simp(disch:=first|omega|simp only[aE];omega) [Lk,Rv,uD,-O,-U,-N,-S,-List.map_map];exact bY _ _ (λs M=>by simp only[AF,g6,iG,or_false]at M;rcases M with rfl|rfl|rfl|rfl<;>simp) jA
  | succ r cn=>
    intro i ck ax af ai;have l7:=ks (l:=l) (i:=i) (n:=(ps.length:Int)) (by omega);obtain⟨y,ah⟩: ∃y,e5 l i (ps.length:Int)=y:=⟨_,rfl⟩;rw[ah]at l7;have gg:IntKind.i64.wrap (r:Int)=(r:Int):=fl (by omega) (by omega);have MD:(0:Int)<(r:Int)+1:=(by omega);have jK:lK.fn [.int .u8 118,.int .i64 ((r:Int)+1)]=some (.string (jN 118 (r+1))):=MM (n:=r+1) (C:=118) rfl ⟨by decide,by omega⟩;obtain⟨yn,db,c8,dX,gl,gm⟩:=cn (i+1) (ck++[⟨jN 118 (r+1),y⟩]) (by simp;omega) (af.add (by have:dT-ck.length=r+1:=(by omega);rw[this];exact⟨rfl,l7⟩)) (by omega);refine⟨yn,db,c8,dX,by omega,λz t Q c9 cu uD jA bY=> ?_⟩;obtain⟨qd,⟨aO,aQ,fg,yU,gY,ga,q0⟩⟩:=jA;refine eC (aB:=⟨[lK],[iM]⟩) λcK bk=> ?_;have fq:=bm aO;have iE:=bm aQ;have uj:=bm fg;have gq:=bm yU;have s5: ¬0=qd:= λe=>gY e.symm;have CN: ¬1=qd:= λe=>ga e.symm;have adG: ¬6=qd:= λe=>q0 e.symm;have fy:=azd (l:=ck);have gD:(ck.length+1)*24<=140737488355328/\ck.length<=9223372036854775806:=(by omega);simp(disch:=first|omega|simp only[aE];omega) [Lk,Rv,c9,cu,uD,MD,aO,fg,yU,k5,jK,ah,fy,gD,gg,Vw,ac0,-O,-U,-N,-S,-List.map_map];refine bk _ _ (gm _ _ _ (by simp[c9]) (by simp[cu]) (by simp) ⟨t.next+11,?_,?_,?_,?_,by omega,by omega,by omega⟩ λuU r6 zg EP=>bY uU r6 (λs fb=>(zg s fb).trans ?_) EP)
    · simp(disch:=first|omega|simp only[aE];omega) [-O,-U,-N,-S,-List.map_map]
    · simp(disch:=first|omega|simp only[aE];omega) [aQ,-O,-U,-N,-S,-List.map_map]
    · simp(disch:=first|omega|simp only[aE];omega) [-O,-U,-N,-S,-List.map_map]
    · simp(disch:=first|omega|simp only[aE];omega) [-O,-U,-N,-S,-List.map_map];rw[ky (by omega)];simp[g0]
    · simp only[AF,g6,iG,or_false]at fb;rcases fb with rfl|rfl|rfl|rfl<;>simp
theorem aht{l:List gj}: ∀r∈l.map dU,r.length=7/\ ∀v∈r,gP v=true:= λr ay=>by obtain⟨x,_,rfl⟩:=hc.1 ay;exact⟨rfl,λv ab=>by simp[dU]at ab;rcases ab with rfl|rfl|rfl|rfl|rfl|rfl|rfl<;>rfl⟩
theorem ahz{l:List md}: ∀r∈l.map gn,r.length=3/\ ∀v∈r,gP v=true:= λr ay=>by obtain⟨x,_,rfl⟩:=hc.1 ay;exact⟨rfl,λv ab=>by simp[gn]at ab;rcases ab with rfl|rfl|rfl<;>rfl⟩
theorem awm{l:List ic}: ∀r∈l.map eY,r.length=17/\ ∀v∈r,gP v=true:= λr ay=>by obtain⟨x,_,rfl⟩:=hc.1 ay;exact⟨rfl,λv ab=>by simp[eY]at ab;rcases ab with rfl|rfl|rfl|rfl|rfl|rfl|rfl|rfl|rfl|rfl|rfl|rfl|rfl|rfl|rfl|rfl|rfl<;>rfl⟩
theorem afp{l:List pK}: ∀r∈l.map g0,r.length=2/\ ∀v∈r,gP v=true:= λr ay=>by obtain⟨x,_,rfl⟩:=hc.1 ay;exact⟨rfl,λv ab=>by simp[g0]at ab;rcases ab with rfl|rfl<;>rfl⟩
theorem avB{l:List AY}: ∀r∈l.map gK,r.length=4/\ ∀v∈r,gP v=true:= λr ay=>by obtain⟨x,_,rfl⟩:=hc.1 ay;exact⟨rfl,λv ab=>by simp[gK]at ab;rcases ab with rfl|rfl|rfl|rfl<;>rfl⟩
theorem auT{l:List hS}: ∀r∈l.map gF,r.length=4/\ ∀v∈r,gP v=true:= λr ay=>by obtain⟨x,_,rfl⟩:=hc.1 ay;exact⟨rfl,λv ab=>by simp[gF]at ab;rcases ab with rfl|rfl|rfl|rfl<;>rfl⟩
def Ay:ByteArray:=⟨#[100,105,115,107]⟩
def HF:ByteArray:=⟨#[98,105,103]⟩
def HJ:ByteArray:=⟨#[111,108,100]⟩
def sX(J:Int):hS:=⟨Ay,[fk 1 1],[[fk 0 1]],[fk 1 J]⟩
def s7:Value:= .slice none 0 0
structure aga(l:List Int)(i:Nat)(K J a b c d:Int)(t:W):Prop where
  aO:t.Y 0=some ⟨[dG l,Z i],true⟩
  aQ:t.Y 1=some ⟨xV,true⟩
  fg:t.Y 6=some ⟨[Z K,e6 19 1 4,e6 36 2 4,e6 41 1 7,.slice none 0 0,.slice none 0 0,.slice none 0 0],true⟩
  Bn:t.Y 9=some ⟨dQ (fk 1 1),true⟩
  V6:t.Y 11=some ⟨dQ (fk 0 1),true⟩
  V7:t.Y 12=some ⟨[e6 11 1 3],true⟩
  V8:t.Y 17=some ⟨dQ (fk 1 J),true⟩
  V9:t.Y 19=some ⟨[fH Ay,e6 9 1 3,e6 12 1 1,e6 17 1 3],true⟩
  Wc:t.Y 36=some ⟨[fH HF,Z a,Z b,Z 0,fH HJ,Z c,Z d,Z 0],true⟩
  Wd:t.Y 41=some ⟨dU ⟨⟨#[]⟩,0,-1,0,fk 0 1⟩,true⟩
def s4(a b c d:Int):List AY:=[⟨HF,a,b,0⟩,⟨HJ,c,d,0⟩]
theorem SB{x:bT}: ∀r∈[dQ x],r.length=3/\ ∀v∈r,gP v=true:= λr ay=>by simp at ay;subst ay;exact⟨rfl,λv ab=>by simp[dQ]at ab;rcases ab with rfl|rfl|rfl<;>rfl⟩
theorem ayS{l:List Int}{i:Nat}{K J a b c d:Int}{wS:I}{z:aP}{t:W}{Q:dy->aP->W->Prop}(h:aga l i K J a b c d t)(ax:t.next=44)
    (bY: ∀aT,ka l i K (au ([sX J].map gF) 4) (au ((s4 a b c d).map gK) 4) s7 s7 [⟨⟨#[]⟩,0,-1,0,fk 0 1⟩] [] aT->fP al wS z aT Q):fP al wS z t Q:=by
  obtain⟨aO,aQ,fg,Bn,V6,V7,V8,V9,Wc,Wd⟩:=h;refine sa (o:=11) (p:=12) (j:=0) (J:=3) (bg:=[dQ (fk 0 1)]) (by rw[V6];simp) SB V7 rfl (by decide) ?_;refine sa (o:=9) (p:=19) (j:=1) (J:=3) (bg:=[dQ (fk 1 1)]) (cells:=[fH Ay,e6 9 1 3,e6 12 1 1,e6 17 1 3]) ?_ SB ?_ rfl (by decide) ?_
  · rw[b3 (by decide),b3 (by decide),Bn];simp
  · rw[b3 (by decide),b3 (by decide),V9]
  refine sa (o:=12) (p:=19) (j:=2) (J:=1) (bg:=[[hx [fk 0 1]]]) (cells:=[fH Ay,hx [fk 1 1],e6 12 1 1,e6 17 1 3]) ?_ ?_ ?_ rfl (by decide) ?_
  · rw[b3 (by decide),b3 (by decide),eZ (by simp[ax])];simp
  · intro r ay;simp at ay;subst ay;exact⟨rfl,λv ab=>by simp at ab;subst ab;rfl⟩
  · rw[eZ (by simp[ax])];simp
  refine sa (o:=17) (p:=19) (j:=3) (J:=3) (bg:=[dQ (fk 1 J)]) (cells:=[fH Ay,hx [fk 1 1],au [[hx [fk 0 1]]] 1,e6 17 1 3]) ?_ SB ?_ rfl (by decide) ?_
  · repeat rw[b3 (by decide)]
    rw[V8];simp
  · rw[eZ (by simp[ax])];simp
  refine sa (o:=19) (p:=6) (j:=1) (J:=4) (bg:=[sX J].map gF) (cells:=[Z K,e6 19 1 4,e6 36 2 4,e6 41 1 7,.slice none 0 0,.slice none 0 0,.slice none 0 0]) ?_ auT ?_ rfl (by decide) ?_
  · rw[eZ (by simp[ax])];simp[gF,sX]
  · repeat rw[b3 (by decide)]
    rw[fg]
  refine sa (o:=36) (p:=6) (j:=2) (J:=4) (bg:=(s4 a b c d).map gK) (cells:=[Z K,au ([sX J].map gF) 4,e6 36 2 4,e6 41 1 7,.slice none 0 0,.slice none 0 0,.slice none 0 0]) ?_ avB ?_ rfl (by decide) ?_
  · repeat rw[b3 (by decide)]
    rw[Wc];simp[gK,s4]
  · rw[eZ (by simp[ax])];simp
  refine Ny (o:=6) (j:=4) (J:=3) (cs:=[Z K,au ([sX J].map gF) 4,au ((s4 a b c d).map gK) 4,e6 41 1 7,.slice none 0 0,.slice none 0 0,.slice none 0 0]) ?_ rfl ?_
  · rw[eZ (by simp[ax])];simp
  refine bY _ ⟨41,44,⟨?_,?_,?_,?_,?_,by decide,by decide,by decide⟩⟩
  · simp only[l5,ax];repeat rw[b3 (by decide)]
    rw[e9 (by simp[ax])];repeat rw[b3 (by decide)]
    exact aO
  · simp only[l5,ax];repeat rw[b3 (by decide)]
    rw[e9 (by simp[ax])];repeat rw[b3 (by decide)]
    exact aQ
  · simp only[l5,ax];rw[eZ (by simp[ax])];simp[s7]
  · simp only[l5,ax];repeat rw[b3 (by decide)]
    rw[e9 (by simp[ax])];repeat rw[b3 (by decide)]
    rw[Wd];simp
  · simp only[l5,ax];rw[b3 (by decide),eZ (by simp[ax])];simp
theorem awl{l:List Int}{i:Nat}{K:Int}{fu fv gL:Value}{ds:List gj}{cm:List md}{wS:I}{z:aP}{t:W}{Q:dy->aP->W->Prop}(h:ka l i K fu fv s7 gL ds cm t)
    (bY: ∀aT,IA l i K fu fv (au (ds.map dU) 7) (au (cm.map gn) 3) gL [] aT->fP al wS z aT Q):fP al wS z t Q:=by
  obtain⟨h6,or,⟨aO,aQ,fg,rF,iI,ga,hH,s6⟩⟩:=h;obtain⟨Mo,Sd,Se⟩:=ga;obtain⟨Sf,adF,Mp⟩:=hH;have fq:=bm aO;have iE:=bm aQ;have uj:=bm fg;refine sa (o:=h6) (p:=6) (j:=3) (J:=7) (bg:=ds.map dU) rF aht fg (by simp) Se ?_;refine sa (o:=or) (p:=6) (j:=4) (J:=3) (bg:=cm.map gn) (cells:=[Z K,fu,fv,au (ds.map dU) 7,e6 or cm.length 3,s7,gL]) ?_ ahz ?_ (by simp) Mp ?_
  · rw[b3 Mp,b3 (λe=>s6 e.symm)];exact iI
  · rw[eZ (by simpa using uj)];simp
  refine Ny (o:=6) (j:=5) (J:=17) (cs:=[Z K,fu,fv,au (ds.map dU) 7,au (cm.map gn) 3,s7,gL]) ?_ rfl ?_
  · rw[eZ (by simpa using uj)];simp
  refine bY _ ⟨t.next,⟨?_,?_,?_,?_,by omega,by omega,by omega⟩⟩
  · simp only[l5];rw[b3 (by decide),b3 (by omega),e9 (by simp;omega),b3 (by decide),b3 (λe=>Sf e.symm),b3 (by decide),b3 (λe=>Mo e.symm)];exact aO
  · simp only[l5];rw[b3 (by decide),b3 (by omega),e9 (by simp;omega),b3 (by decide),b3 (λe=>adF e.symm),b3 (by decide),b3 (λe=>Sd e.symm)];exact aQ
  · simp only[l5];rw[eZ (by simp;omega)];simp
  · simp only[l5];rw[b3 (by omega),eZ (by simp)];simp
theorem azc{l:List Int}{i:Nat}{K:Int}{fu fv lB lC:Value}{ps:List ic}{wS:I}{z:aP}{t:W}{Q:dy->aP->W->Prop}(h:IA l i K fu fv lB lC s7 ps t)
    (bY: ∀aT,NT l i K fu fv lB lC (au (ps.map eY) 17) [] aT->fP al wS z aT Q):fP al wS z t Q:=by
  obtain⟨op,⟨aO,aQ,fg,qJ,gY,ga,q0⟩⟩:=h;have fq:=bm aO;have iE:=bm aQ;have uj:=bm fg;refine sa (o:=op) (p:=6) (j:=5) (J:=17) (bg:=ps.map eY) qJ awm fg (by simp) q0 ?_;refine Ny (o:=6) (j:=6) (J:=2) (cs:=[Z K,fu,fv,lB,lC,au (ps.map eY) 17,s7]) ?_ rfl ?_
  · rw[eZ (by simpa using uj)];simp
  refine bY _ ⟨t.next,⟨?_,?_,?_,?_,by omega,by omega,by omega⟩⟩
  · simp only[l5];rw[b3 (by decide),b3 (by omega),e9 (by simp;omega),b3 (by decide),b3 (λe=>gY e.symm)];exact aO
  · simp only[l5];rw[b3 (by decide),b3 (by omega),e9 (by simp;omega),b3 (by decide),b3 (λe=>ga e.symm)];exact aQ
  · simp only[l5];rw[eZ (by simp;omega)];simp
  · simp only[l5];rw[b3 (by omega),eZ (by simp)];simp
structure Iw(u:bl)(kb:Int):Prop where
  ext:1<=u.ext/\u.ext<=2
  cB: ∃J,100<=J/\J<200/\u.cB=[sX J]
  Mn: ∃a b c d,(3<=a/\a<=4)/\(8<=b/\b<=16)/\(1<=c/\c<=3)/\(4<=d/\d<=12)/\u.bc=s4 a b c d
  a0:pJ u.a0
  kr:u.a0.length<=21
  a2:o3 u.a0 u.a2
  mz:1<=u.a2.length/\u.a2.length<=9
  vS:1<=u.cx.length/\u.cx.length<=2
  cx:A1 u.cx u.cx.length
  r0:1<=u.cb.length/\(u.cb.length:Int)<=if kb<1 then 1 else kb
  cb:A3 u.cb u.cb.length u.cx.length
def my(l:List Int)(i:Nat):W:=(ir.du 1).a4 0 (some ⟨[dG l,Z i],true⟩)
theorem ahZ{l:List Int}(aC:l.length<=140737488355328){i:Nat}(ai:i<500000){kb:Int}(Bp:kb<=100): ∃u db,Iw u kb/\db<=i+200/\fQ al 60 [cD 0,Z kb] (my l i) λv aT=>DI.dZ 9 aT v=some (.agg (aS u).toArray)/\aT.Y 0=some ⟨[dG l,Z db],true⟩/\0∉DI.ei 9 aT v:=by
  have l7:=ks (l:=l) (i:=i) (n:=2) (by decide);have fC:=ks (l:=l) (i:=i+1) (n:=100) (by decide);have g3:=ks (l:=l) (i:=i+2) (n:=2) (by decide);have jF:=ks (l:=l) (i:=i+3) (n:=9) (by decide);have m9:=ks (l:=l) (i:=i+4) (n:=3) (by decide);have v3:=ks (l:=l) (i:=i+5) (n:=9) (by decide);have aHO:=ks (l:=l) (i:=i+6) (n:=3) (by decide);obtain⟨K,bR⟩: ∃x,1+e5 l i 2=x:=⟨_,rfl⟩;obtain⟨J,bL⟩: ∃x,100+e5 l (i+1) 100=x:=⟨_,rfl⟩;obtain⟨a,az⟩: ∃x,3+e5 l (i+2) 2=x:=⟨_,rfl⟩;obtain⟨b,hb⟩: ∃x,8+e5 l (i+3) 9=x:=⟨_,rfl⟩;obtain⟨c,ar⟩: ∃x,1+e5 l (i+4) 3=x:=⟨_,rfl⟩;obtain⟨d,aA⟩: ∃x,4+e5 l (i+5) 9=x:=⟨_,rfl⟩;obtain⟨ae,rH⟩:=kS (show 0<=3+e5 l (i+6) 3 by omega);have azi:IntKind.i64.wrap (1+e5 l i 2)=K:=by rw[fl (by omega) (by omega)];exact bR
  have azw:IntKind.i64.wrap (100+e5 l (i+1) 100)=J:=by rw[fl (by omega) (by omega)];exact bL
  have azm:IntKind.i64.wrap (3+e5 l (i+2) 2)=a:=by rw[fl (by omega) (by omega)];exact az
  have afr:IntKind.i64.wrap (8+e5 l (i+3) 9)=b:=by rw[fl (by omega) (by omega)];exact hb
  have TY:IntKind.i64.wrap (1+e5 l (i+4) 3)=c:=by rw[fl (by omega) (by omega)];exact ar
  have wx:IntKind.i64.wrap (4+e5 l (i+5) 9)=d:=by rw[fl (by omega) (by omega)];exact aA
  have azj:IntKind.i64.wrap (3+e5 l (i+6) 3)=(ae:Int):=by rw[fl (by omega) (by omega)];exact rH
  have n1:pJ [⟨⟨#[]⟩,0,-1,0,fk 0 1⟩]:=⟨rfl,λk x aa G=>by have:=(ek.1 G).1;simp at this;omega⟩;obtain⟨ds,cm,km,bd,dE,mx,CK,G5,z8⟩:=avk (l:=l) aC (K:=K) (fu:=au ([sX J].map gF) 4) (fv:=au ((s4 a b c d).map gK) 4) (hT:=s7) (gL:=s7) (ae:=ae) (by omega) ae 0 (i+7) [⟨⟨#[]⟩,0,-1,0,fk 0 1⟩] [] 0 0 (by omega) n1 (λk x G=>by simp at G) (by simp) (by simp) (by omega) (.inl rfl);have aHP:=ks (l:=l) (i:=km) (n:=2) (by decide);obtain⟨u0,aiv⟩:=kS (show 0<=1+e5 l km 2 by omega);have azk:IntKind.i64.wrap (1+e5 l km 2)=(u0:Int):=by rw[fl (by omega) (by omega)];exact aiv
  obtain⟨ps,ln,fS,gV,h0,iR⟩:=awk (l:=l) aC (K:=K) (fu:=au ([sX J].map gF) 4) (fv:=au ((s4 a b c d).map gK) 4) (lB:=au (ds.map dU) 7) (lC:=au (cm.map gn) 3) (gL:=s7) (dT:=u0) (by omega) u0 (km+1) [] (by simp) (λk x G=>by simp at G) (by omega);have aHQ:0<=e5 l ln kb/\e5 l ln kb<if kb<1 then 1 else kb:=by
    by_cases N5:kb<1
    · rw[if_pos N5];have:e5 l ln kb=0:=Sb N5;omega
    · rw[if_neg N5];exact ks (by omega)
  have aHR:(if kb<1 then 1 else kb)<=100:=by split<;>omega
  obtain⟨NQ,aiw⟩:=kS (show 0<=1+e5 l ln kb by omega);have azl:IntKind.i64.wrap (1+e5 l ln kb)=(NQ:Int):=by rw[fl (by omega) (by omega)];exact aiw
  obtain⟨ck,PO,AO,uN,wu,wv⟩:=azb (l:=l) aC (K:=K) (fu:=au ([sX J].map gF) 4) (fv:=au ((s4 a b c d).map gK) 4) (lB:=au (ds.map dU) 7) (lC:=au (cm.map gn) 3) (ps:=ps) (by omega) (dT:=NQ) (by omega) NQ (ln+1) [] (by simp) (λk x G=>by simp at G) (by omega);have Jy:1<=K/\K<=2:=by omega
  refine⟨⟨K,[sX J],s4 a b c d,ds,cm,ps,ck⟩,PO,⟨Jy,⟨J,by omega,by omega,rfl⟩,⟨a,b,c,d,by omega,by omega,by omega,by omega,rfl⟩,bd,by simp only;omega,dE,⟨mx.2 (by omega),mx.1⟩,by simp only;omega,by simp only[gV];exact fS,by simp only;omega,by simp only[uN];exact AO⟩,by omega,?_⟩;refine dL (aB:=⟨[lK,we],[iM]⟩) ar9 (by kernel_rfl) (by simp[Rl]) ?_;have aLB:lP 1 1:=by unfold lP;omega
  have aLA:=aeS;have aLE:lP 1 J:=by unfold lP;omega
  have iB:((i:Int)+1+1).toNat=i+2:=by omega
  have Nh:((i:Int)+1+1+1).toNat=i+3:=by omega
  have ae2:((i:Int)+1+1+1+1).toNat=i+4:=by omega
  have ae3:((i:Int)+1+1+1+1+1).toNat=i+5:=by omega
  have wm:((i:Int)+1+1+1+1+1+1).toNat=i+6:=by omega
  simp(disch:=first|omega|simp only[aE];omega) [Rl,ab3,ab4,ab7,aca,acb,acd,ace,acf,my,k5,iB,Nh,ae2,ae3,wm,azi,azw,azm,afr,TY,wx,azj,dQ,-O,-U,-N,-S,-List.map_map];refine ayS (l:=l) (i:=i+7) (K:=K) (J:=J) (a:=a) (b:=b) (c:=c) (d:=d) ⟨by simp(disch:=first|omega|simp only[aE];omega) [-O,-U,-N,-S,-List.map_map];omega,by simp(disch:=first|omega|simp only[aE];omega) [xV,-O,-U,-N,-S,-List.map_map],by simp(disch:=first|omega|simp only[aE];omega) [-O,-U,-N,-S,-List.map_map],by simp(disch:=first|omega|simp only[aE];omega) [dQ,-O,-U,-N,-S,-List.map_map],by simp(disch:=first|omega|simp only[aE];omega) [dQ,-O,-U,-N,-S,-List.map_map],by simp(disch:=first|omega|simp only[aE];omega) [-O,-U,-N,-S,-List.map_map],by simp(disch:=first|omega|simp only[aE];omega) [dQ,-O,-U,-N,-S,-List.map_map],by simp(disch:=first|omega|simp only[aE];omega) [Ay,-O,-U,-N,-S,-List.map_map],by simp(disch:=first|omega|simp only[aE];omega) [HF,HJ,-O,-U,-N,-S,-List.map_map],by simp(disch:=first|omega|simp only[aE];omega) [dU,-O,-U,-N,-S,-List.map_map]⟩ (by simp) λbO D=> ?_;refine z8 _ bO _ (by simp) (by simp) (by simp) (by simp) (by simp) (by simp) D λdh aLN hA rM=> ?_;have Us:dh 0=cD 0:=(hA 0 (by decide)).trans (by simp);have az3:dh 1=Z kb:=(hA 1 (by decide)).trans (by simp);have az4:dh 4=cD 1:=(hA 4 (by decide)).trans (by simp);have afX:dh 5=cD 6:=(hA 5 (by decide)).trans (by simp);clear hA;have ajv:=rM;obtain⟨h6,or,ai4⟩:=rM;have a8:=ai4.aO;have iP:=bm a8;simp(disch:=first|omega|simp only[aE];omega) [ab6,Us,a8,k5,azk,-O,-U,-N,-S,-List.map_map];refine awl (ka.at ajv (db:=km+1) (by omega)) λayE aq=> ?_;refine iR _ ayE _ (by simp[Us]) (by simp[afX]) (by simp) aq λwH aLO EZ ai5=> ?_;have Ut:wH 0=cD 0:=(EZ 0 (by decide)).trans (by simp[Us]);have az5:wH 1=Z kb:=(EZ 1 (by decide)).trans (by simp[az3]);have az6:wH 4=cD 1:=(EZ 4 (by decide)).trans (by simp[az4]);have afY:wH 5=cD 6:=(EZ 5 (by decide)).trans (by simp[afX]);clear EZ;obtain⟨op,⟨aO,aQ,fg,qJ,gY,ga,q0⟩⟩:=ai5;have ac8:=bm aO;simp(disch:=first|omega|simp only[aE];omega) [ab8,Ut,az5,aO,k5,azl,-O,-U,-N,-S,-List.map_map];refine azc (l:=l) (i:=ln+1) (K:=K) (fu:=au ([sX J].map gF) 4) (fv:=au ((s4 a b c d).map gK) 4) (lB:=au (ds.map dU) 7) (lC:=au (cm.map gn) 3) (ps:=ps) ⟨op,⟨by simp(disch:=first|omega|simp only[aE];omega) [-O,-U,-N,-S,-List.map_map],by simp(disch:=first|omega|simp only[aE];omega) [aQ,-O,-U,-N,-S,-List.map_map],by simp(disch:=first|omega|simp only[aE];omega) [fg,-O,-U,-N,-S,-List.map_map],by simp(disch:=first|omega|simp only[aE];omega) [qJ,-O,-U,-N,-S,-List.map_map],gY,ga,q0⟩⟩ λayF aF=> ?_;refine wv _ ayF _ (by simp[Ut]) (by simp[afY]) (by simp) aF λNO aLP JS ai6=> ?_;have aNr:NO 0=cD 0:=(JS 0 (by decide)).trans (by simp[Ut]);have az7:NO 4=cD 1:=(JS 4 (by decide)).trans (by simp[az6]);have az8:NO 5=cD 6:=(JS 5 (by decide)).trans (by simp[afY]);clear JS;obtain⟨qd,⟨aO,aQ,fg,yU,gY,ga,q0⟩⟩:=ai6;have fq:=bm aO;have iE:=bm aQ;have uj:=bm fg;have gq:=bm yU;have aii: ∀tt:W,tt.Y qd=some ⟨(ck.map g0).flatten,true⟩->DI.dZ 8 tt (e6 qd ck.length 2)=some (au (ck.map g0) 2):= λtt h=>sx (n:=7) h (by simp) afp;simp(disch:=first|omega|simp only[aE];omega) [ab9,az7,az8,aQ,fg,xV,-O,-U,-N,-S,-List.map_map];refine⟨?_,aO,?_⟩
  · rw[aii _ (by rw[b3 ga];exact yU)];simp[aS]
  · rw[awH,b3 ga,yU];simp only[g6,tx,DB];rintro(e|⟨v,⟨r,EX,ab⟩,G⟩)
    · exact gY e.symm
    · rw[DI.x2 ((afp r EX).2 v ab)]at G;cases G
theorem ads:(fk 0 1).cV:=by unfold bT.cV;decide
theorem avv:(fk 1 2).cV:=by unfold bT.cV;decide
theorem avw:(fk 1 1000).cV:=by unfold bT.cV;decide
theorem avx:(fk 30 1).cV:=by unfold bT.cV;decide
theorem avQ(c:Nat)(ar:c=100\/c=110\/c=112\/c=118): ∀n:Fin 60,eG (jN c n.val):=by rcases ar with rfl|rfl|rfl|rfl<;>(unfold eG;decide+kernel)
theorem Si:eG Ay/\eG HF/\eG HJ:=by unfold eG;decide+kernel
theorem avP{c lR:Nat}(ar:c<256)(nq:lR<256){n gU:Nat}(ax:n<60)(xe:gU<60)(h:jN c n=jN lR gU):c=lR/\n=gU:=by simp only[jN,ByteArray.mk.injEq]at h;have c5:=congrArg (λa:Array UInt8=>(a.toList.map UInt8.toNat)) h;simp at c5;omega
theorem TP{l:List ByteArray}{c f:Nat->Nat}(h: ∀(i:Nat) x,l[i]?=some x->x=jN (c i) (f i)/\(c i=100\/c i=110\/c i=112\/c i=118)/\f i<60)(inj: ∀i j,i<j->j<l.length-> ¬(c i=c j/\f i=f j)):ej l=true:=by
  unfold ej;rw[aX,eD];refine⟨λx G=> ?_,decide_eq_true (Im.2 λi j ai bx y1 e=> ?_)⟩
  · obtain⟨i,ai,rfl⟩:=kx G;obtain⟨a,b,d⟩:=h i _ (dx ai);rw[a];exact Aj (avQ (c i) b ⟨f i,d⟩)
  · obtain⟨a,b,d⟩:=h i _ (dx ai);obtain⟨dD,ca,pU⟩:=h j _ (dx bx);rw[a,dD]at e;exact inj i j y1 bx (avP (by omega) (by omega) d pU e)
theorem ayX{a b:ByteArray}(az:eG a)(hb:eG b)(h:a≠b):ej [a,b]=true:=by unfold ej;simp[Aj az,Aj hb,h]
theorem ayW{a:ByteArray}(az:eG a):ej [a]=true:=by unfold ej;simp[Aj az]
theorem mX{x a b:Int}(D:a<=x)(H:x<=b):dB x a b=true:=sO.2 ⟨D,H⟩
theorem awy:n0 (fk 1 2)=true/\(fk 1 1000).bA.small=true/\oD (fk 1 1000).bA=true/\(fk 30 1).bA.small=true:=by decide
theorem awi{x:ic}{n:Nat}(h:IB x n):ib x 2=true/\ic.fN x:=by
  obtain⟨eG,⟨eB,hk⟩,⟨bd,dE⟩,⟨a7,bD⟩,⟨pz,qk,ql,aK6,aK7,aK8,aK9⟩,gA,⟨R,iy,jt⟩,oT,fj⟩:=h;obtain⟨fC,jF,m9,v3⟩:=awy;constructor
  · unfold ib;simp only[aX];refine⟨?_,?_,?_,?_,?_⟩
    · unfold k7;simp only[aX,eM];exact⟨mX eB (by omega),mX bd (by omega),by omega,mX a7 bD,pz,mX (by omega) (by omega),mX (by omega) (by omega),mX (by omega) (by omega),mX (by omega) (by omega),mX (by omega) (by omega)⟩
    · rcases gA with e|e<;>rw[e]<;>rfl
    · unfold na;simp only[aX,eM,eD];rw[jt,oT,fj];refine⟨?_,λy ah=> ?_,jF,m9,v3⟩
      · rw[List.length_replicate,iy]
      · rw[List.eq_of_mem_replicate ah];exact fC
    · rcases gA with e|e<;>rw[e]<;>decide
    · rcases gA with e|e<;>rw[e]<;>decide
  · refine⟨⟨λy ah=> ?_,?_⟩,by rw[oT];exact avw,by rw[fj];exact avx,by rcases gA with e|e<;>rw[e]<;>decide⟩
    · rw[jt]at ah;rw[List.eq_of_mem_replicate ah];exact avv
    · rw[jt,List.length_replicate];have:R<=2:=(by split at iy<;>omega);omega
theorem avm{ds:List gj}(h:pJ ds):nn ds=true:=by
  have M:(fk 0 1).bA.small=true/\ ¬0<(fk 0 1).bA.n:=by decide
  have ay:=h.n1;cases aA:ds with
  |nil=>rw[aA]at ay;cases ay
  | cons R l=>
    rw[aA]at ay;simp at ay;unfold nn;simp only[aX,eD,ob];constructor
    · rw[ay];simp[nG,M.1,M.2]
    · intro i ai;rw[dx ai];obtain⟨bw,bJ,cc,⟨q,c8,dX⟩,fp,hv,jx,lf,tH⟩:=h.ke (i+1) l[i] (by omega) (by rw[aA,Dw];exact dx ai);rw[aA]at c8;simp only[kB,aX];refine⟨mX bJ (by omega),?_,mX fp hv,mX jx lf,by rw[tH];exact M.1⟩;unfold z7;rw[c8];exact decide_eq_true dX
theorem adi{u:bl}{kb:Int}(h:Iw u kb)(Bp:kb<=12):fY u:=by
  obtain⟨ext,⟨J,tq,Ur,cB⟩,⟨a,b,c,d,az,hb,ar,vn,Mn⟩,a0,kr,a2,mz,vS,cx,r0,cb⟩:=h;have zb:u.cb.length<=12:=by have:=r0.2;split at this<;>omega
  have ER:u.bc.length=2:=by rw[Mn];rfl
  have vp:u.cB.length=1:=by rw[cB];rfl
  have aEz:=a0.Ao;have bL:lP 1 J:=by unfold lP;omega
  have ad1: ∀x∈u.cx,ib x 2=true/\ic.fN x:= λx G=>by obtain⟨i,ai,rfl⟩:=kx G;exact awi (cx i _ (dx ai))
  have ajJ:gf u=true:=by
    unfold gf;simp only[aX,eM];refine⟨mX ext.1 (by omega),by omega,by omega,by omega,by omega,by omega,zb,avm a0,?_,?_,?_,?_,?_,?_,?_,?_,?_,?_⟩
    · rw[cB];rfl
    · rw[Mn,vp];simp only[s4,mK,List.all_nil,Bool.and_true,aX,kq];exact⟨⟨mX (by omega) (by omega),mX (by omega) (by omega),by decide⟩,mX (by omega) (by omega),mX (by omega) (by omega),by decide⟩
    · rw[eD];intro x G;obtain⟨i,ai,rfl⟩:=kx G;obtain⟨bw,bJ,cc,m,e,f⟩:=a2 i _ (dx ai);have:=f.c0;unfold kf;simp only[aX];refine⟨mX bJ (by omega),mX (by omega) (by omega),?_⟩;obtain⟨q,c8,dX⟩:=f;unfold Ab;rw[e,rn,c8];exact decide_eq_true dX
    · rw[eD,ER];exact λx G=>(ad1 x G).1
    · rw[eD];intro x G;obtain⟨i,ai,rfl⟩:=kx G;obtain⟨bw,bJ,cc⟩:=cb i _ (dx ai);exact mX bJ (by omega)
    · rw[cB];exact ayW Si.1
    · rw[Mn];exact ayX Si.2.1 Si.2.2 (show HF≠HJ by decide)
    · refine TP (c:= λi=>if i<u.a0.length-1 then 110 else 100) (f:= λi=>if i<u.a0.length-1 then i+1 else i-(u.a0.length-1)) (λi x G=> ?_) (λi j y1 bx=> ?_)
      · by_cases Ob:i<u.a0.length-1
        · rw[tv (by simp;exact Ob),qv,List.getElem?_tail]at G;simp only[if_pos Ob];obtain⟨rv,aL,aU⟩:=rl.1 G;rw[<-aU];exact⟨(a0.ke (i+1) rv (by omega) aL).1,by simp,by omega⟩
        · rw[uP (by simp;omega)]at G;simp only[j8,List.length_tail,qv]at G;simp only[if_neg Ob];obtain⟨rv,aL,aU⟩:=rl.1 G;rw[<-aU];have aC:=(ek.1 aL).1;exact⟨(a2 _ rv aL).1,by simp,by omega⟩
      · split<;>split<;>omega
    · refine TP (c:= λ_=>112) (f:= λi=>u.cx.length-i) (λi x G=> ?_) (λi j y1 bx=> ?_)
      · rw[qv]at G;obtain⟨rv,aL,aU⟩:=rl.1 G;rw[<-aU];exact⟨(cx i rv aL).eG,by simp,by omega⟩
      · simp at bx;omega
    · refine TP (c:= λ_=>118) (f:= λi=>u.cb.length-i) (λi x G=> ?_) (λi j y1 bx=> ?_)
      · rw[qv]at G;obtain⟨rv,aL,aU⟩:=rl.1 G;rw[<-aU];exact⟨(cb i rv aL).1,by simp,by omega⟩
      · simp at bx;omega
  refine⟨av4 ajJ,⟨λx G=> ?_,λx G=> ?_,λx G=>(ad1 x G).2,by omega,by omega,by omega,by omega,by omega,by omega⟩⟩
  · rw[cB]at G;simp at G;subst G;exact⟨J,by omega,Ur,rfl,rfl,rfl⟩
  · obtain⟨i,ai,rfl⟩:=kx G;cases i with
    | zero=>have:=a0.n1;rw[dx ai]at this;rw[Option.some.inj this];exact ads
    | succ i=>rw[(a0.ke (i+1) _ (by omega) (dx ai)).2.2.2.2.2.2.2.2];exact ads
theorem af4{u:bl}(h:jk u){v:Nat}(ab:v<u.cb.length):bH al 101 [.agg (aS u).toArray,Z v] (Z (kj u v)):=by
  refine ed (dL (aB:=⟨[],[]⟩) aj3 (by kernel_rfl) (by simp[PV]) ?_);obtain⟨x,p,q,G,af,kl,bf,a3,D,H,aq⟩:=Jn h ab;have eh:=(ek.1 G).2;have EW:=(ek.1 bf).2;have bU:(v:Int)<u.cb.length:=by omega
  have a7:(p:Int)<u.cx.length:=by omega
  have b7:IntKind.i64.wrap (q.k+q.m)=q.k+q.m:=fl (by omega) (by omega);rw[a3];simp(disch:=first|omega|simp only[DI.ak];omega) [PV,Xv,Xw,Xx,aS,g0,eY,bU,a7,eh,af,EW,b7,-O,-U,-N,-S,-List.map_map]
noncomputable def wg(u:bl)(h:jk u):bz al:= .dM 101 Nat (λv=>v<u.cb.length) (λv=>[.agg (aS u).toArray,Z v]) (λv=>Z (kj u v)) λv ab=>af4 h ab
@[simp] theorem aI7{u:bl}{h:jk u}:(wg u h).f=101:=rfl
@[simp] theorem aI8{u:bl}{h:jk u}{v:Nat}(ab:v<u.cb.length):(wg u h).fn [.agg #[Z u.ext,au (u.cB.map gF) 4,au (u.bc.map gK) 4,au (u.a0.map dU) 7,au (u.a2.map gn) 3,au (u.cx.map eY) 17,au (u.cb.map g0) 2],Z v]=some (Z (kj u v)):=bz.eu (x:=v) ab λy ah=>by simp at ah⊢;omega
theorem avu{l:List Int}{x:Int}(aC:l.length<=1000000):bH al 102 [dG l,Z x] (.bool (decide (x∈l))):=by
  refine ed (dL (aB:=⟨[],[]⟩) aj4 (by kernel_rfl) (by simp[PW]) ?_);simp(disch:=first|omega|simp only[DI.ak];omega) [PW,Xy,Xz,-O,-U,-N,-S,-List.map_map];refine hI (aB:=⟨[],[]⟩) (λi z t=>(∀j (bx:j<l.length),j<i-> ¬l[j]=x)/\z 0=dG l/\z 1=Z x/\z 5=Z i) l.length ?_ ?_ 0 _ _ (ho _) ⟨λj bx h=>absurd h (se _),by simp,by simp,by simp⟩
  · rintro i z t ai ⟨gp,c9,bb,cu⟩ cK bk;obtain⟨y,G⟩:=iW ai;have eh:=(ek.1 G).2;have bU:(i:Int)<l.length:=(by omega);have b7:=gT (n:=i) (by omega);by_cases c:y=x
    · have e:x∈l:=(by rw[<-c,<-eh];exact mI ai);simp(disch:=first|omega|simp only[DI.ak];omega) [J1,Fc,Fe,c9,bb,cu,bU,eh,eq_true c,e,-O,-U,-N,-S,-List.map_map]
    · simp(disch:=first|omega|simp only[DI.ak];omega) [J1,Fc,Fe,c9,bb,cu,bU,eh,c,b7,-O,-U,-N,-S,-List.map_map];refine bk _ _ ⟨λj bx EK=> ?_,by simp[c9],by simp[bb],by simp⟩;by_cases e:j=i
      · subst e;rw[eh];exact c
      · exact gp j bx (by omega)
  · rintro z t ⟨gp,c9,bb,cu⟩;have e:x∉l:= λaw=>by
      obtain⟨j,bx,e⟩:=kx aw;exact gp j bx bx e
    simp(disch:=first|omega|simp only[DI.ak];omega) [J1,Fc,Fe,Fe,Fc,c9,cu,e,-O,-U,-N,-S,-List.map_map]
noncomputable def r4:bz al:= .dM 102 (List Int×Int) (λx=>x.1.length<=1000000) (λx=>[dG x.1,Z x.2]) (λx=> .bool (decide (x.2∈x.1))) λ_ h=>avu h
@[simp] theorem aI5:r4.f=102:=rfl
@[simp] theorem aI6{l:List Int}{x:Int}(h:l.length<=1000000):r4.fn [au (l.map λx=>[Z x]) 1,Z x]=some (.bool (decide (x∈l))):=bz.eu (x:=(l,x)) h λ⟨qs,ly⟩ ah=>by simpa using ah
def agd(t aT:W):Prop:=aT.next=t.next/\ ∀b,aT.Y b=t.Y b
def Nc:List Nat:=[0,1,3,4,5,6,7,8]
theorem auU{u:bl}(k1:u.a2.length<=24){cW:List Int}(zf:cW.length<=1000): ∀(r k d:Nat),k+r=u.a2.length->d<u.a2.length-> ∃pU:Nat,pU<u.a2.length/\ ∀(z:aP) (t:W) (Q:dy->aP->W->Prop) (Bh or:Nat),z 3=cD Bh->z 7=e6 or cW.length 1->z 9=Z d->z 10=Z k->t.Y Bh=some ⟨aS u,true⟩->t.Y or=some ⟨cW.map Z,true⟩->
    (∀aj aT,(∀s∈Nc,aj s=z s)->aj 9=Z pU->agd t aT->Q (.ba 4) aj aT)->fP al (.loop Gv) z t Q:=by
  intro r;induction r with
  | zero=>intro k d aa aA;refine⟨d,aA,λz t Q Bh or eP dW hQ j5 hV bX bY=> ?_⟩;refine eC (aB:=⟨[r4],[iM]⟩) λcK bk=> ?_;have vP:=bm hV;have c: ¬(k:Int)<u.a2.length:=(by omega);have bN: ¬k<u.a2.length:=(by omega);simp(disch:=first|omega|simp only[DI.ak];omega) [Gv,Lf,eP,j5,hV,aS,c,-O,-U,-N,-S,-List.map_map];refine bY _ _ (λs M=>by simp only[Nc,g6,iG,or_false]at M;rcases M with rfl|rfl|rfl|rfl|rfl|rfl|rfl|rfl<;>simp) (by simp[hQ]) ⟨rfl,λ_=>rfl⟩
  | succ r cn=>
    intro k d aa aA;have Bj: ∀(t:W) (or:Nat),t.Y or=some ⟨cW.map Z,true⟩->DI.dZ 9 t (e6 or cW.length 1)=some (dG cW):= λt or h=>sx (n:=8) (by rw[zm];exact h) (by simp) xo;have c:(k:Int)<u.a2.length:=(by omega);have bN:k<u.a2.length:=(by omega);have ajA:cW.length<=1000000:=(by omega);by_cases Bc:(d:Int)∈cW
    case neg=>refine⟨d,aA,λz t Q Bh or eP dW hQ j5 hV bX bY=> ?_⟩;refine eC (aB:=⟨[r4],[iM]⟩) λcK bk=> ?_;have vP:=bm hV;have bL:=Bj t or bX;simp(disch:=first|omega|simp only[DI.ak];omega) [Gv,Lf,eP,dW,hQ,j5,hV,aS,c,bL,Bc,-O,-U,-N,-S,-List.map_map];refine bY _ _ (λs M=>by simp only[Nc,g6,iG,or_false]at M;rcases M with rfl|rfl|rfl|rfl|rfl|rfl|rfl|rfl<;>simp) (by simp[hQ]) ⟨by simp,λ_=>by simp⟩
    have cX:=gT (n:=d) (by omega);have e2:=gT (n:=k) (by omega);obtain⟨gM,Pa⟩: ∃gM:Nat,((d:Int)+1).tmod u.a2.length=gM/\gM<u.a2.length:=(by have D:=Int.tmod_lt_of_pos ((d:Int)+1) (show(0:Int)<u.a2.length by omega);have H:=Int.tmod_nonneg (a:=(d:Int)+1) (u.a2.length:Int) (by omega);obtain⟨x,G⟩:=kS H;exact⟨x,G,by omega⟩);obtain⟨pU,bw,bJ⟩:=cn (k+1) gM (by omega) Pa.2;refine⟨pU,bw,λz t Q Bh or eP dW hQ j5 hV bX bY=> ?_⟩;refine eC (aB:=⟨[r4],[iM]⟩) λcK bk=> ?_;have vP:=bm hV;have bL:=Bj t or bX;have aU:=Pa.1;have m5: ¬u.a2.length=0:=(by omega);simp(disch:=first|omega|simp only[DI.ak];omega) [Gv,Lf,eP,dW,hQ,j5,hV,aS,c,bL,Bc,cX,e2,aU,m5,-O,-U,-N,-S,-List.map_map];refine bk _ _ (bJ _ _ Q Bh or (by simp[eP]) (by simp[dW]) (by simp) (by simp) (by simpa[aS]using hV) (by simpa using bX) λaj aT M ix fb=>bY aj aT (λs fz=>(M s fz).trans ?_) ix ⟨by rw[fb.1];simp,λb=>by rw[fb.2 b];simp⟩);simp only[Nc,g6,iG,or_false]at fz;rcases fz with rfl|rfl|rfl|rfl|rfl|rfl|rfl|rfl<;>simp
end Go.Proofs.YtmmkkggfmigppaaGreat
