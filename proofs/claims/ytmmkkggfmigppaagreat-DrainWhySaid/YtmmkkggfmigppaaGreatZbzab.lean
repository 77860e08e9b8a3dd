/-
  For every input the law returns true, and each argument reads behind the call as it read before. The last part of the proof; tools of ours have shortened it.
-/
import Derived.ProofKit
import Derived.ShutString
import Derived.Below
import Derived.Carry
import Derived.Test.YtmmkkggfmigppaaGreatZbzaa
set_option linter.all false
set_option maxRecDepth 8000
set_option maxHeartbeats 16000000
namespace Go.Proofs.YtmmkkggfmigppaaGreat
open Go Go.DI Go.Big Go.gU
def qO(P:List Int->Bool)(af:List Int)(n:Int):List Int->Int
 |[]=> -1
 |x::l=>if P (eI af x++[n])=true then x else qO P af n l
noncomputable def kR(u:aL)(R af az:List Int)(n:Int):Int×Int:=if gT u (af++az)=true then(if n∈az/\fb u R (af++[n])=false then(qO (fb u R) af n af,0)else(0,110))else(0,1)
def GI(u:aL)(R af:List Int)(n:Int)(b e:Int)(v:Value):Prop:=(e≠0/\v= .tuple #[.agg #[D b,.slice none 0 0,.slice none 0 0,.slice none 0 0],D e])\/(e=0/\ ∃s,afi u (oy u R (af++[n])) s/\v= .tuple #[.agg (D b::sy u s).toArray,D 0])
noncomputable abbrev aqW(u:aL)(h:cL u)(A:1<=u.a2.length):mq N:=⟨[IV u h,T6,Um,Ul,T9 u h,IU u h A],[]⟩
theorem aps{u:aL}(h:cL u)(A:1<=u.a2.length)(mY:1<=u.aZ.length){R af az:List Int}{n:Int}(aA:af.length+az.length<=999):BG N 29 [.agg (aI u).toArray,bq R,.agg (jC af az).toArray,D n] (GI u R af n (kR u R af az n).1 (kR u R af az n).2):=by
 have aj:(af++az).length<=1000000:=by rw[iD];omega
 have br:af.length<=1000000/\az.length<=1000000/\af.length<=999999:=by omega
 refine aru (c3 (ay:=aqW u h A) al8 (by kernel_rfl) (by simp[H2]) ?_);cases M:gT u (af++az)
 ·have e:kR u R af az n=(0,1):=(by unfold kR;rw[if_neg (by simp[M])]);rw[e];simp(disch:=first|omega|simp only[DI.aw];omega) [H2,R4,aI,M,GI,-ab,-ah,-aa,-ad,-List.map_map]
 by_cases ie:n∈az
 case neg=>have e:kR u R af az n=(0,110):=(by unfold kR;rw[if_pos M,if_neg (by simp[ie])]);rw[e];simp(disch:=first|omega|simp only[DI.aw];omega) [H2,R4,Zh,aI,M,ie,GI,-ab,-ah,-aa,-ad,-List.map_map]
 have q4:(af++[n]).length<=1000000:=by simp;omega
 simp(disch:=first|omega|simp only[DI.aw];omega) [H2,R4,Zh,al9,aI,M,ie,-List.map_append,-ab,-ah,-aa,-ad,-List.map_map];refine(((aFx h A mY (R:=oy u R (af++[n]))).N1 (λv M=>by simp at M;rcases M with rfl|rfl<;>rfl)).bt λv t ⟨⟨Xr,Xs⟩,a8⟩=> ?_);generalize dq:G.bU _ 15=W at a8;have aM:W.F 0=some ⟨aI u,true⟩:=by rw[<-dq];simp(disch:=first|omega|simp only[DI.aw];omega) [aI,-ab,-ah,-aa,-ad,-List.map_map]
 have aE:W.F 1=some ⟨jC af az,true⟩:=by rw[<-dq];simp(disch:=first|omega|simp only[DI.aw];omega) [-ab,-ah,-aa,-ad,-List.map_map]
 have a5:W.F 2=some ⟨[D 0,.slice none 0 0,.slice none 0 0,.slice none 0 0],true⟩:=by rw[<-dq];simp(disch:=first|omega|simp only[DI.aw];omega) [-ab,-ah,-aa,-ad,-List.map_map]
 have vi:W.next=19:=by rw[<-dq];simp[fE]
 clear dq;subst a8;cases ae:fb u R (af++[n])
 ·obtain⟨s,H,oq⟩:=Xs ae;subst oq;have e:kR u R af az n=(qO (fb u R) af n af,0):=(by unfold kR;rw[if_pos M,if_pos ⟨ie,ae⟩]);rw[e];simp(disch:=first|omega|simp only[DI.aw];omega) [Zi,vi,-ab,-ah,-aa,-ad,-List.map_map];generalize fm:G.aK _ 16 (some (en.mk (sy u s) true))=T;have t0:T.F 0=some ⟨aI u,true⟩:=(by rw[<-fm,aX (by decide)];exact aM);have bd:T.F 1=some ⟨jC af az,true⟩:=(by rw[<-fm,aX (by decide)];exact aE);have dR:T.F 2=some ⟨[D 0,.slice none 0 0,.slice none 0 0,.slice none 0 0],true⟩:=(by rw[<-fm,aX (by decide)];exact a5);have Dr:T.F 16=some ⟨sy u s,true⟩:=(by rw[<-fm];exact cb (by omega));have dN:=aF t0;have hS:=aF bd;have jn:=aF dR;have aSL:=aF Dr;clear fm;simp(disch:=first|omega|simp only[DI.aw];omega) [ama,bd,-ab,-ah,-aa,-ad,-List.map_map];refine gP (ay:=aqW u h A) (λi z X=>X=T/\qO (fb u R) af n (af.drop i)=qO (fb u R) af n af/\z 1=bq R/\z 3=D n/\z 4=bC 0/\z 6=bC 1/\z 8=bC 2/\z 10=bC 16/\z 41=bq af/\z 42=D af.length/\z 43=D i) af.length ?_ ?_ 0 _ _ (gd _) ⟨rfl,rfl,by simp,by simp,by simp,by simp,by simp,by simp,by simp,by simp,by simp⟩
  ·rintro i z X Y ⟨rfl,hb,aT,bH,dp,bo,bm,ey,nY,oY,lU⟩ bO a1;obtain⟨x,B⟩:=gM Y;have cQ:=(cN.1 B).2;rw[pG Y,cQ,qO]at hb;have Ck:=wC (l:=af) (x:=x);have bQ:(eI af x).length<=999999:=(by omega);have tK:(eI af x++[n]).length<=1000000:=(by simp;omega);have bA:(i:Int)<af.length:=(by omega);have bp:=fB (n:=i) (by omega);cases av:fb u R (eI af x++[n])
   ·rw[if_neg (by simp[av])]at hb;simp(disch:=first|omega|simp only[DI.aw];omega) [R5,Ma,aI,aT,bH,dp,bo,nY,oY,lU,t0,bd,bA,bp,cQ,av,-List.map_append,-ab,-ah,-aa,-ad,-List.map_map];exact a1 _ _ ⟨rfl,hb,by simp[aT],by simp[bH],by simp[dp],by simp[bo],by simp[bm],by simp[ey],by simp[nY],by simp[oY],by simp⟩
   ·rw[if_pos av]at hb;simp(disch:=first|omega|simp only[DI.aw];omega) [R5,Ma,aI,aT,bH,dp,bo,bm,ey,nY,oY,lU,t0,bd,dR,Dr,bA,cQ,av,GI,<-hb,-List.map_append,-ab,-ah,-aa,-ad,-List.map_map];exact⟨s,H,rfl,rfl,rfl⟩
  ·rintro z X ⟨rfl,hb,aT,bH,dp,bo,bm,ey,nY,oY,lU⟩;rw[Jk]at hb;have hb: -1=qO (fb u R) af n af:=hb;simp(disch:=first|omega|simp only[DI.aw];omega) [R5,Ma,Ma,bm,ey,oY,lU,dR,Dr,GI,<-hb,-ab,-ah,-aa,-ad,-List.map_map];exact⟨s,H,rfl,rfl,rfl⟩
 ·have oq:=Xr ae;subst oq;have e:kR u R af az n=(0,110):=(by unfold kR;rw[if_pos M,if_neg (by simp[ae])]);rw[e];simp(disch:=first|omega|simp only[DI.aw];omega) [Zi,GI,a5,vi,-ab,-ah,-aa,-ad,-List.map_map]
theorem aHq{l:List Int}{n:Int}(aA:l.length<=1000000):fg N 80 [bq l,D n] fE λv bd=> ∃o,v=bN o (eI l n).length 1/\bd.F o=some ⟨(eI l n).map D,true⟩:=by
 refine c3 (ay:=⟨[],[]⟩) am9 (by kernel_rfl) (by simp[Mu]) ?_;simp(disch:=first|omega|simp only[DI.aw];omega) [Mu,ZN,-ab,-ah,-aa,-ad,-List.map_map];refine ur (d:=5) (I:=1) (by simp) ?_;refine gP (ay:=⟨[],[]⟩) (λi z t=>(∃o,z 5=bN o (eI (l.take i) n).length 1/\t.F o=some ⟨(eI (l.take i) n).map D,true⟩)/\z 0=bq l/\z 1=D n/\z 6=D i) l.length ?_ ?_ 0 _ _ (gd _) ⟨⟨_,by simp[eI];rfl,by simp[eI,fE,cb]⟩,by simp,by simp,by simp⟩
 ·rintro i z t Y ⟨⟨o,bD,bw⟩,bG,aT,bo⟩ bO a1;obtain⟨x,B⟩:=gM Y;have cQ:=(cN.1 B).2;have eW:(eI (l.take i) n).length<=i:=MO;have bA:(i:Int)<l.length:=(by omega);have bp:=fB (n:=i) (by omega);have bh:=aF bw;obtain⟨k,O⟩: ∃k,eI (l.take i) n=k:=⟨_,rfl⟩;have e:=Fz (x:=n) B;rw[O]at bD bw eW e;have eQ:(k.length+1)*8<=140737488355328/\k.length<=9223372036854775806:=(by omega);have jG:List.take k.length (k.map D)=k.map D:=hx (by simp);by_cases c:x=n
  ·rw[if_pos c]at e;simp(disch:=first|omega|simp only[DI.aw];omega) [E9,AJ,bG,aT,bo,bA,bp,cQ,c,-ab,-ah,-aa,-ad,-List.map_map];exact a1 _ _ ⟨⟨o,by rw[e];simp[bD],by rw[e];exact bw⟩,by simp[bG],by simp[aT],by simp⟩
  ·rw[if_neg c]at e;simp(disch:=first|omega|simp only[DI.aw];omega) [E9,AJ,bG,aT,bD,bo,bw,bA,bp,cQ,c,eQ,jG,-ab,-ah,-aa,-ad,-List.map_map];refine a1 _ _ ⟨⟨t.next+6,by rw[e];simp,?_⟩,by simp[bG],by simp[aT],by simp⟩;rw[e,p7];simp(disch:=first|omega|simp only[DI.aw];omega) [-ab,-ah,-aa,-ad,-List.map_map]
 ·rintro z t ⟨⟨o,bD,bw⟩,bG,aT,bo⟩;rw[mQ]at bD bw;simp(disch:=first|omega|simp only[DI.aw];omega) [E9,AJ,AJ,bG,bD,bo,-ab,-ah,-aa,-ad,-List.map_map];exact bw
theorem aHo{l:List Int}{n:Int}(aA:l.length<=1000000){t:G}:fg N 80 [bq l,D n] t λv X=>v=bN t.next (eI l n).length 1/\X=(t.bU 1).aK t.next (some ⟨(eI l n).map D,true⟩):=
 Of (λv M=>by simp at M;rcases M with rfl|rfl<;>rfl) (λv M=>by obtain⟨x,_,rfl⟩:=gx.1 M;rfl) (aHq aA) t
theorem aF2{u:aL}(h:cL u)(A:1<=u.a2.length){R af az:List Int}{n:Int}(aA:af.length+az.length<=999):bP N 30 [.agg (aI u).toArray,bq R,.agg (jC af az).toArray,D n] (.tuple #[D (kR u R af az n).1,D (kR u R af az n).2]):=by
 have aj:(af++az).length<=1000000:=by rw[iD];omega
 have br:af.length<=1000000/\az.length<=1000000/\af.length<=999999:=by omega
 refine dJ (c3 (ay:=⟨[De u h,NF,zA u h A],[]⟩) aAS (by kernel_rfl) (by simp[H3]) ?_);cases M:gT u (af++az)
 ·have e:kR u R af az n=(0,1):=(by unfold kR;rw[if_neg (by simp[M])]);rw[e];simp(disch:=first|omega|simp only[DI.aw];omega) [H3,Mb,aI,M,-ab,-ah,-aa,-ad,-List.map_map]
 by_cases ie:n∈az
 case neg=>have e:kR u R af az n=(0,110):=(by unfold kR;rw[if_pos M,if_neg (by simp[ie])]);rw[e];simp(disch:=first|omega|simp only[DI.aw];omega) [H3,Mb,R6,aI,M,ie,-ab,-ah,-aa,-ad,-List.map_map]
 have q4:(af++[n]).length<=1000000:=by simp;omega
 have eQ:af.length*8<=140737488355328/\af.length<=9223372036854775807/\(af.length+1)*8<=140737488355328/\af.length<=9223372036854775806:=by omega
 have jG:List.take af.length (af.map D)=af.map D:=hx (by simp);have nK: ∀(l:List Int) (W:G) (q:Nat),W.F q=some ⟨(l++[n]).map D,true⟩->DI.dx 9 W (bN q (l.length+1) 1)=some (bq (l++[n]))/\eC 9 W (bN q (l.length+1) 1)=[q]:= λl W q bg=>⟨(tA (e8.cM bg) (by simp)).1,FR (e8.cM bg)⟩
 -- JQ pF first test
 have key: ∀(W:G) (z:aD),W.F 0=some ⟨aI u,true⟩->W.F 1=some ⟨jC af az,true⟩->z 1=bq R->z 3=D n->z 4=bC 0->z 6=bC 1->fb u R (af++[n])=false->iK ⟨[De u h,NF,zA u h A],[]⟩ Zj z W (A2 [ln.bL 8,ln.bL 9] λv t=>dx 9 t v=some (.tuple #[D (kR u R af az n).1,D (kR u R af az n).2])):= λW z aM aE aT bH dp bo ae=>by
  have e:kR u R af az n=(qO (fb u R) af n af,0):=(by unfold kR;rw[if_pos M,if_pos ⟨ie,ae⟩]);rw[e];have dN:=aF aM;have hS:=aF aE;simp(disch:=first|omega|simp only[DI.aw];omega) [Zj,-ab,-ah,-aa,-ad,-List.map_map];refine gP (ay:=⟨[zA u h A],[]⟩) (λi z X=>((∀b,b<W.next->X.F b=W.F b)/\W.next<=X.next)/\qO (fb u R) af n (af.drop i)=qO (fb u R) af n af/\z 1=bq R/\z 3=D n/\z 4=bC 0/\z 6=bC 1/\z 10=D i) af.length ?_ ?_ 0 _ _ (gd _) ⟨⟨λ_ _=>rfl,c8 _⟩,rfl,by simp[aT],by simp[bH],by simp[dp],by simp[bo],by simp⟩
  ·rintro i z X Y ⟨⟨O,ka⟩,hb,aT,bH,dp,bo,ey⟩ bO a1;obtain⟨x,B⟩:=gM Y;have cQ:=(cN.1 B).2;rw[pG Y,cQ,qO]at hb;have Ck:=wC (l:=af) (x:=x);have bA:(i:Int)<af.length:=(by omega);have bp:=fB (n:=i) (by omega);have aM:=(O 0 dN).trans aM;have aE:=(O 1 hS).trans aE;have an8:=aF aM;have Tf:=aF aE;have qp:(eI af x).length<=1000:=(by omega);obtain⟨aP,cd⟩: ∃aP,aP=eI af x:=⟨_,rfl⟩;rw[<-cd]at hb qp;have aQI:(aP++[n]).length<=1000000:=(by simp;omega);have aDu:(aP.length+1)*8<=140737488355328/\aP.length<=9223372036854775806:=(by omega);have ax7:List.take aP.length (aP.map D)=aP.map D:=hx (by simp);simp(disch:=first|omega|simp only[DI.aw];omega) [Zk,R7,aI,aT,bH,dp,bo,ey,aM,aE,bA,cQ,-ab,-ah,-aa,-ad,-List.map_map];refine(aHo (t:=lI (X.bU 14) [0]) (l:=af) (n:=x) br.1).bt λr bd ⟨ar,ql⟩=> ?_;subst ar;rw[<-cd,agG]at*;have aV:lO (X.bU 14) bd [0]=((X.bU 14).bU 1).aK (X.next+14) (some ⟨aP.map D,true⟩):=by
    rw[ql];exact anV (by rw[fq];omega) (by rw[fq];omega)
   rw[aV];generalize fm:((X.bU 14).bU 1).aK (X.next+14) (some (en.mk (aP.map D) true))=T;have qo: ∀b,b<X.next->T.F b=X.F b:= λb hb=>by rw[<-fm,aX (by omega),cl (by simp;omega),cl hb]
   have We:T.F (X.next+14)=some ⟨aP.map D,true⟩:=(by rw[<-fm];exact cb (by simp));have aEd:T.next=X.next+15:=by rw[<-fm];simp
   have aSK:X.next+14<T.next:=by omega
   have aSH:X.next+11<T.next:=by omega
   have aSI:X.next+12<T.next:=by omega
   have aTB: ¬X.next+14=X.next+11:=by omega
   have av3:=(qo 0 an8).trans aM;have aSF:=aF av3;rw[fq];simp(disch:=first|omega|simp only[DI.aw];omega) [We,aDu,ax7,-List.map_append,-ab,-ah,-aa,-ad,-List.map_map];generalize uV:G.aK _ (X.next+12) (some (en.mk (aP.map D++[Value.int IntKind.i64 n]) true))=dS;have Eg:dS.F (X.next+12)=some ⟨(aP++[n]).map D,true⟩:=(by rw[<-uV,p7];exact cb (by simp;omega));have Ij: ∀b,b<X.next->dS.F b=X.F b:= λb hb=>by rw[<-uV,aX (by omega),aX (by omega),aX (by omega),qo b hb]
   have aEe:dS.next=X.next+15:=by rw[<-uV];simp[aEd]
   obtain⟨f,r⟩:=nK aP dS _ Eg;have aht:=(Ij 1 Tf).trans aE;have aSM:=aF aht;cases av:fb u R (aP++[n])
   ·rw[if_neg (by simp[av])]at hb;simp(disch:=first|omega|simp only[DI.aw];omega) [f,r,av,ey,bp,-List.map_append,-ab,-ah,-aa,-ad,-List.map_map];exact a1 _ _ ⟨⟨λb hb=>(Ij b (by omega)).trans (O b hb),by simp[aEe];omega⟩,hb,by simp[aT],by simp[bH],by simp[dp],by simp[bo],by simp⟩
   ·rw[if_pos av]at hb;simp(disch:=first|omega|simp only[DI.aw];omega) [f,r,av,bo,ey,aht,bA,cQ,<-hb,-List.map_append,-ab,-ah,-aa,-ad,-List.map_map]
  ·rintro z X ⟨⟨O,ka⟩,hb,aT,bH,dp,bo,ey⟩;rw[Jk]at hb;have hb: -1=qO (fb u R) af n af:=hb;have aE:=(O 1 hS).trans aE;have Tf:=aF aE;simp(disch:=first|omega|simp only[DI.aw];omega) [Zk,R7,R7,bo,ey,aE,<-hb,-ab,-ah,-aa,-ad,-List.map_map]
 by_cases z7:af=[]
 ·have xb:af.length=0:=(by rw[z7];rfl);simp(disch:=first|omega|simp only[DI.aw];omega) [H3,Mb,R6,aI,M,ie,xb,-List.map_append,-ab,-ah,-aa,-ad,-List.map_map];generalize dq:G.aK _ 17 (some (en.mk [Value.int IntKind.i64 n] true))=W;have qV:W.F 17=some ⟨(af++[n]).map D,true⟩:=(by rw[<-dq,z7];simp(disch:=first|omega|simp only[DI.aw];omega) [-ab,-ah,-aa,-ad,-List.map_map]);have aM:W.F 0=some ⟨aI u,true⟩:=(by rw[<-dq];simp(disch:=first|omega|simp only[DI.aw];omega) [aI,-ab,-ah,-aa,-ad,-List.map_map]);have aE:W.F 1=some ⟨jC af az,true⟩:=(by rw[<-dq];simp(disch:=first|omega|simp only[DI.aw];omega) [-ab,-ah,-aa,-ad,-List.map_map]);obtain⟨f,r⟩:=nK af W _ qV;rw[xb]at f r;cases ae:fb u R (af++[n])
  ·simp(disch:=first|omega|simp only[DI.aw];omega) [f,r,ae,-List.map_append,-ab,-ah,-aa,-ad,-List.map_map];exact key _ _ aM aE (by simp) (by simp) (by simp) (by simp) ae
  ·have e:kR u R af az n=(0,110):=(by unfold kR;rw[if_pos M,if_neg (by simp[ae])]);rw[e];simp(disch:=first|omega|simp only[DI.aw];omega) [f,r,ae,-List.map_append,-ab,-ah,-aa,-ad,-List.map_map]
 ·have xb: ¬af.length=0:= λe=>z7 (n2 e);simp(disch:=first|omega|simp only[DI.aw];omega) [H3,Mb,R6,aI,M,ie,xb,eQ,mc,jG,-List.map_append,-ab,-ah,-aa,-ad,-List.map_map];generalize dq:G.aK _ 17 (some (en.mk (af.map D++[Value.int IntKind.i64 n]) true))=W;have qV:W.F 17=some ⟨(af++[n]).map D,true⟩:=(by rw[<-dq,p7];simp(disch:=first|omega|simp only[DI.aw];omega) [-ab,-ah,-aa,-ad,-List.map_map]);have aM:W.F 0=some ⟨aI u,true⟩:=(by rw[<-dq];simp(disch:=first|omega|simp only[DI.aw];omega) [aI,-ab,-ah,-aa,-ad,-List.map_map]);have aE:W.F 1=some ⟨jC af az,true⟩:=(by rw[<-dq];simp(disch:=first|omega|simp only[DI.aw];omega) [-ab,-ah,-aa,-ad,-List.map_map]);obtain⟨f,r⟩:=nK af W _ qV;cases ae:fb u R (af++[n])
  ·simp(disch:=first|omega|simp only[DI.aw];omega) [f,r,ae,-List.map_append,-ab,-ah,-aa,-ad,-List.map_map];exact key _ _ aM aE (by simp) (by simp) (by simp) (by simp) ae
  ·have e:kR u R af az n=(0,110):=(by unfold kR;rw[if_pos M,if_neg (by simp[ae])]);rw[e];simp(disch:=first|omega|simp only[DI.aw];omega) [f,r,ae,-List.map_append,-ab,-ah,-aa,-ad,-List.map_map]
noncomputable def vx(u:aL)(h:cL u)(A:1<=u.a2.length):bF N:= .cM 30 yq (λx=>x.2.1.length+x.2.2.1.length<=999) (λx=>[.agg (aI u).toArray,bq x.1,.agg (jC x.2.1 x.2.2.1).toArray,D x.2.2.2]) (λx=> .tuple #[D (kR u x.1 x.2.1 x.2.2.1 x.2.2.2).1,D (kR u x.1 x.2.1 x.2.2.1 x.2.2.2).2]) λx B=>aF2 h A B
@[simp] theorem aVu{u:aL}{h:cL u}{A:1<=u.a2.length}:(vx u h A).f=30:=rfl
theorem aHv{u:aL}{h:cL u}{A:1<=u.a2.length}{R af az:List Int}{n:Int}(aj:af.length+az.length<=999):(vx u h A).fn [.agg #[D u.ext,ai (u.e7.map gE) 4,ai (u.cx.map gN) 4,ai (u.aO.map e6) 7,ai (u.aZ.map fH) 3,ai (u.dv.map dU) 17,ai (u.a2.map gD) 2],ai (R.map λx=>[D x]) 1,.agg #[ai (af.map λx=>[D x]) 1,ai (az.map λx=>[D x]) 1],.int .i64 n]=some (.tuple #[D (kR u R af az n).1,D (kR u R af az n).2]):=bF.dK (x:=((R,af,az,n):yq)) aj λ⟨j6,h2,kP,sh⟩ Z=>by simpa[and_assoc]using Z
theorem bP.arv{f:Nat}{args:List Value}{r:Value}(h:bP N f args r):BG N f args λv=>v=r:= λu m dD df ag=>(h u m dD df ag).bt λeA U ⟨A,E,cE,ao,aS⟩=>⟨A,E,r,cE,rfl,ao,aS⟩
noncomputable abbrev aIB(u:aL)(h:cL u)(A:1<=u.a2.length):mq N:=⟨[vx u h A,Uf u h],[]⟩
theorem arX{u:aL}(h:cL u)(A:1<=u.a2.length)(mY:1<=u.aZ.length){L:List (List Int)}{R af az dj:List Int}(aA:af.length+az.length<=900)(u0:dj.length<=1000){fT ib dB:Nat}{z:aD}{t:G}{Q:cO->aD->G->Prop}(hd:t.F fT=some ⟨uL u L R,true⟩)(gO:t.F ib=some ⟨[bq af,bq az],true⟩)(e0:t.F dB=some ⟨dj.map D,true⟩)(cf:z 7=bC fT)(cz:z 9=bC ib)(fr:z 11=bN dB dj.length 1)(fM:z 12=D 0)
 (a6: ∀K X,Q (.cF 0) K X):ee N (.loop Sw) z t Q:=by
 have tX:=aF hd;have cn:=aF gO;have sR:=aF e0;refine gP (ay:=aIB u h A) (λi z X=>(∀b,b=fT\/b=ib\/b=dB->X.F b=t.F b)/\z 7=bC fT/\z 9=bC ib/\z 11=bN dB dj.length 1/\z 12=D i) dj.length ?_ ?_ 0 z t (gd _) ⟨λ_ _=>rfl,cf,cz,fr,fM⟩
 ·rintro i z X Y ⟨O,cf,cz,fr,fM⟩ bO a1;obtain⟨x,B⟩:=gM Y;have cQ:=(cN.1 B).2;have hd:=(O fT (.inl rfl)).trans hd;have gO:=(O ib (.inr (.inl rfl))).trans gO;have e0:=(O dB (.inr (.inr rfl))).trans e0;have tX:=aF hd;have cn:=aF gO;have sR:=aF e0;have bA:(i:Int)<dj.length:=(by omega);have a9:i+1<=dj.length:=Y;have bp:=fB (n:=i) (by omega);simp(disch:=first|omega|simp only[DI.aw];omega) [Sw,cf,cz,fr,fM,hd,gO,e0,bA,a9,cQ,e1,-ab,-ah,-aa,-ad,-List.map_map];refine(aeP ((aps h A mY (R:=R) (af:=af) (az:=az) (n:=x) (by omega)).N1 (λv M=>by simp at M;rcases M with rfl|rfl|rfl|rfl<;>rfl))).bt λv bd ⟨⟨bg,a8⟩,_⟩=> ?_;subst a8;have cD:=aHv (u:=u) (h:=h) (A:=A) (R:=R) (af:=af) (az:=az) (n:=x) (by omega);obtain⟨gG,g8⟩: ∃gG,gG=kR u R af az x:=⟨_,rfl⟩;rw[<-g8]at bg cD;rcases bg with⟨aU,M⟩|⟨aU,s,H,M⟩
  ·subst M;simp(disch:=first|omega|simp only[DI.aw];omega) [Mm,cf,cz,fr,fM,hd,gO,e0,bA,a9,cQ,e1,cD,aU,bp,-ab,-ah,-aa,-ad,-List.map_map];refine a1 _ _ ⟨λb hb=> ?_,by simp[cf],by simp[cz],by simp[fr],by simp⟩;have rQ:b<X.next:=by rcases hb with rfl|rfl|rfl<;>assumption
   rw[cl (by simp;omega),aX (by omega),cl rQ];exact O b hb
  ·subst M;have Tj:af.length*8<=140737488355328/\af.length<=9223372036854775807/\(af.length+1)*8<=140737488355328/\af.length<=9223372036854775806:=(by omega);have He:=aF5 h A (R:=oy u R (af++[x])) (s:=s) ⟨H.1,H.2.1⟩;rw[decide_eq_true H.2.2]at He;have q4:(af++[x]).length<=1000000:=(by simp;omega);by_cases z7:af=[]
   ·have xb:af.length=0:=(by rw[z7];rfl);simp(disch:=first|omega|simp only[DI.aw];omega) [Mm,cf,cz,fr,fM,hd,gO,e0,bA,a9,cQ,e1,cD,aU,xb,-List.map_append,-ab,-ah,-aa,-ad,-List.map_map];generalize uV:G.aK _ (X.next+16+17) (some (en.mk [Value.int IntKind.i64 x] true))=dS;have Eg:dS.F (X.next+16+17)=some ⟨(af++[x]).map D,true⟩:=(by rw[<-uV,z7];exact cb (by simp));have Ij: ∀b,b<X.next->dS.F b=X.F b:= λb hb=>by rw[<-uV,aX (by omega),aX (by omega),cl (by simp;omega),aX (by omega),cl hb]
    have nK: ∀(W:G) (q:Nat),W.F q=some ⟨(af++[x]).map D,true⟩->DI.dx 9 W (bN q 1 1)=some (bq (af++[x]))/\eC 9 W (bN q 1 1)=[q]:= λW q bg=>⟨(tA (e8.cM bg) (by simp[xb])).1,FR (e8.cM bg)⟩;obtain⟨f,r⟩:=nK dS _ Eg;simp(disch:=first|omega|simp only[DI.aw];omega) [f,r,Eg,-List.map_append,-ab,-ah,-aa,-ad,-List.map_map];refine((bP.arv He).N1 (λv M=>by simp at M;rcases M with rfl|rfl|rfl<;>rfl)).bt λv dR ⟨M,a8⟩=> ?_;subst M;subst a8;simp(disch:=first|omega|simp only[DI.aw];omega) [bp,fM,-ab,-ah,-aa,-ad,-List.map_map];refine a1 _ _ ⟨λb hb=> ?_,by simp[cf],by simp[cz],by simp[fr],by simp⟩;have rQ:b<X.next:=by rcases hb with rfl|rfl|rfl<;>assumption
    rw[aX (by omega),Ij b rQ];exact O b hb
   ·have xb: ¬af.length=0:= λe=>z7 (n2 e);have jG:List.take af.length (af.map D)=af.map D:=hx (by simp);have axK: ¬fT=X.next+16+11:=by omega
    simp(disch:=first|omega|simp only[DI.aw];omega) [Mm,cf,cz,fr,fM,hd,gO,e0,bA,a9,cQ,e1,cD,aU,xb,Tj,mc,jG,axK,-List.map_append,-ab,-ah,-aa,-ad,-List.map_map];generalize uV:G.aK _ (X.next+16+17) (some (en.mk (af.map D++[Value.int IntKind.i64 x]) true))=dS;have Eg:dS.F (X.next+16+17)=some ⟨(af++[x]).map D,true⟩:=(by rw[<-uV,p7];exact cb (by simp));have Ij: ∀b,b<X.next->dS.F b=X.F b:= λb hb=>by rw[<-uV,aX (by omega),aX (by omega),aX (by omega),aX (by omega),cl (by simp;omega),aX (by omega),cl hb]
    have nK: ∀(W:G) (q:Nat),W.F q=some ⟨(af++[x]).map D,true⟩->DI.dx 9 W (bN q (af.length+1) 1)=some (bq (af++[x]))/\eC 9 W (bN q (af.length+1) 1)=[q]:= λW q bg=>⟨(tA (e8.cM bg) (by simp)).1,FR (e8.cM bg)⟩;obtain⟨f,r⟩:=nK dS _ Eg;simp(disch:=first|omega|simp only[DI.aw];omega) [f,r,Eg,-List.map_append,-ab,-ah,-aa,-ad,-List.map_map];refine((bP.arv He).N1 (λv M=>by simp at M;rcases M with rfl|rfl|rfl<;>rfl)).bt λv dR ⟨M,a8⟩=> ?_;subst M;subst a8;simp(disch:=first|omega|simp only[DI.aw];omega) [bp,fM,-ab,-ah,-aa,-ad,-List.map_map];refine a1 _ _ ⟨λb hb=> ?_,by simp[cf],by simp[cz],by simp[fr],by simp⟩;have rQ:b<X.next:=by rcases hb with rfl|rfl|rfl<;>assumption
    rw[aX (by omega),Ij b rQ];exact O b hb
 ·rintro z X ⟨O,cf,cz,fr,fM⟩;simp(disch:=first|omega|simp only[DI.aw];omega) [Sw,Mm,fr,fM,-ab,-ah,-aa,-ad,-List.map_map];exact a6 _ _
theorem auR{l:List Int}(aA:l.length<=140737488355328){ops:List zW}{hC:Int}:bP N 6 [bq l,BY ops,D hC] (.bool true):=by
 obtain⟨u,L,R,aIX,br,eH,eN,ck,c9,ha,abt⟩:=aol aA;have bb:=abu br (by decide);refine dJ (c3 (ay:=⟨[T3],[]⟩) aA6 (by kernel_rfl) (by simp[Sg]) ?_);by_cases gI:(10:Int)<ops.length
 ·simp(disch:=first|omega|simp only[DI.aw];omega) [Sg,ZC,gI,-ab,-ah,-aa,-ad,-List.map_map]
 simp(disch:=first|omega|simp only[DI.aw];omega) [Sg,ZC,amP,gI,-ab,-ah,-aa,-ad,-List.map_map];refine(abt _).bt λv bd ⟨M,aH,_⟩=> ?_;subst M;have abk:=aF aH;have MQ:12<bd.next:=abk
 have abp:5<bd.next:=by omega
 have jj:(aI u++[pP L,bq R]).length=9:=rfl;have WL:gV [Value.int IntKind.i64 0,Value.slice none 0 0,Value.slice none 0 0,Value.slice none 0 0,Value.slice none 0 0,Value.slice none 0 0,Value.slice none 0 0,Value.slice none 0 0,Value.slice none 0 0] 0 (aI u++[pP L,bq R])=aI u++[pP L,bq R]:=by simp[gV,aI]
 simp(disch:=first|omega|simp only[DI.aw];omega) [jj,WL,-ab,-ah,-aa,-ad,-List.map_map];have gj:(bd.aK 5 (some ⟨aI u++[pP L,bq R],true⟩)).F 5=some ⟨uL u L R,true⟩:=by rw[cb abp];rfl
 generalize bd.aK 5 _=dR at gj⊢;have CP:=aF gj;simp(disch:=first|omega|simp only[DI.aw];omega) [amQ,-ab,-ah,-aa,-ad,-List.map_map];refine(aeP (apt bb br.iH.1 br.hj.1 (L:=L) (R:=R) (by omega) ck ?_)).bt λv t3 ⟨⟨iv,af,az,aG,aN,ct,M,g⟩,ka⟩=> ?_
 ·rw[cl CP];exact gj
 subst M;have tX:=aF g;have bh:dR.next+6<t3.next:=by simp at ka;omega
 have Tk:az.length*8<=140737488355328/\az.length<=9223372036854775807/\(1+az.length)*8<=140737488355328/\1+az.length<=9223372036854775807:=by omega
 by_cases qR:az=[]
 ·have Aa:az.length=0:=(by rw[qR];rfl);simp(disch:=first|omega|simp only[DI.aw];omega) [ZE,Aa,-ab,-ah,-aa,-ad,-List.map_map];refine arX bb br.iH.1 br.hj.1 (L:=L) (R:=iv) (af:=af) (az:=az) (dj:=[hC]) (by omega) (by simp) (fT:=5) (ib:=dR.next+6) (dB:=t3.next+1) ?_ ?_ (cb (by simp)) (by simp) (by simp) (by simp) (by simp) λK X=> ?_
  ·rw[aX (by omega),cl (by simp;omega),aX (by omega)];exact g
  ·rw[aX (by omega),cl (by simp;omega),cb bh]
  ·simp(disch:=first|omega|simp only[DI.aw];omega) [ZD,-ab,-ah,-aa,-ad,-List.map_map]
 ·have Aa: ¬az.length=0:= λe=>qR (n2 e);simp(disch:=first|omega|simp only[DI.aw];omega) [ZE,Aa,Tk,mc,-ab,-ah,-aa,-ad,-List.map_map];refine arX bb br.iH.1 br.hj.1 (L:=L) (R:=iv) (af:=af) (az:=az) (dj:=hC::az) (by omega) (by simp;omega) (fT:=5) (ib:=dR.next+6) (dB:=t3.next+4) ?_ ?_ (cb (by simp)) (by simp) (by simp) (by simp;omega) (by simp) λK X=> ?_
  ·rw[aX (by omega),aX (by omega),cl (by simp;omega),aX (by omega)];exact g
  ·rw[aX (by omega),aX (by omega),cl (by simp;omega),cb bh]
  ·simp(disch:=first|omega|simp only[DI.aw];omega) [ZD,-ab,-ah,-aa,-ad,-List.map_map]
theorem auP(m:G)(dD:List Value)(h:zO m [CL,IC,.int .i64] dD):eu N 6 dD m λr _=>r= .bool true:=by
 refine aoc (λts a8=> ?_) m dD h;cases a8 with
 | @cons _ d _ vs ok H=>
   cases H with
   | @cons _ qc _ Bn ao8 mD=>
     cases mD with
     | @cons _ hz _ aJH IB iE=>cases iE;rw[anP,apg,ayY];exact auR (anR ok)
end Go.Proofs.YtmmkkggfmigppaaGreat
namespace Go.Proofs.YtmmkkggfmigppaaGreat.drainWhyDone
open Go.ChangeShapes Go.WideShapes Go.ChangeAt Go.RowKit
section
theorem own:ownKnob Tryz.prog.godebug=none:=by kernel_rfl
theorem laidOut:laidOutB Tryz.prog=true:=by kernel_rfl
theorem mixed:Tryz.prog.follows .mixedOrders=true:=by kernel_rfl
set_option maxRecDepth 100000 in
theorem lifted(os:Os)(Ge:os.Started)(g1:Type)(enc:TypeId×Value->g1):
 ReturnsInHanded {} Tryz.checked os 6 .any (Rows.drainWhySpec.pre6 enc Tryz.prog Tryz.f6 Rows.drainWhyRow.domain false) (Rows.drainWhySpec.post enc Tryz.prog Tryz.f6 false true false false):=by
 refine returnsInHanded_of_change_sized (C:=Tryz.checked) own Ge (by kernel_rfl) Tryz.func6
  (ChangeSpec.witness6 (enc:=enc) (C:=Tryz.checked) false ⟨#[],#[.slice none 0 0,.slice none 0 0,.int .i64 0],[]⟩ 8 (by kernel_rfl) (by kernel_rfl) (by kernel_rfl) (by kernel_rfl)) ?_
 intro az base args ds gO Vn Lg pS aw4 XD _;have xE: ∀(j:Nat) t v,Tryz.f6.params[j]?=some t->args[j]?=some v->Value.okWide Tryz.prog az .any base t v:=Lg;have qf:=pS;obtain⟨p,q,KC,cc,rfl,P8,eM⟩:=pS;have Cj:gO=[]:=(trodVars_none cc).1;have oU: ∀n∈DataW.weightsEach Tryz.prog Tryz.f6.params.toList ds,n<=reachBytes:= λn aj=>by have kk:(DataW.weightsEach Tryz.prog (Tryz.f6.params.toList++Rows.drainWhySpec.plain.varTypes Tryz.prog) (ds++gO)).all (· <=reachBytes)=true:=XD;have:=ei.1 kk n (by rw[Cj];simpa[Rows.drainWhySpec,ChangeSpec.plain,DataSpec.varTypes]using aj);simpa using this
 have eh:DataW.TrodAll enc Tryz.prog az 0 (λ_=>true) true Tryz.f6.params.toList args.toList ds p:=KC;have yK:=Go.DI.aob (f:=6) (n:=12) mixed (ts:=Tryz.f6.params.toList) (nw:=[CL,IC,.int .i64]) (by kernel_rfl) (λj t v A E=>xE j t v (by simpa using A) E) eh oU (λm dD h=>auP m dD h);rw[Tryz.params6]at eh xE;obtain⟨v0,aJF,BR,auY,qs,bA,WJ,rfl,rfl,bX,nX⟩:=trodAll_cons eh;obtain⟨wT,aJG,gI,BX,dC,a9,rfl,rfl,rfl,A,eK⟩:=trodAll_cons nX;obtain⟨vG,aJH,hz,agU,fK,bW,rfl,rfl,rfl,E,gp⟩:=trodAll_cons eK;obtain⟨rfl,rfl,rfl⟩:=trodAll_nil gp;obtain rfl:args= #[v0,wT,vG]:=by cases args;simp_all
 obtain⟨rfl,rfl⟩:=trodVars_none cc;have abo: ∀x∈qs,x.block<az.heap.size:=by obtain⟨m,al⟩:=bX;exact DataW.trod_lt m _ _ _ al
 have MQ: ∀x∈dC,x.block<az.heap.size:=by obtain⟨m,al⟩:=A;exact DataW.trod_lt m _ _ _ al
 have aDM: ∀x∈fK,x.block<az.heap.size:=by obtain⟨m,al⟩:=E;exact DataW.trod_lt m _ _ _ al
 clear KC Lg;refine yK.mono λe nC ⟨aU,BJ⟩=> ?_;subst aU;exact⟨_,rfl,_,_,_,[],_,[],qf,trodAll_mk1 (shut_bool (by kernel_rfl) _),(trodAll_cons_mk (Below.trod laidOut (by kernel_rfl) (of_decide_eq_true (by kernel_rfl)) bX BJ abo) (trodAll_cons_mk (Below.trod laidOut (by kernel_rfl) (of_decide_eq_true (by kernel_rfl)) A BJ MQ) (trodAll_cons_mk (Below.trod laidOut (by kernel_rfl) (of_decide_eq_true (by kernel_rfl)) E BJ aDM) trodAll_mk0))),rfl,BJ.frame _,λh=>by cases h⟩
set_option maxRecDepth 10000
theorem gq{a b:Bool}(h:a=true)(cw:b=true):(a&&b)=true:=by rw[h,cw];rfl
theorem aaG:(Rows.drainWhyRow.wf (OpenSpec.ofChange Rows.drainWhySpec))=true:=by kernel_rfl
theorem xP:(laidOutB Tryz.pinned.checked.prog)=true:=by kernel_rfl
theorem xQ:(mapsRowed Tryz.pinned.checked.prog)=true:=by kernel_rfl
theorem AM:(Tryz.f6.params.all (Tryz.pinned.checked.prog.readableRec ·))=true:=by kernel_rfl
theorem Fl:(namedTie Tryz.pinned.checked.prog Rows.drainWhyRow.named Rows.drainWhySpec.vars)=true:=by kernel_rfl
theorem Fm:((Rows.drainWhyRow.stops==[]))=true:=by kernel_rfl
theorem Fo:((Tryz.pinned.checked.prog.stops==[]))=true:=by kernel_rfl
theorem Fp:((Rows.drainWhyRow.knobs==[]))=true:=by kernel_rfl
theorem MJ:((Tryz.pinned.checked.prog.stopKnobs==[]))=true:=by kernel_rfl
theorem Fq:((Rows.drainWhyRow.inPlace==Tryz.pinned.checked.prog.inPlace 6))=true:=by kernel_rfl
theorem aaH:((Rows.drainWhyRow.unfollowed==Tryz.pinned.checked.prog.unfollowed 6))=true:=by kernel_rfl
theorem aaI:((Rows.drainWhyRow.recurses==Tryz.pinned.checked.prog.recurses 6))=true:=by kernel_rfl
theorem aaJ:((Rows.drainWhyRow.named==Tryz.pinned.checked.prog.varsNamed 6))=true:=by kernel_rfl
theorem aaK:((Rows.drainWhyRow.maps==(Tryz.f6.params.toList++Rows.drainWhySpec.plain.varTypes Tryz.pinned.checked.prog).any (Tryz.pinned.checked.prog.mapsRec ·)))=true:=by kernel_rfl
theorem aaL:((Rows.drainWhyRow.ifaces==(Tryz.f6.params.toList++Rows.drainWhySpec.plain.varTypes Tryz.pinned.checked.prog).any (Tryz.pinned.checked.prog.ifacesRec ·)))=true:=by kernel_rfl
theorem aaM:((Rows.drainWhyRow.mapsOut==Tryz.pinned.checked.prog.mapsAmong Tryz.f6.resultTypes.toList))=true:=by kernel_rfl
theorem aaN:((Rows.drainWhyRow.loops==(Tryz.f6.params.toList++Rows.drainWhySpec.plain.varTypes Tryz.pinned.checked.prog).any (Tryz.pinned.checked.prog.loopsFrom ·)))=true:=by kernel_rfl
theorem aaO:((Rows.drainWhyRow.wideKeys==(Tryz.f6.params.toList++Rows.drainWhySpec.plain.varTypes Tryz.pinned.checked.prog++Tryz.f6.resultTypes.toList).any (Tryz.pinned.checked.prog.wideKeysFrom ·)))=true:=by kernel_rfl
theorem aaP:(Rows.drainWhySpec.vars.all (Tryz.pinned.checked.prog.varReadable ·))=true:=by kernel_rfl
theorem aaQ:(Tryz.f6.resultTypes.all (λt=>Tryz.pinned.checked.prog.readableRec t&&decide (t<Tryz.pinned.checked.prog.types.size)))=true:=by kernel_rfl
theorem aaR:((Rows.drainWhyRow.ifacesOut==Tryz.f6.resultTypes.toList.any (Tryz.pinned.checked.prog.ifacesRec ·)))=true:=by kernel_rfl
theorem aaS:((Rows.drainWhyRow.loopsOut==Tryz.f6.resultTypes.toList.any (Tryz.pinned.checked.prog.loopsFrom ·)))=true:=by kernel_rfl
theorem aaT:((Rows.drainWhyRow.plainKeys==Tryz.pinned.checked.prog.plainKeys))=true:=by kernel_rfl
theorem aaU:(Rows.drainWhyRow.shortTexts.isNone)=true:=by kernel_rfl
theorem aaV:(Tryz.pinned.checked.prog.stopsHeard)=true:=by kernel_rfl
theorem aaW:(Tryz.pinned.checked.prog.mayEnter)=true:=by kernel_rfl
theorem aaX:((Rows.drainWhyRow.lifted==Tryz.pinned.checked.prog.liftsFinal))=true:=by kernel_rfl
theorem aaY:((Tryz.pinned.checked.prog.make==some Rows.drainWhyRow.make))=true:=by kernel_rfl
theorem aaZ:((Rows.drainWhyRow.kinds==(if Rows.drainWhyRow.domain.isEmpty then[]else Tryz.f6.params.toList.map λt=>match Tryz.pinned.checked.prog.underlying t with|some (.int k)=>some k|_=>none)))=true:=by kernel_rfl
theorem aa0:((Rows.drainWhyRow.pinned==Rows.drainWhyRow.pinnedBy))=true:=by kernel_rfl
theorem aa1:((Rows.drainWhyRow.veiled==(Tryz.f6.params.toList++Rows.drainWhySpec.plain.varTypes Tryz.pinned.checked.prog++Tryz.f6.resultTypes.toList).any (Tryz.pinned.checked.prog.veiledRec ·)))=true:=by kernel_rfl
theorem aa2:(Rows.drainWhyRow.veiledFits Tryz.pinned.checked.prog Tryz.f6.params.toList (Tryz.f6.params.toList++Rows.drainWhySpec.plain.varTypes Tryz.pinned.checked.prog++Tryz.f6.resultTypes.toList))=true:=by kernel_rfl
theorem aa4:joinedFacts Tryz.pinned.checked.prog 6 Tryz.f6 Rows.drainWhySpec Rows.drainWhyRow=true:=(gq (gq (gq (gq (gq (gq (gq (gq (gq (gq (gq (gq (gq (gq (gq (gq (gq (gq (gq (gq (gq (gq (gq (gq (gq (gq (gq (gq (gq (gq (gq aaG xP) xQ) AM) Fl) Fm) Fo) Fp) MJ) Fq) aaH) aaI) aaJ) aaK) aaL) aaM) aaN) aaO) aaP) aaQ) aaR) aaS) aaT) aaU) aaV) aaW) aaX) aaY) aaZ) aa0) aa1) aa2)
theorem over:Rows.drainWhyRow.holds Tryz.pinned (OpenSpec.ofChange Rows.drainWhySpec):=
 OpenClaim.holds_of_wide 6 Tryz.f6 rfl rfl rfl rfl rfl rfl rfl ⟨rfl,rfl,rfl,rfl,rfl⟩ rfl rfl rfl rfl rfl (by kernel_rfl) Tryz.func6 aa4
  (of_decide_eq_true (by kernel_rfl)) (by unfold Func.isWrapper;first|(rw[if_pos (by decide+kernel)];kernel_rfl)|(rw[if_neg (by decide+kernel)];exact⟨rfl,rfl⟩))
  (λos Ge g1 enc _=>lifted os Ge g1 enc)
theorem proved:Rows.DrainWhySaid:=over
#print axioms proved
end
end Go.Proofs.YtmmkkggfmigppaaGreat.drainWhyDone
namespace Go.Proofs.YtmmkkggfmigppaaGreat
open Go Go.DI Go.Big Go.gU
theorem af8{P:List Int->Bool}{af:List Int}{n:Int}: ∀{l:List Int},qO P af n l= -1\/(qO P af n l∈l/\P (eI af (qO P af n l)++[n])=true)
 |[]=> .inl rfl
 | x::l=>by
   unfold qO;by_cases c:P (eI af x++[n])=true
   ·rw[if_pos c];exact .inr ⟨by simp,c⟩
   ·rw[if_neg c];rcases af8 (P:=P) (af:=af) (n:=n) (l:=l)with h|⟨A,E⟩
    ·exact .inl h
    ·exact .inr ⟨by simp[A],E⟩
theorem aII{u:aL}{l k:List Int}(h:l.Sublist k)(O:gT u k=true):gT u l=true:=by unfold gT at O⊢;rw[a7,ei,eF]at O⊢;exact⟨λx B=>O.1 x (h.subset B),h.nodup O.2⟩
theorem aDn{l:List Int}{x:Int}:(eI l x).Sublist l:=List.filter_sublist
theorem aIH{u:aL}{l:List Int}(h:gT u l=true){x:Int}(B:x∈l):0<x:=by unfold gT at h;rw[a7,ei]at h;have:=h.1 x B;unfold np at this;simp at this;exact this.1
theorem aKC{af:List Int}{x:Int}{k7:List Int}(B:k7[0]?=some x){ib vE:Nat}{dQ:Value}{iw:Value}{z:aD}{t:G}{Q:cO->aD->G->Prop}(eh:af.length<=1000)(Kx:t.F vE=some ⟨[bq af,dQ],true⟩)(gO:t.F ib=some ⟨[iw,bq k7],true⟩)(cf:z 7=bC ib)(fM:z 12=bC vE)(r9:z 14= .bool false)(zv:z 15=D 0)
 (a6: ∀K,K 14= .bool (decide (x∈af))->K 13=z 13->Q (.cF 0) K t):ee N (.loop Mt) z t Q:=by
 have cU:=aF Kx;have cn:=aF gO;refine gP (ay:=⟨[],[]⟩) (λi K X=>X=t/\K 7=bC ib/\K 12=bC vE/\K 13=z 13/\K 14= .bool (decide (x∈af.take i))/\K 15=D i) af.length ?_ ?_ 0 z t (gd _) ⟨rfl,cf,fM,rfl,by simpa using r9,zv⟩
 ·rintro i K X Y ⟨rfl,I9,wS,Bi,Gg,Dq⟩ bO a1;obtain⟨y,Z⟩:=gM Y;have ot:=(cN.1 Z).2;have bA:(i:Int)<af.length:=(by omega);have bp:=fB (n:=i) (by omega);have e:decide (x∈af.take (i+1))=(decide (x∈af.take i)||decide (y=x)):=by
   rw[qF,Z];simp[eq_comm]
  have jv:0<k7.length:=(cN.1 B).1;have cQ:k7[0]=x:=(cN.1 B).2;by_cases c:x∈af.take i
  ·simp(disch:=first|omega|simp only[DI.aw];omega) [Mt,wS,Gg,Dq,Kx,bA,bp,c,-ab,-ah,-aa,-ad,-List.map_map];exact a1 _ _ ⟨rfl,by simp[I9],by simp[wS],by simp[Bi],by rw[e];simp[c],by simp⟩
  ·simp(disch:=first|omega|simp only[DI.aw];omega) [Mt,I9,wS,Gg,Dq,Kx,gO,bA,bp,ot,c,jv,cQ,-ab,-ah,-aa,-ad,-List.map_map];refine a1 _ _ ⟨rfl,by simp[I9],by simp[wS],by simp[Bi],by rw[e];simp[c],by simp⟩
 ·rintro K X ⟨rfl,I9,wS,Bi,Gg,Dq⟩;rw[mQ]at Gg;simp(disch:=first|omega|simp only[DI.aw];omega) [Mt,wS,Dq,Kx,-ab,-ah,-aa,-ad,-List.map_map];exact a6 _ (by simp[Gg]) (by simp[Bi])
theorem auS{l:List Int}(aA:l.length<=140737488355328){ops:List zW}:bP N 7 [bq l,BY ops] (.bool true):=by
 obtain⟨u,L,R,aIX,br,eH,eN,ck,c9,ha,abt⟩:=aol aA;have bb:=abu br (by decide);have nj:=br.iH.1;refine dJ (c3 (ay:=⟨[T3,NH u bb nj,Ua u bb nj],[]⟩) aBb (by kernel_rfl) (by simp[Sx]) ?_);by_cases gI:(10:Int)<ops.length
 ·simp(disch:=first|omega|simp only[DI.aw];omega) [Sx,ZK,gI,-ab,-ah,-aa,-ad,-List.map_map]
 simp(disch:=first|omega|simp only[DI.aw];omega) [Sx,ZK,am6,gI,-ab,-ah,-aa,-ad,-List.map_map];refine(abt _).bt λv bd ⟨M,aH,_⟩=> ?_;subst M;have abk:=aF aH;have MQ:12<bd.next:=abk
 have abp:5<bd.next:=by omega
 have jj:(aI u++[pP L,bq R]).length=9:=rfl;have WL:gV [Value.int IntKind.i64 0,Value.slice none 0 0,Value.slice none 0 0,Value.slice none 0 0,Value.slice none 0 0,Value.slice none 0 0,Value.slice none 0 0,Value.slice none 0 0,Value.slice none 0 0] 0 (aI u++[pP L,bq R])=aI u++[pP L,bq R]:=by simp[gV,aI]
 simp(disch:=first|omega|simp only[DI.aw];omega) [jj,WL,-ab,-ah,-aa,-ad,-List.map_map];have gj:(bd.aK 5 (some ⟨aI u++[pP L,bq R],true⟩)).F 5=some ⟨uL u L R,true⟩:=by rw[cb abp];rfl
 generalize bd.aK 5 _=dR at gj⊢;have CP:=aF gj;simp(disch:=first|omega|simp only[DI.aw];omega) [am7,-ab,-ah,-aa,-ad,-List.map_map];refine(aeP (apt bb br.iH.1 br.hj.1 (L:=L) (R:=R) (by omega) ck ?_)).bt λv t3 ⟨⟨iv,af,az,aG,aN,ct,M,g⟩,ka⟩=> ?_
 ·rw[cl CP];exact gj
 subst M;have tX:=aF g;have bh:dR.next+6<t3.next:=by simp at ka;omega
 obtain⟨gG,g8⟩: ∃gG,gG=jW u iv af az:=⟨_,rfl⟩;have gR:=oZ (u:=u) (h:=bb) (A:=nj) (R:=iv) (af:=af) (az:=az) (by omega);rw[<-g8]at gR;have WA:gG.2.2=0:=by rw[g8];unfold jW;rw[if_pos aN]
 obtain⟨_,hk,hD,p3,Iz⟩:=TW bb.ok (by rw[<-g8];exact WA:(jW u iv af az).2.2=0);rw[<-g8]at hk hD p3 Iz;obtain⟨eK,gp,kZ⟩:=ap7 (P:=fb u iv) (λa b H ae=>acd bb.ok a b H ae) af az;rw[<-hk]at eK gp;rw[<-hD]at gp;have aEi: ¬5=dR.next+6:=by omega
 obtain⟨oF,Wq⟩: ∃oF,oF=gG.1:=⟨_,rfl⟩;obtain⟨k7,PY⟩: ∃k7,k7=gG.2.1:=⟨_,rfl⟩;rw[<-Wq,<-PY]at p3 Iz;rw[<-Wq]at eK gp;rw[<-PY]at gp;by_cases qR:k7=[]
 ·have Aa:k7.length=0:=(by rw[qR];rfl);simp(disch:=first|omega|simp only[DI.aw];omega) [ZL,g,gR,WA,iN,sA,<-PY,Aa,-oZ,-ab,-ah,-aa,-ad,-List.map_map]
 ·have Aa: ¬k7.length=0:= λe=>qR (n2 e);have agK:0<k7.length:=(by omega);obtain⟨x,B⟩: ∃x,k7[0]?=some x:=⟨_,c6 agK⟩;have cQ:k7[0]=x:=(cN.1 B).2;have ai8:x∈k7:=fX B;obtain⟨yr,awP⟩: ∃yr,k7=x::yr:=by
   cases k7 with
   |nil=>exact absurd rfl qR
   |cons y yr=>simp at B;subst B;exact⟨yr,rfl⟩
  simp(disch:=first|omega|simp only[DI.aw];omega) [ZL,am8,g,gR,WA,iN,sA,<-Wq,<-PY,Aa,agK,cQ,-oZ,-ab,-ah,-aa,-ad,-List.map_map];obtain⟨b,hb⟩: ∃b,b=qO (fb u iv) oF x oF:=⟨_,rfl⟩;have KX:kR u iv oF k7 x=(b,0):=by unfold kR;rw[if_pos p3,if_pos ⟨ai8,gp x ai8⟩,<-hb]
  have aiq:oF.length+k7.length<=999:=(by omega);have bg:=aps bb nj br.hj.1 (R:=iv) (af:=oF) (az:=k7) (n:=x) aiq;rw[KX]at bg;generalize dM:(t3.aK (dR.next+6) (some (en.mk [bq oF,bq k7] true))).bU 16=aq;have hd:aq.F 5=some ⟨uL u L iv,true⟩:=(by rw[<-dM,cl (by simpa using tX),aX aEi];exact g);have gO:aq.F (dR.next+6)=some ⟨[bq oF,bq k7],true⟩:=(by rw[<-dM,cl (by simpa using bh),cb bh]);have MZ:aq.next=t3.next+16:=by rw[<-dM];simp
  clear dM;refine(bg.N1 (λv M=>by simp at M;rcases M with rfl|rfl|rfl|rfl<;>rfl)).bt λv t4 ⟨bg,a8⟩=> ?_;subst a8;rcases bg with⟨aU,_⟩|⟨_,s,H,M⟩
  ·exact absurd rfl aU
  subst M;have aSJ:t3.next+13<t4.next:=by omega
  rcases af8 (P:=fb u iv) (af:=oF) (n:=x) (l:=oF)with vZ|⟨vZ,Ha⟩
  ·rw[<-hb]at vZ;subst vZ;simp(disch:=first|omega|simp only[DI.aw];omega) [ZM,-ab,-ah,-aa,-ad,-List.map_map]
  ·rw[<-hb]at vZ Ha;have aiG:=aIH p3 (jP.2 (.inl vZ));have uZ: ¬b<0:=(by omega);have eM:(oF++k7).Nodup:=by
    have:=p3;unfold gT at this;rw[a7,eF]at this;exact this.2
   have awY:b∉k7:= λal=>by rw[zM]at eM;exact eM.2.2 b vZ b al rfl
   have ai3:k4 u iv oF k7 b=jW u iv (eI oF b) k7:=(by unfold k4;rw[if_pos p3,if_pos (.inl vZ),MN awY]);obtain⟨dS,uV⟩: ∃dS,dS=k4 u iv oF k7 b:=⟨_,rfl⟩;have aiU:=aqD (h:=bb) (A:=nj) (R:=iv) (af:=oF) (az:=k7) (n:=b) aiq;rw[<-uV]at aiU;have aiT:gT u (eI oF b++k7)=true:=aII (aDn.append (List.Sublist.refl _)) p3;have awN:dS.2.2=0:=(by rw[uV,ai3];unfold jW;rw[if_pos aiT]);have ahT:dS.1=(ox (fb u iv) (eI oF b) k7).1:=(by rw[uV,ai3];unfold jW;rw[if_pos aiT]);have xx:x∈dS.1:=(by rw[ahT,awP];exact aGi (λa b H ae=>acd bb.ok a b H ae) Ha);have awO:dS.1.length<=1000:=(by have:=acG (P:=fb u iv) (a:=eI oF b) (w:=k7);have:=wC (l:=oF) (x:=b);rw[ahT];omega);have cn:=aF gO;have aDh:=aF hd;have aTC: ¬5=t3.next+13:=by omega
   have aEk: ¬dR.next+6=t3.next+13:=by omega
   simp(disch:=first|omega|simp only[DI.aw];omega) [ZM,am4,uZ,hd,gO,aiU,awN,iN,sA,-ab,-ah,-aa,-ad,-List.map_map];refine aKC B (af:=dS.1) (ib:=dR.next+6) (vE:=t4.next+11) (dQ:=bq dS.2.1) (iw:=bq oF) awO ?_ ?_ (by simp) (by simp) (by simp) (by simp) λK arD arC=> ?_
   ·exact cb (by simp)
   ·rw[aX (by omega),cl (by simp;omega),aX aEk];exact gO
   ·have aJj:K 13=D 0:=(by rw[arC];simp);have aJk:K 14= .bool true:=(by rw[arD,decide_eq_true xx]);simp(disch:=first|omega|simp only[DI.aw];omega) [am5,aJj,aJk,-ab,-ah,-aa,-ad,-List.map_map]
theorem auQ(m:G)(dD:List Value)(h:zO m [CL,IC] dD):eu N 7 dD m λr _=>r= .bool true:=by
 refine aoc (λts a8=> ?_) m dD h;cases a8 with
 | @cons _ d _ vs ok H=>
   cases H with
   | @cons _ qc _ Bn ao8 mD=>cases mD;rw[anP,apg];exact auS (anR ok)
end Go.Proofs.YtmmkkggfmigppaaGreat
namespace Go.Proofs.YtmmkkggfmigppaaGreat.drainYieldsDone
open Go.ChangeShapes Go.WideShapes Go.ChangeAt Go.RowKit
section
theorem own:ownKnob Tryz.prog.godebug=none:=by kernel_rfl
theorem laidOut:laidOutB Tryz.prog=true:=by kernel_rfl
theorem mixed:Tryz.prog.follows .mixedOrders=true:=by kernel_rfl
set_option maxRecDepth 100000 in
theorem lifted(os:Os)(Ge:os.Started)(g1:Type)(enc:TypeId×Value->g1):
 ReturnsInHanded {} Tryz.checked os 7 .any (Rows.drainYieldsSpec.pre6 enc Tryz.prog Tryz.f7 Rows.drainYieldsRow.domain false) (Rows.drainYieldsSpec.post enc Tryz.prog Tryz.f7 false true false false):=by
 refine returnsInHanded_of_change_sized (C:=Tryz.checked) own Ge (by kernel_rfl) Tryz.func7
  (ChangeSpec.witness6 (enc:=enc) (C:=Tryz.checked) false ⟨#[],#[.slice none 0 0,.slice none 0 0],[]⟩ 8 (by kernel_rfl) (by kernel_rfl) (by kernel_rfl) (by kernel_rfl)) ?_
 intro az base args ds gO Vn Lg pS aw4 XD _;have xE: ∀(j:Nat) t v,Tryz.f7.params[j]?=some t->args[j]?=some v->Value.okWide Tryz.prog az .any base t v:=Lg;have qf:=pS;obtain⟨p,q,KC,cc,rfl,P8,eM⟩:=pS;have Cj:gO=[]:=(trodVars_none cc).1;have oU: ∀n∈DataW.weightsEach Tryz.prog Tryz.f7.params.toList ds,n<=reachBytes:= λn aj=>by have kk:(DataW.weightsEach Tryz.prog (Tryz.f7.params.toList++Rows.drainYieldsSpec.plain.varTypes Tryz.prog) (ds++gO)).all (· <=reachBytes)=true:=XD;have:=ei.1 kk n (by rw[Cj];simpa[Rows.drainYieldsSpec,ChangeSpec.plain,DataSpec.varTypes]using aj);simpa using this
 have eh:DataW.TrodAll enc Tryz.prog az 0 (λ_=>true) true Tryz.f7.params.toList args.toList ds p:=KC;have yK:=Go.DI.aob (f:=7) (n:=12) mixed (ts:=Tryz.f7.params.toList) (nw:=[CL,IC]) (by kernel_rfl) (λj t v A E=>xE j t v (by simpa using A) E) eh oU (λm dD h=>auQ m dD h);rw[Tryz.params7]at eh xE;obtain⟨v0,aJF,BR,auY,qs,bA,WJ,rfl,rfl,bX,nX⟩:=trodAll_cons eh;obtain⟨wT,aJG,gI,BX,dC,a9,rfl,rfl,rfl,A,eK⟩:=trodAll_cons nX;obtain⟨rfl,rfl,rfl⟩:=trodAll_nil eK;obtain rfl:args= #[v0,wT]:=by cases args;simp_all
 obtain⟨rfl,rfl⟩:=trodVars_none cc;have abo: ∀x∈qs,x.block<az.heap.size:=by obtain⟨m,al⟩:=bX;exact DataW.trod_lt m _ _ _ al
 have MQ: ∀x∈dC,x.block<az.heap.size:=by obtain⟨m,al⟩:=A;exact DataW.trod_lt m _ _ _ al
 clear KC Lg;refine yK.mono λe nC ⟨aU,BJ⟩=> ?_;subst aU;exact⟨_,rfl,_,_,_,[],_,[],qf,trodAll_mk1 (shut_bool (by kernel_rfl) _),(trodAll_cons_mk (Below.trod laidOut (by kernel_rfl) (of_decide_eq_true (by kernel_rfl)) bX BJ abo) (trodAll_cons_mk (Below.trod laidOut (by kernel_rfl) (of_decide_eq_true (by kernel_rfl)) A BJ MQ) trodAll_mk0)),rfl,BJ.frame _,λh=>by cases h⟩
set_option maxRecDepth 10000
theorem gq{a b:Bool}(h:a=true)(cw:b=true):(a&&b)=true:=by rw[h,cw];rfl
theorem aaG:(Rows.drainYieldsRow.wf (OpenSpec.ofChange Rows.drainYieldsSpec))=true:=by kernel_rfl
theorem xP:(laidOutB Tryz.pinned.checked.prog)=true:=by kernel_rfl
theorem xQ:(mapsRowed Tryz.pinned.checked.prog)=true:=by kernel_rfl
theorem AM:(Tryz.f7.params.all (Tryz.pinned.checked.prog.readableRec ·))=true:=by kernel_rfl
theorem Fl:(namedTie Tryz.pinned.checked.prog Rows.drainYieldsRow.named Rows.drainYieldsSpec.vars)=true:=by kernel_rfl
theorem Fm:((Rows.drainYieldsRow.stops==[]))=true:=by kernel_rfl
theorem Fo:((Tryz.pinned.checked.prog.stops==[]))=true:=by kernel_rfl
theorem Fp:((Rows.drainYieldsRow.knobs==[]))=true:=by kernel_rfl
theorem MJ:((Tryz.pinned.checked.prog.stopKnobs==[]))=true:=by kernel_rfl
theorem Fq:((Rows.drainYieldsRow.inPlace==Tryz.pinned.checked.prog.inPlace 7))=true:=by kernel_rfl
theorem aaH:((Rows.drainYieldsRow.unfollowed==Tryz.pinned.checked.prog.unfollowed 7))=true:=by kernel_rfl
theorem aaI:((Rows.drainYieldsRow.recurses==Tryz.pinned.checked.prog.recurses 7))=true:=by kernel_rfl
theorem aaJ:((Rows.drainYieldsRow.named==Tryz.pinned.checked.prog.varsNamed 7))=true:=by kernel_rfl
theorem aaK:((Rows.drainYieldsRow.maps==(Tryz.f7.params.toList++Rows.drainYieldsSpec.plain.varTypes Tryz.pinned.checked.prog).any (Tryz.pinned.checked.prog.mapsRec ·)))=true:=by kernel_rfl
theorem aaL:((Rows.drainYieldsRow.ifaces==(Tryz.f7.params.toList++Rows.drainYieldsSpec.plain.varTypes Tryz.pinned.checked.prog).any (Tryz.pinned.checked.prog.ifacesRec ·)))=true:=by kernel_rfl
theorem aaM:((Rows.drainYieldsRow.mapsOut==Tryz.pinned.checked.prog.mapsAmong Tryz.f7.resultTypes.toList))=true:=by kernel_rfl
theorem aaN:((Rows.drainYieldsRow.loops==(Tryz.f7.params.toList++Rows.drainYieldsSpec.plain.varTypes Tryz.pinned.checked.prog).any (Tryz.pinned.checked.prog.loopsFrom ·)))=true:=by kernel_rfl
theorem aaO:((Rows.drainYieldsRow.wideKeys==(Tryz.f7.params.toList++Rows.drainYieldsSpec.plain.varTypes Tryz.pinned.checked.prog++Tryz.f7.resultTypes.toList).any (Tryz.pinned.checked.prog.wideKeysFrom ·)))=true:=by kernel_rfl
theorem aaP:(Rows.drainYieldsSpec.vars.all (Tryz.pinned.checked.prog.varReadable ·))=true:=by kernel_rfl
theorem aaQ:(Tryz.f7.resultTypes.all (λt=>Tryz.pinned.checked.prog.readableRec t&&decide (t<Tryz.pinned.checked.prog.types.size)))=true:=by kernel_rfl
theorem aaR:((Rows.drainYieldsRow.ifacesOut==Tryz.f7.resultTypes.toList.any (Tryz.pinned.checked.prog.ifacesRec ·)))=true:=by kernel_rfl
theorem aaS:((Rows.drainYieldsRow.loopsOut==Tryz.f7.resultTypes.toList.any (Tryz.pinned.checked.prog.loopsFrom ·)))=true:=by kernel_rfl
theorem aaT:((Rows.drainYieldsRow.plainKeys==Tryz.pinned.checked.prog.plainKeys))=true:=by kernel_rfl
theorem aaU:(Rows.drainYieldsRow.shortTexts.isNone)=true:=by kernel_rfl
theorem aaV:(Tryz.pinned.checked.prog.stopsHeard)=true:=by kernel_rfl
theorem aaW:(Tryz.pinned.checked.prog.mayEnter)=true:=by kernel_rfl
theorem aaX:((Rows.drainYieldsRow.lifted==Tryz.pinned.checked.prog.liftsFinal))=true:=by kernel_rfl
theorem aaY:((Tryz.pinned.checked.prog.make==some Rows.drainYieldsRow.make))=true:=by kernel_rfl
theorem aaZ:((Rows.drainYieldsRow.kinds==(if Rows.drainYieldsRow.domain.isEmpty then[]else Tryz.f7.params.toList.map λt=>match Tryz.pinned.checked.prog.underlying t with|some (.int k)=>some k|_=>none)))=true:=by kernel_rfl
theorem aa0:((Rows.drainYieldsRow.pinned==Rows.drainYieldsRow.pinnedBy))=true:=by kernel_rfl
theorem aa1:((Rows.drainYieldsRow.veiled==(Tryz.f7.params.toList++Rows.drainYieldsSpec.plain.varTypes Tryz.pinned.checked.prog++Tryz.f7.resultTypes.toList).any (Tryz.pinned.checked.prog.veiledRec ·)))=true:=by kernel_rfl
theorem aa2:(Rows.drainYieldsRow.veiledFits Tryz.pinned.checked.prog Tryz.f7.params.toList (Tryz.f7.params.toList++Rows.drainYieldsSpec.plain.varTypes Tryz.pinned.checked.prog++Tryz.f7.resultTypes.toList))=true:=by kernel_rfl
theorem aa4:joinedFacts Tryz.pinned.checked.prog 7 Tryz.f7 Rows.drainYieldsSpec Rows.drainYieldsRow=true:=(gq (gq (gq (gq (gq (gq (gq (gq (gq (gq (gq (gq (gq (gq (gq (gq (gq (gq (gq (gq (gq (gq (gq (gq (gq (gq (gq (gq (gq (gq (gq aaG xP) xQ) AM) Fl) Fm) Fo) Fp) MJ) Fq) aaH) aaI) aaJ) aaK) aaL) aaM) aaN) aaO) aaP) aaQ) aaR) aaS) aaT) aaU) aaV) aaW) aaX) aaY) aaZ) aa0) aa1) aa2)
theorem over:Rows.drainYieldsRow.holds Tryz.pinned (OpenSpec.ofChange Rows.drainYieldsSpec):=
 OpenClaim.holds_of_wide 7 Tryz.f7 rfl rfl rfl rfl rfl rfl rfl ⟨rfl,rfl,rfl,rfl,rfl⟩ rfl rfl rfl rfl rfl (by kernel_rfl) Tryz.func7 aa4
  (of_decide_eq_true (by kernel_rfl)) (by unfold Func.isWrapper;first|(rw[if_pos (by decide+kernel)];kernel_rfl)|(rw[if_neg (by decide+kernel)];exact⟨rfl,rfl⟩))
  (λos Ge g1 enc _=>lifted os Ge g1 enc)
theorem proved:Rows.DrainYieldsSaid:=over
#print axioms proved
end
end Go.Proofs.YtmmkkggfmigppaaGreat.drainYieldsDone
