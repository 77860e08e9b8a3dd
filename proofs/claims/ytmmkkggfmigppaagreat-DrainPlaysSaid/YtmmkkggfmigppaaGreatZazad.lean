/-
  A part of the proof, shortened by tools of ours.
-/
import Derived.Test.YtmmkkggfmigppaaGreatZazac
set_option linter.all false
set_option maxRecDepth 8000
set_option maxHeartbeats 16000000
namespace Go.Proofs.YtmmkkggfmigppaaGreat
open Go Go.DI Go.Big Go.hR
open Classical in
noncomputable def vY(u:aG)(R:List Int):Bool:=decide (Ie u R)
open Classical in
theorem aoc{u:aG}(h:fj u){R:List Int}{aj:List Int}{iZ:List Bool}(bo:Gd (im u R) aj iZ):vY u R=decide (q6 u<=value (im u R) aj):=by
 unfold vY;have e:Ie u R↔q6 u<=value (im u R) aj:=by
  constructor
  ·rintro⟨vr,A,D⟩;have:=wj (Cw h R) A (s:=Dy iZ) bo.dI bo.eT;rw[<-bo.val]at this;omega
  ·exact λh=>⟨aj,bo.Pt,h⟩
 by_cases c:Ie u R
 ·rw[decide_eq_true c,decide_eq_true (e.1 c)]
 ·rw[rj c,rj λx=>c (e.2 x)]
theorem aeO{u:aG}(h:1<=u.aZ.length){R:List Int}:(im u R).bp≠[]:=by
 show dC u R≠[];intro e;have:(dC u R).length=0:=by rw[e];rfl
 obtain⟨k,S⟩: ∃k,u.aZ.length=k+1:=⟨u.aZ.length-1,by omega⟩;unfold dC at this;rw[S,List.range_succ_eq_map]at this;simp[qw]at this
theorem U9{u:aG}(h:fj u){R:List Int}{a:c4}(aa:a∈dC u R)(ba:dg u 0<=a.t): ∃v d,v<u.aZ.length/\d<u.aY.length/\a=qv u v d:=by
 have bG:=h.hl;have ik:=yJ h;rcases MK.1 aa with⟨v,M,ab⟩|⟨d,aV,rfl⟩
 ·rcases ML.1 ab with rfl|⟨j,aX,rfl⟩|⟨d,aV,_,rfl⟩
  ·have:=pz h M (i:=0) bG;simp only[gF,if_true]at this;have ahT:dg u 0<=2+(v:Int):=ba;omega
  ·have:=pz h M (i:=j+1) (by omega);have ahT:dg u 0<=gF u v (j+1):=ba;omega
  ·exact⟨v,d,M,aV,rfl⟩
 ·have ahT:dg u 0<=1:=ba;omega
theorem N5{u:aG}(h:fj u){v d:Nat}(aV:d<u.aY.length):(gF u v (iD u d)-2-u.aZ.length).tdiv ((u.aP.length:Int)-1)=v/\4<=(u.aP.length:Int)-1:=by
 obtain⟨ab,az⟩:=DB h aV;have aT:4<=iD u d:=by have ef:=h.ni ab (by omega);have a8:jL u (iD u d)<u.aP.length:=(by omega);have e2:=h.ni a8 (by omega);have bV:jL u (jL u (iD u d))<u.aP.length:=(by omega);have hF:=h.ni bV (by omega);have cv:jL u (jL u (jL u (iD u d)))<u.aP.length:=(by omega);have j5:=h.ni cv (by omega);omega
 obtain⟨bU,h9⟩: ∃bU:Nat,u.aP.length=bU+1:=⟨u.aP.length-1,by omega⟩;have aD:((u.aP.length:Int)-1)=bU:=by omega
 have e:gF u v (iD u d)-2-u.aZ.length=v*(bU:Int)+(iD u d-1):=by unfold gF;rw[if_neg (by omega),aD];omega
 rw[e,aD];have G:0<=(v:Int)*bU:=A3 (by omega) (by omega);refine⟨?_,by omega⟩;rw[Int.tdiv_eq_ediv_of_nonneg (by omega),Int.add_comm,Int.add_mul_ediv_right _ _ (by omega),Int.ediv_eq_zero_of_lt (by omega) (by omega)];omega
theorem aGe{dw bU:Nat}(h:dw<=1000/\bU<=1000):CH.fn [.agg #[E dw,E bU],E 0]=some (E (n3 dw bU 0)):=aGf (d:=0) ⟨h.1,h.2,by omega⟩
theorem aDQ{u:aG}(h:cE u){R:List Int}{aj:List Int}(dJ:aj.length=(dC u R).length){fL bk hq kg:Nat}(Wn:fL≠bk/\hq≠bk/\kg≠bk){Q:cM->aC->H->Prop}{z:aC}{t:H}{ps:List Nat}
 (ae:oT t bk ps (List.replicate u.aZ.length [])) (Z:fL∉ps/\hq∉ps/\kg∉ps) (hT:t.I fL=some ⟨[E u.aZ.length,E u.aP.length],true⟩) (eY:t.I hq=some ⟨fV (dC u R),true⟩) (eZ:t.I kg=some ⟨aj.map E,true⟩)
 (bl:z 8=b7 kg aj.length 1) (g6:z 12=bH fL) (pg:z 13=b7 bk u.aZ.length 1) (np:z 49=b7 hq (dC u R).length 4) (mx:z 50=E (dC u R).length) (u3:z 51=E 0) (bb: ∀K af,K 13=b7 bk u.aZ.length 1->Q (.cH 0) K af):ec N (.loop Hc) z t Q:=by
 have eW:=h.ok.fg;have ic:=h.ok.h2;have mo:=h.ok.j4;have bG:=h.ok.hl;have fl:=OJ h.ok (R:=R);have rI:=aGe (dw:=u.aZ.length) (bU:=u.aP.length) (by omega);refine gR (ax:=⟨[CH],[]⟩) (λi z t=>(∃ps L,oT t bk ps L/\L.length=u.aZ.length/\(∀r∈L,r.length<=i)/\fL∉ps/\hq∉ps/\kg∉ps)/\t.I fL=some ⟨[E u.aZ.length,E u.aP.length],true⟩/\t.I hq=some ⟨fV (dC u R),true⟩/\t.I kg=some ⟨aj.map E,true⟩/\z 8=b7 kg aj.length 1/\z 12=bH fL/\z 13=b7 bk u.aZ.length 1/\z 49=b7 hq (dC u R).length 4/\z 50=E (dC u R).length/\z 51=E i) (dC u R).length ?_ ?_ 0 z t (gi _) ⟨⟨ps,_,ae,by simp,λr al=>by rw[(List.mem_replicate.1 al).2];simp,Z.1,Z.2.1,Z.2.2⟩,hT,eY,eZ,bl,g6,pg,np,mx,u3⟩
 ·rintro i z t W ⟨⟨ps,L,ae,gd,al,ef,e2,hF⟩,hT,eY,eZ,bl,g6,pg,np,mx,u3⟩ bM a1;obtain⟨a,B⟩: ∃a,(dC u R)[i]?=some a:=⟨_,c1 W⟩;have yt:=Bb B;have wV:i*4+4<=(dC u R).length*4:=(by omega);have wY:i<aj.length:=(by omega);obtain⟨bc,Y⟩:=gk wY;have mO: ∀h,aj[i]'h=bc:= λh=>(cG.1 Y).2;have ch:=(Cw h.ok R).qu a (fr B);obtain⟨⟨q9,qk⟩,⟨v3,v4⟩,_⟩:=ch;have qk:a.f<dg u u.aY.length:=qk;have v4:a.t<dg u u.aY.length:=v4;have ik:=(yJ h.ok).1;have bC:(i:Int)<(dC u R).length:=(by omega);have a8:(i:Int)<aj.length:=(by omega);have bV:i+1<=aj.length:=wY;have br:=fz (n:=i) (by omega);have E1:=aM hT;have nc:=aM eY;have lG:=aM eZ;have eO:u.aZ.length<=1000/\u.aP.length<=1000:=(by omega);have skip: ∀(K:aC) (af:H),(∀b,b<t.next->af.I b=t.I b)->K 8=z 8->K 12=z 12->K 13=z 13->K 49=z 49->K 50=z 50->K 51=E (i+1:Nat)->bM K af:= λK af k lC atL atM atQ atR atS=>
   a1 _ _ ⟨⟨ps,L,ae.amH k,gd,λr ab=>Nat.le_succ_of_le (al r ab),ef,e2,hF⟩,(k fL E1).trans hT,(k hq nc).trans eY,(k kg lG).trans eZ,lC.trans bl,atL.trans g6,atM.trans pg,atQ.trans np,atR.trans mx,atS⟩
  have Ce: ∀x b,b<t.next->((t.b0 6).aO (t.next+3) x).I b=t.I b:= λx b hb=>by rw[a7 (by omega),cJ hb]
  by_cases b6:a.t<n3 u.aZ.length u.aP.length 0
  ·simp(disch:=first|omega|simp only[DI.aK];omega) [Hc,g6,np,mx,u3,hT,eY,bC,br,yt,wV,gL,rI,b6,-an,-au,-ak,-aq,-List.map_map];exact skip _ _ (Ce _) (by simp) (by simp) (by simp) (by simp) (by simp) (by simp)
  by_cases cR:bc=0
  ·simp(disch:=first|omega|simp only[DI.aK];omega) [Hc,bl,g6,np,mx,u3,hT,eY,eZ,bC,a8,bV,br,yt,wV,gL,rI,b6,mO,cR,fC,-an,-au,-ak,-aq,-List.map_map];exact skip _ _ (Ce _) (by simp) (by simp) (by simp) (by simp) (by simp) (by simp)
  ·obtain⟨v,d,M,aV,nz⟩:=U9 h.ok (fr B) (by rw[<-atD];omega);obtain⟨ahH,aOB⟩:=N5 h.ok (v:=v) aV;have atW:a.f=gF u v (iD u d):=(by rw[nz];rfl);rw[<-atW]at ahH;have W9:v<L.length:=(by omega);obtain⟨r,By⟩:=gk W9;obtain⟨p,KA,uC,iy,kO,WJ⟩:=ae.m1 By;have GX:=al r (fr By);have bq:=ae.jd;have aCx:=aM bq;have E2:=aM iy;have aNQ:=pz h.ok M (DB h.ok aV).1;have ct:IntKind.i64.wrap (a.f-2)=a.f-2:=cY (by omega) (by omega);have dW:IntKind.i64.wrap (a.f-2-u.aZ.length)=a.f-2-u.aZ.length:=cY (by omega) (by omega);have kn:IntKind.i64.wrap ((u.aP.length:Int)-1)=(u.aP.length:Int)-1:=cY (by omega) (by omega);have AR:IntKind.i64.wrap (v:Int)=v:=cY (by omega) (by omega);have El:n3 u.aZ.length u.aP.length 0=dg u 0:=rfl;have ee:=(yJ h.ok).2;have N6:IntKind.i64.wrap (a.t-n3 u.aZ.length u.aP.length 0)=a.t-n3 u.aZ.length u.aP.length 0:=cY (by omega) (by omega);have yL: ¬(u.aP.length:Int)-1=0:=(by omega);have aH4:(v:Int)<u.aZ.length:=(by omega);have aH5:v+1<=u.aZ.length:=M;have e8:(r.length+1)*8<=140737488355328/\r.length<=9223372036854775806:=(by omega);have hc: ¬p=fL:= λe=>ef (e▸uC);have aD: ¬p=bk:= λe=>ae.fL (e▸uC);have aNT: ¬fL=p:= λe=>hc e.symm;have Ph: ¬bk=p:= λe=>aD e.symm;have mN:List.take r.length (r.map E)=r.map E:=h7 (by simp);simp(disch:=first|omega|simp only[DI.aK];omega) [Hc,bl,g6,pg,np,mx,u3,hT,eY,eZ,bC,a8,bV,br,yt,wV,gL,rI,b6,mO,cR,fC,ct,dW,kn,AR,N6,yL,ahH,aH4,bq,iy,kO,WJ,e8,mN,-an,-au,-ak,-aq,-List.map_map];have aJ: ¬hq=p:= λe=>e2 (e▸uC);have cg: ¬kg=p:= λe=>hF (e▸uC);have o1: ∀{b:Nat},b∈ps.set v (t.next+6+12)->b∈ps\/b=t.next+6+12:= λab=>F4 ab
   refine a1 _ _ ⟨⟨ps.set v (t.next+6+12),L.set v (r++[a.t-n3 u.aZ.length u.aP.length 0]),ae.agI By KA ⟨by omega,λab=>by have:=ae.MD ab;omega⟩ ?_ ?_ (λb hb GQ=> ?_),by simp[gd],λs F=> ?_,λab=> ?_,λab=> ?_,λab=> ?_⟩,?_,?_,?_,by simp[bl],by simp[g6],by simp[pg],by simp[np],by simp[mx],by simp⟩
   ·simp(disch:=first|omega|simp only[DI.aK];omega) [-an,-au,-ak,-aq,-List.map_map]
   ·rw[vf];simp(disch:=first|omega|simp only[DI.aK];omega) [-an,-au,-ak,-aq,-List.map_map]
   ·have EX:=ae.MD hb;have nb: ¬b=bk:= λe=>ae.fL (e▸hb);simp(disch:=first|omega|simp only[DI.aK];omega) [-an,-au,-ak,-aq,-List.map_map]
   ·rcases F4 F with F|rfl
    ·exact Nat.le_succ_of_le (al s F)
    ·simp;omega
   ·rcases o1 ab with ab|ab
    ·exact ef ab
    ·omega
   ·rcases o1 ab with ab|ab
    ·exact e2 ab
    ·omega
   ·rcases o1 ab with ab|ab
    ·exact hF ab
    ·omega
   ·have DA:=Wn.1;simp(disch:=first|omega|simp only[DI.aK];omega) [hT,-an,-au,-ak,-aq,-List.map_map]
   ·have DA:=Wn.2.1;simp(disch:=first|omega|simp only[DI.aK];omega) [eY,-an,-au,-ak,-aq,-List.map_map]
   ·have DA:=Wn.2.2;simp(disch:=first|omega|simp only[DI.aK];omega) [eZ,-an,-au,-ak,-aq,-List.map_map]
 ·rintro z t ⟨_,hT,eY,eZ,bl,g6,pg,np,mx,u3⟩;simp(disch:=first|omega|simp only[DI.aK];omega) [Hc,mx,u3,-an,-au,-ak,-aq,-List.map_map];exact bb _ _ (by simp[pg])
theorem aD4{u:aG}(h:cE u)(A:1<=u.aZ.length){R:List Int}{t:H}:fc N 118 [.agg (aI u).toArray,bm R] t λv af=> ∃w,v= .tuple #[w,E (if vY u R then 0 else 12)]:=by
 have eW:=h.ok.fg;have ic:=h.ok.h2;have mo:=h.ok.j4;have bG:=h.ok.hl;have ch:=Cw h.ok R;refine c2 (ax:=⟨[ack u h,CH],[Xp u h]⟩) aiu (by kernel_rfl) (by simp[Qx]) ?_;simp(disch:=first|omega|simp only[DI.aK];omega) [Qx,ait,aI,-an,-au,-ak,-aq,-List.map_map];obtain⟨X,eE⟩: ∃X,X=((((((t.b0 3).aO t.next (some ⟨aI u,true⟩)).b0 9).b0 1).aO (t.next+3+9) (some ⟨fV (dC u R),true⟩)).aO (t.next+3+6) (some ⟨[E (im u R).dQ,E 0,E 1,b7 (t.next+3+9) (dC u R).length 4],true⟩)):=⟨_,rfl⟩;obtain⟨ej,tm⟩: ∃x,x=t.next:=⟨_,rfl⟩
 obtain⟨hq,DX⟩: ∃x,x=t.next+3+9:=⟨_,rfl⟩
 obtain⟨fL,kh⟩: ∃x,x=t.next+3+6:=⟨_,rfl⟩
 have eZ:X.I ej=some ⟨aI u,true⟩:=by rw[eE,tm];simp(disch:=first|omega|simp only[DI.aK];omega) [aI,-an,-au,-ak,-aq,-List.map_map]
 have eY:X.I hq=some ⟨fV (dC u R),true⟩:=by rw[eE,DX];simp(disch:=first|omega|simp only[DI.aK];omega) [-an,-au,-ak,-aq,-List.map_map]
 have hT:X.I fL=some ⟨[E (im u R).dQ,E 0,E 1,b7 hq (dC u R).length 4],true⟩:=by rw[eE,DX,kh];simp(disch:=first|omega|simp only[DI.aK];omega) [-an,-au,-ak,-aq,-List.map_map]
 have aDx:X.next=t.next+13:=by rw[eE];simp
 simp only[aI]at eE;rw[<-eE,<-DX,<-kh,<-tm];clear eE;refine(apD (n:=im u R) (λv m M=>aHl ch M) (aeO A) eY).bD λr af ⟨aj,iZ,bo,al,ba⟩=> ?_;subst al;have e0: ∀b,b<X.next->af.I b=X.I b:= λb hb=>by rw[ba,IG,a7 (by omega),cJ (by simp;omega),a7 (by omega),cJ hb]
 have J2:af.I X.next=some ⟨aj.map E,true⟩:=by rw[ba,IG,a7 (by omega),cJ (by simp),cx (by simp)]
 have aR8:af.next=X.next+2:=by rw[ba,IG];simp
 have eZ:=(e0 ej (aM eZ)).trans eZ;have eY:=(e0 hq (aM eY)).trans eY;have hT:=(e0 fL (aM hT)).trans hT;clear e0 ba;have Kz:=aoc h.ok bo;have dD:=aM eZ;have nc:=aM eY;have E1:=aM hT;have aCr:=aM J2;by_cases c:value (im u R) aj<q6 u
 ·have Ed:vY u R=false:=(by rw[Kz];exact rj (by omega));simp(disch:=first|omega|simp only[DI.aK];omega) [XQ,eZ,aI,c,Ed,-an,-au,-ak,-aq,-List.map_map]
 ·have Ed:vY u R=true:=(by rw[Kz];exact decide_eq_true (by omega));have e8:(u.aZ.length:Int)*24<=140737488355328/\(u.aZ.length:Int)<=9223372036854775807:=(by omega);simp(disch:=first|omega|simp only[DI.aK];omega) [XQ,aiw,eZ,hT,aI,c,Ed,e8,-an,-au,-ak,-aq,-List.map_map];refine aqI (o:=af.next+9+3) (n:=u.aZ.length) (by simp(disch:=first|omega|simp only[DI.aK];omega) [-an,-au,-ak,-aq,-List.map_map]) λeC ps ae kO S o1=> ?_;simp only[eJ,fp]at kO S o1;have aRc:hq<af.next:=nc
  refine aDQ h (R:=R) (aj:=aj) bo.Pt.kK.1 (fL:=af.next+7) (bk:=af.next+9+3) (hq:=hq) (kg:=X.next) (by omega) ae ⟨λab=>by have:=o1 _ ab;omega,λab=>by have:=o1 _ ab;omega,λab=>by have:=o1 _ ab;omega⟩ ?_ ?_ ?_ (by simp) (by simp) (by simp) (by simp) (by simp) (by simp) λK t3 pg=> ?_
  ·rw[S _ (by omega) (by omega)];simp(disch:=first|omega|simp only[DI.aK];omega) [-an,-au,-ak,-aq,-List.map_map]
  ·rw[S _ (by omega) (by omega)];simp(disch:=first|omega|simp only[DI.aK];omega) [eY,-an,-au,-ak,-aq,-List.map_map]
  ·rw[S _ (by omega) (by omega)];simp(disch:=first|omega|simp only[DI.aK];omega) [J2,-an,-au,-ak,-aq,-List.map_map]
  simp(disch:=first|omega|simp only[DI.aK];omega) [aiv,pg,-an,-au,-ak,-aq,-List.map_map]
open Go Go.DI Go.Big
theorem auV{t:H}:fc N 117 [.slice none 0 0,E 0] t λv bj=>v= .slice none 0 0/\bj=t:=by refine c2 (ax:=⟨[],[]⟩) XP (by kernel_rfl) (by simp[Hb]) ?_;have br:IntKind.i64.wrap 0=0:=cY (by omega) (by omega);simp[Hb,XO,br,Ca]
theorem auW{n:Nat}(ae:n<=1000000)(c:0<n):fc N 117 [.slice none 0 0,E n] fJ λv bj=> ∃o,v=b7 o 0 1/\bj.I o=some ⟨List.replicate n (E 0),true⟩:=by
 refine c2 (ax:=⟨[],[]⟩) XP (by kernel_rfl) (by simp[Hb]) ?_;have br:IntKind.i64.wrap 0=0:=cY (by omega) (by omega);have ct:IntKind.i64.wrap (n:Int)=n:=cY (by omega) (by omega);have b6:(0:Int)<n:=by omega
 have cR:(n:Int)*8<=140737488355328/\(n:Int)<=9223372036854775807:=by omega
 simp[Hb,XO,br,ct,c,cR,Ca]
noncomputable def J4(n:Nat)(t:H):Option (Value×H):=if n=0 then some (.slice none 0 0,t)else if n<=1000000 then some (b7 t.next 0 1,(t.b0 1).aO t.next (some ⟨List.replicate n (E 0),true⟩))else none
noncomputable def G6:jg N:= .cK 117 Nat (λn=>[.slice none 0 0,E n]) J4 λn t r af h bA iA=>by
 unfold J4 at h;split at h
 ·next c=>cases h;subst c;exact auV.bD λv af ⟨a,b⟩=>by rw[a,b];exact iA
 ·split at h
  ·next c cR=>cases h;exact(UB (λv M=>by simp at M;rcases M with rfl|rfl<;>rfl) (λv M=>by rw[(List.mem_replicate.1 M).2];rfl) (auW cR (by omega)) t).bD λv af ⟨a,b⟩=>by rw[a,b];exact iA
  ·cases h
@[simp] theorem aPw:G6.f=117:=rfl
@[simp] theorem awW{n:Nat}{t:H}:G6.fn [.slice none 0 0,.int .i64 n] t=J4 n t:=jg.dx (x:=n) (t:=t) λy Y=>by simp at Y;omega
theorem Up{eL:List (List Int)}{i:Nat}{r:List Int}(B:eL[i]?=some r):(eL.take (i+1)).flatten=(eL.take i).flatten++r:=by rw[qm,B];simp
theorem ate{eL:List (List Int)}(A:eL.length<=1000)(D:eL.flatten.length<=1000000):fc N 68 [jO eL] fJ λv bj=> ∃o,v=b7 o eL.flatten.length 1/\bj.I o=some ⟨eL.flatten.map E,true⟩:=by
 refine c2 (ax:=⟨[],[G6]⟩) alH (by kernel_rfl) (by simp[R4]) ?_;have eV: ∀i,(eL.take i).flatten.length<=eL.flatten.length:= λi=>by have:=congrArg List.flatten (List.take_append_drop i eL);rw[List.flatten_append]at this;rw[<-this,iv];omega
 simp(disch:=first|omega|simp only[DI.aK];omega) [R4,alG,-List.length_flatten,-List.map_flatten,-List.map_take,-an,-au,-ak,-aq,-List.map_map];refine gR (ax:=⟨[],[G6]⟩) (λi z t=>t=fJ/\z 0=jO eL/\z 3=E (eL.take i).flatten.length/\z 9=jO eL/\z 10=E eL.length/\z 11=E i) eL.length ?_ ?_ 0 _ _ (gi _) ⟨by simp,by simp,by simp,by simp,by simp,by simp⟩
 ·rintro i z t W ⟨ba,bO,bW,cP,e4,gn⟩ bM a1;have B:eL[i]?=some eL[i]:=c1 W;have qK:=eV (i+1);have e:(eL.take (i+1)).flatten.length=(eL.take i).flatten.length+eL[i].length:=(by rw[Up B,iv]);have br:=fz (n:=i) (by omega);have ct:IntKind.i64.wrap (((eL.take i).flatten.length:Int)+eL[i].length)=((eL.take i).flatten.length:Int)+eL[i].length:=cY (by omega) (by omega);have bC:(i:Int)<eL.length:=(by omega);have a8: ¬((eL.take i).flatten.length:Int)+eL[i].length<0:=(by omega);simp(disch:=first|omega|simp only[DI.aK];omega) [R6,HI,R5,bW,cP,e4,gn,bC,a8,br,ct,lq,-List.length_flatten,-an,-au,-ak,-aq,-List.map_map];exact a1 _ _ ⟨ba,by simp[bO],by rw[e];simp[-List.length_flatten],by simp[cP],by simp[e4],by simp⟩
 ·rintro z t ⟨ba,bO,bW,cP,e4,gn⟩;subst ba;rw[mY]at bW;have key: ∀(z:aC) (t:H) (o:Nat) (cs:List Value),z 6=b7 o 0 1->t.I o=some ⟨cs,true⟩->z 25=jO eL->z 26=E eL.length->z 27=E 0-> ∀Q:cM->aC->H->Prop,(cs.length=0\/0<eL.flatten.length)->(∀K af o',K 6=b7 o' eL.flatten.length 1->af.I o'=some ⟨eL.flatten.map E,true⟩->Q (.cH 2) K af)->ec N (.loop LL) z t Q:=by
   intro z t o cs bB bq ph oL pj Q bY bb;refine gR (ax:=⟨[],[G6]⟩) (λi z t=>(∃o cs,z 6=b7 o (eL.take i).flatten.length 1/\t.I o=some ⟨cs,true⟩/\cs.take (eL.take i).flatten.length=(eL.take i).flatten.map E/\(cs.length=(eL.take i).flatten.length\/((eL.take i).flatten.length=0/\0<eL.flatten.length)))/\z 25=jO eL/\z 26=E eL.length/\z 27=E i) eL.length ?_ ?_ 0 _ _ (gi _) ⟨⟨o,cs,by simp[bB],bq,by simp,by simpa using bY⟩,ph,oL,pj⟩
   ·rintro i z t W ⟨⟨o,cs,bB,bq,ia,Wl⟩,ph,oL,pj⟩ bM a1;have B:eL[i]?=some eL[i]:=c1 W;have qK:=eV (i+1);have e:(eL.take (i+1)).flatten.length=(eL.take i).flatten.length+eL[i].length:=(by rw[Up B,iv]);have br:=fz (n:=i) (by omega);have bC:(i:Int)<eL.length:=(by omega);have bk:=aM bq;have e8:((eL.take i).flatten.length+eL[i].length)*8<=140737488355328/\(eL.take i).flatten.length+eL[i].length<=9223372036854775807:=(by omega);have aw3:(eL[i].map λs=>[E s]).flatten=eL[i].map E:=l5;have cu:(eL.take i).flatten.length<=cs.length:=(by omega);by_cases c:eL[i]=[]
    ·have aJ:(eL.take (i+1)).flatten=(eL.take i).flatten:=(by rw[Up B,c,r8]);simp(disch:=first|omega|simp only[DI.aK];omega) [LL,bB,ph,oL,pj,bC,br,lq,bq,cu,c,-List.length_flatten,-List.map_flatten,-List.map_take,-an,-au,-ak,-aq,-List.map_map];refine⟨by omega,a1 _ _ ⟨⟨o,cs,by rw[aJ];simp[-List.length_flatten],by rw[H.cJ];exact bq,by rw[aJ];exact ia,by rw[aJ];exact Wl⟩,by simp[ph],by simp[oL],by simp⟩⟩
    ·simp(disch:=first|omega|simp only[DI.aK];omega) [LL,bB,ph,oL,pj,bC,br,lq,bq,ia,cu,e8,aw3,c,-List.length_flatten,-List.map_flatten,-List.map_take,-an,-au,-ak,-aq,-List.map_map];refine a1 _ _ ⟨⟨t.next+2,(eL.take (i+1)).flatten.map E,by rw[e];simp[-List.length_flatten],?_,h7 (by rw[k8];exact c8 _),.inl (by rw[k8])⟩,by simp[ph],by simp[oL],by simp⟩;rw[Up B,vf];rw[cx (by simp)]
   ·rintro z t ⟨⟨o,cs,bB,bq,ia,Wl⟩,ph,oL,pj⟩;rw[mY]at bB ia Wl;simp(disch:=first|omega|simp only[DI.aK];omega) [LL,oL,pj];have ar:cs.length=eL.flatten.length:=(by omega);refine bb _ _ o (by simp[bB,-List.length_flatten]) ?_;rw[bq,<-ia,h7 (by omega)]
  by_cases c:eL.flatten.length=0
  ·have aGb:z 3=E 0:=(by rw[bW,c];rfl);have aH: ∀t,G6.fn [.slice none 0 0,.int .i64 0] t=some (.slice none 0 0,t):= λt=>awW (n:=0);simp(disch:=first|omega|simp only[DI.aK];omega) [R6,HI,HI,bO,aGb,e4,gn,aH,-List.length_flatten,-List.map_flatten,-List.map_take,-an,-au,-ak,-aq,-List.map_map];refine tY (d:=6) (G:=1) (by simp) ?_;refine key _ _ fJ.next [] (by simp) (by rw[cx (by simp)]) (by simp) (by simp) (by simp) _ (.inl rfl) λK af o' bB bq=> ?_
   simp(disch:=first|omega|simp only[DI.aK];omega) [R5,bB,-List.length_flatten,-List.map_flatten,-List.map_take,-an,-au,-ak,-aq,-List.map_map];exact bq
  ·have aH: ∀t,J4 eL.flatten.length t=some (b7 t.next 0 1,(t.b0 1).aO t.next (some ⟨List.replicate eL.flatten.length (E 0),true⟩)):= λt=>by unfold J4;rw[if_neg c,if_pos D]
   simp(disch:=first|omega|simp only[DI.aK];omega) [R6,HI,HI,bO,bW,e4,gn,aH,-List.length_flatten,-List.map_flatten,-List.map_take,-an,-au,-ak,-aq,-List.map_map];refine key _ _ 0 (List.replicate eL.flatten.length (E 0)) (by simp) (by rw[cx (by simp[fJ])]) (by simp) (by simp) (by simp) _ (.inr (by omega)) λK af o' bB bq=> ?_;simp(disch:=first|omega|simp only[DI.aK];omega) [R5,bB,-List.length_flatten,-List.map_flatten,-List.map_take,-an,-au,-ak,-aq,-List.map_map];exact bq
theorem atd{eL:List (List Int)}(A:eL.length<=1000)(D:eL.flatten.length<=1000000):bP N 68 [jO eL] (bm eL.flatten):=
 NZ (n:=eL.flatten.length) (by rw[k8]) su (by rw[l5];exact ate A D)
noncomputable def TO:bx N:= .cK 68 (List (List Int)) (λeL=>eL.length<=1000/\eL.flatten.length<=1000000) (λeL=>[jO eL]) (λeL=>bm eL.flatten) λeL h=>atd h.1 h.2
@[simp] theorem aTJ:TO.f=68:=rfl
theorem aGd{eL:List (List Int)}(h:eL.length<=1000/\eL.flatten.length<=1000000):TO.fn [ad (eL.map lq) 1]=some (bm eL.flatten):=bx.dx (x:=eL) h λy Y=>by simpa using Y
theorem aG0{l k:List Int}(az:l.length<=1000000)(S:k.length<=1000000):bP N 20 [bm l,bm k] (.bool (decide (l=k))):=by
 refine du (c2 (ax:=⟨[],[]⟩) ajL (by kernel_rfl) (by simp[Lj]) ?_);by_cases c:l.length=k.length
 ·have Jx:(l.length:Int)=k.length:=(by omega);simp[Lj,Yk,c];refine gR (ax:=⟨[],[]⟩) (λi z t=>z 0=bm l/\z 1=bm k/\z 5=E i/\ ∀j,j<i->l[j]?=k[j]?) l.length ?_ ?_ 0 _ _ (gi _) ⟨by simp,by simp,by simp,λj aX=>absurd aX (xO _)⟩
  ·rintro i z t W ⟨bO,aU,bz,jk⟩ bM a1;have B:l[i]?=some l[i]:=c1 W;have lh:i<k.length:=(by omega);have Y:k[i]?=some k[i]:=c1 lh;have bC:(i:Int)<l.length:=(by omega);have a8:(i:Int)<k.length:=(by omega);have br:=fz (n:=i) (by omega);by_cases e:l[i]=k[i]
   ·simp(disch:=first|omega|simp only[DI.aK];omega) [Rg,Lk,bO,aU,bz,a8,br,e,c,-an,-au,-ak,-aq,-List.map_map];refine a1 _ _ ⟨by simp[bO],by simp[aU],by simp,λj aX=> ?_⟩;by_cases cR:j=i
    ·subst cR;rw[B,Y,e]
    ·exact jk j (by omega)
   ·have hl: ¬l=k:= λh=>e (by subst h;rfl);simp(disch:=omega) [Rg,Lk,bO,aU,bz,a8,e,c,hl]
  ·rintro z t ⟨bO,aU,bz,jk⟩;have e:l=k:=by
    apply ze;intro j;by_cases aX:j<l.length
    ·exact jk j aX
    ·rw[re (by omega),re (by omega)]
   subst e;simp[Rg,Lk,Lk,bO,bz]
 ·have Jx: ¬(l.length:Int)=k.length:=(by omega);have hl: ¬l=k:= λh=>c (by rw[h]);simp[Lj,Yk,Jx,hl]
noncomputable def acD:bx N:= .cK 20 (List Int×List Int) (λx=>x.1.length<=1000000/\x.2.length<=1000000) (λx=>[bm x.1,bm x.2]) (λx=> .bool (decide (x.1=x.2))) λ_ h=>aG0 h.1 h.2
@[simp] theorem aVy:acD.f=20:=rfl
@[simp] theorem aVz{l k:List Int}(h:l.length<=1000000/\k.length<=1000000):acD.fn [ad (l.map λx=>[E x]) 1,ad (k.map λx=>[E x]) 1]=some (.bool (decide (l=k))):=bx.dx (x:=(l,k)) h λ⟨ko,h6⟩ Y=>by simpa using Y
def p7(u:aG)(c9:List Int)(d:Nat):Bool:=c9.any λn=>ly u d n
theorem S6{u:aG}{c9:List Int}{i d:Nat}{n:Int}(B:c9[i]?=some n):p7 u (c9.take (i+1)) d=(p7 u (c9.take i) d||ly u d n):=by unfold p7;rw[qm,B];simp
theorem asj{u:aG}(h:fj u){d:Nat}(aV:d<u.aY.length){n:Int}(ae:n=0\/mb u n=false):ly u d n=false:=by
 have bG:=h.hl;obtain⟨x,B⟩:=gk aV;unfold ly;simp only[B];have A: ¬n=(u.aP.length:Int)+d:=by
  rintro rfl;rcases ae with h|h
  ·omega
  ·simp[mb]at h;omega
 have D: ¬(0<n/\n<(u.aP.length:Int)):=by
  rintro⟨a,b⟩;rcases ae with h|h
  ·omega
  ·simp[mb]at h;omega
 rw[rj A,Bool.false_or];by_cases c:0<n
 ·rw[rj (λcR:n<(u.aP.length:Int)=>D ⟨c,cR⟩)];simp
 ·rw[rj c];simp
theorem ae5{u:aG}(h:fj u){d:Nat}(aV:d<u.aY.length){n:Int}(bY: ¬n=0)(ae:mb u n=true):(d:Int)∈lW u n↔ly u d n=true:=by
 rw[aaw h ae];constructor
 ·rintro⟨lB,e,A,D|D⟩
  ·exact absurd D bY
  ·obtain rfl:d=lB:=(by omega);exact D
 ·exact λhb=>⟨d,rfl,aV,.inr hb⟩
theorem aoS{u:aG}{R c9:List Int}:(mV u R c9).map E=iW u.aY.length λd=>E (if p7 u c9 d then 0 else h4 u R d):=by unfold mV p7;rw[Im]
theorem aEb{u:aG}(h:cE u){R c9:List Int}(vK:c9.length<=1000000):fc N 21 [.agg (aI u).toArray,bm R,bm c9] fJ λv bj=> ∃o,v=b7 o u.aY.length 1/\bj.I o=some ⟨(mV u R c9).map E,true⟩:=by
 have M:=h.ok.xK;have eW:=h.ok.fg;have ic:=h.ok.h2;have bG:=h.ok.hl;refine c2 (ax:=⟨[CM u h.fX,xD u (by omega) (by omega),CG u h],[KL u h]⟩) ajY (by kernel_rfl) (by simp[Rh]) ?_;simp(disch:=first|omega|simp only[DI.aK];omega) [Rh,ajX,aI,-an,-au,-ak,-aq,-List.map_map];refine gR (ax:=⟨[CM u h.fX,xD u (by omega) (by omega),CG u h],[KL u h]⟩) (λi z t=>(∃o,o≠0/\z 7=b7 o u.aY.length 1/\t.I o=some ⟨iW u.aY.length (λd=>E (if p7 u (c9.take i) d then 0 else h4 u R d)),true⟩)/\t.I 0=some ⟨aI u,true⟩/\z 3=bH 0/\z 18=bm c9/\z 19=E c9.length/\z 20=E i) c9.length ?_ ?_ 0 _ _ (gi _) ?_
 ·rintro i z t W ⟨⟨o,aB,ca,bq⟩,aL,bW,kV,lM,pP⟩ bM a1;obtain⟨n,B⟩:=gk W;have cS:=(cG.1 B).2;have bC:(i:Int)<c9.length:=(by omega);have br:=fz (n:=i) (by omega);have dD:=aM aL;have bk:=aM bq;have skip:(n=0\/mb u n=false)->iW u.aY.length (λd=>E (if p7 u (c9.take (i+1)) d then 0 else h4 u R d))=iW u.aY.length (λd=>E (if p7 u (c9.take i) d then 0 else h4 u R d)):= λae=>sH λd aV=>by rw[S6 B,asj h.ok aV ae,Bool.or_false]
  by_cases c:n=0
  ·have e:=skip (.inl c);subst c;simp(disch:=first|omega|simp only[DI.aK];omega) [Ln,kV,lM,pP,bC,br,cS,-an,-au,-ak,-aq,-List.map_map];exact a1 _ _ ⟨⟨o,aB,by simp[ca],by rw[e];exact bq⟩,aL,by simp[bW],by simp[kV],by simp[lM],by simp⟩
  cases ae:mb u n
  ·have e:=skip (.inr ae);simp(disch:=first|omega|simp only[DI.aK];omega) [Ln,bW,kV,lM,pP,aL,aI,bC,br,cS,c,ae,-an,-au,-ak,-aq,-List.map_map];exact a1 _ _ ⟨⟨o,aB,by simp[ca],by rw[e];exact bq⟩,aL,by simp[bW],by simp[kV],by simp[lM],by simp⟩
  ·simp(disch:=first|omega|simp only[DI.aK];omega) [Ln,bW,kV,lM,pP,aL,aI,bC,cS,c,ae];have DY:=ae6 h (n:=n);have k0: ∀x∈lW u n,∃d:Nat,x=d/\d<u.aY.length:= λx B=>by
    obtain⟨d,a,b,_⟩:=(aaw h.ok ae).1 B;exact⟨d,a,b⟩
   refine gR (ax:=⟨[CM u h.fX,xD u (by omega) (by omega),CG u h],[KL u h]⟩) (λk z t=>t.I o=some ⟨iW u.aY.length (λd=>if(d:Int)∈(lW u n).take k then E 0 else E (if p7 u (c9.take i) d then 0 else h4 u R d)),true⟩/\t.I 0=some ⟨aI u,true⟩/\z 3=bH 0/\z 7=b7 o u.aY.length 1/\z 18=bm c9/\z 19=E c9.length/\z 20=E i/\z 34=bm (lW u n)/\z 35=E (lW u n).length/\z 36=E k) (lW u n).length ?_ ?_ 0 _ _ (gi _) ?_
   ·rintro k z t S ⟨bq,aL,bW,ca,kV,lM,pP,ab2,TI,ab3⟩ aeo GD;have Y:(lW u n)[k]?=some (lW u n)[k]:=c1 S;obtain⟨d,aV,BG⟩:=k0 _ (kd S);have a8:(k:Int)<(lW u n).length:=(by omega);have ct:=fz (n:=k) (by omega);have bk:=aM bq;have BF:d+1<=u.aY.length:=BG;have bV:(d:Int)<u.aY.length:=(by omega);rw[aV]at Y;simp(disch:=omega) [Yl,ca,ab2,TI,ab3,bq,a8,bV,ct,aV,BF,Fp];refine GD _ _ ⟨?_,by rw[a7 (λe=>aB e.symm)];exact aL,by simp[bW],by simp[ca],by simp[kV],by simp[lM],by simp[pP],by simp[ab2],by simp[TI],by simp⟩;rw[cx bk];congr 2;refine sH λj aX=> ?_;by_cases e:j=d
    ·subst e;rw[if_pos rfl,if_pos (by rw[qm,Y];simp)]
    ·have aJ:((j:Int)∈(lW u n).take (k+1))↔(j:Int)∈(lW u n).take k:=by
      rw[qm,Y];simp;omega
     rw[if_neg e];simp only[aJ]
   ·rintro z t ⟨bq,aL,bW,ca,kV,lM,pP,ab2,TI,ab3⟩;rw[mY]at bq;simp(disch:=omega) [Yl,pP,TI,ab3,br];refine a1 _ _ ⟨⟨o,aB,by simp[ca],?_⟩,aL,by simp[bW],by simp[kV],by simp[lM],by simp⟩;rw[bq];congr 2;refine sH λd aV=> ?_;rw[S6 B];by_cases e:(d:Int)∈lW u n
    ·rw[if_pos e,(ae5 h.ok aV c ae).1 e,Bool.or_true,if_pos rfl]
    ·have aJ:ly u d n=false:=by
      cases hb:ly u d n with
      |false=>rfl
      |true=>exact absurd ((ae5 h.ok aV c ae).2 hb) e
     rw[if_neg e,aJ,Bool.or_false]
   ·exact⟨by simpa using bq,aL,by simp[bW],by simp[ca],by simp[kV],by simp[lM],by simp[pP],by simp,by simp,by simp⟩
 ·rintro z t ⟨⟨o,aB,ca,bq⟩,aL,bW,kV,lM,pP⟩;rw[mY]at bq;simp(disch:=omega) [Ln,ca,lM,pP];rw[aoS];exact bq
 ·refine⟨⟨2,by decide,by simp,?_⟩,by simp(disch:=first|omega|simp only[DI.aK];omega) [aI],by simp,by simp,by simp,by simp⟩;rw[cx (by simp[fJ]),AA,Im];rfl
theorem aEa{u:aG}(h:cE u){R c9:List Int}(vK:c9.length<=1000000):bP N 21 [.agg (aI u).toArray,bm R,bm c9] (bm (mV u R c9)):=
 NZ (n:=u.aY.length) (by rw[k8,abM]) su (by rw[l5];exact aEb h vK)
theorem aFx{u:aG}(h:cE u){R c9:List Int}(vK:c9.length<=1000000):fc N 22 [.agg (aI u).toArray,bm R,bm c9] fJ λv bj=> ∃o,v=b7 o u.aY.length 1/\bj.I o=some ⟨(mV u R c9).map E,true⟩:=by
 have M:=h.ok.xK;have ic:=h.ok.h2;refine c2 (ax:=⟨[FB u h.fX,NB u h],[KM u h]⟩) ayx (by kernel_rfl) (by simp[Ym]) ?_;simp(disch:=first|omega|simp only[DI.aK];omega) [Ym,aka,aI,-an,-au,-ak,-aq,-List.map_map];refine gR (ax:=⟨[FB u h.fX,NB u h],[KM u h]⟩) (λi z t=>t.I 2=some ⟨iW u.aY.length (λd=>E (if d<i/\p7 u c9 d=true then 0 else h4 u R d)),true⟩/\t.I 0=some ⟨aI u,true⟩/\z 2=bm c9/\z 3=bH 0/\z 7=b7 2 u.aY.length 1/\z 8=E i) u.aY.length ?_ ?_ 0 _ _ (gi _) ?_
 ·rintro i z t W ⟨bq,aL,bS,bW,ca,bl⟩ bM a1;have bC:(i:Int)<u.aY.length:=(by omega);have br:=fz (n:=i) (by omega);simp(disch:=first|omega|simp only[DI.aK];omega) [Yt,ca,bl,bC,-an,-au,-ak,-aq,-List.map_map];refine gR (ax:=⟨[FB u h.fX,NB u h],[KM u h]⟩) (λk z t=>t.I 2=some ⟨iW u.aY.length (λd=>E (if(d<i/\p7 u c9 d=true)\/(d=i/\p7 u (c9.take k) d=true)then 0 else h4 u R d)),true⟩/\t.I 0=some ⟨aI u,true⟩/\z 2=bm c9/\z 3=bH 0/\z 7=b7 2 u.aY.length 1/\z 8=E i/\z 9=E k) c9.length ?_ ?_ 0 _ _ (gi _) ?_
  ·rintro k z t S ⟨bq,aL,bS,bW,ca,bl,cP⟩ aeo GD;obtain⟨n,B⟩:=gk S;have cS:=(cG.1 B).2;have a8:(k:Int)<c9.length:=(by omega);have ct:=fz (n:=k) (by omega);have dD:=aM aL;have bk:=aM bq;have BF:i+1<=u.aY.length:=W;cases hb:ly u i n
   ·simp(disch:=first|omega|simp only[DI.aK];omega) [Rr,bS,bW,bl,cP,aL,aI,a8,ct,cS,hb,-an,-au,-ak,-aq,-List.map_map];refine GD _ _ ⟨?_,aL,by simp[bS],by simp[bW],by simp[ca],by simp[bl],by simp⟩;show t.I 2=_;rw[bq];congr 2;refine sH λd aV=> ?_;by_cases e:d=i
    ·subst e;rw[S6 B,hb,Bool.or_false]
    ·simp only[e,false_and]
   ·simp(disch:=first|omega|simp only[DI.aK];omega) [Rr,bS,bW,ca,bl,cP,aL,aI,bC,a8,ct,cS,BF,hb,bq,Fp,-an,-au,-ak,-aq,-List.map_map];refine GD _ _ ⟨?_,by rw[a7 (by decide)];exact aL,by simp[bS],by simp[bW],by simp[ca],by simp[bl],by simp⟩;rw[cx bk];congr 2;refine sH λd aV=> ?_;by_cases e:d=i
    ·subst e;rw[S6 B,hb,Bool.or_true];simp
    ·simp only[e,false_and,if_false]
  ·rintro z t ⟨bq,aL,bS,bW,ca,bl,cP⟩;rw[mY]at bq;simp[Rr,bS,bl,cP,br];refine a1 _ _ ⟨?_,aL,by simp[bS],by simp[bW],by simp[ca],by simp⟩;rw[bq];congr 2;refine sH λd aV=> ?_;congr 1;by_cases hb:p7 u c9 d=true
   ·by_cases e:d<i+1
    ·have aJ:(d<i/\p7 u c9 d=true)\/(d=i/\p7 u c9 d=true):=by
      rcases Nat.lt_succ_iff_lt_or_eq.1 e with c|c
      ·exact .inl ⟨c,hb⟩
      ·exact .inr ⟨c,hb⟩
     rw[if_pos aJ,if_pos ⟨e,hb⟩]
    ·have aJ: ¬((d<i/\p7 u c9 d=true)\/(d=i/\p7 u c9 d=true)):=by
      rintro(⟨c,_⟩|⟨c,_⟩)<;>omega
     rw[if_neg aJ,if_neg (λc=>e c.1)]
   ·rw[if_neg (by simp[hb]),if_neg (by simp[hb])]
  ·refine⟨?_,aL,by simp[bS],by simp[bW],by simp[ca],by simp[bl],by simp⟩;rw[bq];congr 2;refine sH λd aV=> ?_;congr 1;have e:p7 u (c9.take 0) d=false:=rfl;simp only[e,je,and_false,or_false]
 ·rintro z t ⟨bq,aL,bS,bW,ca,bl⟩;simp[Yt,ca,bl];rw[bq,aoS];congr 2;refine sH λd aV=> ?_;simp only[aV,true_and]
 ·refine⟨?_,by simp[aI],by simp,by simp,by simp,by simp⟩;rw[cx (by simp[fJ]),AA,Im];congr 2
theorem aFw{u:aG}(h:cE u){R c9:List Int}(vK:c9.length<=1000000):bP N 22 [.agg (aI u).toArray,bm R,bm c9] (bm (mV u R c9)):=
 NZ (n:=u.aY.length) (by rw[k8,abM]) su (by rw[l5];exact aFx h vK)
def nH(u:aG)(n:Int):Bool:=decide (0<n)&&decide (n<(u.aP.length:Int)+u.aY.length)
theorem Ti{u:aG}{n:Int}:nH u n=(!decide (n=0)&&mb u n):=by
 unfold nH mb;by_cases c:n=0
 ·subst c;simp
 ·by_cases cR:0<n
  ·have:0<=n:=(by omega);simp[c,cR,this]
  ·have: ¬0<=n:=(by omega);simp[cR,this]
def hg(u:aG)(l:List Int):Bool:=l.all (nH u)&&decide l.Nodup
abbrev jV(ao ay:List Int):List Value:=[bm ao,bm ay]
theorem anK{l:List Int}{i:Nat}{x:Int}(B:l[i]?=some x)(aV:(l.take i).Nodup)(ae:x∉l.take i):(l.take (i+1)).Nodup:=by rw[qm,B];simp only[Option.toList_some];rw[AY];refine⟨aV,by simp,λa aa b hb=> ?_⟩;simp at hb;subst hb;rintro rfl;exact ae aa
theorem atI{l:List Int}{i:Nat}{x:Int}(B:l[i]?=some x)(ab:x∈l.take i): ¬l.Nodup:= λaV=>by
 have W:=(cG.1 B).1;obtain⟨j,aX,aQ⟩:=lN ab;rw[List.getElem_take]at aQ;have lD:j<i:=by rw[ri]at aX;omega
 have:=(za.1 aV j i (by omega) W lD);exact this (aQ.trans ((cG.1 B).2).symm)
theorem ac3{u:aG}{l:List Int}{i:Nat}{x:Int}(B:l[i]?=some x)(h:nH u x=false):hg u l=false:=by unfold hg;have:l.all (nH u)=false:=IY.2 ⟨x,fr B,by simp[h]⟩;rw[this];rfl
theorem apJ{u:aG}{l:List Int}{i:Nat}{x:Int}(B:l[i]?=some x)(ab:x∈l.take i):hg u l=false:=by unfold hg;rw[rj (atI B ab)];simp
theorem aeG{u:aG}{l:List Int}{i:Nat}{x:Int}(B:l[i]?=some x)(h:nH u x=true)(aa:(l.take i).all (nH u)=true):(l.take (i+1)).all (nH u)=true:=by rw[qm,B,F3,aa];simp[h]
def sk(l:List Int):List (Value×Value):=l.map λx=>(E x,.bool true)
theorem aay{s:Int}: ∀{l:List Int},jR (E s) (sk l)=if s∈l then some (.bool true)else none
 |[]=>rfl
 | x::l=>by
   have cf:=aay (s:=s) (l:=l);simp only[sk]at cf;simp only[sk,lO,jR,pW];by_cases h:s=x
   ·simp[h]
   ·simp only[h,decide_false,je,if_false,cf,hi,false_or]
theorem ann{s:Int}: ∀{l:List Int},s∉l->lK (E s) (.bool true) (sk l)=sk (l++[s])
 |[],_=>by simp[sk,lK]
 | x::l,h=>by simp only[hi,not_or]at h;have cf:=ann (s:=s) (l:=l) h.2;simp only[sk]at cf;simp only[sk,lO,lK,pW,h.1,decide_false,je,if_false,tZ,cf]
theorem aBS{s:Int}{l:List Int}:ob (.int .i64) (E s) (sk l)=true:=by simp only[ob,sk,pJ,decide_true,C9,List.all_map,dP];intro x _;rfl
theorem atc{ao ay:List Int}(h:(ao++ay).length<=1000000):TO.fn [ad [[bm ao],[bm ay]] 1]=some (bm (ao++ay)):=by have:=aGd (eL:=[ao,ay]) ⟨by simp,by simpa using h⟩;simpa[lq]using this
theorem aEe{u:aG}(h:cE u){ao ay:List Int}(az:(ao++ay).length<=1000000):bP N 23 [.agg (aI u).toArray,.agg (jV ao ay).toArray] (.bool (hg u (ao++ay))):=by
 have M:=h.ok.xK;have eW:=h.ok.fg;have ic:=h.ok.h2;refine du (c2 (ax:=⟨[CM u h.fX,xD u (by omega) (by omega),TO],[]⟩) akk (by kernel_rfl) (by simp[Rs]) ?_);have ar:=atc az;obtain⟨l,wK⟩: ∃l,ao++ay=l:=⟨_,rfl⟩;rw[wK]at ar az⊢;simp(disch:=first|omega|simp only[DI.aK];omega) [Rs,akj,aI,ar,Br,yX,ld,-an,-au,-ak,-aq,-List.map_map];refine gR (ax:=⟨[xD u (by omega) (by omega)],[]⟩) (λi z t=>((l.take i).all (nH u)=true/\(l.take i).Nodup)/\t.fu 3=some (sk (l.take i))/\t.I 0=some ⟨aI u,true⟩/\z 2=bH 0/\z 5= .map (some 3)/\z 17=bm l/\z 18=E l.length/\z 19=E i) l.length ?_ ?_ 0 _ _ (gi _) ⟨by simp,by simp(disch:=first|omega|simp only[DI.aK];omega) [sk,-an,-au,-ak,-aq,-List.map_map],by simp(disch:=first|omega|simp only[DI.aK];omega) [aI,-an,-au,-ak,-aq,-List.map_map],by simp,by simp,by simp,by simp,by simp⟩
 ·rintro i z t W ⟨⟨aa,aV⟩,zL,aL,bS,bz,v8,kV,lM⟩ bM a1;obtain⟨n,B⟩:=gk W;have cS:=(cG.1 B).2;have br:=fz (n:=i) (by omega);have bC:(i:Int)<l.length:=(by omega);have S:ob (.int .i64) (E n) (sk (l.take i))=true:=aBS;have aCv:=aM (jb zL).1;have dD:=aM aL;have kZ:=Ti (u:=u) (n:=n);by_cases c:n=0
  ·have a9:hg u l=false:=ac3 B (by rw[kZ,decide_eq_true c];rfl);simp(disch:=omega) [Hs,Ez,v8,kV,lM,bC,cS,c,a9]
  cases ae:mb u n
  ·have a9:hg u l=false:=ac3 B (by rw[kZ,ae,Bool.and_false]);simp(disch:=first|omega|simp only[DI.aK];omega) [Hs,Ez,bS,v8,kV,lM,bC,cS,aL,aI,c,ae,a9,-jR,-lK,-ob,-an,-au,-ak,-aq,-List.map_map]
  ·have eH:nH u n=true:=(by rw[kZ,ae,rj c];rfl);by_cases ab:n∈l.take i
   ·have a9:=apJ (u:=u) B ab;have a5:jR (E n) (sk (l.take i))=some (.bool true):=(by rw[aay,if_pos ab]);simp(disch:=first|omega|simp only[DI.aK];omega) [Hs,Ez,bS,bz,v8,kV,lM,bC,cS,aL,aI,c,ae,zL,a5,S,a9,-jR,-lK,-ob,-an,-au,-ak,-aq,-List.map_map]
   ·have a5:jR (E n) (sk (l.take i))=none:=(by rw[aay,if_neg ab]);simp(disch:=first|omega|simp only[DI.aK];omega) [Hs,Ez,bS,bz,v8,kV,lM,bC,br,cS,aL,aI,c,ae,zL,a5,S,-jR,-lK,-ob,-an,-au,-ak,-aq,-List.map_map];refine a1 _ _ ⟨⟨aeG B eH aa,anK B aV ab⟩,?_,?_,by simp[bS],by simp[bz],by simp[v8],by simp[kV],by simp⟩
    ·have e:l.take (i+1)=l.take i++[n]:=(by rw[qm,B];rfl);rw[e,<-ann ab];simp(disch:=omega)
    ·simp(disch:=omega) [aL,aI]
 ·rintro z t ⟨⟨aa,aV⟩,zL,aL,bS,bz,v8,kV,lM⟩;rw[mY]at aa aV;have a9:hg u l=true:=(by simp[hg,aa,aV]);simp(disch:=omega) [Hs,Ez,kV,lM,Ez,a9]
theorem aFe{u:aG}(A:u.aP.length<=1000)(D:u.aY.length<=1000){n:Int}:bP N 69 [.agg (aI u).toArray,E n] (.bool (nH u n)):=by
 refine du (c2 (ax:=⟨[],[]⟩) azP (by kernel_rfl) (by simp[R7]) ?_);have br:IntKind.i64.wrap ((u.aP.length:Int)+u.aY.length)=(u.aP.length:Int)+u.aY.length:=cY (by omega) (by omega);unfold nH;by_cases c:0<n
 ·simp[R7,Y5,aI,br,c]
 ·simp[R7,Y5,aI,c]
noncomputable def NC(u:aG)(A:u.aP.length<=1000)(D:u.aY.length<=1000):bx N:= .cK 69 Int (λ_=>True) (λn=>[.agg (aI u).toArray,E n]) (λn=> .bool (nH u n)) λ_ _=>aFe A D
@[simp] theorem aUV{u:aG}{A:u.aP.length<=1000}{D:u.aY.length<=1000}:(NC u A D).f=69:=rfl
@[simp] theorem aUW{u:aG}{A:u.aP.length<=1000}{D:u.aY.length<=1000}{n:Int}:(NC u A D).fn [.agg #[E u.ext,ad (u.eI.map gf) 4,ad (u.cr.map gp) 4,ad (u.aP.map eG) 7,ad (u.aY.map fk) 3,ad (u.dj.map dE) 17,ad (u.aZ.map ga) 2],E n]=some (.bool (nH u n)):=bx.dx (x:=n) trivial λy Y=>by simpa using Y
theorem aE2{l:List Int}{x:Int}(az:l.length<=1000000):bP N 70 [bm l,E x] (.bool (decide (x∈l))):=by
 refine du (c2 (ax:=⟨[],[]⟩) alI (by kernel_rfl) (by simp[LM]) ?_);simp[LM,Y6];refine gR (ax:=⟨[],[]⟩) (λi z t=>z 0=bm l/\z 1=E x/\z 5=E i/\x∉l.take i) l.length ?_ ?_ 0 _ _ (gi _) ⟨by simp,by simp,by simp,by simp⟩
 ·rintro i z t W ⟨bO,aU,bz,jk⟩ bM a1;obtain⟨y,B⟩:=gk W;have cS:=(cG.1 B).2;have bC:(i:Int)<l.length:=(by omega);have br:=fz (n:=i) (by omega);by_cases e:y=x
  ·have ab:x∈l:=(by rw[<-e];exact fr B);simp(disch:=omega) [EF,Ad,bO,aU,bz,bC,cS,e,ab]
  ·simp(disch:=first|omega|simp only[DI.aK];omega) [EF,Ad,bO,aU,bz,bC,br,cS,e,-an,-au,-ak,-aq,-List.map_map];refine a1 _ _ ⟨by simp[bO],by simp[aU],by simp,?_⟩;rw[qm,B];simp only[Option.toList_some,js,rg,not_or];exact⟨jk,λh=>e h.symm⟩
 ·rintro z t ⟨bO,aU,bz,jk⟩;rw[mY]at jk;simp[EF,Ad,Ad,bO,bz,jk]
noncomputable def TU:bx N:= .cK 70 (List Int×Int) (λx=>x.1.length<=1000000) (λx=>[bm x.1,E x.2]) (λx=> .bool (decide (x.2∈x.1))) λ_ h=>aE2 h
@[simp] theorem aUT:TU.f=70:=rfl
@[simp] theorem aGj{l:List Int}{x:Int}(h:l.length<=1000000):TU.fn [ad (l.map λx=>[E x]) 1,E x]=some (.bool (decide (x∈l))):=bx.dx (x:=(l,x)) h λ⟨ko,h6⟩ Y=>by simpa using Y
theorem afs: ∀{i:Nat} {l:List Int},i<=l.length->ld 1 i (l.map E)=(l.take i).map λx=>[E x]
 |0,l,_=>by simp[ld]
 |i+1,[],h=>by simp at h
 | i+1,x::l,h=>by have:=afs (i:=i) (l:=l) (by simpa using h);simp only[lO,ld,Oj,List.take_zero,List.drop_succ_cons,oj,this]
theorem auw{t:H}{o i n:Nat}{l:List Int}{w:Bool}(bq:t.I o=some ⟨l.map E,w⟩)(h:i<=l.length):DI.dt (n+2) t (.slice (some ⟨o,0,none⟩) i 1)=some (bm (l.take i)):=by
 have ab:fD (fD (DI.dt (n+1) t)) ((l.take i).map λx=>[E x])=some ((l.take i).map λx=>[E x]):=aa6 (by simp) λj x y B Y=>by rw[B]at Y;cases Y;obtain⟨G,_,rfl⟩:=gG.1 (fr B);rfl
 rw[JW,bq];simp only[oj,zh,Nat.mul_one,k8,h,if_true];rw[afs h,ab]
theorem aFD{u:aG}(h:cE u){ao ay:List Int}(az:(ao++ay).length<=1000000):bP N 24 [.agg (aI u).toArray,.agg (jV ao ay).toArray] (.bool (hg u (ao++ay))):=by
 have M:=h.ok.xK;have eW:=h.ok.fg;have ic:=h.ok.h2;refine du (c2 (ax:=⟨[FB u h.fX,NC u (by omega) (by omega),TU],[]⟩) ayR (by kernel_rfl) (by simp[Ht]) ?_);have key: ∀(l:List Int),l.length<=1000000-> ∀(z:aC) (t:H) (o:Nat) (Q:cM->aC->H->Prop),z 2=bH 0->z 5=b7 o l.length 1->z 6=E 0->t.I 0=some ⟨aI u,true⟩->t.I o=some ⟨l.map E,true⟩->(∀K af,(hg u l=false->K 4= .bool false->Q .e3 K af)/\(hg u l=true->Q (.cH 0) K af))->ec N (.loop EA) z t Q:=by
  intro l az z t o Q bS bz bB aL bq bb;refine gR (ax:=⟨[FB u h.fX,NC u (by omega) (by omega),TU],[]⟩) (λi z t=>((l.take i).all (nH u)=true/\(l.take i).Nodup)/\t.I 0=some ⟨aI u,true⟩/\t.I o=some ⟨l.map E,true⟩/\z 2=bH 0/\z 5=b7 o l.length 1/\z 6=E i) l.length ?_ ?_ 0 _ _ (gi _) ⟨by simp,aL,bq,bS,bz,bB⟩
  ·rintro i z t W ⟨⟨aa,aV⟩,aL,bq,bS,bz,bB⟩ bM a1;obtain⟨n,B⟩:=gk W;have cS:=(cG.1 B).2;have br:=fz (n:=i) (by omega);have bC:(i:Int)<l.length:=(by omega);have a8:i+1<=l.length:=W;have bV:i<=l.length:=(by omega);have dD:=aM aL;have bk:=aM bq;have Kr:DI.dt 9 t (.slice (some ⟨o,0,none⟩) i 1)=some (ad ((l.map λx=>[E x]).take i) 1):=by
    rw[<-List.map_take];exact auw bq bV
   have bT:=aGj (l:=l.take i) (x:=n) (by simp;omega);rw[List.map_take]at bT;cases ae:nH u n
   ·have a9:hg u l=false:=ac3 B ae;simp(disch:=first|omega|simp only[DI.aK];omega) [EA,bS,bz,bB,bC,a8,cS,aL,bq,aI,ae,fC,-an,-au,-ak,-aq,-List.map_map];exact(bb _ _).1 a9 (by simp)
   ·by_cases ab:n∈l.take i
    ·have a9:=apJ (u:=u) B ab;simp(disch:=first|omega|simp only[DI.aK];omega) [EA,bS,bz,bB,bC,a8,bV,cS,aL,bq,aI,ae,ab,Kr,bT,fC,-an,-au,-ak,-aq,-List.map_map];exact(bb _ _).1 a9 (by simp)
    ·simp(disch:=first|omega|simp only[DI.aK];omega) [EA,bS,bz,bB,bC,a8,bV,br,cS,aL,bq,aI,ae,ab,Kr,bT,fC,-an,-au,-ak,-aq,-List.map_map];refine a1 _ _ ⟨⟨aeG B ae aa,anK B aV ab⟩,aL,bq,by simp[bS],by simp[bz],by simp⟩
  ·rintro z t ⟨⟨aa,aV⟩,aL,bq,bS,bz,bB⟩;rw[mY]at aa aV;have a9:hg u l=true:=(by simp[hg,aa,aV]);simp(disch:=first|omega|simp only[DI.aK];omega) [EA,bz,bB,-an,-au,-ak,-aq,-List.map_map];exact(bb _ _).2 a9
 have ah2:(ao.map λs=>[E s]).flatten=ao.map E:=l5;have ah3:(ay.map λs=>[E s]).flatten=ay.map E:=l5;have aOX:ao.length+ay.length<=1000000:=by simpa using az
 have e8:(ao.length+ay.length)*8<=140737488355328/\ao.length+ay.length<=9223372036854775807/\ao.length*8<=140737488355328/\ay.length*8<=140737488355328/\ao.length<=9223372036854775807/\ay.length<=9223372036854775807:=by omega
 have kM: ∀(z:aC) (t:H) (o:Nat) (bM:cM->aC->H->Prop),(∀K af,K 4= .bool (hg u (ao++ay))->bM .e3 K af)->(∀K af,hg u (ao++ay)=true->bM (.cH 0) K af)->z 2=bH 0->z 5=b7 o (ao++ay).length 1->z 6=E 0->t.I 0=some ⟨aI u,true⟩->t.I o=some ⟨(ao++ay).map E,true⟩->ec N (.loop EA) z t bM:= λz t o bM A D bS bz bB aL bq=>
  key (ao++ay) az z t o bM bS bz bB aL bq λK af=>⟨λa9 dR=>A K af (by rw[dR,a9]),λa9=>D K af a9⟩
 by_cases j0:ao=[]
 ·by_cases j1:ay=[]
  ·subst j0;subst j1;simp(disch:=first|omega|simp only[DI.aK];omega) [Ht,Lr,aI,-an,-au,-ak,-aq,-List.map_map];refine tY (d:=5) (G:=1) (by simp) ?_;refine kM _ _ 10 _ (λK af dR=>by simp(disch:=first|omega|simp only[DI.aK];omega) [dR,-an,-au,-ak,-aq,-List.map_map]) (λK af a9=>by simp only[r8]at a9;simp(disch:=first|omega|simp only[DI.aK];omega) [Ls,a9,-an,-au,-ak,-aq,-List.map_map]) (by simp) (by simp) (by simp) (by simp(disch:=first|omega|simp only[DI.aK];omega) [aI,-an,-au,-ak,-aq,-List.map_map]) ?_;simp(disch:=first|omega|simp only[DI.aK];omega) [-an,-au,-ak,-aq,-List.map_map]
  ·subst j0;simp(disch:=first|omega|simp only[DI.aK];omega) [Ht,Lr,aI,ah3,j1,e8,-an,-au,-ak,-aq,-List.map_map];refine kM _ _ 8 _ (λK af dR=>by simp(disch:=first|omega|simp only[DI.aK];omega) [dR,-an,-au,-ak,-aq,-List.map_map]) (λK af a9=>by simp only[wo]at a9;simp(disch:=first|omega|simp only[DI.aK];omega) [Ls,a9,-an,-au,-ak,-aq,-List.map_map]) (by simp) (by simp) (by simp) (by simp(disch:=first|omega|simp only[DI.aK];omega) [aI,-an,-au,-ak,-aq,-List.map_map]) ?_;simp(disch:=first|omega|simp only[DI.aK];omega) [-an,-au,-ak,-aq,-List.map_map]
 ·by_cases j1:ay=[]
  ·subst j1;simp(disch:=first|omega|simp only[DI.aK];omega) [Ht,Lr,aI,ah2,j0,e8,-an,-au,-ak,-aq,-List.map_map];refine kM _ _ 5 _ (λK af dR=>by simp(disch:=first|omega|simp only[DI.aK];omega) [dR,-an,-au,-ak,-aq,-List.map_map]) (λK af a9=>by simp only[r8]at a9;simp(disch:=first|omega|simp only[DI.aK];omega) [Ls,a9,-an,-au,-ak,-aq,-List.map_map]) (by simp) (by simp) (by simp) (by simp(disch:=first|omega|simp only[DI.aK];omega) [aI,-an,-au,-ak,-aq,-List.map_map]) ?_;simp(disch:=first|omega|simp only[DI.aK];omega) [-an,-au,-ak,-aq,-List.map_map]
  ·simp(disch:=first|omega|simp only[DI.aK];omega) [Ht,Lr,aI,ah2,ah3,j0,j1,e8,-an,-au,-ak,-aq,-List.map_map];refine kM _ _ 8 _ (λK af dR=>by simp(disch:=first|omega|simp only[DI.aK];omega) [dR,-an,-au,-ak,-aq,-List.map_map]) (λK af a9=>by simp(disch:=first|omega|simp only[DI.aK];omega) [Ls,a9,-an,-au,-ak,-aq,-List.map_map]) (by simp) (by simp) (by simp) (by simp(disch:=first|omega|simp only[DI.aK];omega) [aI,-an,-au,-ak,-aq,-List.map_map]) ?_;have yt:List.take ao.length (ao.map E)=ao.map E:=h7 (by simp);simp(disch:=first|omega|simp only[DI.aK];omega) [yt,-an,-au,-ak,-aq,-List.map_map]
open Go Go.DI
section
set_option maxRecDepth 100000
end
def IU(x:cq):Bool:=decide (x∈NQ)
theorem Uw{x:cq}(h:IU x=true):x.dq:=by unfold IU at h;rw[ey]at h;exact h
def aag(x:la):Bool:=match x.e with
 |[⟨false,[1],[G]⟩]=>decide (2<=G)&&decide (G<200)&&decide (x.s=[⟨false,[1],[1]⟩])&&decide (x.cC=[[⟨false,[],[1]⟩]])
 |_=>false
theorem aCb{x:la}(h:aag x=true):x.dq:=by
 obtain⟨ev,s,cC,e⟩:=x;unfold aag at h;split at h
 ·rename_i G aQ;simp only[a6,ey]at h;exact⟨G,h.1.1.1,h.1.1.2,h.1.2,h.2,aQ⟩
 ·cases h
def abb(x:hQ):Bool:=x.pe.all IU&&decide (x.pe.length<=20)&&IU x.qi&&IU x.m7&&decide (x.cr.length<=20)
theorem aDY{x:hQ}(h:abb x=true):hQ.fX x:=by simp only[abb,a6,dP,ey]at h;obtain⟨⟨⟨⟨A,D⟩,ai⟩,aT⟩,bF⟩:=h;exact⟨⟨λr al=>Uw (A r al),by omega⟩,Uw ai,Uw aT,by omega⟩
def Ni(u:aG):Bool:=u.eI.all aag&&(u.aP.all λd=>IU d.pk)&&u.dj.all abb&&decide (u.eI.length<=100)&&decide (u.cr.length<=100)&&decide (u.aP.length<=100)&&decide (u.aY.length<=100)&&decide (u.dj.length<=100)&&decide (u.aZ.length<=100)
theorem aoO{u:aG}(h:Ni u=true):aG.fX u:=by simp only[Ni,a6,dP,ey]at h;obtain⟨⟨⟨⟨⟨⟨⟨⟨A,D⟩,ai⟩,aT⟩,bF⟩,cW⟩,dU⟩,g1⟩,iQ⟩:=h;exact⟨λx B=>aCb (A x B),λx B=>Uw (D x B),λx B=>aDY (ai x B),by omega,by omega,by omega,by omega,by omega,by omega⟩
def aaQ(T:ByteArray):Bool:=decide (0<T.size/\T.size<=16/\qT (vm T 0)=true/\uZ oa T T.size 0=T.size)
theorem aDm{T:ByteArray}(h:aaQ T=true):rN T=true:=Fc (by unfold aaQ at h;unfold ev;exact of_decide_eq_true h)
def FU(l:List ByteArray):Bool:=l.all aaQ&&decide l.Nodup
theorem N0{l:List ByteArray}(h:FU l=true):kA l=true:=by unfold FU at h;unfold kA;simp only[a6,dP]at h⊢;exact⟨λx B=>aDm (h.1 x B),h.2⟩
def N3(u:aG):Bool:=fH u.ext 1 4&&(decide (u.eI.length<=4)&&(decide (u.cr.length<=4)&&(decide (u.aP.length<=40)&&(decide (u.aY.length<=24)&&(decide (u.dj.length<=4)&&(decide (u.aZ.length<=12)&&(uv u.aP&&(u.eI.all la.yM&&(u.cr.all (Cm u.eI.length)&&(u.aY.all (Bl u.cr.length u.aP)&&(u.dj.all (tW · u.cr.length)&&(u.aZ.all (FW u.dj.length)&&(FU (u.eI.map (·.name))&&(FU (u.cr.map (·.name))&&(FU (u.aP.tail.map (·.name)++u.aY.map (·.name))&&(FU (u.dj.map (·.name))&&FU (u.aZ.map (·.name))))))))))))))))))
theorem aqn{u:aG}(h:N3 u=true):oO u=true:=by unfold N3 at h;unfold oO;simp only[a6]at h⊢;obtain⟨bt,bR,a3,a4,ft,jh,lU,ox,Ba,Gh,arT,arU,arV,k6,oi,mz,FR,C1⟩:=h;exact⟨bt,bR,a3,a4,ft,jh,lU,ox,Ba,Gh,arT,arU,arV,N0 k6,N0 oi,N0 mz,N0 FR,N0 C1⟩
theorem aB0{u:aG}(h:Ni u=true)(M:N3 u=true):bP N 62 [.agg (aI u).toArray] (.int .i64 0):=by exact aqp (aoO h) (aqn M)
theorem aBZ{u:aG}(h:Ni u=true)(M:N3 u=true):bP N 87 [.agg (aI u).toArray] (.bool true):=by exact ao8 (aoO h) (aqn M)
theorem aab{n d:Int}{x:cq}(h:ow n d)(B:gb n d=x):bP N 59 [E n,E d] (dL x):=by rw[<-B];exact agi h
end Go.Proofs.YtmmkkggfmigppaaGreat
