/-
  A part of the proof, shortened by tools of ours.
-/
import Derived.Test.YtmmkkggfmigppaaGreatZat
set_option linter.all false
set_option maxRecDepth 8000
set_option maxHeartbeats 16000000
namespace Go.Proofs.YtmmkkggfmigppaaGreat
open Go Go.DI Go.Big
theorem atu{l:List ho}: ∀r∈l.map eG,r.length=7/\ ∀v∈r,hB v=true:= λr al=>by obtain⟨x,_,rfl⟩:=gG.1 al;exact⟨rfl,λv M=>by simp[eG]at M;rcases M with rfl|rfl|rfl|rfl|rfl|rfl|rfl<;>rfl⟩
theorem atG{l:List oS}: ∀r∈l.map fk,r.length=3/\ ∀v∈r,hB v=true:= λr al=>by obtain⟨x,_,rfl⟩:=gG.1 al;exact⟨rfl,λv M=>by simp[fk]at M;rcases M with rfl|rfl|rfl<;>rfl⟩
theorem aD1{l:List hQ}: ∀r∈l.map dE,r.length=17/\ ∀v∈r,hB v=true:= λr al=>by obtain⟨x,_,rfl⟩:=gG.1 al;exact⟨rfl,λv M=>by simp[dE]at M;rcases M with rfl|rfl|rfl|rfl|rfl|rfl|rfl|rfl|rfl|rfl|rfl|rfl|rfl|rfl|rfl|rfl|rfl<;>rfl⟩
theorem aqt{l:List s5}: ∀r∈l.map ga,r.length=2/\ ∀v∈r,hB v=true:= λr al=>by obtain⟨x,_,rfl⟩:=gG.1 al;exact⟨rfl,λv M=>by simp[ga]at M;rcases M with rfl|rfl<;>rfl⟩
theorem aC1{l:List F8}: ∀r∈l.map gp,r.length=4/\ ∀v∈r,hB v=true:= λr al=>by obtain⟨x,_,rfl⟩:=gG.1 al;exact⟨rfl,λv M=>by simp[gp]at M;rcases M with rfl|rfl|rfl|rfl<;>rfl⟩
theorem aCc{l:List la}: ∀r∈l.map gf,r.length=4/\ ∀v∈r,hB v=true:= λr al=>by obtain⟨x,_,rfl⟩:=gG.1 al;exact⟨rfl,λv M=>by simp[gf]at M;rcases M with rfl|rfl|rfl|rfl<;>rfl⟩
def Fx:ByteArray:=⟨#[100,105,115,107]⟩
def Nu:ByteArray:=⟨#[98,105,103]⟩
def Nx:ByteArray:=⟨#[111,108,100]⟩
def xm(G:Int):la:=⟨Fx,[gb 1 1],[[gb 0 1]],[gb 1 G]⟩
def xq:Value:= .slice none 0 0
structure ark(l:List Int)(i:Nat)(J G a b c d:Int)(t:H):Prop where
 aL:t.I 0=some ⟨[bm l,E i],true⟩
 aE:t.I 1=some ⟨Cq,true⟩
 fb:t.I 6=some ⟨[E J,b7 19 1 4,b7 36 2 4,b7 41 1 7,.slice none 0 0,.slice none 0 0,.slice none 0 0],true⟩
 Bt:t.I 9=some ⟨ew (gb 1 1),true⟩
 Pw:t.I 11=some ⟨ew (gb 0 1),true⟩
 ags:t.I 12=some ⟨[b7 11 1 3],true⟩
 agt:t.I 17=some ⟨ew (gb 1 G),true⟩
 agu:t.I 19=some ⟨[gD Fx,b7 9 1 3,b7 12 1 1,b7 17 1 3],true⟩
 agx:t.I 36=some ⟨[gD Nu,E a,E b,E 0,gD Nx,E c,E d,E 0],true⟩
 agy:t.I 41=some ⟨eG ⟨⟨#[]⟩,0,-1,0,gb 0 1⟩,true⟩
def xo(a b c d:Int):List F8:=[⟨Nu,a,b,0⟩,⟨Nx,c,d,0⟩]
theorem abu{x:cq}: ∀r∈[ew x],r.length=3/\ ∀v∈r,hB v=true:= λr al=>by simp at al;subst al;exact⟨rfl,λv M=>by simp[ew]at M;rcases M with rfl|rfl|rfl<;>rfl⟩
theorem aHR{l:List Int}{i:Nat}{J G a b c d:Int}{rr:aw}{z:aC}{t:H}{Q:cM->aC->H->Prop}(h:ark l i J G a b c d t)(ae:t.next=44)
 (bb: ∀af,mf l i J (ad ([xm G].map gf) 4) (ad ((xo a b c d).map gp) 4) xq xq [⟨⟨#[]⟩,0,-1,0,gb 0 1⟩] [] af->ec N rr z af Q):ec N rr z t Q:=by
 obtain⟨aL,aE,fb,Bt,Pw,ags,agt,agu,agx,agy⟩:=h;refine vc (o:=11) (p:=12) (j:=0) (G:=3) (bI:=[ew (gb 0 1)]) (by rw[Pw];simp) abu ags rfl (by decide) ?_;refine vc (o:=9) (p:=19) (j:=1) (G:=3) (bI:=[ew (gb 1 1)]) (cells:=[gD Fx,b7 9 1 3,b7 12 1 1,b7 17 1 3]) ?_ abu ?_ rfl (by decide) ?_
 ·rw[a7 (by decide),a7 (by decide),Bt];simp
 ·rw[a7 (by decide),a7 (by decide),agu]
 refine vc (o:=12) (p:=19) (j:=2) (G:=1) (bI:=[[iP [gb 0 1]]]) (cells:=[gD Fx,iP [gb 1 1],b7 12 1 1,b7 17 1 3]) ?_ ?_ ?_ rfl (by decide) ?_
 ·rw[a7 (by decide),a7 (by decide),cx (by simp[ae])];simp
 ·intro r al;simp at al;subst al;exact⟨rfl,λv M=>by simp at M;subst M;rfl⟩
 ·rw[cx (by simp[ae])];simp
 refine vc (o:=17) (p:=19) (j:=3) (G:=3) (bI:=[ew (gb 1 G)]) (cells:=[gD Fx,iP [gb 1 1],ad [[iP [gb 0 1]]] 1,b7 17 1 3]) ?_ abu ?_ rfl (by decide) ?_
 ·repeat rw[a7 (by decide)]
  rw[agt];simp
 ·rw[cx (by simp[ae])];simp
 refine vc (o:=19) (p:=6) (j:=1) (G:=4) (bI:=[xm G].map gf) (cells:=[E J,b7 19 1 4,b7 36 2 4,b7 41 1 7,.slice none 0 0,.slice none 0 0,.slice none 0 0]) ?_ aCc ?_ rfl (by decide) ?_
 ·rw[cx (by simp[ae])];simp[gf,xm]
 ·repeat rw[a7 (by decide)]
  rw[fb]
 refine vc (o:=36) (p:=6) (j:=2) (G:=4) (bI:=(xo a b c d).map gp) (cells:=[E J,ad ([xm G].map gf) 4,b7 36 2 4,b7 41 1 7,.slice none 0 0,.slice none 0 0,.slice none 0 0]) ?_ aC1 ?_ rfl (by decide) ?_
 ·repeat rw[a7 (by decide)]
  rw[agx];simp[gp,xo]
 ·rw[cx (by simp[ae])];simp
 refine FY (o:=6) (j:=4) (G:=3) (cs:=[E J,ad ([xm G].map gf) 4,ad ((xo a b c d).map gp) 4,b7 41 1 7,.slice none 0 0,.slice none 0 0,.slice none 0 0]) ?_ rfl ?_
 ·rw[cx (by simp[ae])];simp
 refine bb _ ⟨41,44,⟨?_,?_,?_,?_,?_,by decide,by decide,by decide⟩⟩
 ·simp only[eJ,ae];repeat rw[a7 (by decide)]
  rw[cJ (by simp[ae])];repeat rw[a7 (by decide)]
  exact aL
 ·simp only[eJ,ae];repeat rw[a7 (by decide)]
  rw[cJ (by simp[ae])];repeat rw[a7 (by decide)]
  exact aE
 ·simp only[eJ,ae];rw[cx (by simp[ae])];simp[xq]
 ·simp only[eJ,ae];repeat rw[a7 (by decide)]
  rw[cJ (by simp[ae])];repeat rw[a7 (by decide)]
  rw[agy];simp
 ·simp only[eJ,ae];rw[a7 (by decide),cx (by simp[ae])];simp
theorem aD0{l:List Int}{i:Nat}{J:Int}{gw gx hH:Value}{ds:List ho}{cC:List oS}{rr:aw}{z:aC}{t:H}{Q:cM->aC->H->Prop}(h:mf l i J gw gx xq hH ds cC t)
 (bb: ∀af,Oz l i J gw gx (ad (ds.map eG) 7) (ad (cC.map fk) 3) hH [] af->ec N rr z af Q):ec N rr z t Q:=by
 obtain⟨jS,or,⟨aL,aE,fb,vv,e1,dY,ee,l9⟩⟩:=h;obtain⟨HZ,aaE,aaF⟩:=dY;obtain⟨aaG,n21,Tf⟩:=ee;have dD:=aM aL;have hZ:=aM aE;have xl:=aM fb;refine vc (o:=jS) (p:=6) (j:=3) (G:=7) (bI:=ds.map eG) vv atu fb (by simp) aaF ?_;refine vc (o:=or) (p:=6) (j:=4) (G:=3) (bI:=cC.map fk) (cells:=[E J,gw,gx,ad (ds.map eG) 7,b7 or cC.length 3,xq,hH]) ?_ atG ?_ (by simp) Tf ?_
 ·rw[a7 Tf,a7 (λe=>l9 e.symm)];exact e1
 ·rw[cx (by simpa using xl)];simp
 refine FY (o:=6) (j:=5) (G:=17) (cs:=[E J,gw,gx,ad (ds.map eG) 7,ad (cC.map fk) 3,xq,hH]) ?_ rfl ?_
 ·rw[cx (by simpa using xl)];simp
 refine bb _ ⟨t.next,⟨?_,?_,?_,?_,by omega,by omega,by omega⟩⟩
 ·simp only[eJ];rw[a7 (by decide),a7 (by omega),cJ (by simp;omega),a7 (by decide),a7 (λe=>aaG e.symm),a7 (by decide),a7 (λe=>HZ e.symm)];exact aL
 ·simp only[eJ];rw[a7 (by decide),a7 (by omega),cJ (by simp;omega),a7 (by decide),a7 (λe=>n21 e.symm),a7 (by decide),a7 (λe=>aaE e.symm)];exact aE
 ·simp only[eJ];rw[cx (by simp;omega)];simp
 ·simp only[eJ];rw[a7 (by omega),cx (by simp)];simp
theorem aIj{l:List Int}{i:Nat}{J:Int}{gw gx nU nV:Value}{ps:List hQ}{rr:aw}{z:aC}{t:H}{Q:cM->aC->H->Prop}(h:Oz l i J gw gx nU nV xq ps t)
 (bb: ∀af,UT l i J gw gx nU nV (ad (ps.map dE) 17) [] af->ec N rr z af Q):ec N rr z t Q:=by
 obtain⟨op,⟨aL,aE,fb,iy,h1,dY,sA⟩⟩:=h;have dD:=aM aL;have hZ:=aM aE;have xl:=aM fb;refine vc (o:=op) (p:=6) (j:=5) (G:=17) (bI:=ps.map dE) iy aD1 fb (by simp) sA ?_;refine FY (o:=6) (j:=6) (G:=2) (cs:=[E J,gw,gx,nU,nV,ad (ps.map dE) 17,xq]) ?_ rfl ?_
 ·rw[cx (by simpa using xl)];simp
 refine bb _ ⟨t.next,⟨?_,?_,?_,?_,by omega,by omega,by omega⟩⟩
 ·simp only[eJ];rw[a7 (by decide),a7 (by omega),cJ (by simp;omega),a7 (by decide),a7 (λe=>h1 e.symm)];exact aL
 ·simp only[eJ];rw[a7 (by decide),a7 (by omega),cJ (by simp;omega),a7 (by decide),a7 (λe=>dY e.symm)];exact aE
 ·simp only[eJ];rw[cx (by simp;omega)];simp
 ·simp only[eJ];rw[a7 (by omega),cx (by simp)];simp
structure Ov(u:aG)(dw:Int):Prop where
 ext:1<=u.ext/\u.ext<=2
 eI: ∃G,100<=G/\G<200/\u.eI=[xm G]
 Te: ∃a b c d,(3<=a/\a<=4)/\(8<=b/\b<=16)/\(1<=c/\c<=3)/\(4<=d/\d<=12)/\u.cr=xo a b c d
 aP:s4 u.aP
 fg:u.aP.length<=21
 aY:se u.aP u.aY
 h2:1<=u.aY.length/\u.aY.length<=9
 As:1<=u.dj.length/\u.dj.length<=2
 dj:Gc u.dj u.dj.length
 j4:1<=u.aZ.length/\(u.aZ.length:Int)<=if dw<1 then 1 else dw
 aZ:Gg u.aZ u.aZ.length u.dj.length
def o6(l:List Int)(i:Nat):H:=(fJ.b0 1).aO 0 (some ⟨[bm l,E i],true⟩)
theorem aud{l:List Int}(az:l.length<=140737488355328){i:Nat}(W:i<500000){dw:Int}(ch:dw<=100): ∃u dn,Ov u dw/\dn<=i+200/\fc N 60 [bH 0,E dw] (o6 l i) λv af=>DI.dt 9 af v=some (.agg (aI u).toArray)/\af.I 0=some ⟨[bm l,E dn],true⟩/\0∉DI.et 9 af v:=by
 have mT:=mu (l:=l) (i:=i) (n:=2) (by decide);have ek:=mu (l:=l) (i:=i+1) (n:=100) (by decide);have gm:=mu (l:=l) (i:=i+2) (n:=2) (by decide);have kT:=mu (l:=l) (i:=i+3) (n:=9) (by decide);have rV:=mu (l:=l) (i:=i+4) (n:=3) (by decide);have Ay:=mu (l:=l) (i:=i+5) (n:=9) (by decide);have abt:=mu (l:=l) (i:=i+6) (n:=3) (by decide);obtain⟨J,ck⟩: ∃x,1+fM l i 2=x:=⟨_,rfl⟩;obtain⟨G,bw⟩: ∃x,100+fM l (i+1) 100=x:=⟨_,rfl⟩;obtain⟨a,aa⟩: ∃x,3+fM l (i+2) 2=x:=⟨_,rfl⟩;obtain⟨b,hb⟩: ∃x,8+fM l (i+3) 9=x:=⟨_,rfl⟩;obtain⟨c,ar⟩: ∃x,1+fM l (i+4) 3=x:=⟨_,rfl⟩;obtain⟨d,aV⟩: ∃x,4+fM l (i+5) 9=x:=⟨_,rfl⟩;obtain⟨X,eE⟩:=jX (show 0<=3+fM l (i+6) 3 by omega);have aIp:IntKind.i64.wrap (1+fM l i 2)=J:=by rw[cY (by omega) (by omega)];exact ck
 have aIJ:IntKind.i64.wrap (100+fM l (i+1) 100)=G:=by rw[cY (by omega) (by omega)];exact bw
 have aIt:IntKind.i64.wrap (3+fM l (i+2) 2)=a:=by rw[cY (by omega) (by omega)];exact aa
 have aqx:IntKind.i64.wrap (8+fM l (i+3) 9)=b:=by rw[cY (by omega) (by omega)];exact hb
 have adG:IntKind.i64.wrap (1+fM l (i+4) 3)=c:=by rw[cY (by omega) (by omega)];exact ar
 have N7:IntKind.i64.wrap (4+fM l (i+5) 9)=d:=by rw[cY (by omega) (by omega)];exact aV
 have aIq:IntKind.i64.wrap (3+fM l (i+6) 3)=(X:Int):=by rw[cY (by omega) (by omega)];exact eE
 have q2:s4 [⟨⟨#[]⟩,0,-1,0,gb 0 1⟩]:=⟨rfl,λk x S B=>by have:=(cG.1 B).1;simp at this;omega⟩;obtain⟨ds,cC,kF,bn,cI,qV,amZ,am0,MG⟩:=aCO (l:=l) az (J:=J) (gw:=ad ([xm G].map gf) 4) (gx:=ad ((xo a b c d).map gp) 4) (jB:=xq) (hH:=xq) (X:=X) (by omega) X 0 (i+7) [⟨⟨#[]⟩,0,-1,0,gb 0 1⟩] [] 0 0 (by omega) q2 (λk x B=>by simp at B) (by simp) (by simp) (by omega) (.inl rfl);have aSM:=mu (l:=l) (i:=kF) (n:=2) (by decide);obtain⟨zm,avg⟩:=jX (show 0<=1+fM l kF 2 by omega);have aIr:IntKind.i64.wrap (1+fM l kF 2)=(zm:Int):=by rw[cY (by omega) (by omega)];exact avg
 obtain⟨ps,nG,ef,e2,hF,j5⟩:=aDZ (l:=l) az (J:=J) (gw:=ad ([xm G].map gf) 4) (gx:=ad ((xo a b c d).map gp) 4) (nU:=ad (ds.map eG) 7) (nV:=ad (cC.map fk) 3) (hH:=xq) (aA:=zm) (by omega) zm (kF+1) [] (by simp) (λk x B=>by simp at B) (by omega);have aSN:0<=fM l nG dw/\fM l nG dw<if dw<1 then 1 else dw:=by
  by_cases Vh:dw<1
  ·rw[if_pos Vh];have:fM l nG dw=0:=aaC Vh;omega
  ·rw[if_neg Vh];exact mu (by omega)
 have uW:(if dw<1 then 1 else dw)<=100:=by split<;>omega
 obtain⟨xT,avh⟩:=jX (show 0<=1+fM l nG dw by omega);have aIs:IntKind.i64.wrap (1+fM l nG dw)=(xT:Int):=by rw[cY (by omega) (by omega)];exact avh
 obtain⟨vs,i3,q9,qk,v3,v4⟩:=aIi (l:=l) az (J:=J) (gw:=ad ([xm G].map gf) 4) (gx:=ad ((xo a b c d).map gp) 4) (nU:=ad (ds.map eG) 7) (nV:=ad (cC.map fk) 3) (ps:=ps) (by omega) (aA:=xT) (by omega) xT (nG+1) [] (by simp) (λk x B=>by simp at B) (by omega);have GC:1<=J/\J<=2:=by omega
 refine⟨⟨J,[xm G],xo a b c d,ds,cC,ps,vs⟩,i3,⟨GC,⟨G,by omega,by omega,rfl⟩,⟨a,b,c,d,by omega,by omega,by omega,by omega,rfl⟩,bn,by simp only;omega,cI,⟨qV.2 (by omega),qV.1⟩,by simp only;omega,by simp only[e2];exact ef,by simp only;omega,by simp only[qk];exact q9⟩,by omega,?_⟩;refine c2 (ax:=⟨[oh,AI],[kG]⟩) azK (by kernel_rfl) (by simp[YW]) ?_;have aXa:ow 1 1:=by unfold ow;omega
 have aW9:=apA;have aXd:ow 1 G:=by unfold ow;omega
 have eC:((i:Int)+1+1).toNat=i+2:=by omega
 have t3:((i:Int)+1+1+1).toNat=i+3:=by omega
 have t4:((i:Int)+1+1+1+1).toNat=i+4:=by omega
 have nL:((i:Int)+1+1+1+1+1).toNat=i+5:=by omega
 have sP:((i:Int)+1+1+1+1+1+1).toNat=i+6:=by omega
 simp(disch:=first|omega|simp only[bE];omega) [YW,alf,o6,nf,eC,t3,t4,nL,sP,aIp,aIJ,aIt,aqx,adG,N7,aIq,ew,-an,-au,-ak,-aq,-List.map_map];refine aHR (l:=l) (i:=i+7) (J:=J) (G:=G) (a:=a) (b:=b) (c:=c) (d:=d) ⟨by simp(disch:=first|omega|simp only[bE];omega) [-an,-au,-ak,-aq,-List.map_map];omega,by simp(disch:=first|omega|simp only[bE];omega) [Cq,-an,-au,-ak,-aq,-List.map_map],by simp(disch:=first|omega|simp only[bE];omega) [-an,-au,-ak,-aq,-List.map_map],by simp(disch:=first|omega|simp only[bE];omega) [ew,-an,-au,-ak,-aq,-List.map_map],by simp(disch:=first|omega|simp only[bE];omega) [ew,-an,-au,-ak,-aq,-List.map_map],by simp(disch:=first|omega|simp only[bE];omega) [-an,-au,-ak,-aq,-List.map_map],by simp(disch:=first|omega|simp only[bE];omega) [ew,-an,-au,-ak,-aq,-List.map_map],by simp(disch:=first|omega|simp only[bE];omega) [Fx,-an,-au,-ak,-aq,-List.map_map],by simp(disch:=first|omega|simp only[bE];omega) [Nu,Nx,-an,-au,-ak,-aq,-List.map_map],by simp(disch:=first|omega|simp only[bE];omega) [eG,-an,-au,-ak,-aq,-List.map_map]⟩ (by simp) λbj A=> ?_;refine MG _ bj _ (by simp) (by simp) (by simp) (by simp) (by simp) (by simp) A λc6 aXn ie rC=> ?_;have aef:c6 0=bH 0:=(ie 0 (by decide)).trans (by simp);have aJh:c6 1=E dw:=(ie 1 (by decide)).trans (by simp);have aJi:c6 4=bH 1:=(ie 4 (by decide)).trans (by simp);have aq2:c6 5=bH 6:=(ie 5 (by decide)).trans (by simp);clear ie;have awn:=rC;obtain⟨jS,or,av0⟩:=rC;have a2:=av0.aL;have jw:=aM a2;simp(disch:=first|omega|simp only[bE];omega) [alg,aef,a2,nf,aIr];refine aD0 (mf.at awn (dn:=kF+1) (by omega)) λaHz ai=> ?_;refine j5 _ aHz _ (by simp[aef]) (by simp[aq2]) (by simp) ai λzi aXo Eg av1=> ?_;have aeg:zi 0=bH 0:=(Eg 0 (by decide)).trans (by simp[aef]);have aJj:zi 1=E dw:=(Eg 1 (by decide)).trans (by simp[aJh]);have aJk:zi 4=bH 1:=(Eg 4 (by decide)).trans (by simp[aJi]);have aq3:zi 5=bH 6:=(Eg 5 (by decide)).trans (by simp[aq2]);clear Eg;obtain⟨op,⟨aL,aE,fb,iy,h1,dY,sA⟩⟩:=av1;have aac:=aM aL;simp(disch:=first|omega|simp only[bE];omega) [alh,aeg,aJj,aL,nf,aIs];refine aIj (l:=l) (i:=nG+1) (J:=J) (gw:=ad ([xm G].map gf) 4) (gx:=ad ((xo a b c d).map gp) 4) (nU:=ad (ds.map eG) 7) (nV:=ad (cC.map fk) 3) (ps:=ps) ⟨op,⟨by simp(disch:=first|omega|simp only[bE];omega),by simp(disch:=first|omega|simp only[bE];omega) [aE],by simp(disch:=first|omega|simp only[bE];omega) [fb],by simp(disch:=first|omega|simp only[bE];omega) [iy],h1,dY,sA⟩⟩ λaHA aT=> ?_;refine v4 _ aHA _ (by simp[aeg]) (by simp[aq3]) (by simp) aT λaej aXp P8 av2=> ?_;have aZl:aej 0=bH 0:=(P8 0 (by decide)).trans (by simp[aeg]);have aJo:aej 4=bH 1:=(P8 4 (by decide)).trans (by simp[aJk]);have aJp:aej 5=bH 6:=(P8 5 (by decide)).trans (by simp[aq3]);clear P8;obtain⟨tM,⟨aL,aE,fb,DP,h1,dY,sA⟩⟩:=av2;have dD:=aM aL;have hZ:=aM aE;have xl:=aM fb;have gl:=aM DP;have auZ: ∀tt:H,tt.I tM=some ⟨(vs.map ga).flatten,true⟩->DI.dt 8 tt (b7 tM vs.length 2)=some (ad (vs.map ga) 2):= λtt h=>vu (n:=7) h (by simp) aqt;simp(disch:=first|omega|simp only[bE];omega) [ali,aJo,aJp,aE,fb,Cq];refine⟨?_,aL,?_⟩
 ·rw[auZ _ (by rw[a7 dY];exact DP)];simp[aI]
 ·rw[aoC,a7 dY,DP];simp only[hi,wm,zf];rintro(e|⟨v,⟨r,p4,M⟩,B⟩)
  ·exact h1 e.symm
  ·rw[DI.Cz ((aqt r p4).2 v M)]at B;cases B
theorem anc:(gb 0 1).dq:=by unfold cq.dq;decide
theorem aCV:(gb 1 2).dq:=by unfold cq.dq;decide
theorem aCW:(gb 1 1000).dq:=by unfold cq.dq;decide
theorem aCX:(gb 30 1).dq:=by unfold cq.dq;decide
theorem aDo(c:Nat)(ar:c=100\/c=110\/c=112\/c=118): ∀n:Fin 60,ev (lL c n.val):=by rcases ar with rfl|rfl|rfl|rfl<;>(unfold ev;decide+kernel)
theorem aaR:ev Fx/\ev Nu/\ev Nx:=by unfold ev;decide+kernel
theorem aDn{c nw:Nat}(ar:c<256)(oC:nw<256){n gQ:Nat}(ae:n<60)(BN:gQ<60)(h:lL c n=lL nw gQ):c=nw/\n=gQ:=by simp only[lL,ByteArray.mk.injEq]at h;have bY:=congrArg (λa:Array UInt8=>(a.toList.map UInt8.toNat)) h;simp at bY;omega
theorem adu{l:List ByteArray}{c f:Nat->Nat}(h: ∀(i:Nat) x,l[i]?=some x->x=lL (c i) (f i)/\(c i=100\/c i=110\/c i=112\/c i=118)/\f i<60)(inj: ∀i j,i<j->j<l.length-> ¬(c i=c j/\f i=f j)):kA l=true:=by
 unfold kA;rw[a6,dP];refine⟨λx B=> ?_,decide_eq_true (za.2 λi j W aX yg e=> ?_)⟩
 ·obtain⟨i,W,rfl⟩:=lN B;obtain⟨a,b,d⟩:=h i _ (c1 W);rw[a];exact Fc (aDo (c i) b ⟨f i,d⟩)
 ·obtain⟨a,b,d⟩:=h i _ (c1 W);obtain⟨ed,cw,lB⟩:=h j _ (c1 aX);rw[a,ed]at e;exact inj i j yg aX (aDn (by omega) (by omega) d lB e)
theorem aH2{a b:ByteArray}(aa:ev a)(hb:ev b)(h:a≠b):kA [a,b]=true:=by unfold kA;simp[Fc aa,Fc hb,h]
theorem aH1{a:ByteArray}(aa:ev a):kA [a]=true:=by unfold kA;simp[Fc aa]
theorem pI{x a b:Int}(A:a<=x)(D:x<=b):fH x a b=true:=uG.2 ⟨A,D⟩
theorem aEI:q1 (gb 1 2)=true/\(gb 1 1000).bZ.small=true/\rL (gb 1 1000).bZ=true/\(gb 30 1).bZ.small=true:=by decide
theorem aDX{x:hQ}{n:Nat}(h:OA x n):tW x 2=true/\hQ.fX x:=by
 obtain⟨ev,⟨bK,cz⟩,⟨bn,cI⟩,⟨a8,bV⟩,⟨iI,cB,hW,aWI,aWJ,aG4,apo⟩,h0,⟨R,c0,pe⟩,qi,m7⟩:=h;obtain⟨ek,kT,rV,Ay⟩:=aEI;constructor
 ·unfold tW;simp only[a6];refine⟨?_,?_,?_,?_,?_⟩
  ·unfold mr;simp only[a6,ey];exact⟨pI bK (by omega),pI bn (by omega),by omega,pI a8 bV,iI,pI (by omega) (by omega),pI (by omega) (by omega),pI (by omega) (by omega),pI (by omega) (by omega),pI (by omega) (by omega)⟩
  ·rcases h0 with e|e<;>rw[e]<;>rfl
  ·unfold sF;simp only[a6,ey,dP];rw[pe,qi,m7];refine⟨?_,λy Y=> ?_,kT,rV,Ay⟩
   ·rw[I3,c0]
   ·rw[List.eq_of_mem_replicate Y];exact ek
  ·rcases h0 with e|e<;>rw[e]<;>decide
  ·rcases h0 with e|e<;>rw[e]<;>decide
 ·refine⟨⟨λy Y=> ?_,?_⟩,by rw[qi];exact aCW,by rw[m7];exact aCX,by rcases h0 with e|e<;>rw[e]<;>decide⟩
  ·rw[pe]at Y;rw[List.eq_of_mem_replicate Y];exact aCV
  ·rw[pe,I3];have:R<=2:=(by split at c0<;>omega);omega
theorem aCP{ds:List ho}(h:s4 ds):uv ds=true:=by
 have F:(gb 0 1).bZ.small=true/\ ¬0<(gb 0 1).bZ.n:=by decide
 have al:=h.q2;cases aV:ds with
 |nil=>rw[aV]at al;cases al
 | cons R l=>
   rw[aV]at al;simp at al;unfold uv;simp only[a6,dP,om];constructor
   ·rw[al];simp[AB,F.1,F.2]
   ·intro i W;rw[c1 W];obtain⟨bt,bR,a3,⟨q,er,eO⟩,ft,jh,lU,ox,Ba⟩:=h.lf (i+1) l[i] (by omega) (by rw[aV,I0];exact c1 W);rw[aV]at er;simp only[zC,a6];refine⟨pI bR (by omega),?_,pI ft jh,pI lU ox,by rw[Ba];exact F.1⟩;unfold ME;rw[er];exact decide_eq_true eO
theorem Ta{u:aG}{dw:Int}(h:Ov u dw)(ch:dw<=12):cE u:=by
 obtain⟨ext,⟨G,hY,jA,eI⟩,⟨a,b,c,d,aa,hb,ar,yc,Te⟩,aP,fg,aY,h2,As,dj,j4,aZ⟩:=h;have mo:u.aZ.length<=12:=by have:=j4.2;split at this<;>omega
 have rD:u.cr.length=2:=by rw[Te];rfl
 have D7:u.eI.length=1:=by rw[eI];rfl
 have aOS:=aP.vX;have bw:ow 1 G:=by unfold ow;omega
 have Ib: ∀x∈u.dj,tW x 2=true/\hQ.fX x:= λx B=>by obtain⟨i,W,rfl⟩:=lN B;exact aDX (dj i _ (c1 W))
 have BS:oO u=true:=by
  unfold oO;simp only[a6,ey];refine⟨pI ext.1 (by omega),by omega,by omega,by omega,by omega,by omega,mo,aCP aP,?_,?_,?_,?_,?_,?_,?_,?_,?_,?_⟩
  ·rw[eI];rfl
  ·rw[Te,D7];simp only[xo,mZ,List.all_nil,Bool.and_true,a6,Cm];exact⟨⟨pI (by omega) (by omega),pI (by omega) (by omega),by decide⟩,pI (by omega) (by omega),pI (by omega) (by omega),by decide⟩
  ·rw[dP];intro x B;obtain⟨i,W,rfl⟩:=lN B;obtain⟨bt,bR,a3,m,e,f⟩:=aY i _ (c1 W);have:=f.cQ;unfold Bl;simp only[a6];refine⟨pI bR (by omega),pI (by omega) (by omega),?_⟩;obtain⟨q,er,eO⟩:=f;unfold MI;rw[e,ns,er];exact decide_eq_true eO
  ·rw[dP,rD];exact λx B=>(Ib x B).1
  ·rw[dP];intro x B;obtain⟨i,W,rfl⟩:=lN B;obtain⟨bt,bR,a3⟩:=aZ i _ (c1 W);exact pI bR (by omega)
  ·rw[eI];exact aH1 aaR.1
  ·rw[Te];exact aH2 aaR.2.1 aaR.2.2 (show Nu≠Nx by decide)
  ·refine adu (c:= λi=>if i<u.aP.length-1 then 110 else 100) (f:= λi=>if i<u.aP.length-1 then i+1 else i-(u.aP.length-1)) (λi x B=> ?_) (λi j yg aX=> ?_)
   ·by_cases Vm:i<u.aP.length-1
    ·rw[AV (by simp;exact Vm),rh,List.getElem?_tail]at B;simp only[if_pos Vm];obtain⟨uu,aD,aJ⟩:=ve.1 B;rw[<-aJ];exact⟨(aP.lf (i+1) uu (by omega) aD).1,by simp,by omega⟩
    ·rw[AU (by simp;omega)]at B;simp only[k8,List.length_tail,rh]at B;simp only[if_neg Vm];obtain⟨uu,aD,aJ⟩:=ve.1 B;rw[<-aJ];have az:=(cG.1 aD).1;exact⟨(aY _ uu aD).1,by simp,by omega⟩
   ·split<;>split<;>omega
  ·refine adu (c:= λ_=>112) (f:= λi=>u.dj.length-i) (λi x B=> ?_) (λi j yg aX=> ?_)
   ·rw[rh]at B;obtain⟨uu,aD,aJ⟩:=ve.1 B;rw[<-aJ];exact⟨(dj i uu aD).ev,by simp,by omega⟩
   ·simp at aX;omega
  ·refine adu (c:= λ_=>118) (f:= λi=>u.aZ.length-i) (λi x B=> ?_) (λi j yg aX=> ?_)
   ·rw[rh]at B;obtain⟨uu,aD,aJ⟩:=ve.1 B;rw[<-aJ];exact⟨(aZ i uu aD).1,by simp,by omega⟩
   ·simp at aX;omega
 refine⟨aDC BS,⟨λx B=> ?_,λx B=> ?_,λx B=>(Ib x B).2,by omega,by omega,by omega,by omega,by omega,by omega⟩⟩
 ·rw[eI]at B;simp at B;subst B;exact⟨G,by omega,jA,rfl,rfl,rfl⟩
 ·obtain⟨i,W,rfl⟩:=lN B;cases i with
  | zero=>have:=aP.q2;rw[c1 W]at this;rw[De this];exact anc
  | succ i=>rw[(aP.lf (i+1) _ (by omega) (c1 W)).2.2.2.2.2.2.2.2];exact anc
theorem are{u:aG}(h:fj u){v:Nat}(M:v<u.aZ.length):bP N 101 [.agg (aI u).toArray,E v] (E (iF u v)):=by
 refine du (c2 (ax:=⟨[],[]⟩) axt (by kernel_rfl) (by simp[XA]) ?_);obtain⟨x,p,q,B,Z,gY,bo,a5,A,D,ai⟩:=Pu h M;have cS:=(cG.1 B).2;have z2:=(cG.1 bo).2;have bC:(v:Int)<u.aZ.length:=by omega
 have a8:(p:Int)<u.dj.length:=by omega
 have br:IntKind.i64.wrap (q.k+q.m)=q.k+q.m:=cY (by omega) (by omega);rw[a5];simp(disch:=first|omega|simp only[DI.aK];omega) [XA,aid,aI,ga,dE,bC,a8,cS,Z,z2,br]
noncomputable def AJ(u:aG)(h:fj u):bx N:= .cK 101 Nat (λv=>v<u.aZ.length) (λv=>[.agg (aI u).toArray,E v]) (λv=>E (iF u v)) λv M=>are h M
@[simp] theorem aUd{u:aG}{h:fj u}:(AJ u h).f=101:=rfl
@[simp] theorem aUe{u:aG}{h:fj u}{v:Nat}(M:v<u.aZ.length):(AJ u h).fn [.agg #[E u.ext,ad (u.eI.map gf) 4,ad (u.cr.map gp) 4,ad (u.aP.map eG) 7,ad (u.aY.map fk) 3,ad (u.dj.map dE) 17,ad (u.aZ.map ga) 2],E v]=some (E (iF u v)):=bx.dx (x:=v) M λy Y=>by simp at Y⊢;omega
theorem aCU{l:List Int}{x:Int}(az:l.length<=1000000):bP N 102 [bm l,E x] (.bool (decide (x∈l))):=by
 refine du (c2 (ax:=⟨[],[]⟩) axu (by kernel_rfl) (by simp[XB]) ?_);simp[XB,aie];refine gR (ax:=⟨[],[]⟩) (λi z t=>(∀j (aX:j<l.length),j<i-> ¬l[j]=x)/\z 0=bm l/\z 1=E x/\z 5=E i) l.length ?_ ?_ 0 _ _ (gi _) ⟨λj aX h=>absurd h (xO _),by simp,by simp,by simp⟩
 ·rintro i z t W ⟨jk,bO,aU,bz⟩ bM a1;obtain⟨y,B⟩:=gk W;have cS:=(cG.1 B).2;have bC:(i:Int)<l.length:=(by omega);have br:=fz (n:=i) (by omega);by_cases c:y=x
  ·have e:x∈l:=(by rw[<-c,<-cS];exact kd W);simp(disch:=omega) [Qm,KV,bO,aU,bz,bC,cS,eq_true c,e]
  ·simp(disch:=first|omega|simp only[DI.aK];omega) [Qm,KV,bO,aU,bz,bC,cS,c,br,-an,-au,-ak,-aq,-List.map_map];refine a1 _ _ ⟨λj aX PY=> ?_,by simp[bO],by simp[aU],by simp⟩;by_cases e:j=i
   ·subst e;rw[cS];exact c
   ·exact jk j aX (by omega)
 ·rintro z t ⟨jk,bO,aU,bz⟩;have e:x∉l:= λab=>by
   obtain⟨j,aX,e⟩:=lN ab;exact jk j aX aX e
  simp[Qm,KV,KV,bO,bz,e]
noncomputable def v9:bx N:= .cK 102 (List Int×Int) (λx=>x.1.length<=1000000) (λx=>[bm x.1,E x.2]) (λx=> .bool (decide (x.2∈x.1))) λ_ h=>aCU h
@[simp] theorem aUb:v9.f=102:=rfl
@[simp] theorem aUc{l:List Int}{x:Int}(h:l.length<=1000000):v9.fn [ad (l.map λx=>[E x]) 1,E x]=some (.bool (decide (x∈l))):=bx.dx (x:=(l,x)) h λ⟨ko,h6⟩ Y=>by simpa using Y
def arq(t af:H):Prop:=af.next=t.next/\ ∀b,af.I b=t.I b
def Uc:List Nat:=[0,1,3,4,5,6,7,8]
theorem aCe{u:aG}(ic:u.aY.length<=24){c3:List Int}(qP:c3.length<=1000): ∀(r k d:Nat),k+r=u.aY.length->d<u.aY.length-> ∃lB:Nat,lB<u.aY.length/\ ∀(z:aC) (t:H) (Q:cM->aC->H->Prop) (cL or:Nat),z 3=bH cL->z 7=b7 or c3.length 1->z 9=E d->z 10=E k->t.I cL=some ⟨aI u,true⟩->t.I or=some ⟨c3.map E,true⟩->
 (∀K af,(∀s∈Uc,K s=z s)->K 9=E lB->arq t af->Q (.cH 4) K af)->ec N (.loop LB) z t Q:=by
 intro r;induction r with
 | zero=>intro k d S aV;refine⟨d,aV,λz t Q cL or bW ca cP e4 eZ bq bb=> ?_⟩;refine eF (ax:=⟨[v9],[kG]⟩) λbM a1=> ?_;have lG:=aM eZ;have c: ¬(k:Int)<u.aY.length:=(by omega);have b6: ¬k<u.aY.length:=(by omega);simp(disch:=first|omega|simp only[DI.aK];omega) [LB,bW,e4,eZ,aI,c,-an,-au,-ak,-aq,-List.map_map];refine bb _ _ (λs F=>by simp only[Uc,hi,kJ,or_false]at F;rcases F with rfl|rfl|rfl|rfl|rfl|rfl|rfl|rfl<;>simp) (by simp[cP]) ⟨rfl,λ_=>rfl⟩
 | succ r cf=>
   intro k d S aV;have GB: ∀(t:H) (or:Nat),t.I or=some ⟨c3.map E,true⟩->DI.dt 9 t (b7 or c3.length 1)=some (bm c3):= λt or h=>vu (n:=8) (by rw[l5];exact h) (by simp) su;have c:(k:Int)<u.aY.length:=(by omega);have b6:k<u.aY.length:=(by omega);have awu:c3.length<=1000000:=(by omega);by_cases Gs:(d:Int)∈c3
   case neg=>refine⟨d,aV,λz t Q cL or bW ca cP e4 eZ bq bb=> ?_⟩;refine eF (ax:=⟨[v9],[kG]⟩) λbM a1=> ?_;have lG:=aM eZ;have bw:=GB t or bq;simp(disch:=first|omega|simp only[DI.aK];omega) [LB,bW,ca,cP,e4,eZ,aI,c,bw,Gs,-an,-au,-ak,-aq,-List.map_map];refine bb _ _ (λs F=>by simp only[Uc,hi,kJ,or_false]at F;rcases F with rfl|rfl|rfl|rfl|rfl|rfl|rfl|rfl<;>simp) (by simp[cP]) ⟨by simp,λ_=>by simp⟩
   have ct:=fz (n:=d) (by omega);have dW:=fz (n:=k) (by omega);obtain⟨gI,yb⟩: ∃gI:Nat,((d:Int)+1).tmod u.aY.length=gI/\gI<u.aY.length:=(by have A:=Int.tmod_lt_of_pos ((d:Int)+1) (show(0:Int)<u.aY.length by omega);have D:=Int.tmod_nonneg (a:=(d:Int)+1) (u.aY.length:Int) (by omega);obtain⟨x,B⟩:=jX D;exact⟨x,B,by omega⟩);obtain⟨lB,bt,bR⟩:=cf (k+1) gI (by omega) yb.2;refine⟨lB,bt,λz t Q cL or bW ca cP e4 eZ bq bb=> ?_⟩;refine eF (ax:=⟨[v9],[kG]⟩) λbM a1=> ?_;have lG:=aM eZ;have bw:=GB t or bq;have aJ:=yb.1;have yL: ¬u.aY.length=0:=(by omega);simp(disch:=first|omega|simp only[DI.aK];omega) [LB,bW,ca,cP,e4,eZ,aI,c,bw,Gs,ct,dW,aJ,yL,-an,-au,-ak,-aq,-List.map_map];refine a1 _ _ (bR _ _ Q cL or (by simp[bW]) (by simp[ca]) (by simp) (by simp) (by simpa[aI]using eZ) (by simpa using bq) λK af F iQ fT=>bb K af (λs gO=>(F s gO).trans ?_) iQ ⟨by rw[fT.1];simp,λb=>by rw[fT.2 b];simp⟩);simp only[Uc,hi,kJ,or_false]at gO;rcases gO with rfl|rfl|rfl|rfl|rfl|rfl|rfl|rfl<;>simp
def NO:List Nat:=[0,3,4,5,6]
def Ow(u:aG)(c3:List Int):Prop:= ∀y∈c3,-1<=y/\y<u.aY.length
theorem aCf{l:List Int}(az:l.length<=140737488355328){u:aG}(h:cE u)(ic:1<=u.aY.length){v:Nat}(M:v<u.aZ.length): ∀(r:Nat) (c3:List Int) (i:Nat),(c3.length:Int)+r=iF u v->Ow u c3->i+2*r+10<1000000->
 ∃ (xx:List Int) (dn:Nat),(xx.length:Int)=iF u v/\Ow u xx/\dn<=i+2*r/\ ∀(z:aC) (t:H) (Q:cM->aC->H->Prop) (or:Nat) (aR:List Nat),z 0=bH 0->z 3=bH 1->z 6=E v->z 7=b7 or c3.length 1->z 8=E c3.length->
   t.I 0=some ⟨[bm l,E i],true⟩->t.I 1=some ⟨aI u,true⟩->t.I or=some ⟨c3.map E,true⟩->or≠0->or≠1->(∀b∈aR,b≠0/\b≠or/\b<t.next)->
   (∀K af M0,(∀s∈NO,K s=z s)->K 7=b7 M0 xx.length 1->af.I 0=some ⟨[bm l,E dn],true⟩->af.I 1=some ⟨aI u,true⟩->af.I M0=some ⟨xx.map E,true⟩->M0≠0->M0≠1->(∀b∈aR,b≠M0/\af.I b=t.I b)->t.next<=af.next->Q (.cH 2) K af)->ec N (.loop HC) z t Q:=by
 have kt:=DK h.ok M;have awd:=h.ok.h2;have aPe:(u.aY.length:Int)<=1000000:=by omega
 intro r;induction r with
 | zero=>intro c3 i al av W;refine⟨c3,i,by omega,av,by omega,λz t Q or aR bO bW bB ca bl aL eZ bq h1 dY dz bb=> ?_⟩;refine eF (ax:=⟨[v9,AJ u h.ok],[kG]⟩) λbM a1=> ?_;have lG:=aM eZ;have c: ¬(c3.length:Int)<iF u v:=(by omega);simp(disch:=first|omega|simp only[DI.aK];omega) [HC,bW,bB,bl,eZ,aI,c,-an,-au,-ak,-aq,-List.map_map];exact bb _ _ or (λs F=>by simp only[NO,hi,kJ,or_false]at F;rcases F with rfl|rfl|rfl|rfl|rfl<;>simp) (by simp[ca]) aL eZ bq h1 dY (λb hb=>⟨(dz b hb).2.1,rfl⟩) (c8 _)
 | succ r cf=>
   intro c3 i al av W;have GB: ∀(t:H) (or:Nat),t.I or=some ⟨c3.map E,true⟩->DI.dt 9 t (b7 or c3.length 1)=some (bm c3):= λt or h=>vu (n:=8) (by rw[l5];exact h) (by simp) su;have c:(c3.length:Int)<iF u v:=(by omega);have awu:c3.length<=1000000:=(by omega);have mT:=mu (l:=l) (i:=i) (n:=(u.aY.length:Int)) (by omega);obtain⟨bU,h9⟩:=jX mT.1;have aV:fM l i (u.aY.length:Int)=(bU:Int):=h9;obtain⟨lB,uz,oE⟩:=aCe h.ok.h2 (c3:=c3) (by omega) u.aY.length 0 bU (by omega) (by omega);have FO:((i:Int)+1).toNat=i+1:=(by omega);by_cases Gs:(lB:Int)∈c3
   ·skip
    obtain⟨xx,dn,er,eO,g8,g9⟩:=cf (c3++[-1]) (i+1) (by simp;omega) (λy Y=>by
     simp only[js,rg]at Y;rcases Y with Y|rfl
     ·exact av y Y
     ·omega) (by omega)
    refine⟨xx,dn,er,eO,by omega,λz t Q or aR bO bW bB ca bl aL eZ bq h1 dY dz bb=> ?_⟩;refine eF (ax:=⟨[v9,AJ u h.ok],[kG]⟩) λbM a1=> ?_;have dD:=aM aL;have lG:=aM eZ;have kR:=aM bq;have xp: ¬0=or:= λe=>h1 e.symm;have HY: ¬1=or:= λe=>dY e.symm;simp(disch:=first|omega|simp only[DI.aK];omega) [HC,bO,bW,bB,bl,eZ,aI,aL,c,nf,aV,-an,-au,-ak,-aq,-List.map_map];refine oE _ _ _ 1 or (by simp[bW]) (by simp[ca]) (by simp) (by simp) (by simp(disch:=first|omega|simp only[DI.aK];omega) [eZ,aI,-an,-au,-ak,-aq,-List.map_map]) (by simp(disch:=first|omega|simp only[DI.aK];omega) [bq,-an,-au,-ak,-aq,-List.map_map]) λbQ bj F Kp fT=> ?_;have z0:bQ 0=bH 0:=(F 0 (by decide)).trans (by simp[bO]);have z3:bQ 3=bH 1:=(F 3 (by decide)).trans (by simp[bW]);have z4:bQ 4=z 4:=(F 4 (by decide)).trans (by simp);have ra:bQ 5=z 5:=(F 5 (by decide)).trans (by simp);have sV:bQ 6=E v:=(F 6 (by decide)).trans (by simp[bB]);have F0:bQ 7=b7 or c3.length 1:=(F 7 (by decide)).trans (by simp[ca]);have C7:bQ 8=E c3.length:=(F 8 (by decide)).trans (by simp[bl]);have hc:bj.I 0=some ⟨[bm l,E ((i:Int)+1)],true⟩:=(fT.2 0).trans (by simp(disch:=first|omega|simp only[DI.aK];omega) [-an,-au,-ak,-aq,-List.map_map]);have aD:bj.I 1=some ⟨aI u,true⟩:=(fT.2 1).trans (by simp(disch:=first|omega|simp only[DI.aK];omega) [eZ,aI,-an,-au,-ak,-aq,-List.map_map]);have rz:bj.I or=some ⟨c3.map E,true⟩:=(fT.2 or).trans (by simp(disch:=first|omega|simp only[DI.aK];omega) [bq,-an,-au,-ak,-aq,-List.map_map]);have zF: ∀b∈aR,bj.I b=t.I b:= λb hb=>(fT.2 b).trans (by rw[a7 (dz b hb).1]);have kZ:bj.next=t.next:=fT.1.trans (by simp)
    clear F fT;have bw:=GB bj or rz;have eA:=aM hc;have bn:=aM aD;have aaD:=aM rz;have e8:(c3.length+1)*8<=140737488355328/\c3.length<=9223372036854775806:=(by omega);have ct:IntKind.i64.wrap ((c3.length:Int)+1)=(c3.length:Int)+1:=cY (by omega) (by omega);simp(disch:=first|omega|simp only[DI.aK];omega) [F0,C7,Kp,rz,bw,Gs,e8,ct,-an,-au,-ak,-aq,-List.map_map];refine a1 _ _ (g9 _ _ Q (bj.next+3) aR (by simp[z0]) (by simp[z3]) (by simp[sV]) (by simp) (by simp) ?_ ?_ ?_ (by omega) (by omega) (λb hb=> ?_) λc6 eC Av ie dU bC a8 Nf pb ef x7 vJ=>bb c6 eC Av (λs gO=>(ie s gO).trans ?_) dU bC a8 Nf pb ef (λb hb=>⟨(x7 b hb).1,(x7 b hb).2.trans ?_⟩) (by simp at vJ;omega))
    ·simp(disch:=first|omega|simp only[DI.aK];omega) [hc,-an,-au,-ak,-aq,-List.map_map]
    ·simp(disch:=first|omega|simp only[DI.aK];omega) [aD,aI,-an,-au,-ak,-aq,-List.map_map]
    ·simp(disch:=first|omega|simp only[DI.aK];omega) [-an,-au,-ak,-aq,-List.map_map];exact h7 (by simp)
    ·obtain⟨a8,bV,cv⟩:=dz b hb;exact⟨a8,by omega,by simp;omega⟩
    ·simp only[NO,hi,kJ,or_false]at gO;rcases gO with rfl|rfl|rfl|rfl|rfl<;>simp[z0,z3,z4,ra,sV,bO,bW,bB]
    ·obtain⟨a8,bV,cv⟩:=dz b hb;have fQ:b<bj.next:=by omega
     have g0: ¬b=bj.next+2:=by omega
     have mS: ¬b=bj.next+3:=by omega
     simp(disch:=first|omega|simp only[DI.aK];omega) [zF b hb,-an,-au,-ak,-aq,-List.map_map]
   by_cases JH:fM l (i+1) 12=0
   ·skip
    obtain⟨xx,dn,er,eO,g8,g9⟩:=cf (c3++[-1]) (i+2) (by simp;omega) (λy Y=>by
     simp only[js,rg]at Y;rcases Y with Y|rfl
     ·exact av y Y
     ·omega) (by omega)
    refine⟨xx,dn,er,eO,by omega,λz t Q or aR bO bW bB ca bl aL eZ bq h1 dY dz bb=> ?_⟩;refine eF (ax:=⟨[v9,AJ u h.ok],[kG]⟩) λbM a1=> ?_;have dD:=aM aL;have lG:=aM eZ;have kR:=aM bq;have xp: ¬0=or:= λe=>h1 e.symm;have HY: ¬1=or:= λe=>dY e.symm;simp(disch:=first|omega|simp only[DI.aK];omega) [HC,bO,bW,bB,bl,eZ,aI,aL,c,nf,aV,-an,-au,-ak,-aq,-List.map_map];refine oE _ _ _ 1 or (by simp[bW]) (by simp[ca]) (by simp) (by simp) (by simp(disch:=first|omega|simp only[DI.aK];omega) [eZ,aI,-an,-au,-ak,-aq,-List.map_map]) (by simp(disch:=first|omega|simp only[DI.aK];omega) [bq,-an,-au,-ak,-aq,-List.map_map]) λbQ bj F Kp fT=> ?_;have z0:bQ 0=bH 0:=(F 0 (by decide)).trans (by simp[bO]);have z3:bQ 3=bH 1:=(F 3 (by decide)).trans (by simp[bW]);have z4:bQ 4=z 4:=(F 4 (by decide)).trans (by simp);have ra:bQ 5=z 5:=(F 5 (by decide)).trans (by simp);have sV:bQ 6=E v:=(F 6 (by decide)).trans (by simp[bB]);have F0:bQ 7=b7 or c3.length 1:=(F 7 (by decide)).trans (by simp[ca]);have C7:bQ 8=E c3.length:=(F 8 (by decide)).trans (by simp[bl]);have hc:bj.I 0=some ⟨[bm l,E ((i:Int)+1)],true⟩:=(fT.2 0).trans (by simp(disch:=first|omega|simp only[DI.aK];omega) [-an,-au,-ak,-aq,-List.map_map]);have aD:bj.I 1=some ⟨aI u,true⟩:=(fT.2 1).trans (by simp(disch:=first|omega|simp only[DI.aK];omega) [eZ,aI,-an,-au,-ak,-aq,-List.map_map]);have rz:bj.I or=some ⟨c3.map E,true⟩:=(fT.2 or).trans (by simp(disch:=first|omega|simp only[DI.aK];omega) [bq,-an,-au,-ak,-aq,-List.map_map]);have zF: ∀b∈aR,bj.I b=t.I b:= λb hb=>(fT.2 b).trans (by rw[a7 (dz b hb).1]);have kZ:bj.next=t.next:=fT.1.trans (by simp)
    clear F fT;have bw:=GB bj or rz;have eA:=aM hc;have bn:=aM aD;have aaD:=aM rz;have e8:(c3.length+1)*8<=140737488355328/\c3.length<=9223372036854775806:=(by omega);have ct:IntKind.i64.wrap ((c3.length:Int)+1)=(c3.length:Int)+1:=cY (by omega) (by omega);simp(disch:=first|omega|simp only[DI.aK];omega) [z0,F0,C7,Kp,hc,rz,bw,Gs,JH,nf,e8,ct,FO,-an,-au,-ak,-aq,-List.map_map];refine a1 _ _ (g9 _ _ Q (bj.next+3) aR (by simp[z0]) (by simp[z3]) (by simp[sV]) (by simp) (by simp) ?_ ?_ ?_ (by omega) (by omega) (λb hb=> ?_) λc6 eC Av ie dU bC a8 Nf pb ef x7 vJ=>bb c6 eC Av (λs gO=>(ie s gO).trans ?_) dU bC a8 Nf pb ef (λb hb=>⟨(x7 b hb).1,(x7 b hb).2.trans ?_⟩) (by simp at vJ;omega))
    ·simp(disch:=first|omega|simp only[DI.aK];omega) [-an,-au,-ak,-aq,-List.map_map];omega
    ·simp(disch:=first|omega|simp only[DI.aK];omega) [aD,aI,-an,-au,-ak,-aq,-List.map_map]
    ·simp(disch:=first|omega|simp only[DI.aK];omega) [-an,-au,-ak,-aq,-List.map_map];exact h7 (by simp)
    ·obtain⟨a8,bV,cv⟩:=dz b hb;exact⟨a8,by omega,by simp;omega⟩
    ·simp only[NO,hi,kJ,or_false]at gO;rcases gO with rfl|rfl|rfl|rfl|rfl<;>simp[z0,z3,z4,ra,sV,bO,bW,bB]
    ·obtain⟨a8,bV,cv⟩:=dz b hb;have fQ:b<bj.next:=by omega
     have g0: ¬b=bj.next+2:=by omega
     have mS: ¬b=bj.next+3:=by omega
     simp(disch:=first|omega|simp only[DI.aK];omega) [zF b hb,-an,-au,-ak,-aq,-List.map_map]
   ·skip
    obtain⟨xx,dn,er,eO,g8,g9⟩:=cf (c3++[(lB:Int)]) (i+2) (by simp;omega) (λy Y=>by
     simp only[js,rg]at Y;rcases Y with Y|rfl
     ·exact av y Y
     ·omega) (by omega)
    refine⟨xx,dn,er,eO,by omega,λz t Q or aR bO bW bB ca bl aL eZ bq h1 dY dz bb=> ?_⟩;refine eF (ax:=⟨[v9,AJ u h.ok],[kG]⟩) λbM a1=> ?_;have dD:=aM aL;have lG:=aM eZ;have kR:=aM bq;have xp: ¬0=or:= λe=>h1 e.symm;have HY: ¬1=or:= λe=>dY e.symm;simp(disch:=first|omega|simp only[DI.aK];omega) [HC,bO,bW,bB,bl,eZ,aI,aL,c,nf,aV,-an,-au,-ak,-aq,-List.map_map];refine oE _ _ _ 1 or (by simp[bW]) (by simp[ca]) (by simp) (by simp) (by simp(disch:=first|omega|simp only[DI.aK];omega) [eZ,aI,-an,-au,-ak,-aq,-List.map_map]) (by simp(disch:=first|omega|simp only[DI.aK];omega) [bq,-an,-au,-ak,-aq,-List.map_map]) λbQ bj F Kp fT=> ?_;have z0:bQ 0=bH 0:=(F 0 (by decide)).trans (by simp[bO]);have z3:bQ 3=bH 1:=(F 3 (by decide)).trans (by simp[bW]);have z4:bQ 4=z 4:=(F 4 (by decide)).trans (by simp);have ra:bQ 5=z 5:=(F 5 (by decide)).trans (by simp);have sV:bQ 6=E v:=(F 6 (by decide)).trans (by simp[bB]);have F0:bQ 7=b7 or c3.length 1:=(F 7 (by decide)).trans (by simp[ca]);have C7:bQ 8=E c3.length:=(F 8 (by decide)).trans (by simp[bl]);have hc:bj.I 0=some ⟨[bm l,E ((i:Int)+1)],true⟩:=(fT.2 0).trans (by simp(disch:=first|omega|simp only[DI.aK];omega) [-an,-au,-ak,-aq,-List.map_map]);have aD:bj.I 1=some ⟨aI u,true⟩:=(fT.2 1).trans (by simp(disch:=first|omega|simp only[DI.aK];omega) [eZ,aI,-an,-au,-ak,-aq,-List.map_map]);have rz:bj.I or=some ⟨c3.map E,true⟩:=(fT.2 or).trans (by simp(disch:=first|omega|simp only[DI.aK];omega) [bq,-an,-au,-ak,-aq,-List.map_map]);have zF: ∀b∈aR,bj.I b=t.I b:= λb hb=>(fT.2 b).trans (by rw[a7 (dz b hb).1]);have kZ:bj.next=t.next:=fT.1.trans (by simp)
    clear F fT;have bw:=GB bj or rz;have eA:=aM hc;have bn:=aM aD;have aaD:=aM rz;have e8:(c3.length+1)*8<=140737488355328/\c3.length<=9223372036854775806:=(by omega);have ct:IntKind.i64.wrap ((c3.length:Int)+1)=(c3.length:Int)+1:=cY (by omega) (by omega);simp(disch:=first|omega|simp only[DI.aK];omega) [z0,F0,C7,Kp,hc,rz,bw,Gs,JH,nf,e8,ct,FO,-an,-au,-ak,-aq,-List.map_map];refine a1 _ _ (g9 _ _ Q (bj.next+3) aR (by simp[z0]) (by simp[z3]) (by simp[sV]) (by simp) (by simp) ?_ ?_ ?_ (by omega) (by omega) (λb hb=> ?_) λc6 eC Av ie dU bC a8 Nf pb ef x7 vJ=>bb c6 eC Av (λs gO=>(ie s gO).trans ?_) dU bC a8 Nf pb ef (λb hb=>⟨(x7 b hb).1,(x7 b hb).2.trans ?_⟩) (by simp at vJ;omega))
    ·simp(disch:=first|omega|simp only[DI.aK];omega) [-an,-au,-ak,-aq,-List.map_map];omega
    ·simp(disch:=first|omega|simp only[DI.aK];omega) [aD,aI,-an,-au,-ak,-aq,-List.map_map]
    ·simp(disch:=first|omega|simp only[DI.aK];omega) [-an,-au,-ak,-aq,-List.map_map];exact h7 (by simp)
    ·obtain⟨a8,bV,cv⟩:=dz b hb;exact⟨a8,by omega,by simp;omega⟩
    ·simp only[NO,hi,kJ,or_false]at gO;rcases gO with rfl|rfl|rfl|rfl|rfl<;>simp[z0,z3,z4,ra,sV,bO,bW,bB]
    ·obtain⟨a8,bV,cv⟩:=dz b hb;have fQ:b<bj.next:=by omega
     have g0: ¬b=bj.next+2:=by omega
     have mS: ¬b=bj.next+3:=by omega
     simp(disch:=first|omega|simp only[DI.aK];omega) [zF b hb,-an,-au,-ak,-aq,-List.map_map]
def A7(u:aG)(L:List (List Int)):Prop:= ∀(w:Nat) (r:List Int),L[w]?=some r->(r.length:Int)=iF u w/\Ow u r
theorem A7.add{u:aG}{L:List (List Int)}{r:List Int}(h:A7 u L)(A:(r.length:Int)=iF u L.length)(D:Ow u r):A7 u (L++[r]):= λw x B=>by
 by_cases c:w<L.length
 ·rw[AV c]at B;exact h w x B
 ·have az:=(cG.1 B).1;simp only[iv,mC,xN]at az;have e:w=L.length:=(by omega);subst e;rw[AU (c8 _)]at B;simp at B;subst B;exact⟨A,D⟩
theorem aF9{L:List (List Int)}:(L.map lq).flatten.length=L.length:=by rw[wO (G:=1) λr al=>by obtain⟨x,_,rfl⟩:=gG.1 al;rfl,k8,Nat.mul_one]
theorem ape{L:List (List Int)}: ∀r∈L.map lq,r.length=1/\ ∀v∈r,hB v=true:= λr al=>by obtain⟨x,_,rfl⟩:=gG.1 al;exact⟨rfl,λv M=>by simp[lq]at M;subst M;rfl⟩
theorem aCg{l:List Int}(az:l.length<=140737488355328){u:aG}(h:cE u)(ic:1<=u.aY.length): ∀(r:Nat) (L:List (List Int)) (i:Nat),L.length+r=u.aZ.length->A7 u L->i+20*r+100<1000000->
 ∃ (F9:List (List Int)) (dn:Nat),F9.length=u.aZ.length/\A7 u F9/\dn<=i+20*r/\ ∀(z:aC) (t:H) (Q:cM->aC->H->Prop) (rP:Nat),z 0=bH 0->z 3=bH 1->z 5=b7 rP L.length 1->z 6=E L.length->
   t.I 0=some ⟨[bm l,E i],true⟩->t.I 1=some ⟨aI u,true⟩->t.I rP=some ⟨(L.map lq).flatten,true⟩->rP≠0->rP≠1->
   (∀K af aa2,K 5=b7 aa2 F9.length 1->af.I 0=some ⟨[bm l,E dn],true⟩->af.I aa2=some ⟨(F9.map lq).flatten,true⟩->aa2≠0->Q (.cH 0) K af)->ec N (.loop RP) z t Q:=by
 have mo:=h.ok.j4;intro r;induction r with
 | zero=>intro L i al av W;refine⟨L,i,by omega,av,by omega,λz t Q rP bO bW bz bB aL eZ bq h1 dY bb=> ?_⟩;refine eF (ax:=⟨[v9,AJ u h.ok],[kG]⟩) λbM a1=> ?_;have lG:=aM eZ;have c: ¬(L.length:Int)<u.aZ.length:=(by omega);have b6: ¬L.length<u.aZ.length:=(by omega);simp[RP,bW,bB,eZ,aI,c];exact bb _ _ rP (by simp[bz]) aL bq h1
 | succ r cf=>
   intro L i al av W;have M:L.length<u.aZ.length:=(by omega);have kt:=DK h.ok M;obtain⟨c3,kF,bt,bR,a3,a4⟩:=aCf (l:=l) az h ic M (iF u L.length).toNat [] i (by simp;omega) (λy Y=>by simp at Y) (by omega);obtain⟨F9,dn,er,eO,g8,g9⟩:=cf (L++[c3]) kF (by simp;omega) (av.add bt bR) (by omega);refine⟨F9,dn,er,eO,by omega,λz t Q rP bO bW bz bB aL eZ bq h1 dY bb=> ?_⟩;refine eF (ax:=⟨[v9,AJ u h.ok],[kG]⟩) λbM a1=> ?_;have dD:=aM aL;have lG:=aM eZ;have bk:=aM bq;have c:(L.length:Int)<u.aZ.length:=(by omega);simp[RP,bW,bB,eZ,aI,c];refine a4 _ _ _ t.next [rP] (by simp[bO]) (by simp[bW]) (by simp[bB]) (by simp) (by simp) ?_ ?_ ?_ (by omega) (by omega) (λb hb=> ?_) λbQ bj or F dU agq agD e1 xp HY dz ae=> ?_
   ·simp(disch:=omega) [aL]
   ·simp(disch:=omega) [eZ,aI]
   ·simp(disch:=first|omega|simp only[DI.aK];omega)
   ·simp only[hi,kJ,or_false]at hb;subst hb;exact⟨h1,by omega,by simp;omega⟩
   have z0:bQ 0=bH 0:=(F 0 (by decide)).trans (by simp[bO]);have z3:bQ 3=bH 1:=(F 3 (by decide)).trans (by simp[bW]);have ra:bQ 5=b7 rP L.length 1:=(F 5 (by decide)).trans (by simp[bz]);have sV:bQ 6=E L.length:=(F 6 (by decide)).trans (by simp[bB]);have ry:bj.I rP=some ⟨(L.map lq).flatten,true⟩:=(dz rP (by simp)).2.trans (by simp(disch:=omega) [bq]);have eA:=aM agq;have bn:=aM agD;have jn:=aM ry;have aaD:=aM e1;have dJ:=aF9 (L:=L);have m7:or=rP->False:= λe=>(dz rP (by simp)).1 e.symm;clear F dz ae;have ct:IntKind.i64.wrap ((L.length:Int)+1)=(L.length:Int)+1:=cY (by omega) (by omega);have al: ∀x,(L++[c3]).map lq=x->(L.map lq).flatten++[bm c3]=x.flatten:= λx B=>by subst B;simp[lq]
   have ba:List.take L.length (L.map lq).flatten=(L.map lq).flatten:=h7 (by omega);have fL: ¬or=rP:= λe=>by subst e;exact(m7 rfl).elim
   simp(disch:=first|omega|simp only[DI.aK];omega) [ra,sV,dU,ry,dJ,ct,ba];refine⟨by omega,a1 _ _ (vc (o:=or) (p:=bj.next+3) (j:=L.length) (G:=1) (bI:=c3.map λx=>[E x]) (cells:=(L.map lq).flatten++[b7 or c3.length 1]) ?_ su ?_ ?_ (by omega) (g9 _ _ Q (bj.next+3) (by simp[z0]) (by simp[z3]) ?_ ?_ ?_ ?_ ?_ (by omega) (by omega) bb))⟩
   ·rw[a7 (by omega),a7 fL,a7 (by omega),H.cJ,l5];exact e1
   ·rw[cx (by simp)]
   ·rw[AU (by omega)];simp[dJ]
   ·simp
   ·simp
   ·rw[a7 (by omega),a7 (by omega),a7 (by omega),a7 (by omega),a7 (by omega),H.cJ];exact agq
   ·rw[a7 (by omega),a7 (by omega),a7 (by omega),a7 (by omega),a7 (by omega),H.cJ];exact agD
   ·rw[cx (by simp),List.set_append_right _ _ (by omega)];simp[dJ,lq]
theorem TA{t:H}{o l G:Nat}{bI:List (List Value)}(h:t.I o=some ⟨bI.flatten,true⟩)(al: ∀r∈bI,r.length=G/\ ∀v∈r,hB v=true)(bG:o≠0):0∉DI.et 9 t (b7 o l G):=by
 rw[yX,h];simp only[hi,wm,zf];rintro(e|⟨v,⟨r,p4,M⟩,B⟩)
 ·exact bG e.symm
 ·rw[DI.Cz ((al r p4).2 v M)]at B;cases B
theorem aCi{l:List Int}(az:l.length<=140737488355328){i:Nat}(W:i<600000){u:aG}(h:cE u)(ic:1<=u.aY.length): ∃L dn,L.length=u.aZ.length/\A7 u L/\dn<=i+20*u.aZ.length/\fc N 48 [bH 0,.agg (aI u).toArray] (o6 l i) λv af=>DI.dt 9 af v=some (jO L)/\af.I 0=some ⟨[bm l,E dn],true⟩/\0∉et 9 af v:=by
 have mo:=h.ok.j4;obtain⟨L,dn,er,eO,g8,g9⟩:=aCg (l:=l) az h ic u.aZ.length [] i (by simp) (λw r al=>by simp at al) (by omega);refine⟨L,dn,er,eO,g8,?_⟩;refine c2 (ax:=⟨[v9,AJ u h.ok],[kG]⟩) azG (by kernel_rfl) (by simp[YR]) ?_;simp[YR,ak7,o6];refine tY (d:=5) (G:=1) (by simp) ?_;refine g9 _ _ _ 3 (by simp) (by simp) (by simp[fJ]) (by simp) ?_ ?_ ?_ (by decide) (by decide) λbQ bj rP bz aL aE h1=> ?_
 ·rw[a7 (by simp[fJ]),cJ (by simp[fJ]),a7 (by decide),cJ (by simp[fJ]),cx (by simp[fJ])]
 ·rw[a7 (by simp[fJ]),cJ (by simp[fJ]),cx (by simp[fJ])]
 ·rw[show((((fJ.b0 1).aO 0 (some {cells:=[bm l,E i],own:=true})).b0 2).aO 1 (some {cells:=aI u,own:=true})).next=3 from rfl];exact cx (by simp[fJ])
 simp[bz];refine⟨?_,aL,TA aE ape h1⟩;have:=vu (n:=8) (t:=bj) (l:=L.length) aE (by simp) ape;exact this
end Go.Proofs.YtmmkkggfmigppaaGreat
