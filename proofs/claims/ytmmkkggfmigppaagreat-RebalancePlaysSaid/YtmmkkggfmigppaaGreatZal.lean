/-
  A part of the proof of the statement, in texts that tools of ours (wip/shrink.py, irpack.py, relax.py, minify.py, join.py, lay.py) have shortened.
-/
import Derived.Test.YtmmkkggfmigppaaGreatZak
set_option linter.all false
set_option maxRecDepth 8000
set_option maxHeartbeats 16000000
namespace Go.Proofs.YtmmkkggfmigppaaGreat
open Go Go.DI Go.Big
def k6(Bt:Nat)(x:B9):Bool:=dK x.ext 1 16&&(dK x.NY 1 64&&dK x.Ny 0 ((Bt:Int)-1))
def Bk(ds:List gB)(m:Int):Bool:=match ds[m.toNat]? with
  |some q=>decide (q.jY=4)
  |none=>false
def kV(eO:Nat)(ds:List gB)(x:mQ):Bool:=dK x.model 0 ((eO:Int)-1)&&(dK x.w9 0 ((ds.length:Int)-1)&&Bk ds x.w9)
def nS(xb:Nat)(x:qy):Bool:=dK x.qi 0 ((xb:Int)-1)
theorem Fg{c4:Type}{l:List c4}{p:c4->Bool}{b:Bool}{i:Nat}{x:c4}(G:l[i]?=some x):(b&&(l.take (i+1)).all p)=((b&&(l.take i).all p)&&p x):=by rw[l6 G,s6];simp[zI]
def lU:List Nat:=[1,3,4,5,6,7]
theorem eI{A ak:aR}{d:Nat}(E:1≠d->ak 1=A 1)(av:3≠d->ak 3=A 3)(aH:4≠d->ak 4=A 4)(br:5≠d->ak 5=A 5)(cW:6≠d->ak 6=A 6)(fu:7≠d->ak 7=A 7): ∀k∈lU,k≠d->ak k=A k:= λk aa aD=>by
  simp only[lU,hH,jm,or_false]at aa;rcases aa with rfl|rfl|rfl|rfl|rfl|rfl
  · exact E aD
  · exact av aD
  · exact aH aD
  · exact br aD
  · exact cW aD
  · exact fu aD
theorem aEA{u:bg}(h:bg.fO u){da:aR}{c1:W}{gS:Nat}{bX:List ByteArray}{dC:Bool}(kd:bX.length<=10000)(oA:c1.X 0=some ⟨aL u,true⟩)(oB:c1.X gS=some ⟨eG bX,true⟩)(uf:gS≠0)(ba:da 1=cw 0)(gf:da 3= .slice (some ⟨gS,0,none⟩) bX.length 1)(b9:da 8= .bool dC)
    (qm:da 67=aj (u.cN.map gZ) 4) (ra:da 68=Y u.cN.length) (rb:da 69=Y 0) {Q:dA->aR->W->Prop}
    (b2: ∀A t o,(∀k∈lU,k≠3->A k=da k)->A 8= .bool (dC&&u.cN.all ik.mJ)->A 3= .slice (some ⟨o,0,none⟩) (bX.length+u.cN.length) 1->t.X o=some ⟨eG (bX++u.cN.map (·.name)),true⟩->(o=gS\/c1.next<=o)->c1.next<=t.next->(∀b,b<c1.next->b≠gS->t.X b=c1.X b)->Q (.a7 0) A t):fZ al (.loop DH) da c1 Q:=by
  have tW:=a6 oA;have Ic:=a6 oB;have eA:u.cN.length<=1000:=h.Bt;refine h9 (aC:=⟨[Vw],[]⟩) (λi A t=> ∃o,(∀k∈lU,k≠3->A k=da k)/\A 8= .bool (dC&&(u.cN.take i).all ik.mJ)/\A 3= .slice (some ⟨o,0,none⟩) (bX.length+i) 1/\t.X o=some ⟨eG (bX++(u.cN.take i).map (·.name)),true⟩/\(o=gS\/c1.next<=o)/\c1.next<=t.next/\(∀b,b<c1.next->b≠gS->t.X b=c1.X b)/\A 67=aj (u.cN.map gZ) 4/\A 68=Y u.cN.length/\A 69=Y i) u.cN.length ?_ ?_ 0 da c1 (ht _) ⟨gS,λ_ _ _=>rfl,by simpa using b9,by simpa using gf,by simpa using oB,.inl rfl,ey _,λ_ _ _=>rfl,qm,ra,rb⟩
  · rintro i A t ai ⟨o,fp,fX,iI,bU,fw,jf,eX,g3,gn,iH⟩ cS bm;have G:u.cN[i]?=some u.cN[i]:=cD ai;have cg:=gY (n:=i) (by omega);have b6:(i:Int)<u.cN.length:=(by omega);have oQ:A 1=cw 0:=(fp 1 (by decide) (by decide)).trans ba;have aN:t.X 0=some ⟨aL u,true⟩:=(by rw[eX 0 tW (Ne.symm uf)];exact oA);have fl:=a6 aN;have cB:=a6 bU;have hg:o≠0:=(by rcases fw with rfl|bS<;>omega);obtain⟨j9,jG⟩: ∃c,c=eG (bX++(u.cN.take i).map (·.name)):=⟨_,rfl⟩;rw[<-jG]at bU;have jE:j9.length=bX.length+i:=(by rw[jG,Ed,kT,j5,nU];omega);have kR:j9.take (bX.length+i)=j9:=jT (by omega);have gh:(bX.length+i+1)*16<=140737488355328/\bX.length+i<=9223372036854775806:=(by omega);have jW:j9++[fT u.cN[i].name]=eG (bX++(u.cN.take (i+1)).map (·.name)):=(by rw[l6 G,vV,<-EX,mO,xP,Bv,jG]);have dj:=h.cN _ (jQ ai);have hb:=Fg (p:=ik.mJ) (b:=dC) G;obtain⟨aV,cT⟩: ∃aV,aV=(dC&&(u.cN.take i).all ik.mJ):=⟨_,rfl⟩;rw[<-cT]at fX hb;cases aV
    · skip
      simp(disch:=first|omega|simp only[DI.ae];omega) [DH,HT,MS,MT,gZ,fX,iI,g3,gn,iH,bU,b6,cg,jE,kR,gh,-O,-U,-N,-S,-List.map_map];refine bm _ _ ⟨t.next+4+4,λk aa aD=>jR (b:=A k) (eI (d:=3) ?_ ?_ ?_ ?_ ?_ ?_ k aa aD) (fp k aa aD),?_,?_,?_,.inr (by omega),?_,λb hb dP=> ?_,?_,?_,?_⟩
      all_goals first
        |(intro aD;first|(exact absurd rfl aD)|(simp;done))
        |(rw[hb];simp[];done)
        |(rw[<-jW];simp(disch:=first|omega|simp only[DI.ae];omega) [-O,-U,-N,-S,-List.map_map];done)
        | (have mC:b≠o:=by rcases fw with rfl|bS<;>omega
           rw[<-eX b hb dP];simp(disch:=first|omega|simp only[DI.ae];omega) [-O,-U,-N,-S,-List.map_map];done)
        |(simp(disch:=first|omega|simp only[DI.ae];omega) [-O,-U,-N,-S,-List.map_map];done)
        |(simp(disch:=first|omega|simp only[DI.ae];omega) [g3,gn,-O,-U,-N,-S,-List.map_map];done)
        |(simp(disch:=first|omega|simp only[DI.ae];omega) [-O,-U,-N,-S,-List.map_map];omega)
        |(simp;omega)
    · skip
      cases dw:u.cN[i].mJ
      · skip
        simp(disch:=first|omega|simp only[DI.ae];omega) [DH,HT,MS,MT,gZ,fX,iI,g3,gn,iH,bU,b6,cg,jE,kR,gh,dw,-O,-U,-N,-S,-List.map_map];refine bm _ _ ⟨t.next+4+4,λk aa aD=>jR (b:=A k) (eI (d:=3) ?_ ?_ ?_ ?_ ?_ ?_ k aa aD) (fp k aa aD),?_,?_,?_,.inr (by omega),?_,λb hb dP=> ?_,?_,?_,?_⟩
        all_goals first
          |(intro aD;first|(exact absurd rfl aD)|(simp;done))
          |(rw[hb];simp[dw];done)
          |(rw[<-jW];simp(disch:=first|omega|simp only[DI.ae];omega) [-O,-U,-N,-S,-List.map_map];done)
          | (have mC:b≠o:=by rcases fw with rfl|bS<;>omega
             rw[<-eX b hb dP];simp(disch:=first|omega|simp only[DI.ae];omega) [-O,-U,-N,-S,-List.map_map];done)
          |(simp(disch:=first|omega|simp only[DI.ae];omega) [-O,-U,-N,-S,-List.map_map];done)
          |(simp(disch:=first|omega|simp only[DI.ae];omega) [g3,gn,-O,-U,-N,-S,-List.map_map];done)
          |(simp(disch:=first|omega|simp only[DI.ae];omega) [-O,-U,-N,-S,-List.map_map];omega)
          |(simp;omega)
      · skip
        simp(disch:=first|omega|simp only[DI.ae];omega) [DH,HT,MS,MT,gZ,fX,iI,g3,gn,iH,bU,b6,cg,jE,kR,gh,dw,-O,-U,-N,-S,-List.map_map];refine bm _ _ ⟨t.next+4+4,λk aa aD=>jR (b:=A k) (eI (d:=3) ?_ ?_ ?_ ?_ ?_ ?_ k aa aD) (fp k aa aD),?_,?_,?_,.inr (by omega),?_,λb hb dP=> ?_,?_,?_,?_⟩
        all_goals first
          |(intro aD;first|(exact absurd rfl aD)|(simp;done))
          |(rw[hb];simp[dw];done)
          |(rw[<-jW];simp(disch:=first|omega|simp only[DI.ae];omega) [-O,-U,-N,-S,-List.map_map];done)
          | (have mC:b≠o:=by rcases fw with rfl|bS<;>omega
             rw[<-eX b hb dP];simp(disch:=first|omega|simp only[DI.ae];omega) [-O,-U,-N,-S,-List.map_map];done)
          |(simp(disch:=first|omega|simp only[DI.ae];omega) [-O,-U,-N,-S,-List.map_map];done)
          |(simp(disch:=first|omega|simp only[DI.ae];omega) [g3,gn,-O,-U,-N,-S,-List.map_map];done)
          |(simp(disch:=first|omega|simp only[DI.ae];omega) [-O,-U,-N,-S,-List.map_map];omega)
          |(simp;omega)
  · rintro A t ⟨o,fp,fX,iI,bU,fw,jf,eX,g3,gn,iH⟩;rw[nk]at bU fX;simp(disch:=first|omega|simp only[DI.ae];omega) [DH,HT,gn,iH,-O,-U,-N,-S,-List.map_map];refine b2 _ _ o (λk aa aD=>jR (b:=A k) (eI (d:=3) ?_ ?_ ?_ ?_ ?_ ?_ k aa aD) (fp k aa aD)) ?_ ?_ bU fw jf eX
    all_goals first
      |(intro aD;simp;done)
      |(simp[fX];done)
      |(simp[iI];done)
theorem aEB{u:bg}(h:bg.fO u){da:aR}{c1:W}{gS:Nat}{bX:List ByteArray}{dC:Bool}(kd:bX.length<=10000)(oA:c1.X 0=some ⟨aL u,true⟩)(oB:c1.X gS=some ⟨eG bX,true⟩)(uf:gS≠0)(ba:da 1=cw 0)(gf:da 4= .slice (some ⟨gS,0,none⟩) bX.length 1)(b9:da 8= .bool dC)
    (qm:da 85=aj (u.bf.map gE) 4) (ra:da 86=Y u.bf.length) (rb:da 87=Y 0) {Q:dA->aR->W->Prop}
    (b2: ∀A t o,(∀k∈lU,k≠4->A k=da k)->A 8= .bool (dC&&u.bf.all (k6 u.cN.length))->A 4= .slice (some ⟨o,0,none⟩) (bX.length+u.bf.length) 1->t.X o=some ⟨eG (bX++u.bf.map (·.name)),true⟩->(o=gS\/c1.next<=o)->c1.next<=t.next->(∀b,b<c1.next->b≠gS->t.X b=c1.X b)->Q (.a7 2) A t):fZ al (.loop yF) da c1 Q:=by
  have tW:=a6 oA;have Ic:=a6 oB;have eA:u.bf.length<=1000:=h.eO;refine h9 (aC:=⟨[r7],[]⟩) (λi A t=> ∃o,(∀k∈lU,k≠4->A k=da k)/\A 8= .bool (dC&&(u.bf.take i).all (k6 u.cN.length))/\A 4= .slice (some ⟨o,0,none⟩) (bX.length+i) 1/\t.X o=some ⟨eG (bX++(u.bf.take i).map (·.name)),true⟩/\(o=gS\/c1.next<=o)/\c1.next<=t.next/\(∀b,b<c1.next->b≠gS->t.X b=c1.X b)/\A 85=aj (u.bf.map gE) 4/\A 86=Y u.bf.length/\A 87=Y i) u.bf.length ?_ ?_ 0 da c1 (ht _) ⟨gS,λ_ _ _=>rfl,by simpa using b9,by simpa using gf,by simpa using oB,.inl rfl,ey _,λ_ _ _=>rfl,qm,ra,rb⟩
  · rintro i A t ai ⟨o,fp,fX,iI,bU,fw,jf,eX,g3,gn,iH⟩ cS bm;have G:u.bf[i]?=some u.bf[i]:=cD ai;have cg:=gY (n:=i) (by omega);have b6:(i:Int)<u.bf.length:=(by omega);have oQ:A 1=cw 0:=(fp 1 (by decide) (by decide)).trans ba;have aN:t.X 0=some ⟨aL u,true⟩:=(by rw[eX 0 tW (Ne.symm uf)];exact oA);have fl:=a6 aN;have cB:=a6 bU;have hg:o≠0:=(by rcases fw with rfl|bS<;>omega);obtain⟨j9,jG⟩: ∃c,c=eG (bX++(u.bf.take i).map (·.name)):=⟨_,rfl⟩;rw[<-jG]at bU;have jE:j9.length=bX.length+i:=(by rw[jG,Ed,kT,j5,nU];omega);have kR:j9.take (bX.length+i)=j9:=jT (by omega);have gh:(bX.length+i+1)*16<=140737488355328/\bX.length+i<=9223372036854775806:=(by omega);have jW:j9++[fT u.bf[i].name]=eG (bX++(u.bf.take (i+1)).map (·.name)):=(by rw[l6 G,vV,<-EX,mO,xP,Bv,jG]);have kA:IntKind.i64.wrap ((u.cN.length:Int)-1)=(u.cN.length:Int)-1:=fV (by omega) (by have:=h.Bt;omega);have hb:=Fg (p:=(k6 u.cN.length)) (b:=dC) G;obtain⟨aV,cT⟩: ∃aV,aV=(dC&&(u.bf.take i).all (k6 u.cN.length)):=⟨_,rfl⟩;rw[<-cT]at fX hb;cases aV
    · skip
      simp(disch:=first|omega|simp only[DI.ae];omega) [yF,AS,DD,DE,gE,fX,iI,g3,gn,iH,bU,b6,cg,jE,kR,gh,-O,-U,-N,-S,-List.map_map];refine bm _ _ ⟨t.next+4+4,λk aa aD=>jR (b:=A k) (eI (d:=4) ?_ ?_ ?_ ?_ ?_ ?_ k aa aD) (fp k aa aD),?_,?_,?_,.inr (by omega),?_,λb hb dP=> ?_,?_,?_,?_⟩
      all_goals first
        |(intro aD;first|(exact absurd rfl aD)|(simp;done))
        |(rw[hb];simp[];done)
        |(rw[<-jW];simp(disch:=first|omega|simp only[DI.ae];omega) [-O,-U,-N,-S,-List.map_map];done)
        | (have mC:b≠o:=by rcases fw with rfl|bS<;>omega
           rw[<-eX b hb dP];simp(disch:=first|omega|simp only[DI.ae];omega) [-O,-U,-N,-S,-List.map_map];done)
        |(simp(disch:=first|omega|simp only[DI.ae];omega) [-O,-U,-N,-S,-List.map_map];done)
        |(simp(disch:=first|omega|simp only[DI.ae];omega) [g3,gn,-O,-U,-N,-S,-List.map_map];done)
        |(simp(disch:=first|omega|simp only[DI.ae];omega) [-O,-U,-N,-S,-List.map_map];omega)
        |(simp;omega)
    · skip
      cases dj:dK u.bf[i].ext 1 16
      · skip
        simp(disch:=first|omega|simp only[DI.ae];omega) [yF,AS,DD,DE,gE,fX,iI,g3,gn,iH,bU,b6,cg,jE,kR,gh,dj,-O,-U,-N,-S,-List.map_map];refine bm _ _ ⟨t.next+4+4,λk aa aD=>jR (b:=A k) (eI (d:=4) ?_ ?_ ?_ ?_ ?_ ?_ k aa aD) (fp k aa aD),?_,?_,?_,.inr (by omega),?_,λb hb dP=> ?_,?_,?_,?_⟩
        all_goals first
          |(intro aD;first|(exact absurd rfl aD)|(simp;done))
          |(rw[hb];simp[k6,dj];done)
          |(rw[<-jW];simp(disch:=first|omega|simp only[DI.ae];omega) [-O,-U,-N,-S,-List.map_map];done)
          | (have mC:b≠o:=by rcases fw with rfl|bS<;>omega
             rw[<-eX b hb dP];simp(disch:=first|omega|simp only[DI.ae];omega) [-O,-U,-N,-S,-List.map_map];done)
          |(simp(disch:=first|omega|simp only[DI.ae];omega) [-O,-U,-N,-S,-List.map_map];done)
          |(simp(disch:=first|omega|simp only[DI.ae];omega) [g3,gn,-O,-U,-N,-S,-List.map_map];done)
          |(simp(disch:=first|omega|simp only[DI.ae];omega) [-O,-U,-N,-S,-List.map_map];omega)
          |(simp;omega)
      · skip
        cases dw:dK u.bf[i].NY 1 64
        · skip
          simp(disch:=first|omega|simp only[DI.ae];omega) [yF,AS,DD,DE,gE,fX,iI,g3,gn,iH,bU,b6,cg,jE,kR,gh,dj,dw,-O,-U,-N,-S,-List.map_map];refine bm _ _ ⟨t.next+4+4,λk aa aD=>jR (b:=A k) (eI (d:=4) ?_ ?_ ?_ ?_ ?_ ?_ k aa aD) (fp k aa aD),?_,?_,?_,.inr (by omega),?_,λb hb dP=> ?_,?_,?_,?_⟩
          all_goals first
            |(intro aD;first|(exact absurd rfl aD)|(simp;done))
            |(rw[hb];simp[k6,dj,dw];done)
            |(rw[<-jW];simp(disch:=first|omega|simp only[DI.ae];omega) [-O,-U,-N,-S,-List.map_map];done)
            | (have mC:b≠o:=by rcases fw with rfl|bS<;>omega
               rw[<-eX b hb dP];simp(disch:=first|omega|simp only[DI.ae];omega) [-O,-U,-N,-S,-List.map_map];done)
            |(simp(disch:=first|omega|simp only[DI.ae];omega) [-O,-U,-N,-S,-List.map_map];done)
            |(simp(disch:=first|omega|simp only[DI.ae];omega) [g3,gn,-O,-U,-N,-S,-List.map_map];done)
            |(simp(disch:=first|omega|simp only[DI.ae];omega) [-O,-U,-N,-S,-List.map_map];omega)
            |(simp;omega)
        · skip
          cases h6:dK u.bf[i].Ny 0 ((u.cN.length:Int)-1)
          · skip
            simp(disch:=first|omega|simp only[DI.ae];omega) [yF,AS,DD,DE,aL,gE,oQ,fX,iI,g3,gn,iH,aN,bU,b6,cg,jE,kR,gh,kA,dj,dw,h6,-O,-U,-N,-S,-List.map_map];refine bm _ _ ⟨t.next+4+4,λk aa aD=>jR (b:=A k) (eI (d:=4) ?_ ?_ ?_ ?_ ?_ ?_ k aa aD) (fp k aa aD),?_,?_,?_,.inr (by omega),?_,λb hb dP=> ?_,?_,?_,?_⟩
            all_goals first
              |(intro aD;first|(exact absurd rfl aD)|(simp;done))
              |(rw[hb];simp[k6,dj,dw,h6];done)
              |(rw[<-jW];simp(disch:=first|omega|simp only[DI.ae];omega) [-O,-U,-N,-S,-List.map_map];done)
              | (have mC:b≠o:=by rcases fw with rfl|bS<;>omega
                 rw[<-eX b hb dP];simp(disch:=first|omega|simp only[DI.ae];omega) [-O,-U,-N,-S,-List.map_map];done)
              |(simp(disch:=first|omega|simp only[DI.ae];omega) [-O,-U,-N,-S,-List.map_map];done)
              |(simp(disch:=first|omega|simp only[DI.ae];omega) [g3,gn,-O,-U,-N,-S,-List.map_map];done)
              |(simp(disch:=first|omega|simp only[DI.ae];omega) [-O,-U,-N,-S,-List.map_map];omega)
              |(simp;omega)
          · skip
            simp(disch:=first|omega|simp only[DI.ae];omega) [yF,AS,DD,DE,aL,gE,oQ,fX,iI,g3,gn,iH,aN,bU,b6,cg,jE,kR,gh,kA,dj,dw,h6,-O,-U,-N,-S,-List.map_map];refine bm _ _ ⟨t.next+4+4,λk aa aD=>jR (b:=A k) (eI (d:=4) ?_ ?_ ?_ ?_ ?_ ?_ k aa aD) (fp k aa aD),?_,?_,?_,.inr (by omega),?_,λb hb dP=> ?_,?_,?_,?_⟩
            all_goals first
              |(intro aD;first|(exact absurd rfl aD)|(simp;done))
              |(rw[hb];simp[k6,dj,dw,h6];done)
              |(rw[<-jW];simp(disch:=first|omega|simp only[DI.ae];omega) [-O,-U,-N,-S,-List.map_map];done)
              | (have mC:b≠o:=by rcases fw with rfl|bS<;>omega
                 rw[<-eX b hb dP];simp(disch:=first|omega|simp only[DI.ae];omega) [-O,-U,-N,-S,-List.map_map];done)
              |(simp(disch:=first|omega|simp only[DI.ae];omega) [-O,-U,-N,-S,-List.map_map];done)
              |(simp(disch:=first|omega|simp only[DI.ae];omega) [g3,gn,-O,-U,-N,-S,-List.map_map];done)
              |(simp(disch:=first|omega|simp only[DI.ae];omega) [-O,-U,-N,-S,-List.map_map];omega)
              |(simp;omega)
  · rintro A t ⟨o,fp,fX,iI,bU,fw,jf,eX,g3,gn,iH⟩;rw[nk]at bU fX;simp(disch:=first|omega|simp only[DI.ae];omega) [yF,AS,gn,iH,-O,-U,-N,-S,-List.map_map];refine b2 _ _ o (λk aa aD=>jR (b:=A k) (eI (d:=4) ?_ ?_ ?_ ?_ ?_ ?_ k aa aD) (fp k aa aD)) ?_ ?_ bU fw jf eX
    all_goals first
      |(intro aD;simp;done)
      |(simp[fX];done)
      |(simp[iI];done)
theorem aEC{u:bg}(h:bg.fO u){ds:List gB}(CG:ds.length<=1000){da:aR}{c1:W}{gS:Nat}{bX:List ByteArray}{dC:Bool}(kd:bX.length<=10000)(oA:c1.X 0=some ⟨aL u,true⟩)(oB:c1.X gS=some ⟨eG bX,true⟩)(uf:gS≠0)(ba:da 1=cw 0)(gf:da 5= .slice (some ⟨gS,0,none⟩) bX.length 1)(b9:da 8= .bool dC)
    (qm:da 119=aj (ds.map ez) 7) (ra:da 120=Y ds.length) (rb:da 121=Y 0) {Q:dA->aR->W->Prop}
    (b2: ∀A t o,(∀k∈lU,k≠5->A k=da k)->A 8= .bool dC->A 5= .slice (some ⟨o,0,none⟩) (bX.length+ds.length) 1->t.X o=some ⟨eG (bX++ds.map (·.name)),true⟩->(o=gS\/c1.next<=o)->c1.next<=t.next->(∀b,b<c1.next->b≠gS->t.X b=c1.X b)->Q (.a7 4) A t):fZ al (.loop MU) da c1 Q:=by
  have tW:=a6 oA;have Ic:=a6 oB;have eA:ds.length<=1000:=CG;refine h9 (aC:=⟨[],[]⟩) (λi A t=> ∃o,(∀k∈lU,k≠5->A k=da k)/\A 8= .bool dC/\A 5= .slice (some ⟨o,0,none⟩) (bX.length+i) 1/\t.X o=some ⟨eG (bX++(ds.take i).map (·.name)),true⟩/\(o=gS\/c1.next<=o)/\c1.next<=t.next/\(∀b,b<c1.next->b≠gS->t.X b=c1.X b)/\A 119=aj (ds.map ez) 7/\A 120=Y ds.length/\A 121=Y i) ds.length ?_ ?_ 0 da c1 (ht _) ⟨gS,λ_ _ _=>rfl,by simpa using b9,by simpa using gf,by simpa using oB,.inl rfl,ey _,λ_ _ _=>rfl,qm,ra,rb⟩
  · rintro i A t ai ⟨o,fp,fX,iI,bU,fw,jf,eX,g3,gn,iH⟩ cS bm;have G:ds[i]?=some ds[i]:=cD ai;have cg:=gY (n:=i) (by omega);have b6:(i:Int)<ds.length:=(by omega);have oQ:A 1=cw 0:=(fp 1 (by decide) (by decide)).trans ba;have aN:t.X 0=some ⟨aL u,true⟩:=(by rw[eX 0 tW (Ne.symm uf)];exact oA);have fl:=a6 aN;have cB:=a6 bU;have hg:o≠0:=(by rcases fw with rfl|bS<;>omega);obtain⟨j9,jG⟩: ∃c,c=eG (bX++(ds.take i).map (·.name)):=⟨_,rfl⟩;rw[<-jG]at bU;have jE:j9.length=bX.length+i:=(by rw[jG,Ed,kT,j5,nU];omega);have kR:j9.take (bX.length+i)=j9:=jT (by omega);have gh:(bX.length+i+1)*16<=140737488355328/\bX.length+i<=9223372036854775806:=(by omega);have jW:j9++[fT ds[i].name]=eG (bX++(ds.take (i+1)).map (·.name)):=(by rw[l6 G,vV,<-EX,mO,xP,Bv,jG]);simp(disch:=first|omega|simp only[DI.ae];omega) [MU,Ty,afn,ez,iI,g3,gn,iH,bU,b6,cg,jE,kR,gh,-O,-U,-N,-S,-List.map_map];refine bm _ _ ⟨t.next+4+4,λk aa aD=>jR (b:=A k) (eI (d:=5) ?_ ?_ ?_ ?_ ?_ ?_ k aa aD) (fp k aa aD),?_,?_,?_,.inr (by omega),?_,λb hb dP=> ?_,?_,?_,?_⟩
    all_goals first
      |(intro aD;first|(exact absurd rfl aD)|(simp;done))
      |(simp[fX];done)
      |(rw[<-jW];simp(disch:=first|omega|simp only[DI.ae];omega) [-O,-U,-N,-S,-List.map_map];done)
      | (have mC:b≠o:=by rcases fw with rfl|bS<;>omega
         rw[<-eX b hb dP];simp(disch:=first|omega|simp only[DI.ae];omega) [-O,-U,-N,-S,-List.map_map];done)
      |(simp(disch:=first|omega|simp only[DI.ae];omega) [-O,-U,-N,-S,-List.map_map];done)
      |(simp(disch:=first|omega|simp only[DI.ae];omega) [g3,gn,-O,-U,-N,-S,-List.map_map];done)
      |(simp(disch:=first|omega|simp only[DI.ae];omega) [-O,-U,-N,-S,-List.map_map];omega)
      |(simp;omega)
  · rintro A t ⟨o,fp,fX,iI,bU,fw,jf,eX,g3,gn,iH⟩;rw[nk]at bU;simp(disch:=first|omega|simp only[DI.ae];omega) [MU,Ty,gn,iH,-O,-U,-N,-S,-List.map_map];refine b2 _ _ o (λk aa aD=>jR (b:=A k) (eI (d:=5) ?_ ?_ ?_ ?_ ?_ ?_ k aa aD) (fp k aa aD)) ?_ ?_ bU fw jf eX
    all_goals first
      |(intro aD;simp;done)
      |(simp[fX];done)
      |(simp[iI];done)
theorem aED{u:bg}(h:bg.fO u){da:aR}{c1:W}{gS:Nat}{bX:List ByteArray}{dC:Bool}(kd:bX.length<=10000)(oA:c1.X 0=some ⟨aL u,true⟩)(oB:c1.X gS=some ⟨eG bX,true⟩)(uf:gS≠0)(ba:da 1=cw 0)(gf:da 5= .slice (some ⟨gS,0,none⟩) bX.length 1)(b9:da 8= .bool dC)
    (qm:da 132=aj (u.aZ.map gr) 3) (ra:da 133=Y u.aZ.length) (rb:da 134=Y 0) {Q:dA->aR->W->Prop}
    (b2: ∀A t o,(∀k∈lU,k≠5->A k=da k)->A 8= .bool (dC&&u.aZ.all (kV u.bf.length u.bP))->A 5= .slice (some ⟨o,0,none⟩) (bX.length+u.aZ.length) 1->t.X o=some ⟨eG (bX++u.aZ.map (·.name)),true⟩->(o=gS\/c1.next<=o)->c1.next<=t.next->(∀b,b<c1.next->b≠gS->t.X b=c1.X b)->Q (.a7 6) A t):fZ al (.loop yG) da c1 Q:=by
  have tW:=a6 oA;have Ic:=a6 oB;have eA:u.aZ.length<=1000:=h.pr;refine h9 (aC:=⟨[r7],[]⟩) (λi A t=> ∃o,(∀k∈lU,k≠5->A k=da k)/\A 8= .bool (dC&&(u.aZ.take i).all (kV u.bf.length u.bP))/\A 5= .slice (some ⟨o,0,none⟩) (bX.length+i) 1/\t.X o=some ⟨eG (bX++(u.aZ.take i).map (·.name)),true⟩/\(o=gS\/c1.next<=o)/\c1.next<=t.next/\(∀b,b<c1.next->b≠gS->t.X b=c1.X b)/\A 132=aj (u.aZ.map gr) 3/\A 133=Y u.aZ.length/\A 134=Y i) u.aZ.length ?_ ?_ 0 da c1 (ht _) ⟨gS,λ_ _ _=>rfl,by simpa using b9,by simpa using gf,by simpa using oB,.inl rfl,ey _,λ_ _ _=>rfl,qm,ra,rb⟩
  · rintro i A t ai ⟨o,fp,fX,iI,bU,fw,jf,eX,g3,gn,iH⟩ cS bm;have G:u.aZ[i]?=some u.aZ[i]:=cD ai;have cg:=gY (n:=i) (by omega);have b6:(i:Int)<u.aZ.length:=(by omega);have oQ:A 1=cw 0:=(fp 1 (by decide) (by decide)).trans ba;have aN:t.X 0=some ⟨aL u,true⟩:=(by rw[eX 0 tW (Ne.symm uf)];exact oA);have fl:=a6 aN;have cB:=a6 bU;have hg:o≠0:=(by rcases fw with rfl|bS<;>omega);obtain⟨j9,jG⟩: ∃c,c=eG (bX++(u.aZ.take i).map (·.name)):=⟨_,rfl⟩;rw[<-jG]at bU;have jE:j9.length=bX.length+i:=(by rw[jG,Ed,kT,j5,nU];omega);have kR:j9.take (bX.length+i)=j9:=jT (by omega);have gh:(bX.length+i+1)*16<=140737488355328/\bX.length+i<=9223372036854775806:=(by omega);have jW:j9++[fT u.aZ[i].name]=eG (bX++(u.aZ.take (i+1)).map (·.name)):=(by rw[l6 G,vV,<-EX,mO,xP,Bv,jG]);have kA:IntKind.i64.wrap ((u.bf.length:Int)-1)=(u.bf.length:Int)-1:=fV (by omega) (by have:=h.eO;omega);have xE:IntKind.i64.wrap ((u.bP.length:Int)-1)=(u.bP.length:Int)-1:=fV (by omega) (by have:=h.jN;omega);have hb:=Fg (p:=(kV u.bf.length u.bP)) (b:=dC) G;obtain⟨aV,cT⟩: ∃aV,aV=(dC&&(u.aZ.take i).all (kV u.bf.length u.bP)):=⟨_,rfl⟩;rw[<-cT]at fX hb;cases aV
    · skip
      simp(disch:=first|omega|simp only[DI.ae];omega) [yG,AR,DF,DG,gr,fX,iI,g3,gn,iH,bU,b6,cg,jE,kR,gh,-O,-U,-N,-S,-List.map_map];refine bm _ _ ⟨t.next+4+4,λk aa aD=>jR (b:=A k) (eI (d:=5) ?_ ?_ ?_ ?_ ?_ ?_ k aa aD) (fp k aa aD),?_,?_,?_,.inr (by omega),?_,λb hb dP=> ?_,?_,?_,?_⟩
      all_goals first
        |(intro aD;first|(exact absurd rfl aD)|(simp;done))
        |(rw[hb];simp[];done)
        |(rw[<-jW];simp(disch:=first|omega|simp only[DI.ae];omega) [-O,-U,-N,-S,-List.map_map];done)
        | (have mC:b≠o:=by rcases fw with rfl|bS<;>omega
           rw[<-eX b hb dP];simp(disch:=first|omega|simp only[DI.ae];omega) [-O,-U,-N,-S,-List.map_map];done)
        |(simp(disch:=first|omega|simp only[DI.ae];omega) [-O,-U,-N,-S,-List.map_map];done)
        |(simp(disch:=first|omega|simp only[DI.ae];omega) [g3,gn,-O,-U,-N,-S,-List.map_map];done)
        |(simp(disch:=first|omega|simp only[DI.ae];omega) [-O,-U,-N,-S,-List.map_map];omega)
        |(simp;omega)
    · skip
      cases dj:dK u.aZ[i].model 0 ((u.bf.length:Int)-1)
      · skip
        simp(disch:=first|omega|simp only[DI.ae];omega) [yG,AR,DF,DG,aL,gr,oQ,fX,iI,g3,gn,iH,aN,bU,b6,cg,jE,kR,gh,kA,dj,-O,-U,-N,-S,-List.map_map];refine bm _ _ ⟨t.next+4+4,λk aa aD=>jR (b:=A k) (eI (d:=5) ?_ ?_ ?_ ?_ ?_ ?_ k aa aD) (fp k aa aD),?_,?_,?_,.inr (by omega),?_,λb hb dP=> ?_,?_,?_,?_⟩
        all_goals first
          |(intro aD;first|(exact absurd rfl aD)|(simp;done))
          |(rw[hb];simp[kV,dj];done)
          |(rw[<-jW];simp(disch:=first|omega|simp only[DI.ae];omega) [-O,-U,-N,-S,-List.map_map];done)
          | (have mC:b≠o:=by rcases fw with rfl|bS<;>omega
             rw[<-eX b hb dP];simp(disch:=first|omega|simp only[DI.ae];omega) [-O,-U,-N,-S,-List.map_map];done)
          |(simp(disch:=first|omega|simp only[DI.ae];omega) [-O,-U,-N,-S,-List.map_map];done)
          |(simp(disch:=first|omega|simp only[DI.ae];omega) [g3,gn,-O,-U,-N,-S,-List.map_map];done)
          |(simp(disch:=first|omega|simp only[DI.ae];omega) [-O,-U,-N,-S,-List.map_map];omega)
          |(simp;omega)
      · skip
        cases dw:dK u.aZ[i].w9 0 ((u.bP.length:Int)-1)
        · skip
          simp(disch:=first|omega|simp only[DI.ae];omega) [yG,AR,DF,DG,aL,gr,oQ,fX,iI,g3,gn,iH,aN,bU,b6,cg,jE,kR,gh,kA,xE,dj,dw,-O,-U,-N,-S,-List.map_map];refine bm _ _ ⟨t.next+4+4,λk aa aD=>jR (b:=A k) (eI (d:=5) ?_ ?_ ?_ ?_ ?_ ?_ k aa aD) (fp k aa aD),?_,?_,?_,.inr (by omega),?_,λb hb dP=> ?_,?_,?_,?_⟩
          all_goals first
            |(intro aD;first|(exact absurd rfl aD)|(simp;done))
            |(rw[hb];simp[kV,dj,dw];done)
            |(rw[<-jW];simp(disch:=first|omega|simp only[DI.ae];omega) [-O,-U,-N,-S,-List.map_map];done)
            | (have mC:b≠o:=by rcases fw with rfl|bS<;>omega
               rw[<-eX b hb dP];simp(disch:=first|omega|simp only[DI.ae];omega) [-O,-U,-N,-S,-List.map_map];done)
            |(simp(disch:=first|omega|simp only[DI.ae];omega) [-O,-U,-N,-S,-List.map_map];done)
            |(simp(disch:=first|omega|simp only[DI.ae];omega) [g3,gn,-O,-U,-N,-S,-List.map_map];done)
            |(simp(disch:=first|omega|simp only[DI.ae];omega) [-O,-U,-N,-S,-List.map_map];omega)
            |(simp;omega)
        · skip
          have zW:=tM.1 dw;obtain⟨aW,dU⟩:=jS zW.1;have z7:aW<u.bP.length:=(by omega);have mB:(aW:Int)<u.bP.length:=(by omega);have bd:u.bP[aW]?=some u.bP[aW]:=cD z7;have ax:Bk u.bP (aW:Int)=decide (u.bP[aW].jY=4):=(by unfold Bk;rw[ot,bd]);rw[dU]at dw;by_cases kW:u.bP[aW].jY=4
          · skip
            simp(disch:=first|omega|simp only[DI.ae];omega) [yG,AR,DF,DG,aL,gr,oQ,fX,iI,g3,gn,iH,aN,bU,b6,cg,jE,kR,gh,kA,xE,ez,dj,dw,dU,mB,kW,-O,-U,-N,-S,-List.map_map];refine bm _ _ ⟨t.next+4+4,λk aa aD=>jR (b:=A k) (eI (d:=5) ?_ ?_ ?_ ?_ ?_ ?_ k aa aD) (fp k aa aD),?_,?_,?_,.inr (by omega),?_,λb hb dP=> ?_,?_,?_,?_⟩
            all_goals first
              |(intro aD;first|(exact absurd rfl aD)|(simp;done))
              |(rw[hb];simp[kV,ax,dj,dw,dU,kW];done)
              |(rw[<-jW];simp(disch:=first|omega|simp only[DI.ae];omega) [-O,-U,-N,-S,-List.map_map];done)
              | (have mC:b≠o:=by rcases fw with rfl|bS<;>omega
                 rw[<-eX b hb dP];simp(disch:=first|omega|simp only[DI.ae];omega) [-O,-U,-N,-S,-List.map_map];done)
              |(simp(disch:=first|omega|simp only[DI.ae];omega) [-O,-U,-N,-S,-List.map_map];done)
              |(simp(disch:=first|omega|simp only[DI.ae];omega) [g3,gn,-O,-U,-N,-S,-List.map_map];done)
              |(simp(disch:=first|omega|simp only[DI.ae];omega) [-O,-U,-N,-S,-List.map_map];omega)
              |(simp;omega)
          · skip
            simp(disch:=first|omega|simp only[DI.ae];omega) [yG,AR,DF,DG,aL,gr,oQ,fX,iI,g3,gn,iH,aN,bU,b6,cg,jE,kR,gh,kA,xE,ez,dj,dw,dU,mB,kW,-O,-U,-N,-S,-List.map_map];refine bm _ _ ⟨t.next+4+4,λk aa aD=>jR (b:=A k) (eI (d:=5) ?_ ?_ ?_ ?_ ?_ ?_ k aa aD) (fp k aa aD),?_,?_,?_,.inr (by omega),?_,λb hb dP=> ?_,?_,?_,?_⟩
            all_goals first
              |(intro aD;first|(exact absurd rfl aD)|(simp;done))
              |(rw[hb];simp[kV,ax,dj,dw,dU,kW];done)
              |(rw[<-jW];simp(disch:=first|omega|simp only[DI.ae];omega) [-O,-U,-N,-S,-List.map_map];done)
              | (have mC:b≠o:=by rcases fw with rfl|bS<;>omega
                 rw[<-eX b hb dP];simp(disch:=first|omega|simp only[DI.ae];omega) [-O,-U,-N,-S,-List.map_map];done)
              |(simp(disch:=first|omega|simp only[DI.ae];omega) [-O,-U,-N,-S,-List.map_map];done)
              |(simp(disch:=first|omega|simp only[DI.ae];omega) [g3,gn,-O,-U,-N,-S,-List.map_map];done)
              |(simp(disch:=first|omega|simp only[DI.ae];omega) [-O,-U,-N,-S,-List.map_map];omega)
              |(simp;omega)
  · rintro A t ⟨o,fp,fX,iI,bU,fw,jf,eX,g3,gn,iH⟩;rw[nk]at bU fX;simp(disch:=first|omega|simp only[DI.ae];omega) [yG,AR,gn,iH,-O,-U,-N,-S,-List.map_map];refine b2 _ _ o (λk aa aD=>jR (b:=A k) (eI (d:=5) ?_ ?_ ?_ ?_ ?_ ?_ k aa aD) (fp k aa aD)) ?_ ?_ bU fw jf eX
    all_goals first
      |(intro aD;simp;done)
      |(simp[fX];done)
      |(simp[iI];done)
theorem aEE{u:bg}(h:bg.fO u){da:aR}{c1:W}{gS:Nat}{bX:List ByteArray}{dC:Bool}(kd:bX.length<=10000)(oA:c1.X 0=some ⟨aL u,true⟩)(oB:c1.X gS=some ⟨eG bX,true⟩)(uf:gS≠0)(ba:da 1=cw 0)(gf:da 6= .slice (some ⟨gS,0,none⟩) bX.length 1)(b9:da 8= .bool dC)
    (qm:da 174=aj (u.cK.map e5) 17) (ra:da 175=Y u.cK.length) (rb:da 176=Y 0) {Q:dA->aR->W->Prop}
    (b2: ∀A t o,(∀k∈lU,k≠6->A k=da k)->A 8= .bool (dC&&u.cK.all (iK · u.bf.length))->A 6= .slice (some ⟨o,0,none⟩) (bX.length+u.cK.length) 1->t.X o=some ⟨eG (bX++u.cK.map (·.name)),true⟩->(o=gS\/c1.next<=o)->c1.next<=t.next->(∀b,b<c1.next->b≠gS->t.X b=c1.X b)->Q (.a7 8) A t):fZ al (.loop DJ) da c1 Q:=by
  have tW:=a6 oA;have Ic:=a6 oB;have eA:u.cK.length<=1000:=h.xb;refine h9 (aC:=⟨[Vx u.bf.length (by have:=h.eO;omega)],[]⟩) (λi A t=> ∃o,(∀k∈lU,k≠6->A k=da k)/\A 8= .bool (dC&&(u.cK.take i).all (iK · u.bf.length))/\A 6= .slice (some ⟨o,0,none⟩) (bX.length+i) 1/\t.X o=some ⟨eG (bX++(u.cK.take i).map (·.name)),true⟩/\(o=gS\/c1.next<=o)/\c1.next<=t.next/\(∀b,b<c1.next->b≠gS->t.X b=c1.X b)/\A 174=aj (u.cK.map e5) 17/\A 175=Y u.cK.length/\A 176=Y i) u.cK.length ?_ ?_ 0 da c1 (ht _) ⟨gS,λ_ _ _=>rfl,by simpa using b9,by simpa using gf,by simpa using oB,.inl rfl,ey _,λ_ _ _=>rfl,qm,ra,rb⟩
  · rintro i A t ai ⟨o,fp,fX,iI,bU,fw,jf,eX,g3,gn,iH⟩ cS bm;have G:u.cK[i]?=some u.cK[i]:=cD ai;have cg:=gY (n:=i) (by omega);have b6:(i:Int)<u.cK.length:=(by omega);have oQ:A 1=cw 0:=(fp 1 (by decide) (by decide)).trans ba;have aN:t.X 0=some ⟨aL u,true⟩:=(by rw[eX 0 tW (Ne.symm uf)];exact oA);have fl:=a6 aN;have cB:=a6 bU;have hg:o≠0:=(by rcases fw with rfl|bS<;>omega);obtain⟨j9,jG⟩: ∃c,c=eG (bX++(u.cK.take i).map (·.name)):=⟨_,rfl⟩;rw[<-jG]at bU;have jE:j9.length=bX.length+i:=(by rw[jG,Ed,kT,j5,nU];omega);have kR:j9.take (bX.length+i)=j9:=jT (by omega);have gh:(bX.length+i+1)*16<=140737488355328/\bX.length+i<=9223372036854775806:=(by omega);have jW:j9++[fT u.cK[i].name]=eG (bX++(u.cK.take (i+1)).map (·.name)):=(by rw[l6 G,vV,<-EX,mO,xP,Bv,jG]);have dj:=h.cK _ (jQ ai);have hb:=Fg (p:=(iK · u.bf.length)) (b:=dC) G;obtain⟨aV,cT⟩: ∃aV,aV=(dC&&(u.cK.take i).all (iK · u.bf.length)):=⟨_,rfl⟩;rw[<-cT]at fX hb;cases aV
    · skip
      simp(disch:=first|omega|simp only[DI.ae];omega) [DJ,HR,MO,MP,e5,fX,iI,g3,gn,iH,bU,b6,cg,jE,kR,gh,-O,-U,-N,-S,-List.map_map];refine bm _ _ ⟨t.next+4+4,λk aa aD=>jR (b:=A k) (eI (d:=6) ?_ ?_ ?_ ?_ ?_ ?_ k aa aD) (fp k aa aD),?_,?_,?_,.inr (by omega),?_,λb hb dP=> ?_,?_,?_,?_⟩
      all_goals first
        |(intro aD;first|(exact absurd rfl aD)|(simp;done))
        |(rw[hb];simp[];done)
        |(rw[<-jW];simp(disch:=first|omega|simp only[DI.ae];omega) [-O,-U,-N,-S,-List.map_map];done)
        | (have mC:b≠o:=by rcases fw with rfl|bS<;>omega
           rw[<-eX b hb dP];simp(disch:=first|omega|simp only[DI.ae];omega) [-O,-U,-N,-S,-List.map_map];done)
        |(simp(disch:=first|omega|simp only[DI.ae];omega) [-O,-U,-N,-S,-List.map_map];done)
        |(simp(disch:=first|omega|simp only[DI.ae];omega) [g3,gn,-O,-U,-N,-S,-List.map_map];done)
        |(simp(disch:=first|omega|simp only[DI.ae];omega) [-O,-U,-N,-S,-List.map_map];omega)
        |(simp;omega)
    · skip
      cases dw:iK u.cK[i] u.bf.length
      · skip
        simp(disch:=first|omega|simp only[DI.ae];omega) [DJ,HR,MO,MP,aL,e5,oQ,fX,iI,g3,gn,iH,aN,bU,b6,cg,jE,kR,gh,dw,-O,-U,-N,-S,-List.map_map];refine bm _ _ ⟨t.next+4+4,λk aa aD=>jR (b:=A k) (eI (d:=6) ?_ ?_ ?_ ?_ ?_ ?_ k aa aD) (fp k aa aD),?_,?_,?_,.inr (by omega),?_,λb hb dP=> ?_,?_,?_,?_⟩
        all_goals first
          |(intro aD;first|(exact absurd rfl aD)|(simp;done))
          |(rw[hb];simp[dw];done)
          |(rw[<-jW];simp(disch:=first|omega|simp only[DI.ae];omega) [-O,-U,-N,-S,-List.map_map];done)
          | (have mC:b≠o:=by rcases fw with rfl|bS<;>omega
             rw[<-eX b hb dP];simp(disch:=first|omega|simp only[DI.ae];omega) [-O,-U,-N,-S,-List.map_map];done)
          |(simp(disch:=first|omega|simp only[DI.ae];omega) [-O,-U,-N,-S,-List.map_map];done)
          |(simp(disch:=first|omega|simp only[DI.ae];omega) [g3,gn,-O,-U,-N,-S,-List.map_map];done)
          |(simp(disch:=first|omega|simp only[DI.ae];omega) [-O,-U,-N,-S,-List.map_map];omega)
          |(simp;omega)
      · skip
        simp(disch:=first|omega|simp only[DI.ae];omega) [DJ,HR,MO,MP,aL,e5,oQ,fX,iI,g3,gn,iH,aN,bU,b6,cg,jE,kR,gh,dw,-O,-U,-N,-S,-List.map_map];refine bm _ _ ⟨t.next+4+4,λk aa aD=>jR (b:=A k) (eI (d:=6) ?_ ?_ ?_ ?_ ?_ ?_ k aa aD) (fp k aa aD),?_,?_,?_,.inr (by omega),?_,λb hb dP=> ?_,?_,?_,?_⟩
        all_goals first
          |(intro aD;first|(exact absurd rfl aD)|(simp;done))
          |(rw[hb];simp[dw];done)
          |(rw[<-jW];simp(disch:=first|omega|simp only[DI.ae];omega) [-O,-U,-N,-S,-List.map_map];done)
          | (have mC:b≠o:=by rcases fw with rfl|bS<;>omega
             rw[<-eX b hb dP];simp(disch:=first|omega|simp only[DI.ae];omega) [-O,-U,-N,-S,-List.map_map];done)
          |(simp(disch:=first|omega|simp only[DI.ae];omega) [-O,-U,-N,-S,-List.map_map];done)
          |(simp(disch:=first|omega|simp only[DI.ae];omega) [g3,gn,-O,-U,-N,-S,-List.map_map];done)
          |(simp(disch:=first|omega|simp only[DI.ae];omega) [-O,-U,-N,-S,-List.map_map];omega)
          |(simp;omega)
  · rintro A t ⟨o,fp,fX,iI,bU,fw,jf,eX,g3,gn,iH⟩;rw[nk]at bU fX;simp(disch:=first|omega|simp only[DI.ae];omega) [DJ,HR,gn,iH,-O,-U,-N,-S,-List.map_map];refine b2 _ _ o (λk aa aD=>jR (b:=A k) (eI (d:=6) ?_ ?_ ?_ ?_ ?_ ?_ k aa aD) (fp k aa aD)) ?_ ?_ bU fw jf eX
    all_goals first
      |(intro aD;simp;done)
      |(simp[fX];done)
      |(simp[iI];done)
theorem aEF{u:bg}(h:bg.fO u){da:aR}{c1:W}{gS:Nat}{bX:List ByteArray}{dC:Bool}(kd:bX.length<=10000)(oA:c1.X 0=some ⟨aL u,true⟩)(oB:c1.X gS=some ⟨eG bX,true⟩)(uf:gS≠0)(ba:da 1=cw 0)(gf:da 7= .slice (some ⟨gS,0,none⟩) bX.length 1)(b9:da 8= .bool dC)
    (qm:da 195=aj (u.cm.map hx) 2) (ra:da 196=Y u.cm.length) (rb:da 197=Y 0) {Q:dA->aR->W->Prop}
    (b2: ∀A t o,(∀k∈lU,k≠7->A k=da k)->A 8= .bool (dC&&u.cm.all (nS u.cK.length))->A 7= .slice (some ⟨o,0,none⟩) (bX.length+u.cm.length) 1->t.X o=some ⟨eG (bX++u.cm.map (·.name)),true⟩->(o=gS\/c1.next<=o)->c1.next<=t.next->(∀b,b<c1.next->b≠gS->t.X b=c1.X b)->Q (.a7 10) A t):fZ al (.loop DK) da c1 Q:=by
  have tW:=a6 oA;have Ic:=a6 oB;have eA:u.cm.length<=1000:=h.rV;refine h9 (aC:=⟨[r7],[]⟩) (λi A t=> ∃o,(∀k∈lU,k≠7->A k=da k)/\A 8= .bool (dC&&(u.cm.take i).all (nS u.cK.length))/\A 7= .slice (some ⟨o,0,none⟩) (bX.length+i) 1/\t.X o=some ⟨eG (bX++(u.cm.take i).map (·.name)),true⟩/\(o=gS\/c1.next<=o)/\c1.next<=t.next/\(∀b,b<c1.next->b≠gS->t.X b=c1.X b)/\A 195=aj (u.cm.map hx) 2/\A 196=Y u.cm.length/\A 197=Y i) u.cm.length ?_ ?_ 0 da c1 (ht _) ⟨gS,λ_ _ _=>rfl,by simpa using b9,by simpa using gf,by simpa using oB,.inl rfl,ey _,λ_ _ _=>rfl,qm,ra,rb⟩
  · rintro i A t ai ⟨o,fp,fX,iI,bU,fw,jf,eX,g3,gn,iH⟩ cS bm;have G:u.cm[i]?=some u.cm[i]:=cD ai;have cg:=gY (n:=i) (by omega);have b6:(i:Int)<u.cm.length:=(by omega);have oQ:A 1=cw 0:=(fp 1 (by decide) (by decide)).trans ba;have aN:t.X 0=some ⟨aL u,true⟩:=(by rw[eX 0 tW (Ne.symm uf)];exact oA);have fl:=a6 aN;have cB:=a6 bU;have hg:o≠0:=(by rcases fw with rfl|bS<;>omega);obtain⟨j9,jG⟩: ∃c,c=eG (bX++(u.cm.take i).map (·.name)):=⟨_,rfl⟩;rw[<-jG]at bU;have jE:j9.length=bX.length+i:=(by rw[jG,Ed,kT,j5,nU];omega);have kR:j9.take (bX.length+i)=j9:=jT (by omega);have gh:(bX.length+i+1)*16<=140737488355328/\bX.length+i<=9223372036854775806:=(by omega);have jW:j9++[fT u.cm[i].name]=eG (bX++(u.cm.take (i+1)).map (·.name)):=(by rw[l6 G,vV,<-EX,mO,xP,Bv,jG]);have kA:IntKind.i64.wrap ((u.cK.length:Int)-1)=(u.cK.length:Int)-1:=fV (by omega) (by have:=h.xb;omega);have hb:=Fg (p:=(nS u.cK.length)) (b:=dC) G;obtain⟨aV,cT⟩: ∃aV,aV=(dC&&(u.cm.take i).all (nS u.cK.length)):=⟨_,rfl⟩;rw[<-cT]at fX hb;cases aV
    · skip
      simp(disch:=first|omega|simp only[DI.ae];omega) [DK,HS,MQ,MR,hx,fX,iI,g3,gn,iH,bU,b6,cg,jE,kR,gh,-O,-U,-N,-S,-List.map_map];refine bm _ _ ⟨t.next+4+4,λk aa aD=>jR (b:=A k) (eI (d:=7) ?_ ?_ ?_ ?_ ?_ ?_ k aa aD) (fp k aa aD),?_,?_,?_,.inr (by omega),?_,λb hb dP=> ?_,?_,?_,?_⟩
      all_goals first
        |(intro aD;first|(exact absurd rfl aD)|(simp;done))
        |(rw[hb];simp[];done)
        |(rw[<-jW];simp(disch:=first|omega|simp only[DI.ae];omega) [-O,-U,-N,-S,-List.map_map];done)
        | (have mC:b≠o:=by rcases fw with rfl|bS<;>omega
           rw[<-eX b hb dP];simp(disch:=first|omega|simp only[DI.ae];omega) [-O,-U,-N,-S,-List.map_map];done)
        |(simp(disch:=first|omega|simp only[DI.ae];omega) [-O,-U,-N,-S,-List.map_map];done)
        |(simp(disch:=first|omega|simp only[DI.ae];omega) [g3,gn,-O,-U,-N,-S,-List.map_map];done)
        |(simp(disch:=first|omega|simp only[DI.ae];omega) [-O,-U,-N,-S,-List.map_map];omega)
        |(simp;omega)
    · skip
      cases dj:dK u.cm[i].qi 0 ((u.cK.length:Int)-1)
      · skip
        simp(disch:=first|omega|simp only[DI.ae];omega) [DK,HS,MQ,MR,aL,hx,oQ,fX,iI,g3,gn,iH,aN,bU,b6,cg,jE,kR,gh,kA,dj,-O,-U,-N,-S,-List.map_map];refine bm _ _ ⟨t.next+4+4,λk aa aD=>jR (b:=A k) (eI (d:=7) ?_ ?_ ?_ ?_ ?_ ?_ k aa aD) (fp k aa aD),?_,?_,?_,.inr (by omega),?_,λb hb dP=> ?_,?_,?_,?_⟩
        all_goals first
          |(intro aD;first|(exact absurd rfl aD)|(simp;done))
          |(rw[hb];simp[nS,dj];done)
          |(rw[<-jW];simp(disch:=first|omega|simp only[DI.ae];omega) [-O,-U,-N,-S,-List.map_map];done)
          | (have mC:b≠o:=by rcases fw with rfl|bS<;>omega
             rw[<-eX b hb dP];simp(disch:=first|omega|simp only[DI.ae];omega) [-O,-U,-N,-S,-List.map_map];done)
          |(simp(disch:=first|omega|simp only[DI.ae];omega) [-O,-U,-N,-S,-List.map_map];done)
          |(simp(disch:=first|omega|simp only[DI.ae];omega) [g3,gn,-O,-U,-N,-S,-List.map_map];done)
          |(simp(disch:=first|omega|simp only[DI.ae];omega) [-O,-U,-N,-S,-List.map_map];omega)
          |(simp;omega)
      · skip
        simp(disch:=first|omega|simp only[DI.ae];omega) [DK,HS,MQ,MR,aL,hx,oQ,fX,iI,g3,gn,iH,aN,bU,b6,cg,jE,kR,gh,kA,dj,-O,-U,-N,-S,-List.map_map];refine bm _ _ ⟨t.next+4+4,λk aa aD=>jR (b:=A k) (eI (d:=7) ?_ ?_ ?_ ?_ ?_ ?_ k aa aD) (fp k aa aD),?_,?_,?_,.inr (by omega),?_,λb hb dP=> ?_,?_,?_,?_⟩
        all_goals first
          |(intro aD;first|(exact absurd rfl aD)|(simp;done))
          |(rw[hb];simp[nS,dj];done)
          |(rw[<-jW];simp(disch:=first|omega|simp only[DI.ae];omega) [-O,-U,-N,-S,-List.map_map];done)
          | (have mC:b≠o:=by rcases fw with rfl|bS<;>omega
             rw[<-eX b hb dP];simp(disch:=first|omega|simp only[DI.ae];omega) [-O,-U,-N,-S,-List.map_map];done)
          |(simp(disch:=first|omega|simp only[DI.ae];omega) [-O,-U,-N,-S,-List.map_map];done)
          |(simp(disch:=first|omega|simp only[DI.ae];omega) [g3,gn,-O,-U,-N,-S,-List.map_map];done)
          |(simp(disch:=first|omega|simp only[DI.ae];omega) [-O,-U,-N,-S,-List.map_map];omega)
          |(simp;omega)
  · rintro A t ⟨o,fp,fX,iI,bU,fw,jf,eX,g3,gn,iH⟩;rw[nk]at bU fX;simp(disch:=first|omega|simp only[DI.ae];omega) [DK,HS,gn,iH,-O,-U,-N,-S,-List.map_map];refine b2 _ _ o (λk aa aD=>jR (b:=A k) (eI (d:=7) ?_ ?_ ?_ ?_ ?_ ?_ k aa aD) (fp k aa aD)) ?_ ?_ bU fw jf eX
    all_goals first
      |(intro aD;simp;done)
      |(simp[fX];done)
      |(simp[iI];done)
structure fg(u:bg)(b:Bool)(di:Nat->Nat)(cc:Nat->List ByteArray)(A:aR)(t:W):Prop where
  ba:A 1=cw 0
  b9:A 8= .bool b
  aN:t.X 0=some ⟨aL u,true⟩
  nd: ∀k,3<=k->k<=7->A k= .slice (some ⟨di k,0,none⟩) (cc k).length 1
  g: ∀k,3<=k->k<=7->t.X (di k)=some ⟨eG (cc k),true⟩
  inj: ∀i j,3<=i->i<=7->3<=j->j<=7->di i=di j->i=j
  nI: ∀k,3<=k->k<=7->di k≠0
theorem fg.kF{u:bg}{b:Bool}{di:Nat->Nat}{cc:Nat->List ByteArray}{A ak:aR}{t:W}(h:fg u b di cc A t)(hK:ak 8=A 8)(K: ∀k∈lU,k≠0->ak k=A k):fg u b di cc ak t:=
  ⟨(K 1 (by decide) (by decide)).trans h.ba,hK.trans h.b9,h.aN,λk E I=>by have:k=3\/k=4\/k=5\/k=6\/k=7:=(by omega);have ax:k∈lU:=(by rcases this with rfl|rfl|rfl|rfl|rfl<;>decide);exact(K k ax (by omega)).trans (h.nd k E I),h.g,h.inj,h.nI⟩
theorem fg.step{u:bg}{dC dd:Bool}{di:Nat->Nat}{cc:Nat->List ByteArray}{da A:aR}{c1 t:W}(h:fg u dC di cc da c1)(d:Nat)(av:3<=d)(fu:d<=7){o:Nat}{iE:List ByteArray}{n:Nat}(az:iE.length=n)
    (fp: ∀k∈lU,k≠d->A k=da k) (hK:A 8= .bool dd) (gf:A d= .slice (some ⟨o,0,none⟩) ((cc d).length+n) 1) (bU:t.X o=some ⟨eG (cc d++iE),true⟩) (fw:o=di d\/c1.next<=o) (jf:c1.next<=t.next) (eX: ∀b,b<c1.next->b≠di d->t.X b=c1.X b):
    fg u dd (dS di d o) (dS cc d (cc d++iE)) A t:=by
  have cV: ∀k,3<=k->k<=7->di k<c1.next:= λk a b=>a6 (h.g k a b)
  have fl:=a6 h.aN;refine⟨(fp 1 (by decide) (by omega)).trans h.ba,hK,?_,λk a b=> ?_,λk a b=> ?_,λi j a b c e bn=> ?_,λk a b=> ?_⟩
  · rw[eX 0 fl (Ne.symm (h.nI d av fu))];exact h.aN
  · by_cases e:k=d
    · subst e;rw[sc,sc,gf,kT,az]
    · rw[nR e,nR e];have:k=3\/k=4\/k=5\/k=6\/k=7:=(by omega);have ax:k∈lU:=(by rcases this with rfl|rfl|rfl|rfl|rfl<;>decide);exact(fp k ax e).trans (h.nd k a b)
  · by_cases e:k=d
    · subst e;rw[sc,sc];exact bU
    · rw[nR e,nR e,eX _ (cV k a b) (λbn=>e (h.inj k d a b av fu bn))];exact h.g k a b
  · by_cases aJ:i=d
    · by_cases aU:j=d
      · omega
      · rw[aJ,sc,nR aU]at bn;rcases fw with bS|bS
        · rw[bS]at bn;have:=h.inj d j av fu c e bn;omega
        · have:=cV j c e;omega
    · by_cases aU:j=d
      · rw[aU,sc,nR aJ]at bn;rcases fw with bS|bS
        · rw[bS]at bn;have:=h.inj i d a b av fu bn;omega
        · have:=cV i a b;omega
      · rw[nR aJ,nR aU]at bn;exact h.inj i j a b c e bn
  · by_cases e:k=d
    · subst e;rw[sc];rcases fw with bS|bS
      · rw[bS];exact h.nI k a b
      · omega
    · rw[nR e];exact h.nI k a b
theorem aiA{u:bg}{c:H}{A:aR}{t:W}{Q:dA->aR->W->Prop}(ba:A 1=cw 0)(b9:A 8= .bool true)(eL:A 3= .slice none 0 0)(hs:A 4= .slice none 0 0)(cq:A 5= .slice none 0 0)(ft:A 6= .slice none 0 0)(fa:A 7= .slice none 0 0)
    (aN:t.X 0=some ⟨aL u,true⟩) (h: ∀ak aI di,fg u true di (λ_=>[]) ak aI->(∀k,8<k->ak k=A k)->fZ al c ak aI Q):fZ al c A t Q:=by
  have fl:=a6 aN;obtain⟨gC,Ef⟩: ∃gC,t.next=gC:=⟨_,rfl⟩
  refine Jj 3 1 eL λxz qd h4 vq=> ?_;refine Jj 4 1 (by simpa using hs) λaEh agG j8 Nq=> ?_;refine Jj 5 1 (by simpa using cq) λaEi aMH lW TU=> ?_;refine Jj 6 1 (by simpa using ft) λaEj aMI uL Nr=> ?_;refine Jj 7 1 (by simpa using fa) λOK NN JN H8=> ?_;have lX:xz.next=gC+1:=by omega
  have rr:aEh.next=gC+2:=by omega
  have Xk:aEi.next=gC+3:=by omega
  have Xl:aEj.next=gC+4:=by omega
  rw[Ef]at h4;rw[lX]at j8;rw[rr]at lW;rw[Xk]at uL;rw[Xl]at JN;rw[Ef,lX,rr,Xk,Xl];refine h _ _ (λk=>gC+(k-3)) ⟨by simpa using ba,by simpa using b9,?_,λk a b=> ?_,λk a b=> ?_,λi j a b c d e=>by omega,λk a b=>by omega⟩ (λk aa=>by simp only[qt,show¬k=3 by omega,show¬k=4 by omega,show¬k=5 by omega,show¬k=6 by omega,show¬k=7 by omega,if_false])
  · rw[H8 0 (by omega),Nr 0 (by omega),TU 0 (by omega),Nq 0 (by omega),vq 0 (by omega)];exact aN
  · have:k=3\/k=4\/k=5\/k=6\/k=7:=(by omega);rcases this with rfl|rfl|rfl|rfl|rfl<;>simp
  · have:k=3\/k=4\/k=5\/k=6\/k=7:=(by omega);rcases this with rfl|rfl|rfl|rfl|rfl
    · show OK.X gC=_;rw[H8 gC (by omega),Nr gC (by omega),TU gC (by omega),Nq gC (by omega)];exact h4
    · show OK.X (gC+1)=_;rw[H8 _ (by omega),Nr _ (by omega),TU _ (by omega)];exact j8
    · show OK.X (gC+2)=_;rw[H8 _ (by omega),Nr _ (by omega)];exact lW
    · show OK.X (gC+3)=_;rw[H8 _ (by omega)];exact uL
    · exact JN
noncomputable def gk(u:bg):Bool:=dK u.ext 1 4&&(decide (u.cN.length<=4)&&(decide (u.bf.length<=4)&&(decide (u.bP.length<=40)&&(decide (u.aZ.length<=24)&&(decide (u.cK.length<=4)&&(decide (u.cm.length<=12)&&(nZ u.bP&&(u.cN.all ik.mJ&&(u.bf.all (k6 u.cN.length)&&(u.aZ.all (kV u.bf.length u.bP)&&(u.cK.all (iK · u.bf.length)&&(u.cm.all (nS u.cK.length)&&(er (u.cN.map (·.name))&&(er (u.bf.map (·.name))&&(er (u.bP.tail.map (·.name)++u.aZ.map (·.name))&&(er (u.cK.map (·.name))&&er (u.cm.map (·.name))))))))))))))))))
theorem V6{u:bg}(h:bg.fO u):bH al 62 [.agg (aL u).toArray] (Y (if gk u then 0 else 1)):=by
  refine ei (dD (aC:=⟨[r7,Vv u h,Vs],[]⟩) ayy (by kernel_rfl) (by simp[tQ]) ?_);cases E:dK u.ext 1 4
  · have a2:gk u=false:=(by simp[gk,E]);simp(disch:=first|omega|simp only[DI.ae];omega) [tQ,vc,vd,aL,E,a2,-O,-U,-N,-S,-List.map_map]
  by_cases kn:(4:Int)<u.cN.length
  · have a2:gk u=false:=by
      have: ¬u.cN.length<=4:=(by omega);simp[gk,this]
    simp(disch:=first|omega|simp only[DI.ae];omega) [tQ,vc,vd,aL,E,kn,a2,-O,-U,-N,-S,-List.map_map]
  have fl:u.cN.length<=4:=by omega
  by_cases bO:(4:Int)<u.bf.length
  · have a2:gk u=false:=by
      have: ¬u.bf.length<=4:=(by omega);simp[gk,this]
    simp(disch:=first|omega|simp only[DI.ae];omega) [tQ,vc,vd,aL,E,kn,bO,a2,-O,-U,-N,-S,-List.map_map]
  have gu:u.bf.length<=4:=by omega
  by_cases cA:(40:Int)<u.bP.length
  · have a2:gk u=false:=by
      have: ¬u.bP.length<=40:=(by omega);simp[gk,this]
    simp(disch:=first|omega|simp only[DI.ae];omega) [tQ,vc,vd,aL,E,kn,bO,cA,a2,-O,-U,-N,-S,-List.map_map]
  have ga:u.bP.length<=40:=by omega
  by_cases gz:(24:Int)<u.aZ.length
  · have a2:gk u=false:=by
      have: ¬u.aZ.length<=24:=(by omega);simp[gk,this]
    simp(disch:=first|omega|simp only[DI.ae];omega) [tQ,vc,vd,aL,E,kn,bO,cA,gz,a2,-O,-U,-N,-S,-List.map_map]
  have TZ:u.aZ.length<=24:=by omega
  by_cases hJ:(4:Int)<u.cK.length
  · have a2:gk u=false:=by
      have: ¬u.cK.length<=4:=(by omega);simp[gk,this]
    simp(disch:=first|omega|simp only[DI.ae];omega) [tQ,vc,vd,aL,E,kn,bO,cA,gz,hJ,a2,-O,-U,-N,-S,-List.map_map]
  have azW:u.cK.length<=4:=by omega
  by_cases iy:(12:Int)<u.cm.length
  · have a2:gk u=false:=by
      have: ¬u.cm.length<=12:=(by omega);simp[gk,this]
    simp(disch:=first|omega|simp only[DI.ae];omega) [tQ,vc,vd,aL,E,kn,bO,cA,gz,hJ,iy,a2,-O,-U,-N,-S,-List.map_map]
  have w3:u.cm.length<=12:=by omega
  cases aD:nZ u.bP
  · have a2:gk u=false:=(by simp[gk,aD]);simp(disch:=first|omega|simp only[DI.ae];omega) [tQ,vc,vd,aL,E,kn,bO,cA,gz,hJ,iy,aD,a2,-O,-U,-N,-S,-List.map_map]
  obtain⟨R,ds,ja⟩: ∃R ds,u.bP=R::ds:=by
    cases bd:u.bP with
    |nil=>rw[bd]at aD;cases aD
    |cons R ds=>exact⟨R,ds,rfl⟩
  have CG:ds.length<=1000:=by rw[ja]at ga;simp at ga;omega
  simp(disch:=first|omega|simp only[DI.ae];omega) [tQ,vc,vd,afq,afs,aft,aL,E,kn,bO,cA,gz,hJ,iy,aD,-O,-U,-N,-S,-List.map_map];refine aiA (u:=u) (by simp) (by simp) (by simp) (by simp) (by simp) (by simp) (by simp) (by simp(disch:=first|omega|simp only[DI.ae];omega) [aL,-O,-U,-N,-S,-List.map_map]) λA t di ab aa=> ?_;have qm:=aa 67 (by decide);have ra:=aa 68 (by decide);have rb:=aa 69 (by decide);refine aEA h (bX:=[]) (by simp) ab.aN (ab.g 3 (by decide) (by decide)) (ab.nI 3 (by decide) (by decide)) ab.ba (ab.nd 3 (by decide) (by decide)) ab.b9 (by rw[qm];simp) (by rw[ra];simp) (by rw[rb];simp) λbQ bD iU a8 uj bE b7 eH gi og=> ?_;have ab:=fg.step ab 3 (by decide) (by decide) (iE:=u.cN.map (·.name)) (by simp) a8 uj bE b7 eH gi og;simp(disch:=first|omega|simp only[DI.ae];omega) [afu,aL,ab.ba,ab.aN,-O,-U,-N,-S,-List.map_map];refine aEB h (bX:=_) (by simp[dS]) ab.aN (ab.g 4 (by decide) (by decide)) (ab.nI 4 (by decide) (by decide)) (by simp[ab.ba]) (by simp[ab.nd 4 (by decide) (by decide)]) (jR (by simp) ab.b9) (by simp) (by simp) (by simp) λdt iW kx a8 uj bE b7 eH gi og=> ?_;have ab:=fg.step (ab.kF (by simp) (eI (d:=0) (λ_=>by simp) (λ_=>by simp) (λ_=>by simp) (λ_=>by simp) (λ_=>by simp) (λ_=>by simp))) 4 (by decide) (by decide) (iE:=u.bf.map (·.name)) (by simp) a8 uj bE b7 eH gi og;have PY:(List.take u.bP.length (u.bP.map ez)).tail=ds.map ez:=by rw[jT (by simp),ja];rfl
  have PZ:u.bP.length-1=ds.length:=by rw[ja];rfl
  have al6:1<=u.bP.length:=by rw[ja];simp
  have Q4:(1:Int)<=u.bP.length:=by omega
  simp(disch:=first|omega|simp only[DI.ae];omega) [afm,aL,ab.ba,ab.aN,Q4,-O,-U,-N,-S,-List.map_map];rw[PY,PZ];refine aEC h CG (bX:=_) (by simp[dS]) ab.aN (ab.g 5 (by decide) (by decide)) (ab.nI 5 (by decide) (by decide)) (by simp[ab.ba]) (by simp[ab.nd 5 (by decide) (by decide)]) (jR (by simp) ab.b9) (by simp) (by simp) (by simp) λxQ OL Un a8 uj bE b7 eH gi og=> ?_;have ab:=fg.step (ab.kF (by simp) (eI (d:=0) (λ_=>by simp) (λ_=>by simp) (λ_=>by simp) (λ_=>by simp) (λ_=>by simp) (λ_=>by simp))) 5 (by decide) (by decide) (iE:=ds.map (·.name)) (by simp) a8 uj bE b7 eH gi og;simp(disch:=first|omega|simp only[DI.ae];omega) [afo,aL,ab.ba,ab.aN,-O,-U,-N,-S,-List.map_map];refine aED h (bX:=_) (by simp[dS]<;>omega) ab.aN (ab.g 5 (by decide) (by decide)) (ab.nI 5 (by decide) (by decide)) (by simp[ab.ba]) (by simp[ab.nd 5 (by decide) (by decide)]) (jR (by simp) ab.b9) (by simp) (by simp) (by simp) λPj ah2 aBf a8 uj bE b7 eH gi og=> ?_;have ab:=fg.step (ab.kF (by simp) (eI (d:=0) (λ_=>by simp) (λ_=>by simp) (λ_=>by simp) (λ_=>by simp) (λ_=>by simp) (λ_=>by simp))) 5 (by decide) (by decide) (iE:=u.aZ.map (·.name)) (by simp) a8 uj bE b7 eH gi og;simp(disch:=first|omega|simp only[DI.ae];omega) [afp,aL,ab.ba,ab.aN,-O,-U,-N,-S,-List.map_map];refine aEE h (bX:=_) (by simp[dS]) ab.aN (ab.g 6 (by decide) (by decide)) (ab.nI 6 (by decide) (by decide)) (by simp[ab.ba]) (by simp[ab.nd 6 (by decide) (by decide)]) (jR (by simp) ab.b9) (by simp) (by simp) (by simp) λaTs ah3 aM3 a8 uj bE b7 eH gi og=> ?_;have ab:=fg.step (ab.kF (by simp) (eI (d:=0) (λ_=>by simp) (λ_=>by simp) (λ_=>by simp) (λ_=>by simp) (λ_=>by simp) (λ_=>by simp))) 6 (by decide) (by decide) (iE:=u.cK.map (·.name)) (by simp) a8 uj bE b7 eH gi og;simp(disch:=first|omega|simp only[DI.ae];omega) [afr,aL,ab.ba,ab.aN,-O,-U,-N,-S,-List.map_map];refine aEF h (bX:=_) (by simp[dS]) ab.aN (ab.g 7 (by decide) (by decide)) (ab.nI 7 (by decide) (by decide)) (by simp[ab.ba]) (by simp[ab.nd 7 (by decide) (by decide)]) (jR (by simp) ab.b9) (by simp) (by simp) (by simp) λE0 xz aM4 a8 uj bE b7 eH gi og=> ?_;have ab:=fg.step (ab.kF (by simp) (eI (d:=0) (λ_=>by simp) (λ_=>by simp) (λ_=>by simp) (λ_=>by simp) (λ_=>by simp) (λ_=>by simp))) 7 (by decide) (by decide) (iE:=u.cm.map (·.name)) (by simp) a8 uj bE b7 eH gi og;obtain⟨aV,cT⟩: ∃aV,E0 8= .bool aV/\aV=(u.cN.all ik.mJ&&(u.bf.all (k6 u.cN.length)&&(u.aZ.all (kV u.bf.length u.bP)&&(u.cK.all (iK · u.bf.length)&&u.cm.all (nS u.cK.length))))):=⟨_,ab.b9,by simp[zI]⟩;obtain⟨b9,cT⟩:=cT;have ad:gk u=(aV&&(er (u.cN.map (·.name))&&(er (u.bf.map (·.name))&&(er (ds.map (·.name)++u.aZ.map (·.name))&&(er (u.cK.map (·.name))&&er (u.cm.map (·.name))))))):=by rw[cT];simp[gk,E,fl,gu,ga,TZ,azW,w3,aD,zI];rw[ja];rfl
  obtain⟨ix,E5,m5,c0,cu⟩: ∃o L,E0 3= .slice (some ⟨o,0,none⟩) L.length 1/\xz.X o=some ⟨eG L,true⟩/\L=u.cN.map (·.name):=⟨_,_,ab.nd 3 (by decide) (by decide),ab.g 3 (by decide) (by decide),by simp[dS]⟩;have oW:E5.length<1000000:=by rw[cu];simp<;>omega
  obtain⟨z0,z1,z2⟩:=Ee (l:=E5) (n:=E5.length) rfl;obtain⟨aIA,KQ⟩: ∃c,c=eG E5:=⟨_,rfl⟩;rw[<-KQ]at c0 z0 z1 z2;rw[<-cu]at ad;clear cu;obtain⟨jz,E6,D8,ea,gO⟩: ∃o L,E0 4= .slice (some ⟨o,0,none⟩) L.length 1/\xz.X o=some ⟨eG L,true⟩/\L=u.bf.map (·.name):=⟨_,_,ab.nd 4 (by decide) (by decide),ab.g 4 (by decide) (by decide),by simp[dS]⟩;have OS:E6.length<1000000:=by rw[gO];simp<;>omega
  obtain⟨Cx,Cy,Cz⟩:=Ee (l:=E6) (n:=E6.length) rfl;obtain⟨aIB,rF⟩: ∃c,c=eG E6:=⟨_,rfl⟩;rw[<-rF]at ea Cx Cy Cz;rw[<-gO]at ad;clear gO;obtain⟨vy,E7,Ih,e9,lD⟩: ∃o L,E0 5= .slice (some ⟨o,0,none⟩) L.length 1/\xz.X o=some ⟨eG L,true⟩/\L=ds.map (·.name)++u.aZ.map (·.name):=⟨_,_,ab.nd 5 (by decide) (by decide),ab.g 5 (by decide) (by decide),by simp[dS]⟩;have aih:E7.length<1000000:=by rw[lD];simp<;>omega
  obtain⟨FL,FM,FN⟩:=Ee (l:=E7) (n:=E7.length) rfl;obtain⟨aIC,alN⟩: ∃c,c=eG E7:=⟨_,rfl⟩;rw[<-alN]at e9 FL FM FN;rw[<-lD]at ad;clear lD;obtain⟨Ix,E8,Bh,fo,ka⟩: ∃o L,E0 6= .slice (some ⟨o,0,none⟩) L.length 1/\xz.X o=some ⟨eG L,true⟩/\L=u.cK.map (·.name):=⟨_,_,ab.nd 6 (by decide) (by decide),ab.g 6 (by decide) (by decide),by simp[dS]⟩;have aSy:E8.length<1000000:=by rw[ka];simp<;>omega
  obtain⟨Kz,KA,KB⟩:=Ee (l:=E8) (n:=E8.length) rfl;obtain⟨Cj,alO⟩: ∃c,c=eG E8:=⟨_,rfl⟩;rw[<-alO]at fo Kz KA KB;rw[<-ka]at ad;clear ka;obtain⟨aNr,E9,agf,sv,qJ⟩: ∃o L,E0 7= .slice (some ⟨o,0,none⟩) L.length 1/\xz.X o=some ⟨eG L,true⟩/\L=u.cm.map (·.name):=⟨_,_,ab.nd 7 (by decide) (by decide),ab.g 7 (by decide) (by decide),by simp[dS]⟩;have aSA:E9.length<1000000:=by rw[qJ];simp<;>omega
  obtain⟨Ql,Qm,Qn⟩:=Ee (l:=E9) (n:=E9.length) rfl;obtain⟨Xu,alP⟩: ∃c,c=eG E9:=⟨_,rfl⟩;rw[<-alP]at sv Ql Qm Qn;rw[<-qJ]at ad;clear qJ;cases aV
  · have a2:gk u=false:=(by rw[ad];rfl);simp(disch:=first|omega|simp only[DI.ae];omega) [yD,yE,a2,b9,-O,-U,-N,-S,-List.map_map]
  cases xC:er E5
  · have a2:gk u=false:=(by rw[ad];simp[xC]);simp(disch:=first|omega|simp only[DI.ae];omega) [yD,yE,a2,xC,b9,m5,c0,z0,z1,z2,su,rZ,-O,-U,-N,-S,-List.map_map]
  cases xD:er E6
  · have a2:gk u=false:=(by rw[ad];simp[xD]);simp(disch:=first|omega|simp only[DI.ae];omega) [yD,yE,a2,xD,xC,b9,m5,c0,z0,z1,z2,D8,ea,Cx,Cy,Cz,su,rZ,-O,-U,-N,-S,-List.map_map]
  cases EM:er E7
  · have a2:gk u=false:=(by rw[ad];simp[EM]);simp(disch:=first|omega|simp only[DI.ae];omega) [yD,yE,a2,EM,xC,xD,b9,m5,c0,z0,z1,z2,D8,ea,Cx,Cy,Cz,Ih,e9,FL,FM,FN,su,rZ,-O,-U,-N,-S,-List.map_map]
  cases Jg:er E8
  · have a2:gk u=false:=(by rw[ad];simp[Jg]);simp(disch:=first|omega|simp only[DI.ae];omega) [yD,yE,a2,Jg,xC,xD,EM,b9,m5,c0,z0,z1,z2,D8,ea,Cx,Cy,Cz,Ih,e9,FL,FM,FN,Bh,fo,Kz,KA,KB,su,rZ,-O,-U,-N,-S,-List.map_map]
  cases OW:er E9
  · have a2:gk u=false:=(by rw[ad];simp[OW]);simp(disch:=first|omega|simp only[DI.ae];omega) [yD,yE,a2,OW,xC,xD,EM,Jg,b9,m5,c0,z0,z1,z2,D8,ea,Cx,Cy,Cz,Ih,e9,FL,FM,FN,Bh,fo,Kz,KA,KB,agf,sv,Ql,Qm,Qn,su,rZ,-O,-U,-N,-S,-List.map_map]
  have a2:gk u=true:=by rw[ad];simp[xC,xD,EM,Jg,OW]
  simp(disch:=first|omega|simp only[DI.ae];omega) [yD,yE,a2,xC,xD,EM,Jg,OW,b9,m5,c0,z0,z1,z2,D8,ea,Cx,Cy,Cz,Ih,e9,FL,FM,FN,Bh,fo,Kz,KA,KB,agf,sv,Ql,Qm,Qn,su,rZ,-O,-U,-N,-S,-List.map_map]
end Go.Proofs.YtmmkkggfmigppaaGreat
namespace Go.DI
open Go
section
variable {P:Program} {u:fQ} {M:eM} {t m aq:W}
theorem ec.T9(K:ec M u t m)(az:m.next<=aq.next)(h: ∀b,(∃o,M o=some b)\/u b≠none->aq.X b=m.X b/\aq.mp b=m.mp b):ec M u t aq where
  ij o x G:=by
    rcases K.ij o x G with⟨b,cs,w,E,I,av,aH⟩|E
    · exact .inl ⟨b,cs,w,E,by rw[(h b (.inl ⟨o,E⟩)).1];exact I,av,aH⟩
    · exact .inr E
  maps o bc bn:=by obtain⟨b,de,E,I,av⟩:=K.maps o bc bn;obtain⟨aK,bb⟩:=h b (.inl ⟨o,E⟩);obtain⟨en,hd⟩:=iz I;exact⟨b,de,E,kq (by rw[aK];exact en) (by rw[bb];exact hd),av⟩
  iD:=K.iD
  inj:=K.inj
  cV o b hb:=⟨(K.cV o b hb).1,pH (K.cV o b hb).2 az⟩
  bF b cs hb:=by obtain⟨⟨w,E⟩,I⟩:=K.bF b cs hb;exact⟨⟨w,by rw[(h b (.inr (by rw[hb];simp))).1];exact E⟩,I⟩
theorem eN.T9{cL:eM}{cP:fQ}{aI bk dR:W}{gU hL:Nat}(h:eN gU hL M u t m cL cP aI bk)(az:bk.next<=dR.next)(aP: ∀b,b<hL->dR.X b=bk.X b):eN gU hL M u t m cL cP aI dR:=
  ⟨h.e,h.f,h.kb,h.fn,h.jP,kC h.jZ az,λb hb a3=>by rw[aP b hb];exact h.jx b hb a3,h.nT,h.nn⟩
end
end Go.DI
namespace Go.Proofs.YtmmkkggfmigppaaGreat
open Go Go.DI Go.Big
noncomputable def nu(l:List ByteArray)(s:ByteArray):Bool:=nH s&&(l1 s l).isNone
theorem Ky{l:List ByteArray}{s:ByteArray}:nu l s=if nH s then decide (yw s l<0)else false:=by unfold nu yw;cases nH s<;>cases h:l1 s l<;>simp
def ai1(m:W)(bt:Value)(l:List ByteArray):Prop:=(∃b,bt= .slice (some ⟨b,0,none⟩) l.length 1/\m.X b=some ⟨eG l,true⟩)\/(bt= .slice none 0 0/\l=[])
theorem y6{l:List ByteArray}:eG l=l.map fT:=by
  unfold eG;induction l with
  |nil=>rfl
  |cons x l cx=>rw[mO,oY,cx];rfl
theorem Ul{l:List ByteArray}:(eG l).length=l.length:=by rw[y6,j5]
theorem aA6{l:List ByteArray}{i:Nat}{s:ByteArray}(h:l[i]?=some s):(eG l)[i]?=some (fT s):=by rw[y6,oZ,h];rfl
theorem ZH{m:W}{bt:Value}{l:List ByteArray}{s:ByteArray}(a2:(∃b w,bt= .slice (some ⟨b,0,none⟩) l.length 1/\m.X b=some ⟨eG l,w⟩)\/(bt= .slice none 0 0/\l=[]))(az:l.length<1000000):
    gp al 189 [bt,fT s] m λr _=>r=Y (yw s l):=by
  rcases a2 with⟨b,w,rfl,hb⟩|⟨rfl,rfl⟩
  · have ad:b5 (λx=>if x=b then some (eG l)else none) lr (zV l) (.slice (some ⟨b,0,none⟩) l.length 1):=by
      have:=b5.iu (u:= λx=>if x=b then some (eG l)else none) (M:=lr) (v:=zV l) (b:=b) (off:=0) (J:=1) (cs:=eG l) (bh:=l.map λs=>[fT s]) rfl (by simp) (by simp[Ul]) (λi r h=>by
          simp only[oZ,rh]at h;obtain⟨_,_,rfl⟩:=h;rfl) (λi j r x y E I av=>by
          simp only[oZ,rh]at E;obtain⟨q,bd,rfl⟩:=E;have bj:j=0:=(by have:=(dO.1 I).1;simpa using this);subst bj;simp at I;subst I;rw[show 0+i*1+0=i by omega,aA6 bd]at av;cases av;exact .cH rfl)
      simpa using this
    refine(ZI az _ m _ (λc cs ar=> ?_) (bo.cons ad (bo.cons (.cH rfl) bo.nil))).b8 λr aq h=> ?_
    · split at ar
      · next e=>cases ar;subst e;exact⟨w,hb⟩
      · cases ar
    · obtain⟨_,_,cP,_,_,ad⟩:=h;exact ad.qU
  · refine(ZI az (λ_=>none) m [.slice none 0 0,fT s] (λc cs ar=>by cases ar) (bo.cons (.hR rfl) (bo.cons (.cH rfl) bo.nil))).b8 λr aq h=> ?_;obtain⟨_,_,cP,_,_,ad⟩:=h;exact ad.qU
theorem Yn{m:W}{bt:Value}{l:List ByteArray}{s:ByteArray}(a2:ai1 m bt l)(az:l.length<1000000):gp al 136 [bt,fT s] m λr aq=>r= .tuple #[.slice (some ⟨m.next+3,0,none⟩) (l.length+1) 1,.bool (nu l s)]/\
    ∃k,aq=((kL ((m.cf 14).a0 (m.next+2) (some ⟨[fT s],true⟩)) bt).a0 (m.next+3) (some ⟨eG l++[fT s],true⟩)).cf k:=by
  rw[akd (by simp)];rcases a2 with⟨b,rfl,hb⟩|⟨rfl,rfl⟩
  · have Nz:=a6 hb;have As:List.take l.length (eG l)=eG l:=jT (by rw[Ul];omega);simp(disch:=first|omega|simp only[aO];omega) [Lo,R3];rw[aix];simp(disch:=first|omega|simp only[aO];omega) [m4,DI.qp,hb,Ul];refine⟨⟨by omega,by omega⟩,?_⟩;rw[ahs,Ft];cases kr:nH s
    · simp(disch:=first|omega|simp only[aO];omega) [Ib,kr,Ky,hb,As,hP];exact⟨_,rfl⟩
    · simp(disch:=first|omega|simp only[aO];omega) [];refine(ZH (.inl ⟨b,false,rfl,by simp(disch:=first|omega|simp only[aO];omega) [CS,hb,CR]⟩) az).b8 λr aq aw=> ?_;subst aw;rw[Ft];simp(disch:=first|omega|simp only[aO];omega) [Ib,Ky,kr,hb,As,hP];exact⟨_,rfl⟩
  · simp(disch:=first|omega|simp only[aO];omega) [Lo,R3];rw[aix];simp(disch:=first|omega|simp only[aO];omega) [m4,DI.qp];rw[ahs,Ft];cases kr:nH s
    · simp(disch:=first|omega|simp only[aO];omega) [Ib,kr,Ky,y6];exact⟨_,rfl⟩
    · simp(disch:=first|omega|simp only[aO];omega) [];refine(ZH (l:=[]) (.inr ⟨rfl,rfl⟩) az).b8 λr aq aw=> ?_;subst aw;rw[Ft];simp(disch:=first|omega|simp only[aO];omega) [Ib,Ky,kr,y6];exact⟨_,rfl⟩
theorem Yi{u:fQ}{M:eM}: ∀{xs ys:List Value},bo u M xs ys->(∀x∈xs,∃s,x=fT s)->ys=xs
  |[],ys,h,_=>qu.1 h.1.symm
  |x::xs,[],h,_=>by have:=h.1;simp at this
  | x::xs,y::ys,h,G=>by obtain⟨s,rfl⟩:=G x (by simp);have dk:=(h.2 0 (fT s) y rfl rfl).wN;rw[dk,Yi (xs:=xs) (ys:=ys) ⟨by simpa using h.1,λi a b p q=>h.2 (i+1) a b (by simpa using p) (by simpa using q)⟩ λJ bK=>G J (by simp[bK])]
theorem aA8{l:List ByteArray}: ∀x∈eG l,∃s,x=fT s:=by rw[y6];intro x G;obtain⟨s,_,rfl⟩:=hn.1 G;exact⟨s,rfl⟩
def jj(o:Nat)(l:List ByteArray)(s:ByteArray)(t:W):W:=((t.cf 14).a0 o none).a0 t.next (some ⟨eG (l++[s]),true⟩)
theorem alg{M:eM}{u:fQ}{t m bD bk:W}(K:ec M u t m)(E:bD.next=t.next+14)(I:bk.next=m.next+14):DI.rn M u bD bk t.next (m.next+3) where
  e :=by
    cases h:M t.next with
    |none=>rfl
    |some b=>have:=(K.cV _ _ h).1;omega
  b o h:=by have:=(K.cV _ _ h).2;omega
  f :=by
    cases h:u (m.next+3)with
    |none=>rfl
    |some cs=>obtain⟨⟨w,g⟩,_⟩:=K.bF _ _ h;have:=a6 g;omega
  sX:=by omega
  q1:=by omega
theorem alh{o:Nat}{l:List ByteArray}{s:ByteArray}{t:W}(az:l.length<1000000)(aE:t.X o=some ⟨eG l,true⟩){cj:Value->W->Prop}
    (iB:cj (.tuple #[.slice (some ⟨t.next,0,none⟩) (l.length+1) 1,.bool (nu l s)]) (jj o l s t)):fi al 136 [.slice (some ⟨o,0,none⟩) l.length 1,fT s] t cj:=by
  intro M u fb m K aA;obtain⟨bt,w,rfl,E,I⟩:=aA.aEs;have aU:=I.wN;subst aU;have cB:=a6 aE;have wK:=PD K 14;have KY:(t.cf 14).X o=some ⟨eG l,true⟩:=by rw[DI.e0 cB];exact aE
  have YI:eG (l++[s])=eG l++[fT s]:=Bv;have e1: ∀{M:eM},bo u M (eG (l++[s])) (eG l++[fT s]):=by rw[YI,<-YI,y6];exact bo.cH (by simp[dZ])
  have bZ: ∀c,((∃p,hi M t.next (m.next+3) p=some c)\/u c≠none)->c=m.next+3\/(c<m.next/\((∃p,M p=some c)\/u c≠none)):=by
    rintro c (⟨p,ab⟩|ar)
    · unfold hi at ab;split at ab
      · cases ab;exact .inl rfl
      · exact .inr ⟨(K.cV _ _ ab).2,.inl ⟨p,ab⟩⟩
    · obtain⟨cs,dx⟩:=Option.ne_none_iff_exists'.1 ar;obtain⟨⟨w,g⟩,_⟩:=K.bF _ _ dx;exact .inr ⟨a6 g,.inr ar⟩
  have mU: ∀(ah:W) (k:Nat) (cv:W),ah.next=m.next+14->ah.mp=m.mp->(∀c,c<m.next->cv.X c=ah.X c)->cv.next=ah.next+k->cv.mp=ah.mp->cv.X (m.next+3)=some ⟨eG l++[fT s],true⟩->
      ec M u ((t.cf 14).a0 o none) ah->DI.eN t.next m.next M u t m M u ((t.cf 14).a0 o none) ah->
      ∃cL cP r aI,cj r aI/\ec cL cP aI cv/\b5 cP cL r (.tuple #[.slice (some ⟨m.next+3,0,none⟩) (l.length+1) 1,.bool (nu l s)])/\DI.eN t.next m.next M u t m cL cP aI cv:=by
    intro ah k cv aK bb c0 ea e9 fo sv FO;have pf:=alg (bD:=(t.cf 14).a0 o none) (bk:=ah) K rfl aK;have a8:=NP sv pf e1;have bE:DI.eN t.next m.next M u t m (hi M t.next (m.next+3)) u (jj o l s t) (ah.a0 (m.next+3) (some ⟨eG l++[fT s],true⟩)):=FO.trans (agJ pf (ey _) (by omega))
    refine⟨_,u,_,jj o l s t,iB,a8.T9 (by rw[mr];omega) (λc ar=> ?_),bo.tuple (bo.cons (.slice (by simp[hi])) (bo.cons (.cH rfl) bo.nil)),bE.T9 (by rw[mr];omega) (λc ar=> ?_)⟩
    · rcases bZ c ar with rfl|⟨ar,_⟩
      · rw[eD (by omega),fo];exact⟨rfl,by rw[e9];rfl⟩
      · rw[bR (by omega),c0 c ar,e9];exact⟨rfl,rfl⟩
    · rw[bR (by omega),c0 c ar]
  rcases E.m1 with⟨b,hb,_,rfl⟩|⟨_,_,dk,rfl⟩
  · have ax:m.X b=some ⟨eG l,true⟩:=by
      rcases K.ij o _ aE with⟨cd,cs,w,av,aH,br,cW⟩|⟨av,_⟩
      · rw[hb]at av;cases av;rw[aH,br rfl,Yi cW aA8]
      · rw[hb]at av;cases av
    have Nz:=a6 ax;refine(Yn (.inl ⟨b,rfl,ax⟩) az).b8 λdL aq ⟨aw,k,rK⟩=> ?_;subst aw;subst rK;refine mU ((m.cf 14).a0 b none) k _ rfl rfl (λc ar=> ?_) rfl rfl ?_ (af8 wK hb KY rfl) ((JZ K 14).trans (OT wK hb KY rfl))
    · rw[W.e0,bR (by omega)];by_cases e:c=b
      · subst e;show(((m.cf 14).a0 (m.next+2) _).a0 c none).X c=_;rw[eD (by simp;omega),eD (by simp;omega)]
      · show(((m.cf 14).a0 (m.next+2) _).a0 b none).X c=_;rw[bR e,bR e,bR (by omega)]
    · rw[W.e0,eD];show m.next+3<m.next+14
      omega
  · obtain rfl:l=[]:=qu.1 dk;refine(Yn (.inr ⟨rfl,rfl⟩) az).b8 λdL aq ⟨aw,k,rK⟩=> ?_;subst aw;subst rK;refine mU (m.cf 14) k _ rfl rfl (λc ar=> ?_) rfl rfl ?_ (X4 wK) ((JZ K 14).trans X3)
    · rw[W.e0,bR (by omega)];show((m.cf 14).a0 (m.next+2) _).X c=_;rw[bR (by omega)]
    · rw[W.e0,eD];show m.next+3<m.next+14
      omega
theorem aA7{l dh:List ByteArray}:eG l=eG dh↔l=dh:=by rw[y6,y6];exact xa λa b h=>by cases h;rfl
open Classical in
noncomputable def FI(o n:Nat)(s:ByteArray)(t:W)(x:Option fB):Option (Value×W):=
  if h: ∃l:List ByteArray,l.length=n/\n<1000000/\x=some ⟨eG l,true⟩then some (.tuple #[.slice (some ⟨t.next,0,none⟩) (n+1) 1,.bool (nu h.choose s)],jj o h.choose s t)else none
@[simp] theorem aJm{o:Nat}{s:ByteArray}{t:W}{l:List ByteArray}(h:l.length<1000000):
    FI o l.length s t (some ⟨eG l,true⟩)=some (.tuple #[.slice (some ⟨t.next,0,none⟩) (l.length+1) 1,.bool (nu l s)],jj o l s t):=by
  have G: ∃dh:List ByteArray,dh.length=l.length/\l.length<1000000/\some (⟨eG l,true⟩:fB)=some ⟨eG dh,true⟩:=⟨l,rfl,h,rfl⟩;have ar:G.choose=l:=by have:=congrArg (λx:Option fB=>(x.map fB.cells).getD []) G.choose_spec.2.2;exact(aA7.1 this).symm
  simp only[FI,dif_pos G,ar]
noncomputable def yv:ie al:= .dN 136 (Nat×Nat×ByteArray) (λ⟨o,n,s⟩=>[.slice (some ⟨o,0,none⟩) n 1,fT s])
  (λ⟨o,n,s⟩ t=>FI o n s t (t.X o))
  λ⟨o,n,s⟩ t r aI h cj iB=>by
    simp only[FI]at h;split at h
    · next G=>cases h;obtain⟨E,I,av⟩:=G.choose_spec;generalize G.choose=l at E av iB;subst E;exact alh I av iB
    · cases h
@[simp] theorem aKA:yv.f=136:=rfl
@[simp] theorem aKB{o n:Nat}{s:ByteArray}{t:W}:yv.fn [.slice (some ⟨o,0,none⟩) n 1,fT s] t=FI o n s t (t.X o):=
  ie.eh (x:=(o,n,s)) (t:=t) λ⟨nj,se,EU⟩ af=>by simp at af;obtain⟨⟨rfl,rfl⟩,rfl⟩:=af;rfl
theorem Je:er []=true:=by simp[er]
theorem ux{l:List ByteArray}{s:ByteArray}:er (l++[s])=(er l&&nu l s):=by
  rw[Bool.eq_iff_iff];unfold er nu;have E:(l1 s l).isNone=true↔s∉l:=by
    constructor
    · intro h ax;have:=T8 ax;rw[zB]at h;exact this h
    · intro h;rw[ZC h];rfl
  simp only[a1,e2,s6,vU,E,nm,List.all_nil,and_true];constructor
  · rintro⟨⟨a,b⟩,c,_,d⟩;exact⟨⟨a,c⟩,b,λax=>d s ax s (by simp) rfl⟩
  · rintro⟨⟨a,c⟩,b,d⟩;exact⟨⟨a,b⟩,c,by simp,λx G y af=>by simp at af;subst af;exact λe=>d (e▸G)⟩
theorem aij{l dh:List ByteArray}(h:er (l++dh)=true):er l=true:=by unfold er at*;simp only[a1,e2,s6,vU]at*;exact⟨h.1.1,h.2.1⟩
def vJ:List Nat:=[1,3,4,5,6,7,17,18]
theorem zl{A ak:aR}(E:ak 1=A 1)(av:ak 3=A 3)(aH:ak 4=A 4)(br:ak 5=A 5)(cW:ak 6=A 6)(fu:ak 7=A 7)(hK:ak 17=A 17)(iZ:ak 18=A 18): ∀k∈vJ,ak k=A k:= λk aa=>by simp only[vJ,hH,jm,or_false]at aa;rcases aa with rfl|rfl|rfl|rfl|rfl|rfl|rfl|rfl<;>assumption
theorem xy{A ak vW:aR}(h: ∀k∈vJ,ak k=A k)(bS: ∀k∈vJ,vW k=ak k): ∀k∈vJ,vW k=A k:= λk aa=>(bS k aa).trans (h k aa)
theorem aCW{x:iL}{q j:Nat}{v:Int}{b:Bool}{da:aR}{c1:W}(ad:x.bf[j]?=some v)(eA:x.bf.length<1000000)(mg:c1.X q=some ⟨e5 x,true⟩)(r6:da 18=cw q)(vF:da 19=Y j)(pA:da 20=Y 0)(b9:da 8= .bool b)
    {Q:dA->aR->W->Prop} (b2: ∀A,(∀k∈vJ,A k=da k)->A 19=da 19->A 8= .bool (b&&decide (v∉x.bf.take j))->Q (.a7 12) A c1):fZ al (.loop DU) da c1 Q:=by
  have bj:j<x.bf.length:=(dO.1 ad).1;have a8:(j:Int)<x.bf.length:=by omega
  have Zt:=(dO.1 ad).2;refine h9 (aC:=⟨[],[]⟩) (λk A t=>t=c1/\(∀k∈vJ,A k=da k)/\A 19=Y j/\A 20=Y k/\A 8= .bool (b&&decide (v∉x.bf.take k))) j ?_ ?_ 0 da c1 (ht _) ⟨rfl,λ_ _=>rfl,vF,pA,by simp[b9]⟩
  · rintro k A t aa ⟨rfl,K,pz,IK,fX⟩ cS bm;have G:x.bf[k]?=some x.bf[k]:=cD (by omega);have cg:=gY (n:=k) (by omega);have b6:(k:Int)<j:=(by omega);have bE:(k:Int)<x.bf.length:=(by omega);have xq:A 18=cw q:=(K 18 (by decide)).trans r6;have hb:(b&&decide (v∉x.bf.take (k+1)))=((b&&decide (v∉x.bf.take k))&& !decide (x.bf[k]=v)):=by
      rw[l6 G,Bool.eq_iff_iff];simp only[a1,e2,kk,rj,uE,decide_eq_false_iff_not,not_or];constructor
      · rintro⟨a,c,d⟩;exact⟨⟨a,c⟩,λe=>d e.symm⟩
      · rintro⟨⟨a,c⟩,d⟩;exact⟨a,c,λe=>d e.symm⟩
    obtain⟨aV,cT⟩: ∃aV,aV=(b&&decide (v∉x.bf.take k)):=⟨_,rfl⟩;rw[<-cT]at fX hb;cases aV
    · simp(disch:=first|omega|simp only[aO];omega) [DU,H0,pz,IK,fX,b6,cg,-O,-U,-N,-S,-List.map_map];exact bm _ _ ⟨rfl,xy K (zl (by simp) (by simp) (by simp) (by simp) (by simp) (by simp) (by simp) (by simp)),by simp[pz],by simp,by rw[hb];simp⟩
    · by_cases e:x.bf[k]=v
      · simp(disch:=first|omega|simp only[aO];omega) [DU,H0,e5,xq,pz,IK,fX,mg,b6,a8,bE,cg,Zt,e,-O,-U,-N,-S,-List.map_map];exact bm _ _ ⟨rfl,xy K (zl (by simp) (by simp) (by simp) (by simp) (by simp) (by simp) (by simp) (by simp)),by simp[pz],by simp,by rw[hb];simp[e]⟩
      · simp(disch:=first|omega|simp only[aO];omega) [DU,H0,e5,xq,pz,IK,fX,mg,b6,a8,bE,cg,Zt,e,-O,-U,-N,-S,-List.map_map];exact bm _ _ ⟨rfl,xy K (zl (by simp) (by simp) (by simp) (by simp) (by simp) (by simp) (by simp) (by simp)),by simp[pz],by simp,by rw[hb];simp[e]⟩
  · rintro A t ⟨rfl,K,pz,IK,fX⟩;have xq:A 18=cw q:=(K 18 (by decide)).trans r6;simp(disch:=first|omega|simp only[aO];omega) [DU,H0,pz,IK,-O,-U,-N,-S,-List.map_map];exact b2 _ (xy K (zl (by simp) (by simp) (by simp) (by simp) (by simp) (by simp) (by simp) (by simp))) (by simp[pz,vF]) (by simp[fX])
def oJ(gR:List Int)(n:Nat):Bool:=(gR.all λm=>dK m 0 ((n:Int)-1))&&decide gR.Nodup
theorem aAC{gR:List Int}{n:Nat}{v:Int}:oJ (gR++[v]) n=(oJ gR n&&(dK v 0 ((n:Int)-1)&&decide (v∉gR))):=by
  rw[Bool.eq_iff_iff];simp only[oJ,a1,e2,s6,vU,nm,List.all_nil,and_true];constructor
  · rintro⟨⟨a,b⟩,c,_,d⟩;exact⟨⟨a,c⟩,b,λax=>d v ax v (by simp) rfl⟩
  · rintro⟨⟨a,c⟩,b,d⟩;exact⟨⟨a,b⟩,c,by simp,λx G y af=>by simp at af;subst af;exact λe=>d (e▸G)⟩
theorem aAB{a b:List Int}{n:Nat}(h:oJ (a++b) n=true):oJ a n=true:=by simp only[oJ,a1,e2,s6,vU]at*;exact⟨h.1.1,h.2.1⟩
theorem aCX{u:bg}(aw:bg.fO u){x:iL}{q:Nat}{b:Bool}{da:aR}{c1:W}(eA:x.bf.length<1000000)(aN:c1.X 0=some ⟨aL u,true⟩)(mg:c1.X q=some ⟨e5 x,true⟩)(ba:da 1=cw 0)(r6:da 18=cw q)(vF:da 19=Y 0)(b9:da 8= .bool b)
    {Q:dA->aR->W->Prop} (b2: ∀A,(∀k∈vJ,A k=da k)->A 8= .bool (b&&oJ x.bf u.bf.length)->Q (.a7 10) A c1):fZ al (.loop DV) da c1 Q:=by
  have kA:IntKind.i64.wrap ((u.bf.length:Int)-1)=(u.bf.length:Int)-1:=fV (by omega) (by have:=aw.eO;omega);refine h9 (aC:=⟨[r8],[]⟩) (λj A t=> ∃cd,t=c1/\(∀k∈vJ,A k=da k)/\A 19=Y j/\A 8= .bool cd/\(cd=true->b=true/\oJ (x.bf.take j) u.bf.length=true)/\(cd=false->(b&&oJ x.bf u.bf.length)=false)) x.bf.length ?_ ?_ 0 da c1 (ht _) ⟨b,rfl,λ_ _=>rfl,vF,b9,λh=>⟨h,by simp[oJ]⟩,λh=>by rw[h];rfl⟩
  · rintro j A t bj ⟨cd,rfl,K,pz,fX,bA,aT⟩ cS bm;have G:x.bf[j]?=some x.bf[j]:=cD bj;have cg:=gY (n:=j) (by omega);have b6:(j:Int)<x.bf.length:=(by omega);have xq:A 18=cw q:=(K 18 (by decide)).trans r6;have oQ:A 1=cw 0:=(K 1 (by decide)).trans ba;cases cd
    · have aT:=aT rfl;simp(disch:=first|omega|simp only[aO];omega) [DV,M8,M9,e5,xq,pz,fX,mg,b6,-O,-U,-N,-S,-List.map_map];exact b2 _ (xy K (zl (by simp) (by simp) (by simp) (by simp) (by simp) (by simp) (by simp) (by simp))) (by rw[aT];simp[fX])
    · obtain⟨hb,ax⟩:=bA rfl;have QQ:x.bf=x.bf.take (j+1)++x.bf.drop (j+1):=(List.take_append_drop _ _).symm;have jW:=aAC (gR:=x.bf.take j) (n:=u.bf.length) (v:=x.bf[j]);rw[<-l6 G,ax,s8]at jW;obtain⟨aV,dj⟩: ∃aV,dK x.bf[j] 0 ((u.bf.length:Int)-1)=aV:=⟨_,rfl⟩;simp(disch:=first|omega|simp only[aO];omega) [DV,M8,M9,e5,aL,oQ,xq,pz,fX,mg,aN,b6,kA,dj,-O,-U,-N,-S,-List.map_map];refine aCW (b:=aV) G eA mg (by simp[xq]) (by simp[pz]) (by simp) (by simp) λdt iP akQ Ko=> ?_;rw[dj]at jW;simp(disch:=first|omega|simp only[aO];omega) [akQ,pz,cg,-O,-U,-N,-S,-List.map_map];refine bm _ _ ⟨aV&&decide (x.bf[j]∉x.bf.take j),rfl,xy (xy (xy K (zl ?_ ?_ ?_ ?_ ?_ ?_ ?_ ?_)) iP) (zl ?_ ?_ ?_ ?_ ?_ ?_ ?_ ?_),?_,?_,?_,?_⟩
      rotate_right 4
      · simp
      · simp[Ko]
      · intro h;exact⟨hb,by rw[jW];exact h⟩
      · intro h;rw[zC];refine .inr ?_;cases bd:oJ x.bf u.bf.length
        · rfl
        · rw[QQ]at bd;have:=aAB bd;rw[jW,h]at this;cases this
      all_goals simp
  · rintro A t ⟨cd,rfl,K,pz,fX,bA,aT⟩;rw[nk]at bA;have xq:A 18=cw q:=(K 18 (by decide)).trans r6;have e:(b&&oJ x.bf u.bf.length)=cd:=by
      cases cd
      · exact aT rfl
      · obtain⟨E,I⟩:=bA rfl;rw[E,I];rfl
    simp(disch:=first|omega|simp only[aO];omega) [DV,M8,M9,e5,xq,pz,mg,-O,-U,-N,-S,-List.map_map];exact b2 _ (xy K (zl (by simp) (by simp) (by simp) (by simp) (by simp) (by simp) (by simp) (by simp))) (by rw[e];simp[fX])
end Go.Proofs.YtmmkkggfmigppaaGreat
