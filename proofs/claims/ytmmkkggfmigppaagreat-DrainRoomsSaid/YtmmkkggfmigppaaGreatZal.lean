/-
  A part of the proof of the statement, in texts that tools of ours (wip/shrink.py, irpack.py, relax.py, minify.py, join.py, lay.py) have shortened.
-/
import Derived.Test.YtmmkkggfmigppaaGreatZak
set_option linter.all false
set_option maxRecDepth 8000
set_option maxHeartbeats 16000000
namespace Go.Proofs.YtmmkkggfmigppaaGreat
open Go Go.DI Go.Big
def ky(As:Nat)(x:Bi):Bool:=dE x.ext 1 16&&(dE x.MS 1 64&&dE x.Mt 0 ((As:Int)-1))
def Al(ds:List gm)(m:Int):Bool:=match ds[m.toNat]? with
  |some q=>decide (q.hn=4)
  |none=>false
def ko(eJ:Nat)(ds:List gm)(x:mu):Bool:=dE x.model 0 ((eJ:Int)-1)&&(dE x.tb 0 ((ds.length:Int)-1)&&Al ds x.tb)
def nt(we:Nat)(x:pV):Bool:=dE x.pF 0 ((we:Int)-1)
theorem Ei{c4:Type}{l:List c4}{p:c4->Bool}{b:Bool}{i:Nat}{x:c4}(G:l[i]?=some x):(b&&(l.take (i+1)).all p)=((b&&(l.take i).all p)&&p x):=by rw[mS G,rr];simp[yJ]
def lk:List Nat:=[1,3,4,5,6,7]
theorem ez{z ae:aM}{d:Nat}(D:1≠d->ae 1=z 1)(aq:3≠d->ae 3=z 3)(aE:4≠d->ae 4=z 4)(bq:5≠d->ae 5=z 5)(cP:6≠d->ae 6=z 6)(fB:7≠d->ae 7=z 7): ∀k∈lk,k≠d->ae k=z k:= λk aa ay=>by
  simp only[lk,gT,iP,or_false]at aa;rcases aa with rfl|rfl|rfl|rfl|rfl|rfl
  · exact D ay
  · exact aq ay
  · exact aE ay
  · exact bq ay
  · exact cP ay
  · exact fB ay
theorem ayW{u:bm}(h:bm.fD u){c5:aM}{cS:W}{gB:Nat}{bP:List ByteArray}{dA:Bool}(k9:bP.length<=10000)(nW:cS.X 0=some ⟨aU u,true⟩)(nX:cS.X gB=some ⟨ey bP,true⟩)(tj:gB≠0)(bl:c5 1=cF 0)(fU:c5 3= .slice (some ⟨gB,0,none⟩) bP.length 1)(b9:c5 8= .bool dA)
    (pL:c5 67=aw (u.cH.map gZ) 4) (qs:c5 68=Z u.cH.length) (qt:c5 69=Z 0) {Q:du->aM->W->Prop}
    (bT: ∀z t o,(∀k∈lk,k≠3->z k=c5 k)->z 8= .bool (dA&&u.cH.all hX.mi)->z 3= .slice (some ⟨o,0,none⟩) (bP.length+u.cH.length) 1->t.X o=some ⟨ey (bP++u.cH.map (·.name)),true⟩->(o=gB\/cS.next<=o)->cS.next<=t.next->(∀b,b<cS.next->b≠gB->t.X b=cS.X b)->Q (.bh 0) z t):fl al (.loop CP) c5 cS Q:=by
  have s8:=bn nW;have Hr:=bn nX;have eS:u.cH.length<=1000:=h.As;refine h4 (aB:=⟨[TJ],[]⟩) (λi z t=> ∃o,(∀k∈lk,k≠3->z k=c5 k)/\z 8= .bool (dA&&(u.cH.take i).all hX.mi)/\z 3= .slice (some ⟨o,0,none⟩) (bP.length+i) 1/\t.X o=some ⟨ey (bP++(u.cH.take i).map (·.name)),true⟩/\(o=gB\/cS.next<=o)/\cS.next<=t.next/\(∀b,b<cS.next->b≠gB->t.X b=cS.X b)/\z 67=aw (u.cH.map gZ) 4/\z 68=Z u.cH.length/\z 69=Z i) u.cH.length ?_ ?_ 0 c5 cS (hx _) ⟨gB,λ_ _ _=>rfl,by simpa using b9,by simpa using fU,by simpa using nX,.inl rfl,dW _,λ_ _ _=>rfl,pL,qs,qt⟩
  · rintro i z t ak ⟨o,fI,fS,ib,bd,fo,jW,fe,gM,gb,ia⟩ cx bk;have G:u.cH[i]?=some u.cH[i]:=dD ak;have bZ:=g3 (n:=i) (by omega);have bY:(i:Int)<u.cH.length:=(by omega);have oa:z 1=cF 0:=(fI 1 (by decide) (by decide)).trans bl;have aO:t.X 0=some ⟨aU u,true⟩:=(by rw[fe 0 s8 (Ne.symm tj)];exact nW);have fW:=bn aO;have cp:=bn bd;have iG:o≠0:=(by rcases fo with rfl|bN<;>omega);obtain⟨jL,lu⟩: ∃c,c=ey (bP++(u.cH.take i).map (·.name)):=⟨_,rfl⟩;rw[<-lu]at bd;have fw:jL.length=bP.length+i:=(by rw[lu,Dg,jI,jg,oZ];omega);have kX:jL.take (bP.length+i)=jL:=jh (by omega);have fO:(bP.length+i+1)*16<=140737488355328/\bP.length+i<=9223372036854775806:=(by omega);have jA:jL++[fQ u.cH[i].name]=ey (bP++(u.cH.take (i+1)).map (·.name)):=(by rw[mS G,tL,<-D0,ln,wV,Au,lu]);have db:=h.cH _ (nv ak);have hb:=Ei (p:=hX.mi) (b:=dA) G;obtain⟨aX,cK⟩: ∃aX,aX=(dA&&(u.cH.take i).all hX.mi):=⟨_,rfl⟩;rw[<-cK]at fS hb;cases aX
    · skip
      simp(disch:=first|omega|simp only[DI.ab];omega) [CP,G4,LF,LG,gZ,fS,ib,gM,gb,ia,bd,bY,bZ,fw,kX,fO,-O,-U,-N,-S,-List.map_map];refine bk _ _ ⟨t.next+4+4,λk aa ay=>jw (b:=z k) (ez (d:=3) ?_ ?_ ?_ ?_ ?_ ?_ k aa ay) (fI k aa ay),?_,?_,?_,.inr (by omega),?_,λb hb dK=> ?_,?_,?_,?_⟩
      all_goals first
        |(intro ay;first|(exact absurd rfl ay)|(simp;done))
        |(rw[hb];simp[];done)
        |(rw[<-jA];simp(disch:=first|omega|simp only[DI.ab];omega) [-O,-U,-N,-S,-List.map_map];done)
        | (have l6:b≠o:=by rcases fo with rfl|bN<;>omega
           rw[<-fe b hb dK];simp(disch:=first|omega|simp only[DI.ab];omega) [-O,-U,-N,-S,-List.map_map];done)
        |(simp(disch:=first|omega|simp only[DI.ab];omega) [-O,-U,-N,-S,-List.map_map];done)
        |(simp(disch:=first|omega|simp only[DI.ab];omega) [gM,gb,-O,-U,-N,-S,-List.map_map];done)
        |(simp(disch:=first|omega|simp only[DI.ab];omega) [-O,-U,-N,-S,-List.map_map];omega)
        |(simp;omega)
    · skip
      cases dx:u.cH[i].mi
      · skip
        simp(disch:=first|omega|simp only[DI.ab];omega) [CP,G4,LF,LG,gZ,fS,ib,gM,gb,ia,bd,bY,bZ,fw,kX,fO,dx,-O,-U,-N,-S,-List.map_map];refine bk _ _ ⟨t.next+4+4,λk aa ay=>jw (b:=z k) (ez (d:=3) ?_ ?_ ?_ ?_ ?_ ?_ k aa ay) (fI k aa ay),?_,?_,?_,.inr (by omega),?_,λb hb dK=> ?_,?_,?_,?_⟩
        all_goals first
          |(intro ay;first|(exact absurd rfl ay)|(simp;done))
          |(rw[hb];simp[dx];done)
          |(rw[<-jA];simp(disch:=first|omega|simp only[DI.ab];omega) [-O,-U,-N,-S,-List.map_map];done)
          | (have l6:b≠o:=by rcases fo with rfl|bN<;>omega
             rw[<-fe b hb dK];simp(disch:=first|omega|simp only[DI.ab];omega) [-O,-U,-N,-S,-List.map_map];done)
          |(simp(disch:=first|omega|simp only[DI.ab];omega) [-O,-U,-N,-S,-List.map_map];done)
          |(simp(disch:=first|omega|simp only[DI.ab];omega) [gM,gb,-O,-U,-N,-S,-List.map_map];done)
          |(simp(disch:=first|omega|simp only[DI.ab];omega) [-O,-U,-N,-S,-List.map_map];omega)
          |(simp;omega)
      · skip
        simp(disch:=first|omega|simp only[DI.ab];omega) [CP,G4,LF,LG,gZ,fS,ib,gM,gb,ia,bd,bY,bZ,fw,kX,fO,dx,-O,-U,-N,-S,-List.map_map];refine bk _ _ ⟨t.next+4+4,λk aa ay=>jw (b:=z k) (ez (d:=3) ?_ ?_ ?_ ?_ ?_ ?_ k aa ay) (fI k aa ay),?_,?_,?_,.inr (by omega),?_,λb hb dK=> ?_,?_,?_,?_⟩
        all_goals first
          |(intro ay;first|(exact absurd rfl ay)|(simp;done))
          |(rw[hb];simp[dx];done)
          |(rw[<-jA];simp(disch:=first|omega|simp only[DI.ab];omega) [-O,-U,-N,-S,-List.map_map];done)
          | (have l6:b≠o:=by rcases fo with rfl|bN<;>omega
             rw[<-fe b hb dK];simp(disch:=first|omega|simp only[DI.ab];omega) [-O,-U,-N,-S,-List.map_map];done)
          |(simp(disch:=first|omega|simp only[DI.ab];omega) [-O,-U,-N,-S,-List.map_map];done)
          |(simp(disch:=first|omega|simp only[DI.ab];omega) [gM,gb,-O,-U,-N,-S,-List.map_map];done)
          |(simp(disch:=first|omega|simp only[DI.ab];omega) [-O,-U,-N,-S,-List.map_map];omega)
          |(simp;omega)
  · rintro z t ⟨o,fI,fS,ib,bd,fo,jW,fe,gM,gb,ia⟩;rw[kj]at bd fS;simp(disch:=first|omega|simp only[DI.ab];omega) [CP,G4,gb,ia,-O,-U,-N,-S,-List.map_map];refine bT _ _ o (λk aa ay=>jw (b:=z k) (ez (d:=3) ?_ ?_ ?_ ?_ ?_ ?_ k aa ay) (fI k aa ay)) ?_ ?_ bd fo jW fe
    all_goals first
      |(intro ay;simp;done)
      |(simp[fS];done)
      |(simp[ib];done)
theorem ayX{u:bm}(h:bm.fD u){c5:aM}{cS:W}{gB:Nat}{bP:List ByteArray}{dA:Bool}(k9:bP.length<=10000)(nW:cS.X 0=some ⟨aU u,true⟩)(nX:cS.X gB=some ⟨ey bP,true⟩)(tj:gB≠0)(bl:c5 1=cF 0)(fU:c5 4= .slice (some ⟨gB,0,none⟩) bP.length 1)(b9:c5 8= .bool dA)
    (pL:c5 85=aw (u.bf.map gO) 4) (qs:c5 86=Z u.bf.length) (qt:c5 87=Z 0) {Q:du->aM->W->Prop}
    (bT: ∀z t o,(∀k∈lk,k≠4->z k=c5 k)->z 8= .bool (dA&&u.bf.all (ky u.cH.length))->z 4= .slice (some ⟨o,0,none⟩) (bP.length+u.bf.length) 1->t.X o=some ⟨ey (bP++u.bf.map (·.name)),true⟩->(o=gB\/cS.next<=o)->cS.next<=t.next->(∀b,b<cS.next->b≠gB->t.X b=cS.X b)->Q (.bh 2) z t):fl al (.loop xM) c5 cS Q:=by
  have s8:=bn nW;have Hr:=bn nX;have eS:u.bf.length<=1000:=h.eJ;refine h4 (aB:=⟨[rg],[]⟩) (λi z t=> ∃o,(∀k∈lk,k≠4->z k=c5 k)/\z 8= .bool (dA&&(u.bf.take i).all (ky u.cH.length))/\z 4= .slice (some ⟨o,0,none⟩) (bP.length+i) 1/\t.X o=some ⟨ey (bP++(u.bf.take i).map (·.name)),true⟩/\(o=gB\/cS.next<=o)/\cS.next<=t.next/\(∀b,b<cS.next->b≠gB->t.X b=cS.X b)/\z 85=aw (u.bf.map gO) 4/\z 86=Z u.bf.length/\z 87=Z i) u.bf.length ?_ ?_ 0 c5 cS (hx _) ⟨gB,λ_ _ _=>rfl,by simpa using b9,by simpa using fU,by simpa using nX,.inl rfl,dW _,λ_ _ _=>rfl,pL,qs,qt⟩
  · rintro i z t ak ⟨o,fI,fS,ib,bd,fo,jW,fe,gM,gb,ia⟩ cx bk;have G:u.bf[i]?=some u.bf[i]:=dD ak;have bZ:=g3 (n:=i) (by omega);have bY:(i:Int)<u.bf.length:=(by omega);have oa:z 1=cF 0:=(fI 1 (by decide) (by decide)).trans bl;have aO:t.X 0=some ⟨aU u,true⟩:=(by rw[fe 0 s8 (Ne.symm tj)];exact nW);have fW:=bn aO;have cp:=bn bd;have iG:o≠0:=(by rcases fo with rfl|bN<;>omega);obtain⟨jL,lu⟩: ∃c,c=ey (bP++(u.bf.take i).map (·.name)):=⟨_,rfl⟩;rw[<-lu]at bd;have fw:jL.length=bP.length+i:=(by rw[lu,Dg,jI,jg,oZ];omega);have kX:jL.take (bP.length+i)=jL:=jh (by omega);have fO:(bP.length+i+1)*16<=140737488355328/\bP.length+i<=9223372036854775806:=(by omega);have jA:jL++[fQ u.bf[i].name]=ey (bP++(u.bf.take (i+1)).map (·.name)):=(by rw[mS G,tL,<-D0,ln,wV,Au,lu]);have j4:IntKind.i64.wrap ((u.cH.length:Int)-1)=(u.cH.length:Int)-1:=fx (by omega) (by have:=h.As;omega);have hb:=Ei (p:=(ky u.cH.length)) (b:=dA) G;obtain⟨aX,cK⟩: ∃aX,aX=(dA&&(u.bf.take i).all (ky u.cH.length)):=⟨_,rfl⟩;rw[<-cK]at fS hb;cases aX
    · skip
      simp(disch:=first|omega|simp only[DI.ab];omega) [xM,zY,CL,CM,gO,fS,ib,gM,gb,ia,bd,bY,bZ,fw,kX,fO,-O,-U,-N,-S,-List.map_map];refine bk _ _ ⟨t.next+4+4,λk aa ay=>jw (b:=z k) (ez (d:=4) ?_ ?_ ?_ ?_ ?_ ?_ k aa ay) (fI k aa ay),?_,?_,?_,.inr (by omega),?_,λb hb dK=> ?_,?_,?_,?_⟩
      all_goals first
        |(intro ay;first|(exact absurd rfl ay)|(simp;done))
        |(rw[hb];simp[];done)
        |(rw[<-jA];simp(disch:=first|omega|simp only[DI.ab];omega) [-O,-U,-N,-S,-List.map_map];done)
        | (have l6:b≠o:=by rcases fo with rfl|bN<;>omega
           rw[<-fe b hb dK];simp(disch:=first|omega|simp only[DI.ab];omega) [-O,-U,-N,-S,-List.map_map];done)
        |(simp(disch:=first|omega|simp only[DI.ab];omega) [-O,-U,-N,-S,-List.map_map];done)
        |(simp(disch:=first|omega|simp only[DI.ab];omega) [gM,gb,-O,-U,-N,-S,-List.map_map];done)
        |(simp(disch:=first|omega|simp only[DI.ab];omega) [-O,-U,-N,-S,-List.map_map];omega)
        |(simp;omega)
    · skip
      cases db:dE u.bf[i].ext 1 16
      · skip
        simp(disch:=first|omega|simp only[DI.ab];omega) [xM,zY,CL,CM,gO,fS,ib,gM,gb,ia,bd,bY,bZ,fw,kX,fO,db,-O,-U,-N,-S,-List.map_map];refine bk _ _ ⟨t.next+4+4,λk aa ay=>jw (b:=z k) (ez (d:=4) ?_ ?_ ?_ ?_ ?_ ?_ k aa ay) (fI k aa ay),?_,?_,?_,.inr (by omega),?_,λb hb dK=> ?_,?_,?_,?_⟩
        all_goals first
          |(intro ay;first|(exact absurd rfl ay)|(simp;done))
          |(rw[hb];simp[ky,db];done)
          |(rw[<-jA];simp(disch:=first|omega|simp only[DI.ab];omega) [-O,-U,-N,-S,-List.map_map];done)
          | (have l6:b≠o:=by rcases fo with rfl|bN<;>omega
             rw[<-fe b hb dK];simp(disch:=first|omega|simp only[DI.ab];omega) [-O,-U,-N,-S,-List.map_map];done)
          |(simp(disch:=first|omega|simp only[DI.ab];omega) [-O,-U,-N,-S,-List.map_map];done)
          |(simp(disch:=first|omega|simp only[DI.ab];omega) [gM,gb,-O,-U,-N,-S,-List.map_map];done)
          |(simp(disch:=first|omega|simp only[DI.ab];omega) [-O,-U,-N,-S,-List.map_map];omega)
          |(simp;omega)
      · skip
        cases dx:dE u.bf[i].MS 1 64
        · skip
          simp(disch:=first|omega|simp only[DI.ab];omega) [xM,zY,CL,CM,gO,fS,ib,gM,gb,ia,bd,bY,bZ,fw,kX,fO,db,dx,-O,-U,-N,-S,-List.map_map];refine bk _ _ ⟨t.next+4+4,λk aa ay=>jw (b:=z k) (ez (d:=4) ?_ ?_ ?_ ?_ ?_ ?_ k aa ay) (fI k aa ay),?_,?_,?_,.inr (by omega),?_,λb hb dK=> ?_,?_,?_,?_⟩
          all_goals first
            |(intro ay;first|(exact absurd rfl ay)|(simp;done))
            |(rw[hb];simp[ky,db,dx];done)
            |(rw[<-jA];simp(disch:=first|omega|simp only[DI.ab];omega) [-O,-U,-N,-S,-List.map_map];done)
            | (have l6:b≠o:=by rcases fo with rfl|bN<;>omega
               rw[<-fe b hb dK];simp(disch:=first|omega|simp only[DI.ab];omega) [-O,-U,-N,-S,-List.map_map];done)
            |(simp(disch:=first|omega|simp only[DI.ab];omega) [-O,-U,-N,-S,-List.map_map];done)
            |(simp(disch:=first|omega|simp only[DI.ab];omega) [gM,gb,-O,-U,-N,-S,-List.map_map];done)
            |(simp(disch:=first|omega|simp only[DI.ab];omega) [-O,-U,-N,-S,-List.map_map];omega)
            |(simp;omega)
        · skip
          cases f3:dE u.bf[i].Mt 0 ((u.cH.length:Int)-1)
          · skip
            simp(disch:=first|omega|simp only[DI.ab];omega) [xM,zY,CL,CM,aU,gO,oa,fS,ib,gM,gb,ia,aO,bd,bY,bZ,fw,kX,fO,j4,db,dx,f3,-O,-U,-N,-S,-List.map_map];refine bk _ _ ⟨t.next+4+4,λk aa ay=>jw (b:=z k) (ez (d:=4) ?_ ?_ ?_ ?_ ?_ ?_ k aa ay) (fI k aa ay),?_,?_,?_,.inr (by omega),?_,λb hb dK=> ?_,?_,?_,?_⟩
            all_goals first
              |(intro ay;first|(exact absurd rfl ay)|(simp;done))
              |(rw[hb];simp[ky,db,dx,f3];done)
              |(rw[<-jA];simp(disch:=first|omega|simp only[DI.ab];omega) [-O,-U,-N,-S,-List.map_map];done)
              | (have l6:b≠o:=by rcases fo with rfl|bN<;>omega
                 rw[<-fe b hb dK];simp(disch:=first|omega|simp only[DI.ab];omega) [-O,-U,-N,-S,-List.map_map];done)
              |(simp(disch:=first|omega|simp only[DI.ab];omega) [-O,-U,-N,-S,-List.map_map];done)
              |(simp(disch:=first|omega|simp only[DI.ab];omega) [gM,gb,-O,-U,-N,-S,-List.map_map];done)
              |(simp(disch:=first|omega|simp only[DI.ab];omega) [-O,-U,-N,-S,-List.map_map];omega)
              |(simp;omega)
          · skip
            simp(disch:=first|omega|simp only[DI.ab];omega) [xM,zY,CL,CM,aU,gO,oa,fS,ib,gM,gb,ia,aO,bd,bY,bZ,fw,kX,fO,j4,db,dx,f3,-O,-U,-N,-S,-List.map_map];refine bk _ _ ⟨t.next+4+4,λk aa ay=>jw (b:=z k) (ez (d:=4) ?_ ?_ ?_ ?_ ?_ ?_ k aa ay) (fI k aa ay),?_,?_,?_,.inr (by omega),?_,λb hb dK=> ?_,?_,?_,?_⟩
            all_goals first
              |(intro ay;first|(exact absurd rfl ay)|(simp;done))
              |(rw[hb];simp[ky,db,dx,f3];done)
              |(rw[<-jA];simp(disch:=first|omega|simp only[DI.ab];omega) [-O,-U,-N,-S,-List.map_map];done)
              | (have l6:b≠o:=by rcases fo with rfl|bN<;>omega
                 rw[<-fe b hb dK];simp(disch:=first|omega|simp only[DI.ab];omega) [-O,-U,-N,-S,-List.map_map];done)
              |(simp(disch:=first|omega|simp only[DI.ab];omega) [-O,-U,-N,-S,-List.map_map];done)
              |(simp(disch:=first|omega|simp only[DI.ab];omega) [gM,gb,-O,-U,-N,-S,-List.map_map];done)
              |(simp(disch:=first|omega|simp only[DI.ab];omega) [-O,-U,-N,-S,-List.map_map];omega)
              |(simp;omega)
  · rintro z t ⟨o,fI,fS,ib,bd,fo,jW,fe,gM,gb,ia⟩;rw[kj]at bd fS;simp(disch:=first|omega|simp only[DI.ab];omega) [xM,zY,gb,ia,-O,-U,-N,-S,-List.map_map];refine bT _ _ o (λk aa ay=>jw (b:=z k) (ez (d:=4) ?_ ?_ ?_ ?_ ?_ ?_ k aa ay) (fI k aa ay)) ?_ ?_ bd fo jW fe
    all_goals first
      |(intro ay;simp;done)
      |(simp[fS];done)
      |(simp[ib];done)
theorem ayY{u:bm}(h:bm.fD u){ds:List gm}(xo:ds.length<=1000){c5:aM}{cS:W}{gB:Nat}{bP:List ByteArray}{dA:Bool}(k9:bP.length<=10000)(nW:cS.X 0=some ⟨aU u,true⟩)(nX:cS.X gB=some ⟨ey bP,true⟩)(tj:gB≠0)(bl:c5 1=cF 0)(fU:c5 5= .slice (some ⟨gB,0,none⟩) bP.length 1)(b9:c5 8= .bool dA)
    (pL:c5 119=aw (ds.map ef) 7) (qs:c5 120=Z ds.length) (qt:c5 121=Z 0) {Q:du->aM->W->Prop}
    (bT: ∀z t o,(∀k∈lk,k≠5->z k=c5 k)->z 8= .bool dA->z 5= .slice (some ⟨o,0,none⟩) (bP.length+ds.length) 1->t.X o=some ⟨ey (bP++ds.map (·.name)),true⟩->(o=gB\/cS.next<=o)->cS.next<=t.next->(∀b,b<cS.next->b≠gB->t.X b=cS.X b)->Q (.bh 4) z t):fl al (.loop LH) c5 cS Q:=by
  have s8:=bn nW;have Hr:=bn nX;have eS:ds.length<=1000:=xo;refine h4 (aB:=⟨[],[]⟩) (λi z t=> ∃o,(∀k∈lk,k≠5->z k=c5 k)/\z 8= .bool dA/\z 5= .slice (some ⟨o,0,none⟩) (bP.length+i) 1/\t.X o=some ⟨ey (bP++(ds.take i).map (·.name)),true⟩/\(o=gB\/cS.next<=o)/\cS.next<=t.next/\(∀b,b<cS.next->b≠gB->t.X b=cS.X b)/\z 119=aw (ds.map ef) 7/\z 120=Z ds.length/\z 121=Z i) ds.length ?_ ?_ 0 c5 cS (hx _) ⟨gB,λ_ _ _=>rfl,by simpa using b9,by simpa using fU,by simpa using nX,.inl rfl,dW _,λ_ _ _=>rfl,pL,qs,qt⟩
  · rintro i z t ak ⟨o,fI,fS,ib,bd,fo,jW,fe,gM,gb,ia⟩ cx bk;have G:ds[i]?=some ds[i]:=dD ak;have bZ:=g3 (n:=i) (by omega);have bY:(i:Int)<ds.length:=(by omega);have oa:z 1=cF 0:=(fI 1 (by decide) (by decide)).trans bl;have aO:t.X 0=some ⟨aU u,true⟩:=(by rw[fe 0 s8 (Ne.symm tj)];exact nW);have fW:=bn aO;have cp:=bn bd;have iG:o≠0:=(by rcases fo with rfl|bN<;>omega);obtain⟨jL,lu⟩: ∃c,c=ey (bP++(ds.take i).map (·.name)):=⟨_,rfl⟩;rw[<-lu]at bd;have fw:jL.length=bP.length+i:=(by rw[lu,Dg,jI,jg,oZ];omega);have kX:jL.take (bP.length+i)=jL:=jh (by omega);have fO:(bP.length+i+1)*16<=140737488355328/\bP.length+i<=9223372036854775806:=(by omega);have jA:jL++[fQ ds[i].name]=ey (bP++(ds.take (i+1)).map (·.name)):=(by rw[mS G,tL,<-D0,ln,wV,Au,lu]);simp(disch:=first|omega|simp only[DI.ab];omega) [LH,R0,acB,ef,ib,gM,gb,ia,bd,bY,bZ,fw,kX,fO,-O,-U,-N,-S,-List.map_map];refine bk _ _ ⟨t.next+4+4,λk aa ay=>jw (b:=z k) (ez (d:=5) ?_ ?_ ?_ ?_ ?_ ?_ k aa ay) (fI k aa ay),?_,?_,?_,.inr (by omega),?_,λb hb dK=> ?_,?_,?_,?_⟩
    all_goals first
      |(intro ay;first|(exact absurd rfl ay)|(simp;done))
      |(simp[fS];done)
      |(rw[<-jA];simp(disch:=first|omega|simp only[DI.ab];omega) [-O,-U,-N,-S,-List.map_map];done)
      | (have l6:b≠o:=by rcases fo with rfl|bN<;>omega
         rw[<-fe b hb dK];simp(disch:=first|omega|simp only[DI.ab];omega) [-O,-U,-N,-S,-List.map_map];done)
      |(simp(disch:=first|omega|simp only[DI.ab];omega) [-O,-U,-N,-S,-List.map_map];done)
      |(simp(disch:=first|omega|simp only[DI.ab];omega) [gM,gb,-O,-U,-N,-S,-List.map_map];done)
      |(simp(disch:=first|omega|simp only[DI.ab];omega) [-O,-U,-N,-S,-List.map_map];omega)
      |(simp;omega)
  · rintro z t ⟨o,fI,fS,ib,bd,fo,jW,fe,gM,gb,ia⟩;rw[kj]at bd;simp(disch:=first|omega|simp only[DI.ab];omega) [LH,R0,gb,ia,-O,-U,-N,-S,-List.map_map];refine bT _ _ o (λk aa ay=>jw (b:=z k) (ez (d:=5) ?_ ?_ ?_ ?_ ?_ ?_ k aa ay) (fI k aa ay)) ?_ ?_ bd fo jW fe
    all_goals first
      |(intro ay;simp;done)
      |(simp[fS];done)
      |(simp[ib];done)
theorem ayZ{u:bm}(h:bm.fD u){c5:aM}{cS:W}{gB:Nat}{bP:List ByteArray}{dA:Bool}(k9:bP.length<=10000)(nW:cS.X 0=some ⟨aU u,true⟩)(nX:cS.X gB=some ⟨ey bP,true⟩)(tj:gB≠0)(bl:c5 1=cF 0)(fU:c5 5= .slice (some ⟨gB,0,none⟩) bP.length 1)(b9:c5 8= .bool dA)
    (pL:c5 132=aw (u.a5.map gp) 3) (qs:c5 133=Z u.a5.length) (qt:c5 134=Z 0) {Q:du->aM->W->Prop}
    (bT: ∀z t o,(∀k∈lk,k≠5->z k=c5 k)->z 8= .bool (dA&&u.a5.all (ko u.bf.length u.a1))->z 5= .slice (some ⟨o,0,none⟩) (bP.length+u.a5.length) 1->t.X o=some ⟨ey (bP++u.a5.map (·.name)),true⟩->(o=gB\/cS.next<=o)->cS.next<=t.next->(∀b,b<cS.next->b≠gB->t.X b=cS.X b)->Q (.bh 6) z t):fl al (.loop xN) c5 cS Q:=by
  have s8:=bn nW;have Hr:=bn nX;have eS:u.a5.length<=1000:=h.mh;refine h4 (aB:=⟨[rg],[]⟩) (λi z t=> ∃o,(∀k∈lk,k≠5->z k=c5 k)/\z 8= .bool (dA&&(u.a5.take i).all (ko u.bf.length u.a1))/\z 5= .slice (some ⟨o,0,none⟩) (bP.length+i) 1/\t.X o=some ⟨ey (bP++(u.a5.take i).map (·.name)),true⟩/\(o=gB\/cS.next<=o)/\cS.next<=t.next/\(∀b,b<cS.next->b≠gB->t.X b=cS.X b)/\z 132=aw (u.a5.map gp) 3/\z 133=Z u.a5.length/\z 134=Z i) u.a5.length ?_ ?_ 0 c5 cS (hx _) ⟨gB,λ_ _ _=>rfl,by simpa using b9,by simpa using fU,by simpa using nX,.inl rfl,dW _,λ_ _ _=>rfl,pL,qs,qt⟩
  · rintro i z t ak ⟨o,fI,fS,ib,bd,fo,jW,fe,gM,gb,ia⟩ cx bk;have G:u.a5[i]?=some u.a5[i]:=dD ak;have bZ:=g3 (n:=i) (by omega);have bY:(i:Int)<u.a5.length:=(by omega);have oa:z 1=cF 0:=(fI 1 (by decide) (by decide)).trans bl;have aO:t.X 0=some ⟨aU u,true⟩:=(by rw[fe 0 s8 (Ne.symm tj)];exact nW);have fW:=bn aO;have cp:=bn bd;have iG:o≠0:=(by rcases fo with rfl|bN<;>omega);obtain⟨jL,lu⟩: ∃c,c=ey (bP++(u.a5.take i).map (·.name)):=⟨_,rfl⟩;rw[<-lu]at bd;have fw:jL.length=bP.length+i:=(by rw[lu,Dg,jI,jg,oZ];omega);have kX:jL.take (bP.length+i)=jL:=jh (by omega);have fO:(bP.length+i+1)*16<=140737488355328/\bP.length+i<=9223372036854775806:=(by omega);have jA:jL++[fQ u.a5[i].name]=ey (bP++(u.a5.take (i+1)).map (·.name)):=(by rw[mS G,tL,<-D0,ln,wV,Au,lu]);have j4:IntKind.i64.wrap ((u.bf.length:Int)-1)=(u.bf.length:Int)-1:=fx (by omega) (by have:=h.eJ;omega);have wN:IntKind.i64.wrap ((u.a1.length:Int)-1)=(u.a1.length:Int)-1:=fx (by omega) (by have:=h.js;omega);have hb:=Ei (p:=(ko u.bf.length u.a1)) (b:=dA) G;obtain⟨aX,cK⟩: ∃aX,aX=(dA&&(u.a5.take i).all (ko u.bf.length u.a1)):=⟨_,rfl⟩;rw[<-cK]at fS hb;cases aX
    · skip
      simp(disch:=first|omega|simp only[DI.ab];omega) [xN,zX,CN,CO,gp,fS,ib,gM,gb,ia,bd,bY,bZ,fw,kX,fO,-O,-U,-N,-S,-List.map_map];refine bk _ _ ⟨t.next+4+4,λk aa ay=>jw (b:=z k) (ez (d:=5) ?_ ?_ ?_ ?_ ?_ ?_ k aa ay) (fI k aa ay),?_,?_,?_,.inr (by omega),?_,λb hb dK=> ?_,?_,?_,?_⟩
      all_goals first
        |(intro ay;first|(exact absurd rfl ay)|(simp;done))
        |(rw[hb];simp[];done)
        |(rw[<-jA];simp(disch:=first|omega|simp only[DI.ab];omega) [-O,-U,-N,-S,-List.map_map];done)
        | (have l6:b≠o:=by rcases fo with rfl|bN<;>omega
           rw[<-fe b hb dK];simp(disch:=first|omega|simp only[DI.ab];omega) [-O,-U,-N,-S,-List.map_map];done)
        |(simp(disch:=first|omega|simp only[DI.ab];omega) [-O,-U,-N,-S,-List.map_map];done)
        |(simp(disch:=first|omega|simp only[DI.ab];omega) [gM,gb,-O,-U,-N,-S,-List.map_map];done)
        |(simp(disch:=first|omega|simp only[DI.ab];omega) [-O,-U,-N,-S,-List.map_map];omega)
        |(simp;omega)
    · skip
      cases db:dE u.a5[i].model 0 ((u.bf.length:Int)-1)
      · skip
        simp(disch:=first|omega|simp only[DI.ab];omega) [xN,zX,CN,CO,aU,gp,oa,fS,ib,gM,gb,ia,aO,bd,bY,bZ,fw,kX,fO,j4,db,-O,-U,-N,-S,-List.map_map];refine bk _ _ ⟨t.next+4+4,λk aa ay=>jw (b:=z k) (ez (d:=5) ?_ ?_ ?_ ?_ ?_ ?_ k aa ay) (fI k aa ay),?_,?_,?_,.inr (by omega),?_,λb hb dK=> ?_,?_,?_,?_⟩
        all_goals first
          |(intro ay;first|(exact absurd rfl ay)|(simp;done))
          |(rw[hb];simp[ko,db];done)
          |(rw[<-jA];simp(disch:=first|omega|simp only[DI.ab];omega) [-O,-U,-N,-S,-List.map_map];done)
          | (have l6:b≠o:=by rcases fo with rfl|bN<;>omega
             rw[<-fe b hb dK];simp(disch:=first|omega|simp only[DI.ab];omega) [-O,-U,-N,-S,-List.map_map];done)
          |(simp(disch:=first|omega|simp only[DI.ab];omega) [-O,-U,-N,-S,-List.map_map];done)
          |(simp(disch:=first|omega|simp only[DI.ab];omega) [gM,gb,-O,-U,-N,-S,-List.map_map];done)
          |(simp(disch:=first|omega|simp only[DI.ab];omega) [-O,-U,-N,-S,-List.map_map];omega)
          |(simp;omega)
      · skip
        cases dx:dE u.a5[i].tb 0 ((u.a1.length:Int)-1)
        · skip
          simp(disch:=first|omega|simp only[DI.ab];omega) [xN,zX,CN,CO,aU,gp,oa,fS,ib,gM,gb,ia,aO,bd,bY,bZ,fw,kX,fO,j4,wN,db,dx,-O,-U,-N,-S,-List.map_map];refine bk _ _ ⟨t.next+4+4,λk aa ay=>jw (b:=z k) (ez (d:=5) ?_ ?_ ?_ ?_ ?_ ?_ k aa ay) (fI k aa ay),?_,?_,?_,.inr (by omega),?_,λb hb dK=> ?_,?_,?_,?_⟩
          all_goals first
            |(intro ay;first|(exact absurd rfl ay)|(simp;done))
            |(rw[hb];simp[ko,db,dx];done)
            |(rw[<-jA];simp(disch:=first|omega|simp only[DI.ab];omega) [-O,-U,-N,-S,-List.map_map];done)
            | (have l6:b≠o:=by rcases fo with rfl|bN<;>omega
               rw[<-fe b hb dK];simp(disch:=first|omega|simp only[DI.ab];omega) [-O,-U,-N,-S,-List.map_map];done)
            |(simp(disch:=first|omega|simp only[DI.ab];omega) [-O,-U,-N,-S,-List.map_map];done)
            |(simp(disch:=first|omega|simp only[DI.ab];omega) [gM,gb,-O,-U,-N,-S,-List.map_map];done)
            |(simp(disch:=first|omega|simp only[DI.ab];omega) [-O,-U,-N,-S,-List.map_map];omega)
            |(simp;omega)
        · skip
          have yW:=sY.1 dx;obtain⟨aT,dY⟩:=k1 yW.1;have y6:aT<u.a1.length:=(by omega);have l5:(aT:Int)<u.a1.length:=(by omega);have bc:u.a1[aT]?=some u.a1[aT]:=dD y6;have av:Al u.a1 (aT:Int)=decide (u.a1[aT].hn=4):=(by unfold Al;rw[pR,bc]);rw[dY]at dx;by_cases kq:u.a1[aT].hn=4
          · skip
            simp(disch:=first|omega|simp only[DI.ab];omega) [xN,zX,CN,CO,aU,gp,oa,fS,ib,gM,gb,ia,aO,bd,bY,bZ,fw,kX,fO,j4,wN,ef,db,dx,dY,l5,kq,-O,-U,-N,-S,-List.map_map];refine bk _ _ ⟨t.next+4+4,λk aa ay=>jw (b:=z k) (ez (d:=5) ?_ ?_ ?_ ?_ ?_ ?_ k aa ay) (fI k aa ay),?_,?_,?_,.inr (by omega),?_,λb hb dK=> ?_,?_,?_,?_⟩
            all_goals first
              |(intro ay;first|(exact absurd rfl ay)|(simp;done))
              |(rw[hb];simp[ko,av,db,dx,dY,kq];done)
              |(rw[<-jA];simp(disch:=first|omega|simp only[DI.ab];omega) [-O,-U,-N,-S,-List.map_map];done)
              | (have l6:b≠o:=by rcases fo with rfl|bN<;>omega
                 rw[<-fe b hb dK];simp(disch:=first|omega|simp only[DI.ab];omega) [-O,-U,-N,-S,-List.map_map];done)
              |(simp(disch:=first|omega|simp only[DI.ab];omega) [-O,-U,-N,-S,-List.map_map];done)
              |(simp(disch:=first|omega|simp only[DI.ab];omega) [gM,gb,-O,-U,-N,-S,-List.map_map];done)
              |(simp(disch:=first|omega|simp only[DI.ab];omega) [-O,-U,-N,-S,-List.map_map];omega)
              |(simp;omega)
          · skip
            simp(disch:=first|omega|simp only[DI.ab];omega) [xN,zX,CN,CO,aU,gp,oa,fS,ib,gM,gb,ia,aO,bd,bY,bZ,fw,kX,fO,j4,wN,ef,db,dx,dY,l5,kq,-O,-U,-N,-S,-List.map_map];refine bk _ _ ⟨t.next+4+4,λk aa ay=>jw (b:=z k) (ez (d:=5) ?_ ?_ ?_ ?_ ?_ ?_ k aa ay) (fI k aa ay),?_,?_,?_,.inr (by omega),?_,λb hb dK=> ?_,?_,?_,?_⟩
            all_goals first
              |(intro ay;first|(exact absurd rfl ay)|(simp;done))
              |(rw[hb];simp[ko,av,db,dx,dY,kq];done)
              |(rw[<-jA];simp(disch:=first|omega|simp only[DI.ab];omega) [-O,-U,-N,-S,-List.map_map];done)
              | (have l6:b≠o:=by rcases fo with rfl|bN<;>omega
                 rw[<-fe b hb dK];simp(disch:=first|omega|simp only[DI.ab];omega) [-O,-U,-N,-S,-List.map_map];done)
              |(simp(disch:=first|omega|simp only[DI.ab];omega) [-O,-U,-N,-S,-List.map_map];done)
              |(simp(disch:=first|omega|simp only[DI.ab];omega) [gM,gb,-O,-U,-N,-S,-List.map_map];done)
              |(simp(disch:=first|omega|simp only[DI.ab];omega) [-O,-U,-N,-S,-List.map_map];omega)
              |(simp;omega)
  · rintro z t ⟨o,fI,fS,ib,bd,fo,jW,fe,gM,gb,ia⟩;rw[kj]at bd fS;simp(disch:=first|omega|simp only[DI.ab];omega) [xN,zX,gb,ia,-O,-U,-N,-S,-List.map_map];refine bT _ _ o (λk aa ay=>jw (b:=z k) (ez (d:=5) ?_ ?_ ?_ ?_ ?_ ?_ k aa ay) (fI k aa ay)) ?_ ?_ bd fo jW fe
    all_goals first
      |(intro ay;simp;done)
      |(simp[fS];done)
      |(simp[ib];done)
theorem ay0{u:bm}(h:bm.fD u){c5:aM}{cS:W}{gB:Nat}{bP:List ByteArray}{dA:Bool}(k9:bP.length<=10000)(nW:cS.X 0=some ⟨aU u,true⟩)(nX:cS.X gB=some ⟨ey bP,true⟩)(tj:gB≠0)(bl:c5 1=cF 0)(fU:c5 6= .slice (some ⟨gB,0,none⟩) bP.length 1)(b9:c5 8= .bool dA)
    (pL:c5 174=aw (u.cI.map fi) 17) (qs:c5 175=Z u.cI.length) (qt:c5 176=Z 0) {Q:du->aM->W->Prop}
    (bT: ∀z t o,(∀k∈lk,k≠6->z k=c5 k)->z 8= .bool (dA&&u.cI.all (ie · u.bf.length))->z 6= .slice (some ⟨o,0,none⟩) (bP.length+u.cI.length) 1->t.X o=some ⟨ey (bP++u.cI.map (·.name)),true⟩->(o=gB\/cS.next<=o)->cS.next<=t.next->(∀b,b<cS.next->b≠gB->t.X b=cS.X b)->Q (.bh 8) z t):fl al (.loop CQ) c5 cS Q:=by
  have s8:=bn nW;have Hr:=bn nX;have eS:u.cI.length<=1000:=h.we;refine h4 (aB:=⟨[TK u.bf.length (by have:=h.eJ;omega)],[]⟩) (λi z t=> ∃o,(∀k∈lk,k≠6->z k=c5 k)/\z 8= .bool (dA&&(u.cI.take i).all (ie · u.bf.length))/\z 6= .slice (some ⟨o,0,none⟩) (bP.length+i) 1/\t.X o=some ⟨ey (bP++(u.cI.take i).map (·.name)),true⟩/\(o=gB\/cS.next<=o)/\cS.next<=t.next/\(∀b,b<cS.next->b≠gB->t.X b=cS.X b)/\z 174=aw (u.cI.map fi) 17/\z 175=Z u.cI.length/\z 176=Z i) u.cI.length ?_ ?_ 0 c5 cS (hx _) ⟨gB,λ_ _ _=>rfl,by simpa using b9,by simpa using fU,by simpa using nX,.inl rfl,dW _,λ_ _ _=>rfl,pL,qs,qt⟩
  · rintro i z t ak ⟨o,fI,fS,ib,bd,fo,jW,fe,gM,gb,ia⟩ cx bk;have G:u.cI[i]?=some u.cI[i]:=dD ak;have bZ:=g3 (n:=i) (by omega);have bY:(i:Int)<u.cI.length:=(by omega);have oa:z 1=cF 0:=(fI 1 (by decide) (by decide)).trans bl;have aO:t.X 0=some ⟨aU u,true⟩:=(by rw[fe 0 s8 (Ne.symm tj)];exact nW);have fW:=bn aO;have cp:=bn bd;have iG:o≠0:=(by rcases fo with rfl|bN<;>omega);obtain⟨jL,lu⟩: ∃c,c=ey (bP++(u.cI.take i).map (·.name)):=⟨_,rfl⟩;rw[<-lu]at bd;have fw:jL.length=bP.length+i:=(by rw[lu,Dg,jI,jg,oZ];omega);have kX:jL.take (bP.length+i)=jL:=jh (by omega);have fO:(bP.length+i+1)*16<=140737488355328/\bP.length+i<=9223372036854775806:=(by omega);have jA:jL++[fQ u.cI[i].name]=ey (bP++(u.cI.take (i+1)).map (·.name)):=(by rw[mS G,tL,<-D0,ln,wV,Au,lu]);have db:=h.cI _ (nv ak);have hb:=Ei (p:=(ie · u.bf.length)) (b:=dA) G;obtain⟨aX,cK⟩: ∃aX,aX=(dA&&(u.cI.take i).all (ie · u.bf.length)):=⟨_,rfl⟩;rw[<-cK]at fS hb;cases aX
    · skip
      simp(disch:=first|omega|simp only[DI.ab];omega) [CQ,G2,LA,LB,fi,fS,ib,gM,gb,ia,bd,bY,bZ,fw,kX,fO,-O,-U,-N,-S,-List.map_map];refine bk _ _ ⟨t.next+4+4,λk aa ay=>jw (b:=z k) (ez (d:=6) ?_ ?_ ?_ ?_ ?_ ?_ k aa ay) (fI k aa ay),?_,?_,?_,.inr (by omega),?_,λb hb dK=> ?_,?_,?_,?_⟩
      all_goals first
        |(intro ay;first|(exact absurd rfl ay)|(simp;done))
        |(rw[hb];simp[];done)
        |(rw[<-jA];simp(disch:=first|omega|simp only[DI.ab];omega) [-O,-U,-N,-S,-List.map_map];done)
        | (have l6:b≠o:=by rcases fo with rfl|bN<;>omega
           rw[<-fe b hb dK];simp(disch:=first|omega|simp only[DI.ab];omega) [-O,-U,-N,-S,-List.map_map];done)
        |(simp(disch:=first|omega|simp only[DI.ab];omega) [-O,-U,-N,-S,-List.map_map];done)
        |(simp(disch:=first|omega|simp only[DI.ab];omega) [gM,gb,-O,-U,-N,-S,-List.map_map];done)
        |(simp(disch:=first|omega|simp only[DI.ab];omega) [-O,-U,-N,-S,-List.map_map];omega)
        |(simp;omega)
    · skip
      cases dx:ie u.cI[i] u.bf.length
      · skip
        simp(disch:=first|omega|simp only[DI.ab];omega) [CQ,G2,LA,LB,aU,fi,oa,fS,ib,gM,gb,ia,aO,bd,bY,bZ,fw,kX,fO,dx,-O,-U,-N,-S,-List.map_map];refine bk _ _ ⟨t.next+4+4,λk aa ay=>jw (b:=z k) (ez (d:=6) ?_ ?_ ?_ ?_ ?_ ?_ k aa ay) (fI k aa ay),?_,?_,?_,.inr (by omega),?_,λb hb dK=> ?_,?_,?_,?_⟩
        all_goals first
          |(intro ay;first|(exact absurd rfl ay)|(simp;done))
          |(rw[hb];simp[dx];done)
          |(rw[<-jA];simp(disch:=first|omega|simp only[DI.ab];omega) [-O,-U,-N,-S,-List.map_map];done)
          | (have l6:b≠o:=by rcases fo with rfl|bN<;>omega
             rw[<-fe b hb dK];simp(disch:=first|omega|simp only[DI.ab];omega) [-O,-U,-N,-S,-List.map_map];done)
          |(simp(disch:=first|omega|simp only[DI.ab];omega) [-O,-U,-N,-S,-List.map_map];done)
          |(simp(disch:=first|omega|simp only[DI.ab];omega) [gM,gb,-O,-U,-N,-S,-List.map_map];done)
          |(simp(disch:=first|omega|simp only[DI.ab];omega) [-O,-U,-N,-S,-List.map_map];omega)
          |(simp;omega)
      · skip
        simp(disch:=first|omega|simp only[DI.ab];omega) [CQ,G2,LA,LB,aU,fi,oa,fS,ib,gM,gb,ia,aO,bd,bY,bZ,fw,kX,fO,dx,-O,-U,-N,-S,-List.map_map];refine bk _ _ ⟨t.next+4+4,λk aa ay=>jw (b:=z k) (ez (d:=6) ?_ ?_ ?_ ?_ ?_ ?_ k aa ay) (fI k aa ay),?_,?_,?_,.inr (by omega),?_,λb hb dK=> ?_,?_,?_,?_⟩
        all_goals first
          |(intro ay;first|(exact absurd rfl ay)|(simp;done))
          |(rw[hb];simp[dx];done)
          |(rw[<-jA];simp(disch:=first|omega|simp only[DI.ab];omega) [-O,-U,-N,-S,-List.map_map];done)
          | (have l6:b≠o:=by rcases fo with rfl|bN<;>omega
             rw[<-fe b hb dK];simp(disch:=first|omega|simp only[DI.ab];omega) [-O,-U,-N,-S,-List.map_map];done)
          |(simp(disch:=first|omega|simp only[DI.ab];omega) [-O,-U,-N,-S,-List.map_map];done)
          |(simp(disch:=first|omega|simp only[DI.ab];omega) [gM,gb,-O,-U,-N,-S,-List.map_map];done)
          |(simp(disch:=first|omega|simp only[DI.ab];omega) [-O,-U,-N,-S,-List.map_map];omega)
          |(simp;omega)
  · rintro z t ⟨o,fI,fS,ib,bd,fo,jW,fe,gM,gb,ia⟩;rw[kj]at bd fS;simp(disch:=first|omega|simp only[DI.ab];omega) [CQ,G2,gb,ia,-O,-U,-N,-S,-List.map_map];refine bT _ _ o (λk aa ay=>jw (b:=z k) (ez (d:=6) ?_ ?_ ?_ ?_ ?_ ?_ k aa ay) (fI k aa ay)) ?_ ?_ bd fo jW fe
    all_goals first
      |(intro ay;simp;done)
      |(simp[fS];done)
      |(simp[ib];done)
theorem ay1{u:bm}(h:bm.fD u){c5:aM}{cS:W}{gB:Nat}{bP:List ByteArray}{dA:Bool}(k9:bP.length<=10000)(nW:cS.X 0=some ⟨aU u,true⟩)(nX:cS.X gB=some ⟨ey bP,true⟩)(tj:gB≠0)(bl:c5 1=cF 0)(fU:c5 7= .slice (some ⟨gB,0,none⟩) bP.length 1)(b9:c5 8= .bool dA)
    (pL:c5 195=aw (u.cM.map hQ) 2) (qs:c5 196=Z u.cM.length) (qt:c5 197=Z 0) {Q:du->aM->W->Prop}
    (bT: ∀z t o,(∀k∈lk,k≠7->z k=c5 k)->z 8= .bool (dA&&u.cM.all (nt u.cI.length))->z 7= .slice (some ⟨o,0,none⟩) (bP.length+u.cM.length) 1->t.X o=some ⟨ey (bP++u.cM.map (·.name)),true⟩->(o=gB\/cS.next<=o)->cS.next<=t.next->(∀b,b<cS.next->b≠gB->t.X b=cS.X b)->Q (.bh 10) z t):fl al (.loop CR) c5 cS Q:=by
  have s8:=bn nW;have Hr:=bn nX;have eS:u.cM.length<=1000:=h.wg;refine h4 (aB:=⟨[rg],[]⟩) (λi z t=> ∃o,(∀k∈lk,k≠7->z k=c5 k)/\z 8= .bool (dA&&(u.cM.take i).all (nt u.cI.length))/\z 7= .slice (some ⟨o,0,none⟩) (bP.length+i) 1/\t.X o=some ⟨ey (bP++(u.cM.take i).map (·.name)),true⟩/\(o=gB\/cS.next<=o)/\cS.next<=t.next/\(∀b,b<cS.next->b≠gB->t.X b=cS.X b)/\z 195=aw (u.cM.map hQ) 2/\z 196=Z u.cM.length/\z 197=Z i) u.cM.length ?_ ?_ 0 c5 cS (hx _) ⟨gB,λ_ _ _=>rfl,by simpa using b9,by simpa using fU,by simpa using nX,.inl rfl,dW _,λ_ _ _=>rfl,pL,qs,qt⟩
  · rintro i z t ak ⟨o,fI,fS,ib,bd,fo,jW,fe,gM,gb,ia⟩ cx bk;have G:u.cM[i]?=some u.cM[i]:=dD ak;have bZ:=g3 (n:=i) (by omega);have bY:(i:Int)<u.cM.length:=(by omega);have oa:z 1=cF 0:=(fI 1 (by decide) (by decide)).trans bl;have aO:t.X 0=some ⟨aU u,true⟩:=(by rw[fe 0 s8 (Ne.symm tj)];exact nW);have fW:=bn aO;have cp:=bn bd;have iG:o≠0:=(by rcases fo with rfl|bN<;>omega);obtain⟨jL,lu⟩: ∃c,c=ey (bP++(u.cM.take i).map (·.name)):=⟨_,rfl⟩;rw[<-lu]at bd;have fw:jL.length=bP.length+i:=(by rw[lu,Dg,jI,jg,oZ];omega);have kX:jL.take (bP.length+i)=jL:=jh (by omega);have fO:(bP.length+i+1)*16<=140737488355328/\bP.length+i<=9223372036854775806:=(by omega);have jA:jL++[fQ u.cM[i].name]=ey (bP++(u.cM.take (i+1)).map (·.name)):=(by rw[mS G,tL,<-D0,ln,wV,Au,lu]);have j4:IntKind.i64.wrap ((u.cI.length:Int)-1)=(u.cI.length:Int)-1:=fx (by omega) (by have:=h.we;omega);have hb:=Ei (p:=(nt u.cI.length)) (b:=dA) G;obtain⟨aX,cK⟩: ∃aX,aX=(dA&&(u.cM.take i).all (nt u.cI.length)):=⟨_,rfl⟩;rw[<-cK]at fS hb;cases aX
    · skip
      simp(disch:=first|omega|simp only[DI.ab];omega) [CR,G3,LC,LD,hQ,fS,ib,gM,gb,ia,bd,bY,bZ,fw,kX,fO,-O,-U,-N,-S,-List.map_map];refine bk _ _ ⟨t.next+4+4,λk aa ay=>jw (b:=z k) (ez (d:=7) ?_ ?_ ?_ ?_ ?_ ?_ k aa ay) (fI k aa ay),?_,?_,?_,.inr (by omega),?_,λb hb dK=> ?_,?_,?_,?_⟩
      all_goals first
        |(intro ay;first|(exact absurd rfl ay)|(simp;done))
        |(rw[hb];simp[];done)
        |(rw[<-jA];simp(disch:=first|omega|simp only[DI.ab];omega) [-O,-U,-N,-S,-List.map_map];done)
        | (have l6:b≠o:=by rcases fo with rfl|bN<;>omega
           rw[<-fe b hb dK];simp(disch:=first|omega|simp only[DI.ab];omega) [-O,-U,-N,-S,-List.map_map];done)
        |(simp(disch:=first|omega|simp only[DI.ab];omega) [-O,-U,-N,-S,-List.map_map];done)
        |(simp(disch:=first|omega|simp only[DI.ab];omega) [gM,gb,-O,-U,-N,-S,-List.map_map];done)
        |(simp(disch:=first|omega|simp only[DI.ab];omega) [-O,-U,-N,-S,-List.map_map];omega)
        |(simp;omega)
    · skip
      cases db:dE u.cM[i].pF 0 ((u.cI.length:Int)-1)
      · skip
        simp(disch:=first|omega|simp only[DI.ab];omega) [CR,G3,LC,LD,aU,hQ,oa,fS,ib,gM,gb,ia,aO,bd,bY,bZ,fw,kX,fO,j4,db,-O,-U,-N,-S,-List.map_map];refine bk _ _ ⟨t.next+4+4,λk aa ay=>jw (b:=z k) (ez (d:=7) ?_ ?_ ?_ ?_ ?_ ?_ k aa ay) (fI k aa ay),?_,?_,?_,.inr (by omega),?_,λb hb dK=> ?_,?_,?_,?_⟩
        all_goals first
          |(intro ay;first|(exact absurd rfl ay)|(simp;done))
          |(rw[hb];simp[nt,db];done)
          |(rw[<-jA];simp(disch:=first|omega|simp only[DI.ab];omega) [-O,-U,-N,-S,-List.map_map];done)
          | (have l6:b≠o:=by rcases fo with rfl|bN<;>omega
             rw[<-fe b hb dK];simp(disch:=first|omega|simp only[DI.ab];omega) [-O,-U,-N,-S,-List.map_map];done)
          |(simp(disch:=first|omega|simp only[DI.ab];omega) [-O,-U,-N,-S,-List.map_map];done)
          |(simp(disch:=first|omega|simp only[DI.ab];omega) [gM,gb,-O,-U,-N,-S,-List.map_map];done)
          |(simp(disch:=first|omega|simp only[DI.ab];omega) [-O,-U,-N,-S,-List.map_map];omega)
          |(simp;omega)
      · skip
        simp(disch:=first|omega|simp only[DI.ab];omega) [CR,G3,LC,LD,aU,hQ,oa,fS,ib,gM,gb,ia,aO,bd,bY,bZ,fw,kX,fO,j4,db,-O,-U,-N,-S,-List.map_map];refine bk _ _ ⟨t.next+4+4,λk aa ay=>jw (b:=z k) (ez (d:=7) ?_ ?_ ?_ ?_ ?_ ?_ k aa ay) (fI k aa ay),?_,?_,?_,.inr (by omega),?_,λb hb dK=> ?_,?_,?_,?_⟩
        all_goals first
          |(intro ay;first|(exact absurd rfl ay)|(simp;done))
          |(rw[hb];simp[nt,db];done)
          |(rw[<-jA];simp(disch:=first|omega|simp only[DI.ab];omega) [-O,-U,-N,-S,-List.map_map];done)
          | (have l6:b≠o:=by rcases fo with rfl|bN<;>omega
             rw[<-fe b hb dK];simp(disch:=first|omega|simp only[DI.ab];omega) [-O,-U,-N,-S,-List.map_map];done)
          |(simp(disch:=first|omega|simp only[DI.ab];omega) [-O,-U,-N,-S,-List.map_map];done)
          |(simp(disch:=first|omega|simp only[DI.ab];omega) [gM,gb,-O,-U,-N,-S,-List.map_map];done)
          |(simp(disch:=first|omega|simp only[DI.ab];omega) [-O,-U,-N,-S,-List.map_map];omega)
          |(simp;omega)
  · rintro z t ⟨o,fI,fS,ib,bd,fo,jW,fe,gM,gb,ia⟩;rw[kj]at bd fS;simp(disch:=first|omega|simp only[DI.ab];omega) [CR,G3,gb,ia,-O,-U,-N,-S,-List.map_map];refine bT _ _ o (λk aa ay=>jw (b:=z k) (ez (d:=7) ?_ ?_ ?_ ?_ ?_ ?_ k aa ay) (fI k aa ay)) ?_ ?_ bd fo jW fe
    all_goals first
      |(intro ay;simp;done)
      |(simp[fS];done)
      |(simp[ib];done)
structure e5(u:bm)(b:Bool)(c7:Nat->Nat)(b5:Nat->List ByteArray)(z:aM)(t:W):Prop where
  bl:z 1=cF 0
  b9:z 8= .bool b
  aO:t.X 0=some ⟨aU u,true⟩
  mO: ∀k,3<=k->k<=7->z k= .slice (some ⟨c7 k,0,none⟩) (b5 k).length 1
  g: ∀k,3<=k->k<=7->t.X (c7 k)=some ⟨ey (b5 k),true⟩
  inj: ∀i j,3<=i->i<=7->3<=j->j<=7->c7 i=c7 j->i=j
  nh: ∀k,3<=k->k<=7->c7 k≠0
theorem e5.ka{u:bm}{b:Bool}{c7:Nat->Nat}{b5:Nat->List ByteArray}{z ae:aM}{t:W}(h:e5 u b c7 b5 z t)(hA:ae 8=z 8)(M: ∀k∈lk,k≠0->ae k=z k):e5 u b c7 b5 ae t:=
  ⟨(M 1 (by decide) (by decide)).trans h.bl,hA.trans h.b9,h.aO,λk D H=>by have:k=3\/k=4\/k=5\/k=6\/k=7:=(by omega);have av:k∈lk:=(by rcases this with rfl|rfl|rfl|rfl|rfl<;>decide);exact(M k av (by omega)).trans (h.mO k D H),h.g,h.inj,h.nh⟩
theorem e5.step{u:bm}{dA dk:Bool}{c7:Nat->Nat}{b5:Nat->List ByteArray}{c5 z:aM}{cS t:W}(h:e5 u dA c7 b5 c5 cS)(d:Nat)(aq:3<=d)(fB:d<=7){o:Nat}{h7:List ByteArray}{n:Nat}(au:h7.length=n)
    (fI: ∀k∈lk,k≠d->z k=c5 k) (hA:z 8= .bool dk) (fU:z d= .slice (some ⟨o,0,none⟩) ((b5 d).length+n) 1) (bd:t.X o=some ⟨ey (b5 d++h7),true⟩) (fo:o=c7 d\/cS.next<=o) (jW:cS.next<=t.next) (fe: ∀b,b<cS.next->b≠c7 d->t.X b=cS.X b):
    e5 u dk (dL c7 d o) (dL b5 d (b5 d++h7)) z t:=by
  have c2: ∀k,3<=k->k<=7->c7 k<cS.next:= λk a b=>bn (h.g k a b)
  have fW:=bn h.aO;refine⟨(fI 1 (by decide) (by omega)).trans h.bl,hA,?_,λk a b=> ?_,λk a b=> ?_,λi j a b c e bb=> ?_,λk a b=> ?_⟩
  · rw[fe 0 fW (Ne.symm (h.nh d aq fB))];exact h.aO
  · by_cases e:k=d
    · subst e;rw[rl,rl,fU,jI,au]
    · rw[ns e,ns e];have:k=3\/k=4\/k=5\/k=6\/k=7:=(by omega);have av:k∈lk:=(by rcases this with rfl|rfl|rfl|rfl|rfl<;>decide);exact(fI k av e).trans (h.mO k a b)
  · by_cases e:k=d
    · subst e;rw[rl,rl];exact bd
    · rw[ns e,ns e,fe _ (c2 k a b) (λbb=>e (h.inj k d a b aq fB bb))];exact h.g k a b
  · by_cases aK:i=d
    · by_cases aR:j=d
      · omega
      · rw[aK,rl,ns aR]at bb;rcases fo with bN|bN
        · rw[bN]at bb;have:=h.inj d j aq fB c e bb;omega
        · have:=c2 j c e;omega
    · by_cases aR:j=d
      · rw[aR,rl,ns aK]at bb;rcases fo with bN|bN
        · rw[bN]at bb;have:=h.inj i d a b aq fB bb;omega
        · have:=c2 i a b;omega
      · rw[ns aK,ns aR]at bb;exact h.inj i j a b c e bb
  · by_cases e:k=d
    · subst e;rw[rl];rcases fo with bN|bN
      · rw[bN];exact h.nh k a b
      · omega
    · rw[ns e];exact h.nh k a b
theorem afZ{u:bm}{c:J}{z:aM}{t:W}{Q:du->aM->W->Prop}(bl:z 1=cF 0)(b9:z 8= .bool true)(dJ:z 3= .slice none 0 0)(j2:z 4= .slice none 0 0)(ct:z 5= .slice none 0 0)(fu:z 6= .slice none 0 0)(eV:z 7= .slice none 0 0)
    (aO:t.X 0=some ⟨aU u,true⟩) (h: ∀ae aJ c7,e5 u true c7 (λ_=>[]) ae aJ->(∀k,8<k->ae k=z k)->fl al c ae aJ Q):fl al c z t Q:=by
  have fW:=bn aO;obtain⟨dn,Di⟩: ∃dn,t.next=dn:=⟨_,rfl⟩
  refine Iy 3 1 dJ λwJ q5 hy uz=> ?_;refine Iy 4 1 (by simpa using j2) λayC avp jK Ml=> ?_;refine Iy 5 1 (by simpa using ct) λayD aG0 lo Sh=> ?_;refine Iy 6 1 (by simpa using fu) λayE aG1 tT Mm=> ?_;refine Iy 7 1 (by simpa using eV) λNz MF I3 Hm=> ?_;have lq:wJ.next=dn+1:=by omega
  have qF:ayC.next=dn+2:=by omega
  have Vx:ayD.next=dn+3:=by omega
  have Vy:ayE.next=dn+4:=by omega
  rw[Di]at hy;rw[lq]at jK;rw[qF]at lo;rw[Vx]at tT;rw[Vy]at I3;rw[Di,lq,qF,Vx,Vy];refine h _ _ (λk=>dn+(k-3)) ⟨by simpa using bl,by simpa using b9,?_,λk a b=> ?_,λk a b=> ?_,λi j a b c d e=>by omega,λk a b=>by omega⟩ (λk aa=>by simp only[mm,show¬k=3 by omega,show¬k=4 by omega,show¬k=5 by omega,show¬k=6 by omega,show¬k=7 by omega,if_false])
  · rw[Hm 0 (by omega),Mm 0 (by omega),Sh 0 (by omega),Ml 0 (by omega),uz 0 (by omega)];exact aO
  · have:k=3\/k=4\/k=5\/k=6\/k=7:=(by omega);rcases this with rfl|rfl|rfl|rfl|rfl<;>simp
  · have:k=3\/k=4\/k=5\/k=6\/k=7:=(by omega);rcases this with rfl|rfl|rfl|rfl|rfl
    · show Nz.X dn=_;rw[Hm dn (by omega),Mm dn (by omega),Sh dn (by omega),Ml dn (by omega)];exact hy
    · show Nz.X (dn+1)=_;rw[Hm _ (by omega),Mm _ (by omega),Sh _ (by omega)];exact jK
    · show Nz.X (dn+2)=_;rw[Hm _ (by omega),Mm _ (by omega)];exact lo
    · show Nz.X (dn+3)=_;rw[Hm _ (by omega)];exact tT
    · exact I3
noncomputable def gg(u:bm):Bool:=dE u.ext 1 4&&(decide (u.cH.length<=4)&&(decide (u.bf.length<=4)&&(decide (u.a1.length<=40)&&(decide (u.a5.length<=24)&&(decide (u.cI.length<=4)&&(decide (u.cM.length<=12)&&(nz u.a1&&(u.cH.all hX.mi&&(u.bf.all (ky u.cH.length)&&(u.a5.all (ko u.bf.length u.a1)&&(u.cI.all (ie · u.bf.length)&&(u.cM.all (nt u.cI.length)&&(eh (u.cH.map (·.name))&&(eh (u.bf.map (·.name))&&(eh (u.a1.tail.map (·.name)++u.a5.map (·.name))&&(eh (u.cI.map (·.name))&&eh (u.cM.map (·.name))))))))))))))))))
theorem Ul{u:bm}(h:bm.fD u):bK al 62 [.agg (aU u).toArray] (Z (if gg u then 0 else 1)):=by
  refine et (dM (aB:=⟨[rg,TI u h,TH],[]⟩) asg (by kernel_rfl) (by simp[s0]) ?_);cases D:dE u.ext 1 4
  · have aS:gg u=false:=(by simp[gg,D]);simp(disch:=first|omega|simp only[DI.ab];omega) [s0,uo,uq,aU,D,aS,-O,-U,-N,-S,-List.map_map]
  by_cases jT:(4:Int)<u.cH.length
  · have aS:gg u=false:=by
      have: ¬u.cH.length<=4:=(by omega);simp[gg,this]
    simp(disch:=first|omega|simp only[DI.ab];omega) [s0,uo,uq,aU,D,jT,aS,-O,-U,-N,-S,-List.map_map]
  have fW:u.cH.length<=4:=by omega
  by_cases ch:(4:Int)<u.bf.length
  · have aS:gg u=false:=by
      have: ¬u.bf.length<=4:=(by omega);simp[gg,this]
    simp(disch:=first|omega|simp only[DI.ab];omega) [s0,uo,uq,aU,D,jT,ch,aS,-O,-U,-N,-S,-List.map_map]
  have jo:u.bf.length<=4:=by omega
  by_cases c6:(40:Int)<u.a1.length
  · have aS:gg u=false:=by
      have: ¬u.a1.length<=40:=(by omega);simp[gg,this]
    simp(disch:=first|omega|simp only[DI.ab];omega) [s0,uo,uq,aU,D,jT,ch,c6,aS,-O,-U,-N,-S,-List.map_map]
  have jq:u.a1.length<=40:=by omega
  by_cases iq:(24:Int)<u.a5.length
  · have aS:gg u=false:=by
      have: ¬u.a5.length<=24:=(by omega);simp[gg,this]
    simp(disch:=first|omega|simp only[DI.ab];omega) [s0,uo,uq,aU,D,jT,ch,c6,iq,aS,-O,-U,-N,-S,-List.map_map]
  have adt:u.a5.length<=24:=by omega
  by_cases iS:(4:Int)<u.cI.length
  · have aS:gg u=false:=by
      have: ¬u.cI.length<=4:=(by omega);simp[gg,this]
    simp(disch:=first|omega|simp only[DI.ab];omega) [s0,uo,uq,aU,D,jT,ch,c6,iq,iS,aS,-O,-U,-N,-S,-List.map_map]
  have aup:u.cI.length<=4:=by omega
  by_cases l2:(12:Int)<u.cM.length
  · have aS:gg u=false:=by
      have: ¬u.cM.length<=12:=(by omega);simp[gg,this]
    simp(disch:=first|omega|simp only[DI.ab];omega) [s0,uo,uq,aU,D,jT,ch,c6,iq,iS,l2,aS,-O,-U,-N,-S,-List.map_map]
  have Hp:u.cM.length<=12:=by omega
  cases ay:nz u.a1
  · have aS:gg u=false:=(by simp[gg,ay]);simp(disch:=first|omega|simp only[DI.ab];omega) [s0,uo,uq,aU,D,jT,ch,c6,iq,iS,l2,ay,aS,-O,-U,-N,-S,-List.map_map]
  obtain⟨R,ds,iu⟩: ∃R ds,u.a1=R::ds:=by
    cases bc:u.a1 with
    |nil=>rw[bc]at ay;cases ay
    |cons R ds=>exact⟨R,ds,rfl⟩
  have xo:ds.length<=1000:=by rw[iu]at jq;simp at jq;omega
  simp(disch:=first|omega|simp only[DI.ab];omega) [s0,uo,uq,acE,acG,acH,aU,D,jT,ch,c6,iq,iS,l2,ay,-O,-U,-N,-S,-List.map_map];refine afZ (u:=u) (by simp) (by simp) (by simp) (by simp) (by simp) (by simp) (by simp) (by simp(disch:=first|omega|simp only[DI.ab];omega) [aU,-O,-U,-N,-S,-List.map_map]) λz t c7 ai aa=> ?_;have pL:=aa 67 (by decide);have qs:=aa 68 (by decide);have qt:=aa 69 (by decide);refine ayW h (bP:=[]) (by simp) ai.aO (ai.g 3 (by decide) (by decide)) (ai.nh 3 (by decide) (by decide)) ai.bl (ai.mO 3 (by decide) (by decide)) ai.b9 (by rw[pL];simp) (by rw[qs];simp) (by rw[qt];simp) λbI bF ik a3 tn br bX e1 fY nL=> ?_;have ai:=e5.step ai 3 (by decide) (by decide) (h7:=u.cH.map (·.name)) (by simp) a3 tn br bX e1 fY nL;simp(disch:=first|omega|simp only[DI.ab];omega) [acI,aU,ai.bl,ai.aO,-O,-U,-N,-S,-List.map_map];refine ayX h (bP:=_) (by simp[dL]) ai.aO (ai.g 4 (by decide) (by decide)) (ai.nh 4 (by decide) (by decide)) (by simp[ai.bl]) (by simp[ai.mO 4 (by decide) (by decide)]) (jw (by simp) ai.b9) (by simp) (by simp) (by simp) λdj iH j0 a3 tn br bX e1 fY nL=> ?_;have ai:=e5.step (ai.ka (by simp) (ez (d:=0) (λ_=>by simp) (λ_=>by simp) (λ_=>by simp) (λ_=>by simp) (λ_=>by simp) (λ_=>by simp))) 4 (by decide) (by decide) (h7:=u.bf.map (·.name)) (by simp) a3 tn br bX e1 fY nL;have OF:(List.take u.a1.length (u.a1.map ef)).tail=ds.map ef:=by rw[jh (by simp),iu];rfl
  have OG:u.a1.length-1=ds.length:=by rw[iu];rfl
  have ajs:1<=u.a1.length:=by rw[iu];simp
  have PA:(1:Int)<=u.a1.length:=by omega
  simp(disch:=first|omega|simp only[DI.ab];omega) [acA,aU,ai.bl,ai.aO,PA,-O,-U,-N,-S,-List.map_map];rw[OF,OG];refine ayY h xo (bP:=_) (by simp[dL]) ai.aO (ai.g 5 (by decide) (by decide)) (ai.nh 5 (by decide) (by decide)) (by simp[ai.bl]) (by simp[ai.mO 5 (by decide) (by decide)]) (jw (by simp) ai.b9) (by simp) (by simp) (by simp) λwW NA SM a3 tn br bX e1 fY nL=> ?_;have ai:=e5.step (ai.ka (by simp) (ez (d:=0) (λ_=>by simp) (λ_=>by simp) (λ_=>by simp) (λ_=>by simp) (λ_=>by simp) (λ_=>by simp))) 5 (by decide) (by decide) (h7:=ds.map (·.name)) (by simp) a3 tn br bX e1 fY nL;simp(disch:=first|omega|simp only[DI.ab];omega) [acC,aU,ai.bl,ai.aO,-O,-U,-N,-S,-List.map_map];refine ayZ h (bP:=_) (by simp[dL]<;>omega) ai.aO (ai.g 5 (by decide) (by decide)) (ai.nh 5 (by decide) (by decide)) (by simp[ai.bl]) (by simp[ai.mO 5 (by decide) (by decide)]) (jw (by simp) ai.b9) (by simp) (by simp) (by simp) λN6 afs avN a3 tn br bX e1 fY nL=> ?_;have ai:=e5.step (ai.ka (by simp) (ez (d:=0) (λ_=>by simp) (λ_=>by simp) (λ_=>by simp) (λ_=>by simp) (λ_=>by simp) (λ_=>by simp))) 5 (by decide) (by decide) (h7:=u.a5.map (·.name)) (by simp) a3 tn br bX e1 fY nL;simp(disch:=first|omega|simp only[DI.ab];omega) [acD,aU,ai.bl,ai.aO,-O,-U,-N,-S,-List.map_map];refine ay0 h (bP:=_) (by simp[dL]) ai.aO (ai.g 6 (by decide) (by decide)) (ai.nh 6 (by decide) (by decide)) (by simp[ai.bl]) (by simp[ai.mO 6 (by decide) (by decide)]) (jw (by simp) ai.b9) (by simp) (by simp) (by simp) λaNw aft aHj a3 tn br bX e1 fY nL=> ?_;have ai:=e5.step (ai.ka (by simp) (ez (d:=0) (λ_=>by simp) (λ_=>by simp) (λ_=>by simp) (λ_=>by simp) (λ_=>by simp) (λ_=>by simp))) 6 (by decide) (by decide) (h7:=u.cI.map (·.name)) (by simp) a3 tn br bX e1 fY nL;simp(disch:=first|omega|simp only[DI.ab];omega) [acF,aU,ai.bl,ai.aO,-O,-U,-N,-S,-List.map_map];refine ay1 h (bP:=_) (by simp[dL]) ai.aO (ai.g 7 (by decide) (by decide)) (ai.nh 7 (by decide) (by decide)) (by simp[ai.bl]) (by simp[ai.mO 7 (by decide) (by decide)]) (jw (by simp) ai.b9) (by simp) (by simp) (by simp) λD2 wJ aHk a3 tn br bX e1 fY nL=> ?_;have ai:=e5.step (ai.ka (by simp) (ez (d:=0) (λ_=>by simp) (λ_=>by simp) (λ_=>by simp) (λ_=>by simp) (λ_=>by simp) (λ_=>by simp))) 7 (by decide) (by decide) (h7:=u.cM.map (·.name)) (by simp) a3 tn br bX e1 fY nL;obtain⟨aX,cK⟩: ∃aX,D2 8= .bool aX/\aX=(u.cH.all hX.mi&&(u.bf.all (ky u.cH.length)&&(u.a5.all (ko u.bf.length u.a1)&&(u.cI.all (ie · u.bf.length)&&u.cM.all (nt u.cI.length))))):=⟨_,ai.b9,by simp[yJ]⟩;obtain⟨b9,cK⟩:=cK;have ad:gg u=(aX&&(eh (u.cH.map (·.name))&&(eh (u.bf.map (·.name))&&(eh (ds.map (·.name)++u.a5.map (·.name))&&(eh (u.cI.map (·.name))&&eh (u.cM.map (·.name))))))):=by rw[cK];simp[gg,D,fW,jo,jq,adt,aup,Hp,ay,yJ];rw[iu];rfl
  obtain⟨hL,D6,mf,cD,cB⟩: ∃o L,D2 3= .slice (some ⟨o,0,none⟩) L.length 1/\wJ.X o=some ⟨ey L,true⟩/\L=u.cH.map (·.name):=⟨_,_,ai.mO 3 (by decide) (by decide),ai.g 3 (by decide) (by decide),by simp[dL]⟩;have oe:D6.length<1000000:=by rw[cB];simp<;>omega
  obtain⟨y0,y1,y2⟩:=Dh (l:=D6) (n:=D6.length) rfl;obtain⟨aC4,J1⟩: ∃c,c=ey D6:=⟨_,rfl⟩;rw[<-J1]at cD y0 y1 y2;rw[<-cB]at ad;clear cB;obtain⟨jb,D7,wa,dI,gX⟩: ∃o L,D2 4= .slice (some ⟨o,0,none⟩) L.length 1/\wJ.X o=some ⟨ey L,true⟩/\L=u.bf.map (·.name):=⟨_,_,ai.mO 4 (by decide) (by decide),ai.g 4 (by decide) (by decide),by simp[dL]⟩;have NK:D7.length<1000000:=by rw[gX];simp<;>omega
  obtain⟨BE,BF,BG⟩:=Dh (l:=D7) (n:=D7.length) rfl;obtain⟨aC5,qR⟩: ∃c,c=ey D7:=⟨_,rfl⟩;rw[<-qR]at dI BE BF BG;rw[<-gX]at ad;clear gX;obtain⟨uH,D8,Da,gi,mx⟩: ∃o L,D2 5= .slice (some ⟨o,0,none⟩) L.length 1/\wJ.X o=some ⟨ey L,true⟩/\L=ds.map (·.name)++u.a5.map (·.name):=⟨_,_,ai.mO 5 (by decide) (by decide),ai.g 5 (by decide) (by decide),by simp[dL]⟩;have afG:D8.length<1000000:=by rw[mx];simp<;>omega
  obtain⟨ET,EU,EV⟩:=Dh (l:=D8) (n:=D8.length) rfl;obtain⟨aC6,ai9⟩: ∃c,c=ey D8:=⟨_,rfl⟩;rw[<-ai9]at gi ET EU EV;rw[<-mx]at ad;clear mx;obtain⟨HI,D9,x5,fj,kp⟩: ∃o L,D2 6= .slice (some ⟨o,0,none⟩) L.length 1/\wJ.X o=some ⟨ey L,true⟩/\L=u.cI.map (·.name):=⟨_,_,ai.mO 6 (by decide) (by decide),ai.g 6 (by decide) (by decide),by simp[dL]⟩;have aME:D9.length<1000000:=by rw[kp];simp<;>omega
  obtain⟨JL,JM,JN⟩:=Dh (l:=D9) (n:=D9.length) rfl;obtain⟨aC7,aja⟩: ∃c,c=ey D9:=⟨_,rfl⟩;rw[<-aja]at fj JL JM JN;rw[<-kp]at ad;clear kp;obtain⟨aHG,Ea,adz,rI,qK⟩: ∃o L,D2 7= .slice (some ⟨o,0,none⟩) L.length 1/\wJ.X o=some ⟨ey L,true⟩/\L=u.cM.map (·.name):=⟨_,_,ai.mO 7 (by decide) (by decide),ai.g 7 (by decide) (by decide),by simp[dL]⟩;have aMG:Ea.length<1000000:=by rw[qK];simp<;>omega
  obtain⟨OX,OY,OZ⟩:=Dh (l:=Ea) (n:=Ea.length) rfl;obtain⟨aC8,ajb⟩: ∃c,c=ey Ea:=⟨_,rfl⟩;rw[<-ajb]at rI OX OY OZ;rw[<-qK]at ad;clear qK;cases aX
  · have aS:gg u=false:=(by rw[ad];rfl);simp(disch:=first|omega|simp only[DI.ab];omega) [xK,xL,aS,b9,-O,-U,-N,-S,-List.map_map]
  cases tA:eh D6
  · have aS:gg u=false:=(by rw[ad];simp[tA]);simp(disch:=first|omega|simp only[DI.ab];omega) [xK,xL,aS,tA,b9,mf,cD,y0,y1,y2,qM,ql,-O,-U,-N,-S,-List.map_map]
  cases wM:eh D7
  · have aS:gg u=false:=(by rw[ad];simp[wM]);simp(disch:=first|omega|simp only[DI.ab];omega) [xK,xL,aS,wM,tA,b9,mf,cD,y0,y1,y2,wa,dI,BE,BF,BG,qM,ql,-O,-U,-N,-S,-List.map_map]
  cases DS:eh D8
  · have aS:gg u=false:=(by rw[ad];simp[DS]);simp(disch:=first|omega|simp only[DI.ab];omega) [xK,xL,aS,DS,tA,wM,b9,mf,cD,y0,y1,y2,wa,dI,BE,BF,BG,Da,gi,ET,EU,EV,qM,ql,-O,-U,-N,-S,-List.map_map]
  cases Iu:eh D9
  · have aS:gg u=false:=(by rw[ad];simp[Iu]);simp(disch:=first|omega|simp only[DI.ab];omega) [xK,xL,aS,Iu,tA,wM,DS,b9,mf,cD,y0,y1,y2,wa,dI,BE,BF,BG,Da,gi,ET,EU,EV,x5,fj,JL,JM,JN,qM,ql,-O,-U,-N,-S,-List.map_map]
  cases NM:eh Ea
  · have aS:gg u=false:=(by rw[ad];simp[NM]);simp(disch:=first|omega|simp only[DI.ab];omega) [xK,xL,aS,NM,tA,wM,DS,Iu,b9,mf,cD,y0,y1,y2,wa,dI,BE,BF,BG,Da,gi,ET,EU,EV,x5,fj,JL,JM,JN,adz,rI,OX,OY,OZ,qM,ql,-O,-U,-N,-S,-List.map_map]
  have aS:gg u=true:=by rw[ad];simp[tA,wM,DS,Iu,NM]
  simp(disch:=first|omega|simp only[DI.ab];omega) [xK,xL,aS,tA,wM,DS,Iu,NM,b9,mf,cD,y0,y1,y2,wa,dI,BE,BF,BG,Da,gi,ET,EU,EV,x5,fj,JL,JM,JN,adz,rI,OX,OY,OZ,qM,ql,-O,-U,-N,-S,-List.map_map]
end Go.Proofs.YtmmkkggfmigppaaGreat
namespace Go.DI
open Go
section
variable {P:Program} {u:fz} {K:eC} {t m an:W}
theorem dN.Sx(M:dN K u t m)(au:m.next<=an.next)(h: ∀b,(∃o,K o=some b)\/u b≠none->an.X b=m.X b/\an.mp b=m.mp b):dN K u t an where
  hK o x G:=by
    rcases M.hK o x G with⟨b,cs,w,D,H,aq,aE⟩|D
    · exact .inl ⟨b,cs,w,D,by rw[(h b (.inl ⟨o,D⟩)).1];exact H,aq,aE⟩
    · exact .inr D
  maps o a9 bb:=by obtain⟨b,c1,D,H,aq⟩:=M.maps o a9 bb;obtain⟨aQ,a7⟩:=h b (.inl ⟨o,D⟩);obtain⟨ec,gY⟩:=hR H;exact⟨b,c1,D,jM (by rw[aQ];exact ec) (by rw[a7];exact gY),aq⟩
  h3:=M.h3
  inj:=M.inj
  c2 o b hb:=⟨(M.c2 o b hb).1,oY (M.c2 o b hb).2 au⟩
  bA b cs hb:=by obtain⟨⟨w,D⟩,H⟩:=M.bA b cs hb;exact⟨⟨w,by rw[(h b (.inr (by rw[hb];simp))).1];exact D⟩,H⟩
theorem eD.Sx{cz:eC}{cr:fz}{aJ bg dH:W}{gE hg:Nat}(h:eD gE hg K u t m cz cr aJ bg)(au:bg.next<=dH.next)(aF: ∀b,b<hg->dH.X b=bg.X b):eD gE hg K u t m cz cr aJ dH:=
  ⟨h.e,h.f,h.iJ,h.fn,h.je,kZ h.jE au,λb hb aZ=>by rw[aF b hb];exact h.la b hb aZ,h.nu,h.mX⟩
end
end Go.DI
namespace Go.Proofs.YtmmkkggfmigppaaGreat
open Go Go.DI Go.Big
noncomputable def m1(l:List ByteArray)(s:ByteArray):Bool:=ng s&&(ly s l).isNone
theorem JK{l:List ByteArray}{s:ByteArray}:m1 l s=if ng s then decide (xB s l<0)else false:=by unfold m1 xB;cases ng s<;>cases h:ly s l<;>simp
def ags(m:W)(bo:Value)(l:List ByteArray):Prop:=(∃b,bo= .slice (some ⟨b,0,none⟩) l.length 1/\m.X b=some ⟨ey l,true⟩)\/(bo= .slice none 0 0/\l=[])
theorem yb{l:List ByteArray}:ey l=l.map fQ:=by
  unfold ey;induction l with
  |nil=>rfl
  |cons x l cc=>rw[ln,rp,cc];rfl
theorem SK{l:List ByteArray}:(ey l).length=l.length:=by rw[yb,jg]
theorem avD{l:List ByteArray}{i:Nat}{s:ByteArray}(h:l[i]?=some s):(ey l)[i]?=some (fQ s):=by rw[yb,qy,h];rfl
theorem XZ{m:W}{bo:Value}{l:List ByteArray}{s:ByteArray}(aS:(∃b w,bo= .slice (some ⟨b,0,none⟩) l.length 1/\m.X b=some ⟨ey l,w⟩)\/(bo= .slice none 0 0/\l=[]))(au:l.length<1000000):
    gd al 189 [bo,fQ s] m λr _=>r=Z (xB s l):=by
  rcases aS with⟨b,w,rfl,hb⟩|⟨rfl,rfl⟩
  · have ad:bV (λx=>if x=b then some (ey l)else none) kT (yV l) (.slice (some ⟨b,0,none⟩) l.length 1):=by
      have:=bV.hT (u:= λx=>if x=b then some (ey l)else none) (K:=kT) (v:=yV l) (b:=b) (off:=0) (I:=1) (cs:=ey l) (a8:=l.map λs=>[fQ s]) rfl (by simp) (by simp[SK]) (λi r h=>by
          simp only[qy,rn]at h;obtain⟨_,_,rfl⟩:=h;rfl) (λi j r x y D H aq=>by
          simp only[qy,rn]at D;obtain⟨q,bc,rfl⟩:=D;have b1:j=0:=(by have:=(eB.1 H).1;simpa using this);subst b1;simp at H;subst H;rw[show 0+i*1+0=i by omega,avD bc]at aq;cases aq;exact .cy rfl)
      simpa using this
    refine(X0 au _ m _ (λc cs ar=> ?_) (bj.cons ad (bj.cons (.cy rfl) bj.nil))).b6 λr an h=> ?_
    · split at ar
      · next e=>cases ar;subst e;exact⟨w,hb⟩
      · cases ar
    · obtain⟨_,_,cr,_,_,ad⟩:=h;exact ad.qe
  · refine(X0 au (λ_=>none) m [.slice none 0 0,fQ s] (λc cs ar=>by cases ar) (bj.cons (.hf rfl) (bj.cons (.cy rfl) bj.nil))).b6 λr an h=> ?_;obtain⟨_,_,cr,_,_,ad⟩:=h;exact ad.qe
theorem Wz{m:W}{bo:Value}{l:List ByteArray}{s:ByteArray}(aS:ags m bo l)(au:l.length<1000000):gd al 136 [bo,fQ s] m λr an=>r= .tuple #[.slice (some ⟨m.next+3,0,none⟩) (l.length+1) 1,.bool (m1 l s)]/\
    ∃k,an=((kf ((m.dp 14).a0 (m.next+2) (some ⟨[fQ s],true⟩)) bo).a0 (m.next+3) (some ⟨ey l++[fQ s],true⟩)).dp k:=by
  rw[aht (by simp)];rcases aS with⟨b,rfl,hb⟩|⟨rfl,rfl⟩
  · have auD:=bn hb;have XG:List.take l.length (ey l)=ey l:=jh (by rw[SK];omega);simp(disch:=first|omega|simp only[aW];omega) [Kq,QB];rw[afW];simp(disch:=first|omega|simp only[aW];omega) [mI,DI.pN,hb,SK];refine⟨⟨by omega,by omega⟩,?_⟩;rw[aeM,Ey];cases jV:ng s
    · simp(disch:=first|omega|simp only[aW];omega) [Hq,jV,JK,hb,XG,hk];exact⟨_,rfl⟩
    · simp(disch:=first|omega|simp only[aW];omega) [];refine(XZ (.inl ⟨b,false,rfl,by simp(disch:=first|omega|simp only[aW];omega) [BZ,hb,BY]⟩) au).b6 λr an az=> ?_;subst az;rw[Ey];simp(disch:=first|omega|simp only[aW];omega) [Hq,JK,jV,hb,XG,hk];exact⟨_,rfl⟩
  · simp(disch:=first|omega|simp only[aW];omega) [Kq,QB];rw[afW];simp(disch:=first|omega|simp only[aW];omega) [mI,DI.pN];rw[aeM,Ey];cases jV:ng s
    · simp(disch:=first|omega|simp only[aW];omega) [Hq,jV,JK,yb];exact⟨_,rfl⟩
    · simp(disch:=first|omega|simp only[aW];omega) [];refine(XZ (l:=[]) (.inr ⟨rfl,rfl⟩) au).b6 λr an az=> ?_;subst az;rw[Ey];simp(disch:=first|omega|simp only[aW];omega) [Hq,JK,jV,yb];exact⟨_,rfl⟩
theorem Ws{u:fz}{K:eC}: ∀{xs ys:List Value},bj u K xs ys->(∀x∈xs,∃s,x=fQ s)->ys=xs
  |[],ys,h,_=>pO.1 h.1.symm
  |x::xs,[],h,_=>by have:=h.1;simp at this
  | x::xs,y::ys,h,G=>by obtain⟨s,rfl⟩:=G x (by simp);have cR:=(h.2 0 (fQ s) y rfl rfl).vJ;rw[cR,Ws (xs:=xs) (ys:=ys) ⟨by simpa using h.1,λi a b p q=>h.2 (i+1) a b (by simpa using p) (by simpa using q)⟩ λI bD=>G I (by simp[bD])]
theorem avF{l:List ByteArray}: ∀x∈ey l,∃s,x=fQ s:=by rw[yb];intro x G;obtain⟨s,_,rfl⟩:=g4.1 G;exact⟨s,rfl⟩
def iK(o:Nat)(l:List ByteArray)(s:ByteArray)(t:W):W:=((t.dp 14).a0 o none).a0 t.next (some ⟨ey (l++[s]),true⟩)
theorem aiD{K:eC}{u:fz}{t m bF bg:W}(M:dN K u t m)(D:bF.next=t.next+14)(H:bg.next=m.next+14):DI.qC K u bF bg t.next (m.next+3) where
  e :=by
    cases h:K t.next with
    |none=>rfl
    |some b=>have:=(M.c2 _ _ h).1;omega
  b o h:=by have:=(M.c2 _ _ h).2;omega
  f :=by
    cases h:u (m.next+3)with
    |none=>rfl
    |some cs=>obtain⟨⟨w,g⟩,_⟩:=M.bA _ _ h;have:=bn g;omega
  sh:=by omega
  qi:=by omega
theorem aiE{o:Nat}{l:List ByteArray}{s:ByteArray}{t:W}(au:l.length<1000000)(aC:t.X o=some ⟨ey l,true⟩){cd:Value->W->Prop}
    (jB:cd (.tuple #[.slice (some ⟨t.next,0,none⟩) (l.length+1) 1,.bool (m1 l s)]) (iK o l s t)):fA al 136 [.slice (some ⟨o,0,none⟩) l.length 1,fQ s] t cd:=by
  intro K u e2 m M ax;obtain⟨bo,w,rfl,D,H⟩:=ax.ayO;have aR:=H.vJ;subst aR;have cp:=bn aC;have vG:=Ok M 14;have J9:(t.dp 14).X o=some ⟨ey l,true⟩:=by rw[DI.e6 cp];exact aC
  have WZ:ey (l++[s])=ey l++[fQ s]:=Au;have fC: ∀{K:eC},bj u K (ey (l++[s])) (ey l++[fQ s]):=by rw[WZ,<-WZ,yb];exact bj.cy (by simp[dQ])
  have bQ: ∀c,((∃p,gS K t.next (m.next+3) p=some c)\/u c≠none)->c=m.next+3\/(c<m.next/\((∃p,K p=some c)\/u c≠none)):=by
    rintro c (⟨p,ai⟩|ar)
    · unfold gS at ai;split at ai
      · cases ai;exact .inl rfl
      · exact .inr ⟨(M.c2 _ _ ai).2,.inl ⟨p,ai⟩⟩
    · obtain⟨cs,dv⟩:=Option.ne_none_iff_exists'.1 ar;obtain⟨⟨w,g⟩,_⟩:=M.bA _ _ dv;exact .inr ⟨bn g,.inr ar⟩
  have m0: ∀(ah:W) (k:Nat) (cg:W),ah.next=m.next+14->ah.mp=m.mp->(∀c,c<m.next->cg.X c=ah.X c)->cg.next=ah.next+k->cg.mp=ah.mp->cg.X (m.next+3)=some ⟨ey l++[fQ s],true⟩->
      dN K u ((t.dp 14).a0 o none) ah->DI.eD t.next m.next K u t m K u ((t.dp 14).a0 o none) ah->
      ∃cz cr r aJ,cd r aJ/\dN cz cr aJ cg/\bV cr cz r (.tuple #[.slice (some ⟨m.next+3,0,none⟩) (l.length+1) 1,.bool (m1 l s)])/\DI.eD t.next m.next K u t m cz cr aJ cg:=by
    intro ah k cg aQ a7 cD dI gi fj rI EW;have oA:=aiD (bF:=(t.dp 14).a0 o none) (bg:=ah) M rfl aQ;have a3:=MJ rI oA fC;have br:DI.eD t.next m.next K u t m (gS K t.next (m.next+3)) u (iK o l s t) (ah.a0 (m.next+3) (some ⟨ey l++[fQ s],true⟩)):=EW.trans (ad3 oA (dW _) (by omega))
    refine⟨_,u,_,iK o l s t,jB,a3.Sx (by rw[mg];omega) (λc ar=> ?_),bj.tuple (bj.cons (.slice (by simp[gS])) (bj.cons (.cy rfl) bj.nil)),br.Sx (by rw[mg];omega) (λc ar=> ?_)⟩
    · rcases bQ c ar with rfl|⟨ar,_⟩
      · rw[ej (by omega),fj];exact⟨rfl,by rw[gi];rfl⟩
      · rw[bW (by omega),cD c ar,gi];exact⟨rfl,rfl⟩
    · rw[bW (by omega),cD c ar]
  rcases D.mc with⟨b,hb,_,rfl⟩|⟨_,_,cR,rfl⟩
  · have av:m.X b=some ⟨ey l,true⟩:=by
      rcases M.hK o _ aC with⟨ca,cs,w,aq,aE,bq,cP⟩|⟨aq,_⟩
      · rw[hb]at aq;cases aq;rw[aE,bq rfl,Ws cP avF]
      · rw[hb]at aq;cases aq
    have auD:=bn av;refine(Wz (.inl ⟨b,rfl,av⟩) au).b6 λdV an ⟨az,k,qW⟩=> ?_;subst az;subst qW;refine m0 ((m.dp 14).a0 b none) k _ rfl rfl (λc ar=> ?_) rfl rfl ?_ (ads vG hb J9 rfl) ((Jd M 14).trans (NL vG hb J9 rfl))
    · rw[W.e6,bW (by omega)];by_cases e:c=b
      · subst e;show(((m.dp 14).a0 (m.next+2) _).a0 c none).X c=_;rw[ej (by simp;omega),ej (by simp;omega)]
      · show(((m.dp 14).a0 (m.next+2) _).a0 b none).X c=_;rw[bW e,bW e,bW (by omega)]
    · rw[W.e6,ej];show m.next+3<m.next+14
      omega
  · obtain rfl:l=[]:=pO.1 cR;refine(Wz (.inr ⟨rfl,rfl⟩) au).b6 λdV an ⟨az,k,qW⟩=> ?_;subst az;subst qW;refine m0 (m.dp 14) k _ rfl rfl (λc ar=> ?_) rfl rfl ?_ (Wc vG) ((Jd M 14).trans Wb)
    · rw[W.e6,bW (by omega)];show((m.dp 14).a0 (m.next+2) _).X c=_;rw[bW (by omega)]
    · rw[W.e6,ej];show m.next+3<m.next+14
      omega
theorem avE{l de:List ByteArray}:ey l=ey de↔l=de:=by rw[yb,yb];exact x6 λa b h=>by cases h;rfl
open Classical in
noncomputable def EP(o n:Nat)(s:ByteArray)(t:W)(x:Option fq):Option (Value×W):=
  if h: ∃l:List ByteArray,l.length=n/\n<1000000/\x=some ⟨ey l,true⟩then some (.tuple #[.slice (some ⟨t.next,0,none⟩) (n+1) 1,.bool (m1 h.choose s)],iK o h.choose s t)else none
@[simp] theorem aDT{o:Nat}{s:ByteArray}{t:W}{l:List ByteArray}(h:l.length<1000000):
    EP o l.length s t (some ⟨ey l,true⟩)=some (.tuple #[.slice (some ⟨t.next,0,none⟩) (l.length+1) 1,.bool (m1 l s)],iK o l s t):=by
  have G: ∃de:List ByteArray,de.length=l.length/\l.length<1000000/\some (⟨ey l,true⟩:fq)=some ⟨ey de,true⟩:=⟨l,rfl,h,rfl⟩;have ar:G.choose=l:=by have:=congrArg (λx:Option fq=>(x.map fq.cells).getD []) G.choose_spec.2.2;exact(avE.1 this).symm
  simp only[EP,dif_pos G,ar]
noncomputable def xA:iQ al:= .dR 136 (Nat×Nat×ByteArray) (λ⟨o,n,s⟩=>[.slice (some ⟨o,0,none⟩) n 1,fQ s])
  (λ⟨o,n,s⟩ t=>EP o n s t (t.X o))
  λ⟨o,n,s⟩ t r aJ h cd jB=>by
    simp only[EP]at h;split at h
    · next G=>cases h;obtain⟨D,H,aq⟩:=G.choose_spec;generalize G.choose=l at D aq jB;subst D;exact aiE H aq jB
    · cases h
@[simp] theorem aEY:xA.f=136:=rfl
@[simp] theorem aEZ{o n:Nat}{s:ByteArray}{t:W}:xA.fn [.slice (some ⟨o,0,none⟩) n 1,fQ s] t=EP o n s t (t.X o):=
  iQ.eH (x:=(o,n,s)) (t:=t) λ⟨kD,tD,DX⟩ ag=>by simp at ag;obtain⟨⟨rfl,rfl⟩,rfl⟩:=ag;rfl
theorem Is:eh []=true:=by simp[eh]
theorem tz{l:List ByteArray}{s:ByteArray}:eh (l++[s])=(eh l&&m1 l s):=by
  rw[Bool.eq_iff_iff];unfold eh m1;have D:(ly s l).isNone=true↔s∉l:=by
    constructor
    · intro h av;have:=Sw av;rw[yG]at h;exact this h
    · intro h;rw[XU h];rfl
  simp only[aY,eO,rr,wQ,D,mW,List.all_nil,and_true];constructor
  · rintro⟨⟨a,b⟩,c,_,d⟩;exact⟨⟨a,c⟩,b,λav=>d s av s (by simp) rfl⟩
  · rintro⟨⟨a,c⟩,b,d⟩;exact⟨⟨a,b⟩,c,by simp,λx G y ag=>by simp at ag;subst ag;exact λe=>d (e▸G)⟩
theorem afI{l de:List ByteArray}(h:eh (l++de)=true):eh l=true:=by unfold eh at*;simp only[aY,eO,rr,wQ]at*;exact⟨h.1.1,h.2.1⟩
def uR:List Nat:=[1,3,4,5,6,7,17,18]
theorem yp{z ae:aM}(D:ae 1=z 1)(aq:ae 3=z 3)(aE:ae 4=z 4)(bq:ae 5=z 5)(cP:ae 6=z 6)(fB:ae 7=z 7)(hA:ae 17=z 17)(iz:ae 18=z 18): ∀k∈uR,ae k=z k:= λk aa=>by simp only[uR,gT,iP,or_false]at aa;rcases aa with rfl|rfl|rfl|rfl|rfl|rfl|rfl|rfl<;>assumption
theorem wI{z ae u5:aM}(h: ∀k∈uR,ae k=z k)(bN: ∀k∈uR,u5 k=ae k): ∀k∈uR,u5 k=z k:= λk aa=>(bN k aa).trans (h k aa)
theorem axn{x:ih}{q j:Nat}{v:Int}{b:Bool}{c5:aM}{cS:W}(ad:x.bf[j]?=some v)(eS:x.bf.length<1000000)(nY:cS.X q=some ⟨fi x,true⟩)(iO:c5 18=cF q)(jH:c5 19=Z j)(sa:c5 20=Z 0)(b9:c5 8= .bool b)
    {Q:du->aM->W->Prop} (bT: ∀z,(∀k∈uR,z k=c5 k)->z 19=c5 19->z 8= .bool (b&&decide (v∉x.bf.take j))->Q (.bh 12) z cS):fl al (.loop C3) c5 cS Q:=by
  have b1:j<x.bf.length:=(eB.1 ad).1;have a3:(j:Int)<x.bf.length:=by omega
  have XJ:=(eB.1 ad).2;refine h4 (aB:=⟨[],[]⟩) (λk z t=>t=cS/\(∀k∈uR,z k=c5 k)/\z 19=Z j/\z 20=Z k/\z 8= .bool (b&&decide (v∉x.bf.take k))) j ?_ ?_ 0 c5 cS (hx _) ⟨rfl,λ_ _=>rfl,jH,sa,by simp[b9]⟩
  · rintro k z t aa ⟨rfl,M,oR,HV,fS⟩ cx bk;have G:x.bf[k]?=some x.bf[k]:=dD (by omega);have bZ:=g3 (n:=k) (by omega);have bY:(k:Int)<j:=(by omega);have br:(k:Int)<x.bf.length:=(by omega);have wA:z 18=cF q:=(M 18 (by decide)).trans iO;have hb:(b&&decide (v∉x.bf.take (k+1)))=((b&&decide (v∉x.bf.take k))&& !decide (x.bf[k]=v)):=by
      rw[mS G,Bool.eq_iff_iff];simp only[aY,eO,kE,oX,u1,decide_eq_false_iff_not,not_or];constructor
      · rintro⟨a,c,d⟩;exact⟨⟨a,c⟩,λe=>d e.symm⟩
      · rintro⟨⟨a,c⟩,d⟩;exact⟨a,c,λe=>d e.symm⟩
    obtain⟨aX,cK⟩: ∃aX,aX=(b&&decide (v∉x.bf.take k)):=⟨_,rfl⟩;rw[<-cK]at fS hb;cases aX
    · simp(disch:=first|omega|simp only[aW];omega) [C3,Hg,oR,HV,fS,bY,bZ,-O,-U,-N,-S,-List.map_map];exact bk _ _ ⟨rfl,wI M (yp (by simp) (by simp) (by simp) (by simp) (by simp) (by simp) (by simp) (by simp)),by simp[oR],by simp,by rw[hb];simp⟩
    · by_cases e:x.bf[k]=v
      · simp(disch:=first|omega|simp only[aW];omega) [C3,Hg,fi,wA,oR,HV,fS,nY,bY,a3,br,bZ,XJ,e,-O,-U,-N,-S,-List.map_map];exact bk _ _ ⟨rfl,wI M (yp (by simp) (by simp) (by simp) (by simp) (by simp) (by simp) (by simp) (by simp)),by simp[oR],by simp,by rw[hb];simp[e]⟩
      · simp(disch:=first|omega|simp only[aW];omega) [C3,Hg,fi,wA,oR,HV,fS,nY,bY,a3,br,bZ,XJ,e,-O,-U,-N,-S,-List.map_map];exact bk _ _ ⟨rfl,wI M (yp (by simp) (by simp) (by simp) (by simp) (by simp) (by simp) (by simp) (by simp)),by simp[oR],by simp,by rw[hb];simp[e]⟩
  · rintro z t ⟨rfl,M,oR,HV,fS⟩;have wA:z 18=cF q:=(M 18 (by decide)).trans iO;simp(disch:=first|omega|simp only[aW];omega) [C3,Hg,oR,HV,-O,-U,-N,-S,-List.map_map];exact bT _ (wI M (yp (by simp) (by simp) (by simp) (by simp) (by simp) (by simp) (by simp) (by simp))) (by simp[oR,jH]) (by simp[fS])
def n5(gA:List Int)(n:Nat):Bool:=(gA.all λm=>dE m 0 ((n:Int)-1))&&decide gA.Nodup
theorem ava{gA:List Int}{n:Nat}{v:Int}:n5 (gA++[v]) n=(n5 gA n&&(dE v 0 ((n:Int)-1)&&decide (v∉gA))):=by
  rw[Bool.eq_iff_iff];simp only[n5,aY,eO,rr,wQ,mW,List.all_nil,and_true];constructor
  · rintro⟨⟨a,b⟩,c,_,d⟩;exact⟨⟨a,c⟩,b,λav=>d v av v (by simp) rfl⟩
  · rintro⟨⟨a,c⟩,b,d⟩;exact⟨⟨a,b⟩,c,by simp,λx G y ag=>by simp at ag;subst ag;exact λe=>d (e▸G)⟩
theorem au9{a b:List Int}{n:Nat}(h:n5 (a++b) n=true):n5 a n=true:=by simp only[n5,aY,eO,rr,wQ]at*;exact⟨h.1.1,h.2.1⟩
theorem axo{u:bm}(az:bm.fD u){x:ih}{q:Nat}{b:Bool}{c5:aM}{cS:W}(eS:x.bf.length<1000000)(aO:cS.X 0=some ⟨aU u,true⟩)(nY:cS.X q=some ⟨fi x,true⟩)(bl:c5 1=cF 0)(iO:c5 18=cF q)(jH:c5 19=Z 0)(b9:c5 8= .bool b)
    {Q:du->aM->W->Prop} (bT: ∀z,(∀k∈uR,z k=c5 k)->z 8= .bool (b&&n5 x.bf u.bf.length)->Q (.bh 10) z cS):fl al (.loop C4) c5 cS Q:=by
  have j4:IntKind.i64.wrap ((u.bf.length:Int)-1)=(u.bf.length:Int)-1:=fx (by omega) (by have:=az.eJ;omega);refine h4 (aB:=⟨[rh],[]⟩) (λj z t=> ∃ca,t=cS/\(∀k∈uR,z k=c5 k)/\z 19=Z j/\z 8= .bool ca/\(ca=true->b=true/\n5 (x.bf.take j) u.bf.length=true)/\(ca=false->(b&&n5 x.bf u.bf.length)=false)) x.bf.length ?_ ?_ 0 c5 cS (hx _) ⟨b,rfl,λ_ _=>rfl,jH,b9,λh=>⟨h,by simp[n5]⟩,λh=>by rw[h];rfl⟩
  · rintro j z t b1 ⟨ca,rfl,M,oR,fS,bt,a6⟩ cx bk;have G:x.bf[j]?=some x.bf[j]:=dD b1;have bZ:=g3 (n:=j) (by omega);have bY:(j:Int)<x.bf.length:=(by omega);have wA:z 18=cF q:=(M 18 (by decide)).trans iO;have oa:z 1=cF 0:=(M 1 (by decide)).trans bl;cases ca
    · have a6:=a6 rfl;simp(disch:=first|omega|simp only[aW];omega) [C4,L3,L4,fi,wA,oR,fS,nY,bY,-O,-U,-N,-S,-List.map_map];exact bT _ (wI M (yp (by simp) (by simp) (by simp) (by simp) (by simp) (by simp) (by simp) (by simp))) (by rw[a6];simp[fS])
    · obtain⟨hb,av⟩:=bt rfl;have Ps:x.bf=x.bf.take (j+1)++x.bf.drop (j+1):=(List.take_append_drop _ _).symm;have jA:=ava (gA:=x.bf.take j) (n:=u.bf.length) (v:=x.bf[j]);rw[<-mS G,av,ru]at jA;obtain⟨aX,db⟩: ∃aX,dE x.bf[j] 0 ((u.bf.length:Int)-1)=aX:=⟨_,rfl⟩;simp(disch:=first|omega|simp only[aW];omega) [C4,L3,L4,fi,aU,oa,wA,oR,fS,nY,aO,bY,j4,db,-O,-U,-N,-S,-List.map_map];refine axn (b:=aX) G eS nY (by simp[wA]) (by simp[oR]) (by simp) (by simp) λdj hB ah9 OH=> ?_;rw[db]at jA;simp(disch:=first|omega|simp only[aW];omega) [ah9,oR,bZ,-O,-U,-N,-S,-List.map_map];refine bk _ _ ⟨aX&&decide (x.bf[j]∉x.bf.take j),rfl,wI (wI (wI M (yp ?_ ?_ ?_ ?_ ?_ ?_ ?_ ?_)) hB) (yp ?_ ?_ ?_ ?_ ?_ ?_ ?_ ?_),?_,?_,?_,?_⟩
      rotate_right 4
      · simp
      · simp[OH]
      · intro h;exact⟨hb,by rw[jA];exact h⟩
      · intro h;rw[A8];refine .inr ?_;cases bc:n5 x.bf u.bf.length
        · rfl
        · rw[Ps]at bc;have:=au9 bc;rw[jA,h]at this;cases this
      all_goals simp
  · rintro z t ⟨ca,rfl,M,oR,fS,bt,a6⟩;rw[kj]at bt;have wA:z 18=cF q:=(M 18 (by decide)).trans iO;have e:(b&&n5 x.bf u.bf.length)=ca:=by
      cases ca
      · exact a6 rfl
      · obtain⟨D,H⟩:=bt rfl;rw[D,H];rfl
    simp(disch:=first|omega|simp only[aW];omega) [C4,L3,L4,fi,wA,oR,nY,-O,-U,-N,-S,-List.map_map];exact bT _ (wI M (yp (by simp) (by simp) (by simp) (by simp) (by simp) (by simp) (by simp) (by simp))) (by rw[e];simp[fS])
end Go.Proofs.YtmmkkggfmigppaaGreat
