/- A part of the proof. -/
import Derived.Test.YtmmkkggfmigppaaGreatZczaf
set_option linter.all false
set_option maxRecDepth 8000
set_option maxHeartbeats 16000000
namespace Go.Proofs.YtmmkkggfmigppaaGreat
open Go Go.DI Go.Big
structure HZ(u:AY)(R:List Int)(Fin:List (List Int))(eR:Int)(fE:List Int)(t:V)(ej iK pp os c0 s o q:Nat)(ps:List Nat)(aR:List (List Int))(S:List Cn)(aF:List (Int×Int)):Prop where
 Dg:E5 t s o q ps aR (BZ u aR) (BV u R)
 Jn:t.W ej=some ⟨[Ag Fin,Y eR,AH fE],true⟩
 Ij:t.W pp=some ⟨[AQ os S.length 4,Ag Fin,Y eR,AH fE,Y 0],true⟩
 LS:t.W os=some ⟨CL S,true⟩
 S6:t.BL c0=some (FK aF)
 KV:t.W iK=some ⟨[.slice none 0 0,.slice none 0 0,Y 0,.slice none 0 0,Y 0],true⟩
 Xn:ej≠pp/\ej≠os/\ej≠s/\ej≠o/\ej≠q/\ej∉ps
 OD:pp≠os/\pp≠c0/\pp≠s/\pp≠o/\pp≠q/\pp∉ps
 ds:os≠c0/\os≠s/\os≠o/\os≠q/\os∉ps
 Gg:c0≠ej/\c0≠s/\c0≠o/\c0≠q/\c0∉ps
 Sj:iK≠pp/\iK≠os/\iK≠c0/\iK≠s/\iK≠o/\iK≠q/\iK∉ps
variable{Fin aR L uR:List (List Int)}{R fE dc ed:List Int}{S T FD:List Cn}{aF:List (Int×Int)}{au t:V}{c0 ej iK o os pp q s j eT:Nat}{eR:Int}{ps:List Nat}{u:AY}{x:Cn}{bd:List Value}{an:Option Nat}
theorem HZ.DW(h:HZ u R Fin eR fE t ej iK pp os c0 s o q ps aR S aF)
 (a: ∀b,b<t.next->au.W b=t.W b) (c:au.BL c0=t.BL c0):HZ u R Fin eR fE au ej iK pp os c0 s o q ps aR S aF:=
 ⟨h.Dg.DW a,(a _ (F h.Jn)).trans h.Jn,(a _ (F h.Ij)).trans h.Ij,(a _ (F h.LS)).trans h.LS,c.trans h.S6,(a _ (F h.KV)).trans h.KV,h.Xn,h.OD,h.ds,h.Gg,h.Sj⟩
theorem E5.Ww{x:Nat}(h:E5 t s o q ps L dc ed)(a:x≠s/\x≠o/\x≠q/\x∉ps)(c: ∀b,b<t.next->b≠x->au.W b=t.W b):E5 au s o q ps L dc ed:=
 ⟨by rw[c s (F h.Dg) (Ne.symm a.1)];exact h.Dg,h.DR.AG (c o (F h.DR.Da) (Ne.symm a.2.1)) λp d=>c p (h.DR.I7 d) λe=>a.2.2.2 (e▸d),by rw[c q (F h.Ha) (Ne.symm a.2.2.1)];exact h.Ha,h.Vw,h.TY,h.Sn,h.WL,h.TC⟩
theorem E5.y6(h:E5 t s o q ps L dc ed)(P:Nat->Prop)(a: ¬P s/\ ¬P o/\ ¬P q/\ ∀p∈ps,¬P p)(c: ∀b,b<t.next-> ¬P b->au.W b=t.W b):E5 au s o q ps L dc ed:=
 ⟨by rw[c s (F h.Dg) a.1];exact h.Dg,h.DR.AG (c o (F h.DR.Da) a.2.1) λp d=>c p (h.DR.I7 d) (a.2.2.2 p d),by rw[c q (F h.Ha) a.2.2.1];exact h.Ha,h.Vw,h.TY,h.Sn,h.WL,h.TC⟩
theorem HZ.Ww{x:Nat}(h:HZ u R Fin eR fE t ej iK pp os c0 s o q ps aR S aF)
 (d:x≠ej/\x≠pp/\x≠os/\x≠c0/\x≠s/\x≠o/\x≠q/\x∉ps/\x≠iK) (a: ∀b,b<t.next->b≠x->au.W b=t.W b) (e:au.mp c0=t.mp c0):HZ u R Fin eR fE au ej iK pp os c0 s o q ps aR S aF:=by
 obtain⟨f,g,i,j,k,l,m,n,p⟩:=d;obtain⟨c,r⟩:=V.Hp h.S6;exact⟨h.Dg.Ww ⟨k,l,m,n⟩ a,(a _ (F h.Jn) (Ne.symm f)).trans h.Jn,(a _ (F h.Ij) (Ne.symm g)).trans h.Ij,(a _ (F h.LS) (Ne.symm i)).trans h.LS,V.E7 ((a _ (F c) (Ne.symm j)).trans c) (e.trans r),(a _ (F h.KV) (Ne.symm p)).trans h.KV,h.Xn,h.OD,h.ds,h.Gg,h.Sj⟩
theorem a5q{aF:List Cn}(a:T[j]?=some x)(b:aF.length<=j):(aF++T.drop aF.length)[j]?=some x:=by rw[KM b,Pw,<-a];congr 1;omega
theorem aCN{aF:List Cn}(a:aF.length<=T.length):(aF++T.drop aF.length).length=T.length:=by rw[Ds,List.length_drop];omega
theorem pg{bd:List Value}{x:Cn}: ∀{aF aJ:List Cn} {y:Cn},C3 (CL (aF++y::aJ)++bd) (aF.length*4) (CR x)=CL (aF++x::aJ)++bd
 | [],aJ,y=>by simp[CL,CR,C3]
 | k::aF,aJ,y=>by
   have c:=pg (bd:=bd) (x:=x) (aF:=aF) (aJ:=aJ) (y:=y);have e:(k::aF).length*4=aF.length*4+1+1+1+1:=(by rw[Df];omega);have key: ∀(a:Value) (cs b:List Value) (n:Nat),C3 (a::cs) (n+1) b=a::C3 cs n b:=by
    intro a cs b;induction b generalizing cs with
    |nil=>intro n;rfl
    |cons v b d=>intro n;simp only[C3,PZ];exact d _ _
   simp only[CL,Ih,E1,HM,List.append_assoc]at c⊢;rw[e];simp only[CR,Ih,Ni,key]at c⊢;rw[c]
theorem a6l{aF:List Cn}(a:aF.length<T.length):C3 (CL (aF++T.drop aF.length)++bd) (aF.length*4) (CR x)=CL ((aF++[x])++T.drop (aF.length+1))++bd:=by rw[Iy a,pg];simp
theorem aEW(h:Av u)(D5:T.length<=1000)
 (AW:eT≠ej/\eT≠pp/\eT≠c0/\eT≠s/\eT≠o/\eT≠q/\eT∉ps/\eT≠iK) (AX:List (List Int)->Prop) (C4: ∀aR x,AX aR->RK aR Fin x->AX (Ci aR x.Au.toNat x.B4.toNat x.Bg)) (D6:FD.length<=1000000):
 ∀(AD:List Cn) (j:Nat) (bG:List Cn) (aR:List (List Int)) (S:List Cn) (os:Nat),T.drop j=AD->bG.length<=j->j<=T.length->Fb u aR->HD aR Fin (bG++T.drop j)->DE u R S L=(aR,S.length)->S.length+bG.length=FD.length+j->(bG.length=j->aR=uR/\S=FD/\ ∀x∈T.take j,CI u.A1.length (BZ u uR) (BV u R) uR x=false)->AX aR->
 ∀(w:A6) (t:V) (Q:BM->A6->V->Prop),HZ u R Fin eR fE t ej iK pp os c0 s o q ps aR S aF->eT≠os->t.W eT=some ⟨CL (bG++T.drop bG.length)++bd,true⟩->
 w 95= .slice (some ⟨eT,0,an⟩) T.length 4->w 96=Y T.length->w 97=Y j->w 19= .slice (some ⟨eT,0,some T.length⟩) bG.length 4->w 16=AA s->w 18=AA pp->
 (∀P au z D v A5,Fb u z->HD z Fin v->DE u R D L=(z,D.length)->D.length+v.length=FD.length+T.length->(v.length=T.length->z=uR/\D=FD/\ ∀x∈T,CI u.A1.length (BZ u uR) (BV u R) uR x=false)->AX z->HZ u R Fin eR fE au ej iK pp A5 c0 s o q ps z D aF->eT≠A5->au.W eT=some ⟨CL (v++T.drop v.length)++bd,true⟩->v.length<=T.length->
  P 19= .slice (some ⟨eT,0,some T.length⟩) v.length 4->(∀k∈[6,8,11,16,17,18],P k=w k)->Q (.Ai 6) P au)->
 BY U (.loop Wo) w t Q:=by
 intro AD;induction AD with
 | nil=>intro j bG aR S os X AF C5 A7 Z AY Af Ah AZ w t Q g AG A8 AJ A9 AK Aa AL Ab Ac;have C6:j=T.length:=(by have:=List.drop_eq_nil_iff.1 X;omega);refine BU (an:=⟨[N2 (BV u R)],[P6 s o q ps]⟩) λC7 Ak=> ?_;have c: ¬(j:Int)<T.length:=(by omega);simp(disch:=first|omega|simp only[DI.A2];omega)[Wo,A9,AK,c,-H,-E,-I,-G,-List.map_map];subst C6;rw[List.drop_length,NP]at Z;refine Ac _ _ aR S bG os A7 Z AY Af (λe=>by have:=Ah e;rwa [EP]at this) AZ g AG A8 AF (by simp[Aa]) λk A=> ?_;simp at A;rcases A with rfl|rfl|rfl|rfl|rfl|rfl<;>simp
 | cons x AD BG=>
   intro j bG aR S os X AF C5 A7 Z AY Af Ah AZ w t Q g AG A8 AJ A9 AK Aa AL Ab Ac;have C8:j<T.length:=by
    rcases Nat.lt_or_ge j T.length with c|c
    ·exact c
    ·rw[List.drop_eq_nil_of_le c]at X;cases X
   have BH:T[j]?=some x:=(by have:=congrArg (λk=>k[0]?) X;simpa using this);have Al:T.drop (j+1)=AD:=(by have:=congrArg (List.drop 1) X;simpa using this);have C9:T.drop j=x::T.drop (j+1):=(by rw[X,Al]);rw[C9]at Z;have CA:=Z.left x (by simp);have CB:=a5q BH AF;have CC:=aCN (T:=T) (aF:=bG) (by omega);have BI:=VZ (bd:=bd) CB;have D7:(CL (bG++T.drop bG.length)++bd).length=T.length*4+bd.length:=(by rw[Ds,Qn,CC]);refine BU (an:=⟨[N2 (BV u R)],[P6 s o q ps]⟩) λC7 Ak=> ?_;have c:(j:Int)<T.length:=(by omega);have BJ:j*4+4<=(CL (bG++T.drop bG.length)++bd).length:=(by omega);have BK:=BX (n:=j) (by omega);have BN:=F A8;have Am:E5 ((t.AE 4).A0 (t.next+2) (some ⟨[Y x.Au,Y x.B4,Y x.BQ,Y x.Bg],true⟩)) s o q ps aR (BZ u aR) (BV u R):=g.Dg.DW λb hb=>by rw[A3 (by omega),AU hb]
   have BO:=mf Am;have Ad:(N2 (BV u R)).fn [BR [Ag aR,AH (BZ u aR),AH (BV u R)] 0,.agg #[Y x.Au,Y x.B4,Y x.BQ,Y x.Bg]]=some (.bool (CI u.A1.length (BZ u aR) (BV u R) aR x)):=(by have:=hk (ed:=BV u R) (L:=aR) (dc:=BZ u aR) (a:=x.Au) (b:=x.B4) (c:=x.BQ) (d:=x.Bg) ⟨A7.1,by rw[JX,JV];exact Ao _⟩;rw[JX]at this;exact this);cases AM:CI u.A1.length (BZ u aR) (BV u R) aR x
   ·rw[AM]at Ad;have CD:=g.Dg.Dg;have D8:=F CD;have CE:bG.length+1<=T.length/\(bG.length+1)*4<=(CL (bG++T.drop bG.length)++bd).length:=(by omega);have CF:((bG.length*4<=(CL (bG++T.drop bG.length)++bd).length/\(bG.length+1)*32<=140737488355328)/\bG.length<=9223372036854775806):=(by omega);have CG:((((CL (bG++T.drop bG.length)++bd).set (bG.length*4) (Y x.Au)).set (bG.length*4+1) (Y x.B4)).set (bG.length*4+1+1) (Y x.BQ)).set (bG.length*4+1+1+1) (Y x.Bg)=CL ((bG++[x])++T.drop (bG.length+1))++bd:=a6l (by omega);simp(disch:=first|omega|simp only[DI.A2];omega)[Wo,AJ,A9,AK,Aa,AL,c,BJ,BK,A8,BI,BO,Ad,CE,CF,-List.length_append,-List.map_append,-List.flatten_append,-H,-E,-I,-G,-List.map_map];have An:c0∉As 9 ((t.AE 4).A0 (t.next+2) (some ⟨[Y x.Au,Y x.B4,Y x.BQ,Y x.Bg],true⟩)) (AA s):= λh=>by
     rcases ga Am h with e|e|e|e
     ·exact g.Gg.2.1 e
     ·exact g.Gg.2.2.1 e
     ·exact g.Gg.2.2.2.1 e
     ·exact g.Gg.2.2.2.2 e
    rw[CG];obtain⟨CH,CJ,CK,CM,CN,CO,CP,CQ⟩:=AW;have BP:(bG++[x]).length=bG.length+1:=(by simp);refine Ak _ _ (BG (j+1) (bG++[x]) aR S os Al (by omega) (by omega) A7 (by simpa using Z) AY (by omega) (λe=> ?_) AZ _ _ _ (g.Ww (x:=eT) ⟨CH,CJ,AG,CK,CM,CN,CO,CP,CQ⟩ (λb hb AN=> ?_) ?_) AG ?_ (by simp[AJ]) (by simp[A9]) (by simp) (by rw[BP];simp) (by simp[AL]) (by simp[Ab]) λP au z D v A5 AO AP Ap Aq At Aw Ax Ay Az B0 B1 B2=>Ac P au z D v A5 AO AP Ap Aq At Aw Ax Ay Az B0 B1 λk A=> ?_)
    ·obtain⟨B,J,N⟩:=Ah (by omega);refine⟨B,J,λy AB=> ?_⟩;rw[K4,BH]at AB;rcases Cg.1 AB with AB|AB
     ·exact N y AB
     ·obtain rfl:y=x:=(by simpa using AB);rw[<-B];exact AM
    ·have B: ¬b=t.next+4+2:=by omega
     have J: ¬b=t.next+2:=by omega
     have D9:b<t.next+4:=by omega
     simp(disch:=first|omega|simp only[DI.A2];omega)[-H,-E,-I,-G,-List.map_map]
    ·show(if c0∈As 9 _ (AA s)then none else t.mp c0)=t.mp c0;rw[if_neg An]
    ·rw[BP];exact AT (by simp;omega)
    ·rw[B2 k A];simp at A;rcases A with rfl|rfl|rfl|rfl|rfl|rfl<;>simp
   ·rw[AM]at Ad;simp(disch:=first|omega|simp only[DI.A2];omega)[Wo,AJ,A9,AK,AL,c,BJ,A8,BI,BO,Ad,-List.length_append,-List.map_append,-List.flatten_append,-H,-E,-I,-G,-List.map_map];obtain⟨a1,f,d,r,B,J,N,BS,BW,B3,AN⟩:=SG AM;obtain⟨p,AR⟩:=fP (R:=R) g.Dg A7 BS BW B3 AN;have CS:=B9 AR.QQ;have An:c0∉As 9 ((t.AE 4).A0 (t.next+2) (some ⟨[Y x.Au,Y x.B4,Y x.BQ,Y x.Bg],true⟩)) (AA s):= λh=>by
     rcases ga Am h with e|e|e|e
     ·exact g.Gg.2.1 e
     ·exact g.Gg.2.2.1 e
     ·exact g.Gg.2.2.2.1 e
     ·exact g.Gg.2.2.2.2 e
    have l:HZ u R Fin eR fE (Cm ((t.AE 4).A0 (t.next+2) (some ⟨[Y x.Au,Y x.B4,Y x.BQ,Y x.Bg],true⟩)) (As 9 ((t.AE 4).A0 (t.next+2) (some ⟨[Y x.Au,Y x.B4,Y x.BQ,Y x.Bg],true⟩)) (AA s))) ej iK pp os c0 s o q ps aR S aF:=g.Ww (x:=t.next+2) (by
     have DA:=F g.Jn;have DB:=F g.Ij;have a3:=F g.LS;have a4:=F (DQ g.S6).1;have DC:=F g.Dg.Dg;have DD:=F g.Dg.DR.Da;have DF:=F g.Dg.Ha;have DG:=F g.KV;exact⟨by omega,by omega,by omega,by omega,by omega,by omega,by omega,λAS=>(by have:=g.Dg.DR.I7 AS;omega),by omega⟩) (λb hb AN=>by rw[Rd,A3 AN,AU hb]) (by
     show(if c0∈As 9 _ (AA s)then none else t.mp c0)=t.mp c0;rw[if_neg An])
    have Ba:(Cm ((t.AE 4).A0 (t.next+2) (some ⟨[Y x.Au,Y x.B4,Y x.BQ,Y x.Bg],true⟩)) (As 9 ((t.AE 4).A0 (t.next+2) (some ⟨[Y x.Au,Y x.B4,Y x.BQ,Y x.Bg],true⟩)) (AA s))).W eT=some ⟨CL (bG++T.drop bG.length)++bd,true⟩:=(by rw[Rd,A3 (by omega),AU BN];exact A8);have Bb:(Cm ((t.AE 4).A0 (t.next+2) (some ⟨[Y x.Au,Y x.B4,Y x.BQ,Y x.Bg],true⟩)) (As 9 ((t.AE 4).A0 (t.next+2) (some ⟨[Y x.Au,Y x.B4,Y x.BQ,Y x.Bg],true⟩)) (AA s))).W (t.next+2)=some ⟨[Y x.Au,Y x.B4,Y x.BQ,Y x.Bg],true⟩:=(by rw[Rd];exact AT (by simp));have Ae:(Cm ((t.AE 4).A0 (t.next+2) (some ⟨[Y x.Au,Y x.B4,Y x.BQ,Y x.Bg],true⟩)) (As 9 ((t.AE 4).A0 (t.next+2) (some ⟨[Y x.Au,Y x.B4,Y x.BQ,Y x.Bg],true⟩)) (AA s))).next=t.next+4:=by simp
    generalize Cm ((t.AE 4).A0 (t.next+2) (some ⟨[Y x.Au,Y x.B4,Y x.BQ,Y x.Bg],true⟩)) (As 9 ((t.AE 4).A0 (t.next+2) (some ⟨[Y x.Au,Y x.B4,Y x.BQ,Y x.Bg],true⟩)) (AA s))=K at l Ba Bb Ae⊢;have DH:x=⟨(a1:Int),f,x.BQ,d⟩:=(by obtain⟨a,b,DJ,DK⟩:=x;simp only at B J N;simp[B,J,N]);rw[B,J,N];refine j0 l.Dg AR ?_;have A4:=E5.step (f:=f) (d:=d) (cE:=x.BQ) l.Dg AR.gV AR.QQ;have CT:x.BQ<u.A1.length:=(by have:=AR.jG;rw[JV]at this;exact this);rw[gU BS BW B3 CT AN]at A4;have CU: ∀b,b∉ps->b≠p:= λb hb e=>hb (e▸CS);have O: ∀b,b<t.next+4->b∉ps->b≠q->(GK K p q a1 f d x.BQ aR (BZ u aR)).W b=K.W b:= λb hb AO AP=>XD (by omega) (CU b AO) AP
    have Bc:(GK K p q a1 f d x.BQ aR (BZ u aR)).next=t.next+5:=by rw[xi,Ae]
    have Bd:(GK K p q a1 f d x.BQ aR (BZ u aR)).mp c0=K.mp c0:=rfl;obtain⟨Be,CV,CW,CX,Bf,Bh⟩:=l.Xn;obtain⟨CY,Bi,Bj,Bk,B5,B6⟩:=l.OD;obtain⟨CZ,Ca,Cb,Bl,Bm⟩:=l.ds;obtain⟨Cc,Cd,Ce,Bn,Bo⟩:=l.Gg;obtain⟨Bp,Cf,Ch,Cj,Ck,Bq,Br⟩:=l.Sj;have Bs:=F l.KV;have Bt:=(O iK (by omega) Br Bq).trans l.KV;obtain⟨Bu,Cl⟩:=V.Hp l.S6;have Bv:=F l.Jn;have B7:=F l.Ij;have DM:=F l.LS;have Bw:=F Bu;have Bx:=(O ej (by omega) Bh Bf).trans l.Jn;have B8:=(O pp (by omega) B6 B5).trans l.Ij;have BA:=(O os (by omega) Bm Bl).trans l.LS;have BB:(GK K p q a1 f d x.BQ aR (BZ u aR)).BL c0=some (FK aF):=V.E7 ((O c0 (by omega) Bo Bn).trans Bu) (Bd.trans Cl);have Co:t.next+2∉ps:= λAS=>by have:=g.Dg.DR.I7 AS;omega
    have Cp:t.next+2≠q:=by have:=F g.Dg.Ha;omega
    have BD:=(O (t.next+2) (by omega) Co Cp).trans Bb;have Bz:=(O eT (by omega) AW.2.2.2.2.2.2.1 AW.2.2.2.2.2.1).trans Ba;have Cq:Fb u (Ci aR a1 f d):=SL A7 B3;generalize GK K p q a1 f d x.BQ aR (BZ u aR)=i at A4 O Bc Bd Bx B8 BA BB BD Bz Bt⊢;have DN:=F B8;have DP:=F BD;have DS:=F BA;have Cr:=Qn (T:=S);have Cs:List.take (S.length*4) (CL S)=CL S:=DV (by omega);have Ct:((S.length+1)*32<=140737488355328/\S.length<=9223372036854775806)/\S.length*4<=(CL S).length:=(by omega);have DT: ¬os=pp:= λe=>CY e.symm;simp(disch:=first|omega|simp only[DI.A2];omega)[Ab,B8,BD,BA,Cr,Cs,Ct,BK,AK,B,J,N,-List.map_append,-List.flatten_append,-H,-E,-I,-G,-List.map_map];have BE:Ci aR x.Au.toNat x.B4.toNat x.Bg=Ci aR a1 f d:=(by rw[B,J,N];rfl);have Cu:CL S++[Y (a1:Int),Y (f:Int),Y x.BQ,Y (d:Int)]=CL (S++[x]):=by have:CR x=[Y (a1:Int),Y (f:Int),Y x.BQ,Y (d:Int)]:=(by unfold CR;rw[B,J,N]);simp[CL,this]
    have BF:(S++[x]).length=S.length+1:=(by simp);have C: ∀b,b<i.next->b≠i.next+4:= λb hb=>Nat.ne_of_lt (Eo hb (NF _ _))
    have Cv: ∀b,b<i.next->b≠i.next+3:= λb hb=>Nat.ne_of_lt (Eo hb (NF _ _))
    have C0:K.next<=i.next:=by rw[Bc,Ae];exact Nat.le_succ _
    have Cw:t.next<=i.next:=Dh (by rw[Ae];exact NF _ _) C0
    have M: ∀{b},b<K.next->b<i.next:= λhb=>Eo hb C0
    have C1:eT<i.next:=Eo BN Cw
    have Cz:s<i.next:=F A4.Dg
    have D0:o<i.next:=F A4.DR.Da
    have D1:q<i.next:=F A4.Ha
    have D2:(S++[x]).length+bG.length=FD.length+(j+1):=(by rw[BF,Nat.add_right_comm,Af];rfl);have D3:bG.length<=j+1:=Nat.le_succ_of_le AF;have D4:bG.length=j+1->False:= λe=>absurd AF (by rw[e];exact Nat.not_succ_le_self j);have AV: ∀b,b<i.next-> ¬(b=os\/b=pp)->(((((i.AE 7).A0 (i.next+3) (some ⟨[Y (a1:Int),Y (f:Int),Y x.BQ,Y (d:Int)],true⟩)).A0 os none).A0 (i.next+4) (some ⟨CL S++[Y (a1:Int),Y (f:Int),Y x.BQ,Y (d:Int)],true⟩)).A0 pp (some ⟨[AQ (i.next+4) (S.length+1) 4,Ag Fin,Y eR,AH fE,Y 0],true⟩)).W b=i.W b:= λb hb C2=>by rw[A3 (λe=>C2 (.inr e)),A3 (C b hb),A3 (λe=>C2 (.inl e)),A3 (Cv b hb),AU hb]
    refine Ak _ _ (BG (j+1) bG (Ci aR a1 f d) (S++[x]) (i.next+4) Al D3 C8 Cq (by have:=HD.a7z Z;rwa [BE]at this) (by have:=jY AY AM;rwa [BE,<-BF]at this) D2 (λe=>(D4 e).elim) (by have:=C4 aR x AZ CA;rwa [BE]at this) _ _ _
     ⟨A4.y6 (λb=>b=os\/b=pp) ⟨λm=>m.elim (λe=>Ca e.symm) λe=>Bj e.symm,λm=>m.elim (λe=>Cb e.symm) λe=>Bk e.symm,λm=>m.elim (λe=>Bl e.symm) λe=>B5 e.symm,λDU C3 m=>m.elim (λe=>Bm (e▸C3)) λe=>B6 (e▸C3)⟩ AV,(AV ej (M Bv) λm=>m.elim CV Be).trans Bx,?_,?_,V.E7 ((AV c0 (M Bw) λm=>m.elim (λe=>CZ e.symm) λe=>Bi e.symm).trans (V.Hp BB).1) (V.Hp BB).2,(AV iK (M Bs) λm=>m.elim Cf Bp).trans Bt,⟨Be,C _ (M Bv),CW,CX,Bf,Bh⟩,⟨C _ (M B7),Bi,Bj,Bk,B5,B6⟩,⟨(C _ (M Bw)).symm,(C _ Cz).symm,(C _ D0).symm,(C _ D1).symm,λAS=>absurd (A4.DR.I7 AS) (by exact Nat.not_lt_of_le (NF _ _))⟩,⟨Cc,Cd,Ce,Bn,Bo⟩,⟨Bp,C _ (M Bs),Ch,Cj,Ck,Bq,Br⟩⟩
     (C _ C1) ((AV eT C1 λm=>m.elim AG AW.2.1).trans Bz) (by simp[AJ]) (by simp[A9]) (by simp) (by simp[Aa]) (by simp[AL]) (by simp[Ab]) λP au z D v A5 AO AP Ap Aq At Aw Ax Ay Az B0 B1 B2=>Ac P au z D v A5 AO AP Ap Aq At Aw Ax Ay Az B0 B1 λk A=> ?_)
    ·rw[BF];exact AT (by simp only[Ar,BC];exact Eo (M B7) (NF _ _))
    ·rw[A3 (C _ (M B7)).symm,AT (by simp),Cu]
    ·rw[B2 k A];simp at A;rcases A with rfl|rfl|rfl|rfl|rfl|rfl<;>simp
open Go Go.DI Go.Big Go.Ex
def Wd(L Fin aR:List (List Int)):Prop:= ∀v i x,G7 aR v i x->G7 L v i x\/G7 Fin v i x
def PQ(u:AY)(R:List Int)(L Fin:List (List Int)):Prop:= ∃aR T,Wd L Fin aR/\HD aR Fin T/\T≠[]/\ ∀x∈T,CI u.A1.length (BZ u aR) (BV u R) aR x=false
theorem aC1(h:Wd L Fin aR)(b:RK aR Fin x):Wd L Fin (Ci aR x.Au.toNat x.B4.toNat x.Bg):=by
 obtain⟨v,i,d,e,f,g,k⟩:=b;rw[d,e,EE,EE];intro w j y a;rw[RS f]at a;by_cases c:w=v/\j=i
 ·rw[if_pos c]at a;obtain⟨rfl,rfl⟩:=c;exact .inr (by rw[a];exact g)
 ·rw[if_neg c]at a;exact h w j y a
variable{A:Type}{i YS:Nat}{q8:List (Int×Int)}{m:List (List Int)}{bG:List Cn}{d:Int}{h:Cn}
theorem aEX{l:List A}{x:A}(h:l[i]?=some x):l=l.take i++x::l.drop (i+1):=by have a:=(AX.1 h).1;rw[<-(AX.1 h).2,<-Iy a,List.take_append_drop]
theorem HZ.a0T(h:HZ u R Fin eR fE t ej iK pp os c0 s o q ps aR S aF)
 (a: ∀b,b<t.next->b≠c0->au.W b=t.W b) (c:au.BL c0=some (FK q8)):HZ u R Fin eR fE au ej iK pp os c0 s o q ps aR S q8:=
 ⟨h.Dg.Ww ⟨h.Gg.2.1,h.Gg.2.2.1,h.Gg.2.2.2.1,h.Gg.2.2.2.2⟩ a,(a _ (F h.Jn) (Ne.symm h.Gg.1)).trans h.Jn,(a _ (F h.Ij) h.OD.2.1).trans h.Ij,(a _ (F h.LS) h.ds.1).trans h.LS,c,(a _ (F h.KV) h.Sj.2.2.1).trans h.KV,h.Xn,h.OD,h.ds,h.Gg,h.Sj⟩
theorem HZ.push{g a h:V}{dU:Nat}(c:HZ u R Fin eR fE g ej iK pp os c0 s o q ps aR S aF)
 (i:E5 a s o q ps m (BZ u m) (BV u R)) (l: ∀b,b<g.next->b∉ps->b≠q->a.W b=g.W b) (M:a.mp c0=g.mp c0) (N:g.next<=a.next) (r:a.next<=dU)
 (O:eT≠ej/\eT≠pp/\eT≠c0/\eT≠s/\eT≠o/\eT≠q/\eT∉ps/\eT≠iK) (j: ∀b,b<a.next-> ¬(b=os\/b=pp\/b=eT)->h.W b=a.W b) (P:h.mp c0=a.mp c0)
 (Q:h.W pp=some ⟨[AQ dU (S.length+1) 4,Ag Fin,Y eR,AH fE,Y 0],true⟩) (T:h.W dU=some ⟨CL (S++[x]),true⟩):HZ u R Fin eR fE h ej iK pp dU c0 s o q ps m (S++[x]) aF:=by
 obtain⟨t,U,X,Z,v,w⟩:=c.Xn;obtain⟨AW,y,z,A,B,C⟩:=c.OD;obtain⟨A0,A1,A2,A3,A4⟩:=c.ds;obtain⟨A5,A6,A7,D,E⟩:=c.Gg;obtain⟨G,A8,A9,AB,AD,H,I⟩:=c.Sj;obtain⟨AE,AX,AF,AG,AJ,AK,AL,AM⟩:=O;obtain⟨n,AN⟩:=V.Hp c.S6;have k: ∀{b},b<g.next->b<a.next:= λhb=>Eo hb N
 have d: ∀{b},b<a.next->b≠dU:= λhb=>Nat.ne_of_lt (Eo hb r)
 have J:=k (F c.Jn);have AO:=k (F c.Ij);have K:=k (F n);have L:=k (F c.KV);have AP:s<a.next:=F i.Dg
 have AR:o<a.next:=F i.DR.Da
 have AS:q<a.next:=F i.Ha
 have f: ∀{b},b≠os->b≠pp->eT≠b-> ¬(b=os\/b=pp\/b=eT):= λAT AU a3 q=>q.elim AT λq=>q.elim AU λq=>a3 q.symm;refine⟨i.y6 (λb=>b=os\/b=pp\/b=eT) ⟨f (Ne.symm A1) (Ne.symm z) AG,f (Ne.symm A2) (Ne.symm A) AJ,f (Ne.symm A3) (Ne.symm B) AK,λAY p=>f (λe=>A4 (e▸p)) (λe=>C (e▸p)) λe=>AL (e▸p)⟩ j,?_,?_,?_,?_,?_,⟨t,d J,X,Z,v,w⟩,⟨d AO,y,z,A,B,C⟩,⟨(d K).symm,(d AP).symm,(d AR).symm,(d AS).symm,λAV=>absurd (i.DR.I7 AV) (Nat.not_lt_of_le r)⟩,⟨A5,A6,A7,D,E⟩,⟨G,d L,A9,AB,AD,H,I⟩⟩
 ·exact(j ej J (f U t AE)).trans ((l ej (F c.Jn) w v).trans c.Jn)
 ·rw[Ds];exact Q
 ·exact T
 ·exact V.E7 ((j c0 K (f (Ne.symm A0) (Ne.symm y) AF)).trans ((l c0 (F n) E D).trans n)) (P.trans (M.trans AN))
 ·exact(j iK L (f A8 G AM)).trans ((l iK (F c.KV) I H).trans c.KV)
theorem po{bd:List Value}{d:Int}: ∀{T:List Cn} {i:Nat} {x:Cn},T[i]?=some x->(CL T++bd).set (i*4+2) (Y d)=CL (T.set i ⟨x.Au,x.B4,d,x.Bg⟩)++bd
 | y::T,0,x,h=>by simp at h;subst h;simp[CL,CR]
 | y::T,i+1,x,h=>by have a:=po (bd:=bd) (d:=d) (T:=T) (i:=i) (x:=x) (by simpa using h);rw[show(i+1)*4+2=i*4+2+1+1+1+1 by omega];simpa[CL,CR]using a
theorem HD.aAQ(a:HD aR Fin bG)(b:bG[i]?=some h)(c:d≠h.Bg):HD (Ci aR h.Au.toNat h.B4.toNat d) Fin (bG.set i ⟨h.Au,h.B4,d,h.Bg⟩):=by have e:=(AX.1 b).1;rw[List.set_eq_take_append_cons_drop,if_pos e];rw[aEX b]at a;exact a.a6r c
theorem a4Q(a:MF L Fin)(d:RK aR Fin x):(x.Au,x.B4)∈Oc L:=by
 obtain⟨v,i,e,f,_,⟨r,b,g⟩,_⟩:=d;have h:v<L.length:=by rw[a.1];exact(AX.1 b).1
 have c:L[v]?=some L[v]:=AS h;have j:i<L[v].length:=by rw[a.2 v _ _ c b];exact(AX.1 g).1
 exact a3L.2 ⟨v,i,e,f,_,_,c,AS j⟩
theorem a1H(h:Av u)(BV:Bk Fin)(BW:MF L Fin):
 ∀(n:Nat) (T:List Cn) (aR:List (List Int)) (S:List Cn) (aF:List (Int×Int)) (os eT:Nat) (an:Option Nat) (bd:List Value),T.length+Qt (Oc L) aF<=n->T.length<=1000->S.length+T.length+Qt (Oc L) aF<=30000->Fb u aR->HD aR Fin T->DE u R S L=(aR,S.length)->((Wd L Fin aR/\S.length+T.length=YS)\/PQ u R L Fin)->
 eT≠ej/\eT≠pp/\eT≠c0/\eT≠s/\eT≠o/\eT≠q/\eT∉ps/\eT≠iK->eT≠os->
 ∀(m:A6) (t:V) (Q:BM->A6->V->Prop),HZ u R Fin eR fE t ej iK pp os c0 s o q ps aR S aF->t.W eT=some ⟨CL T++bd,true⟩->m 11= .slice (some ⟨eT,0,an⟩) T.length 4->m 16=AA s->m 17= .map (some c0)->m 18=AA pp->m 8=AA ej->m 6=AA iK->
 (∀j au N q8 BX,DE u R N L=(Fin,N.length)->N.length<=30000->(N.length=YS\/PQ u R L Fin)->HZ u R Fin eR fE au ej iK pp BX c0 s o q ps Fin N q8->j 18=AA pp->j 8=AA ej->j 6=AA iK->Q (.Ai 4) j au)->
 (∀j au,PQ u R L Fin->T≠[]->au.W iK=some ⟨[.slice none 0 0,.slice none 0 0,Y 0,.slice none 0 0,Y 0],true⟩->j 6=AA iK->j 7=Y 115->Q .DO j au)->BY U (.loop Us) m t Q:=by
 intro n;induction n with
 | zero=>intro T aR S aF os eT an bd A Aw Ba O P X C w Ax m t Q AB Ay Z AZ Az A4 AD AF A5 AH;obtain rfl:T=[]:=Gy.1 (by omega);refine BU (an:=⟨[],[]⟩) λB0 AJ=> ?_;simp(disch:=first|omega|simp only[DI.A2];omega)[Us,XH,Q1,SW,Rq,Z,-H,-E,-I,-G,-List.map_map];obtain rfl:=P.nil;exact A5 _ _ S aF os X (by omega) (C.imp (λq=>by simpa using q.2) id) AB (by simp[A4]) (by simp[AD]) (by simp[AF])
 | succ n B1=>
   intro T aR S aF os eT an bd A Aw Ba O P X C w Ax m t Q AB Ay Z AZ Az A4 AD AF A5 AH;by_cases D:T=[]
   ·subst D;refine BU (an:=⟨[],[]⟩) λB0 AJ=> ?_;simp(disch:=first|omega|simp only[DI.A2];omega)[Us,XH,Q1,SW,Rq,Z,-H,-E,-I,-G,-List.map_map];obtain rfl:=P.nil;exact A5 _ _ S aF os X (by omega) (C.imp (λq=>by simpa using q.2) id) AB (by simp[A4]) (by simp[AD]) (by simp[AF])
   have Bb:0<T.length:=by
    rcases Ri T.length with q|q
    ·exact absurd (Gy.1 q) D
    ·exact q
   refine BU (an:=⟨[],[P6 s o q ps]⟩) λB0 AJ=> ?_;have Aa:(0:Int)<T.length:=(by omega);simp(disch:=first|omega|simp only[DI.A2];omega)[Us,Z,Bb,-H,-E,-I,-G,-List.map_map];refine⟨rfl,aEW h (R:=R) (Fin:=Fin) (L:=L) (eR:=eR) (fE:=fE) (T:=T) Aw (ej:=ej) (iK:=iK) (pp:=pp) (c0:=c0) (s:=s) (o:=o) (q:=q) (eT:=eT) (ps:=ps) (an:=an) (bd:=bd) (aF:=aF) (uR:=aR) (FD:=S) w (λaR=>Wd L Fin aR\/PQ u R L Fin) (λaR x Ab y=>Ab.imp (λAb=>aC1 Ab y) id) (by omega) T 0 [] aR S os (by simp) (by simp) (by omega) O (by simpa using P) X (by simp) (λ_=>⟨rfl,rfl,by simp⟩) (C.imp And.left id) _ _ _ AB Ax (by simpa using Ay) (by simp) (by simp) (by simp) (by simp) (by simp[AZ]) (by simp[A4]) λJ Bc B2 B3 bG AK Bd AL Be CQ Bf Bh k B5 B6 CS AM K=> ?_⟩;have AN:J 6=AA iK:=(by rw[K 6 (by simp)];simp[AF]);have Ac:J 8=AA ej:=(by rw[K 8 (by simp)];simp[AD]);have B7:J 11= .slice (some ⟨eT,0,an⟩) T.length 4:=(by rw[K 11 (by simp)];simp[Z]);have AO:J 16=AA s:=(by rw[K 16 (by simp)];simp[AZ]);have AP:J 17= .map (some c0):=(by rw[K 17 (by simp)];simp[Az]);have Ad:J 18=AA pp:=(by rw[K 18 (by simp)];simp[A4]);by_cases B8:bG.length=T.length
   ·obtain⟨CU,CV,Bi⟩:=Bf B8;subst B2;subst B3;have BA:PQ u R L Fin:=by
     rcases C with⟨Ae,_⟩|g
     ·exact⟨aR,T,Ae,P,D,Bi⟩
     ·exact g
    have Bj:(bG.length:Int)=T.length:=(by omega);have BB:=k.Jn;have CW:=F BB;have Af:Bc.W eT=some ⟨CL bG++bd,true⟩:=(by rw[B6,B8];simp);have Bl: ∀x∈bG,∃(v:Nat) (r:List Int),x.Au=v/\Fin[v]?=some r:= λx y=>by obtain⟨v,i,B,_,_,⟨r,Bm,_⟩,_⟩:=AL.left x y;exact⟨v,r,B,Bm⟩
    simp(disch:=first|omega|simp only[DI.A2];omega)[XH,AM,B7,Bj,AO,Ac,AP,BB,-H,-E,-I,-G,-List.map_map];refine(aFS (T:=bG) (bd:=bd) (an:=some T.length) O.1 BV (by rw[JX,JV];exact Ao _) (by rw[JX];have:=h.ok.Ek;omega) (by omega) k.Dg Af k.S6 ⟨k.Gg.2.1,k.Gg.2.2.1,k.Gg.2.2.2.1,k.Gg.2.2.2.2⟩ Bl).AG λv a ⟨Bn,CX,BC,Ag⟩=> ?_;have AQ:=k.DW BC (Ag.trans k.S6.symm);have Bo:=B5;rcases Bn with rfl|⟨i,x,d,r,y,BD,AR,BE,Bp,rfl⟩
    ·have BF:=AQ.KV;have Bq:=F BF;simp(disch:=first|omega|simp only[DI.A2];omega)[Q1,SW,Rq,AN,BF,-H,-E,-I,-G,-List.map_map];exact AH _ _ BA D (AT Bq) (by simp[AN]) (by simp)
    ·have Br: ¬(i:Int)<0:=(by omega);have Ah:=(BC eT (F Af)).trans Af;have Bs:=F Ah;have CY:=F (DQ Ag).1;have Bt:=VZ (bd:=bd) y;have CZ:(CL bG++bd).length=bG.length*4+bd.length:=(by rw[Ds,Qn]);have Ca:=(AX.1 y).1;have Aa:(i:Int)<bG.length:=(by omega);have Bu:i*4+4<=(CL bG++bd).length:=(by omega);have Bv:DX (.EF .i64) (.agg #[Y x.Au,Y x.B4]) (FK aF)=true:=qM;have Bx:=uD BD;simp(disch:=first|omega|simp only[DI.A2];omega)[Q1,Br,Q1,AM,Ah,AP,Aa,Bu,Bt,Ag,Bv,Bx,-CT,-DM,-DX,-List.length_append,-H,-E,-I,-G,-List.map_map];have Ak: ∀b,b<a.next->b≠c0->((((a.AE 6).A0 (a.next+4) (some ⟨[Y x.Au,Y x.B4,Y x.BQ,Y x.Bg],true⟩)).Cf c0 (FK (aF++[(x.Au,x.B4)]))).A0 (a.next+4) (some ⟨[Y x.Au,Y x.B4,Y x.BQ,Y (d:Int)],true⟩)).W b=a.W b:= λb hb A=>by
      have BG:b≠a.next+4:=by omega
      rw[A3 BG,H2 A,A3 BG,AU hb]
     have BH:((((a.AE 6).A0 (a.next+4) (some ⟨[Y x.Au,Y x.B4,Y x.BQ,Y x.Bg],true⟩)).Cf c0 (FK (aF++[(x.Au,x.B4)]))).A0 (a.next+4) (some ⟨[Y x.Au,Y x.B4,Y x.BQ,Y (d:Int)],true⟩)).BL c0=some (FK (aF++[(x.Au,x.B4)])):=(by rw[IS (by omega),RX (by simp;omega)]);have AS:((((a.AE 6).A0 (a.next+4) (some ⟨[Y x.Au,Y x.B4,Y x.BQ,Y x.Bg],true⟩)).Cf c0 (FK (aF++[(x.Au,x.B4)]))).A0 (a.next+4) (some ⟨[Y x.Au,Y x.B4,Y x.BQ,Y (d:Int)],true⟩)).W (a.next+4)=some ⟨[Y x.Au,Y x.B4,Y x.BQ,Y (d:Int)],true⟩:=AT (by simp);have Bz:((((a.AE 6).A0 (a.next+4) (some ⟨[Y x.Au,Y x.B4,Y x.BQ,Y x.Bg],true⟩)).Cf c0 (FK (aF++[(x.Au,x.B4)]))).A0 (a.next+4) (some ⟨[Y x.Au,Y x.B4,Y x.BQ,Y (d:Int)],true⟩)).next=a.next+6:=by simp
     generalize(((a.AE 6).A0 (a.next+4) (some ⟨[Y x.Au,Y x.B4,Y x.BQ,Y x.Bg],true⟩)).Cf c0 (FK (aF++[(x.Au,x.B4)]))).A0 (a.next+4) (some ⟨[Y x.Au,Y x.B4,Y x.BQ,Y (d:Int)],true⟩)=z at Ak BH AS Bz⊢;have c:=AQ.a0T Ak BH;have BI:=(Ak eT Bs w.2.2.1).trans Ah;have C0:=F AS;obtain⟨a1,f,C1,Cb,B,A7,C2,Al,Am,AV,A8⟩:=SG (R:=R) (by rw[JX]at AR;exact AR);simp only at B A7 C2 Al Am AV A8;obtain rfl:d=C1:=(by omega);obtain⟨p,A9⟩:=fP (R:=R) c.Dg O Al Am AV A8;have C3:=B9 A9.QQ;simp(disch:=first|omega|simp only[DI.A2];omega)[SW,AO,AS,-H,-E,-I,-G,-List.map_map];rw[B,A7];refine j0 c.Dg A9 ?_;have An:=E5.step (f:=f) (d:=d) (cE:=x.BQ) c.Dg A9.gV A9.QQ;have C4:x.BQ<u.A1.length:=(by have:=A9.jG;rw[JV]at this;exact this);rw[gU Al Am AV C4 A8]at An;have M: ∀b,b<z.next->b∉ps->b≠q->(GK z p q a1 f d x.BQ aR (BZ u aR)).W b=z.W b:= λb hb C5 C6=>XD hb (λe=>C5 (e▸C3)) C6
     have BJ:z.next<=(GK z p q a1 f d x.BQ aR (BZ u aR)).next:=by rw[xi];omega
     have BK:(GK z p q a1 f d x.BQ aR (BZ u aR)).mp c0=z.mp c0:=rfl;have AW:=(M pp (F c.Ij) c.OD.2.2.2.2.2 c.OD.2.2.2.2.1).trans c.Ij;have Ap:=(M AK (F c.LS) c.ds.2.2.2.2 c.ds.2.2.2.1).trans c.LS;have Aq:=(M eT (F BI) w.2.2.2.2.2.2.1 w.2.2.2.2.2.1).trans BI;have C7:a.next+4∉ps:= λAe=>by have:=AQ.Dg.DR.I7 Ae;omega
     have C8:a.next+4≠q:=by have:=F AQ.Dg.Ha;omega
     have Ar:=(M (a.next+4) C0 C7 C8).trans AS;have C9:Fb u (Ci aR a1 f d):=SL O AV;generalize GK z p q a1 f d x.BQ aR (BZ u aR)=AY at An M BJ BK AW Ap Aq Ar⊢;have Cd:=F AW;have Ce:=F Ar;have Cg:=F Ap;have Ch:=F Aq;have CA:=Qn (T:=S);have CB:List.take (S.length*4) (CL S)=CL S:=DV (by omega);have Cj:S.length<=30000:=(by omega);have CC:((S.length+1)*32<=140737488355328/\S.length<=9223372036854775806)/\S.length*4<=(CL S).length:=(by omega);have CD:=c.OD.1;have Ck: ¬AK=pp:= λe=>CD e.symm;have Cl: ¬eT=AK:=Bo;have CE: ¬eT=pp:=w.2.1;have CF:i*4+2+1<=(CL bG++bd).length:=(by omega);have Co:i*4+2<(CL bG++bd).length:=(by omega);have BN: ¬eT=AY.next+4:=by omega
     have Cp: ¬eT=AY.next+3:=by omega
     have CG:=po (bd:=bd) (d:=(d:Int)) y;simp(disch:=first|omega|simp only[DI.A2];omega)[Rq,Ad,AM,AW,Ar,Ap,Aq,CA,CB,CC,Aa,CF,B,A7,-List.map_append,-List.flatten_append,-List.length_append,-H,-E,-I,-G,-List.map_map];have BO:=AL.left x (B9 y);have CH:(d:Int)≠x.Bg:= λe=>by obtain⟨v,dW,CI,Cq,_,⟨Cr,CJ,CK⟩,_⟩:=BO;rw[CI,EE,CJ]at BE;cases BE;exact Bp (e▸B9 CK)
     have BP:Ci aR x.Au.toNat x.B4.toNat (d:Int)=Ci aR a1 f d:=(by rw[B,A7];rfl);have BS:=AL.aAQ y CH;rw[BP]at BS;rw[JX]at AR;have As:=jY X AR;simp only[BP]at As;have CM:(S++[(⟨x.Au,x.B4,x.BQ,d⟩:Cn)]).length=S.length+1:=(by simp);rw[<-CM]at As;have Cs:=zs (a4Q BW BO) BD;have CN:(bG.set i ⟨x.Au,x.B4,d,x.Bg⟩).length=bG.length:=MJ;have CO:CL S++[Y (a1:Int),Y (f:Int),Y x.BQ,Y (d:Int)]=CL (S++[⟨x.Au,x.B4,x.BQ,d⟩]):=(by simp[CL,CR,B,A7]);have Ct:=F AW
     refine AJ _ _ (B1 (bG.set i ⟨x.Au,x.B4,d,x.Bg⟩) (Ci aR a1 f d) (S++[⟨x.Au,x.B4,x.BQ,d⟩]) (aF++[(x.Au,x.B4)]) (AY.next+4) eT (some T.length) bd (by omega) (by omega) (by omega) C9 BS As (.inr BA) w BN _ _ _
      (c.push (dU:=AY.next+4) An M BK BJ (NF _ _) w (λb hb A=> ?_) rfl ?_ ?_) ?_ (by rw[CN];simp) (by simp[AO]) (by simp[AP]) (by simp[Ad]) (by simp[Ac]) (by simp[AN]) A5 λj au At A8=>AH j au At D)
     ·rw[A3 (λe=>A (.inr (.inr e))),A3 (λe=>A (.inr (.inl e))),A3 (by omega),A3 (λe=>A (.inl e)),A3 (by omega),AU hb]
     ·rw[A3 (Ne.symm CE),AT (by simp;omega)]
     ·rw[A3 (Ne.symm BN),A3 (by omega),AT (by simp),CO]
     ·rw[AT (by simp;omega)];exact congrArg (λl=>some (Bw.mk l true)) CG
   ·have CP: ¬(bG.length:Int)=T.length:=(by omega);simp(disch:=first|omega|simp only[DI.A2];omega)[XH,Q1,SW,Rq,AM,B7,CP,-H,-E,-I,-G,-List.map_map];refine AJ _ _ (B1 bG B2 B3 aF AK eT (some T.length) (CL (T.drop bG.length)++bd) (by omega) (by omega) (by omega) Bd AL Be ?_ w B5 _ _ _ k ?_ (by simp) (by simp[AO]) (by simp[AP]) (by simp[Ad]) (by simp[Ac]) (by simp[AN]) A5 λj au At A8=>AH j au At D)
    ·rcases C with⟨_,Cv⟩|g
     ·rcases Bh with g|g
      ·exact .inl ⟨g,by omega⟩
      ·exact .inr g
     ·exact .inr g
    ·rw[B6];simp[CL]
theorem zr{u:AY}(h:Av u){R:List Int}{L:List (List Int)}{ab:List Int}(BL:ab.length=(Bn u R L).length){g1 bl rb By:Nat}{Q:BM->A6->V->Prop}{c:A6}{t0:V}{s:List Nat}
 (g:Dt t0 bl s (List.replicate u.A7.length [])) (AJ:g1≠bl/\rb≠bl/\By≠bl) (y:g1∉s/\rb∉s/\By∉s) (J:t0.W g1=some ⟨[Y u.A7.length,Y u.A5.length],true⟩) (K:t0.W rb=some ⟨Ck (Bn u R L),true⟩) (T:t0.W By=some ⟨ab.map Y,true⟩)
 (M:c 10=AQ By ab.length 1) (z:c 13=AA g1) (A:c 14=AQ bl u.A7.length 1) (B:c 56=AQ rb (Bn u R L).length 4) (w:c 57=Y (Bn u R L).length) (N:c 58=Y 0)
 (Ap: ∀o au AV,Dt au bl AV (Ei u (Bn u R L) ab (Bn u R L).length)->t0.next<=au.next->(∀b,b<t0.next->b≠bl->b∉s->au.W b=t0.W b)->(∀p∈AV,p∈s\/t0.next<=p)->o 1=c 1->o 6=c 6->o 12=c 12->o 14=c 14->Q (.Ai 0) o au):BY U (.loop TM) c t0 Q:=by
 have Aq:=A;have BN:=h.ok.DD;have BO:=h.ok.Ek;have BP:=h.ok.F4;have BQ:=h.ok.Di;have BS:(Bn u R L).length=(B2 u R).length:=by simp[Bn]
 have BU:=dh h.ok (R:=R);refine CE (an:=⟨[eJ,bQ],[]⟩) (λi l t=>(∃ps,Dt t bl ps (Ei u (Bn u R L) ab i)/\(∀p∈ps,p∈s\/t0.next<=p))/\t0.next<=t.next/\(∀b,b<t0.next->b≠bl->b∉s->t.W b=t0.W b)/\l 1=c 1/\l 6=c 6/\l 12=c 12/\l 10=AQ By ab.length 1/\l 13=AA g1/\l 14=AQ bl u.A7.length 1/\l 56=AQ rb (Bn u R L).length 4/\l 57=Y (Bn u R L).length/\l 58=Y i) (Bn u R L).length ?_ ?_ 0 c t0 (C0 _) ⟨⟨s,by simpa[Ei]using g,λp y=> .inl y⟩,Ao _,λb _ _ _=>rfl,rfl,rfl,rfl,M,z,A,B,w,N⟩
 ·rintro i l t Ar ⟨⟨ps,g,C⟩,AK,O,A4,A8,A9,M,z,A,B,w,N⟩ As AW;have At:=F J;have Au:=F K;have Aw:=F T;have J:=(O g1 At AJ.1 y.1).trans J;have K:=(O rb Au AJ.2.1 y.2.1).trans K;have T:=(O By Aw AJ.2.2 y.2.2).trans T;have Ax:g1∉ps:= λm=>(C _ m).elim y.1 λq=>by omega
  have Ay:rb∉ps:= λm=>(C _ m).elim y.2.1 λq=>by omega
  have Az:By∉ps:= λm=>(C _ m).elim y.2.2 λq=>by omega
  obtain⟨a,AL⟩: ∃a,(Bn u R L)[i]?=some a:=⟨_,AS Ar⟩;have AM:=LX AL;have AN:i*4+4<=(Bn u R L).length*4:=(by omega);have AZ:i<ab.length:=(by omega);obtain⟨Aa,Ab⟩:=CF AZ;have Ac: ∀h,ab[i]'h=Aa:= λh=>(AX.1 Ab).2;have AB:=rp (u:=u) AL Ab;have B0:=ph (u:=u) (bG:=Bn u R L) (ab:=ab) i;have Ad:=Th (u:=u) (bG:=Bn u R L) (ab:=ab) i;generalize Ei u (Bn u R L) ab i=S at g AB B0 Ad;obtain⟨⟨BV,BW,BZ,Ba⟩,m⟩:(0<=a.f/\a.f<=506/\0<=a.t/\a.t<=506)/\((∃v d:Nat,v<u.A7.length/\d<u.A1.length/\HJ u.A7.length u.A5.length a.t=d/\JB u.A7.length u.A5.length a.f=v/\2<=u.A5.length)\/HJ u.A7.length u.A5.length a.t= -1):=by
   have P:=AL;unfold Bn at P;rw[GS]at P;cases hb:(B2 u R)[i]? with
   |none=>rw[hb]at P;simp at P
   | some b=>rw[hb]at P;simp only[Option.map_some,GY]at P;subst P;obtain⟨D,AD,_,_⟩:=Sl (u:=u) (L:=L) (a:=b);rw[D,AD];obtain⟨B1,B3⟩:=Xc h.ok (B9 hb);refine⟨B1,B3.imp ?_ id⟩;rintro⟨v,d,AO,Ae,_,_,Af,Ag,B4⟩;exact⟨v,d,AO,Ae,Af,Ag,B4⟩
  have Bb:Mr (u.A7.length,u.A5.length,a.t):=⟨by omega,by simp only;omega,by simp only;omega,by simp only;omega,by simp only;omega,by simp only;omega⟩;have Bc:Mr (u.A7.length,u.A5.length,a.f):=⟨by omega,by simp only;omega,by simp only;omega,by simp only;omega,by simp only;omega,by simp only;omega⟩;have AP:(i:Int)<(Bn u R L).length:=(by omega);have Ah:(i:Int)<ab.length:=(by omega);have Ak:i+1<=ab.length:=AZ;have AR:=BX (n:=i) (by omega);have Bd:=F J;have Be:=F K;have Bf:=F T;have skip:Ei u (Bn u R L) ab (i+1)=S-> ∀(o:A6) (au:V),t.next<=au.next->(∀b,b<t.next->au.W b=t.W b)->(∀j∈[1,6,12,10,13,14,56,57],o j=l j)->o 58=Y (i+1:Nat)->As o au:= λe o au B5 k es B6=>
   AW _ _ ⟨⟨ps,by rw[e];exact g.a3k k,C⟩,Dh AK B5,λb hb AT AF=>(k b (by omega)).trans (O b hb AT AF),(es 1 (by simp)).trans A4,(es 6 (by simp)).trans A8,(es 12 (by simp)).trans A9,(es 10 (by simp)).trans M,(es 13 (by simp)).trans z,(es 14 (by simp)).trans A,(es 56 (by simp)).trans B,(es 57 (by simp)).trans w,B6⟩
  have Al: ∀x b,b<t.next->((t.AE 6).A0 (t.next+3) x).W b=t.W b:= λx b hb=>by rw[A3 (by omega),AU hb]
  rcases m with⟨v,d,AO,Ae,D,AD,Bg⟩|D
  ·have Bh:2<=(u.A5.length:Int)\/a.f<2+u.A7.length:= .inl (by omega);have Bi: ¬(d:Int)<0:=(by omega);by_cases AG:0<Aa
   ·have X:Ei u (Bn u R L) ab (i+1)=S.set v (S.getD v []++[(d:Int)]):=by
     rw[AB];unfold Ly;simp only[D,AD];rw[if_pos ⟨by omega,AG⟩];rfl
    have B7:v<S.length:=(by omega);obtain⟨r,AH⟩:=CF B7;have B8:S.getD v []=r:=(by simp[AH]);rw[B8]at X;obtain⟨p,BA,Z,Am,BB,BC⟩:=g.Hc AH;have Bj:=Ad r (B9 AH);have An:=g.Da;have Bk:=F An;have Bl:=F Am;have BD:(v:Int)<u.A7.length:=(by omega);have Bm:v+1<=u.A7.length:=AO;have BE:(r.length+1)*8<=140737488355328/\r.length<=9223372036854775806:=(by omega);have BF: ¬p=g1:= λe=>Ax (e▸Z);have BG: ¬p=bl:= λe=>g.Gq (e▸Z);have Bo: ¬g1=p:= λe=>BF e.symm;have Bp: ¬bl=p:= λe=>BG e.symm;have BH:List.take r.length (r.map Y)=r.map Y:=DV (by simp);simp(disch:=first|omega|simp only[DI.A2];omega)[TM,M,z,A,B,w,N,J,K,T,AP,Ah,Ak,AR,AM,AN,Cj,D,AD,AG,Ac,CC,BD,An,Am,BB,BC,BE,BH,-H,-E,-I,-G,-List.map_map];have Af: ¬rb=p:= λe=>Ay (e▸Z);have Ag: ¬By=p:= λe=>Az (e▸Z);have BI: ∀{b:Nat},b∈ps.set v (t.next+6+14)->b∈ps\/b=t.next+6+14:= λm=>Qk m
    refine AW _ _ ⟨⟨ps.set v (t.next+6+14),?_,λq BJ=>(BI BJ).elim (λh=>C q h) λe=> .inr (by omega)⟩,by simp;omega,λb hb AT AF=> ?_,by simp[A4],by simp[A8],by simp[A9],by simp[M],by simp[z],by simp[A],by simp[B],by simp[w],by simp⟩
    ·rw[X];refine g.a1x AH BA ⟨by omega,λm=>by have:=g.I7 m;omega⟩ ?_ ?_ λb hb Bq=> ?_
     ·simp(disch:=first|omega|simp only[DI.A2];omega)[-H,-E,-I,-G,-List.map_map]
     ·rw[Ld];simp(disch:=first|omega|simp only[DI.A2];omega)[-H,-E,-I,-G,-List.map_map]
     ·have Br:=g.I7 hb;have BK: ¬b=bl:= λe=>g.Gq (e▸hb);simp(disch:=first|omega|simp only[DI.A2];omega)[-H,-E,-I,-G,-List.map_map]
    ·have Bs:b<t.next:=by omega
     have BK: ¬b=p:= λe=>(C p Z).elim (λq=>AF (e▸q)) λq=>by omega
     refine Eq.trans ?_ (O b hb AT AF);simp(disch:=first|omega|simp only[DI.A2];omega)[-H,-E,-I,-G,-List.map_map]
   ·have X:Ei u (Bn u R L) ab (i+1)=S:=by
     rw[AB];unfold Ly;simp only;rw[if_neg λq=>AG q.2]
    simp(disch:=first|omega|simp only[DI.A2];omega)[TM,M,z,B,w,N,J,K,T,AP,Ah,Ak,AR,AM,AN,Cj,D,AG,Ac,CC,-H,-E,-I,-G,-List.map_map];refine skip X _ _ (by simp) (Al _) (by simp) (by simp)
  ·have X:Ei u (Bn u R L) ab (i+1)=S:=by
    rw[AB];unfold Ly;simp only[D];rw[if_neg λq=>by omega]
   simp(disch:=first|omega|simp only[DI.A2];omega)[TM,z,B,w,N,J,K,AP,AR,AM,AN,Cj,D,-H,-E,-I,-G,-List.map_map];refine skip X _ _ (by simp) (Al _) (by simp) (by simp)
 ·rintro l t ⟨⟨ps,g,C⟩,AK,O,A4,A8,A9,M,z,A,B,w,N⟩;simp(disch:=first|omega|simp only[DI.A2];omega)[TM,w,N,-H,-E,-I,-G,-List.map_map];exact Ap _ _ ps g AK O C (by simp[A4]) (by simp[A8]) (by simp[A9]) (by simp[A,Aq])
theorem yj{S:List Int}: ∀(b:List Int) (a:List Int×List Int),(∃o,(b.foldl (GU S) a).1=a.1++o/\o.length=b.length/\ ∀(i:Nat) x y,b[i]?=some x->o[i]?=some y->(y=x/\0<=x)\/y= -1)/\
 ∀d,d∈(b.foldl (GU S) a).2↔d∈a.2\/(d∈b/\0<=d/\d∈S)
 |[],a=>⟨⟨[],by simp⟩,by simp⟩
 | x::b,a=>by
   obtain⟨⟨o,k,m,n⟩,l⟩:=yj b (GU S a x);rw[IJ];by_cases c:0<=x/\x∈S/\x∉a.2
   ·have e:GU S a x=(a.1++[x],a.2++[x]):=if_pos c;rw[e]at k l⊢;refine⟨⟨x::o,by rw[k];simp,by simp[m],λi y z f g=> ?_⟩,λd=> ?_⟩
    ·cases i with
     |zero=>simp at f g;subst f;subst g;exact .inl ⟨rfl,c.1⟩
     |succ i=>exact n i y z (by simpa using f) (by simpa using g)
    ·rw[l];simp only[Cg,CM,EK,or_false];constructor
     ·rintro((h|rfl)|h)
      ·exact .inl h
      ·exact .inr ⟨.inl rfl,c.1,c.2.1⟩
      ·exact .inr ⟨.inr h.1,h.2⟩
     ·rintro(h|⟨rfl|h,j⟩)
      ·exact .inl (.inl h)
      ·exact .inl (.inr rfl)
      ·exact .inr ⟨h,j⟩
   ·have e:GU S a x=(a.1++[-1],a.2):=if_neg c;rw[e]at k l⊢;refine⟨⟨-1::o,by rw[k];simp,by simp[m],λi y z f g=> ?_⟩,λd=> ?_⟩
    ·cases i with
     |zero=>simp at f g;subst f;subst g;exact .inr rfl
     |succ i=>exact n i y z (by simpa using f) (by simpa using g)
    ·rw[l];simp only[CM];constructor
     ·rintro(h|h)
      ·exact .inl h
      ·exact .inr ⟨.inr h.1,h.2⟩
     ·rintro(h|⟨rfl|h,j⟩)
      ·exact .inl h
      ·refine .inl (TI λq=>c ⟨j.1,j.2,q⟩)
      ·exact .inr ⟨h,j⟩
theorem nY{S:List Int}(j: ∀d∈S,0<=d)(k:S.Nodup): ∀(bd:List Int) (a:List Int×List Int),a.2.Nodup->(∀x∈a.2,x∈S)->(a.1++bd.filter λx=>decide (0<=x)).Perm a.2->(∀x∈bd,x= -1\/0<=x)->a.1.length+bd.length<=S.length->
 ∃o,(bd.foldl (GH S) a).1=a.1++o/\o.length=bd.length/\ ∀(i:Nat) y z,bd[i]?=some y->o[i]?=some z->(0<=y/\z=y)\/(y<0/\z∈S/\z∉a.2)
 |[],a,_,_,_,_,_=>⟨[],by simp⟩
 | x::bd,a,s,t,g,u,l=>by
   rw[IJ];have v: ∀y∈bd,y= -1\/0<=y:= λy b=>u y (by simp[b]);rcases u x (by simp)with rfl|f
   ·have B:a.2.length<S.length:=by
     have m:=g.length_eq;have H:=List.length_filter_le (λx=>decide ((0:Int)<=x)) bd;simp only[Ds,List.filter_cons,Df]at m l;rw[show decide ((0:Int)<= -1)=false from rfl]at m;simp at m;omega
    obtain⟨d,w,A,C⟩:=lL j (by omega:(-1:Int)<0) (o5 k B);rw[show GH S a (-1)=(a.1++[d],a.2++[d]) by simp only[GH,C]];obtain⟨o,n,p,r⟩:=nY j k bd (a.1++[d],a.2++[d]) (by
     simp only[Mz,s,true_and];exact⟨by simp,λx f y b e=>by simp at b;subst b;subst e;exact A f⟩) (λy b=>by
     simp only[Cg,Gw]at b;rcases b with b|rfl
     ·exact t y b
     ·exact w) (by
     have D:(a.1++bd.filter λx=>decide (0<=x)).Perm a.2:=(by simpa using g);have:=(List.perm_append_comm (l₁:=[d]) (l₂:=bd.filter λx=>decide (0<=x))).append_left a.1;simp only[List.append_assoc]at this⊢;refine this.trans ?_;rw[<-List.append_assoc];exact D.append_right [d]) v (by simp at l⊢;omega)
    refine⟨d::o,by rw[n];simp,by simp[p],λi y z b c=> ?_⟩;cases i with
    |zero=>simp at b c;subst b;subst c;exact .inr ⟨by omega,w,A⟩
    | succ i=>
      rcases r i y z (by simpa using b) (by simpa using c)with q|⟨E,F,G⟩
      ·exact .inl q
      ·exact .inr ⟨E,F,λh=>G (by simp[h])⟩
   ·rw[show GH S a x=(a.1++[x],a.2) by simp only[GH,dJ f]];have:(List.filter (λx=>decide (0<=x)) (x::bd))=x::bd.filter (λx=>decide (0<=x)):=(by simp[f]);rw[this]at g;obtain⟨o,n,p,r⟩:=nY j k bd (a.1++[x],a.2) s t (by simpa using g) v (by simp at l⊢;omega);refine⟨x::o,by rw[n];simp,by simp[p],λi y z b c=> ?_⟩;cases i with
    |zero=>simp at b c;subst b;subst c;exact .inl ⟨f,rfl⟩
    |succ i=>exact r i y z (by simpa using b) (by simpa using c)
theorem oD: ∀{bh o f:List Int},o.length=bh.length->f.length=bh.length->(∀(i:Nat) x y z,bh[i]?=some x->o[i]?=some y->f[i]?=some z->(0<=y/\z=x)\/(y<0/\z≠x))->Ea bh f=o.countP λy=>decide (y<0)
 | [],o,f,d,g,_=>by obtain rfl:=Gy.1 d;simp[Ea]
 |x::bh,[],f,d,_,_=>by simp at d
 |x::bh,_::_,[],_,g,_=>by simp at g
 | x::bh,y::o,z::f,d,g,h=>by
   have k:=oD (bh:=bh) (o:=o) (f:=f) (by simpa using d) (by simpa using g) λi a b c l hb m=>h (i+1) a b c (by simpa using l) (by simpa using hb) (by simpa using m);simp only[Ea,PG,k];rcases h 0 x y z rfl rfl rfl with⟨n,j⟩|⟨n,j⟩
   ·rw[if_pos j.symm,if_neg (by simp;omega)];omega
   ·rw[if_neg λe=>j e.symm,if_pos (by simp;omega)];omega
theorem a0O{S a:List Int}(g: ∀d∈S,0<=d)(j:S.Nodup)(H:a.length=S.length):Ea a (HF S a)=S.countP λd=> !a.contains d:=by
 obtain⟨k,v,a3,a4⟩:=bq (S:=S) a ([],[]) List.nodup_nil (by simp) rfl (by simp);obtain⟨⟨o,m,w,A⟩,n⟩:=yj (S:=S) a ([],[]);have I:(Ht S a).1.length=a.length:=by unfold Ht;rw[SQ];simp
 obtain⟨f,p,B,r⟩:=nY g j (Ht S a).1 ([],(Ht S a).2) k (λx b=>(v x b).1) (by simp only[Ni];exact .of_eq a3) a4 (by simp;omega);simp only[Ni]at m p;have s:(Ht S a).1=o:=m;have C:HF S a=f:=p;have D:(o.filter λx=>decide (0<=x))=(Ht S a).2:=by rw[<-s];exact a3
 rw[s]at B r;rw[C,oD w (by omega) λi x y z b t E=> ?_]
 ·have F:o.countP (λy=>decide (y<0))+(o.filter λx=>decide (0<=x)).length=o.length:=by
   rw[<-List.countP_eq_length_filter,List.length_eq_countP_add_countP (λy=>decide (y<0)) (l:=o)];congr 1;refine List.countP_congr λx _=> ?_;simp
  have J:S.countP (λd=> !a.contains d)+S.countP (λd=>a.contains d)=S.length:=(by rw[List.length_eq_countP_add_countP (λd=> !a.contains d) (l:=S)];congr 1;refine List.countP_congr λx _=> ?_;simp);have K:(Ht S a).2.length=S.countP λd=>a.contains d:=by rw[List.countP_eq_length_filter];refine List.Perm.length_eq ((List.perm_ext_iff_of_nodup k (j.filter _)).2 λd=> ?_);rw[List.mem_filter];have:=n d;simp only[EK,false_or]at this;show d∈(Ht S a).2↔_;unfold Ht;rw[this];simp only[UR,Ba];exact⟨λq=>⟨q.2.2,q.1⟩,λq=>⟨q.2,g d q.1,q.1⟩⟩
  rw[D]at F;omega
 ·rcases r i y z t E with⟨h,c⟩|⟨h,c,G⟩
  ·rcases A i x y b t with⟨u,L⟩|u
   ·exact .inl ⟨h,by rw[c,u]⟩
   ·omega
  ·refine .inr ⟨h,λe=>G ?_⟩;subst e;have:=(n z).2 (.inr ⟨B9 b,g z c,c⟩);exact this
theorem sY: ∀{a b:List (List Int)},a.length=b.length->((EY a b:Nat):Int)=Bu (λv=>((Ea (a.getD v []) (b.getD v []):Nat):Int)) a.length:= λ{a b} h=>by
 have key: ∀n,n<=a.length->((EY (a.take n) (b.take n):Nat):Int)=Bu (λv=>((Ea (a.getD v []) (b.getD v []):Nat):Int)) n:=by
  intro n;induction n with
  |zero=>intro _;simp[EY,Bu]
  | succ n e=>intro f;have c:a[n]?=some a[n]:=AS (by omega);have d:b[n]?=some b[n]:=AS (by omega);rw[aH c d,ME,e (by omega),Bu,Dv,Dv,c,d];rfl
 have:=key a.length (Ao _)
 rwa [EP,h,EP,<-h]at this
theorem wh: ∀{xs:List Ae} {fs:List Int},Fu xs fs=CY (λa b=>b*a.k) xs fs
 |[],_=>by simp[Fu,CY]
 |_::_,[]=>by simp[Fu,CY]
 |a::xs,b::fs=>by simp only[Fu,CY,wh (xs:=xs) (fs:=fs)]
theorem rY{g:Ae->Int->Int}{c:Ae->Ae}: ∀{xs:List Ae} {fs:List Int},CY g (xs.map c) fs=CY (λa b=>g (c a) b) xs fs
 |[],_=>by simp[CY]
 |_::_,[]=>by simp[CY]
 |a::xs,b::fs=>by simp only[E1,CY,rY (xs:=xs) (fs:=fs)]
theorem qn(h:BW u){g:List Int}(y:Dr (Dd u R) g):Fu (Bn u R L) g=Bu (λv=>(((D4 u v (B2 u R) g).countP λd=> !(Kk L v).contains d:Nat):Int)) u.A7.length:=by
 rw[wh];unfold Bn;rw[rY];have e: ∀v:Nat,(((D4 u v (B2 u R) g).countP λd=> !(Kk L v).contains d:Nat):Int)=CY (λa b=>if AM u 0<=a.t/\b≠0/\KH u a=v/\(!(Kk L v).contains (a.t-AM u 0))=true then 1 else 0) (B2 u R) g:= λv=>bg;simp only[e];rw[di];refine R5 λi a b r z=> ?_;have hb:=y.ES.2 i a b r z;have m:=B9 r;have A:(Jt u L a).k=if JS u L a=true then 1 else 0:=by
  unfold Jt;split
  ·rfl
  ·exact oG m
 rw[A];by_cases c:AM u 0<=a.t
 ·obtain⟨w,d,B,n,_,rfl⟩:=Q5 h m c;have H:=FN (u:=u) d;have I:b<=1:=hb.2;have s:=Gv h n;have C:0<CJ u d:=by
   rcases Ri (CJ u d)with q|q
   ·rw[q]at s;have:=h.Lv.1;omega
   ·exact q
  have o:HJ u.A7.length u.A5.length (E8 u w d).t=d:=bF;have D:JB u.A7.length u.A5.length (E8 u w d).f=w:=wY C s.1;have E:JS u L (E8 u w d)= !(Kk L w).contains (d:Int):=(by unfold JS;rw[o,D,decide_eq_true (by omega:(0:Int)<=d)];simp);rw[E,Np B (c:=if b≠0/\(!(Kk L w).contains (d:Int))=true then 1 else 0) λv F=> ?_]
  ·by_cases l:(!(Kk L w).contains (d:Int))=true
   ·rw[if_pos l];by_cases x:b=0
    ·simp[x]
    ·rw[if_pos ⟨x,l⟩];omega
   ·rw[if_neg l,if_neg λq=>l q.2];omega
  ·rw[Pj h n];have G:(E8 u w d).t-AM u 0=d:=(by show AM u d-AM u 0=d;omega);rw[G];by_cases p:v=w
   ·subst p;rw[if_pos rfl];by_cases j:b≠0/\(!(Kk L v).contains (d:Int))=true
    ·rw[if_pos j,if_pos ⟨c,j.1,rfl,j.2⟩]
    ·rw[if_neg j,if_neg λq=>j ⟨q.2.1,q.2.2.2⟩]
   ·rw[if_neg p,if_neg λq=>p q.2.2.1.symm]
 ·have:JS u L a=false:=by
   unfold JS;rcases(Xc h m).2 with⟨v,d,F,n,_,rfl,_⟩|o
   ·exact absurd (by show AM u 0<=AM u d;have:=FN (u:=u) d;omega) c
   ·rw[o];simp
  rw[this,Gb λv _=>if_neg λq=>c q.1];simp
theorem aE0{u:AY}(h:BW u){R b:List Int}{L:List (List Int)}(e:EN u L=true)(k:Dr (Dd u R) b)(o:HE u<=value (Dd u R) b):
 DY L (G8 (Ei u (Bn u R L) b (Bn u R L).length) L)=Fu (Bn u R L) b:=by
 obtain⟨l,w⟩:=iq h e k o;have m:L.length=u.A7.length:=by
  by_cases q:L.length=u.A7.length
  ·exact q
  ·rw[Rs q]at e;cases e
 have hb: ∀(v:Nat) s,L[v]?=some s->(s.length:Int)=CS u v:= λv s c=>by
  have hb:HR u v s=true:=by
   cases q:HR u v s with
   |true=>rfl
   |false=>rw[SZ c q]at e;cases e
  simp only[HR,AB,Ba]at hb;exact hb.1
 obtain⟨Fin,p⟩: ∃Fin,Fin=G8 (Ei u (Bn u R L) b (Bn u R L).length) L:=⟨_,rfl⟩;have x: ∀(v:Nat) s,L[v]?=some s->Fin[v]?=some (HF (D4 u v (B2 u R) b) s):= λv s c=>by have j:=(AX.1 c).1;rw[p,G8,List.getElem?_zipWith,w v (by omega),c]
 rw[<-p]at l⊢;unfold DY;have y:Mm L Fin=true:=Qq (by rw[m,l.len]) λv r s z e=>by have H:=l.D8 v s e;have A:=hb v r z;omega
 rw[if_pos y,sY (by rw[m,l.len]),qn h k,m];refine JF λv j=> ?_
 ·obtain⟨s,c⟩: ∃s,L[v]?=some s:=⟨_,AS (by omega)⟩;have t:=x v s c;rw[Dv,Dv,c,t];simp only[L2];have B:Kk L v=s:=by
   unfold Kk;rw[EE,Dv,c];rfl
  have C: ∀d∈D4 u v (B2 u R) b,0<=d:= λd D=>by obtain⟨i,a,I,J,t,K,M,N,O⟩:=T2 D;omega
  have E:s.length=(D4 u v (B2 u R) b).length:=(by have A:=hb v s c;have F:=X2 (f:=PE u R b) (g:=CS u) (n:=u.A7.length) (λv j=>eS h k j) (by rw[<-Rr,<-ck h];exact o);have:=Xd h k j;rw[F v j]at this;omega);rw[B,a0O C (Ug h (λa G=>G) (ZR h)) E]
theorem qm{u:AY}{L:List (List Int)}(a:EN u L=true):L.length=u.A7.length/\ ∀(v:Nat) s,L[v]?=some s->(s.length:Int)=CS u v:=by
 refine⟨?_,λv s b=> ?_⟩
 ·by_cases q:L.length=u.A7.length
  ·exact q
  ·rw[Rs q]at a;cases a
 ·have hb:HR u v s=true:=by
   cases q:HR u v s with
   |true=>rfl
   |false=>rw[SZ b q]at a;cases a
  simp only[HR,AB,Ba]at hb;exact hb.1
end Go.Proofs.YtmmkkggfmigppaaGreat
