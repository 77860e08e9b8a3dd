/- A part of the proof. -/
import Derived.Test.YtmmkkggfmigppaaGreatZdzab
set_option linter.all false
set_option maxRecDepth 20000
set_option maxHeartbeats 16000000
namespace Go.Proofs.YtmmkkggfmigppaaGreat
open Go Go.DI Go.EL
variable{N:List Int}{Q:BM->A2->X->Prop}{W bX cP cz dc e2 fZ fP i f:Nat}{b1 m y:X}{B o:Int->List Int}{n:Bw}{p c7:Int->Int}{v:Value}{x:Option CC}{Hy gO:Int}{l:List CM}{A:A2}{a:Ah}{aH:Int->Nat}
theorem aAf(Ah:n.CE)(Ai:n.AS=W)(Aj:F5 n N)(Ak:E0 n N p)(Al: ∀v,0<=p v/\p v<=1000000)(Am: ∀a∈n.A0,0<=a.k/\a.k<=1000)(Ap: ∀e,-1000<=Dd n e/\Dd n e<=1000)(Aq:FN n N v cP bX cz W b1)(Ar:b1.Y cz=some ⟨An W p,true⟩)(AN:OV B e2 W b1)(A4:QK n B)(As: ∀x,(B x).length<100000){eX p1:Nat}(At:b1.ac<=eX)(Au:b1.ac<=dc)(Av:b1.ac<=p1)
 (Aw:fZ<800000000):
 ∀(k:Nat) (m:X) (A:A2) (b:Nat) (q:List FF) (i c7:Int->Int),q.length+2*iQz (G1 i) W<=k->Aa b1 m->b1.ac<=b->Qk eX dc p1 b W i c7 q m->q.length+iQz (G1 i) W<=fZ->
 EU n N p W i (λx=>BU (c7 x)) q->Xc cP e2 eX dc p1 W A->
 (∀L y D F,Aa b1 y->y.Y eX=some ⟨An W D,true⟩->y.Y dc=some ⟨An W F,true⟩->EU n N p W D (λx=>BU (F x)) []->L 6= .slice (some ⟨eX,0,none⟩) W 1->L 7= .slice (some ⟨dc,0,none⟩) W 1->Q (.Ao 2) L y)->
 Az V (.loop VZ) A m Q:=by
 intro k;induction k with
 | zero=>intro m A b q i c7 Ax G hb f Ay M A5 H;have B0:q=[]:=Ii.1 (by omega);subst B0;refine Bm λB2 A7=> ?_;obtain⟨A8,O,l,I,o⟩:=A5;have J:=f.ct.SO;simp(disch:=first|omega|simp only[A9];omega)[VZ,o,J,WK];exact H _ _ i c7 G f.dT f.aW M (by simp[l]) (by simp[I])
 | succ k AO=>
   intro m A b q i c7 Ax G hb f Ay M A5 H;refine Bm λB2 A7=> ?_;obtain⟨A8,O,l,I,o⟩:=A5;have J:=f.ct.SO;by_cases AA:q=[]
   ·subst AA;simp(disch:=first|omega|simp only[A9];omega)[VZ,o,J,WK];exact H _ _ i c7 G f.dT f.aW M (by simp[l]) (by simp[I])
   have B3:0<q.length:=List.length_pos_iff.2 AA;simp(disch:=first|omega|simp only[A9];omega)[VZ,o,J,WK,B3];refine zS (f.AD ((Aa.refl m).AE 6)).ct AA (by omega) _ λs t AB P AQ B4 AF=> ?_;have Bf:=G.ac
   have B5:=AF.ac
   simp only[B1]at B5;have R:= λc=>AF.Y c;simp only[B1]at R;have Bg:=E J;have Bh:b<m.ac:=by obtain⟨r,hb⟩:=f.ct.Uz;exact E hb
   have B6:=E f.dT;have B7:=E f.aW;have B8:=AF.BY;simp only[B1]at B8;have B9:=f.a9f;have BA:=f.Lq;have BB:=f.a1o;have Bi:=f.a44;have Bj:=f.a0L;have AT:Aa b1 t:=⟨by omega,λc BC=>by rw[R c (by omega) (by omega) (by omega),Ab (by omega),G.Y c BC]⟩;have S:t.Y eX=some ⟨An W i,true⟩:=(by rw[R eX (by omega) (by omega) (by omega),Ab B6];exact f.dT);have BD:t.Y dc=some ⟨An W c7,true⟩:=(by rw[R dc (by omega) (by omega) (by omega),Ab B7];exact f.aW);have Bk:=E S;have AI:=M.tg (ml:=s::P) (λx=>AQ.mem_iff);obtain⟨⟨AK,BE⟩,BF,AU⟩:=AI.Qh s (by simp);have BH:=AQ.length_eq;simp only[DZ]at BH;obtain⟨AV,K⟩:=s;simp only at AK BE BF AU;obtain⟨d,rfl⟩: ∃d:Nat,AV=d:=⟨AV.toNat,by omega⟩;have u:d<W:=(by omega);have AW:d+1<=W:=u;have BI: ∀(g:Int->Int) (x:Nat),x<W->(An W g)[x]?=some (Z (g x)):= λg x BJ=>G5 BJ;have AX:= λg=>BI g d u;have Bl:e2<b1.ac:=by obtain⟨j,w,_⟩:=AN.Y;exact E w
   have AY:Aa b1 (t.A1 (m.ac+4) (some ⟨[Z d,Z K],true⟩)):=AT.A1 (by omega)
   have AZ:Qk eX dc p1 AB W i c7 P (t.A1 (m.ac+4) (some ⟨[Z d,Z K],true⟩)):=
    ⟨by rw[A6 (by omega)];exact S,by rw[A6 (by omega)];exact BD,B4.A1 (by omega) (by omega),B9,BA,BB,by omega,by omega⟩
   have BK: ∃j:List Value,t.Y e2=some ⟨j,true⟩/\ ∃C,j.length=W/\j[d]?=some C/\HU b1 C (B d):=(by obtain⟨j,w,AL,BL⟩:=AN.Y;obtain⟨C,T,U⟩:=BL d u;exact⟨j,AT.some w,C,AL,T,U⟩);obtain⟨j,w,C,AL,T,U⟩:=BK;have Bn:=E w;have BM: ∀h,j[d]'h=C:= λh=>by rw[AP h]at T;simpa using T
   obtain⟨BN,BO⟩:=U.len;by_cases AM:i d<K
   ·simp(disch:=first|omega|simp only[A9];omega)[l,S,u,AW,AX,BG,AM];exact A7 _ _ (AO _ _ AB P i c7 (by omega) AY (by omega) AZ (by omega) (AI.a34 AM) ⟨by simp[A8],by simp[O],by simp[l],by simp[I],by simp[o]⟩ H)
   ·simp(disch:=first|omega|simp only[A9];omega)[O,l,S,u,AW,AX,BG,AM,w,AL,BM,BN,BO];have BQ:i d=K:=(by omega);refine j7 Ah Ai Aj Ak Al Am Ap Aq Ar At Au Av (e2:=e2) (aY:=d) u (nG:=K) (fP:=m.ac+4) (by omega) (by omega) (by omega) (by omega) U (λz A3=>⟨((A4.Qa d ⟨AK,by omega⟩) z A3).1,((A4.Qa d ⟨AK,by omega⟩) z A3).2.1⟩) (As d) Aw (B d).length 0 _ _ AB P i c7 (by omega) AY (by omega) (by omega) AZ (AR (by omega)) (by omega) AI BQ AU (λz A3=>by simp at A3) ⟨by simp[A8],by simp[O],by simp[l],by simp[I],by simp[o]⟩ (by simp) (by simp) (by simp[]) (by simp) (λL y BR AJ D F BS BT BV Bp Bq BW BZ Ba Bb=> ?_);have Bc:EU n N p W D (λx=>BU (F x)) AJ:=by
     refine BW.dq λe Ac Af=> ?_;obtain⟨a,Br,Bd,_⟩:=Kt Ac;obtain⟨z,Ag,Be⟩:=A4.all e (by have:=(Ae.1 Bd).1;exact this);rw[Af]at Ag;have:=Ba z Ag;rw[Be]at this;have:=this Ac;rw[Af];simp only;rw[BZ];exact this
    simp;exact A7 _ _ (AO _ _ BR AJ D F (by omega) BS BT BV (by omega) Bc Bb H)
theorem jn{g a:Int->Int}(h: ∀v:Nat,v<W->g v=a v):An W g=An W a:=by unfold An;apply Ur;intro x b;rw[h x (by simpa using b)]
theorem uZ{W eX:Nat}(p:W<100000){Q:BM->A2->X->Prop}: ∀(r i:Nat) (m:X) (A:A2) (g:Int->Int),i+r=W->m.Y eX=some ⟨An W g,true⟩->(∀v:Nat,v<i->g (v:Int)=Bt)->A 31=Z W->A 32=Z i->A 6= .slice (some ⟨eX,0,none⟩) W 1->
 (∀a,a 0=A 0->a 1=A 1->a 6=A 6->a 7=A 7->Q (.Ao 0) a (m.A1 eX (some ⟨An W (λ_=>Bt),true⟩)))->Az V (.loop c6) A m Q
 | 0,i,m,A,g,q,b,f,c,j,k,l=>by refine Bm λs o=> ?_;have d: ¬i<W:=(by omega);have e:An W g=An W (λ_=>Bt):=jn λv t=>f v (by omega);simp[c6,c,j,d];have:=l (Fg A 33 (.bool false)) (by simp) (by simp) (by simp) (by simp);rw[<-e,Sv b]at this;exact this
 | r+1,i,m,A,g,q,b,f,c,j,k,l=>by
   refine Bm λs o=> ?_;have d:i<W:=(by omega);have u:i+1<=W:=d;have w:=E b;have x:=BZ (n:=i) (by omega);simp[c6,c,j,k,d,u,b,x,La,-FK];refine o _ _ (uZ p r (i+1) _ _ (Ai g i 1099511627776) (by omega) (AR w) (λv t=> ?_) (by simp[c]) (by simp) (by simp[k]) (λa y z B C=> ?_))
   ·by_cases h:(v:Int)=i
    ·rw[h,EY];rfl
    ·rw[Dt h];exact f v (by omega)
   ·rw[Qm];exact l a (by rw[y];simp) (by rw[z];simp) (by rw[B];simp) (by rw[C];simp)
theorem a7C(d:n.CE)(j:n.AS=W)(u:F5 n N)(w:E0 n N p)(z:p n.Ad=0)(A: ∀v,0<=p v/\p v<=1000000)(C: ∀a∈n.A0,0<=a.k/\a.k<=1000)(D: ∀e,-1000<=Dd n e/\Dd n e<=1000)(l:FN n N v cP bX cz W m)(F:m.Y cz=some ⟨An W p,true⟩)(G:OV B e2 W m)(H:QK n B)(I: ∀x,(B x).length<100000):
 At V 242 [AG cP,.slice (some ⟨e2,0,none⟩) W 1] m λr y=>Aa m y/\ ∃(c dc:Nat) (o c7:Int->Int),r= .tuple #[.slice (some ⟨c,0,none⟩) W 1,.slice (some ⟨dc,0,none⟩) W 1]/\m.ac<=c/\m.ac<=dc/\c≠dc/\y.Y c=some ⟨An W o,true⟩/\y.Y dc=some ⟨An W c7,true⟩/\EU n N p W o (λx=>BU (c7 x)) []:=by
 rw[a5g (by simp)];have f:=l.s;have A7:=E f;obtain⟨J,A8⟩:=d.Ad;have AA:=d.Jy;obtain⟨g,K⟩: ∃k:Nat,n.Ad=k:=⟨n.Ad.toNat,by omega⟩;have L:g<W:=by omega
 have M:g+1<=W:=L;have O:n.Ad<(W:Int):=by omega
 have P:n.Ad.toNat=g:=by omega
 have Q:n.AS.toNat=W:=by omega
 have z0:0<=n.AS:=by omega
 have R:n.AS*8<=140737488355328:=by omega
 have S:n.AS<=9223372036854775807:=by omega
 simp(disch:=first|omega|simp only[A9];omega)[jM,f,Q,z0,R,S,PH,-FK];refine uZ (W:=W) (eX:=m.ac+5) (by omega) W 0 _ _ (λ_=>0) (by omega) (by simp(disch:=first|omega|(simp only[Au,B1];omega)) only[AR,A6]) (λv AB=>by omega) (by simp) (by simp) (by simp) (λAD h q i t=> ?_);simp at h q i t;simp(disch:=first|omega|simp only[A9];omega)[f,h,i,J,M,O,P,La,-FK];have T:=EU.Rh d j N z (λx=>BU ((λ_=>(0:Int)) x));have AE:=a6p (Ai (λ_=>Bt) n.Ad 0) W;have AF:W*700001<=700*700001:=KI _ (by omega);refine aAf d j u w A C D l F G H I (eX:=m.ac+5) (dc:=m.ac+11) (p1:=m.ac+14+7) (by omega) (by omega) (by omega) (fZ:=700000000) (by omega) (1+2*iQz (G1 (Ai (λ_=>Bt) n.Ad 0)) W) _ _ (m.ac+14+6) [(n.Ad,0)] (Ai (λ_=>Bt) n.Ad 0) (λ_=>0) (by simp) ?_ (by omega) ⟨?_,?_,⟨?_,⟨[],?_⟩,by omega⟩,by omega,by omega,by omega,by omega,by omega⟩ (by simp;omega) T ⟨by simp[h],by simp[q],by simp[i],by simp[t],by simp⟩ (λAJ AK U X Z A1 A2 A3 A4 A5=> ?_)
 ·exact⟨by simp only[Au,B1];omega,λb hb=>by simp(disch:=first|omega|(simp only[Au,B1];omega)) only[A6,Ab]⟩
 ·simp(disch:=first|omega|(simp only[Au,B1];omega)) only[AR,A6,Ab,K]
 ·simp(disch:=first|omega|(simp only[Au,B1];omega)) only[AR,A6,Ab]
 ·simp(disch:=first|omega|(simp only[Au,B1];omega)) only[AR,DZ,KC]
 ·simp(disch:=first|omega|(simp only[Au,B1];omega)) only[AR,A6];simp[GL,Jg]
 ·simp[A4,A5];exact⟨Z,_,_,⟨rfl,rfl⟩,by omega,by omega,by omega,U,A1,X,A2,A3⟩
def low(d r:Int):Int:=if r<d then r else d
def On(n:Bw)(N:List Int)(d:Int)(l:List CM):Int:=l.foldl (λd e=>low d (AX n N e)) d
theorem rY{n:Bw}{N:List Int}: ∀(l:List CM) (d:Int),(∀e∈l,0<AX n N e)->0<d->0<On n N d l/\On n N d l<=d/\ ∀e∈l,On n N d l<=AX n N e
 |[],d,_,b=>⟨b,FM _,by simp⟩
 | e::l,d,c,b=>by
   have m:=c e (by simp);have f:0<low d (AX n N e):=(by unfold low;split<;>omega);have o:low d (AX n N e)<=d/\low d (AX n N e)<=AX n N e:=(by unfold low;split<;>omega);obtain⟨g,p,h⟩:=rY l (low d (AX n N e)) (λe i=>c e (by simp[i])) f;have j:On n N d (e::l)=On n N (low d (AX n N e)) l:=rfl;rw[j];refine⟨g,by omega,λk a=> ?_⟩;rcases CZ.1 a with rfl|a
   ·omega
   ·exact h k a
structure LF(m y:X)(bX:Nat):Prop where
 ac:m.ac<=y.ac
 Y: ∀c,c<m.ac->c≠bX->y.Y c=m.Y c
theorem LF.trans{a b c:X}(h:LF a b bX)(d:LF b c bX):LF a c bX:=⟨E8 h.ac d.ac,λx e f=>by rw[d.Y x (GV e h.ac) f,h.Y x e f]⟩
theorem LF.p7(h:Aa m y):LF m y bX:=⟨h.ac,λc a _=>h.Y c a⟩
theorem LF.A1(h:LF m y bX):LF m (y.A1 bX x) bX:=⟨h.ac,λc b a=>by rw[A6 a];exact h.Y c b a⟩
theorem tf{n:Bw}(i:n.CE){W:Nat}(F:n.AS=W){N:List Int}(B:F5 n N)(C: ∀a∈n.A0,0<=a.k/\a.k<=1000){v:Value}{cP bX cz dc:Nat}{c7:Int->Int}{b1:X}(j:FN n N v cP bX cz W b1)(hb:b1.Y dc=some ⟨An W c7,true⟩){Q:BM->A2->X->Prop}:
 ∀(l:List CM) (x d:Int) (m:X) (A:A2),Aa b1 m->Gt n (λx=>BU (c7 x)) x l->(∀e∈l,0<AX n N e)->A 0=AG cP->A 1= .slice (some ⟨dc,0,none⟩) W 1->A 2=Z d->A 7=Z x->
 (∀f y,Aa b1 y->f 0=AG cP->f 1= .slice (some ⟨dc,0,none⟩) W 1->f 2=Z (On n N d l)->Q (.Ao 0) f y)->Az V (.loop Yh) A m Q
 | [],x,d,m,A,b,o,p,c,g,q,r,t=>by refine Bm λG D=> ?_;have u:=(j.AD b).s;cases o;simp[Yh,c,r,u];exact t _ _ b (by simp[c]) (by simp[g]) (by simp[q,On])
 | e::l,x,d,m,A,b,o,p,c,g,q,r,t=>by refine Bm λG D=> ?_;have E:=j.AD b;have u:=E.s;have H:=b.some hb;obtain⟨I,h,R,J,K,L⟩:=b7 i o (p e (by simp));obtain⟨S,T⟩:=K;obtain⟨k,rfl⟩: ∃k:Nat,x=k:=⟨x.toNat,by omega⟩;have w:k<W:=(by omega);have M:k+1<=W:=w;have O:(An W c7)[k]?=some (Z (c7 k)):=G5 w;simp[Yh,c,g,r,u,I,H,O,BG,w,M];refine hG i B E (z:=c7 k) (by rw[<-h];exact L) C _ λU P=> ?_;rw[<-h];simp[q];exact D _ _ (tf i F B C j hb l _ (low d (AX n N e)) _ _ (b.trans P) J (λe h=>p e (by simp[h])) (by simp[c]) (by simp[g]) (by simp[low]) (by simp) t)
theorem qN{n:Bw}(w:n.CE){W:Nat}(AQ:n.AS=W)(A8: ∀a∈n.A0,0<=a.k/\a.k<=1000){v:Value}{cP bX cz dc:Nat}{c7:Int->Int}{d:Int}(AA:0<=d)(AB:cP≠bX)(AE: ∀b l c,v= .slice (some ⟨b,0,none⟩) l c->b≠bX)(AF:dc≠bX){b1:X}{Q:BM->A2->X->Prop}:
 ∀(l:List CM) (x:Int) (N:List Int) (m:X) (A:A2),LF b1 m bX->Gt n (λx=>BU (c7 x)) x l->F5 n N->(∀e∈l,0<AX n N e/\d<=AX n N e)->(l.map Prod.fst).Nodup->FN n N v cP bX cz W m->m.Y dc=some ⟨An W c7,true⟩->
 A 0=AG cP->A 1= .slice (some ⟨dc,0,none⟩) W 1->A 2=Z d->A 12=Z x->
 (∀g y,LF b1 y bX->y.Y bX=some ⟨(G6 N l d).map (Value.int .i64 ·),true⟩->g 2=Z d->Q (.Ao 2) g y)->Az V (.loop aJ) A m Q
 | [],x,N,m,A,I,J,B,K,F,r,hb,o,G,t,L,M=>by refine Bm λAI AJ=> ?_;have O:=r.s;cases J;simp[aJ,o,L,O];exact M _ _ I r.f (by simp[t])
 | e::l,x,N,m,A,I,J,B,K,F,r,hb,o,G,t,L,M=>by
   refine Bm λAI AJ=> ?_;have O:=r.s;obtain⟨p,C⟩:=K e (by simp);obtain⟨AR,u,Aq,AT,AU,H⟩:=b7 w J p;obtain⟨Ar,As⟩:=AU;obtain⟨k,rfl⟩: ∃k:Nat,x=k:=⟨x.toNat,by omega⟩;have P:k<W:=(by omega);have AV:k+1<=W:=P;have AW:(An W c7)[k]?=some (Z (c7 k)):=G5 P;obtain⟨a,j,R,q⟩:=Kt p;have AK: ∀h,N[e.1]'h=j:= λh=>by rw[AP h]at q;simpa using q
   have AY:=bB B p AA C;have AZ:(push N e d).length=N.length:=cu;simp only[Dl,J9]at F;have Aa: ∀D∈l,0<AX n (push N e d) D/\d<=AX n (push N e d) D:=(by intro D AL;rw[Tf (λh=>F.1 (CG.2 ⟨D,AL,h⟩))];exact K D (by simp[AL]));simp(disch:=first|omega|simp only[A9];omega)[aJ,o,G,L,O,AR,hb,AW,BG,P,AV];refine hG w B r (z:=c7 k) (by rw[<-u];exact H) A8 _ λAb S=> ?_;rw[<-u];have T:=r.AD S;have AM:=T.s;have U:=T.f;have Ae:=S.some hb;have At:=E U;have Af:=T.hN AB AE AZ;have next: ∀(g:A2) (y:X),y=Ab.A1 bX (some ⟨(push N e d).map (Value.int .i64 ·),true⟩)->g 0=AG cP->g 1= .slice (some ⟨dc,0,none⟩) W 1->g 2=Z d->g 12=Z (B2 n e)->AI g y:=by intro g y Ag Ah Ai Aj Ak;subst Ag;refine AJ _ _ (qN w AQ A8 AA AB AE AF l _ (push N e d) _ g ((I.trans (.p7 S)).A1) AT AY Aa F.2 Af (by rw[A6 AF];exact Ae) Ah Ai Aj Ak M)
   have Au:=B.2 _ a j R q;have Av:=(w.Gu a (B5 R)).2.2;have Aw:=w.Gf;have AN:=H;have Ax:N.length=n.A0.length:=B.1;unfold AX at p C;simp only[R,q]at p C;have Al:push N e d=N.set e.1 (if e.2 then j+d else j-d):=(by unfold push;rw[q]);rw[Al,<-dV]at next
   rcases Tu (c7 k)with⟨i,A3,AO,Am,A4⟩|⟨i,A3,AO,A4⟩
   ·rw[A4]at u;subst u;simp only[if_true]at p C next H AN q
    have A5:IntKind.i64.wrap (j+d)=j+d:=Ac (by omega) (by omega);have A7:c7 k<N.length:=(by omega);have z3:i+1<=N.length:=(by omega);have z4:i<N.length:=(by omega);simp(disch:=first|omega|simp only[A9];omega)[o,t,AM,BG,U,A3,Am,AK,A5,A7,z3];exact next _ _ rfl (by simp[o]) (by simp[G]) (by simp[t]) (by simp)
   ·rw[A4]at u;subst u;simp only[E3,if_false]at p C next H AN q
    have A5:IntKind.i64.wrap (j-d)=j-d:=Ac (by omega) (by omega);have Ap:IntKind.i64.wrap (i:Int)=i:=Ac (by omega) (by omega);have A7:(i:Int)<N.length:=(by omega);have z3:i+1<=N.length:=(by omega);have z4:i<N.length:=(by omega);simp(disch:=first|omega|simp only[A9];omega)[o,t,AM,BG,U,A3,AO,AK,A5,Ap,A7,z3];exact next _ _ rfl (by simp[o]) (by simp[G]) (by simp[t]) (by simp)
theorem aBJ(o:n.CE)(p:n.AS=W)(q: ∀a∈n.A0,0<=a.k/\a.k<=1000)(t:F5 n N)(h:FN n N v cP bX cz W m)(hb:m.Y dc=some ⟨An W c7,true⟩)(A:cP≠bX)(B: ∀b l c,v= .slice (some ⟨b,0,none⟩) l c->b≠bX)(C:dc≠bX)
 (u:Gt n (λx=>BU (c7 x)) n.Aq l) (g: ∀e∈l,0<AX n N e) (D:(l.map Prod.fst).Nodup) (E:0<Hy):
 At V 243 [AG cP,.slice (some ⟨dc,0,none⟩) W 1,Z Hy] m λr y=> ∃d,r=Z d/\0<d/\d<=Hy/\(∀e∈l,0<AX n N e/\d<=AX n N e)/\LF m y bX/\y.Y bX=some ⟨(G6 N l d).map (Value.int .i64 ·),true⟩:=by
 rw[a2d (by simp)];have F:=h.s;obtain⟨G,H,i⟩:=rY (n:=n) (N:=N) l Hy g E;simp[jY,F];refine tf o p t q h hb l n.Aq Hy _ _ (Aa.refl _) u g (by simp) (by simp) (by simp) (by simp) (λQ I j w J K=> ?_);have z:=h.AD j;have L:=z.s;simp[w,L];refine qN o p q (d:=On n N Hy l) (by omega) A B C (b1:=m) l n.Aq N I _ (.p7 j) u t (λe f=>⟨g e f,i e f⟩) D z (j.some hb) (by simp[w]) (by simp[J]) (by simp[K]) (by simp) (λR S M O P=> ?_);simp[P];exact⟨G,H,λa=>⟨λf=>⟨g _ f,i _ f⟩,λf=>⟨g _ f,i _ f⟩⟩,M,O⟩
noncomputable def aF:CF:= .FW [
 ⟨0,some 60,none,.FA (.tmp 13),[]⟩,
 ⟨1,some 61,none,.H0 0 (.tmp 15),[]⟩,
 ⟨2,some 62,none,.EO false 1 (.tmp 61),[]⟩,
 ⟨3,some 63,none,.FA (.tmp 13),[]⟩,
 ⟨4,some 64,none,.H0 0 (.tmp 15),[]⟩,
 ⟨5,some 65,none,.EO false 1 (.tmp 64),[]⟩,
 ⟨6,some 66,none,.He 1 (.tmp 63) (.tmp 65),[]⟩,
 ⟨7,some 67,none,.EO false 1 (.tmp 66),[]⟩,
 ⟨8,some 68,none,.FA (.tmp 14),[]⟩,
 ⟨9,some 69,none,.Hg 1 1 [.int .i64 0] [(0,1,.tmp 68)],[]⟩,
 ⟨10,some 70,none,.app 1 8 (.tmp 67) (.tmp 69),[(.tmp 61,.tmp 67)]⟩,
 ⟨11,some 71,none,.He 1 (.tmp 60) (.tmp 62),[]⟩,
 ⟨12,none,none,.store 1 (.tmp 71) (.tmp 70),[]⟩]
noncomputable def bM:CF:= .FW [
 ⟨0,some 72,none,.FA (.tmp 13),[]⟩,
 ⟨1,some 73,none,.H0 1 (.tmp 15),[]⟩,
 ⟨2,some 74,none,.EO false 1 (.tmp 73),[]⟩,
 ⟨3,some 75,none,.FA (.tmp 13),[]⟩,
 ⟨4,some 76,none,.H0 1 (.tmp 15),[]⟩,
 ⟨5,some 77,none,.EO false 1 (.tmp 76),[]⟩,
 ⟨6,some 78,none,.He 1 (.tmp 75) (.tmp 77),[]⟩,
 ⟨7,some 79,none,.EO false 1 (.tmp 78),[]⟩,
 ⟨8,some 80,none,.FA (.tmp 14),[]⟩,
 ⟨9,some 81,none,.Jf .sub .Q2 (.const (.int .i64 (-1))) (.tmp 80),[]⟩,
 ⟨10,some 82,none,.Hg 1 1 [.int .i64 0] [(0,1,.tmp 81)],[]⟩,
 ⟨11,some 83,none,.app 1 8 (.tmp 79) (.tmp 82),[(.tmp 73,.tmp 79)]⟩,
 ⟨12,some 84,none,.He 1 (.tmp 72) (.tmp 74),[]⟩,
 ⟨13,none,none,.store 1 (.tmp 84) (.tmp 83),[]⟩]
theorem mf:hR=(
 .El (
 .FW [
  ⟨0,some 56,none,.Jf .lss .Q2 (.tmp 55) (.tmp 54),[]⟩]) (
 .El (
 .HP (.tmp 56) (
  .skip) (
  .Ao 0)) (
 .El (
 .block 1 (
 .El (
 .FW [
  ⟨0,some 57,none,.FA (.tmp 55),[]⟩,
  ⟨1,some 58,none,.He 4 (.tmp 53) (.tmp 55),[]⟩,
  ⟨2,some 59,none,.EO true 4 (.tmp 58),[]⟩,
  ⟨3,some 15,none,.It [.int .i64 0,.int .i64 0,.int .i64 0,.int .i64 0],[]⟩,
  ⟨4,some 14,none,.FA (.tmp 57),[]⟩,
  ⟨5,none,none,.store 4 (.tmp 15) (.tmp 59),[]⟩]) (
 .El (
 aF) (
 bM)))) (
 .FW [
  ⟨0,some 85,none,.Jf .add .Q2 (.tmp 55) (.const (.int .i64 1)),[]⟩,
  ⟨1,some 55,none,.FA (.tmp 85),[]⟩])))
 :CF):=rfl
theorem a57(A7:n.CE)(A8:n.AS=W){r:Nat}(AA:i<2500)
 (v:m.Y fP=some ⟨BC a,true⟩) (s:Fu o cz W r aH m) (H:cz<r) (I:r<=m.ac) (X:n.Ci a.f) (A0:(o a.f).length<=100000) (w: ∀k:Nat,k<W->o k≠[]->aH k≠fP) (AB:fP≠cz)
 (J:A 13= .slice (some ⟨cz,0,none⟩) W 1) (K:A 15=AG fP) (L:A 14=Z i)
 (x: ∀M y N,(∀t,t<60->M t=A t)->m.ac<=y.ac->(∀b,b<m.ac->b≠cz->(∀k:Nat,k<W->o k≠[]->b≠aH k)->y.Y b=m.Y b)->Fu (Ai o a.f (o a.f++[(i:Int)])) cz W r N y->(∀k:Nat,k<W->Ai o a.f (o a.f++[(i:Int)]) k≠[]->N k≠fP)->Q .CK M y):Az V aF A m Q:=by
 obtain⟨O,AD⟩:=X;obtain⟨k,A1⟩: ∃k:Nat,a.f=k:=⟨a.f.toNat,by omega⟩;have P:a.f<(W:Int):=by omega
 have R:a.f.toNat=k:=by omega
 have e:k<W:=by omega
 have S:k+1<=W:=e;rw[A1]at x A0;have z:=s.N2;have p:(GY W o aH)[k]?=some (Ew (o k) (aH k)):=UU e;have T: ∀h,(GY W o aH)[k]'h=Ew (o k) (aH k):= λh=>by rw[AP h]at p;simpa using p
 have AE:IntKind.i64.wrap (-1-(i:Int))= -1-(i:Int):=Ac (by omega) (by omega);have AF:=E z;have AI:=E v;by_cases d:o k=[]
 ·have B:Ew (o k) (aH k)= .slice none 0 0:=(by unfold Ew;rw[if_pos d]);rw[B]at p T;have q:=Oh (W:=W) (o:=o) (aH:=aH) (k:=k) (b:=m.ac+10) (l:=o k++[(i:Int)]) (by simp);have C:(o k++[(i:Int)]).length=1:=(by rw[d];rfl);rw[C]at q;simp(disch:=first|omega|simp only[A9];omega)[aF,J,K,L,v,z,O,P,R,p,BG,BC,S,q,Cq];refine x _ _ (Ai aH k (m.ac+10)) (λt A2=>by simp(disch:=omega) only[D3]) (by simp only[Au,B1];omega) (λc D F u=>by simp(disch:=first|omega|(simp only[Au,B1];omega)) only[A6,Ab]) (s.app H e (by omega) I ?_ ?_ ?_) ?_
  ·simp(disch:=first|omega|(simp only[Au,B1];omega)) only[AR]
  ·simp(disch:=first|omega|(simp only[Au,B1];omega)) only[AR,A6];rw[d];rfl
  ·intro c D F _;simp(disch:=omega) only[A6,Ab]
  ·intro j G g;unfold Ai at g⊢;split
   ·omega
   ·rename_i h;rw[if_neg h]at g;exact w j G g
 ·have B:Ew (o k) (aH k)= .slice (some ⟨aH k,0,none⟩) (o k).length 1:=(by unfold Ew;rw[if_neg d]);rw[B]at p T;have q:=Oh (W:=W) (o:=o) (aH:=aH) (k:=k) (b:=m.ac+10) (l:=o k++[(i:Int)]) (by simp);have C:(o k++[(i:Int)]).length=(o k).length+1:=(by simp);rw[C]at q;obtain⟨U,AJ⟩:=s.Y k e d;have AK:=E U;have AL:cz≠aH k:=(by omega);have A3:fP≠aH k:= λh=>w k e d h.symm;have A4:((o k).length+1)*8<=140737488355328:=(by omega);have A5:(o k).length+1<=9223372036854775807:=(by omega);have z3:((o k).map (Value.int .i64 ·)).take (o k).length=(o k).map (Value.int .i64 ·):=DP (by simp);simp(disch:=first|omega|simp only[A9];omega)[aF,J,K,L,v,z,O,P,R,p,BG,BC,S,q,Cq,bne_iff_ne,U,A3,A4,A5,z3];refine x _ _ (Ai aH k (m.ac+10)) (λt A2=>by simp(disch:=omega) only[D3]) (by simp only[Au,B1];omega) (λc D F u=>by have:=u k e d;simp(disch:=first|omega|(simp only[Au,B1];omega)) only[A6,Ab]) (s.app H e (by omega) I ?_ ?_ ?_) ?_
  ·simp(disch:=first|omega|(simp only[Au,B1];omega)) only[AR]
  ·simp(disch:=first|omega|(simp only[Au,B1];omega)) only[AR,A6];simp
  ·intro c D F u;have:=u d;simp(disch:=omega) only[A6,Ab]
  ·intro j G g;unfold Ai at g⊢;split
   ·omega
   ·rename_i h;rw[if_neg h]at g;exact w j G g
theorem a3T(A7:n.CE)(A8:n.AS=W){q:Nat}(AA:i<2500)
 (u:m.Y fP=some ⟨BC a,true⟩) (r:Fu o cz W q aH m) (G:cz<q) (H:q<=m.ac) (X:n.Ci a.t) (A0:(o a.t).length<=100000) (v: ∀k:Nat,k<W->o k≠[]->aH k≠fP) (AB:fP≠cz)
 (I:A 13= .slice (some ⟨cz,0,none⟩) W 1) (J:A 15=AG fP) (K:A 14=Z i)
 (w: ∀L y M,(∀t,t<72->L t=A t)->m.ac<=y.ac->(∀b,b<m.ac->b≠cz->(∀k:Nat,k<W->o k≠[]->b≠aH k)->y.Y b=m.Y b)->Fu (Ai o a.t (o a.t++[(-1-(i:Int))])) cz W q M y->(∀k:Nat,k<W->Ai o a.t (o a.t++[(-1-(i:Int))]) k≠[]->M k≠fP)->Q .CK L y):Az V bM A m Q:=by
 obtain⟨N,AD⟩:=X;obtain⟨k,A1⟩: ∃k:Nat,a.t=k:=⟨a.t.toNat,by omega⟩;have O:a.t<(W:Int):=by omega
 have P:a.t.toNat=k:=by omega
 have e:k<W:=by omega
 have R:k+1<=W:=e;rw[A1]at w A0;have x:=r.N2;have g:(GY W o aH)[k]?=some (Ew (o k) (aH k)):=UU e;have S: ∀h,(GY W o aH)[k]'h=Ew (o k) (aH k):= λh=>by rw[AP h]at g;simpa using g
 have T:IntKind.i64.wrap (-1-(i:Int))= -1-(i:Int):=Ac (by omega) (by omega);have AE:=E x;have AF:=E u;by_cases d:o k=[]
 ·have z:Ew (o k) (aH k)= .slice none 0 0:=(by unfold Ew;rw[if_pos d]);rw[z]at g S;have p:=Oh (W:=W) (o:=o) (aH:=aH) (k:=k) (b:=m.ac+11) (l:=o k++[(-1-(i:Int))]) (by simp);have B:(o k++[(-1-(i:Int))]).length=1:=(by rw[d];rfl);rw[B]at p;simp(disch:=first|omega|simp only[A9];omega)[bM,I,J,K,u,x,N,O,P,g,BG,BC,R,p,T,Cq];refine w _ _ (Ai aH k (m.ac+11)) (λt A2=>by simp(disch:=omega) only[D3]) (by simp only[Au,B1];omega) (λc C D s=>by simp(disch:=first|omega|(simp only[Au,B1];omega)) only[A6,Ab]) (r.app G e (by omega) H ?_ ?_ ?_) ?_
  ·simp(disch:=first|omega|(simp only[Au,B1];omega)) only[AR]
  ·simp(disch:=first|omega|(simp only[Au,B1];omega)) only[AR,A6];rw[d];rfl
  ·intro c C D _;simp(disch:=omega) only[A6,Ab]
  ·intro j F f;unfold Ai at f⊢;split
   ·omega
   ·rename_i h;rw[if_neg h]at f;exact v j F f
 ·have z:Ew (o k) (aH k)= .slice (some ⟨aH k,0,none⟩) (o k).length 1:=(by unfold Ew;rw[if_neg d]);rw[z]at g S;have p:=Oh (W:=W) (o:=o) (aH:=aH) (k:=k) (b:=m.ac+11) (l:=o k++[(-1-(i:Int))]) (by simp);have B:(o k++[(-1-(i:Int))]).length=(o k).length+1:=(by simp);rw[B]at p;obtain⟨U,AI⟩:=r.Y k e d;have AJ:=E U;have AK:cz≠aH k:=(by omega);have A3:fP≠aH k:= λh=>v k e d h.symm;have A4:((o k).length+1)*8<=140737488355328:=(by omega);have A5:(o k).length+1<=9223372036854775807:=(by omega);have z3:((o k).map (Value.int .i64 ·)).take (o k).length=(o k).map (Value.int .i64 ·):=DP (by simp);simp(disch:=first|omega|simp only[A9];omega)[bM,I,J,K,u,x,N,O,P,g,BG,BC,R,p,T,Cq,bne_iff_ne,U,A3,A4,A5,z3];refine w _ _ (Ai aH k (m.ac+11)) (λt A2=>by simp(disch:=omega) only[D3]) (by simp only[Au,B1];omega) (λc C D s=>by have:=s k e d;simp(disch:=first|omega|(simp only[Au,B1];omega)) only[A6,Ab]) (r.app G e (by omega) H ?_ ?_ ?_) ?_
  ·simp(disch:=first|omega|(simp only[Au,B1];omega)) only[AR]
  ·simp(disch:=first|omega|(simp only[Au,B1];omega)) only[AR,A6];simp
  ·intro c C D s;have:=s d;simp(disch:=omega) only[A6,Ab]
  ·intro j F f;unfold Ai at f⊢;split
   ·omega
   ·rename_i h;rw[if_neg h]at f;exact v j F f
theorem pD{n:Bw}(p:n.CE){W:Nat}(G:n.AS=W){v:Value}{cz bc:Nat}{b1:X}(P:Dc b1 v n.A0)(H:cz<bc)(R: ∀b l c,v= .slice (some ⟨b,0,none⟩) l c->b<bc/\b≠cz){Q:BM->A2->X->Prop}:
 ∀(r i:Nat) (m:X) (A:A2) (o:Int->List Int) (aH:Int->Nat),i+r=n.A0.length->bc<=m.ac->(∀b,b<bc->b≠cz->m.Y b=b1.Y b)->Fu o cz W bc aH m->Nh n i o->
 A 53=v->A 54=Z n.A0.length->A 55=Z i->A 13= .slice (some ⟨cz,0,none⟩) W 1->
 (∀w y o' I,(∀t,t<14->w t=A t)->m.ac<=y.ac->(∀b,b<bc->b≠cz->y.Y b=b1.Y b)->Fu o' cz W bc I y->Nh n n.A0.length o'->Q (.Ao 0) w y)->Az V (.loop hR) A m Q
 | 0,i,m,A,o,aH,A4,A5,z,h,s,J,B,C,D,K=>by refine Bm λA7 S=> ?_;have F: ¬i<n.A0.length:=(by omega);obtain rfl:i=n.A0.length:=(by omega);simp[mf,B,C];exact K _ _ o aH (λt u=>by simp(disch:=omega) only[D3]) (Aj _) z h s
 | r+1,i,m,A,o,aH,A4,A5,z,h,s,J,B,C,D,K=>by
   refine Bm λA7 S=> ?_;have F:i<n.A0.length:=(by omega);obtain⟨a,L⟩: ∃a,n.A0[i]?=some a:=⟨n.A0[i]'F,by simp⟩;obtain⟨c,An,rfl,A8⟩:=P.BY F;obtain⟨AA,AB⟩:=R _ _ _ rfl;have M:=z c AA AB;rw[A8]at M;have hb:i*4+4<=n.A0.length*4:=(by omega);have AF:=Il L;have Ap:=p.Gf;obtain⟨AI,AJ,a3,a4⟩:=p.Gu a (B5 L);have AK:=BZ (n:=i) (by omega);have Aq:=E M;simp(disch:=first|omega|simp only[A9];omega)[mf,J,B,C,F,M,hb,AF,BC];have AL: ∀b x,m.Y b=some x->((m.AE 6).A1 (m.ac+3) (some ⟨[Z a.f,Z a.t,Z a.c,Z a.k],true⟩)).Y b=some x:= λb x hb=>by have:=E hb;rw[A6 (by omega),Ab this,hb]
   have N: ∀k:Nat,k<W->o k≠[]->aH k<m.ac/\bc<=aH k:= λk d e=>⟨E (h.Y k d e).1,(h.Y k d e).2⟩
   have Ar:=E h.N2;refine a57 (a:=a) (o:=o) (aH:=aH) (fP:=m.ac+3) (i:=i) p G (by omega) (AR (by simp)) (h.AD AL) H (by simp only[Au,B1];omega) AI (by have:=s.len a.f;omega) (λk d e=>by have:=N k d e;omega) (by omega) (by simp[D]) (by simp) (by simp) λAM AN T g AO U A3 AP=> ?_;simp only[Au,B1]at AO;simp only[Nn];have AQ:AN.Y (m.ac+3)=some ⟨BC a,true⟩:=by rw[U _ (by simp only[Au,B1];omega) (by omega) (λk d e=>by have:=N k d e;omega)];exact AR (by simp)
   refine a3T (a:=a) (aH:=T) (fP:=m.ac+3) (i:=i) p G (by omega) AQ A3 H (by omega) AJ (by have:=s.len a.t;have:= @X6 o a.f (i:Int) a.t;omega) AP (by omega) (by rw[g 13 (by omega)];simp[D]) (by rw[g 15 (by omega)];simp) (by rw[g 14 (by omega)];simp) λj AT AU AV As AW AX At=> ?_;have q: ∀t,t<60->j t=AM t:= λt u=>AV t (by omega);have AY:j 55=Z i:=(by rw[q 55 (by omega),g 55 (by omega)];simp[C]);have AZ:j 53= .slice (some ⟨c,0,none⟩) n.A0.length 4:=(by rw[q 53 (by omega),g 53 (by omega)];simp[J]);have Aa:j 54=Z n.A0.length:=(by rw[q 54 (by omega),g 54 (by omega)];simp[B]);have Ac:j 13= .slice (some ⟨cz,0,none⟩) W 1:=(by rw[q 13 (by omega),g 13 (by omega)];simp[D]);have Ae: ∀t,t<14->j t=A t:= λt u=>by rw[q t (by omega),g t (by omega)];simp(disch:=omega) only[D3]
   simp[AY,AK];have Af: ∀k:Nat,k<W->Ai o a.f (o a.f++[(i:Int)]) k≠[]->bc<=T k:= λk d e=>(A3.Y k d e).2;refine S _ _ (pD p G P H R r (i+1) AT _ _ AU (by omega) (by omega) (λb Ag O=> ?_) AX (s.step L (by omega)) (by simp[AZ]) (by simp[Aa]) (by simp) (by simp[Ac]) (λw y o' I Ah Av Ak Al Am=>K w y o' I (λt u=> ?_) (by omega) Ak Al Am))
   ·rw[AW b (by omega) O (λk d e=>by have:=Af k d e;omega),U b (by simp only[Au,B1];omega) O (λk d e=>by have:=N k d e;omega)];rw[A6 (by omega),Ab (by omega)];exact z b Ag O
   ·rw[Ah t u];simp(disch:=omega) only[D3];exact Ae t u
def JE(W:Nat)(p:Int->Int):List Int:=(List.range W).map λ(x:Nat)=>p x
theorem oM:(JE W p).length=W:=by simp[JE]
theorem rg:An W p=(JE W p).map (Value.int .i64 ·):=by simp[An,JE]
theorem a64{a:Int->Int}{b v:Int}:p v+(if b<a v then b else a v)=H3 p a b v:=by unfold H3;split<;>split<;>omega
theorem xN{n:Bw}(j:n.CE){W:Nat}(P:n.AS=W){N:List Int}{v:Value}{cP bX cz et eX:Nat}{p bd:Int->Int}(G: ∀v,0<=p v/\p v<=1000000)(l: ∀v,0<=bd v/\bd v<=Bt)(H:cP≠cz)(I:et≠cz)(J:eX≠cz){Q:BM->A2->X->Prop}:
 ∀(r i:Nat) (m:X) (A:A2) (g:Int->Int),i+r=W->m.Y cP=some ⟨[Z n.AS,Z n.Ad,Z n.Aq,v,.slice (some ⟨bX,0,none⟩) N.length 1,.slice (some ⟨cz,0,none⟩) W 1],true⟩->m.Y et=some ⟨Cd n v,true⟩->m.Y eX=some ⟨An W bd,true⟩->m.Y cz=some ⟨An W g,true⟩->
 (∀v:Nat,v<W->g (v:Int)=if v<i then H3 p bd (bd n.Aq) v else p v)->A 2=AG et->A 12=AG cP->A 16= .slice (some ⟨eX,0,none⟩) W 1->A 94= .slice (some ⟨eX,0,none⟩) W 1->A 95=Z W->A 96=Z i->
 (∀b,(∀t,t<18->b t=A t)->Q (.Ao 4) b (m.A1 cz (some ⟨An W (H3 p bd (bd n.Aq)),true⟩)))->Az V (.loop cc) A m Q
 | 0,i,m,A,g,R,o,s,u,c,d,w,y,z,B,f,C,D=>by
   refine Bm λS K=> ?_;have a: ¬i<W:=(by omega);have e:An W g=An W (H3 p bd (bd n.Aq)):=jn λv F=>by rw[d v F,if_pos (by omega)]
   simp[cc,f,C,a];have:=D (Fg A 97 (.bool false)) (λt L=>by simp(disch:=omega) only[D3]);rw[<-e,Sv c]at this;exact this
 | r+1,i,m,A,g,R,o,s,u,c,d,w,y,z,B,f,C,D=>by
   refine Bm λS K=> ?_;have a:i<W:=(by omega);have T:i+1<=W:=a;have U:=E c;have AJ:=j.Jy;obtain⟨A0,AK⟩:=j.Aq;obtain⟨k,A3⟩: ∃k:Nat,n.Aq=k:=⟨n.Aq.toNat,by omega⟩;have t3:n.Aq.toNat=k:=(by omega);have t4:k<W:=(by omega);have A4:n.Aq<(W:Int):=(by omega);have A5:k+1<=W:=t4;have M: ∀(g:Int->Int) (x:Nat),x<W->(An W g)[x]?=some (Z (g x)):= λg x A7=>G5 A7;have A8:= λg=>M g k t4;have A9:= λg=>M g i a;have AA:g (i:Int)=p i:=(by rw[d i a,if_neg (by omega)]);have AL:=G i;have AB:=l i;have AD:=l n.Aq;unfold Bt at AB AD;have AE:(k:Int)=n.Aq:=A3.symm;have AF:=BZ (n:=i) (by omega);have AI:IntKind.i64.wrap (p i+(if bd n.Aq<bd i then bd n.Aq else bd i))=H3 p bd (bd n.Aq) i:=by rw[a64];refine Ac ?_ ?_<;>(unfold H3;split<;>omega)
   simp[cc,w,y,z,B,f,C,a,T,o,s,u,c,A0,t3,A4,A5,A8,A9,AA,AE,BG,AF,AI,La,-FK];refine K _ _ (xN j P G l H I J r (i+1) _ _ (Ai g i (H3 p bd (bd n.Aq) i)) (by omega) (by rw[A6 H];exact o) (by rw[A6 I];exact s) (by rw[A6 J];exact u) (AR U) (λv F=> ?_) (by simp[w]) (by simp[y]) (by simp[z]) (by simp[B]) (by simp[f]) (by simp) (λb q=> ?_))
   ·by_cases h:v=i
    ·subst h;rw[EY,if_pos (by omega)]
    ·rw[Dt (by omega),d v F];by_cases O:v<i
     ·rw[if_pos O,if_pos (by omega)]
     ·rw[if_neg O,if_neg (by omega)]
   ·rw[Qm];exact D b (λt L=>by rw[q t L];simp(disch:=omega) only[D3])
theorem aC7(j:n.CE)(AE:n.AS=W)(U: ∀a∈n.A0,0<=a.k/\a.k<=1000)(AV: ∀e,-1000<=Dd n e/\Dd n e<=1000){et bc:Nat}(BW:b1.ac<=bX)(BY:b1.ac<=cz)(AW:cP≠bX)(A3: ∀b l c,v= .slice (some ⟨b,0,none⟩) l c->b≠bX/\b≠cz)(AX:cz≠bX)(BZ:bX<bc)(Av:et≠bX)(AF:cP≠cz)(AY:et≠cz)(Ba:cz<bc)(Aw:e2≠bX)(Ax:e2≠cz)
 (AI:Nh n n.A0.length B) {g:List Int} (AZ:DT n g) (Bb:gO<=value n g):
 ∀(A4:Nat) (left:Int) (N:List Int) (p:Int->Int) (m:X) (A:A2),left<=A4->0<=left->DT n N->0<=value n N->value n N=gO-left->E0 n N p->p n.Ad=0->(∀v,0<=p v/\p v<=p n.Aq)->p n.Aq<=1000*W->Aa b1 m->FN n N v cP bX cz W m->m.Y cz=some ⟨An W p,true⟩->Fu B e2 W bc aH m->m.Y et=some ⟨Cd n v,true⟩->
 A 1=Z left->A 2=AG et->A 12=AG cP->A 13= .slice (some ⟨e2,0,none⟩) W 1->
 (∀A5 y A7 A8,Aa b1 y->DT n A7->value n A7=gO->E0 n A7 A8->(∀v,0<=A8 v/\A8 v<=1000000)->FN n A7 v cP bX cz W y->y.Y cz=some ⟨An W A8,true⟩->y.Y et=some ⟨Cd n v,true⟩->A5 2=AG et->A5 12=AG cP->Q (.Ao 2) A5 y)->Az V (.loop Ux) A m Q:=by
 intro A4;induction A4 with
 | zero=>intro left N p m A Ay B0 t B1 B2 D AJ A9 B3 L C F AA M O P G AK AB;obtain rfl:left=0:=(by omega);have B4:=j.Jy;refine Bm λAb AL=> ?_;simp[Ux,O];exact AB _ _ N p L t (by omega) D (λv=>by have:=A9 v;omega) C F M (by simp[P]) (by simp[G])
 | succ A4 B5=>
   intro left N p m A Ay B0 t B1 B2 D AJ A9 B3 L C F AA M O P G AK AB;have B4:=j.Jy;have R: ∀v,0<=p v/\p v<=1000000:= λv=>by have:=A9 v;omega
   by_cases B6:left=0
   ·refine Bm λAb AL=> ?_;subst B6;simp[Ux,O];exact AB _ _ N p L t (by omega) D R C F M (by simp[P]) (by simp[G])
   refine Bm λAb AL=> ?_;have Ae:0<left:=(by omega);have B7:=AA.h5;have B8:QK n B:=⟨λx _ z B9=>AI.Qa x z B9,λe BA=>AI.all e BA⟩;simp[Ux,O,G,AK,Ae];refine(a7C j AE t.Da D AJ R U AV C F B7 B8 (λx=>by have:=AI.len x;have:=j.Gf;omega)).AD λr S BB=> ?_;obtain⟨H,Af,dc,i,c7,rfl,Bc,Bd,Be,BC,BD,u⟩:=BB;have I:=C.AD H;have BE:=H.some F;have AM:Fu B e2 W bc aH S:=AA.AD (λb x hb=>H.some hb);have Ag:=H.some M;have Bf:=E F;have Bg:=E C.f;have Bh:=E C.s;have Bi:=L.ac
   have Bj:=H.ac
   have AN:=u.QW (by omega) (λv=>(R v).1) (λe=>(AV e).2) (λv=>(R v).2);have Ah:GM i n.Aq=true:=by
    cases Ai:GM i n.Aq
    ·have Bk:=AN.Ti j t Ai;have Bl:=JL j AZ AN.Ad Ai;omega
    ·rfl
   have AO:=NV.1 Ah;obtain⟨l,AP,BF,Aj⟩:=AN.path Ah;have Bn:=u.cap _ AO;have Bo:=u.DY n.Aq;simp[];refine xN j AE (p:=p) (bd:=i) (N:=N) (v:=v) (cP:=cP) (bX:=bX) (cz:=cz) (et:=et) (eX:=Af) R (λv=>⟨u.DY v,u.Hj v⟩) AF AY (by omega) W 0 S _ p (by omega) I.s Ag BC BE (λv Bp=>by simp) (by simp[P]) (by simp[G]) (by simp) (by simp) (by simp) (by simp) (λA5 q=> ?_);have Ak:=q 1 (by omega);have Al:=q 2 (by omega);have AQ:=q 12 (by omega);have Am:=q 13 (by omega);have Ap:=q 17 (by omega);simp[O,P,G,AK]at Ak Al AQ Am Ap;simp[Ak,AQ,Ap];have BG:FN n N v cP bX cz W (S.A1 cz (some ⟨An W (H3 p i (i n.Aq)),true⟩)):=by
    refine⟨by rw[A6 AF];exact I.s,?_,by rw[A6 (Ne.symm AX)];exact I.f⟩;rcases I.a with h|⟨b,o,w,J⟩
    ·exact .inl h
    ·exact .inr ⟨b,o,w,by rw[A6 (A3 _ _ _ w).2];exact J⟩
   refine(aBJ j AE U t.Da BG (dc:=dc) (c7:=c7) (by rw[A6 (by omega)];exact BD) AW (λb l c h=>(A3 b l c h).1) (by omega) AP BF Aj (Hy:=left) Ae).AD λr Ar BH=> ?_;obtain⟨d,rfl,Bq,Br,BI,As,BJ⟩:=BH;have T:=Xf j t AP (d:=d) (by omega) BI Aj;have Bs:=MU j T.1;have Bt:=MU j t;have Bu:=MU j AZ;have BK:(G6 N l d).length=N.length:=(by rw[T.1.Da.1,t.Da.1]);have BL:=As.ac
   have AT:=As.Y;simp only[Au]at BL AT;have BM:IntKind.i64.wrap (left-d)=left-d:=Ac (by omega) (by omega);have Bv:=E M;have Bw:=E AA.N2;simp[BM];have BN:=u.uB D AO;have BO:=u.HK D AO AP (FM _);have AU: ∀v,H3 p i (i n.Aq) v=p v+(if i v<i n.Aq then i v else i n.Aq):= λv=>rfl;have At:H3 p i (i n.Aq) n.Aq=p n.Aq+i n.Aq:=(by rw[AU];split<;>omega);have BQ:H3 p i (i n.Aq) n.Ad=0:=(by rw[AU,u.Ad,AJ];split<;>omega);have K: ∀c,c<S.ac->c≠bX->c≠cz->Ar.Y c=S.Y c:= λc BR BS BT=>by rw[AT c BR BS,A6 BT]
   refine AL _ _ (B5 (left-d) (G6 N l d) (H3 p i (i n.Aq)) Ar _ (by omega) (by omega) T.1 (by rw[T.2];omega) (by rw[T.2];omega) (BN.push BO d) BQ (λv=> ?_) (by rw[At];omega) ⟨by omega,λc BU=> ?_⟩ ⟨?_,?_,BJ⟩ ?_ ?_ ?_ (by simp) (by simp[Al]) (by simp[AQ]) (by simp[Am]) AB)
   ·rw[At,AU];have:=A9 v;have:=u.DY v;split<;>omega
   ·rw[K c (by omega) (by omega) (by omega),H.Y c (by omega),L.Y c BU]
   ·rw[K cP (by omega) AW AF,BK];exact I.s
   ·rcases I.a with h|⟨b,o,w,J⟩
    ·exact .inl h
    ·exact .inr ⟨b,o,w,by rw[K b (E J) (A3 _ _ _ w).1 (A3 _ _ _ w).2];exact J⟩
   ·rw[AT cz (by omega) AX,AR (by omega)]
   ·refine⟨by rw[K e2 (by omega) Aw Ax];exact AM.N2,λk U BV=> ?_,AM.inj⟩;obtain⟨w,J⟩:=AM.Y k U BV;exact⟨by rw[K _ (E w) (by omega) (by omega)];exact w,J⟩
   ·rw[K et (by omega) Av AY];exact Ag
theorem bR:Ik n=true↔n.CE/\ ∀a∈n.A0,GC a=true:=by simp only[Ik,AF,BR,QJ];exact⟨λh=>⟨h.2,h.1⟩,λh=>⟨h.2,h.1⟩⟩
theorem o9(h:GC a=true):0<=a.k/\a.k<=1000:=by simp[GC]at h;omega
theorem X5(h: ∀a∈n.A0,0<=a.k/\a.k<=1000)(e:CM): -1000<=Dd n e/\Dd n e<=1000:=by
 unfold Dd;split
 ·rename_i a b;have:=h a (B5 b);split<;>omega
 ·omega
def tB(n:Bw)(gO:Int)(m:X)(r:Value)(y:X):Prop:=Aa m y/\ ∃g a,Nm n g a/\
 ((value n g<gO/\r= .tuple #[.slice none 0 0,Z 0,.slice none 0 0,Z 12])\/
  (gO<=value n g/\ ∃bX cz N p,r= .tuple #[.slice (some ⟨bX,0,none⟩) N.length 1,Z (Eg n.A0 N),.slice (some ⟨cz,0,none⟩) n.AS.toNat 1,Z 0]/\m.ac<=bX/\m.ac<=cz/\cz≠bX/\y.Y bX=some ⟨N.map (Value.int .i64 ·),true⟩/\y.Y cz=some ⟨(JE n.AS.toNat p).map (Value.int .i64 ·),true⟩/\DT n N/\value n N=gO/\E0 n N p/\ ∀v,0<=p v/\p v<=1000000))
theorem tX(G:Ik n=true)(H:Dc m v n.A0)(U:n.A0.length<1000000000)(B6:0<=gO):At V 201 [Ic n v,Z gO] m (tB n gO m):=by
 rw[aAM (by simp)];obtain⟨AI,AJ⟩:=H.len;have X:Aa m ((m.AE 5).A1 m.ac (some ⟨Cd n v,true⟩)):=((Aa.refl m).AE 5).A1 (Aj _);simp(disch:=first|omega|simp only[A9];omega)[hC];refine(q9 (H.AD X) U).AD λr AK I=> ?_;obtain⟨rfl,A2⟩:=I;have u:=X.trans A2;have J:AK.Y m.ac=some ⟨Cd n v,true⟩:=A2.some (AR (by simp))
 have B7:=E J;have B8:=u.ac
 have q: ¬gO<0:=by omega
 obtain⟨g,AL⟩:=bR.1 G;have t: ∀a∈n.A0,0<=a.k/\a.k<=1000:= λa q=>o9 (AL a q);have A3:=H.AD u;obtain⟨W,A4⟩: ∃W:Nat,n.AS=W:=⟨n.AS.toNat,by have:=g.Lq;omega⟩;have K:n.AS.toNat=W:=by omega
 have B9:=g.Jy;have BA:=g.Gf;simp[G,J,q];refine(zm g A3).AD λr d I=> ?_;obtain⟨L,M,A5,BB,BC,rfl,_,_,_,_,_,O⟩:=I;have AM:=O.OH;have P:=L.some J;have BD:=E P;have Q:=A3.AD L;have R:=u.trans L;have AN:=R.ac
 by_cases S:value n M<gO
 ·simp(disch:=first|omega|simp only[A9];omega)[S];exact⟨R,M,A5,O,.inl ⟨S,rfl⟩⟩
 have z0:0<=n.AS:=by omega
 have AO:n.AS*24<=140737488355328:=by omega
 have AP:n.AS*8<=140737488355328:=by omega
 have AQ:n.AS<=9223372036854775807:=by omega
 have z3:(n.A0.length:Int)*8<=140737488355328:=by omega
 have z4:(n.A0.length:Int)<=9223372036854775807:=by omega
 have BE:n.A0.length*8<=140737488355328:=by omega
 have BF:n.A0.length<=9223372036854775807:=by omega
 simp(disch:=first|omega|simp only[A9];omega)[P,S,AI,AJ,K,z0,AO,AP,AQ,z3,z4,PH,-FK];obtain⟨AT,BG⟩:=eP g;have AU:E0 n (List.replicate n.A0.length 0) (λ_=>0):=E0.zero g (λa q=>(t a q).1);generalize p:((((((d.AE 11).A1 (d.ac+4) (some ⟨An n.A0.length (λ_=>0),true⟩)).A1 (d.ac+7) (some ⟨An W (λ_=>0),true⟩)).A1 (d.ac+9) (some ⟨[Z n.AS,Z n.Ad,Z n.Aq,v,.slice (some ⟨d.ac+4,0,none⟩) n.A0.length 1,.slice (some ⟨d.ac+7,0,none⟩) W 1],true⟩)).AE 4).A1 (d.ac+11+2) (some ⟨List.replicate W (Value.slice none 0 0),true⟩))=j;have AN:j.ac=d.ac+15:=by rw[<-p];simp
 have A7:Aa d j:=⟨by omega,λb hb=>by rw[<-p];simp(disch:=first|omega|(simp only[Au,B1];omega)) only[A6,Ab]⟩;have AV:j.Y (d.ac+9)=some ⟨[Z n.AS,Z n.Ad,Z n.Aq,v,.slice (some ⟨d.ac+4,0,none⟩) n.A0.length 1,.slice (some ⟨d.ac+7,0,none⟩) W 1],true⟩:=by rw[<-p];simp(disch:=first|omega|(simp only[Au,B1];omega)) only[AR,A6,Ab]
 have AW:j.Y (d.ac+4)=some ⟨An n.A0.length (λ_=>0),true⟩:=by rw[<-p];simp(disch:=first|omega|(simp only[Au,B1];omega)) only[AR,A6,Ab]
 have AX:j.Y (d.ac+7)=some ⟨An W (λ_=>0),true⟩:=by rw[<-p];simp(disch:=first|omega|(simp only[Au,B1];omega)) only[AR,A6,Ab]
 have AY:j.Y (d.ac+13)=some ⟨List.replicate W (Value.slice none 0 0),true⟩:=by rw[<-p];simp(disch:=first|omega|(simp only[Au,B1];omega)) only[AR]
 have AZ:List.replicate W (Value.slice none 0 0)=GY W (λ_=>[]) (λ_=>0):=by apply Lu<;>simp[GY,Ew]
 have A8: ∀b l c,v= .slice (some ⟨b,0,none⟩) l c->b<d.ac:=by
  intro b l c i;rcases Q with⟨h,_⟩|⟨BH,o,h,hb⟩
  ·rw[h]at i;cases i
  ·rw[h]at i;cases i;exact E hb
 refine pD g A4 (v:=v) (cz:=d.ac+13) (bc:=d.ac+15) (b1:=j) (Q.AD A7) (by omega) (λb l c i=>by have:=A8 b l c i;omega) n.A0.length 0 j _ (λ_=>[]) (λ_=>0) (by omega) (by omega) (λ_ _ _=>rfl) ⟨by rw[AY,AZ],λk t Ae=>absurd rfl Ae,λk BI t BJ BK Af=>absurd rfl Af⟩ ⟨λx z Ag=>by simp at Ag,λe i=>by omega,λx=>by simp⟩ (by simp) (by simp[]) (by simp) (by simp) (λw y o' BL A BM B Ah Ai=> ?_);have Ak:w 1=Z gO:=by rw[A 1 (by omega)];simp
 have Al:w 2=AG m.ac:=by rw[A 2 (by omega)];simp
 have Am:w 12=AG (d.ac+9):=by rw[A 12 (by omega)];simp
 have Ap:w 13= .slice (some ⟨d.ac+13,0,none⟩) W 1:=by rw[A 13 (by omega)];simp
 have T:Aa d y:=⟨by omega,λb hb=>by rw[B b (by omega) (by omega),A7.Y b hb]⟩;have Ar:FN n (List.replicate n.A0.length 0) v (d.ac+9) (d.ac+4) (d.ac+7) W y:=by refine⟨by rw[B _ (by omega) (by omega),AV,Ov],Q.AD T,?_⟩;rw[B _ (by omega) (by omega),AW,<-PH,List.map_replicate]
 simp;refine aC7 g A4 t (X5 t) (v:=v) (cP:=d.ac+9) (bX:=d.ac+4) (cz:=d.ac+7) (e2:=d.ac+13) (et:=m.ac) (bc:=d.ac+15) (b1:=d) (by omega) (by omega) (by omega) (λb l c i=>by have:=A8 b l c i;omega) (by omega) (by omega) (by omega) (by omega) (by omega) (by omega) (by omega) (by omega) Ai AM (gO:=gO) (by omega) gO.toNat gO (List.replicate n.A0.length 0) (λ_=>0) y _ (by omega) (by omega) AT (by omega) (by omega) AU rfl (λv=>by simp) (by show(0:Int)<=_;omega) T Ar (by rw[B _ (by omega) (by omega),AX]) Ah (T.some P) (by simp[Ak]) (by simp[Al]) (by simp[Am]) (by simp[Ap]) (λBO BQ C As Av AA Aw Ax Ay D Az B0 B2 AB=> ?_);have AF:=D.s;simp[B0,B2,AB,AF];refine(a3g (n:=n) (N:=C) D.a (.inr ⟨_,_,rfl,D.f⟩) U).AD λr BR B3=> ?_;obtain⟨rfl,F⟩:=B3;have B4:=F.some AF;have B5:Jn n C=(Eg n.A0 C,true):=by simp[Jn,rW g AA,G]
 simp[AB,B4,B5];have BS:=u.ac
 refine⟨R.trans (Av.trans F),M,A5,O,.inr ⟨by omega,d.ac+4,d.ac+7,C,As,by rw[K],by omega,by omega,by omega,F.some D.f,?_,AA,Aw,Ax,Ay⟩⟩;rw[K,<-rg];exact F.some Az
structure HQ(n:Bw)(gO:Int)(N:List Int)(p:Int->Int):Prop where
 OH:DT n N
 val:value n N=gO
 Ti:E0 n N p
 g3: ∀v,0<=p v/\p v<=1000000
def N0(t:X)(N ps:List Int):X:=(((t.AE 1).A1 t.ac (some ⟨N.map (Value.int .i64 ·),true⟩)).AE 1).A1 (t.ac+1) (some ⟨ps.map (Value.int .i64 ·),true⟩)
def aCU(n:Bw)(gO:Int)(t:X)(v:Value)(a:X):Prop:= ∃g b,Nm n g b/\
 ((value n g<gO/\v= .tuple #[.slice none 0 0,Z 0,.slice none 0 0,Z 12]/\a=t)\/
  (gO<=value n g/\ ∃N p,HQ n gO N p/\v= .tuple #[.slice (some ⟨t.ac,0,none⟩) N.length 1,Z (Eg n.A0 N),.slice (some ⟨t.ac+1,0,none⟩) n.AS.toNat 1,Z 0]/\a=N0 t N (JE n.AS.toNat p)))
theorem a4q(x: ∀(v:Value) (m:X),Dc m v n.A0->At V f [Ic n v,Z gO] m (tB n gO m))(z:n.A0≠[]){t:X}{o:Nat}(A:t.Y o=some ⟨BI n.A0,true⟩):
 Bh V f [.agg #[Z n.AS,Z n.Ad,Z n.Aq,.slice (some ⟨o,0,none⟩) n.A0.length 4],Z gO] t (aCU n gO t):= λB u AA m i C=>by
 obtain⟨AB,AE,rfl,D,E⟩:=C.eS;obtain rfl:=E.DF rfl;obtain⟨b,w,F,G,rfl⟩:=sC i z A D;refine(qm (m:=m) (pJ:=b) (m8:=⟨BI n.A0,w⟩) F G (a7:= λr y=> ∃g a,Nm n g a/\((value n g<gO/\r= .tuple #[.slice none 0 0,Z 0,.slice none 0 0,Z 12])\/(gO<=value n g/\ ∃bX cz N p,r= .tuple #[.slice (some ⟨bX,0,none⟩) N.length 1,Z (Eg n.A0 N),.slice (some ⟨cz,0,none⟩) n.AS.toNat 1,Z 0]/\m.ac<=bX/\m.ac<=cz/\cz≠bX/\y.Y bX=some ⟨N.map (Value.int .i64 ·),true⟩/\y.Y cz=some ⟨(JE n.AS.toNat p).map (Value.int .i64 ·),true⟩/\HQ n gO N p))) (λp AK H=> ?_)).AD λr y I=> ?_
 ·refine(x _ p (.inr ⟨b,w,rfl,H⟩)).AD λr AL c=> ?_;obtain⟨j,g,a,e,c⟩:=c;refine⟨⟨j.ac,j.Y⟩,λAM _ k=>⟨g,a,e,c.imp id λh=> ?_⟩⟩;obtain⟨d,bX,cz,N,q,J,AN,AO,K,L,M,O,P,Q,R⟩:=h;exact⟨d,bX,cz,N,q,J,by omega,by omega,K,k _ _ L,k _ _ M,O,P,Q,R⟩
 ·obtain⟨l,s,g,a,e,c⟩:=I;rcases c with⟨d,rfl⟩|⟨d,bX,cz,N,q,rfl,S,T,U,W,A1,A2⟩
  ·obtain⟨A3,A4⟩:=hI i (h7:=t.ac) l s;exact⟨B,u,_,_,⟨g,a,e,.inl ⟨d,rfl,rfl⟩⟩,A3,AJ.tuple (AJ.cons (.BP rfl) (AJ.cons (.BP rfl) (AJ.cons (.BP rfl) (AJ.cons (.BP rfl) AJ.nil)))),A4⟩
  ·obtain⟨A5,A6,A7,A8,A9⟩:=uA i l s S T U W A1 (dA _) (dA _);refine⟨A5,u,_,_,⟨g,a,e,.inr ⟨d,N,q,A2,rfl,rfl⟩⟩,A6,AJ.tuple (AJ.cons (.slice A8) (AJ.cons (.BP rfl) (AJ.cons (.slice A9) (AJ.cons (.BP rfl) AJ.nil)))),A7⟩
open Go Go.DI Go.Big Go.EL
variable{L:List (List Int)}{u:AL}{R:List Int}
theorem P8:(H7 u L a).f=a.f/\(H7 u L a).t=a.t/\(H7 u L a).c=a.c/\((H7 u L a).k=a.k\/(H7 u L a).k=1):=by
 unfold H7;split
 ·exact⟨rfl,rfl,rfl,.inr rfl⟩
 ·exact⟨rfl,rfl,rfl,.inl rfl⟩
theorem pA(h:a∈Ak u R):a.k=0:=by
 rcases P2.1 h with⟨v,e,b⟩|⟨d,c,rfl⟩
 ·rcases MB.1 b with rfl|⟨j,f,rfl⟩|⟨d,c,g,rfl⟩<;>rfl
 ·rfl
theorem XK(h:BS u)(R:List Int)(L:List (List Int)):(C9 u R L).CE:=by obtain⟨c,d,a3,a4,e,f,g⟩:=R7 h R;refine⟨c,d,by simpa[C9,As,D0]using a3,a4,e,f,λa i=> ?_⟩;obtain⟨b,hb,rfl⟩:=CG.1 i;have:=g b hb;obtain⟨j,k,l,_⟩:=P8 (u:=u) (L:=L) (a:=b);simp only[Bw.mY,Bw.Ci,j,k,l]at this⊢;exact this
theorem IU:(DT (C9 u R L) N↔DT (D0 u R) N)/\(DT (D0 u R) N->value (C9 u R L) N=value (D0 u R) N):=by
 have h:(D0 u R).A0.map (λa=>(a.f,a.t))=(C9 u R L).A0.map (λa=>(a.f,a.t)):=by simp only[D0,C9,As,List.map_map];refine Ur λa _=> ?_;obtain⟨k,l,_,_⟩:=P8 (u:=u) (L:=L) (a:=a);simp only[Function.comp,k,l]
 have e: ∀(i:Nat) a b,(D0 u R).A0[i]?=some a->(C9 u R L).A0[i]?=some b->a.c=b.c:= λi a b d hb=>by simp only[C9,As,GX,KH]at hb;obtain⟨c,e,rfl⟩:=hb;simp only[D0]at d;rw[d]at e;cases e;exact(P8 (u:=u) (L:=L) (a:=a)).2.2.1.symm
 refine⟨⟨λg=>(hJ (n:=C9 u R L) (ho:=D0 u R) rfl rfl rfl h.symm (λi a b d hb=>by rw[e i b a hb d];exact FM _) g).1,λg=>(hJ (n:=D0 u R) (ho:=C9 u R L) rfl rfl rfl h (λi a b d hb=>by rw[e i a b d hb];exact FM _) g).1⟩,
  λg=>(hJ (n:=D0 u R) (ho:=C9 u R L) rfl rfl rfl h (λi a b d hb=>by rw[e i a b d hb];exact FM _) g).2⟩
theorem oC(h:BS u)(R:List Int)(L:List (List Int))(e: ∀a∈Ak u R,a.c<=1000000):Ik (C9 u R L)=true:=by refine bR.2 ⟨XK h R L,λa f=> ?_⟩;obtain⟨b,hb,rfl⟩:=CG.1 f;obtain⟨_,_,g,d⟩:=P8 (u:=u) (L:=L) (a:=b);have i:=pA hb;have:=e b hb;unfold GC;rcases d with d|d<;>simp[g,d,i]<;>omega
theorem rv(h:BS u)(g:a∈Ak u R):a.c<=1000000:=by
 rcases P2.1 g with⟨v,b,i⟩|⟨d,e,rfl⟩
 ·rcases MB.1 i with rfl|⟨j,m,rfl⟩|⟨d,e,n,rfl⟩
  ·obtain⟨p,_,_,_,f,o⟩:=SH h b;simp only[FI,AF,BW]at f;obtain⟨k,l,_⟩:=f;have:=FV k;have:=FV l;simp only[FR];omega
  ·have:=og h b (j+1);simp only[I3];omega
  ·simp[D8]
 ·have:=Wp h R e;simp only[HX];omega
end Go.Proofs.YtmmkkggfmigppaaGreat
