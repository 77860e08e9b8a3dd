/- A part of the proof. -/
import Derived.Test.YtmmkkggfmigppaaGreatZdzaf
set_option linter.all false
set_option maxRecDepth 20000
set_option maxHeartbeats 16000000
namespace Go.Proofs.YtmmkkggfmigppaaGreat
open Go Go.DI Go.Big
def KK(v:Value):Prop:= ∀(g ja:C0) (K:Be) (w:Value),AY g K v w->AY ja K v w
variable{v w:Value}{o n f:Nat}{K:Be}{g ja:C0}{k l args:List Value}{aH:List (List Value)}{bH t:X}{P:Program}{bs:Nat->List (List Value)}{r:Nat->Value}{L br:List (List Int)}{R:List Int}{u:AL}
theorem mB(h:BJ v=true):KK v:= λg ja K w a=>by obtain rfl:=a.DF h;exact .BP h
theorem pR{l z:Nat}:KK (AM o l z):= λg ja K w c=>by
 rcases c.Fl with⟨b,a,_,rfl⟩|⟨a,e,d,rfl⟩
 ·exact .slice a
 ·subst d;exact .Pg (.inl rfl)
theorem pk(h: ∀v∈l,KK v)(a:AJ g K l k):AJ ja K l k:=
 ⟨a.1,λi x y b c=>h x (B5 b) g ja K y (a.2 i x y b c)⟩
theorem aCp(h: ∀v∈l,KK v):KK (.tuple l.toArray):= λg ja K w a=>by obtain⟨c,rfl,b⟩:=a.Q9;have:=(pk (ja:=ja) h b).tuple;simpa using this
theorem zP(h:KK v)(a:AY g K v w):AY ja K v w:=h g ja K w a
theorem a4o{k:Nat}{a:X}(b:bH.ac=n)(c:a.ac=n)(g:n<=o):(C4 n aH (bH.AE k)).Y o=(C4 n aH (a.AE k)).Y o:=by
 have e:(C4 n aH (bH.AE k)).BY o=(C4 n aH (a.AE k)).BY o:=jG (by
  show(if o<bH.ac then bH.BY o else none)=if o<a.ac then a.BY o else none
  rw[if_neg (by omega),if_neg (by omega)])
 have d:(bH.AE k).ac=n+k:=by rw[<-b];rfl
 have f:(a.AE k).ac=n+k:=by rw[<-c];rfl
 simp only[X.Y,MD,d,f,e]
open Classical in
theorem a81{ts:List Value}
 (Aa: ∀t:X,Bh P f ts t λv A0=>v=r t.ac/\A0=C4 t.ac (bs t.ac) (t.AE n)) (Ac: ∀k,KK (r k)) (hb: ∀k,∀c∈bs k,∀v∈c,KK v) (Ae:Ms 9 t args=some ts):
 Bh P f args t λv A0=>v=r t.ac/\A0=C4 t.ac (bs t.ac) ((Ca t (args.flatMap (BL 9 t))).AE n):= λK u AI m j AK=>by
 obtain⟨l,AM⟩: ∃l,l=args.flatMap (BL 9 t):=⟨_,rfl⟩;rw[<-AM];obtain⟨g,A1⟩: ∃g:C0,g= λb=>match u b with
  |some cs=>some cs
  |none=>if∃o,o∈l/\K o=some b/\(t.Y o).isSome=true then(m.Y b).map (·.cells)else none:=⟨_,rfl⟩
 have Af:Ce u g:= λb cs hb=>by rw[A1];simp[hb]
 have Ag:Ir g m:= λb cs hb=>by
  rw[A1]at hb;simp only at hb;split at hb
  ·next N=>cases hb;exact(j.AZ b _ N).1
  ·split at hb
   ·cases C:m.Y b with
    |none=>rw[C]at hb;cases hb
    |some x=>rw[C]at hb;cases hb;exact⟨x.own,rfl⟩
   ·cases hb
 have Ah: ∀o∈l,(t.Y o).isSome=true-> ∀b cs w,K o=some b->m.Y b=some ⟨cs,w⟩->g b=some cs:= λo A Ai b cs w L C=>by
  rw[A1];simp only;cases A2:u b with
  |some ds=>obtain⟨⟨BB,AN⟩,_⟩:=j.AZ b ds A2;rw[C]at AN;cases AN;rfl
  |none=>simp only;rw[if_pos ⟨o,A,L,Ai⟩,C];rfl
 have Aj: ∀b cs,g b=some cs->u b=some cs\/ ∃o∈l,K o=some b:= λb cs hb=>by
  grind
 have Ak:AJ g Ea ts AI:=by obtain⟨N,D⟩:=Q0 Ae;refine⟨by rw[N,AK.1],λi x y a Al=> ?_⟩;obtain⟨AO,AP,F⟩:=D i x a;exact RS j Af 9 (AK.2 i AO y AP Al) F λo A=>Ah o (by rw[AM];exact M6.2 ⟨AO,B5 AP,A⟩)
 obtain⟨p,A3⟩: ∃p:X,p=⟨m.ac,λb=>if(g b).isSome then m.BY b else none,m.mp⟩:=⟨_,rfl⟩;have U:p.ac=m.ac:=by rw[A3]
 have Am:p.mp=m.mp:=by rw[A3]
 have AQ: ∀b,p.Y b=if(g b).isSome then m.Y b else none:= λb=>by
  rw[A3];simp only[X.Y]
  grind
 have part:Pk p m:=⟨U,Am,λb x a=>by
  simp_all⟩
 obtain⟨z,A4⟩: ∃z:X,z=⟨t.ac,λ_=>none,λ_=>none⟩:=⟨_,rfl⟩;have V:z.ac=t.ac:=by rw[A4]
 have O: ∀o,z.Y o=none:= λo=>by rw[A4];simp[X.Y]
 have An:BN K g z p:=by
  refine⟨λo x a=> ?_,λo es F=> ?_,λo _=>by rw[A4],j.inj,λo b h=>by rw[V,U];exact j.B0 o b h,λb cs h=>⟨?_,λo x _ a=> ?_⟩⟩
  ·rw[O]at a;cases a
  ·have:=(DO F).1;rw[O]at this;cases this
  ·obtain⟨w,G⟩:=Ag b cs h;exact⟨w,by rw[AQ,h];exact G⟩
  ·rw[O]at a;cases a
 refine(At.frame part (Aa z K g AI p An (Ak.AD (Ce.refl _) (CA.nil _)))).AD λBC W Ap=> ?_;obtain⟨Aq,⟨A5,ja,v,bH,⟨rfl,rfl⟩,D,AS,B⟩,H⟩:=Ap;rw[V]at D AS B;obtain⟨aH,AT⟩: ∃aH,aH=bs t.ac:=⟨_,rfl⟩
 rw[<-AT]at D B⊢;have Ar:m.ac<=W.ac:=H.ac
 have As:Aq.ac=W.ac:=H.part.ac
 have Z: ∀b,b<m.ac->W.Y b=m.Y b:= λb hb=>by
  cases C:p.Y b with
  |none=>exact(H.Dk b hb C).1
  |some x=>rw[part.Y b x C];exact H.part.Y b x (by rw[B.DL b (by rw[U];exact hb) λ⟨o,x,_,h,_⟩=>by rw[O]at h;cases h];exact C)
 have mk: ∀b,b<m.ac->g b=none->W.mp b=m.mp b:= λb hb Q=>(H.Dk b hb (by rw[AQ,Q];rfl)).2.2
 have I: ∀o b,A5 o=some b->K o=some b\/(t.ac<=o/\m.ac<=b):= λo b h=>by have:=B.LX o b h;rwa [U]at this
 have Au:(Ca t l).ac=t.ac:=rfl
 have AU:(C4 t.ac aH ((Ca t l).AE n)).ac=t.ac+n:=by rw[MD];rfl
 have Av:(C4 t.ac aH (z.AE n)).ac=t.ac+n:=by rw[MD];show z.ac+n=_;rw[V]
 have R: ∀o,o<t.ac->(C4 t.ac aH ((Ca t l).AE n)).Y o=t.Y o:= λo h=>by rw[Oi h,Ab (by exact h)];rfl
 have AV: ∀o,t.ac<=o->(C4 t.ac aH ((Ca t l).AE n)).Y o=(C4 t.ac aH (z.AE n)).Y o:= λo h=>a4o Au V h
 have Aw: ∀o x,t.ac<=o->(C4 t.ac aH (z.AE n)).Y o=some x-> ∀v∈x.cells,KK v:= λo x h a=>by
  have N: ∀(aH:List (List Value)) (i:Nat) (t:X),(∀c∈aH,∀v∈c,KK v)->(∀x,t.Y o=some x-> ∀v∈x.cells,KK v)-> ∀x,(C4 i aH t).Y o=some x-> ∀v∈x.cells,KK v:=by
   intro aH;induction aH with
   |nil=>exact λ_ _ _ h=>h
   | cons c aH Ax=>
     intro i t AW Ay;rw[N8];refine Ax _ _ (λd Az=>AW d (by simp[Az])) λx a=> ?_;by_cases e:o=i
     ·subst e;have B1:=E a;rw[AR (by simpa using B1)]at a;cases a;exact AW c (by simp)
     ·rw[A6 e]at a;exact Ay x a
  refine N aH _ _ (by rw[AT];exact hb _) (λx a=> ?_) x a;by_cases c:o<z.ac
  ·rw[Ab c,O]at a;cases a
  ·simp[X.Y,X.AE,c]at a
 obtain⟨M,AX⟩: ∃M:C0,M= λb=>if b<m.ac then u b else ja b:=⟨_,rfl⟩
 have AL: ∀b cs,u b=some cs->b<m.ac:= λb cs h=>by obtain⟨⟨w,G⟩,_⟩:=j.AZ b cs h;exact E G
 have A7: ∀b,b<m.ac->M b=u b:= λb h=>by rw[AX];simp only[if_pos h]
 have B2: ∀b,¬b<m.ac->M b=ja b:= λb h=>by rw[AX];simp only[if_neg h]
 have A8:Ce u M:= λb cs h=>by rw[A7 b (AL b cs h)];exact h
 refine⟨A5,M,_,_,⟨rfl,rfl⟩,⟨λo x a=> ?_,λo es F=> ?_,λo A=> ?_,D.inj,λo b h=> ?_,λb cs h=> ?_⟩,zP (Ac _) AS,⟨B.e,A8,I,λb cs h=> ?_,by rw[AU];omega,Ar,λb hb _=>Z b hb,λb hb ⟨o,x,A9,S,B3⟩=> ?_,λb hb ⟨o,x,A9,S⟩=> ?_⟩⟩
 ·by_cases A:o<t.ac
  ·rw[R o A]at a;rcases j.Ee o x a with⟨b,cs,w,s,J,a3,a4⟩|⟨s,J⟩
   ·exact .inl ⟨b,cs,w,B.e o b s,by rw[Z b (j.B0 o b s).2];exact J,a3,a4.AD A8 B.e⟩
   ·refine .inr ⟨?_,J⟩;cases F:A5 o with
    |none=>rfl
    | some b=>
      rcases I o b F with q|q
      ·rw[s]at q;cases q
      ·omega
  ·rw[AV o (by omega)]at a;rcases D.Ee o x a with⟨b,cs,w,s,J,a3,a4⟩|s
   ·exact .inl ⟨b,cs,w,s,H.part.Y b _ J,a3,pk (Aw o x (by omega) a) a4⟩
   ·exact .inr s
 ·obtain⟨AA,T⟩:=DO F;rw[Pq]at T;have T:(Ca t l).mp o=some es:=T;have AB:o∉l:= λB4=>by simp[Ca,B4]at T
  have AF:t.mp o=some es:=(by simpa[Ca,AB]using T);have A:o<t.ac:=by
   apply MR;intro q;have:K o=none:=by
    cases h:K o with
    |none=>rfl
    |some b=>exact absurd (j.B0 o b h).1 q
   rw[j.Ek o this]at AF;cases AF
  rw[R o A]at AA;obtain⟨b,B6,s,J,a3⟩:=j.maps o es (Ec AA AF);obtain⟨B7,B8⟩:=DO J;have AY:=(j.B0 o b s).2;refine⟨b,B6,B.e o b s,?_,a3.AD A8 B.e⟩;have A2:g b=none:=by
   cases B9:g b with
   |none=>rfl
   | some cs=>
     rcases Aj b cs B9 with h|⟨o',h,BA⟩
     ·have:=(j.AZ b cs h).2 o _ s AA;cases this
     ·rw[j.inj o o' b s BA]at AB;exact absurd h AB
  exact Ec (by rw[Z b AY];exact B7) (by rw[mk b AY A2];exact B8)
 ·rw[Pq];show(Ca t l).mp o=none;have:K o=none:=by
   cases h:K o with
   |none=>rfl
   |some b=>rw[B.e o b h]at A;cases A
  simp[Ca,j.Ek o this]
 ·rw[AU];rcases I o b h with q|q
  ·have:=j.B0 o b q;omega
  ·have:=D.B0 o b h;rw[Av,As]at this;exact this
 ·by_cases c:b<m.ac
  ·rw[A7 b c]at h;obtain⟨⟨w,G⟩,Q⟩:=j.AZ b cs h;refine⟨⟨w,by rw[Z b c];exact G⟩,λo x L a=> ?_⟩;rcases I o b L with q|q
   ·rw[R o (j.B0 o b q).1]at a;exact Q o x q a
   ·omega
  ·rw[B2 b c]at h;obtain⟨⟨w,G⟩,Q⟩:=D.AZ b cs h;refine⟨⟨w,H.part.Y b _ G⟩,λo x L a=> ?_⟩;rcases I o b L with q|q
   ·exact absurd (j.B0 o b q).2 c
   ·rw[AV o q.1]at a;exact Q o x L a
 ·by_cases c:b<m.ac
  ·rw[A7 b c]at h;exact .inl h
  ·exact .inr (.inl (by omega))
 ·rcases I o b A9 with q|q
  ·rw[R o (j.B0 o b q).1]at S;exact⟨o,x,q,S,B3⟩
  ·omega
 ·rcases I o b A9 with q|q
  ·rw[R o (j.B0 o b q).1]at S;exact⟨o,x,q,S⟩
  ·omega
theorem a8W(h:B4 u)(d:MQ u L)(i:Cs u L=true){l:List EB}(j:l.length<=1000000):Bh V 41 [.agg (A7 u).toArray,Bf L,AK R,Pw l] Cl λv bH=> ∃o ps,v= .tuple #[AM o (F8 u R l L).1.length 1,Z (F8 u R l L).2]/\E4 bH o ps (F8 u R l L).1:=by
 refine Ax (aC:=⟨[hg u h],[s8 u h L d.1 d.2.1 R]⟩) Zi.2 ?_;have p:=d.1;simp(disch:=first|omega|simp only[DI.AB];omega)[Zi,mK,A7,i];have e:H4 (LY ((Cl.AE 3).A1 0 (some ⟨A7 u,true⟩)) u L R) 14 16 (16+(L.length+1)) (ID L 16) L (EV u L) (Ck u R):=aB4 (t:=(Cl.AE 3).A1 0 (some ⟨A7 u,true⟩));simp only[A7]at e;generalize LY _ u L R=q at e⊢;simp(disch:=first|omega|simp only[DI.AB];omega)[u9,-H,-D,-I,-F,-List.map_map];refine aCh h j l 0 L rfl (C8 _) d _ _ _ (by simp) (by simp) (by simp) (by simp) (by simp) e λr s f=>⟨λa b=> ?_,λa b c=> ?_⟩
 ·have g:=f.Fq;simp[a,b];exact⟨_,g⟩
 ·have g:=f.Fq;have k:=f.Qo;have m:(F8 u R l L).2=l.length:=(by omega);simp[wV,b,c,k,m];exact⟨_,g⟩
theorem a5M(m:DA w=true)(p: ∀v∈args,RF v=true)(q:Bh V f args Cl λv bH=> ∃o ps,v= .tuple #[AM o L.length 1,w]/\E4 bH o ps L)(t:X):Bh V f args t λv s=>v= .tuple #[AM t.ac L.length 1,w]/\s=C4 t.ac (F1 L t.ac) (t.AE (L.length+1)):=by
 refine Qy (n:=L.length+1) (r:= λk=> .tuple #[AM k L.length 1,w]) (bs:=F1 L) (λk=>by simp[F1]) p (q.AD λv bH ⟨o,ps,u,a⟩=> ?_) t;subst u;have g:(o::ps)[0]?=some o:=rfl;refine⟨o::ps,J9.2 ⟨a.F7,a.Cg⟩,by simp[a.len],λk=>⟨FO.Uc (Cf.cons (.slice ⟨0,g,rfl⟩) (Cf.cons (.DE m) Cf.nil)),λi cs d=> ?_⟩⟩;cases i with
 | zero=>simp[F1]at d;subst d;refine⟨o,_,g,a.Dk,by simp[D7],λi x y e h=> ?_⟩;have b:i<L.length:=(by have:=(Ae.1 e).1;simpa[D7]using this);have c:i<ps.length:=(by rw[a.len];exact b);have j:=AP b;rw[D7,GH b,Kb (AP c) j]at e;rw[D7,GH b,Kb (Xb (k:=k) b) j]at h;cases e;cases h;exact .slice ⟨i+1,by rw[MO];exact AP c,by omega⟩
 | succ i=>simp only[F1,MO,GX,KH]at d;obtain⟨r,l,rfl⟩:=d;have b:=(Ae.1 l).1;have c:i<ps.length:=(by rw[a.len];exact b);exact⟨ps[i],_,by rw[MO];exact AP c,a.Ds i _ r (AP c) l,Cf.cells RG⟩
theorem aAD{k:Nat}: ∀c∈F1 L k,∀v∈c,KK v:= λc a v b=>by
 rcases CZ.1 a with rfl|a
 ·unfold D7 at b;obtain⟨j,d,rfl⟩:=mU b;have e:L[j]?=some L[j]:=AP d;rw[Kb (Xb (k:=k) d) e];exact pR
 ·obtain⟨r,_,rfl⟩:=CG.1 a;obtain⟨x,_,rfl⟩:=CG.1 b;exact mB rfl
theorem a2r(h:B4 u)(b:MQ u br)(a:Cs u br=true){l:List EB}(c:l.length<=1000000)(d:Ms 9 t args=some [.agg (A7 u).toArray,Bf br,AK R,Pw l]):
 Bh V 41 args t λv e=>v= .tuple #[AM t.ac (F8 u R l br).1.length 1,Z (F8 u R l br).2]/\e=C4 t.ac (F1 (F8 u R l br).1 t.ac) ((Ca t (args.flatMap (BL 9 t))).AE ((F8 u R l br).1.length+1)):=
 a81 (r:= λk=> .tuple #[AM k (F8 u R l br).1.length 1,Z (F8 u R l br).2]) (bs:=F1 (F8 u R l br).1) (λt=>a5M rfl (λv a=>by simp at a;rcases a with rfl|rfl|rfl|rfl<;>rfl) (a8W h b a c) t) (λk=>aCp (l:=[_,_]) λv a=>by
  simp only[CZ,EK,or_false]at a;rcases a with rfl|rfl
  ·exact pR
  ·exact mB rfl) (λk=>aAD) d
open Go Go.DI Go.Big Go.EL
structure dn(u:AL)(R:List Int)(L Fin:List (List Int))(mj:Int)(lk:List Int)(A:A2)(t:X)(nD kV o:Nat)(ps:List Nat)(br:List (List Int)):Prop where
 aEL:A 5=AG nD
 KG:A 7=AG kV
 RP:A 9=AM o br.length 1
 aFB:t.Y nD=some ⟨A7 u++[Bf L,AK R],true⟩
 ai:t.Y kV=some ⟨[Bf Fin,Z mj,AK lk],true⟩
 Fq:E4 t o ps br
 d:nD≠o/\kV≠o/\nD∉ps/\kV∉ps
def FB(u:AL)(R:List Int)(br:List (List Int))(T:List EB):List EB:=T.filter λs=>Ez u.A4.length (EV u br) (Ck u R) br s
variable{s:EB}{Fin W J:List (List Int)}{C bm kV nD oP dP ft i jJ lM:Nat}{Q:BM->A2->X->Prop}{B A:A2}{G:List EB}{lk N:List Int}{mj:Int}{ps:List Nat}{t0:X}
theorem a4y:(F8 u R [s] br).2=if Ez u.A4.length (EV u br) (Ck u R) br s=true then 1 else 0:=by simp only[F8];split<;>rfl
theorem yc(h:B4 u)(Aj:MQ u br)(B2:Cs u br=true){r s:List Int}(U:br[bm]?=some r)(A9:Fin[bm]?=some s)(BY:r.length=s.length)(Ba:r.length<=8)(Bb:bm<=12)(K:oP≠nD/\oP≠kV/\oP≠o/\oP∉ps)
 (B3:dn u R L Fin mj lk B t0 nD kV o ps br) (B6:I8 br Fin bm 0 G) (B8:t0.ac<=bH.ac) (B9: ∀b,b<t0.ac->b≠oP->bH.Y b=t0.Y b) (BA:bH.Y C=some ⟨Fa (FB u R br G),true⟩) (BB:C=oP\/t0.ac<=C)
 (z:B 11=AM C (FB u R br G).length 4) (M:B 12=Z G.length) (J:B 13=Z bm) (q:B 14=Z 0)
 (BC: ∀AA g T d,I8 br Fin bm r.length T->t0.ac<=g.ac->(∀b,b<t0.ac->b≠oP->g.Y b=t0.Y b)->g.Y d=some ⟨Fa (FB u R br T),true⟩->(d=oP\/t0.ac<=d)->AA 11=AM d (FB u R br T).length 4->AA 12=Z T.length->(∀k∈[1,5,7,9,10,13],AA k=B k)->Q (.Ao 4) AA g):Bc V (.loop Vb) B bH Q:=by
 obtain⟨BD,BF,Ak,Al,Am,w,Bd,Be,Bg,Bh⟩:=B3;have BG:=E Al;have BH:=E Am;have AL:=(Ae.1 U).1;have Bi:br.length<=1000:=Aj.1.1;have AF:ps[bm]?=some (ps[bm]'(by rw[w.len];exact AL)):=AP _;generalize ps[bm]'(by rw[w.len];exact AL)=p at AF;have Bj:=B5 AF;have AN:List.take 1 (List.drop bm (D7 ps br))=[AM p r.length 1]:=Kl (by rw[D7,GH AL,Kb AF U]);have AO:bm+1<=(D7 ps br).length:=by simp[D7];omega
 have Bk:=(Ae.1 A9).1;have An:=(Ae.1 A9).2;have AQ:(bm:Int)<br.length:=by omega
 have Ap:(bm:Int)<Fin.length:=by omega
 refine Cc (aC:=⟨[],[]⟩) (λi A t=> ∃T d,I8 br Fin bm i T/\t0.ac<=t.ac/\(∀b,b<t0.ac->b≠oP->t.Y b=t0.Y b)/\t.Y d=some ⟨Fa (FB u R br T),true⟩/\(d=oP\/t0.ac<=d)/\A 11=AM d (FB u R br T).length 4/\A 12=Z T.length/\(∀k∈[1,5,7,9,10,13],A k=B k)/\A 14=Z i) r.length ?_ ?_ 0 _ _ (C8 _) ⟨G,C,B6,B8,B9,BA,BB,z,M,λ_ _=>rfl,q⟩
 ·rintro i A t Aq ⟨T,d,W,AS,a,X,A0,z,M,f,q⟩ Bm AT;have BI:=(f 5 (by simp)).trans BD;have Ar:=(f 7 (by simp)).trans BF;have AI:=(f 9 (by simp)).trans Ak;have J:=(f 13 (by simp)).trans J;have As:=(a nD BG (Ne.symm K.1)).trans Al;have AU:=(a kV BH (Ne.symm K.2.1)).trans Am;have A2:E4 t o ps br:=w.AD (a o (E w.Dk) (Ne.symm K.2.2.1)) λp j=>a p (w.K9 j) λe=>K.2.2.2 (e▸j);have N:=A2.Dk;have BJ:=E N;have AV:=A2.Ds bm p _ AF U;have Bn:=E AV;have Bo:=E As;have Bp:=E AU;have BK:=E X;obtain⟨x,AW⟩:=Cb Aq;have BL:i<s.length:=(by omega);obtain⟨y,AX⟩:=Cb BL;have At:=(Ae.1 AX).2;have Au:(i:Int)<r.length:=(by omega);have Av:(i:Int)<s.length:=(by omega);have Aw:i+1<=r.length:=Aq;have Ax:List.take 1 (List.drop i (r.map Z))=[Z x]:=Kl (by rw[GX,AW];rfl);have Br:=W.len;have AY:=BZ (n:=i) (by omega);have BM:IntKind.i64.wrap ((T.length:Int)+1)=(T.length:Int)+1:=Ac (by omega) (by omega);by_cases c:x=y
  ·simp(disch:=first|omega|simp only[DI.AB];omega)[Vb,W7,Ar,AI,J,q,AU,N,AV,AN,AO,AQ,Ax,Aw,Au,Av,An,Ap,At,Bz,c,AY,-H,-D,-I,-F,-List.map_map];refine AT _ _ ⟨T,d,W.skip (x:=x) ⟨r,U,AW⟩ ⟨s,A9,by rw[c];exact AX⟩,AS,a,X,A0,by simp[z],by simp[M],λk a=> ?_,by simp⟩;have:=f k a;simp at a;rcases a with rfl|rfl|rfl|rfl|rfl|rfl<;>simp[this]
  ·have BN:t.Y nD=some ⟨[Z u.ext,O (u.Bu.map CS) 4,O (u.Af.map CX) 4,O (u.A5.map Bq) 7,O (u.A4.map Bx) 3,O (u.B7.map BE) 17,O (u.A3.map CW) 2,Bf L,AK R],true⟩:=As;simp(disch:=first|omega|simp only[DI.AB];omega)[Vb,BI,Ar,AI,M,J,q,BN,AU,N,AV,AN,AO,AQ,Ax,Aw,Au,Av,An,Ap,At,Bz,c,BM];obtain⟨m,P⟩: ∃m,m=((((t.AE 20).A1 (t.ac+18) (some ⟨[Z bm,Z i,Z x,Z y],true⟩)).AE 13).A1 (t.ac+20+6) (some ⟨[Z bm,Z i,Z x,Z y],true⟩)):=⟨_,rfl⟩;have Bs:m.ac=t.ac+33:=by rw[P];simp
   have AZ: ∀b,b<t.ac->m.Y b=t.Y b:= λb hb=>by rw[P,A6 (by omega),Ab (by simp;omega),A6 (by omega),Ab hb]
   have BO:m.Y (t.ac+20+6)=some ⟨Fa [⟨bm,i,x,y⟩],true⟩:=(by rw[P,AR (by simp)];rfl);have BQ:m.Y (t.ac+18)=some ⟨[Z bm,Z i,Z x,Z y],true⟩:=(by rw[P,A6 (by omega),Ab (by simp),AR (by simp)]);rw[<-P];clear P;have BR:=oG (n:=7) (A2.Un AZ);have Ay:=zp (n:=8) (S:=[⟨(bm:Int),(i:Int),x,y⟩]) BO;have BS:Ms 9 m [.agg #[Z u.ext,O (u.Bu.map CS) 4,O (u.Af.map CX) 4,O (u.A5.map Bq) 7,O (u.A4.map Bx) 3,O (u.B7.map BE) 17,O (u.A3.map CW) 2],AM o br.length 1,AK R,AM (t.ac+20+6) 1 4]=some [.agg (A7 u).toArray,Bf br,AK R,Pw [⟨(bm:Int),(i:Int),x,y⟩]]:=(by simp only[DZ,KC,Nat.zero_add]at Ay;simp(disch:=omega)[BR,Ay,A7]);refine(a2r h Aj B2 (l:=[⟨(bm:Int),(i:Int),x,y⟩]) (by simp) BS).AD λv g ⟨BT,Aa⟩=> ?_;subst BT;have Bt:m.ac<=g.ac:=by rw[Aa,MD];simp
   have Ag: ∀b,b<m.ac->g.Y b=m.Y b:= λb hb=>by rw[Aa,Oi hb,Ab (by exact hb)];rfl
   clear Aa;have Az:=(Ag (t.ac+18) (by omega)).trans BQ;have Bv:=E Az;have Ah:g.Y d=some ⟨Fa (FB u R br T),true⟩:=(Ag d (by omega)).trans ((AZ d BK).trans X);have Bw:=E Ah;have B0: ∀b,b<t0.ac->b≠oP->g.Y b=t0.Y b:= λb hb Ai=>(Ag b (by omega)).trans ((AZ b (by omega)).trans (a b hb Ai))
   have AJ:=a4y (u:=u) (R:=R) (br:=br) (s:=⟨(bm:Int),(i:Int),x,y⟩);have By:(FB u R br T).length<=T.length:=VY _ _;have BU:=nM (T:=FB u R br T);have BV:List.take ((FB u R br T).length*4) (Fa (FB u R br T))=Fa (FB u R br T):=DP (by omega);have BW:(((FB u R br T).length+1)*32<=140737488355328/\(FB u R br T).length<=9223372036854775806)/\(FB u R br T).length*4<=(Fa (FB u R br T)).length:=(by omega);have B1:=W.add (x:=x) (y:=y) ⟨r,U,AW⟩ ⟨s,A9,AX⟩ c;have C0: ¬d=t.ac+18:=by omega
   cases j:Ez u.A4.length (EV u br) (Ck u R) br ⟨(bm:Int),(i:Int),x,y⟩with
   | true=>
     rw[if_pos j]at AJ;have A8:FB u R br (T++[⟨(bm:Int),(i:Int),x,y⟩])=FB u R br T++[⟨(bm:Int),(i:Int),x,y⟩]:=by unfold FB;rw[S7];simp[j]
     simp(disch:=first|omega|simp only[DI.AB];omega)[W7,AJ,z,q,Az,Ah,BU,BV,BW,AY,-List.map_append,-List.flatten_append,-H,-D,-I,-F,-List.map_map];refine AT _ _ ⟨_,g.ac+3,B1,by simp;omega,λb hb Ai=> ?_,?_,.inr (by omega),?_,by simp,λk a=> ?_,by simp⟩
     ·rw[A6 (by omega),A6 (by rcases A0 with e|e<;>omega),A6 (by omega),Ab (by omega)];exact B0 b hb Ai
     ·rw[AR (by simp),A8];simp[Fa,EI]
     ·rw[A8];simp
     ·have:=f k a;simp at a;rcases a with rfl|rfl|rfl|rfl|rfl|rfl<;>simp[this]
   | false=>
     rw[if_neg (by rw[j];simp)]at AJ;have A8:FB u R br (T++[⟨(bm:Int),(i:Int),x,y⟩])=FB u R br T:=by unfold FB;rw[S7];simp[j]
     simp[W7,AJ,q,AY];refine AT _ _ ⟨_,d,B1,by omega,B0,by rw[A8];exact Ah,A0,by rw[A8];simp[z],by simp,λk a=> ?_,by simp⟩;have:=f k a;simp at a;rcases a with rfl|rfl|rfl|rfl|rfl|rfl<;>simp[this]
 ·rintro A t ⟨T,d,W,AS,a,X,A0,z,M,f,q⟩;have AI:=(f 9 (by simp)).trans Ak;have J:=(f 13 (by simp)).trans J;have A2:E4 t o ps br:=w.AD (a o (E w.Dk) (Ne.symm K.2.2.1)) λp j=>a p (w.K9 j) λe=>K.2.2.2 (e▸j);have N:=A2.Dk;have BJ:=E N;simp[Vb,W7,AI,J,q,N,AN,AO,AQ];refine BC _ _ T d W AS a X A0 (by simp[z]) (by simp[M]) λk a=> ?_;have:=f k a;simp at a;rcases a with rfl|rfl|rfl|rfl|rfl|rfl<;>simp[this]
theorem a9a(h:B4 u)(J:MQ u br)(K:Cs u br=true)(q:O7 br Fin)(M: ∀r∈br,r.length<=8)(AA:br.length<=12)(N:oP≠nD/\oP≠kV/\oP≠o/\oP∉ps)
 (e:dn u R L Fin mj lk B t0 nD kV o ps br) (D:t0.Y oP=some ⟨[],true⟩)
 (j:B 11=AM oP 0 4) (l:B 12=Z 0) (g:B 13=Z 0)
 (O: ∀i m T a,J7 br Fin T->t0.ac<=m.ac->(∀b,b<t0.ac->b≠oP->m.Y b=t0.Y b)->m.Y a=some ⟨Fa (FB u R br T),true⟩->(a=oP\/t0.ac<=a)->i 11=AM a (FB u R br T).length 4->i 12=Z T.length->(∀k∈[1,5,7,9,10],i k=B k)->Q (.Ao 2) i m):Bc V (.loop ZG) B t0 Q:=by
 have AB:=E D;refine Cc (aC:=⟨[],[]⟩) (λbm A t=> ∃T a,I8 br Fin bm 0 T/\t0.ac<=t.ac/\(∀b,b<t0.ac->b≠oP->t.Y b=t0.Y b)/\t.Y a=some ⟨Fa (FB u R br T),true⟩/\(a=oP\/t0.ac<=a)/\A 11=AM a (FB u R br T).length 4/\A 12=Z T.length/\(∀k∈[1,5,7,9,10],A k=B k)/\A 13=Z bm) br.length ?_ ?_ 0 _ _ (C8 _) ⟨[],oP,.nil,Aj _,λ_ _ _=>rfl,D,.inl rfl,j,l,λ_ _=>rfl,g⟩
 ·rintro bm A t F ⟨T,a,v,w,c,x,y,j,l,f,g⟩ AE P;have z:=(f 9 (by simp)).trans e.RP;obtain⟨r,p⟩:=Cb F;have S:bm<Fin.length:=(by rw[<-q.1];exact F);obtain⟨s,G⟩:=Cb S;have U:(bm:Int)<br.length:=(by omega);have W:=BZ (n:=bm) (by omega);have H:=M r (B5 p);simp[ZG,z,g,U];refine yc h J K p G (q.2 bm r s p G) H (by omega) N (t0:=t0) (mj:=mj) (lk:=lk) (L:=L) (o:=o) (nD:=nD) (kV:=kV) (ps:=ps) ⟨by simp[f 5 (by simp),e.aEL],by simp[f 7 (by simp),e.KG],by simp[f 9 (by simp),e.RP],e.aFB,e.ai,e.Fq,e.d⟩ v w c x y (by simp[j]) (by simp[l]) (by simp[g]) (by simp) λi m X A0 A1 A2 A3 A4 A5 A6 A7 I=> ?_;have A8:i 13=Z bm:=(by rw[I 13 (by simp)];simp[g]);simp[A8,W];refine P _ _ ⟨X,A0,A1.Ds p H,A2,A3,A4,A5,by simp[A6],by simp[A7],λk c=> ?_,by simp⟩;have A9:=I k (by simp at c⊢;omega);have C:=f k c;simp at c;rcases c with rfl|rfl|rfl|rfl|rfl<;>simp[A9,C]
 ·rintro A t ⟨T,a,v,w,c,x,y,j,l,f,g⟩;have z:=(f 9 (by simp)).trans e.RP;simp[ZG,z,g];refine O _ _ T a (v.all q) w c x y (by simp[j]) (by simp[l]) λk c=> ?_;have C:=f k c;simp at c;rcases c with rfl|rfl|rfl|rfl|rfl<;>simp[C]
theorem aC3{u:AL}{br:List (List Int)}{bm f d:Nat}(h:Cs u br=true)(k:d<u.A4.length):Cs u (EX br bm f (d:Int))=true:=by
 obtain⟨g,_⟩:=RY h;have c: ∀(w:Nat) s,br[w]?=some s->GQ u w s=true:= λw s a=>by
  cases q:GQ u w s with
  |true=>rfl
  |false=>rw[OE a q]at h;cases h
 refine fm (by rw[Q8,g]) λv r b=> ?_;unfold EX at b;rw[Ih]at b;split at b
 ·next e=>
  subst e;split at b
  ·next i=>
   cases b;have a:br[bm]?=some br[bm]:=AP i;have j:br.getD bm []=br[bm]:=(by rw[E1,a];rfl);have:=c bm _ a;simp only[GQ,AF,BW,BR]at this⊢;rw[j,Ma];refine⟨this.1,λx a=> ?_⟩;rcases Ml a with a|rfl
   ·exact this.2 x a
   ·constructor<;>omega
  ·cases b
 ·exact c v r b
theorem bD: ∀{T:List EB} {aU j:Nat} {x:EB},T[aU]?=some x->j<4->(Fa T)[aU*4+j]?=(EI x)[j]?
 |[],_,_,_,h,_=>by simp at h
 | a::T,0,j,x,h,b=>by simp only[List.getElem?_cons_zero,Fx]at h;subst h;have:Fa (a::T)=EI a++Fa T:=(by simp[Fa]);rw[this,Nat.zero_mul,Nat.zero_add,Ke (by simpa[EI]using b)]
 | a::T,aU+1,j,x,h,b=>by have c:=bD (T:=T) (aU:=aU) (by simpa using h) b;have:Fa (a::T)=EI a++Fa T:=(by simp[Fa]);rw[this,Ib (by simp[EI];omega),<-c];congr 1;simp[EI];omega
theorem r8{u:AL}(h:B4 u){R N:List Int}{L:List (List Int)}{p:Int->Int}(Ap:Cs u L=true)(AJ:HQ (C9 u (DM u R) L) (Dr u) N p){Fin:List (List Int)}(BF:Fin=E2 u (DM u R) L N){mj:Int}{lk order:List Int}(BG:order.length<=1000)(BH:mj<=1000){Q:BM->A2->X->Prop}:
 ∀(k n:Nat) (br:List (List Int)) (A:A2) (t:X) (nD kV o:Nat) (ps:List Nat),GB br Fin=k->(n:Int)+k=mj->MQ u br->Cs u br=true->O7 br Fin->Tm L Fin br->dn u R L Fin mj lk A t nD kV o ps br->A 1=AK order->A 10=Z n->(∀g BI,g 4= .bool true->Q .Cz g BI)->Bc V (.loop ek) A t Q
 | k,n,br,A,t,nD,kV,o,ps,C4,C5,Aq,J,Ar,y,BJ,BK,As,At=>by
   refine Ba (aC:=⟨[kf,sI],[]⟩) λBL BN=> ?_;obtain⟨Av,AN,Aw,AO,A3,m,Ax,Ay,AQ,AS⟩:=id BJ;have Az:=E A3;have BO:(n:Int)<=mj:=(by omega);simp[ek,AN,As,A3,BO];refine SP (d:=11) (z:=4) (by simp) ?_;have A5: ∀b,b<t.ac->((t.AE 1).A1 t.ac (some ⟨[],true⟩)).Y b=t.Y b:= λb hb=>by rw[A6 (by omega),Ab hb]
   have B0:=E AO;have C7:=E m.Dk;obtain⟨C8,BQ⟩:=RY J;have CA:=h.ok.EF;have BR: ∀r∈br,r.length<=8:= λr BS=>by obtain⟨v,J,e⟩:=E5 BS;have:=BQ v r (by rw[<-e];exact AP J);have:=(L3 h.ok (v:=v) (by omega)).2;omega
   have B2: ∀p∈ps,p<t.ac:= λp AT=>m.K9 AT
   refine a9a h Aq J Ar BR (by omega) (t0:=(t.AE 1).A1 t.ac (some ⟨[],true⟩)) (oP:=t.ac) (nD:=nD) (kV:=kV) (o:=o) (ps:=ps) (L:=L) (mj:=mj) (lk:=lk) (R:=R) ⟨by omega,by omega,by omega,λy=>by have:=B2 _ y;omega⟩ ⟨by simp[Av],by simp[AN],by simp[Aw],(A5 nD B0).trans AO,(A5 kV Az).trans A3,m.Un A5,Ax,Ay,AQ,AS⟩ (AR (by simp)) (by simp) (by simp) (by simp) λK bH T M A7 BT B3 O BU AU AV P=> ?_;simp only[Au,B1]at BT B3 BU;have AW: ∀b,b<t.ac->bH.Y b=t.Y b:= λb hb=>(B3 b (by omega) (by omega)).trans (A5 b hb)
   have A8:K 1=AK order:=(by rw[P 1 (by simp)];simp[BK]);have B6:K 5=AG nD:=(by rw[P 5 (by simp)];simp[Av]);have AX:K 7=AG kV:=(by rw[P 7 (by simp)];simp[AN]);have A9:K 9=AM o br.length 1:=(by rw[P 9 (by simp)];simp[Aw]);have AY:K 10=Z n:=(by rw[P 10 (by simp)];simp[As]);have BV:=(AW nD B0).trans AO;have AZ:=(AW kV Az).trans A3;have Aa:=m.Un AW;have CB:=E AZ;have CC:=hl A7;have BW:M≠nD/\M≠kV/\M≠o/\M∉ps:=⟨by omega,by omega,by omega,λy=>by have:=B2 _ y;omega⟩;by_cases CD:k=0
   ·have S:T.length=0:=(by omega);have j:(n:Int)=mj:=(by omega);simp(disch:=first|omega|simp only[DI.AB];omega)[Xl,AX,AY,AV,S,AZ,j];exact At _ _ (by simp)
   ·have S: ¬T.length=0:=(by omega);have CE: ¬(T.length:Int)=0:=(by omega);have BY:T≠[]:= λe=>S (by rw[e];rfl);subst BF;obtain⟨Bb,Bd,Be⟩:=a6T h.ok Ap AJ A7 y BY;obtain⟨a,AA⟩: ∃a,a=FB u R br T:=⟨_,rfl⟩;have Bf:Bb∈a:=(by rw[AA];exact List.mem_filter.2 ⟨Bd,Be⟩);have Bg:1<=a.length:=List.length_pos_of_mem Bf;have CF:a.length<=1000000:=by
     have CG:a.length<=T.length:=(by rw[AA];exact VY _ _);omega
    rw[<-AA]at O AU;have B7: ¬a.length=0:=(by omega);have CH: ¬(a.length:Int)=0:=(by omega);have CI:=E O;have Ac:=Aa.Dk;have CJ:=E Ac;have B8:=BZ (n:=n) (by omega)
    have step: ∀(c:Nat) (s:EB),a[c]?=some s-> ∃bm f d:Nat,∃r p,s.FQ=bm/\s.Gk=f/\s.EJ=d/\br[bm]?=some r/\f<r.length/\d<u.A4.length/\ps[bm]?=some p/\bH.Y p=some ⟨r.map Z,true⟩/\List.take 1 (List.drop bm (D7 ps br))=[AM p r.length 1]/\bm+1<=(D7 ps br).length/\p≠M/\
     ∀(g:A2) (U:X),(∀b,b≠p->U.Y b=bH.Y b)->U.Y p=some ⟨(r.map Z).set f (Z d),true⟩->g 1=AK order->g 5=AG nD->g 7=AG kV->g 9=AM o br.length 1->g 10=Z ((n+1:Nat):Int)->BL g U:= λc s Bh=>by
     have Bi:s∈FB u R br T:=(by rw[<-AA];exact B5 Bh);obtain⟨B9,AT⟩:=List.mem_filter.1 Bi;obtain⟨bm,f,d,r,j,B,C,i,Bj,W,BA⟩:=sz AT;have G:=(Ae.1 i).1;have l:ps[bm]?=some (ps[bm]'(by rw[m.len];exact G)):=AP _;generalize ps[bm]'(by rw[m.len];exact G)=p at l;have AD:=B5 l;refine⟨bm,f,d,r,p,j,B,C,i,(Ae.1 Bj).1,W,l,Aa.Ds bm p _ l i,Kl (by rw[D7,GH G,Kb l i]),by simp[D7];omega,λe=>BW.2.2.2 (e▸AD),λg U AF Bk Bl Bm Bn Bo Bp=> ?_⟩;have Bq:br.getD bm []=r:=(by simp[i]);obtain⟨CL,BB,CM⟩:=a4H A7 B9;have BC:=aCv y (A7.left s B9);rw[j,B,C,Dx,Dx]at BB BC;have CN:=hl BB;refine BN _ _ (r8 h Ap AJ rfl BG BH (k-1) (n+1) (EX br bm f d) g U nD kV o ps (by omega) (by omega) (pn Aq W) (aC3 J W) (ma Ar) BC ⟨Bm,Bn,by rw[Q8];exact Bo,(AF nD (λe=>AQ (e▸AD))).trans BV,(AF kV (λe=>AS (e▸AD))).trans AZ,Aa.set G l (AF o λe=>m.F7 (e▸AD)) (λq AJ BA=>AF q BA) ?_,Ax,Ay,AQ,AS⟩ Bl Bp At);rw[Bq,Nx];exact Bk
    by_cases Br:n<order.length
    ·obtain⟨w,Bs⟩:=Cb Br;have Bt:=(Ae.1 Bs).2;have Bu:=uS (x:=w) (n:=(a.length:Int)) (by omega);obtain⟨c,BD⟩: ∃c:Nat,I9 w a.length=c:=⟨(I9 w a.length).toNat,by omega⟩;rw[BD]at Bu;have Bv:c<a.length:=(by omega);obtain⟨s,AI⟩:=Cb Bv;obtain⟨bm,f,d,r,p,j,B,C,i,Af,W,l,A0,Ag,Ah,Bw,Ai⟩:=step c s AI;have G:=(Ae.1 i).1;have Aj:=E A0;have Ak:(n:Int)<order.length:=(by omega);have Bx:(c:Int)<a.length:=(by omega);have Al:(bm:Int)<br.length:=(by omega);have Am:(f:Int)<r.length:=(by omega);have An:f+1<=r.length:=Af;have By:=nM (T:=a);have a0:List.take 1 (List.drop (c*4) (Fa a))=[Z bm]:=Kl (by rw[show c*4=c*4+0 from rfl,bD AI (by decide)];simp[EI,j]);have Bz:List.take 1 (List.drop (c*4+1) (Fa a))=[Z f]:=Kl (by rw[bD AI (by decide)];simp[EI,B]);have a3:List.take 1 (List.drop (c*4+3) (Fa a))=[Z d]:=Kl (by rw[bD AI (by decide)];simp[EI,C]);have z0:c*4+1<=a.length*4:=(by omega);have C0:c*4+1+1<=a.length*4:=(by omega);have z3:c*4+3+1<=a.length*4:=(by omega);simp(disch:=first|omega|simp only[DI.AB];omega)[Xl,A8,A9,AY,AU,AV,S,B7,Ak,Bt,BD,Bx,O,By,a0,Bz,a3,z0,C0,z3,Ac,Ag,Ah,Al,A0,Am,An,B8,-H,-D,-I,-F,-List.map_map];refine Ai _ _ (λb hb=>A6 hb) (AR Aj) (by simp[A8]) (by simp[B6]) (by simp[AX]) (by simp[A9]) (by simp)
    ·obtain⟨s,C1,BE⟩:=List.exists_cons_of_length_pos Bg;obtain⟨bm,f,d,r,p,j,B,C,i,Af,W,l,A0,Ag,Ah,Bw,Ai⟩:=step 0 s (by rw[BE];rfl);have G:=(Ae.1 i).1;have Aj:=E A0;have Ak: ¬(n:Int)<order.length:=(by omega);have Al:(bm:Int)<br.length:=(by omega);have Am:(f:Int)<r.length:=(by omega);have An:f+1<=r.length:=Af;have C2:(0:Int)<a.length/\0<a.length:=(by omega);have C3:Fa a=Z bm::Z f::Z s.Em::Z d::Fa C1:=(by rw[BE];simp[Fa,EI,j,B,C]);rw[C3]at O;simp[Xl,A8,A9,AY,AU,AV,S,B7,Ak,C2,O,Ac,Ag,Ah,Al,A0,Am,An,B8];refine Ai _ _ (λb hb=>A6 hb) (AR Aj) (by simp[A8]) (by simp[B6]) (by simp[AX]) (by simp[A9]) (by simp)
structure Lh(t0:X)(u:AL)(R:List Int)(W:List (List Int))(N:List Int)(dP ft jJ lM a:Nat)(ps:List Nat)(L:List (List Int))(i:Nat)(A:A2)(t:X):Prop where
 Fq:E4 t a ps L
 len:L.length=u.A3.length
 Ds: ∀r∈L,r.length<=i
 d:dP≠a/\ft≠a/\jJ≠a/\lM≠a/\dP∉ps/\ft∉ps/\jJ∉ps/\lM∉ps
 DH:t.Y dP=some ⟨A7 u,true⟩
 e5:t.Y ft=some ⟨[Z (C9 u R W).AS,Z 0,Z 1,AM jJ (As u R W).length 4],true⟩
 VS:t.Y jJ=some ⟨BI (As u R W),true⟩
 yE:t.Y lM=some ⟨N.map Z,true⟩
 K2:A 2=AM lM N.length 1
 Yd:A 3=AG dP
 Jm:A 4=AG ft
 KG:A 7=AM a u.A3.length 1
 jv:t0.ac<=t.ac
 my: ∀b,b<t0.ac->t.Y b=t0.Y b
 Hj:t0.ac<=a/\ ∀p∈ps,t0.ac<=p
theorem Lh.DL{e:Nat}{f:A2}{aA:X}(h:Lh t0 u R W N dP ft jJ lM e ps L i A t)(g:t.ac<=aA.ac)(a: ∀b,b<t.ac->aA.Y b=t.Y b)(c: ∀j,j∈[2,3,4,7]->f j=A j):Lh t0 u R W N dP ft jJ lM e ps L i f aA:=
 ⟨h.Fq.Un a,h.len,h.Ds,h.d,(a _ (E h.DH)).trans h.DH,(a _ (E h.e5)).trans h.e5,(a _ (E h.VS)).trans h.VS,(a _ (E h.yE)).trans h.yE,(c 2 (by simp)).trans h.K2,(c 3 (by simp)).trans h.Yd,(c 4 (by simp)).trans h.Jm,(c 7 (by simp)).trans h.KG,E8 h.jv g,λb hb=>(a b (GV hb h.jv)).trans (h.my b hb),h.Hj⟩
theorem a35(h:B4 u){m v d:Nat}{aM:Int}(B9:v<u.A3.length)(AF:d<u.A4.length)(AI:(As u R W)[i]?=some (H7 u W (D8 u v d)))
 (g:Lh t0 u R W N dP ft jJ lM m ps L i A t) (k:A 8=Z i) (o:A 9=Z d) (z:A 10=Z 0)
 (Am: ∀X AJ c,Lh t0 u R W N dP ft jJ lM m c (L.set v (L.getD v []++[(d:Int)])) (i+1) X AJ->X 8=Z i->Q (.Ao 2) X AJ):Bc V (.loop VV) A t Q:=by
 have BA:=h.ok.Cg;have BB:=h.ok.Es;have BC:=h.ok.EF;have BD:=h.ok.D6;have BE:=Oa h.ok (R:=R);have BF:(As u R W).length=(Ak u R).length:=by simp[As]
 obtain⟨x,A0⟩:=Cb AF;have AK:=(Ae.1 A0).2;obtain⟨BH,BJ,a3,a4,BK⟩:=h.ok.LG d x A0;obtain⟨B,A2⟩:=Dp a3;have AL:CI u d=B:=by unfold CI;simp only[A0,A2,Dx]
 have BL:=(Ae.1 AI).1;have AM:=H6 AI (j:=0) (by decide);rw[MG]at AM;have A5:(BI (As u R W))[i*4]?=some (Z (Ap u v B)):=by rw[AM,<-AL];show some (Z (H7 u W (D8 u v d)).f)=_;rw[P8.1];rfl
 have BM: ∀h,(BI (As u R W))[i*4]'h=Z (Ap u v B):= λh=>(Ae.1 A5).2;have AN:i*4+1<=(As u R W).length*4:=by omega
 have AO:(i:Int)<(As u R W).length:=by omega
 have AP:(d:Int)<u.A4.length:=by omega
 refine Cc (aC:=⟨[Ox u h.ok],[]⟩) (λw A t=>(∃c,Lh t0 u R W N dP ft jJ lM m c (if w<=v then L else L.set v (L.getD v []++[(d:Int)])) (if w<=v then i else i+1) A t)/\A 8=Z i/\A 9=Z d/\A 10=Z w) u.A3.length ?_ ?_ 0 A t (C8 _) ⟨⟨ps,by rw[if_pos (C8 _),if_pos (C8 _)];exact g⟩,k,o,z⟩
 ·rintro w A t An ⟨⟨c,g⟩,k,o,z⟩ BO AQ;obtain⟨l,AR,O,⟨AS,AT,AU,AV,AW,AX,AY,AZ⟩,y,P,S,Aa,Aq,J,A8,Ac,BQ,Ar,T⟩:=id g;have Af:=E y;have At:=E P;have Au:=E S;have Av:=E Aa;have Ag:(w:Int)<u.A3.length:=(by omega);have Ah:=BZ (n:=w) (by omega);have BR:w<=1000/\B<=1000:=(by omega);by_cases e:w=v
  ·subst e;rw[if_pos (Aj _)]at l AR O;rw[if_pos (Aj _)]at O;have Aw:w<L.length:=(by omega);obtain⟨r,U⟩:=Cb Aw;have Ax:L.getD w []=r:=(by simp[U]);obtain⟨p,Ay,C,Ai,Az,B0⟩:=l.HF U;have BS:=O r (B5 U);have Al:=l.Dk;have BT:=E Al;have BU:=E Ai;have B1:(r.length+1)*8<=140737488355328/\r.length<=9223372036854775806:=(by omega);have B2: ¬p=m:= λe=>l.F7 (e▸C);have BV: ¬m=p:= λe=>B2 e.symm;have B3:List.take r.length (r.map Z)=r.map Z:=DP (by simp);have BW:w+1<=u.A3.length:=An;simp(disch:=first|omega|simp only[DI.AB];omega)[VV,J,A8,Ac,k,o,z,A7,Bx,y,P,S,Ag,Ah,A5,AN,AO,AP,AK,A2,BG,Al,Ai,Az,B0,B1,B3,-H,-D,-I,-F,-List.map_map];have K: ∀{b:Nat},b∈c.set w (t.ac+8)->b∈c\/b=t.ac+8:= λa=>Ml a
   have G: ∀b,b<t.ac->b≠p->b≠m->(((((t.AE 11).A1 (t.ac+7) (some ⟨[Z d],true⟩)).A1 p none).A1 (t.ac+8) (some ⟨r.map Z++[Z d],true⟩)).A1 m (some ⟨(D7 c L).set w (.slice (some ⟨t.ac+8,0,none⟩) (r.length+1) 1),true⟩)).Y b=t.Y b:= λb hb B6 B7=>by rw[A6 B7,A6 (by omega),A6 B6,A6 (by omega),Ab hb]
   refine AQ _ _ ⟨⟨c.set w (t.ac+8),?_⟩,by simp[k],by simp[o],by simp⟩;rw[if_neg (by omega),if_neg (by omega),Ax];refine⟨l.mo U Ay ⟨by omega,λa=>by have:=l.K9 a;omega⟩ ?_ ?_ (λb hb A9=> ?_),by simp[AR],λs AA=> ?_,⟨AS,AT,AU,AV,λa=> ?_,λa=> ?_,λa=> ?_,λa=> ?_⟩,?_,?_,?_,?_,by simp[Aq],by simp[J],by simp[A8],by simp[Ac],by simp;omega,λb hb=> ?_,⟨T.1,λq AD=> ?_⟩⟩
   ·simp(disch:=first|omega|simp only[DI.AB];omega)[-H,-D,-I,-F,-List.map_map]
   ·rw[Gs];simp(disch:=first|omega|simp only[DI.AB];omega)[-H,-D,-I,-F,-List.map_map]
   ·exact G b (l.K9 hb) A9 λe=>l.F7 (e▸hb)
   ·rcases Ml AA with AA|rfl
    ·exact Nat.le_succ_of_le (O s AA)
    ·simp;omega
   ·rcases K a with a|a
    ·exact AW a
    ·omega
   ·rcases K a with a|a
    ·exact AX a
    ·omega
   ·rcases K a with a|a
    ·exact AY a
    ·omega
   ·rcases K a with a|a
    ·exact AZ a
    ·omega
   ·exact(G dP Af (λe=>AW (e▸C)) AS).trans y
   ·exact(G ft At (λe=>AX (e▸C)) AT).trans P
   ·exact(G jJ Au (λe=>AY (e▸C)) AU).trans S
   ·exact(G lM Av (λe=>AZ (e▸C)) AV).trans Aa
   ·exact(G b (by omega) (λe=>by have:=T.2 p C;omega) λe=>by have:=T.1;omega).trans (Ar b hb)
   ·rcases K AD with AD|rfl
    ·exact T.2 q AD
    ·omega
  ·have A9: ¬Ap u v B=Ap u w B:= λB8=>e (aBi h.ok AF (by rw[AL];exact B8.symm));simp(disch:=first|omega|simp only[DI.AB];omega)[VV,J,A8,k,o,z,A7,Bx,y,P,S,Ag,Ah,A5,AN,AO,AP,AK,A2,BG,A9,-H,-D,-I,-F,-List.map_map];refine AQ _ _ ⟨⟨c,?_⟩,by simp[k],by simp[o],by simp⟩;have eq:(w+1<=v)=(w<=v):=propext ⟨λ_=>by omega,λ_=>by omega⟩;simp only[eq];exact g.DL (Aj _) (λ_ _=>rfl) λj M=>by simp at M;rcases M with rfl|rfl|rfl|rfl<;>simp
 ·rintro A t ⟨⟨c,g⟩,k,o,z⟩;rw[if_neg (by omega),if_neg (by omega)]at g;have J:=g.Yd;have y:=g.DH;have Af:=E y;simp[VV,J,z,y,A7];exact Am _ _ c (g.DL (Aj _) (λ_ _=>rfl) λj M=>by simp at M;rcases M with rfl|rfl|rfl|rfl<;>simp) (by simp[k])
theorem a47(h:B4 u)(AS:N.length=(As u R W).length){bc:Nat}
 (b:Lh t0 u R W N dP ft jJ lM bc ps J 0 A t) (l:A 8=Z 0) (AJ: ∀o p k i,Lh t0 u R W N dP ft jJ lM bc k (Gz u (Ak u R) N J) i o p->Q (.Ao 0) o p):Bc V (.loop T4) A t Q:=by
 have AT:=h.ok.Cg;have AU:=h.ok.Es;have AV:=h.ok.EF;have AW:=h.ok.D6;have AX:=Oa h.ok (R:=R);have AY:(As u R W).length=(Ak u R).length:=by simp[As]
 have K:=a2o (u:=u) (h:=h.ok);refine Cc (aC:=⟨[MI u h.ok],[]⟩) (λi A t=>(∃k L,Gz u ((Ak u R).drop i) (N.drop i) L=Gz u (Ak u R) N J/\Lh t0 u R W N dP ft jJ lM bc k L i A t)/\A 8=Z i) (As u R W).length ?_ ?_ 0 A t (C8 _) ⟨⟨ps,J,rfl,b⟩,l⟩
 ·rintro i A t Aa ⟨⟨k,L,g,b⟩,l⟩ Ab M;obtain⟨Af,Ag,Ah,Ai,s,m,w,O,A2,P,q,Al,Am,An,Aq⟩:=id b;obtain⟨a,x⟩: ∃a,(Ak u R)[i]?=some a:=⟨_,AP (by omega)⟩;have S:(As u R W)[i]?=some (H7 u W a):=(by unfold As;rw[GX,x];rfl);have AK:=H6 S (j:=1) (by decide);have y:(BI (As u R W))[i*4+1]?=some (Z a.t):=(by rw[AK];show some (Z (H7 u W a).t)=_;rw[P8.2.1]);have Ar: ∀h,(BI (As u R W))[i*4+1]'h=Z a.t:= λh=>(Ae.1 y).2;have T:i*4+1+1<=(As u R W).length*4:=(by omega);have A6:i<N.length:=(by omega);obtain⟨z,A8⟩:=Cb A6;have A9: ∀h,N[i]'h=z:= λh=>(Ae.1 A8).2;obtain⟨_,⟨v3,v4⟩,_⟩:=(R7 h.ok R).Gu a (B5 x);have v4:a.t<AI u u.A4.length:=v4;have At:=I6 h.ok;have X:(i:Int)<(As u R W).length:=(by omega);have AA:(i:Int)<N.length:=(by omega);have AD:i+1<=N.length:=A6;have Y:=BZ (n:=i) (by omega);have Au:AI u u.A4.length=AI u 0+u.A4.length:=(by unfold AI;omega);have B:IntKind.i64.wrap (a.t-AI u 0)=a.t-AI u 0:=Ac (by omega) (by omega);have Av:=E s;have AL:=E m;have Aw:=E w;have Ax:=E O;rw[x1 x,x1 A8]at g;simp only[Gz]at g;have AE: ∀{k L o p},Lh t0 u R W N dP ft jJ lM bc k L i o p->Lh t0 u R W N dP ft jJ lM bc k L (i+1) o p:= λb=>⟨b.Fq,b.len,λr AM=>Nat.le_succ_of_le (b.Ds r AM),b.d,b.DH,b.e5,b.VS,b.yE,b.K2,b.Yd,b.Jm,b.KG,b.jv,b.my,b.Hj⟩;by_cases C:a.t-AI u 0<0
  ·rw[if_neg (λc=>by omega)]at g;simp(disch:=first|omega|simp only[DI.AB];omega)[T4,P,q,l,A7,s,m,w,X,Y,B,y,T,K,C,BG,-H,-D,-I,-F,-List.map_map];exact M _ _ ⟨⟨k,L,g,AE (b.DL (Aj _) (λ_ _=>rfl) λj e=>by simp at e;rcases e with rfl|rfl|rfl|rfl<;>simp)⟩,by simp⟩
  by_cases G:z=0
  ·rw[if_neg (λc=>c.2 G)]at g;simp(disch:=first|omega|simp only[DI.AB];omega)[T4,A2,P,q,l,A7,s,m,w,O,X,AA,AD,Y,B,y,T,A9,K,C,G,BG,-H,-D,-I,-F,-List.map_map];exact M _ _ ⟨⟨k,L,g,AE (b.DL (Aj _) (λ_ _=>rfl) λj e=>by simp at e;rcases e with rfl|rfl|rfl|rfl<;>simp)⟩,by simp⟩
  ·rw[if_pos ⟨by omega,G⟩]at g;obtain⟨v,d,AN,AF,A0⟩:=ec h.ok (B5 x) (by omega);have A1:a.t-AI u 0=d:=(by rw[A0];show AI u d-AI u 0=d;unfold AI;omega);have U:((a.f-2-u.A3.length).tdiv ((u.A5.length:Int)-1)).toNat=v:=by
    have:=(WD h.ok (v:=v) AF).1;rw[A0];show((Ap u v (CI u d)-2-u.A3.length).tdiv ((u.A5.length:Int)-1)).toNat=v;rw[this];omega
   rw[U,A1]at g;rw[A1]at B C;simp(disch:=first|omega|simp only[DI.AB];omega)[T4,A2,P,q,l,A7,s,m,w,O,X,AA,AD,B,y,T,A9,K,A1,C,G,BG,-H,-D,-I,-F,-List.map_map];rw[A0]at S;refine a35 h (R:=R) (W:=W) (N:=N) (i:=i) AN AF (aM:=z) S (b.DL (Aj _) (λ_ _=>rfl) λj e=>by simp at e;rcases e with rfl|rfl|rfl|rfl<;>simp) (by simp[l]) (by simp) (by simp) λAy Az AO AQ AR=> ?_;simp(disch:=first|omega|simp only[DI.AB];omega)[AR,Y,-H,-D,-I,-F,-List.map_map];exact M _ _ ⟨⟨AO,_,g,AQ.DL (Aj _) (λ_ _=>rfl) λj e=>by simp at e;rcases e with rfl|rfl|rfl|rfl<;>simp⟩,by simp⟩
 ·rintro A t ⟨⟨k,L,g,b⟩,l⟩;rw[Jw (by omega),Jw (by omega)]at g;have q:=b.Jm;have m:=b.e5;have AL:=E m;simp(disch:=first|omega|simp only[DI.AB];omega)[T4,q,l,m,-H,-D,-I,-F,-List.map_map];refine AJ _ _ k (As u R W).length ?_;rw[<-g];exact b.DL (Aj _) (λ_ _=>rfl) λj e=>by simp at e;rcases e with rfl|rfl|rfl|rfl<;>simp
theorem aBE(h:B4 u)(k:N.length=(As u R W).length)(g:t.Y jJ=some ⟨BI (As u R W),true⟩)(j:t.Y lM=some ⟨N.map Z,true⟩):
 Bh V 90 [.agg (A7 u).toArray,.agg #[Z (C9 u R W).AS,Z 0,Z 1,AM jJ (As u R W).length 4],AM lM N.length 1] t λv f=> ∃o ps,v=AM o u.A3.length 1/\E4 f o ps (Gz u (Ak u R) N (List.replicate u.A3.length []))/\t.ac<=f.ac/\(∀b,b<t.ac->f.Y b=t.Y b)/\t.ac<=o/\ ∀p∈ps,t.ac<=p:=by
 have z:=h.ok.EF;have A:=E g;have B:=E j;refine Ax (aC:=⟨[],[]⟩) uU.2 ?_;have l:(u.A3.length:Int)*24<=140737488355328/\(u.A3.length:Int)<=9223372036854775807:=by omega
 simp(disch:=first|omega|simp only[DI.AB];omega)[uU,oL,A7,l,-H,-D,-I,-F,-List.map_map];refine r4 (o:=t.ac+3+3) (n:=u.A3.length) (by simp(disch:=first|omega|simp only[DI.AB];omega)[-H,-D,-I,-F,-List.map_map]) λG ps m q c d=> ?_;simp only[Au,B1]at q c d;refine a47 h (R:=R) (W:=W) (N:=N) k (t0:=t) (dP:=t.ac) (ft:=t.ac+1) (jJ:=jJ) (lM:=lM) (bc:=t.ac+3+3) ⟨m,by simp,λr s=>by rw[(List.mem_replicate.1 s).2];simp,⟨by omega,by omega,by omega,by omega,λa=> ?_,λa=> ?_,λa=> ?_,λa=> ?_⟩,?_,?_,?_,?_,by simp,by simp,by simp,by simp,by omega,λb hb=> ?_,⟨by omega,λp w=>by have:=d p w;omega⟩⟩ (by simp) λK f x i e=> ?_
 ·have:=d _ a;omega
 ·have:=d _ a;omega
 ·have:=d _ a;omega
 ·have:=d _ a;omega
 ·rw[c _ (by omega) (by omega)];simp(disch:=first|omega|simp only[DI.AB];omega)[A7,-H,-D,-I,-F,-List.map_map]
 ·rw[c _ (by omega) (by omega)];simp(disch:=first|omega|simp only[DI.AB];omega)[-H,-D,-I,-F,-List.map_map]
 ·rw[c _ (by omega) (by omega)];simp(disch:=first|omega|simp only[DI.AB];omega)[g,-H,-D,-I,-F,-List.map_map]
 ·rw[c _ (by omega) (by omega)];simp(disch:=first|omega|simp only[DI.AB];omega)[j,-H,-D,-I,-F,-List.map_map]
 ·rw[c _ (by omega) (by omega),A6 (by omega),Ab (by simp;omega),A6 (by omega),A6 (by omega),Ab hb]
 have y:=e.KG;simp(disch:=first|omega|simp only[DI.AB];omega)[ug,y,-H,-D,-I,-F,-List.map_map];exact⟨x,e.Fq,e.jv,e.my,e.Hj.1,e.Hj.2⟩
def Ef(Ag:List Int):List Int->Int×List Int
 |[]=>(-1,[])
 |d::l=>if d∈Ag then Ef Ag l else(d,l)
def JO(Ag:List Int):List Int->List Int->List Int
 |[],_=>[]
 |x::xs,l=>if x= -1 then(Ef Ag l).1::JO Ag xs (Ef Ag l).2 else x::JO Ag xs l
theorem hM{x:Int}(b:0<=x){a:List Int}: ∀(l:List Int),l.foldl Ey (x,a)=(x,a)
 |[]=>rfl
 | d::l=>by rw[GO,show Ey (x,a) d=(x,a) by unfold Ey;rw[if_neg λh=>by have:=h.1;simp only at this;omega]];exact hM b l
theorem mw{a:List Int}: ∀(l:List Int),(∀d∈l,d∈a)->l.foldl Ey (-1,a)=(-1,a)
 |[],_=>rfl
 | d::l,h=>by rw[GO,show Ey (-1,a) d=(-1,a) by unfold Ey;rw[if_neg λq=>q.2 (h d (by simp))]];exact mw l λx b=>h x (by simp[b])
theorem qT{a Ag:List Int}: ∀(l:List Int),(∀d∈l,0<=d)->(∀d∈l,d∈a↔d∈Ag)-> ∃s,l=s++(Ef Ag l).2/\(∀d∈s,d∈a\/d=(Ef Ag l).1)/\
 ((Ef Ag l=(-1,[])/\l.foldl Ey (-1,a)=(-1,a))\/(0<=(Ef Ag l).1/\(Ef Ag l).1∈s/\l.foldl Ey (-1,a)=((Ef Ag l).1,a++[(Ef Ag l).1])))
 |[],_,_=>⟨[],rfl,by simp,.inl ⟨rfl,rfl⟩⟩
 | d::l,h,f=>by
   by_cases c:d∈Ag
   ·obtain⟨s,j,k,m⟩:=qT l (λx b=>h x (by simp[b])) (λx b=>f x (by simp[b]));have g:Ef Ag (d::l)=Ef Ag l:=(by simp[Ef,c]);have e:d∈a:=(f d (by simp)).2 c;have n:(d::l).foldl Ey (-1,a)=l.foldl Ey (-1,a):=by
     rw[GO,show Ey (-1,a) d=(-1,a) by unfold Ey;rw[if_neg λq=>q.2 e]]
    rw[g,n];refine⟨d::s,by rw[Js,<-j],λx b=> ?_,m.imp id λq=>⟨q.1,by simp[q.2.1],q.2.2⟩⟩;rcases CZ.1 b with rfl|b
    ·exact .inl e
    ·exact k x b
   ·have g:Ef Ag (d::l)=(d,l):=(by simp[Ef,c]);have e:d∉a:= λq=>c ((f d (by simp)).1 q);have i:=h d (by simp);rw[g];refine⟨[d],rfl,λx b=> .inr (by simpa using b),.inr ⟨i,by simp,?_⟩⟩;rw[GO,show Ey (-1,a) d=(d,a++[d]) by unfold Ey;rw[if_pos ⟨by simp,e⟩]];exact hM i l
theorem Yx{S Ag:List Int}(g:S.Nodup)(h: ∀d∈S,0<=d): ∀(xs P l b c:List Int),(∀x∈xs,x= -1\/0<=x)->S=P++l->(∀d∈P,d∈b)->(∀d∈l,d∈b↔d∈Ag)->(xs.foldl (F2 S) (c,b)).1=c++JO Ag xs l
 |[],P,l,b,c,_,_,_,_=>by simp[JO]
 | x::xs,P,l,b,c,o,e,i,j=>by
   have k: ∀y∈xs,y= -1\/0<=y:= λy u=>o y (Pc _ u);rw[GO];rcases o x (by simp)with rfl|v
   ·have p: ∀d∈l,0<=d:= λd a=>h d (by rw[e];simp[a]);obtain⟨s,f,m,w⟩:=qT l p j;have r:S.foldl Ey (-1,b)=l.foldl Ey (-1,b):=(by rw[e,List.foldl_append,mw P i]);rw[show JO Ag (-1::xs) l=(Ef Ag l).1::JO Ag xs (Ef Ag l).2 by simp[JO]];have z:(s++(Ef Ag l).2).Nodup:=(by rw[<-f];rw[e]at g;exact(LD.1 g).2.1);rcases w with⟨t,n⟩|⟨t,n,A⟩
    ·rw[show F2 S (c,b) (-1)=(c++[-1],b) by unfold F2;rw[r,n]];rw[t]at f m⊢;rw[Yx (Ag:=Ag) g h xs S [] b _ k (by simp) (λd a=> ?_) (by simp)]
     ·simp
     ·rw[e]at a;rcases D2.1 a with a|a
      ·exact i d a
      ·rw[f]at a;rcases m d (by simpa using a)with q|q
       ·exact q
       ·have:=p d (by rw[f];simpa using a);simp only at q;omega
    ·rw[show F2 S (c,b) (-1)=(c++[(Ef Ag l).1],b++[(Ef Ag l).1]) by unfold F2;rw[r,A]];rw[Yx (Ag:=Ag) g h xs (P++s) (Ef Ag l).2 (b++[(Ef Ag l).1]) _ k (by rw[Nk,<-f];exact e) (λd a=> ?_) λd a=> ?_]
     ·simp
     ·rcases D2.1 a with a|a
      ·simp[i d a]
      ·rcases m d a with q|q
       ·simp[q]
       ·simp[q]
     ·have B:d≠(Ef Ag l).1:= λq=>(LD.1 z).2.2 _ n d a q.symm;have:=j d (by rw[f];simp[a]);simp[B,this]
   ·have C: ¬x= -1:=(by omega);rw[show F2 S (c,b) x=(c++[x],b) by unfold F2;rw[hM v S]];rw[Yx (Ag:=Ag) g h xs P l b _ k e i j];simp[JO,C]
theorem hs{S:List Int}: ∀(e:List Int) (a:List Int×List Int),(∀x∈a.1,x= -1\/0<=x)-> ∀x∈(e.foldl (EN S) a).1,x= -1\/0<=x
 |[],a,h=>h
 | d::e,a,h=>by
   rw[GO];refine hs e _ λx b=> ?_;unfold EN at b;split at b
   ·next c=>
    rcases D2.1 b with b|b
    ·exact h x b
    ·right;rw[IA.1 b];exact c.1
   ·rcases D2.1 b with b|b
    ·exact h x b
    ·left;exact IA.1 b
theorem a1A{S a:List Int}(b:S.Nodup)(c: ∀d∈S,0<=d):F0 S a=JO (EG S a).2 (EG S a).1 S:=by unfold F0;rw[Yx b c (EG S a).1 [] S (EG S a).2 [] (hs a _ (by simp)) rfl (by simp) λd _=>Ep];simp
end Go.Proofs.YtmmkkggfmigppaaGreat
