/-
  A part of the proof, shortened by tools of ours.
-/
import Derived.Test.YtmmkkggfmigppaaGreatZab
set_option linter.all false
set_option maxRecDepth 8000
set_option maxHeartbeats 16000000
namespace Go.DI
open Go Go.RowKit
def ah.pure:ah->Bool
 | .nu _| .oy _| .mh _ _ _ _| .g4 _ _ _| .sN _ _ _| .store _ _ _| .py _| .pX _| .oc _ _ _ _ _| .app _ _ _ _| .oV _ _ _ _ _| .hJ _ _| .lA _ _| .m2 _ _| .mq _ _ _| .qW| .qX _ _ _ _ _| .o7 _ _ _ _=>false
 |_=>true
section
variable {P:Program} {w:World} {o:Oper} {a:Act} {ag:Ren} {dc:Nat} {z:aC} {m:H}
theorem HS(F:g7 ag dc z a): ∀(xs:List Operand),xs.all df=true->da ag (xs.map (O z)) (xs.map a.eval)
 |xs,h=>da.HU _ _ xs λx B=>F.O (dP.1 h x B)
theorem amv{v:Value}(h:fe v=true):ei v=true:=by cases v<;>simp[fe]at h<;>rfl
theorem tG{bf v:Value}(h:dM ag bf v)(W:fe bf=true):v=bf/\ ∃k n,bf= .int k n:=by cases bf<;>simp[fe]at W;exact⟨h.tE,_,_,rfl⟩
theorem aaB(fK:Bool)(F:g7 ag dc z a): ∀(xs:List Operand) (dN:Value),xs.all df=true->(xs.all λy=>fe (O z y))=true->
 xs.foldl (λdN y=>if fK then pK dN (a.eval y)else pM dN (a.eval y)) dN=xs.foldl (λdN y=>if fK then pK dN (O z y)else pM dN (O z y)) dN
 |[],_,_,_=>rfl
 | x::xs,dN,A,D=>by simp only[mZ,a6]at A D;have:=(tG (F.O A.1) D.1).1;simp only[zg,this];exact aaB fK F xs _ A.2 D.2
theorem aaA(fK:Bool): ∀(xs:List Operand) (dN:Value),fe dN=true->(xs.all λy=>fe (O z y))=true->
 fe (xs.foldl (λdN y=>if fK then pK dN (O z y)else pM dN (O z y)) dN)=true
 |[],_,h,_=>h
 | x::xs,dN,A,D=>by simp only[mZ,a6]at D;simp only[zg];refine aaA fK xs _ ?_ D.2;cases dN<;>simp[fe]at A;have ai:=D.1;cases B:O z x<;>simp[B,fe]at ai;cases fK<;>simp[pK,pM,fe]
theorem afn: ∀(fI:List r9) (xs ys dp vs:List Value),jD fI xs ys=true->da ag xs dp->da ag ys vs->dp=xs/\vs=ys
 | [],[],[],dp,vs,_,A,D=>by have aD:=A.1;have aJ:=D.1;simp at aD aJ;exact⟨r6.1 aD.symm,r6.1 aJ.symm⟩
 |[],[],_::_,_,_,h,_,_=>by simp[jD]at h
 |[],_::_,_,_,_,h,_,_=>by simp[jD]at h
 |_::_,[],_,_,_,h,_,_=>by simp[jD]at h
 |_::_,_::_,[],_,_,h,_,_=>by simp[jD]at h
 |_::_,_::_,_::_,[],_,_,h,_=>by simp[da]at h
 |_::_,_::_,_::_,_::_,[],_,_,h=>by simp[da]at h
 | k::fI,x::xs,y::ys,bf::dp,v::vs,h,A,D=>by simp only[jD,a6]at h;obtain⟨aD,aJ⟩:=afn fI xs ys dp vs h.2 ⟨by simpa using A.1,λi p q Z bo=>A.2 (i+1) p q (by simpa using Z) (by simpa using bo)⟩ ⟨by simpa using D.1,λi p q Z bo=>D.2 (i+1) p q (by simpa using Z) (by simpa using bo)⟩;have ek:=A.2 0 x bf rfl rfl;have gm:=D.2 0 y v rfl rfl;have az:=h.1;have eD:ei x=true/\ei y=true:=(by cases k<;>cases x<;>cases y<;>simp[Bi]at az<;>exact⟨rfl,rfl⟩);exact⟨by rw[aD,ek.hL eD.1],by rw[aJ,gm.hL eD.2]⟩
theorem af2{op:BinOp}{t C6:TypeId}{x y:Operand}{fI:List r9}(ku:Bool)(b1:o.op= .binOp op t x y C6)(aQ:op=if ku then .neq else .eql)(a5:wM P 8 t=some fI)
 (aH:P.eqGuardType P.depth t=false) (fO:q8 P t= .agg) (F:g7 ag dc z a) (B:df x=true) (Y:df y=true) (av:(ah.zG ku fI x y).ok z m=true) (id:Nat):
 ∃bX,kf P o a w bX w/\dM ag ((ah.zG ku fI x y).val id z m) bX:=by
 simp only[ah.ok,a6]at av;obtain⟨⟨A,D⟩,ai⟩:=av;have pf:=F.O B;have q3:=F.O Y;simp only[ah.val];cases a9:O z x<;>simp only[a9,vT]at A<;>try cases A
 cases M:O z y<;>simp only[M,vT]at D<;>try cases D
 rename_i xs ys;rw[a9]at pf;rw[M]at q3;obtain⟨dp,aD,ek⟩:=pf.uI;obtain⟨vs,aJ,gm⟩:=q3.uI;simp only[a9,M,an]at ai;obtain⟨aE,a2⟩:=afn fI _ _ _ _ ai ek gm;have Bs:=F1.1 aE;have wR:=F1.1 a2;subst Bs;subst wR;exact⟨_,aIU ku b1 aQ a5 aH fO aD aJ ai,.c7 rfl⟩
theorem Ul{bf v:Value}(h:dM ag bf v)(W:mQ bf=true):v=bf/\ ∃s,bf= .string s:=by cases bf<;>simp[mQ]at W;exact⟨h.Ab,_,rfl⟩
theorem aEi{k:ah}(S:Bf P o=some k)(Z:k.pure=true)(F:g7 ag dc z a)(av:k.ok z m=true)(id:Nat):
 ∃bX,kf P o a w bX w/\dM ag (k.val id z m) bX:=by
 rcases OU S with S|rfl
 rotate_left
 ·rw[aqb]at av;cases av
 unfold Gm at S;split at S
 ·-- move
  rename_i x b1;split at S<;>cases S;rename_i B;exact⟨_,aI4 b1,F.O B⟩
 ·rename_i x b1;split at S<;>cases S;rename_i B;exact⟨_,aIN b1,F.O B⟩
 ·-- uV
  rename_i c x y b1;split at S<;>cases S;rename_i B;simp only[a6]at B;have ar:=F.O B.1.1;simp only[ah.ok]at av;cases M:O z c<;>simp[M,vU]at av;rw[M]at ar;refine⟨_,aI6 b1 ar.tD,?_⟩;simp only[ah.val,M,xW];split
  ·exact F.O B.1.2
  ·exact F.O B.2
 ·-- nilCheck
  rename_i x b1;split at S<;>cases S;rename_i B;have al:=F.O B;simp only[ah.ok]at av;refine⟨_,aI5 b1 ?_,al⟩;generalize O z x=bf at al av;generalize a.eval x=v at al;cases al<;>simp_all [Cb];rename_i fn _ _ _ _ _ _ _ _;cases fn<;>simp_all
 ·split at S<;>cases S;simp[ah.pure]at Z
 ·split at S<;>cases S;simp[ah.pure]at Z
 ·-- vl
  rename_i t ps b1;split at S
  ·rename_i fs G ba bw;split at S
   ·rename_i hU WY;split at S<;>cases S;rename_i jk;obtain⟨b3,iw,W,p5,o2,dJ,di⟩:=CZ bw;obtain⟨aE,a2⟩:=agb _ _ WY;simp only[ah.ok]at av
    let yR:Nat->Option (Nat×Nat):= λi=>(fs[i]?).bind λ(f:Field)=>(P.info? f.type).map λb3=>(f.offset,b3.size)
    obtain⟨ds,A,D,J6⟩:=Pq F yR ps.toList hU G iw.cells ⟨aE,λi p q m8 bo=>by obtain⟨aD,aJ,f,Xv,cg,gA,jj,l0⟩:=a2 i p q m8 bo;exact⟨aD,aJ,by simp[yR,cg,gA,jj,l0]⟩⟩ (by rw[o2];exact da.c7 ag dJ) (λv M=>zI (dP.1 dJ v M)) av;refine⟨_,aIP (cells:=ds) b1 W p5 ba jk (λyQ gY=>by have:yQ=yR:=funext gY;rw[this];exact A),?_⟩;have:=D.agg J6;simp only[sW]at this;exact this
   ·cases S
  ·rename_i n e G ba bw;split at S
   ·rename_i aXm j3;split at S<;>cases S;rename_i hU WY;obtain⟨b3,iw,W,p5,o2,dJ,di⟩:=CZ bw;obtain⟨G9,aQ,rfl⟩:=vb j3;obtain⟨aE,a2⟩:=VE _ _ WY;simp only[ah.ok]at av;obtain⟨ds,A,D,J6⟩:=Pq F (λi=>some (i*G9.size,G9.size)) ps.toList hU G iw.cells ⟨aE,λi p q m8 bo=>by
     obtain⟨aD,aJ,cg,gA⟩:=a2 i p q m8 bo;exact⟨aD,aJ,by simp[cg,gA]⟩⟩ (by rw[o2];exact da.c7 ag dJ) (λv M=>zI (dP.1 dJ v M)) av
    refine⟨_,aIQ (cells:=ds) b1 W p5 ba aQ A,?_⟩;have:=D.agg J6;simp only[sW]at this;exact this
   ·cases S
  ·cases S
 ·repeat (split at S<;>try cases S)
  simp[ah.pure]at Z
 ·repeat (split at S<;>try cases S)
  simp[ah.pure]at Z
 ·repeat (split at S<;>try cases S)
  simp[ah.pure]at Z
 ·-- binOp
  rename_i op t x y C6 b1;split at S
  ·rename_i B;simp only[a6]at B;split at S
   ·rename_i fO;split at S
    ·rename_i fI a5;split at S<;>cases S;rename_i aH;exact af2 false b1 rfl a5 (by simpa using aH) fO F B.1 B.2 av id
    ·rename_i fI a5;split at S<;>cases S;rename_i aH;exact af2 true b1 rfl a5 (by simpa using aH) fO F B.1 B.2 av id
    ·cases S
   ·cases S;exact aIO b1 (F.O B.1) (F.O B.2) av
  ·cases S
 ·-- unOp
  rename_i op t x b1;split at S<;>cases S;rename_i B;simp only[ah.ok]at av;have al:=F.O B;have aQ:a.eval x=O z x:=by cases a9:O z x<;>cases op<;>simp[a9,AO]at av<;>rw[a9]at al<;>first|exact al.tE|exact al.tD
  refine⟨_,aI9 b1 (by rw[aQ];exact av),?_⟩;simp only[ah.val,aQ];exact .c7 (by cases a9:O z x<;>cases op<;>simp[a9,AO]at av<;>simp[FT,ei])
 ·-- convert
  rename_i s d x b1;split at S
  ·rename_i uO k cc h9;split at S<;>cases S;rename_i B;simp only[ah.ok]at av;obtain⟨e,e7,n,M⟩:=tG (F.O B) av;refine⟨_,aIS b1 cc h9 (by rw[e,M]),?_⟩;simp only[ah.val,M,eN];exact .c7 rfl
  ·rename_i cc h9;split at S<;>cases S;rename_i B;simp only[ah.ok]at av;obtain⟨e,b,M⟩:=Ul (F.O B) av;refine⟨_,aIT b1 cc h9 (by rw[e,M]),?_⟩;simp only[ah.val,M];exact .c7 rfl
  ·repeat (split at S<;>try cases S)
   simp[ah.pure]at Z
  ·repeat (split at S<;>try cases S)
   simp[ah.pure]at Z
  ·cases S
 ·repeat (split at S<;>try cases S)
  simp[ah.pure]at Z
 ·-- slice
  rename_i t x bk W fK b1;split at S
  ·rename_i ba;split at S<;>cases S;rename_i ar;simp only[a6,Da]at ar;obtain⟨⟨⟨B,lE⟩,yf⟩,rfl⟩:=ar;simp only[ah.ok,a6,ey]at av;obtain⟨⟨⟨⟨⟨A,D⟩,ai⟩,aT⟩,bF⟩,cW⟩:=av;obtain⟨e,b,M⟩:=Ul (F.O B) A;simp only[M,fm]at bF cW;refine⟨_,aI8 b1 ba (by rw[e,M]) (Dr F lE D 0 (by simpa using aT)) (Dr F yf ai b.size (by omega)) (by simp;omega) (by omega),?_⟩;simp only[ah.val,M,wB,fm];exact .c7 rfl
  ·rename_i e ba;split at S
   ·rename_i G bw;split at S
    ·split at S<;>cases S;rename_i ar;simp only[a6]at ar;obtain⟨⟨B,lE⟩,yf⟩:=ar;simp only[ah.ok,a6,ey]at av;obtain⟨⟨⟨⟨⟨A,D⟩,ai⟩,aT⟩,bF⟩,cW⟩:=av;obtain⟨b3,hK,rfl⟩:=vb bw;have al:=F.O B;simp only[ah.val];cases a9:O z x<;>simp only[a9,pl]at A<;>try cases A
     rename_i p len c;rw[a9]at al;simp only[a9,fm]at bF cW;cases p with
     | none=>simp only[a6,beq_iff_eq]at A;obtain⟨rfl,rfl⟩:=A;have M:=al.hL rfl;refine⟨_,aqP b1 ba hK M (Dr F lE D 0 (by simpa using aT)) (Dr F yf ai 0 (by omega)) (by simp;omega) (by omega),?_⟩;have hc:(hf z bk (0:Nat)).toNat=0:=(by simp;omega);have aD:(hf z W (0:Nat)).toNat=0:=(by simp;omega);rw[hc,aD];simp only[rY];exact .c7 rfl
     | some eu=>
       simp only[a6,beq_iff_eq]at A;obtain⟨l,ed,cap,az,gZ,M,ae,yj,qI⟩:=al.l6;obtain⟨_,rfl⟩:=A;refine⟨_,aqP b1 ba hK M (Dr F lE D 0 (by simpa using aT)) (Dr F yf ai len (by omega)) (by simp;omega) (by omega),?_⟩;simp only[rY,fm];have rI:hf z bk ((0:Nat):Int)=hf z bk 0:=rfl;rw[rI];generalize gd:(hf z bk 0).toNat=L;generalize vx:(hf z W (len:Int)).toNat=gK;have avf:L<=gK:=(by omega);have aOE:gK<=len:=(by omega);by_cases cu:cap=L
       ·rw[if_pos cu];exact .slice az (.inl ⟨by omega,by omega⟩) (by omega) (by omega)
       ·rw[if_neg cu];rcases ae with⟨rfl,rfl⟩|⟨rfl,ae⟩
        ·omega
        ·have aa:(⟨l.c,l.o+eu.off,none⟩:Addr).add (L*b3.size)=⟨l.c,l.o+(eu.off+L*b3.size),none⟩:=by
          unfold Addr.add;split
          ·rename_i bY;rw[bY];simp
          ·simp[nS]
         simp only[Option.map_some,aa];refine .slice az (.inr ⟨rfl,?_⟩) (by omega) (by omega);have:L*b3.size+(cap-L)*b3.size=cap*b3.size:=(by rw[<-oo];congr 1;omega);omega
    ·rename_i jn;split at S
     ·rename_i aB;split at S<;>cases S;rename_i ar;simp only[a6]at ar;obtain⟨⟨⟨B,lE⟩,yf⟩,rE⟩:=ar;simp only[ah.ok,a6,ey]at av;obtain⟨⟨⟨⟨⟨⟨⟨A,D⟩,ai⟩,aT⟩,bF⟩,cW⟩,dU⟩,g1⟩:=av;obtain⟨b3,hK,rfl⟩:=vb bw;have al:=F.O B;simp only[ah.val];obtain⟨atX,aBV,cf,ahj⟩:=tG (F.O yf) ai;obtain⟨atY,aBX,Qj,ahk⟩:=tG (F.O rE) aT;simp only[ahj,ahk,eN]at cW dU g1⊢;cases a9:O z x<;>simp only[a9,pl]at A<;>try cases A
      rename_i p len c;rw[a9]at al;simp only[a9,fm]at g1;have DY:=Dr F lE D 0 (by simpa using bF);have rI:hf z bk ((0:Nat):Int)=hf z bk 0:=rfl;rw[rI]at DY;have agX: ∃(k:IntKind) (i:Int),a.eval aB= .int k i/\0<=i/\i.toNat=cf.toNat:=⟨aBV,cf,by rw[atX,ahj],by omega,rfl⟩;have PO: ∃(k:IntKind) (i:Int),a.eval jn= .int k i/\0<=i/\i.toNat=Qj.toNat:=⟨aBX,Qj,by rw[atY,ahk],by omega,rfl⟩;cases p with
      | none=>simp only[a6,beq_iff_eq]at A;obtain⟨rfl,rfl⟩:=A;have M:=al.hL rfl;refine⟨_,aqO b1 ba hK M DY agX PO (by omega) (by omega) (by omega),?_⟩;have hc:(hf z bk 0).toNat=0:=(by omega);have aD:cf.toNat=0:=(by omega);have aJ:Qj.toNat=0:=(by omega);rw[hc,aD,aJ];simp only[rY];exact .c7 rfl
      | some eu=>
        simp only[a6,beq_iff_eq]at A;obtain⟨l,ed,cap,az,gZ,M,ae,yj,qI⟩:=al.l6;obtain⟨_,rfl⟩:=A;refine⟨_,aqO b1 ba hK M DY agX PO (by omega) (by omega) (by omega),?_⟩;simp only[rY];generalize gd:(hf z bk 0).toNat=L;generalize vx:cf.toNat=gK;generalize agP:Qj.toNat=Dh;have avf:L<=gK:=(by omega);have aOD:gK<=Dh:=(by omega);have aOH:Dh<=len:=(by omega);by_cases cu:Dh=L
        ·rw[if_pos cu];exact .slice az (.inl ⟨by omega,by omega⟩) (by omega) (by omega)
        ·rw[if_neg cu];rcases ae with⟨rfl,rfl⟩|⟨rfl,ae⟩
         ·omega
         ·have aa:(⟨l.c,l.o+eu.off,none⟩:Addr).add (L*b3.size)=⟨l.c,l.o+(eu.off+L*b3.size),none⟩:=by
           unfold Addr.add;split
           ·rename_i bY;rw[bY];simp
           ·simp[nS]
          simp only[Option.map_some,aa];refine .slice az (.inr ⟨rfl,?_⟩) (by omega) (by omega);have iQ:L*b3.size+(Dh-L)*b3.size=Dh*b3.size:=(by rw[<-oo];congr 1;omega);have DQ:Dh*b3.size<=cap*b3.size:=zc _ (by omega);show eu.off+L*b3.size+(Dh-L)*b3.size<=l.n
          replace ae:eu.off+cap*b3.size<=l.n:=ae
          omega
     ·cases S
   ·cases S
  ·(repeat' split at S)<;>cases S
   simp[ah.pure]at Z
  ·cases S
 ·-- fieldAddr
  rename_i s x i b1;split at S
  ·rename_i fs ba;split at S
   ·rename_i f a5;split at S
    ·rename_i n ae;split at S<;>cases S;rename_i ar;simp only[a6,ey]at ar;obtain⟨b3,W,rfl⟩:=vb ae;simp only[ah.ok]at av;have al:=F.O ar.1;simp only[ah.val];cases a9:O z x<;>simp only[a9,sD]at av<;>try cases av
     rename_i p;rw[a9]at al;cases p with
     |none=>cases av
     | some eu=>obtain⟨l,az,gZ,M⟩:=al.sv;refine⟨_,aIW b1 ba a5 W ar.2 M,?_⟩;simp only[yS,nS];exact .bH az
    ·cases S
   ·cases S
  ·cases S
 ·-- field
  rename_i t x i b1;split at S
  ·rename_i fs ba;split at S
   ·rename_i f a5;split at S
    ·rename_i b n hb ae;split at S<;>cases S;rename_i B;obtain⟨b3,W,rfl⟩:=vb ae;simp only[ah.ok,a6,ua,ey]at av;have al:=F.O B;simp only[ah.val];cases a9:O z x<;>simp only[a9,JS]at av<;>try cases av.1
     rename_i xs;rw[a9]at al;obtain⟨ys,M,az⟩:=al.uI;have j3:ys.size=xs.size:=(by have:=az.1;simp at this;exact this.symm);have aPh:f.offset+b3.size<=xs.size:=(by simpa using av.1);refine⟨_,aIX b1 ba a5 W hb M (by omega) av.2,?_⟩;simp only[Pp];cases b
     ·simp only[je,if_false];have A:b3.size=1:=(by simpa using av.2);have dm:f.offset<xs.toList.length:=(by simp;omega);obtain⟨y,Y,uF⟩:=az.I (c1 dm);rw[nQ,nQ,Y,c1 dm];exact uF
     ·simp only[if_true];exact((az.drop _).take _).agg λx B=>al.ar0 x (AW (Db B))
    ·cases S
   ·cases S
  ·cases S
 ·-- indexAddr
  rename_i t x i b1;split at S
  ·rename_i e ba;split at S
   ·rename_i G bw;split at S<;>cases S;rename_i ar;simp only[a6]at ar;obtain⟨b3,W,rfl⟩:=vb bw;simp only[ah.ok,a6,ey]at av;obtain⟨⟨⟨A,D⟩,ai⟩,aT⟩:=av;obtain⟨aJ,k,n,ae⟩:=tG (F.O ar.2) D;have al:=F.O ar.1;simp only[ah.val];cases a9:O z x<;>simp only[a9,pl]at A<;>try cases A
    rename_i p len c;rw[a9]at al;simp only[ae,eN]at ai aT⊢;simp only[a9,fm]at aT;cases p with
    | none=>simp only[a6,beq_iff_eq]at A;omega
    | some eu=>
      simp only[a6,beq_iff_eq]at A;obtain⟨l,ed,cap,az,gZ,M,BN,yj,qI⟩:=al.l6;rcases BN with⟨rfl,rfl⟩|⟨rfl,BN⟩
      ·omega
      ·refine⟨_,aIY b1 ba W M (by rw[aJ,ae]) ai aT,?_⟩;simp only[CP,nS];exact .bH az
   ·cases S
  ·rename_i len e ba;split at S
   ·rename_i G bw;split at S<;>cases S;rename_i ar;simp only[a6]at ar;obtain⟨b3,W,rfl⟩:=vb bw;simp only[ah.ok,a6,ey]at av;obtain⟨⟨⟨A,D⟩,ai⟩,aT⟩:=av;obtain⟨aJ,k,n,ae⟩:=tG (F.O ar.2) D;have al:=F.O ar.1;simp only[ah.val];cases a9:O z x<;>simp only[a9,sD]at A<;>try cases A
    rename_i p;rw[a9]at al;simp only[ae,eN]at ai aT⊢;cases p with
    |none=>cases A
    | some eu=>obtain⟨l,az,gZ,M⟩:=al.sv;refine⟨_,aIZ b1 ba W M (by rw[aJ,ae]) ai aT,?_⟩;simp only[yS,nS];exact .bH az
   ·cases S
  ·cases S
 ·-- index
  rename_i t x i b1;split at S
  ·rename_i ba;split at S<;>cases S;rename_i ar;simp only[a6]at ar;simp only[ah.ok,a6,ey]at av;obtain⟨⟨⟨A,D⟩,ai⟩,aT⟩:=av;obtain⟨aD,b,M⟩:=Ul (F.O ar.1) A;obtain⟨aJ,k,n,ae⟩:=tG (F.O ar.2) D;simp only[ae,eN]at ai aT;simp only[M,fm]at aT;refine⟨_,aI0 b1 ba (by rw[aD,M]) (by rw[aJ,ae]) ai aT,?_⟩;simp only[ah.val,M,ae,wB,eN];exact .c7 rfl
  ·cases S
 ·-- extract
  rename_i x i b1;split at S<;>cases S;rename_i B;have al:=F.O B;simp only[ah.ok]at av;simp only[ah.val];cases a9:O z x<;>simp only[a9,FP]at av<;>try cases av
  rename_i xs;rw[a9]at al;obtain⟨ys,M,az⟩:=al.Er;have W:i<xs.toList.length:=(by simpa using av);obtain⟨y,Y,uF⟩:=az.I (c1 W);have lh:i<ys.size:=(by have:=az.1;simp at this W;omega);refine⟨_,aIV b1 M lh,?_⟩;rw[M];simp only[CY];rw[nQ,nQ,Y,c1 W];exact uF
 ·-- makeInterface
  rename_i t x b1;split at S
  ·cases S
  ·rename_i d pF aV;split at S<;>cases S;rename_i B;refine⟨.iface t (a.eval x),.inl ?_,.iface (F.O B)⟩;cases d<;>first|exact absurd rfl (pF _)|simp[execOp,b1,Instr.makeInterface,underlying,aV]
  ·cases S
 ·-- typeAssert
  rename_i x t0 t ok b1;split at S
  ·cases S
  ·rename_i d pF aV;split at S<;>cases S;rename_i B;simp only[a6,r7]at B;obtain⟨B,rfl⟩:=B;have al:=F.O B;simp only[ah.ok]at av;simp only[ah.val];cases a9:O z x<;>simp only[a9,KO]at av<;>try cases av
   rename_i af v;have:=of_decide_eq_true av;subst this;rw[a9]at al;obtain⟨y,M,Y⟩:=al.KT;refine⟨y,.inl ?_,Y⟩;cases d<;>first|exact absurd rfl (pF _)|simp[execOp,b1,Instr.typeAssert,underlying,aV,M]
  ·cases S
 ·repeat (split at S<;>try cases S)
  simp[ah.pure]at Z
 ·repeat (split at S<;>try cases S)
  simp[ah.pure]at Z
 ·repeat (split at S<;>try cases S)
  simp[ah.pure]at Z
 ·-- makeFunc
  rename_i fn x y b1;split at S<;>cases S;rename_i ar;simp only[a6]at ar;refine⟨_,aI3 b1,?_⟩;simp only[ah.val];have ek:=HS F _ ar.1;have gm:=HS F _ ar.2;exact .func (by simp) (by simpa using ek.2) (by simp) (by simpa using gm.2)
 ·-- lA
  rename_i c b1;unfold Jv at S;split at S
  ·split at S<;>cases S;simp[ah.pure]at Z
  ·repeat (split at S<;>try cases S)
   simp[ah.pure]at Z
  ·repeat (split at S<;>try cases S)
   simp[ah.pure]at Z
  ·rename_i ar;split at S
   ·rename_i x t aa fO;split at S
    ·rename_i ba;split at S<;>cases S;rename_i B;simp only[ah.ok]at av;obtain⟨e,b,M⟩:=Ul (F.O B) av;refine⟨_,aI1 b1 ar aa fO ba (by rw[e,M]),?_⟩;simp only[ah.val,M,fm];exact .c7 rfl
    ·rename_i e ba;split at S<;>cases S;rename_i B;simp only[ah.ok]at av;have al:=F.O B;simp only[ah.val];cases a9:O z x<;>simp only[a9,iC]at av<;>try cases av
     rename_i p len c;rw[a9]at al;have M: ∃q cap,a.eval x= .slice q len cap:=by
      cases p with
      | none=>
        refine⟨none,c,?_⟩;generalize a.eval x=v at al;cases al with
        |c7 h=>rfl
      |some eu=>obtain⟨_,_,_,_,_,h,_⟩:=al.l6;exact⟨_,_,h⟩
     obtain⟨q,cap,M⟩:=M;exact⟨_,aI2 b1 ar aa fO ba M,.c7 rfl⟩
    ·cases S
   ·cases S
  ·(repeat' split at S)<;>cases S<;>simp[ah.pure]at Z
  ·rename_i ar;split at S
   ·rename_i x xs aa;split at S<;>cases S;rename_i B;simp only[a6]at B;simp only[ah.ok,a6]at av;have A:=tG (F.O B.1) av.1;have D: ∀y∈xs,fe (a.eval y)=true:= λy Y=>by
     have:=dP.1 av.2 y Y;rw[(tG (F.O (dP.1 B.2 y Y)) this).1];exact this
    refine⟨_,aqN (fK:=false) b1 (by simpa using ar) aa (by rw[A.1];exact av.1) D,?_⟩;rw[aaB false F xs _ B.2 av.2,A.1];simp only[ah.val];have ai:=aaA (z:=z) false xs (O z x) av.1 av.2;exact .c7 (amv ai)
   ·cases S
  ·rename_i ar;split at S
   ·rename_i x xs aa;split at S<;>cases S;rename_i B;simp only[a6]at B;simp only[ah.ok,a6]at av;have A:=tG (F.O B.1) av.1;have D: ∀y∈xs,fe (a.eval y)=true:= λy Y=>by
     have:=dP.1 av.2 y Y;rw[(tG (F.O (dP.1 B.2 y Y)) this).1];exact this
    refine⟨_,aqN (fK:=true) b1 (by simpa using ar) aa (by rw[A.1];exact av.1) D,?_⟩;rw[aaB true F xs _ B.2 av.2,A.1];simp only[ah.val];have ai:=aaA (z:=z) true xs (O z x) av.1 av.2;exact .c7 (amv ai)
   ·cases S
  ·-- cap
   rename_i ar;split at S
   ·rename_i x t aa fO;split at S
    ·rename_i e ba;split at S<;>cases S;rename_i B;have al:=F.O B;simp only[ah.ok]at av;have a9:O z x= .slice none 0 0:=SK av;rw[a9]at al;exact⟨_,aIR b1 ar aa fO ba (al.hL rfl),.c7 rfl⟩
    ·cases S
   ·cases S
  ·(repeat' split at S)<;>cases S<;>simp[ah.pure]at Z
  ·cases S
 ·cases S
end
theorem aa1(v:Value):v.oneCell'=aq v:=by cases v<;>rfl
section
variable {P:Program} {w w':World} {ag:Ren} {m:H} {aN:Nat}
def hh(ag:Ren)(id:Nat)(l:vh):Ren:= λb=>if b=id then some l else ag b
theorem r4{id:Nat}{l:vh}(h:ag id=none):gH ag (hh ag id l):=by
 intro b c5 hb;unfold hh;split
 ·rename_i e;rw[e,h]at hb;cases hb
 ·exact hb
theorem Jh(c o j:Nat):(⟨c,o,none⟩:Addr).add j=⟨c,o+j,none⟩:=by unfold Addr.add;split<;>simp_all
theorem dv.cells(ab:dv aN ag m w){b:Nat}{x:eM}{l:vh}(aH:m.I b=some x)(az:ag b=some l){off n:Nat}(h:off+n<=x.cells.length):
 ∃ds:List Value,da ag (gM m b off n) ds/\ds.length=n/\(∀j bf,ds[j]?=some bf->w.cell? ((⟨l.c,l.o+off,none⟩:Addr).add j)=some bf)/\(∀bf∈ds,bf.oneCell'=true):=by
 obtain⟨c5,ib,di,ar,_⟩:=ab.l8 b x aH;rw[az]at ib;cases ib;have key: ∀j,j<n-> ∃v bX,x.cells[off+j]?=some v/\aq v=true/\w.cell? ⟨l.c,l.o+(off+j),none⟩=some bX/\dM ag v bX:=by intro j aX;have dm:off+j<x.cells.length:=(by omega);obtain⟨A,bX,D,ai⟩:=ar (off+j) _ (c1 dm);exact⟨_,bX,c1 dm,A,D,ai⟩
 refine⟨(List.range n).map λj=>(w.cell? ⟨l.c,l.o+(off+j),none⟩).getD undef,⟨?_,?_⟩,by simp,?_,?_⟩
 ·simp[gM,aH];omega
 ·intro i bf v a9 M;simp only[gM,aH]at a9;rw[rf]at a9;split at a9
  ·rename_i W;obtain⟨q9,qk,aE,a2,cj,dy⟩:=key i W;rw[zd,aE]at a9;cases a9;simp[W,cj]at M;subst M;exact dy
  ·cases a9
 ·intro j bf a9;have aX:j<n:=(by have:=(cG.1 a9).1;simpa using this);obtain⟨q9,qk,aE,a2,cj,dy⟩:=key j aX;simp[aX,cj]at a9;subst a9;rw[Jh,nS];exact cj
 ·intro bf a9;simp only[gG,om]at a9;obtain⟨j,aX,rfl⟩:=a9;obtain⟨q9,qk,aE,a2,cj,dy⟩:=key j aX;rw[cj];simp only[A0,aa1];rw[dy.aq];exact a2
theorem dv.Jj(ab:dv aN ag m w){id C fY n:Nat}{cs:List Value}(eP:id<m.next)(al:ag id=none)
 (yd: ∀b x l,m.I b=some x->ag b=some l->l.c≠C) (j3:w.heap.size<=w'.heap.size) (DR:C<w'.heap.size) (b9:aN<=C)
 (BO: ∀a:Addr,a.block<w.heap.size->a.block≠C->w'.cell? a=w.cell? a/\w'.frozen? a=w.frozen? a)
 (GS: ∀k,k<w.heap.size->k≠C->w'.heap[k]?=w.heap[k]?)
 (di:cs.length<=n) (ia: ∀i v,cs[i]?=some v->aq v=true/\ ∃bX,w'.cell? ⟨C,fY+i,none⟩=some bX/\dM ag v bX)
 (ae: ∀i,i<n->(w'.cell? ⟨C,fY+i,none⟩).isSome=true/\w'.frozen? ⟨C,fY+i,none⟩=false) (W8:oU w' C):
 dv aN (hh ag id ⟨C,fY,n⟩) (m.aO id (some ⟨cs,true⟩)) w':=by
 have eV:=r4 (l:=⟨C,fY,n⟩) al;refine⟨λb l hb=> ?_,λb l hb=> ?_,λb x B=> ?_,λb x cw hy l c5 A D ai aT bF cW=> ?_,λb es hb=> ?_,λb es hb=> ?_,λb x l B aB az=> ?_⟩
 ·unfold hh at hb;split at hb
  ·rename_i e;rw[e];exact eP
  ·exact ab.lf b l hb
 ·unfold hh at hb;split at hb
  ·cases hb;exact DR
  ·exact ql (ab.l4 b l hb) j3
 ·rw[H.mK]at B;split at B
  ·rename_i e;cases B;exact⟨⟨C,fY,n⟩,by simp[hh,e],di,λi v M=>by obtain⟨a8,bX,bV,cv⟩:=ia i v M;exact⟨a8,bX,bV,cv.bD eV⟩,λ_=>⟨b9,ae⟩⟩
  ·obtain⟨l,aE,a2,cj,dy⟩:=ab.l8 b x B;have tp:=ab.l4 b l aE;have bG:=yd b x l B aE;refine⟨l,eV _ _ aE,a2,λi v M=> ?_,λaB=>⟨(dy aB).1,λi W=> ?_⟩⟩
   ·obtain⟨a8,bX,bV,cv⟩:=cj i v M;exact⟨a8,bX,by rw[(BO _ tp bG).1];exact bV,cv.bD eV⟩
   ·have:=(dy aB).2 i W;rw[(BO ⟨l.c,l.o+i,none⟩ tp bG).1,(BO ⟨l.c,l.o+i,none⟩ tp bG).2];exact this
 ·rw[H.mK]at A ai;unfold hh at bF cW;split at A
  ·rename_i e;rw[if_neg (by rw[<-e];exact Ne.symm aT)]at ai;rw[if_pos e]at bF;rw[if_neg (by rw[<-e];exact Ne.symm aT)]at cW;cases bF;exact Ne.symm (yd cw hy c5 ai cW)
  ·rename_i e;rw[if_neg e]at bF;split at ai
   ·rename_i dd;rw[if_pos dd]at cW;cases cW;exact yd b x l A bF
   ·rename_i dd;rw[if_neg dd]at cW;exact ab.rA b x cw hy l c5 A D ai aT bF cW
 ·obtain⟨l,az⟩:=ab.xn b es hb;exact⟨l,eV _ _ az⟩
 ·obtain⟨aE,a2⟩:=H.x5 hb;have bG:b≠id:= λe=>by
   subst e;obtain⟨l,az⟩:=ab.xn b es a2;rw[al]at az;cases az
  rw[H.mK,if_neg bG]at aE;obtain⟨l,db,bd,ef,e2,hF,j5⟩:=ab.maps b es (H.kB aE a2);exact⟨l,db,bd,eV _ _ ef,e2,by rw[GS l.c (ab.l4 b l ef) (yd b _ l aE ef)];exact hF,j5.bD eV⟩
 ·rw[H.mK]at B;unfold hh at az;split at B
  ·rename_i e;rw[if_pos e]at az;cases az;exact W8
  ·rename_i e;rw[if_neg e]at az;exact(ab.tK b x l B aB az).Ct (GS l.c (ab.l4 b l az) (yd b x l B az))
theorem dv.hC(ab:dv aN ag m w)(b:Nat):dv aN ag (m.aO b none) w:=by
 have aH: ∀cw x,(m.aO b none).I cw=some x->cw≠b/\m.I cw=some x:=by
  intro cw x h;rw[H.mK]at h;split at h
  ·split at h<;>cases h
  ·rename_i e;exact⟨e,h⟩
 exact⟨ab.lf,ab.l4,λcw x B=>ab.l8 cw x (aH cw x B).2,λer oQ eO pT hZ jw A D ai=>ab.rA er oQ eO pT hZ jw (aH _ _ A).2 D (aH _ _ ai).2,ab.xn,λcw es hb=>by obtain⟨aE,a2⟩:=H.x5 hb;exact ab.maps cw es (H.kB (aH _ _ aE).2 a2),λer oQ hZ A=>ab.tK er oQ hZ (aH _ _ A).2⟩
theorem CO(b k:Nat)(S:k≠b): ∀(vs:List Value) (o:Nat) (w:World),(w.setCells b o vs).heap[k]?=w.heap[k]?
 |[],_,_=>rfl
 |v::vs,o,w=>by rw[World.setCells,CO b k S vs];simp[World.setCell,Array.getElem?_modify,Ne.symm S]
theorem wb(b:Nat): ∀(vs:List Value) (o:Nat) (w:World),(w.setCells b o vs).heap.size=w.heap.size
 |[],_,_=>rfl
 |v::vs,o,w=>by rw[World.setCells,wb b vs];simp[World.setCell]
theorem zs{aN b:Nat}(hb:aN<=b): ∀(vs:List Value) (o:Nat) (w:World),Below aN w (w.setCells b o vs)
 |[],_,_=>Below.refl _ _
 |v::vs,o,w=>((Below.refl aN w).setCell (p:=⟨b,o,none⟩) hb v).trans (zs hb vs _ _)
theorem afa: ∀(vs:List Value) (off:Nat) (cs:List Value) (i:Nat),off+vs.length<=cs.length->(gE cs off vs)[i]?=if off<=i/\i<off+vs.length then vs[i-off]? else cs[i]?
 |[],off,cs,i,_=>by simp[gE];intro A D;omega
 | v::vs,off,cs,i,h=>by
   simp only[gE];simp only[mC]at h;rw[afa vs (off+1) (cs.set off v) i (by simp;omega),AX];by_cases A:off=i
   ·subst A;rw[if_neg (by omega),if_pos rfl,if_pos (by omega),if_pos (by simp)];simp
   ·by_cases D:off+1<=i/\i<off+1+vs.length
    ·rw[if_pos D,if_pos ⟨by omega,by simp;omega⟩,show i-off=(i-(off+1))+1 by omega];simp
    ·rw[if_neg D,if_neg A,if_neg (by simp;omega)]
theorem dv.store(ab:dv aN ag m w){b:Nat}{x:eM}{l:vh}(aH:m.I b=some x)(aB:x.own=true)(az:ag b=some l){off:Nat}{cs dp:List Value}(al:da ag cs dp)(lF: ∀v∈cs,aq v=true)
 (h:off+cs.length<=x.cells.length):dv aN ag (m.aO b (some ⟨gE x.cells off cs,x.own⟩)) (w.setCells l.c (l.o+off) dp):=by
 have hb:=H.aM aH;have di:=al.1;obtain⟨c5,ib,a8,bV,cv⟩:=ab.l8 b x aH;rw[az]at ib;cases ib;have qO: ∀cw hy SW,m.I cw=some hy->cw≠b->ag cw=some SW->SW.c≠l.c:= λcw hy SW A D ai=>Ne.symm (ab.rA b x cw hy l SW aH aB A (Ne.symm D) az ai);refine⟨ab.lf,λcw c5 cn=>by rw[wb];exact ab.l4 cw c5 cn,λcw hy B=> ?_,λer oQ eO pT hZ jw A D ai aT bF cW=> ?_,ab.xn,λcw es iG=> ?_,λcw hy c5 B jF ib=> ?_⟩
 ·rw[H.mK]at B;split at B
  ·rename_i e;cases B;subst e;refine⟨l,az,by rw[Gj];exact a8,λi v M=> ?_,λ_=>⟨(cv aB).1,λi W=> ?_⟩⟩
   ·rw[afa _ _ _ _ h]at M;split at M
    ·rename_i W;obtain⟨bf,a9,uE⟩:=al.I M;refine⟨lF v (fr M),bf,?_,uE⟩;have aX:i-off<dp.length:=(by omega);have:=World.cell?_setCells_in l.c dp (l.o+off) w (λj lD=>by
      have:=((cv aB).2 (off+j) (by omega)).1
      rwa [<-nS]at this) (i-off) aX
     rw[show l.o+off+(i-off)=l.o+i by omega]at this;rw[this];rw[c1 aX]at a9;exact a9
    ·rename_i W;obtain⟨aE,bX,a2,cj⟩:=bV i v M;refine⟨aE,bX,?_,cj⟩;rw[World.cell?_setCells_out l.c dp (l.o+off) w _ (λ_ _=>by show l.o+i<l.o+off\/l.o+off+dp.length<=l.o+i;omega)];exact a2
   ·have bo:=(cv aB).2 i W;refine⟨?_,by rw[World.frozen?_setCells];exact bo.2⟩;by_cases lh:off<=i/\i<off+dp.length
    ·have:=World.cell?_setCells_in l.c dp (l.o+off) w (λj lD=>by
      have:=((cv aB).2 (off+j) (by omega)).1
      rwa [<-nS]at this) (i-off) (by omega)
     rw[show l.o+off+(i-off)=l.o+i by omega]at this;rw[this];rfl
    ·rw[World.cell?_setCells_out l.c dp (l.o+off) w _ (λ_ _=>by show l.o+i<l.o+off\/l.o+off+dp.length<=l.o+i;omega)];exact bo.1
  ·rename_i e;obtain⟨c5,aE,a2,cj,dy⟩:=ab.l8 cw hy B;have bG:=qO cw hy c5 B e aE;have ar: ∀i,(w.setCells l.c (l.o+off) dp).cell? ⟨c5.c,c5.o+i,none⟩=w.cell? ⟨c5.c,c5.o+i,none⟩:= λi=>World.cell?_setCells_out _ _ _ _ _ (λbT _=>absurd bT bG);refine⟨c5,aE,a2,λi v M=>by rw[ar];exact cj i v M,λj2=>⟨(dy j2).1,λi W=>by rw[ar,World.frozen?_setCells];exact(dy j2).2 i W⟩⟩
 ·have jv: ∀cw hy,(m.aO b (some ⟨gE x.cells off cs,x.own⟩)).I cw=some hy-> ∃aqL,m.I cw=some aqL/\aqL.own=hy.own:=by
   intro cw hy B;rw[H.mK]at B;split at B
   ·rename_i e;cases B;exact⟨x,by rw[e];exact aH,rfl⟩
   ·exact⟨hy,B,rfl⟩
  obtain⟨h6,ef,e2⟩:=jv er oQ A;obtain⟨mA,hF,j5⟩:=jv eO pT ai;exact ab.rA er h6 eO mA hZ jw ef (by rw[e2];exact D) hF aT bF cW
 ·obtain⟨aE,a2⟩:=H.x5 iG;rw[H.mK]at aE;by_cases e:cw=b
  ·subst e;rw[if_pos rfl,if_pos hb]at aE;injection aE with aE;have ar:x.cells=[]:=by
    have:=congrArg (λy=>y.cells.length) aE;simp only[Gj,xN]at this;exact r6.1 this
   have a9:dp=[]:=(by rw[ar]at h;simp at h;exact r6.1 (by rw[<-di,h.2];rfl));subst a9;have B:x=⟨[],true⟩:=(by cases x;simp at ar aB;rw[ar,aB]);obtain⟨jw,db,bd,ef,e2,hF,j5⟩:=ab.maps cw es (H.kB (by rw[aH,B]) a2);exact⟨jw,db,bd,ef,e2,hF,j5⟩
  ·rw[if_neg e]at aE;obtain⟨jw,db,bd,ef,e2,hF,j5⟩:=ab.maps cw es (H.kB aE a2);exact⟨jw,db,bd,ef,e2,by rw[CO _ _ (qO cw _ jw aE e ef)];exact hF,j5⟩
 ·rw[H.mK]at B;split at B
  ·rename_i e;subst e;rw[az]at ib;cases ib;exact(ab.tK cw x l aH aB az).setCells _ _ _
  ·exact(ab.tK cw hy c5 B jF ib).setCells _ _ _
end
def rm(P:Program)(o:Oper)(k:ah)(a:Act)(aN:Nat)(ag:Ren)(z:aC)(m:H)(w:World)(id:Nat):Prop:=
 ∃bX w' cT,kf P o a w bX w'/\gH ag cT/\(∀b,b≠id->cT b=ag b)/\dM cT (k.val id z m) bX/\dv aN cT (k.hd id z m) w'/\Below aN w w'
section
variable {P:Program} {w:World} {o:Oper} {a:Act} {ag:Ren} {dc:Nat} {z:aC} {m:H} {aN id:Nat}
theorem y6{l:vh}: ∀b,b≠id->hh ag id l b=ag b:= λb h=>by simp[hh,h]
theorem dv.E9(ab:dv aN ag m w){ct:World}(aS:ct.heap=w.heap)(b9:aN<=w.heap.size)(eP:id<m.next)(al:ag id=none){cs:List Value}{ds:Array Value}{e:TypeId}{bZ:Nat×Nat}{n:Nat}
 (di:cs.length<=n) (ae:n<=ds.size) (ia: ∀(i:Nat) v,cs[i]?=some v->aq v=true/\ ∃bX,ds[i]?=some bX/\dM ag v bX) (kt: ∀i,i<n-> ¬(bZ.1<=i/\i<bZ.2)) (avH: ¬(bZ.1<=ds.size/\ds.size<bZ.2):=by simp):
 dv aN (hh ag id ⟨w.heap.size,0,n⟩) (m.aO id (some ⟨cs,true⟩)) (ct.alloc (.cells ds e bZ)):=by
 have j3:(ct.alloc (.cells ds e bZ)).heap.size=w.heap.size+1:=by show(ct.heap.push _).size=_;rw[Array.size_push,aS]
 have qN:(ct.alloc (.cells ds e bZ)).heap[w.heap.size]?=some (.cells ds e bZ):=by show(ct.heap.push _)[_]?=_;rw[aS];simp
 refine ab.Jj eP al (λb x l B az=>by have:=ab.l4 b l az;omega) (by omega) (by omega) b9 (λeu A D=> ?_) (λk A _=>by show(ct.heap.push _)[k]?=_;rw[aS,Array.getElem?_push,if_neg (by omega)]) di (λi v M=> ?_) (λi W=> ?_) (oU.anM qN avH)
 ·have:(ct.alloc (.cells ds e bZ)).heap[eu.block]?=w.heap[eu.block]?:=by
   show(ct.heap.push _)[_]?=_;rw[aS,Array.getElem?_push,if_neg (by omega)]
  exact⟨World.cell?_of_block (w:=w) this,World.frozen?_of_block (w:=w) this⟩
 ·obtain⟨a8,bX,bV,cv⟩:=ia i v M;refine⟨a8,bX,?_,cv⟩;simp[World.cell?,qN,bV]
 ·have lh:i<ds.size:=(by omega);refine⟨by simp[World.cell?,qN,lh],?_⟩;have:=kt i W;simp only[World.frozen?,qN,zh];simpa using this
theorem wD{ct:World}(aS:ct.heap=w.heap)(aB:ct.os=w.os)(ba:ct.tape=w.tape)(a9:ct.output=w.output)(b9:aN<=w.heap.size)(x:Obj):Below aN w (ct.alloc x):=by have:Below aN w ct:=⟨aB,ba,a9,by rw[aS];exact c8 _,λk _=>by rw[aS]⟩;exact this.alloc (by rw[aS];exact b9) x
theorem Vl{cs:List Value}{ds:Array Value}(h:da ag cs ds.toList)(A: ∀v∈cs,aq v=true): ∀(i:Nat) v,cs[i]?=some v->aq v=true/\ ∃bX,ds[i]?=some bX/\dM ag v bX:=by intro i v M;obtain⟨y,Y,uF⟩:=h.I M;exact⟨A v (fr M),y,by simpa using Y,uF⟩
theorem aGK{e:TypeId}{G:List Value}(b1:o.op= .alloc e)(bw:r3 P e=some G)(ab:dv aN ag m w)(b9:aN<=w.heap.size)(eP:id<m.next)(al:ag id=none):rm P o (.nu G) a aN ag z m w id:=by
 obtain⟨b3,iw,W,p5,o2,dJ,di⟩:=CZ bw;refine⟨.pointer (some ⟨w.heap.size,0,none⟩),w.alloc (.cells iw.cells e),hh ag id ⟨w.heap.size,0,G.length⟩,.inl ?_,r4 al,y6,?_,?_,wD rfl rfl rfl rfl b9 _⟩
 ·simp only[execOp,b1,Instr.alloc,Sem.run_bind,zeroValue,typeInfo,run_program,W,Sem.run_pure,Result.andThen_ok,p5,newVar,newRow];rfl
 ·exact .bH (off:=0) (l:=⟨w.heap.size,0,G.length⟩) (by simp[hh])
 ·refine ab.E9 rfl b9 eP al (c8 _) (by rw[<-o2];simp) (Vl (by rw[o2];exact da.c7 ag dJ) λv M=>zI (dP.1 dJ v M)) (λi _=>by simp)
theorem aGN{e:TypeId}{x:Operand}(b1:o.op= .box e x)(B:df x=true)(F:g7 ag dc z a)(av:(ah.oy x).ok z m=true)(ab:dv aN ag m w)(b9:aN<=w.heap.size)(eP:id<m.next)(al:ag id=none):rm P o (.oy x) a aN ag z m w id:=by
 have M:=adz (F.O B);have lF:=ady (F.O B) av;have az:(a.eval x).cells.size=(an (O z x)).length:=by have:=M.1;simp at this;exact this.symm
 refine⟨.pointer (some ⟨w.heap.size,0,none⟩),w.alloc (.cells (a.eval x).cells e),hh ag id ⟨w.heap.size,0,(an (O z x)).length⟩,.inl ?_,r4 al,y6,?_,?_,wD rfl rfl rfl rfl b9 _⟩
 ·simp only[execOp,b1,Instr.box,Sem.run_bind,newVar,newRow];rfl
 ·exact .bH (off:=0) (l:=⟨w.heap.size,0,(an (O z x)).length⟩) (by simp[hh])
 ·exact ab.E9 rfl b9 eP al (c8 _) (by omega) (Vl M lF) (λi _=>by simp)
theorem OH{v:Value}{n:Nat}(h:gT m v n=true): ∃b off x,v= .pointer (some ⟨b,off,none⟩)/\m.I b=some x/\off+n<=x.cells.length:=by
 unfold gT at h;split at h
 ·rename_i eu;simp only[a6,Da]at h;obtain⟨gZ,h⟩:=h;split at h
  ·rename_i x B;obtain⟨b,off,ax⟩:=eu;simp only at gZ B h;subst gZ;exact⟨b,off,x,rfl,B,by simpa using h⟩
  ·cases h
 ·cases h
theorem ab0{t:TypeId}{dr:Bool}{n:Nat}{eu:Addr}{ds:List Value}(wT:q7 P t=some dr)(ae:md P t=some n)(A:dr=true\/n=1)(az:ds.length=n)(ar: ∀(j:Nat) bf,ds[j]?=some bf->w.cell? (eu.add j)=some bf):
 (loadVar t eu).run P w= .ok (if dr then .agg ds.toArray else ds.headD undef) w:=by
 obtain⟨b3,W,rfl⟩:=vb ae;simp only[loadVar,Sem.run_bind,ado wT,Result.andThen_ok];cases dr
 ·have D:b3.size=1:=(by simpa using A);rw[D]at az;obtain⟨d,rfl⟩:=Am az;have ai:=ar 0 d rfl;have e:eu.add 0=eu:=(by simp[Addr.add]);rw[e]at ai;simp only[je,if_false,List.headD_cons];simp[Go.load,Sem.run,ai]
 ·simp only[if_true,Sem.run_bind,sizeOf,typeInfo,run_program,W,Sem.run_pure,Result.andThen_ok];have:=run_loadCells_list (P:=P) w eu ds ar;rw[az]at this;simp[this]
theorem aam{dr:Bool}{n:Nat}{v bX:Value}(ab:dv aN ag m w)(M:dM ag v bX)(av:gT m v n=true)(A:dr=true\/n=1):
 ∃(eu:Addr) (ds:List Value),bX= .pointer (some eu)/\ds.length=n/\(∀(j:Nat) bf,ds[j]?=some bf->w.cell? (eu.add j)=some bf)/\dM ag (lH m dr n v) (if dr then .agg ds.toArray else ds.headD undef):=by
 obtain⟨b,off,x,rfl,B,GU⟩:=OH av;obtain⟨l,az,_,rfl⟩:=M.sv;obtain⟨ds,ek,gm,kT,rV⟩:=ab.cells B az GU;refine⟨_,ds,rfl,gm,kT,?_⟩;simp only[lH];cases dr
 ·have D:n=1:=(by simpa using A);subst D;obtain⟨d,rfl⟩:=Am gm;simp only[je,if_false,List.headD_cons];have di:=ek.1;simp only[mC,xN]at di;obtain⟨bf,a9⟩:=Am di;rw[a9]at ek⊢;exact ek.2 0 bf d rfl rfl
 ·refine ek.agg λbf a9=> ?_;obtain⟨c5,ib,a8,bV,cv⟩:=ab.l8 b x B;simp only[gM,B]at a9;obtain⟨i,W,Wt⟩:=lN (AW (Db a9));exact(bV i bf (by rw[c1 W,Wt])).1
theorem aGS{t:TypeId}{x:Operand}{dr:Bool}{n:Nat}(b1:o.op= .load t x)(wT:q7 P t=some dr)(ae:md P t=some n)(B:df x=true)(F:g7 ag dc z a)(ab:dv aN ag m w)
 (av:(ah.g4 dr n x).ok z m=true):rm P o (.g4 dr n x) a aN ag z m w id:=by
 simp only[ah.ok,a6,ua,ey]at av;obtain⟨eu,ds,A,D,ai,aT⟩:=aam ab (F.O B) av.1 av.2;refine⟨_,w,ag,.inl ?_,gH.refl ag,λ_ _=>rfl,aT,ab,Below.refl _ _⟩;simp only[execOp,b1,A,Instr.loadAt,Instr.sureAddr,Sem.run_bind,Sem.run_pure,Result.andThen_ok,ab0 wT ae av.2 D ai]
theorem aGX{t e:TypeId}{x:Operand}{bk W fK:Option Operand}{n G:Nat}(b1:o.op= .slice t x bk W fK)(aa:P.underlying t=some (.array n e))(bw:md P e=some G)
 (B:df x=true) (A:bk=none) (D:W=none) (ai:fK=none) (F:g7 ag dc z a) (ab:dv aN ag m w) (av:(ah.sN G n x).ok z m=true):rm P o (.sN G n x) a aN ag z m w id:=by
 subst A D ai;simp only[ah.ok,a6,ey]at av;obtain⟨av,aPb⟩:=av;obtain⟨b,off,y,aD,Y,GU⟩:=OH av;have al:=F.O B;rw[aD]at al;obtain⟨l,az,_,aJ⟩:=al.sv;obtain⟨b3,W,rfl⟩:=vb bw;obtain⟨c5,ib,a8,bV,cv⟩:=ab.l8 b y Y;rw[az]at ib;cases ib;refine⟨_,w,ag,aI7 b1 aa W aJ,gH.refl ag,λ_ _=>rfl,?_,ab,Below.refl _ _⟩;simp only[ah.val,aD,Jl];by_cases ae:n=0
 ·rw[if_pos ae];subst ae;exact .slice az (.inl ⟨rfl,rfl⟩) (c8 _) (by omega)
 ·rw[if_neg ae];have aa:(⟨l.c,l.o+off,none⟩:Addr).add (0*b3.size)=⟨l.c,l.o+off,none⟩:=by
   unfold Addr.add;simp
  rw[aa];exact .slice az (.inr ⟨rfl,by simp only[Nat.sub_zero];omega⟩) (c8 _) (by omega)
theorem aGY{t:TypeId}{x v:Operand}{n:Nat}(b1:o.op= .store t x v)(ae:md P t=some n)(B:df x=true)(M:df v=true)(F:g7 ag dc z a)(ab:dv aN ag m w)
 (av:(ah.store n x v).ok z m=true):rm P o (.store n x v) a aN ag z m w id:=by
 simp only[ah.ok,a6,ey]at av;obtain⟨⟨⟨A,D⟩,Ea⟩,ai⟩:=av;have lF:=ady (F.O M) Ea;obtain⟨b,off,y,aD,Y,GU⟩:=OH A;have al:=F.O B;rw[aD]at al;obtain⟨l,az,_,aJ⟩:=al.sv;have j2:y.own=true:=by simpa[aD,rq,Y]using D
 have ar:=adz (F.O M);obtain⟨b3,W,rfl⟩:=vb ae;have j3:(a.eval v).cells.size=b3.size:=by have:=ar.1;simp at this;omega
 obtain⟨c5,ib,a8,bV,cv⟩:=ab.l8 b y Y;rw[az]at ib;cases ib;have WN: ∀bf∈(a.eval v).cells.toList,bf.oneCell'=true:=by intro bf a9;obtain⟨i,hK,Wt⟩:=lN a9;have lh:i<(an (O z v)).length:=(by rw[ar.1];exact hK);have:=(ar.2 i _ bf (c1 lh) (by rw[c1 hK,Wt])).aq;rw[aa1,this];exact lF _ (kd lh)
 refine⟨undef,w.setCells l.c (l.o+off) (a.eval v).cells.toList,ag,.inr ⟨?_,rfl⟩,gH.refl ag,λ_ _=>rfl,dM.undef ag,?_,zs (cv j2).1 _ _ _⟩
 ·have iR:=run_storeCells_cells (P:=P) l.c (l.o+off) (a.eval v).cells.toList 0 w (λj aX=>by
   have:=((cv j2).2 (off+j) (by simp at aX;omega)).1
   rwa [<-nS]at this) (λj aX=>by
   have:=((cv j2).2 (off+j) (by simp at aX;omega)).2
   rwa [<-nS]at this) WN
  simp only[wu]at iR;simp[execOp,b1,aJ,Instr.storeAt,Instr.sureAddr,storeVar,sizeOf,typeInfo,W,j3,iR]
 ·simp only[ah.hd,aD,pn,Y];exact ab.store Y j2 az ar lF (by omega)
end
theorem Ps{G:List Value}(bw:0<G.length): ∀(n i:Nat),i<n*G.length->((List.replicate n G).flatten)[i]?=G[i%G.length]?
 |0,i,h=>by omega
 | n+1,i,h=>by
   rw[I4,sX,zb];split
   ·rename_i W;rw[Nat.mod_eq_of_lt W]
   ·rename_i W;have D:i-G.length<n*G.length:=(by rw[oo]at h;omega);rw[Ps bw n _ D,Nat.mod_eq_sub_mod (by omega:G.length<=i)]
theorem DJ(G:List Value)(n:Nat):((List.replicate n G).flatten).length=n*G.length:=by simp[List.length_flatten]
theorem S9{G:Array Value}(bw:0<G.size)(n:Nat):(madeCells G (n*G.size)).toList=(List.replicate n G.toList).flatten:=by
 apply ze;intro i;by_cases W:i<n*G.size
 ·rw[Ps (by simpa using bw) n i (by simpa using W)];have ab:i%G.size<G.size:=Nat.mod_lt _ bw;simp[madeCells,W,ab]
 ·rw[re (by rw[Array.length_toList,size_madeCells];omega),re (by rw[DJ];simp;omega)]
theorem Pr{G:List Value}(p:Value->Prop)(h: ∀v∈G,p v)(n:Nat): ∀v∈(List.replicate n G).flatten,p v:=by intro v M;simp only[zf,List.mem_replicate]at M;obtain⟨l,⟨_,rfl⟩,D⟩:=M;exact h v D
section
variable {P:Program} {w:World} {o:Oper} {a:Act} {ag:Ren} {dc:Nat} {z:aC} {m:H} {aN id:Nat}
theorem aGO{t e:TypeId}{n:Nat}{ps:Array (Nat×Operand)}{G:List Value}{hU:List (Nat×Nat×Operand)}(b1:o.op= .buildSlice t n ps)(ba:P.underlying t=some (.slice e))(bw:r3 P e=some G)
 (bo:DD G.length ps.toList=some hU) (bY:0<G.length) (aOy:n*G.length<=16777216) (F:g7 ag dc z a) (ab:dv aN ag m w) (b9:aN<=w.heap.size) (eP:id<m.next) (al:ag id=none)
 (av:(ah.mh G.length n (List.replicate n G).flatten hU).ok z m=true):rm P o (.mh G.length n (List.replicate n G).flatten hU) a aN ag z m w id:=by
 obtain⟨b3,iw,W,p5,o2,dJ,di⟩:=CZ bw;obtain⟨aE,a2⟩:=VE _ _ bo;have yw:iw.cells.size=b3.size:=by rw[<-di,<-o2];simp
 have ia:(madeCells iw.cells (n*iw.cells.size)).toList=(List.replicate n G).flatten:=by rw[S9 (by omega),o2]
 have vC: ∀v∈(List.replicate n G).flatten,ei v=true:=Pr (λv=>ei v=true) (λv M=>dP.1 dJ v M) n;simp only[ah.ok]at av;obtain⟨ds,A,D,J6⟩:=Pq F (λi=>some (i*b3.size,b3.size)) ps.toList hU (List.replicate n G).flatten (madeCells iw.cells (n*iw.cells.size)) ⟨aE,λi p q m8 bo=>by obtain⟨aD,aJ,cg,gA⟩:=a2 i p q m8 bo;exact⟨aD,aJ,by rw[cg,gA,di]⟩⟩ (by rw[ia];exact da.c7 ag (dP.2 vC)) (λv M=>zI (vC v M)) av;have BG:(nj (List.replicate n G).flatten z hU).length=ds.size:=by have:=D.1;simpa using this
 have gY:(nj (List.replicate n G).flatten z hU).length=n*G.length:=by
  have key: ∀(hU:List (Nat×Nat×Operand)) (cs:List Value),(nj cs z hU).length=cs.length:=by
   intro hU;induction hU with
   |nil=>intro cs;rfl
   |cons q hU cf=>intro cs;obtain⟨a8,bV,cv⟩:=q;simp only[nj];rw[cf,Gj]
  rw[key,DJ]
 refine⟨.slice (some ⟨w.heap.size,0,none⟩) n n,w.alloc (.cells ds e),hh ag id ⟨w.heap.size,0,ds.size⟩,.inl ?_,r4 al,y6,?_,?_,wD rfl rfl rfl rfl b9 _⟩
 ·have ai:(ps.map λp=>(p.1,a.eval p.2)).toList=ps.toList.map λp=>(p.1,a.eval p.2):=by simp
  have Xn:(zeroValue e).run P w= .ok iw w:=(by simp[zeroValue,typeInfo,W,p5]);have au3: ¬(2^24<n*b3.size):=(by rw[<-di];omega);rw[<-ai]at A;simp only[execOp,b1,Instr.buildSlice,Sem.run_bind,run_underlying ba,sizeOf,typeInfo,run_program,W,Sem.run_pure,Result.andThen_ok,gt_iff_lt,au3,if_false,Sem.run_ite];by_cases tu:n*b3.size=0
  ·have tr:madeCells iw.cells (n*iw.cells.size)= #[]:=(by rw[yw,tu];simp[madeCells]);rw[tr]at A;simp only[tu,if_true];have av7:Array.map (λx=>(#[]:Array Value)[x%(#[]:Array Value).size]!) (Array.range 0)= #[]:=(by simp);rw[av7,A];simp only[newRow,Sem.run_bind];rfl
  ·have tr:Array.map (λx=>iw.cells[x%iw.cells.size]!) (Array.range (n*b3.size))=madeCells iw.cells (n*iw.cells.size):=(by unfold madeCells;rw[yw]);simp only[tu,if_false,Xn,Result.andThen_ok,tr,A];simp only[newRow,Sem.run_bind];rfl
 ·exact .slice (off:=0) (l:=⟨w.heap.size,0,ds.size⟩) (by simp[hh]) (.inr ⟨rfl,by show 0+n*G.length<=ds.size;omega⟩) (c8 _) (by have:n*1<=n*G.length:=Nat.mul_le_mul_left _ bY;unfold maxLen;omega)
 ·simp only[ah.hd];exact ab.E9 rfl b9 eP al (by omega) (c8 _) (Vl D J6) (λi _=>by simp)
theorem aGU{t e:TypeId}{b3:TypeInfo}{G:List Value}{l c:Operand}(b1:o.op= .makeSlice t l c)(ba:P.underlying t=some (.slice e))(bw:r3 P e=some G)(W:P.info? e=some b3)(az:df l=true)(ar:df c=true)
 (F:g7 ag dc z a) (ab:dv aN ag m w) (b9:aN<=w.heap.size) (eP:id<m.next) (al:ag id=none)
 (av:(ah.oc G.length b3.bytes G l c).ok z m=true):rm P o (.oc G.length b3.bytes G l c) a aN ag z m w id:=by
 obtain⟨Xv,iw,hK,p5,o2,dJ,di⟩:=CZ bw;rw[W]at hK;cases hK;have yw:iw.cells.size=b3.size:=by rw[<-di,<-o2];simp
 simp only[ah.ok,a6,ey]at av;obtain⟨⟨⟨⟨⟨⟨A,D⟩,ai⟩,aT⟩,bF⟩,cW⟩,dU⟩:=av;obtain⟨aD,EV,L,gd⟩:=tG (F.O az) A;obtain⟨aJ,aBN,C,DR⟩:=tG (F.O ar) D;simp only[gd,DR,eN]at ai aT bF cW;have jl:=run_make (P:=P) w t e b3 iw ba W p5 EV aBN L C ai aT (by rw[Int.mul_comm];omega) cW;have vC: ∀v∈(List.replicate L.toNat G).flatten,ei v=true:=Pr (λv=>ei v=true) (λv M=>dP.1 dJ v M) _;have eV:L.toNat*G.length<=C.toNat*G.length:=zc _ (by omega);refine⟨_,_,hh ag id ⟨w.heap.size,0,C.toNat*G.length⟩,.inl (by simp only[execOp,b1,aD,aJ,gd,DR,Sem.run_bind,jl,Result.andThen_ok];rfl),r4 al,y6,?_,?_,wD rfl rfl rfl rfl b9 _⟩
 ·simp only[ah.val,gd,eN];exact .slice (off:=0) (l:=⟨w.heap.size,0,C.toNat*G.length⟩) (by simp[hh]) (.inr ⟨by simp,by simp⟩) (by omega) (by unfold maxLen;omega)
 ·simp only[ah.hd,gd,eN];refine ab.E9 rfl b9 eP al (by rw[DJ];exact eV) (by rw[size_madeCells,di];exact c8 _) (λi v M=> ?_) (λi _=>by simp);have lh:i<L.toNat*G.length:=(by have:=(cG.1 M).1;rwa [DJ]at this);refine⟨zI (vC v (fr M)),v,?_,.c7 (vC v (fr M))⟩;have g1:(madeCells iw.cells (C.toNat*b3.size)).toList=(List.replicate C.toNat G).flatten:=(by rw[<-yw,S9 (by omega),o2]);rw[<-Og,g1,Ps dU _ _ (by omega)];rw[Ps dU _ _ lh]at M;exact M
theorem aol: ∀(c9:List Int) (dN:ByteArray),c9.foldl (λr n=>r.push (UInt8.ofNat n.toNat)) dN=dN++⟨(c9.map λn=>UInt8.ofNat n.toNat).toArray⟩
 | [],dN=>by simp only[List.foldl_nil,List.map_nil];apply ByteArray.ext;simp
 | n::c9,dN=>by simp only[zg,lO];rw[aol c9];apply ByteArray.ext;simp[ByteArray.push]
theorem aGQ{s d e:TypeId}{x:Operand}(b1:o.op= .convert s d x)(cc:P.underlying s=some (.slice e))(h9:P.underlying d=some .string)(ck:P.underlying e=some (.int .u8))(B:df x=true)
 (F:g7 ag dc z a) (ab:dv aN ag m w) (av:(ah.py x).ok z m=true):rm P o (.py x) a aN ag z m w id:=by
 simp only[ah.ok,a6]at av;obtain⟨A,D⟩:=av;have al:=F.O B;have conv: ∀v,a.eval x=v->(∃p l c,v= .slice p l c)-> ∀b:ByteArray,(Conv.bytesToString v).run P w= .ok (.string b) w->kf P o a w (.string b) w:=by intro v M ⟨p,l,c,Z⟩ b hb;subst Z;refine .inl ?_;cases p<;>simp[execOp,b1,M,convert,underlying,cc,h9,ck,hb]
 cases a9:O z x<;>simp only[a9,fw]at A<;>try cases A
 rename_i p len c;rw[a9]at al;refine⟨.string (toBytes (fq m 1 (O z x))),w,ag,?_,gH.refl ag,λ_ _=>rfl,.c7 rfl,ab,Below.refl _ _⟩;cases p with
 | none=>have M:=al.hL (by simpa[ei]using A);refine conv _ M ⟨_,_,_,rfl⟩ _ ?_;simp only[Conv.bytesToString,a9,fq,toBytes];rfl
 | some eu=>
   simp only[a6,Da,beq_iff_eq]at A;obtain⟨⟨gZ,sn⟩,A⟩:=A;split at A
   ·rename_i y Y;simp only[Nat.mul_one,ey]at A;obtain⟨l,ed,cap,az,_,M,ae,yj,qI⟩:=al.l6;refine conv _ M ⟨_,_,_,rfl⟩ _ ?_;simp only[a9,fq,Nat.mul_one]at D⊢;obtain⟨ds,ek,gm,kT,rV⟩:=ab.cells Y az A;have ka: ∃c9:List Int,ds=c9.map (Value.int .u8)/\gM m eu.block eu.off len=c9.map (Value.int .u8):=by
     have auT: ∀(dp vs:List Value),dp.all EO=true->da ag dp vs-> ∃c9:List Int,vs=c9.map (Value.int .u8)/\dp=c9.map (Value.int .u8):=by
      intro dp;induction dp with
      |nil=>intro vs _ h;have:=h.1;simp at this;exact⟨[],by simp[r6.1 this.symm],rfl⟩
      | cons bf dp cf=>
        intro vs aa h;cases vs with
        |nil=>have:=h.1;simp at this
        | cons v vs=>simp only[mZ,a6]at aa;obtain⟨c9,aE,a2⟩:=cf vs aa.2 ⟨by simpa using h.1,λi p q Z bo=>h.2 (i+1) p q (by simpa using Z) (by simpa using bo)⟩;have bY:=h.2 0 bf v rfl rfl;have ahV:=aa.1;cases bf<;>simp[EO]at ahV;rename_i k n;cases k<;>simp at ahV;exact⟨n::c9,by simp[aE,bY.tE],by simp[a2]⟩
     exact auT _ _ D ek
    obtain⟨c9,vK,ahw⟩:=ka;subst vK;rcases ae with⟨rfl,rfl⟩|⟨rfl,ae⟩
    ·have tu:c9=[]:=(by simp at gm;exact gm);subst tu;have:=run_bytesToString (P:=P) w ed 0 0 [] (by simp[loadCells,loadCellsFrom]);rw[this,ahw];rfl
    ·have ahq:=run_loadCells_list (P:=P) w ⟨l.c,l.o+eu.off,none⟩ _ kT;rw[gm]at ahq;rw[run_bytesToString w _ len cap c9 (by rw[ahq]),aol,ahw];congr 2;apply ByteArray.ext;simp[toBytes,byteOf,Function.comp_def]
   ·cases A
end
end Go.DI
