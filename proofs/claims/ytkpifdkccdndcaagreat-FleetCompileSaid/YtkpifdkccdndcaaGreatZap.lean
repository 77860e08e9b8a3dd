/-
  A part of the proof of the statement, in texts that tools of ours (wip/shrink.py, irpack.py, relax.py, minify.py, join.py, lay.py) have shortened.
-/
import Derived.Test.YtkpifdkccdndcaaGreatZao
set_option linter.all false
set_option maxRecDepth 8000
set_option maxHeartbeats 16000000
namespace Go.Big
def dY.at(s:dY)(i:Int):Int:=if i=0 then s.a else if i=1 then s.b else if i=2 then s.c else if i=3 then s.d else s.e
def dY.au(s:dY)(i v:Int):dY:=if i=1 then⟨s.a,v,-1,-1,-1⟩else if i=2 then⟨s.a,s.b,v,-1,-1⟩else if i=3 then⟨s.a,s.b,s.c,v,-1⟩else⟨s.a,s.b,s.c,s.d,v⟩
inductive Tt where
  |q5 (e:Int)
  |Fw (d:zm)
  |ql (d:qX) (l:dY)
end Go.Big
namespace Go.Proofs.YtkpifdkccdndcaaGreat
open Go Go.DI Go.Big
noncomputable def gy(x:k4)(sB:Bool)(m6:Option Int)(cc:dY)(qN:Nat):Tt:=
  if gP x.name=false then .q5 1 else if sB=true then .q5 8 else if cU x.cR 1 5=false then .q5 1 else if cc.at (x.cR-1)<0 then .q5 1 else
  if x.cR=5 then(match m6 with
    |none=> .q5 7
    |some m=>if x.gQ=0 then(if x.fX.bw.ok=false then .q5 1 else if 0<x.fX.bw.n then .q5 1 else .Fw ⟨x.name,m,cc.e⟩)else .q5 1)
  else if cU x.gQ 1 64=false then .q5 5 else if x.fX.bw.small=false then .q5 1 else if x.model=⟨#[]⟩then .ql ⟨x.name,x.cR,cc.at (x.cR-1),x.gQ,ea x.fX⟩ (cc.au x.cR qN)else .q5 1
noncomputable def abj:c8 Tryz.prog:= .fJ 91 bh bh.bM (λx=>[eD x]) (λx=> .bool x.bw.ok) λ_ W=>aDH W
@[simp] theorem aNQ:abj.f=91:=rfl
@[simp] theorem aNR{n:Bool}{a b:List Int}(h:(bh.mk n a b).bM):abj.fn [.agg #[.bool n,e3 a,e3 b]]=some (.bool (bh.mk n a b).bw.ok):=c8.gX (x:=bh.mk n a b) h λy ah=>CL ah
@[simp] theorem aOf{n:Bool}{a b:List Int}(h:(bh.mk n a b).bM):Cw.fn [bE [[.bool n,e3 a,e3 b]] 3]=some (bE [eS (ea ⟨n,a,b⟩)] 3):=
  am1 (l:=[⟨n,a,b⟩]) ⟨λx H=>by simp at H;rw[H];exact h,by simp⟩
theorem alH{c:Nat}{bd gi cY cy:Value}{kP dK eO gk hN:Int}{u:aL}{t:B}{Q:dr->aL->B->Prop}(bB:u 0=bZ c)(Z:u 3=bd)(cC:u 6=S 5)(bf: ∀ag,ag 0=bZ c->ag 3=bd->Q (.bI 0) ag t):hs Tryz.prog (.loop Ae) u t Q:=by
  refine su (aY:=⟨[],[]⟩) λb9 a9=> ?_;have MJ:IntKind.i64.wrap 5=5:=by decide
  have H2:IntKind.i64.wrap 6=6:=by decide
  simp[Ae,KZ,cC];exact bf _ (by simp[bB]) (by simp[Z])
theorem alG{c:Nat}{dF bn bF dp eH fo fp gp hW gD hd g8 bd gi cY cy:Value}{kP dK eO gk hN:Int}{u:aL}{t:B}{Q:dr->aL->B->Prop}(bB:u 0=bZ c)(Z:u 3=bd)(cC:u 6=S 4)(aj:t.M c=some ⟨[dF,bn,bF,dp,eH,fo,fp,gp,hW,gD,hd,g8,S kP,S dK,S eO,S gk,S hN,gi,cY,cy],true⟩)(bf: ∀ag,ag 0=bZ c->ag 3=bd->Q (.bI 0) ag (t.au c (some ⟨[dF,bn,bF,dp,eH,fo,fp,gp,hW,gD,hd,g8,S kP,S dK,S eO,S gk,S (-1),gi,cY,cy],true⟩))):hs Tryz.prog (.loop Ae) u t Q:=by
  refine su (aY:=⟨[],[]⟩) λb9 a9=> ?_;have MJ:IntKind.i64.wrap 4=4:=by decide
  have H2:IntKind.i64.wrap 5=5:=by decide
  have m1:=aT aj;simp[Ae,KZ,bB,cC,aj,H2];exact a9 _ _ (alH (gi:=gi) (cY:=cY) (cy:=cy) (kP:=kP) (dK:=dK) (eO:=eO) (gk:=gk) (hN:=hN) (by simp[bB]) (by simp[Z]) (by simp) bf)
theorem alF{c:Nat}{dF bn bF dp eH fo fp gp hW gD hd g8 bd gi cY cy:Value}{kP dK eO gk hN:Int}{u:aL}{t:B}{Q:dr->aL->B->Prop}(bB:u 0=bZ c)(Z:u 3=bd)(cC:u 6=S 3)(aj:t.M c=some ⟨[dF,bn,bF,dp,eH,fo,fp,gp,hW,gD,hd,g8,S kP,S dK,S eO,S gk,S hN,gi,cY,cy],true⟩)(bf: ∀ag,ag 0=bZ c->ag 3=bd->Q (.bI 0) ag (t.au c (some ⟨[dF,bn,bF,dp,eH,fo,fp,gp,hW,gD,hd,g8,S kP,S dK,S eO,S (-1),S (-1),gi,cY,cy],true⟩))):hs Tryz.prog (.loop Ae) u t Q:=by
  refine su (aY:=⟨[],[]⟩) λb9 a9=> ?_;have MJ:IntKind.i64.wrap 3=3:=by decide
  have H2:IntKind.i64.wrap 4=4:=by decide
  have m1:=aT aj;simp[Ae,KZ,bB,cC,aj,H2];exact a9 _ _ (alG (bd:=bd) (by simp[bB]) (by simp[Z]) (by simp) (bX m1) λag h ca=>by rw[aaB];exact bf ag h ca)
theorem az4{c:Nat}{dF bn bF dp eH fo fp gp hW gD hd g8 bd gi cY cy:Value}{kP dK eO gk hN:Int}{u:aL}{t:B}{Q:dr->aL->B->Prop}(bB:u 0=bZ c)(Z:u 3=bd)(cC:u 6=S 2)(aj:t.M c=some ⟨[dF,bn,bF,dp,eH,fo,fp,gp,hW,gD,hd,g8,S kP,S dK,S eO,S gk,S hN,gi,cY,cy],true⟩)(bf: ∀ag,ag 0=bZ c->ag 3=bd->Q (.bI 0) ag (t.au c (some ⟨[dF,bn,bF,dp,eH,fo,fp,gp,hW,gD,hd,g8,S kP,S dK,S (-1),S (-1),S (-1),gi,cY,cy],true⟩))):hs Tryz.prog (.loop Ae) u t Q:=by
  refine su (aY:=⟨[],[]⟩) λb9 a9=> ?_;have MJ:IntKind.i64.wrap 2=2:=by decide
  have H2:IntKind.i64.wrap 3=3:=by decide
  have m1:=aT aj;simp[Ae,KZ,bB,cC,aj,H2];exact a9 _ _ (alF (bd:=bd) (by simp[bB]) (by simp[Z]) (by simp) (bX m1) λag h ca=>by rw[aaB];exact bf ag h ca)
theorem az5{x:k4}(W:x.fX.bM){c g4 g6 eC iL qN Aw:Nat}{dF bn bF fo fp gp hd g8 cY cy:Value}{cc:dY}{IA IF:List Value}{bg eF:List (Value×Value)}{t:B}
    (aj:t.M c=some ⟨[dF,bn,bF,.slice (some ⟨g4,0,none⟩) qN 7,.slice (some ⟨g6,0,none⟩) Aw 3,fo,fp,gp,.map (some eC),.map (some iL),hd,g8,S cc.a,S cc.b,S cc.c,S cc.d,S cc.e,S 0,cY,cy],true⟩)
    (ay:t.M g4=some ⟨IA,true⟩) (wW:t.M g6=some ⟨IF,true⟩) (Dy:IA.length=qN*7) (Bx:IF.length=Aw*3) (aJh:qN<1000000) (aJi:Aw<1000000) (aK:t.c6 iL=some bg) (tz:eh .str (cz x.name) bg=true) (aG:t.c6 eC=some eF) (mq:eh .str (cz x.model) eF=true)
    (fY:g4≠c) (dh:g6≠c) (kZ:iL≠c) (p0:eC≠c) (sW:eC≠iL) (Ho:iL≠g4) (alu:iL≠g6) (alv:g4≠g6) {m6:Option Int} (kV:cF (cz x.model) eF=m6.map λi=>S i) {az:Value->B->Prop}
    (z: ∀d,gy x (cF (cz x.name) bg).isSome m6 cc qN= .Fw d-> ∀aN o',t.next<=o'->qe t aN [c,g6,iL]->aN.M c=some ⟨[dF,bn,bF,.slice (some ⟨g4,0,none⟩) qN 7,.slice (some ⟨o',0,none⟩) (Aw+1) 3,fo,fp,gp,.map (some eC),.map (some iL),hd,g8,S cc.a,S cc.b,S cc.c,S cc.d,S cc.e,S 0,cY,cy],true⟩->aN.M o'=some ⟨IF++qp d,true⟩->aN.c6 iL=some (dW (cz x.name) (S 0) bg)->az (.tuple #[]) aN)
    (D: ∀d iV,gy x (cF (cz x.name) bg).isSome m6 cc qN= .ql d iV-> ∀aN o',t.next<=o'->qe t aN [c,g4,iL]->aN.M c=some ⟨[dF,bn,bF,.slice (some ⟨o',0,none⟩) (qN+1) 7,.slice (some ⟨g6,0,none⟩) Aw 3,fo,fp,gp,.map (some eC),.map (some iL),hd,g8,S iV.a,S iV.b,S iV.c,S iV.d,S iV.e,S 0,cY,cy],true⟩->aN.M o'=some ⟨IA++iC d,true⟩->aN.c6 iL=some (dW (cz x.name) (S 0) bg)->az (.tuple #[]) aN)
    (Z: ∀e,gy x (cF (cz x.name) bg).isSome m6 cc qN= .q5 e-> ∀aN,gf c e x.p.l x.p.c aN->az (.tuple #[]) aN):hn Tryz.prog 42 [bZ c,.agg (fl x).toArray] t az:=by
  refine g0 (aY:=⟨[oA,abj,Mj,EX,Cw],[pU,DZ]⟩) axr (by kernel_rfl) (by simp[jt]) ?_;have m1:=aT aj;have aK1:=aT ay;have lr:=aT wW;have jS:iL<t.next:=aT (hv aK).1
  have LL:eC<t.next:=aT (hv aG).1
  have bm: ¬c=t.next:=by omega
  have bU: ¬t.next=c:=by omega
  have cn: ¬iL=t.next:=by omega
  have fa: ¬eC=t.next:=by omega
  have S1:IA.take (qN*7)=IA:=List.take_of_length_le (by omega);have CI:IF.take (Aw*3)=IF:=List.take_of_length_le (by omega);have fV:(Aw+1)*32<=140737488355328/\Aw<=9223372036854775806:=by omega
  have lP:(qN+1)*96<=140737488355328/\qN<=9223372036854775806:=by omega
  have CO:IntKind.i64.wrap 0=0:=by decide
  have CP:IntKind.i64.wrap 1=1:=by decide
  have AZ:IntKind.i64.wrap 2=2:=by decide
  have A0:IntKind.i64.wrap 3=3:=by decide
  have ze:IntKind.i64.wrap 4=4:=by decide
  have aD0:IntKind.i64.wrap 5=5:=by decide
  cases bO:gP x.name
  · simp(disch:=first|omega|(simp only[ae,ad,af];omega)) [jt,jG,jH,jI,jJ,jK,jL,jM,jN,jO,jP,fl,aj,aK,bO,gl,fS,-cF,-dW,-eh,-al,-ar,-ai,-ao,-List.map_map];exact Z 1 (by simp[gy,bO]) _ (gf.mk (bX (by simp<;>omega)))
  · cases aI:(cF (cz x.name) bg).isSome
    · cases kt:cU x.cR 1 5
      · simp(disch:=first|omega|(simp only[ae,ad,af];omega)) [jt,jG,jH,jI,jJ,jK,jL,jM,jN,jO,jP,fl,aj,aK,bO,aI,kt,gl,hy,fS,-cF,-dW,-eh,-al,-ar,-ai,-ao,-List.map_map];exact Z 1 (by simp[gy,bO,aI,kt]) _ (gf.mk (bX (by simp<;>omega)))
      · have Oi:x.cR=1\/x.cR=2\/x.cR=3\/x.cR=4\/x.cR=5:=(by simp[cU]at kt;omega);rcases Oi with aX|aX|aX|aX|aX
        · have fB:cU 1 1 5=true:=(by decide);by_cases iw:0<=cc.a
          · have kK: ¬cc.a<0:=(by omega);cases bk:cU x.gQ 1 64
            · cases fH:x.fX.bw.small
              · simp(disch:=first|omega|(simp only[ae,ad,af];omega)) [jt,jG,jH,jI,jJ,jK,jL,jM,jN,jO,jP,fl,aj,aK,bO,aI,fB,aX,CO,gl,hy,fS,-cF,-dW,-eh,iw,bk,fH,-al,-ar,-ai,-ao,-List.map_map];exact Z 5 (by simp[gy,bO,aI,aX,fB,kK,dY.at,bk]) _ (gf.mk (bX (by simp<;>omega)))
              · by_cases lk:x.model=⟨#[]⟩
                · simp(disch:=first|omega|(simp only[ae,ad,af];omega)) [jt,jG,jH,jI,jJ,jK,jL,jM,jN,jO,jP,fl,aj,aK,bO,aI,fB,aX,CO,gl,hy,fS,-cF,-dW,-eh,iw,bk,fH,lk,-al,-ar,-ai,-ao,-List.map_map];exact Z 5 (by simp[gy,bO,aI,aX,fB,kK,dY.at,bk]) _ (gf.mk (bX (by simp<;>omega)))
                · simp(disch:=first|omega|(simp only[ae,ad,af];omega)) [jt,jG,jH,jI,jJ,jK,jL,jM,jN,jO,jP,fl,aj,aK,bO,aI,fB,aX,CO,gl,hy,fS,-cF,-dW,-eh,iw,bk,fH,lk,-al,-ar,-ai,-ao,-List.map_map];exact Z 5 (by simp[gy,bO,aI,aX,fB,kK,dY.at,bk]) _ (gf.mk (bX (by simp<;>omega)))
            · cases fH:x.fX.bw.small
              · simp(disch:=first|omega|(simp only[ae,ad,af];omega)) [jt,jG,jH,jI,jJ,jK,jL,jM,jN,jO,jP,fl,aj,aK,bO,aI,fB,aX,CO,gl,hy,fS,-cF,-dW,-eh,iw,bk,fH,-al,-ar,-ai,-ao,-List.map_map];exact Z 1 (by simp[gy,bO,aI,aX,fB,kK,dY.at,bk,fH]) _ (gf.mk (bX (by simp<;>omega)))
              · by_cases lk:x.model=⟨#[]⟩
                · simp(disch:=first|omega|(simp only[ae,ad,af];omega)) [jt,jG,jH,jI,jJ,jK,jL,jM,jN,jO,jP,fl,aj,aK,bO,aI,fB,aX,CO,AZ,gl,hy,fS,-cF,-dW,-eh,iw,bk,fH,lk,-al,-ar,-ai,-ao,-List.map_map];refine az4 (c:=c) (bd:=bZ t.next) (by simp(disch:=first|omega|(simp only[ae,ad,af];omega)) [-al,-ar,-ai,-ao,-List.map_map]) (by simp(disch:=first|omega|(simp only[ae,ad,af];omega)) [-al,-ar,-ai,-ao,-List.map_map]) (by simp(disch:=first|omega|(simp only[ae,ad,af];omega)) [-al,-ar,-ai,-ao,-List.map_map]) (bX (by simp<;>omega)) λag aM a1=> ?_;simp(disch:=first|omega|(simp only[ae,ad,af];omega)) [gl,hy,fS,-cF,-dW,-eh,ay,Dy,S1,lP,eS,aM,a1,CO,jq,jw,-al,-ar,-ai,-ao,-List.map_map];refine D ⟨x.name,1,cc.a,x.gQ,ea x.fX⟩ ⟨cc.a,qN,-1,-1,-1⟩ (by simp[gy,bO,aI,aX,fB,kK,dY.at,dY.au,bk,fH,lk]) _ (t.next+13+28) (by omega) ⟨by simp<;>omega,λb L c5=> ?_,λb L c5=> ?_⟩ ?_ ?_ ?_
                  · simp only[List.mem_cons,List.not_mem_nil,or_false,not_or]at c5;obtain⟨aM,a1,cI⟩:=c5;simp(disch:=first|omega|(simp only[ae,ad,af];omega)) [-al,-ar,-ai,-ao,-List.map_map]
                  · simp only[List.mem_cons,List.not_mem_nil,or_false,not_or]at c5;obtain⟨aM,a1,cI⟩:=c5;simp(disch:=first|omega|(simp only[ae,ad,af];omega)) [-al,-ar,-ai,-ao,-List.map_map]
                  · simp(disch:=first|omega|(simp only[ae,ad,af];omega)) [-al,-ar,-ai,-ao,-List.map_map]
                  · simp(disch:=first|omega|(simp only[ae,ad,af];omega)) [iC,-al,-ar,-ai,-ao,-List.map_map]
                  · simp(disch:=first|omega|(simp only[ae,ad,af];omega)) [-dW,-al,-ar,-ai,-ao,-List.map_map]
                · simp(disch:=first|omega|(simp only[ae,ad,af];omega)) [jt,jG,jH,jI,jJ,jK,jL,jM,jN,jO,jP,fl,aj,aK,bO,aI,fB,aX,CO,gl,hy,fS,-cF,-dW,-eh,iw,bk,fH,lk,-al,-ar,-ai,-ao,-List.map_map];exact Z 1 (by simp[gy,bO,aI,aX,fB,kK,dY.at,bk,fH,lk]) _ (gf.mk (bX (by simp<;>omega)))
          · have zS:cc.a<0:=(by omega);simp(disch:=first|omega|(simp only[ae,ad,af];omega)) [jt,jG,jH,jI,jJ,jK,jL,jM,jN,jO,jP,fl,aj,aK,bO,aI,fB,aX,CO,gl,hy,fS,-cF,-dW,-eh,iw,-al,-ar,-ai,-ao,-List.map_map];exact Z 1 (by simp[gy,bO,aI,aX,fB,zS,dY.at]) _ (gf.mk (bX (by simp<;>omega)))
        · have fB:cU 2 1 5=true:=(by decide);by_cases iw:0<=cc.b
          · have kK: ¬cc.b<0:=(by omega);cases bk:cU x.gQ 1 64
            · cases fH:x.fX.bw.small
              · simp(disch:=first|omega|(simp only[ae,ad,af];omega)) [jt,jG,jH,jI,jJ,jK,jL,jM,jN,jO,jP,fl,aj,aK,bO,aI,fB,aX,CP,gl,hy,fS,-cF,-dW,-eh,iw,bk,fH,-al,-ar,-ai,-ao,-List.map_map];exact Z 5 (by simp[gy,bO,aI,aX,fB,kK,dY.at,bk]) _ (gf.mk (bX (by simp<;>omega)))
              · by_cases lk:x.model=⟨#[]⟩
                · simp(disch:=first|omega|(simp only[ae,ad,af];omega)) [jt,jG,jH,jI,jJ,jK,jL,jM,jN,jO,jP,fl,aj,aK,bO,aI,fB,aX,CP,gl,hy,fS,-cF,-dW,-eh,iw,bk,fH,lk,-al,-ar,-ai,-ao,-List.map_map];exact Z 5 (by simp[gy,bO,aI,aX,fB,kK,dY.at,bk]) _ (gf.mk (bX (by simp<;>omega)))
                · simp(disch:=first|omega|(simp only[ae,ad,af];omega)) [jt,jG,jH,jI,jJ,jK,jL,jM,jN,jO,jP,fl,aj,aK,bO,aI,fB,aX,CP,gl,hy,fS,-cF,-dW,-eh,iw,bk,fH,lk,-al,-ar,-ai,-ao,-List.map_map];exact Z 5 (by simp[gy,bO,aI,aX,fB,kK,dY.at,bk]) _ (gf.mk (bX (by simp<;>omega)))
            · cases fH:x.fX.bw.small
              · simp(disch:=first|omega|(simp only[ae,ad,af];omega)) [jt,jG,jH,jI,jJ,jK,jL,jM,jN,jO,jP,fl,aj,aK,bO,aI,fB,aX,CP,gl,hy,fS,-cF,-dW,-eh,iw,bk,fH,-al,-ar,-ai,-ao,-List.map_map];exact Z 1 (by simp[gy,bO,aI,aX,fB,kK,dY.at,bk,fH]) _ (gf.mk (bX (by simp<;>omega)))
              · by_cases lk:x.model=⟨#[]⟩
                · simp(disch:=first|omega|(simp only[ae,ad,af];omega)) [jt,jG,jH,jI,jJ,jK,jL,jM,jN,jO,jP,fl,aj,aK,bO,aI,fB,aX,CP,A0,gl,hy,fS,-cF,-dW,-eh,iw,bk,fH,lk,-al,-ar,-ai,-ao,-List.map_map];refine alF (c:=c) (bd:=bZ t.next) (by simp(disch:=first|omega|(simp only[ae,ad,af];omega)) [-al,-ar,-ai,-ao,-List.map_map]) (by simp(disch:=first|omega|(simp only[ae,ad,af];omega)) [-al,-ar,-ai,-ao,-List.map_map]) (by simp(disch:=first|omega|(simp only[ae,ad,af];omega)) [-al,-ar,-ai,-ao,-List.map_map]) (bX (by simp<;>omega)) λag aM a1=> ?_;simp(disch:=first|omega|(simp only[ae,ad,af];omega)) [gl,hy,fS,-cF,-dW,-eh,ay,Dy,S1,lP,eS,aM,a1,CP,jq,jw,-al,-ar,-ai,-ao,-List.map_map];refine D ⟨x.name,2,cc.b,x.gQ,ea x.fX⟩ ⟨cc.a,cc.b,qN,-1,-1⟩ (by simp[gy,bO,aI,aX,fB,kK,dY.at,dY.au,bk,fH,lk]) _ (t.next+13+28) (by omega) ⟨by simp<;>omega,λb L c5=> ?_,λb L c5=> ?_⟩ ?_ ?_ ?_
                  · simp only[List.mem_cons,List.not_mem_nil,or_false,not_or]at c5;obtain⟨aM,a1,cI⟩:=c5;simp(disch:=first|omega|(simp only[ae,ad,af];omega)) [-al,-ar,-ai,-ao,-List.map_map]
                  · simp only[List.mem_cons,List.not_mem_nil,or_false,not_or]at c5;obtain⟨aM,a1,cI⟩:=c5;simp(disch:=first|omega|(simp only[ae,ad,af];omega)) [-al,-ar,-ai,-ao,-List.map_map]
                  · simp(disch:=first|omega|(simp only[ae,ad,af];omega)) [-al,-ar,-ai,-ao,-List.map_map]
                  · simp(disch:=first|omega|(simp only[ae,ad,af];omega)) [iC,-al,-ar,-ai,-ao,-List.map_map]
                  · simp(disch:=first|omega|(simp only[ae,ad,af];omega)) [-dW,-al,-ar,-ai,-ao,-List.map_map]
                · simp(disch:=first|omega|(simp only[ae,ad,af];omega)) [jt,jG,jH,jI,jJ,jK,jL,jM,jN,jO,jP,fl,aj,aK,bO,aI,fB,aX,CP,gl,hy,fS,-cF,-dW,-eh,iw,bk,fH,lk,-al,-ar,-ai,-ao,-List.map_map];exact Z 1 (by simp[gy,bO,aI,aX,fB,kK,dY.at,bk,fH,lk]) _ (gf.mk (bX (by simp<;>omega)))
          · have zS:cc.b<0:=(by omega);simp(disch:=first|omega|(simp only[ae,ad,af];omega)) [jt,jG,jH,jI,jJ,jK,jL,jM,jN,jO,jP,fl,aj,aK,bO,aI,fB,aX,CP,gl,hy,fS,-cF,-dW,-eh,iw,-al,-ar,-ai,-ao,-List.map_map];exact Z 1 (by simp[gy,bO,aI,aX,fB,zS,dY.at]) _ (gf.mk (bX (by simp<;>omega)))
        · have fB:cU 3 1 5=true:=(by decide);by_cases iw:0<=cc.c
          · have kK: ¬cc.c<0:=(by omega);cases bk:cU x.gQ 1 64
            · cases fH:x.fX.bw.small
              · simp(disch:=first|omega|(simp only[ae,ad,af];omega)) [jt,jG,jH,jI,jJ,jK,jL,jM,jN,jO,jP,fl,aj,aK,bO,aI,fB,aX,AZ,gl,hy,fS,-cF,-dW,-eh,iw,bk,fH,-al,-ar,-ai,-ao,-List.map_map];exact Z 5 (by simp[gy,bO,aI,aX,fB,kK,dY.at,bk]) _ (gf.mk (bX (by simp<;>omega)))
              · by_cases lk:x.model=⟨#[]⟩
                · simp(disch:=first|omega|(simp only[ae,ad,af];omega)) [jt,jG,jH,jI,jJ,jK,jL,jM,jN,jO,jP,fl,aj,aK,bO,aI,fB,aX,AZ,gl,hy,fS,-cF,-dW,-eh,iw,bk,fH,lk,-al,-ar,-ai,-ao,-List.map_map];exact Z 5 (by simp[gy,bO,aI,aX,fB,kK,dY.at,bk]) _ (gf.mk (bX (by simp<;>omega)))
                · simp(disch:=first|omega|(simp only[ae,ad,af];omega)) [jt,jG,jH,jI,jJ,jK,jL,jM,jN,jO,jP,fl,aj,aK,bO,aI,fB,aX,AZ,gl,hy,fS,-cF,-dW,-eh,iw,bk,fH,lk,-al,-ar,-ai,-ao,-List.map_map];exact Z 5 (by simp[gy,bO,aI,aX,fB,kK,dY.at,bk]) _ (gf.mk (bX (by simp<;>omega)))
            · cases fH:x.fX.bw.small
              · simp(disch:=first|omega|(simp only[ae,ad,af];omega)) [jt,jG,jH,jI,jJ,jK,jL,jM,jN,jO,jP,fl,aj,aK,bO,aI,fB,aX,AZ,gl,hy,fS,-cF,-dW,-eh,iw,bk,fH,-al,-ar,-ai,-ao,-List.map_map];exact Z 1 (by simp[gy,bO,aI,aX,fB,kK,dY.at,bk,fH]) _ (gf.mk (bX (by simp<;>omega)))
              · by_cases lk:x.model=⟨#[]⟩
                · simp(disch:=first|omega|(simp only[ae,ad,af];omega)) [jt,jG,jH,jI,jJ,jK,jL,jM,jN,jO,jP,fl,aj,aK,bO,aI,fB,aX,AZ,ze,gl,hy,fS,-cF,-dW,-eh,iw,bk,fH,lk,-al,-ar,-ai,-ao,-List.map_map];refine alG (c:=c) (bd:=bZ t.next) (by simp(disch:=first|omega|(simp only[ae,ad,af];omega)) [-al,-ar,-ai,-ao,-List.map_map]) (by simp(disch:=first|omega|(simp only[ae,ad,af];omega)) [-al,-ar,-ai,-ao,-List.map_map]) (by simp(disch:=first|omega|(simp only[ae,ad,af];omega)) [-al,-ar,-ai,-ao,-List.map_map]) (bX (by simp<;>omega)) λag aM a1=> ?_;simp(disch:=first|omega|(simp only[ae,ad,af];omega)) [gl,hy,fS,-cF,-dW,-eh,ay,Dy,S1,lP,eS,aM,a1,AZ,jq,jw,-al,-ar,-ai,-ao,-List.map_map];refine D ⟨x.name,3,cc.c,x.gQ,ea x.fX⟩ ⟨cc.a,cc.b,cc.c,qN,-1⟩ (by simp[gy,bO,aI,aX,fB,kK,dY.at,dY.au,bk,fH,lk]) _ (t.next+13+28) (by omega) ⟨by simp<;>omega,λb L c5=> ?_,λb L c5=> ?_⟩ ?_ ?_ ?_
                  · simp only[List.mem_cons,List.not_mem_nil,or_false,not_or]at c5;obtain⟨aM,a1,cI⟩:=c5;simp(disch:=first|omega|(simp only[ae,ad,af];omega)) [-al,-ar,-ai,-ao,-List.map_map]
                  · simp only[List.mem_cons,List.not_mem_nil,or_false,not_or]at c5;obtain⟨aM,a1,cI⟩:=c5;simp(disch:=first|omega|(simp only[ae,ad,af];omega)) [-al,-ar,-ai,-ao,-List.map_map]
                  · simp(disch:=first|omega|(simp only[ae,ad,af];omega)) [-al,-ar,-ai,-ao,-List.map_map]
                  · simp(disch:=first|omega|(simp only[ae,ad,af];omega)) [iC,-al,-ar,-ai,-ao,-List.map_map]
                  · simp(disch:=first|omega|(simp only[ae,ad,af];omega)) [-dW,-al,-ar,-ai,-ao,-List.map_map]
                · simp(disch:=first|omega|(simp only[ae,ad,af];omega)) [jt,jG,jH,jI,jJ,jK,jL,jM,jN,jO,jP,fl,aj,aK,bO,aI,fB,aX,AZ,gl,hy,fS,-cF,-dW,-eh,iw,bk,fH,lk,-al,-ar,-ai,-ao,-List.map_map];exact Z 1 (by simp[gy,bO,aI,aX,fB,kK,dY.at,bk,fH,lk]) _ (gf.mk (bX (by simp<;>omega)))
          · have zS:cc.c<0:=(by omega);simp(disch:=first|omega|(simp only[ae,ad,af];omega)) [jt,jG,jH,jI,jJ,jK,jL,jM,jN,jO,jP,fl,aj,aK,bO,aI,fB,aX,AZ,gl,hy,fS,-cF,-dW,-eh,iw,-al,-ar,-ai,-ao,-List.map_map];exact Z 1 (by simp[gy,bO,aI,aX,fB,zS,dY.at]) _ (gf.mk (bX (by simp<;>omega)))
        · have fB:cU 4 1 5=true:=(by decide);by_cases iw:0<=cc.d
          · have kK: ¬cc.d<0:=(by omega);cases bk:cU x.gQ 1 64
            · cases fH:x.fX.bw.small
              · simp(disch:=first|omega|(simp only[ae,ad,af];omega)) [jt,jG,jH,jI,jJ,jK,jL,jM,jN,jO,jP,fl,aj,aK,bO,aI,fB,aX,A0,gl,hy,fS,-cF,-dW,-eh,iw,bk,fH,-al,-ar,-ai,-ao,-List.map_map];exact Z 5 (by simp[gy,bO,aI,aX,fB,kK,dY.at,bk]) _ (gf.mk (bX (by simp<;>omega)))
              · by_cases lk:x.model=⟨#[]⟩
                · simp(disch:=first|omega|(simp only[ae,ad,af];omega)) [jt,jG,jH,jI,jJ,jK,jL,jM,jN,jO,jP,fl,aj,aK,bO,aI,fB,aX,A0,gl,hy,fS,-cF,-dW,-eh,iw,bk,fH,lk,-al,-ar,-ai,-ao,-List.map_map];exact Z 5 (by simp[gy,bO,aI,aX,fB,kK,dY.at,bk]) _ (gf.mk (bX (by simp<;>omega)))
                · simp(disch:=first|omega|(simp only[ae,ad,af];omega)) [jt,jG,jH,jI,jJ,jK,jL,jM,jN,jO,jP,fl,aj,aK,bO,aI,fB,aX,A0,gl,hy,fS,-cF,-dW,-eh,iw,bk,fH,lk,-al,-ar,-ai,-ao,-List.map_map];exact Z 5 (by simp[gy,bO,aI,aX,fB,kK,dY.at,bk]) _ (gf.mk (bX (by simp<;>omega)))
            · cases fH:x.fX.bw.small
              · simp(disch:=first|omega|(simp only[ae,ad,af];omega)) [jt,jG,jH,jI,jJ,jK,jL,jM,jN,jO,jP,fl,aj,aK,bO,aI,fB,aX,A0,gl,hy,fS,-cF,-dW,-eh,iw,bk,fH,-al,-ar,-ai,-ao,-List.map_map];exact Z 1 (by simp[gy,bO,aI,aX,fB,kK,dY.at,bk,fH]) _ (gf.mk (bX (by simp<;>omega)))
              · by_cases lk:x.model=⟨#[]⟩
                · simp(disch:=first|omega|(simp only[ae,ad,af];omega)) [jt,jG,jH,jI,jJ,jK,jL,jM,jN,jO,jP,fl,aj,aK,bO,aI,fB,aX,A0,aD0,gl,hy,fS,-cF,-dW,-eh,iw,bk,fH,lk,-al,-ar,-ai,-ao,-List.map_map];refine alH (c:=c) (bd:=bZ t.next) (gi:=S 0) (cY:=cY) (cy:=cy) (kP:=0) (dK:=0) (eO:=0) (gk:=0) (hN:=0) (by simp(disch:=first|omega|(simp only[ae,ad,af];omega)) [-al,-ar,-ai,-ao,-List.map_map]) (by simp(disch:=first|omega|(simp only[ae,ad,af];omega)) [-al,-ar,-ai,-ao,-List.map_map]) (by simp(disch:=first|omega|(simp only[ae,ad,af];omega)) [-al,-ar,-ai,-ao,-List.map_map]) λag aM a1=> ?_;simp(disch:=first|omega|(simp only[ae,ad,af];omega)) [gl,hy,fS,-cF,-dW,-eh,ay,Dy,S1,lP,eS,aM,a1,A0,jq,jw,-al,-ar,-ai,-ao,-List.map_map];refine D ⟨x.name,4,cc.d,x.gQ,ea x.fX⟩ ⟨cc.a,cc.b,cc.c,cc.d,qN⟩ (by simp[gy,bO,aI,aX,fB,kK,dY.at,dY.au,bk,fH,lk]) _ (t.next+13+28) (by omega) ⟨by simp<;>omega,λb L c5=> ?_,λb L c5=> ?_⟩ ?_ ?_ ?_
                  · simp only[List.mem_cons,List.not_mem_nil,or_false,not_or]at c5;obtain⟨aM,a1,cI⟩:=c5;simp(disch:=first|omega|(simp only[ae,ad,af];omega)) [-al,-ar,-ai,-ao,-List.map_map]
                  · simp only[List.mem_cons,List.not_mem_nil,or_false,not_or]at c5;obtain⟨aM,a1,cI⟩:=c5;simp(disch:=first|omega|(simp only[ae,ad,af];omega)) [-al,-ar,-ai,-ao,-List.map_map]
                  · simp(disch:=first|omega|(simp only[ae,ad,af];omega)) [-al,-ar,-ai,-ao,-List.map_map]
                  · simp(disch:=first|omega|(simp only[ae,ad,af];omega)) [iC,-al,-ar,-ai,-ao,-List.map_map]
                  · simp(disch:=first|omega|(simp only[ae,ad,af];omega)) [-dW,-al,-ar,-ai,-ao,-List.map_map]
                · simp(disch:=first|omega|(simp only[ae,ad,af];omega)) [jt,jG,jH,jI,jJ,jK,jL,jM,jN,jO,jP,fl,aj,aK,bO,aI,fB,aX,A0,gl,hy,fS,-cF,-dW,-eh,iw,bk,fH,lk,-al,-ar,-ai,-ao,-List.map_map];exact Z 1 (by simp[gy,bO,aI,aX,fB,kK,dY.at,bk,fH,lk]) _ (gf.mk (bX (by simp<;>omega)))
          · have zS:cc.d<0:=(by omega);simp(disch:=first|omega|(simp only[ae,ad,af];omega)) [jt,jG,jH,jI,jJ,jK,jL,jM,jN,jO,jP,fl,aj,aK,bO,aI,fB,aX,A0,gl,hy,fS,-cF,-dW,-eh,iw,-al,-ar,-ai,-ao,-List.map_map];exact Z 1 (by simp[gy,bO,aI,aX,fB,zS,dY.at]) _ (gf.mk (bX (by simp<;>omega)))
        · have fB:cU 5 1 5=true:=(by decide);by_cases iw:0<=cc.e
          · have kK: ¬cc.e<0:=(by omega);by_cases kW:x.gQ=0
            · cases aA:x.fX.bw.ok
              · cases m6 with
                | none=>simp only[Option.map_none]at kV;simp(disch:=first|omega|(simp only[ae,ad,af];omega)) [jt,jG,jH,jI,jJ,jK,jL,jM,jN,jO,jP,fl,aj,aK,aG,mq,kV,bO,aI,fB,aX,ze,gl,hy,fS,-cF,-dW,-eh,iw,kW,aA,wW,Bx,CI,fV,-al,-ar,-ai,-ao,-List.map_map];exact Z 7 (by simp[gy,bO,aI,aX,fB,kK,dY.at]) _ (gf.mk (bX (by simp<;>omega)))
                | some m=>simp only[Option.map_some]at kV;simp(disch:=first|omega|(simp only[ae,ad,af];omega)) [jt,jG,jH,jI,jJ,jK,jL,jM,jN,jO,jP,fl,aj,aK,aG,mq,kV,bO,aI,fB,aX,ze,gl,hy,fS,-cF,-dW,-eh,iw,kW,aA,wW,Bx,CI,fV,-al,-ar,-ai,-ao,-List.map_map];exact Z 1 (by simp[gy,bO,aI,aX,fB,kK,dY.at,kW,aA]) _ (gf.mk (bX (by simp<;>omega)))
              · by_cases FR:0<x.fX.bw.n
                · cases m6 with
                  | none=>simp only[Option.map_none]at kV;simp(disch:=first|omega|(simp only[ae,ad,af];omega)) [jt,jG,jH,jI,jJ,jK,jL,jM,jN,jO,jP,fl,aj,aK,aG,mq,kV,bO,aI,fB,aX,ze,gl,hy,fS,-cF,-dW,-eh,iw,kW,aA,FR,wW,Bx,CI,fV,-al,-ar,-ai,-ao,-List.map_map];exact Z 7 (by simp[gy,bO,aI,aX,fB,kK,dY.at]) _ (gf.mk (bX (by simp<;>omega)))
                  | some m=>simp only[Option.map_some]at kV;simp(disch:=first|omega|(simp only[ae,ad,af];omega)) [jt,jG,jH,jI,jJ,jK,jL,jM,jN,jO,jP,fl,aj,aK,aG,mq,kV,bO,aI,fB,aX,ze,gl,hy,fS,-cF,-dW,-eh,iw,kW,aA,FR,wW,Bx,CI,fV,-al,-ar,-ai,-ao,-List.map_map];exact Z 1 (by simp[gy,bO,aI,aX,fB,kK,dY.at,kW,aA,FR]) _ (gf.mk (bX (by simp<;>omega)))
                · cases m6 with
                  | none=>simp only[Option.map_none]at kV;simp(disch:=first|omega|(simp only[ae,ad,af];omega)) [jt,jG,jH,jI,jJ,jK,jL,jM,jN,jO,jP,fl,aj,aK,aG,mq,kV,bO,aI,fB,aX,ze,gl,hy,fS,-cF,-dW,-eh,iw,kW,aA,FR,wW,Bx,CI,fV,-al,-ar,-ai,-ao,-List.map_map];exact Z 7 (by simp[gy,bO,aI,aX,fB,kK,dY.at]) _ (gf.mk (bX (by simp<;>omega)))
                  | some m=>
                    simp only[Option.map_some]at kV;simp(disch:=first|omega|(simp only[ae,ad,af];omega)) [jt,jG,jH,jI,jJ,jK,jL,jM,jN,jO,jP,fl,aj,aK,aG,mq,kV,bO,aI,fB,aX,ze,gl,hy,fS,-cF,-dW,-eh,iw,kW,aA,FR,wW,Bx,CI,fV,-al,-ar,-ai,-ao,-List.map_map];refine z ⟨x.name,m,cc.e⟩ (by simp[gy,bO,aI,aX,fB,kK,dY.at,kW,aA,FR]) _ (t.next+13+16) (by omega) ⟨by simp<;>omega,λb L c5=> ?_,λb L c5=> ?_⟩ ?_ ?_ ?_
                    · simp only[List.mem_cons,List.not_mem_nil,or_false,not_or]at c5;obtain⟨aM,a1,cI⟩:=c5;simp(disch:=first|omega|(simp only[ae,ad,af];omega)) [-al,-ar,-ai,-ao,-List.map_map]
                    · simp only[List.mem_cons,List.not_mem_nil,or_false,not_or]at c5;obtain⟨aM,a1,cI⟩:=c5;simp(disch:=first|omega|(simp only[ae,ad,af];omega)) [-al,-ar,-ai,-ao,-List.map_map]
                    · simp(disch:=first|omega|(simp only[ae,ad,af];omega)) [-al,-ar,-ai,-ao,-List.map_map]
                    · simp(disch:=first|omega|(simp only[ae,ad,af];omega)) [qp,-al,-ar,-ai,-ao,-List.map_map]
                    · simp(disch:=first|omega|(simp only[ae,ad,af];omega)) [-dW,-al,-ar,-ai,-ao,-List.map_map]
            · cases m6 with
              | none=>simp only[Option.map_none]at kV;simp(disch:=first|omega|(simp only[ae,ad,af];omega)) [jt,jG,jH,jI,jJ,jK,jL,jM,jN,jO,jP,fl,aj,aK,aG,mq,kV,bO,aI,fB,aX,ze,gl,hy,fS,-cF,-dW,-eh,iw,kW,wW,Bx,CI,fV,-al,-ar,-ai,-ao,-List.map_map];exact Z 7 (by simp[gy,bO,aI,aX,fB,kK,dY.at]) _ (gf.mk (bX (by simp<;>omega)))
              | some m=>simp only[Option.map_some]at kV;simp(disch:=first|omega|(simp only[ae,ad,af];omega)) [jt,jG,jH,jI,jJ,jK,jL,jM,jN,jO,jP,fl,aj,aK,aG,mq,kV,bO,aI,fB,aX,ze,gl,hy,fS,-cF,-dW,-eh,iw,kW,wW,Bx,CI,fV,-al,-ar,-ai,-ao,-List.map_map];exact Z 1 (by simp[gy,bO,aI,aX,fB,kK,dY.at,kW]) _ (gf.mk (bX (by simp<;>omega)))
          · have zS:cc.e<0:=(by omega);simp(disch:=first|omega|(simp only[ae,ad,af];omega)) [jt,jG,jH,jI,jJ,jK,jL,jM,jN,jO,jP,fl,aj,aK,bO,aI,fB,aX,ze,gl,hy,fS,-cF,-dW,-eh,iw,-al,-ar,-ai,-ao,-List.map_map];exact Z 1 (by simp[gy,bO,aI,aX,fB,zS,dY.at]) _ (gf.mk (bX (by simp<;>omega)))
    · simp(disch:=first|omega|(simp only[ae,ad,af];omega)) [jt,jG,jH,jI,jJ,jK,jL,jM,jN,jO,jP,fl,aj,aK,bO,aI,gl,fS,-cF,-dW,-eh,-al,-ar,-ai,-ao,-List.map_map];exact Z 8 (by simp[gy,bO,aI]) _ (gf.mk (bX (by simp<;>omega)))
end Go.Proofs.YtkpifdkccdndcaaGreat
namespace Go.DI
open Go Go.RowKit
section
variable {P:Program} {t:B}
open Classical in
theorem adX{Y:hj}{K:jA}{t m:B}(J:gM Y K t m){o p j O:Nat}{bR:List (List Value)}{cells:List Value}(an:t.M o=some ⟨bR.flatten,true⟩)(aF: ∀r∈bR,r.length=O/\ ∀v∈r,j9 v=true)
    (aq:t.M p=some ⟨cells,true⟩) (cp:cells[j]?=some (.slice (some ⟨o,0,none⟩) bR.length O)) (dq:o≠p):
    ∃dI,kn K dI/\(∀b cs,dI b=some cs->K b=some cs\/Y o=some b)/\gM Y dI ((t.au o none).au p (some ⟨cells.set j (bE bR O),true⟩)) m:=by
  have et:=aT an;have atR:=aT aq;have bY: ∀r∈bR,r.length=O:= λr h=>(aF r h).1;refine⟨λb=>match K b with
    |some cs=>some cs
    |none=>if Y o=some b then(m.M b).map (·.cells)else none,λb cs L=>by simp only[L],λb cs L=> ?_,?_⟩
  · simp only at L;cases de:K b with
    |some b1=>rw[de]at L;exact .inl L
    | none=>
      rw[de]at L;simp only at L;split at L
      · next h=>exact .inr h
      · cases L
  · obtain⟨dI,nA⟩: ∃dI:jA,dI= λb=>match K b with
      |some cs=>some cs
      |none=>if Y o=some b then(m.M b).map (·.cells)else none:=⟨_,rfl⟩
    rw[<-nA];have fG:kn K dI:= λb cs L=>by rw[nA];simp only[L]
    have jF: ∀b cs w,Y o=some b->m.M b=some ⟨cs,w⟩->dI b=some cs:= λb cs w bT aj=>by
      rw[nA];simp only;cases vF:K b with
      |some b1=>obtain⟨⟨e1,uL⟩,_⟩:=J.bw b b1 vF;rw[aj]at uL;cases uL;rfl
      |none=>simp only;rw[if_pos bT,aj];rfl
    have tr:((t.au o none).au p (some ⟨cells.set j (bE bR O),true⟩)).M p=some ⟨cells.set j (bE bR O),true⟩:=bX (by simpa using atR);have ds:((t.au o none).au p (some ⟨cells.set j (bE bR O),true⟩)).M o=none:=(by rw[dv dq,bX et]);have x6: ∀q,q≠p->q≠o->((t.au o none).au p (some ⟨cells.set j (bE bR O),true⟩)).M q=t.M q:= λq z D=>by rw[dv z,dv D]
    refine⟨λq x H=> ?_,λq bg aU=> ?_,J.nm,J.inj,J.cW,λb b1 L=> ?_⟩
    · by_cases z:q=p
      · subst z;rw[tr]at H;cases H;rcases J.m7 q _ aq with⟨b,b1,w,aC,a2,bS,fA⟩|⟨aC,a2⟩
        · refine .inl ⟨b,b1,w,aC,a2,bS,?_⟩;obtain⟨y,ah,X⟩:=fA.M cp;have sO:cw dI Y (bE bR O) y:=by
            rcases X.r6 with⟨c,aM,_,rfl⟩|⟨_,_,cI,rfl⟩
            · obtain⟨cs,e1,bp,_,eK⟩:=J.pC aM an;have oK:(bR.flatten).length=bR.length*O:=tn bY;refine .kd (off:=0) rfl (jF c cs e1 aM bp) (by rw[<-eK.1];simp only;omega) (λi r aa=>bY r (List.mem_of_getElem? aa)) λi akz r aJ y aa bk ah=> ?_;have qz:=UB bY aa;have Vp:=(List.getElem?_eq_some_iff.1 bk).1;rw[bY r (List.mem_of_getElem? aa)]at Vp;have aX:(bR.flatten)[i*O+akz]?=some aJ:=by
                rw[<-qz,List.getElem?_take,if_pos Vp,List.getElem?_drop]at bk;exact bk
              have cC:=eK.2 (i*O+akz) aJ y aX (by rw[<-ah];congr 1;omega);exact T0 fG cC ((aF r (List.mem_of_getElem? aa)).2 aJ (List.mem_of_getElem? bk))
            · have:bR=[]:=List.eq_nil_of_length_eq_zero cI;subst this;exact .ki rfl
          have gn:=(fA.aD fG (iv.refl _)).set j sO;rw[show b1.set j y=b1 from by
            apply List.ext_getElem?;intro i;rw[List.getElem?_set];split
            · next e=>subst e;rw[ah];simp;exact(List.getElem?_eq_some_iff.1 ah).1
            · rfl]at gn
          exact gn
        · simp only at a2;subst a2;simp at cp
      · by_cases D:q=o
        · subst D;rw[ds]at H;cases H
        · rw[x6 q z D]at H;rcases J.m7 q x H with⟨b,b1,w,aC,a2,bS,fA⟩|aC
          · exact .inl ⟨b,b1,w,aC,a2,bS,fA.aD fG (iv.refl _)⟩
          · exact .inr aC
    · obtain⟨aM,a1⟩:=hv aU;by_cases z:q=p
      · subst z;rw[tr]at aM;have:cells=[]:=(by simpa using aM);subst this;simp at cp
      · by_cases D:q=o
        · subst D;rw[ds]at aM;cases aM
        · rw[x6 q z D]at aM;obtain⟨b,ei,bp,dc,eK⟩:=J.kz q bg (qv aM a1);exact⟨b,ei,bp,dc,eK.aD fG (iv.refl _)⟩
    · have FX:K b=some b1\/(Y o=some b/\ ∃w,m.M b=some ⟨b1,w⟩):=by
        rw[nA]at L;simp only at L;cases vF:K b with
        |some x=>rw[vF]at L;simp only at L;exact .inl L
        | none=>
          rw[vF]at L;simp only at L;split at L
          · next h=>
            cases aj:m.M b with
            |none=>rw[aj]at L;cases L
            |some x=>rw[aj]at L;cases L;exact .inr ⟨h,x.own,rfl⟩
          · cases L
      rcases FX with h|⟨h,w,ca⟩
      · obtain⟨z,D⟩:=J.bw b b1 h;refine⟨z,λq x bT H=> ?_⟩;by_cases aM:q=p
        · subst aM;have:=D q _ bT aq;cases this
        · by_cases a1:q=o
          · subst a1;rw[ds]at H;cases H
          · rw[x6 q aM a1]at H;exact D q x bT H
      · refine⟨⟨w,ca⟩,λq x bT H=> ?_⟩;have:q=o:=J.inj q o b bT h;subst this;rw[ds]at H;cases H
theorem hn.freeze{f:Nat}{args:List Value}{az km:Value->B->Prop}(h:hn P f args t az)(aR: ∀r aN,az r aN->km r aN\/ ∃o p j O bR cells,aN.M o=some ⟨bR.flatten,true⟩/\(∀r∈bR,r.length=O/\ ∀v∈r,j9 v=true)/\aN.M p=some ⟨cells,true⟩/\
    cells[j]?=some (.slice (some ⟨o,0,none⟩) bR.length O)/\o≠p/\km r ((aN.au o none).au p (some ⟨cells.set j (bE bR O),true⟩))):hn P f args t km:= λY K asq m J aE=>(h Y K asq m J aE).aD λhb bz cE=>by
  obtain⟨ft,gR,r,ec,z,D,Z,aw⟩:=cE;rcases aR r ec z with dQ|⟨o,p,j,O,bR,cells,aC,a2,bS,fA,kp,oh⟩
  · exact⟨ft,gR,r,ec,dQ,D,Z,aw⟩
  obtain⟨lR,bp,dc,eK⟩:=adX D aC a2 bS fA kp;refine⟨ft,lR,r,_,oh,eK,Z.aD bp (iv.refl _),aw.e,aw.f.trans bp,aw.nf,λb cs L=> ?_,aw.n9,aw.oT,aw.sd,λb L ⟨q,x,bm,bU,cn⟩=>aw.ss b L ?_,λb L ⟨q,x,bm,bU⟩=>aw.rI b L ?_⟩
  · rcases dc b cs L with aX|aX
    · exact aw.fn b cs aX
    · by_cases cC:b<m.next
      · exact .inr (.inr (aw.rI b cC ⟨o,_,aX,aC⟩))
      · exact .inr (.inl (by omega))
  · by_cases aM:q=p
    · subst aM;exact⟨q,_,bm,bS,rfl⟩
    · by_cases a1:q=o
      · subst a1;exact⟨q,_,bm,aC,rfl⟩
      · rw[dv aM,dv a1]at bU;exact⟨q,x,bm,bU,cn⟩
  · by_cases aM:q=p
    · subst aM;exact⟨q,_,bm,bS⟩
    · by_cases a1:q=o
      · subst a1;exact⟨q,_,bm,aC⟩
      · rw[dv aM,dv a1]at bU;exact⟨q,x,bm,bU⟩
end
end Go.DI
namespace Go.Proofs.YtkpifdkccdndcaaGreat
open Go Go.DI Go.Big
def kY(eF:List (Value×Value))(s:ByteArray):Int:=gd ((cF (cz s) eF).getD (S 0))
def ri(eF:List (Value×Value))(s:ByteArray):Bool:=(cF (cz s) eF).isSome
noncomputable def SH:c8 Tryz.prog:= .fJ 102 (Int×Int×Int×dY) (λ_=>True) (λp=>[S p.1,S p.2.1,S p.2.2.1,.agg #[S p.2.2.2.a,S p.2.2.2.b,S p.2.2.2.c,S p.2.2.2.d,S p.2.2.2.e]]) (λp=> .bool (oX p.1 p.2.1 p.2.2.1 p.2.2.2)) λ_ _=>aAa
@[simp] theorem aOn:SH.f=102:=rfl
@[simp] theorem aOo{k m q a b c d e:Int}:SH.fn [S k,S m,S q,.agg #[S a,S b,S c,S d,S e]]=some (.bool (oX k m q ⟨a,b,c,d,e⟩)):=c8.gX (x:=(k,m,q,(⟨a,b,c,d,e⟩:dY))) trivial λy ah=>by obtain⟨jU,rC,zh,CR,CS,Tf,Tg,Th⟩:=y;simp at ah;obtain⟨z,D,Z,aw,aX,cC,gn,iP⟩:=ah;simp[z,D,Z,aw,aX,cC,gn,iP]
noncomputable def SL:c8 Tryz.prog:= .fJ 103 (Int×List bh×bh×bh) (λp=>((∀x∈p.2.1,x.bM)/\p.2.1.length<1000000)/\p.2.2.1.bM/\p.2.2.2.bM) (λp=>[S p.1,fT p.2.1,eD p.2.2.1,eD p.2.2.2]) (λp=> .bool (ns p.1 p.2.1 p.2.2.1 p.2.2.2)) λ_ h=>aBc h.1 h.2.1 h.2.2
@[simp] theorem aOR:SL.f=103:=rfl
@[simp] theorem aOS{m:Int}{r:List bh}{n dM:Bool}{a b er cQ:List Int}(h:((∀x∈r,x.bM)/\r.length<1000000)/\(bh.mk n a b).bM/\(bh.mk dM er cQ).bM):SL.fn [S m,bE (r.map eS) 3,.agg #[.bool n,e3 a,e3 b],.agg #[.bool dM,e3 er,e3 cQ]]=some (.bool (ns m r ⟨n,a,b⟩ ⟨dM,er,cQ⟩)):=c8.gX (x:=(m,r,(⟨n,a,b⟩:bh),(⟨dM,er,cQ⟩:bh))) h λy ah=>by obtain⟨jU,rC,⟨zh,CR,CS⟩,⟨Tf,Tg,Th⟩⟩:=y;simp[eS]at ah;obtain⟨z,D,⟨Z,aw,aX⟩,cC,gn,iP⟩:=ah;simp[z,D,Z,aw,aX,cC,gn,iP]
@[simp] theorem aOg{n dM:Bool}{a b er cQ:List Int}(h:(bh.mk n a b).bM/\(bh.mk dM er cQ).bM):Cw.fn [bE [[.bool n,e3 a,e3 b],[.bool dM,e3 er,e3 cQ]] 3]=some (bE [eS (ea ⟨n,a,b⟩),eS (ea ⟨dM,er,cQ⟩)] 3):=
  am1 (l:=[⟨n,a,b⟩,⟨dM,er,cQ⟩]) ⟨λx H=>by simp at H;rcases H with rfl|rfl;exact h.1;exact h.2,by simp⟩
theorem qe.refl{t:B}{l:List Nat}:qe t t l:=⟨Nat.le_refl _,λ_ _ _=>rfl,λ_ _ _=>rfl⟩
def alw(eF:List (Value×Value))(l:List ByteArray)(p:mf)(e:Int)(lC mG:Value):Prop:=(l.all (ri eF)=true/\e=0)\/(l.all (ri eF)=false/\e=7/\lC=S p.l/\mG=S p.c)
theorem aAL{x:mg}(BH:x.a5.length<1000000){eF:List (Value×Value)}{eC c gh:Nat}{dF bn bF dp eH fo fp gp gD hd g8 h2 h3 h4 h5 h6 cY cy aH:Value}(mq: ∀s,eh .str (cz s) eF=true)(DA: ∀s v,cF (cz s) eF=some v-> ∃i,v=S i){Q:dr->aL->B->Prop}{u:aL}{cd:B}
    (oi:cd.M c=some ⟨[dF,bn,bF,dp,eH,fo,fp,gp,.map (some eC),gD,hd,g8,h2,h3,h4,h5,h6,S 0,cY,cy],true⟩) (hu:cd.M gh=some ⟨hc x,true⟩) (vE:cd.c6 eC=some eF) (fY:gh≠c) (dh:eC≠c) (kZ:eC≠gh)
    (bl:u 0=bZ c) (mb:u 1=aH) (bd:u 3=bZ gh) (bL:u 4= .slice none 0 0) (xF:u 58=zF x.a5) (wm:u 59=S x.a5.length) (Cs:u 60=S 0)
    (bf: ∀ag aN o e lC mG,alw eF x.a5 x.p e lC mG->cd.next<=o->qe cd aN [c]->aN.M c=some ⟨[dF,bn,bF,dp,eH,fo,fp,gp,.map (some eC),gD,hd,g8,h2,h3,h4,h5,h6,S e,lC,mG],true⟩->aN.M o=some ⟨(x.a5.map λs=>S (kY eF s)),true⟩->ag 0=bZ c->ag 1=aH->ag 3=bZ gh->ag 4= .slice (some ⟨o,0,none⟩) x.a5.length 1->Q (.bI 0) ag aN):
    hs Tryz.prog (.loop Ei) u cd Q:=by
  have m1:=aT oi;have iV:=aT hu;have jS:eC<cd.next:=aT (hv vE).1
  refine Td (d:=4) (O:=1) bL ?_;refine jn (aY:=⟨[],[pU]⟩) (λi u t=> ∃o e lC mG cs,cs=((x.a5.take i).map λs=>S (kY eF s))/\alw eF (x.a5.take i) x.p e lC mG/\cd.next<=o/\qe cd t [c]/\t.M c=some ⟨[dF,bn,bF,dp,eH,fo,fp,gp,.map (some eC),gD,hd,g8,h2,h3,h4,h5,h6,S e,lC,mG],true⟩/\t.M o=some ⟨cs,true⟩/\u 0=bZ c/\u 1=aH/\u 3=bZ gh/\u 4= .slice (some ⟨o,0,none⟩) i 1/\u 58=zF x.a5/\u 59=S x.a5.length/\u 60=S i) x.a5.length ?_ ?_ 0 _ _ (Nat.zero_le _) ?_
  · rintro i u t aa ⟨o,e,lC,mG,cs,jh,c1,Ar,da,oi,ds,bl,mb,bd,bL,xF,wm,Cs⟩ b9 a9;have H:x.a5[i]?=some x.a5[i]:=List.getElem?_eq_getElem aa;have bo:IntKind.i64.wrap ((i:Int)+1)=(i:Int)+1:=ct (by omega) (by omega);have bK:(i:Int)<x.a5.length:=(by omega);have h9:cs.length=i:=(by rw[jh];simp;omega);have hB:cs.take i=cs:=List.take_of_length_le (by omega);have fV:(i+1)*8<=140737488355328/\i<=9223372036854775806:=(by omega);have pG:t.M gh=some ⟨hc x,true⟩:=(by rw[da.M gh iV (by simp[fY])];exact hu);have Bn:t.c6 eC=some eF:=(by rw[da.map eC jS (by simp[dh])];exact vE);have azm:=aT oi;have ZZ:=aT ds;have azl:=aT pG;have aLq:=aT (hv Bn).1;have az0:o≠c:=(by omega);have alB:o≠gh:=(by omega);have az7:o≠eC:=(by omega);have DG:=mq x.a5[i];have w1:(x.a5.take (i+1)).all (ri eF)=((x.a5.take i).all (ri eF)&&ri eF x.a5[i]):=(by rw[kB H,List.all_append];simp);have FZ:(x.a5.take (i+1)).map (λs=>S (kY eF s))=cs++[S (kY eF x.a5[i])]:=(by rw[kB H,List.map_append,<-jh];rfl);cases aj:cF (cz x.a5[i]) eF with
    | none=>
      have Of:ri eF x.a5[i]=false:=(by simp only[ri,aj];rfl);have kV:kY eF x.a5[i]=0:=(by simp[kY,aj]);rcases c1 with⟨aE,rfl⟩|⟨aE,rfl,rfl,rfl⟩
      · simp(disch:=first|omega|(simp only[ae,ad,af];omega)) [Ei,GP,GQ,GR,GS,bl,bd,bL,xF,wm,Cs,bK,bo,oi,ds,pG,Bn,DG,aj,h9,hB,fV,hc,gl,fS,-cF,-eh,-al,-ar,-ai,-ao,-List.map_map];refine a9 _ _ ⟨t.next+2+3,7,S x.p.l,S x.p.c,cs++[S 0],by rw[FZ,kV],.inr ⟨by rw[w1,Of,Bool.and_false],rfl,rfl,rfl⟩,by omega,⟨by have:=da.next;simp<;>omega,λb L c5=> ?_,λb L c5=> ?_⟩,?_,?_,?_⟩
        · have pL:b≠c:=(by simpa using c5);have pM:b<t.next:=by have:=da.next;omega
          rw[<-da.M b L c5];have oj:b≠o:=(by omega);simp(disch:=first|omega|(simp only[ae,ad,af];omega)) [-al,-ar,-ai,-ao,-List.map_map]
        · have pL:b≠c:=(by simpa using c5);have pM:b<t.next:=by have:=da.next;omega
          rw[<-da.map b L c5];have oj:b≠o:=(by omega);simp(disch:=first|omega|(simp only[ae,ad,af];omega)) [-al,-ar,-ai,-ao,-List.map_map]
        · simp(disch:=first|omega|(simp only[ae,ad,af];omega)) [-al,-ar,-ai,-ao,-List.map_map]
        · simp(disch:=first|omega|(simp only[ae,ad,af];omega)) [-al,-ar,-ai,-ao,-List.map_map]
        · simp[bl,mb,bd,xF,wm]
      · simp(disch:=first|omega|(simp only[ae,ad,af];omega)) [Ei,GP,GQ,GR,GS,bl,bd,bL,xF,wm,Cs,bK,bo,oi,ds,pG,Bn,DG,aj,h9,hB,fV,hc,fS,-cF,-eh,-al,-ar,-ai,-ao,-List.map_map];refine a9 _ _ ⟨t.next+2+3,7,S x.p.l,S x.p.c,cs++[S 0],by rw[FZ,kV],.inr ⟨by rw[w1,Of,Bool.and_false],rfl,rfl,rfl⟩,by omega,⟨by have:=da.next;simp<;>omega,λb L c5=> ?_,λb L c5=> ?_⟩,?_,?_,?_⟩
        · have pL:b≠c:=(by simpa using c5);have pM:b<t.next:=by have:=da.next;omega
          rw[<-da.M b L c5];have oj:b≠o:=(by omega);simp(disch:=first|omega|(simp only[ae,ad,af];omega)) [-al,-ar,-ai,-ao,-List.map_map]
        · have pL:b≠c:=(by simpa using c5);have pM:b<t.next:=by have:=da.next;omega
          rw[<-da.map b L c5];have oj:b≠o:=(by omega);simp(disch:=first|omega|(simp only[ae,ad,af];omega)) [-al,-ar,-ai,-ao,-List.map_map]
        · simp(disch:=first|omega|(simp only[ae,ad,af];omega)) [oi,-al,-ar,-ai,-ao,-List.map_map]
        · simp(disch:=first|omega|(simp only[ae,ad,af];omega)) [-al,-ar,-ai,-ao,-List.map_map]
        · simp[bl,mb,bd,xF,wm]
    | some v=>
      obtain⟨m6,rfl⟩:=DA _ _ aj;have Of:ri eF x.a5[i]=true:=(by simp only[ri,aj];rfl);have kV:kY eF x.a5[i]=m6:=(by simp[kY,aj]);rcases c1 with⟨aE,rfl⟩|⟨aE,rfl,rfl,rfl⟩
      · simp(disch:=first|omega|(simp only[ae,ad,af];omega)) [Ei,GP,GQ,GR,GS,bl,bd,bL,xF,wm,Cs,bK,bo,oi,ds,pG,Bn,DG,aj,h9,hB,fV,hc,fS,-cF,-eh,-al,-ar,-ai,-ao,-List.map_map];refine a9 _ _ ⟨t.next+2+3,0,lC,mG,cs++[S m6],by rw[FZ,kV],.inl ⟨by rw[w1,Of,aE];rfl,rfl⟩,by omega,⟨by have:=da.next;simp<;>omega,λb L c5=> ?_,λb L c5=> ?_⟩,?_,?_,?_⟩
        · have pL:b≠c:=(by simpa using c5);have pM:b<t.next:=by have:=da.next;omega
          rw[<-da.M b L c5];have oj:b≠o:=(by omega);simp(disch:=first|omega|(simp only[ae,ad,af];omega)) [-al,-ar,-ai,-ao,-List.map_map]
        · have pL:b≠c:=(by simpa using c5);have pM:b<t.next:=by have:=da.next;omega
          rw[<-da.map b L c5];have oj:b≠o:=(by omega);simp(disch:=first|omega|(simp only[ae,ad,af];omega)) [-al,-ar,-ai,-ao,-List.map_map]
        · simp(disch:=first|omega|(simp only[ae,ad,af];omega)) [oi,-al,-ar,-ai,-ao,-List.map_map]
        · simp(disch:=first|omega|(simp only[ae,ad,af];omega)) [-al,-ar,-ai,-ao,-List.map_map]
        · simp[bl,mb,bd,xF,wm]
      · simp(disch:=first|omega|(simp only[ae,ad,af];omega)) [Ei,GP,GQ,GR,GS,bl,bd,bL,xF,wm,Cs,bK,bo,oi,ds,pG,Bn,DG,aj,h9,hB,fV,hc,fS,-cF,-eh,-al,-ar,-ai,-ao,-List.map_map];refine a9 _ _ ⟨t.next+2+3,7,S x.p.l,S x.p.c,cs++[S m6],by rw[FZ,kV],.inr ⟨by rw[w1,aE];rfl,rfl,rfl,rfl⟩,by omega,⟨by have:=da.next;simp<;>omega,λb L c5=> ?_,λb L c5=> ?_⟩,?_,?_,?_⟩
        · have pL:b≠c:=(by simpa using c5);have pM:b<t.next:=by have:=da.next;omega
          rw[<-da.M b L c5];have oj:b≠o:=(by omega);simp(disch:=first|omega|(simp only[ae,ad,af];omega)) [-al,-ar,-ai,-ao,-List.map_map]
        · have pL:b≠c:=(by simpa using c5);have pM:b<t.next:=by have:=da.next;omega
          rw[<-da.map b L c5];have oj:b≠o:=(by omega);simp(disch:=first|omega|(simp only[ae,ad,af];omega)) [-al,-ar,-ai,-ao,-List.map_map]
        · simp(disch:=first|omega|(simp only[ae,ad,af];omega)) [oi,-al,-ar,-ai,-ao,-List.map_map]
        · simp(disch:=first|omega|(simp only[ae,ad,af];omega)) [-al,-ar,-ai,-ao,-List.map_map]
        · simp[bl,mb,bd,xF,wm]
  · rintro u t ⟨o,e,lC,mG,cs,jh,c1,Ar,da,oi,ds,bl,mb,bd,bL,xF,wm,Cs⟩;rw[List.take_length]at jh c1;simp(disch:=first|omega|(simp only[ae,ad,af];omega)) [Ei,GP,GQ,GR,GS,wm,Cs,-al,-ar,-ai,-ao,-List.map_map];exact bf _ _ o e lC mG c1 Ar da oi (by rw[ds,jh]) (by simp[bl]) (by simp[mb]) (by simp[bd]) (by simp[bL])
  · refine⟨cd.next,0,cY,cy,[],by simp,.inl ⟨by simp,rfl⟩,Nat.le_refl _,⟨by simp,λb L _=> ?_,λb L _=> ?_⟩,?_,?_,?_⟩
    · simp(disch:=first|omega|(simp only[ae,ad,af];omega)) [-al,-ar,-ai,-ao,-List.map_map]
    · simp(disch:=first|omega|(simp only[ae,ad,af];omega)) [-al,-ar,-ai,-ao,-List.map_map]
    · simp(disch:=first|omega|(simp only[ae,ad,af];omega)) [oi,-al,-ar,-ai,-ao,-List.map_map]
    · simp(disch:=first|omega|(simp only[ae,ad,af];omega)) [-al,-ar,-ai,-ao,-List.map_map]
    · simp[bl,mb,bd,xF,wm,Cs]
def am3(aM:Int)(Hk Hg:Value)(l:List Int)(p:mf)(e:Int)(lC mG:Value):Prop:=(aM≠0/\e=aM/\lC=Hk/\mG=Hg)\/(aM=0/\l.Nodup/\e=0)\/(aM=0/\ ¬l.Nodup/\e=8/\lC=S p.l/\mG=S p.c)
theorem aAM{x:mg}{l2:List Int}{lQ:Nat}(aeX:l2.length<1000000)(aF: ∀m∈l2,0<=m/\m<=lQ){c gh o os:Nat}{dF bn bF dp eH fo fp gp hW gD hd g8 h2 h3 h4 h5 h6 Hk Hg aH:Value}{aM:Int}{Q:dr->aL->B->Prop}{u:aL}{cd:B}
    (oi:cd.M c=some ⟨[dF,bn,bF,dp,eH,fo,fp,gp,hW,gD,hd,g8,h2,h3,h4,h5,h6,S aM,Hk,Hg],true⟩) (hu:cd.M gh=some ⟨hc x,true⟩) (ds:cd.M o=some ⟨l2.map λi=>S i,true⟩) (Jg:cd.M os=some ⟨(List.replicate (lQ+1) false).map Value.bool,true⟩) (fY:gh≠c) (dh:o≠c) (kZ:os≠c) (p0:os≠o) (sW:os≠gh) (Ho:o≠gh)
    (bl:u 0=bZ c) (mb:u 1=aH) (bd:u 3=bZ gh) (bL:u 4= .slice (some ⟨o,0,none⟩) l2.length 1) (cg:u 9= .slice (some ⟨os,0,none⟩) (lQ+1) 1) (s7:u 91= .slice (some ⟨o,0,none⟩) l2.length 1) (so:u 92=S l2.length) (yY:u 93=S 0)
    (bf: ∀ag aN e lC mG,am3 aM Hk Hg l2 x.p e lC mG->qe cd aN [c,os]->aN.M c=some ⟨[dF,bn,bF,dp,eH,fo,fp,gp,hW,gD,hd,g8,h2,h3,h4,h5,h6,S e,lC,mG],true⟩->ag 0=bZ c->ag 1=aH->ag 3=bZ gh->ag 4= .slice (some ⟨o,0,none⟩) l2.length 1->Q (.bI 2) ag aN):
    hs Tryz.prog (.loop Ag) u cd Q:=by
  have m1:=aT oi;have iV:=aT hu;have cZ:=aT ds;refine jn (aY:=⟨[],[pU]⟩) (λi u t=> ∃e lC mG,∃bu:List Bool,bu.length=lQ+1/\(∀j:Nat,j<lQ+1->bu[j]?=some (decide ((j:Int)∈l2.take i)))/\am3 aM Hk Hg (l2.take i) x.p e lC mG/\qe cd t [c,os]/\t.M c=some ⟨[dF,bn,bF,dp,eH,fo,fp,gp,hW,gD,hd,g8,h2,h3,h4,h5,h6,S e,lC,mG],true⟩/\t.M os=some ⟨bu.map Value.bool,true⟩/\u 0=bZ c/\u 1=aH/\u 3=bZ gh/\u 4= .slice (some ⟨o,0,none⟩) l2.length 1/\u 9= .slice (some ⟨os,0,none⟩) (lQ+1) 1/\u 91= .slice (some ⟨o,0,none⟩) l2.length 1/\u 92=S l2.length/\u 93=S i) l2.length ?_ ?_ 0 u cd (Nat.zero_le _) ?_
  · rintro i u t aa ⟨e,lC,mG,bu,pI,ev,c1,da,vD,wX,bl,mb,bd,bL,cg,s7,so,yY⟩ b9 a9;have H:l2[i]?=some l2[i]:=List.getElem?_eq_getElem aa;have bo:IntKind.i64.wrap ((i:Int)+1)=(i:Int)+1:=ct (by omega) (by omega);have bK:(i:Int)<l2.length:=(by omega);obtain⟨yi,vJ⟩:=aF _ (List.getElem_mem aa);obtain⟨aV,lJ⟩:=Int.eq_ofNat_of_zero_le yi;have wY:aV<lQ+1:=(by omega);have Bq:(aV:Int)<(lQ:Int)+1:=(by omega);have OH:l2[i]?=some (aV:Int):=(by rw[H,lJ]);have pG:t.M gh=some ⟨hc x,true⟩:=(by rw[da.M gh iV (by simp[fY,Ne.symm sW])];exact hu);have wV:t.M o=some ⟨l2.map λi=>S i,true⟩:=(by rw[da.M o cZ (by simp[dh,Ne.symm p0])];exact ds);have azm:=aT vD;have ZZ:=aT wV;have azl:=aT pG;have azn:=aT wX;have U4:=ev aV wY;have w4:i+1<=l2.length:=aa;have mZ:aV<=lQ:=(by omega);have Bp:(bu.map Value.bool)[aV]?=some (.bool (decide ((aV:Int)∈l2.take i))):=(by rw[List.getElem?_map,U4];rfl);have lK:(l2.take (i+1)).Nodup↔(l2.take i).Nodup/\(aV:Int)∉l2.take i:=by
      rw[kB OH,List.nodup_append];simp;intro _;exact⟨λh a=>by have:=h _ a;exact this rfl,λh a aE e=>h (e▸aE)⟩
    have Bo: ∀j:Nat,j<lQ+1->(bu.set aV true)[j]?=some (decide ((j:Int)∈l2.take (i+1))):= λj cp=>by
      rw[List.getElem?_set,kB OH];by_cases e:aV=j
      · subst e;simp[pI,wY]
      · rw[if_neg e,ev j cp];have: ¬(j:Int)=(aV:Int):=(by omega);simp[this]
    by_cases ra:(aV:Int)∈l2.take i
    · rcases c1 with⟨z,aU,aG,W⟩|⟨z,D,rfl⟩|⟨z,D,rfl,rfl,rfl⟩
      · subst aU;subst aG;subst W;simp(disch:=first|omega|(simp only[ae,ad,af];omega)) [Ag,B0,B1,B2,bl,bd,cg,s7,so,yY,bK,bo,ks,lJ,Bq,w4,mZ,vD,wX,pG,wV,pI,Bp,hc,ra,z,-al,-ar,-ai,-ao,-List.map_map];refine a9 _ _ ⟨e,lC,mG,bu.set aV true,by simp[pI],Bo,.inl ⟨z,rfl,rfl,rfl⟩,⟨by have:=da.next;simp<;>omega,λb L c5=> ?_,λb L c5=> ?_⟩,?_,?_,by simp[bl],by simp[mb],by simp[bd],by simp[bL],by simp[cg],by simp[s7],by simp[so],by simp⟩
        · obtain⟨pL,oj⟩:b≠c/\b≠os:=(by simpa using c5);have pM:b<t.next:=by have:=da.next;omega
          rw[<-da.M b L c5];simp(disch:=first|omega|(simp only[ae,ad,af];omega)) [-al,-ar,-ai,-ao,-List.map_map]
        · obtain⟨pL,oj⟩:b≠c/\b≠os:=(by simpa using c5);have pM:b<t.next:=by have:=da.next;omega
          rw[<-da.map b L c5];simp(disch:=first|omega|(simp only[ae,ad,af];omega)) [-al,-ar,-ai,-ao,-List.map_map]
        · simp(disch:=first|omega|(simp only[ae,ad,af];omega)) [vD,-al,-ar,-ai,-ao,-List.map_map]
        · simp(disch:=first|omega|(simp only[ae,ad,af];omega)) [-al,-ar,-ai,-ao,-List.map_map]
      · simp(disch:=first|omega|(simp only[ae,ad,af];omega)) [Ag,B0,B1,B2,bl,bd,cg,s7,so,yY,bK,bo,ks,lJ,Bq,w4,mZ,vD,wX,pG,wV,pI,Bp,hc,ra,-al,-ar,-ai,-ao,-List.map_map];refine a9 _ _ ⟨8,S x.p.l,S x.p.c,bu.set aV true,by simp[pI],Bo,.inr (.inr ⟨z,λh=>(lK.1 h).2 ra,rfl,rfl,rfl⟩),⟨by have:=da.next;simp<;>omega,λb L c5=> ?_,λb L c5=> ?_⟩,?_,?_,by simp[bl],by simp[mb],by simp[bd],by simp[bL],by simp[cg],by simp[s7],by simp[so],by simp⟩
        · obtain⟨pL,oj⟩:b≠c/\b≠os:=(by simpa using c5);have pM:b<t.next:=by have:=da.next;omega
          rw[<-da.M b L c5];simp(disch:=first|omega|(simp only[ae,ad,af];omega)) [-al,-ar,-ai,-ao,-List.map_map]
        · obtain⟨pL,oj⟩:b≠c/\b≠os:=(by simpa using c5);have pM:b<t.next:=by have:=da.next;omega
          rw[<-da.map b L c5];simp(disch:=first|omega|(simp only[ae,ad,af];omega)) [-al,-ar,-ai,-ao,-List.map_map]
        · simp(disch:=first|omega|(simp only[ae,ad,af];omega)) [-al,-ar,-ai,-ao,-List.map_map]
        · simp(disch:=first|omega|(simp only[ae,ad,af];omega)) [-al,-ar,-ai,-ao,-List.map_map]
      · simp(disch:=first|omega|(simp only[ae,ad,af];omega)) [Ag,B0,B1,B2,bl,bd,cg,s7,so,yY,bK,bo,ks,lJ,Bq,w4,mZ,vD,wX,pG,wV,pI,Bp,hc,ra,-al,-ar,-ai,-ao,-List.map_map];refine a9 _ _ ⟨8,S x.p.l,S x.p.c,bu.set aV true,by simp[pI],Bo,.inr (.inr ⟨z,λh=>D (lK.1 h).1,rfl,rfl,rfl⟩),⟨by have:=da.next;simp<;>omega,λb L c5=> ?_,λb L c5=> ?_⟩,?_,?_,by simp[bl],by simp[mb],by simp[bd],by simp[bL],by simp[cg],by simp[s7],by simp[so],by simp⟩
        · obtain⟨pL,oj⟩:b≠c/\b≠os:=(by simpa using c5);have pM:b<t.next:=by have:=da.next;omega
          rw[<-da.M b L c5];simp(disch:=first|omega|(simp only[ae,ad,af];omega)) [-al,-ar,-ai,-ao,-List.map_map]
        · obtain⟨pL,oj⟩:b≠c/\b≠os:=(by simpa using c5);have pM:b<t.next:=by have:=da.next;omega
          rw[<-da.map b L c5];simp(disch:=first|omega|(simp only[ae,ad,af];omega)) [-al,-ar,-ai,-ao,-List.map_map]
        · simp(disch:=first|omega|(simp only[ae,ad,af];omega)) [vD,-al,-ar,-ai,-ao,-List.map_map]
        · simp(disch:=first|omega|(simp only[ae,ad,af];omega)) [-al,-ar,-ai,-ao,-List.map_map]
    · rcases c1 with⟨z,aU,aG,W⟩|⟨z,D,rfl⟩|⟨z,D,rfl,rfl,rfl⟩
      · subst aU;subst aG;subst W;simp(disch:=first|omega|(simp only[ae,ad,af];omega)) [Ag,B0,B1,B2,bl,bd,cg,s7,so,yY,bK,bo,ks,lJ,Bq,w4,mZ,vD,wX,pG,wV,pI,Bp,hc,ra,z,-al,-ar,-ai,-ao,-List.map_map];refine a9 _ _ ⟨e,lC,mG,bu.set aV true,by simp[pI],Bo,.inl ⟨z,rfl,rfl,rfl⟩,⟨by have:=da.next;simp<;>omega,λb L c5=> ?_,λb L c5=> ?_⟩,?_,?_,by simp[bl],by simp[mb],by simp[bd],by simp[bL],by simp[cg],by simp[s7],by simp[so],by simp⟩
        · obtain⟨pL,oj⟩:b≠c/\b≠os:=(by simpa using c5);have pM:b<t.next:=by have:=da.next;omega
          rw[<-da.M b L c5];simp(disch:=first|omega|(simp only[ae,ad,af];omega)) [-al,-ar,-ai,-ao,-List.map_map]
        · obtain⟨pL,oj⟩:b≠c/\b≠os:=(by simpa using c5);have pM:b<t.next:=by have:=da.next;omega
          rw[<-da.map b L c5];simp(disch:=first|omega|(simp only[ae,ad,af];omega)) [-al,-ar,-ai,-ao,-List.map_map]
        · simp(disch:=first|omega|(simp only[ae,ad,af];omega)) [vD,-al,-ar,-ai,-ao,-List.map_map]
        · simp(disch:=first|omega|(simp only[ae,ad,af];omega)) [-al,-ar,-ai,-ao,-List.map_map]
      · simp(disch:=first|omega|(simp only[ae,ad,af];omega)) [Ag,B0,B1,B2,bl,bd,cg,s7,so,yY,bK,bo,ks,lJ,Bq,w4,mZ,vD,wX,pG,wV,pI,Bp,hc,ra,-al,-ar,-ai,-ao,-List.map_map];refine a9 _ _ ⟨0,lC,mG,bu.set aV true,by simp[pI],Bo,.inr (.inl ⟨z,lK.2 ⟨D,ra⟩,rfl⟩),⟨by have:=da.next;simp<;>omega,λb L c5=> ?_,λb L c5=> ?_⟩,?_,?_,by simp[bl],by simp[mb],by simp[bd],by simp[bL],by simp[cg],by simp[s7],by simp[so],by simp⟩
        · obtain⟨pL,oj⟩:b≠c/\b≠os:=(by simpa using c5);have pM:b<t.next:=by have:=da.next;omega
          rw[<-da.M b L c5];simp(disch:=first|omega|(simp only[ae,ad,af];omega)) [-al,-ar,-ai,-ao,-List.map_map]
        · obtain⟨pL,oj⟩:b≠c/\b≠os:=(by simpa using c5);have pM:b<t.next:=by have:=da.next;omega
          rw[<-da.map b L c5];simp(disch:=first|omega|(simp only[ae,ad,af];omega)) [-al,-ar,-ai,-ao,-List.map_map]
        · simp(disch:=first|omega|(simp only[ae,ad,af];omega)) [vD,-al,-ar,-ai,-ao,-List.map_map]
        · simp(disch:=first|omega|(simp only[ae,ad,af];omega)) [-al,-ar,-ai,-ao,-List.map_map]
      · simp(disch:=first|omega|(simp only[ae,ad,af];omega)) [Ag,B0,B1,B2,bl,bd,cg,s7,so,yY,bK,bo,ks,lJ,Bq,w4,mZ,vD,wX,pG,wV,pI,Bp,hc,ra,-al,-ar,-ai,-ao,-List.map_map];refine a9 _ _ ⟨8,S x.p.l,S x.p.c,bu.set aV true,by simp[pI],Bo,.inr (.inr ⟨z,λh=>D (lK.1 h).1,rfl,rfl,rfl⟩),⟨by have:=da.next;simp<;>omega,λb L c5=> ?_,λb L c5=> ?_⟩,?_,?_,by simp[bl],by simp[mb],by simp[bd],by simp[bL],by simp[cg],by simp[s7],by simp[so],by simp⟩
        · obtain⟨pL,oj⟩:b≠c/\b≠os:=(by simpa using c5);have pM:b<t.next:=by have:=da.next;omega
          rw[<-da.M b L c5];simp(disch:=first|omega|(simp only[ae,ad,af];omega)) [-al,-ar,-ai,-ao,-List.map_map]
        · obtain⟨pL,oj⟩:b≠c/\b≠os:=(by simpa using c5);have pM:b<t.next:=by have:=da.next;omega
          rw[<-da.map b L c5];simp(disch:=first|omega|(simp only[ae,ad,af];omega)) [-al,-ar,-ai,-ao,-List.map_map]
        · simp(disch:=first|omega|(simp only[ae,ad,af];omega)) [vD,-al,-ar,-ai,-ao,-List.map_map]
        · simp(disch:=first|omega|(simp only[ae,ad,af];omega)) [-al,-ar,-ai,-ao,-List.map_map]
  · rintro u t ⟨e,lC,mG,bu,pI,ev,c1,da,oi,Jg,bl,mb,bd,bL,cg,s7,so,yY⟩;rw[List.take_length]at c1;simp(disch:=first|omega|(simp only[ae,ad,af];omega)) [Ag,B0,B1,B2,so,yY,-al,-ar,-ai,-ao,-List.map_map];exact bf _ _ e lC mG c1 da oi (by simp[bl]) (by simp[mb]) (by simp[bd]) (by simp[bL])
  · refine⟨aM,Hk,Hg,List.replicate (lQ+1) false,by simp,λj cp=>by simp[cp],?_,qe.refl,oi,Jg,bl,mb,bd,bL,cg,s7,so,yY⟩;by_cases h:aM=0
    · exact .inr (.inl ⟨h,by simp,h⟩)
    · exact .inl ⟨h,rfl,rfl,rfl⟩
def mg.bM(x:mg):Prop:=((∀r∈x.hf,r.bM)/\x.hf.length<1000000)/\x.hS.bM/\x.ez.bM
noncomputable def oy(x:mg)(sB:Bool)(eF:List (Value×Value)):Int:=
  if gP x.name=false then 1 else if sB=true then 8 else if oX x.k x.m x.q x.aY=false then 5 else if x.a5=[]then 1 else if x.a5.all (ri eF)=false then 7
  else if¬(x.a5.map (kY eF)).Nodup then 8 else if ns x.m x.hf x.hS x.ez=false then 5 else 0
theorem aAP{x:mg}(W:mg.bM x)(BH:x.a5.length<1000000){c eL fW eC gW lQ oU:Nat}{dF bn dp eH fp gp gD g8 h2 h3 h4 h5 h6 cY cy:Value}{cs:List Value}{bg eF:List (Value×Value)}{t:B}
    (aj:t.M c=some ⟨[dF,bn,.slice (some ⟨eL,0,none⟩) lQ 4,dp,eH,.slice (some ⟨fW,0,none⟩) oU 17,fp,gp,.map (some eC),gD,.map (some gW),g8,h2,h3,h4,h5,h6,S 0,cY,cy],true⟩)
    (ds:t.M fW=some ⟨cs,true⟩) (aB:cs.length=oU*17) (ak:oU<1000000) (ae7:lQ<1000000) (aK:t.c6 gW=some bg) (tz:eh .str (cz x.name) bg=true) (aG:t.c6 eC=some eF) (mq: ∀s,eh .str (cz s) eF=true) (DA: ∀s v,cF (cz s) eF=some v-> ∃i:Int,v=S i/\0<=i/\i<=lQ)
    (fY:fW≠c) (dh:gW≠c) (kZ:gW≠fW) (p0:eC≠gW) (sW:eC≠c) (Ho:eC≠fW) {az:Value->B->Prop}
    (z:oy x (cF (cz x.name) bg).isSome eF=0-> ∀aN o' ed fM bp,t.next<=o'->t.next<=ed->o'≠ed->qe t aN [c,fW,gW]->aN.M c=some ⟨[dF,bn,.slice (some ⟨eL,0,none⟩) lQ 4,dp,eH,.slice (some ⟨o',0,none⟩) (oU+1) 17,fp,gp,.map (some eC),gD,.map (some gW),g8,h2,h3,h4,h5,h6,S 0,fM,bp],true⟩->
      aN.M ed=some ⟨x.a5.map λs=>S (kY eF s),true⟩->aN.M o'=some ⟨cs++((mX ⟨x.name,x.k,x.m,x.q,x.aY,[],x.hf.map ea,ea x.hS,ea x.ez⟩).set 9 (.slice (some ⟨ed,0,none⟩) x.a5.length 1)),true⟩->aN.c6 gW=some (dW (cz x.name) (S oU) bg)->az (.tuple #[]) aN)
    (D: ∀aN e,oy x (cF (cz x.name) bg).isSome eF=e->e≠0->gf c e x.p.l x.p.c aN->az (.tuple #[]) aN):hn Tryz.prog 44 [bZ c,.agg (hc x).toArray] t az:=by
  refine g0 (aY:=⟨[SH,SL,Cw],[pU,DZ]⟩) axt (by kernel_rfl) (by simp[Eh]) ?_;have m1:=aT aj;have cZ:=aT ds;have jS:gW<t.next:=aT (hv aK).1
  have LL:eC<t.next:=aT (hv aG).1
  have bm: ¬c=t.next:=by omega
  have bU: ¬t.next=c:=by omega
  have cn: ¬gW=t.next:=by omega
  have fa: ¬eC=t.next:=by omega
  have hB:cs.take (oU*17)=cs:=List.take_of_length_le (by omega);have fV:(oU+1)*240<=140737488355328/\oU<=9223372036854775806:=by omega
  cases bO:gP x.name
  · simp(disch:=first|omega|(simp only[ae,ad,af];omega)) [Eh,GL,GM,GN,GO,GU,GV,Af,hc,aj,aK,bO,gl,fS,-cF,-dW,-eh,-al,-ar,-ai,-ao,-List.map_map];exact D _ 1 (by simp[oy,bO]) (by decide) (gf.mk (bX (by simp<;>omega)))
  · cases aI:(cF (cz x.name) bg).isSome
    · cases l0:oX x.k x.m x.q x.aY
      · simp(disch:=first|omega|(simp only[ae,ad,af];omega)) [Eh,GL,GM,GN,GO,GU,GV,Af,hc,aj,aK,bO,aI,l0,gl,hy,fS,-cF,-dW,-eh,-al,-ar,-ai,-ao,-List.map_map];exact D _ 5 (by simp[oy,bO,aI,l0]) (by decide) (gf.mk (bX (by simp<;>omega)))
      · by_cases BG:x.a5=[]
        · simp(disch:=first|omega|(simp only[ae,ad,af];omega)) [Eh,GL,GM,GN,GO,GU,GV,Af,hc,aj,aK,bO,aI,l0,BG,gl,hy,fS,-cF,-dW,-eh,-al,-ar,-ai,-ao,-List.map_map];exact D _ 1 (by simp[oy,bO,aI,l0,BG]) (by decide) (gf.mk (bX (by simp<;>omega)))
        · have at2:0<x.a5.length:=List.length_pos_iff.2 BG;have aJg:(0:Int)<x.a5.length:=(by omega);simp(disch:=first|omega|(simp only[ae,ad,af];omega)) [Eh,GL,GM,GN,GO,hc,aj,aK,bO,aI,l0,at2,gl,hy,fS,-cF,-dW,-eh,-al,-ar,-ai,-ao,-List.map_map];have Va: ∀s v,cF (cz s) eF=some v-> ∃i,v=S i:= λs v h=>by obtain⟨i,z,_⟩:=DA s v h;exact⟨i,z⟩
          refine aAL (x:=x) (eF:=eF) (eC:=eC) (c:=c) (gh:=t.next) (aH:= .agg (hc x).toArray) BH mq Va (Eq.trans (b:=t.M c) (by simp(disch:=first|omega|(simp only[ae,ad,af];omega)) [-al,-ar,-ai,-ao,-List.map_map]) aj) (by simp(disch:=first|omega|(simp only[ae,ad,af];omega)) [hc,-al,-ar,-ai,-ao,-List.map_map]) (by simp(disch:=first|omega|(simp only[ae,ad,af];omega)) [aG,-al,-ar,-ai,-ao,-List.map_map]) (by omega) sW (by omega) (by simp) (by simp[hc]) (by simp) (by simp) (by simp) (by simp) (by simp) λc7 ec o e lC mG c1 pR yc zM UM jy hr o1 qU=> ?_;simp only[ae,ad,af]at pR;have BC:=yc.next
          simp only[ae,ad,af]at BC;have UF:ec.M t.next=some ⟨hc x,true⟩:=by rw[yc.M t.next (by simp) (by simp;omega)];simp(disch:=first|omega|(simp only[ae,ad,af];omega)) [hc,-al,-ar,-ai,-ao,-List.map_map]
          have aew:ec.M fW=some ⟨cs,true⟩:=(by rw[yc.M fW (by simp;omega) (by simp[fY])];simp(disch:=first|omega|(simp only[ae,ad,af];omega)) [ds,-al,-ar,-ai,-ao,-List.map_map]);have asD:ec.c6 gW=some (dW (cz x.name) (S oU) bg):=(by rw[yc.map gW (by simp;omega) (by simp[dh])];simp(disch:=first|omega|(simp only[ae,ad,af];omega)) [-dW,-al,-ar,-ai,-ao,-List.map_map]);have asj: ∀b,b<t.next->b≠c->b≠gW->ec.M b=t.M b/\ec.c6 b=t.c6 b:= λb L z D=>by rw[yc.M b (by simp;omega) (by simp[z]),yc.map b (by simp;omega) (by simp[z])];constructor<;>simp(disch:=first|omega|(simp only[ae,ad,af];omega)) [-al,-ar,-ai,-ao,-List.map_map]
          have aKS:=aT zM;have ayI:=aT UM;have ayH:=aT UF;have ayJ:=aT aew;have aD1:IntKind.i64.wrap ((lQ:Int)+1)=(lQ:Int)+1:=ct (by omega) (by omega);have aD2:0<=(lQ:Int)+1/\(lQ:Int)+1<=140737488355328/\(lQ:Int)+1<=9223372036854775807:=(by omega);simp(disch:=first|omega|(simp only[ae,ad,af];omega)) [GU,GV,jy,qU,zM,aD1,aD2,-al,-ar,-ai,-ao,-List.map_map];have aeX: ∀m∈x.a5.map (kY eF),0<=m/\m<=lQ:= λm aK=>by
            obtain⟨s,_,rfl⟩:=List.mem_map.1 aK;unfold kY;cases bt:cF (cz s) eF with
            |none=>simp
            |some v=>obtain⟨i,rfl,Z,aw⟩:=DA s v bt;exact⟨Z,aw⟩
          have Vm:(x.a5.map (kY eF)).length=x.a5.length:=(by simp);refine aAM (x:=x) (l2:=x.a5.map (kY eF)) (lQ:=lQ) (c:=c) (gh:=t.next) (o:=o) (os:=ec.next+7) (aH:= .agg (hc x).toArray) (by rw[Vm];exact BH) aeX (Eq.trans (b:=ec.M c) (by simp(disch:=first|omega|(simp only[ae,ad,af];omega)) [-al,-ar,-ai,-ao,-List.map_map]) zM) (by simp(disch:=first|omega|(simp only[ae,ad,af];omega)) [UF,-al,-ar,-ai,-ao,-List.map_map]) (Eq.trans (b:=ec.M o) (by simp(disch:=first|omega|(simp only[ae,ad,af];omega)) [-al,-ar,-ai,-ao,-List.map_map]) (by rw[UM];simp[Function.comp_def])) (by simp(disch:=first|omega|(simp only[ae,ad,af];omega)) [List.map_replicate,-al,-ar,-ai,-ao,-List.map_map]) (by omega) (by omega) (by omega) (by omega) (by omega) (by omega) (by simp[jy]) (by simp[hr]) (by simp[o1]) (by simp[qU]) (by simp) (by simp) (by simp) (by simp) λfb iG a1 azo ayG mE DC vC CK ua wz E7=> ?_;have att:=DC.next
          simp only[ae,ad]at att;have wR: ∀b,b<ec.next->b≠c->iG.M b=ec.M b/\iG.c6 b=ec.c6 b:= λb L z=>by rw[DC.M b (by simp;omega) (by simp[z];omega),DC.map b (by simp;omega) (by simp[z];omega)];constructor<;>simp(disch:=first|omega|(simp only[ae,ad,af];omega)) [-al,-ar,-ai,-ao,-List.map_map]
          have Jc:iG.M t.next=some ⟨hc x,true⟩:=by rw[(wR _ ayH (by omega)).1];exact UF
          have FN:iG.M fW=some ⟨cs,true⟩:=(by rw[(wR _ ayJ fY).1];exact aew);have FM:iG.M o=some ⟨x.a5.map λs=>S (kY eF s),true⟩:=(by rw[(wR _ ayI (by omega)).1];exact UM);have aeu:iG.c6 gW=some (dW (cz x.name) (S oU) bg):=(by rw[(wR _ (by omega) dh).2];exact asD);have akI:=aT vC;have aKU:=aT FM;have aKT:=aT Jc;have aKV:=aT FN;have tx:((∀r∈x.hf,r.bM)/\x.hf.length<1000000)/\x.hS.bM/\x.ez.bM:=W;have r2:x.hS.bM/\x.ez.bM:=W.2;have aI5:(∀r∈x.hf,r.bM)/\x.hf.length<1000000:=W.1;have alB:o≠t.next:=by omega
          have az0:o≠c:=(by omega);have az8:o≠fW:=(by omega);have aLH:t.next≠fW:=by omega
          have adN: ∀b,b<t.next->b≠c->b≠fW->b≠gW->iG.M b=t.M b/\iG.c6 b=t.c6 b:= λb L z D Z=>by rw[(wR b (by omega) z).1,(wR b (by omega) z).2];exact asj b L z Z
          have Ou:oy x (cF (cz x.name) bg).isSome eF=if x.a5.all (ri eF)=false then 7 else if¬(x.a5.map (kY eF)).Nodup then 8 else if ns x.m x.hf x.hS x.ez=false then 5 else 0:=by simp only[oy,bO,aI,l0,BG,Bool.true_eq_false,Bool.false_eq_true,if_false]
          have ac3:a1≠0-> ∀aN,aN.M c=iG.M c->az (.tuple #[]) aN:= λdq aN bH=>by
            rcases mE with⟨lx,rfl,rfl,rfl⟩|⟨lx,nM,tb⟩|⟨lx,nM,rfl,rfl,rfl⟩
            · rcases c1 with⟨xL,wA⟩|⟨xL,rfl,rfl,rfl⟩
              · exact absurd wA dq
              · exact D aN 7 (by rw[Ou,if_pos xL]) (by decide) (gf.mk (bH.trans vC))
            · exact absurd tb dq
            · rcases c1 with⟨xL,wA⟩|⟨xL,wA,_⟩
              · exact D aN 8 (by rw[Ou,if_neg (by rw[xL];decide),if_pos nM]) (by decide) (gf.mk (bH.trans vC))
              · rw[lx]at wA;cases wA
          have asF:a1=0->x.a5.all (ri eF)=true/\(x.a5.map (kY eF)).Nodup:= λbY=>by
            rcases mE with⟨lx,nM,_⟩|⟨lx,nM,tb⟩|⟨lx,nM,tb,_⟩
            · rw[<-nM]at lx;exact absurd bY lx
            · rcases c1 with⟨xL,wA⟩|⟨xL,wA,_⟩
              · exact⟨xL,nM⟩
              · rw[lx]at wA;cases wA
            · rw[tb]at bY;cases bY
          by_cases BB:a1=0
          · obtain⟨aC,a2⟩:=asF BB;subst BB;cases DO:ns x.m x.hf x.hS x.ez
            · simp(disch:=first|omega|(simp only[ae,ad,af];omega)) [Af,CK,wz,vC,Jc,DO,hc,-al,-ar,-ai,-ao,-List.map_map];exact D _ 5 (by rw[Ou,if_neg (by rw[aC];decide),if_neg (by simpa using a2),if_pos DO]) (by decide) (gf.mk (bX (by simp<;>omega)))
            · simp(disch:=first|omega|(simp only[ae,ad,af];omega)) [Af,CK,wz,E7,vC,Jc,FN,DO,hc,eS,aB,hB,fV,jq,jw,gl,fS,-al,-ar,-ai,-ao,-List.map_map];refine z (by rw[Ou,if_neg (by rw[aC];decide),if_neg (by simpa using a2),if_neg (by rw[DO];decide)]) _ (iG.next+9+28) o azo ayG (by omega) (by omega) (by omega) ⟨by simp<;>omega,λb L c5=> ?_,λb L c5=> ?_⟩ ?_ ?_ ?_ ?_
              · simp only[List.mem_cons,List.not_mem_nil,or_false,not_or]at c5;obtain⟨aM,a1,cI⟩:=c5;rw[<-(adN b L aM a1 cI).1];have oj:b<iG.next:=by omega
                simp(disch:=first|omega|(simp only[ae,ad,af];omega)) [-al,-ar,-ai,-ao,-List.map_map]
              · simp only[List.mem_cons,List.not_mem_nil,or_false,not_or]at c5;obtain⟨aM,a1,cI⟩:=c5;rw[<-(adN b L aM a1 cI).2];have oj:b<iG.next:=by omega
                simp(disch:=first|omega|(simp only[ae,ad,af];omega)) [-al,-ar,-ai,-ao,-List.map_map]
              · simp(disch:=first|omega|(simp only[ae,ad,af];omega)) [-al,-ar,-ai,-ao,-List.map_map]
              · simp(disch:=first|omega|(simp only[ae,ad,af];omega)) [FM,-al,-ar,-ai,-ao,-List.map_map]
              · simp(disch:=first|omega|(simp only[ae,ad,af];omega)) [mX,-al,-ar,-ai,-ao,-List.map_map]
              · have oj:gW<iG.next:=aT (hv aeu).1
                rw[<-aeu];simp(disch:=first|omega|(simp only[ae,ad,af];omega)) [-dW,-al,-ar,-ai,-ao,-List.map_map]
          · cases DO:ns x.m x.hf x.hS x.ez
            · simp(disch:=first|omega|(simp only[ae,ad,af];omega)) [Af,CK,wz,vC,Jc,DO,BB,hc,-al,-ar,-ai,-ao,-List.map_map];exact ac3 BB _ (gr akI)
            · simp(disch:=first|omega|(simp only[ae,ad,af];omega)) [Af,CK,wz,vC,Jc,DO,BB,hc,-al,-ar,-ai,-ao,-List.map_map];exact ac3 BB _ (gr akI)
    · simp(disch:=first|omega|(simp only[ae,ad,af];omega)) [Eh,GL,GM,GN,GO,GU,GV,Af,hc,aj,aK,bO,aI,gl,fS,-cF,-dW,-eh,-al,-ar,-ai,-ao,-List.map_map];exact D _ 8 (by simp[oy,bO,aI]) (by decide) (gf.mk (bX (by simp<;>omega)))
theorem ave(l:List Int):(l.map λs=>[S s]).flatten=l.map λi=>S i:=by
  induction l with
  |nil=>rfl
  |cons x l cb=>simp[cb]
theorem avd{l:List Int}: ∀r∈l.map (λs=>[S s]),r.length=1/\ ∀v∈r,j9 v=true:= λr aF=>by obtain⟨x,_,rfl⟩:=List.mem_map.1 aF;exact⟨rfl,λv X=>by simp at X;subst X;rfl⟩
theorem aAO{x:mg}(W:mg.bM x)(BH:x.a5.length<1000000){c eL fW eC gW lQ oU:Nat}{dF bn dp eH fp gp gD g8 h2 h3 h4 h5 h6 cY cy:Value}{cs:List Value}{bg eF:List (Value×Value)}{t:B}
    (aj:t.M c=some ⟨[dF,bn,.slice (some ⟨eL,0,none⟩) lQ 4,dp,eH,.slice (some ⟨fW,0,none⟩) oU 17,fp,gp,.map (some eC),gD,.map (some gW),g8,h2,h3,h4,h5,h6,S 0,cY,cy],true⟩)
    (ds:t.M fW=some ⟨cs,true⟩) (aB:cs.length=oU*17) (ak:oU<1000000) (ae7:lQ<1000000) (aK:t.c6 gW=some bg) (tz:eh .str (cz x.name) bg=true) (aG:t.c6 eC=some eF) (mq: ∀s,eh .str (cz s) eF=true) (DA: ∀s v,cF (cz s) eF=some v-> ∃i:Int,v=S i/\0<=i/\i<=lQ)
    (fY:fW≠c) (dh:gW≠c) (kZ:gW≠fW) (p0:eC≠gW) (sW:eC≠c) (Ho:eC≠fW) {az:Value->B->Prop}
    (z:oy x (cF (cz x.name) bg).isSome eF=0-> ∀aN o' fM bp,t.next<=o'->qe t aN [c,fW,gW]->aN.M c=some ⟨[dF,bn,.slice (some ⟨eL,0,none⟩) lQ 4,dp,eH,.slice (some ⟨o',0,none⟩) (oU+1) 17,fp,gp,.map (some eC),gD,.map (some gW),g8,h2,h3,h4,h5,h6,S 0,fM,bp],true⟩->
      aN.M o'=some ⟨cs++mX ⟨x.name,x.k,x.m,x.q,x.aY,x.a5.map (kY eF),x.hf.map ea,ea x.hS,ea x.ez⟩,true⟩->aN.c6 gW=some (dW (cz x.name) (S oU) bg)->az (.tuple #[]) aN)
    (D: ∀aN e,oy x (cF (cz x.name) bg).isSome eF=e->e≠0->gf c e x.p.l x.p.c aN->az (.tuple #[]) aN):hn Tryz.prog 44 [bZ c,.agg (hc x).toArray] t az:=by
  have m1:=aT aj;have cZ:=aT ds;have jS:gW<t.next:=aT (hv aK).1
  refine hn.freeze (az:= λr aN=>r= .tuple #[]/\(az (.tuple #[]) aN\/(oy x (cF (cz x.name) bg).isSome eF=0/\ ∃o' ed fM bp,t.next<=o'/\t.next<=ed/\o'≠ed/\qe t aN [c,fW,gW]/\aN.M c=some ⟨[dF,bn,.slice (some ⟨eL,0,none⟩) lQ 4,dp,eH,.slice (some ⟨o',0,none⟩) (oU+1) 17,fp,gp,.map (some eC),gD,.map (some gW),g8,h2,h3,h4,h5,h6,S 0,fM,bp],true⟩/\
      aN.M ed=some ⟨x.a5.map λs=>S (kY eF s),true⟩/\aN.M o'=some ⟨cs++((mX ⟨x.name,x.k,x.m,x.q,x.aY,[],x.hf.map ea,ea x.hS,ea x.ez⟩).set 9 (.slice (some ⟨ed,0,none⟩) x.a5.length 1)),true⟩/\aN.c6 gW=some (dW (cz x.name) (S oU) bg))))
    (aAP W BH aj ds aB ak ae7 aK tz aG mq DA fY dh kZ p0 sW Ho (λaq aN o' ed fM bp a b d e f g h i=>⟨rfl,.inr ⟨aq,o',ed,fM,bp,a,b,d,e,f,g,h,i⟩⟩) (λaN e a b d=>⟨rfl,.inl (D aN e a b d)⟩)) λr aN cE=> ?_
  obtain⟨rfl,cE|⟨aq,o',ed,fM,bp,a,b,d,e,f,g,h,i⟩⟩:=cE
  · exact .inl cE
  · have aLi:=aT g;have ZU:=aT h;have aKZ:=aT f;have l2:(x.a5.map λs=>S (kY eF s))=((x.a5.map (kY eF)).map λs=>[S s]).flatten:=(by rw[ave,List.map_map];rfl);have gH:((x.a5.map (kY eF)).map λs=>[S s]).length=x.a5.length:=(by simp);refine .inr ⟨ed,o',oU*17+9,1,(x.a5.map (kY eF)).map λs=>[S s],_,by rw[<-l2];exact g,avd,h,?_,λe=>d e.symm,?_⟩
    · rw[List.getElem?_append_right (by omega),aB,gH,Nat.add_sub_cancel_left];rfl
    · have OB:(cs++((mX ⟨x.name,x.k,x.m,x.q,x.aY,[],x.hf.map ea,ea x.hS,ea x.ez⟩).set 9 (.slice (some ⟨ed,0,none⟩) x.a5.length 1))).set (oU*17+9) (bE ((x.a5.map (kY eF)).map λs=>[S s]) 1)=cs++mX ⟨x.name,x.k,x.m,x.q,x.aY,x.a5.map (kY eF),x.hf.map ea,ea x.hS,ea x.ez⟩:=by
        rw[List.set_append_right _ _ (by omega),aB,Nat.add_sub_cancel_left];rfl
      rw[OB];refine z aq _ o' fM bp a ⟨e.next,λcQ L c5=> ?_,λcQ L c5=> ?_⟩ ?_ ?_ ?_
      · have lx:cQ≠o':=(by omega);have nM:cQ≠ed:=(by omega);rw[dv lx,dv nM,e.M cQ L c5]
      · have lx:cQ≠o':=(by omega);have nM:cQ≠ed:=(by omega);rw[rX lx,rX nM,e.map cQ L c5]
      · rw[dv (by omega),dv (by omega)];exact f
      · exact bX (by simpa using ZU)
      · rw[rX (by omega),rX (by omega)];exact i
def dR(s:ByteArray):List ByteArray->Option Nat
  |[]=>none
  |x::l=>if s=x then some 0 else(dR s l).map (· +1)
def lh(k:Nat):List ByteArray->List (Value×Value)
  |[]=>[]
  |x::l=>(cz x,S k)::lh (k+1) l
def uo(l:List ByteArray):List (Value×Value):=l.map λx=>(cz x,S 0)
theorem Cg{s:ByteArray}: ∀{l:List ByteArray} {k:Nat},cF (cz s) (lh k l)=(dR s l).map λi=>S ((k+i:Nat):Int)
  |[],_=>rfl
  | x::l,k=>by
    simp only[lh,cF,o8,dR];by_cases h:s=x
    · simp[h]
    · simp only[h,decide_false,if_false,Cg,Option.map_map,Bool.false_eq_true];congr 1;funext i;simp only[Function.comp_apply];congr 2;omega
theorem alc{s:ByteArray}: ∀{l:List ByteArray},cF (cz s) (uo l)=(dR s l).map λ_=>S 0
  |[]=>rfl
  | x::l=>by
    simp only[uo,List.map_cons,cF,o8,dR];by_cases h:s=x
    · simp[h]
    · have:=alc (s:=s) (l:=l);simp only[uo]at this;simp only[h,decide_false,if_false,this,Option.map_map,Bool.false_eq_true];rfl
theorem LR{s:ByteArray}{n:Int}: ∀{l:List ByteArray} {k:Nat},dR s l=none->n=((k+l.length:Nat):Int)->dW (cz s) (S n) (lh k l)=lh k (l++[s])
  |[],k,_,ak=>by simp[lh,dW,ak]
  | x::l,k,h,ak=>by
    simp only[dR]at h;split at h
    · cases h
    · next J=>simp only[lh,dW,o8,J,decide_false,Bool.false_eq_true,if_false,List.cons_append];rw[LR (by cases bt:dR s l with|none=>rfl|some v=>rw[bt]at h;cases h) (by rw[ak,List.length_cons];congr 1;omega)]
theorem Z8{s:ByteArray}: ∀{l:List ByteArray},dR s l=none->dW (cz s) (S 0) (uo l)=uo (l++[s])
  |[],_=>by simp[uo,dW]
  | x::l,h=>by
    simp only[dR]at h;split at h
    · cases h
    · next J=>have:=Z8 (s:=s) (l:=l) (by cases bt:dR s l with|none=>rfl|some v=>rw[bt]at h;cases h);simp only[uo]at this;simp only[uo,List.map_cons,dW,o8,J,decide_false,Bool.false_eq_true,if_false,List.cons_append,this]
theorem Am{s:ByteArray}: ∀{l:List ByteArray} {k:Nat},eh .str (cz s) (lh k l)=true
  |[],_=>rfl
  | x::l,k=>by have:=Am (s:=s) (l:=l) (k:=k+1);simp only[eh,lh,List.all_cons,pj,Bool.true_and]at this⊢;exact this
theorem ayD{s:ByteArray}{l:List ByteArray}:eh .str (cz s) (uo l)=true:=by simp only[eh,uo,pj,Bool.true_and,List.all_map,List.all_eq_true];intro x _;rfl
theorem Gf{s:ByteArray}: ∀{l:List ByteArray} {i:Nat},dR s l=some i->i<l.length
  |[],_,h=>by cases h
  | x::l,i,h=>by
    simp only[dR]at h;split at h
    · cases h;simp
    · cases bt:dR s l with
      |none=>rw[bt]at h;cases h
      |some j=>rw[bt]at h;simp at h;subst h;have:=Gf bt;simp;omega
structure dm where
  ck:List hk
  a5:List H9
  dG:List qX
  gq:List zm
  cG:List oD
  dH:List Ia
  a3:List ByteArray
  cc:dY
abbrev iN:=dm⊕(Int×mf)
def dm.lN(G:dm):List ByteArray:=G.ck.map (·.name)
def dm.gJ(G:dm):List ByteArray:=G.a5.map (·.name)
def dm.lv(G:dm):List ByteArray:=G.cG.map (·.name)
def dm.qd(G:dm):List ByteArray:=G.dH.map (·.name)
noncomputable def kQ(G:dm)(x:xN):iN:=
  if gP x.eV.name=false then .inr (1,x.p)else if(dR x.eV.name G.lN).isSome=true then .inr (8,x.p)else if x.eV.ox=false then .inr (1,x.p)
  else .inl {G with ck:=G.ck++[m5 x.eV]}
noncomputable def ja(G:dm)(x:zq):iN:=
  if gP x.name=false then .inr (1,x.p)else if(dR x.name G.gJ).isSome=true then .inr (8,x.p)else match dR x.eV G.lN with
    |none=> .inr (7,x.p)
    |some hx=>if cU x.ext 1 16&&cU x.pn 1 64 then .inl {G with a5:=G.a5++[⟨x.name,x.ext,x.pn,hx⟩]}else .inr (5,x.p)
noncomputable def hP(G:dm)(x:k4):iN:=
  match gy x (dR x.name G.a3).isSome ((dR x.model G.gJ).map λi=>(i:Int)) G.cc G.dG.length with
    | .q5 e=> .inr (e,x.p)
    | .Fw d=> .inl {G with gq:=G.gq++[d],a3:=G.a3++[x.name]}
    | .ql d l=> .inl {G with dG:=G.dG++[d],a3:=G.a3++[x.name],cc:=l}
noncomputable def jx(G:dm)(x:mg):iN:=
  let e:=oy x (dR x.name G.lv).isSome (lh 0 G.gJ)
  if e=0 then .inl {G with cG:=G.cG++[⟨x.name,x.k,x.m,x.q,x.aY,x.a5.map (kY (lh 0 G.gJ)),x.hf.map ea,ea x.hS,ea x.ez⟩]}else .inr (e,x.p)
noncomputable def kR(G:dm)(x:zr):iN:=
  if gP x.name=false then .inr (1,x.p)else if(dR x.name G.qd).isSome=true then .inr (8,x.p)else match dR x.qO G.lv with
    |none=> .inr (7,x.p)
    |some hx=> .inl {G with dH:=G.dH++[⟨x.name,hx⟩]}
def CE{cK:Type}(f:dm->cK->iN)(s:iN)(x:cK):iN:=match s with
  | .inl G=>f G x
  | .inr e=> .inr e
def fr{cK:Type}(f:dm->cK->iN)(s:iN)(l:List cK):iN:=l.foldl (CE f) s
structure o5 where
  c:Nat
  gV:Nat
  eC:Nat
  iL:Nat
  gW:Nat
  l8:Nat
structure zl(d:o5)(ext:Int)(G:dm)(t:B)(g5 eL g4 g6 fW hR:Nat)(cY cy:Value):Prop where
  c :t.M d.c=some ⟨[S ext,.slice (some ⟨g5,0,none⟩) G.ck.length 4,.slice (some ⟨eL,0,none⟩) G.a5.length 4,.slice (some ⟨g4,0,none⟩) G.dG.length 7,.slice (some ⟨g6,0,none⟩) G.gq.length 3,.slice (some ⟨fW,0,none⟩) G.cG.length 17,.slice (some ⟨hR,0,none⟩) G.dH.length 2,
    .map (some d.gV),.map (some d.eC),.map (some d.iL),.map (some d.gW),.map (some d.l8),S G.cc.a,S G.cc.b,S G.cc.c,S G.cc.d,S G.cc.e,S 0,cY,cy],true⟩
  vz:t.M g5=some ⟨(G.ck.map j3).flatten,true⟩
  qu:t.M eL=some ⟨(G.a5.map qq).flatten,true⟩
  vy:t.M g4=some ⟨(G.dG.map iC).flatten,true⟩
  vB:t.M g6=some ⟨(G.gq.map qp).flatten,true⟩
  vA:t.M fW=some ⟨(G.cG.map mX).flatten,true⟩
  rV:t.M hR=some ⟨(G.dH.map qs).flatten,true⟩
  gV:t.c6 d.gV=some (lh 0 G.lN)
  eC:t.c6 d.eC=some (lh 0 G.gJ)
  iL:t.c6 d.iL=some (uo G.a3)
  gW:t.c6 d.gW=some (lh 0 G.lv)
  l8:t.c6 d.l8=some (lh 0 G.qd)
  iX:[d.c,d.gV,d.eC,d.iL,d.gW,d.l8,g5,eL,g4,g6,fW,hR].Nodup
def Fh(d:o5)(ext:Int)(G:dm)(t:B):Prop:= ∃g5 eL g4 g6 fW hR cY cy,zl d ext G t g5 eL g4 g6 fW hR cY cy
def lf(d:o5)(ext:Int)(s:iN)(t:B):Prop:=match s with
  | .inl G=>Fh d ext G t
  | .inr (e,p)=>e≠0/\gf d.c e p.l p.c t
theorem zl.Bj{d:o5}{ext:Int}{G:dm}{t aN:B}{g5 eL g4 g6 fW hR:Nat}{cY cy:Value}(h:zl d ext G t g5 eL g4 g6 fW hR cY cy)(aI:qe t aN []):zl d ext G aN g5 eL g4 g6 fW hR cY cy where
  c:=by rw[aI.M _ (aT h.c) (by simp)];exact h.c
  vz:=by rw[aI.M _ (aT h.vz) (by simp)];exact h.vz
  qu:=by rw[aI.M _ (aT h.qu) (by simp)];exact h.qu
  vy:=by rw[aI.M _ (aT h.vy) (by simp)];exact h.vy
  vB:=by rw[aI.M _ (aT h.vB) (by simp)];exact h.vB
  vA:=by rw[aI.M _ (aT h.vA) (by simp)];exact h.vA
  rV:=by rw[aI.M _ (aT h.rV) (by simp)];exact h.rV
  gV:=by rw[aI.map _ (aT (hv h.gV).1) (by simp)];exact h.gV
  eC:=by rw[aI.map _ (aT (hv h.eC).1) (by simp)];exact h.eC
  iL:=by rw[aI.map _ (aT (hv h.iL).1) (by simp)];exact h.iL
  gW:=by rw[aI.map _ (aT (hv h.gW).1) (by simp)];exact h.gW
  l8:=by rw[aI.map _ (aT (hv h.l8).1) (by simp)];exact h.l8
  iX:=h.iX
def dm.small(G:dm)(n:Nat):Prop:=G.ck.length<=n/\G.a5.length<=n/\G.dG.length<=n/\G.gq.length<=n/\G.cG.length<=n/\G.dH.length<=n
theorem lf.Bj{d:o5}{ext:Int}{s:iN}{t aN:B}(h:lf d ext s t)(aI:qe t aN []):lf d ext s aN:=by
  cases s with
  |inl G=>obtain⟨g5,eL,g4,g6,fW,hR,cY,cy,z⟩:=h;exact⟨g5,eL,g4,g6,fW,hR,cY,cy,z.Bj aI⟩
  | inr e=>obtain⟨bB,_,_,_,_,_,_,_,_,_,_,_,_,_,_,_,_,_,z⟩:=h;exact⟨bB,gf.mk ((aI.M _ (aT z) (by simp)).trans z)⟩
theorem vV{s:ByteArray}{l:List ByteArray}{k:Nat}:(cF (cz s) (lh k l)).isSome=(dR s l).isSome:=by rw[Cg];cases dR s l<;>rfl
theorem ayv{s:ByteArray}{l:List ByteArray}:(cF (cz s) (uo l)).isSome=(dR s l).isSome:=by rw[alc];cases dR s l<;>rfl
theorem v9{cK:Type}{o:Option cK}(h:o.isSome=false):o=none:=by cases o with|none=>rfl|some x=>cases h
theorem akO{l:List hk}:(l.map j3).flatten.length=l.length*4:=by rw[tn (O:=4) λr aF=>by obtain⟨x,_,rfl⟩:=List.mem_map.1 aF;rfl,List.length_map]
theorem sC{cK:Type}{f:cK->List Value}{l:List cK}{x:cK}:(l.map f).flatten++f x=((l++[x]).map f).flatten:=by simp
theorem IJ{l:List Nat}(h:l.Nodup)(i j:Nat)(aa:i<j)(cp:j<l.length):l[i]'(by omega)≠l[j]:=List.pairwise_iff_getElem.1 h i j (by omega) cp aa
theorem Hw{l:List Nat}(h:l.Nodup){o':Nat}(ak: ∀b∈l,b≠o'): ∀i,(l.set i o').Nodup:=by
  induction l with
  |nil=>intro i;simp
  | cons x l cb=>
    intro i;rw[List.nodup_cons]at h;cases i with
    | zero=>rw[List.set_cons_zero,List.nodup_cons];exact⟨λaK=>ak o' (List.mem_cons_of_mem _ aK) rfl,h.2⟩
    | succ i=>
      rw[List.set_cons_succ,List.nodup_cons];refine⟨λaK=> ?_,cb h.2 (λb L=>ak b (List.mem_cons_of_mem _ L)) i⟩;rcases List.mem_or_eq_of_mem_set aK with z|z
      · exact h.1 z
      · exact ak x (by simp) z
theorem zl.cW{d:o5}{ext:Int}{G:dm}{t:B}{g5 eL g4 g6 fW hR:Nat}{cY cy:Value}(h:zl d ext G t g5 eL g4 g6 fW hR cY cy): ∀b∈[d.c,d.gV,d.eC,d.iL,d.gW,d.l8,g5,eL,g4,g6,fW,hR],b<t.next:=by
  intro b L;simp only[List.mem_cons,List.not_mem_nil,or_false]at L;rcases L with rfl|rfl|rfl|rfl|rfl|rfl|rfl|rfl|rfl|rfl|rfl|rfl
  · exact aT h.c
  · exact aT (hv h.gV).1
  · exact aT (hv h.eC).1
  · exact aT (hv h.iL).1
  · exact aT (hv h.gW).1
  · exact aT (hv h.l8).1
  · exact aT h.vz
  · exact aT h.qu
  · exact aT h.vy
  · exact aT h.vB
  · exact aT h.vA
  · exact aT h.rV
theorem hI{b x y O:Nat}(z:b≠x)(D:b≠y)(Z:b≠O):b∉[x,y,O]:=by simp[z,D,Z]
theorem ayP{d:o5}{ext:Int}{G:dm}{t:B}{x:xN}(W:x.eV.bM)(h:Fh d ext G t)(ak:G.ck.length<1000000){az:Value->B->Prop}(j1: ∀aN,lf d ext (kQ G x) aN->az (.tuple #[]) aN):hn Tryz.prog 38 [bZ d.c,.agg (pt x).toArray] t az:=by
  obtain⟨g5,eL,g4,g6,fW,hR,cY,cy,h⟩:=h;have iX:=h.iX;have aW: ∀i j (aa:i<j) (cp:j<12),([d.c,d.gV,d.eC,d.iL,d.gW,d.l8,g5,eL,g4,g6,fW,hR]:List Nat)[i]'(by simp;omega)≠([d.c,d.gV,d.eC,d.iL,d.gW,d.l8,g5,eL,g4,g6,fW,hR]:List Nat)[j]'(by simpa using cp):= λi j aa cp=>IJ iX i j aa (by simpa using cp);have ark:d.c≠g5:=aW 0 6 (by decide) (by decide);have arj:d.c≠d.gV:=aW 0 1 (by decide) (by decide);have arl:d.gV≠g5:=aW 1 6 (by decide) (by decide);refine ayR (x:=x) W (c:=d.c) (g5:=g5) (gV:=d.gV) (n:=G.ck.length) h.c h.vz akO ak h.gV Am ark.symm arj.symm arl (λaM a1 cI aN o' fe bw mi og tk=>j1 aN ?_) (λaN e aM a1 cI fe=>j1 aN ?_)
  · have e4:=v9 (by rw[<-vV];exact a1);have c1:kQ G x= .inl {G with ck:=G.ck++[m5 x.eV]}:=(by simp[kQ,aM,cI,e4]);rw[c1];have iW:= λ(b:Nat) (O:fO) (L:t.M b=some O) (ak:b∉[d.c,g5,d.gV])=>(bw.M b (aT L) ak).trans L;have jS:= λ(b:Nat) (O:List (Value×Value)) (L:t.c6 b=some O) (ak:b∉[d.c,g5,d.gV])=>(bw.map b (aT (hv L).1) ak).trans L
    refine⟨o',eL,g4,g6,fW,hR,cY,cy,?_,?_,iW _ _ h.qu (hI (aW 0 7 (by decide) (by decide)).symm (aW 6 7 (by decide) (by decide)).symm (aW 1 7 (by decide) (by decide)).symm),iW _ _ h.vy (hI (aW 0 8 (by decide) (by decide)).symm (aW 6 8 (by decide) (by decide)).symm (aW 1 8 (by decide) (by decide)).symm),iW _ _ h.vB (hI (aW 0 9 (by decide) (by decide)).symm (aW 6 9 (by decide) (by decide)).symm (aW 1 9 (by decide) (by decide)).symm),iW _ _ h.vA (hI (aW 0 10 (by decide) (by decide)).symm (aW 6 10 (by decide) (by decide)).symm (aW 1 10 (by decide) (by decide)).symm),iW _ _ h.rV (hI (aW 0 11 (by decide) (by decide)).symm (aW 6 11 (by decide) (by decide)).symm (aW 1 11 (by decide) (by decide)).symm),
      ?_,jS _ _ h.eC (hI (aW 0 2 (by decide) (by decide)).symm (aW 2 6 (by decide) (by decide)) (aW 1 2 (by decide) (by decide)).symm),jS _ _ h.iL (hI (aW 0 3 (by decide) (by decide)).symm (aW 3 6 (by decide) (by decide)) (aW 1 3 (by decide) (by decide)).symm),jS _ _ h.gW (hI (aW 0 4 (by decide) (by decide)).symm (aW 4 6 (by decide) (by decide)) (aW 1 4 (by decide) (by decide)).symm),jS _ _ h.l8 (hI (aW 0 5 (by decide) (by decide)).symm (aW 5 6 (by decide) (by decide)) (aW 1 5 (by decide) (by decide)).symm),?_⟩
    · simpa using mi
    · rw[og,sC]
    · rw[tk,LR e4 (by simp[dm.lN])];simp[dm.lN,m5]
    · exact Hw iX (λb L e=>by have:=h.cW b L;omega) 6
  · have c1:kQ G x= .inr (e,x.p)/\e≠0:=by
      cases bm:gP x.eV.name
      · have:=aM bm;subst this;simp[kQ,bm]
      · cases bU:(dR x.eV.name G.lN).isSome
        · obtain⟨cn,rfl⟩:=cI bm (by rw[vV];exact bU);simp[kQ,bm,bU,cn]
        · have:=a1 bm (by rw[vV];exact bU);subst this;simp[kQ,bm,bU]
    rw[c1.1];exact⟨c1.2,fe⟩
end Go.Proofs.YtkpifdkccdndcaaGreat
