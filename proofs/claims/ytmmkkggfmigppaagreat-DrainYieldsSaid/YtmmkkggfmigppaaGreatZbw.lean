/-
  A part of the proof, shortened by tools of ours.
-/
import Derived.Test.YtmmkkggfmigppaaGreatZbv
set_option linter.all false
set_option maxRecDepth 8000
set_option maxHeartbeats 16000000
namespace Go.Proofs.YtmmkkggfmigppaaGreat
open Go Go.DI Go.Big
def qq(u:aL)(dj:List Int)(d:Nat):Bool:=dj.any λn=>lF u d n
theorem To{u:aL}{dj:List Int}{i d:Nat}{n:Int}(B:dj[i]?=some n):qq u (dj.take (i+1)) d=(qq u (dj.take i) d||lF u d n):=by unfold qq;rw[qF,B];simp
theorem atA{u:aL}(h:gf u){d:Nat}(aW:d<u.aZ.length){n:Int}(aj:n=0\/oW u n=false):lF u d n=false:=by
 have bx:=h.g3;obtain⟨x,B⟩:=gM aW;unfold lF;simp only[B];have A: ¬n=(u.aO.length:Int)+d:=by
  rintro rfl;rcases aj with h|h
  ·omega
  ·simp[oW]at h;omega
 have E: ¬(0<n/\n<(u.aO.length:Int)):=by
  rintro⟨a,b⟩;rcases aj with h|h
  ·omega
  ·simp[oW]at h;omega
 rw[w0 A,Bool.false_or];by_cases c:0<n
 ·rw[w0 (λc9:n<(u.aO.length:Int)=>E ⟨c,c9⟩)];simp
 ·rw[w0 c];simp
theorem af3{u:aL}(h:gf u){d:Nat}(aW:d<u.aZ.length){n:Int}(bX: ¬n=0)(aj:oW u n=true):(d:Int)∈na u n↔lF u d n=true:=by
 rw[aon h aj];constructor
 ·rintro⟨qc,e,A,E|E⟩
  ·exact absurd E bX
  ·obtain rfl:d=qc:=(by omega);exact E
 ·exact λhb=>⟨d,rfl,aW,.inr hb⟩
theorem aqf{u:aL}{R dj:List Int}:(oy u R dj).map D=fc u.aZ.length λd=>D (if qq u dj d then 0 else iO u R d):=by unfold oy qq;rw[C8]
theorem aFo{u:aL}(h:cL u){R dj:List Int}(u0:dj.length<=1000000):fg N 21 [.agg (aI u).toArray,bq R,bq dj] fE λv bd=> ∃o,v=bN o u.aZ.length 1/\bd.F o=some ⟨(oy u R dj).map D,true⟩:=by
 have M:=h.ok.zE;have eM:=h.ok.fp;have hI:=h.ok.hj;have bx:=h.ok.g3;refine c3 (ay:=⟨[Dg u h.gl,Dc u (by omega) (by omega),NB u h],[Lm u h]⟩) ak5 (by kernel_rfl) (by simp[RB]) ?_;simp(disch:=first|omega|simp only[DI.aw];omega) [RB,ak4,aI,-ab,-ah,-aa,-ad,-List.map_map];refine gP (ay:=⟨[Dg u h.gl,Dc u (by omega) (by omega),NB u h],[Lm u h]⟩) (λi z t=>(∃o,o≠0/\z 7=bN o u.aZ.length 1/\t.F o=some ⟨fc u.aZ.length (λd=>D (if qq u (dj.take i) d then 0 else iO u R d)),true⟩)/\t.F 0=some ⟨aI u,true⟩/\z 3=bC 0/\z 18=bq dj/\z 19=D dj.length/\z 20=D i) dj.length ?_ ?_ 0 _ _ (gd _) ?_
 ·rintro i z t Y ⟨⟨o,aC,cf,bw⟩,aM,bH,k1,lT,wH⟩ bO a1;obtain⟨n,B⟩:=gM Y;have cQ:=(cN.1 B).2;have bA:(i:Int)<dj.length:=(by omega);have bp:=fB (n:=i) (by omega);have dN:=aF aM;have bh:=aF bw;have skip:(n=0\/oW u n=false)->fc u.aZ.length (λd=>D (if qq u (dj.take (i+1)) d then 0 else iO u R d))=fc u.aZ.length (λd=>D (if qq u (dj.take i) d then 0 else iO u R d)):= λaj=>rk λd aW=>by rw[To B,atA h.ok aW aj,Bool.or_false]
  by_cases c:n=0
  ·have e:=skip (.inl c);subst c;simp(disch:=first|omega|simp only[DI.aw];omega) [LY,k1,lT,wH,bA,bp,cQ,-ab,-ah,-aa,-ad,-List.map_map];exact a1 _ _ ⟨⟨o,aC,by simp[cf],by rw[e];exact bw⟩,aM,by simp[bH],by simp[k1],by simp[lT],by simp⟩
  cases aj:oW u n
  ·have e:=skip (.inr aj);simp(disch:=first|omega|simp only[DI.aw];omega) [LY,bH,k1,lT,wH,aM,aI,bA,bp,cQ,c,aj,-ab,-ah,-aa,-ad,-List.map_map];exact a1 _ _ ⟨⟨o,aC,by simp[cf],by rw[e];exact bw⟩,aM,by simp[bH],by simp[k1],by simp[lT],by simp⟩
  ·simp(disch:=first|omega|simp only[DI.aw];omega) [LY,bH,k1,lT,wH,aM,aI,bA,cQ,c,aj];have rQ:=atB h (n:=n);have lb: ∀x∈na u n,∃d:Nat,x=d/\d<u.aZ.length:= λx B=>by
    obtain⟨d,a,b,_⟩:=(aon h.ok aj).1 B;exact⟨d,a,b⟩
   refine gP (ay:=⟨[Dg u h.gl,Dc u (by omega) (by omega),NB u h],[Lm u h]⟩) (λk z t=>t.F o=some ⟨fc u.aZ.length (λd=>if(d:Int)∈(na u n).take k then D 0 else D (if qq u (dj.take i) d then 0 else iO u R d)),true⟩/\t.F 0=some ⟨aI u,true⟩/\z 3=bC 0/\z 7=bN o u.aZ.length 1/\z 18=bq dj/\z 19=D dj.length/\z 20=D i/\z 34=bq (na u n)/\z 35=D (na u n).length/\z 36=D k) (na u n).length ?_ ?_ 0 _ _ (gd _) ?_
   ·rintro k z t O ⟨bw,aM,bH,cf,k1,lT,wH,ac4,TY,ac5⟩ U3 El;have Z:(na u n)[k]?=some (na u n)[k]:=c6 O;obtain⟨d,aW,v7⟩:=lb _ (kp O);have a9:(k:Int)<(na u n).length:=(by omega);have cr:=fB (n:=k) (by omega);have bh:=aF bw;have Cf:d+1<=u.aZ.length:=v7;have bW:(d:Int)<u.aZ.length:=(by omega);rw[aW]at Z;simp(disch:=omega) [YQ,cf,ac4,TY,ac5,bw,a9,bW,cr,aW,Cf,A3];refine El _ _ ⟨?_,by rw[aX (λe=>aC e.symm)];exact aM,by simp[bH],by simp[cf],by simp[k1],by simp[lT],by simp[wH],by simp[ac4],by simp[TY],by simp⟩;rw[cb bh];congr 2;refine rk λj aV=> ?_;by_cases e:j=d
    ·subst e;rw[if_pos rfl,if_pos (by rw[qF,Z];simp)]
    ·have aN:((j:Int)∈(na u n).take (k+1))↔(j:Int)∈(na u n).take k:=by
      rw[qF,Z];simp;omega
     rw[if_neg e];simp only[aN]
   ·rintro z t ⟨bw,aM,bH,cf,k1,lT,wH,ac4,TY,ac5⟩;rw[mQ]at bw;simp(disch:=omega) [YQ,wH,TY,ac5,bp];refine a1 _ _ ⟨⟨o,aC,by simp[cf],?_⟩,aM,by simp[bH],by simp[k1],by simp[lT],by simp⟩;rw[bw];congr 2;refine rk λd aW=> ?_;rw[To B];by_cases e:(d:Int)∈na u n
    ·rw[if_pos e,(af3 h.ok aW c aj).1 e,Bool.or_true,if_pos rfl]
    ·have aN:lF u d n=false:=by
      cases hb:lF u d n with
      |false=>rfl
      |true=>exact absurd ((af3 h.ok aW c aj).2 hb) e
     rw[if_neg e,aN,Bool.or_false]
   ·exact⟨by simpa using bw,aM,by simp[bH],by simp[cf],by simp[k1],by simp[lT],by simp[wH],by simp,by simp,by simp⟩
 ·rintro z t ⟨⟨o,aC,cf,bw⟩,aM,bH,k1,lT,wH⟩;rw[mQ]at bw;simp(disch:=omega) [LY,cf,lT,wH];rw[aqf];exact bw
 ·refine⟨⟨2,by decide,by simp,?_⟩,by simp(disch:=first|omega|simp only[DI.aw];omega) [aI],by simp,by simp,by simp,by simp⟩;rw[cb (by simp[fE]),A4,C8];rfl
theorem aFn{u:aL}(h:cL u){R dj:List Int}(u0:dj.length<=1000000):bP N 21 [.agg (aI u).toArray,bq R,bq dj] (bq (oy u R dj)):=
 N4 (n:=u.aZ.length) (by rw[ll,acN]) u7 (by rw[mc];exact aFo h u0)
theorem aGN{u:aL}(h:cL u){R dj:List Int}(u0:dj.length<=1000000):fg N 22 [.agg (aI u).toArray,bq R,bq dj] fE λv bd=> ∃o,v=bN o u.aZ.length 1/\bd.F o=some ⟨(oy u R dj).map D,true⟩:=by
 have M:=h.ok.zE;have hI:=h.ok.hj;refine c3 (ay:=⟨[F4 u h.gl,NI u h],[Ln u h]⟩) az5 (by kernel_rfl) (by simp[YR]) ?_;simp(disch:=first|omega|simp only[DI.aw];omega) [YR,alh,aI,-ab,-ah,-aa,-ad,-List.map_map];refine gP (ay:=⟨[F4 u h.gl,NI u h],[Ln u h]⟩) (λi z t=>t.F 2=some ⟨fc u.aZ.length (λd=>D (if d<i/\qq u dj d=true then 0 else iO u R d)),true⟩/\t.F 0=some ⟨aI u,true⟩/\z 2=bq dj/\z 3=bC 0/\z 7=bN 2 u.aZ.length 1/\z 8=D i) u.aZ.length ?_ ?_ 0 _ _ (gd _) ?_
 ·rintro i z t Y ⟨bw,aM,bY,bH,cf,bm⟩ bO a1;have bA:(i:Int)<u.aZ.length:=(by omega);have bp:=fB (n:=i) (by omega);simp(disch:=first|omega|simp only[DI.aw];omega) [YY,cf,bm,bA,-ab,-ah,-aa,-ad,-List.map_map];refine gP (ay:=⟨[F4 u h.gl,NI u h],[Ln u h]⟩) (λk z t=>t.F 2=some ⟨fc u.aZ.length (λd=>D (if(d<i/\qq u dj d=true)\/(d=i/\qq u (dj.take k) d=true)then 0 else iO u R d)),true⟩/\t.F 0=some ⟨aI u,true⟩/\z 2=bq dj/\z 3=bC 0/\z 7=bN 2 u.aZ.length 1/\z 8=D i/\z 9=D k) dj.length ?_ ?_ 0 _ _ (gd _) ?_
  ·rintro k z t O ⟨bw,aM,bY,bH,cf,bm,cz⟩ U3 El;obtain⟨n,B⟩:=gM O;have cQ:=(cN.1 B).2;have a9:(k:Int)<dj.length:=(by omega);have cr:=fB (n:=k) (by omega);have dN:=aF aM;have bh:=aF bw;have Cf:i+1<=u.aZ.length:=Y;cases hb:lF u i n
   ·simp(disch:=first|omega|simp only[DI.aw];omega) [RL,bY,bH,bm,cz,aM,aI,a9,cr,cQ,hb,-ab,-ah,-aa,-ad,-List.map_map];refine El _ _ ⟨?_,aM,by simp[bY],by simp[bH],by simp[cf],by simp[bm],by simp⟩;show t.F 2=_;rw[bw];congr 2;refine rk λd aW=> ?_;by_cases e:d=i
    ·subst e;rw[To B,hb,Bool.or_false]
    ·simp only[e,false_and]
   ·simp(disch:=first|omega|simp only[DI.aw];omega) [RL,bY,bH,cf,bm,cz,aM,aI,bA,a9,cr,cQ,Cf,hb,bw,A3,-ab,-ah,-aa,-ad,-List.map_map];refine El _ _ ⟨?_,by rw[aX (by decide)];exact aM,by simp[bY],by simp[bH],by simp[cf],by simp[bm],by simp⟩;rw[cb bh];congr 2;refine rk λd aW=> ?_;by_cases e:d=i
    ·subst e;rw[To B,hb,Bool.or_true];simp
    ·simp only[e,false_and,if_false]
  ·rintro z t ⟨bw,aM,bY,bH,cf,bm,cz⟩;rw[mQ]at bw;simp[RL,bY,bm,cz,bp];refine a1 _ _ ⟨?_,aM,by simp[bY],by simp[bH],by simp[cf],by simp⟩;rw[bw];congr 2;refine rk λd aW=> ?_;congr 1;by_cases hb:qq u dj d=true
   ·by_cases e:d<i+1
    ·have aN:(d<i/\qq u dj d=true)\/(d=i/\qq u dj d=true):=by
      rcases Nat.lt_succ_iff_lt_or_eq.1 e with c|c
      ·exact .inl ⟨c,hb⟩
      ·exact .inr ⟨c,hb⟩
     rw[if_pos aN,if_pos ⟨e,hb⟩]
    ·have aN: ¬((d<i/\qq u dj d=true)\/(d=i/\qq u dj d=true)):=by
      rintro(⟨c,_⟩|⟨c,_⟩)<;>omega
     rw[if_neg aN,if_neg (λc=>e c.1)]
   ·rw[if_neg (by simp[hb]),if_neg (by simp[hb])]
  ·refine⟨?_,aM,by simp[bY],by simp[bH],by simp[cf],by simp[bm],by simp⟩;rw[bw];congr 2;refine rk λd aW=> ?_;congr 1;have e:qq u (dj.take 0) d=false:=rfl;simp only[e,jO,and_false,or_false]
 ·rintro z t ⟨bw,aM,bY,bH,cf,bm⟩;simp[YY,cf,bm];rw[bw,aqf];congr 2;refine rk λd aW=> ?_;simp only[aW,true_and]
 ·refine⟨?_,by simp[aI],by simp,by simp,by simp,by simp⟩;rw[cb (by simp[fE]),A4,C8];congr 2
theorem aGM{u:aL}(h:cL u){R dj:List Int}(u0:dj.length<=1000000):bP N 22 [.agg (aI u).toArray,bq R,bq dj] (bq (oy u R dj)):=
 N4 (n:=u.aZ.length) (by rw[ll,acN]) u7 (by rw[mc];exact aGN h u0)
def np(u:aL)(n:Int):Bool:=decide (0<n)&&decide (n<(u.aO.length:Int)+u.aZ.length)
theorem abX{u:aL}{n:Int}:np u n=(!decide (n=0)&&oW u n):=by
 unfold np oW;by_cases c:n=0
 ·subst c;simp
 ·by_cases c9:0<n
  ·have:0<=n:=(by omega);simp[c,c9,this]
  ·have: ¬0<=n:=(by omega);simp[c9,this]
def gT(u:aL)(l:List Int):Bool:=l.all (np u)&&decide l.Nodup
abbrev jC(af az:List Int):List Value:=[bq af,bq az]
theorem ao4{l:List Int}{i:Nat}{x:Int}(B:l[i]?=some x)(aW:(l.take i).Nodup)(aj:x∉l.take i):(l.take (i+1)).Nodup:=by rw[qF,B];simp only[Option.toList_some];rw[zM];refine⟨aW,by simp,λa ag b hb=> ?_⟩;simp at hb;subst hb;rintro rfl;exact aj ag
theorem auZ{l:List Int}{i:Nat}{x:Int}(B:l[i]?=some x)(al:x∈l.take i): ¬l.Nodup:= λaW=>by
 have Y:=(cN.1 B).1;obtain⟨j,aV,aU⟩:=n4 al;rw[List.getElem_take]at aU;have l8:j<i:=by rw[te]at aV;omega
 have:=(zI.1 aW j i (by omega) Y l8);exact this (aU.trans ((cN.1 B).2).symm)
theorem ad3{u:aL}{l:List Int}{i:Nat}{x:Int}(B:l[i]?=some x)(h:np u x=false):gT u l=false:=by unfold gT;have:l.all (np u)=false:=List.all_eq_false.2 ⟨x,fX B,by simp[h]⟩;rw[this];rfl
theorem aq1{u:aL}{l:List Int}{i:Nat}{x:Int}(B:l[i]?=some x)(al:x∈l.take i):gT u l=false:=by unfold gT;rw[w0 (auZ B al)];simp
theorem afD{u:aL}{l:List Int}{i:Nat}{x:Int}(B:l[i]?=some x)(h:np u x=true)(ag:(l.take i).all (np u)=true):(l.take (i+1)).all (np u)=true:=by rw[qF,B,Gt,ag];simp[h]
def sz(l:List Int):List (Value×Value):=l.map λx=>(D x,.bool true)
theorem abz{s:Int}: ∀{l:List Int},jK (D s) (sz l)=if s∈l then some (.bool true)else none
 |[]=>rfl
 | x::l=>by
   have cj:=abz (s:=s) (l:=l);simp only[sz]at cj;simp only[sz,lW,jK,qa];by_cases h:s=x
   ·simp[h]
   ·simp only[h,decide_false,jO,if_false,cj,hv,false_or]
theorem aoG{s:Int}: ∀{l:List Int},s∉l->lg (D s) (.bool true) (sz l)=sz (l++[s])
 |[],_=>by simp[sz,lg]
 | x::l,h=>by simp only[hv,not_or]at h;have cj:=aoG (s:=s) (l:=l) h.2;simp only[sz]at cj;simp only[sz,lW,lg,qa,h.1,decide_false,jO,if_false,uu,cj]
theorem aCT{s:Int}{l:List Int}:nU (.int .i64) (D s) (sz l)=true:=by simp only[nU,sz,pY,decide_true,DF,List.all_map,ei];intro x _;rfl
theorem auw{af az:List Int}(h:(af++az).length<=1000000):T5.fn [ai [[bq af],[bq az]] 1]=some (bq (af++az)):=by have:=aHw (eV:=[af,az]) ⟨by simp,by simpa using h⟩;simpa[oz]using this
theorem aFq{u:aL}(h:cL u){af az:List Int}(aA:(af++az).length<=1000000):bP N 23 [.agg (aI u).toArray,.agg (jC af az).toArray] (.bool (gT u (af++az))):=by
 have M:=h.ok.zE;have eM:=h.ok.fp;have hI:=h.ok.hj;refine dJ (c3 (ay:=⟨[Dg u h.gl,Dc u (by omega) (by omega),T5],[]⟩) als (by kernel_rfl) (by simp[RM]) ?_);have av:=auw aA;obtain⟨l,xi⟩: ∃l,af++az=l:=⟨_,rfl⟩;rw[xi]at av aA⊢;simp(disch:=first|omega|simp only[DI.aw];omega) [RM,alr,aI,av,B2,zs,lH,-ab,-ah,-aa,-ad,-List.map_map];refine gP (ay:=⟨[Dc u (by omega) (by omega)],[]⟩) (λi z t=>((l.take i).all (np u)=true/\(l.take i).Nodup)/\t.fC 3=some (sz (l.take i))/\t.F 0=some ⟨aI u,true⟩/\z 2=bC 0/\z 5= .map (some 3)/\z 17=bq l/\z 18=D l.length/\z 19=D i) l.length ?_ ?_ 0 _ _ (gd _) ⟨by simp,by simp(disch:=first|omega|simp only[DI.aw];omega) [sz,-ab,-ah,-aa,-ad,-List.map_map],by simp(disch:=first|omega|simp only[DI.aw];omega) [aI,-ab,-ah,-aa,-ad,-List.map_map],by simp,by simp,by simp,by simp,by simp⟩
 ·rintro i z t Y ⟨⟨ag,aW⟩,Aj,aM,bY,bD,wG,k1,lT⟩ bO a1;obtain⟨n,B⟩:=gM Y;have cQ:=(cN.1 B).2;have bp:=fB (n:=i) (by omega);have bA:(i:Int)<l.length:=(by omega);have O:nU (.int .i64) (D n) (sz (l.take i))=true:=aCT;have aDx:=aF (ji Aj).1;have dN:=aF aM;have la:=abX (u:=u) (n:=n);by_cases c:n=0
  ·have ba:gT u l=false:=ad3 B (by rw[la,decide_eq_true c];rfl);simp(disch:=first|omega|simp only[DI.aw];omega) [HU,E1,wG,k1,lT,bA,cQ,c,ba,-jK,-lg,-nU,-ab,-ah,-aa,-ad,-List.map_map]
  cases aj:oW u n
  ·have ba:gT u l=false:=ad3 B (by rw[la,aj,Bool.and_false]);simp(disch:=first|omega|simp only[DI.aw];omega) [HU,E1,bY,wG,k1,lT,bA,cQ,aM,aI,c,aj,ba,-jK,-lg,-nU,-ab,-ah,-aa,-ad,-List.map_map]
  ·have dM:np u n=true:=(by rw[la,aj,w0 c];rfl);by_cases al:n∈l.take i
   ·have ba:=aq1 (u:=u) B al;have bb:jK (D n) (sz (l.take i))=some (.bool true):=(by rw[abz,if_pos al]);simp(disch:=first|omega|simp only[DI.aw];omega) [HU,E1,bY,bD,wG,k1,lT,bA,cQ,aM,aI,c,aj,Aj,bb,O,ba,-jK,-lg,-nU,-ab,-ah,-aa,-ad,-List.map_map]
   ·have bb:jK (D n) (sz (l.take i))=none:=(by rw[abz,if_neg al]);simp(disch:=first|omega|simp only[DI.aw];omega) [HU,E1,bY,bD,wG,k1,lT,bA,bp,cQ,aM,aI,c,aj,Aj,bb,O,-jK,-lg,-nU,-ab,-ah,-aa,-ad,-List.map_map];refine a1 _ _ ⟨⟨afD B dM ag,ao4 B aW al⟩,?_,?_,by simp[bY],by simp[bD],by simp[wG],by simp[k1],by simp⟩
    ·have e:l.take (i+1)=l.take i++[n]:=(by rw[qF,B];rfl);rw[e,<-aoG al];simp(disch:=first|omega|simp only[DI.aw];omega) [-lg,-ab,-ah,-aa,-ad,-List.map_map]
    ·simp(disch:=first|omega|simp only[DI.aw];omega) [aM,aI,-ab,-ah,-aa,-ad,-List.map_map]
 ·rintro z t ⟨⟨ag,aW⟩,Aj,aM,bY,bD,wG,k1,lT⟩;rw[mQ]at ag aW;have ba:gT u l=true:=(by simp[gT,ag,aW]);simp(disch:=first|omega|simp only[DI.aw];omega) [HU,E1,k1,lT,E1,ba,-ab,-ah,-aa,-ad,-List.map_map]
theorem aGv{u:aL}(A:u.aO.length<=1000)(E:u.aZ.length<=1000){n:Int}:bP N 69 [.agg (aI u).toArray,D n] (.bool (np u n)):=by
 refine dJ (c3 (ay:=⟨[],[]⟩) aA5 (by kernel_rfl) (by simp[Sv]) ?_);have bp:IntKind.i64.wrap ((u.aO.length:Int)+u.aZ.length)=(u.aO.length:Int)+u.aZ.length:=db (by omega) (by omega);unfold np;by_cases c:0<n
 ·simp(disch:=first|omega|simp only[DI.aw];omega) [Sv,ZB,aI,bp,c,-ab,-ah,-aa,-ad,-List.map_map]
 ·simp(disch:=first|omega|simp only[DI.aw];omega) [Sv,ZB,aI,c,-ab,-ah,-aa,-ad,-List.map_map]
noncomputable def NK(u:aL)(A:u.aO.length<=1000)(E:u.aZ.length<=1000):bF N:= .cM 69 Int (λ_=>True) (λn=>[.agg (aI u).toArray,D n]) (λn=> .bool (np u n)) λ_ _=>aGv A E
@[simp] theorem aWC{u:aL}{A:u.aO.length<=1000}{E:u.aZ.length<=1000}:(NK u A E).f=69:=rfl
@[simp] theorem aWD{u:aL}{A:u.aO.length<=1000}{E:u.aZ.length<=1000}{n:Int}:(NK u A E).fn [.agg #[D u.ext,ai (u.e7.map gE) 4,ai (u.cx.map gN) 4,ai (u.aO.map e6) 7,ai (u.aZ.map fH) 3,ai (u.dv.map dU) 17,ai (u.a2.map gD) 2],D n]=some (.bool (np u n)):=bF.dK (x:=n) trivial λy Z=>by simpa using Z
theorem aGj{l:List Int}{x:Int}(aA:l.length<=1000000):bP N 70 [bq l,D x] (.bool (decide (x∈l))):=by
 refine dJ (c3 (ay:=⟨[],[]⟩) amR (by kernel_rfl) (by simp[Mn]) ?_);simp(disch:=first|omega|simp only[DI.aw];omega) [Mn,ZF,-ab,-ah,-aa,-ad,-List.map_map];refine gP (ay:=⟨[],[]⟩) (λi z t=>z 0=bq l/\z 1=D x/\z 5=D i/\x∉l.take i) l.length ?_ ?_ 0 _ _ (gd _) ⟨by simp,by simp,by simp,by simp⟩
 ·rintro i z t Y ⟨bG,aT,bD,mA⟩ bO a1;obtain⟨y,B⟩:=gM Y;have cQ:=(cN.1 B).2;have bA:(i:Int)<l.length:=(by omega);have bp:=fB (n:=i) (by omega);by_cases e:y=x
  ·have al:x∈l:=(by rw[<-e];exact fX B);simp(disch:=first|omega|simp only[DI.aw];omega) [E7,AI,bG,aT,bD,bA,cQ,e,al,-ab,-ah,-aa,-ad,-List.map_map]
  ·simp(disch:=first|omega|simp only[DI.aw];omega) [E7,AI,bG,aT,bD,bA,bp,cQ,e,-ab,-ah,-aa,-ad,-List.map_map];refine a1 _ _ ⟨by simp[bG],by simp[aT],by simp,?_⟩;rw[qF,B];simp only[Option.toList_some,jP,rz,not_or];exact⟨mA,λh=>e h.symm⟩
 ·rintro z t ⟨bG,aT,bD,mA⟩;rw[mQ]at mA;simp(disch:=first|omega|simp only[DI.aw];omega) [E7,AI,AI,bG,bD,mA,-ab,-ah,-aa,-ad,-List.map_map]
noncomputable def Ud:bF N:= .cM 70 (List Int×Int) (λx=>x.1.length<=1000000) (λx=>[bq x.1,D x.2]) (λx=> .bool (decide (x.2∈x.1))) λ_ h=>aGj h
@[simp] theorem aWA:Ud.f=70:=rfl
@[simp] theorem aHB{l:List Int}{x:Int}(h:l.length<=1000000):Ud.fn [ai (l.map λx=>[D x]) 1,D x]=some (.bool (decide (x∈l))):=bF.dK (x:=(l,x)) h λ⟨j6,h2⟩ Z=>by simpa using Z
theorem ags: ∀{i:Nat} {l:List Int},i<=l.length->lH 1 i (l.map D)=(l.take i).map λx=>[D x]
 |0,l,_=>by simp[lH]
 |i+1,[],h=>by simp at h
 | i+1,x::l,h=>by have:=ags (i:=i) (l:=l) (by simpa using h);simp only[lW,lH,Oo,List.take_zero,List.drop_succ_cons,oB,this]
theorem avK{t:G}{o i n:Nat}{l:List Int}{w:Bool}(bw:t.F o=some ⟨l.map D,w⟩)(h:i<=l.length):DI.dx (n+2) t (.slice (some ⟨o,0,none⟩) i 1)=some (bq (l.take i)):=by
 have al:fR (fR (DI.dx (n+1) t)) ((l.take i).map λx=>[D x])=some ((l.take i).map λx=>[D x]):=api (by simp) λj x y B Z=>by rw[B]at Z;cases Z;obtain⟨I,_,rfl⟩:=gx.1 (fX B);rfl
 rw[PE,bw];simp only[oB,Bz,Nat.mul_one,ll,h,if_true];rw[ags h,al]
theorem aGT{u:aL}(h:cL u){af az:List Int}(aA:(af++az).length<=1000000):bP N 24 [.agg (aI u).toArray,.agg (jC af az).toArray] (.bool (gT u (af++az))):=by
 have M:=h.ok.zE;have eM:=h.ok.fp;have hI:=h.ok.hj;refine dJ (c3 (ay:=⟨[F4 u h.gl,NK u (by omega) (by omega),Ud],[]⟩) aAp (by kernel_rfl) (by simp[HV]) ?_);have key: ∀(l:List Int),l.length<=1000000-> ∀(z:aD) (t:G) (o:Nat) (Q:cO->aD->G->Prop),z 2=bC 0->z 5=bN o l.length 1->z 6=D 0->t.F 0=some ⟨aI u,true⟩->t.F o=some ⟨l.map D,true⟩->(∀K X,(gT u l=false->K 4= .bool false->Q .fi K X)/\(gT u l=true->Q (.cF 0) K X))->ee N (.loop E2) z t Q:=by
  intro l aA z t o Q bY bD bo aM bw a6;refine gP (ay:=⟨[F4 u h.gl,NK u (by omega) (by omega),Ud],[]⟩) (λi z t=>((l.take i).all (np u)=true/\(l.take i).Nodup)/\t.F 0=some ⟨aI u,true⟩/\t.F o=some ⟨l.map D,true⟩/\z 2=bC 0/\z 5=bN o l.length 1/\z 6=D i) l.length ?_ ?_ 0 _ _ (gd _) ⟨by simp,aM,bw,bY,bD,bo⟩
  ·rintro i z t Y ⟨⟨ag,aW⟩,aM,bw,bY,bD,bo⟩ bO a1;obtain⟨n,B⟩:=gM Y;have cQ:=(cN.1 B).2;have bp:=fB (n:=i) (by omega);have bA:(i:Int)<l.length:=(by omega);have a9:i+1<=l.length:=Y;have bW:i<=l.length:=(by omega);have dN:=aF aM;have bh:=aF bw;have P8:DI.dx 9 t (.slice (some ⟨o,0,none⟩) i 1)=some (ai ((l.map λx=>[D x]).take i) 1):=by
    rw[<-List.map_take];exact avK bw bW
   have bV:=aHB (l:=l.take i) (x:=n) (by simp;omega);rw[List.map_take]at bV;cases aj:np u n
   ·have ba:gT u l=false:=ad3 B aj;simp(disch:=first|omega|simp only[DI.aw];omega) [E2,bY,bD,bo,bA,a9,cQ,aM,bw,aI,aj,e1,-ab,-ah,-aa,-ad,-List.map_map];exact(a6 _ _).1 ba (by simp)
   ·by_cases al:n∈l.take i
    ·have ba:=aq1 (u:=u) B al;simp(disch:=first|omega|simp only[DI.aw];omega) [E2,bY,bD,bo,bA,a9,bW,cQ,aM,bw,aI,aj,al,P8,bV,e1,-ab,-ah,-aa,-ad,-List.map_map];exact(a6 _ _).1 ba (by simp)
    ·simp(disch:=first|omega|simp only[DI.aw];omega) [E2,bY,bD,bo,bA,a9,bW,bp,cQ,aM,bw,aI,aj,al,P8,bV,e1,-ab,-ah,-aa,-ad,-List.map_map];refine a1 _ _ ⟨⟨afD B aj ag,ao4 B aW al⟩,aM,bw,by simp[bY],by simp[bD],by simp⟩
  ·rintro z t ⟨⟨ag,aW⟩,aM,bw,bY,bD,bo⟩;rw[mQ]at ag aW;have ba:gT u l=true:=(by simp[gT,ag,aW]);simp(disch:=first|omega|simp only[DI.aw];omega) [E2,bD,bo,-ab,-ah,-aa,-ad,-List.map_map];exact(a6 _ _).2 ba
 have ajb:(af.map λs=>[D s]).flatten=af.map D:=mc;have ajc:(az.map λs=>[D s]).flatten=az.map D:=mc;have aQt:af.length+az.length<=1000000:=by simpa using aA
 have eQ:(af.length+az.length)*8<=140737488355328/\af.length+az.length<=9223372036854775807/\af.length*8<=140737488355328/\az.length*8<=140737488355328/\af.length<=9223372036854775807/\az.length<=9223372036854775807:=by omega
 have mW: ∀(z:aD) (t:G) (o:Nat) (bO:cO->aD->G->Prop),(∀K X,K 4= .bool (gT u (af++az))->bO .fi K X)->(∀K X,gT u (af++az)=true->bO (.cF 0) K X)->z 2=bC 0->z 5=bN o (af++az).length 1->z 6=D 0->t.F 0=some ⟨aI u,true⟩->t.F o=some ⟨(af++az).map D,true⟩->ee N (.loop E2) z t bO:= λz t o bO A E bY bD bo aM bw=>
  key (af++az) aA z t o bO bY bD bo aM bw λK X=>⟨λba dp=>A K X (by rw[dp,ba]),λba=>E K X ba⟩
 by_cases j3:af=[]
 ·by_cases ie:az=[]
  ·subst j3;subst ie;simp(disch:=first|omega|simp only[DI.aw];omega) [HV,L2,aI,-ab,-ah,-aa,-ad,-List.map_map];refine ur (d:=5) (I:=1) (by simp) ?_;refine mW _ _ 10 _ (λK X dp=>by simp(disch:=first|omega|simp only[DI.aw];omega) [dp,-ab,-ah,-aa,-ad,-List.map_map]) (λK X ba=>by simp only[sl]at ba;simp(disch:=first|omega|simp only[DI.aw];omega) [L3,ba,-ab,-ah,-aa,-ad,-List.map_map]) (by simp) (by simp) (by simp) (by simp(disch:=first|omega|simp only[DI.aw];omega) [aI,-ab,-ah,-aa,-ad,-List.map_map]) ?_;simp(disch:=first|omega|simp only[DI.aw];omega) [-ab,-ah,-aa,-ad,-List.map_map]
  ·subst j3;simp(disch:=first|omega|simp only[DI.aw];omega) [HV,L2,aI,ajc,ie,eQ,-ab,-ah,-aa,-ad,-List.map_map];refine mW _ _ 8 _ (λK X dp=>by simp(disch:=first|omega|simp only[DI.aw];omega) [dp,-ab,-ah,-aa,-ad,-List.map_map]) (λK X ba=>by simp only[wZ]at ba;simp(disch:=first|omega|simp only[DI.aw];omega) [L3,ba,-ab,-ah,-aa,-ad,-List.map_map]) (by simp) (by simp) (by simp) (by simp(disch:=first|omega|simp only[DI.aw];omega) [aI,-ab,-ah,-aa,-ad,-List.map_map]) ?_;simp(disch:=first|omega|simp only[DI.aw];omega) [-ab,-ah,-aa,-ad,-List.map_map]
 ·by_cases ie:az=[]
  ·subst ie;simp(disch:=first|omega|simp only[DI.aw];omega) [HV,L2,aI,ajb,j3,eQ,-ab,-ah,-aa,-ad,-List.map_map];refine mW _ _ 5 _ (λK X dp=>by simp(disch:=first|omega|simp only[DI.aw];omega) [dp,-ab,-ah,-aa,-ad,-List.map_map]) (λK X ba=>by simp only[sl]at ba;simp(disch:=first|omega|simp only[DI.aw];omega) [L3,ba,-ab,-ah,-aa,-ad,-List.map_map]) (by simp) (by simp) (by simp) (by simp(disch:=first|omega|simp only[DI.aw];omega) [aI,-ab,-ah,-aa,-ad,-List.map_map]) ?_;simp(disch:=first|omega|simp only[DI.aw];omega) [-ab,-ah,-aa,-ad,-List.map_map]
  ·simp(disch:=first|omega|simp only[DI.aw];omega) [HV,L2,aI,ajb,ajc,j3,ie,eQ,-ab,-ah,-aa,-ad,-List.map_map];refine mW _ _ 8 _ (λK X dp=>by simp(disch:=first|omega|simp only[DI.aw];omega) [dp,-ab,-ah,-aa,-ad,-List.map_map]) (λK X ba=>by simp(disch:=first|omega|simp only[DI.aw];omega) [L3,ba,-ab,-ah,-aa,-ad,-List.map_map]) (by simp) (by simp) (by simp) (by simp(disch:=first|omega|simp only[DI.aw];omega) [aI,-ab,-ah,-aa,-ad,-List.map_map]) ?_;have y0:List.take af.length (af.map D)=af.map D:=hx (by simp);simp(disch:=first|omega|simp only[DI.aw];omega) [y0,-ab,-ah,-aa,-ad,-List.map_map]
open Go Go.DI
section
set_option maxRecDepth 100000
end
def Jg(x:cv):Bool:=decide (x∈NV)
theorem UO{x:cv}(h:Jg x=true):x.dz:=by unfold Jg at h;rw[eF]at h;exact h
def abg(x:lo):Bool:=match x.e with
 |[⟨false,[1],[I]⟩]=>decide (2<=I)&&decide (I<200)&&decide (x.s=[⟨false,[1],[1]⟩])&&decide (x.cH=[[⟨false,[],[1]⟩]])
 |_=>false
theorem aC9{x:lo}(h:abg x=true):x.dz:=by
 obtain⟨eJ,s,cH,e⟩:=x;unfold abg at h;split at h
 ·rename_i I aU;simp only[a7,eF]at h;exact⟨I,h.1.1.1,h.1.1.2,h.1.2,h.2,aU⟩
 ·cases h
def acb(x:h3):Bool:=x.py.all Jg&&decide (x.py.length<=20)&&Jg x.qB&&Jg x.ni&&decide (x.cx.length<=20)
theorem aFa{x:h3}(h:acb x=true):h3.gl x:=by simp only[acb,a7,ei,eF]at h;obtain⟨⟨⟨⟨A,E⟩,ao⟩,aS⟩,bI⟩:=h;exact⟨⟨λr ar=>UO (A r ar),by omega⟩,UO ao,UO aS,by omega⟩
def Ns(u:aL):Bool:=u.e7.all abg&&(u.aO.all λd=>Jg d.pB)&&u.dv.all acb&&decide (u.e7.length<=100)&&decide (u.cx.length<=100)&&decide (u.aO.length<=100)&&decide (u.aZ.length<=100)&&decide (u.dv.length<=100)&&decide (u.a2.length<=100)
theorem aqa{u:aL}(h:Ns u=true):aL.gl u:=by simp only[Ns,a7,ei,eF]at h;obtain⟨⟨⟨⟨⟨⟨⟨⟨A,E⟩,ao⟩,aS⟩,bI⟩,cZ⟩,eg⟩,hf⟩,jj⟩:=h;exact⟨λx B=>aC9 (A x B),λx B=>UO (E x B),λx B=>aFa (ao x B),by omega,by omega,by omega,by omega,by omega,by omega⟩
def abS(T:ByteArray):Bool:=decide (0<T.size/\T.size<=16/\q9 (vR T 0)=true/\vq ou T T.size 0=T.size)
theorem aEx{T:ByteArray}(h:abS T=true):rY T=true:=FL (by unfold abS at h;unfold eJ;exact of_decide_eq_true h)
def Gm(l:List ByteArray):Bool:=l.all abS&&decide l.Nodup
theorem N5{l:List ByteArray}(h:Gm l=true):kD l=true:=by unfold Gm at h;unfold kD;simp only[a7,ei]at h⊢;exact⟨λx B=>aEx (h.1 x B),h.2⟩
def N8(u:aL):Bool:=fO u.ext 1 4&&(decide (u.e7.length<=4)&&(decide (u.cx.length<=4)&&(decide (u.aO.length<=40)&&(decide (u.aZ.length<=24)&&(decide (u.dv.length<=4)&&(decide (u.a2.length<=12)&&(uQ u.aO&&(u.e7.all lo.zh&&(u.cx.all (CU u.e7.length)&&(u.aZ.all (BU u.cx.length u.aO)&&(u.dv.all (uo · u.cx.length)&&(u.a2.all (Gp u.dv.length)&&(Gm (u.e7.map (·.name))&&(Gm (u.cx.map (·.name))&&(Gm (u.aO.tail.map (·.name)++u.aZ.map (·.name))&&(Gm (u.dv.map (·.name))&&Gm (u.a2.map (·.name))))))))))))))))))
theorem arL{u:aL}(h:N8 u=true):o2 u=true:=by unfold N8 at h;unfold o2;simp only[a7]at h⊢;obtain⟨br,bQ,a3,a4,fz,jh,l0,oI,BH,GJ,atf,atg,ath,lV,m5,ny,Dx,Dy⟩:=h;exact⟨br,bQ,a3,a4,fz,jh,l0,oI,BH,GJ,atf,atg,ath,N5 lV,N5 m5,N5 ny,N5 Dx,N5 Dy⟩
theorem aC1{u:aL}(h:Ns u=true)(M:N8 u=true):bP N 62 [.agg (aI u).toArray] (.int .i64 0):=by exact arN (aqa h) (arL M)
theorem aC0{u:aL}(h:Ns u=true)(M:N8 u=true):bP N 87 [.agg (aI u).toArray] (.bool true):=by exact aqs (aqa h) (arL M)
theorem abc{n d:Int}{x:cv}(h:oG n d)(B:gi n d=x):bP N 59 [D n,D d] (dW x):=by rw[<-B];exact ahh h
section
set_option maxRecDepth 100000
def Vk:aL:=⟨1,[⟨⟨#[108]⟩,[⟨false,[1],[1]⟩],[[⟨false,[],[1]⟩]],[⟨false,[1],[2]⟩]⟩],[⟨⟨#[109]⟩,2,1,0⟩],[⟨⟨#[]⟩,0,(-1),0,⟨false,[],[1]⟩⟩,⟨⟨#[97]⟩,1,0,1,⟨false,[],[1]⟩⟩,⟨⟨#[98]⟩,2,1,1,⟨false,[],[1]⟩⟩,⟨⟨#[99]⟩,3,2,1,⟨false,[],[1]⟩⟩,⟨⟨#[100]⟩,4,3,1,⟨false,[],[1]⟩⟩,⟨⟨#[101]⟩,4,3,1,⟨false,[],[1]⟩⟩,⟨⟨#[102]⟩,4,3,1,⟨false,[],[1]⟩⟩],[⟨⟨#[120]⟩,0,4⟩,⟨⟨#[121]⟩,0,5⟩,⟨⟨#[122]⟩,0,6⟩],[⟨⟨#[112]⟩,1,1,1,⟨0,0,0,0,0⟩,[0],[⟨false,[1],[1]⟩],⟨false,[],[1]⟩,⟨false,[],[1]⟩⟩],[⟨⟨#[118]⟩,0⟩]⟩
theorem afR:Ns Vk=true:=by decide+kernel
theorem afS:N8 Vk=true:=by decide+kernel
def JN:Value:= .agg #[.int .i64 1,ai [[.string ⟨#[108]⟩,ai [[.bool false,ai [[.int .u32 1]] 1,ai [[.int .u32 1]] 1]] 3,ai [[ai [[.bool false,ai [] 1,ai [[.int .u32 1]] 1]] 3]] 1,ai [[.bool false,ai [[.int .u32 1]] 1,ai [[.int .u32 2]] 1]] 3]] 4,ai [[.string ⟨#[109]⟩,.int .i64 2,.int .i64 1,.int .i64 0]] 4,ai [[.string ⟨#[]⟩,.int .i64 0,.int .i64 (-1),.int .i64 0,.bool false,ai [] 1,ai [[.int .u32 1]] 1],[.string ⟨#[97]⟩,.int .i64 1,.int .i64 0,.int .i64 1,.bool false,ai [] 1,ai [[.int .u32 1]] 1],[.string ⟨#[98]⟩,.int .i64 2,.int .i64 1,.int .i64 1,.bool false,ai [] 1,ai [[.int .u32 1]] 1],[.string ⟨#[99]⟩,.int .i64 3,.int .i64 2,.int .i64 1,.bool false,ai [] 1,ai [[.int .u32 1]] 1],[.string ⟨#[100]⟩,.int .i64 4,.int .i64 3,.int .i64 1,.bool false,ai [] 1,ai [[.int .u32 1]] 1],[.string ⟨#[101]⟩,.int .i64 4,.int .i64 3,.int .i64 1,.bool false,ai [] 1,ai [[.int .u32 1]] 1],[.string ⟨#[102]⟩,.int .i64 4,.int .i64 3,.int .i64 1,.bool false,ai [] 1,ai [[.int .u32 1]] 1]] 7,ai [[.string ⟨#[120]⟩,.int .i64 0,.int .i64 4],[.string ⟨#[121]⟩,.int .i64 0,.int .i64 5],[.string ⟨#[122]⟩,.int .i64 0,.int .i64 6]] 3,ai [[.string ⟨#[112]⟩,.int .i64 1,.int .i64 1,.int .i64 1,.int .i64 0,.int .i64 0,.int .i64 0,.int .i64 0,.int .i64 0,ai [[.int .i64 0]] 1,ai [[.bool false,ai [[.int .u32 1]] 1,ai [[.int .u32 1]] 1]] 3,.bool false,ai [] 1,ai [[.int .u32 1]] 1,.bool false,ai [] 1,ai [[.int .u32 1]] 1]] 17,ai [[.string ⟨#[118]⟩,.int .i64 0]] 2]
theorem afQ:JN= .agg (aI Vk).toArray:=by rfl
theorem atw:bP N 62 [JN] (.int .i64 0):=by rw[afQ];exact aC1 afR afS
theorem atv:bP N 87 [JN] (.bool true):=by rw[afQ];exact aC0 afR afS
def atx:List (Nat×ca):=[(17,akl),(20,LU),(21,RB),(23,RM),(25,HY),(27,L9),(29,H2),(31,R8),(36,xM),(52,H7),(63,Sp),(64,Mh),(65,Mi),(68,Ss),(72,Sy),(74,Sz),(75,SA),(78,Mr),(79,SC),(81,SF),(82,Mx),(83,SI),(84,ani),(85,SJ),(115,QP),(116,QQ),(117,HE),(118,QS),(121,QT),(122,QV),(123,QW),(124,QY),(125,ajR),(126,Q3),(127,Q5),(128,LA),(129,Q6),(130,Q7),(131,aj3),(132,Q9),(180,Ro),(182,Rp),(183,Rr),(184,akB),(185,akD),(186,akF),(234,alj),(235,alm),(236,alo)]
theorem OU:OI N atx:=⟨⟨⟨by kernel_rfl,azB⟩,by kernel_rfl⟩,⟨⟨⟨by kernel_rfl,akS⟩,by kernel_rfl⟩,⟨⟨⟨by kernel_rfl,ak5⟩,by kernel_rfl⟩,⟨⟨⟨by kernel_rfl,als⟩,by kernel_rfl⟩,⟨⟨⟨by kernel_rfl,Y9⟩,by kernel_rfl⟩,⟨⟨⟨by kernel_rfl,al5⟩,by kernel_rfl⟩,⟨⟨⟨by kernel_rfl,al8⟩,by kernel_rfl⟩,⟨⟨⟨by kernel_rfl,amc⟩,by kernel_rfl⟩,⟨⟨⟨by kernel_rfl,amg⟩,by kernel_rfl⟩,⟨⟨⟨by kernel_rfl,Zr⟩,by kernel_rfl⟩,⟨⟨⟨by kernel_rfl,amI⟩,by kernel_rfl⟩,⟨⟨⟨by kernel_rfl,amJ⟩,by kernel_rfl⟩,⟨⟨⟨by kernel_rfl,amK⟩,by kernel_rfl⟩,⟨⟨⟨by kernel_rfl,amO⟩,by kernel_rfl⟩,⟨⟨⟨by kernel_rfl,amT⟩,by kernel_rfl⟩,⟨⟨⟨by kernel_rfl,amV⟩,by kernel_rfl⟩,⟨⟨⟨by kernel_rfl,amX⟩,by kernel_rfl⟩,⟨⟨⟨by kernel_rfl,amY⟩,by kernel_rfl⟩,⟨⟨⟨by kernel_rfl,am0⟩,by kernel_rfl⟩,⟨⟨⟨by kernel_rfl,anb⟩,by kernel_rfl⟩,⟨⟨⟨by kernel_rfl,anf⟩,by kernel_rfl⟩,⟨⟨⟨by kernel_rfl,anh⟩,by kernel_rfl⟩,⟨⟨⟨by kernel_rfl,anj⟩,by kernel_rfl⟩,⟨⟨⟨by kernel_rfl,anl⟩,by kernel_rfl⟩,⟨⟨⟨by kernel_rfl,ajz⟩,by kernel_rfl⟩,⟨⟨⟨by kernel_rfl,ajB⟩,by kernel_rfl⟩,⟨⟨⟨by kernel_rfl,Ym⟩,by kernel_rfl⟩,⟨⟨⟨by kernel_rfl,ajD⟩,by kernel_rfl⟩,⟨⟨⟨by kernel_rfl,ajH⟩,by kernel_rfl⟩,⟨⟨⟨by kernel_rfl,ajK⟩,by kernel_rfl⟩,⟨⟨⟨by kernel_rfl,ajM⟩,by kernel_rfl⟩,⟨⟨⟨by kernel_rfl,ajO⟩,by kernel_rfl⟩,⟨⟨⟨by kernel_rfl,ajS⟩,by kernel_rfl⟩,⟨⟨⟨by kernel_rfl,ajV⟩,by kernel_rfl⟩,⟨⟨⟨by kernel_rfl,ajX⟩,by kernel_rfl⟩,⟨⟨⟨by kernel_rfl,ajY⟩,by kernel_rfl⟩,⟨⟨⟨by kernel_rfl,aj0⟩,by kernel_rfl⟩,⟨⟨⟨by kernel_rfl,aj2⟩,by kernel_rfl⟩,⟨⟨⟨by kernel_rfl,aj4⟩,by kernel_rfl⟩,⟨⟨⟨by kernel_rfl,aj6⟩,by kernel_rfl⟩,⟨⟨⟨by kernel_rfl,akw⟩,by kernel_rfl⟩,⟨⟨⟨by kernel_rfl,aky⟩,by kernel_rfl⟩,⟨⟨⟨by kernel_rfl,akA⟩,by kernel_rfl⟩,⟨⟨⟨by kernel_rfl,akC⟩,by kernel_rfl⟩,⟨⟨⟨by kernel_rfl,akE⟩,by kernel_rfl⟩,⟨⟨⟨by kernel_rfl,akG⟩,by kernel_rfl⟩,⟨⟨⟨by kernel_rfl,alk⟩,by kernel_rfl⟩,⟨⟨⟨by kernel_rfl,aln⟩,by kernel_rfl⟩,⟨⟨⟨by kernel_rfl,alp⟩,by kernel_rfl⟩,trivial⟩⟩⟩⟩⟩⟩⟩⟩⟩⟩⟩⟩⟩⟩⟩⟩⟩⟩⟩⟩⟩⟩⟩⟩⟩⟩⟩⟩⟩⟩⟩⟩⟩⟩⟩⟩⟩⟩⟩⟩⟩⟩⟩⟩⟩⟩⟩⟩⟩
def JO:sr:=[(59,[.int .i64 0,.int .i64 1],.agg #[.bool false,ai [] 1,ai [[.int .u32 1]] 1]),(59,[.int .i64 1,.int .i64 1],.agg #[.bool false,ai [[.int .u32 1]] 1,ai [[.int .u32 1]] 1]),(59,[.int .i64 1,.int .i64 2],.agg #[.bool false,ai [[.int .u32 1]] 1,ai [[.int .u32 2]] 1]),(62,[JN],.int .i64 0),(87,[JN],.bool true)]
theorem OV:yn N JO:=CT (abc (x:=⟨false,[],[1]⟩) (by unfold oG;decide) (by decide+kernel)) (CT (abc (x:=⟨false,[1],[1]⟩) (by unfold oG;decide) (by decide+kernel)) (CT (abc (x:=⟨false,[1],[2]⟩) (by unfold oG;decide) (by decide+kernel)) (CT (atw) (CT (atv) (aor)))))
def afU:Value:= .agg #[.int .i64 12,.int .i64 0,.int .i64 1,ai [[.int .i64 0,.int .i64 2,.int .i64 2,.int .i64 0],[.int .i64 2,.int .i64 3,.int .i64 2,.int .i64 0],[.int .i64 3,.int .i64 4,.int .i64 2,.int .i64 0],[.int .i64 4,.int .i64 5,.int .i64 2,.int .i64 0],[.int .i64 5,.int .i64 6,.int .i64 2,.int .i64 0],[.int .i64 5,.int .i64 7,.int .i64 2,.int .i64 0],[.int .i64 5,.int .i64 8,.int .i64 2,.int .i64 0],[.int .i64 6,.int .i64 9,.int .i64 1,.int .i64 0],[.int .i64 7,.int .i64 10,.int .i64 1,.int .i64 0],[.int .i64 8,.int .i64 11,.int .i64 1,.int .i64 0],[.int .i64 9,.int .i64 1,.int .i64 0,.int .i64 0],[.int .i64 10,.int .i64 1,.int .i64 2,.int .i64 0],[.int .i64 11,.int .i64 1,.int .i64 2,.int .i64 0]] 4]
def afV:Value:= .tuple #[ai [[.int .i64 2],[.int .i64 2],[.int .i64 2],[.int .i64 2],[.int .i64 0],[.int .i64 1],[.int .i64 1],[.int .i64 0],[.int .i64 1],[.int .i64 1],[.int .i64 0],[.int .i64 1],[.int .i64 1]] 1,.int .i64 2,ai [[.bool true],[.bool false],[.bool false],[.bool false],[.bool false],[.bool false],[.bool false],[.bool false],[.bool false],[.bool false],[.bool false],[.bool false]] 1,.int .i64 0]
theorem ats:bP N 125 [afU] (afV):=Kh (Ja OU) (jq:=JO) OV Pd (n:=100000) (d:=80) (by kernel_rfl)
def afW:Value:= .agg #[.int .i64 12,.int .i64 0,.int .i64 1,ai [[.int .i64 0,.int .i64 2,.int .i64 2,.int .i64 0],[.int .i64 2,.int .i64 3,.int .i64 2,.int .i64 0],[.int .i64 3,.int .i64 4,.int .i64 2,.int .i64 0],[.int .i64 4,.int .i64 5,.int .i64 2,.int .i64 0],[.int .i64 5,.int .i64 6,.int .i64 2,.int .i64 0],[.int .i64 5,.int .i64 7,.int .i64 2,.int .i64 0],[.int .i64 5,.int .i64 8,.int .i64 2,.int .i64 0],[.int .i64 6,.int .i64 9,.int .i64 1,.int .i64 0],[.int .i64 7,.int .i64 10,.int .i64 1,.int .i64 0],[.int .i64 8,.int .i64 11,.int .i64 1,.int .i64 0],[.int .i64 9,.int .i64 1,.int .i64 0,.int .i64 0],[.int .i64 10,.int .i64 1,.int .i64 0,.int .i64 0],[.int .i64 11,.int .i64 1,.int .i64 2,.int .i64 0]] 4]
def afX:Value:= .tuple #[ai [[.int .i64 1],[.int .i64 1],[.int .i64 1],[.int .i64 1],[.int .i64 0],[.int .i64 0],[.int .i64 1],[.int .i64 0],[.int .i64 0],[.int .i64 1],[.int .i64 0],[.int .i64 0],[.int .i64 1]] 1,.int .i64 1,ai [[.bool true],[.bool false],[.bool true],[.bool true],[.bool true],[.bool true],[.bool true],[.bool true],[.bool true],[.bool true],[.bool true],[.bool false]] 1,.int .i64 0]
theorem att:bP N 125 [afW] (afX):=Kh (Ja OU) (jq:=JO) OV Pd (n:=100000) (d:=80) (by kernel_rfl)
def afY:Value:= .agg #[.int .i64 12,.int .i64 0,.int .i64 1,ai [[.int .i64 0,.int .i64 2,.int .i64 2,.int .i64 0],[.int .i64 2,.int .i64 3,.int .i64 2,.int .i64 0],[.int .i64 3,.int .i64 4,.int .i64 2,.int .i64 0],[.int .i64 4,.int .i64 5,.int .i64 2,.int .i64 0],[.int .i64 5,.int .i64 6,.int .i64 2,.int .i64 0],[.int .i64 5,.int .i64 7,.int .i64 2,.int .i64 0],[.int .i64 5,.int .i64 8,.int .i64 2,.int .i64 0],[.int .i64 6,.int .i64 9,.int .i64 1,.int .i64 0],[.int .i64 7,.int .i64 10,.int .i64 1,.int .i64 0],[.int .i64 8,.int .i64 11,.int .i64 1,.int .i64 0],[.int .i64 9,.int .i64 1,.int .i64 2,.int .i64 0],[.int .i64 10,.int .i64 1,.int .i64 0,.int .i64 0],[.int .i64 11,.int .i64 1,.int .i64 2,.int .i64 0]] 4]
def afZ:Value:= .tuple #[ai [[.int .i64 2],[.int .i64 2],[.int .i64 2],[.int .i64 2],[.int .i64 1],[.int .i64 0],[.int .i64 1],[.int .i64 1],[.int .i64 0],[.int .i64 1],[.int .i64 1],[.int .i64 0],[.int .i64 1]] 1,.int .i64 2,ai [[.bool true],[.bool false],[.bool false],[.bool false],[.bool false],[.bool false],[.bool false],[.bool false],[.bool false],[.bool false],[.bool false],[.bool false]] 1,.int .i64 0]
theorem atu:bP N 125 [afY] (afZ):=Kh (Ja OU) (jq:=JO) OV Pd (n:=100000) (d:=80) (by kernel_rfl)
def afT:sr:=[(125,[afU],afV),(125,[afW],afX),(125,[afY],afZ)]++JO
theorem aty:yn N afT:=CT ats (CT att (CT atu (OV)))
theorem atz:bP N 17 [] (.bool true):=Kh (Ja OU) (jq:=afT) aty Pd (n:=100000) (d:=80) (by kernel_rfl)
end
noncomputable def T3:bF N:= .cM 17 Unit (λ_=>True) (λ_=>[]) (λ_=> .bool true) λ_ _=>atz
@[simp] theorem aVq:T3.f=17:=rfl
@[simp] theorem aVr:T3.fn []=some (.bool true):=bF.dK (x:=()) trivial λ_ _=>rfl
noncomputable def T9(u:aL)(h:cL u):bF N:= .cM 21 (List Int×List Int) (λx=>x.2.length<=1000000) (λx=>[.agg (aI u).toArray,bq x.1,bq x.2]) (λx=>bq (oy u x.1 x.2)) λx B=>aFn h B
@[simp] theorem aWg{u:aL}{h:cL u}:(T9 u h).f=21:=rfl
@[simp] theorem aWh{u:aL}{h:cL u}{R dj:List Int}(aj:dj.length<=1000000):(T9 u h).fn [.agg #[D u.ext,ai (u.e7.map gE) 4,ai (u.cx.map gN) 4,ai (u.aO.map e6) 7,ai (u.aZ.map fH) 3,ai (u.dv.map dU) 17,ai (u.a2.map gD) 2],ai (R.map λx=>[D x]) 1,ai (dj.map λx=>[D x]) 1]=some (bq (oy u R dj)):=bF.dK (x:=(R,dj)) aj λ⟨j6,h2⟩ Z=>by simpa using Z
noncomputable def Uf(u:aL)(h:cL u):bF N:= .cM 22 (List Int×List Int) (λx=>x.2.length<=1000000) (λx=>[.agg (aI u).toArray,bq x.1,bq x.2]) (λx=>bq (oy u x.1 x.2)) λx B=>aGM h B
@[simp] theorem aWJ{u:aL}{h:cL u}:(Uf u h).f=22:=rfl
@[simp] theorem aWK{u:aL}{h:cL u}{R dj:List Int}(aj:dj.length<=1000000):(Uf u h).fn [.agg #[D u.ext,ai (u.e7.map gE) 4,ai (u.cx.map gN) 4,ai (u.aO.map e6) 7,ai (u.aZ.map fH) 3,ai (u.dv.map dU) 17,ai (u.a2.map gD) 2],ai (R.map λx=>[D x]) 1,ai (dj.map λx=>[D x]) 1]=some (bq (oy u R dj)):=bF.dK (x:=(R,dj)) aj λ⟨j6,h2⟩ Z=>by simpa using Z
noncomputable def IV(u:aL)(h:cL u):bF N:= .cM 23 (List Int×List Int) (λx=>(x.1++x.2).length<=1000000) (λx=>[.agg (aI u).toArray,.agg (jC x.1 x.2).toArray]) (λx=> .bool (gT u (x.1++x.2))) λx B=>aFq h B
@[simp] theorem aWk{u:aL}{h:cL u}:(IV u h).f=23:=rfl
@[simp] theorem aHy{u:aL}{h:cL u}{af az:List Int}(aj:(af++az).length<=1000000):(IV u h).fn [.agg #[D u.ext,ai (u.e7.map gE) 4,ai (u.cx.map gN) 4,ai (u.aO.map e6) 7,ai (u.aZ.map fH) 3,ai (u.dv.map dU) 17,ai (u.a2.map gD) 2],.agg #[ai (af.map λx=>[D x]) 1,ai (az.map λx=>[D x]) 1]]=some (.bool (gT u (af++az))):=bF.dK (x:=(af,az)) aj λ⟨j6,h2⟩ Z=>by simpa using Z
noncomputable def De(u:aL)(h:cL u):bF N:= .cM 24 (List Int×List Int) (λx=>(x.1++x.2).length<=1000000) (λx=>[.agg (aI u).toArray,.agg (jC x.1 x.2).toArray]) (λx=> .bool (gT u (x.1++x.2))) λx B=>aGT h B
@[simp] theorem aWW{u:aL}{h:cL u}:(De u h).f=24:=rfl
@[simp] theorem aHE{u:aL}{h:cL u}{af az:List Int}(aj:(af++az).length<=1000000):(De u h).fn [.agg #[D u.ext,ai (u.e7.map gE) 4,ai (u.cx.map gN) 4,ai (u.aO.map e6) 7,ai (u.aZ.map fH) 3,ai (u.dv.map dU) 17,ai (u.a2.map gD) 2],.agg #[ai (af.map λx=>[D x]) 1,ai (az.map λx=>[D x]) 1]]=some (.bool (gT u (af++az))):=bF.dK (x:=(af,az)) aj λ⟨j6,h2⟩ Z=>by simpa using Z
abbrev uL(u:aL)(L:List (List Int))(R:List Int):List Value:=[D u.ext,ai (u.e7.map gE) 4,ai (u.cx.map gN) 4,ai (u.aO.map e6) 7,ai (u.aZ.map fH) 3,ai (u.dv.map dU) 17,ai (u.a2.map gD) 2,pP L,bq R]
open Go Go.DI Go.Big Go.gU
theorem apy{u:aL}{R dj:List Int}:uc u (oy u R dj)=fb u R dj:=rfl
theorem aFh{u:aL}(h:cL u)(A:1<=u.a2.length){R dj:List Int}(aj:dj.length<=1000000):bP N 72 [.agg (aI u).toArray,bq R,bq dj] (.bool (fb u R dj)):=by
 refine dJ (c3 (ay:=⟨[T9 u h],[]⟩) amT (by kernel_rfl) (by simp[Sy]) ?_);simp(disch:=first|omega|simp only[DI.aw];omega) [Sy,amS,aI];have ae:=aFg h A (R:=oy u R dj) (t:=(fE.bU 2).aK 0 (some ⟨aI u,true⟩));simp only[aI]at ae;refine ae.bt λv t ⟨w,M⟩=> ?_;subst M;rw[apy];cases aW:fb u R dj
 ·simp
 ·simp
noncomputable def IU(u:aL)(h:cL u)(A:1<=u.a2.length):bF N:= .cM 72 (List Int×List Int) (λx=>x.2.length<=1000000) (λx=>[.agg (aI u).toArray,bq x.1,bq x.2]) (λx=> .bool (fb u x.1 x.2)) λx B=>aFh h A B
@[simp] theorem aWd{u:aL}{h:cL u}{A:1<=u.a2.length}:(IU u h A).f=72:=rfl
@[simp] theorem aWe{u:aL}{h:cL u}{A:1<=u.a2.length}{R dj:List Int}(aj:dj.length<=1000000):(IU u h A).fn [.agg #[D u.ext,ai (u.e7.map gE) 4,ai (u.cx.map gN) 4,ai (u.aO.map e6) 7,ai (u.aZ.map fH) 3,ai (u.dv.map dU) 17,ai (u.a2.map gD) 2],ai (R.map λx=>[D x]) 1,ai (dj.map λx=>[D x]) 1]=some (.bool (fb u R dj)):=bF.dK (x:=(R,dj)) aj λ⟨j6,h2⟩ Z=>by simpa using Z
def Fx(u:aL):List dm->List Int->List (List Int)->List (List Int)
 |a::l,bR::au,L=>Fx u l au (if dk u 0<=a.t/\bR≠0 then L.set ((a.f-2-u.a2.length).tdiv ((u.aO.length:Int)-1)).toNat (L.getD ((a.f-2-u.a2.length).tdiv ((u.aO.length:Int)-1)).toNat []++[a.t-dk u 0])else L)
 |_,_,L=>L
theorem auJ{u:aL}(h:gf u){v w d:Nat}(aW:d<u.aZ.length)(e:eO u w (jb u d)=eO u v (jb u d)):w=v:=by have a:=(Oa h (v:=v) aW).1;have b:=(Oa h (v:=w) aW).1;rw[e]at b;omega
theorem agT{dP:Type}{l:List dP}{i:Nat}{x:dP}(h:l[i]?=some x):l.drop i=x::l.drop (i+1):=by have Y:=(cN.1 h).1;rw[pG Y,(cN.1 h).2]
theorem aHA{u:aL}{h:gf u}:(Dd u h).fn [.agg #[D u.ext,ai (u.e7.map gE) 4,ai (u.cx.map gN) 4,ai (u.aO.map e6) 7,ai (u.aZ.map fH) 3,ai (u.dv.map dU) 17,ai (u.a2.map gD) 2],D 0]=some (D (dk u 0)):=adq (d:=0) (by omega)
structure w4(u:aL)(R:List Int)(au:List Int)(cY dB hG ki bh:Nat)(ps:List Nat)(L:List (List Int))(i:Nat)(z:aD)(t:G):Prop where
 abM:pJ t bh ps L
 len:L.length=u.a2.length
 c5: ∀r∈L,r.length<=i
 d:cY≠bh/\dB≠bh/\hG≠bh/\ki≠bh/\cY∉ps/\dB∉ps/\hG∉ps/\ki∉ps
 aM:t.F cY=some ⟨aI u,true⟩
 e0:t.F dB=some ⟨[D (hK u R).dF,D 0,D 1,bN hG (ef u R).length 4],true⟩
 eB:t.F hG=some ⟨fA (ef u R),true⟩
 dy:t.F ki=some ⟨au.map D,true⟩
 bY:z 2=bN ki au.length 1
 bH:z 3=bC cY
 dp:z 4=bC dB
 cf:z 7=bN bh u.a2.length 1
theorem w4.dg{u:aL}{R:List Int}{au:List Int}{cY dB hG ki bh:Nat}{ps:List Nat}{L:List (List Int)}{i:Nat}{z K:aD}{t X:G}(h:w4 u R au cY dB hG ki bh ps L i z t)(O: ∀b,b<t.next->X.F b=t.F b)(H: ∀j,j∈[2,3,4,7]->K j=z j):w4 u R au cY dB hG ki bh ps L i K X:=
 ⟨h.abM.an1 O,h.len,h.c5,h.d,(O _ (aF h.aM)).trans h.aM,(O _ (aF h.e0)).trans h.e0,(O _ (aF h.eB)).trans h.eB,(O _ (aF h.dy)).trans h.dy,(H 2 (by simp)).trans h.bY,(H 3 (by simp)).trans h.bH,(H 4 (by simp)).trans h.dp,(H 7 (by simp)).trans h.cf⟩
theorem aGk{u:aL}(h:cL u){R:List Int}{au:List Int}{cY dB hG ki bh i v d:Nat}{bR:Int}(M:v<u.a2.length)(aW:d<u.aZ.length)(B:(ef u R)[i]?=some (uH u v d)){Q:cO->aD->G->Prop}{z:aD}{t:G}{ps:List Nat}{L:List (List Int)}
 (eh:w4 u R au cY dB hG ki bh ps L i z t) (bm:z 8=D i) (cz:z 9=D d) (ey:z 10=D 0)
 (a6: ∀K X kz,w4 u R au cY dB hG ki bh kz (L.set v (L.getD v []++[(d:Int)])) (i+1) K X->K 8=D i->Q (.cF 2) K X):ee N (.loop MA) z t Q:=by
 have eM:=h.ok.fp;have hI:=h.ok.hj;have kH:=h.ok.iH;have bx:=h.ok.g3;have fw:=OQ h.ok (R:=R);obtain⟨x,sN⟩:=gM aW;have cQ:=(cN.1 sN).2;obtain⟨br,bQ,a3,a4,fz⟩:=h.ok.tw d x sN;obtain⟨g1,vY⟩:=j0 a3;have Cl:jb u d=g1:=by unfold jb;simp only[sN,vY,nB]
 have xw:=(cN.1 B).1;have y0:=qM B (j:=0) (by decide);rw[ux]at y0;have Co:(fA (ef u R))[i*4]?=some (D (eO u v g1)):=by rw[y0,<-Cl];rfl
 have ax8: ∀h,(fA (ef u R))[i*4]'h=D (eO u v g1):= λh=>(cN.1 Co).2;have xr:i*4+1<=(ef u R).length*4:=by omega
 have C5:(i:Int)<(ef u R).length:=by omega
 have apO:(d:Int)<u.aZ.length:=by omega
 refine gP (ay:=⟨[zz u h.ok],[]⟩) (λw z t=>(∃kz,w4 u R au cY dB hG ki bh kz (if w<=v then L else L.set v (L.getD v []++[(d:Int)])) (if w<=v then i else i+1) z t)/\z 8=D i/\z 9=D d/\z 10=D w) u.a2.length ?_ ?_ 0 z t (gd _) ⟨⟨ps,by rw[if_pos (gd _),if_pos (gd _)];exact eh⟩,bm,cz,ey⟩
 ·rintro w z t aQ ⟨⟨kz,eh⟩,bm,cz,ey⟩ bO a1;obtain⟨aj,jx,ar,⟨gI,hz,iT,tu,yy,agM,agN,agO⟩,aM,e0,eB,dy,bY,bH,dp,cf⟩:=id eh;have dN:=aF aM;have sR:=aF e0;have nm:=aF eB;have jo:=aF dy;have bA:(w:Int)<u.a2.length:=(by omega);have bp:=fB (n:=w) (by omega);have Cg:w<=1000/\g1<=1000:=(by omega);by_cases e:w=v
  ·subst e;rw[if_pos (c8 _)]at aj jx ar;rw[if_pos (c8 _)]at ar;have XI:w<L.length:=(by omega);obtain⟨r,B8⟩:=gM XI;have wb:L.getD w []=r:=(by simp[B8]);obtain⟨p,K9,u1,ig,ka,Xe⟩:=aj.mu B8;have Qq:=ar r (fX B8);have bw:=aj.jd;have aDA:=aF bw;have FC:=aF ig;have eQ:(r.length+1)*8<=140737488355328/\r.length<=9223372036854775806:=(by omega);have aG: ¬p=bh:= λe=>aj.dB (e▸u1);have Pr: ¬bh=p:= λe=>aG e.symm;have jG:List.take r.length (r.map D)=r.map D:=hx (by simp);have aJm:w+1<=u.a2.length:=aQ;simp(disch:=first|omega|simp only[DI.aw];omega) [MA,bH,dp,cf,bm,cz,ey,aI,fH,aM,e0,eB,bA,bp,Co,xr,C5,apO,cQ,vY,e1,bw,ig,ka,Xe,eQ,jG,-ab,-ah,-aa,-ad,-List.map_map];have pf: ∀{b:Nat},b∈kz.set w (t.next+8)->b∈kz\/b=t.next+8:= λal=>Gu al
   have CN: ∀b,b<t.next->b≠p->b≠bh->(((((t.bU 11).aK (t.next+7) (some ⟨[D d],true⟩)).aK p none).aK (t.next+8) (some ⟨r.map D++[D d],true⟩)).aK bh (some ⟨(zd kz L).set w (.slice (some ⟨t.next+8,0,none⟩) (r.length+1) 1),true⟩)).F b=t.F b:= λb hb ck c9=>by rw[aX c9,aX (by omega),aX ck,aX (by omega),cl hb]
   refine a1 _ _ ⟨⟨kz.set w (t.next+8),?_⟩,by simp[bm],by simp[cz],by simp⟩;rw[if_neg (by omega),if_neg (by omega),wb];refine⟨aj.ahL B8 K9 ⟨by omega,λal=>by have:=aj.MR al;omega⟩ ?_ ?_ (λb hb Hj=> ?_),by simp[jx],λs H=> ?_,⟨gI,hz,iT,tu,λal=> ?_,λal=> ?_,λal=> ?_,λal=> ?_⟩,?_,?_,?_,?_,by simp[bY],by simp[bH],by simp[dp],by simp[cf]⟩
   ·simp(disch:=first|omega|simp only[DI.aw];omega) [-ab,-ah,-aa,-ad,-List.map_map]
   ·rw[p7];simp(disch:=first|omega|simp only[DI.aw];omega) [-ab,-ah,-aa,-ad,-List.map_map]
   ·exact CN b (aj.MR hb) Hj λe=>aj.dB (e▸hb)
   ·rcases Gu H with H|rfl
    ·exact Nat.le_succ_of_le (ar s H)
    ·simp;omega
   ·rcases pf al with al|al
    ·exact yy al
    ·omega
   ·rcases pf al with al|al
    ·exact agM al
    ·omega
   ·rcases pf al with al|al
    ·exact agN al
    ·omega
   ·rcases pf al with al|al
    ·exact agO al
    ·omega
   ·exact(CN cY dN (λe=>yy (e▸u1)) gI).trans aM
   ·exact(CN dB sR (λe=>agM (e▸u1)) hz).trans e0
   ·exact(CN hG nm (λe=>agN (e▸u1)) iT).trans eB
   ·exact(CN ki jo (λe=>agO (e▸u1)) tu).trans dy
  ·have Hj: ¬eO u v g1=eO u w g1:= λaN=>e (auJ h.ok aW (by rw[Cl];exact aN.symm));simp(disch:=first|omega|simp only[DI.aw];omega) [MA,bH,dp,bm,cz,ey,aI,fH,aM,e0,eB,bA,bp,Co,xr,C5,apO,cQ,vY,e1,Hj,-ab,-ah,-aa,-ad,-List.map_map];refine a1 _ _ ⟨⟨kz,?_⟩,by simp[bm],by simp[cz],by simp⟩;have eq:(w+1<=v)=(w<=v):=propext ⟨λ_=>by omega,λ_=>by omega⟩;simp only[eq];exact eh.dg (λ_ _=>rfl) λj aV=>by simp at aV;rcases aV with rfl|rfl|rfl|rfl<;>simp
 ·rintro z t ⟨⟨kz,eh⟩,bm,cz,ey⟩;rw[if_neg (by omega),if_neg (by omega)]at eh;have bH:=eh.bH;have aM:=eh.aM;have dN:=aF aM;simp[MA,bH,ey,aM,aI];exact a6 _ _ kz (eh.dg (λ_ _=>rfl) λj aV=>by simp at aV;rcases aV with rfl|rfl|rfl|rfl<;>simp) (by simp[bm])
theorem aGl{u:aL}(h:cL u){R:List Int}{au:List Int}(dV:au.length=(ef u R).length){cY dB hG ki bh:Nat}{Q:cO->aD->G->Prop}{z:aD}{t:G}{ps:List Nat}{Oz:List (List Int)}
 (eh:w4 u R au cY dB hG ki bh ps Oz 0 z t) (bm:z 8=D 0) (a6: ∀K X kz i,w4 u R au cY dB hG ki bh kz (Fx u (ef u R) au Oz) i K X->Q (.cF 0) K X):ee N (.loop Ig) z t Q:=by
 have eM:=h.ok.fp;have hI:=h.ok.hj;have kH:=h.ok.iH;have bx:=h.ok.g3;have fw:=OQ h.ok (R:=R);have rW:=aHA (u:=u) (h:=h.ok);refine gP (ay:=⟨[Dd u h.ok],[]⟩) (λi z t=>(∃kz L,Fx u ((ef u R).drop i) (au.drop i) L=Fx u (ef u R) au Oz/\w4 u R au cY dB hG ki bh kz L i z t)/\z 8=D i) (ef u R).length ?_ ?_ 0 z t (gd _) ⟨⟨ps,Oz,rfl,eh⟩,bm⟩
 ·rintro i z t Y ⟨⟨kz,L,we,eh⟩,bm⟩ bO a1;obtain⟨aj,jx,ar,aW,aM,e0,eB,dy,bY,bH,dp,cf⟩:=id eh;obtain⟨a,B⟩: ∃a,(ef u R)[i]?=some a:=⟨_,c6 Y⟩;have y0:=qM B (j:=1) (by decide);have Co:(fA (ef u R))[i*4+1]?=some (D a.t):=(by rw[y0];rfl);have ax8: ∀h,(fA (ef u R))[i*4+1]'h=D a.t:= λh=>(cN.1 Co).2;have xr:i*4+1+1<=(ef u R).length*4:=(by omega);have xw:i<au.length:=(by omega);obtain⟨bR,Z⟩:=gM xw;have ot: ∀h,au[i]'h=bR:= λh=>(cN.1 Z).2;obtain⟨_,⟨v3,v4⟩,_⟩:=(AX h.ok R).p9 a (fX B);have v4:a.t<dk u u.aZ.length:=v4;have kb:=wD h.ok;have bA:(i:Int)<(ef u R).length:=(by omega);have a9:(i:Int)<au.length:=(by omega);have bW:i+1<=au.length:=xw;have bp:=fB (n:=i) (by omega);have yN:dk u u.aZ.length=dk u 0+u.aZ.length:=(by unfold dk;omega);have cr:IntKind.i64.wrap (a.t-dk u 0)=a.t-dk u 0:=db (by omega) (by omega);have dN:=aF aM;have sR:=aF e0;have nm:=aF eB;have jo:=aF dy;rw[agT B,agT Z]at we;simp only[Fx]at we;have iC: ∀{kz L K X},w4 u R au cY dB hG ki bh kz L i K X->w4 u R au cY dB hG ki bh kz L (i+1) K X:= λeh=>⟨eh.abM,eh.len,λr al=>Nat.le_succ_of_le (eh.c5 r al),eh.d,eh.aM,eh.e0,eh.eB,eh.dy,eh.bY,eh.bH,eh.dp,eh.cf⟩;by_cases ck:a.t-dk u 0<0
  ·rw[if_neg (λc=>by omega)]at we;simp(disch:=first|omega|simp only[DI.aw];omega) [Ig,bH,dp,bm,aI,aM,e0,eB,bA,bp,cr,Co,xr,rW,ck,e1,-ab,-ah,-aa,-ad,-List.map_map];exact a1 _ _ ⟨⟨kz,L,we,iC (eh.dg (λ_ _=>rfl) λj aV=>by simp at aV;rcases aV with rfl|rfl|rfl|rfl<;>simp)⟩,by simp⟩
  by_cases c9:bR=0
  ·rw[if_neg (λc=>c.2 c9)]at we;simp(disch:=first|omega|simp only[DI.aw];omega) [Ig,bY,bH,dp,bm,aI,aM,e0,eB,dy,bA,a9,bW,bp,cr,Co,xr,ot,rW,ck,c9,e1,-ab,-ah,-aa,-ad,-List.map_map];exact a1 _ _ ⟨⟨kz,L,we,iC (eh.dg (λ_ _=>rfl) λj aV=>by simp at aV;rcases aV with rfl|rfl|rfl|rfl<;>simp)⟩,by simp⟩
  ·rw[if_pos ⟨by omega,c9⟩]at we;obtain⟨v,d,M,Cg,nJ⟩:=afK h.ok (fX B) (by omega);have rK:a.t-dk u 0=d:=(by rw[nJ];show dk u d-dk u 0=d;unfold dk;omega);have S:((a.f-2-u.a2.length).tdiv ((u.aO.length:Int)-1)).toNat=v:=by
    have:=(Oa h.ok (v:=v) Cg).1;rw[nJ];show((eO u v (jb u d)-2-u.a2.length).tdiv ((u.aO.length:Int)-1)).toNat=v;rw[this];omega
   rw[S,rK]at we;rw[rK]at cr ck;simp(disch:=first|omega|simp only[DI.aw];omega) [Ig,bY,bH,dp,bm,aI,aM,e0,eB,dy,bA,a9,bW,cr,Co,xr,ot,rW,rK,ck,c9,e1,-ab,-ah,-aa,-ad,-List.map_map];rw[nJ]at B;refine aGk h (R:=R) (au:=au) (i:=i) M Cg (bR:=bR) B (eh.dg (λ_ _=>rfl) λj aV=>by simp at aV;rcases aV with rfl|rfl|rfl|rfl<;>simp) (by simp[bm]) (by simp) (by simp) λc2 dR aFp awz x9=> ?_;simp(disch:=first|omega|simp only[DI.aw];omega) [x9,bp,-ab,-ah,-aa,-ad,-List.map_map];exact a1 _ _ ⟨⟨aFp,_,we,awz.dg (λ_ _=>rfl) λj aV=>by simp at aV;rcases aV with rfl|rfl|rfl|rfl<;>simp⟩,by simp⟩
 ·rintro z t ⟨⟨kz,L,we,eh⟩,bm⟩;rw[Gw (c8 _),Gw (by omega)]at we;have dp:=eh.dp;have e0:=eh.e0;have sR:=aF e0;simp(disch:=first|omega|simp only[DI.aw];omega) [Ig,dp,bm,e0,-ab,-ah,-aa,-ad,-List.map_map];refine a6 _ _ kz (ef u R).length ?_;rw[<-we];exact eh.dg (λ_ _=>rfl) λj aV=>by simp at aV;rcases aV with rfl|rfl|rfl|rfl<;>simp
theorem aGm{u:aL}(h:cL u){R:List Int}{au:List Int}(dV:au.length=(ef u R).length){hG ki:Nat}{t:G}(eB:t.F hG=some ⟨fA (ef u R),true⟩)(dy:t.F ki=some ⟨au.map D,true⟩):
 fg N 90 [.agg (aI u).toArray,.agg #[D (hK u R).dF,D 0,D 1,bN hG (ef u R).length 4],bN ki au.length 1] t λv X=> ∃o ps,v=bN o u.a2.length 1/\pJ X o ps (Fx u (ef u R) au (List.replicate u.a2.length [])):=by
 have kH:=h.ok.iH;have nm:=aF eB;have jo:=aF dy;refine c3 (ay:=⟨[],[]⟩) aBf (by kernel_rfl) (by simp[ZX]) ?_;have eQ:(u.a2.length:Int)*24<=140737488355328/\(u.a2.length:Int)<=9223372036854775807:=by omega
 simp(disch:=first|omega|simp only[DI.aw];omega) [ZX,ans,aI,eQ,-ab,-ah,-aa,-ad,-List.map_map];refine ar3 (o:=t.next+3+3) (n:=u.a2.length) (by simp(disch:=first|omega|simp only[DI.aw];omega) [-ab,-ah,-aa,-ad,-List.map_map]) λdR ps aj ka O pf=> ?_;simp only[eT,fq]at ka O pf;refine aGl h (R:=R) (au:=au) dV (cY:=t.next) (dB:=t.next+1) (hG:=hG) (ki:=ki) (bh:=t.next+3+3) ⟨aj,by simp,λr ar=>by rw[(List.mem_replicate.1 ar).2];simp,⟨by omega,by omega,by omega,by omega,λal=> ?_,λal=> ?_,λal=> ?_,λal=> ?_⟩,?_,?_,?_,?_,by simp,by simp,by simp,by simp⟩ (by simp) λK X kz i eh=> ?_
 ·have:=pf _ al;omega
 ·have:=pf _ al;omega
 ·have:=pf _ al;omega
 ·have:=pf _ al;omega
 ·rw[O _ (by omega) (by omega)];simp(disch:=first|omega|simp only[DI.aw];omega) [aI,-ab,-ah,-aa,-ad,-List.map_map]
 ·rw[O _ (by omega) (by omega)];simp(disch:=first|omega|simp only[DI.aw];omega) [-ab,-ah,-aa,-ad,-List.map_map]
 ·rw[O _ (by omega) (by omega)];simp(disch:=first|omega|simp only[DI.aw];omega) [eB,-ab,-ah,-aa,-ad,-List.map_map]
 ·rw[O _ (by omega) (by omega)];simp(disch:=first|omega|simp only[DI.aw];omega) [dy,-ab,-ah,-aa,-ad,-List.map_map]
 have cf:=eh.cf;simp(disch:=first|omega|simp only[DI.aw];omega) [ant,cf,-ab,-ah,-aa,-ad,-List.map_map];exact⟨kz,eh.abM⟩
def asJ(u:aL)(R:List Int)(v:Value)(X:G):Prop:=
 (uc u R=false->v= .tuple #[.slice none 0 0,D 12])/\(uc u R=true-> ∃au cg o ps,DS (hK u R) au cg/\o1 u<=value (hK u R) au/\v= .tuple #[bN o u.a2.length 1,D 0]/\pJ X o ps (Fx u (ef u R) au (List.replicate u.a2.length [])))
theorem aGF{u:aL}(h:cL u)(A:1<=u.a2.length){R:List Int}{t:G}:fg N 37 [.agg (aI u).toArray,bq R] t (asJ u R):=by
 have kH:=h.ok.iH;have cc:=AX h.ok R;refine c3 (ay:=⟨[Ui u h],[QC u h]⟩) aAU (by kernel_rfl) (by simp[Zm]) ?_;simp(disch:=first|omega|simp only[DI.aw];omega) [Zm,ami,aI,-ab,-ah,-aa,-ad,-List.map_map];obtain⟨W,dq⟩: ∃W,W=((((((t.bU 3).aK t.next (some ⟨aI u,true⟩)).bU 9).bU 1).aK (t.next+3+9) (some ⟨fA (ef u R),true⟩)).aK (t.next+3+6) (some ⟨[D (hK u R).dF,D 0,D 1,bN (t.next+3+9) (ef u R).length 4],true⟩)):=⟨_,rfl⟩;obtain⟨cY,tH⟩: ∃x,x=t.next:=⟨_,rfl⟩
 obtain⟨hG,Es⟩: ∃x,x=t.next+3+9:=⟨_,rfl⟩
 obtain⟨dB,kj⟩: ∃x,x=t.next+3+6:=⟨_,rfl⟩
 have dy:W.F cY=some ⟨aI u,true⟩:=by rw[dq,tH];simp(disch:=first|omega|simp only[DI.aw];omega) [aI,-ab,-ah,-aa,-ad,-List.map_map]
 have eB:W.F hG=some ⟨fA (ef u R),true⟩:=by rw[dq,Es];simp(disch:=first|omega|simp only[DI.aw];omega) [-ab,-ah,-aa,-ad,-List.map_map]
 have e0:W.F dB=some ⟨[D (hK u R).dF,D 0,D 1,bN hG (ef u R).length 4],true⟩:=by rw[dq,Es,kj];simp(disch:=first|omega|simp only[DI.aw];omega) [-ab,-ah,-aa,-ad,-List.map_map]
 have aEJ:W.next=t.next+13:=by rw[dq];simp
 simp only[aI]at dq;rw[<-dq,<-Es,<-kj,<-tH];clear dq;refine(ad2 (n:=hK u R) (λv m M=>aGS cc M) (OR A) eB).bt λr X ⟨au,cg,bg,ar,a8⟩=> ?_;subst ar;have eX: ∀b,b<W.next->X.F b=W.F b:= λb hb=>by rw[a8,Bh,aX (by omega),cl (by simp;omega),aX (by omega),cl hb]
 have Kt:X.F W.next=some ⟨au.map D,true⟩:=by rw[a8,Bh,aX (by omega),cl (by simp),cb (by simp)]
 have dy:=(eX cY (aF dy)).trans dy;have eB:=(eX hG (aF eB)).trans eB;have e0:=(eX dB (aF e0)).trans e0;clear eX a8;have yY:=TJ h.ok bg;have dN:=aF dy;have nm:=aF eB;have sR:=aF e0;have aDr:=aF Kt;by_cases c:value (hK u R) au<o1 u
 ·have ED:uc u R=false:=(by rw[yY];exact w0 (by omega));simp(disch:=first|omega|simp only[DI.aw];omega) [Zn,dy,aI,c,-ab,-ah,-aa,-ad,-List.map_map];exact⟨λ_=>rfl,λe=>by rw[ED]at e;cases e⟩
 ·have ED:uc u R=true:=(by rw[yY];exact decide_eq_true (by omega));simp(disch:=first|omega|simp only[DI.aw];omega) [Zn,amj,dy,e0,aI,c,-ab,-ah,-aa,-ad,-List.map_map];have aA:=aGm h (R:=R) bg.PC.lG.1 (t:=X) eB Kt;simp only[aI]at aA;refine aA.bt λv t3 ⟨o,ps,M,aj⟩=> ?_;subst M;simp(disch:=first|omega|simp only[DI.aw];omega) [-ab,-ah,-aa,-ad,-List.map_map];exact⟨λe=>absurd (ED.symm.trans e) (by decide),λ_=>⟨au,cg,o,ps,bg,by omega,rfl,aj⟩⟩
theorem aGG{u:aL}(h:cL u)(A:1<=u.a2.length){R dj:List Int}(aj:dj.length<=1000000):bP N 38 [.agg (aI u).toArray,bq R,bq dj] (.bool (fb u R dj)):=by
 refine dJ (c3 (ay:=⟨[Uf u h],[]⟩) aAV (by kernel_rfl) (by simp[Zo]) ?_);simp(disch:=first|omega|simp only[DI.aw];omega) [Zo,amk,aI];have ae:=aGF h A (R:=oy u R dj) (t:=(fE.bU 2).aK 0 (some ⟨aI u,true⟩));simp only[aI]at ae;refine ae.bt λv t ⟨Cp,nj⟩=> ?_;rw[apy]at Cp nj;cases aW:fb u R dj
 ·rw[Cp aW];simp
 ·obtain⟨au,cg,o,ps,_,_,e,_⟩:=nj aW;rw[e];simp
noncomputable def zA(u:aL)(h:cL u)(A:1<=u.a2.length):bF N:= .cM 38 (List Int×List Int) (λx=>x.2.length<=1000000) (λx=>[.agg (aI u).toArray,bq x.1,bq x.2]) (λx=> .bool (fb u x.1 x.2)) λx B=>aGG h A B
@[simp] theorem aWG{u:aL}{h:cL u}{A:1<=u.a2.length}:(zA u h A).f=38:=rfl
@[simp] theorem aWH{u:aL}{h:cL u}{A:1<=u.a2.length}{R dj:List Int}(aj:dj.length<=1000000):(zA u h A).fn [.agg #[D u.ext,ai (u.e7.map gE) 4,ai (u.cx.map gN) 4,ai (u.aO.map e6) 7,ai (u.aZ.map fH) 3,ai (u.dv.map dU) 17,ai (u.a2.map gD) 2],ai (R.map λx=>[D x]) 1,ai (dj.map λx=>[D x]) 1]=some (.bool (fb u R dj)):=bF.dK (x:=(R,dj)) aj λ⟨j6,h2⟩ Z=>by simpa using Z
end Go.Proofs.YtmmkkggfmigppaaGreat
