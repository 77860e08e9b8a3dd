/-
  A part of the proof, shortened by tools of ours.
-/
import Derived.Test.YtmmkkggfmigppaaGreatZbg
set_option linter.all false
set_option maxRecDepth 8000
set_option maxHeartbeats 16000000
namespace Go.DI
open Go Go.RowKit
def sv(m:G)(v:Value)(n:Nat):Bool:=if oV v then decide (xJ v+n<=(Ni v).length)else g2 m v n
def AP(m:G)(dE:Bool)(n:Nat)(v:Value):Value:=
 if oV v then(if dE then .agg (((Ni v).drop (xJ v)).take n).toArray else(((Ni v).drop (xJ v)).take 1).headD undef)else lP m dE n v
def r4(v:Value):Bool:=oV v||sW v
def zo(v:Value)(n:Nat):Value:=if oV v then fx (Ni v) (xJ v+n)else zn v n
def CM(v:Value):Bool:=iG v||hQ v
def lz(v:Value):Int:=if iG v then((Cv v).length:Nat)else fa v
def lj(v:Value):Nat:=if iG v then(Cv v).length else fW v
def m4(I:Nat)(v:Value):Bool:=if iG v then xJ v==I else pC I v
def vB(v:Value)(I l h:Nat):Value:=if iG v then ai (((Cv v).take h).drop l) I else sa v I l h
def Dk(v:Value)(I:Nat)(i:Int):Value:=if iG v then fx ((Cv v).getD i.toNat []) 0 else Dj v I i
def kC(m:G)(I:Nat)(v:Value):Bool:=if iG v then xJ v==I else fF m I v
def lp(m:G)(I:Nat)(v:Value):List Value:=if iG v then(Cv v).flatten else fy m I v
def oc(v:Value):Bool:= !ly v&&(match v with| .slice (some _) l _=>l !=0|_=>true)
def an.js(k:an)(z:aD)(m:G):Bool:=
 match k with
 | .hq dE n x=>sv m (S z x) n&&(dE||decide (n=1))
 | .oJ op c x y=>oc (S z x)&&oc (S z y)&&uI op c (S z x) (S z y)
 | .pN x=>kC m 1 (S z x)&&(lp m 1 (S z x)).all Fi
 | .wP I x bh Y=>m4 I (S z x)&&p4 z bh&&p4 z Y&&decide (0<=hs z bh 0)&&decide (hs z bh 0<=hs z Y (lz (S z x)))&&decide (hs z Y (lz (S z x))<=lz (S z x))
 | .Bg I x bh Y fP=>m4 I (S z x)&&p4 z bh&&fu (S z Y)&&fu (S z fP)&&decide (0<=hs z bh 0)&&decide (hs z bh 0<=eZ (S z Y))&&decide (eZ (S z Y)<=eZ (S z fP))&&decide (eZ (S z fP)<=lz (S z x))
 | .kt _ x=>r4 (S z x)
 | .mZ I x i=>m4 I (S z x)&&fu (S z i)&&decide (0<=eZ (S z i))&&decide (eZ (S z i)<lz (S z x))
 | .AF _ len x i=>r4 (S z x)&&fu (S z i)&&decide (0<=eZ (S z i))&&decide (eZ (S z i)<(len:Int))
 | .vg x=>CM (S z x)
 | .app I bytes x y=>fF m I (S z x)&&iQ m (S z x)&&kC m I (S z y)&&decide (0<I)&&decide ((fW (S z x)+lj (S z y))*bytes<=140737488355328)&&decide (fW (S z x)+lj (S z y)<=9223372036854775807)
 | .zb fn _ _=>(match fn with| .func _=>true|_=>false)
 |k=>k.ok z m
def an.jY(k:an)(id:Nat)(z:aD)(m:G):Value:=
 match k with
 | .hq dE n x=>AP m dE n (S z x)
 | .pN x=> .string (toBytes (lp m 1 (S z x)))
 | .wP I x bh Y=>vB (S z x) I (hs z bh 0).toNat (hs z Y (lz (S z x))).toNat
 | .Bg I x bh Y _=>vB (S z x) I (hs z bh 0).toNat (eZ (S z Y)).toNat
 | .kt off x=>zo (S z x) off
 | .mZ I x i=>Dk (S z x) I (eZ (S z i))
 | .AF I _ x i=>zo (S z x) ((eZ (S z i)).toNat*I)
 | .vg x=> .int .i64 (lz (S z x))
 | .app I _ x y=>if lj (S z y)=0 then S z x else .slice (some ⟨id,0,none⟩) (fW (S z x)+lj (S z y)) I
 |k=>k.val id z m
def an.pn(k:an)(id:Nat)(z:aD)(m:G):G:=
 match k with
 | .app I _ x y=>if lj (S z y)=0 then m else(hR m (S z x)).aK id (some ⟨fy m I (S z x)++lp m I (S z y),true⟩)
 |k=>k.hr id z m
def C2(m:G)(o:Nat):Bool:=match m.F o with|some x=>x.own|none=>false
def JR(m:G)(v:Value):Bool:=match aa v with|some o=>C2 m o|none=>true
def OP(m:G)(a b:Value):Bool:=
 if ly a then !ly b&&JR m b else if ly b then JR m a else match aa a,aa b with
  |some a,some b=>a !=b
  |_,_=>true
def iZ(z:aD)(m:G)(bc:List (Operand×Operand)):Bool:=bc.all λ(x,y)=>OP m (S z x) (S z y)
def AU(k:an):Bool:=k.h0.all di&&(match k with
 | .nD I| .vQ I _| .mv _ _ I _| .ov _ _ I _ _| .o8 _ _ I _ _| .hW I _=>I.all ew
 | .rf _ I _ _ _=>ew I
 |_=>true)
def M6(o:cS):Bool:=AU o.k&&o.bc.all λp=>di p.1&&di p.2
def pr:aB->Bool
 | .kN ops=>ops.all M6&&zf (ops.map (·.aY))&&ops.all λo=>decide (o.aY<ops.length)
 | .kB a b=>pr a&&pr b
 | .nG c a b=>di c&&pr a&&pr b
 | .block _ c=>pr c
 | .loop c=>pr c
 | .ve _ _ _=>false
 |_=>true
def so(u:fY)(J:e3)(es de:List (Value×Value)):Prop:=es.length=de.length/\ ∀(i:Nat) e dw,es[i]?=some e->de[i]?=some dw->cu u J e.1 dw.1/\cu u J e.2 dw.2
theorem so.bt{u cE:fY}{J cV:e3}{es de:List (Value×Value)}(h:so u J es de)(df:g7 u cE)(cp:fN J cV):so cE cV es de:=⟨h.1,λi e dw a b=>⟨(h.2 i e dw a b).1.bt df cp,(h.2 i e dw a b).2.bt df cp⟩⟩
structure ep(J:e3)(u:fY)(t m:G):Prop where
 jc: ∀o x,t.F o=some x->(∃b cs w,J o=some b/\m.F b=some ⟨cs,w⟩/\(x.own=true->w=true)/\bM u J x.cells cs)\/(J o=none/\x.cells=[])
 maps: ∀o es,t.fC o=some es-> ∃b de,J o=some b/\m.fC b=some de/\so u J es de
 jA: ∀o,J o=none->t.mp o=none
 inj: ∀o o' b,J o=some b->J o'=some b->o=o'
 cU: ∀o b,J o=some b->o<t.next/\b<m.next
 b0: ∀b cs,u b=some cs->(∃w,m.F b=some ⟨cs,w⟩)/\ ∀o x,J o=some b->t.F o=some x->x.own=false
def OK(J:e3)(t:G)(b:Nat):Prop:= ∃o x,J o=some b/\t.F o=some x/\x.own=true
def Jr(J:e3)(t:G)(b:Nat):Prop:= ∃o x,J o=some b/\t.F o=some x
structure e4(ht hU:Nat)(J:e3)(u:fY)(t m:G)(cV:e3)(cE:fY)(X U:G):Prop where
 e:fN J cV
 f:g7 u cE
 la: ∀o b,cV o=some b->J o=some b\/(ht<=o/\hU<=b)
 fn: ∀b cs,cE b=some cs->u b=some cs\/hU<=b\/Jr J t b
 lk:t.next<=X.next
 lR:m.next<=U.next
 dg: ∀b,b<hU-> ¬OK J t b->U.F b=m.F b
 sg: ∀b,b<hU->OK cV X b->OK J t b
 tn: ∀b,b<hU->Jr cV X b->Jr J t b
theorem e4.refl{ht hU:Nat}{J:e3}{u:fY}{t m:G}:e4 ht hU J u t m J u t m:=
 ⟨fN.refl _,g7.refl _,λ_ _ h=> .inl h,λ_ _ h=> .inl h,c8 _,c8 _,λ_ _ _=>rfl,λ_ _ h=>h,λ_ _ h=>h⟩
theorem e4.trans{ht hU:Nat}{J cW gF:e3}{u eo kg:fY}{t bd dR m bn cK:G}(h:e4 ht hU J u t m cW eo bd bn)(cw:e4 ht hU cW eo bd bn gF kg dR cK):e4 ht hU J u t m gF kg dR cK where
 e:=h.e.trans cw.e
 f:=h.f.trans cw.f
 la o b hb:=(cw.la o b hb).elim (λA=>h.la o b A) .inr
 fn b cs hb:=by
  rcases cw.fn b cs hb with A|A|A
  ·exact h.fn b cs A
  ·exact .inr (.inl A)
  ·by_cases E:b<hU
   ·exact .inr (.inr (h.tn b E A))
   ·exact .inr (.inl (by omega))
 lk:=mR h.lk cw.lk
 lR:=mR h.lR cw.lR
 dg b hb aQ:=by rw[cw.dg b hb (λw=>aQ (h.sg b hb w)),h.dg b hb aQ]
 sg b hb aQ:=h.sg b hb (cw.sg b hb aQ)
 tn b hb aQ:=h.tn b hb (cw.tn b hb aQ)
theorem e4.wV{ht hU N3 MY:Nat}{J cV:e3}{u cE:fY}{t X m U:G}(h:e4 ht hU J u t m cV cE X U)(a8:N3<=ht)(al:MY<=hU):e4 N3 MY J u t m cV cE X U where
 e:=h.e
 f:=h.f
 la o b hb:=(h.la o b hb).imp_right λ⟨a,b⟩=>⟨by omega,by omega⟩
 fn b cs hb:=by
  rcases h.fn b cs hb with A|A|A
  ·exact .inl A
  ·exact .inr (.inl (by omega))
  ·exact .inr (.inr A)
 lk:=h.lk
 lR:=h.lR
 dg b hb aQ:=h.dg b (by omega) aQ
 sg b hb aQ:=h.sg b (by omega) aQ
 tn b hb aQ:=h.tn b (by omega) aQ
def hF(u:fY)(J:e3)(z K:aD):Prop:= ∀t,cu u J (z t) (K t)
section
variable {u cE:fY} {J cV:e3} {z K:aD} {t m:G}
theorem hF.bt(h:hF u J z K)(df:g7 u cE)(cp:fN J cV):hF cE cV z K:= λt=>(h t).bt df cp
theorem hF.S(h:hF u J z K){x:Operand}(B:di x=true):cu u J (S z x) (S K x):=by
 cases x with
 |tmp t=>exact h t
 |const v=>exact cu.nf B
 |func f=>exact .func rfl (by intro i x y h;simp at h) rfl (by intro i x y h;simp at h)
 |global g=>simp[di]at B
theorem hF.aK(h:hF u J z K){d:Option Nat}{v bZ:Value}(M:cu u J v bZ):hF u J (c0 z d v) (c0 K d bZ):=by
 cases d with
 |none=>exact h
 | some d=>
   intro t;simp only[c0,k3];by_cases e:t=d
   ·simp only[e,if_true];exact M
   ·simp only[e,if_false];exact h t
theorem hF.B0(h:hF u J z K){l:List Operand}(aA:l.all di=true):bM u J (l.map (Go.DI.S z)) (l.map (Go.DI.S K)):=
 bM.Io _ _ _ λx B=>h.S (ei.1 aA x B)
theorem hF.init{bz bs:List Value}(h:bM u J bz bs):hF u J (ij bz) (ij bs):= λt=>by
 simp only[ij,m7];cases ag:bz[t]? with
 | none=>rw[qD (by rw[<-h.1];exact List.getElem?_eq_none_iff.1 ag)];exact cu.undef
 |some x=>obtain⟨y,Z,M⟩:=h.F ag;rw[Z];exact M
theorem anJ{v bZ:Value}(h:cu u J v bZ)(hb:wA v=true):bZ=v:=by cases v<;>simp[wA]at hb;exact h.tR
theorem sP{v bZ:Value}(h:cu u J v bZ)(hb:fu v=true):bZ=v:=by cases v<;>simp[fu]at hb;exact h.tS
theorem Fh{v bZ:Value}(h:cu u J v bZ)(hb:m0 v=true):bZ=v:=by cases v<;>simp[m0]at hb;exact h.AG
theorem aez(h:hF u J z K)(g:Option (Nat×Bool)):e9 K g=e9 z g:=by
 cases g with
 |none=>rfl
 | some g=>
   obtain⟨j,b⟩:=g;have M:=h j;simp only[e9];generalize z j=v at M;generalize K j=bZ at M;cases M with
   |c4 h=>rfl
   |jH e=>subst e;rfl
   |jI e=>subst e;rfl
   |fx e=>subst e;rfl
   |_=>rfl
end
section
variable {u:fY} {J:e3} {z K:aD} {t m:G} {v bZ:Value}
theorem wy(h:ew v=true):iG v=false/\oV v=false/\ly v=false:=by cases v<;>simp_all [ew,iG,oV,ly]
theorem bM.headD{xs ys:List Value}(h:bM u J xs ys):cu u J (xs.headD undef) (ys.headD undef):=by
 cases xs with
 | nil=>cases ys with
   |nil=>exact cu.undef
   |cons y ys=>simp[bM]at h
 | cons x xs=>cases ys with
   |nil=>simp[bM]at h
   |cons y ys=>exact h.2 0 x y rfl rfl
theorem bM.ahd: ∀{bJ C9:List (List Value)},bJ.length=C9.length->(∀(i:Nat) r eA,bJ[i]?=some r->C9[i]?=some eA->bM u J r eA)->bM u J bJ.flatten C9.flatten
 |[],[],_,_=>bM.nil
 |[],_::_,h,_=>by simp at h
 |_::_,[],h,_=>by simp at h
 | r::bJ,eA::C9,h,bV=>by rw[td,td];exact(bV 0 r eA rfl rfl).p8 (bM.ahd (by simpa using h) λi a b ag hb=>bV (i+1) a b (by simpa using ag) (by simpa using hb))
theorem bM.c5{c5 cs:List Value}{off k n:Nat}(aA:off+c5.length<=cs.length)(av: ∀(j:Nat) x y,c5[j]?=some x->cs[off+j]?=some y->cu u kY x y)(O:k+n<=c5.length):
 bM u J ((c5.drop k).take n) ((cs.drop (off+k)).take n):=by
 refine⟨by simp;omega,λi x y B Z=> ?_⟩;rw[ry]at B Z;split at B
 ·rename_i Y;rw[if_pos Y]at Z;rw[zL]at B Z;exact(av (k+i) x y B (by rw[<-n5];exact Z)).bt (g7.refl _) (fN.nil _)
 ·cases B
theorem ep.mu(H:ep J u t m){o b:Nat}{x:en}(cp:J o=some b)(B:t.F o=some x): ∃cs w,m.F b=some ⟨cs,w⟩/\(x.own=true->w=true)/\bM u J x.cells cs:=by
 rcases H.jc o x B with⟨cB,cs,w,A,E,ao,aS⟩|⟨A,_⟩
 ·rw[cp]at A;cases A;exact⟨cs,w,E,ao,aS⟩
 ·rw[cp]at A;cases A
theorem JF(H:ep J u t m)(M:cu u J v bZ){n:Nat}(h:sv t v n=true):g2 m bZ n=true:=by
 unfold sv at h;split at h
 ·rename_i Y;obtain⟨c5,k,b,off,cs,rfl,rfl,df,aA,av⟩:=M.ajm Y;obtain⟨⟨w,aQ⟩,_⟩:=H.b0 b cs df;simp at h;simp[aQ];omega
 ·rename_i pU;unfold g2 at h;split at h
  ·next a=>
   obtain⟨b,cp,gR,rfl⟩:=M.sO;simp only[a7]at h;cases aH:t.F a.block with
   |none=>rw[aH]at h;simp at h
   | some x=>rw[aH]at h;obtain⟨cs,w,A,_,ao⟩:=H.mu cp aH;simp at h;simp[A];have:=ao.1;omega
  ·cases h
theorem abm(H:ep J u t m)(M:cu u J v bZ){n:Nat}{dE:Bool}(h:sv t v n=true)(A:(dE||decide (n=1))=true):cu u J (AP t dE n v) (lP m dE n bZ):=by
 unfold sv at h;unfold AP;split at h
 ·rename_i Y;rw[if_pos Y];obtain⟨c5,k,b,off,cs,rfl,rfl,df,aA,av⟩:=M.ajm Y;obtain⟨⟨w,aQ⟩,_⟩:=H.b0 b cs df;simp at h;simp only[aDD,agl,aQ,ajf,apn];cases dE with
  |true=>exact(bM.c5 aA av h).agg
  |false=>simp at A;subst A;exact(bM.c5 aA av h).headD
 ·rename_i Y;rw[if_neg Y];unfold g2 at h;split at h
  ·next a=>
   obtain⟨b,cp,gR,rfl⟩:=M.sO;simp only[a7]at h;cases aH:t.F a.block with
   |none=>rw[aH]at h;simp at h
   | some x=>
     obtain⟨cs,w,E,_,ao⟩:=H.mu cp aH;simp only[lP,gW,E];rw[aH];cases dE with
     |true=>exact((ao.drop _).take _).agg
     |false=>exact((ao.drop _).take _).headD
  ·cases h
theorem apD(M:cu u J v bZ)(h:r4 v=true):sW bZ=true:=by
 cases M with
 |c4 A=>obtain⟨_,E,_⟩:=wy A;simpa[r4,E]using h
 |bC h=>rfl
 |fx e=>rfl
 |jH e=>subst e;simp[r4,sW,ai,oV]at h
 |jI e=>subst e;simp[r4,sW,ai,oV]at h
 |_=>simp[r4,sW,oV]at h
theorem apC(M:cu u J v bZ)(h:r4 v=true)(n:Nat):cu u J (zo v n) (zn bZ n):=by
 cases M with
 | c4 A=>
   obtain⟨_,E,_⟩:=wy A;simp only[r4,E,Bool.false_or,sW]at h;split at h
   ·simp[ew]at A
   ·cases h
 |bC cp=>simp only[zo,oV,zn,jO,if_false];exact .bC cp
 |fx e df aA av=>subst e;simp only[zo,aCC,if_true,apn,ajf,zn,n5];exact .fx rfl df aA av
 |jH e=>subst e;simp[r4,sW,ai,oV]at h
 |jI e=>subst e;simp[r4,sW,ai,oV]at h
 |_=>simp[r4,sW,oV]at h
theorem Ti(M:cu u J v bZ):lz v=fa bZ:=by
 cases M with
 |c4 h=>simp[lz,(wy h).1]
 |jH e=>subst e;simp[lz,fa]
 |jI e=>subst e;simp[lz,fa]
 |fx e=>subst e;simp[lz,fa,fx,iG]
 |_=>rfl
theorem I2(M:cu u J v bZ):lj v=fW bZ:=by
 cases M with
 |c4 h=>simp[lj,(wy h).1]
 |jH e=>subst e;simp[lj,fW]
 |jI e=>subst e;simp[lj,fW]
 |fx e=>subst e;simp[lj,fW,fx,iG]
 |_=>rfl
theorem aCD(M:cu u J v bZ)(h:CM v=true):hQ bZ=true:=by
 cases M with
 |c4 A=>simpa[CM,(wy A).1]using h
 |jH e=>rfl
 |jI e=>rfl
 |fx e=>subst e;simp[CM,fx,iG,hQ]at h
 |_=>simpa[CM,iG,hQ]using h
theorem NR(M:cu u J v bZ){I:Nat}(h:m4 I v=true):pC I bZ=true:=by
 cases M with
 |c4 A=>simpa[m4,(wy A).1]using h
 |jH e=>subst e;simpa[m4]using h
 |jI e=>rfl
 |fx e=>subst e;simp[m4,fx,iG,pC]at h
 |sb=>rfl
 |slice=>simpa[m4,iG]using h
 |_=>simp[m4,iG,pC]at h
theorem aqN(M:cu u J v bZ){I l h:Nat}(ae:m4 I v=true)(A:l<=h)(E:h<=lj v):cu u J (vB v I l h) (sa bZ I l h):=by
 cases M with
 | c4 bb=>
   simp only[vB,(wy bb).1,jO,if_false];unfold sa;split
   ·simp[ew]at bb
   ·exact .c4 rfl
 | jH e df aA bE av=>
   rename_i b off j7 cs bJ;subst e;have EN:j7=I:=(by simpa[m4]using ae);subst EN;have Ak:h<=bJ.length:=(by simpa[lj]using E);simp only[vB,S2,if_true,QF,sa];have dc:((bJ.take h).drop l).length=h-l:=(by simp;omega);have al:h*j7<=bJ.length*j7:=zK _ Ak;have bg:l*j7+(h-l)*j7=h*j7:=(by rw[<-oC];congr 1;omega);rw[<-dc];refine .jH rfl df (by rw[dc];omega) (λi r ar=> ?_) λi j r x y ar B Z=> ?_
   ·rw[zL,ry]at ar;split at ar
    ·exact bE _ _ ar
    ·cases ar
   ·rw[zL,ry]at ar;split at ar
    ·refine av _ j r x y ar B ?_;rw[<-Z];congr 1;rw[oC];omega
    ·cases ar
 | jI e=>subst e;simp only[vB,S2,if_true,QF,sa];simp;exact .jI rfl
 |fx e=>subst e;simp[m4,fx,iG,pC]at ae
 | sb=>have:h=0:=(by simpa[lj,iG,fW]using E);subst this;have:l=0:=(by omega);subst this;simp only[vB,iG,sa,jO,if_false,Nat.zero_mul,ux,Nat.sub_self];exact .sb
 |slice cp=>simp only[vB,iG,sa,jO,if_false];exact .slice cp
 |_=>simp[m4,iG,pC]at ae
theorem aIs(M:cu u J v bZ){I:Nat}{i:Int}(ae:m4 I v=true)(bX:0<=i)(A:i<lz v):cu u J (Dk v I i) (Dj bZ I i):=by
 obtain⟨n,rfl⟩:=j0 bX;cases M with
 | c4 bb=>
   simp only[lz,(wy bb).1,jO,if_false]at A;simp only[m4,(wy bb).1,jO,if_false]at ae;unfold pC at ae;split at ae
   ·simp[fa]at A;simp at ae;omega
   ·simp[ew]at bb
   ·cases ae
 | jH e df aA bE av=>rename_i b off j7 cs bJ;subst e;have EN:j7=I:=(by simpa[m4]using ae);subst EN;have E:n<bJ.length:=(by simpa[lz]using A);simp only[Dk,S2,if_true,QF,Dj,nB];rw[m7,c6 E,Bw];have ar:=c6 E;have uY:=bE _ _ ar;have:(n+1)*j7<=bJ.length*j7:=zK _ E;rw[oC]at this;exact .fx (off:=off+n*j7) (k:=0) rfl df (by omega) λj x y B Z=>av n j _ x y ar B Z
 |jI e=>subst e;simp[lz]at A;omega
 |fx e=>subst e;simp[m4,fx,iG,pC]at ae
 |sb=>simp[lz,iG,fa]at A;omega
 |slice cp=>simp only[Dk,iG,Dj,jO,if_false];exact .bC cp
 |_=>simp[m4,iG,pC]at ae
theorem Gb(H:ep J u t m)(M:cu u J v bZ){I:Nat}(h:kC t I v=true):fF m I bZ=true:=by
 cases M with
 | c4 bb=>
   simp only[kC,(wy bb).1,jO,if_false]at h;unfold fF at h;split at h
   ·simpa[fF]using h
   ·simp[ew]at bb
   ·cases h
 | jH e df aA bE av=>subst e;have:=(by simpa[kC]using h);subst this;obtain⟨⟨w,aQ⟩,_⟩:=H.b0 _ _ df;simp[aQ,aA]
 |jI e=>rfl
 |fx e=>subst e;simp[kC,fx,iG,fF]at h
 |sb=>rfl
 | slice cp=>
   rename_i o b off l j7;simp only[kC,iG,jO,if_false,aqO,a7]at h⊢;refine⟨h.1,?_⟩;cases aH:t.F o with
   |none=>rw[aH]at h;simp at h
   | some x=>rw[aH]at h;obtain⟨cs,w,A,_,ao⟩:=H.mu cp aH;have:=ao.1;simp[A]at h⊢;omega
 |_=>simp[kC,iG,fF]at h
theorem GS(H:ep J u t m)(M:cu u J v bZ){I:Nat}(h:kC t I v=true):bM u J (lp t I v) (fy m I bZ):=by
 cases M with
 | c4 bb=>
   simp only[kC,(wy bb).1,jO,if_false]at h;unfold fF at h;split at h
   ·exact bM.nil
   ·simp[ew]at bb
   ·cases h
 | jH e df aA bE av=>rename_i b off j7 cs bJ;subst e;have:=(by simpa[kC]using h);subst this;obtain⟨⟨w,aQ⟩,_⟩:=H.b0 _ _ df;simp only[lp,S2,if_true,QF,aIv,agl,aQ];obtain⟨C9,aG,aN,ct⟩:=aqh bJ.length off aA;rw[<-aN];refine bM.ahd aG.symm λi r eA ar Hp=> ?_;have Y:=(cN.1 ar).1;rw[ct i Y]at Hp;cases Hp;have yT:=bE _ _ ar;have:(i+1)*j7<=bJ.length*j7:=zK _ Y;rw[oC]at this;have:=bM.c5 (u:=u) (J:=J) (c5:=r) (cs:=cs) (off:=off+i*j7) (k:=0) (n:=j7) (by omega) (λj x y B Z=>av i j r x y ar B Z) (by omega);rw[oB,hx (by omega)]at this;exact this
 |jI e=>subst e;simp[lp,fy];exact bM.nil
 |fx e=>subst e;simp[kC,fx,iG,fF]at h
 | sb=>
   simp only[lp,iG,jO,if_false,fy,gW];split
   ·simp;exact bM.nil
   ·exact bM.nil
 | slice cp=>
   rename_i o b off l j7;simp only[kC,iG,jO,if_false,aqO,a7]at h;simp only[lp,iG,jO,if_false,fy,gW];cases aH:t.F o with
   |none=>rw[aH]at h;simp at h
   | some x=>obtain⟨cs,w,A,_,ao⟩:=H.mu cp aH;simp only[A];exact(ao.drop _).take _
 |_=>simp[kC,iG,fF]at h
theorem UA(H:ep J u t m)(M:cu u J v bZ)(h:iQ t v=true):iQ m bZ=true:=by
 unfold iQ at h;split at h
 ·rename_i l c;cases M with
  |c4 bb=>rfl
  |jH e=>simp[ai]at e
  |jI e=>simp[ai]at e
  |fx e=>simp[fx]at e
 ·rename_i a l c;rcases M.lv with⟨b,cp,_,rfl⟩|⟨_,_,_,rfl⟩
  ·cases aH:t.F a.block with
   |none=>rw[aH]at h;cases h
   | some x=>rw[aH]at h;obtain⟨cs,w,A,E,ao⟩:=H.mu cp aH;simp[A,E h]
  ·rfl
 ·cases h
theorem aDX(H:ep J u t m)(M:cu u J v bZ){es:List (Value×Value)}(h:lQ t v=some es): ∃de,lQ m bZ=some de/\so u J es de:=by
 unfold lQ at h;split at h
 ·cases h;have:bZ= .map none:=M.hB rfl;subst this;exact⟨[],rfl,rfl,λi e dw a=>by simp at a⟩
 ·obtain⟨b,de,A,E,ao⟩:=H.maps _ _ h;obtain⟨cB,aS,rfl⟩:=M.Lu;rw[A]at aS;cases aS;exact⟨de,E,ao⟩
 ·cases h
theorem anO(M:cu u J v bZ){bc:lX}(h:pY bc v=true):bZ=v:=by
 cases bc<;>cases v<;>simp[pY]at h
 ·exact M.tS
 ·exact M.AG
theorem an6{bc:lX}{es de:List (Value×Value)}(aU:so u J es de)(M:cu u J v bZ)(h:nU bc v es=true):nU bc bZ de=true/\bZ=v/\ ∀(i:Nat) e dw,es[i]?=some e->de[i]?=some dw->dw.1=e.1:=by
 simp only[nU,a7,ei]at h⊢;have aG:=anO M h.1;subst aG;have O: ∀(i:Nat) e dw,es[i]?=some e->de[i]?=some dw->dw.1=e.1:= λi e dw a b=>anO (aU.2 i e dw a b).1 (h.2 e (fX a));refine⟨⟨h.1,λdw al=> ?_⟩,rfl,O⟩;obtain⟨i,Y,rfl⟩:=n4 al;have ih:i<es.length:=by rw[aU.1];exact Y
 rw[O i _ _ (c6 ih) (c6 Y)];exact h.2 _ (kp ih)
theorem aou{k:Value}: ∀{es de:List (Value×Value)},so u J es de->(∀(i:Nat) e dw,es[i]?=some e->de[i]?=some dw->dw.1=e.1)->(jK k es=none/\jK k de=none)\/ ∃a b,jK k es=some a/\jK k de=some b/\cu u J a b
 |[],[],_,_=> .inl ⟨rfl,rfl⟩
 |[],_::_,h,_=>by simp[so]at h
 |_::_,[],h,_=>by simp[so]at h
 | e::es,dw::de,h,O=>by
   have bX:=O 0 e dw rfl rfl;simp only[jK,bX];split
   ·exact .inr ⟨_,_,rfl,rfl,(h.2 0 e dw rfl rfl).2⟩
   ·exact aou ⟨by simpa using h.1,λi a b ag hb=>h.2 (i+1) a b (by simpa using ag) (by simpa using hb)⟩ λi a b ag hb=>O (i+1) a b (by simpa using ag) (by simpa using hb)
theorem aoI{k v bZ:Value}(Av:cu u J k k)(M:cu u J v bZ): ∀{es de:List (Value×Value)},so u J es de->(∀(i:Nat) e dw,es[i]?=some e->de[i]?=some dw->dw.1=e.1)->so u J (lg k v es) (lg k bZ de)
 | [],[],_,_=>⟨rfl,λi a b ag hb=>by
  cases i with
  |zero=>simp[lg]at ag hb;subst ag;subst hb;exact⟨Av,M⟩
  |succ i=>simp[lg]at ag⟩
 |[],_::_,h,_=>by simp[so]at h
 |_::_,[],h,_=>by simp[so]at h
 | e::es,dw::de,h,O=>by
   have bX:=O 0 e dw rfl rfl;have a8:so u J es de:=⟨by simpa using h.1,λi a b ag hb=>h.2 (i+1) a b (by simpa using ag) (by simpa using hb)⟩;simp only[lg,bX];split
   ·refine⟨by simpa using h.1,λi a b ag hb=> ?_⟩;cases i with
    |zero=>simp at ag hb;subst ag;subst hb;exact⟨Av,M⟩
    |succ i=>exact a8.2 i a b (by simpa using ag) (by simpa using hb)
   ·have:=aoI Av M a8 λi a b ag hb=>O (i+1) a b (by simpa using ag) (by simpa using hb);refine⟨by simpa using this.1,λi a b ag hb=> ?_⟩;cases i with
    |zero=>simp at ag hb;subst ag;subst hb;exact h.2 0 e dw rfl rfl
    |succ i=>exact this.2 i a b (by simpa using ag) (by simpa using hb)
end
section
variable {u:fY} {J:e3} {z K:aD} {t m:G} {v bZ:Value}
theorem M9(b4:hF u J z K){x:Option Operand}(B: ∀o,x=some o->di o=true)(h:p4 z x=true)(d:Int):p4 K x=true/\hs K x d=hs z x d:=by
 cases x with
 |none=>exact⟨rfl,rfl⟩
 | some o=>have e:=sP (b4.S (B o rfl)) h;simp only[p4,hs,e]at h⊢;exact⟨h,trivial⟩
theorem apo(b4:hF u J z K){cs nH:List Value}(aA:cs.length=nH.length){ps:List (Nat×Nat×Operand)}(ag: ∀p∈ps,di p.2.2=true)(h:r3 cs z ps=true):r3 nH K ps=true:=by simp only[r3,ei]at h⊢;intro p ae;have:=h p ae;obtain⟨off,n,x⟩:=p;simp only[a7,eF]at this⊢;have M:=b4.S (ag _ ae);exact⟨⟨M.ah this.1.1,by rw[<-M.ab.1];exact this.1.2⟩,by rw[<-aA];exact this.2⟩
theorem ab8(b4:hF u J z K): ∀{ps:List (Nat×Nat×Operand)} {cs nH:List Value},bM u J cs nH->(∀p∈ps,di p.2.2=true)->bM u J (ns cs z ps) (ns nH K ps)
 |[],_,_,h,_=>h
 | (off,n,x)::ps,_,_,h,ag=>by simp only[ns];exact ab8 b4 (h.gV off (b4.S (ag (off,n,x) (by simp))).ab) λp ae=>ag p (by simp[ae])
theorem cu.yd{v:Value}(h:ew v=true\/v=Go.undef):cu u J v v:=by
 rcases h with h|rfl
 ·exact .c4 h
 ·exact cu.undef
theorem ayX(op:BinOp)(k:IntKind)(a b:Int):ew (HD op k a b)=true:=by cases op<;>rfl
theorem aIN(op:BinOp)(a b:ByteArray):ew (Dp op a b)=true\/Dp op a b=Go.undef:=by cases op<;>first|exact .inl rfl|exact .inr rfl
theorem atC(op:BinOp)(x y:Value):ew (mU op x y)=true\/mU op x y=Go.undef:=by
 unfold mU;split
 ·exact .inl (ayX _ _ _ _)
 ·exact aIN _ _ _
 ·split
  ·exact .inl rfl
  ·exact .inl rfl
  ·exact .inr rfl
theorem aqG(M:cu u J v bZ)(h:oc v=true):bZ=v\/(∃a ev,v= .pointer (some a)/\bZ= .pointer (some ev))\/(∃a ev l I,v= .slice (some a) l I/\bZ= .slice (some ev) l I)\/
 (∃f xs cs ys ds,v= .func (.func f) xs cs/\bZ= .func (.func f) ys ds)\/(∃a b,v= .map a/\bZ= .map b)\/(∃a b,v= .agg a/\bZ= .agg b)\/(∃a b,v= .tuple a/\bZ= .tuple b)\/ ∃t a b,v= .iface t a/\bZ= .iface t b:=by
 cases M with
 |c4=>exact .inl rfl
 |bC=>exact .inr (.inl ⟨_,_,rfl,rfl⟩)
 |slice=>exact .inr (.inr (.inl ⟨_,_,_,_,rfl,rfl⟩))
 |sb=>simp[oc,ly]at h
 |map=>exact .inr (.inr (.inr (.inr (.inl ⟨_,_,rfl,rfl⟩))))
 |agg=>exact .inr (.inr (.inr (.inr (.inr (.inl ⟨_,_,rfl,rfl⟩)))))
 |tuple=>exact .inr (.inr (.inr (.inr (.inr (.inr (.inl ⟨_,_,rfl,rfl⟩))))))
 |func=>exact .inr (.inr (.inr (.inl ⟨_,_,_,_,_,rfl,rfl⟩)))
 |iface=>exact .inr (.inr (.inr (.inr (.inr (.inr (.inr ⟨_,_,_,rfl,rfl⟩))))))
 |jH e=>subst e;simp[oc]at h
 |jI e=>subst e;simp[oc]at h
 |fx e=>subst e;simp[oc]at h
theorem af5{x y:Value}{op:BinOp}{c:w5}(h:(fu x&&fu y)=false)(E:(m0 x&&m0 y)=false):uI op c x y=(match op with| .eql| .neq=>xk c x y|_=>false):=by
 unfold uI;split
 ·simp[fu]at h
 ·simp[m0]at E
 ·rfl
theorem af6{x y:Value}{op:BinOp}(h:(fu x&&fu y)=false)(E:(m0 x&&m0 y)=false):mU op x y=(match op with| .eql=> .bool (qT x y)| .neq=> .bool (!qT x y)|_=>Go.undef):=by
 unfold mU;split
 ·simp[fu]at h
 ·simp[m0]at E
 ·rfl
theorem anL(M:cu u J v bZ)(h:oc v=true):fu bZ=fu v/\m0 bZ=m0 v:=by rcases aqG M h with rfl|⟨a,ev,rfl,rfl⟩|⟨a,ev,l,I,rfl,rfl⟩|⟨f,xs,cs,ys,ds,rfl,rfl⟩|⟨a,b,rfl,rfl⟩|⟨a,b,rfl,rfl⟩|⟨a,b,rfl,rfl⟩|⟨t,a,b,rfl,rfl⟩<;>exact⟨rfl,rfl⟩
def Jb:Value->Value
 | .pointer (some _)=> .pointer (some ⟨0,0,none⟩)
 | .slice (some _) _ _=> .slice (some ⟨0,0,none⟩) 0 0
 | .func _ _ _=> .func (.func 0) #[] #[]
 | .map _=> .map none
 | .agg _=> .agg #[]
 | .tuple _=> .tuple #[]
 | .iface _ _=> .iface 0 .nilIface
 |v=>v
theorem ag4(c:w5)(x y:Value):xk c (Jb x) (Jb y)=xk c x y:=by cases c<;>cases x<;>cases y<;>first|rfl|(cases‹Option Addr› <;>first|rfl|(cases‹Option Addr› <;>rfl))
theorem ag5(x y:Value):qT (Jb x) (Jb y)=qT x y:=by cases x<;>cases y<;>first|rfl|(cases‹Option Addr› <;>first|rfl|(cases‹Option Addr› <;>rfl))
theorem UG(M:cu u J v bZ)(h:oc v=true):Jb bZ=Jb v:=by rcases aqG M h with rfl|⟨a,ev,rfl,rfl⟩|⟨a,ev,l,I,rfl,rfl⟩|⟨f,xs,cs,ys,ds,rfl,rfl⟩|⟨a,b,rfl,rfl⟩|⟨a,b,rfl,rfl⟩|⟨a,b,rfl,rfl⟩|⟨t,a,b,rfl,rfl⟩<;>rfl
theorem ag6{x y hM ta:Value}{c:w5}(B:cu u J x hM)(Z:cu u J y ta)(A:oc x=true)(E:oc y=true)(h:xk c x y=true):xk c hM ta=true/\qT hM ta=qT x y:=by rw[<-ag4,UG B A,UG Z E,ag4,<-ag5 hM ta,UG B A,UG Z E,ag5];exact⟨h,rfl⟩
theorem atD{x y hM ta:Value}{op:BinOp}{c:w5}(B:cu u J x hM)(Z:cu u J y ta)(A:oc x=true)(E:oc y=true)(h:uI op c x y=true):uI op c hM ta=true/\mU op hM ta=mU op x y:=by
 obtain⟨kK,aT⟩:=anL B A;obtain⟨nT,bY⟩:=anL Z E;by_cases Y:(fu x&&fu y)=true
 ·simp only[a7]at Y;rw[sP B Y.1,sP Z Y.2];exact⟨h,rfl⟩
 ·by_cases H:(m0 x&&m0 y)=true
  ·simp only[a7]at H;rw[Fh B H.1,Fh Z H.2];exact⟨h,rfl⟩
  ·simp only[Bool.not_eq_true]at Y H;rw[af5 Y H]at h;rw[af5 (by rw[kK,nT];exact Y) (by rw[aT,bY];exact H),af6 Y H,af6 (by rw[kK,nT];exact Y) (by rw[aT,bY];exact H)];cases op<;>simp only[jO]at h⊢
   ·obtain⟨a,b⟩:=ag6 B Z A E h;rw[b];exact⟨a,rfl⟩
   ·obtain⟨a,b⟩:=ag6 B Z A E h;rw[b];exact⟨a,rfl⟩
theorem aod: ∀{gh:List sm} {bz bs z1 JS:List Value},jF gh bz bs=true->bM u J bz z1->bM u J bs JS->z1=bz/\JS=bs
 | [],[],[],z1,JS,_,A,E=>by have aG:z1=[]:=n2 (by rw[<-A.1];rfl);have aN:JS=[]:=n2 (by rw[<-E.1];rfl);exact⟨aG,aN⟩
 |k::gh,a::bz,b::bs,[],_,_,A,_=>by simp[bM]at A
 |k::gh,a::bz,b::bs,_::_,[],_,_,E=>by simp[bM]at E
 | k::gh,a::bz,b::bs,ev::z1,cB::JS,h,A,E=>by simp only[jF,a7]at h;obtain⟨aG,aN⟩:=aod h.2 ⟨by simpa using A.1,λi x y B Z=>A.2 (i+1) x y (by simpa using B) (by simpa using Z)⟩ ⟨by simpa using E.1,λi x y B Z=>E.2 (i+1) x y (by simpa using B) (by simpa using Z)⟩;have ag:=A.2 0 a ev rfl rfl;have hb:=E.2 0 b cB rfl rfl;have O:=h.1;have ct:ev=a:=(by cases k<;>cases a<;>cases b<;>simp[BP]at O<;>exact ag.hB rfl);have gC:cB=b:=(by cases k<;>cases a<;>cases b<;>simp[BP]at O<;>exact hb.hB rfl);rw[aG,aN,ct,gC];exact⟨rfl,rfl⟩
 |[],_::_,_,_,_,h,_,_=>by simp[jF]at h
 |[],[],_::_,_,_,h,_,_=>by simp[jF]at h
 |_::_,[],_,_,_,h,_,_=>by simp[jF]at h
 |_::_,_::_,[],_,_,h,_,_=>by simp[jF]at h
theorem aoD(b4:hF u J z K)(fP:Bool): ∀(xs:List Operand) (dY:Value),xs.all di=true->(xs.all λy=>fu (S z y))=true->fu dY=true->
 (xs.foldl (λdY y=>if fP then pZ dY (S K y)else p1 dY (S K y)) dY=xs.foldl (λdY y=>if fP then pZ dY (S z y)else p1 dY (S z y)) dY)/\fu (xs.foldl (λdY y=>if fP then pZ dY (S z y)else p1 dY (S z y)) dY)=true
 |[],dY,_,_,h=>⟨rfl,h⟩
 | y::xs,dY,ag,Y,h=>by simp only[m9,a7]at ag Y;have e:=sP (b4.S ag.1) Y.1;simp only[zN,e];refine aoD b4 fP xs _ ag.2 Y.2 ?_;have A:=Y.1;cases dY<;>simp[fu]at h;cases Z:S z y<;>simp[Z,fu]at A;split<;>rfl
theorem avp(h:fu v=true):ew v=true:=by cases v<;>simp[fu]at h<;>rfl
def an.acv:an->Bool
 | .nD _| .oK _| .mv _ _ _ _| .qb _| .ov _ _ _ _ _| .app _ _ _ _| .o8 _ _ _ _ _| .hW _ _| .re| .store _ _ _| .po _ _ _ _| .l2 _ _| .nc _ _| .mE _ _ _=>false
 |_=>true
theorem aFP{k:an}(h:k.acv=true){id kl:Nat}:k.pn id z t=t/\k.hr kl K m=m:=by cases k<;>first|exact⟨rfl,rfl⟩|cases h
theorem aFQ(H:ep J u t m)(b4:hF u J z K){k:an}(bg:k.acv=true)(aC:AU k=true)(ax:k.js z t=true)(id kl:Nat):k.ok K m=true/\cu u J (k.jY id z t) (k.val kl K m):=by
 simp only[AU,a7]at aC;obtain⟨ag,bE⟩:=aC;cases k with
 |hY x=>simp[an.h0]at ag;exact⟨rfl,b4.S ag⟩
 | vl c a b=>
   simp[an.h0]at ag;have e:=anJ (b4.S ag.1) ax;refine⟨by simp only[an.ok,e];exact ax,?_⟩;simp only[an.jY,an.val,e];split
   ·exact b4.S ag.2.1
   ·exact b4.S ag.2.2
 | vj x=>
   simp[an.h0]at ag;have M:=b4.S ag;refine⟨?_,M⟩;simp only[an.js,an.ok]at ax⊢;generalize S z x=a at M ax;generalize S K x=ev at M;cases M with
   |c4=>exact ax
   |_=>rfl
 | vQ I ps=>have kG: ∀p∈ps,di p.2.2=true:= λp ae=>ei.1 ag _ (by simp only[an.h0];exact List.mem_map_of_mem ae);have aA:=bM.c4 (u:=u) (J:=J) bE;exact⟨apo b4 rfl kG ax,(ab8 b4 aA kG).agg⟩
 | hq dE n x=>simp[an.h0]at ag;simp only[an.js,a7]at ax;refine⟨?_,abm H (b4.S ag) ax.1 ax.2⟩;simp only[an.ok,a7];exact⟨JF H (b4.S ag) ax.1,ax.2⟩
 | oJ op c x y=>simp[an.h0]at ag;simp only[an.js,a7]at ax;obtain⟨A,E⟩:=atD (b4.S ag.1) (b4.S ag.2) ax.1.1 ax.1.2 ax.2;refine⟨A,?_⟩;simp only[an.jY,an.val,E];exact cu.yd (atC _ _ _)
 | Af kx gh x y=>simp[an.h0]at ag;simp only[an.js,an.ok,a7]at ax;have B:=b4.S ag.1;have Z:=b4.S ag.2;simp only[an.ok,an.jY,an.val];cases hh:S z x<;>simp[hh,wz]at ax;cases Lj:S z y<;>simp[Lj]at ax;rw[hh]at B;rw[Lj]at Z;obtain⟨xs,aG,hS⟩:=B.tQ;obtain⟨ys,aN,jn⟩:=Z.tQ;obtain⟨ct,gC⟩:=aod ax hS jn;simp only[aG,aN,ab,ct,gC,wz,DF];exact⟨ax,.c4 rfl⟩
 | zC op x=>
   simp[an.h0]at ag;have M:=b4.S ag;simp only[an.js,an.ok,an.jY,an.val]at ax⊢;cases hh:S z x with
   |int k n=>rw[hh]at M ax;rw[M.tS];exact⟨ax,by cases op<;>first|exact .c4 rfl|exact cu.undef⟩
   |bool b=>rw[hh]at M ax;rw[M.tR];exact⟨ax,by cases op<;>first|exact .c4 rfl|exact cu.undef⟩
   |_=>rw[hh]at ax;cases op<;>simp[Bj]at ax
 | D6 k x=>simp[an.h0]at ag;have e:=sP (b4.S ag) ax;simp only[an.ok,an.jY,an.val,e];exact⟨ax,.c4 rfl⟩
 | GX x=>simp[an.h0]at ag;have e:=Fh (b4.S ag) ax;simp only[an.ok,an.jY,an.val,e];refine⟨ax,?_⟩;simp only[an.js,an.ok]at ax;cases B:S z x<;>simp[B,m0]at ax;exact .c4 rfl
 | pN x=>
   simp[an.h0]at ag;have M:=b4.S ag;simp only[an.js,a7]at ax;have aA:=GS H M ax.1;have e:fy m 1 (S K x)=lp t 1 (S z x):=by
    apply Bv
    ·exact aA.1.symm
    ·intro i A E;have bV:=aA.2 i _ _ (c6 E) (c6 A);have ba:=ei.1 ax.2 _ (kp E);generalize(lp t 1 (S z x))[i]=a at bV ba;cases a<;>simp[Fi]at ba;exact bV.tS
   simp only[an.ok,an.jY,an.val,e,a7];exact⟨⟨Gb H M ax.1,ax.2⟩,.c4 rfl⟩
 | Gc x bh Y=>simp[an.h0]at ag;have lM: ∀o,bh=some o->di o=true:= λo h=>ag.2.1 o h;have yP: ∀o,Y=some o->di o=true:= λo h=>ag.2.2 o h;simp only[an.js,an.ok,a7,eF]at ax;obtain⟨⟨⟨⟨⟨A,E⟩,ao⟩,aS⟩,bI⟩,cZ⟩:=ax;have e:=Fh (b4.S ag.1) A;obtain⟨aG,aN⟩:=M9 b4 lM E 0;obtain⟨ct,gC⟩:=M9 b4 yP ao (fa (S z x));simp only[an.ok,an.jY,an.val,e,aG,aN,ct,gC,a7,eF];exact⟨⟨⟨⟨⟨⟨A,trivial⟩,trivial⟩,aS⟩,bI⟩,cZ⟩,.c4 rfl⟩
 | wP I x bh Y=>
   simp[an.h0]at ag;have lM: ∀o,bh=some o->di o=true:= λo h=>ag.2.1 o h;have yP: ∀o,Y=some o->di o=true:= λo h=>ag.2.2 o h;simp only[an.js,a7,eF]at ax;obtain⟨⟨⟨⟨⟨A,E⟩,ao⟩,aS⟩,bI⟩,cZ⟩:=ax;have M:=b4.S ag.1;have xi:=Ti M;obtain⟨aG,aN⟩:=M9 b4 lM E 0;obtain⟨ct,gC⟩:=M9 b4 yP ao (lz (S z x));simp only[an.ok,an.jY,an.val,<-xi,aG,aN,ct,gC,a7,eF];refine⟨⟨⟨⟨⟨⟨NR M A,trivial⟩,trivial⟩,aS⟩,bI⟩,cZ⟩,aqN M A (by omega) ?_⟩;have:lz (S z x)=lj (S z x):=by
    have jw:=NR M A;rw[xi,I2 M];unfold pC at jw;split at jw
    ·simp at jw;next bg=>rw[bg];simp[fa,fW]
    ·next bg=>rw[bg];simp[fa,fW]
    ·cases jw
   omega
 | Bg I x bh Y fP=>
   simp[an.h0]at ag;have lM: ∀o,bh=some o->di o=true:= λo h=>ag.2.2.2 o (by simp[h]);simp only[an.js,a7,eF]at ax;obtain⟨⟨⟨⟨⟨⟨⟨A,E⟩,ao⟩,aS⟩,bI⟩,cZ⟩,eg⟩,hf⟩:=ax;have M:=b4.S ag.1;have xi:=Ti M;obtain⟨aG,aN⟩:=M9 b4 lM E 0;have ct:=sP (b4.S ag.2.1) ao;have gC:=sP (b4.S ag.2.2.1) aS;simp only[an.ok,an.jY,an.val,<-xi,aG,aN,ct,gC,a7,eF];refine⟨⟨⟨⟨⟨⟨⟨⟨NR M A,trivial⟩,ao⟩,aS⟩,bI⟩,cZ⟩,eg⟩,hf⟩,aqN M A (by omega) ?_⟩;have:lz (S z x)=lj (S z x):=by
    have jw:=NR M A;rw[xi,I2 M];unfold pC at jw;split at jw
    ·simp at jw;next bg=>rw[bg];simp[fa,fW]
    ·next bg=>rw[bg];simp[fa,fW]
    ·cases jw
   omega
 | s5 I n x=>
   simp[an.h0]at ag;have M:=b4.S ag;simp only[an.js,an.ok,a7]at ax;simp only[an.ok,an.jY,an.val,a7];have pU:oV (S z x)=false:=by cases B:S z x<;>simp[B,g2]at ax<;>rfl
   have a8:sv t (S z x) (n*I)=true:=(by rw[sv,pU];exact ax.1);refine⟨⟨JF H M a8,ax.2⟩,?_⟩;cases B:S z x<;>simp[B,g2]at ax
   next a=>
    cases a with
    |none=>simp at ax
    | some a=>rw[B]at M;obtain⟨b,A,E,ao⟩:=M.sO;rw[ao];simp only[JK];exact .slice A
 |kt off x=>simp[an.h0]at ag;exact⟨apD (b4.S ag) ax,apC (b4.S ag) ax off⟩
 | field dE off n x=>
   simp[an.h0]at ag;have M:=b4.S ag;simp only[an.js,an.ok,a7]at ax;simp only[an.ok,an.jY,an.val,a7];cases B:S z x<;>simp[B,Kj]at ax;rw[B]at M;obtain⟨ys,e,aA⟩:=M.tQ;have:=aA.1;simp at this;rw[e];refine⟨⟨by simp[Kj];omega,by simpa using ax.2⟩,?_⟩;simp only[Py];split
   ·exact((aA.drop _).take _).agg
   ·next xq=>rename_i cs;have A:n=1:=(by simpa[xq]using ax.2);have Y:off<cs.toList.length:=(by simp;omega);obtain⟨y,Z,XK⟩:=aA.F (c6 Y);rw[m7,m7,c6 Y,Z];exact XK
 | mZ I x i=>simp[an.h0]at ag;simp only[an.js,a7,eF]at ax;obtain⟨⟨⟨A,E⟩,ao⟩,aS⟩:=ax;have M:=b4.S ag.1;have e:=sP (b4.S ag.2) E;simp only[an.ok,an.jY,an.val,e,<-Ti M,a7,eF];exact⟨⟨⟨⟨NR M A,E⟩,ao⟩,aS⟩,aIs M A ao aS⟩
 | AF I n x i=>simp[an.h0]at ag;simp only[an.js,a7,eF]at ax;obtain⟨⟨⟨A,E⟩,ao⟩,aS⟩:=ax;have M:=b4.S ag.1;have e:=sP (b4.S ag.2) E;simp only[an.ok,an.jY,an.val,e,a7,eF];exact⟨⟨⟨⟨apD M A,E⟩,ao⟩,aS⟩,apC M A _⟩
 | EP x i=>simp[an.h0]at ag;simp only[an.js,an.ok,a7,eF]at ax;obtain⟨⟨⟨A,E⟩,ao⟩,aS⟩:=ax;have e:=sP (b4.S ag.2) E;have aG:=Fh (b4.S ag.1) A;simp only[an.ok,an.jY,an.val,e,aG,a7,eF];exact⟨⟨⟨⟨A,E⟩,ao⟩,aS⟩,.c4 rfl⟩
 | ext i x=>simp[an.h0]at ag;have M:=b4.S ag;simp only[an.js,an.ok]at ax;simp only[an.ok,an.jY,an.val];cases B:S z x<;>simp[B,Gj]at ax;rename_i vs;rw[B]at M;obtain⟨ys,e,aA⟩:=M.ET;have:=aA.1;simp at this;rw[e];have Y:i<vs.toList.length:=(by simpa using ax);obtain⟨y,Z,XK⟩:=aA.F (c6 Y);refine⟨by simp[Gj];omega,?_⟩;simp only[Du];rw[m7,m7,c6 Y,Z];exact XK
 | Fy x=>simp[an.h0]at ag;have aG:=Fh (b4.S ag) ax;simp only[an.ok,an.jY,an.val,aG];exact⟨ax,.c4 rfl⟩
 | vg x=>simp[an.h0]at ag;have M:=b4.S ag;refine⟨aCD M ax,?_⟩;simp only[an.jY,an.val,Ti M];exact .c4 rfl
 | D2 x=>simp[an.h0]at ag;have M:=b4.S ag;simp only[an.js,an.ok]at ax⊢;rw[S4 ax]at M;rw[M.hB rfl];exact⟨rfl,.c4 rfl⟩
 | za fP x xs=>simp[an.h0]at ag;simp only[an.js,an.ok,a7]at ax;have e:=sP (b4.S ag.1) ax.1;have XS:xs.all di=true:=(by simpa using ag.2);obtain⟨A,E⟩:=aoD b4 fP xs (S z x) XS ax.2 ax.1;simp only[an.ok,an.jY,an.val,e,A,a7];refine⟨⟨ax.1,?_⟩,.c4 (avp E)⟩;simp only[ei]at ax XS⊢;intro y Z;rw[sP (b4.S (XS y Z)) (ax.2 y Z)];exact ax.2 y Z
 | zb fn first ks=>
   simp only[an.js]at ax;simp only[an.h0,Gt,a7]at ag;refine⟨rfl,?_⟩;simp only[an.jY,an.val];cases fn with
   | func f=>have A:=b4.B0 ag.1;have E:=b4.B0 ag.2;exact .func (by simpa using A.1) (by simpa using A.2) (by simpa using E.1) (by simpa using E.2)
   |_=>cases ax
 |FG qC x=>simp[an.h0]at ag;exact⟨rfl,.iface (b4.S ag)⟩
 | Jd qC x=>simp[an.h0]at ag;have M:=b4.S ag;simp only[an.js,an.ok]at ax;simp only[an.ok,an.jY,an.val];cases B:S z x<;>simp[B,Lp]at ax;rw[B]at M;obtain⟨y,e,A⟩:=M.Lt;rw[e];exact⟨by simpa[Lp]using ax,A⟩
 | rf bc I o x eX=>
   simp[an.h0]at ag;simp only[an.js,an.ok]at ax;simp only[an.ok,an.jY,an.val];cases al:lQ t (S z x)with
   |none=>rw[al]at ax;cases ax
   | some es=>
     rw[al]at ax;simp only at ax;obtain⟨de,A,E⟩:=aDX H (b4.S ag.1) al;obtain⟨ao,aS,bI⟩:=an6 E (b4.S ag.2) ax;rw[A,aS];rw[aS]at ao;refine⟨ao,?_⟩;simp only[Option.bind_some];have EN:cu u J I I:= .c4 bE;rcases aou (k:=S z eX) E bI with⟨aG,aN⟩|⟨a,b,aG,aN,ct⟩
     ·rw[aG,aN];split
      ·exact(bM.cons EN (bM.cons (.c4 rfl) bM.nil)).tuple
      ·exact EN
     ·rw[aG,aN];split
      ·exact(bM.cons ct (bM.cons (.c4 rfl) bM.nil)).tuple
      ·exact ct
 |_=>cases bg
end
def gw(J:e3)(id mid:Nat):e3:= λo=>if o=id then some mid else J o
section
variable {u:fY} {J:e3} {z K:aD} {t m:G} {v bZ:Value} {id mid ht hU:Nat}
theorem fN.set(h:J id=none):fN J (gw J id mid):= λo b hb=>by
 unfold gw;split
 ·next e=>subst e;rw[h]at hb;cases hb
 ·exact hb
structure tk(J:e3)(u:fY)(t m:G)(id mid:Nat):Prop where
 e:J id=none
 b: ∀o,J o≠some mid
 f:u mid=none
 uj:id<t.next
 tZ:mid<m.next
theorem tk.g3(aj:tk J u t m id mid){o b:Nat}(h:J o=some b):b≠mid:= λe=>by subst e;exact aj.b o h
theorem ep.g3(H:ep J u t m){p o c b:Nat}(h:J p=some c)(cw:J o=some b)(aj:p≠o):c≠b:= λe=>by subst e;exact aj (H.inj p o c h cw)
theorem ji{m:G}{b:Nat}{es:List (Value×Value)}(h:m.fC b=some es):m.F b=some ⟨[],true⟩/\m.mp b=some es:=by
 unfold G.fC at h;cases aH:m.F b with
 |none=>rw[aH]at h;cases h
 | some x=>
   obtain⟨cs,w⟩:=x;rw[aH]at h;cases cs with
   | nil=>cases w with
     |true=>exact⟨rfl,h⟩
     |false=>cases h
   |cons c cs=>cases h
theorem kT{m:G}{b:Nat}{es:List (Value×Value)}(h:m.F b=some ⟨[],true⟩)(cw:m.mp b=some es):m.fC b=some es:=by unfold G.fC;rw[h];exact cw
theorem Tz(H:ep J u t m)(aj:tk J u t m id mid){cs nH:List Value}(av:bM u J cs nH):ep (gw J id mid) u (t.aK id (some ⟨cs,true⟩)) (m.aK mid (some ⟨nH,true⟩)) where
 jc o x B:=by
  by_cases aC:o=id
  ·subst aC;rw[cb aj.uj]at B;cases B;exact .inl ⟨mid,nH,true,by simp[gw],cb aj.tZ,λ_=>rfl,av.bt (g7.refl _) (fN.set aj.e)⟩
  ·rw[aX aC]at B;rcases H.jc o x B with⟨b,ds,w,A,E,ao,aS⟩|⟨A,E⟩
   ·exact .inl ⟨b,ds,w,by simp[gw,aC,A],by rw[aX (aj.g3 A),E],ao,aS.bt (g7.refl _) (fN.set aj.e)⟩
   ·exact .inr ⟨by simp[gw,aC,A],E⟩
 maps o es aU:=by
  by_cases aC:o=id
  ·subst aC;have:=(ji aU).2;rw[show(t.aK o (some ⟨cs,true⟩)).mp=t.mp from rfl,H.jA o aj.e]at this;cases this
  ·rw[vX aC]at aU;obtain⟨b,de,A,E,ao⟩:=H.maps o es aU;exact⟨b,de,by simp[gw,aC,A],by rw[vX (aj.g3 A),E],ao.bt (g7.refl _) (fN.set aj.e)⟩
 jA o h:=by
  simp only[gw]at h;split at h
  ·cases h
  ·exact H.jA o h
 inj o o' b h cw:=by
  simp only[gw]at h cw;split at h
  ·cases h;split at cw
   ·next a b=>rw[a,b]
   ·exact absurd cw (aj.b o')
  ·split at cw
   ·cases cw;exact absurd h (aj.b o)
   ·exact H.inj o o' b h cw
 cU o b h:=by
  simp only[gw]at h;split at h
  ·next e=>cases h;subst e;exact⟨aj.uj,aj.tZ⟩
  ·exact H.cU o b h
 b0 b ds h:=by
  have hb:b≠mid:= λe=>by subst e;rw[aj.f]at h;cases h
  obtain⟨⟨w,A⟩,E⟩:=H.b0 b ds h;refine⟨⟨w,by rw[aX hb,A]⟩,λo x aC B=> ?_⟩;simp only[gw]at aC;split at aC
  ·cases aC;exact absurd rfl hb
  ·next bx=>rw[aX bx]at B;exact E o x aC B
theorem aoU(aj:tk J u t m id mid)(A:ht<=id)(E:hU<=mid){x:Option en}{y:Option en}:e4 ht hU J u t m (gw J id mid) u (t.aK id x) (m.aK mid y) where
 e:=fN.set aj.e
 f:=g7.refl _
 la o b h:=by
  simp only[gw]at h;split at h
  ·next e=>cases h;subst e;exact .inr ⟨A,E⟩
  ·exact .inl h
 fn b cs h:= .inl h
 lk:=c8 _
 lR:=c8 _
 dg b hb _:=aX (by omega)
 sg b hb:= λ⟨o,y,h,cw,sB⟩=>by
  simp only[gw]at h;split at h
  ·cases h;omega
  ·next bx=>exact⟨o,y,h,by rw[aX bx]at cw;exact cw,sB⟩
 tn b hb:= λ⟨o,y,h,cw⟩=>by
  simp only[gw]at h;split at h
  ·cases h;omega
  ·next bx=>exact⟨o,y,h,by rw[aX bx]at cw;exact cw⟩
theorem aEt(H:ep J u t m)(aj:tk J u t m id mid){es de:List (Value×Value)}(av:so u J es de):ep (gw J id mid) u (t.hL id es) (m.hL mid de) where
 jc o x B:=by
  by_cases aC:o=id
  ·subst aC;rw[Ks aj.uj]at B;cases B;exact .inl ⟨mid,[],true,by simp[gw],Ks aj.tZ,λ_=>rfl,bM.nil⟩
  ·rw[o9 aC]at B;rcases H.jc o x B with⟨b,ds,w,A,E,ao,aS⟩|⟨A,E⟩
   ·exact .inl ⟨b,ds,w,by simp[gw,aC,A],by rw[o9 (aj.g3 A),E],ao,aS.bt (g7.refl _) (fN.set aj.e)⟩
   ·exact .inr ⟨by simp[gw,aC,A],E⟩
 maps o fs aU:=by
  by_cases aC:o=id
  ·subst aC;rw[Kq aj.uj]at aU;cases aU;exact⟨mid,de,by simp[gw],Kq aj.tZ,av.bt (g7.refl _) (fN.set aj.e)⟩
  ·rw[Kp aC]at aU;obtain⟨b,de,A,E,ao⟩:=H.maps o fs aU;exact⟨b,de,by simp[gw,aC,A],by rw[Kp (aj.g3 A),E],ao.bt (g7.refl _) (fN.set aj.e)⟩
 jA o h:=by
  simp only[gw]at h;split at h
  ·cases h
  ·next bx=>show(if o=id then some es else t.mp o)=none;rw[if_neg bx];exact H.jA o h
 inj:=(Tz H aj (cs:=[]) (nH:=[]) bM.nil).inj
 cU:=(Tz H aj (cs:=[]) (nH:=[]) bM.nil).cU
 b0 b ds h:=by
  have hb:b≠mid:= λe=>by subst e;rw[aj.f]at h;cases h
  obtain⟨⟨w,A⟩,E⟩:=H.b0 b ds h;refine⟨⟨w,by rw[o9 hb,A]⟩,λo x aC B=> ?_⟩;simp only[gw]at aC;split at aC
  ·cases aC;exact absurd rfl hb
  ·next bx=>rw[o9 bx]at B;exact E o x aC B
theorem aEs(aj:tk J u t m id mid)(A:ht<=id)(E:hU<=mid){es de:List (Value×Value)}:e4 ht hU J u t m (gw J id mid) u (t.hL id es) (m.hL mid de) where
 e:=fN.set aj.e
 f:=g7.refl _
 la o b h:=by
  simp only[gw]at h;split at h
  ·next e=>cases h;subst e;exact .inr ⟨A,E⟩
  ·exact .inl h
 fn b cs h:= .inl h
 lk:=c8 _
 lR:=c8 _
 dg b hb _:=o9 (by omega)
 sg b hb:= λ⟨o,y,h,cw,sB⟩=>by
  simp only[gw]at h;split at h
  ·cases h;omega
  ·next bx=>exact⟨o,y,h,by rw[o9 bx]at cw;exact cw,sB⟩
 tn b hb:= λ⟨o,y,h,cw⟩=>by
  simp only[gw]at h;split at h
  ·cases h;omega
  ·next bx=>exact⟨o,y,h,by rw[o9 bx]at cw;exact cw⟩
theorem arH(H:ep J u t m){o b:Nat}{x:en}{nH:List Value}{w:Bool}(cp:J o=some b)(B:t.F o=some x)(aQ:x.own=true)(hb:m.F b=some ⟨nH,w⟩)
 {ds gB:List Value} (aA:ds.length=x.cells.length) (av:bM u J ds gB) (ai7:w=true):ep J u (t.aK o (some ⟨ds,true⟩)) (m.aK b (some ⟨gB,w⟩)) where
 jc p y Z:=by
  have dA:=H.cU o b cp;by_cases aC:p=o
  ·subst aC;rw[cb dA.1]at Z;cases Z;exact .inl ⟨b,gB,w,cp,cb dA.2,λ_=>ai7,av⟩
  ·rw[aX aC]at Z;rcases H.jc p y Z with⟨c,ds,w,A,E,ao,aS⟩|A
   ·exact .inl ⟨c,ds,w,A,by rw[aX (H.g3 A cp aC),E],ao,aS⟩
   ·exact .inr A
 maps p es aU:=by
  have dA:=H.cU o b cp;by_cases aC:p=o
  ·subst aC;obtain⟨A,E⟩:=ji aU;rw[cb dA.1]at A;have aW:ds=[]:=(by simpa using A);subst aW;have iu:x.cells=[]:=n2 aA.symm;have:t.fC p=some es:=kT (by rw[B];obtain⟨a,b⟩:=x;simp at iu aQ;simp[iu,aQ]) E;obtain⟨cB,de,aE,a5,ch⟩:=H.maps p es this;rw[cp]at aE;cases aE;have sE:gB=[]:=n2 (by rw[<-av.1];rfl);refine⟨b,de,cp,?_,ch⟩;subst sE;subst ai7;exact kT (cb dA.2) (ji a5).2
  ·rw[vX aC]at aU;obtain⟨c,de,A,E,ao⟩:=H.maps p es aU;exact⟨c,de,A,by rw[vX (H.g3 A cp aC),E],ao⟩
 jA:=H.jA
 inj:=H.inj
 cU:=H.cU
 b0 c es h:=by
  obtain⟨⟨w',A⟩,E⟩:=H.b0 c es h;have av:c≠b:= λe=>by subst e;have:=E o x cp B;rw[aQ]at this;cases this
  refine⟨⟨w',by rw[aX av,A]⟩,λp y ae Z=> ?_⟩;have:p≠o:= λe=>by subst e;rw[cp]at ae;cases ae;exact av rfl
  rw[aX this]at Z;exact E p y ae Z
theorem N6(H:ep J u t m){o b:Nat}{x:en}(cp:J o=some b)(B:t.F o=some x)(aQ:x.own=true){y I:Option en}:e4 ht hU J u t m J u (t.aK o y) (m.aK b I) where
 e:=fN.refl _
 f:=g7.refl _
 la o b h:= .inl h
 fn b cs h:= .inl h
 lk:=c8 _
 lR:=c8 _
 dg c av aj:=aX (λe=>aj (by subst e;exact⟨o,x,cp,B,aQ⟩))
 sg c av:= λ⟨p,bf,h,cw,sB⟩=>by
  by_cases ae:p=o
  ·subst ae;rw[cp]at h;cases h;exact⟨p,x,cp,B,aQ⟩
  ·rw[aX ae]at cw;exact⟨p,bf,h,cw,sB⟩
 tn c av:= λ⟨p,bf,h,cw⟩=>by
  by_cases ae:p=o
  ·subst ae;rw[cp]at h;cases h;exact⟨p,x,cp,B⟩
  ·rw[aX ae]at cw;exact⟨p,bf,h,cw⟩
theorem VO(H:ep J u t m){o:Nat}:ep J u (t.aK o none) m where
 jc p y Z:=by
  by_cases aC:p=o
  ·subst aC;by_cases dA:p<t.next
   ·rw[cb dA]at Z;cases Z
   ·have A:(t.aK p none).F p=none:=Kr (by simp;omega);rw[A]at Z;cases Z
  ·rw[aX aC]at Z;exact H.jc p y Z
 maps p es aU:=by
  by_cases aC:p=o
  ·subst aC;have:=(ji aU).1;by_cases dA:p<t.next
   ·rw[cb dA]at this;cases this
   ·have A:(t.aK p none).F p=none:=Kr (by simp;omega);rw[A]at this;cases this
  ·rw[vX aC]at aU;exact H.maps p es aU
 jA:=H.jA
 inj:=H.inj
 cU:=H.cU
 b0 c es h:=by
  obtain⟨A,E⟩:=H.b0 c es h;refine⟨A,λp y ae Z=> ?_⟩;by_cases aC:p=o
  ·subst aC;by_cases dA:p<t.next
   ·rw[cb dA]at Z;cases Z
   ·have A:(t.aK p none).F p=none:=Kr (by simp;omega);rw[A]at Z;cases Z
  ·rw[aX aC]at Z;exact E p y ae Z
theorem VN{o:Nat}:e4 ht hU J u t m J u (t.aK o none) m where
 e:=fN.refl _
 f:=g7.refl _
 la o b h:= .inl h
 fn b cs h:= .inl h
 lk:=c8 _
 lR:=c8 _
 dg c av aj:=rfl
 sg c av:= λ⟨p,bf,h,cw,sB⟩=>by
  by_cases ae:p=o
  ·subst ae;by_cases dA:p<t.next
   ·rw[cb dA]at cw;cases cw
   ·have A:(t.aK p none).F p=none:=Kr (by simp;omega);rw[A]at cw;cases cw
  ·rw[aX ae]at cw;exact⟨p,bf,h,cw,sB⟩
 tn c av:= λ⟨p,bf,h,cw⟩=>by
  by_cases ae:p=o
  ·subst ae;by_cases dA:p<t.next
   ·rw[cb dA]at cw;cases cw
   ·have A:(t.aK p none).F p=none:=Kr (by simp;omega);rw[A]at cw;cases cw
  ·rw[aX ae]at cw;exact⟨p,bf,h,cw⟩
theorem aa9(H:ep J u t m){o b:Nat}{x:en}(cp:J o=some b)(B:t.F o=some x)(aQ:x.own=true):ep J u (t.aK o none) (m.aK b none) where
 jc p y Z:=by
  have dA:=H.cU o b cp;by_cases aC:p=o
  ·subst aC;rw[cb dA.1]at Z;cases Z
  ·rw[aX aC]at Z;rcases H.jc p y Z with⟨c,ds,w,A,E,ao,aS⟩|A
   ·exact .inl ⟨c,ds,w,A,by rw[aX (H.g3 A cp aC),E],ao,aS⟩
   ·exact .inr A
 maps p es aU:=by
  have dA:=H.cU o b cp;by_cases aC:p=o
  ·subst aC;have:=(ji aU).1;rw[cb dA.1]at this;cases this
  ·rw[vX aC]at aU;obtain⟨c,de,A,E,ao⟩:=H.maps p es aU;exact⟨c,de,A,by rw[vX (H.g3 A cp aC),E],ao⟩
 jA:=H.jA
 inj:=H.inj
 cU:=H.cU
 b0 c es h:=by
  obtain⟨⟨w',A⟩,E⟩:=H.b0 c es h;have av:c≠b:= λe=>by subst e;have:=E o x cp B;rw[aQ]at this;cases this
  refine⟨⟨w',by rw[aX av,A]⟩,λp y ae Z=> ?_⟩;have:p≠o:= λe=>by subst e;rw[cp]at ae;cases ae;exact av rfl
  rw[aX this]at Z;exact E p y ae Z
theorem aEK(s:ByteArray):bM u J (IA s) (IA s):=bM.c4 (by simp only[IA,List.all_map,ei];intro b _;rfl)
structure qG(ht hU id mid:Nat)(J:e3)(u:fY)(t m X U:G)(v bZ:Value)(cV:e3):Prop where
 Uv:ep cV u X U
 val:cu u cV v bZ
 b0:e4 ht hU J u t m cV u X U
 Nf: ∀o,o≠id->cV o=J o
 self:cV id=J id\/cV id=some mid
theorem qG.new(H:ep J u t m)(aj:tk J u t m id mid)(A:ht<=id)(E:hU<=mid){cs nH:List Value}(av:bM u J cs nH){v bZ:Value}(M:cu u (gw J id mid) v bZ):
 ∃cV,qG ht hU id mid J u t m (t.aK id (some ⟨cs,true⟩)) (m.aK mid (some ⟨nH,true⟩)) v bZ cV:=
 ⟨gw J id mid,Tz H aj av,M,aoU aj A E,λo aC=>by simp[gw,aC],.inr (by simp[gw])⟩
theorem qG.yd(H:ep J u t m){v bZ:Value}(M:cu u J v bZ): ∃cV,qG ht hU id mid J u t m t m v bZ cV:=⟨J,H,M,e4.refl,λ_ _=>rfl,.inl rfl⟩
theorem apa(H:ep J u t m)(b4:hF u J z K){k:an}(av:k.lx=false)(aC:AU k=true)(ax:k.js z t=true)(aj:k.fD=true->tk J u t m id mid)(A:ht<=id)(E:hU<=mid):
 k.ok K m=true/\ ∃cV,qG ht hU id mid J u t m (k.pn id z t) (k.hr mid K m) (k.jY id z t) (k.val mid K m) cV:=by
 by_cases bg:k.acv=true
 ·obtain⟨a,b⟩:=aFQ H b4 bg aC ax id mid;obtain⟨aG,aN⟩:=aFP (z:=z) (K:=K) (t:=t) (m:=m) bg (id:=id) (kl:=mid);refine⟨a,?_⟩;rw[aG,aN];exact qG.yd H b
 ·simp only[AU,a7]at aC;obtain⟨ag,bE⟩:=aC;have AD:gw J id mid id=some mid:=(by simp[gw]);cases k with
  |nD I=>exact⟨rfl,qG.new H (aj rfl) A E (bM.c4 bE) (.bC AD)⟩
  | oK x=>simp[an.h0]at ag;exact⟨(b4.S ag).ah ax,qG.new H (aj rfl) A E (b4.S ag).ab (.bC AD)⟩
  | mv a n I ps=>have kG: ∀p∈ps,di p.2.2=true:= λp ae=>ei.1 ag _ (by simp only[an.h0];exact List.mem_map_of_mem ae);exact⟨apo b4 rfl kG ax,qG.new H (aj rfl) A E (ab8 b4 (bM.c4 bE) kG) (.slice AD)⟩
  | qb x=>simp[an.h0]at ag;simp only[an.js,an.ok,a7]at ax;have e:=Fh (b4.S ag) ax.1;simp only[an.ok,an.jY,an.val,an.pn,an.hr,e,a7];exact⟨ax,qG.new H (aj rfl) A E (aEK _) (.slice AD)⟩
  | ov I bytes zero l c=>simp[an.h0]at ag;have xA:=ax;simp only[an.js,an.ok,a7]at ax;have aG:=sP (b4.S ag.1) ax.1.1.1.1.1.1;have aN:=sP (b4.S ag.2) ax.1.1.1.1.1.2;simp only[an.ok,an.jY,an.val,an.pn,an.hr,aG,aN,a7];exact⟨ax,qG.new H (aj rfl) A E (bM.flatten (bM.c4 bE)) (.slice AD)⟩
  | o8 I bytes zero x n=>simp[an.h0]at ag;simp only[an.js,an.ok,a7]at ax;have aG:=sP (b4.S ag.2) ax.1.1.1.1.2;have B:=b4.S ag.1;have ho:=S4 ax.1.1.1.1.1;rw[ho]at B;have aN:=(B.hB rfl).trans ho.symm;simp only[an.ok,an.jY,an.val,an.pn,an.hr,aG,aN,a7];exact⟨ax,qG.new H (aj rfl) A E (bM.flatten (bM.c4 bE)) (.slice AD)⟩
  | hW zero x=>
    simp[an.h0]at ag;have B:=b4.S ag;simp only[an.js,an.ok,a7,eF]at ax;obtain⟨⟨aE,a5⟩,ch⟩:=ax;have pU:iG (S z x)=false:=by cases hh:S z x<;>simp[hh,fF]at aE<;>rfl
    have B3:=Gb H B (I:=zero.length) (by rw[kC,pU];exact aE);have xo:=UA H B a5;simp only[an.ok,an.jY,an.val,an.pn,an.hr,a7,eF];refine⟨⟨⟨B3,xo⟩,ch⟩,?_⟩;cases hh:S z x with
    | slice p l c=>
      rw[hh]at B aE a5;cases p with
      | none=>have ho:=B.hB (by simpa[fF,ew]using aE);rw[ho];exact qG.yd H cu.undef
      | some eG=>
        obtain⟨jE,hG,OS⟩:=eG;cases aH:t.F jE with
        |none=>simp[fF,aH]at aE
        | some y=>
          have j4:y.own=true:=(by simpa[iQ,aH]using a5);have l9:oe t zero (.slice (some ⟨jE,hG,OS⟩) l c)=t.aK jE (some ⟨gV y.cells hG (List.replicate l zero).flatten,y.own⟩):=(by simp only[oe,aH]);rcases B.lv with⟨b,aG,aN,ct⟩|⟨aG,aN,ct,gC⟩
          ·simp only at aG aN ct;subst aN;obtain⟨cs,w,a9,bW,cA⟩:=H.mu aG aH;have aQ:=bW j4;subst aQ;rw[l9,ct];simp only[oe,a9,j4];refine⟨J,?_,cu.undef,N6 H aG aH j4,λ_ _=>rfl,.inl rfl⟩;exact arH H aG aH j4 a9 (by
            have: ∀(vs:List Value) (cs:List Value) (o:Nat),(gV cs o vs).length=cs.length:=by
             intro vs;induction vs with
             |nil=>intro cs o;rfl
             |cons v vs cj=>intro cs o;simp only[gV,cj,List.length_set]
            exact this _ _ _) (cA.gV _ (bM.flatten (bM.c4 bE))) rfl
          ·simp only at aG aN ct;subst ct;have mx:t.aK jE (some ⟨gV y.cells hG (List.replicate 0 zero).flatten,y.own⟩)=t:=apM aH;rw[l9,mx,gC];exact qG.yd H cu.undef
    |_=>simp[hh,fF]at aE
  | re=>have:=aj rfl;exact⟨rfl,gw J id mid,aEt H this ⟨rfl,λi e dw a=>by simp at a⟩,.map AD,aEs this A E,λo aC=>by simp[gw,aC],.inr AD⟩
  | store n x v=>
    simp[an.h0]at ag;have B:=b4.S ag.1;have M:=b4.S ag.2;simp only[an.js,an.ok,a7,eF]at ax;obtain⟨⟨⟨aE,a5⟩,ch⟩,dT⟩:=ax;have pU:oV (S z x)=false:=by cases hh:S z x<;>simp[hh,g2]at aE<;>rfl
    have B3:=JF H B (n:=n) (by rw[sv,pU];exact aE);simp only[an.ok,an.jY,an.val,an.pn,an.hr,a7,eF];cases hh:S z x with
    | pointer p=>
      cases p with
      |none=>simp[hh,g2]at aE
      | some a=>
        rw[hh]at B aE a5;obtain⟨b,aG,aN,ct⟩:=B.sO;obtain⟨jE,hG,OS⟩:=a;simp only at aG aN ct;subst aN;cases aH:t.F jE with
        |none=>simp[aH]at aE
        | some y=>
          simp only[atk,aH,eF]at aE;simp only[afB,aH]at a5;obtain⟨cs,w,a9,bW,cA⟩:=H.mu aG aH;have aQ:=bW a5;subst aQ;rw[ct]at B3⊢;simp only[aIM,aH,a9,afB,a5];refine⟨⟨⟨⟨B3,trivial⟩,M.ah ch⟩,by rw[<-M.ab.1];exact dT⟩,J,?_,cu.undef,N6 H aG aH a5,λ_ _=>rfl,.inl rfl⟩;exact arH H aG aH a5 a9 (by
           have: ∀(vs:List Value) (cs:List Value) (o:Nat),(gV cs o vs).length=cs.length:=by
            intro vs;induction vs with
            |nil=>intro cs o;rfl
            |cons v vs cj=>intro cs o;simp only[gV,cj,List.length_set]
           exact this _ _ _) (cA.gV _ M.ab) rfl
    |_=>simp[hh,g2]at aE
  | app I bytes x y=>
    simp[an.h0]at ag;have B:=b4.S ag.1;have Z:=b4.S ag.2;simp only[an.js,a7,eF]at ax;obtain⟨⟨⟨⟨⟨aE,a5⟩,ch⟩,dT⟩,gj⟩,ft⟩:=ax;have pU:iG (S z x)=false:=by cases hh:S z x<;>simp[hh,fF]at aE<;>rfl
    have ahu:kC t I (S z x)=true:=(by rw[kC,pU];exact aE);have B3:=Gb H B ahu;have xo:=UA H B a5;have av4:=Gb H Z ch;have VY:=I2 Z;have VX:fW (S z x)=fW (S K x):=(by rw[<-I2 B,lj,pU];rfl);have tr:bM u J (fy t I (S z x)) (fy m I (S K x)):=(by have:=GS H B ahu;rw[lp,pU]at this;exact this);have Ab:=GS H Z ch;simp only[an.ok,an.jY,an.val,an.pn,an.hr,a7,eF];refine⟨⟨⟨⟨⟨⟨B3,xo⟩,av4⟩,dT⟩,by rw[<-VX,<-VY];exact gj⟩,by rw[<-VX,<-VY];exact ft⟩,?_⟩;rw[<-VY,<-VX];split
    ·exact qG.yd H B
    ·have q5:=aj rfl;have key: ∃bd bn,hR t (S z x)=bd/\hR m (S K x)=bn/\ep J u bd bn/\e4 ht hU J u t m J u bd bn/\bd.next=t.next/\bn.next=m.next:=by
      refine⟨_,_,rfl,rfl,?_⟩;unfold fF at aE;split at aE
      ·next hh=>rw[hh]at B⊢;have:S K x=_:=B.hB (by simpa[ew]using aE);rw[this];exact⟨H,e4.refl,rfl,rfl⟩
      ·next a l c hh=>
       rw[hh]at B a5⊢;rcases B.lv with⟨b,aG,aN,ct⟩|⟨aG,aN,ct,gC⟩
       ·rw[ct];cases aH:t.F a.block with
        |none=>simp[iQ,aH]at a5
        | some y=>simp only[iQ,aH]at a5;exact⟨aa9 H aG aH a5,N6 H aG aH a5,rfl,rfl⟩
       ·rw[gC];exact⟨VO H,VN,rfl,rfl⟩
      ·cases aE
     obtain⟨bd,bn,aG,aN,u2,tG,avd,ave⟩:=key;rw[aG,aN];have axL:tk J u bd bn id mid:=⟨q5.e,q5.b,q5.f,by rw[avd];exact q5.uj,by rw[ave];exact q5.tZ⟩;obtain⟨cV,q⟩:=qG.new (ht:=ht) (hU:=hU) u2 axL A E (tr.p8 Ab) (v:= .slice (some ⟨id,0,none⟩) (fW (S z x)+lj (S z y)) I) (bZ:= .slice (some ⟨mid,0,none⟩) (fW (S z x)+lj (S z y)) I) (.slice AD);exact⟨cV,q.Uv,q.val,tG.trans q.b0,q.Nf,q.self⟩
  | po bc x eX v=>
    simp[an.h0]at ag;have B:=b4.S ag.1;have O:=b4.S ag.2.1;have M:=b4.S ag.2.2;simp only[an.js,an.ok]at ax;split at ax
    ·next b hh=>
     cases al:t.fC b with
     |none=>simp[al]at ax
     | some es=>
       simp only[al,a7]at ax;obtain⟨c,de,a9,bW,cA⟩:=H.maps b es al;rw[hh]at B;obtain⟨nF,fV,g9⟩:=B.Lu;rw[a9]at fV;cases fV;obtain⟨eK,gp,kZ⟩:=an6 cA O ax.1;simp only[an.ok,an.jY,an.val,an.pn,an.hr,hh,g9,y9,al,bW,Bw,a7];refine⟨⟨eK,M.ad ax.2⟩,J,?_,cu.undef,?_,λ_ _=>rfl,.inl rfl⟩
       ·rw[gp];have Av:cu u J (S z eX) (S z eX):=(by rw[gp]at O;exact O);have axH:=aoI Av M cA kZ;have dA:=H.cU b c a9;refine⟨λp y Z=> ?_,λp fs ae=> ?_,λp ae=> ?_,H.inj,H.cU,λd ds aW=> ?_⟩
        ·by_cases sI:p=b
         ·subst sI;rw[Ks dA.1]at Z;cases Z;exact .inl ⟨c,[],true,a9,Ks dA.2,λ_=>rfl,bM.nil⟩
         ·rw[o9 sI]at Z;rcases H.jc p y Z with⟨nF,ds,w,A,E,ao,aS⟩|A
          ·exact .inl ⟨nF,ds,w,A,by rw[o9 (H.g3 A a9 sI),E],ao,aS⟩
          ·exact .inr A
        ·by_cases sI:p=b
         ·subst sI;rw[Kq dA.1]at ae;cases ae;exact⟨c,_,a9,Kq dA.2,axH⟩
         ·rw[Kp sI]at ae;obtain⟨nF,de,A,E,ao⟩:=H.maps p fs ae;exact⟨nF,de,A,by rw[Kp (H.g3 A a9 sI),E],ao⟩
        ·have bx:p≠b:= λe=>by subst e;rw[a9]at ae;cases ae
         show(if p=b then _ else t.mp p)=none;rw[if_neg bx];exact H.jA p ae
        ·obtain⟨⟨w',aE⟩,a5⟩:=H.b0 d ds aW;have aH:=(ji al).1;have ah7:d≠c:= λe=>by subst e;have:=a5 b _ a9 aH;cases this
         refine⟨⟨w',by rw[o9 ah7,aE]⟩,λp y ae Z=> ?_⟩;have:p≠b:= λe=>by subst e;rw[a9]at ae;cases ae;exact ah7 rfl
         rw[o9 this]at Z;exact a5 p y ae Z
       ·have aH:=(ji al).1;refine⟨fN.refl _,g7.refl _,λ_ _ h=> .inl h,λ_ _ h=> .inl h,c8 _,c8 _,λd aW aQ=> ?_,λd aW=> λ⟨p,bf,h,cw,sB⟩=> ?_,λd aW=> λ⟨p,bf,h,cw⟩=> ?_⟩
        ·exact o9 (λe=>aQ (by subst e;exact⟨b,_,a9,aH,rfl⟩))
        ·by_cases ae:p=b
         ·subst ae;rw[a9]at h;cases h;exact⟨p,_,a9,aH,rfl⟩
         ·rw[o9 ae]at cw;exact⟨p,bf,h,cw,sB⟩
        ·by_cases ae:p=b
         ·subst ae;rw[a9]at h;cases h;exact⟨p,_,a9,aH⟩
         ·rw[o9 ae]at cw;exact⟨p,bf,h,cw⟩
    ·cases ax
  |l2=>cases av
  |nc=>cases av
  |mE=>cases av
  |_=>exact absurd rfl bg
theorem agx(H:ep J u t m)(b4:hF u J z K){bc:List (Operand×Operand)}(ag:bc.all (λp=>di p.1&&di p.2)=true)(h:iZ z t bc=true):iY K bc=true:=by
 simp only[iY,iZ,ei]at h ag⊢;intro p ae;have A:=h p ae;have E:=ag p ae;obtain⟨x,y⟩:=p;simp only[a7]at E;simp only at A⊢;have B:=b4.S E.1;have Z:=b4.S E.2;generalize S z x=a at B A;generalize S K x=ev at B;generalize S z y=b at Z A;generalize S K y=cB at Z;have an0: ∀{a ev:Value},cu u J a ev->ly a=true-> ∀c,aa ev=some c-> ∃cs,u c=some cs:= λag Z c av=>by
  cases ag with
  |c4 h=>have:=(wy h).2.2;rw[this]at Z;cases Z
  |jH e df=>simp[aa]at av;subst av;exact⟨_,df⟩
  |jI=>simp[aa]at av
  |fx e df=>simp[aa]at av;subst av;exact⟨_,df⟩
  |_=>simp[ly]at Z
 have mH: ∀{a ev:Value},cu u J a ev->ly a=false-> ∀c,aa ev=some c-> ∃o,aa a=some o/\J o=some c:= λag Z c av=>by
  cases ag with
  | c4 h=>rename_i a;unfold aa at av;split at av<;>simp[ew]at h av
  |bC cp=>simp[aa]at av;subst av;exact⟨_,rfl,cp⟩
  |slice cp=>simp[aa]at av;subst av;exact⟨_,rfl,cp⟩
  |map cp=>simp[aa]at av;subst av;exact⟨_,rfl,cp⟩
  |jH e=>subst e;simp at Z
  |jI e=>subst e;simp at Z
  |fx e=>subst e;simp at Z
  |_=>simp[aa]at av
 have anZ: ∀{c:Nat} {cs:List Value} {b:Value} {o:Nat},u c=some cs->aa b=some o->JR t b=true->J o=some c->False:= λ{c cs b o} df hb aC cp=>by
  simp only[JR,hb,C2]at aC;cases aH:t.F o with
  |none=>simp[aH]at aC
  | some x=>simp only[aH]at aC;have:=(H.b0 c cs df).2 o x cp aH;rw[aC]at this;cases this
 cases kG:aa ev with
 |none=>rfl
 | some c=>
   cases iL:aa cB with
   |none=>rfl
   | some d=>
     simp only;unfold OP at A;split at A
     ·next DC=>simp only[a7,sj]at A;obtain⟨cs,ej⟩:=an0 B DC c kG;obtain⟨o,eD,gg⟩:=mH Z A.1 d iL;simp only[bne_iff_ne,ne_eq];intro e;subst e;exact anZ ej eD A.2 gg
     ·next DC=>
      split at A
      ·next lC=>obtain⟨cs,ej⟩:=an0 Z lC d iL;obtain⟨o,eD,gg⟩:=mH B (by simpa using DC) c kG;simp only[bne_iff_ne,ne_eq];intro e;subst e;exact anZ ej eD A gg
      ·next lC=>obtain⟨o,eD,gg⟩:=mH B (by simpa using DC) c kG;obtain⟨o',V4,avn⟩:=mH Z (by simpa using lC) d iL;rw[eD,V4]at A;simp only[bne_iff_ne,ne_eq]at A⊢;intro e;subst e;exact A (H.inj o o' c gg avn)
end
end Go.DI
