/-
  A part of the proof, shortened by tools of ours.
-/
import Derived.Lib.AppendZeros
import Derived.Test.YtmmkkggfmigppaaGreatZbb
set_option linter.all false
set_option maxRecDepth 8000
set_option maxHeartbeats 16000000
namespace Go.DI
open Go Go.RowKit
theorem ab2(v:Value):v.oneCell'=ad v:=by cases v<;>rfl
section
variable {P:Program} {w w':World} {ak:Ren} {m:G} {aP:Nat}
def hu(ak:Ren)(id:Nat)(l:vL):Ren:= λb=>if b=id then some l else ak b
theorem sf{id:Nat}{l:vL}(h:ak id=none):gQ ak (hu ak id l):=by
 intro b c7 hb;unfold hu;split
 ·rename_i e;rw[e,h]at hb;cases hb
 ·exact hb
theorem JG(c o j:Nat):(⟨c,o,none⟩:Addr).add j=⟨c,o+j,none⟩:=by unfold Addr.add;split<;>simp_all
theorem dG.cells(al:dG aP ak m w){b:Nat}{x:en}{l:vL}(aH:m.F b=some x)(aA:ak b=some l){off n:Nat}(h:off+n<=x.cells.length):
 ∃ds:List Value,dd ak (gW m b off n) ds/\ds.length=n/\(∀j bf,ds[j]?=some bf->w.cell? ((⟨l.c,l.o+off,none⟩:Addr).add j)=some bf)/\(∀bf∈ds,bf.oneCell'=true):=by
 obtain⟨c7,h5,dc,av,_⟩:=al.md b x aH;rw[aA]at h5;cases h5;have key: ∀j,j<n-> ∃v bZ,x.cells[off+j]?=some v/\ad v=true/\w.cell? ⟨l.c,l.o+(off+j),none⟩=some bZ/\dX ak v bZ:=by intro j aV;have dA:off+j<x.cells.length:=(by omega);obtain⟨A,bZ,E,ao⟩:=av (off+j) _ (c6 dA);exact⟨_,bZ,c6 dA,A,E,ao⟩
 refine⟨(List.range n).map λj=>(w.cell? ⟨l.c,l.o+(off+j),none⟩).getD undef,⟨?_,?_⟩,by simp,?_,?_⟩
 ·simp[gW,aH];omega
 ·intro i bf v ba M;simp only[gW,aH]at ba;rw[ry]at ba;split at ba
  ·rename_i Y;obtain⟨wT,vG,aE,a5,ch,dT⟩:=key i Y;rw[zL,aE]at ba;cases ba;simp[Y,ch]at M;subst M;exact dT
  ·cases ba
 ·intro j bf ba;have aV:j<n:=(by have:=(cN.1 ba).1;simpa using this);obtain⟨wT,vG,aE,a5,ch,dT⟩:=key j aV;simp[aV,ch]at ba;subst ba;rw[JG,n5];exact ch
 ·intro bf ba;simp only[gx,pH]at ba;obtain⟨j,aV,rfl⟩:=ba;obtain⟨wT,vG,aE,a5,ch,dT⟩:=key j aV;rw[ch];simp only[Bw,ab2];rw[dT.ad];exact a5
theorem dG.JI(al:dG aP ak m w){id C gG n:Nat}{cs:List Value}(e2:id<m.next)(ar:ak id=none)
 (yO: ∀b x l,m.F b=some x->ak b=some l->l.c≠C) (kk:w.heap.size<=w'.heap.size) (lL:C<w'.heap.size) (cd:aP<=C)
 (Cn: ∀a:Addr,a.block<w.heap.size->a.block≠C->w'.cell? a=w.cell? a/\w'.frozen? a=w.frozen? a)
 (Hm: ∀k,k<w.heap.size->k≠C->w'.heap[k]?=w.heap[k]?)
 (dc:cs.length<=n) (iu: ∀i v,cs[i]?=some v->ad v=true/\ ∃bZ,w'.cell? ⟨C,gG+i,none⟩=some bZ/\dX ak v bZ)
 (aj: ∀i,i<n->(w'.cell? ⟨C,gG+i,none⟩).isSome=true/\w'.frozen? ⟨C,gG+i,none⟩=false) (XH:o7 w' C):
 dG aP (hu ak id ⟨C,gG,n⟩) (m.aK id (some ⟨cs,true⟩)) w':=by
 have eW:=sf (l:=⟨C,gG,n⟩) ar;refine⟨λb l hb=> ?_,λb l hb=> ?_,λb x B=> ?_,λb x cB hM l c7 A E ao aS bI cZ=> ?_,λb es hb=> ?_,λb es hb=> ?_,λb x l B aC aA=> ?_⟩
 ·unfold hu at hb;split at hb
  ·rename_i e;rw[e];exact e2
  ·exact al.lq b l hb
 ·unfold hu at hb;split at hb
  ·cases hb;exact lL
  ·exact qE (al.mb b l hb) kk
 ·rw[G.mX]at B;split at B
  ·rename_i e;cases B;exact⟨⟨C,gG,n⟩,by simp[hu,e],dc,λi v M=>by obtain⟨a9,bZ,bW,cA⟩:=iu i v M;exact⟨a9,bZ,bW,cA.bt eW⟩,λ_=>⟨cd,aj⟩⟩
  ·obtain⟨l,aE,a5,ch,dT⟩:=al.md b x B;have sG:=al.mb b l aE;have bx:=yO b x l B aE;refine⟨l,eW _ _ aE,a5,λi v M=> ?_,λaC=>⟨(dT aC).1,λi Y=> ?_⟩⟩
   ·obtain⟨a9,bZ,bW,cA⟩:=ch i v M;exact⟨a9,bZ,by rw[(Cn _ sG bx).1];exact bW,cA.bt eW⟩
   ·have:=(dT aC).2 i Y;rw[(Cn ⟨l.c,l.o+i,none⟩ sG bx).1,(Cn ⟨l.c,l.o+i,none⟩ sG bx).2];exact this
 ·rw[G.mX]at A ao;unfold hu at bI cZ;split at A
  ·rename_i e;rw[if_neg (by rw[<-e];exact Ne.symm aS)]at ao;rw[if_pos e]at bI;rw[if_neg (by rw[<-e];exact Ne.symm aS)]at cZ;cases bI;exact Ne.symm (yO cB hM c7 ao cZ)
  ·rename_i e;rw[if_neg e]at bI;split at ao
   ·rename_i dw;rw[if_pos dw]at cZ;cases cZ;exact yO b x l A bI
   ·rename_i dw;rw[if_neg dw]at cZ;exact al.rN b x cB hM l c7 A E ao aS bI cZ
 ·obtain⟨l,aA⟩:=al.xV b es hb;exact⟨l,eW _ _ aA⟩
 ·obtain⟨aE,a5⟩:=G.yF hb;have bx:b≠id:= λe=>by
   subst e;obtain⟨l,aA⟩:=al.xV b es a5;rw[ar]at aA;cases aA
  rw[G.mX,if_neg bx]at aE;obtain⟨l,de,bc,dC,fK,iz,ky⟩:=al.maps b es (G.kT aE a5);exact⟨l,de,bc,eW _ _ dC,fK,by rw[Hm l.c (al.mb b l dC) (yO b _ l aE dC)];exact iz,ky.bt eW⟩
 ·rw[G.mX]at B;unfold hu at aA;split at B
  ·rename_i e;rw[if_pos e]at aA;cases aA;exact XH
  ·rename_i e;rw[if_neg e]at aA;exact(al.tY b x l B aC aA).C0 (Hm l.c (al.mb b l aA) (yO b x l B aA))
theorem dG.hR(al:dG aP ak m w)(b:Nat):dG aP ak (m.aK b none) w:=by
 have aH: ∀cB x,(m.aK b none).F cB=some x->cB≠b/\m.F cB=some x:=by
  intro cB x h;rw[G.mX]at h;split at h
  ·split at h<;>cases h
  ·rename_i e;exact⟨e,h⟩
 exact⟨al.lq,al.mb,λcB x B=>al.md cB x (aH cB x B).2,λeH kE eN m6 hS jn A E ao=>al.rN eH kE eN m6 hS jn (aH _ _ A).2 E (aH _ _ ao).2,al.xV,λcB es hb=>by obtain⟨aE,a5⟩:=G.yF hb;exact al.maps cB es (G.kT (aH _ _ aE).2 a5),λeH kE hS A=>al.tY eH kE hS (aH _ _ A).2⟩
theorem Di(b k:Nat)(O:k≠b): ∀(vs:List Value) (o:Nat) (w:World),(w.setCells b o vs).heap[k]?=w.heap[k]?
 |[],_,_=>rfl
 |v::vs,o,w=>by rw[World.setCells,Di b k O vs];simp[World.setCell,Array.getElem?_modify,Ne.symm O]
theorem wM(b:Nat): ∀(vs:List Value) (o:Nat) (w:World),(w.setCells b o vs).heap.size=w.heap.size
 |[],_,_=>rfl
 |v::vs,o,w=>by rw[World.setCells,wM b vs];simp[World.setCell]
theorem z2{aP b:Nat}(hb:aP<=b): ∀(vs:List Value) (o:Nat) (w:World),Below aP w (w.setCells b o vs)
 |[],_,_=>Below.refl _ _
 |v::vs,o,w=>((Below.refl aP w).setCell (p:=⟨b,o,none⟩) hb v).trans (z2 hb vs _ _)
theorem af7: ∀(vs:List Value) (off:Nat) (cs:List Value) (i:Nat),off+vs.length<=cs.length->(gV cs off vs)[i]?=if off<=i/\i<off+vs.length then vs[i-off]? else cs[i]?
 |[],off,cs,i,_=>by simp[gV];intro A E;omega
 | v::vs,off,cs,i,h=>by
   simp only[gV];simp only[m8]at h;rw[af7 vs (off+1) (cs.set off v) i (by simp;omega),Bu];by_cases A:off=i
   ·subst A;rw[if_neg (by omega),if_pos rfl,if_pos (by omega),if_pos (by simp)];simp
   ·by_cases E:off+1<=i/\i<off+1+vs.length
    ·rw[if_pos E,if_pos ⟨by omega,by simp;omega⟩,show i-off=(i-(off+1))+1 by omega];simp
    ·rw[if_neg E,if_neg A,if_neg (by simp;omega)]
theorem dG.store(al:dG aP ak m w){b:Nat}{x:en}{l:vL}(aH:m.F b=some x)(aC:x.own=true)(aA:ak b=some l){off:Nat}{cs dD:List Value}(ar:dd ak cs dD)(lN: ∀v∈cs,ad v=true)
 (h:off+cs.length<=x.cells.length):dG aP ak (m.aK b (some ⟨gV x.cells off cs,x.own⟩)) (w.setCells l.c (l.o+off) dD):=by
 have hb:=G.aF aH;have dc:=ar.1;obtain⟨c7,h5,a9,bW,cA⟩:=al.md b x aH;rw[aA]at h5;cases h5;have q6: ∀cB hM Te,m.F cB=some hM->cB≠b->ak cB=some Te->Te.c≠l.c:= λcB hM Te A E ao=>Ne.symm (al.rN b x cB hM l Te aH aC A (Ne.symm E) aA ao);refine⟨al.lq,λcB c7 cw=>by rw[wM];exact al.mb cB c7 cw,λcB hM B=> ?_,λeH kE eN m6 hS jn A E ao aS bI cZ=> ?_,al.xV,λcB es iL=> ?_,λcB hM c7 B jk h5=> ?_⟩
 ·rw[G.mX]at B;split at B
  ·rename_i e;cases B;subst e;refine⟨l,aA,by rw[GN];exact a9,λi v M=> ?_,λ_=>⟨(cA aC).1,λi Y=> ?_⟩⟩
   ·rw[af7 _ _ _ _ h]at M;split at M
    ·rename_i Y;obtain⟨bf,ba,u3⟩:=ar.F M;refine⟨lN v (fX M),bf,?_,u3⟩;have aV:i-off<dD.length:=(by omega);have:=World.cell?_setCells_in l.c dD (l.o+off) w (λj l8=>by
      have:=((cA aC).2 (off+j) (by omega)).1
      rwa [<-n5]at this) (i-off) aV
     rw[show l.o+off+(i-off)=l.o+i by omega]at this;rw[this];rw[c6 aV]at ba;exact ba
    ·rename_i Y;obtain⟨aE,bZ,a5,ch⟩:=bW i v M;refine⟨aE,bZ,?_,ch⟩;rw[World.cell?_setCells_out l.c dD (l.o+off) w _ (λ_ _=>by show l.o+i<l.o+off\/l.o+off+dD.length<=l.o+i;omega)];exact a5
   ·have bg:=(cA aC).2 i Y;refine⟨?_,by rw[World.frozen?_setCells];exact bg.2⟩;by_cases lu:off<=i/\i<off+dD.length
    ·have:=World.cell?_setCells_in l.c dD (l.o+off) w (λj l8=>by
      have:=((cA aC).2 (off+j) (by omega)).1
      rwa [<-n5]at this) (i-off) (by omega)
     rw[show l.o+off+(i-off)=l.o+i by omega]at this;rw[this];rfl
    ·rw[World.cell?_setCells_out l.c dD (l.o+off) w _ (λ_ _=>by show l.o+i<l.o+off\/l.o+off+dD.length<=l.o+i;omega)];exact bg.1
  ·rename_i e;obtain⟨c7,aE,a5,ch,dT⟩:=al.md cB hM B;have bx:=q6 cB hM c7 B e aE;have av: ∀i,(w.setCells l.c (l.o+off) dD).cell? ⟨c7.c,c7.o+i,none⟩=w.cell? ⟨c7.c,c7.o+i,none⟩:= λi=>World.cell?_setCells_out _ _ _ _ _ (λbV _=>absurd bV bx);refine⟨c7,aE,a5,λi v M=>by rw[av];exact ch i v M,λj4=>⟨(dT j4).1,λi Y=>by rw[av,World.frozen?_setCells];exact(dT j4).2 i Y⟩⟩
 ·have jy: ∀cB hM,(m.aK b (some ⟨gV x.cells off cs,x.own⟩)).F cB=some hM-> ∃ar6,m.F cB=some ar6/\ar6.own=hM.own:=by
   intro cB hM B;rw[G.mX]at B;split at B
   ·rename_i e;cases B;exact⟨x,by rw[e];exact aH,rfl⟩
   ·exact⟨hM,B,rfl⟩
  obtain⟨h2,dC,fK⟩:=jy eH kE A;obtain⟨kP,iz,ky⟩:=jy eN m6 ao;exact al.rN eH h2 eN kP hS jn dC (by rw[fK];exact E) iz aS bI cZ
 ·obtain⟨aE,a5⟩:=G.yF iL;rw[G.mX]at aE;by_cases e:cB=b
  ·subst e;rw[if_pos rfl,if_pos hb]at aE;injection aE with aE;have av:x.cells=[]:=by
    have:=congrArg (λy=>y.cells.length) aE;simp only[GN,yj]at this;exact si.1 this
   have ba:dD=[]:=(by rw[av]at h;simp at h;exact si.1 (by rw[<-dc,h.2];rfl));subst ba;have B:x=⟨[],true⟩:=(by cases x;simp at av aC;rw[av,aC]);obtain⟨jn,de,bc,dC,fK,iz,ky⟩:=al.maps cB es (G.kT (by rw[aH,B]) a5);exact⟨jn,de,bc,dC,fK,iz,ky⟩
  ·rw[if_neg e]at aE;obtain⟨jn,de,bc,dC,fK,iz,ky⟩:=al.maps cB es (G.kT aE a5);exact⟨jn,de,bc,dC,fK,by rw[Di _ _ (q6 cB _ jn aE e dC)];exact iz,ky⟩
 ·rw[G.mX]at B;split at B
  ·rename_i e;subst e;rw[aA]at h5;cases h5;exact(al.tY cB x l aH aC aA).setCells _ _ _
  ·exact(al.tY cB hM c7 B jk h5).setCells _ _ _
end
def rC(P:Program)(o:Oper)(k:an)(a:Act)(aP:Nat)(ak:Ren)(z:aD)(m:G)(w:World)(id:Nat):Prop:=
 ∃bZ w' cT,kh P o a w bZ w'/\gQ ak cT/\(∀b,b≠id->cT b=ak b)/\dX cT (k.val id z m) bZ/\dG aP cT (k.hr id z m) w'/\Below aP w w'
section
variable {P:Program} {w:World} {o:Oper} {a:Act} {ak:Ren} {da:Nat} {z:aD} {m:G} {aP id:Nat}
theorem zD{l:vL}: ∀b,b≠id->hu ak id l b=ak b:= λb h=>by simp[hu,h]
theorem dG.FI(al:dG aP ak m w){cr:World}(aQ:cr.heap=w.heap)(cd:aP<=w.heap.size)(e2:id<m.next)(ar:ak id=none){cs:List Value}{ds:Array Value}{e:TypeId}{b0:Nat×Nat}{n:Nat}
 (dc:cs.length<=n) (aj:n<=ds.size) (iu: ∀(i:Nat) v,cs[i]?=some v->ad v=true/\ ∃bZ,ds[i]?=some bZ/\dX ak v bZ) (kv: ∀i,i<n-> ¬(b0.1<=i/\i<b0.2)) (axj: ¬(b0.1<=ds.size/\ds.size<b0.2):=by simp):
 dG aP (hu ak id ⟨w.heap.size,0,n⟩) (m.aK id (some ⟨cs,true⟩)) (cr.alloc (.cells ds e b0)):=by
 have kk:(cr.alloc (.cells ds e b0)).heap.size=w.heap.size+1:=by show(cr.heap.push _).size=_;rw[Array.size_push,aQ]
 have q5:(cr.alloc (.cells ds e b0)).heap[w.heap.size]?=some (.cells ds e b0):=by show(cr.heap.push _)[_]?=_;rw[aQ];simp
 refine al.JI e2 ar (λb x l B aA=>by have:=al.mb b l aA;omega) (by omega) (by omega) cd (λeG A E=> ?_) (λk A _=>by show(cr.heap.push _)[k]?=_;rw[aQ,Array.getElem?_push,if_neg (by omega)]) dc (λi v M=> ?_) (λi Y=> ?_) (o7.ao6 q5 axj)
 ·have:(cr.alloc (.cells ds e b0)).heap[eG.block]?=w.heap[eG.block]?:=by
   show(cr.heap.push _)[_]?=_;rw[aQ,Array.getElem?_push,if_neg (by omega)]
  exact⟨World.cell?_of_block (w:=w) this,World.frozen?_of_block (w:=w) this⟩
 ·obtain⟨a9,bZ,bW,cA⟩:=iu i v M;refine⟨a9,bZ,?_,cA⟩;simp[World.cell?,q5,bW]
 ·have lu:i<ds.size:=(by omega);refine⟨by simp[World.cell?,q5,lu],?_⟩;have:=kv i Y;simp only[World.frozen?,q5,Bz];simpa using this
theorem xa{cr:World}(aQ:cr.heap=w.heap)(aC:cr.os=w.os)(a8:cr.tape=w.tape)(ba:cr.output=w.output)(cd:aP<=w.heap.size)(x:Obj):Below aP w (cr.alloc x):=by have:Below aP w cr:=⟨aC,a8,ba,by rw[aQ];exact c8 _,λk _=>by rw[aQ]⟩;exact this.alloc (by rw[aQ];exact cd) x
theorem Vy{cs:List Value}{ds:Array Value}(h:dd ak cs ds.toList)(A: ∀v∈cs,ad v=true): ∀(i:Nat) v,cs[i]?=some v->ad v=true/\ ∃bZ,ds[i]?=some bZ/\dX ak v bZ:=by intro i v M;obtain⟨y,Z,u4⟩:=h.F M;exact⟨A v (fX M),y,by simpa using Z,u4⟩
theorem aH1{e:TypeId}{I:List Value}(b2:o.op= .alloc e)(bE:se P e=some I)(al:dG aP ak m w)(cd:aP<=w.heap.size)(e2:id<m.next)(ar:ak id=none):rC P o (.nD I) a aP ak z m w id:=by
 obtain⟨b3,iJ,Y,qm,pg,dV,dc⟩:=Dv bE;refine⟨.pointer (some ⟨w.heap.size,0,none⟩),w.alloc (.cells iJ.cells e),hu ak id ⟨w.heap.size,0,I.length⟩,.inl ?_,sf ar,zD,?_,?_,xa rfl rfl rfl rfl cd _⟩
 ·simp only[execOp,b2,Instr.alloc,Sem.run_bind,zeroValue,typeInfo,run_program,Y,Sem.run_pure,Result.andThen_ok,qm,newVar,newRow];rfl
 ·exact .bC (off:=0) (l:=⟨w.heap.size,0,I.length⟩) (by simp[hu])
 ·refine al.FI rfl cd e2 ar (c8 _) (by rw[<-pg];simp) (Vy (by rw[pg];exact dd.c4 ak dV) λv M=>Ah (ei.1 dV v M)) (λi _=>by simp)
theorem aH4{e:TypeId}{x:Operand}(b2:o.op= .box e x)(B:di x=true)(H:hl ak da z a)(ax:(an.oK x).ok z m=true)(al:dG aP ak m w)(cd:aP<=w.heap.size)(e2:id<m.next)(ar:ak id=none):rC P o (.oK x) a aP ak z m w id:=by
 have M:=aeu (H.S B);have lN:=aet (H.S B) ax;have aA:(a.eval x).cells.size=(ab (S z x)).length:=by have:=M.1;simp at this;exact this.symm
 refine⟨.pointer (some ⟨w.heap.size,0,none⟩),w.alloc (.cells (a.eval x).cells e),hu ak id ⟨w.heap.size,0,(ab (S z x)).length⟩,.inl ?_,sf ar,zD,?_,?_,xa rfl rfl rfl rfl cd _⟩
 ·simp only[execOp,b2,Instr.box,Sem.run_bind,newVar,newRow];rfl
 ·exact .bC (off:=0) (l:=⟨w.heap.size,0,(ab (S z x)).length⟩) (by simp[hu])
 ·exact al.FI rfl cd e2 ar (c8 _) (by omega) (Vy M lN) (λi _=>by simp)
theorem ON{v:Value}{n:Nat}(h:g2 m v n=true): ∃b off x,v= .pointer (some ⟨b,off,none⟩)/\m.F b=some x/\off+n<=x.cells.length:=by
 unfold g2 at h;split at h
 ·rename_i eG;simp only[a7,DG]at h;obtain⟨gR,h⟩:=h;split at h
  ·rename_i x B;obtain⟨b,off,ay⟩:=eG;simp only at gR B h;subst gR;exact⟨b,off,x,rfl,B,by simpa using h⟩
  ·cases h
 ·cases h
theorem ac0{t:TypeId}{dE:Bool}{n:Nat}{eG:Addr}{ds:List Value}(xq:rr P t=some dE)(aj:mj P t=some n)(A:dE=true\/n=1)(aA:ds.length=n)(av: ∀(j:Nat) bf,ds[j]?=some bf->w.cell? (eG.add j)=some bf):
 (loadVar t eG).run P w= .ok (if dE then .agg ds.toArray else ds.headD undef) w:=by
 obtain⟨b3,Y,rfl⟩:=vF aj;simp only[loadVar,Sem.run_bind,aej xq,Result.andThen_ok];cases dE
 ·have E:b3.size=1:=(by simpa using A);rw[E]at aA;obtain⟨d,rfl⟩:=AO aA;have ao:=av 0 d rfl;have e:eG.add 0=eG:=(by simp[Addr.add]);rw[e]at ao;simp only[jO,if_false,List.headD_cons];simp[Go.load,Sem.run,ao]
 ·simp only[if_true,Sem.run_bind,sizeOf,typeInfo,run_program,Y,Sem.run_pure,Result.andThen_ok];have:=run_loadCells_list (P:=P) w eG ds av;rw[aA]at this;simp[this]
theorem abl{dE:Bool}{n:Nat}{v bZ:Value}(al:dG aP ak m w)(M:dX ak v bZ)(ax:g2 m v n=true)(A:dE=true\/n=1):
 ∃(eG:Addr) (ds:List Value),bZ= .pointer (some eG)/\ds.length=n/\(∀(j:Nat) bf,ds[j]?=some bf->w.cell? (eG.add j)=some bf)/\dX ak (lP m dE n v) (if dE then .agg ds.toArray else ds.headD undef):=by
 obtain⟨b,off,x,rfl,B,Hn⟩:=ON ax;obtain⟨l,aA,_,rfl⟩:=M.sO;obtain⟨ds,eK,gp,kZ,ri⟩:=al.cells B aA Hn;refine⟨_,ds,rfl,gp,kZ,?_⟩;simp only[lP];cases dE
 ·have E:n=1:=(by simpa using A);subst E;obtain⟨d,rfl⟩:=AO gp;simp only[jO,if_false,List.headD_cons];have dc:=eK.1;simp only[m8,yj]at dc;obtain⟨bf,ba⟩:=AO dc;rw[ba]at eK⊢;exact eK.2 0 bf d rfl rfl
 ·refine eK.agg λbf ba=> ?_;obtain⟨c7,h5,a9,bW,cA⟩:=al.md b x B;simp only[gW,B]at ba;obtain⟨i,Y,WY⟩:=n4 (Bt (DH ba));exact(bW i bf (by rw[c6 Y,WY])).1
theorem aH9{t:TypeId}{x:Operand}{dE:Bool}{n:Nat}(b2:o.op= .load t x)(xq:rr P t=some dE)(aj:mj P t=some n)(B:di x=true)(H:hl ak da z a)(al:dG aP ak m w)
 (ax:(an.hq dE n x).ok z m=true):rC P o (.hq dE n x) a aP ak z m w id:=by
 simp only[an.ok,a7,uv,eF]at ax;obtain⟨eG,ds,A,E,ao,aS⟩:=abl al (H.S B) ax.1 ax.2;refine⟨_,w,ak,.inl ?_,gQ.refl ak,λ_ _=>rfl,aS,al,Below.refl _ _⟩;simp only[execOp,b2,A,Instr.loadAt,Instr.sureAddr,Sem.run_bind,Sem.run_pure,Result.andThen_ok,ac0 xq aj ax.2 E ao]
theorem aIe{t e:TypeId}{x:Operand}{bh Y fP:Option Operand}{n I:Nat}(b2:o.op= .slice t x bh Y fP)(ag:P.underlying t=some (.array n e))(bE:mj P e=some I)
 (B:di x=true) (A:bh=none) (E:Y=none) (ao:fP=none) (H:hl ak da z a) (al:dG aP ak m w) (ax:(an.s5 I n x).ok z m=true):rC P o (.s5 I n x) a aP ak z m w id:=by
 subst A E ao;simp only[an.ok,a7,eF]at ax;obtain⟨ax,aQG⟩:=ax;obtain⟨b,off,y,aG,Z,Hn⟩:=ON ax;have ar:=H.S B;rw[aG]at ar;obtain⟨l,aA,_,aN⟩:=ar.sO;obtain⟨b3,Y,rfl⟩:=vF bE;obtain⟨c7,h5,a9,bW,cA⟩:=al.md b y Z;rw[aA]at h5;cases h5;refine⟨_,w,ak,aKw b2 ag Y aN,gQ.refl ak,λ_ _=>rfl,?_,al,Below.refl _ _⟩;simp only[an.val,aG,JK];by_cases aj:n=0
 ·rw[if_pos aj];subst aj;exact .slice aA (.inl ⟨rfl,rfl⟩) (c8 _) (by omega)
 ·rw[if_neg aj];have ag:(⟨l.c,l.o+off,none⟩:Addr).add (0*b3.size)=⟨l.c,l.o+off,none⟩:=by
   unfold Addr.add;simp
  rw[ag];exact .slice aA (.inr ⟨rfl,by simp only[Nat.sub_zero];omega⟩) (c8 _) (by omega)
theorem aIf{t:TypeId}{x v:Operand}{n:Nat}(b2:o.op= .store t x v)(aj:mj P t=some n)(B:di x=true)(M:di v=true)(H:hl ak da z a)(al:dG aP ak m w)
 (ax:(an.store n x v).ok z m=true):rC P o (.store n x v) a aP ak z m w id:=by
 simp only[an.ok,a7,eF]at ax;obtain⟨⟨⟨A,E⟩,EA⟩,ao⟩:=ax;have lN:=aet (H.S M) EA;obtain⟨b,off,y,aG,Z,Hn⟩:=ON A;have ar:=H.S B;rw[aG]at ar;obtain⟨l,aA,_,aN⟩:=ar.sO;have j4:y.own=true:=by simpa[aG,rG,Z]using E
 have av:=aeu (H.S M);obtain⟨b3,Y,rfl⟩:=vF aj;have kk:(a.eval v).cells.size=b3.size:=by have:=av.1;simp at this;omega
 obtain⟨c7,h5,a9,bW,cA⟩:=al.md b y Z;rw[aA]at h5;cases h5;have Xi: ∀bf∈(a.eval v).cells.toList,bf.oneCell'=true:=by intro bf ba;obtain⟨i,ih,WY⟩:=n4 ba;have lu:i<(ab (S z v)).length:=(by rw[av.1];exact ih);have:=(av.2 i _ bf (c6 lu) (by rw[c6 ih,WY])).ad;rw[ab2,this];exact lN _ (kp lu)
 refine⟨undef,w.setCells l.c (l.o+off) (a.eval v).cells.toList,ak,.inr ⟨?_,rfl⟩,gQ.refl ak,λ_ _=>rfl,dX.undef ak,?_,z2 (cA j4).1 _ _ _⟩
 ·have kI:=run_storeCells_cells (P:=P) l.c (l.o+off) (a.eval v).cells.toList 0 w (λj aV=>by
   have:=((cA j4).2 (off+j) (by simp at aV;omega)).1
   rwa [<-n5]at this) (λj aV=>by
   have:=((cA j4).2 (off+j) (by simp at aV;omega)).2
   rwa [<-n5]at this) Xi
  simp only[ux]at kI;simp[execOp,b2,aN,Instr.storeAt,Instr.sureAddr,storeVar,sizeOf,typeInfo,Y,kk,kI]
 ·simp only[an.hr,aG,pD,Z];exact al.store Z j4 aA av lN (by omega)
end
theorem PB{I:List Value}(bE:0<I.length): ∀(n i:Nat),i<n*I.length->((List.replicate n I).flatten)[i]?=I[i%I.length]?
 |0,i,h=>by omega
 | n+1,i,h=>by
   rw[Jp,td,zJ];split
   ·rename_i Y;rw[Nat.mod_eq_of_lt Y]
   ·rename_i Y;have E:i-I.length<n*I.length:=(by rw[oC]at h;omega);rw[PB bE n _ E,Nat.mod_eq_sub_mod (by omega:I.length<=i)]
theorem Ed(I:List Value)(n:Nat):((List.replicate n I).flatten).length=n*I.length:=by simp[List.length_flatten]
theorem Tq{I:Array Value}(bE:0<I.size)(n:Nat):(madeCells I (n*I.size)).toList=(List.replicate n I.toList).flatten:=by
 apply yi;intro i;by_cases Y:i<n*I.size
 ·rw[PB (by simpa using bE) n i (by simpa using Y)];have al:i%I.size<I.size:=Nat.mod_lt _ bE;simp[madeCells,Y,al]
 ·rw[qD (by rw[Array.length_toList,size_madeCells];omega),qD (by rw[Ed];simp;omega)]
theorem PA{I:List Value}(p:Value->Prop)(h: ∀v∈I,p v)(n:Nat): ∀v∈(List.replicate n I).flatten,p v:=by intro v M;simp only[Gz,List.mem_replicate]at M;obtain⟨l,⟨_,rfl⟩,E⟩:=M;exact h v E
section
variable {P:Program} {w:World} {o:Oper} {a:Act} {ak:Ren} {da:Nat} {z:aD} {m:G} {aP id:Nat}
theorem aH5{t e:TypeId}{n:Nat}{ps:Array (Nat×Operand)}{I:List Value}{h8:List (Nat×Nat×Operand)}(b2:o.op= .buildSlice t n ps)(a8:P.underlying t=some (.slice e))(bE:se P e=some I)
 (bg:D9 I.length ps.toList=some h8) (bX:0<I.length) (aP7:n*I.length<=16777216) (H:hl ak da z a) (al:dG aP ak m w) (cd:aP<=w.heap.size) (e2:id<m.next) (ar:ak id=none)
 (ax:(an.mv I.length n (List.replicate n I).flatten h8).ok z m=true):rC P o (.mv I.length n (List.replicate n I).flatten h8) a aP ak z m w id:=by
 obtain⟨b3,iJ,Y,qm,pg,dV,dc⟩:=Dv bE;obtain⟨aE,a5⟩:=VW _ _ bg;have y3:iJ.cells.size=b3.size:=by rw[<-dc,<-pg];simp
 have iu:(madeCells iJ.cells (n*iJ.cells.size)).toList=(List.replicate n I).flatten:=by rw[Tq (by omega),pg]
 have v9: ∀v∈(List.replicate n I).flatten,ew v=true:=PA (λv=>ew v=true) (λv M=>ei.1 dV v M) n;simp only[an.ok]at ax;obtain⟨ds,A,E,KB⟩:=Pz H (λi=>some (i*b3.size,b3.size)) ps.toList h8 (List.replicate n I).flatten (madeCells iJ.cells (n*iJ.cells.size)) ⟨aE,λi p q oQ bg=>by obtain⟨aG,aN,ct,gC⟩:=a5 i p q oQ bg;exact⟨aG,aN,by rw[ct,gC,dc]⟩⟩ (by rw[iu];exact dd.c4 ak (ei.2 v9)) (λv M=>Ah (v9 v M)) ax;have v7:(ns (List.replicate n I).flatten z h8).length=ds.size:=by have:=E.1;simpa using this
 have hg:(ns (List.replicate n I).flatten z h8).length=n*I.length:=by
  have key: ∀(h8:List (Nat×Nat×Operand)) (cs:List Value),(ns cs z h8).length=cs.length:=by
   intro h8;induction h8 with
   |nil=>intro cs;rfl
   |cons q h8 cj=>intro cs;obtain⟨a9,bW,cA⟩:=q;simp only[ns];rw[cj,GN]
  rw[key,Ed]
 refine⟨.slice (some ⟨w.heap.size,0,none⟩) n n,w.alloc (.cells ds e),hu ak id ⟨w.heap.size,0,ds.size⟩,.inl ?_,sf ar,zD,?_,?_,xa rfl rfl rfl rfl cd _⟩
 ·have ao:(ps.map λp=>(p.1,a.eval p.2)).toList=ps.toList.map λp=>(p.1,a.eval p.2):=by simp
  have XW:(zeroValue e).run P w= .ok iJ w:=(by simp[zeroValue,typeInfo,Y,qm]);have awv: ¬(2^24<n*b3.size):=(by rw[<-dc];omega);rw[<-ao]at A;simp only[execOp,b2,Instr.buildSlice,Sem.run_bind,run_underlying a8,sizeOf,typeInfo,run_program,Y,Sem.run_pure,Result.andThen_ok,gt_iff_lt,awv,if_false,Sem.run_ite];by_cases sH:n*b3.size=0
  ·have tJ:madeCells iJ.cells (n*iJ.cells.size)= #[]:=(by rw[y3,sH];simp[madeCells]);rw[tJ]at A;simp only[sH,if_true];have axJ:Array.map (λx=>(#[]:Array Value)[x%(#[]:Array Value).size]!) (Array.range 0)= #[]:=(by simp);rw[axJ,A];simp only[newRow,Sem.run_bind];rfl
  ·have tJ:Array.map (λx=>iJ.cells[x%iJ.cells.size]!) (Array.range (n*b3.size))=madeCells iJ.cells (n*iJ.cells.size):=(by unfold madeCells;rw[y3]);simp only[sH,if_false,XW,Result.andThen_ok,tJ,A];simp only[newRow,Sem.run_bind];rfl
 ·exact .slice (off:=0) (l:=⟨w.heap.size,0,ds.size⟩) (by simp[hu]) (.inr ⟨rfl,by show 0+n*I.length<=ds.size;omega⟩) (c8 _) (by have:n*1<=n*I.length:=Nat.mul_le_mul_left _ bX;unfold maxLen;omega)
 ·simp only[an.hr];exact al.FI rfl cd e2 ar (by omega) (c8 _) (Vy E KB) (λi _=>by simp)
theorem aIb{t e:TypeId}{b3:TypeInfo}{I:List Value}{l c:Operand}(b2:o.op= .makeSlice t l c)(a8:P.underlying t=some (.slice e))(bE:se P e=some I)(Y:P.info? e=some b3)(aA:di l=true)(av:di c=true)
 (H:hl ak da z a) (al:dG aP ak m w) (cd:aP<=w.heap.size) (e2:id<m.next) (ar:ak id=none)
 (ax:(an.ov I.length b3.bytes I l c).ok z m=true):rC P o (.ov I.length b3.bytes I l c) a aP ak z m w id:=by
 obtain⟨X2,iJ,ih,qm,pg,dV,dc⟩:=Dv bE;rw[Y]at ih;cases ih;have y3:iJ.cells.size=b3.size:=by rw[<-dc,<-pg];simp
 simp only[an.ok,a7,eF]at ax;obtain⟨⟨⟨⟨⟨⟨A,E⟩,ao⟩,aS⟩,bI⟩,cZ⟩,eg⟩:=ax;obtain⟨aG,Fw,L,jx⟩:=tU (H.S aA) A;obtain⟨aN,aCO,C,lL⟩:=tU (H.S av) E;simp only[jx,lL,eZ]at ao aS bI cZ;have jl:=run_make (P:=P) w t e b3 iJ a8 Y qm Fw aCO L C ao aS (by rw[Int.mul_comm];omega) cZ;have v9: ∀v∈(List.replicate L.toNat I).flatten,ew v=true:=PA (λv=>ew v=true) (λv M=>ei.1 dV v M) _;have eW:L.toNat*I.length<=C.toNat*I.length:=zK _ (by omega);refine⟨_,_,hu ak id ⟨w.heap.size,0,C.toNat*I.length⟩,.inl (by simp only[execOp,b2,aG,aN,jx,lL,Sem.run_bind,jl,Result.andThen_ok];rfl),sf ar,zD,?_,?_,xa rfl rfl rfl rfl cd _⟩
 ·simp only[an.val,jx,eZ];exact .slice (off:=0) (l:=⟨w.heap.size,0,C.toNat*I.length⟩) (by simp[hu]) (.inr ⟨by simp,by simp⟩) (by omega) (by unfold maxLen;omega)
 ·simp only[an.hr,jx,eZ];refine al.FI rfl cd e2 ar (by rw[Ed];exact eW) (by rw[size_madeCells,dc];exact c8 _) (λi v M=> ?_) (λi _=>by simp);have lu:i<L.toNat*I.length:=(by have:=(cN.1 M).1;rwa [Ed]at this);refine⟨Ah (v9 v (fX M)),v,?_,.c4 (v9 v (fX M))⟩;have hf:(madeCells iJ.cells (C.toNat*b3.size)).toList=(List.replicate C.toNat I).flatten:=(by rw[<-y3,Tq (by omega),pg]);rw[<-Om,hf,PB eg _ _ (by omega)];rw[PB eg _ _ lu]at M;exact M
theorem apG: ∀(dj:List Int) (dY:ByteArray),dj.foldl (λr n=>r.push (UInt8.ofNat n.toNat)) dY=dY++⟨(dj.map λn=>UInt8.ofNat n.toNat).toArray⟩
 | [],dY=>by simp only[List.foldl_nil,List.map_nil];apply ByteArray.ext;simp
 | n::dj,dY=>by simp only[zN,lW];rw[apG dj];apply ByteArray.ext;simp[ByteArray.push]
theorem aH7{s d e:TypeId}{x:Operand}(b2:o.op= .convert s d x)(b8:P.underlying s=some (.slice e))(ir:P.underlying d=some .string)(cp:P.underlying e=some (.int .u8))(B:di x=true)
 (H:hl ak da z a) (al:dG aP ak m w) (ax:(an.pN x).ok z m=true):rC P o (.pN x) a aP ak z m w id:=by
 simp only[an.ok,a7]at ax;obtain⟨A,E⟩:=ax;have ar:=H.S B;have conv: ∀v,a.eval x=v->(∃p l c,v= .slice p l c)-> ∀b:ByteArray,(Conv.bytesToString v).run P w= .ok (.string b) w->kh P o a w (.string b) w:=by intro v M ⟨p,l,c,ae⟩ b hb;subst ae;refine .inl ?_;cases p<;>simp[execOp,b2,M,convert,underlying,b8,ir,cp,hb]
 cases ba:S z x<;>simp only[ba,fF]at A<;>try cases A
 rename_i p len c;rw[ba]at ar;refine⟨.string (toBytes (fy m 1 (S z x))),w,ak,?_,gQ.refl ak,λ_ _=>rfl,.c4 rfl,al,Below.refl _ _⟩;cases p with
 | none=>have M:=ar.hB (by simpa[ew]using A);refine conv _ M ⟨_,_,_,rfl⟩ _ ?_;simp only[Conv.bytesToString,ba,fy,toBytes];rfl
 | some eG=>
   simp only[a7,DG,beq_iff_eq]at A;obtain⟨⟨gR,qi⟩,A⟩:=A;split at A
   ·rename_i y Z;simp only[Nat.mul_one,eF]at A;obtain⟨l,ev,cap,aA,_,M,aj,xz,qY⟩:=ar.lv;refine conv _ M ⟨_,_,_,rfl⟩ _ ?_;simp only[ba,fy,Nat.mul_one]at E⊢;obtain⟨ds,eK,gp,kZ,ri⟩:=al.cells Z aA A;have j9: ∃dj:List Int,ds=dj.map (Value.int .u8)/\gW m eG.block eG.off len=dj.map (Value.int .u8):=by
     have awa: ∀(dD vs:List Value),dD.all Fi=true->dd ak dD vs-> ∃dj:List Int,vs=dj.map (Value.int .u8)/\dD=dj.map (Value.int .u8):=by
      intro dD;induction dD with
      |nil=>intro vs _ h;have:=h.1;simp at this;exact⟨[],by simp[si.1 this.symm],rfl⟩
      | cons bf dD cj=>
        intro vs ag h;cases vs with
        |nil=>have:=h.1;simp at this
        | cons v vs=>simp only[m9,a7]at ag;obtain⟨dj,aE,a5⟩:=cj vs ag.2 ⟨by simpa using h.1,λi p q ae bg=>h.2 (i+1) p q (by simpa using ae) (by simpa using bg)⟩;have bX:=h.2 0 bf v rfl rfl;have ai2:=ag.1;cases bf<;>simp[Fi]at ai2;rename_i k n;cases k<;>simp at ai2;exact⟨n::dj,by simp[aE,bX.tS],by simp[a5]⟩
     exact awa _ _ E eK
    obtain⟨dj,u0,aix⟩:=j9;subst u0;rcases aj with⟨rfl,rfl⟩|⟨rfl,aj⟩
    ·have sH:dj=[]:=(by simp at gp;exact gp);subst sH;have:=run_bytesToString (P:=P) w ev 0 0 [] (by simp[loadCells,loadCellsFrom]);rw[this,aix];rfl
    ·have air:=run_loadCells_list (P:=P) w ⟨l.c,l.o+eG.off,none⟩ _ kZ;rw[gp]at air;rw[run_bytesToString w _ len cap dj (by rw[air]),apG,aix];congr 2;apply ByteArray.ext;simp[toBytes,byteOf,Function.comp_def]
   ·cases A
end
section
variable {P:Program} {w:World} {o:Oper} {a:Act} {ak:Ren} {da:Nat} {z:aD} {m:G} {aP id:Nat}
theorem aGZ(t qC e:TypeId)(i:TypeInfo)(a8:P.underlying t=some (.slice e))(Y:P.info? e=some i)(base q:Option Addr)(ya F1 c:Nat)(av:ya<=F1):
 (Builtin.append_ #[t,t] qC #[.slice base ya F1,.slice q 0 c]).run P w= .ok (.slice base ya F1) w:=by
 have bb:(Builtin.firstCells i.size 0 (.slice q 0 c)).run P w= .ok #[] w:=by cases q<;>simp[Builtin.firstCells,loadCells,loadCellsFrom]
 cases base<;>simp[Builtin.append_,run_underlying a8,sizeOf,typeInfo,Y,Builtin.lenOf,av,bb,storeCells]
theorem aGY(t qC e:TypeId)(i:TypeInfo)(a8:P.underlying t=some (.slice e))(Y:P.info? e=some i)(c o ya F1:Nat)(eG:Addr)(n GY:Nat)(hZ:List Value)(aA:hZ.length=n*i.size)
 (Hk: ∀(j:Nat) bf,hZ[j]?=some bf->w.cell? (eG.add j)=some bf) (A: ∀bf∈hZ,bf.oneCell'=true) (AB:ya+n<=F1)
 (v5: ∀j,j<hZ.length->(w.cell? ⟨c,o+ya*i.size+j,none⟩).isSome=true) (kv: ∀j,j<hZ.length->w.frozen? ⟨c,o+ya*i.size+j,none⟩=false):
 (Builtin.append_ #[t,t] qC #[.slice (some ⟨c,o,none⟩) ya F1,.slice (some eG) n GY]).run P w= .ok (.slice (some ⟨c,o,none⟩) (ya+n) F1) (w.setCells c (o+ya*i.size) hZ):=by
 have bb:=run_firstCells_some (P:=P) w i.size n eG n GY hZ aA Hk;have kI:=run_storeCells_cells (P:=P) c (o+ya*i.size) hZ 0 w (by simpa using v5) (by simpa using kv) A;simp only[ux]at kI;simp[Builtin.append_,run_underlying a8,sizeOf,typeInfo,Y,Builtin.lenOf,AB,bb,JG,kI]
theorem Oi{c:Call}{x y:Operand}{t s:TypeId}{bf v r:Value}{w':World}(b2:o.op= .call c)(av:c.callee= .builtin .append)(ag:c.args.toList=[x,y])(fm:c.argTypes.toList=[t,s])
 (B:a.eval x=bf) (Z:a.eval y=v) (h:(Builtin.append_ #[t,s] o.type #[bf,v]).run P w= .ok r w'):kh P o a w r w':=by
 refine .inl ?_;have kG:c.args= #[x,y]:=by rw[<-tc (xs:=c.args),ag]
 have An:c.argTypes= #[t,s]:=by rw[<-tc (xs:=c.argTypes),fm]
 simp[execOp,b2,resolve,av,kG,An,invoke,builtin,B,Z,h]
theorem zB{I:Nat}{v:Value}(h:fF m I v=true):v= .slice none 0 0\/ ∃b off len x,v= .slice (some ⟨b,off,none⟩) len I/\m.F b=some x/\off+len*I<=x.cells.length:=by
 unfold fF at h;split at h
 ·simp only[a7,beq_iff_eq]at h;obtain⟨rfl,rfl⟩:=h;exact .inl rfl
 ·rename_i eG l c;simp only[a7,DG,beq_iff_eq]at h;obtain⟨⟨gR,rfl⟩,h⟩:=h;split at h
  ·rename_i x B;obtain⟨b,off,ay⟩:=eG;simp only at gR B h;subst gR;exact .inr ⟨b,off,l,x,rfl,B,by simpa using h⟩
  ·cases h
 ·cases h
def afn(P:Program)(o:Oper)(I bytes:Nat)(x y:Operand)(a:Act)(aP:Nat)(ak:Ren)(z:aD)(m:G)(w:World)(id:Nat):Prop:=
 ∃ bZ w' cT,kh P o a w bZ w'/\gQ ak cT/\(∀b,b≠id->cT b=ak b)/\dX cT ((an.app I bytes x y).val id z m) bZ/\dG aP cT ((an.app I bytes x y).hr id z m) w'/\Below aP w w'/\
   (s7 I m (S z x)=true-> ∀b bf l,m.F b=some bf->ak b=some l-> ∀i,i<bf.cells.length->w'.cell? ⟨l.c,l.o+i,none⟩=w.cell? ⟨l.c,l.o+i,none⟩)
theorem af4{n:Nat}{w w':World}(h:Below n w w'){eG:Addr}(ag:eG.block<n):w'.cell? eG=w.cell? eG:=by simp only[World.cell?,h.block _ ag]
theorem aqF{c:Call}{x y:Operand}{t e:TypeId}{b3:TypeInfo}{I:List Value}(b2:o.op= .call c)(av:c.callee= .builtin .append)(ag:c.args.toList=[x,y])(fm:c.argTypes.toList=[t,t])
 (a8:P.underlying t=some (.slice e)) (Y:P.info? e=some b3) (bE:se P e=some I) (B:di x=true) (Z:di y=true)
 (H:hl ak da z a) (al:dG aP ak m w) (cd:aP<=w.heap.size) (e2:id<m.next) (ar:ak id=none)
 (ax:(an.app b3.size b3.bytes x y).ok z m=true):afn P o b3.size b3.bytes x y a aP ak z m w id:=by
 obtain⟨X2,iJ,ih,qm,pg,dV,dc⟩:=Dv bE;rw[Y]at ih;cases ih;have y3:iJ.cells.size=b3.size:=by rw[<-dc,<-pg];simp
 simp only[an.ok,a7,eF]at ax;obtain⟨⟨⟨⟨⟨A,E⟩,ao⟩,aS⟩,bI⟩,cZ⟩:=ax;have pz:=H.S B;have rn:=H.S Z
 -- pF aYT
 have Cs: ∃q Ab,a.eval y= .slice q (fW (S z y)) Ab:=by
  rcases zB ao with aG|⟨b,off,len,lC,aG,_,_⟩
  ·rw[aG]at rn;exact⟨none,0,by rw[aG];exact rn.hB rfl⟩
  ·rw[aG]at rn;obtain⟨_,_,_,_,_,g,_⟩:=rn.lv;exact⟨_,_,by rw[aG];exact g⟩
 obtain⟨q,Ab,Cs⟩:=Cs;have pV: ∃p tr,a.eval x= .slice p (fW (S z x)) tr/\fW (S z x)<=tr:=by
  rcases zB A with aG|⟨b,off,len,lC,aG,_,_⟩
  ·rw[aG]at pz;exact⟨none,0,by rw[aG];exact pz.hB rfl,by rw[aG];exact c8 _⟩
  ·rw[aG]at pz;obtain⟨_,_,_,_,_,g,_,a5,_⟩:=pz.lv;exact⟨_,_,by rw[aG];exact g,by rw[aG];exact a5⟩
 by_cases aj:fW (S z y)=0
 ·obtain⟨p,tr,pV,eW⟩:=pV;rw[aj]at Cs;refine⟨a.eval x,w,ak,?_,gQ.refl ak,λ_ _=>rfl,by simpa only[an.val,aj,if_true]using pz,by simpa only[an.hr,aj,if_true]using al,Below.refl _ _,λ_ _ _ _ _ _ _ _=>rfl⟩;rw[pV];exact Oi b2 av ag fm pV Cs (aGZ t _ e b3 a8 Y _ _ _ _ _ eW)
 ·-- aYS vE p8
  rcases zB ao with aG|⟨fZ,wE,kW,lC,Ki,tN,EM⟩
  ·rw[aG]at aj;exact absurd rfl aj
  rw[Ki]at rn;obtain⟨jJ,Vl,J0,yU,_,Cs,EB,axw,_⟩:=rn.lv
  replace yU:ak fZ=some jJ:=yU
  replace EB:(J0=0/\kW=0)\/(Vl=⟨jJ.c,jJ.o+wE,none⟩/\wE+J0*b3.size<=jJ.n):=EB
  have W7:fW (S z y)=kW:=(by rw[Ki];rfl);have ayp:fy m b3.size (S z y)=gW m fZ wE (kW*b3.size):=(by rw[Ki];rfl);rw[W7]at aj bI cZ;obtain⟨hZ,ed,er,lA,CV⟩:=al.cells tN yU EM;rcases EB with⟨_,bX⟩|⟨rfl,_⟩
  ·omega
  have xE:(an.app b3.size b3.bytes x y).val id z m= .slice (some ⟨id,0,none⟩) (fW (S z x)+kW) b3.size:=(by simp only[an.val,W7,aj,if_false]);have pb:(an.app b3.size b3.bytes x y).hr id z m=(hR m (S z x)).aK id (some ⟨fy m b3.size (S z x)++gW m fZ wE (kW*b3.size),true⟩):=by simp only[an.hr,W7,aj,if_false,ayp]
  -- pF new block,a0i pF m1 mK a0f
  have ahN: ∀(m1:Nat) (oX:List Value) (ek:G),dG aP ak ek w->id<ek.next->dd ak (fy m b3.size (S z x)) oX->(∀v∈fy m b3.size (S z x),ad v=true)->oX.length=fW (S z x)*b3.size->
   m1<fW (S z x)+kW->
   dX (hu ak id ⟨w.heap.size,0,grownCap w (fW (S z x)+kW) m1 e*b3.size⟩) (.slice (some ⟨id,0,none⟩) (fW (S z x)+kW) b3.size) (.slice (some ⟨w.heap.size,0,none⟩) (fW (S z x)+kW) (grownCap w (fW (S z x)+kW) m1 e))/\
   dG aP (hu ak id ⟨w.heap.size,0,grownCap w (fW (S z x)+kW) m1 e*b3.size⟩) (ek.aK id (some ⟨fy m b3.size (S z x)++gW m fZ wE (kW*b3.size),true⟩))
    (w.drew.alloc (.cells (oX.toArray++hZ.toArray++Builtin.zeroCells iJ.cells (grownCap w (fW (S z x)+kW) m1 e-(fW (S z x)+kW))) e)):=by
   intro m1 oX ek Ax axq aC Qk xB qk;have oO:=grownCap_ge w (fW (S z x)+kW) m1 e;have qY:grownCap w (fW (S z x)+kW) m1 e<=maxLen:=grownCap_le_maxLen w _ m1 e (by unfold maxLen;omega);refine⟨.slice (off:=0) (l:=⟨w.heap.size,0,grownCap w (fW (S z x)+kW) m1 e*b3.size⟩) (by simp[hu]) (.inr ⟨by simp,by simp⟩) oO qY,?_⟩;have kk:(oX.toArray++hZ.toArray++Builtin.zeroCells iJ.cells (grownCap w (fW (S z x)+kW) m1 e-(fW (S z x)+kW))).size=grownCap w (fW (S z x)+kW) m1 e*b3.size:=by simp only[Array.size_append,List.size_toArray,size_zeroCells,y3,xB,er,<-oC];congr 1;omega
   have yS:dd ak (fy m b3.size (S z x)++gW m fZ wE (kW*b3.size)) (oX++hZ):=aC.p8 ed;refine Ax.FI (cr:=w.drew) rfl cd axq ar ?_ (by rw[kk];exact c8 _) (λi v M=> ?_) (λi _=>by simp)
   ·rw[yS.1,iD,xB,er,<-oC];exact zK _ oO
   ·obtain⟨bf,ba,u3⟩:=yS.F M;refine⟨?_,bf,?_,u3⟩
    ·have:v∈fy m b3.size (S z x)++gW m fZ wE (kW*b3.size):=fX M;rcases jP.1 this with h|h
     ·exact Qk v h
     ·obtain⟨c7,h5,a9,bW,cA⟩:=al.md fZ lC tN;simp only[gW,tN]at h;obtain⟨j,aV,Eu⟩:=n4 (Bt (DH h));exact(bW j v (by rw[c6 aV,Eu])).1
    ·rw[Ot (by
      have:=(cN.1 ba).1;simpa using this)]
     simpa using ba
  rcases zB A with ix|⟨b,off,len,wW,ix,sM,Li⟩
  ·-- nil
   rw[ix]at pz;have pV:=pz.hB rfl;have oP:fW (S z x)=0:=(by rw[ix];rfl);have oN:fy m b3.size (S z x)=[]:=(by rw[ix];rfl);obtain⟨aE,a5⟩:=ahN 0 [] m al e2 (by rw[oN];exact dd.nil ak) (by rw[oN];simp) (by rw[oP];simp) (by omega);simp only[oP,Bz]at aE a5 bI cZ;have jl:=run_append_nil (P:=P) w t o.type e b3 iJ a8 Y qm ⟨jJ.c,jJ.o+wE,none⟩ kW J0 hZ er lA (by omega) (by omega) (by omega);refine⟨_,_,hu ak id ⟨w.heap.size,0,grownCap w kW 0 e*b3.size⟩,Oi b2 av ag fm pV Cs jl,sf ar,zD,?_,?_,xa (w:=w) (cr:=w.drew) rfl rfl rfl rfl cd _,λ_ b bf l _ aA i _=>af4 (xa (w:=w) (cr:=w.drew) rfl rfl rfl rfl (c8 _) _) (al.mb b l aA)⟩
   ·rw[xE,oP,Bz];exact aE
   ·rw[pb,ix];simpa only[hR,fy,wZ,Array.empty_append,ix]using a5
  ·-- a slice cM pF atR own
   rw[ix]at pz;obtain⟨l,ev,cap,aA,_,pV,ka,xz,qY⟩:=pz.lv
   replace aA:ak b=some l:=aA
   replace ka:(cap=0/\len=0)\/(ev=⟨l.c,l.o+off,none⟩/\off+cap*b3.size<=l.n):=ka
   have oP:fW (S z x)=len:=(by rw[ix];rfl);have oN:fy m b3.size (S z x)=gW m b off (len*b3.size):=(by rw[ix];rfl);have j4:wW.own=true:=(by simpa[ix,iQ,sM]using E);obtain⟨c7,h5,a9,bW,cA⟩:=al.md b wW sM;rw[aA]at h5;cases h5;obtain⟨oX,hk,hD,p3,Iz⟩:=al.cells sM aA Li;have lN: ∀v∈gW m b off (len*b3.size),ad v=true:=(by intro v M;simp only[gW,sM]at M;obtain⟨j,aV,Eu⟩:=n4 (Bt (DH M));exact(bW j v (by rw[c6 aV,Eu])).1);have O:hR m (S z x)=m.aK b none:=(by rw[ix];rfl);rw[oP]at bI cZ;by_cases AB:len+kW<=cap
   ·-- aeh CH cR
    rcases ka with⟨bX,_⟩|⟨rfl,ka⟩
    ·omega
    have Xc:(len+kW)*b3.size<=cap*b3.size:=zK _ AB;rw[oC]at Xc
    have jl:=aGY (P:=P) (w:=w) t o.type e b3 a8 Y l.c (l.o+off) len cap ⟨jJ.c,jJ.o+wE,none⟩ kW J0 hZ er lA CV AB
     (λj aV=>by
      have:=((cA j4).2 (off+len*b3.size+j) (by rw[er]at aV;omega)).1
      rwa [show l.o+(off+len*b3.size+j)=l.o+off+len*b3.size+j by omega]at this)
     (λj aV=>by
      have:=((cA j4).2 (off+len*b3.size+j) (by rw[er]at aV;omega)).2
      rwa [show l.o+(off+len*b3.size+j)=l.o+off+len*b3.size+j by omega]at this)
    refine⟨_,_,hu ak id ⟨l.c,l.o+off,l.n-off⟩,Oi b2 av ag fm pV Cs jl,sf ar,zD,?_,?_,z2 (cA j4).1 _ _ _,λa8 cB bf c7 ba h5 i Y=>World.cell?_setCells_out _ _ _ _ _ (λh _=> ?_)⟩
    ·rw[xE,oP];exact .slice (off:=0) (l:=⟨l.c,l.o+off,l.n-off⟩) (by simp[hu]) (.inr ⟨by simp,by show 0+cap*b3.size<=l.n-off;omega⟩) AB qY
    ·rw[pb,O,oN];have yS:dd ak (gW m b off (len*b3.size)++gW m fZ wE (kW*b3.size)) (oX++hZ):=hk.p8 ed;have xx: ∀j (aV:j<hZ.length),(w.setCells l.c (l.o+off+len*b3.size) hZ).cell? ⟨l.c,l.o+off+len*b3.size+j,none⟩=some hZ[j]:= λj aV=>
      World.cell?_setCells_in l.c hZ (l.o+off+len*b3.size) w (λi ih=>by
       have:=((cA j4).2 (off+len*b3.size+i) (by rw[er]at ih;omega)).1
       rwa [show l.o+(off+len*b3.size+i)=l.o+off+len*b3.size+i by omega]at this) j aV
     have aiC: ∀i,i<len*b3.size\/len*b3.size+hZ.length<=i->(w.setCells l.c (l.o+off+len*b3.size) hZ).cell? ⟨l.c,l.o+off+i,none⟩=w.cell? ⟨l.c,l.o+off+i,none⟩:= λi ih=>
      World.cell?_setCells_out _ _ _ _ _ (λ_ _=>by show l.o+off+i<_\/_<=l.o+off+i;omega)
     refine(al.hR b).JI (by rw[G.No];exact e2) ar (λcB hM c7 h6 h5=> ?_) (by rw[wM];exact c8 _) (by rw[wM];exact al.mb b l aA) (cA j4).1 (λeG _ bx=>⟨World.cell?_setCells_out _ _ _ _ _ (λh _=>absurd h bx),World.frozen?_setCells _ _ _ _ _⟩) (λk _ O=>Di _ _ O _ _ _) ?_ (λi v M=> ?_) (λi ih=> ?_) ((al.tY b wW l sM j4 aA).setCells _ _ _)
     ·rw[G.mX]at h6;split at h6
      ·split at h6<;>cases h6
      ·rename_i bx;exact Ne.symm (al.rN b wW cB hM l c7 sM j4 h6 (Ne.symm bx) aA h5)
     ·rw[yS.1,iD,hD,er];omega
     ·obtain⟨bf,ba,u3⟩:=yS.F M;have axI:v∈gW m b off (len*b3.size)++gW m fZ wE (kW*b3.size):=fX M;refine⟨?_,bf,?_,u3⟩
      ·rcases jP.1 axI with h|h
       ·exact lN v h
       ·obtain⟨c7,h5,dC,fK,iz⟩:=al.md fZ lC tN;simp only[gW,tN]at h;obtain⟨j,aV,Eu⟩:=n4 (Bt (DH h));exact(fK j v (by rw[c6 aV,Eu])).1
      ·rw[zJ]at ba;split at ba
       ·rename_i dA;rw[hD]at dA;rw[aiC i (.inl dA)];have:=p3 i bf ba
        rwa [JG]at this
       ·rename_i dA;rw[hD]at dA ba;have aV:i-len*b3.size<hZ.length:=(cN.1 ba).1;have:=xx _ aV;rw[show l.o+off+len*b3.size+(i-len*b3.size)=l.o+off+i by omega]at this;rw[this];rw[c6 aV]at ba;exact ba
     ·have bg:=(cA j4).2 (off+i) (by omega);rw[<-n5]at bg;refine⟨?_,by rw[World.frozen?_setCells];exact bg.2⟩;by_cases lu:i<len*b3.size\/len*b3.size+hZ.length<=i
      ·rw[aiC i lu];exact bg.1
      ·have aV:i-len*b3.size<hZ.length:=(by omega);have:=xx _ aV;rw[show l.o+off+len*b3.size+(i-len*b3.size)=l.o+off+i by omega]at this;rw[this];rfl
    ·left;by_cases e:cB=b
     ·subst e;rw[sM]at ba;cases ba;rw[aA]at h5;cases h5;simp only[ix,s7,sM,eF]at a8;show l.o+i<l.o+off+len*b3.size;omega
     ·exact absurd h (Ne.symm (al.rN b wW cB bf l c7 sM j4 ba (Ne.symm e) aA h5))
   ·-- aaF awn
    obtain⟨aE,a5⟩:=ahN cap oX (m.aK b none) (al.hR b) (by rw[G.No];exact e2) (by rw[oN];exact hk) (by rw[oN];exact lN) (by rw[oP];exact hD) (by omega);rw[oP]at aE a5;have holds: ∀(j:Nat) v,oX[j]?=some v->w.cell? (ev.add j)=some v:=by
     intro j v M;rcases ka with⟨_,bX⟩|⟨rfl,_⟩
     ·subst bX;simp at hD;rw[hD]at M;simp at M
     ·exact p3 j v M
    have jl:=run_append_grow (P:=P) w t o.type e b3 iJ a8 Y qm ev len cap oX hD holds ⟨jJ.c,jJ.o+wE,none⟩ kW J0 hZ er lA (by omega) (by omega) (growslice_fits (by omega) bI);refine⟨_,_,hu ak id ⟨w.heap.size,0,grownCap w (len+kW) cap e*b3.size⟩,Oi b2 av ag fm pV Cs jl,sf ar,zD,?_,?_,xa (w:=w) (cr:=w.drew) rfl rfl rfl rfl cd _,λ_ b bf l _ aA i _=>af4 (xa (w:=w) (cr:=w.drew) rfl rfl rfl rfl (c8 _) _) (al.mb b l aA)⟩
    ·rw[xE,oP];exact aE
    ·rw[pb,O];exact a5
theorem aH2{c:Call}{x y:Operand}{t e:TypeId}{b3:TypeInfo}{I:List Value}(b2:o.op= .call c)(av:c.callee= .builtin .append)(ag:c.args.toList=[x,y])(fm:c.argTypes.toList=[t,t])
 (a8:P.underlying t=some (.slice e)) (Y:P.info? e=some b3) (bE:se P e=some I) (B:di x=true) (Z:di y=true)
 (H:hl ak da z a) (al:dG aP ak m w) (cd:aP<=w.heap.size) (e2:id<m.next) (ar:ak id=none)
 (ax:(an.app b3.size b3.bytes x y).ok z m=true):rC P o (.app b3.size b3.bytes x y) a aP ak z m w id:=by
 obtain⟨bZ,w',cT,aE,a5,ch,dT,gj,ft,_⟩:=aqF b2 av ag fm a8 Y bE B Z H al cd e2 ar ax;exact⟨bZ,w',cT,aE,a5,ch,dT,gj,ft⟩
theorem aH3{c:Call}{x y:Operand}{t bf e:TypeId}{b3:TypeInfo}{I:List Value}{aba:IntKind}(b2:o.op= .call c)(av:c.callee= .builtin .append)(ag:c.args.toList=[x,y])(fm:c.argTypes.toList=[t,bf])
 (a8:P.underlying t=some (.slice e)) (ba:P.underlying bf=some (.int aba)) (Y:P.info? e=some b3) (bE:se P e=some I) (B:di x=true) (Z:di y=true)
 (H:hl ak da z a) (al:dG aP ak m w) (cd:aP<=w.heap.size) (e2:id<m.next) (ar:ak id=none)
 (ax:(an.o8 I.length b3.bytes I x y).ok z m=true):rC P o (.o8 I.length b3.bytes I x y) a aP ak z m w id:=by
 obtain⟨X2,iJ,ih,qm,pg,dV,dc⟩:=Dv bE;rw[Y]at ih;cases ih;have y3:iJ.cells.size=b3.size:=by rw[<-dc,<-pg];simp
 simp only[an.ok,a7,eF]at ax;obtain⟨⟨⟨⟨⟨A,E⟩,ao⟩,aS⟩,bI⟩,cZ⟩:=ax;have pz:=H.S B;rw[S4 A]at pz;have pV:=pz.hB rfl;obtain⟨aN,k,aq,dM⟩:=tU (H.S Z) E;simp only[dM,eZ]at ao aS bI;obtain⟨n,rfl⟩: ∃n:Nat,aq=n:=⟨aq.toNat,by omega⟩;have aww:n*b3.bytes<=281474976710656:=by have:((n*b3.bytes:Nat):Int)<=140737488355328:=(by rw[Int.natCast_mul];exact aS);omega
 have jl:=Lib.run_append_nil_zeros (P:=P) w t bf o.type e b3 iJ k aba a8 ba Y qm n (by omega) (by omega) (by omega) aww;have oO:=grownCap_ge w n 0 e;have qY:grownCap w n 0 e<=maxLen:=grownCap_le_maxLen w _ 0 e (by unfold maxLen;omega);generalize grownCap w n 0 e=ym at jl oO qY;have kk:(Builtin.zeroCells iJ.cells n++Builtin.zeroCells iJ.cells (ym-n)).size=ym*b3.size:=by simp only[Array.size_append,size_zeroCells,y3,<-oC];congr 1;omega
 have v9: ∀v∈(List.replicate n I).flatten,ew v=true:=PA (λv=>ew v=true) (λv M=>ei.1 dV v M) _;refine⟨_,_,hu ak id ⟨w.heap.size,0,ym*b3.size⟩,Oi b2 av ag fm pV (aN.trans dM) jl,sf ar,zD,?_,?_,xa (w:=w) (cr:=w.drew) rfl rfl rfl rfl cd _⟩
 ·simp only[an.val,dM,eZ,nB];exact .slice (off:=0) (l:=⟨w.heap.size,0,ym*b3.size⟩) (by simp[hu]) (.inr ⟨by simp,by rw[dc];simp⟩) oO qY
 ·simp only[an.hr,dM,eZ,nB];refine al.FI (cr:=w.drew) rfl cd e2 ar (by rw[Ed,dc];exact zK _ oO) (by rw[kk];exact c8 _) (λi v M=> ?_) (λi _=>by simp);have lu:i<n*I.length:=(by have:=(cN.1 M).1;rwa [Ed]at this);refine⟨Ah (v9 v (fX M)),v,?_,.c4 (v9 v (fX M))⟩;have hf:(Builtin.zeroCells iJ.cells n).toList=(List.replicate n I).flatten:=(by rw[<-pg];exact Tq (by omega) n);rw[Ot (by rw[size_zeroCells,y3,<-dc];exact lu),<-Om,hf];exact M
theorem aeV{c:Call}{x:Operand}{t:TypeId}{bf r:Value}{w':World}(b2:o.op= .call c)(av:c.callee= .builtin .clear)(ag:c.args.toList=[x])(fm:c.argTypes.toList=[t])
 (B:a.eval x=bf) (h:(Builtin.clear_ #[t] o.type #[bf]).run P w= .ok r w'):kh P o a w r w':=by
 refine .inl ?_;have kG:c.args= #[x]:=by rw[<-tc (xs:=c.args),ag]
 have An:c.argTypes= #[t]:=by rw[<-tc (xs:=c.argTypes),fm]
 simp[execOp,b2,resolve,av,kG,An,invoke,builtin,B,h]
theorem apM{b:Nat}{y:en}(h:m.F b=some y):m.aK b (some y)=m:=by
 have E:m.hc b=some y:=by
  unfold G.F at h;split at h
  ·exact h
  ·cases h
 unfold G.aK;cases m with
 | mk n aOn mp=>
   simp only[G.mk.injEq,true_and,and_true];funext i;split
   ·rename_i e;rw[e];exact E.symm
   ·rfl
theorem aH6{c:Call}{x:Operand}{t e:TypeId}{I:List Value}(b2:o.op= .call c)(av:c.callee= .builtin .clear)(ag:c.args.toList=[x])(fm:c.argTypes.toList=[t])
 (a8:P.underlying t=some (.slice e)) (bE:se P e=some I) (B:di x=true) (H:hl ak da z a) (al:dG aP ak m w)
 (ax:(an.hW I x).ok z m=true):rC P o (.hW I x) a aP ak z m w id:=by
 obtain⟨b3,iJ,Y,qm,pg,dV,dc⟩:=Dv bE;have y3:iJ.cells.size=b3.size:=by rw[<-dc,<-pg];simp
 simp only[an.ok,a7,eF]at ax;obtain⟨⟨A,E⟩,ao⟩:=ax;have pz:=H.S B;rcases zB A with ix|⟨b,off,len,wW,ix,sM,Li⟩
 ·rw[ix]at pz;have pV:=pz.hB rfl;refine⟨undef,w,ak,aeV b2 av ag fm pV (by simp[Builtin.clear_,run_underlying a8,undef]),gQ.refl ak,λ_ _=>rfl,dX.undef ak,?_,Below.refl _ _⟩;simp only[an.hr,ix,oe];exact al
 ·rw[ix]at pz;obtain⟨l,ev,cap,aA,_,pV,aj,eW,_⟩:=pz.lv
  replace aA:ak b=some l:=aA
  replace aj:(cap=0/\len=0)\/(ev=⟨l.c,l.o+off,none⟩/\off+cap*I.length<=l.n):=aj
  have j4:wW.own=true:=(by simpa[ix,iQ,sM]using E);obtain⟨c7,h5,a9,bW,cA⟩:=al.md b wW sM;rw[aA]at h5;cases h5;have pb:(an.hW I x).hr id z m=m.aK b (some ⟨gV wW.cells off (List.replicate len I).flatten,wW.own⟩):=(by simp only[an.hr,ix,oe,sM]);by_cases bX:len=0
  ·subst bX;refine⟨undef,w,ak,aeV b2 av ag fm pV (by simp[Builtin.clear_,run_underlying a8,undef]),gQ.refl ak,λ_ _=>rfl,dX.undef ak,?_,Below.refl _ _⟩;rw[pb];have:m.aK b (some ⟨gV wW.cells off (List.replicate 0 I).flatten,wW.own⟩)=m:=apM sM;rw[this];exact al
  ·rcases aj with⟨_,Kz⟩|⟨rfl,aQo⟩
   ·exact absurd Kz bX
   have iu:(Builtin.zeroCells iJ.cells len).toList=(List.replicate len I).flatten:=(by rw[<-pg];exact Tq (by omega) len);have v9: ∀v∈(List.replicate len I).flatten,ew v=true:=PA (λv=>ew v=true) (λv M=>ei.1 dV v M) _;have Ck:(List.replicate len I).flatten.length=len*I.length:=Ed I len;have kI:=run_storeCells_cells (P:=P) l.c (l.o+off) (List.replicate len I).flatten 0 w (λj aV=>by
    have:=((cA j4).2 (off+j) (by simp only[Ck]at aV;omega)).1
    rwa [<-n5]at this) (λj aV=>by
    have:=((cA j4).2 (off+j) (by simp only[Ck]at aV;omega)).2
    rwa [<-n5]at this) (λbf ba=>by rw[ab2];exact Ah (v9 bf ba))
   simp only[ux]at kI;refine⟨undef,w.setCells l.c (l.o+off) (List.replicate len I).flatten,ak,aeV b2 av ag fm pV ?_,gQ.refl ak,λ_ _=>rfl,dX.undef ak,?_,z2 (cA j4).1 _ _ _⟩
   ·have XW: ∀w:World,(zeroValue e).run P w= .ok iJ w:= λw=>by simp[zeroValue,typeInfo,Y,qm]
    obtain⟨k,rfl⟩: ∃k,len=k+1:=⟨len-1,by omega⟩;simp[Builtin.clear_,run_underlying a8,XW,iu,kI,undef]
   ·rw[pb];exact al.store sM j4 aA (dd.c4 ak (ei.2 v9)) (λv M=>Ah (v9 v M)) (by rw[Ck];exact Li)
end
section
variable {P:Program} {w:World} {o:Oper} {a:Act} {ak:Ren} {da:Nat} {z:aD} {m:G} {aP id:Nat}
theorem aH8{s d e:TypeId}{x:Operand}(b2:o.op= .convert s d x)(b8:P.underlying s=some .string)(ir:P.underlying d=some (.slice e))(cp:P.underlying e=some (.int .u8))(B:(di x&&false)=true)
 (H:hl ak da z a) (al:dG aP ak m w) (cd:aP<=w.heap.size) (e2:id<m.next) (ar:ak id=none) (ax:(an.qb x).ok z m=true):rC P o (.qb x) a aP ak z m w id:=by
 simp at B
end
end Go.DI
