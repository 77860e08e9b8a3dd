/-
  A part of the proof of the statement, in texts that tools of ours (wip/shrink.py, irpack.py, relax.py, minify.py, join.py, lay.py) have shortened.
-/
import Derived.Test.YtkpifdkccdndcaaGreatZah
set_option linter.all false
set_option maxRecDepth 8000
set_option maxHeartbeats 16000000
namespace Go.Big
def bL(n:Int):List Int:=if h:n<=0 then[]else(n%4294967296)::bL (n/4294967296)
termination_by n.toNat
decreasing_by omega
theorem so{n:Int}(h:n<=0):bL n=[]:=by rw[bL];simp[h]
theorem Xe{n:Int}(h:0<n):bL n=(n%4294967296)::bL (n/4294967296):=by rw[bL];simp;omega
theorem kC.tail{x:Int}{l:List Int}(h:kC (x::l)):kC l/\0<x+4294967296*val l:=by
  have B:=h.2;have F:=h.1 x (by simp);have af:=(ih h.1.tail).1;simp only[c2,nB]at B;by_cases bH:c2 l=0
  · rw[if_pos bH]at B;split at B
    · omega
    · exact⟨⟨h.1.tail,by omega⟩,by omega⟩
  · rw[if_neg bH]at B;have aK:kC l:=⟨h.1.tail,by omega⟩;obtain⟨n,av⟩: ∃n,l.length=n+1:=⟨l.length-1,by omega⟩;have:=aK.cK av;have:=k6 n;exact⟨aK,by omega⟩
theorem aik: ∀{l:List Int},kC l->bL (val l)=l
  |[],_=>so (by simp[val])
  | x::l,h=>by obtain⟨B,H⟩:=h.tail;have F:=h.1 x (by simp);rw[Xe (by simp only[val];omega)];have aX:val (x::l)%4294967296=x:=(by simp only[val];omega);have bg:val (x::l)/4294967296=val l:=(by simp only[val];omega);rw[aX,bg,aik B]
theorem EX: ∀(k:Nat) (n:Int),n.toNat<=k->0<=n->kC (bL n)/\val (bL n)=n
  |0,n,h,bH=>by rw[so (by omega)];exact⟨kC.nil,by simp[val];omega⟩
  | k+1,n,h,bH=>by
    by_cases av:n<=0
    · rw[so av];exact⟨kC.nil,by simp[val];omega⟩
    · obtain⟨aj,ba⟩:=EX k (n/4294967296) (by omega) (by omega);rw[Xe (by omega)];refine⟨⟨?_,?_⟩,by simp only[val,ba];omega⟩
      · intro x F;rcases oz.1 F with rfl|F
        · omega
        · exact aj.1 x F
      · simp only[c2,nB,aj.2];by_cases mf:(bL (n/4294967296)).length=0
        · have:bL (n/4294967296)=[]:=pz.1 mf;rw[this]at ba;simp only[val]at ba;rw[if_pos mf,if_neg (by omega),mf]
        · rw[if_neg mf]
theorem o2(n:Int):kC (bL n):=by
  by_cases h:0<=n
  · exact(EX _ n (eB _) h).1
  · rw[so (by omega)];exact kC.nil
theorem iD{n:Int}(h:0<=n):val (bL n)=n:=(EX _ n (eB _) h).2
theorem ash{l:List Int}(h:dT l):l.take (c2 l)=bL (val l):=by rw[<-Kg l,aik (ahX h)]
theorem uS{l:List Int}(h:dT l):(bL (val l)).length=c2 l:=by rw[<-ash h,k9,s8 (ky l)]
theorem OL{a b:Nat}(h:a<=b):a3 a<=a3 b:=by obtain⟨c,rfl⟩:=Nat.exists_eq_add_of_le h;rw[BU];have B:=k6 a;have H:=k6 c;have:a3 a*1<=a3 a*a3 c:=s5 (by omega) (by omega);omega
theorem ag5{l:List Int}(h:dT l):val l<a3 (c2 l):=by have B:=ih (h.take (c2 l));rw[Kg,k9,s8 (ky l)]at B;exact B.2
theorem asK{l:List Int}(h:dT l){n:Nat}(av:c2 l=n+1):a3 n<=val l:=by
  have:=(ahX h).cK (n:=n) (by rw[k9,s8 (ky l),av])
  rwa [Kg]at this
theorem BM{l:List Int}(h:dT l)(n:Nat):c2 l<=n↔val l<a3 n:=by
  constructor
  · intro B;have:=ag5 h;have:=OL B;omega
  · intro B;by_cases H:c2 l<=n
    · exact H
    · have:=asK h (n:=c2 l-1) (by omega);have:=OL (show n<=c2 l-1 by omega);omega
theorem V5{a b:List Int}(aC:dT a)(K:dT b)(h:c2 a<c2 b):val a<val b:=by have B:=ag5 aC;have H:=asK K (n:=c2 b-1) (by omega);have af:=OL (show c2 a<=c2 b-1 by omega);omega
def ix(a b:Int):Int:=if a<b then-1 else if b<a then 1 else 0
theorem air(l:List Int):val (l.drop (c2 l))=0:=ag6 λi x F=>by rw[rv]at F;exact Ou (by omega) F
theorem Qg{a b:List Int}(aC:dT a)(K:dT b){i:Nat}(h:val (a.drop (i+1))=val (b.drop (i+1)))(ag:az a i<az b i)(C0:i<=a.length)(uG:i<=b.length):val a<val b:=by have B:=Cd a i C0;have H:=Cd b i uG;have af:=sq a i;have aL:=sq b i;have cm:=ih (aC.take i);have dK:=ih (K.take i);have hh:a3 (a.take i).length<=a3 i:=OL (by simp;omega);have iV:a3 i*(val (a.drop i)+1)<=a3 i*val (b.drop i):=s5 (by omega) (by have:=k6 i;omega);rw[Int.mul_add]at iV;omega
end Go.Big
namespace Go.Proofs.YtkpifdkccdndcaaGreat
open Go Go.DI Go.Big
abbrev cb(b:Nat):Value:= .pointer (some ⟨b,0,none⟩)
abbrev X(n:Int):Value:= .int .i64 n
abbrev c3(n:Int):Value:= .int .u32 n
abbrev L(n:Int):Value:= .int .u64 n
structure a7(m N:E):Prop where
  next:m.next<=N.next
  U: ∀b,b<m.next->N.U b=m.U b
theorem a7.refl(m:E):a7 m m:=⟨eB _,λ_ _=>rfl⟩
theorem a7.trans{a b c:E}(h:a7 a b)(b6:a7 b c):a7 a c:=⟨nC h.next b6.next,λx F=>by rw[b6.U x (nz F h.next),h.U x F]⟩
theorem a7.some{m N:E}(h:a7 m N){b:Nat}{x:fV}(K:m.U b=some x):N.U b= .some x:=by rw[h.U b (aO K),K]
theorem a7.bx{m N:E}(h:a7 m N)(k:Nat):a7 m (N.bx k):=⟨by have:=h.next;simp only[vQ];omega,λb K=>by have:=h.next;rw[gm (by omega),h.U b K]⟩
theorem a7.an{m N:E}(h:a7 m N){i:Nat}{x:Option fV}(ag:m.next<=i):a7 m (N.an i x):=⟨h.next,λb K=>by rw[dC (by omega),h.U b K]⟩
theorem lj{l:List Value}{k:Nat}:(List.take 1 (List.drop k l)).head?=l[k]?:=by
  cases h:l.drop k with
  |nil=>rw[List.drop_eq_nil_iff]at h;rw[Ai h];rfl
  |cons x xs=>simp;rw[<-xu,h];rfl
def bP(m:E)(v:Value)(l:List Int):Prop:=dT l/\((v= .slice none 0 0/\l=[])\/ ∃b o cs w,v= .slice (some ⟨b,o,none⟩) l.length 1/\m.U b=some ⟨cs,w⟩/\(cs.drop o).take l.length=l.map c3/\o+l.length<=cs.length)
section
variable {m N:E} {v:Value} {l:List Int}
theorem bP.aD(h:bP m v l)(ah:a7 m N):bP N v l:=by
  obtain⟨aa,h|⟨b,o,cs,w,B,H,af,aL⟩⟩:=h
  · exact⟨aa,.inl h⟩
  · exact⟨aa,.inr ⟨b,o,cs,w,B,ah.some H,af,aL⟩⟩
theorem bP.nil:bP m (.slice none 0 0) []:=⟨by simp[dT],.inl ⟨rfl,rfl⟩⟩
theorem bP.mk{b:Nat}{w:Bool}(aa:dT l)(h:m.U b=some ⟨l.map c3,w⟩):bP m (.slice (some ⟨b,0,none⟩) l.length 1) l:=⟨aa,.inr ⟨b,0,_,w,rfl,h,by rw[yI,fw (by simp)],by simp⟩⟩
theorem bP.sK{b n:Nat}{w:Bool}(aa:dT l)(h:m.U b=some ⟨l.map c3,w⟩)(av:n=l.length):bP m (.slice (some ⟨b,0,none⟩) n 1) l:=by subst av;exact bP.mk aa h
theorem bP.len(h:bP m v l):ib v=l.length/\zD v=true/\kr 1 v=true/\hL v=l.length:=by obtain⟨aa,⟨rfl,rfl⟩|⟨b,o,cs,w,rfl,_⟩⟩:=h<;>exact⟨rfl,rfl,rfl,rfl⟩
theorem bP.qb(h:bP m v l){i:Nat}(ag:i<l.length):g8 m (mH v 1 (i:Int)) 1=true/\k4 m false 1 (mH v 1 (i:Int))=c3 (az l i):=by
  obtain⟨aa,⟨rfl,rfl⟩|⟨b,o,cs,w,rfl,H,af,aL⟩⟩:=h
  · simp at ag
  · have cm:cs[o+i]?=some (c3 (az l i)):=by
      have:((cs.drop o).take l.length)[i]?=(l.map c3)[i]?:=(by rw[af]);rw[se,if_pos ag,rv,p6,c0 ag]at this;rw[this,lE (c0 ag)];rfl
    refine⟨by simp[mH,H];omega,?_⟩;simp[mH,H,lj,cm]
theorem bP.j3(h:bP m v l){i:Nat}(ag:i<l.length):g8 m (mH v 1 (i:Int)) 1=true:=(h.qb ag).1
theorem bP.fu(h:bP m v l){i:Nat}(ag:i<l.length):k4 m false 1 (mH v 1 (i:Int))=c3 (az l i):=(h.qb ag).2
theorem bP.sub(h:bP m v l){k n:Nat}(aa:k<=n)(av:n<=l.length):bP m (ou v 1 k n) ((l.take n).drop k):=by
  obtain⟨ah,⟨rfl,rfl⟩|⟨b,o,cs,w,rfl,H,af,aL⟩⟩:=h
  · exact⟨(ah.take n).drop k,.inl ⟨rfl,by simp⟩⟩
  · refine⟨(ah.take n).drop k,.inr ⟨b,o+k*1,cs,w,?_,H,?_,?_⟩⟩
    · simp only[ou,List.length_drop,k9];rw[s8 av]
    · rw[List.map_drop,List.map_take,<-af];rw[List.length_drop,k9,s8 av,List.take_take,s8 av,List.drop_take,s9,Nat.mul_one]
    · simp;omega
theorem bP.take(h:bP m v l){n:Nat}(av:n<=l.length):bP m (ou v 1 0 n) (l.take n):=by have:=h.sub (hf n) av;simpa using this
theorem bP.cells(h:bP m v l):ig m 1 v=true/\hX m 1 v=l.map c3:=by
  obtain⟨aa,⟨rfl,rfl⟩|⟨b,o,cs,w,rfl,H,af,aL⟩⟩:=h
  · exact⟨rfl,rfl⟩
  · refine⟨by simp[H];omega,?_⟩;simp[H];exact af
end
abbrev Big(l:List Int):Prop:=l.length<35184372087809
theorem aqq{l:List Int}{k:Nat}(h:c2 l<=k+1)(bH:az l k=0):c2 l<=k:=by
  by_cases B:c2 l<=k
  · exact B
  · have H:c2 l=k+1:=(by omega);have af:=ky l;have aL:k<l.length:=(by omega);exact absurd (by rw[lE (c0 aL)]at bH;exact bH) (JJ H (c0 aL))
theorem aqr{l:List Int}{k:Nat}(h:c2 l<=k+1)(bH:az l k≠0):c2 l=k+1:=by
  by_cases B:c2 l<=k
  · refine absurd ?_ bH;by_cases aL:k<l.length
    · rw[lE (c0 aL)];exact Ou B (c0 aL)
    · exact su (by omega)
  · omega
theorem apO{m:E}{v:Value}{l:List Int}(S:bP m v l)(aE:Big l){Q:dp->aM->E->Prop}: ∀(n:Nat) (u:aM),n<=l.length->c2 l<=n->u 0=v->u 3=X n->
    (∀ae,ae 3=X (c2 l)->Q (.bw 0) ae m)->cH Z (.loop Mv) u m Q
  | 0,u,av,h,b1,bA,a1=>by refine fc λcp aZ=> ?_;simp[Mv,bA];exact a1 _ (by simp[bA];omega)
  | n+1,u,av,h,b1,bA,a1=>by
    refine fc λcp aZ=> ?_;obtain⟨B,H,af,aL⟩:=S.len;have bh:=S.j3 (i:=n) (by omega);have bt:=S.fu (i:=n) (by omega);have bc:IntKind.i64.wrap (n:Int)=n:=fo (by omega) (by omega);have eI:(n:Int)<l.length:=(by omega);by_cases bM:az l n=0
    · simp[Mv,b1,bA,B,af,bh,bt,bc,eI,bM];exact aZ _ _ (apO S aE n _ (by omega) (aqq h bM) (by simp[b1]) (by simp) a1)
    · simp[Mv,b1,bA,B,af,bh,bt,bc,eI,bM];exact a1 _ (by simp[bA,aqr h bM])
theorem mZ{m:E}{v:Value}{l:List Int}(S:bP m v l)(aE:Big l)(aI:Value->E->Prop):bU Z 100 [v] m aI=aI (X (c2 l)) m:=by refine(oB.r5 ?_).wp;rw[auU (by simp)];obtain⟨B,H,af,aL⟩:=S.len;simp[Zn,akH,akI,akJ,B,H];exact apO S aE l.length _ (eB _) (ky l) (by simp) (by simp[]) λae q=>by simp[q]
theorem w0{m:E}{v:Value}{l:List Int}(S:bP m v l)(aE:Big l)(aI:Value->E->Prop):bU Z 157 [v] m aI=aI (.bool (decide (512<c2 l))) m:=by refine(oB.r5 ?_).wp;rw[avj (by simp)];simp[aaD,al3,mZ S aE];omega
theorem bP.bL{m:E}{v:Value}{l:List Int}(h:bP m v l):bP m (ou v 1 0 (c2 l)) (Big.bL (val l)):=by rw[<-ash h.1];exact h.take (ky l)
theorem bP.Cz{m:E}{v:Value}{l:List Int}(h:bP m v l){id:Nat}(fA:id<m.next){Po:Value}{bk:E}
    (S:Po=if l.length=0 then .slice none 0 0 else .slice (some ⟨id,0,none⟩) l.length 1) (aN:bk=if l.length=0 then m else m.an id (some ⟨l.map c3,true⟩)):
    bP bk Po l:=by
  subst S aN;by_cases bH:l.length=0
  · rw[if_pos bH,if_pos bH];obtain rfl:l=[]:=pz.1 bH;exact bP.nil
  · rw[if_neg bH,if_neg bH];exact bP.mk h.1 (cW fA)
theorem a7.Cz{m:E}{c:Prop}[Decidable c]{k j:Nat}{x:Option fV}:a7 m (if c then m.bx k else(m.bx k).an (m.next+j) x):=by
  split
  · exact(a7.refl m).bx k
  · exact((a7.refl m).bx k).an (by omega)
theorem VP{m:E}{v:Value}{l:List Int}(S:bP m v l)(aE:Big l)(aI:Value->E->Prop):
    bU Z 158 [v] m aI=aI (if 512<c2 l then .tuple #[.slice none 0 0,X 2]else .tuple #[ou v 1 0 (c2 l),X 0]) m:=by
  refine(oB.r5 ?_).wp;rw[avk (by simp)];obtain⟨B,H,af,aL⟩:=S.len;have:=ky l;by_cases bM:(512:Int)<c2 l
  · simp[Si,aaE,aaF,aaG,mZ S aE,bM];omega
  · simp[Si,aaE,aaF,aaG,B,af,mZ S aE,bM];omega
theorem V0{m:E}{v:Value}{l:List Int}(S:bP m v l)(aE:Big l):bU Z 131 [v] m λr N=>a7 m N/\bP N r (bL (val l)):=by rw[au5 (by simp)];have K:= λk=>S.aD ((a7.refl m).bx k);obtain⟨B,H,af,aL⟩:=S.len;have av:=ky l;have M:= λk=>(K k).bL;have aK:= λk=>(M k).cells;have h0:= λk=>(M k).len;have e:=uS S.1;simp[Z4,ak5,B,af,λk=>mZ (K k) aE,av,(h0 6).2.2.2,(aK 6).1,(aK 6).2,e];exact⟨by omega,a7.Cz,(M 6).Cz (id:=m.next+4) (by simp) (by rw[e]) (by rw[e])⟩
theorem afm{m:E}{v:Value}{l:List Int}(S:bP m v l)(aE:Big l){Q:dp->aM->E->Prop}: ∀(n:Nat) (u:aM),n<=l.length->c2 l<=n->u 0=v->u 3=X n->
    (∀ae,ae 0=v->ae 3=X (c2 l)->Q (.bw 0) ae m)->cH Z (.loop MC) u m Q
  | 0,u,av,h,b1,bA,a1=>by refine fc λcp aZ=> ?_;simp[MC,bA];exact a1 _ (by simp[b1]) (by simp[bA];omega)
  | n+1,u,av,h,b1,bA,a1=>by
    refine fc λcp aZ=> ?_;obtain⟨B,H,af,aL⟩:=S.len;have bh:=S.j3 (i:=n) (by omega);have bt:=S.fu (i:=n) (by omega);have bc:IntKind.i64.wrap (n:Int)=n:=fo (by omega) (by omega);have eI:(n:Int)<l.length:=(by omega);by_cases bM:az l n=0
    · simp[MC,b1,bA,B,af,bh,bt,bc,eI,bM];exact aZ _ _ (afm S aE n _ (by omega) (aqq h bM) (by simp[b1]) (by simp) a1)
    · simp[MC,b1,bA,B,af,bh,bt,bc,eI,bM];exact a1 _ (by simp[b1]) (by simp[bA,aqr h bM])
theorem uX{m:E}{v:Value}{l:List Int}(S:bP m v l)(aE:Big l):bU Z 106 [v] m λr N=>a7 m N/\bP N r (bL (val l)):=by rw[ahR (by simp)];have K:= λk=>S.aD ((a7.refl m).bx k);obtain⟨B,H,af,aL⟩:=S.len;have av:=ky l;have M:= λk=>(K k).bL;have aK:= λk=>(M k).cells;have h0:= λk=>(M k).len;have e:=uS S.1;simp[Rv,Zp,Zq,Zr,B,H];refine afm S aE l.length _ (eB _) (ky l) (by simp) (by simp[]) λae bn cZ=> ?_;simp[bn,cZ,B,af,av,(h0 5).2.2.2,(aK 5).1,(aK 5).2,e];exact⟨by omega,a7.Cz,(M 5).Cz (id:=m.next+3) (by simp) (by rw[e]) (by rw[e])⟩
theorem aJL{m:E}{v:Value}{l:List Int}(S:bP m v l)(aE:Big l):bU Z 161 [v] m λr N=>a7 m N/\r= .bool (decide (512<c2 l)):=by rw[avn (by simp)];simp[aaS,amc];refine(uX S aE).aD λr N Y=> ?_;obtain⟨B,H,af,aL⟩:=Y.2.len;have e:=uS S.1;simp[B,H,e];exact⟨Y.1,by omega⟩
theorem asT{n:Int}(bH:0<=n)(B:n<18446744073709551616):dT [n%4294967296,n/4294967296%4294967296]/\val [n%4294967296,n/4294967296%4294967296]=n:=by refine⟨λx F=> ?_,by simp only[val];omega⟩;simp only[oz,wi,or_false]at F;rcases F with rfl|rfl<;>omega
theorem iv(n:Int):IntKind.u32.wrap n=n%4294967296:=rfl
theorem qV{n:Int}:n.fdiv 4294967296=n/4294967296:=Kq n (by omega)
theorem UQ{m:E}{n:Int}(bH:0<=n)(av:n<18446744073709551616):bU Z 34 [L n] m λr N=>a7 m N/\bP N r (bL n):=by rw[avN (by simp)];obtain⟨aj,ba⟩:=asT bH av;have M:bP ((m.bx 7).an (m.next+5) (some ⟨[n%4294967296,n/4294967296%4294967296].map c3,true⟩)) (.slice (some ⟨m.next+5,0,none⟩) 2 1) [n%4294967296,n/4294967296%4294967296]:=bP.mk aj (cW (by simp));have aE:= λaI=>mZ M (by simp) aI;have ay:=M.bL;have H:=ky [n%4294967296,n/4294967296%4294967296];rw[ba]at ay;simp only[n0,wj]at aE;simp[acy,anH,anI,iv,qV,aE];rw[B5]at ay;simp only[nB,Hh]at H;exact⟨by omega,((a7.refl m).bx 7).an (by omega),by simpa using ay⟩
theorem OQ{m:E}{n:Int}(bH:0<=n)(av:n<18446744073709551616):bU Z 138 [L n] m λr N=>a7 m N/\bP N r (bL n):=by rw[avc (by simp)];obtain⟨aj,ba⟩:=asT bH av;have M:bP ((m.bx 8).an (m.next+5) (some ⟨[n%4294967296,n/4294967296%4294967296].map c3,true⟩)) (.slice (some ⟨m.next+5,0,none⟩) 2 1) [n%4294967296,n/4294967296%4294967296]:=bP.mk aj (cW (by simp));have aE:=uX M (by simp);rw[ba]at aE;simp only[n0,wj]at aE;simp[aaj,als,iv,qV];refine aE.aD λr N Y=> ?_;simp;exact⟨(((a7.refl m).bx 8).an (by omega)).trans Y.1,Y.2⟩
theorem AF{a b:Int}(h:a<b):ix a b= -1:=by simp[ix,h]
theorem K2{a b:Int}(h:b<a):ix a b=1:=by unfold ix;rw[if_neg (by omega),if_pos h]
theorem Xa{a b:Int}(h:a=b):ix a b=0:=by simp[ix,h]
theorem ah9{m:E}{v w:Value}{a b:List Int}(S:bP m v a)(aS:bP m w b)(aC:Big a)(K:Big b){Q:dp->aM->E->Prop}: ∀(n:Nat) (u:aM),n<=a.length->n<=b.length->val (a.drop n)=val (b.drop n)->u 0=v->u 1=w->u 7=X ((n:Int)-1)->
    (∀ae,val a=val b->Q (.bw 1) ae m)->(∀ae,val a≠val b->ae 4=X (ix (val a) (val b))->Q .aT ae m)->cH Z (.loop Jn) u m Q
  | 0,u,av,vx,h,b1,aw,c7,a1,gN=>by refine fc λcp aZ=> ?_;simp[Jn,NX,c7];exact a1 _ (by simpa using h)
  | n+1,u,av,vx,h,b1,aw,c7,a1,gN=>by
    refine fc λcp aZ=> ?_;obtain⟨B,H,af,aL⟩:=S.len;obtain⟨eh,gB,g1,lh⟩:=aS.len;have bh:=S.j3 (i:=n) (by omega);have bt:=S.fu (i:=n) (by omega);have cM:=aS.j3 (i:=n) (by omega);have dq:=aS.fu (i:=n) (by omega);have bc:IntKind.i64.wrap ((n:Int)-1)=(n:Int)-1:=fo (by omega) (by omega);have eI:(n:Int)<a.length:=(by omega);have bY:(n:Int)<b.length:=(by omega);by_cases bM:az a n<az b n
    · have:=Qg S.1 aS.1 h bM (by omega) (by omega);simp[Jn,NX,b1,aw,c7,B,af,eh,g1,bh,bt,cM,dq,eI,bY,bM];exact gN _ (by omega) (by simp[AF this])
    by_cases dL:az b n<az a n
    · have:=Qg aS.1 S.1 h.symm dL (by omega) (by omega);simp[Jn,NX,b1,aw,c7,B,af,eh,g1,bh,bt,cM,dq,eI,bY,bM,dL];exact gN _ (by omega) (by simp[K2 this])
    · simp[Jn,NX,b1,aw,c7,B,af,eh,g1,bh,bt,cM,dq,bc,eI,bY,bM,dL];exact aZ _ _ (ah9 S aS aC K n _ (by omega) (by omega) (by rw[sq a,sq b];omega) (by simp[b1]) (by simp[aw]) (by simp) a1 gN)
theorem K3{m:E}{v w:Value}{a b:List Int}(S:bP m v a)(aS:bP m w b)(aC:Big a)(K:Big b)(aI:Value->E->Prop):bU Z 92 [v,w] m aI=aI (X (ix (val a) (val b))) m:=by
  refine(oB.r5 ?_).wp;rw[avZ (by simp)];have jd:=ky a;have qx:=ky b;by_cases bM:(c2 a:Int)<c2 b
  · have:=V5 S.1 aS.1 (by omega);simp[NW,Uj,Uk,Ul,Um,mZ S aC,mZ aS K,bM,AF this]
  by_cases dL:(c2 b:Int)<c2 a
  · have:=V5 aS.1 S.1 (by omega);simp[NW,Uj,Uk,Ul,Um,mZ S aC,mZ aS K,bM,dL,K2 this]
  have bc:IntKind.i64.wrap ((c2 a:Int)-1)=(c2 a:Int)-1:=fo (by omega) (by omega);simp[NW,Uj,Uk,Ul,Um,mZ S aC,mZ aS K,bM,dL,bc];have e:c2 a=c2 b:=by omega
  refine ah9 S aS aC K (c2 a) _ jd (by omega) (by rw[air a,e,air b]) (by simp) (by simp) (by simp) (λae h=> ?_) (λae h aL=> ?_)
  · simp[Xa h]
  · simp[aL]
theorem aq7{m:E}{v w:Value}{a b:List Int}(S:bP m v a)(aS:bP m w b)(aC:Big a)(K:Big b){Q:dp->aM->E->Prop}: ∀(n:Nat) (u:aM),n<=a.length->n<=b.length->val (a.drop n)=val (b.drop n)->u 0=v->u 1=w->u 5=X ((n:Int)-1)->
    (∀ae,val a=val b->Q (.bw 0) ae m)->(∀ae,val a≠val b->ae 4=X (ix (val a) (val b))->Q .aT ae m)->cH Z (.loop IF) u m Q
  | 0,u,av,vx,h,b1,aw,c7,a1,gN=>by refine fc λcp aZ=> ?_;simp[IF,MS,MT,c7];exact a1 _ (by simpa using h)
  | n+1,u,av,vx,h,b1,aw,c7,a1,gN=>by
    refine fc λcp aZ=> ?_;obtain⟨B,H,af,aL⟩:=S.len;obtain⟨eh,gB,g1,lh⟩:=aS.len;have bh:=S.j3 (i:=n) (by omega);have bt:=S.fu (i:=n) (by omega);have cM:=aS.j3 (i:=n) (by omega);have dq:=aS.fu (i:=n) (by omega);have bc:IntKind.i64.wrap ((n:Int)-1)=(n:Int)-1:=fo (by omega) (by omega);have eI:(n:Int)<a.length:=(by omega);have bY:(n:Int)<b.length:=(by omega);by_cases bM:az a n<az b n
    · have:=Qg S.1 aS.1 h bM (by omega) (by omega);simp[IF,MS,MT,b1,aw,c7,B,af,eh,g1,bh,bt,cM,dq,eI,bY,bM];exact gN _ (by omega) (by simp[AF this])
    by_cases dL:az b n<az a n
    · have:=Qg aS.1 S.1 h.symm dL (by omega) (by omega);simp[IF,MS,MT,b1,aw,c7,B,af,eh,g1,bh,bt,cM,dq,eI,bY,bM,dL];exact gN _ (by omega) (by simp[K2 this])
    · simp[IF,MS,MT,b1,aw,c7,B,af,eh,g1,bh,bt,cM,dq,bc,eI,bY,bM,dL];exact aZ _ _ (aq7 S aS aC K n _ (by omega) (by omega) (by rw[sq a,sq b];omega) (by simp[b1]) (by simp[aw]) (by simp) a1 gN)
theorem ae1{m:E}{v w:Value}{a b:List Int}(S:bP m v a)(aS:bP m w b)(aC:Big a)(K:Big b):bU Z 134 [v,w] m λr N=>a7 m N/\r=X (ix (val a) (val b)):=by
  rw[au8 (by simp)];have jd:=ky a;have qx:=ky b;have qd:=uS S.1;have rH:=uS aS.1;simp[aaf,ald,ale,alf,alg,alh];refine(uX S aC).aD λeT bo Y=> ?_;simp;refine(uX (aS.aD Y.1) K).aD λfk cc bz=> ?_;have cx:=Y.2.aD bz.1;have c8:=bz.2;have ah:=Y.1.trans bz.1;obtain⟨B,H,af,aL⟩:=cx.len;obtain⟨eh,gB,g1,lh⟩:=c8.len;rw[qd]at B;rw[rH]at eh;by_cases bM:(c2 a:Int)<c2 b
  · have:=V5 S.1 aS.1 (by omega);have eK: ¬((c2 a:Int)=c2 b):=(by omega);simp[B,H,eh,gB,bM,eK,AF this];exact ah
  by_cases dL:(c2 b:Int)<c2 a
  · have:=V5 aS.1 S.1 (by omega);have eK: ¬((c2 a:Int)=c2 b):=(by omega);simp[B,H,eh,gB,bM,eK,K2 this];exact ah
  have bc:IntKind.i64.wrap ((c2 a:Int)-1)=(c2 a:Int)-1:=fo (by omega) (by omega);have e:c2 a=c2 b:=by omega
  rw[<-e]at eh rH;simp[B,H,eh,gB,bc];have El:=iD (ih S.1).1;have yC:=iD (ih aS.1).1;refine aq7 cx c8 (by omega) (by omega) (c2 a) _ (by omega) (by omega) (by rw[u5 (by omega),u5 (by omega)]) (by simp) (by simp) (by simp) (λae h=> ?_) (λae h aL=> ?_)
  · rw[El,yC]at h;simp[Xa h];exact ah
  · simp[aL];rw[El,yC];exact⟨ah,rfl⟩
theorem fi{n:Int}(bH:0<=n)(B:n<18446744073709551616):IntKind.u64.wrap n=n:=by show n%18446744073709551616=n;omega
theorem u0(n:Int):IntKind.u64.wrap n=n%18446744073709551616:=rfl
theorem m4{o:List Int}{i:Nat}{x:Int}:(o.map c3).set i (c3 x)=(o.set i x).map c3:=List.map_set.symm
theorem rG{n:Int}{k:Nat}(bH:0<=n)(h:n<a3 k):(bL n).length<=k:=by have aK:=o2 n;rw[<-aK.2];exact(BM aK.1 k).2 (by rw[iD bH];exact h)
theorem PS{dv:E}{v w:Value}{x y:List Int}(S:bP dv v x)(aS:bP dv w y)(F:Big x)(ab:y.length<=x.length){bE:Nat}(iO:dv.next<=bE){Q:dp->aM->E->Prop}: ∀(r i:Nat) (c:Int) (o:List Int) (m:E) (u:aM),
    i+r=x.length->a7 dv m->m.U bE=some ⟨o.map c3,true⟩->dT o->o.length=x.length+1->0<=c->c<2->val (o.take i)+c*a3 i=val (x.take i)+val (y.take i)->
    u 0=v->u 1=w->u 6= .slice (some ⟨bE,0,none⟩) (x.length+1) 1->u 7=L c->u 35=X x.length->u 36=X i->
    (∀ae N o c,a7 dv N->N.U bE=some ⟨o.map c3,true⟩->dT o->o.length=x.length+1->0<=c->c<2->val (o.take x.length)+c*a3 x.length=val x+val y->
      ae 0=v->ae 6= .slice (some ⟨bE,0,none⟩) (x.length+1) 1->ae 7=L c->Q (.bw 0) ae N)->cH Z (.loop MQ) u m Q
  | 0,i,c,o,m,u,ag,ah,aq,aA,eQ,eI,bY,a2,b1,aw,dn,c7,vX,B1,a1=>by refine fc λcp aZ=> ?_;have e:i=x.length:=(by omega);subst e;simp[MQ,RT,RU,RV,RR,RS,vX,B1];rw[fw (l:=x) (by omega),fw (l:=y) (by omega)]at a2;exact a1 _ _ o c ah aq aA eQ eI bY a2 (by simp[b1]) (by simp[dn]) (by simp[c7])
  | r+1,i,c,o,m,u,ag,ah,aq,aA,eQ,eI,bY,a2,b1,aw,dn,c7,vX,B1,a1=>by
    refine fc λcp aZ=> ?_;have gn:=S.aD ah;have ja:=aS.aD ah;obtain⟨B,H,af,aL⟩:=gn.len;obtain⟨eh,gB,g1,lh⟩:=ja.len;have bn:(i:Int)<x.length:=(by omega);have bC:(i:Int)<(x.length:Int)+1:=(by omega);have cq:i<=x.length:=(by omega);have cZ:(i:Int)<=x.length:=(by omega);have bh:=gn.j3 (i:=i) (by omega);have bt:=gn.fu (i:=i) (by omega);have ht:=h4 S.1 i;have ET:=h4 aS.1 i;have bc:=e7 (n:=i) (by omega);have da:IntKind.u64.wrap (az x i)=az x i:=fi (by omega) (by omega);have fB:IntKind.u64.wrap (c+az x i)=c+az x i:=fi (by omega) (by omega);have cg:=aO aq;by_cases bM:(i:Int)<y.length
    · have cM:=ja.j3 (i:=i) (by omega);have dq:=ja.fu (i:=i) (by omega);have ij:IntKind.u64.wrap (az y i)=az y i:=fi (by omega) (by omega);have h1:IntKind.u64.wrap (c+az x i+az y i)=c+az x i+az y i:=fi (by omega) (by omega);simp[MQ,RT,RU,RV,RR,RS,b1,aw,dn,c7,vX,B1,B,af,eh,gB,g1,bn,bC,cq,bh,bt,cM,dq,bc,da,fB,ij,h1,bM,aq,eQ,iv,qV];refine aZ _ _ (PS S aS F ab iO r (i+1) ((c+az x i+az y i)/4294967296) (o.set i ((c+az x i+az y i)%4294967296)) _ _ (by omega) (ah.an iO) (by rw[cW cg,m4]) (aA.set i (by omega)) (by simp[eQ]) (by omega) (by omega) (WI a2 rfl (by omega)) (by simp[b1]) (by simp[aw]) (by simp[dn]) (by simp) (by simp[vX]) (by simp) a1)
    · have iF:az y i=0:=su (by omega);simp[MQ,RT,RU,RV,RR,RS,b1,aw,dn,c7,vX,B1,B,af,eh,gB,bn,bC,cq,bh,bt,bc,da,fB,bM,aq,eQ,iv,qV];refine aZ _ _ (PS S aS F ab iO r (i+1) ((c+az x i)/4294967296) (o.set i ((c+az x i)%4294967296)) _ _ (by omega) (ah.an iO) (by rw[cW cg,m4]) (aA.set i (by omega)) (by simp[eQ]) (by omega) (by omega) (WI a2 (by omega) (by omega)) (by simp[b1]) (by simp[aw]) (by simp[dn]) (by simp) (by simp[vX]) (by simp) a1)
def wm(m:E)(n:Int)(r:Value)(N:E):Prop:=a7 m N/\ ∃v,r= .tuple #[v,X 0]/\bP N v (bL n)
theorem auh{m:E}{v w:Value}{a b:List Int}(S:bP m v a)(aS:bP m w b)(aC:Big a)(K:Big b)(na:c2 a<=512)(DS:c2 b<=512)(av:val a+val b<a3 512):
    bU Z 127 [v,w] m (wm m (val a+val b)):=by
  rw[au1 (by simp)];obtain⟨B,H,af,aL⟩:=S.len;obtain⟨eh,gB,g1,lh⟩:=aS.len;have jd:=ky a;have qx:=ky b;have zH: ¬512<c2 a:=by omega
  have zI: ¬512<c2 b:=by omega
  have gn:=S.bL;have ja:=aS.bL;have qd:=uS S.1;have rH:=uS aS.1;have El:=iD (ih S.1).1;have yC:=iD (ih aS.1).1;obtain⟨aj,ba,cD,fs⟩:=gn.len;obtain⟨lD,qW,y7,aiZ⟩:=ja.len;rw[qd]at aj;rw[rH]at lD;by_cases bM:(c2 a:Int)<c2 b
  · have bc:IntKind.i64.wrap ((c2 b:Int)+1)=(c2 b:Int)+1:=fo (by omega) (by omega);simp[RQ,ZT,ZW,ZX,ZY,ZZ,Z0,ZU,ZV,w0 S aC,w0 aS K,mZ S aC,mZ aS K,B,af,eh,g1,zH,zI,jd,qx,aj,ba,lD,qW,bM,bc];have iz:a7 m ((m.bx 5).an (m.next+3) (some ⟨List.replicate (c2 b+1) (.int .u32 0),true⟩)):=((a7.refl m).bx 5).an (by omega);refine⟨by omega,PS ja gn (by omega) (by omega) (bE:=m.next+3) (by omega) (c2 b) 0 0 (List.replicate (c2 b+1) 0) _ _ (by omega) iz (by rw[cW (by simp)];simp) (dT.wg _) (by simp[rH]) (by omega) (by omega) (by simp[val]) (by simp) (by simp) (by simp[rH]) (by simp) (by simp[rH]) (by simp) λae N o c ck cE eo e8 f5 nk o5 bn jC uW=> ?_⟩;rw[rH]at e8 o5 jC;have cg:=aO cE;have M:bP (N.an (m.next+3) (some ⟨(o.set (c2 b) (c%4294967296)).map c3,true⟩)) (.slice (some ⟨m.next+3,0,none⟩) (c2 b+1) 1) (o.set (c2 b) (c%4294967296)):=bP.sK (eo.set _ (by omega)) (cW cg) (by simp[e8]);have q0:val (o.set (c2 b) (c%4294967296))=val a+val b:=by
      have:=z8 (o:=o) (i:=c2 b) (c%4294967296) (by omega);rw[fw (by simp;omega)]at this;rw[this,show c%4294967296=c by omega,m9];omega
    have jc:= λaI=>VP M (by simp[e8];omega) aI;rw[<-m4]at jc;have fM: ¬512<c2 (o.set (c2 b) (c%4294967296)):=by have:=(BM M.1 512).2 (by rw[q0];exact av);omega
    simp only[fM,if_false]at jc;simp[bn,jC,uW,lD,qW,cE,e8,iv,jc];have ay:=M.bL;rw[q0,B5,<-m4]at ay;exact⟨by omega,ck.an (by omega),_,rfl,by simpa using ay⟩
  · have bc:IntKind.i64.wrap ((c2 a:Int)+1)=(c2 a:Int)+1:=fo (by omega) (by omega);simp[RQ,ZT,ZW,ZX,ZY,ZZ,Z0,ZU,ZV,w0 S aC,w0 aS K,mZ S aC,mZ aS K,B,af,eh,g1,zH,zI,jd,qx,aj,ba,lD,qW,bM,bc];have iz:a7 m ((m.bx 5).an (m.next+3) (some ⟨List.replicate (c2 a+1) (.int .u32 0),true⟩)):=((a7.refl m).bx 5).an (by omega);refine⟨by omega,PS gn ja (by omega) (by omega) (bE:=m.next+3) (by omega) (c2 a) 0 0 (List.replicate (c2 a+1) 0) _ _ (by omega) iz (by rw[cW (by simp)];simp) (dT.wg _) (by simp[qd]) (by omega) (by omega) (by simp[val]) (by simp) (by simp) (by simp[qd]) (by simp) (by simp[qd]) (by simp) λae N o c ck cE eo e8 f5 nk o5 bn jC uW=> ?_⟩;rw[qd]at e8 o5 jC;have cg:=aO cE;have M:bP (N.an (m.next+3) (some ⟨(o.set (c2 a) (c%4294967296)).map c3,true⟩)) (.slice (some ⟨m.next+3,0,none⟩) (c2 a+1) 1) (o.set (c2 a) (c%4294967296)):=bP.sK (eo.set _ (by omega)) (cW cg) (by simp[e8]);have q0:val (o.set (c2 a) (c%4294967296))=val a+val b:=by
      have:=z8 (o:=o) (i:=c2 a) (c%4294967296) (by omega);rw[fw (by simp;omega)]at this;rw[this,show c%4294967296=c by omega,m9];omega
    have jc:= λaI=>VP M (by simp[e8];omega) aI;rw[<-m4]at jc;have fM: ¬512<c2 (o.set (c2 a) (c%4294967296)):=by have:=(BM M.1 512).2 (by rw[q0];exact av);omega
    simp only[fM,if_false]at jc;simp[bn,jC,uW,aj,ba,cE,e8,iv,jc];have ay:=M.bL;rw[q0,B5,<-m4]at ay;exact⟨by omega,ck.an (by omega),_,rfl,by simpa using ay⟩
theorem Qv{n:Int}:n.fdiv 9223372036854775808=n/9223372036854775808:=Kq n (by omega)
theorem agI{dv:E}{v w:Value}{x y:List Int}(S:bP dv v x)(aS:bP dv w y)(F:Big x)(ab:y.length<=x.length){bE:Nat}(iO:dv.next<=bE){Q:dp->aM->E->Prop}: ∀(r i:Nat) (c:Int) (o:List Int) (m:E) (u:aM),
    i+r=x.length->a7 dv m->m.U bE=some ⟨o.map c3,true⟩->dT o->o.length=x.length->0<=c->c<2->val (o.take i)-c*a3 i=val (x.take i)-val (y.take i)->
    u 0=v->u 1=w->u 6= .slice (some ⟨bE,0,none⟩) x.length 1->u 7=L c->u 34=X x.length->u 35=X i->
    (∀ae N o c,a7 dv N->N.U bE=some ⟨o.map c3,true⟩->dT o->o.length=x.length->0<=c->c<2->val o-c*a3 x.length=val x-val y->
      ae 6= .slice (some ⟨bE,0,none⟩) x.length 1->Q (.bw 1) ae N)->cH Z (.loop MR) u m Q
  | 0,i,c,o,m,u,ag,ah,aq,aA,eQ,eI,bY,a2,b1,aw,dn,c7,vX,B1,a1=>by refine fc λcp aZ=> ?_;have e:i=x.length:=(by omega);subst e;simp[MR,RX,RY,RZ,R0,RW,vX,B1];rw[fw (l:=x) (by omega),fw (l:=y) (by omega),fw (l:=o) (by omega)]at a2;exact a1 _ _ o c ah aq aA eQ eI bY a2 (by simp[dn])
  | r+1,i,c,o,m,u,ag,ah,aq,aA,eQ,eI,bY,a2,b1,aw,dn,c7,vX,B1,a1=>by
    refine fc λcp aZ=> ?_;have gn:=S.aD ah;have ja:=aS.aD ah;obtain⟨B,H,af,aL⟩:=gn.len;obtain⟨eh,gB,g1,lh⟩:=ja.len;have bn:(i:Int)<x.length:=(by omega);have cq:i<x.length:=(by omega);have cZ:i+1<=x.length:=(by omega);have bh:=gn.j3 (i:=i) (by omega);have bt:=gn.fu (i:=i) (by omega);have ht:=h4 S.1 i;have ET:=h4 aS.1 i;have bc:=e7 (n:=i) (by omega);have da:IntKind.u64.wrap (az x i)=az x i:=fi (by omega) (by omega);have cg:=aO aq;by_cases bM:(i:Int)<y.length
    · have cM:=ja.j3 (i:=i) (by omega);have dq:=ja.fu (i:=i) (by omega);have ij:IntKind.u64.wrap (az y i)=az y i:=fi (by omega) (by omega);obtain⟨O,h1,aX,bg⟩: ∃O,IntKind.u64.wrap (IntKind.u64.wrap (az x i-c)-az y i)=O/\O%4294967296=(az x i-c-az y i)%4294967296/\O/9223372036854775808= -((az x i-c-az y i)/4294967296):=⟨_,rfl,by rw[u0,u0];omega,by rw[u0,u0];omega⟩;simp[MR,RX,RY,RZ,R0,RW,b1,aw,dn,c7,vX,B1,B,af,eh,gB,g1,bn,cZ,bh,bt,cM,dq,bc,da,ij,h1,bM,aq,eQ,iv,Qv,aX,bg];refine aZ _ _ (agI S aS F ab iO r (i+1) (-((az x i-c-az y i)/4294967296)) (o.set i ((az x i-c-az y i)%4294967296)) _ _ (by omega) (ah.an iO) (by rw[cW cg,m4]) (aA.set i (by omega)) (by simp[eQ]) (by omega) (by omega) (asd a2 rfl (by omega)) (by simp[b1]) (by simp[aw]) (by simp[dn]) (by simp) (by simp[vX]) (by simp) a1)
    · have iF:az y i=0:=su (by omega);obtain⟨O,h1,aX,bg⟩: ∃O,IntKind.u64.wrap (az x i-c)=O/\O%4294967296=(az x i-c)%4294967296/\O/9223372036854775808= -((az x i-c)/4294967296):=⟨_,rfl,by rw[u0];omega,by rw[u0];omega⟩;simp[MR,RX,RY,RZ,R0,RW,b1,aw,dn,c7,vX,B1,B,af,eh,gB,bn,cZ,bh,bt,bc,da,h1,bM,aq,eQ,iv,Qv,aX,bg];refine aZ _ _ (agI S aS F ab iO r (i+1) (-((az x i-c)/4294967296)) (o.set i ((az x i-c)%4294967296)) _ _ (by omega) (ah.an iO) (by rw[cW cg,m4]) (aA.set i (by omega)) (by simp[eQ]) (by omega) (by omega) (asd a2 (by omega) (by omega)) (by simp[b1]) (by simp[aw]) (by simp[dn]) (by simp) (by simp[vX]) (by simp) a1)
theorem aLH{m:E}{v w:Value}{a b:List Int}(S:bP m v a)(aS:bP m w b)(aC:Big a)(K:Big b)(na:c2 a<=512)(av:val b<=val a):
    bU Z 128 [v,w] m (wm m (val a-val b)):=by
  rw[au2 (by simp)];obtain⟨B,H,af,aL⟩:=S.len;obtain⟨eh,gB,g1,lh⟩:=aS.len;have jd:=ky a;have qx:=ky b;have DS:c2 b<=c2 a:=(BM aS.1 _).2 (by have:=ag5 S.1;omega);have zH: ¬512<c2 a:=by omega
  have zI: ¬512<c2 b:=by omega
  have vL: ¬ix (val a) (val b)<0:=by unfold ix;split<;>(try split)<;>omega
  have gn:=S.bL;have ja:=aS.bL;have qd:=uS S.1;have rH:=uS aS.1;have El:=iD (ih S.1).1;have yC:=iD (ih aS.1).1;obtain⟨aj,ba,cD,fs⟩:=gn.len;obtain⟨lD,qW,y7,aiZ⟩:=ja.len;rw[qd]at aj;rw[rH]at lD;simp[Z1,akS,akU,akV,akW,akX,akT,w0 S aC,w0 aS K,mZ S aC,mZ aS K,K3 S aS aC K,vL,B,af,eh,g1,zH,zI,jd,qx,aj,ba];have iz:a7 m ((m.bx 4).an (m.next+2) (some ⟨List.replicate (c2 a) (.int .u32 0),true⟩)):=((a7.refl m).bx 4).an (by omega);refine⟨by omega,agI gn ja (by omega) (by omega) (bE:=m.next+2) (by omega) (c2 a) 0 0 (List.replicate (c2 a) 0) _ _ (by omega) iz (by rw[cW (by simp)];simp) (dT.wg _) (by simp[qd]) (by omega) (by omega) (by simp[val]) (by simp) (by simp) (by simp[qd]) (by simp) (by simp[qd]) (by simp) λae N o c ck cE eo e8 f5 nk o5 jC=> ?_⟩;rw[qd]at e8 o5 jC;have M:bP N (.slice (some ⟨m.next+2,0,none⟩) (c2 a) 1) o:=bP.sK eo cE e8.symm;have q0:val o=val a-val b:=by
    have iV:=(ih eo).2;rw[e8]at iV;have Y:=k6 (c2 a);have aK:c=0:=by
      rcases(show c=0\/c=1 by omega)with h|h
      · exact h
      · subst h;omega
    subst aK;omega
  have jc:= λaI=>VP M (by omega) aI;have fM: ¬512<c2 o:=by have:=ky o;omega
  simp only[fM,if_false]at jc;simp[jC,jc];have ay:=M.bL;rw[q0,B5]at ay;exact⟨ck,_,rfl,by simpa using ay⟩
theorem QO{o:List Int}{k q:Nat}{x:Int}(h:q≠k):az (o.set k x) q=az o q:=by unfold az;simp only[mr];rw[List.getElem?_set_ne (by omega)]
theorem Vg{x y:Int}(F:0<=x/\x<4294967296)(ab:0<=y/\y<4294967296):0<=x*y/\x*y<=18446744065119617025:=by refine⟨mq F.1 ab.1,?_⟩;have B:x*y<=4294967295*y:=n1 (by omega) ab.1;omega
theorem aqk{dv:E}{v w:Value}{b:List Int}{bX i na:Nat}{x:Int}(aS:bP dv w b)(hv:bX<80000000000000)(F:0<=x/\x<4294967296)(Yr:i+b.length<=bX){bE:Nat}(iO:dv.next<=bE){cG:List Int}{Q:dp->aM->E->Prop}: ∀(r j:Nat) (c:Int) (o:List Int) (m:E) (u:aM),
    j+r=b.length->a7 dv m->m.U bE=some ⟨o.map c3,true⟩->dT o->o.length=bX->0<=c->c<4294967296->val o+c*a3 (i+j)=val cG+a3 i*(x*val (b.take j))->(∀k,i+b.length<=k->az o k=az cG k)->
    u 1=w->u 6= .slice (some ⟨bE,0,none⟩) bX 1->u 7=X i->u 8=c3 x->u 9=L c->u 32=v->u 33=X na->u 34=X i->u 39=w->u 40=X b.length->u 41=X j->
    (∀ae N o c,a7 dv N->N.U bE=some ⟨o.map c3,true⟩->dT o->o.length=bX->0<=c->c<4294967296->val o+c*a3 (i+b.length)=val cG+a3 i*(x*val b)->(∀k,i+b.length<=k->az o k=az cG k)->
      ae 1=w->ae 6= .slice (some ⟨bE,0,none⟩) bX 1->ae 7=X i->ae 9=L c->ae 32=v->ae 33=X na->ae 34=X i->Q (.bw 2) ae N)->cH Z (.loop R2) u m Q
  | 0,j,c,o,m,u,ag,ah,aq,aA,eQ,eI,bY,a2,a6,aw,dn,c7,ch,e4,GW,D5,D6,qH,yv,B3,a1=>by refine fc λcp aZ=> ?_;have e:j=b.length:=(by omega);subst e;simp(disch:=first|omega|simp only[b3];omega) [R2,aad,Z6,Z7,Z8,yv,B3];rw[fw (l:=b) (by omega)]at a2;exact a1 _ _ o c ah aq aA eQ eI bY a2 a6 (by simp[aw]) (by simp[dn]) (by simp[c7]) (by simp[e4]) (by simp[GW]) (by simp[D5]) (by simp[D6])
  | r+1,j,c,o,m,u,ag,ah,aq,aA,eQ,eI,bY,a2,a6,aw,dn,c7,ch,e4,GW,D5,D6,qH,yv,B3,a1=>by refine fc λcp aZ=> ?_;have ja:=aS.aD ah;obtain⟨eh,gB,g1,lh⟩:=ja.len;obtain⟨k,aa⟩: ∃k,k=i+j:=⟨_,rfl⟩;have bn:(j:Int)<b.length:=(by omega);have bC:(k:Int)<bX:=(by omega);have cq:k<bX:=(by omega);have cZ:k+1<=bX:=(by omega);have cM:=ja.j3 (i:=j) (by omega);have dq:=ja.fu (i:=j) (by omega);have ET:=h4 aS.1 j;have auO:=h4 aA k;have cl:o[k]?=some (az o k):=(by rw[lE (c0 (by omega)),c0 (by omega)]);have Y:=Vg F ET;obtain⟨t,bm⟩: ∃t,t=c+x*az b j+az o k:=⟨_,rfl⟩;have bc:=e7 (n:=j) (by omega);have iZ:IntKind.i64.wrap ((i:Int)+(j:Int))=(k:Int):=(by rw[fo (by omega) (by omega)];omega);have da:IntKind.u64.wrap x=x:=fi (by omega) (by omega);have fB:IntKind.u64.wrap (az b j)=az b j:=fi (by omega) (by omega);have ij:IntKind.u64.wrap (az o k)=az o k:=fi (by omega) (by omega);have h1:IntKind.u64.wrap (x*az b j)=x*az b j:=fi (by omega) (by omega);have mL:IntKind.u64.wrap (x*az b j+az o k)=x*az b j+az o k:=fi (by omega) (by omega);have l7:IntKind.u64.wrap (c+(x*az b j+az o k))=t:=(by rw[fi (by omega) (by omega)];omega);have cg:=aO aq;have uF:k<o.length:=(by omega);have qp:o[k]=az o k:=(by rw[lE (c0 uF)]);simp(disch:=first|omega|simp only[b3];omega) [R2,aad,Z6,Z7,Z8,dn,c7,ch,e4,qH,yv,B3,eh,g1,bn,bC,cZ,cM,dq,bc,da,fB,ij,h1,iZ,mL,l7,aq,eQ,iv,qV,qp,lj];refine aZ _ _ (aqk aS hv F Yr iO (cG:=cG) r (j+1) (t/4294967296) (o.set k (t%4294967296)) _ _ (by omega) (ah.an iO) (by rw[cW cg,m4]) (aA.set k (by omega)) (by simp[eQ]) (by omega) (by omega) (by subst aa;exact aqj a2 (by rw[<-cl]) (by omega)) (λq bz=>by rw[QO (by omega)];exact a6 q bz) (by simp[aw]) (by simp[dn]) (by simp[c7]) (by simp[ch]) (by simp) (by simp[GW]) (by simp[D5]) (by simp[D6]) (by simp[qH]) (by simp[yv]) (by simp) a1)
theorem aql{dv:E}{v w:Value}{a b:List Int}{bX:Nat}(S:bP dv v a)(aS:bP dv w b)(hv:bX=a.length+b.length)(aC:Big a)(K:Big b){bE:Nat}(iO:dv.next<=bE){Q:dp->aM->E->Prop}: ∀(r i:Nat) (o:List Int) (m:E) (u:aM),
    i+r=a.length->a7 dv m->m.U bE=some ⟨o.map c3,true⟩->dT o->o.length=bX->val o=val (a.take i)*val b->(∀k,i+b.length<=k->az o k=0)->
    u 1=w->u 6= .slice (some ⟨bE,0,none⟩) bX 1->u 32=v->u 33=X a.length->u 34=X i->
    (∀ae N o,a7 dv N->N.U bE=some ⟨o.map c3,true⟩->dT o->o.length=bX->val o=val a*val b->ae 6= .slice (some ⟨bE,0,none⟩) bX 1->Q (.bw 0) ae N)->cH Z (.loop R3) u m Q
  | 0,i,o,m,u,ag,ah,aq,aA,eQ,a2,a6,aw,dn,GW,D5,D6,a1=>by refine fc λcp aZ=> ?_;have e:i=a.length:=(by omega);subst e;simp[R3,Z9,aaa,aab,aac,D5,D6];rw[fw (l:=a) (by omega)]at a2;exact a1 _ _ o ah aq aA eQ a2 (by simp[dn])
  | r+1,i,o,m,u,ag,ah,aq,aA,eQ,a2,a6,aw,dn,GW,D5,D6,a1=>by
    refine fc λcp aZ=> ?_;have gn:=S.aD ah;have ja:=aS.aD ah;obtain⟨B,H,af,aL⟩:=gn.len;obtain⟨eh,gB,g1,lh⟩:=ja.len;have bn:(i:Int)<a.length:=(by omega);have bh:=gn.j3 (i:=i) (by omega);have bt:=gn.fu (i:=i) (by omega);have ht:=h4 S.1 i;simp[R3,Z9,aaa,aab,aac,aw,GW,D5,D6,B,af,eh,gB,bn,bh,bt];refine aqk (v:=v) (na:=a.length) (i:=i) (bX:=bX) (x:=az a i) (bE:=bE) aS (by omega) ht (by omega) iO (cG:=o) b.length 0 0 o _ _ (by omega) ah aq aA eQ (by omega) (by omega) (by simp[val]) (λ_ _=>rfl) (by simp[aw]) (by simp[dn]) (by simp) (by simp) (by simp) (by simp[GW]) (by simp[D5]) (by simp[D6]) (by simp) (by simp) (by simp) λae N o' c ck cE eo e8 f5 nk o5 xL ez r7 z0 JR aIk aIl aIm=> ?_;obtain⟨k,aa⟩: ∃k,k=i+b.length:=⟨_,rfl⟩;have iZ:IntKind.i64.wrap ((i:Int)+(b.length:Int))=(k:Int):=(by rw[fo (by omega) (by omega)];omega);have bc:=e7 (n:=i) (by omega);have bC:(k:Int)<bX:=(by omega);have cZ:k+1<=bX:=(by omega);have cg:=aO cE;simp[ez,r7,z0,JR,aIm,eh,gB,bc,iZ,bC,cZ,cE,e8,iv];have cl:o'[k]?=some 0:=by have bH:=a6 k (by omega);rw[<-xL k (by omega)]at bH;rw[lE (c0 (by omega))]at bH;rw[c0 (by omega),bH]
    refine aZ _ _ (aql S aS hv aC K iO r (i+1) (o'.set k (c%4294967296)) _ _ (by omega) (ck.an iO) (by rw[cW cg,m4]) (eo.set k (by omega)) (by simp[e8]) ?_ (λq bz=>by rw[QO (by omega),xL q (by omega)];exact a6 q (by omega)) (by simp[ez]) (by simp[r7]) (by simp[aIk]) (by simp[aIl]) (by simp) a1);rw[V7 _ cl,pt a,show c%4294967296=c by omega];rw[<-aa,a2]at o5
    grind
theorem aHD{m:E}{v w:Value}{a b:List Int}(S:bP m v a)(aS:bP m w b)(aC:Big a)(K:Big b)(na:c2 a<=512)(DS:c2 b<=512)(av:val a*val b<a3 512):
    bU Z 132 [v,w] m (wm m (val a*val b)):=by
  rw[au6 (by simp)];obtain⟨B,H,af,aL⟩:=S.len;obtain⟨eh,gB,g1,lh⟩:=aS.len;have jd:=ky a;have qx:=ky b;have zH: ¬512<c2 a:=by omega
  have zI: ¬512<c2 b:=by omega
  have gn:=S.bL;have ja:=aS.bL;have qd:=uS S.1;have rH:=uS aS.1;have El:=iD (ih S.1).1;have yC:=iD (ih aS.1).1;obtain⟨aj,ba,cD,fs⟩:=gn.len;obtain⟨lD,qW,y7,aiZ⟩:=ja.len;rw[qd]at aj;rw[rH]at lD;obtain⟨bX,hv⟩: ∃bX,bX=c2 a+c2 b:=⟨_,rfl⟩;have bc:IntKind.i64.wrap ((c2 a:Int)+(c2 b:Int))=(bX:Int):=by rw[fo (by omega) (by omega)];omega
  simp[Z5,ak6,ak8,ak9,ala,ak7,w0 S aC,w0 aS K,mZ S aC,mZ aS K,B,af,eh,g1,zH,zI,jd,qx,aj,ba,lD,qW,bc];have iz:a7 m ((m.bx 7).an (m.next+5) (some ⟨List.replicate bX (.int .u32 0),true⟩)):=((a7.refl m).bx 7).an (by omega);refine⟨by omega,aql (bX:=bX) gn ja (by omega) (by omega) (by omega) (bE:=m.next+5) (by omega) (c2 a) 0 (List.replicate bX 0) _ _ (by omega) iz (by rw[cW (by simp)];simp) (dT.wg _) (by simp) (by simp[val,V8]) (λk aa=>by unfold az;simp[List.getElem?_replicate];split<;>rfl) (by simp) (by simp) (by simp) (by simp[qd]) (by simp) λae N o ck cE eo e8 f5 jC=> ?_⟩;rw[El,yC]at f5;have M:bP N (.slice (some ⟨m.next+5,0,none⟩) bX 1) o:=bP.sK eo cE e8.symm;have jc:= λaI=>VP M (by omega) aI;have fM: ¬512<c2 o:=by have:=(BM eo 512).2 (by rw[f5];exact av);omega
  simp only[fM,if_false]at jc;simp[jC,jc];have ay:=M.bL;rw[f5,B5]at ay;exact⟨ck,_,rfl,by simpa using ay⟩
theorem asy:(2:Int)^IntKind.u64.bits=18446744073709551616:=by decide
theorem BR{x y ax:Int}{s:Nat}(gh:ax=(2:Int)^s)(F:0<=x)(ab:0<=y)(Zc:y<ax)(h:x*ax+y<18446744073709551616):IntKind.u64.wrap ↑((x*ax%2^IntKind.u64.bits).toNat|||(y%2^IntKind.u64.bits).toNat)=x*ax+y:=by
  obtain⟨cV,rfl⟩:=xp F;obtain⟨di,rfl⟩:=xp ab;have aX:((cV:Int)*ax)=((2^s*cV:Nat):Int):=by rw[gh];simp[m9]
  have bg:(di:Int)<((2^s:Nat):Int):=by simpa[gh]using Zc
  have dU:di<2^s:=by omega
  have ha:2^s*cV+di<18446744073709551616:=by rw[aX]at h;omega
  rw[aX,asy];have kF:(((2^s*cV:Nat):Int)%18446744073709551616).toNat=2^s*cV:=by omega
  have ni:((di:Int)%18446744073709551616).toNat=di:=by omega
  rw[kF,ni,<-Nat.two_pow_add_eq_or_of_lt dU,fi (by omega) (by omega)];omega
theorem aqL{x y ax:Int}{s:Nat}(gh:ax=(2:Int)^s)(F:0<=x)(ab:0<=y)(Zc:y<ax)(h:x*ax+y<18446744073709551616):IntKind.u64.wrap ↑((y%2^IntKind.u64.bits).toNat|||(x*ax%2^IntKind.u64.bits).toNat)=y+x*ax:=by rw[Nat.or_comm,BR gh F ab Zc h];omega
theorem auo{x:Int}(F:0<=x)(h:x<18446744073709551616):IntKind.u64.wrap ↑((x%2^IntKind.u64.bits).toNat&&&(4294967295%2^IntKind.u64.bits))=x%4294967296:=by
  rw[asy];have kF:(x%18446744073709551616).toNat=x.toNat:=by omega
  rw[kF,show 4294967295%2^IntKind.u64.bits=2^32-1 from rfl,Nat.and_two_pow_sub_one_eq_mod,fi (by omega) (by omega)];omega
theorem arQ{dv:E}{v:Value}{a:List Int}{d:Int}(S:bP dv v a)(ay:0<d/\d<4294967296)(aC:Big a){bE:Nat}(iO:dv.next<=bE){Q:dp->aM->E->Prop}: ∀(n:Nat) (c:Int) (o:List Int) (m:E) (u:aM),
    n<=a.length->a7 dv m->m.U bE=some ⟨o.map c3,true⟩->dT o->o.length=a.length->0<=c->c<d->val (a.drop n)=val (o.drop n)*d+c->
    u 0=v->u 1=c3 d->u 6= .slice (some ⟨bE,0,none⟩) a.length 1->u 7=L c->u 8=X ((n:Int)-1)->
    (∀ae N o c,a7 dv N->N.U bE=some ⟨o.map c3,true⟩->dT o->o.length=a.length->0<=c->c<d->val a=val o*d+c->
      ae 6= .slice (some ⟨bE,0,none⟩) a.length 1->ae 7=L c->Q (.bw 0) ae N)->cH Z (.loop SK) u m Q
  | 0,c,o,m,u,av,ah,aq,aA,eQ,eI,bY,a2,b1,aw,dn,c7,ch,a1=>by refine fc λcp aZ=> ?_;simp[SK,aa1,aa2,ch];exact a1 _ _ o c ah aq aA eQ eI bY (by simpa using a2) (by simp[dn]) (by simp[c7])
  | n+1,c,o,m,u,av,ah,aq,aA,eQ,eI,bY,a2,b1,aw,dn,c7,ch,a1=>by refine fc λcp aZ=> ?_;have gn:=S.aD ah;obtain⟨B,H,af,aL⟩:=gn.len;have bn:(n:Int)<a.length:=(by omega);have cq:n+1<=a.length:=(by omega);have bh:=gn.j3 (i:=n) (by omega);have bt:=gn.fu (i:=n) (by omega);have ht:=h4 S.1 n;obtain⟨t,bm⟩: ∃t,t=c*4294967296+az a n:=⟨_,rfl⟩;have bS:0<=t:=(by omega);have eu:t<d*4294967296:=(by omega);have bc:IntKind.i64.wrap ((n:Int)-1)=(n:Int)-1:=fo (by omega) (by omega);have da:IntKind.u64.wrap (az a n)=az a n:=fi (by omega) (by omega);have fB:IntKind.u64.wrap (c*4294967296)=c*4294967296:=fi (by omega) (by omega);have ij:IntKind.u64.wrap ↑((c*4294967296%2^IntKind.u64.bits).toNat|||(az a n%2^IntKind.u64.bits).toNat)=t:=(by rw[BR (s:=32) (by decide) eI ht.1 ht.2 (by omega)];omega);have h1:IntKind.u64.wrap d=d:=fi (by omega) (by omega);have hN:0<=t/d:=Am bS (by omega);have j5:t/d<4294967296:=Int.ediv_lt_of_lt_mul ay.1 (by rw[m9];exact eu);have p2:=yH t (show d≠0 by omega);have eT:=xr t ay.1;have iZ:IntKind.u64.wrap (t.tdiv d)=t/d:=(by rw[Eu bS];exact fi hN (by omega));have mL:t.tmod d=t%d:=Py bS;have l7:IntKind.u32.wrap (t/d)=t/d:=(by rw[iv];omega);have kR: ¬d=0:=(by omega);have cg:=aO aq;simp[SK,aa1,aa2,b1,aw,dn,c7,ch,B,af,bn,cq,bh,bt,bc,da,fB,ij,h1,iZ,mL,l7,kR,aq,eQ];refine aZ _ _ (arQ S ay aC iO n (t%d) (o.set n (t/d)) _ _ (by omega) (ah.an iO) (by rw[cW cg,m4]) (aA.set n (by omega)) (by simp[eQ]) p2 eT (arR ay.1 a2 bm (by omega)) (by simp[b1]) (by simp[aw]) (by simp[dn]) (by simp) (by simp) a1)
theorem aLm{m:E}{v:Value}{a:List Int}{d:Int}(S:bP m v a)(ay:0<d/\d<4294967296)(aC:Big a):
    bU Z 168 [v,c3 d] m λr N=>a7 m N/\ ∃q,r= .tuple #[q,c3 (val a%d)]/\bP N q (bL (val a/d)):=by
  rw[avt (by simp)];obtain⟨B,H,af,aL⟩:=S.len;have bc:IntKind.i64.wrap ((a.length:Int)-1)=(a.length:Int)-1:=fo (by omega) (by omega);simp[aa0,amz,amA,amB,amC,B,H,bc];have iz:a7 m ((m.bx 4).an (m.next+2) (some ⟨List.replicate a.length (.int .u32 0),true⟩)):=((a7.refl m).bx 4).an (by omega);refine⟨by omega,arQ S ay aC (bE:=m.next+2) (by omega) a.length 0 (List.replicate a.length 0) _ _ (by omega) iz (by rw[cW (by simp)];simp) (dT.wg _) (by simp) (by omega) (by omega) (by rw[u5 (by omega),u5 (by simp)];simp[val]) (by simp) (by simp) (by simp) (by simp) (by simp) λae N o c ck cE eo e8 f5 nk o5 jC uW=> ?_⟩;have M:bP N (.slice (some ⟨m.next+2,0,none⟩) a.length 1) o:=bP.sK eo cE e8.symm;have aza:= λaI=>mZ M (by omega) aI;have av:=ky o;have rO:(c2 o:Int)<=a.length:=by omega
  obtain⟨aX,bg⟩:=EY o5 f5 nk;have da:IntKind.u32.wrap c=c:=by rw[iv];omega
  simp[jC,uW,aza,rO,da];have ay:=M.bL;rw[<-aX,B5]at ay;exact⟨ck,_,⟨rfl,bg.symm⟩,by simpa using ay⟩
theorem asE{dv:E}{v:Value}{a:List Int}{s:Nat}{ax:Int}(gh:ax=(2:Int)^s)(M:s<32)(nG:1<=ax/\ax<=2147483648)(S:bP dv v a)(aC:Big a){bE:Nat}(iO:dv.next<=bE){Q:dp->aM->E->Prop}: ∀(r i:Nat) (c:Int) (o:List Int) (m:E) (u:aM),
    i+r=a.length->a7 dv m->m.U bE=some ⟨o.map c3,true⟩->dT o->o.length=a.length+1->0<=c->c<ax->val (o.take i)+c*a3 i=val (a.take i)*ax->
    u 0=v->u 1=L s->u 5= .slice (some ⟨bE,0,none⟩) (a.length+1) 1->u 6=L c->u 13=v->u 14=X a.length->u 15=X i->
    (∀ae N o c,a7 dv N->N.U bE=some ⟨o.map c3,true⟩->dT o->o.length=a.length+1->0<=c->c<ax->val (o.take a.length)+c*a3 a.length=val a*ax->
      ae 0=v->ae 5= .slice (some ⟨bE,0,none⟩) (a.length+1) 1->ae 6=L c->Q (.bw 0) ae N)->cH Z (.loop SL) u m Q
  | 0,i,c,o,m,u,ag,ah,aq,aA,eQ,eI,bY,a2,b1,aw,cv,dn,iJ,ie,hH,a1=>by refine fc λcp aZ=> ?_;have e:i=a.length:=(by omega);subst e;simp[SL,aa4,aa5,aa6,aa7,ie,hH];rw[fw (l:=a) (by omega)]at a2;exact a1 _ _ o c ah aq aA eQ eI bY a2 (by simp[b1]) (by simp[cv]) (by simp[dn])
  | r+1,i,c,o,m,u,ag,ah,aq,aA,eQ,eI,bY,a2,b1,aw,cv,dn,iJ,ie,hH,a1=>by
    refine fc λcp aZ=> ?_;have gn:=S.aD ah;obtain⟨B,H,af,aL⟩:=gn.len;have bn:(i:Int)<a.length:=(by omega);have bC:(i:Int)<(a.length:Int)+1:=(by omega);have cq:i<=a.length:=(by omega);have cZ:(i:Int)<=a.length:=(by omega);have bh:=gn.j3 (i:=i) (by omega);have bt:=gn.fu (i:=i) (by omega);have ht:=h4 S.1 i;have Y:az a i*ax+ax<=4294967296*ax:=by have:=n1 (show az a i+1<=4294967296 by omega) (show 0<=ax by omega);rw[Int.add_mul,Int.one_mul]at this;exact this
    have tA:0<=az a i*ax:=mq ht.1 (by omega);obtain⟨t,bm⟩: ∃t,t=c+az a i*ax:=⟨_,rfl⟩;have bc:=e7 (n:=i) (by omega);have da:IntKind.u64.wrap (az a i)=az a i:=fi (by omega) (by omega);have fB:IntKind.u64.wrap (az a i*ax)=az a i*ax:=fi (by omega) (by omega);have ij:IntKind.u64.wrap ↑((c%2^IntKind.u64.bits).toNat|||(az a i*ax%2^IntKind.u64.bits).toNat)=t:=(by rw[aqL gh ht.1 eI bY (by omega),bm]);have hV:min s 64=s:=(by omega);have cg:=aO aq;simp[SL,aa4,aa5,aa6,aa7,aw,cv,dn,iJ,ie,hH,B,af,bn,bC,cq,bh,bt,bc,da,fB,ij,hV,<-gh,aq,eQ,iv,qV];refine aZ _ _ (asE gh M nG S aC iO r (i+1) (t/4294967296) (o.set i (t%4294967296)) _ _ (by omega) (ah.an iO) (by rw[cW cg,m4]) (aA.set i (by omega)) (by simp[eQ]) (by omega) (by omega) (aMd a2 bm (by omega)) (by simp[b1]) (by simp[aw]) (by simp[cv]) (by simp) (by simp[iJ]) (by simp[ie]) (by simp) a1)
def uk(m:E)(n:Nat)(x:Int)(r:Value)(N:E):Prop:=a7 m N/\ ∃bE o,r= .slice (some ⟨bE,0,none⟩) n 1/\m.next<=bE/\N.U bE=some ⟨o.map c3,true⟩/\dT o/\o.length=n/\val o=x
theorem asF{m:E}{v:Value}{a:List Int}{s:Nat}{ax:Int}(gh:ax=(2:Int)^s)(M:s<32)(nG:1<=ax/\ax<=2147483648)(S:bP m v a)(aC:Big a):
    bU Z 169 [v,L s] m (uk m (a.length+1) (val a*ax)):=by
  rw[avu (by simp)];obtain⟨B,H,af,aL⟩:=S.len;have bc:IntKind.i64.wrap ((a.length:Int)+1)=(a.length:Int)+1:=fo (by omega) (by omega);simp[aa3,amD,amE,amF,amG,amH,B,H,bc];have iz:a7 m ((m.bx 5).an (m.next+3) (some ⟨List.replicate (a.length+1) (.int .u32 0),true⟩)):=((a7.refl m).bx 5).an (by omega);refine⟨by omega,asE gh M nG S aC (bE:=m.next+3) (by omega) a.length 0 0 (List.replicate (a.length+1) 0) _ _ (by omega) iz (by rw[cW (by simp)];simp) (dT.wg _) (by simp) (by omega) (by omega) (by simp[val]) (by simp) (by simp) (by simp) (by simp) (by simp) (by simp) (by simp) λae N o c ck cE eo e8 f5 nk o5 bn gA jC=> ?_⟩;have cg:=aO cE;simp[bn,gA,jC,B,H,cE,e8,iv];refine⟨by omega,ck.an (by omega),m.next+3,o.set a.length (c%4294967296),rfl,by omega,by rw[cW cg,m4],eo.set _ (by omega),by simp[e8],?_⟩;have:=z8 (o:=o) (i:=a.length) (c%4294967296) (by omega);rw[fw (by simp;omega)]at this;rw[this,show c%4294967296=c by omega,m9];exact o5
structure kX(fJ:Nat)(m N:E):Prop where
  next:m.next<=N.next
  U: ∀b,b<m.next->b≠fJ->N.U b=m.U b
theorem kX.refl(fJ:Nat)(m:E):kX fJ m m:=⟨eB _,λ_ _ _=>rfl⟩
theorem kX.trans{fJ:Nat}{a b c:E}(h:kX fJ a b)(b6:kX fJ b c):kX fJ a c:=⟨nC h.next b6.next,λx F K=>by rw[b6.U x (nz F h.next) K,h.U x F K]⟩
theorem kX.an{fJ:Nat}{m N:E}(h:kX fJ m N){x:Option fV}:kX fJ m (N.an fJ x):=⟨h.next,λb K av=>by rw[dC av,h.U b K av]⟩
theorem kX.ek{fJ:Nat}{m N:E}(h:a7 m N):kX fJ m N:=⟨h.next,λb K _=>h.U b K⟩
theorem bP.qz{m N:E}{v:Value}{l:List Int}{fJ:Nat}(h:bP m v l)(K:ai v≠some fJ)(ah:kX fJ m N):bP N v l:=by
  obtain⟨aa,h|⟨b,o,cs,w,B,H,af,aL⟩⟩:=h
  · exact⟨aa,.inl h⟩
  · subst B;exact⟨aa,.inr ⟨b,o,cs,w,rfl,by rw[ah.U b (aO H) (by simpa[ai]using K),H],af,aL⟩⟩
theorem UU{cy w C:List Int}{i:Nat}(h:i<w.length){x:Int}:(cy++w++C).set (cy.length+i) x=cy++w.set i x++C:=by rw[ug,ug,List.set_append_right _ _ (by omega),Nat.add_sub_cancel_left,List.set_append_left _ _ h]
theorem UT{cy w C:List Int}{i:Nat}(h:i<w.length):(cy++w++C)[cy.length+i]?=some (az w i):=by rw[ug,Cf (by omega),Nat.add_sub_cancel_left,yE h,lE (c0 h),c0 h]
theorem QN{w aG:List Int}{i:Nat}(h:w.drop i=aG.drop i):az w i=az aG i:=by have B:=HQ (l:=w) (i:=0) (n:=i);have H:=HQ (l:=aG) (i:=0) (n:=i);rw[h]at B;simpa using B.symm.trans H
theorem ase{dv:E}{v:Value}{fq cy C aG:List Int}{f:Int}{j n fJ:Nat}(S:bP dv v fq)(K:ai v≠some fJ)(av:fq.length=n)(hv:n<35184372087809)(bs:0<=f/\f<4294967296)(c6:cy.length=j)(ar:dT aG)(mA:aG.length=n+1){Q:dp->aM->E->Prop}: ∀(r i:Nat) (c b:Int) (w z:List Int) (m:E) (u:aM),
    i+r=n->kX fJ dv m->m.U fJ=some ⟨z.map c3,true⟩->z=cy++w++C->dT w->w.length=n+1->w.drop i=aG.drop i->0<=c->c<4294967296->0<=b->b<2->val (w.take i)=val (aG.take i)-f*val (fq.take i)+(c+b)*a3 i->
    u 0= .slice (some ⟨fJ,j,none⟩) (n+1) 1->u 1=v->u 2=L f->u 7=L c->u 8=L b->u 13=v->u 14=X n->u 15=X i->
    (∀ae N c b w z,kX fJ dv N->N.U fJ=some ⟨z.map c3,true⟩->z=cy++w++C->dT w->w.length=n+1->w.drop n=aG.drop n->0<=c->c<4294967296->0<=b->b<2->val (w.take n)=val (aG.take n)-f*val fq+(c+b)*a3 n->
      ae 0= .slice (some ⟨fJ,j,none⟩) (n+1) 1->ae 1=v->ae 7=L c->ae 8=L b->Q (.bw 0) ae N)->cH Z (.loop SS) u m Q
  | 0,i,c,b,w,z,m,u,ag,ah,aq,dD,aA,eQ,tu,eI,bY,dB,cM,a2,b1,aw,bR,c7,ch,iJ,ie,hH,a1=>by refine fc λcp aZ=> ?_;have e:i=n:=(by omega);subst e;simp(disch:=first|omega|simp only[b3];omega) [SS,abo,abp,abq,abr,abt,abu,ie,hH];rw[fw (l:=fq) (by omega)]at a2;exact a1 _ _ c b w z ah aq dD aA eQ tu eI bY dB cM a2 (by simp[b1]) (by simp[aw]) (by simp[c7]) (by simp[ch])
  | r+1,i,c,b,w,z,m,u,ag,ah,aq,dD,aA,eQ,tu,eI,bY,dB,cM,a2,b1,aw,bR,c7,ch,iJ,ie,hH,a1=>by
    refine fc λcp aZ=> ?_;have gn:=S.qz K ah;obtain⟨B,H,af,aL⟩:=gn.len;rw[av]at B;have bn:(i:Int)<n:=(by omega);have bC:(i:Int)<(n:Int)+1:=(by omega);have cq:(i:Int)<=n:=(by omega);have bh:=gn.j3 (i:=i) (by omega);have bt:=gn.fu (i:=i) (by omega);have ht:=h4 S.1 i;have WR:=h4 ar i;have Y:=Vg bs ht;have pN:az w i=az aG i:=QN tu;have cl:z[j+i]?=some (az aG i):=(by rw[dD,<-c6,UT (by omega),pN]);obtain⟨pT,qp⟩:=dg.1 cl;have FL:j+i+1<=z.length:=(by omega);obtain⟨t,bm⟩: ∃t,t=c+f*az fq i:=⟨_,rfl⟩;have bc:=e7 (n:=i) (by omega);have da:IntKind.u64.wrap (az fq i)=az fq i:=fi (by omega) (by omega);have fB:IntKind.u64.wrap (f*az fq i)=f*az fq i:=fi (by omega) (by omega);have ij:IntKind.u64.wrap (c+f*az fq i)=t:=(by rw[fi (by omega) (by omega),bm]);have h1:=auo (x:=t) (by omega) (by omega);have iZ:IntKind.u64.wrap (az aG i)=az aG i:=fi (by omega) (by omega);obtain⟨O,mL,aX,bg⟩: ∃O,IntKind.u64.wrap (IntKind.u64.wrap (az aG i-t%4294967296)-b)=O/\O%4294967296=(az aG i-t%4294967296-b)%4294967296/\O/9223372036854775808= -((az aG i-t%4294967296-b)/4294967296):=⟨_,rfl,by rw[u0,u0];omega,by rw[u0,u0];omega⟩;obtain⟨d,ay⟩: ∃d,d=az aG i-t%4294967296-b:=⟨_,rfl⟩;rw[<-ay]at aX bg;have cg:=aO aq;simp(disch:=first|omega|simp only[b3];omega) [SS,abo,abp,abq,abr,abt,abu,b1,bR,c7,ch,iJ,ie,hH,B,af,bn,bC,bh,bt,bc,da,fB,ij,h1,iZ,mL,aX,bg,aq,qp,FL,lj,iv,qV,Qv];refine aZ _ _ (ase S K av hv bs c6 ar mA r (i+1) (t/4294967296) (-(d/4294967296)) (w.set i (d%4294967296)) (z.set (j+i) (d%4294967296)) _ _ (by omega) ah.an (by rw[cW cg,m4]) (by rw[dD,<-c6,UU (by omega)]) (aA.set i (by omega)) (by simp[eQ]) ?_ (by omega) (by omega) (by omega) (by omega) ?_ (by simp[b1]) (by simp[aw]) (by simp[bR]) (by simp) (by simp) (by simp[iJ]) (by simp[ie]) (by simp) a1)
    · rw[List.drop_set_of_lt (by omega),<-s9 (i:=1) (j:=i),<-s9 (i:=1) (j:=i),tu]
    · exact aLI (aG:=aG) (b:=b) (c:=c) a2 bm ay (by omega) (by omega)
def aho(m:E)(fJ n:Nat)(cy C:List Int)(y:Int)(gJ:Int)(N:E):Prop:=kX fJ m N/\ ∃w z,N.U fJ=some ⟨z.map c3,true⟩/\z=cy++w++C/\dT w/\w.length=n+1/\val w=y+gJ*a3 (n+1)
def atD(m:E)(fJ n:Nat)(cy C:List Int)(y:Int)(r:Value)(N:E):Prop:= ∃k:Int,(k=0\/k=1)/\r= .bool (decide (k=1))/\aho m fJ n cy C y k N
theorem aLJ{m:E}{v:Value}{fq cy C aG z:List Int}{f:Int}{j n fJ:Nat}(S:bP m v fq)(K:ai v≠some fJ)(av:fq.length=n)(hv:n<35184372087809)(bs:0<=f/\f<4294967296)(c6:cy.length=j)(ar:dT aG)(mA:aG.length=n+1)
    (aq:m.U fJ=some ⟨z.map c3,true⟩) (dD:z=cy++aG++C):
    bU Z 170 [.slice (some ⟨fJ,j,none⟩) (n+1) 1,v,L f] m (atD m fJ n cy C (val aG-f*val fq)):=by
  rw[avv (by simp)];obtain⟨B,H,af,aL⟩:=S.len;rw[av]at B;simp(disch:=first|omega|simp only[b3];omega) [abn,amP,amS,amT,amQ,amR,B,H];refine ase S K av hv bs c6 ar mA n 0 0 0 aG z m _ (by omega) (kX.refl _ _) aq dD ar mA rfl (by omega) (by omega) (by omega) (by omega) (by simp[val]) (by simp) (by simp) (by simp) (by simp) (by simp) (by simp) (by simp) (by simp) λae N c b w dH ck cE eo e8 f5 nk o5 xL aQN aQL aiF po ez z0 sM=> ?_;have gn:=S.qz K ck;obtain⟨B,H,af,aL⟩:=gn.len;rw[av]at B;have pN:az w n=az aG n:=QN nk;have WR:=h4 ar n;have cl:dH[j+n]?=some (az aG n):=by rw[eo,<-c6,UT (by omega),pN]
  obtain⟨pT,qp⟩:=dg.1 cl;have FL:j+n+1<=dH.length:=by omega
  have bC:(n:Int)<(n:Int)+1:=by omega
  have iZ:IntKind.u64.wrap (az aG n)=az aG n:=fi (by omega) (by omega);obtain⟨d,ay⟩: ∃d,d=az aG n-c-b:=⟨_,rfl⟩;obtain⟨O,mL,aX,bg⟩: ∃O,IntKind.u64.wrap (IntKind.u64.wrap (az aG n-c)-b)=O/\O%4294967296=d%4294967296/\O/9223372036854775808= -(d/4294967296):=⟨_,rfl,by rw[u0,u0];omega,by rw[u0,u0];omega⟩;have cg:=aO cE;simp(disch:=first|omega|simp only[b3];omega) [po,ez,z0,sM,B,H,bC,iZ,mL,aX,bg,cE,qp,FL,lj,iv,Qv];refine⟨-(d/4294967296),by omega,by rfl,ck.an,w.set n (d%4294967296),dH.set (j+n) (d%4294967296),by rw[cW cg,m4],by rw[eo,<-c6,UU (by omega)],e8.set n (by omega),by simp[f5],?_⟩;have aj:=z8 (o:=w) (i:=n) (d%4294967296) (by omega);rw[fw (by simp;omega)]at aj;have ba:=pt aG n;rw[fw (l:=aG) (by omega)]at ba;have cD:=v8 (t:=d) (a9:=4294967296) (by omega);rw[aj,ba,aiF];simp only[a3]
  grind
theorem are{dv:E}{v:Value}{fq cy C aG:List Int}{j n fJ:Nat}(S:bP dv v fq)(K:ai v≠some fJ)(av:fq.length=n)(hv:n<35184372087809)(c6:cy.length=j)(ar:dT aG)(mA:aG.length=n+1){Q:dp->aM->E->Prop}: ∀(r i:Nat) (c:Int) (w z:List Int) (m:E) (u:aM),
    i+r=n->kX fJ dv m->m.U fJ=some ⟨z.map c3,true⟩->z=cy++w++C->dT w->w.length=n+1->w.drop i=aG.drop i->0<=c->c<2->val (w.take i)+c*a3 i=val (aG.take i)+val (fq.take i)->
    u 0= .slice (some ⟨fJ,j,none⟩) (n+1) 1->u 1=v->u 4=L c->u 7=v->u 8=X n->u 9=X i->
    (∀ae N c w z,kX fJ dv N->N.U fJ=some ⟨z.map c3,true⟩->z=cy++w++C->dT w->w.length=n+1->w.drop n=aG.drop n->0<=c->c<2->val (w.take n)+c*a3 n=val (aG.take n)+val fq->
      ae 0= .slice (some ⟨fJ,j,none⟩) (n+1) 1->ae 1=v->ae 4=L c->Q (.bw 0) ae N)->cH Z (.loop SU) u m Q
  | 0,i,c,w,z,m,u,ag,ah,aq,dD,aA,eQ,tu,eI,bY,a2,b1,aw,fv,c7,ch,e4,a1=>by refine fc λcp aZ=> ?_;have e:i=n:=(by omega);subst e;simp(disch:=first|omega|simp only[b3];omega) [SU,abw,abx,aby,abz,ch,e4];rw[fw (l:=fq) (by omega)]at a2;exact a1 _ _ c w z ah aq dD aA eQ tu eI bY a2 (by simp[b1]) (by simp[aw]) (by simp[fv])
  | r+1,i,c,w,z,m,u,ag,ah,aq,dD,aA,eQ,tu,eI,bY,a2,b1,aw,fv,c7,ch,e4,a1=>by refine fc λcp aZ=> ?_;have gn:=S.qz K ah;obtain⟨B,H,af,aL⟩:=gn.len;rw[av]at B;have bn:(i:Int)<n:=(by omega);have bC:(i:Int)<(n:Int)+1:=(by omega);have cq:(i:Int)<=n:=(by omega);have bh:=gn.j3 (i:=i) (by omega);have bt:=gn.fu (i:=i) (by omega);have ht:=h4 S.1 i;have WR:=h4 ar i;have pN:az w i=az aG i:=QN tu;have cl:z[j+i]?=some (az aG i):=(by rw[dD,<-c6,UT (by omega),pN]);obtain⟨pT,qp⟩:=dg.1 cl;have FL:j+i+1<=z.length:=(by omega);obtain⟨t,bm⟩: ∃t,t=c+az aG i+az fq i:=⟨_,rfl⟩;have bc:=e7 (n:=i) (by omega);have da:IntKind.u64.wrap (az fq i)=az fq i:=fi (by omega) (by omega);have fB:IntKind.u64.wrap (az aG i)=az aG i:=fi (by omega) (by omega);have ij:IntKind.u64.wrap (az aG i+az fq i)=az aG i+az fq i:=fi (by omega) (by omega);have h1:IntKind.u64.wrap (c+(az aG i+az fq i))=t:=(by rw[fi (by omega) (by omega)];omega);have cg:=aO aq;simp(disch:=first|omega|simp only[b3];omega) [SU,abw,abx,aby,abz,b1,fv,c7,ch,e4,B,af,bn,bC,bh,bt,bc,da,fB,ij,h1,aq,qp,FL,lj,iv,qV];refine aZ _ _ (are S K av hv c6 ar mA r (i+1) (t/4294967296) (w.set i (t%4294967296)) (z.set (j+i) (t%4294967296)) _ _ (by omega) ah.an (by rw[cW cg,m4]) (by rw[dD,<-c6,UU (by omega)]) (aA.set i (by omega)) (by simp[eQ]) ?_ (by omega) (by omega) (WI a2 bm (by omega)) (by simp[b1]) (by simp[aw]) (by simp) (by simp[c7]) (by simp[ch]) (by simp) a1);rw[List.drop_set_of_lt (by omega),<-s9 (i:=1) (j:=i),<-s9 (i:=1) (j:=i),tu]
def atB(m:E)(fJ n:Nat)(cy C:List Int)(y:Int)(r:Value)(N:E):Prop:= ∃k:Int,(k=0\/k=1)/\aho m fJ n cy C y (-k) N
theorem aJt{m:E}{v:Value}{fq cy C aG z:List Int}{j n fJ:Nat}(S:bP m v fq)(K:ai v≠some fJ)(av:fq.length=n)(hv:n<35184372087809)(c6:cy.length=j)(ar:dT aG)(mA:aG.length=n+1)
    (aq:m.U fJ=some ⟨z.map c3,true⟩) (dD:z=cy++aG++C):
    bU Z 171 [.slice (some ⟨fJ,j,none⟩) (n+1) 1,v] m (atB m fJ n cy C (val aG+val fq)):=by
  rw[avw (by simp)];obtain⟨B,H,af,aL⟩:=S.len;rw[av]at B;simp(disch:=first|omega|simp only[b3];omega) [abv,amU,B,H];refine are S K av hv c6 ar mA n 0 0 aG z m _ (by omega) (kX.refl _ _) aq dD ar mA rfl (by omega) (by omega) (by simp[val]) (by simp) (by simp) (by simp) (by simp) (by simp) (by simp) λae N c w dH ck cE eo e8 f5 nk o5 xL aiF po ez iB=> ?_;have gn:=S.qz K ck;obtain⟨B,H,af,aL⟩:=gn.len;rw[av]at B;have pN:az w n=az aG n:=QN nk;have WR:=h4 ar n;have cl:dH[j+n]?=some (az aG n):=by rw[eo,<-c6,UT (by omega),pN]
  obtain⟨pT,qp⟩:=dg.1 cl;have FL:j+n+1<=dH.length:=by omega
  have bC:(n:Int)<(n:Int)+1:=by omega
  obtain⟨d,ay⟩: ∃d,d=az aG n+c:=⟨_,rfl⟩;have da:IntKind.u32.wrap c=c:=by rw[iv];omega
  have fB:IntKind.u32.wrap (az aG n+c)=d%4294967296:=by rw[iv,ay]
  have cg:=aO cE;simp(disch:=first|omega|simp only[b3];omega) [po,ez,iB,B,H,bC,da,fB,cE,qp,FL,lj];refine⟨d/4294967296,by omega,ck.an,w.set n (d%4294967296),dH.set (j+n) (d%4294967296),by rw[cW cg,m4],by rw[eo,<-c6,UU (by omega)],e8.set n (by omega),by simp[f5],?_⟩;have aj:=z8 (o:=w) (i:=n) (d%4294967296) (by omega);rw[fw (by simp;omega)]at aj;have ba:=pt aG n;rw[fw (l:=aG) (by omega)]at ba;have cD:=v8 (t:=d) (a9:=4294967296) (by omega);rw[aj,ba];simp only[a3]
  grind
end Go.Proofs.YtkpifdkccdndcaaGreat
namespace Go.Big
theorem Pk{l:List Int}{n:Nat}(aE:l.length=n+1):val l=az l n*a3 n+val (l.take n):=by
  have B:=Cd l n (by omega);have H:=sq l n;have af:val (l.drop (n+1))=0:=by rw[u5 (by omega)];rfl
  rw[af]at H;rw[B,H];grind
theorem aLl{b o:List Int}{n:Nat}{ax aU:Int}(K:dT b)(aE:b.length=n+1)(gh:0<ax)(qh:ax*aU=4294967296)(B:2147483648<=az b n*ax)(H:az b n*ax<4294967296)(ah:dT o)(eQ:o.length=n+2)(S:val o=val b*ax):
    val (o.take (n+1))=val b*ax/\2147483648<=az (o.take (n+1)) n/\a3 n*ax<=val b*ax:=by
  have F:=h4 K n;have Y:=k6 n;have t:=Pk aE;have WN:=ih (K.take n);rw[k9,s8 (by omega)]at WN;have jb:az b n+1<=aU:=by
    by_cases h:az b n+1<=aU
    · exact h
    · have:ax*aU<=ax*az b n:=s5 (by omega) (by omega);rw[m9 ax (az b n)]at this;omega
  have aX:(az b n+1)*ax<=4294967296:=by have:=s5 jb (show 0<=ax by omega);rw[qh,m9]at this;exact this
  have bg:val b<(az b n+1)*a3 n:=by rw[t];grind
  have dU:val b*ax<4294967296*a3 n:=by have bh:val b*ax<(az b n+1)*a3 n*ax:=Wp bg gh;have bt:(az b n+1)*ax*a3 n<=4294967296*a3 n:=n1 aX (by omega);have c1:(az b n+1)*a3 n*ax=(az b n+1)*ax*a3 n:=(by grind);omega
  have r9:=Pk (l:=o) (n:=n+1) (by omega);have auL:=ih (ah.take (n+1));rw[k9,s8 (by omega)]at auL;have aJ:=h4 ah (n+1);have aj4:a3 (n+1)=4294967296*a3 n:=rfl;have yD:az o (n+1)=0:=by
    by_cases h:az o (n+1)=0
    · exact h
    · have:1*a3 (n+1)<=az o (n+1)*a3 (n+1):=n1 (by omega) (by omega);omega
  have ag1:val (o.take (n+1))=val b*ax:=by rw[yD]at r9;omega
  have ayU:1<=az b n:=by
    by_cases h:1<=az b n
    · exact h
    · have:az b n=0:=(by omega);rw[this]at B;omega
  refine⟨ag1,?_,?_⟩
  · have ks:=Pk (l:=o.take (n+1)) (n:=n) (by simp;omega);have dq:=ih ((ah.take (n+1)).take n);rw[k9,k9,s8 (by omega)]at dq;have bh:az b n*a3 n<=val b:=(by omega);have bt:az b n*a3 n*ax<=val b*ax:=n1 bh (by omega);have c1:az b n*a3 n*ax=az b n*ax*a3 n:=(by grind);have e0:2147483648*a3 n<=az b n*ax*a3 n:=n1 B (by omega);by_cases h:2147483648<=az (o.take (n+1)) n
    · exact h
    · have:az (o.take (n+1)) n*a3 n<=2147483647*a3 n:=n1 (by omega) (by omega);omega
  · have bh:1*a3 n<=az b n*a3 n:=n1 ayU (by omega);exact n1 (by omega) (by omega)
theorem qa.aLB{cy cT:Int}{n na k:Nat}{aG:List Int}{a ax:Int}(ar:dT aG)(mA:aG.length=k+(n+1))(aa:na+1=k+(n+1))(lF:val aG=cy)(aRn:cy=a*ax)(aC:a<a3 na)(gh:0<ax)(jT:a3 n*ax<=cT):
    qa cy cT (n+1) aG (List.replicate k 0) k:=by
  refine⟨ar,dT.wg k,by simp;omega,λi x ag F=> ?_,?_,?_⟩
  · have:=(dg.1 F).1;omega
  · rw[fw (by simp;omega)];have B:=Cd aG k (by omega);have H:=(ih (ar.take k)).1;have af:a3 na=a3 k*a3 n:=(by rw[<-BU];congr 1;omega);have aL:a*ax<a3 na*ax:=Wp aC gh;have Y:=k6 k;by_cases h:val (aG.drop k)<cT
    · exact h
    · have cm:a3 k*(a3 n*ax)<=a3 k*val (aG.drop k):=s5 (by omega) (by omega);have dK:a3 k*(a3 n*ax)=a3 na*ax:=(by rw[af];grind);omega
  · rw[u5 (by simp),lF];simp[val]
theorem ax4{ep next P fq iQ hU kg u1 cT c3:Int}(za:0<P)(sB:0<=fq)(jT:cT=(ep*4294967296+next)*P+fq)(zb:c3=((iQ*4294967296+hU)*4294967296+kg)*P+u1)(mA:u1<P)(bm:0<ep)(av:0<=next)(nL:kg<4294967296)(LO:0<=iQ*4294967296+hU):
    c3<((iQ*4294967296+hU)/ep+1)*cT:=by
  obtain⟨g,aq⟩: ∃g,g=(iQ*4294967296+hU)/ep:=⟨_,rfl⟩;have aJ:0<=g:=by rw[aq];exact Am LO (by omega)
  have B:iQ*4294967296+hU<(g+1)*ep:=by have bh:=Int.emod_add_mul_ediv (iQ*4294967296+hU) ep;have bt:=xr (iQ*4294967296+hU) bm;rw[<-aq]at bh;have:(g+1)*ep=ep*g+ep:=(by grind);omega
  rw[<-aq];have H:((iQ*4294967296+hU)*4294967296+kg+1)*P<=((g+1)*ep*4294967296)*P:=n1 (by omega) (by omega);have af:0<=(g+1)*next*P:=mq (mq (by omega) av) (by omega)
  have aL:0<=(g+1)*fq:=mq (by omega) sB;have cm:(g+1)*cT=(g+1)*ep*4294967296*P+(g+1)*next*P+(g+1)*fq:=by rw[jT];grind
  have dK:((iQ*4294967296+hU)*4294967296+kg+1)*P=((iQ*4294967296+hU)*4294967296+kg)*P+P:=by grind
  omega
theorem aLV{ep next P fq iQ hU kg u1 cT c3:Int}(za:0<P)(sB:fq<P)(jT:cT=(ep*4294967296+next)*P+fq)(zb:c3=((iQ*4294967296+hU)*4294967296+kg)*P+u1)(mA:0<=u1)(av:next<4294967296)(bH:0<=kg)(B:0<=hU)(h:c3<cT*4294967296):iQ<=ep:=by
  by_cases aK:iQ<=ep
  · exact aK
  · have bh:(ep*4294967296+next+1)*P<=((ep+1)*4294967296)*P:=n1 (by omega) (by omega);have bt:(ep*4294967296+next+1)*P=(ep*4294967296+next)*P+P:=(by grind);have c1:((ep+1)*4294967296*4294967296)*P<=((iQ*4294967296+hU)*4294967296+kg)*P:=n1 (by omega) (by omega);have e0:((ep+1)*4294967296*4294967296)*P=((ep+1)*4294967296)*P*4294967296:=(by grind);omega
end Go.Big
namespace Go.Proofs.YtkpifdkccdndcaaGreat
open Go Go.DI Go.Big
theorem ub{u bF:aM}{k n:Nat}{v:Value}(aa:k<=n)(h: ∀t,t<k->u t=bF t): ∀t,t<k->p4 u n v t=bF t:= λt bm=>by rw[aMf,if_neg (by omega)];exact h t bm
theorem aLk{m:E}{w:Value}{b:List Int}{n:Nat}(aS:bP m w b)(aE:b.length=n+1)(K:Big b)(F:1<=az b n){bF:aM}{Q:dp->aM->E->Prop}: ∀(r s:Nat) (ax:Int) (u:aM),
    s+r=31->ax=(2:Int)^s->1<=ax->ax*2^r=2147483648->az b n*ax<4294967296->u 1=w->u 8=L s->(∀t,t<8->u t=bF t)->
    (∀ae (s:Nat) (ax aU:Int),s<32->ax=(2:Int)^s->1<=ax/\ax<=2147483648->ax*aU=4294967296->2147483648<=az b n*ax->az b n*ax<4294967296->ae 8=L s->(∀t,t<8->ae t=bF t)->Q (.bw 0) ae m)->cH Z (.loop M5) u m Q:=by
  intro r;induction r with
  | zero=>
    intro s ax u M gh B H af aw ch cL a1;refine fc λcp aZ=> ?_;obtain⟨aj,ba,cD,fs⟩:=aS.len;have bc:IntKind.i64.wrap ((n:Int)+1-1)=(n:Int):=(by rw[fo (by omega) (by omega)];omega);have Wb:IntKind.i64.wrap (n:Int)=(n:Int):=fo (by omega) (by omega);have bh:=aS.j3 (i:=n) (by omega);have bt:=aS.fu (i:=n) (by omega);rw[aE]at aj;have aRB:ax=2147483648:=(by omega);have hV:min s 32=s:=(by omega);have fB:IntKind.u32.wrap (az b n*ax)=az b n*ax:=(by rw[iv];have:0<=az b n*ax:=mq (by omega) (by omega);omega);have bM: ¬az b n*ax<2147483648:=by have:=n1 F (show 0<=ax by omega);omega
    have bC:(n:Int)<(n:Int)+1:=(by omega);have e:(2:Int)^s=ax:=gh.symm;simp[M5,aw,ch,aj,ba,cD,Wb,bh,bt,e,hV,fB,bM,bC];exact a1 _ s ax 2 (by omega) gh ⟨B,by omega⟩ (by omega) (by omega) af (by simp[ch]) (by(repeat refine ub (by decide) ?_);exact cL)
  | succ r cB=>
    intro s ax u M gh B H af aw ch cL a1;refine fc λcp aZ=> ?_;obtain⟨aj,ba,cD,fs⟩:=aS.len;have bc:IntKind.i64.wrap ((n:Int)+1-1)=(n:Int):=(by rw[fo (by omega) (by omega)];omega);have Wb:IntKind.i64.wrap (n:Int)=(n:Int):=fo (by omega) (by omega);have bh:=aS.j3 (i:=n) (by omega);have bt:=aS.fu (i:=n) (by omega);rw[aE]at aj;have hV:min s 32=s:=(by omega);have bH:0<=az b n*ax:=mq (by omega) (by omega);have fB:IntKind.u32.wrap (az b n*ax)=az b n*ax:=(by rw[iv];omega);have bC:(n:Int)<(n:Int)+1:=(by omega);have e:(2:Int)^s=ax:=gh.symm;have bg:ax*(2*2^r)=2147483648:=(by rw[<-H,Int.pow_succ,m9 2]);have iV:=Nat.two_pow_pos r;have mf:((2^r:Nat):Int)=(2:Int)^r:=(by simp);have fj:(1:Int)<=2^r:=(by omega);have ij:IntKind.u64.wrap ((s:Int)+1)=(s:Int)+1:=fi (by omega) (by omega);by_cases bM:az b n*ax<2147483648
    · simp[M5,aw,ch,aj,ba,cD,Wb,bh,bt,e,hV,fB,bM,bC,ij];refine aZ _ _ (cB (s+1) (ax*2) _ (by omega) (by rw[gh,Int.pow_succ]) (by omega) (by rw[Int.mul_assoc];exact bg) (by rw[<-Int.mul_assoc];omega) (by simp[aw]) (by simp) (by(repeat refine ub (by decide) ?_);exact cL) a1)
    · simp[M5,aw,ch,aj,ba,cD,Wb,bh,bt,e,hV,fB,bM,bC];have fM:ax<=2147483648:=by
        have:ax*1<=ax*(2*2^r):=s5 (by omega) (by omega);omega
      exact a1 _ s ax (2*(2*2^r)) (by omega) gh ⟨B,fM⟩ (by rw[Int.mul_left_comm,bg];rfl) (by omega) af (by simp[ch]) (by(repeat refine ub (by decide) ?_);exact cL)
theorem ax3{m:E}{fJ n j eK bX:Nat}{z:List Int}{ep next P fq iQ hU kg u1 cT yQ:Int}(aq:m.U fJ=some ⟨z.map c3,true⟩)(vw:z.length=bX)(hv:bX<80000000000000)(aa:eK+2=j+n)(cl:z[eK]?=some kg)
    (za:0<P) (sB:0<=fq) (Rj:fq<P) (jT:cT=(ep*4294967296+next)*P+fq) (zb:yQ=((iQ*4294967296+hU)*4294967296+kg)*P+u1) (mA:0<=u1) (YW:u1<P)
    (bm:2147483648<=ep/\ep<4294967296) (av:0<=next/\next<4294967296) (nL:0<=kg/\kg<4294967296) (azX:0<=hU/\hU<4294967296) (x2:0<=iQ) (ayv:yQ<cT*4294967296) {bF:aM} {Q:dp->aM->E->Prop}: ∀(r:Nat) (g b4:Int) (u:aM),
    g<=r->r<100000000000->0<=g->b4=iQ*4294967296+hU-g*ep->0<=b4->b4<4294967296->yQ<(g+1)*cT->
    u 9= .slice (some ⟨fJ,0,none⟩) bX 1->u 11=X n->u 13=L ep->u 14=L next->u 15=X j->u 17=L g->u 18=L b4->(∀t,t<17->u t=bF t)->
    (∀ae g,0<=g->g<4294967296->(g-1)*cT<=yQ->yQ<(g+1)*cT->ae 17=L g->(∀t,t<17->ae t=bF t)->Q (.bw 4) ae m)->cH Z (.loop Bf) u m Q:=by
  have aR4:=aLV za Rj jT zb mA av.2 nL.1 azX.1 ayv;have HU:0<cT:=by have:0<=(ep*4294967296+next-1)*P:=mq (by omega) (by omega);have:(ep*4294967296+next)*P=(ep*4294967296+next-1)*P+P:=(by grind);omega
  have aRC:0<=yQ:=by have:0<=((iQ*4294967296+hU)*4294967296+kg)*P:=mq (by omega) (by omega);omega
  -- after a step Xg
  have Xg: ∀g:Int,1<=g->0<=iQ*4294967296+hU-(g-1)*ep->4294967296<=iQ*4294967296+hU-(g-1)*ep->g-1<4294967296/\(g-1-1)*cT<=yQ:=by
    intro g aj _ aH;have bY:g-1<4294967296:=by
      by_cases h:g-1<4294967296
      · exact h
      · have:4294967296*ep<=(g-1)*ep:=n1 (by omega) (by omega);omega
    refine⟨bY,ajc za sB Rj jT zb mA (by omega) bY (by omega) av.1 ?_⟩;have:(g-1)*next<=4294967295*4294967295:=Int.mul_le_mul (by omega) (by omega) av.1 (by omega)
    omega
  intro r;induction r with
  | zero=>intro g b4 u aH _ aJ Ii p2 eT cg e4 hc iJ ie hH l4 mF cL a1;refine fc λcp aZ=> ?_;have e:g=0:=(by omega);subst e;obtain⟨pT,qp⟩:=dg.1 cl;have da:IntKind.i64.wrap ((j:Int)+(n:Int))=(eK:Int)+2:=(by rw[fo (by omega) (by omega)];omega);have fB:IntKind.i64.wrap (eK:Int)=(eK:Int):=fo (by omega) (by omega);have ij:IntKind.u64.wrap kg=kg:=fi (by omega) (by omega);have h1:IntKind.u64.wrap (b4*4294967296)=b4*4294967296:=fi (by omega) (by omega);obtain⟨t,YT⟩: ∃t,t=b4*4294967296+kg:=⟨_,rfl⟩;have iZ:IntKind.u64.wrap ↑((b4*4294967296%2^IntKind.u64.bits).toNat|||(kg%2^IntKind.u64.bits).toNat)=t:=(by rw[BR (s:=32) (by decide) p2 nL.1 nL.2 (by omega)];omega);have mL:IntKind.u64.wrap (0:Int)=0:=rfl;have bC:(eK:Int)<bX:=(by omega);have cq:eK+1<=bX:=(by omega);have cZ:eK<bX:=(by omega);have bM: ¬(4294967296:Int)<=0:=(by omega);have dL: ¬t<0:=(by omega);simp(disch:=first|omega|simp only[b3];omega) [Bf,F4,F5,e4,hc,ie,hH,l4,mF,aq,vw,qp,da,fB,ij,h1,iZ,mL,bC,cq,bM,dL,lj];exact a1 _ 0 (by omega) (by omega) (by rw[show((0:Int)-1)*cT= -cT by omega];omega) cg (by simp[l4]) (by(repeat refine ub (by decide) ?_);exact cL)
  | succ r cB=>
    intro g b4 u aH Ih aJ Ii p2 eT cg e4 hc iJ ie hH l4 mF cL a1;refine fc λcp aZ=> ?_;obtain⟨pT,qp⟩:=dg.1 cl;have da:IntKind.i64.wrap ((j:Int)+(n:Int))=(eK:Int)+2:=(by rw[fo (by omega) (by omega)];omega);have fB:IntKind.i64.wrap (eK:Int)=(eK:Int):=fo (by omega) (by omega);have ij:IntKind.u64.wrap kg=kg:=fi (by omega) (by omega);have h1:IntKind.u64.wrap (b4*4294967296)=b4*4294967296:=fi (by omega) (by omega);obtain⟨t,YT⟩: ∃t,t=b4*4294967296+kg:=⟨_,rfl⟩;have iZ:IntKind.u64.wrap ↑((b4*4294967296%2^IntKind.u64.bits).toNat|||(kg%2^IntKind.u64.bits).toNat)=t:=(by rw[BR (s:=32) (by decide) p2 nL.1 nL.2 (by omega)];omega);have bC:(eK:Int)<bX:=(by omega);have cq:eK+1<=bX:=(by omega);have cZ:eK<bX:=by omega
    -- lN step Xg,a0A apn aVK
    have U2:1<=g->yQ<g*cT-> ∀ae:aM,ae 9= .slice (some ⟨fJ,0,none⟩) bX 1->ae 11=X n->ae 13=L ep->ae 14=L next->ae 15=X j->ae 17=L (g-1)->ae 18=L (b4+ep)->(∀t,t<17->ae t=bF t)->
        (4294967296<=b4+ep->Q (.bw 4) ae m)/\(¬4294967296<=b4+ep->cH Z (.loop Bf) ae m Q):=by
      intro aj qY ae JR uU OE GO w7 w8 aIj vT;have aX:b4+ep=iQ*4294967296+hU-(g-1)*ep:=(by rw[Ii];grind);have bg:g-1+1=g:=(by omega);refine⟨λh=> ?_,λh=> ?_⟩
      · obtain⟨bY,cN⟩:=Xg g aj (by omega) (by omega);exact a1 ae (g-1) (by omega) bY cN (by rw[bg];exact qY) w8 vT
      · exact cB (g-1) (b4+ep) ae (by omega) (by omega) (by omega) aX (by omega) (by omega) (by rw[bg];exact qY) JR uU OE GO w7 w8 aIj vT a1
    have l7:IntKind.u64.wrap (b4+ep)=b4+ep:=fi (by omega) (by omega);by_cases bM:4294967296<=g
    · have oV:IntKind.u64.wrap (g-1)=g-1:=fi (by omega) (by omega);have qY:yQ<g*cT:=by
        have:4294967296*cT<=g*cT:=n1 bM (by omega);omega
      by_cases fp:4294967296<=b4+ep
      · simp(disch:=first|omega|simp only[b3];omega) [Bf,F4,F5,iJ,l4,mF,l7,oV,bM,fp];exact(U2 (by omega) qY _ (by simp[e4]) (by simp[hc]) (by simp[iJ]) (by simp[ie]) (by simp[hH]) (by simp) (by simp) (by(repeat refine ub (by decide) ?_);exact cL)).1 fp
      · simp(disch:=first|omega|simp only[b3];omega) [Bf,F4,F5,iJ,l4,mF,l7,oV,bM,fp];exact aZ _ _ ((U2 (by omega) qY _ (by simp[e4]) (by simp[hc]) (by simp[iJ]) (by simp[ie]) (by simp[hH]) (by simp) (by simp) (by(repeat refine ub (by decide) ?_);exact cL)).2 fp)
    · have Y:=Vg (x:=g) (y:=next) (by omega) av;have mL:IntKind.u64.wrap (g*next)=g*next:=fi (by omega) (by omega)
      by_cases dL:t<g*next
      · have aj:1<=g:=by
          by_cases h:1<=g
          · exact h
          · have:g=0:=(by omega);subst this;simp at dL;omega
        have oV:IntKind.u64.wrap (g-1)=g-1:=fi (by omega) (by omega);have qY:yQ<g*cT:=ax2 za sB jT zb YW aJ (by rw[<-Ii,<-YT];exact dL);by_cases fp:4294967296<=b4+ep
        · simp(disch:=first|omega|simp only[b3];omega) [Bf,F4,F5,e4,hc,iJ,ie,hH,l4,mF,aq,vw,qp,da,fB,ij,h1,iZ,mL,l7,oV,bC,cq,bM,dL,fp,lj];exact(U2 (by omega) qY _ (by simp[e4]) (by simp[hc]) (by simp[iJ]) (by simp[ie]) (by simp[hH]) (by simp) (by simp) (by(repeat refine ub (by decide) ?_);exact cL)).1 fp
        · simp(disch:=first|omega|simp only[b3];omega) [Bf,F4,F5,e4,hc,iJ,ie,hH,l4,mF,aq,vw,qp,da,fB,ij,h1,iZ,mL,l7,oV,bC,cq,bM,dL,fp,lj];exact aZ _ _ ((U2 (by omega) qY _ (by simp[e4]) (by simp[hc]) (by simp[iJ]) (by simp[ie]) (by simp[hH]) (by simp) (by simp) (by(repeat refine ub (by decide) ?_);exact cL)).2 fp)
      · simp(disch:=omega) [Bf,F4,F5,e4,hc,ie,hH,l4,mF,aq,vw,qp,da,fB,ij,h1,iZ,mL,bC,cq,bM,dL,lj];exact a1 _ g (by omega) (by omega) (ajc za sB Rj jT zb mA aJ (by omega) (by omega) av.1 (by rw[<-Ii,<-YT];omega)) cg (by simp[l4]) (by(repeat refine ub (by decide) ?_);exact cL)
end Go.Proofs.YtkpifdkccdndcaaGreat
