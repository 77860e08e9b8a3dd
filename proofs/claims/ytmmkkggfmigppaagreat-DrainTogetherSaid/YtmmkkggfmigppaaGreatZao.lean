/-
  A part of the proof, shortened by tools of ours.
-/
import Derived.Test.YtmmkkggfmigppaaGreatZan
set_option linter.all false
set_option maxRecDepth 8000
set_option maxHeartbeats 16000000
namespace Go.DI
open Go Go.RowKit
def tV:Nat->Value->Value->Bool
 |0,_,_=>false
 | n+1,a,b=>match a,b with
   | .bool x,.bool y=>decide (x=y)
   | .int k x,.int e7 y=>decide (k=e7)&&decide (x=y)
   | .string s,.string ih=>decide (s.data.toList=ih.data.toList)
   | .nilFunc,.nilFunc=>true
   | .nilIface,.nilIface=>true
   | .pointer none,.pointer none=>true
   | .slice none l G,.slice none c5 j8=>Nat.beq l c5&&Nat.beq G j8
   | .agg xs,.agg ys=>zH (tV n) xs.toList ys.toList
   | .tuple xs,.tuple ys=>zH (tV n) xs.toList ys.toList
   | .func (.yield k) xs cs,.func (.yield e7) ys ds=>Nat.beq k e7&&(zH (tV n) xs.toList ys.toList&&zH (tV n) cs.toList ds.toList)
   |_,_=>false
where
 zH (f:Value->Value->Bool):List Value->List Value->Bool
 |[],[]=>true
 |x::l,y::k=>f x y&&zH f l k
 |_,_=>false
theorem VI{f:Value->Value->Bool}(a5: ∀a b,f a b=true->a=b): ∀{l k:List Value},tV.zH f l k=true->l=k
 |[],[],_=>rfl
 |[],_::_,h=>by cases h
 |_::_,[],h=>by cases h
 | x::l,y::k,h=>by simp only[tV.zH,a6]at h;rw[a5 x y h.1,VI a5 h.2]
theorem adB: ∀{n:Nat} (a b:Value),tV n a b=true->a=b
 |0,_,_,h=>by cases h
 | n+1,a,b,h=>by
   have cf: ∀a b,tV n a b=true->a=b:= λa b h=>adB a b h;have Dn: ∀{xs ys:Array Value},tV.zH (tV n) xs.toList ys.toList=true->xs=ys:= λ{xs ys} h=>F1.1 (VI cf h);simp only[tV]at h;split at h
   ·rw[of_decide_eq_true h]
   ·simp only[a6,ey]at h;rw[h.1,h.2]
   ·next s ih=>have:=of_decide_eq_true h;obtain⟨⟨l⟩⟩:=s;obtain⟨⟨c5⟩⟩:=ih;simp only at this;rw[this]
   ·rfl
   ·rfl
   ·rfl
   ·simp only[a6,Nat.beq_eq]at h;rw[h.1,h.2]
   ·rw[Dn h]
   ·rw[Dn h]
   ·simp only[a6,Nat.beq_eq]at h;rw[h.1,Dn h.2.1,Dn h.2.2]
   ·cases h
def xJ(n:Nat)(l k:List Value):Bool:=tV.zH (tV n) l k
theorem aIe{n:Nat}{l k:List Value}(h:xJ n l k=true):l=k:=VI (λa b h=>adB a b h) h
abbrev sd:=List (Nat×List Value×Value)
def Tc(f:Nat)(ts:List Value):sd->Option Value
 |[]=>none
 |p::l=>bif Nat.beq p.1 f&&xJ 30 p.2.1 ts then some p.2.2 else Tc f ts l
def Wh(f:Nat):sd->Bool
 |[]=>false
 |p::l=>Nat.beq p.1 f||Wh f l
def xS(P:Program)(l:sd):Prop:= ∀p∈l,bP P p.1 p.2.1 p.2.2
theorem am6{P:Program}{f:Nat}{ts:List Value}{r:Value}: ∀{l:sd},xS P l->Tc f ts l=some r->bP P f ts r
 |[],_,h=>by cases h
 | p::l,az,h=>by
   simp only[Tc]at h;cases hb:Nat.beq p.1 f&&xJ 30 p.2.1 ts with
   |false=>rw[hb]at h;exact am6 (λq bo=>az q (by simp[bo])) h
   | true=>rw[hb]at h;simp only[cond_true,mB]at h;simp only[a6,Nat.beq_eq]at hb;rw[<-hb.1,<-aIe hb.2,<-h];exact az p (by simp)
def aaa(jn:sd)(f:Nat)(args:List Value)(X:e5):Option (Value×e5):=match DM 9 (cX X) args with
 | some ts=>(match Tc f ts jn with
   | some r=>if m4 r then(match Du X (args.flatMap (et 9 (cX X)))with
    |some fN=>some (r,fN)
    |none=>none)
    else(match IB X (args.flatMap (et 9 (cX X)))with
     |some fN=>some (r,fN)
     |none=>none)
   |none=>none)
 |none=>none
theorem aBY{P:Program}{jn:sd}(rE:xS P jn){f:Nat}{args:List Value}{X cF:e5}{r:Value}(aS:gy X)(h:aaa jn f args X=some (r,cF)):gy cF/\fc P f args (cX X) λdZ af=>dZ=r/\af=cX cF:=by
 have kM: ∀{ts:List Value},∀Z:bP P f ts r,yU [Tp Z] f args (cX X) (λdZ af=>dZ=r/\af=cX cF)->fc P f args (cX X) λdZ af=>dZ=r/\af=cX cF:= λ{ts} Z q J u bu m F aa=>by refine(abe F aa q).bD λdZ U bT=> ?_;obtain⟨A,cy,mT,af,⟨rfl,rfl⟩,ai,aT,bF⟩:=bT;exact⟨J,cy,_,_,⟨rfl,rfl⟩,ai,aT,bF⟩
 unfold aaa at h;split at h
 ·next ts KG=>
  split at h
  ·next ek al=>
   have Z:bP P f ts ek:=am6 rE al;split at h
   ·next dJ=>
    split at h
    ·next fN D=>cases h;obtain⟨dW,aJ⟩:=O9 aS D;exact⟨dW,kM Z (Tq Z KG ⟨rfl,by rw[if_pos dJ,aJ]⟩)⟩
    ·cases h
   ·next dJ=>
    split at h
    ·next fN D=>cases h;obtain⟨dW,aJ⟩:=NJ aS D;exact⟨dW,kM Z (Tq Z KG ⟨rfl,by rw[if_neg dJ,aJ]⟩)⟩
    ·cases h
  ·cases h
 ·cases h
def JX(qh:Nat->Option b8)(jn:sd)(ij:nT)(n:Nat):Nat->nT
 |0=> λ_ _ _=>none
 | d+1=> λf args X=>match ij f args X with
   |some x=>some x
   | none=>bif Wh f jn then aaa jn f args X else match qh f with
     |some Fn=>if Nat.ble args.length Fn.dc&&Nat.blt args.length 1000000 then Pl Fn.j6 (td (JX qh jn ij n d) n Fn.body (Eo args 0 .nil) X)else none
     |none=>none
theorem ago{P:Program}{qh:Nat->Option b8}(ba:OE P qh){jn:sd}(rE:xS P jn){ij:nT}(g2:ud P ij){n:Nat}: ∀d,ud P (JX qh jn ij n d)
 |0=> λf args X r cF aS h=>by cases h
 | d+1=> λf args X r cF aS h=>by
   simp only[JX]at h;cases aQ:ij f args X with
   |some x=>rw[aQ]at h;cases h;exact g2 _ _ _ _ _ aS aQ
   |none=>
   rw[aQ]at h;simp only at h;cases hb:Wh f jn with
   |true=>rw[hb]at h;exact aBY rE aS h
   |false=>
   rw[hb]at h;simp only[cond_false]at h;split at h
   ·next Fn a5=>
    obtain⟨dh,av⟩:=ba f Fn a5;split at h
    ·next az=>
     simp only[a6,Nat.ble_eq,Nat.blt_eq]at az;cases ar:td (JX qh jn ij n d) n Fn.body (Eo args 0 .nil) X with
     |none=>rw[ar]at h;cases h
     | some x=>
       obtain⟨e,dB,de⟩:=x;rw[ar]at h;obtain⟨w,q⟩:=zy (ago ba rE g2 d) av aS ar;have kM:e≠ .cH 0->(∀id,e≠ .cH id)->mw (cX de) (my dB) Fn.j6=true->r=mU (cX de) (my dB) Fn.j6->cF=de->gy cF/\fc P f args (cX X) λdZ af=>dZ=r/\af=cX cF:= λ_ bG al aD aJ=>by
        subst aD;subst aJ;refine⟨w,λJ u bu m F aa=> ?_⟩;rw[nN dh (by rw[<-aa.1];exact az.1)];refine(q J u (ig bu) m F (by rw[aG5 az.2];exact hp.init aa)).bD λdd aU bn bT=> ?_;obtain⟨rfl,cV,ea,aE,a2,cj⟩:=bT;obtain⟨a,b⟩:=abB aE a2 al;cases dd with
        |cH id=>exact absurd rfl (bG id)
        |eB=>exact⟨a,cV,ea,_,_,⟨rfl,rfl⟩,aE,b,cj⟩
        |e3=>exact⟨a,cV,ea,_,_,⟨rfl,rfl⟩,aE,b,cj⟩
       cases e with
       |cH id=>simp only[Pl]at h;cases h
       | eB=>
         simp only[Pl]at h;split at h
         ·next al=>cases h;exact kM (by simp) (by simp) al rfl rfl
         ·cases h
       | e3=>
         simp only[Pl]at h;split at h
         ·next al=>cases h;exact kM (by simp) (by simp) al rfl rfl
         ·cases h
    ·cases h
   ·cases h
def VJ(qh:Nat->Option b8)(jn:sd)(ij:nT)(n d f:Nat)(args:List Value)(r:Value):Bool:=match JX qh jn ij n d f args Jd with
 | some (v,de)=>(match dt 9 (cX de) v with
   |some ek=>tV 30 ek r
   |none=>false)
 |none=>false
theorem JP{P:Program}{qh:Nat->Option b8}(ba:OE P qh){jn:sd}(rE:xS P jn){ij:nT}(g2:ud P ij){n d f:Nat}{args:List Value}{r:Value}(h:VJ qh jn ij n d f args r=true):bP P f args r:=by
 unfold VJ at h;split at h
 ·next v de eE=>
  obtain⟨w,q⟩:=ago ba rE g2 d f args Jd _ _ aqz eE;rw[ang]at q;split at h
  ·next ek al=>have:=adB _ _ h;subst this;exact du (q.bD λdZ af bT=>by rw[bT.1,bT.2];exact al)
  ·cases h
 ·cases h
def anF:nT:= λ_ _ _=>none
theorem aDs{P:Program}:ud P anF:= λ_ _ _ _ _ _ h=>by cases h
def af6(qh:Nat->Option b8)(jn:sd)(n d f:Nat)(args:List Value)(r:Value):Bool:=VJ qh jn anF n d f args r
theorem at5{P:Program}{qh:Nat->Option b8}(ba:OE P qh){jn:sd}(rE:xS P jn){n d f:Nat}{args:List Value}{r:Value}(h:af6 qh jn n d f args r=true):bP P f args r:=JP ba rE aDs h
theorem am7{P:Program}:xS P []:= λp Z=>by cases Z
theorem Cl{P:Program}{p:Nat×List Value×Value}{l:sd}(h:bP P p.1 p.2.1 p.2.2)(az:xS P l):xS P (p::l):= λq bo=>by
 rcases hi.1 bo with rfl|bo
 ·exact h
 ·exact az q bo
end Go.DI
namespace Go.Proofs.YtmmkkggfmigppaaGreat
open Go Go.DI
section
set_option maxRecDepth 100000
def aAe:cp N 107:=⟨_,by conv=>lhs;reduce⟩
def aif:aw:=aF (a:=aAe.1.body) ⟨_,by conv=>lhs;reduce⟩
def Qn:b8:=⟨21,[.ha 4 true 3,.bJ 5],aif⟩
theorem aih:cd N 107=some Qn:=by kernel_rfl
def aAs:cp N 138:=⟨_,by conv=>lhs;reduce⟩
def ai0:aw:=aF (a:=aAs.1.body) ⟨_,by conv=>lhs;reduce⟩
def QS:b8:=⟨22,[.bJ 2],ai0⟩
theorem ai1:cd N 138=some QS:=by kernel_rfl
def aAt:cp N 139:=⟨_,by conv=>lhs;reduce⟩
def ai2:aw:=aF (a:=aAt.1.body) ⟨_,by conv=>lhs;reduce⟩
def QT:b8:=⟨6,[.bJ 2],ai2⟩
theorem ai3:cd N 139=some QT:=by kernel_rfl
def aAw:cp N 167:=⟨_,by conv=>lhs;reduce⟩
def ai7:aw:=aF (a:=aAw.1.body) ⟨_,by conv=>lhs;reduce⟩
def QW:b8:=⟨51,[.ha 6 true 3],ai7⟩
theorem ai8:cd N 167=some QW:=by kernel_rfl
def aAy:cp N 169:=⟨_,by conv=>lhs;reduce⟩
def ajb:aw:=aF (a:=aAy.1.body) ⟨_,by conv=>lhs;reduce⟩
def QY:b8:=⟨12,[.bJ 2],ajb⟩
theorem ajc:cd N 169=some QY:=by kernel_rfl
def amf:cp N 173:=⟨_,by conv=>lhs;reduce⟩
def axR:aw:=aF (a:=bg amf.1.body 75) ⟨_,by conv=>lhs;reduce⟩
def axP:aw:=aF (a:= λx=>bh 75 x amf.1.body) ⟨_,by conv=>lhs;reduce⟩ axR
def ajj:b8:=⟨30,[.ha 2 true 3,.bJ 3],axP⟩
theorem axQ:cd N 173=some ajj:=by kernel_rfl
def aAC:cp N 174:=⟨_,by conv=>lhs;reduce⟩
def axS:aw:=aF (a:=aAC.1.body) ⟨_,by conv=>lhs;reduce⟩
def ajk:b8:=⟨21,[.ha 4 true 3,.bJ 5],axS⟩
theorem axT:cd N 174=some ajk:=by kernel_rfl
def aAD:cp N 175:=⟨_,by conv=>lhs;reduce⟩
def axU:aw:=aF (a:=aAD.1.body) ⟨_,by conv=>lhs;reduce⟩
def ajl:b8:=⟨54,[.bJ 4,.bJ 5],axU⟩
theorem axV:cd N 175=some ajl:=by kernel_rfl
def amk:cp N 191:=⟨_,by conv=>lhs;reduce⟩
def aya:aw:=aF (a:=bg amk.1.body 75) ⟨_,by conv=>lhs;reduce⟩
def ax8:aw:=aF (a:= λx=>bh 75 x amk.1.body) ⟨_,by conv=>lhs;reduce⟩ aya
def ajD:b8:=⟨30,[.ha 2 true 3,.bJ 3],ax8⟩
theorem ax9:cd N 191=some ajD:=by kernel_rfl
def aAK:cp N 192:=⟨_,by conv=>lhs;reduce⟩
def ayb:aw:=aF (a:=aAK.1.body) ⟨_,by conv=>lhs;reduce⟩
def ajE:b8:=⟨9,[.bJ 4],ayb⟩
theorem ayc:cd N 192=some ajE:=by kernel_rfl
def aAL:cp N 193:=⟨_,by conv=>lhs;reduce⟩
def ayd:aw:=aF (a:=aAL.1.body) ⟨_,by conv=>lhs;reduce⟩
def ajF:b8:=⟨11,[.ha 2 true 3],ayd⟩
theorem aye:cd N 193=some ajF:=by kernel_rfl
def aAM:cp N 195:=⟨_,by conv=>lhs;reduce⟩
def ajG:aw:=aF (a:=aAM.1.body) ⟨_,by conv=>lhs;reduce⟩
def Rb:b8:=⟨53,[.bJ 4],ajG⟩
theorem ajH:cd N 195=some Rb:=by kernel_rfl
def aAN:cp N 196:=⟨_,by conv=>lhs;reduce⟩
def ajI:aw:=aF (a:=aAN.1.body) ⟨_,by conv=>lhs;reduce⟩
def Rc:b8:=⟨15,[.ha 2 true 3,.bJ 3],ajI⟩
theorem ajJ:cd N 196=some Rc:=by kernel_rfl
def aAP:cp N 199:=⟨_,by conv=>lhs;reduce⟩
def ayh:aw:=aF (a:=aAP.1.body) ⟨_,by conv=>lhs;reduce⟩
def ajK:b8:=⟨9,[.bJ 4],ayh⟩
theorem ayi:cd N 199=some ajK:=by kernel_rfl
def aAQ:cp N 215:=⟨_,by conv=>lhs;reduce⟩
def ajO:aw:=aF (a:=aAQ.1.body) ⟨_,by conv=>lhs;reduce⟩
def Rk:b8:=⟨17,[.ha 2 true 3,.bJ 3],ajO⟩
theorem ajP:cd N 215=some Rk:=by kernel_rfl
def aAS:cp N 218:=⟨_,by conv=>lhs;reduce⟩
def aym:aw:=aF (a:=aAS.1.body) ⟨_,by conv=>lhs;reduce⟩
def ajU:b8:=⟨87,[.ha 4 true 3,.bJ 5],aym⟩
theorem ayn:cd N 218=some ajU:=by kernel_rfl
def aAT:cp N 219:=⟨_,by conv=>lhs;reduce⟩
def ajV:aw:=aF (a:=aAT.1.body) ⟨_,by conv=>lhs;reduce⟩
def Rm:b8:=⟨53,[.ha 6 true 3,.bJ 7],ajV⟩
theorem ajW:cd N 219=some Rm:=by kernel_rfl
def aAU:cp N 220:=⟨_,by conv=>lhs;reduce⟩
def ayo:aw:=aF (a:=aAU.1.body) ⟨_,by conv=>lhs;reduce⟩
def ajZ:b8:=⟨12,[.bJ 2],ayo⟩
theorem ayp:cd N 220=some ajZ:=by kernel_rfl
def aAV:cp N 221:=⟨_,by conv=>lhs;reduce⟩
def aj0:aw:=aF (a:=aAV.1.body) ⟨_,by conv=>lhs;reduce⟩
def Rn:b8:=⟨19,[.bJ 2],aj0⟩
theorem aj1:cd N 221=some Rn:=by kernel_rfl
def aAW:cp N 223:=⟨_,by conv=>lhs;reduce⟩
def ayq:aw:=aF (a:=aAW.1.body) ⟨_,by conv=>lhs;reduce⟩
def aj4:b8:=⟨14,[.bJ 4],ayq⟩
theorem ayr:cd N 223=some aj4:=by kernel_rfl
def aA8:cp N 239:=⟨_,by conv=>lhs;reduce⟩
def ayI:aw:=aF (a:=aA8.1.body) ⟨_,by conv=>lhs;reduce⟩
def aki:b8:=⟨90,[.ha 4 true 3,.bJ 5],ayI⟩
theorem ayJ:cd N 239=some aki:=by kernel_rfl
def aA9:cp N 240:=⟨_,by conv=>lhs;reduce⟩
def akl:aw:=aF (a:=aA9.1.body) ⟨_,by conv=>lhs;reduce⟩
def Rv:b8:=⟨14,[.bJ 4],akl⟩
theorem akm:cd N 240=some Rv:=by kernel_rfl
def aBf:cp N 258:=⟨_,by conv=>lhs;reduce⟩
def ay2:aw:=aF (a:=aBf.1.body) ⟨_,by conv=>lhs;reduce⟩
def akC:b8:=⟨8,[.ha 2 true 3,.bJ 3],ay2⟩
theorem ay3:cd N 258=some akC:=by kernel_rfl
def aBk:cp N 275:=⟨_,by conv=>lhs;reduce⟩
def azh:aw:=aF (a:=aBk.1.body) ⟨_,by conv=>lhs;reduce⟩
def akT:b8:=⟨13,[.bJ 2],azh⟩
theorem azi:cd N 275=some akT:=by kernel_rfl
end
section
set_option maxRecDepth 100000
def aBq:cp N 66:=⟨_,by conv=>lhs;reduce⟩
def alE:aw:=aF (a:=aBq.1.body) ⟨_,by conv=>lhs;reduce⟩
def Y4:b8:=⟨6,[.bJ 2],alE⟩
theorem azN:cd N 66=some Y4:=by kernel_rfl
def qS:cp N 87:=⟨_,by conv=>lhs;reduce⟩
def Zi:aw:=aF (a:=bg qS.1.body 815) ⟨_,by conv=>lhs;reduce⟩
def Sl:aw:=aF (a:= λx=>bh 3 x (bg qS.1.body 303)) ⟨_,by conv=>lhs;reduce⟩ Zi
def Sm:aw:=aF (a:=bg qS.1.body 607) ⟨_,by conv=>lhs;reduce⟩
def Sn:aw:=aF (a:=bg qS.1.body 4863) ⟨_,by conv=>lhs;reduce⟩
def So:aw:=aF (a:=bg qS.1.body 9727) ⟨_,by conv=>lhs;reduce⟩
def Sp:aw:=aF (a:=bg qS.1.body 1285442559) ⟨_,by conv=>lhs;reduce⟩
def Sq:aw:=aF (a:= λx=>bh 153 x (bg qS.1.body 10374143)) ⟨_,by conv=>lhs;reduce⟩ Sp
def Sr:aw:=aF (a:= λx=>bh 633 x (bg qS.1.body 19455)) ⟨_,by conv=>lhs;reduce⟩ Sq
def Ss:aw:=aF (a:=bg qS.1.body 38911) ⟨_,by conv=>lhs;reduce⟩
def al7:aw:=aF (a:=bg qS.1.body 8191) ⟨_,by conv=>lhs;reduce⟩
def al6:aw:=aF (a:= λx y=>bh 3 y (bh 18 x (bg qS.1.body 4095))) ⟨_,by conv=>lhs;reduce⟩ Ss al7
def al5:aw:=aF (a:= λx y=>bh 3 y (bh 18 x (bg qS.1.body 2047))) ⟨_,by conv=>lhs;reduce⟩ Sr al6
def al4:aw:=aF (a:= λx y=>bh 3 y (bh 18 x (bg qS.1.body 1023))) ⟨_,by conv=>lhs;reduce⟩ So al5
def Zh:aw:=aF (a:= λx y=>bh 3 y (bh 18 x (bg qS.1.body 511))) ⟨_,by conv=>lhs;reduce⟩ Sn al4
def Sk:aw:=aF (a:= λx=>bh 7 x (bg qS.1.body 127)) ⟨_,by conv=>lhs;reduce⟩ Zh
def al8:aw:=aF (a:= λx y=>bh 3 y (bh 18 x (bg qS.1.body 63))) ⟨_,by conv=>lhs;reduce⟩ Sm Sk
def al3:aw:=aF (a:= λx y=>bh 63 y (bh 303 x qS.1.body)) ⟨_,by conv=>lhs;reduce⟩ Sl al8
def Zg:b8:=⟨397,[.bJ 2],al3⟩
theorem az8:cd N 87=some Zg:=by kernel_rfl
def aAp:cp N 134:=⟨_,by conv=>lhs;reduce⟩
def X0:aw:=aF (a:=aAp.1.body) ⟨_,by conv=>lhs;reduce⟩
def QQ:b8:=⟨15,[.bJ 6],X0⟩
theorem axD:cd N 134=some QQ:=by kernel_rfl
def aAq:cp N 135:=⟨_,by conv=>lhs;reduce⟩
def Es:aw:=aF (a:=aAq.1.body) ⟨_,by conv=>lhs;reduce⟩
def BY:b8:=⟨35,[.bJ 12],Es⟩
theorem axE:cd N 135=some BY:=by kernel_rfl
def aAr:cp N 136:=⟨_,by conv=>lhs;reduce⟩
def QR:aw:=aF (a:=aAr.1.body) ⟨_,by conv=>lhs;reduce⟩
def axF:b8:=⟨18,[.bJ 4,.bJ 5],QR⟩
theorem axG:cd N 136=some axF:=by kernel_rfl
theorem asE{args:List Value}{m:H}{bA:Value->H->Prop}(h:args.length<=18):ep N 136 args m bA=fG N QR (ig args) m (nn [.bJ 4,.bJ 5] bA):=nN axG h
def HO:cp N 137:=⟨_,by conv=>lhs;reduce⟩
def X2:aw:=aF (a:=bg HO.1.body 151) ⟨_,by conv=>lhs;reduce⟩
def X3:aw:=aF (a:=bg HO.1.body 10036415) ⟨_,by conv=>lhs;reduce⟩
def X4:aw:=aF (a:= λx=>bh 153 x (bg HO.1.body 74943)) ⟨_,by conv=>lhs;reduce⟩ X3
def X5:aw:=aF (a:= λx=>bh 73 x (bg HO.1.body 1215)) ⟨_,by conv=>lhs;reduce⟩ X4
def X6:aw:=aF (a:=bg HO.1.body 2431) ⟨_,by conv=>lhs;reduce⟩
def aiZ:aw:=aF (a:= λx y G=>bh 2431 G (bh 1215 y (bh 151 x HO.1.body))) ⟨_,by conv=>lhs;reduce⟩ X2 X5 X6
def X1:b8:=⟨149,[.bJ 2],aiZ⟩
theorem axH:cd N 137=some X1:=by kernel_rfl
def aAu:cp N 140:=⟨_,by conv=>lhs;reduce⟩
def ai4:aw:=aF (a:=aAu.1.body) ⟨_,by conv=>lhs;reduce⟩
def QU:b8:=⟨29,[.bJ 2],ai4⟩
theorem ai5:cd N 140=some QU:=by kernel_rfl
def Zv:cp N 141:=⟨_,by conv=>lhs;reduce⟩
def QV:aw:=aF (a:=bg Zv.1.body 75) ⟨_,by conv=>lhs;reduce⟩
def BZ:aw:=aF (a:=bg Zv.1.body 15) ⟨_,by conv=>lhs;reduce⟩
def K3:aw:=aF (a:= λx y=>bh 15 y (bh 75 x Zv.1.body)) ⟨_,by conv=>lhs;reduce⟩ QV BZ
def Hf:b8:=⟨37,[.bJ 8],K3⟩
theorem axI:cd N 141=some Hf:=by kernel_rfl
def aAv:cp N 142:=⟨_,by conv=>lhs;reduce⟩
def K4:aw:=aF (a:=aAv.1.body) ⟨_,by conv=>lhs;reduce⟩
def Hg:b8:=⟨26,[.bJ 8],K4⟩
theorem axJ:cd N 142=some Hg:=by kernel_rfl
def ZC:cp N 189:=⟨_,by conv=>lhs;reduce⟩
def Q8:aw:=aF (a:=bg ZC.1.body 37) ⟨_,by conv=>lhs;reduce⟩
def Lg:aw:=aF (a:=bg ZC.1.body 7) ⟨_,by conv=>lhs;reduce⟩
def ajA:aw:=aF (a:= λx y=>bh 7 y (bh 37 x ZC.1.body)) ⟨_,by conv=>lhs;reduce⟩ Q8 Lg
def Yg:b8:=⟨19,[.bJ 4],ajA⟩
theorem ax6:cd N 189=some Yg:=by kernel_rfl
def ZD:cp N 190:=⟨_,by conv=>lhs;reduce⟩
def Li:aw:=aF (a:=bg ZD.1.body 75) ⟨_,by conv=>lhs;reduce⟩
def B2:aw:=aF (a:=bg ZD.1.body 15) ⟨_,by conv=>lhs;reduce⟩
def Q9:aw:=aF (a:= λx y=>bh 15 y (bh 75 x ZD.1.body)) ⟨_,by conv=>lhs;reduce⟩ Li B2
def Hm:b8:=⟨21,[.bJ 4],Q9⟩
theorem ajC:cd N 190=some Hm:=by kernel_rfl
def aAO:cp N 197:=⟨_,by conv=>lhs;reduce⟩
def Hp:aw:=aF (a:=aAO.1.body) ⟨_,by conv=>lhs;reduce⟩
def Ew:b8:=⟨25,[.bJ 4],Hp⟩
theorem ayf:cd N 197=some Ew:=by kernel_rfl
def ZF:cp N 198:=⟨_,by conv=>lhs;reduce⟩
def Re:aw:=aF (a:=bg ZF.1.body 75) ⟨_,by conv=>lhs;reduce⟩
def Hq:aw:=aF (a:=bg ZF.1.body 15) ⟨_,by conv=>lhs;reduce⟩
def Yj:aw:=aF (a:= λx y=>bh 15 y (bh 75 x ZF.1.body)) ⟨_,by conv=>lhs;reduce⟩ Re Hq
def Rd:b8:=⟨23,[.bJ 4],Yj⟩
theorem ayg:cd N 198=some Rd:=by kernel_rfl
end
section
set_option maxRecDepth 100000
def aAJ:cp N 19:=⟨_,by conv=>lhs;reduce⟩
def Rf:aw:=aF (a:=aAJ.1.body) ⟨_,by conv=>lhs;reduce⟩
def Lh:b8:=⟨17,[.bJ 4],Rf⟩
theorem ayj:cd N 19=some Lh:=by kernel_rfl
def ZG:cp N 20:=⟨_,by conv=>lhs;reduce⟩
def Rg:aw:=aF (a:=bg ZG.1.body 75) ⟨_,by conv=>lhs;reduce⟩
def Lk:aw:=aF (a:=bg ZG.1.body 15) ⟨_,by conv=>lhs;reduce⟩
def Yk:aw:=aF (a:= λx y=>bh 15 y (bh 75 x ZG.1.body)) ⟨_,by conv=>lhs;reduce⟩ Rg Lk
def Lj:b8:=⟨26,[.bJ 4],Yk⟩
theorem ajL:cd N 20=some Lj:=by kernel_rfl
def SB:cp N 48:=⟨_,by conv=>lhs;reduce⟩
def LB:aw:=aF (a:=bg SB.1.body 4868683) ⟨_,by conv=>lhs;reduce⟩
def HC:aw:=aF (a:= λx=>bh 297 x (bg SB.1.body 19019)) ⟨_,by conv=>lhs;reduce⟩ LB
def RP:aw:=aF (a:= λx=>bh 297 x (bg SB.1.body 75)) ⟨_,by conv=>lhs;reduce⟩ HC
def ak7:aw:=aF (a:= λx=>bh 75 x SB.1.body) ⟨_,by conv=>lhs;reduce⟩ RP
def YR:b8:=⟨66,[.bJ 4],ak7⟩
theorem azG:cd N 48=some YR:=by kernel_rfl
def aBm:cp N 49:=⟨_,by conv=>lhs;reduce⟩
def ED:aw:=aF (a:=aBm.1.body) ⟨_,by conv=>lhs;reduce⟩
def B5:b8:=⟨50,[.bJ 4],ED⟩
theorem azH:cd N 49=some B5:=by kernel_rfl
def aBn:cp N 59:=⟨_,by conv=>lhs;reduce⟩
def ala:aw:=aF (a:=aBn.1.body) ⟨_,by conv=>lhs;reduce⟩
def RS:b8:=⟨14,[.ha 4 true 3],ala⟩
theorem alb:cd N 59=some RS:=by kernel_rfl
def tF:cp N 60:=⟨_,by conv=>lhs;reduce⟩
def LD:aw:=aF (a:=bg tF.1.body 428415) ⟨_,by conv=>lhs;reduce⟩
def EE:aw:=aF (a:=bg tF.1.body 641407) ⟨_,by conv=>lhs;reduce⟩
def YX:aw:=aF (a:= λx=>bh 19 x (bg tF.1.body 51583)) ⟨_,by conv=>lhs;reduce⟩ EE
def HF:aw:=aF (a:= λx y=>bh 12 y (bh 104 x (bg tF.1.body 6527))) ⟨_,by conv=>lhs;reduce⟩ LD YX
def RT:aw:=aF (a:= λx=>bh 3 x (bg tF.1.body 2431)) ⟨_,by conv=>lhs;reduce⟩ HF
def YZ:aw:=aF (a:=bg tF.1.body 106926847) ⟨_,by conv=>lhs;reduce⟩
def LF:aw:=aF (a:= λx=>bh 3 x (bg tF.1.body 39817983)) ⟨_,by conv=>lhs;reduce⟩ YZ
def YY:aw:=aF (a:= λx=>bh 4860 x (bg tF.1.body 13055)) ⟨_,by conv=>lhs;reduce⟩ LF
def LG:aw:=aF (a:= λx=>bh 3 x (bg tF.1.body 4863)) ⟨_,by conv=>lhs;reduce⟩ YY
def RU:aw:=aF (a:=bg tF.1.body 9727) ⟨_,by conv=>lhs;reduce⟩
def ali:aw:=aF (a:=bg tF.1.body 2047) ⟨_,by conv=>lhs;reduce⟩
def alh:aw:=aF (a:= λx y=>bh 3 y (bh 18 x (bg tF.1.body 1023))) ⟨_,by conv=>lhs;reduce⟩ RU ali
def alg:aw:=aF (a:= λx y=>bh 3 y (bh 18 x (bg tF.1.body 511))) ⟨_,by conv=>lhs;reduce⟩ LG alh
def alf:aw:=aF (a:= λx y=>bh 511 y (bh 2431 x tF.1.body)) ⟨_,by conv=>lhs;reduce⟩ RT alg
def YW:b8:=⟨206,[.ha 4 true 7],alf⟩
theorem azK:cd N 60=some YW:=by kernel_rfl
def amp:cp N 61:=⟨_,by conv=>lhs;reduce⟩
def HG:aw:=aF (a:=bg amp.1.body 75) ⟨_,by conv=>lhs;reduce⟩
def alj:aw:=aF (a:= λx=>bh 75 x amp.1.body) ⟨_,by conv=>lhs;reduce⟩ HG
def Y0:b8:=⟨35,[.bJ 4],alj⟩
theorem azL:cd N 61=some Y0:=by kernel_rfl
def aAd:cp N 101:=⟨_,by conv=>lhs;reduce⟩
def aid:aw:=aF (a:=aAd.1.body) ⟨_,by conv=>lhs;reduce⟩
def XA:b8:=⟨21,[.bJ 4],aid⟩
theorem axt:cd N 101=some XA:=by kernel_rfl
def Zm:cp N 102:=⟨_,by conv=>lhs;reduce⟩
def Qm:aw:=aF (a:=bg Zm.1.body 37) ⟨_,by conv=>lhs;reduce⟩
def KV:aw:=aF (a:=bg Zm.1.body 7) ⟨_,by conv=>lhs;reduce⟩
def aie:aw:=aF (a:= λx y=>bh 7 y (bh 37 x Zm.1.body)) ⟨_,by conv=>lhs;reduce⟩ Qm KV
def XB:b8:=⟨18,[.bJ 4],aie⟩
theorem axu:cd N 102=some XB:=by kernel_rfl
def aAf:cp N 108:=⟨_,by conv=>lhs;reduce⟩
def aii:aw:=aF (a:=aAf.1.body) ⟨_,by conv=>lhs;reduce⟩
def XC:b8:=⟨32,[.bJ 8],aii⟩
theorem axv:cd N 108=some XC:=by kernel_rfl
def aAg:cp N 109:=⟨_,by conv=>lhs;reduce⟩
def aij:aw:=aF (a:=aAg.1.body) ⟨_,by conv=>lhs;reduce⟩
def XD:b8:=⟨17,[.bJ 4],aij⟩
theorem axw:cd N 109=some XD:=by kernel_rfl
end
open Go Go.DI Go.Big
section
set_option maxRecDepth 100000
def apy:List (Nat×b8):=[(59,RS),(107,Qn),(138,QS),(139,QT),(140,QU),(167,QW),(168,QX),(169,QY),(170,QZ),(171,Q0),(173,ajj),(174,ajk),(175,ajl),(191,ajD),(192,ajE),(193,ajF),(194,Hn),(195,Rb),(196,Rc),(199,ajK),(213,Ri),(215,Rk),(216,Rl),(217,ajT),(218,ajU),(219,Rm),(220,ajZ),(221,Rn),(222,Ro),(223,aj4),(230,akb),(239,aki),(240,Rv),(241,Rw),(246,Rx),(247,Hv),(248,Ry),(249,akv),(251,Rz),(253,RB),(254,akA),(257,akB),(258,akC),(274,akS),(275,akT),(260,RF),(268,RG),(271,RH),(272,akQ),(273,Hy),(278,RI)]
theorem aHh:OD N apy:=⟨⟨⟨by kernel_rfl,alb⟩,by kernel_rfl⟩,⟨⟨⟨by kernel_rfl,aih⟩,by kernel_rfl⟩,⟨⟨⟨by kernel_rfl,ai1⟩,by kernel_rfl⟩,⟨⟨⟨by kernel_rfl,ai3⟩,by kernel_rfl⟩,⟨⟨⟨by kernel_rfl,ai5⟩,by kernel_rfl⟩,⟨⟨⟨by kernel_rfl,ai8⟩,by kernel_rfl⟩,⟨⟨⟨by kernel_rfl,aja⟩,by kernel_rfl⟩,⟨⟨⟨by kernel_rfl,ajc⟩,by kernel_rfl⟩,⟨⟨⟨by kernel_rfl,ajf⟩,by kernel_rfl⟩,⟨⟨⟨by kernel_rfl,ajh⟩,by kernel_rfl⟩,⟨⟨⟨by kernel_rfl,axQ⟩,by kernel_rfl⟩,⟨⟨⟨by kernel_rfl,axT⟩,by kernel_rfl⟩,⟨⟨⟨by kernel_rfl,axV⟩,by kernel_rfl⟩,⟨⟨⟨by kernel_rfl,ax9⟩,by kernel_rfl⟩,⟨⟨⟨by kernel_rfl,ayc⟩,by kernel_rfl⟩,⟨⟨⟨by kernel_rfl,aye⟩,by kernel_rfl⟩,⟨⟨⟨by kernel_rfl,Yi⟩,by kernel_rfl⟩,⟨⟨⟨by kernel_rfl,ajH⟩,by kernel_rfl⟩,⟨⟨⟨by kernel_rfl,ajJ⟩,by kernel_rfl⟩,⟨⟨⟨by kernel_rfl,ayi⟩,by kernel_rfl⟩,⟨⟨⟨by kernel_rfl,ajN⟩,by kernel_rfl⟩,⟨⟨⟨by kernel_rfl,ajP⟩,by kernel_rfl⟩,⟨⟨⟨by kernel_rfl,ajR⟩,by kernel_rfl⟩,⟨⟨⟨by kernel_rfl,ayl⟩,by kernel_rfl⟩,⟨⟨⟨by kernel_rfl,ayn⟩,by kernel_rfl⟩,⟨⟨⟨by kernel_rfl,ajW⟩,by kernel_rfl⟩,⟨⟨⟨by kernel_rfl,ayp⟩,by kernel_rfl⟩,⟨⟨⟨by kernel_rfl,aj1⟩,by kernel_rfl⟩,⟨⟨⟨by kernel_rfl,aj3⟩,by kernel_rfl⟩,⟨⟨⟨by kernel_rfl,ayr⟩,by kernel_rfl⟩,⟨⟨⟨by kernel_rfl,ayz⟩,by kernel_rfl⟩,⟨⟨⟨by kernel_rfl,ayJ⟩,by kernel_rfl⟩,⟨⟨⟨by kernel_rfl,akm⟩,by kernel_rfl⟩,⟨⟨⟨by kernel_rfl,ako⟩,by kernel_rfl⟩,⟨⟨⟨by kernel_rfl,akq⟩,by kernel_rfl⟩,⟨⟨⟨by kernel_rfl,Yy⟩,by kernel_rfl⟩,⟨⟨⟨by kernel_rfl,akt⟩,by kernel_rfl⟩,⟨⟨⟨by kernel_rfl,ayP⟩,by kernel_rfl⟩,⟨⟨⟨by kernel_rfl,akx⟩,by kernel_rfl⟩,⟨⟨⟨by kernel_rfl,akz⟩,by kernel_rfl⟩,⟨⟨⟨by kernel_rfl,ayT⟩,by kernel_rfl⟩,⟨⟨⟨by kernel_rfl,ay1⟩,by kernel_rfl⟩,⟨⟨⟨by kernel_rfl,ay3⟩,by kernel_rfl⟩,⟨⟨⟨by kernel_rfl,azf⟩,by kernel_rfl⟩,⟨⟨⟨by kernel_rfl,azi⟩,by kernel_rfl⟩,⟨⟨⟨by kernel_rfl,akI⟩,by kernel_rfl⟩,⟨⟨⟨by kernel_rfl,akK⟩,by kernel_rfl⟩,⟨⟨⟨by kernel_rfl,akP⟩,by kernel_rfl⟩,⟨⟨⟨by kernel_rfl,ay8⟩,by kernel_rfl⟩,⟨⟨⟨by kernel_rfl,YI⟩,by kernel_rfl⟩,⟨⟨⟨by kernel_rfl,akV⟩,by kernel_rfl⟩,trivial⟩⟩⟩⟩⟩⟩⟩⟩⟩⟩⟩⟩⟩⟩⟩⟩⟩⟩⟩⟩⟩⟩⟩⟩⟩⟩⟩⟩⟩⟩⟩⟩⟩⟩⟩⟩⟩⟩⟩⟩⟩⟩⟩⟩⟩⟩⟩⟩⟩⟩⟩
theorem gV{f:Nat}{args:List Value}{r:Value}(h:af6 (NW apy).I [] 100000 80 f args r=true):bP N f args r:=at5 (IN aHh) am7 h
theorem FX{p:cq->Prop}(bY:p ⟨false,[],[1]⟩)(A:p ⟨false,[1],[1]⟩)(D:p ⟨false,[1],[2]⟩)(ai:p ⟨false,[1],[1000]⟩)(aT:p ⟨false,[30],[1]⟩){x:cq}(B:x.dq):p x:=by
 simp only[cq.dq,NQ,hi,kJ,or_false]at B;rcases B with rfl|rfl|rfl|rfl|rfl
 ·exact bY
 ·exact A
 ·exact D
 ·exact ai
 ·exact aT
theorem Xw{x:cq}(S:x.dq):bP N 170 [dL x] (.bool x.bZ.small):=
 FX (p:= λx=>bP N 170 [dL x] (.bool x.bZ.small)) (gV (by kernel_rfl)) (gV (by kernel_rfl)) (gV (by kernel_rfl)) (gV (by kernel_rfl)) (gV (by kernel_rfl)) S
theorem U2{x:cq}(S:x.dq):bP N 171 [dL x] (.bool (decide (0<x.bZ.n))):=
 FX (p:= λx=>bP N 171 [dL x] (.bool (decide (0<x.bZ.n)))) (gV (by kernel_rfl)) (gV (by kernel_rfl)) (gV (by kernel_rfl)) (gV (by kernel_rfl)) (gV (by kernel_rfl)) S
theorem aCl{x:cq}(S:x.dq):bP N 230 [dL x] (.bool (decide (rQ x.bZ .mv<=0))):=
 FX (p:= λx=>bP N 230 [dL x] (.bool (decide (rQ x.bZ .mv<=0)))) (gV (by kernel_rfl)) (gV (by kernel_rfl)) (gV (by kernel_rfl)) (gV (by kernel_rfl)) (gV (by kernel_rfl)) S
theorem ao1{x:cq}(S:x.dq):bP N 140 [dL x] (.bool x.bZ.small):=
 FX (p:= λx=>bP N 140 [dL x] (.bool x.bZ.small)) (gV (by kernel_rfl)) (gV (by kernel_rfl)) (gV (by kernel_rfl)) (gV (by kernel_rfl)) (gV (by kernel_rfl)) S
theorem abU{x:cq}(S:x.dq)(aQ8:x.bZ.ok=true):bP N 139 [dL x] (E (rQ x.bZ .nil)):=
 FX (p:= λx=>bP N 139 [dL x] (E (rQ x.bZ .nil))) (gV (by kernel_rfl)) (gV (by kernel_rfl)) (gV (by kernel_rfl)) (gV (by kernel_rfl)) (gV (by kernel_rfl)) S
theorem aF4{x:cq}(S:x.dq):bP N 138 [dL x] (.bool x.bZ.ok):=
 FX (p:= λx=>bP N 138 [dL x] (.bool x.bZ.ok)) (gV (by kernel_rfl)) (gV (by kernel_rfl)) (gV (by kernel_rfl)) (gV (by kernel_rfl)) (gV (by kernel_rfl)) S
theorem aE6{x:cq}(S:x.dq):bP N 199 [dL ⟨false,[1],[1]⟩,dL x] (.bool (decide (rQ .mv x.bZ<0))):=
 FX (p:= λx=>bP N 199 [dL ⟨false,[1],[1]⟩,dL x] (.bool (decide (rQ .mv x.bZ<0)))) (gV (by kernel_rfl)) (gV (by kernel_rfl)) (gV (by kernel_rfl)) (gV (by kernel_rfl)) (gV (by kernel_rfl)) S
theorem tO:bP N 193 [E 1] (dL ⟨false,[1],[1]⟩):=gV (by kernel_rfl)
theorem auh:bP N 59 [E 0,E 1] (dL ⟨false,[],[1]⟩):=by have h:bP N 59 [E 0,E 1] (.agg #[.bool false,.slice none 0 0,b5 [1]]):=gV (by kernel_rfl);intro u m vs dh aa;refine(h u m vs dh aa).bD λr U ⟨A,D,cy,ai,aT,bF⟩=>⟨A,D,cy,ai,aT,?_⟩;obtain⟨ys,rfl,az⟩:=bF.uI;obtain⟨a,b,c,e,aE,a2,cj⟩:=bL.aHH (x:= .bool false) (y:= .slice none 0 0) (G:=b5 [1]) az;have dd:ys= #[a,b,c]:=F1.1 e;subst dd;rw[a2.hL rfl];exact bL.agg (bL.cons aE (bL.cons (.jH rfl) (bL.cons cj bL.nil)))
theorem aui:bP N 59 [E 1,E 1] (dL ⟨false,[1],[1]⟩):=gV (by kernel_rfl)
theorem auj:bP N 59 [E 1,E 2] (dL ⟨false,[1],[2]⟩):=gV (by kernel_rfl)
theorem auk:bP N 59 [E 1,E 1000] (dL ⟨false,[1],[1000]⟩):=gV (by kernel_rfl)
theorem aul:bP N 59 [E 30,E 1] (dL ⟨false,[30],[1]⟩):=gV (by kernel_rfl)
theorem M9:bP N 174 [E 1,E 1] (.tuple #[dL ⟨false,[1],[1]⟩,E 0]):=gV (by kernel_rfl)
theorem Na:bP N 173 [iP [⟨false,[1],[1]⟩]] (.tuple #[dL ⟨false,[1],[1]⟩,E 0]):=gV (by kernel_rfl)
theorem M7:bP N 175 [dL ⟨false,[1],[1]⟩,dL ⟨false,[1],[1]⟩] (.tuple #[E 0,E 0]):=gV (by kernel_rfl)
theorem u1:bP N 191 [iP [⟨false,[1],[1]⟩]] (.tuple #[dL ⟨false,[1],[1]⟩,E 0]):=gV (by kernel_rfl)
theorem u0:bP N 192 [dL ⟨false,[1],[1]⟩,dL ⟨false,[1],[1]⟩] (.bool true):=gV (by kernel_rfl)
end
theorem adq{x:Int}(bY:0<=x)(A:x<4294967296):IntKind.u32.wrap x=x:=by show x%4294967296=x;omega
theorem ads{x:Int}(bY:0<=x)(A:x<18446744073709551616):IntKind.u64.wrap x=x:=by show x%18446744073709551616=x;omega
theorem adI:IntKind.i64.wrap 0=0:=by decide
theorem adJ:IntKind.i64.wrap 1=1:=by decide
theorem adK:IntKind.i64.wrap 2=2:=by decide
theorem adL:IntKind.i64.wrap (-1)= -1:=by decide
theorem adX:IntKind.u64.wrap 0=0:=by decide
theorem adY:IntKind.u64.wrap 1=1:=by decide
theorem adZ:IntKind.u32.wrap 0=0:=by decide
attribute [local simp] adI adJ adK adL adX adY adZ
theorem abN{x:Int}: ∀r∈[[ez x]],r.length=1/\ ∀v∈r,hB v=true:= λr al=>by simp at al;subst al;exact⟨rfl,λv M=>by simp at M;subst M;rfl⟩
theorem aJx{x:Int}(B:x≠0):bP N 248 [b5 [x]] (E 1):=by refine du (c2 (ax:=⟨[],[]⟩) akt (by kernel_rfl) (by simp[Ry]) ?_);simp[Ry,aks];refine eF (ax:=⟨[],[]⟩) λbM a1=> ?_;simp[aku,B]
noncomputable def xF:bx N:= .cK 248 Int (λx=>x≠0) (λx=>[b5 [x]]) (λ_=>E 1) λ_ h=>aJx h
@[simp] theorem aWu:xF.f=248:=rfl
@[simp] theorem aWv{x:Int}(h:x≠0):xF.fn [ad [[ez x]] 1]=some (E 1):=bx.dx (x:=x) h λy Y=>by simpa using Y
theorem aJw{x:Int}(B:x≠0):bP N 271 [b5 [x]] (.bool false):=by refine du (c2 (ax:=⟨[xF],[]⟩) akP (by kernel_rfl) (by simp[RH]) ?_);simp(disch:=omega) [RH,akO]
noncomputable def IA:bx N:= .cK 271 Int (λx=>x≠0) (λx=>[b5 [x]]) (λ_=> .bool false) λ_ h=>aJw h
@[simp] theorem aWs:IA.f=271:=rfl
@[simp] theorem aWt{x:Int}(h:x≠0):IA.fn [ad [[ez x]] 1]=some (.bool false):=bx.dx (x:=x) h λy Y=>by simpa using Y
theorem aJC{x:Int}(B:x≠0):bP N 253 [b5 [x]] (b5 [x]):=by refine du (c2 (ax:=⟨[xF],[]⟩) akz (by kernel_rfl) (by simp[RB]) ?_);simp(disch:=omega) [RB,aky];exact vu (n:=8) (bI:=[[ez x]]) (w:=true) (by simp(disch:=first|omega|simp only[DI.aK];omega) [-an,-au,-ak,-aq,-List.map_map]) rfl abN
noncomputable def CN:bx N:= .cK 253 Int (λx=>x≠0) (λx=>[b5 [x]]) (λx=>b5 [x]) λ_ h=>aJC h
@[simp] theorem aWE:CN.f=253:=rfl
@[simp] theorem aWF{x:Int}(h:x≠0):CN.fn [ad [[ez x]] 1]=some (b5 [x]):=bx.dx (x:=x) h λy Y=>by simpa using Y
theorem aJq{x y:Int}(B:x≠0)(Y:y≠0):bP N 222 [b5 [x],b5 [y]] (E (if x<y then-1 else if x>y then 1 else 0)):=by
 refine du (c2 (ax:=⟨[xF],[]⟩) aj3 (by kernel_rfl) (by simp[Ro]) ?_);simp(disch:=omega) [Ro,aj2];refine eF (ax:=⟨[xF],[]⟩) λbM a1=> ?_;by_cases b6:x<y
 ·simp[Lo,Hr,b6]
 by_cases cR:x>y
 ·simp[Lo,Hr,b6,cR]
 simp[Lo,Hr,b6,cR];refine a1 _ _ (eF (ax:=⟨[xF],[]⟩) λbM a1=> ?_);simp[Lo,Hr,Hr,b6,cR]
noncomputable def T7:bx N:= .cK 222 (Int×Int) (λx=>x.1≠0/\x.2≠0) (λx=>[b5 [x.1],b5 [x.2]]) (λx=>E (if x.1<x.2 then-1 else if x.1>x.2 then 1 else 0)) λ_ h=>aJq h.1 h.2
@[simp] theorem aWn:T7.f=222:=rfl
@[simp] theorem aWo{x y:Int}(h:x≠0/\y≠0):T7.fn [ad [[ez x]] 1,ad [[ez y]] 1]=some (E (if x<y then-1 else if x>y then 1 else 0)):=bx.dx (x:=(x,y)) h λ⟨a,b⟩ Y=>by simpa using Y
theorem aJz:bP N 217 [.int .u64 0] (b5 []):=gV (by kernel_rfl)
noncomputable def acT:bx N:= .cK 217 Unit (λ_=>True) (λ_=>[.int .u64 0]) (λ_=>b5 []) λ_ _=>aJz
@[simp] theorem aWy:acT.f=217:=rfl
@[simp] theorem aWz:acT.fn [.int .u64 0]=some (b5 []):=bx.dx (x:=()) trivial λ_ _=>rfl
section
variable {G:Int} (A:2<=G) (D:G<200)
include A D
theorem aJB:bP N 278 [b5 [G],.int .u32 1] (.tuple #[b5 [G],.int .u32 0]):=by
 have bw:G≠0:=by omega
 have ct:IntKind.u64.wrap G=G:=ads (by omega) (by omega);have dW:IntKind.u32.wrap G=G:=adq (by omega) (by omega);have aD:G.tdiv 1=G:=by simp
 have aJ:G.tmod 1=0:=by simp
 refine du (c2 (ax:=⟨[xF],[]⟩) akV (by kernel_rfl) (by simp[RI]) ?_);simp(disch:=omega) [RI,akU];refine eF (ax:=⟨[xF],[]⟩) λbM a1=> ?_;have kn:max (G%2^IntKind.u64.bits) 0=G:=by show max (G%18446744073709551616) 0=G;omega
 simp(disch:=first|omega|simp only[DI.aK];omega) [YJ,RJ,ct,dW,kn,aD,aJ,-an,-au,-ak,-aq,-List.map_map];refine a1 _ _ (eF (ax:=⟨[xF],[]⟩) λbM a1=> ?_);simp(disch:=omega) [YJ,RJ,RJ,Br,yX];simp(disch:=first|omega|simp only[DI.aK];omega) [auy]
theorem aJr:bP N 273 [b5 [1],b5 [G]] (.tuple #[.slice none 0 0,b5 [1]]):=by
 have bw:G≠0:=by omega
 have c:(1:Int)<G:=by omega
 have dY:(1:Int)≠0:=by decide
 refine du (c2 (ax:=⟨[T7,CN],[]⟩) YI (by kernel_rfl) (by simp[Hy]) ?_);simp(disch:=omega) [Hy,YH,c]
noncomputable def acV:bx N:= .cK 278 Unit (λ_=>True) (λ_=>[b5 [G],.int .u32 1]) (λ_=> .tuple #[b5 [G],.int .u32 0]) λ_ _=>aJB A D
@[simp] theorem aWC:(acV A D).f=278:=rfl
@[simp] theorem aWD:(acV A D).fn [ad [[ez G]] 1,.int .u32 1]=some (.tuple #[b5 [G],.int .u32 0]):=bx.dx (x:=()) trivial λ_ _=>rfl
theorem aJs:bP N 273 [b5 [G],b5 [1]] (.tuple #[b5 [G],b5 []]):=by
 have bw:G≠0:=by omega
 have c: ¬G<1:=by omega
 have cR:G>1:=by omega
 have lz:(1:Int)<G:=by omega
 have dY:(1:Int)≠0:=by decide
 refine du (c2 (ax:=⟨[T7,acV A D,acT],[]⟩) YI (by kernel_rfl) (by simp[Hy]) ?_);simp(disch:=omega) [Hy,YH,akR,c,cR]
noncomputable def FG:bx N:= .cK 273 Bool (λ_=>True) (λb=>if b then[b5 [1],b5 [G]]else[b5 [G],b5 [1]]) (λb=>if b then .tuple #[.slice none 0 0,b5 [1]]else .tuple #[b5 [G],b5 []]) λb _=>by
 cases b
 ·exact aJs A D
 ·exact aJr A D
@[simp] theorem aWp:(FG A D).f=273:=rfl
theorem aGI:(FG A D).fn [ad [[ez 1]] 1,ad [[ez G]] 1]=some (.tuple #[.slice none 0 0,b5 [1]]):=bx.dx (x:=true) trivial λb hb=>by
 cases b
 ·simp at hb;omega
 ·rfl
theorem aGJ:(FG A D).fn [ad [[ez G]] 1,ad [[ez 1]] 1]=some (.tuple #[b5 [G],b5 []]):=bx.dx (x:=false) trivial λb hb=>by
 cases b
 ·rfl
 ·simp at hb;omega
theorem aJu:bP N 251 [b5 [1],b5 [G]] (.tuple #[b5 [1],E 0]):=by
 have bw:G≠0:=by omega
 have dY:(1:Int)≠0:=by decide
 have fW:=aGI A D;have gI:=aGJ A D;refine du (c2 (ax:=⟨[IA,CN,FG A D],[]⟩) akx (by kernel_rfl) (by simp[Rz]) ?_);simp(disch:=omega) [Rz,akw];refine eF (ax:=⟨[IA,CN,FG A D],[]⟩) λbM a1=> ?_;simp[RA,Lt,fW];refine a1 _ _ (eF (ax:=⟨[IA,CN,FG A D],[]⟩) λbM a1=> ?_);simp[RA,Lt,gI];refine a1 _ _ (eF (ax:=⟨[IA,CN,FG A D],[]⟩) λbM a1=> ?_);simp[RA,Lt,Lt]
omit A D in
theorem aso: ∀(n:Nat) (v k:Int),0<=v->v<2^n->0<=k->k+n<=1000-> ∃e7,k<=e7/\e7<=k+n/\(0<v->k<e7)/\ ∀(z:aC) (t:H) (Q:cM->aC->H->Prop),z 5=ez v->z 4=E k->
 (∀K,K 4=E e7->Q (.cH 0) K t)->ec N (.loop Lm) z t Q:=by
 intro n;induction n with
 | zero=>intro v k bY A _ _;have M:v=0:=(by simp at A;omega);subst M;refine⟨k,sY _,by omega,λh=>absurd h (by decide),λz t Q bz dR bb=> ?_⟩;refine eF (ax:=⟨[],[]⟩) λbM a1=> ?_;simp[Lm,bz];exact bb _ (by simp[dR])
 | succ n cf=>
   intro v k bY A S ae;by_cases M:v=0
   ·subst M;refine⟨k,sY _,by omega,λh=>absurd h (by decide),λz t Q bz dR bb=> ?_⟩;refine eF (ax:=⟨[],[]⟩) λbM a1=> ?_;simp[Lm,bz];exact bb _ (by simp[dR])
   ·have Z:0<v:=(by omega);have ai:(2:Int)^(n+1)=2*2^n:=(by rw[Int.pow_succ];omega);obtain⟨e7,a,b,c,d⟩:=cf (v/2) (k+1) (by omega) (by omega) (by omega) (by omega);refine⟨e7,by omega,by omega,λ_=>by omega,λz t Q bz dR bb=> ?_⟩;refine eF (ax:=⟨[],[]⟩) λbM a1=> ?_;have ct:IntKind.i64.wrap (k+1)=k+1:=cY (by omega) (by omega);simp[Lm,bz,dR,Z,ct];refine a1 _ _ (d _ _ _ ?_ (by simp) bb);rw[aH3,if_pos rfl,Int.fdiv_eq_ediv_of_nonneg _ (by decide)]
theorem UG: ∃b:Int,1<=b/\b<=8/\bP N 216 [b5 [G]] (E b):=by
 have bw:G≠0:=by omega
 obtain⟨e7,a,b,c,d⟩:=aso 8 G 0 (by omega) (by show G<256;omega) (by omega) (by omega);refine⟨e7,by have:=c (by omega);omega,by omega,?_⟩;refine du (c2 (ax:=⟨[xF],[]⟩) ajR (by kernel_rfl) (by simp[Rl]) ?_);simp(disch:=first|omega|simp only[DI.aK];omega) [Rl,ajQ];refine d _ _ _ (by simp) (by simp) λK dR=> ?_;simp[ajS,dR]
omit A D in
theorem asn:bP N 216 [b5 [1]] (E 1):=gV (by kernel_rfl)
omit A D in
noncomputable def FF(b:Int)(hb:bP N 216 [b5 [G]] (E b)):bx N:= .cK 216 Bool (λ_=>True) (λc=>if c then[b5 [1]]else[b5 [G]]) (λc=>if c then E 1 else E b) λc _=>by
 cases c
 ·exact hb
 ·exact asn
omit A D in
@[simp] theorem aWm{b:Int}{hb:bP N 216 [b5 [G]] (E b)}:(FF b hb).f=216:=rfl
theorem T6{b:Int}{hb:bP N 216 [b5 [G]] (E b)}:(FF b hb).fn [ad [[ez 1]] 1]=some (E 1):=bx.dx (x:=true) trivial λc ar=>by
 cases c
 ·simp at ar;omega
 ·rfl
theorem acQ{b:Int}{hb:bP N 216 [b5 [G]] (E b)}:(FF b hb).fn [ad [[ez G]] 1]=some (E b):=bx.dx (x:=false) trivial λc ar=>by
 cases c
 ·rfl
 ·simp at ar;omega
noncomputable def acR:bx N:= .cK 251 Unit (λ_=>True) (λ_=>[b5 [1],b5 [G]]) (λ_=> .tuple #[b5 [1],E 0]) λ_ _=>aJu A D
@[simp] theorem aWq:(acR A D).f=251:=rfl
@[simp] theorem aWr:(acR A D).fn [ad [[ez 1]] 1,ad [[ez G]] 1]=some (.tuple #[b5 [1],E 0]):=bx.dx (x:=()) trivial λ_ _=>rfl
theorem aJy:bP N 219 [.bool false,b5 [1],b5 [G]] (.tuple #[dL ⟨false,[1],[G]⟩,E 0]):=by
 have bw:G≠0:=by omega
 have dY:(1:Int)≠0:=by decide
 obtain⟨b,er,eO,hb⟩:=UG A D;have eD:=T6 A D (hb:=hb);have eS:=acQ A D (hb:=hb);have c: ¬b>4096:=by omega
 have nw: ¬(4096:Int)<b:=by omega
 refine du (c2 (ax:=⟨[acR A D,FF b hb,CN],[]⟩) ajW (by kernel_rfl) (by simp[Rm]) ?_);simp(disch:=first|omega|simp only[DI.aK];omega) [Rm,ajV,eD,eS,c,ew,-an,-au,-ak,-aq,-List.map_map]
theorem aJD:bP N 221 [dL ⟨false,[1],[G]⟩] (.bool true):=by
 obtain⟨b,er,eO,hb⟩:=UG A D;have eD:=T6 A D (hb:=hb);have eS:=acQ A D (hb:=hb);have c:0<b:=by omega
 have nw:b<=4096:=by omega
 refine du (c2 (ax:=⟨[FF b hb],[]⟩) aj1 (by kernel_rfl) (by simp[Rn]) ?_);simp[Rn,aj0,eD,eS,c,nw,ew]
noncomputable def acS:bx N:= .cK 219 Unit (λ_=>True) (λ_=>[.bool false,b5 [1],b5 [G]]) (λ_=> .tuple #[dL ⟨false,[1],[G]⟩,E 0]) λ_ _=>aJy A D
@[simp] theorem aWw:(acS A D).f=219:=rfl
@[simp] theorem aWx:(acS A D).fn [.bool false,ad [[ez 1]] 1,ad [[ez G]] 1]=some (.tuple #[dL ⟨false,[1],[G]⟩,E 0]):=bx.dx (x:=()) trivial λ_ _=>rfl
noncomputable def acW:bx N:= .cK 221 Unit (λ_=>True) (λ_=>[dL ⟨false,[1],[G]⟩]) (λ_=> .bool true) λ_ _=>aJD A D
@[simp] theorem aWG:(acW A D).f=221:=rfl
@[simp] theorem aWH:(acW A D).fn [.agg #[.bool false,ad [[ez 1]] 1,ad [[ez G]] 1]]=some (.bool true):=bx.dx (x:=()) trivial λ_ _=>rfl
theorem aJA:bP N 215 [dL ⟨false,[1],[G]⟩] (.tuple #[dL ⟨false,[1],[G]⟩,E 0]):=by refine du (c2 (ax:=⟨[acW A D,acS A D],[]⟩) ajP (by kernel_rfl) (by simp[Rk]) ?_);simp[Rk,ajO,ew]
noncomputable def acU:bx N:= .cK 215 Unit (λ_=>True) (λ_=>[dL ⟨false,[1],[G]⟩]) (λ_=> .tuple #[dL ⟨false,[1],[G]⟩,E 0]) λ_ _=>aJA A D
@[simp] theorem aWA:(acU A D).f=215:=rfl
@[simp] theorem aWB:(acU A D).fn [.agg #[.bool false,ad [[ez 1]] 1,ad [[ez G]] 1]]=some (.tuple #[dL ⟨false,[1],[G]⟩,E 0]):=bx.dx (x:=()) trivial λ_ _=>rfl
theorem aJv:bP N 170 [dL ⟨false,[1],[G]⟩] (.bool true):=by
 obtain⟨b,er,eO,hb⟩:=UG A D;have eD:=T6 A D (hb:=hb);have eS:=acQ A D (hb:=hb);have c:b<=32:=by omega
 refine du (c2 (ax:=⟨[acU A D,FF b hb],[]⟩) ajf (by kernel_rfl) (by simp[QZ]) ?_);simp[QZ,aje,eD,eS,c,ew]
theorem aq6:bP N 171 [dL ⟨false,[1],[G]⟩] (.bool true):=by obtain⟨b,er,eO,hb⟩:=UG A D;have eD:=T6 A D (hb:=hb);refine du (c2 (ax:=⟨[FF b hb],[]⟩) ajh (by kernel_rfl) (by simp[Q0]) ?_);simp[Q0,ajg,eD,ew]
end
attribute [local simp] adI adJ adK adL adX adY adZ
abbrev kH:Value:= .slice none 0 0
noncomputable def dA{f:Nat}{args:List Value}{r:Value}(h:bP N f args r):bx N:= .cK f Unit (λ_=>True) (λ_=>args) (λ_=>r) λ_ _=>h
@[simp] theorem aUm{f:Nat}{args:List Value}{r:Value}{h:bP N f args r}:(dA h).f=f:=rfl
theorem jU{f:Nat}{args:List Value}{r:Value}(h:bP N f args r):(dA h).fn args=some r:=bx.dx (x:=()) trivial λ_ _=>rfl
theorem y2{f:Nat}{args lV:List Value}{r:Value}(h:bP N f args r)(ae:args≠lV):(dA h).fn lV=none:=by unfold dA bx.cK;simp only;rw[dif_neg];rintro⟨_,_,e⟩;exact ae e
noncomputable def tP(a b:bx N)(h:b.f=a.f):bx N:=⟨a.f,λargs=>match a.fn args with
 |some r=>some r
 | none=>b.fn args,λargs r al=>by
   cases aa:a.fn args with
   |some dZ=>rw[aa]at al;cases al;exact a.ok args r aa
   |none=>rw[aa]at al;have:=b.ok args r al;rw[h]at this;exact this⟩
@[simp] theorem aUn{a b:bx N}{h:b.f=a.f}:(tP a b h).f=a.f:=rfl
theorem AK{a b:bx N}{h:b.f=a.f}{args:List Value}{r:Value}(aa:a.fn args=some r):(tP a b h).fn args=some r:=by simp only[tP,aa]
theorem y3{a b:bx N}{h:b.f=a.f}{args:List Value}{r:Value}(aa:a.fn args=none)(hb:b.fn args=some r):(tP a b h).fn args=some r:=by simp only[tP,aa,hb]
theorem aJf{x:Int}(B:x≠0):bP N 194 [b5 [x]] (b5 [x]):=by refine du (c2 (ax:=⟨[],[]⟩) Yi (by kernel_rfl) (by simp[Hn]) ?_);simp[Hn,Yh];refine eF (ax:=⟨[],[]⟩) λbM a1=> ?_;simp[Ra,Ho,Ho,B];exact vu (n:=8) (bI:=[[ez x]]) (w:=true) (by simp) rfl abN
theorem aJe{x:Int}(B:x≠0):bP N 194 [b5 [x,0]] (b5 [x]):=by refine du (c2 (ax:=⟨[],[]⟩) Yi (by kernel_rfl) (by simp[Hn]) ?_);simp[Hn,Yh];refine eF (ax:=⟨[],[]⟩) λbM a1=> ?_;simp[Ra,Ho];refine a1 _ _ (eF (ax:=⟨[],[]⟩) λbM a1=> ?_);simp[Ra,Ho,Ho,B];exact vu (n:=8) (bI:=[[ez x]]) (w:=true) (by simp) rfl abN
noncomputable def q4:bx N:= .cK 194 Int (λx=>x≠0) (λx=>[b5 [x]]) (λx=>b5 [x]) λ_ h=>aJf h
@[simp] theorem aWj:q4.f=194:=rfl
@[simp] theorem aGH{x:Int}(h:x≠0):q4.fn [ad [[ez x]] 1]=some (b5 [x]):=bx.dx (x:=x) h λy Y=>by simpa using Y
noncomputable def acO:bx N:= .cK 194 Int (λx=>x≠0) (λx=>[b5 [x,0]]) (λx=>b5 [x]) λ_ h=>aJe h
@[simp] theorem aWh:acO.f=194:=rfl
@[simp] theorem aWi{x:Int}(h:x≠0):acO.fn [ad [[ez x],[ez 0]] 1]=some (b5 [x]):=bx.dx (x:=x) h λy Y=>by simpa using Y
theorem aJc{x:Int}(B:x≠0):bP N 246 [b5 [x]] (.bool false):=by refine du (c2 (ax:=⟨[q4],[]⟩) akq (by kernel_rfl) (by simp[Rx]) ?_);simp(disch:=omega) [Rx,akp]
noncomputable def FE:bx N:= .cK 246 Int (λx=>x≠0) (λx=>[b5 [x]]) (λ_=> .bool false) λ_ h=>aJc h
@[simp] theorem aV5:FE.f=246:=rfl
@[simp] theorem aGA{x:Int}(h:x≠0):FE.fn [ad [[ez x]] 1]=some (.bool false):=bx.dx (x:=x) h λy Y=>by simpa using Y
theorem aJa{x y:Int}(B:x≠0)(Y:y≠0):bP N 241 [b5 [x],b5 [y]] (E (if x<y then-1 else if x>y then 1 else 0)):=by
 refine du (c2 (ax:=⟨[q4],[]⟩) ako (by kernel_rfl) (by simp[Rw]) ?_);simp(disch:=omega) [Rw,akn];refine eF (ax:=⟨[q4],[]⟩) λbM a1=> ?_;by_cases b6:x<y
 ·simp[Lq,Hu,b6]
 by_cases cR:x>y
 ·simp[Lq,Hu,b6,cR]
 simp[Lq,Hu,b6,cR];refine a1 _ _ (eF (ax:=⟨[q4],[]⟩) λbM a1=> ?_);simp[Lq,Hu,Hu,b6,cR]
noncomputable def Iz:bx N:= .cK 241 (Int×Int) (λx=>x.1≠0/\x.2≠0) (λx=>[b5 [x.1],b5 [x.2]]) (λx=>E (if x.1<x.2 then-1 else if x.1>x.2 then 1 else 0)) λ_ h=>aJa h.1 h.2
@[simp] theorem aV0:Iz.f=241:=rfl
@[simp] theorem aV1{x y:Int}(h:x≠0/\y≠0):Iz.fn [ad [[ez x]] 1,ad [[ez y]] 1]=some (E (if x<y then-1 else if x>y then 1 else 0)):=bx.dx (x:=(x,y)) h λ⟨a,b⟩ Y=>by simpa using Y
theorem UC:bP N 168 [.int .u64 0] kH:=gV (by kernel_rfl)
theorem aJd{x:Int}(A:0<x)(D:x<4294967296):bP N 168 [.int .u64 x] (b5 [x]):=by
 have B:x≠0:=by omega
 have ct:IntKind.u32.wrap x=x:=adq (by omega) (by omega);have aD:x.fdiv 4294967296=0:=by rw[Int.fdiv_eq_ediv_of_nonneg _ (by decide)];omega
 refine du (c2 (ax:=⟨[acO],[]⟩) aja (by kernel_rfl) (by simp[QX]) ?_);simp(disch:=first|omega|simp only[DI.aK];omega) [QX,ai9,ct,aD,Br,yX]
noncomputable def acL:bx N:= .cK 168 Int (λx=>0<x/\x<4294967296) (λx=>[.int .u64 x]) (λx=>b5 [x]) λ_ h=>aJd h.1 h.2
@[simp] theorem aV8:acL.f=168:=rfl
@[simp] theorem aV9{x:Int}(h:0<x/\x<4294967296):acL.fn [.int .u64 x]=some (b5 [x]):=bx.dx (x:=x) h λy Y=>by simpa using Y
section
variable {G:Int} (A:2<=G) (D:G<200)
include A D
theorem ad2:bP N 247 [b5 [1],b5 [G]] (.tuple #[kH,b5 [1]]):=by
 have bw:G≠0:=by omega
 have c:(1:Int)<G:=by omega
 have dY:(1:Int)≠0:=by decide
 refine du (c2 (ax:=⟨[Iz,q4],[]⟩) Yy (by kernel_rfl) (by simp[Hv]) ?_);simp(disch:=omega) [Hv,Yx,c]
theorem aqQ:bP N 247 [b5 [G],b5 [1]] (.tuple #[b5 [G],kH]):=by
 have bw:G≠0:=by omega
 have c: ¬G<1:=by omega
 have cR:G>1:=by omega
 have lz:(1:Int)<G:=by omega
 have dY:(1:Int)≠0:=by decide
 have ct:IntKind.u64.wrap G=G:=ads (by omega) (by omega);have dW:IntKind.u32.wrap G=G:=adq (by omega) (by omega);have kn:max (G%2^IntKind.u64.bits) 0=G:=by show max (G%18446744073709551616) 0=G;omega
 have aD:G.tdiv 1=G:=by simp
 have aJ:G.tmod 1=0:=by simp
 have eA:=jU UC;refine du (c2 (ax:=⟨[Iz,q4,dA UC],[]⟩) Yy (by kernel_rfl) (by simp[Hv]) ?_);simp(disch:=first|omega|simp only[DI.aK];omega) [Hv,Yx,akr,c,cR,-an,-au,-ak,-aq,-List.map_map];refine eF (ax:=⟨[Iz,q4,dA UC],[]⟩) λbM a1=> ?_;simp(disch:=first|omega|simp only[DI.aK];omega) [YA,ct,dW,kn,aD,aJ,-an,-au,-ak,-aq,-List.map_map];refine a1 _ _ (eF (ax:=⟨[Iz,q4,dA UC],[]⟩) λbM a1=> ?_);simp(disch:=first|omega|simp only[DI.aK];omega) [YA,Yz,Yz,eA,Br,yX,-an,-au,-ak,-aq,-List.map_map]
theorem aJb:([b5 [1],b5 [G]]:List Value)≠[b5 [G],b5 [1]]:= λh=>by simp at h;omega
noncomputable def FD:bx N:=tP (dA (ad2 A D)) (dA (aqQ A D)) rfl
@[simp] theorem aV2:(FD A D).f=247:=rfl
theorem aGv:(FD A D).fn [ad [[ez 1]] 1,ad [[ez G]] 1]=some (.tuple #[kH,b5 [1]]):=AK (jU (ad2 A D))
theorem aGw:(FD A D).fn [ad [[ez G]] 1,ad [[ez 1]] 1]=some (.tuple #[b5 [G],kH]):=y3 (y2 (ad2 A D) (aJb A D)) (jU (aqQ A D))
theorem aqR:bP N 213 [b5 [1],b5 [G]] (.tuple #[b5 [1],E 0]):=by
 have bw:G≠0:=by omega
 have dY:(1:Int)≠0:=by decide
 have fW:=aGv A D;have gI:=aGw A D;refine du (c2 (ax:=⟨[FE,q4,FD A D],[]⟩) ajN (by kernel_rfl) (by simp[Ri]) ?_);simp(disch:=omega) [Ri,ajM];refine eF (ax:=⟨[FE,q4,FD A D],[]⟩) λbM a1=> ?_;simp[Rj,Ll,fW];refine a1 _ _ (eF (ax:=⟨[FE,q4,FD A D],[]⟩) λbM a1=> ?_);simp[Rj,Ll,gI];refine a1 _ _ (eF (ax:=⟨[FE,q4,FD A D],[]⟩) λbM a1=> ?_);simp[Rj,Ll,Ll]
noncomputable def acK:bx N:=dA (aqR A D)
@[simp] theorem aV3:(acK A D).f=213:=rfl
@[simp] theorem aV4:(acK A D).fn [ad [[ez 1]] 1,ad [[ez G]] 1]=some (.tuple #[b5 [1],E 0]):=jU (aqR A D)
theorem aqT:bP N 167 [.bool false,b5 [1],b5 [G]] (dL ⟨false,[1],[G]⟩):=by
 have bw:G≠0:=by omega
 have dY:(1:Int)≠0:=by decide
 refine du (c2 (ax:=⟨[acK A D,q4],[]⟩) ai8 (by kernel_rfl) (by simp[QW]) ?_);simp(disch:=first|omega|simp only[DI.aK];omega) [QW,ai7,dY,ew,-an,-au,-ak,-aq,-List.map_map]
theorem aq0:bP N 138 [dL ⟨false,[1],[G]⟩] (.bool true):=by
 have bw:G≠0:=by omega
 have dY:(1:Int)≠0:=by decide
 refine du (c2 (ax:=⟨[q4],[]⟩) ai1 (by kernel_rfl) (by simp[QS]) ?_);simp(disch:=first|omega|simp only[DI.aK];omega) [QS,ai0,ew]
noncomputable def acP:bx N:=dA (aq0 A D)
@[simp] theorem aWk:(acP A D).f=138:=rfl
@[simp] theorem aWl:(acP A D).fn [.agg #[.bool false,ad [[ez 1]] 1,ad [[ez G]] 1]]=some (.bool true):=jU (aq0 A D)
noncomputable def T2:bx N:=dA (aqT A D)
@[simp] theorem aV6:(T2 A D).f=167:=rfl
@[simp] theorem aV7:(T2 A D).fn [.bool false,ad [[ez 1]] 1,ad [[ez G]] 1]=some (dL ⟨false,[1],[G]⟩):=jU (aqT A D)
theorem aqV:bP N 196 [dL ⟨false,[1],[G]⟩] (.tuple #[dL ⟨false,[1],[G]⟩,E 0]):=by refine du (c2 (ax:=⟨[acP A D,T2 A D],[]⟩) ajJ (by kernel_rfl) (by simp[Rc]) ?_);simp[Rc,ajI,ew]
noncomputable def acN:bx N:=dA (aqV A D)
@[simp] theorem aWc:(acN A D).f=196:=rfl
@[simp] theorem aWd:(acN A D).fn [.agg #[.bool false,ad [[ez 1]] 1,ad [[ez G]] 1]]=some (.tuple #[dL ⟨false,[1],[G]⟩,E 0]):=jU (aqV A D)
theorem Oe:bP N 140 [dL ⟨false,[1],[G]⟩] (.bool true):=by refine du (c2 (ax:=⟨[acN A D],[]⟩) ai5 (by kernel_rfl) (by simp[QU]) ?_);simp[QU,ai4,ew]
theorem aqX:bP N 169 [E G] (.int .u64 G):=by
 have ct:IntKind.u64.wrap G=G:=ads (by omega) (by omega);have c: ¬G<0:=by omega
 refine du (c2 (ax:=⟨[],[]⟩) ajc (by kernel_rfl) (by simp[QY]) ?_);simp[QY,ajb,ct,c]
omit A D in
theorem ad7:bP N 169 [E 1] (.int .u64 1):=gV (by kernel_rfl)
noncomputable def T3:bx N:=tP (dA ad7) (dA (aqX A D)) rfl
@[simp] theorem aWg:(T3 A D).f=169:=rfl
@[simp] theorem aWe:(T3 A D).fn [E 1]=some (.int .u64 1):=AK (jU ad7)
@[simp] theorem aWf:(T3 A D).fn [E G]=some (.int .u64 G):=y3 (y2 ad7 (by simp;omega)) (jU (aqX A D))
theorem aqU:bP N 107 [E 1,E G] (.tuple #[dL ⟨false,[1],[G]⟩,E 0]):=by
 have bw:G≠0:=by omega
 have c: ¬G<0:=by omega
 have bK:(0:Int)<1/\(1:Int)<4294967296:=by decide
 have cz:0<G/\G<4294967296:=by omega
 refine du (c2 (ax:=⟨[T3 A D,acL,T2 A D],[]⟩) aih (by kernel_rfl) (by simp[Qn]) ?_);simp(disch:=first|omega|simp only[DI.aK];omega) [Qn,aif,bw,c,ew]
noncomputable def acM:bx N:=dA (aqU A D)
@[simp] theorem aWa:(acM A D).f=107:=rfl
@[simp] theorem aWb:(acM A D).fn [E 1,E G]=some (.tuple #[dL ⟨false,[1],[G]⟩,E 0]):=jU (aqU A D)
theorem aum:bP N 59 [E 1,E G] (dL ⟨false,[1],[G]⟩):=by refine du (c2 (ax:=⟨[acM A D],[]⟩) alb (by kernel_rfl) (by simp[RS]) ?_);simp[RS,ala,ew]
end
end Go.Proofs.YtmmkkggfmigppaaGreat
