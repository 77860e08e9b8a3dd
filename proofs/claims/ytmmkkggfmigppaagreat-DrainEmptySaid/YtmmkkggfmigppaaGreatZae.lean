/-
  A part of the proof of the statement, in texts that tools of ours (wip/shrink.py, irpack.py, relax.py, minify.py, join.py, lay.py) have shortened.
-/
import Derived.Test.YtmmkkggfmigppaaGreatZad
set_option linter.all false
set_option maxRecDepth 8000
set_option maxHeartbeats 16000000
namespace Go.DI
open Go
def rr(s:ByteArray)(i:Nat):Int:=((s.data.toList.getD i 0).toNat:Nat)
def adt(fB:jU)(m:W)(x k:Value):Bool:=match jM m x with
  |some a9=>nA fB k a9
  |none=>false
def adu(zero:Value)(o:Bool)(m:W)(x k:Value):Value:=
  if o then .tuple #[((jM m x).bind (iF k)).getD zero,.bool ((jM m x).bind (iF k)).isSome]else((jM m x).bind (iF k)).getD zero
def adC(fB:jU)(m:W)(x k v:Value):Bool:=match x with
  | .map (some b)=>(match m.eJ b with
    |some a9=>nA fB k a9&&S v
    |none=>false)
  |_=>false
def adB(m:W)(x k v:Value):W:=m.gH (um x) (k4 k v ((m.eJ (um x)).getD []))
@[simp] theorem aGI{fB:jU}{m:W}{b:Nat}{k:Value}:adt fB m (.map (some b)) k=(match m.eJ b with|some a9=>nA fB k a9|none=>false):=rfl
@[simp] theorem aGJ{J:Value}{o:Bool}{m:W}{b:Nat}{k:Value}:adu J o m (.map (some b)) k=if o then .tuple #[((m.eJ b).bind (iF k)).getD J,.bool ((m.eJ b).bind (iF k)).isSome]else((m.eJ b).bind (iF k)).getD J:=rfl
@[simp] theorem aGL{fB:jU}{m:W}{b:Nat}{k v:Value}:adC fB m (.map (some b)) k v=(match m.eJ b with|some a9=>nA fB k a9&&S v|none=>false):=rfl
@[simp] theorem aGK{m:W}{b:Nat}{k v:Value}:adB m (.map (some b)) k v=m.gH b (k4 k v ((m.eJ b).getD [])):=rfl
attribute [simp] T7 T4 T6 T5 Nu Nt H9 TJ ayK ayL agX A7 agY ade au9 ava awP awQ
  T9 Nw T8 D5 ahh
section
variable {P:Program} {base aN:Nat} {d:Option Nat} {bV:List bn} {z:aP} {m:W} {aW:aP->W->Prop} {a5:List (Operand×Operand)}
@[simp] theorem aM9(x:Operand):g7 P base (⟨aN,d,none,.m2 x,a5⟩::bV) z m aW=(o9 z a5=true/\g7 P base bV (c1 z d (X z x)) (m) aW):=by rw[uO rfl];simp only[ad.ok,true_and];try rfl
@[simp] theorem aNa(c a b:Operand):g7 P base (⟨aN,d,none,.oL c a b,a5⟩::bV) z m aW=(rT (X z c)=true/\o9 z a5=true/\g7 P base bV (c1 z d (if tI (X z c)=true then X z a else X z b)) (m) aW):=by rw[uO rfl];rfl
@[simp] theorem aM6(J n:Nat)(cs:List Value)(ps:List (Nat×Nat×Operand)):g7 P base (⟨aN,d,none,.fI J n cs ps,a5⟩::bV) z m aW=(pt cs z ps=true/\o9 z a5=true/\g7 P base bV (c1 z d (.slice (some ⟨base+aN,0,none⟩) n J)) (m.a4 (base+aN) (some ⟨lv cs z ps,true⟩)) aW):=by rw[uO rfl];rfl
@[simp] theorem aM5(op:BinOp)(c:sj)(x y:Operand):g7 P base (⟨aN,d,none,.eX op c x y,a5⟩::bV) z m aW=(qD op c (X z x) (X z y)=true/\o9 z a5=true/\g7 P base bV (c1 z d (kA op (X z x) (X z y))) (m) aW):=by rw[uO rfl];rfl
@[simp] theorem aNb(op:UnOp)(x:Operand):g7 P base (⟨aN,d,none,.qn op x,a5⟩::bV) z m aW=(wq op (X z x)=true/\o9 z a5=true/\g7 P base bV (c1 z d (AM op (X z x))) (m) aW):=by rw[uO rfl];rfl
@[simp] theorem aM7(x i:Operand):g7 P base (⟨aN,d,none,.sM x i,a5⟩::bV) z m aW=((kF (X z x)&&eV (X z i)&&decide (0<=eR (X z i))&&decide (eR (X z i)<hY (X z x)))=true/\o9 z a5=true/\g7 P base bV (c1 z d (.int .u8 (rr (pO (X z x)) (eR (X z i)).toNat))) (m) aW):=by rw[uO rfl];rfl
@[simp] theorem aM8(x:Operand):g7 P base (⟨aN,d,none,.rX x,a5⟩::bV) z m aW=(kF (X z x)=true/\o9 z a5=true/\g7 P base bV (c1 z d (.int .i64 (hY (X z x)))) (m) aW):=by rw[uO rfl];rfl
@[simp] theorem aM4(J bytes:Nat)(x y:Operand):g7 P base (⟨aN,d,none,.app J bytes x y,a5⟩::bV) z m aW=((ad.app J bytes x y).ok z m=true/\o9 z a5=true/\g7 P base bV (c1 z d ((ad.app J bytes x y).val (base+aN) z m)) ((ad.app J bytes x y).gu (base+aN) z m) aW):=by rw[uO rfl];try rfl
@[simp] theorem aEX{t aT:TypeId}{v:Value}:E8 t (.iface aT v)=decide (aT=t):=rfl
@[simp] theorem aEY{t:TypeId}{v:Value}:Xm (.iface t v)=v:=rfl
@[simp] theorem aDF{t:Nat}:X z (.tmp t)=z t:=rfl
@[simp] theorem aDD{v:Value}:X z (.const v)=v:=rfl
@[simp] theorem aDE{f:Nat}:X z (.func f)= .func (.func f) #[] #[]:=rfl
@[simp] theorem aHN{t:Nat}{v:Value}:c1 z (some t) v=pE z t v:=rfl
@[simp] theorem aHM{v:Value}:c1 z none v=z:=rfl
@[simp] theorem ayY{t bp:Nat}{v:Value}:pE z t v bp=if bp=t then v else z bp:=rfl
@[simp] theorem aE0{gE:Value}{l:List Value}:ja (gE::l) 0=gE:=rfl
@[simp] theorem aE1{gE bw:Value}{l:List Value}:ja (gE::bw::l) 1=bw:=rfl
@[simp] theorem aE2{gE bw bJ:Value}{l:List Value}:ja (gE::bw::bJ::l) 2=bJ:=rfl
@[simp] theorem aE3{gE bw bJ cc:Value}{l:List Value}:ja (gE::bw::bJ::cc::l) 3=cc:=rfl
@[simp] theorem aE4{gE bw bJ cc eI:Value}{l:List Value}:ja (gE::bw::bJ::cc::eI::l) 4=eI:=rfl
@[simp] theorem aE5{gE bw bJ cc eI fp:Value}{l:List Value}:ja (gE::bw::bJ::cc::eI::fp::l) 5=fp:=rfl
@[simp] theorem aE6{gE bw bJ cc eI fp hv:Value}{l:List Value}:ja (gE::bw::bJ::cc::eI::fp::hv::l) 6=hv:=rfl
@[simp] theorem aE7{gE bw bJ cc eI fp hv jx:Value}{l:List Value}:ja (gE::bw::bJ::cc::eI::fp::hv::jx::l) 7=jx:=rfl
def TW(v:Value)(b:Bool):Bool:=match v with| .bool c=>c==b|_=>false
@[simp] theorem aMX{c b:Bool}:TW (.bool c) b=(c==b):=rfl
@[simp] theorem aMY{b:Bool}:TW undef b=false:=rfl
@[simp] theorem aMZ{t:Nat}{b:Bool}:eH z (some (t,b))=TW (z t) b:=rfl
@[simp] theorem aIp{r:kU}:lb m z [r]=pw m z r:=rfl
@[simp] theorem aIo:lb m z []= .tuple #[]:=rfl
@[simp] theorem aIq{r s:kU}{l:List kU}:lb m z (r::s::l)= .tuple ((r::s::l).map (pw m z)).toArray:=rfl
@[simp] theorem aIl{t:Nat}:pw m z (.bG t)=z t:=rfl
@[simp] theorem aIk{t n:Nat}{dc:Bool}:pw m z (.hL t dc n)=j4 m dc n (z t):=rfl
@[simp] theorem aIn{l:List kU}:kK m z l=l.all (oN m z):=rfl
@[simp] theorem aIj{t:Nat}:oN m z (.bG t)=true:=rfl
@[simp] theorem aIi{t n:Nat}{dc:Bool}:oN m z (.hL t dc n)=(gk m (z t) n&&(dc||decide (n=1))):=rfl
@[simp] theorem aIh{l:List bn}:gQ l m=if l.any (λo=>o.k.eU)=true then m.du l.length else m:=by unfold gQ;rfl
end
attribute [simp] tI rT eR eV pO O gx N U zR qe vX DT kF AK Dn Jj Ej rS gG m7 nC nB zT byteOf pt lv
  qD kA BF J0 yi HY sv nP pl AM wq oi wT lE hU
attribute [simp] nA nv iF k4 S
@[simp] theorem aFB:ad.m0.eU=true:=rfl
@[simp] theorem aE8(a:List Value):(ad.dm a).eU=true:=rfl
@[simp] theorem aFc(a:Operand):(ad.lQ a).eU=true:=rfl
@[simp] theorem aFd(a b:Nat)(c:List Value)(d:List (Nat×Nat×Operand)):(ad.fI a b c d).eU=true:=rfl
@[simp] theorem aFm(a:Operand):(ad.nm a).eU=true:=rfl
@[simp] theorem aFC(a b:Nat)(c:List Value)(d e:Operand):(ad.jq a b c d e).eU=true:=rfl
@[simp] theorem aFa(a b:Nat)(c:List Value)(d e:Operand):(ad.me a b c d e).eU=true:=rfl
@[simp] theorem aE9(a b:Nat)(c d:Operand):(ad.app a b c d).eU=true:=rfl
@[simp] theorem aFh(a:Operand):(ad.wR a).eU=false:=rfl
@[simp] theorem aFi(a:List Value)(b:Operand):(ad.hg a b).eU=false:=rfl
@[simp] theorem aFD(a:jU)(b:Value)(c:Bool)(d e:Operand):(ad.m1 a b c d e).eU=false:=rfl
@[simp] theorem aFF(a:jU)(b c d:Operand):(ad.lJ a b c d).eU=false:=rfl
@[simp] theorem aFI(a b:Nat)(c:Operand):(ad.oR a b c).eU=false:=rfl
@[simp] theorem aFJ(a:Nat)(b:Operand)(c:Option Operand)(d e:Operand):(ad.uJ a b c d e).eU=false:=rfl
@[simp] theorem aFA(a:TypeId)(b:Operand):(ad.xT a b).eU=false:=rfl
@[simp] theorem aFN(a:TypeId)(b:Operand):(ad.Dm a b).eU=false:=rfl
@[simp] theorem aFt(a:List (TypeId×Nat×Option (Bool×Nat)))(b:Operand)(c:List Operand):(ad.kn a b c).eU=false:=rfl
@[simp] theorem aFE(a:Operand):(ad.m2 a).eU=false:=rfl
@[simp] theorem aFH(a b c:Operand):(ad.oL a b c).eU=false:=rfl
@[simp] theorem aFG(a:Operand):(ad.s8 a).eU=false:=rfl
@[simp] theorem aFe(a:List Value)(b:List (Nat×Nat×Operand)):(ad.eT a b).eU=false:=rfl
@[simp] theorem aFx(a:Bool)(b:Nat)(c:Operand):(ad.kp a b c).eU=false:=rfl
@[simp] theorem aFM(a:Nat)(b c:Operand):(ad.store a b c).eU=false:=rfl
@[simp] theorem aFb(a:BinOp)(b:sj)(c d:Operand):(ad.eX a b c d).eU=false:=rfl
@[simp] theorem aFn(a:Bool)(b:List oZ)(c d:Operand):(ad.vf a b c d).eU=false:=rfl
@[simp] theorem aFO(a:UnOp)(b:Operand):(ad.qn a b).eU=false:=rfl
@[simp] theorem aFk(a:IntKind)(b:Operand):(ad.ru a b).eU=false:=rfl
@[simp] theorem aFl(a:Operand):(ad.Bd a).eU=false:=rfl
@[simp] theorem aFj(a:Operand):(ad.mg a).eU=false:=rfl
@[simp] theorem aFL(a:Operand)(b c:Option Operand):(ad.AH a b c).eU=false:=rfl
@[simp] theorem aFK(a:Nat)(b:Operand)(c d:Option Operand):(ad.nb a b c d).eU=false:=rfl
@[simp] theorem aFp(a:Nat)(b:Operand):(ad.rB a b).eU=false:=rfl
@[simp] theorem aFq(a:Bool)(b c:Nat)(d:Operand):(ad.field a b c d).eU=false:=rfl
@[simp] theorem aFr(a:Nat)(b c:Operand):(ad.p3 a b c).eU=false:=rfl
@[simp] theorem aFs(a b:Nat)(c d:Operand):(ad.oz a b c d).eU=false:=rfl
@[simp] theorem aFu(a b:Operand):(ad.sM a b).eU=false:=rfl
@[simp] theorem aFo(a:Nat)(b:Operand):(ad.ext a b).eU=false:=rfl
@[simp] theorem aFv(a:Operand):(ad.rX a).eU=false:=rfl
@[simp] theorem aFw(a:Operand):(ad.rY a).eU=false:=rfl
@[simp] theorem aFy(a:Bool)(b:Operand)(c:List Operand):(ad.oF a b c).eU=false:=rfl
@[simp] theorem aFz(a:Fn)(b c:List Operand):(ad.s3 a b c).eU=false:=rfl
@[simp] theorem aFf(a:Nat)(b:List Operand):(ad.dA a b).eU=false:=rfl
@[simp] theorem aFg(a:Operand)(b:List Operand):(ad.iw a b).eU=false:=rfl
abbrev F(n:Nat):Operand:= .tmp n
abbrev A(i d x:Nat):bn:=⟨i,some d,none,.m2 (.tmp x),[]⟩
abbrev a6(i d:Nat)(n:Int):bn:=⟨i,some d,none,.m2 (.const (.int .i64 n)),[]⟩
abbrev ch(i d:Nat)(b:Bool):bn:=⟨i,some d,none,.m2 (.const (.bool b)),[]⟩
abbrev av(i d x:Nat):bn:=⟨i,some d,none,.kp false 1 (.tmp x),[]⟩
abbrev bZ(i d n x:Nat):bn:=⟨i,some d,none,.kp true n (.tmp x),[]⟩
abbrev aH(i d n x:Nat):bn:=⟨i,some d,none,.rB n (.tmp x),[]⟩
abbrev c3(i d:Nat)(op:BinOp)(x y:Operand):bn:=⟨i,some d,none,.eX op .fR x y,[]⟩
abbrev bo(i d J x y:Nat):bn:=⟨i,some d,none,.p3 J (.tmp x) (.tmp y),[]⟩
abbrev bC(i d x:Nat):bn:=⟨i,some d,none,.rY (.tmp x),[]⟩
abbrev cw(i d n x:Nat):bn:=⟨i,some d,none,.ext n (.tmp x),[]⟩
abbrev b6(i d f:Nat)(bQ:List Operand):bn:=⟨i,some d,none,.dA f bQ,[]⟩
abbrev b0(i n x y:Nat):bn:=⟨i,none,none,.store n (.tmp x) (.tmp y),[]⟩
abbrev a1(i d:Nat)(k:ad):bn:=⟨i,some d,none,k,[]⟩
abbrev cq(i d j:Nat)(b:Bool)(k:ad):bn:=⟨i,some d,some (j,b),k,[]⟩
abbrev j2(i d:Nat)(k:ad)(a5:List (Operand×Operand)):bn:=⟨i,some d,none,k,a5⟩
abbrev p4(i:Nat)(k:ad):bn:=⟨i,none,none,k,[]⟩
abbrev cJ(cl cf cH dC:Nat):bn:=a1 cl cf (.oL (F cH) (.const (.bool true)) (F dC))
abbrev cO(cl cf cH:Nat):bn:=c3 cl cf .add (F cH) (.const (.int .i64 1))
abbrev c6(cl cf cH dC:Nat):bn:=c3 cl cf .lss (F cH) (F dC)
abbrev dd(cl cf cH dC:Nat):bn:=a1 cl cf (.oL (F cH) (F dC) (.const (.bool false)))
abbrev dg(cl cf cH dC gh:Nat):bn:=b6 cl cf cH [F dC,F gh]
abbrev di(cl cf cH dC:Nat):bn:=cq cl cf cH false (.m2 (F dC))
abbrev dI(cl cf cH:Nat):bn:=a1 cl cf (.lQ (F cH))
abbrev dJ(cl cf cH gh:Nat):bn:=cq cl cf cH false (.kp false 1 (F gh))
abbrev eb(cl cf cH dC gh:Nat):bn:=cq cl cf cH false (.rB dC (F gh))
abbrev ec(cl cf cH dC gh:Nat):bn:=cq cl cf cH true (.rB dC (F gh))
abbrev eo(cl cf cH gh:Nat):bn:=cq cl cf cH true (.kp false 1 (F gh))
abbrev ep(cl cf cH dC:Nat):bn:=cq cl cf cH true (.m2 (F dC))
abbrev eL(cl cf:Nat):bn:=a1 cl cf (.m2 (.const (.slice none 0 0)))
abbrev gy(cl cf cH dC:Nat):bn:=c3 cl cf .add (F cH) (F dC)
abbrev g2(cl cf cH:Nat):bn:=a1 cl cf (.qn .not (F cH))
abbrev hM(cl cf cH dC:Nat):bn:=cq cl cf cH false (.rY (F dC))
abbrev h3(cl:Nat)(cf:Nat)(cH:Nat)(dC:Int):bn:=c3 cl cf .sub (F cH) (.const (.int .i64 dC))
abbrev ih(cl cf cH dC:Nat):bn:=cq cl cf cH false (.qn .not (F dC))
abbrev iA(cl cf cH:Nat):bn:=a1 cl cf (.s8 (F cH))
abbrev iN(cl cf cH dC gh oV:Nat):bn:=a1 cl cf (.app cH dC (F gh) (F oV))
abbrev jc(cl cf cH dC gh:Nat):bn:=cq cl cf cH true (.kp true dC (F gh))
abbrev jd(cl cf cH:Nat):bn:=a1 cl cf (.ru .u64 (F cH))
abbrev jn(cl:Nat)(cf:Nat)(cH:Nat)(dC:Int):bn:=c3 cl cf .eql (F cH) (.const (.int .i64 dC))
abbrev jo(cl cf cH dC gh:Nat):bn:=cq cl cf cH false (.dA dC [F gh])
abbrev ko(cl:Nat)(cf:Nat)(cH:Nat)(dC:Int):bn:=c3 cl cf .gtr (F cH) (.const (.int .i64 dC))
abbrev kG(cl:Nat)(cf:Nat)(cH:Nat)(dC:Nat)(gh:Int):bn:=b6 cl cf cH [F dC,.const (.int .i64 gh)]
abbrev kH(cl:Nat)(cf:Nat)(cH:Int)(dC:Nat):bn:=c3 cl cf .add (.const (.int .i64 cH)) (F dC)
abbrev k2(cl cf cH dC gh:Nat):bn:=cq cl cf cH false (.kp true dC (F gh))
abbrev lp(cl:Nat)(cf:Nat)(cH:Nat)(dC:Int):bn:=c3 cl cf .lss (F cH) (.const (.int .i64 dC))
abbrev lq(cl cf cH dC:Nat):bn:=cq cl cf cH true (.rY (F dC))
abbrev l3(cl cf cH dC gh:Nat):bn:=cq cl cf cH true (.dA dC [F gh])
abbrev l4(cl:Nat)(cf:Nat)(cH:Nat)(dC:Nat)(gh:Int):bn:=cq cl cf cH false (.eX .gtr .fR (F dC) (.const (.int .i64 gh)))
abbrev nw(cl:Nat)(cf:Nat)(cH:Nat)(dC:Int):bn:=c3 cl cf .geq (F cH) (.const (.int .i64 dC))
abbrev nx(cl cf cH dC gh oV:Nat):bn:=cq cl cf cH true (.p3 dC (F gh) (F oV))
abbrev ny(cl:Nat)(cf:Nat)(cH:Nat)(dC:Nat)(gh:Int):bn:=cq cl cf cH true (.eX .leq .fR (F dC) (.const (.int .i64 gh)))
abbrev nz(cl cf cH:Nat):bn:=a1 cl cf (.ru .u32 (F cH))
abbrev nX(cl cf dC gh:Nat):bn:=a1 cl cf (.nb 1 (F dC) none (some (F gh)))
abbrev oC(cl cf cH dC gh oV:Nat):bn:=cq cl cf cH false (.p3 dC (F gh) (F oV))
abbrev qY(cl cf cH dC:Nat):bn:=cq cl cf cH true (.eX .sub .fR (F dC) (.const (.int .i64 1)))
abbrev rU(cl cf NB:Nat):bn:=a1 cl cf (.fI 1 1 [.int .i64 0] [(0,1,F NB)])
abbrev rV(cl:Nat)(cf:Nat)(cH:Nat)(dC:Nat)(gh:Int):bn:=cq cl cf cH true (.eX .eql .fR (F dC) (.const (.int .i64 gh)))
abbrev rW(cl cf cH dC:Nat):bn:=cq cl cf cH true (.qn .not (F dC))
abbrev sS(cl cf cH dC gh:Nat):bn:=cq cl cf cH false (.eX .neq .fR (F dC) (F gh))
abbrev sT(cl cf cH dC gh oV qq:Nat):bn:=j2 cl cf (.dA cH [F dC,F gh]) [(F oV,F qq)]
abbrev sU(cl cf cH:Nat):bn:=c3 cl cf .neq (F cH) (.const (.int .i64 0))
abbrev ue(cl cf cH dC gh:Nat):bn:=cq cl cf cH false (.eX .geq .fR (F dC) (F gh))
abbrev uf(cl:Nat)(cf:Nat)(cH:Int):bn:=a1 cl cf (.m2 (.const (.int .u64 cH)))
abbrev ug(cl cf cH dC gh qq:Nat):bn:=cq cl cf cH true (.dA dC [F gh,.const (.int .i64 0),F qq])
abbrev vI(cl cf Nz:Nat):bn:=a1 cl cf (.fI 3 1 [.bool false,.slice none 0 0,.slice none 0 0] [(0,3,F Nz)])
abbrev vJ(cl:Nat)(cf:Nat)(cH:Nat)(dC:Int)(gh:Int):bn:=b6 cl cf cH [.const (.int .i64 dC),.const (.int .i64 gh)]
abbrev vK(cl cf cH dC gh oV qq NB afH:Nat):bn:=j2 cl cf (.dA cH [F dC,F gh]) [(F oV,F qq),(F NB,F afH)]
abbrev vL(cl cf oV qq:Nat):bn:=a1 cl cf (.jq 1 4 [.int .u32 0] (F oV) (F qq))
abbrev xL(cl cf cH dC:Nat):bn:=cq cl cf cH false (.eX .lss .fR (F dC) (.const (.int .i64 0)))
abbrev xM(cl cf cH dC:Nat):bn:=a1 cl cf (.p3 cH (F dC) (.const (.int .i64 0)))
abbrev xN(cl cf qq:Nat):bn:=a1 cl cf (.fI 1 1 [.string ⟨#[]⟩] [(0,1,F qq)])
abbrev xO(cl:Nat)(cf:Nat)(cH:Nat)(dC:Int):bn:=c3 cl cf .shr (F cH) (.const (.int .u64 dC))
abbrev zV(cl cf cH dC:Nat):bn:=cq cl cf cH false (.eX .eql .fR (F dC) (.const (.int .i64 0)))
abbrev zW(cl:Nat)(cf:Nat)(cH:Nat)(dC:Nat)(gh:Nat)(qq:Int):bn:=cq cl cf cH true (.dA dC [F gh,.const (.int .i64 1),.const (.int .i64 qq)])
abbrev zX(cl:Nat)(cf:Nat)(cH:Nat)(dC:Nat)(gh:Int)(oV:Int):bn:=b6 cl cf cH [F dC,.const (.int .i64 gh),.const (.int .i64 oV)]
abbrev zY(cl cf gh oV:Nat):bn:=a1 cl cf (.jq 1 1 [.bool false] (F gh) (F oV))
abbrev zZ(cl:Nat)(cf:Nat)(cH:Nat)(dC:Nat)(gh:Int):bn:=cq cl cf cH true (.eX .leq .fR (F dC) (.const (.int .u8 gh)))
abbrev CF(cl:Nat)(cf:Nat)(afF:UInt8)(NA:Int)(afG:Int)(azx:Nat):bn:=a1 cl cf (.eT [.string ⟨#[]⟩,.int .i64 0,.int .i64 0,.int .i64 0,.bool false,.slice none 0 0,.slice none 0 0] [(0,1,.const (.string ⟨#[afF]⟩)),(1,1,.const (.int .i64 NA)),(2,1,.const (.int .i64 afG)),(3,1,.const (.int .i64 1)),(4,3,F azx)])
abbrev CG(cl cf cH dC:Nat):bn:=cq cl cf cH false (.eX .neq .fR (F dC) (.const (.int .i64 0)))
abbrev CH(cl cf Nz:Nat):bn:=a1 cl cf (.fI 4 1 [.int .i64 0,.int .i64 0,.int .i64 0,.int .i64 0] [(0,4,F Nz)])
abbrev GX(cl cf cH dC:Nat):bn:=cq cl cf cH true (.eX .gtr .fR (F dC) (.const (.int .i64 0)))
abbrev L0(cl:Nat)(cf:Nat)(qq:UInt8)(afI:Int):bn:=a1 cl cf (.eT [.string ⟨#[]⟩,.int .i64 0,.int .i64 0] [(0,1,.const (.string ⟨#[qq]⟩)),(2,1,.const (.int .i64 afI))])
abbrev L1(cl:Nat)(cf:Nat)(gh:Int):bn:=j2 cl cf (.dA 59 [.const (.int .i64 1),.const (.int .i64 gh)]) [(F 1,F 1),(F 1,F 1),(F 1,F 1),(F 1,F 1),(F 1,F 1),(F 1,F 1),(F 1,F 1),(F 1,F 1),(F 1,F 1),(F 1,F 1)]
abbrev RN(cl cf azy:Nat):bn:=a1 cl cf (.fI 17 1 [.string ⟨#[]⟩,.int .i64 0,.int .i64 0,.int .i64 0,.int .i64 0,.int .i64 0,.int .i64 0,.int .i64 0,.int .i64 0,.slice none 0 0,.slice none 0 0,.bool false,.slice none 0 0,.slice none 0 0,.bool false,.slice none 0 0,.slice none 0 0] [(0,17,F azy)])
abbrev RO(cl cf NA:Nat):bn:=a1 cl cf (.eT [.string ⟨#[]⟩,.int .i64 0,.int .i64 0,.int .i64 0,.bool false,.slice none 0 0,.slice none 0 0] [(2,1,.const (.int .i64 (-1))),(4,3,F NA)])
attribute [simp] cJ cO c6 dd dg di dI dJ eb ec eo ep eL gy g2 hM h3 ih iA iN jc jd jn jo ko kG kH k2 lp lq l3 l4 nw nx ny nz nX oC qY rU rV rW sS sT sU ue uf ug vI vJ vK vL xL xM xN xO zV zW zX zY zZ CF CG CH GX L0 L1 RN RO
attribute [simp] F A a6 ch av bZ aH c3 bo bC cw b6 b0 a1 cq j2 p4
end Go.DI
namespace Go.Proofs.YtmmkkggfmigppaaGreat
open Go Go.DI
def YO:I:= .B (.E [A 0 3 0,nz 1 4 3,A 2 5 0,xO 3 6 5 32,nz 4 7 6,a1 5 8 (.fI 1 2 [.int .u32 0,.int .u32 0] [(0,1,F 4),(1,1,F 7)]),b6 6 9 194 [F 8],A 7 2 9]) (.aG)
def YM:I:=
  .B (
  .E [
 eL 0 2]) YO
def Kg:bS:=⟨10,[.bG 2],YM⟩
theorem YN:b2 al 168=some Kg:=by kernel_rfl
def Kv:I:= .B (.B (.E [A 0 6 3,ko 1 7 6 0,A 2 8 7,ep 3 9 8 0,ep 4 10 8 3,qY 5 11 8 10,nx 6 12 8 1 9 11,eo 7 13 8 12,cq 8 14 8 true (.eX .eql .fR (F 13) (.const (.int .u32 0))),dd 9 15 8 14]) (.aR (F 15) (.skip) (.ba 0))) (.block 1 (.E [A 0 16 3,h3 1 17 16 1,A 2 3 17]))
def B1:I:= .B (.E [A 0 18 0,A 1 19 3,nX 2 20 18 19,a1 3 21 (.app 1 4 (.const (aI)) (F 20)),A 4 2 21]) (.aG)
def QC:I:= .B (.block 0 (.loop Kv)) B1
def QB:I:= .B (.E [A 0 4 0,bC 1 5 4,A 2 3 5]) QC
def Qz:I:=
  .B (
  .E [
 eL 0 2]) QB
def B0:bS:=⟨22,[.bG 2],Qz⟩
theorem QA:b2 al 194=some B0:=by kernel_rfl
def KG:I:= .B (.B (.E [A 0 20 7,bC 1 21 20,ko 2 22 21 0]) (.aR (F 22) (.skip) (.ba 0))) (.block 1 (.B (.E [A 0 24 6,A 1 25 7,dg 2 26 247 24 25,A 3 23 26,cw 4 27 0 23,cw 5 28 1 23,A 6 8 27,A 7 9 28]) (.E [A 0 29 7,A 1 30 9,A 2 6 29,A 3 7 30])))
def Gb:I:= .B (.E [A 0 31 6,A 1 4 31,a6 2 5 0]) (.aG)
def ZR:I:= .B (.block 0 (.loop KG)) Gb
def ZQ:I:= .B (.E [A 0 16 0,b6 1 17 194 [F 16],A 2 18 1,b6 3 19 194 [F 18],A 4 6 17,A 5 7 19]) ZR
def ZP:I:= .B (.B (.E [A 0 10 0,b6 1 11 246 [F 10],A 2 12 11,di 3 13 12 1,jo 4 14 12 246 13,cJ 5 15 12 14]) (.aR (F 15) (.B (.E [eL 0 4,a6 1 5 2]) (.aG)) (.skip))) ZQ
def ZN:I:=
  .B (
  .E [
 eL 0 4,
 a6 1 5 0]) ZP
def KF:bS:=⟨32,[.bG 4,.bG 5],ZN⟩
theorem ZO:b2 al 213=some KF:=by kernel_rfl
def KJ:I:= .B (.block 1 (.E [A 0 22 4,cO 1 23 22,A 2 4 23])) (.E [A 0 20 5,xO 1 21 20 1,A 2 5 21])
def Gc:I:= .B (.B (.E [A 0 18 5,c3 1 19 .gtr (F 18) (.const (.int .u32 0))]) (.aR (F 19) (.skip) (.ba 0))) KJ
def Z2:I:= .B (.E [A 0 24 4,A 1 2 24]) (.aG)
def Z1:I:= .B (.B (.E [A 0 13 0,A 1 14 3,h3 2 15 14 1,bo 3 16 1 13 15,av 4 17 16,A 5 5 17]) (.block 0 (.loop Gc))) Z2
def Z0:I:= .B (.E [A 0 10 3,h3 1 11 10 1,c3 2 12 .mul (F 11) (.const (.int .i64 32)),A 3 4 12]) Z1
def ZZ:I:= .B (.B (.E [A 0 8 3,jn 1 9 8 0]) (.aR (F 9) (.B (.E [a6 0 2 0]) (.aG)) (.skip))) Z0
def ZY:I:= .B (.E [A 0 6 0,b6 1 7 248 [F 6],A 2 3 7]) ZZ
def ZW:I:=
  .B (
  .E [
 a6 0 2 0]) ZY
def KI:bS:=⟨25,[.bG 2],ZW⟩
theorem ZX:b2 al 216=some KI:=by kernel_rfl
def an6:I:= .B (.E [A 0 10 3,A 1 11 3,b6 2 12 248 [F 11],nX 3 13 10 12,A 4 2 13]) (.aG)
def an5:I:= .B (.E [A 0 4 0,nz 1 5 4,A 2 6 0,xO 3 7 6 32,nz 4 8 7,a1 5 9 (.fI 1 2 [.int .u32 0,.int .u32 0] [(0,1,F 5),(1,1,F 8)]),A 6 3 9]) an6
def an3:I:=
  .B (
  .E [
 eL 0 2]) an5
def Z3:bS:=⟨14,[.bG 2],an3⟩
theorem an4:b2 al 217=some Z3:=by kernel_rfl
def B5:I:= .B (.block 2 (.block 3 (.B (.E [A 0 27 0,A 1 28 7,bo 2 29 1 27 28,av 3 30 29,A 4 31 1,A 5 32 7,bo 6 33 1 31 32,av 7 34 33,c6 8 35 30 34,A 9 26 35]) (.aR (F 26) (.B (.E [a6 0 4 (-1)]) (.aG)) (.B (.E [A 0 37 0,A 1 38 7,bo 2 39 1 37 38,av 3 40 39,A 4 41 1,A 5 42 7,bo 6 43 1 41 42,av 7 44 43,c3 8 45 .gtr (F 40) (F 44),A 9 36 45]) (.aR (F 36) (.B (.E [a6 0 4 1]) (.aG)) (.skip))))))) (.E [A 0 24 7,h3 1 25 24 1,A 2 7 25])
def Gd:I:= .B (.B (.E [A 0 22 7,nw 1 23 22 0]) (.aR (F 23) (.skip) (.ba 1))) B5
def B6:I:= .B (.E [a6 0 4 0]) (.aG)
def aak:I:= .B (.B (.E [A 0 20 5,h3 1 21 20 1,A 2 7 21]) (.block 1 (.loop Gd))) B6
def aaj:I:= .B (.block 0 (.B (.E [A 0 13 5,A 1 14 6,c6 2 15 13 14,A 3 12 15]) (.aR (F 12) (.B (.E [a6 0 4 (-1)]) (.aG)) (.B (.E [A 0 17 5,A 1 18 6,c3 2 19 .gtr (F 17) (F 18),A 3 16 19]) (.aR (F 16) (.B (.E [a6 0 4 1]) (.aG)) (.skip)))))) aak
def aai:I:= .B (.E [A 0 8 0,b6 1 9 248 [F 8],A 2 10 1,b6 3 11 248 [F 10],A 4 5 9,A 5 6 11]) aaj
def aag:I:=
  .B (
  .E [
 a6 0 4 0]) aai
def KM:bS:=⟨46,[.bG 4],aag⟩
theorem aah:b2 al 222=some KM:=by kernel_rfl
def aaM:I:= .B (.E [a6 0 4 1]) (.aG)
def Ca:I:= .B (.E [A 0 36 0,A 1 37 5,bo 2 38 1 36 37,av 3 39 38,A 4 40 1,A 5 41 5,bo 6 42 1 40 41,av 7 43 42,c3 8 44 .gtr (F 39) (F 43)]) (.aR (F 44) (.B (.E [a6 0 4 1]) (.aG)) (.skip))
def B9:I:= .B (.block 1 (.B (.B (.E [A 0 27 0,A 1 28 5,bo 2 29 1 27 28,av 3 30 29,A 4 31 1,A 5 32 5,bo 6 33 1 31 32,av 7 34 33,c6 8 35 30 34]) (.aR (F 35) (.B (.E [a6 0 4 (-1)]) (.aG)) (.skip))) Ca)) (.E [A 0 25 5,h3 1 26 25 1,A 2 5 26])
def Gi:I:= .B (.B (.E [A 0 23 5,nw 1 24 23 0]) (.aR (F 24) (.skip) (.ba 0))) B9
def Cb:I:= .B (.E [a6 0 4 0]) (.aG)
def aaN:I:= .B (.B (.E [A 0 20 0,bC 1 21 20,h3 2 22 21 1,A 3 5 22]) (.block 0 (.loop Gi))) Cb
def aaL:I:= .B (.B (.E [A 0 10 0,bC 1 11 10,A 2 12 1,bC 3 13 12,c3 4 14 .neq (F 11) (F 13)]) (.aR (F 14) (.B (.B (.E [A 0 15 0,bC 1 16 15,A 2 17 1,bC 3 18 17,c6 4 19 16 18]) (.aR (F 19) (.B (.E [a6 0 4 (-1)]) (.aG)) (.skip))) aaM) (.skip))) aaN
def aaK:I:= .B (.E [A 0 6 0,b6 1 7 194 [F 6],A 2 8 1,b6 3 9 194 [F 8],A 4 0 7,A 5 1 9]) aaL
def aaI:I:=
  .B (
  .E [
 a6 0 4 0]) aaK
def KT:bS:=⟨45,[.bG 4],aaI⟩
theorem aaJ:b2 al 241=some KT:=by kernel_rfl
def aaQ:I:= .B (.E [A 0 3 0,b6 1 4 194 [F 3],bC 2 5 4,ko 3 6 5 512,A 4 2 6]) (.aG)
def aaO:I:=
  .B (
  .E [
 ch 0 2 false]) aaQ
def KU:bS:=⟨7,[.bG 2],aaO⟩
theorem aaP:b2 al 246=some KU:=by kernel_rfl
def KW:I:= .B (.E [A 0 47 6,A 1 48 8,A 2 49 9,A 3 50 1,xM 4 51 1 50,av 5 52 51,jd 6 53 52,c3 7 54 .quo (F 49) (F 53),nz 8 55 54,bo 9 56 1 47 48,b0 10 1 56 55]) (.E [A 0 57 9,A 1 58 1,xM 2 59 1 58,av 3 60 59,jd 4 61 60,c3 5 62 .rem (F 57) (F 61),A 6 7 62])
def KV:I:= .B (.block 1 (.B (.E [A 0 39 7,c3 1 40 .shl (F 39) (.const (.int .u64 32)),A 2 41 0,A 3 42 8,bo 4 43 1 41 42,av 5 44 43,jd 6 45 44,c3 7 46 .or (F 40) (F 45),A 8 9 46]) KW)) (.E [A 0 37 8,h3 1 38 37 1,A 2 8 38])
def QY:I:= .B (.B (.E [A 0 35 8,nw 1 36 35 0]) (.aR (F 36) (.skip) (.ba 0))) KV
def QX:I:= .B (.E [A 0 63 6,b6 1 64 194 [F 63],A 2 65 7,b6 3 66 168 [F 65],A 4 4 64,A 5 5 66]) (.aG)
def aaT:I:= .B (.B (.E [A 0 32 0,bC 1 33 32,h3 2 34 33 1,A 3 8 34]) (.block 0 (.loop QY))) QX
def aaS:I:= .B (.E [uf 0 7 0]) aaT
def apG:I:= .B (.B (.E [A 0 132 12,A 1 133 17,A 4 136 11,A 5 137 15,A 6 138 15,A 7 139 12,bC 8 140 139,gy 9 141 138 140,cO 10 142 141,a1 11 143 (.nb 1 (F 136) (some (F 137)) (some (F 142))),b6 2 134 168 [F 133],dg 3 135 268 132 134,a1 12 144 (.app 1 4 (.const (aI)) (F 143)),dg 13 145 241 135 144,ko 14 146 145 0]) (.aR (F 146) (.skip) (.ba 4))) (.block 5 (.E [A 0 147 17,c3 1 148 .sub (F 147) (.const (.int .u64 1)),A 2 17 148]))
def apC:I:= .B (.E [A 0 174 19,A 1 175 18,bC 2 176 175,c6 3 177 174 176]) (.aR (F 177) (.E [A 0 178 11,A 1 179 15,A 2 180 19,gy 3 181 179 180,A 4 182 18,A 5 183 19,bo 6 184 1 182 183,av 7 185 184,bo 8 186 1 178 181,b0 9 1 186 185]) (.skip))
def apB:I:= .B (.block 7 (.B (.E [A 0 169 11,A 1 170 15,A 2 171 19,gy 3 172 170 171,bo 4 173 1 169 172,p4 5 (.store 1 (F 173) (.const (.int .u32 0)))]) apC)) (.E [A 0 167 19,cO 1 168 167,A 2 19 168])
def apH:I:= .B (.B (.E [A 0 163 19,A 1 164 12,bC 2 165 164,c3 3 166 .leq (F 163) (F 165)]) (.aR (F 166) (.skip) (.ba 6))) apB
def apA:I:= .B (.B (.E [a6 0 19 0]) (.block 6 (.loop apH))) (.E [A 0 187 14,A 1 188 15,A 2 189 17,nz 3 190 189,bo 4 191 1 187 188,b0 5 1 191 190])
def apz:I:= .B (.E [A 0 149 11,A 1 150 15,A 2 151 15,A 3 152 12,bC 4 153 152,gy 5 154 151 153,cO 6 155 154,a1 7 156 (.nb 1 (F 149) (some (F 150)) (some (F 155))),a1 8 157 (.app 1 4 (.const (aI)) (F 156)),A 9 158 12,A 10 159 17,b6 11 160 168 [F 159],dg 12 161 268 158 160,dg 13 162 269 157 161,A 14 18 162]) apA
def apy:I:= .B (.block 4 (.loop apG)) apz
def apx:I:= .B (.B (.E [A 0 130 17,c3 1 131 .gtr (F 130) (.const (.int .u64 4294967295))]) (.aR (F 131) (.E [uf 0 17 4294967295]) (.skip))) apy
def apw:I:= .B (.E [A 0 127 16,A 1 128 13,c3 2 129 .quo (F 127) (F 128),A 3 17 129]) apx
def apv:I:= .B (.block 3 (.B (.E [A 0 108 11,A 1 109 15,A 2 110 12,bC 3 111 110,gy 4 112 109 111,bo 5 113 1 108 112,av 6 114 113,jd 7 115 114,c3 8 116 .shl (F 115) (.const (.int .u64 32)),A 9 117 11,A 10 118 15,A 11 119 12,bC 12 120 119,gy 13 121 118 120,h3 14 122 121 1,bo 15 123 1 117 122,av 16 124 123,jd 17 125 124,c3 18 126 .or (F 116) (F 125),A 19 16 126]) apw)) (.E [A 0 106 15,h3 1 107 106 1,A 2 15 107])
def apI:I:= .B (.B (.E [A 0 104 15,nw 1 105 104 0]) (.aR (F 105) (.skip) (.ba 2))) apv
def apD:I:= .B (.E [A 0 192 14,b6 1 193 194 [F 192],A 2 194 11,b6 3 195 194 [F 194],A 4 196 10,dg 5 197 270 195 196,A 6 4 193,A 7 5 197]) (.aG)
def apu:I:= .B (.B (.E [A 0 101 14,bC 1 102 101,h3 2 103 102 1,A 3 15 103]) (.block 2 (.loop apI))) apD
def apt:I:= .B (.E [A 0 95 11,bC 1 96 95,A 2 97 12,bC 3 98 97,c3 4 99 .sub (F 96) (F 98),vL 5 100 99 99,A 6 14 100]) apu
def aps:I:= .B (.E [A 0 88 12,A 1 89 12,bC 2 90 89,h3 3 91 90 1,bo 4 92 1 88 91,av 5 93 92,jd 6 94 93,A 7 13 94]) apt
def apr:I:= .B (.E [A 0 81 11,A 1 82 0,A 2 83 10,dg 3 84 267 82 83,bC 4 85 84,cO 5 86 85,nX 6 87 81 86,A 7 11 87]) aps
def apF:I:= .B (.E [A 0 73 0,A 1 74 10,dg 2 75 267 73 74,a1 3 76 (.fI 1 2 [.int .u32 0,.int .u32 0] [(0,1,.const (.int .u32 0)),(1,1,.const (.int .u32 0))]),iN 4 77 1 4 75 76,A 5 78 1,A 6 79 10,dg 7 80 267 78 79,A 8 11 77,A 9 12 80]) apr
def apE:I:= .B (.E [A 0 67 1,bC 1 68 67,c3 2 69 .mul (.const (.int .i64 32)) (F 68),A 3 70 1,b6 4 71 266 [F 70],c3 5 72 .sub (F 69) (F 71),A 6 10 72]) apF
def aaR:I:= .B (.B (.E [A 0 26 1,bC 1 27 26,jn 2 28 27 1]) (.aR (F 28) (.B (.E [A 0 29 0,bC 1 30 29,vL 2 31 30 30,A 3 6 31]) aaS) (.skip))) apE
def QW:I:= .B (.B (.E [A 0 20 0,A 1 21 1,dg 2 22 241 20 21,lp 3 23 22 0]) (.aR (F 23) (.B (.E [A 0 24 0,b6 1 25 194 [F 24],eL 2 4,A 3 5 25]) (.aG)) (.skip))) aaR
def QU:I:=
  .B (
  .E [
 eL 0 4,
 eL 1 5]) QW
def Cc:bS:=⟨198,[.bG 4,.bG 5],QU⟩
theorem QV:b2 al 247=some Cc:=by kernel_rfl
def aaZ:I:= .B (.B (.E [A 0 6 3,ko 1 7 6 0,A 2 8 7,ep 3 9 8 0,ep 4 10 8 3,qY 5 11 8 10,nx 6 12 8 1 9 11,eo 7 13 8 12,cq 8 14 8 true (.eX .eql .fR (F 13) (.const (.int .u32 0))),dd 9 15 8 14]) (.aR (F 15) (.skip) (.ba 0))) (.block 1 (.E [A 0 16 3,h3 1 17 16 1,A 2 3 17]))
def aaY:I:= .B (.E [A 0 18 3,A 1 2 18]) (.aG)
def aaX:I:= .B (.block 0 (.loop aaZ)) aaY
def aaW:I:= .B (.E [A 0 4 0,bC 1 5 4,A 2 3 5]) aaX
def aaU:I:=
  .B (
  .E [
 a6 0 2 0]) aaW
def KX:bS:=⟨19,[.bG 2],aaU⟩
theorem aaV:b2 al 248=some KX:=by kernel_rfl
def apN:I:= .B (.E [A 0 57 6,A 1 58 8,A 2 59 7,nz 3 60 59,bo 4 61 1 57 58,b0 5 1 61 60]) (.E [A 0 62 7,xO 1 63 62 32,A 2 7 63])
def apM:I:= .B (.B (.E [A 0 46 8,A 1 47 1,bC 2 48 47,c6 3 49 46 48]) (.aR (F 49) (.E [A 0 50 7,A 1 51 1,A 2 52 8,bo 3 53 1 51 52,av 4 54 53,jd 5 55 54,gy 6 56 50 55,A 7 7 56]) (.skip))) apN
def apX:I:= .B (.E [A 0 39 7,A 1 40 0,A 2 41 8,bo 3 42 1 40 41,av 4 43 42,jd 5 44 43,gy 6 45 39 44,A 7 7 45]) apM
def apW:I:= .B (.block 1 (.B (.E [A 0 38 36,A 1 8 38]) apX)) (.E [cO 0 64 36,A 1 36 64])
def apV:I:= .B (.aR (F 37) (.skip) (.ba 0)) apW
def apY:I:= .B (.E [c6 0 37 36 35]) apV
def apP:I:= .B (.E [A 0 71 6,b6 1 72 272 [F 71],cw 2 73 0 72,cw 3 74 1 72,A 4 4 73,A 5 5 74]) (.aG)
def apO:I:= .B (.E [A 0 65 6,A 1 66 0,bC 2 67 66,A 3 68 7,nz 4 69 68,bo 5 70 1 65 67,b0 6 1 70 69]) apP
def apU:I:= .B (.B (.E [A 0 34 0,bC 1 35 34,a6 2 36 0]) (.block 0 (.loop apY))) apO
def apT:I:= .B (.E [uf 0 7 0]) apU
def apS:I:= .B (.E [A 0 30 0,bC 1 31 30,cO 2 32 31,vL 3 33 32 32,A 4 6 33]) apT
def apR:I:= .B (.B (.E [A 0 23 0,bC 1 24 23,A 2 25 1,bC 3 26 25,c6 4 27 24 26]) (.aR (F 27) (.E [A 0 28 1,A 1 29 0,A 2 0 28,A 3 1 29]) (.skip))) apS
def apQ:I:= .B (.E [A 0 15 0,A 1 16 0,A 4 19 1,A 5 20 1,b6 2 17 248 [F 16],nX 3 18 15 17,b6 6 21 248 [F 20],nX 7 22 19 21,A 8 0 18,A 9 1 22]) apR
def apL:I:= .B (.B (.E [A 0 9 0,b6 1 10 271 [F 9],A 2 11 10,di 3 12 11 1,jo 4 13 11 271 12,cJ 5 14 11 13]) (.aR (F 14) (.B (.E [eL 0 4,a6 1 5 2]) (.aG)) (.skip))) apQ
def apJ:I:=
  .B (
  .E [
 eL 0 4,
 a6 1 5 0]) apL
def aa0:bS:=⟨75,[.bG 4,.bG 5],apJ⟩
theorem apK:b2 al 249=some aa0:=by kernel_rfl
def KZ:I:= .B (.B (.E [A 0 18 1,bC 1 19 18,ko 2 20 19 0]) (.aR (F 20) (.skip) (.ba 0))) (.block 1 (.B (.E [A 0 22 0,A 1 23 1,dg 2 24 273 22 23,A 3 21 24,cw 4 25 0 21,cw 5 26 1 21,A 6 6 25,A 7 7 26]) (.E [A 0 27 1,A 1 28 7,A 2 0 27,A 3 1 28])))
def Gj:I:= .B (.E [A 0 29 0,A 1 4 29,a6 2 5 0]) (.aG)
def aa6:I:= .B (.block 0 (.loop KZ)) Gj
def aa5:I:= .B (.E [A 0 14 0,b6 1 15 253 [F 14],A 2 16 1,b6 3 17 253 [F 16],A 4 0 15,A 5 1 17]) aa6
def aa4:I:= .B (.B (.E [A 0 8 0,b6 1 9 271 [F 8],A 2 10 9,di 3 11 10 1,jo 4 12 10 271 11,cJ 5 13 10 12]) (.aR (F 13) (.B (.E [eL 0 4,a6 1 5 2]) (.aG)) (.skip))) aa5
def aa2:I:=
  .B (
  .E [
 eL 0 4,
 a6 1 5 0]) aa4
def KY:bS:=⟨30,[.bG 4,.bG 5],aa2⟩
theorem aa3:b2 al 251=some KY:=by kernel_rfl
def aa9:I:= .B (.E [A 0 3 0,A 1 4 0,b6 2 5 248 [F 4],nX 3 6 3 5,a1 4 7 (.app 1 4 (.const (aI)) (F 6)),A 5 2 7]) (.aG)
def aa7:I:=
  .B (
  .E [
 eL 0 2]) aa9
def K0:bS:=⟨8,[.bG 2],aa7⟩
theorem aa8:b2 al 253=some K0:=by kernel_rfl
def ap4:I:= .B (.E [A 0 61 6,A 1 62 7,A 2 63 10,gy 3 64 62 63,A 4 65 9,nz 5 66 65,bo 6 67 1 61 64,b0 7 1 67 66]) (.E [A 0 68 9,xO 1 69 68 32,A 2 9 69])
def ap3:I:= .B (.E [A 0 46 9,A 1 47 8,jd 2 48 47,A 3 49 11,jd 4 50 49,c3 5 51 .mul (F 48) (F 50),A 6 52 6,A 7 53 7,A 8 54 10,gy 9 55 53 54,bo 10 56 1 52 55,av 11 57 56,jd 12 58 57,gy 13 59 51 58,gy 14 60 46 59,A 15 9 60]) ap4
def ap2:I:= .B (.block 3 (.B (.E [A 0 43 41,bo 1 44 1 39 41,av 2 45 44,A 3 10 43,A 4 11 45]) ap3)) (.E [cO 0 70 41,A 1 41 70])
def aqd:I:= .B (.aR (F 42) (.skip) (.ba 2)) ap2
def aqe:I:= .B (.E [c6 0 42 41 40]) aqd
def aqc:I:= .B (.B (.E [A 0 39 1,bC 1 40 39,a6 2 41 0]) (.block 2 (.loop aqe))) (.E [A 0 71 6,A 1 72 7,A 2 73 1,bC 3 74 73,gy 4 75 72 74,A 5 76 9,nz 6 77 76,bo 7 78 1 71 75,b0 8 1 78 77])
def aqb:I:= .B (.E [uf 0 9 0]) aqc
def aqa:I:= .B (.block 1 (.B (.E [A 0 36 34,bo 1 37 1 32 34,av 2 38 37,A 3 7 36,A 4 8 38]) aqb)) (.E [cO 0 79 34,A 1 34 79])
def ap9:I:= .B (.aR (F 35) (.skip) (.ba 0)) aqa
def aqf:I:= .B (.E [c6 0 35 34 33]) ap9
def ap5:I:= .B (.E [A 0 80 6,b6 1 81 272 [F 80],cw 2 82 0 81,cw 3 83 1 81,A 4 4 82,A 5 5 83]) (.aG)
def ap8:I:= .B (.B (.E [A 0 32 0,bC 1 33 32,a6 2 34 0]) (.block 0 (.loop aqf))) ap5
def ap7:I:= .B (.E [A 0 26 0,bC 1 27 26,A 2 28 1,bC 3 29 28,gy 4 30 27 29,vL 5 31 30 30,A 6 6 31]) ap8
def ap6:I:= .B (.E [A 0 18 0,A 1 19 0,A 4 22 1,A 5 23 1,b6 2 20 248 [F 19],nX 3 21 18 20,b6 6 24 248 [F 23],nX 7 25 22 24,A 8 0 21,A 9 1 25]) ap7
def ap1:I:= .B (.B (.E [A 0 12 0,b6 1 13 271 [F 12],A 2 14 13,di 3 15 14 1,jo 4 16 14 271 15,cJ 5 17 14 16]) (.aR (F 17) (.B (.E [eL 0 4,a6 1 5 2]) (.aG)) (.skip))) ap6
def apZ:I:=
  .B (
  .E [
 eL 0 4,
 a6 1 5 0]) ap1
def aba:bS:=⟨84,[.bG 4,.bG 5],apZ⟩
theorem ap0:b2 al 254=some aba:=by kernel_rfl
def aqp:I:= .B (.E [A 0 20 6,A 1 4 20,a6 2 5 0]) (.aG)
def aqo:I:= .B (.B (.E [A 0 18 6,b6 1 19 246 [F 18]]) (.aR (F 19) (.B (.E [eL 0 4,a6 1 5 2]) (.aG)) (.skip))) aqp
def aqn:I:= .B (.E [A 0 13 0,b6 1 14 194 [F 13],A 2 15 1,b6 3 16 194 [F 15],dg 4 17 274 14 16,A 5 6 17]) aqo
def aqm:I:= .B (.B (.E [A 0 7 0,b6 1 8 246 [F 7],A 2 9 8,di 3 10 9 1,jo 4 11 9 246 10,cJ 5 12 9 11]) (.aR (F 12) (.B (.E [eL 0 4,a6 1 5 2]) (.aG)) (.skip))) aqn
def aqk:I:=
  .B (
  .E [
 eL 0 4,
 a6 1 5 0]) aqm
def abd:bS:=⟨21,[.bG 4,.bG 5],aqk⟩
theorem aql:b2 al 257=some abd:=by kernel_rfl
def abk:I:= .B (.E [A 0 20 6,A 1 4 20,a6 2 5 0]) (.aG)
def abj:I:= .B (.B (.E [A 0 18 6,b6 1 19 246 [F 18]]) (.aR (F 19) (.B (.E [eL 0 4,a6 1 5 2]) (.aG)) (.skip))) abk
def abi:I:= .B (.E [A 0 13 0,b6 1 14 194 [F 13],A 2 15 1,b6 3 16 194 [F 15],dg 4 17 268 14 16,A 5 6 17]) abj
def abh:I:= .B (.B (.E [A 0 7 0,b6 1 8 246 [F 7],A 2 9 8,di 3 10 9 1,jo 4 11 9 246 10,cJ 5 12 9 11]) (.aR (F 12) (.B (.E [eL 0 4,a6 1 5 2]) (.aG)) (.skip))) abi
def abf:I:=
  .B (
  .E [
 eL 0 4,
 a6 1 5 0]) abh
def K1:bS:=⟨21,[.bG 4,.bG 5],abf⟩
theorem abg:b2 al 260=some K1:=by kernel_rfl
def aqI:I:= .B (.E [A 0 49 5,A 1 50 6,A 2 51 8,gy 3 52 50 51,A 4 53 9,nz 5 54 53,bo 6 55 1 49 52,b0 7 1 55 54]) (.E [A 0 56 9,xO 1 57 56 32,A 2 7 57])
def aqH:I:= .B (.block 3 (.B (.E [A 0 28 0,A 1 29 6,bo 2 30 1 28 29,av 3 31 30,jd 4 32 31,A 5 33 1,A 6 34 8,bo 7 35 1 33 34,av 8 36 35,jd 9 37 36,c3 10 38 .mul (F 32) (F 37),A 11 39 5,A 12 40 6,A 13 41 8,gy 14 42 40 41,bo 15 43 1 39 42,av 16 44 43,jd 17 45 44,gy 18 46 38 45,A 19 47 7,gy 20 48 46 47,A 21 9 48]) aqI)) (.E [A 0 26 8,cO 1 27 26,A 2 8 27])
def aqJ:I:= .B (.B (.E [A 0 22 8,A 1 23 1,bC 2 24 23,c6 3 25 22 24]) (.aR (F 25) (.skip) (.ba 2))) aqH
def Q2:I:= .B (.B (.E [a6 0 8 0]) (.block 2 (.loop aqJ))) (.E [A 0 58 5,A 1 59 6,A 2 60 1,bC 3 61 60,gy 4 62 59 61,A 5 63 7,nz 6 64 63,bo 7 65 1 58 62,b0 8 1 65 64])
def Q1:I:= .B (.block 1 (.B (.E [uf 0 7 0]) Q2)) (.E [A 0 20 6,cO 1 21 20,A 2 6 21])
def abp:I:= .B (.B (.E [A 0 16 6,A 1 17 0,bC 2 18 17,c6 3 19 16 18]) (.aR (F 19) (.skip) (.ba 0))) Q1
def Q3:I:= .B (.E [A 0 66 5,b6 1 67 194 [F 66],A 2 4 67]) (.aG)
def abo:I:= .B (.B (.E [a6 0 6 0]) (.block 0 (.loop abp))) Q3
def abn:I:= .B (.E [A 0 10 0,bC 1 11 10,A 2 12 1,bC 3 13 12,gy 4 14 11 13,vL 5 15 14 14,A 6 5 15]) abo
def abl:I:=
  .B (
  .E [
 eL 0 4]) abn
def K2:bS:=⟨68,[.bG 4],abl⟩
theorem abm:b2 al 268=some K2:=by kernel_rfl
def abu:I:= .B (.E [A 0 3 0,b6 1 4 248 [F 3],ko 2 5 4 512,A 3 2 5]) (.aG)
def abr:I:=
  .B (
  .E [
 ch 0 2 false]) abu
def K3:bS:=⟨6,[.bG 2],abr⟩
theorem abt:b2 al 271=some K3:=by kernel_rfl
def aqO:I:= .B (.E [A 0 9 0,A 1 10 4,A 2 11 4,a1 3 12 (.uJ 1 (F 9) none (F 10) (F 11)),A 4 2 12,a6 5 3 0]) (.aG)
def aqN:I:= .B (.B (.E [A 0 7 4,ko 1 8 7 512]) (.aR (F 8) (.B (.E [eL 0 2,a6 1 3 2]) (.aG)) (.skip))) aqO
def aqM:I:= .B (.E [A 0 5 0,b6 1 6 248 [F 5],A 2 4 6]) aqN
def aqK:I:=
  .B (
  .E [
 eL 0 2,
 a6 1 3 0]) aqM
def abv:bS:=⟨13,[.bG 2,.bG 3],aqK⟩
theorem aqL:b2 al 272=some abv:=by kernel_rfl
def abx:I:= .B (.E [A 0 38 6,A 1 39 7,jd 2 40 39,b6 3 41 217 [F 40],A 4 4 38,A 5 5 41]) (.aG)
def aq7:I:= .B (.B (.E [A 0 42 1,A 1 43 1,bC 2 44 43,h3 3 45 44 1,bo 4 46 1 42 45,av 5 47 46,A 6 48 8,c3 7 49 .shl (F 47) (F 48),c3 8 50 .lss (F 49) (.const (.int .u32 2147483648))]) (.aR (F 50) (.skip) (.ba 0))) (.block 1 (.E [A 0 51 8,c3 1 52 .add (F 51) (.const (.int .u64 1)),A 2 8 52]))
def aqU:I:= .B (.E [A 0 135 18,c3 1 136 .geq (F 135) (.const (.int .u64 4294967296))]) (.aR (F 136) (.ba 4) (.skip))
def aqT:I:= .B (.E [A 0 132 18,A 1 133 13,gy 2 134 132 133,A 3 18 134]) aqU
def aq8:I:= .B (.B (.E [A 0 111 17,c3 1 112 .geq (F 111) (.const (.int .u64 4294967296)),A 2 113 112,di 3 114 113 17,di 4 115 113 14,cq 5 116 113 false (.eX .mul .fR (F 114) (F 115)),di 6 117 113 18,cq 7 118 113 false (.eX .shl .fR (F 117) (.const (.int .u64 32))),di 8 119 113 9,di 9 120 113 15,di 10 121 113 11,cq 11 122 113 false (.eX .add .fR (F 120) (F 121)),cq 12 123 113 false (.eX .sub .fR (F 122) (.const (.int .i64 2))),oC 13 124 113 1 119 123,dJ 14 125 113 124,cq 15 126 113 false (.ru .u64 (F 125)),cq 16 127 113 false (.eX .or .fR (F 118) (F 126)),cq 17 128 113 false (.eX .gtr .fR (F 116) (F 127)),cJ 18 129 113 128]) (.aR (F 129) (.skip) (.ba 4))) (.block 5 (.B (.E [A 0 130 17,c3 1 131 .sub (F 130) (.const (.int .u64 1)),A 2 17 131]) aqT))
def aqV:I:= .B (.B (.E [A 0 137 9,A 1 138 15,A 2 139 15,A 3 140 11,gy 4 141 139 140,cO 5 142 141,a1 6 143 (.nb 1 (F 137) (some (F 138)) (some (F 142))),A 7 144 10,A 8 145 17,b6 9 146 280 [F 143,F 144,F 145]]) (.aR (F 146) (.B (.E [A 0 147 17,c3 1 148 .sub (F 147) (.const (.int .u64 1)),A 2 17 148]) (.E [A 0 149 9,A 1 150 15,A 2 151 15,A 3 152 11,gy 4 153 151 152,cO 5 154 153,a1 6 155 (.nb 1 (F 149) (some (F 150)) (some (F 154))),A 7 156 10,dg 8 157 281 155 156])) (.skip))) (.E [A 0 158 12,A 1 159 15,A 2 160 17,nz 3 161 160,bo 4 162 1 158 159,b0 5 1 162 161])
def aqS:I:= .B (.block 4 (.loop aq8)) aqV
def aqR:I:= .B (.E [A 0 105 16,A 1 106 13,c3 2 107 .quo (F 105) (F 106),A 3 108 16,A 4 109 13,c3 5 110 .rem (F 108) (F 109),A 6 17 107,A 7 18 110]) aqS
def aqQ:I:= .B (.block 3 (.B (.E [A 0 88 9,A 1 89 15,A 2 90 11,gy 3 91 89 90,bo 4 92 1 88 91,av 5 93 92,jd 6 94 93,c3 7 95 .shl (F 94) (.const (.int .u64 32)),A 8 96 9,A 9 97 15,A 10 98 11,gy 11 99 97 98,h3 12 100 99 1,bo 13 101 1 96 100,av 14 102 101,jd 15 103 102,c3 16 104 .or (F 95) (F 103),A 17 16 104]) aqR)) (.E [A 0 86 15,h3 1 87 86 1,A 2 15 87])
def aq9:I:= .B (.B (.E [A 0 84 15,nw 1 85 84 0]) (.aR (F 85) (.skip) (.ba 2))) aqQ
def aqZ:I:= .B (.block 7 (.B (.E [A 0 169 167,A 1 20 169]) (.E [A 0 170 19,A 1 171 20,A 2 172 9,A 3 173 20,cO 4 174 173,bo 5 175 1 172 174,av 6 176 175,jd 7 177 176,c3 8 178 .shl (F 177) (.const (.int .u64 32)),A 9 179 9,A 10 180 20,bo 11 181 1 179 180,av 12 182 181,jd 13 183 182,c3 14 184 .or (F 178) (F 183),A 15 185 8,c3 16 186 .shr (F 184) (F 185),nz 17 187 186,bo 18 188 1 170 171,b0 19 1 188 187]))) (.E [cO 0 189 167,A 1 167 189])
def aqY:I:= .B (.aR (F 168) (.skip) (.ba 6)) aqZ
def ara:I:= .B (.E [c6 0 168 167 166]) aqY
def aq0:I:= .B (.E [A 0 190 12,A 1 191 12,A 4 194 19,A 5 195 19,b6 2 192 248 [F 191],nX 3 193 190 192,b6 6 196 248 [F 195],nX 7 197 194 196,A 8 4 193,A 9 5 197]) (.aG)
def aqX:I:= .B (.B (.E [A 0 165 19,bC 1 166 165,a6 2 167 0]) (.block 6 (.loop ara))) aq0
def aqW:I:= .B (.E [A 0 163 11,vL 1 164 163 163,A 2 19 164]) aqX
def aqP:I:= .B (.B (.E [A 0 81 12,bC 1 82 81,h3 2 83 82 1,A 3 15 83]) (.block 2 (.loop aq9))) aqW
def aq6:I:= .B (.E [A 0 69 10,A 1 70 11,h3 2 71 70 1,bo 3 72 1 69 71,av 4 73 72,jd 5 74 73,A 6 75 10,A 7 76 11,h3 8 77 76 2,bo 9 78 1 75 77,av 10 79 78,jd 11 80 79,A 12 13 74,A 13 14 80]) aqP
def aq5:I:= .B (.E [A 0 64 9,bC 1 65 64,A 2 66 11,c3 3 67 .sub (F 65) (F 66),vL 4 68 67 67,A 5 12 68]) aq6
def aq4:I:= .B (.E [A 0 62 10,bC 1 63 62,A 2 11 63]) aq5
def aq3:I:= .B (.E [A 0 53 0,A 1 54 8,A 3 56 1,A 4 57 8,A 6 59 1,bC 7 60 59,dg 2 55 279 53 54,dg 5 58 279 56 57,nX 8 61 58 60,A 9 9 55,A 10 10 61]) aq4
def aq2:I:= .B (.block 0 (.loop aq7)) aq3
def aq1:I:= .B (.E [uf 0 8 0]) aq2
def abw:I:= .B (.B (.E [A 0 27 1,bC 1 28 27,jn 2 29 28 1]) (.aR (F 29) (.B (.E [A 0 31 0,A 1 32 1,xM 2 33 1 32,av 3 34 33,dg 4 35 278 31 34,A 5 30 35,cw 6 36 0 30,cw 7 37 1 30,A 8 6 36,A 9 7 37]) abx) (.skip))) aq1
def Q6:I:= .B (.B (.E [A 0 21 0,A 1 22 1,dg 2 23 222 21 22,lp 3 24 23 0]) (.aR (F 24) (.B (.E [A 0 25 0,b6 1 26 253 [F 25],eL 2 4,A 3 5 26]) (.aG)) (.skip))) abw
def Q4:I:=
  .B (
  .E [
 eL 0 4,
 eL 1 5]) Q6
def Cd:bS:=⟨198,[.bG 4,.bG 5],Q4⟩
theorem Q5:b2 al 273=some Cd:=by kernel_rfl
def ark:I:= .B (.E [A 0 48 5,A 1 49 8,nz 2 50 49,a1 3 51 (.fI 1 1 [.int .u32 0] [(0,1,F 50)]),iN 4 52 1 4 48 51,A 5 5 52]) (.E [A 0 53 8,xO 1 54 53 32,A 2 6 54])
def arj:I:= .B (.B (.E [A 0 37 7,A 1 38 1,bC 2 39 38,c6 3 40 37 39]) (.aR (F 40) (.E [A 0 41 8,A 1 42 1,A 2 43 7,bo 3 44 1 42 43,av 4 45 44,jd 5 46 45,gy 6 47 41 46,A 7 8 47]) (.skip))) ark
def ari:I:= .B (.B (.E [A 0 26 7,A 1 27 0,bC 2 28 27,c6 3 29 26 28]) (.aR (F 29) (.E [A 0 30 8,A 1 31 0,A 2 32 7,bo 3 33 1 31 32,av 4 34 33,jd 5 35 34,gy 6 36 30 35,A 7 8 36]) (.skip))) arj
def arh:I:= .B (.block 1 (.B (.E [A 0 25 6,A 1 8 25]) ari)) (.E [A 0 23 7,cO 1 24 23,A 2 7 24])
def arn:I:= .B (.B (.E [A 0 9 7,A 1 10 0,bC 2 11 10,c6 3 12 9 11,A 4 13 12,di 5 14 13 7,di 6 15 13 1,hM 7 16 13 15,cq 8 17 13 false (.eX .lss .fR (F 14) (F 16)),cJ 9 18 13 17,A 10 19 18,di 11 20 19 6,cq 12 21 19 false (.eX .gtr .fR (F 20) (.const (.int .u64 0))),cJ 13 22 19 21]) (.aR (F 22) (.skip) (.ba 0))) arh
def arl:I:= .B (.E [A 0 55 5,b6 1 56 194 [F 55],A 2 4 56]) (.aG)
def arf:I:= .B (.B (.E [a6 0 7 0]) (.block 0 (.loop arn))) arl
def are:I:= .B (.E [uf 0 6 0]) arf
def ard:I:= .B (.E [eL 0 5]) are
def arb:I:=
  .B (
  .E [
 eL 0 4]) ard
def aby:bS:=⟨57,[.bG 4],arb⟩
theorem arc:b2 al 274=some aby:=by kernel_rfl
def K6:I:= .B (.E [A 0 27 6,A 1 28 8,A 2 29 7,A 3 30 1,jd 4 31 30,c3 5 32 .quo (F 29) (F 31),nz 6 33 32,bo 7 34 1 27 28,b0 8 1 34 33]) (.E [A 0 35 7,A 1 36 1,jd 2 37 36,c3 3 38 .rem (F 35) (F 37),A 4 7 38])
def K5:I:= .B (.block 1 (.B (.E [A 0 19 7,c3 1 20 .shl (F 19) (.const (.int .u64 32)),A 2 21 0,A 3 22 8,bo 4 23 1 21 22,av 5 24 23,jd 6 25 24,c3 7 26 .or (F 20) (F 25),A 8 7 26]) K6)) (.E [A 0 17 8,h3 1 18 17 1,A 2 8 18])
def Q7:I:= .B (.B (.E [A 0 15 8,nw 1 16 15 0]) (.aR (F 16) (.skip) (.ba 0))) K5
def K7:I:= .B (.E [A 0 39 6,A 1 40 6,b6 2 41 248 [F 40],nX 3 42 39 41,A 4 43 7,nz 5 44 43,A 6 4 42,A 7 5 44]) (.aG)
def abE:I:= .B (.B (.E [A 0 12 0,bC 1 13 12,h3 2 14 13 1,A 3 8 14]) (.block 0 (.loop Q7))) K7
def abD:I:= .B (.E [uf 0 7 0]) abE
def abC:I:= .B (.E [A 0 9 0,bC 1 10 9,vL 2 11 10 10,A 3 6 11]) abD
def abA:I:=
  .B (
  .E [
 eL 0 4,
 a1 1 5 (.m2 (.const (.int .u32 0)))]) abC
def K4:bS:=⟨45,[.bG 4,.bG 5],abA⟩
theorem abB:b2 al 278=some K4:=by kernel_rfl
def XD:I:= .B (.E [A 0 9 0,lp 1 10 9 0,A 2 11 1,lp 3 12 11 0,a1 4 13 (.eX .neq .bool (F 10) (F 12)),A 5 14 0,b6 6 15 169 [F 14],b6 7 16 168 [F 15],A 8 17 1,b6 9 18 169 [F 17],b6 10 19 168 [F 18],b6 11 20 167 [F 13,F 16,F 19],b0 12 3 4 20,a6 13 5 0]) (.aG)
def XC:I:= .B (.B (.E [A 0 6 1,jn 1 7 6 0]) (.aR (F 7) (.B (.E [a1 0 8 (.eT [.bool false,aI,aI] []),b0 1 3 4 8,a6 2 5 3]) (.aG)) (.skip))) XD
def XA:I:=
  .B (
  .E [
 a1 0 4 (.dm [.bool false,aI,aI]),
 a6 1 5 0]) XC
def J2:bS:=⟨21,[.hL 4 true 3,.bG 5],XA⟩
theorem XB:b2 al 107=some J2:=by kernel_rfl
def Yv:I:= .B (.E [aH 0 3 2 1,av 1 4 3,b6 2 5 194 [F 4],bC 3 6 5,ko 4 7 6 0,A 5 8 7,ec 6 9 8 2 1,eo 7 10 8 9,l3 8 11 8 194 10,lq 9 12 8 11,ny 10 13 8 12 128,dd 11 14 8 13,A 12 15 14,ec 13 16 15 1 1,eo 14 17 15 16,l3 15 18 15 194 17,lq 16 19 15 18,ny 17 20 15 19 128,dd 18 21 15 20,A 19 2 21]) (.aG)
def Yt:I:=
  .B (
  .E [
 dI 0 1 0,
 ch 1 2 false]) Yv
def Kb:bS:=⟨22,[.bG 2],Yt⟩
theorem Yu:b2 al 138=some Kb:=by kernel_rfl
def Yy:I:= .B (.E [bZ 0 3 3 1,j2 1 4 (.dA 193 [.const aK]) [(F 1,F 1)],dg 2 5 195 3 4,A 3 2 5]) (.aG)
def Yw:I:=
  .B (
  .E [
 dI 0 1 0,
 a6 1 2 0]) Yy
def Kc:bS:=⟨6,[.bG 2],Yw⟩
theorem Yx:b2 al 139=some Kc:=by kernel_rfl
def YK:I:= .B (.E [A 0 24 7,bC 1 25 24,ko 2 26 25 1,A 3 27 26,di 4 28 27 7,cq 5 29 27 false (.p3 1 (F 28) (.const aK)),dJ 6 30 27 29,cq 7 31 27 false (.eX .gtr .fR (F 30) (.const (.int .u32 1))),cJ 8 32 27 31]) (.aR (F 32) (.B (.E [A 0 34 1,A 1 35 7,dg 2 36 214 34 35,A 3 33 36,cw 4 37 0 33,cw 5 38 1 33,cw 6 39 2 33,A 7 1 37]) (.E [A 0 41 2,A 1 42 7,dg 2 43 214 41 42,A 3 40 43,cw 4 44 0 40,cw 5 45 1 40,cw 6 46 2 40,A 7 2 44])) (.skip))
def YL:I:= .B (.E [A 0 47 0,A 1 48 1,A 2 49 2,a1 3 50 (.eT [.bool false,aI,aI] [(0,1,F 47),(1,1,F 48),(2,1,F 49)]),b0 4 3 6 50]) (.aG)
def YJ:I:= .B (.B (.E [A 0 19 1,A 1 20 2,dg 2 21 213 19 20,A 3 18 21,cw 4 22 0 18,cw 5 23 1 18,A 6 7 22,A 7 8 23]) YK) YL
def YI:I:= .B (.B (.E [A 0 13 1,bC 1 14 13,jn 2 15 14 0]) (.aR (F 15) (.B (.E [a1 0 16 (.fI 1 1 [.int .u32 0] [(0,1,.const (.int .u32 1))]),a1 1 17 (.eT [.bool false,aI,aI] [(2,1,F 16)]),b0 2 3 6 17]) (.aG)) (.skip))) YJ
def YH:I:= .B (.E [A 0 9 1,b6 1 10 194 [F 9],A 2 11 2,b6 3 12 194 [F 11],A 4 1 10,A 5 2 12]) YI
def YF:I:=
  .B (
  .E [
 a1 0 6 (.dm [.bool false,aI,aI])]) YH
def Kf:bS:=⟨51,[.hL 6 true 3],YF⟩
theorem YG:b2 al 167=some Kf:=by kernel_rfl
def YS:I:= .B (.E [A 0 10 0,jd 1 11 10,A 2 2 11]) (.aG)
def YR:I:= .B (.B (.E [A 0 3 0,lp 1 4 3 0]) (.aR (F 4) (.B (.E [A 0 5 0,cO 1 6 5,a1 2 7 (.qn .neg (F 6)),jd 3 8 7,c3 4 9 .add (F 8) (.const (.int .u64 1)),A 5 2 9]) (.aG)) (.skip))) YS
def YP:I:=
  .B (
  .E [
 uf 0 2 0]) YR
def Kh:bS:=⟨12,[.bG 2],YP⟩
theorem YQ:b2 al 169=some Kh:=by kernel_rfl
def amj:I:= .B (.B (.E [A 0 23 8,sU 1 24 23]) (.aR (F 24) (.B (.E [a1 0 25 (.eT [.bool false,aI,aI] []),A 1 26 8,b0 2 3 2 25,A 3 3 26]) (.aG)) (.skip))) (.E [bZ 0 27 3 7,b0 1 3 4 27])
def ami:I:= .B (.E [bZ 0 18 3 4,bZ 1 19 3 6,dg 2 20 218 18 19,A 3 17 20,cw 4 21 0 17,cw 5 22 1 17,a1 6 7 (.dm [.bool false,aI,aI]),b0 7 3 7 21,A 8 8 22]) amj
def amh:I:= .B (.block 1 (.B (.E [bo 0 15 3 11 13,bZ 1 16 3 15,a1 2 6 (.dm [.bool false,aI,aI]),b0 3 3 6 16]) ami)) (.E [cO 0 28 13,A 1 13 28])
def amg:I:= .B (.aR (F 14) (.skip) (.ba 0)) amh
def aml:I:= .B (.E [c6 0 14 13 12]) amg
def amk:I:= .B (.E [bZ 0 29 3 4,b0 1 3 2 29,a6 2 3 0]) (.aG)
def amf:I:= .B (.B (.E [A 0 11 0,bC 1 12 11,a6 2 13 0]) (.block 0 (.loop aml))) amk
def ame:I:= .B (.E [b6 0 9 217 [.const (.int .u64 1)],a1 1 10 (.eT [.bool false,aI,aI] [(2,1,F 9)]),a1 2 4 (.dm [.bool false,aI,aI]),b0 3 3 4 10]) amf
def amc:I:=
  .B (
  .E [
 a1 0 2 (.dm [.bool false,aI,aI]),
 a6 1 3 0]) ame
def Y3:bS:=⟨30,[.hL 2 true 3,.bG 3],amc⟩
theorem amd:b2 al 173=some Y3:=by kernel_rfl
def amp:I:= .B (.E [A 0 9 0,lp 1 10 9 0,A 2 11 1,lp 3 12 11 0,a1 4 13 (.eX .neq .bool (F 10) (F 12)),A 5 14 0,b6 6 15 220 [F 14],A 7 16 1,b6 8 17 220 [F 16],b6 9 18 219 [F 13,F 15,F 17],cw 10 19 0 18,cw 11 20 1 18,b0 12 3 4 19,A 13 5 20]) (.aG)
def amo:I:= .B (.B (.E [A 0 6 1,jn 1 7 6 0]) (.aR (F 7) (.B (.E [a1 0 8 (.eT [.bool false,aI,aI] []),b0 1 3 4 8,a6 2 5 3]) (.aG)) (.skip))) amp
def amm:I:=
  .B (
  .E [
 a1 0 4 (.dm [.bool false,aI,aI]),
 a6 1 5 0]) amo
def Y4:bS:=⟨21,[.hL 4 true 3,.bG 5],amm⟩
theorem amn:b2 al 174=some Y4:=by kernel_rfl
def amw:I:= .B (.E [A 0 53 6,A 1 4 53,a6 2 5 0]) (.aG)
def amv:I:= .B (.block 0 (.B (.E [A 0 43 7,A 1 44 43,ep 2 45 44 8,dd 3 46 44 45,A 4 42 46]) (.aR (F 42) (.B (.E [A 0 47 6,a1 1 48 (.qn .neg (F 47)),A 2 4 48,a6 3 5 0]) (.aG)) (.B (.E [A 0 50 7,A 1 49 50]) (.aR (F 49) (.B (.E [a6 0 4 (-1),a6 1 5 0]) (.aG)) (.B (.E [A 0 52 8,A 1 51 52]) (.aR (F 51) (.B (.E [a6 0 4 1,a6 1 5 0]) (.aG)) (.skip)))))))) amw
def amu:I:= .B (.E [aH 0 28 0 2,av 1 29 28,A 2 30 29,jc 3 31 30 3 2,aH 7 35 0 3,av 8 36 35,⟨4,some 32,some (30,true),.dA 224 [F 31],[(F 35,F 35)]⟩,rW 5 33 30 32,dd 6 34 30 33,A 9 37 36,jc 10 38 37 3 3,l3 11 39 37 224 38,rW 12 40 37 39,dd 13 41 37 40,A 14 7 34,A 15 8 41]) amv
def amt:I:= .B (.E [aH 0 17 1 2,av 1 18 17,aH 2 19 2 3,av 3 20 19,aH 5 22 1 3,av 6 23 22,aH 7 24 2 2,av 8 25 24,vK 4 21 223 18 20 24 24 22 22,dg 9 26 223 23 25,dg 10 27 222 21 26,A 11 6 27]) amu
def ams:I:= .B (.B (.E [bZ 0 9 3 2,b6 1 10 221 [F 9],g2 2 11 10,A 3 12 11,k2 4 13 12 3 3,jo 5 14 12 221 13,ih 6 15 12 14,cJ 7 16 12 15]) (.aR (F 16) (.B (.E [a6 0 4 0,a6 1 5 1]) (.aG)) (.skip))) amt
def amq:I:=
  .B (
  .E [
 dI 0 2 0,
 dI 1 3 1,
 a6 2 4 0,
 a6 3 5 0]) ams
def Y5:bS:=⟨54,[.bG 4,.bG 5],amq⟩
theorem amr:b2 al 175=some Y5:=by kernel_rfl
def anF:I:= .B (.B (.E [A 0 24 7,sU 1 25 24]) (.aR (F 25) (.B (.E [a1 0 26 (.eT [.bool false,aI,aI] []),A 1 27 7,b0 2 3 2 26,A 3 3 27]) (.aG)) (.skip))) (.E [bZ 0 28 3 6,b0 1 3 4 28])
def anE:I:= .B (.block 1 (.B (.E [bZ 0 16 3 4,A 1 17 0,A 2 18 5,bo 3 19 3 17 18,bZ 4 20 3 19,dg 5 21 239 16 20,A 6 15 21,cw 7 22 0 15,cw 8 23 1 15,a1 9 6 (.dm [.bool false,aI,aI]),b0 10 3 6 22,A 11 7 23]) anF)) (.E [A 0 13 5,cO 1 14 13,A 2 5 14])
def anH:I:= .B (.B (.E [A 0 9 5,A 1 10 0,bC 2 11 10,c6 3 12 9 11]) (.aR (F 12) (.skip) (.ba 0))) anE
def anG:I:= .B (.E [bZ 0 29 3 4,b0 1 3 2 29,a6 2 3 0]) (.aG)
def anD:I:= .B (.B (.E [a6 0 5 0]) (.block 0 (.loop anH))) anG
def anC:I:= .B (.E [b6 0 8 193 [.const aK],a1 1 4 (.dm [.bool false,aI,aI]),b0 2 3 4 8]) anD
def anA:I:=
  .B (
  .E [
 a1 0 2 (.dm [.bool false,aI,aI]),
 a6 1 3 0]) anC
def Zu:bS:=⟨30,[.hL 2 true 3,.bG 3],anA⟩
theorem anB:b2 al 191=some Zu:=by kernel_rfl
def anK:I:= .B (.E [bZ 0 5 3 2,bZ 1 6 3 3,dg 2 7 195 5 6,jn 3 8 7 0,A 4 4 8]) (.aG)
def anI:I:=
  .B (
  .E [
 dI 0 2 0,
 dI 1 3 1,
 ch 2 4 false]) anK
def Zv:bS:=⟨9,[.bG 4],anI⟩
theorem anJ:b2 al 192=some Zv:=by kernel_rfl
def anO:I:= .B (.E [bZ 0 10 3 3,b0 1 3 2 10]) (.aG)
def anN:I:= .B (.E [A 0 6 0,kG 1 7 107 6 1,A 2 5 7,cw 3 8 0 5,cw 4 9 1 5,a1 5 3 (.dm [.bool false,aI,aI]),b0 6 3 3 8,A 7 4 9]) anO
def anL:I:=
  .B (
  .E [
 a1 0 2 (.dm [.bool false,aI,aI])]) anN
def Zw:bS:=⟨11,[.hL 2 true 3],anL⟩
theorem anM:b2 al 193=some Zw:=by kernel_rfl
def ZC:I:= .B (.E [A 0 50 5,A 1 51 6,dg 2 52 241 50 51,A 3 4 52]) (.aG)
def ZB:I:= .B (.block 0 (.B (.E [A 0 34 7,A 1 35 34,ep 2 36 35 8,rW 3 37 35 36,dd 4 38 35 37,A 5 33 38]) (.aR (F 33) (.B (.E [a6 0 4 (-1)]) (.aG)) (.B (.E [A 0 40 8,A 1 41 40,ep 2 42 41 7,rW 3 43 41 42,dd 4 44 41 43,A 5 39 44]) (.aR (F 39) (.B (.E [a6 0 4 1]) (.aG)) (.B (.E [A 0 46 7,A 1 45 46]) (.aR (F 45) (.B (.E [A 0 47 6,A 1 48 5,dg 2 49 241 47 48,A 3 4 49]) (.aG)) (.skip)))))))) ZC
def ZA:I:= .B (.E [aH 0 19 0 2,av 1 20 19,A 2 21 20,ep 3 22 21 5,lq 4 23 21 22,GX 5 24 21 23,dd 6 25 21 24,aH 7 26 0 3,av 8 27 26,A 9 28 27,ep 10 29 28 6,lq 11 30 28 29,GX 12 31 28 30,dd 13 32 28 31,A 14 7 25,A 15 8 32]) ZB
def Zz:I:= .B (.E [aH 0 9 1 2,av 1 10 9,aH 2 11 2 3,av 3 12 11,aH 5 14 1 3,av 6 15 14,aH 7 16 2 2,av 8 17 16,vK 4 13 240 10 12 16 16 14 14,dg 9 18 240 15 17,A 10 5 13,A 11 6 18]) ZA
def Zx:I:=
  .B (
  .E [
 dI 0 2 0,
 dI 1 3 1,
 a6 2 4 0]) Zz
def Kw:bS:=⟨53,[.bG 4],Zx⟩
theorem Zy:b2 al 195=some Kw:=by kernel_rfl
def ZG:I:= .B (.E [aH 0 8 0 1,av 1 9 8,aH 2 10 1 1,av 3 11 10,aH 4 12 2 1,av 5 13 12,b6 6 14 167 [F 9,F 11,F 13],b0 7 3 2 14,a6 8 3 0]) (.aG)
def ZF:I:= .B (.B (.E [bZ 0 4 3 1,b6 1 5 138 [F 4],g2 2 6 5]) (.aR (F 6) (.B (.E [a1 0 7 (.eT [.bool false,aI,aI] []),b0 1 3 2 7,a6 2 3 1]) (.aG)) (.skip))) ZG
def ZD:I:=
  .B (
  .E [
 dI 0 1 0,
 a1 1 2 (.dm [.bool false,aI,aI]),
 a6 2 3 0]) ZF
def Kx:bS:=⟨15,[.hL 2 true 3,.bG 3],ZD⟩
theorem ZE:b2 al 196=some Kx:=by kernel_rfl
def anT:I:= .B (.E [bZ 0 5 3 2,bZ 1 6 3 3,dg 2 7 195 5 6,lp 3 8 7 0,A 4 4 8]) (.aG)
def anR:I:=
  .B (
  .E [
 dI 0 2 0,
 dI 1 3 1,
 ch 2 4 false]) anT
def ZH:bS:=⟨9,[.bG 4],anR⟩
theorem anS:b2 al 199=some ZH:=by kernel_rfl
def ZV:I:= .B (.E [aH 0 8 0 1,av 1 9 8,aH 2 10 1 1,av 3 11 10,aH 4 12 2 1,av 5 13 12,b6 6 14 219 [F 9,F 11,F 13],cw 7 15 0 14,cw 8 16 1 14,b0 9 3 2 15,A 10 3 16]) (.aG)
def ZU:I:= .B (.B (.E [bZ 0 4 3 1,b6 1 5 221 [F 4],g2 2 6 5]) (.aR (F 6) (.B (.E [a1 0 7 (.eT [.bool false,aI,aI] []),b0 1 3 2 7,a6 2 3 1]) (.aG)) (.skip))) ZV
def ZS:I:=
  .B (
  .E [
 dI 0 1 0,
 a1 1 2 (.dm [.bool false,aI,aI]),
 a6 2 3 0]) ZU
def KH:bS:=⟨17,[.hL 2 true 3,.bG 3],ZS⟩
theorem ZT:b2 al 215=some KH:=by kernel_rfl
def aoc:I:= .B (.E [aH 0 50 0 2,av 1 51 50,A 2 52 9,A 3 53 8,b6 4 54 219 [F 51,F 52,F 53],cw 5 55 0 54,cw 6 56 1 54,b0 7 3 4 55,A 8 5 56]) (.aG)
def aoe:I:= .B (.E [aH 0 67 0 2,av 1 68 67,A 2 69 11,A 3 70 8,b6 4 71 219 [F 68,F 69,F 70],cw 5 72 0 71,cw 6 73 1 71,b0 7 3 4 72,A 8 5 73]) (.aG)
def aog:I:= .B (.E [aH 0 80 0 3,av 1 81 80,A 2 82 13,A 3 83 8,b6 4 84 219 [F 81,F 82,F 83],cw 5 85 0 84,cw 6 86 1 84,b0 7 3 4 85,A 8 5 86]) (.aG)
def aof:I:= .B (.E [A 0 75 7,A 1 76 6,dg 2 77 250 75 76,A 3 74 77,cw 4 78 0 74,cw 5 79 1 74,A 6 13 78,A 7 14 79]) aog
def aod:I:= .B (.B (.E [A 0 57 6,A 1 58 7,dg 2 59 222 57 58,nw 3 60 59 0]) (.aR (F 60) (.B (.E [A 0 62 6,A 1 63 7,dg 2 64 250 62 63,A 3 61 64,cw 4 65 0 61,cw 5 66 1 61,A 6 11 65,A 7 12 66]) aoe) (.skip))) aof
def aob:I:= .B (.B (.E [aH 0 39 0 2,av 1 40 39,aH 2 41 0 3,av 3 42 41,a1 4 43 (.eX .eql .bool (F 40) (F 42))]) (.aR (F 43) (.B (.E [A 0 45 6,A 1 46 7,dg 2 47 249 45 46,A 3 44 47,cw 4 48 0 44,cw 5 49 1 44,A 6 9 48,A 7 10 49]) aoc) (.skip))) aod
def aoa:I:= .B (.E [aH 0 24 1 2,av 1 25 24,aH 2 26 2 3,av 3 27 26,aH 5 29 1 3,av 6 30 29,aH 7 31 2 2,av 8 32 31,aH 10 34 2 2,av 11 35 34,aH 12 36 2 3,av 13 37 36,j2 4 28 (.dA 223 [F 25,F 27]) [(F 36,F 36),(F 34,F 34),(F 31,F 31),(F 29,F 29)],vK 9 33 223 30 32 36 36 34 34,dg 14 38 223 35 37,A 15 6 28,A 16 7 33,A 17 8 38]) aob
def an9:I:= .B (.B (.E [bZ 0 15 3 2,b6 1 16 221 [F 15],g2 2 17 16,A 3 18 17,k2 4 19 18 3 3,jo 5 20 18 221 19,ih 6 21 18 20,cJ 7 22 18 21]) (.aR (F 22) (.B (.E [a1 0 23 (.eT [.bool false,aI,aI] []),b0 1 3 4 23,a6 2 5 1]) (.aG)) (.skip))) aoa
def an7:I:=
  .B (
  .E [
 dI 0 2 0,
 dI 1 3 1,
 a1 2 4 (.dm [.bool false,aI,aI]),
 a6 3 5 0]) an9
def Z4:bS:=⟨87,[.hL 4 true 3,.bG 5],an7⟩
theorem an8:b2 al 218=some Z4:=by kernel_rfl
def Z8:I:= .B (.E [A 0 16 8,b6 1 17 216 [F 16],ko 2 18 17 1]) (.aR (F 18) (.B (.E [A 0 20 1,A 1 21 8,dg 2 22 252 20 21,A 3 19 22,cw 4 23 0 19,cw 5 24 1 19,cw 6 25 2 19,A 7 1 23]) (.E [A 0 27 2,A 1 28 8,dg 2 29 252 27 28,A 3 26 29,cw 4 30 0 26,cw 5 31 1 26,cw 6 32 2 26,A 7 2 30])) (.skip))
def aaa:I:= .B (.E [A 0 42 0,A 1 43 42,ep 2 44 43 1,l3 3 45 43 216 44,GX 4 46 43 45,dd 5 47 43 46,A 6 48 1,b6 7 49 253 [F 48],A 8 50 2,b6 9 51 253 [F 50],a1 10 52 (.eT [.bool false,aI,aI] [(0,1,F 47),(1,1,F 49),(2,1,F 51)]),b0 11 3 6 52,a6 12 7 0]) (.aG)
def Z9:I:= .B (.B (.E [A 0 33 1,b6 1 34 216 [F 33],ko 2 35 34 4096,A 3 36 35,di 4 37 36 2,jo 5 38 36 216 37,l4 6 39 36 38 4096,cJ 7 40 36 39]) (.aR (F 40) (.B (.E [a1 0 41 (.eT [.bool false,aI,aI] []),b0 1 3 6 41,a6 2 7 2]) (.aG)) (.skip))) aaa
def Z7:I:= .B (.B (.E [A 0 11 1,A 1 12 2,dg 2 13 251 11 12,A 3 10 13,cw 4 14 0 10,cw 5 15 1 10,A 6 8 14,A 7 9 15]) Z8) Z9
def Z5:I:=
  .B (
  .E [
 a1 0 6 (.dm [.bool false,aI,aI]),
 a6 1 7 0]) Z7
def KK:bS:=⟨53,[.hL 6 true 3,.bG 7],Z5⟩
theorem Z6:b2 al 219=some KK:=by kernel_rfl
def aoy:I:= .B (.E [A 0 9 0,jd 1 10 9,b6 2 11 217 [F 10],A 3 2 11]) (.aG)
def aox:I:= .B (.B (.E [A 0 3 0,lp 1 4 3 0]) (.aR (F 4) (.B (.E [A 0 5 0,jd 1 6 5,a1 2 7 (.qn .neg (F 6)),b6 3 8 217 [F 7],A 4 2 8]) (.aG)) (.skip))) aoy
def aov:I:=
  .B (
  .E [
 eL 0 2]) aox
def aab:bS:=⟨12,[.bG 2],aov⟩
theorem aow:b2 al 220=some aab:=by kernel_rfl
def aaf:I:= .B (.E [A 0 7 3,ko 1 8 7 0,A 2 9 8,ep 3 10 9 3,ny 4 11 9 10 4096,dd 5 12 9 11,A 6 13 12,ec 7 14 13 1 1,eo 8 15 13 14,l3 9 16 13 216 15,ny 10 17 13 16 4096,dd 11 18 13 17,A 12 2 18]) (.aG)
def aae:I:= .B (.E [aH 0 4 2 1,av 1 5 4,b6 2 6 216 [F 5],A 3 3 6]) aaf
def aac:I:=
  .B (
  .E [
 dI 0 1 0,
 ch 1 2 false]) aae
def KL:bS:=⟨19,[.bG 2],aac⟩
theorem aad:b2 al 221=some KL:=by kernel_rfl
def aoC:I:= .B (.E [A 0 13 5,A 1 4 13]) (.aG)
def aoB:I:= .B (.E [A 0 8 0,A 1 9 1,dg 2 10 254 8 9,A 3 7 10,cw 4 11 0 7,cw 5 12 1 7,A 6 5 11,A 7 6 12]) aoC
def aoz:I:=
  .B (
  .E [
 eL 0 4]) aoB
def aal:bS:=⟨14,[.bG 4],aoz⟩
theorem aoA:b2 al 223=some aal:=by kernel_rfl
def apb:I:= .B (.E [aH 0 50 0 2,av 1 51 50,A 2 52 9,A 3 53 8,b6 4 54 167 [F 51,F 52,F 53],b6 5 55 258 [F 54],cw 6 56 0 55,cw 7 57 1 55,b0 8 3 4 56,A 9 5 57]) (.aG)
def apd:I:= .B (.E [aH 0 68 0 2,av 1 69 68,A 2 70 11,A 3 71 8,b6 4 72 167 [F 69,F 70,F 71],b6 5 73 258 [F 72],cw 6 74 0 73,cw 7 75 1 73,b0 8 3 4 74,A 9 5 75]) (.aG)
def apf:I:= .B (.E [aH 0 82 0 3,av 1 83 82,A 2 84 13,A 3 85 8,b6 4 86 167 [F 83,F 84,F 85],b6 5 87 258 [F 86],cw 6 88 0 87,cw 7 89 1 87,b0 8 3 4 88,A 9 5 89]) (.aG)
def ape:I:= .B (.E [A 0 77 7,A 1 78 6,dg 2 79 259 77 78,A 3 76 79,cw 4 80 0 76,cw 5 81 1 76,A 6 13 80,A 7 14 81]) apf
def apc:I:= .B (.B (.E [A 0 58 6,A 1 59 7,dg 2 60 241 58 59,nw 3 61 60 0]) (.aR (F 61) (.B (.E [A 0 63 6,A 1 64 7,dg 2 65 259 63 64,A 3 62 65,cw 4 66 0 62,cw 5 67 1 62,A 6 11 66,A 7 12 67]) apd) (.skip))) ape
def apa:I:= .B (.B (.E [aH 0 39 0 2,av 1 40 39,aH 2 41 0 3,av 3 42 41,a1 4 43 (.eX .eql .bool (F 40) (F 42))]) (.aR (F 43) (.B (.E [A 0 45 6,A 1 46 7,dg 2 47 257 45 46,A 3 44 47,cw 4 48 0 44,cw 5 49 1 44,A 6 9 48,A 7 10 49]) apb) (.skip))) apc
def ao9:I:= .B (.E [aH 0 24 1 2,av 1 25 24,aH 2 26 2 3,av 3 27 26,aH 5 29 1 3,av 6 30 29,aH 7 31 2 2,av 8 32 31,aH 10 34 2 2,av 11 35 34,aH 12 36 2 3,av 13 37 36,j2 4 28 (.dA 240 [F 25,F 27]) [(F 36,F 36),(F 34,F 34),(F 31,F 31),(F 29,F 29)],vK 9 33 240 30 32 36 36 34 34,dg 14 38 240 35 37,A 15 6 28,A 16 7 33,A 17 8 38]) apa
def ao8:I:= .B (.B (.E [bZ 0 15 3 2,b6 1 16 138 [F 15],g2 2 17 16,A 3 18 17,k2 4 19 18 3 3,jo 5 20 18 138 19,ih 6 21 18 20,cJ 7 22 18 21]) (.aR (F 22) (.B (.E [a1 0 23 (.eT [.bool false,aI,aI] []),b0 1 3 4 23,a6 2 5 1]) (.aG)) (.skip))) ao9
def ao6:I:=
  .B (
  .E [
 dI 0 2 0,
 dI 1 3 1,
 a1 2 4 (.dm [.bool false,aI,aI]),
 a6 3 5 0]) ao8
def aaD:bS:=⟨90,[.hL 4 true 3,.bG 5],ao6⟩
theorem ao7:b2 al 239=some aaD:=by kernel_rfl
def aaH:I:= .B (.E [A 0 13 5,A 1 4 13]) (.aG)
def aaG:I:= .B (.E [A 0 8 0,A 1 9 1,dg 2 10 260 8 9,A 3 7 10,cw 4 11 0 7,cw 5 12 1 7,A 6 5 11,A 7 6 12]) aaH
def aaE:I:=
  .B (
  .E [
 eL 0 4]) aaG
def KS:bS:=⟨14,[.bG 4],aaE⟩
theorem aaF:b2 al 240=some KS:=by kernel_rfl
def aqt:I:= .B (.E [bZ 0 7 3 1,b0 1 3 2 7,a6 2 3 0]) (.aG)
def aqs:I:= .B (.B (.E [bZ 0 4 3 1,b6 1 5 275 [F 4]]) (.aR (F 5) (.B (.E [a1 0 6 (.eT [.bool false,aI,aI] []),b0 1 3 2 6,a6 2 3 2]) (.aG)) (.skip))) aqt
def aqq:I:=
  .B (
  .E [
 dI 0 1 0,
 a1 1 2 (.dm [.bool false,aI,aI]),
 a6 2 3 0]) aqs
def abe:bS:=⟨8,[.hL 2 true 3,.bG 3],aqq⟩
theorem aqr:b2 al 258=some abe:=by kernel_rfl
def arq:I:= .B (.E [aH 0 3 1 1,av 1 4 3,bC 2 5 4,ko 3 6 5 128,A 4 7 6,eb 5 8 7 2 1,dJ 6 9 7 8,hM 7 10 7 9,l4 8 11 7 10 128,cJ 9 12 7 11,A 10 2 12]) (.aG)
def aro:I:=
  .B (
  .E [
 dI 0 1 0,
 ch 1 2 false]) arq
def abz:bS:=⟨13,[.bG 2],aro⟩
theorem arp:b2 al 275=some abz:=by kernel_rfl
def Ko:I:= .B (.block 1 (.B (.E [A 0 23 0,A 1 24 3,a1 2 25 (.sM (F 23) (F 24)),b6 3 26 232 [F 25],g2 4 27 26]) (.aR (F 27) (.B (.E [ch 0 2 false]) (.aG)) (.skip)))) (.E [A 0 21 3,cO 1 22 21,A 2 3 22])
def FW:I:= .B (.B (.E [A 0 17 3,A 1 18 0,a1 2 19 (.rX (F 18)),c6 3 20 17 19]) (.aR (F 20) (.skip) (.ba 0))) Ko
def FV:I:= .B (.E [ch 0 2 true]) (.aG)
def FU:I:= .B (.B (.E [a6 0 3 0]) (.block 0 (.loop FW))) FV
def FT:I:= .B (.B (.E [A 0 4 0,c3 1 5 .eql (F 4) (.const (.string ⟨#[]⟩)),A 2 6 5,di 3 7 6 0,cq 4 8 6 false (.rX (F 7)),l4 5 9 6 8 16,cJ 6 10 6 9,A 7 11 10,di 8 12 11 0,cq 9 13 11 false (.sM (F 12) (.const aK)),jo 10 14 11 231 13,ih 11 15 11 14,cJ 12 16 11 15]) (.aR (F 16) (.B (.E [ch 0 2 false]) (.aG)) (.skip))) FU
def BX:I:=
  .B (
  .E [
 ch 0 2 false]) FT
def amA:bS:=⟨28,[.bG 2],BX⟩
theorem amB:b2 al 179=some amA:=by kernel_rfl
theorem ag4{args:List Value}{m:W}{cg:Value->W->Prop}(h:args.length<=28):fZ al 179 args m cg=hD al BX (ja args) m (q7 [.bG 2] cg):=r9 amB h
def Kq:I:= .B (.block 1 (.B (.E [A 0 24 0,A 1 25 3,a1 2 26 (.sM (F 24) (F 25)),b6 3 27 238 [F 26],g2 4 28 27]) (.aR (F 28) (.B (.E [ch 0 2 false]) (.aG)) (.skip)))) (.E [A 0 22 3,cO 1 23 22,A 2 3 23])
def F1:I:= .B (.B (.E [A 0 18 3,A 1 19 0,a1 2 20 (.rX (F 19)),c6 3 21 18 20]) (.aR (F 21) (.skip) (.ba 0))) Kq
def F0:I:= .B (.E [ch 0 2 true]) (.aG)
def FZ:I:= .B (.B (.E [a6 0 3 0]) (.block 0 (.loop F1))) F0
def FY:I:= .B (.B (.E [A 0 4 0,a1 1 5 (.rX (F 4)),lp 2 6 5 1,A 3 7 6,di 4 8 7 0,cq 5 9 7 false (.rX (F 8)),l4 6 10 7 9 16,cJ 7 11 7 10,A 8 12 11,di 9 13 12 0,cq 10 14 12 false (.sM (F 13) (.const aK)),jo 11 15 12 237 14,ih 12 16 12 15,cJ 13 17 12 16]) (.aR (F 17) (.B (.E [ch 0 2 false]) (.aG)) (.skip))) FZ
def BY:I:=
  .B (
  .E [
 ch 0 2 false]) FY
def anv:bS:=⟨29,[.bG 2],BY⟩
theorem anw:b2 al 188=some anv:=by kernel_rfl
theorem ag5{args:List Value}{m:W}{cg:Value->W->Prop}(h:args.length<=29):fZ al 188 args m cg=hD al BY (ja args) m (q7 [.bG 2] cg):=r9 anw h
def aay:I:= .B (.E [A 0 3 0,c3 1 4 .geq (F 3) (.const (.int .u8 97)),A 2 5 4,ep 3 6 5 0,zZ 4 7 5 6 122,dd 5 8 5 7,A 6 9 8,di 7 10 9 0,cq 8 11 9 false (.eX .geq .fR (F 10) (.const (.int .u8 65))),di 9 12 9 11,ep 10 13 12 0,zZ 11 14 12 13 90,cq 12 15 9 false (.oL (F 12) (F 14) (.const (.bool false))),cJ 13 16 9 15,A 14 2 16]) (.aG)
def QS:I:=
  .B (
  .E [
 ch 0 2 false]) aay
def aoN:bS:=⟨17,[.bG 2],QS⟩
theorem aoO:b2 al 231=some aoN:=by kernel_rfl
theorem ag6{args:List Value}{m:W}{cg:Value->W->Prop}(h:args.length<=17):fZ al 231 args m cg=hD al QS (ja args) m (q7 [.bG 2] cg):=r9 aoO h
def B7:I:= .B (.E [A 0 3 0,b6 1 4 231 [F 3],A 2 5 4,di 3 6 5 0,jo 4 7 5 255 6,cJ 5 8 5 7,A 6 9 8,di 7 10 9 0,cq 8 11 9 false (.eX .eql .fR (F 10) (.const (.int .u8 45))),cJ 9 12 9 11,A 10 13 12,di 11 14 13 0,cq 12 15 13 false (.eX .eql .fR (F 14) (.const (.int .u8 46))),cJ 13 16 13 15,A 14 2 16]) (.aG)
def zw:I:=
  .B (
  .E [
 ch 0 2 false]) B7
def aoP:bS:=⟨17,[.bG 2],zw⟩
theorem aoQ:b2 al 232=some aoP:=by kernel_rfl
theorem ag7{args:List Value}{m:W}{cg:Value->W->Prop}(h:args.length<=17):fZ al 232 args m cg=hD al zw (ja args) m (q7 [.bG 2] cg):=r9 aoQ h
def aaC:I:= .B (.E [A 0 3 0,c3 1 4 .geq (F 3) (.const (.int .u8 97)),A 2 5 4,ep 3 6 5 0,zZ 4 7 5 6 122,dd 5 8 5 7,A 6 9 8,di 7 10 9 0,cq 8 11 9 false (.eX .geq .fR (F 10) (.const (.int .u8 65))),di 9 12 9 11,ep 10 13 12 0,zZ 11 14 12 13 90,cq 12 15 9 false (.oL (F 12) (F 14) (.const (.bool false))),cJ 13 16 9 15,A 14 2 16]) (.aG)
def QT:I:=
  .B (
  .E [
 ch 0 2 false]) aaC
def ao2:bS:=⟨17,[.bG 2],QT⟩
theorem ao3:b2 al 237=some ao2:=by kernel_rfl
theorem ag8{args:List Value}{m:W}{cg:Value->W->Prop}(h:args.length<=17):fZ al 237 args m cg=hD al QT (ja args) m (q7 [.bG 2] cg):=r9 ao3 h
def B8:I:= .B (.E [A 0 3 0,b6 1 4 237 [F 3],A 2 5 4,di 3 6 5 0,jo 4 7 5 256 6,cJ 5 8 5 7,A 6 9 8,di 7 10 9 0,cq 8 11 9 false (.eX .eql .fR (F 10) (.const (.int .u8 45))),cJ 9 12 9 11,A 10 13 12,di 11 14 13 0,cq 12 15 13 false (.eX .eql .fR (F 14) (.const (.int .u8 46))),cJ 13 16 13 15,A 14 2 16]) (.aG)
def zx:I:=
  .B (
  .E [
 ch 0 2 false]) B8
def ao4:bS:=⟨17,[.bG 2],zx⟩
theorem ao5:b2 al 238=some ao4:=by kernel_rfl
theorem ag9{args:List Value}{m:W}{cg:Value->W->Prop}(h:args.length<=17):fZ al 238 args m cg=hD al zx (ja args) m (q7 [.bG 2] cg):=r9 ao5 h
def abb:I:= .B (.E [A 0 3 0,c3 1 4 .geq (F 3) (.const (.int .u8 48)),A 2 5 4,ep 3 6 5 0,zZ 4 7 5 6 57,dd 5 8 5 7,A 6 2 8]) (.aG)
def QZ:I:=
  .B (
  .E [
 ch 0 2 false]) abb
def aqg:bS:=⟨9,[.bG 2],QZ⟩
theorem aqh:b2 al 255=some aqg:=by kernel_rfl
theorem aha{args:List Value}{m:W}{cg:Value->W->Prop}(h:args.length<=9):fZ al 255 args m cg=hD al QZ (ja args) m (q7 [.bG 2] cg):=r9 aqh h
def abc:I:= .B (.E [A 0 3 0,c3 1 4 .geq (F 3) (.const (.int .u8 48)),A 2 5 4,ep 3 6 5 0,zZ 4 7 5 6 57,dd 5 8 5 7,A 6 2 8]) (.aG)
def Q0:I:=
  .B (
  .E [
 ch 0 2 false]) abc
def aqi:bS:=⟨9,[.bG 2],Q0⟩
theorem aqj:b2 al 256=some aqi:=by kernel_rfl
theorem ahb{args:List Value}{m:W}{cg:Value->W->Prop}(h:args.length<=9):fZ al 256 args m cg=hD al Q0 (ja args) m (q7 [.bG 2] cg):=r9 aqj h
end Go.Proofs.YtmmkkggfmigppaaGreat
