/-
  A part of the proof of the statement, in texts that tools of ours (wip/shrink.py, irpack.py, relax.py, minify.py, join.py, lay.py) have shortened.
-/
import Derived.SizedLaws
import Derived.ChangeOld
import Derived.WideShapes
import Derived.OpenShut
import Derived.Test.YtmmkkggfmigppaaGreatZad
set_option linter.all false
set_option maxRecDepth 8000
set_option maxHeartbeats 16000000
namespace Go.DI
open Go
def ry(s:ByteArray)(i:Nat):Int:=((s.data.toList.getD i 0).toNat:Nat)
def adM(fK:j8)(m:W)(x k:Value):Bool:=match jX m x with
  |some a9=>kR fK k a9
  |none=>false
def adN(zero:Value)(o:Bool)(m:W)(x k:Value):Value:=
  if o then .tuple #[((jX m x).bind (hE k)).getD zero,.bool ((jX m x).bind (hE k)).isSome]else((jX m x).bind (hE k)).getD zero
def adU(fK:j8)(m:W)(x k v:Value):Bool:=match x with
  | .map (some b)=>(match m.eK b with
    |some a9=>kR fK k a9&&S v
    |none=>false)
  |_=>false
def adT(m:W)(x k v:Value):W:=m.gL (uC x) (iZ k v ((m.eK (uC x)).getD []))
@[simp] theorem aGU{fK:j8}{m:W}{b:Nat}{k:Value}:adM fK m (.map (some b)) k=(match m.eK b with|some a9=>kR fK k a9|none=>false):=rfl
@[simp] theorem aGV{I:Value}{o:Bool}{m:W}{b:Nat}{k:Value}:adN I o m (.map (some b)) k=if o then .tuple #[((m.eK b).bind (hE k)).getD I,.bool ((m.eK b).bind (hE k)).isSome]else((m.eK b).bind (hE k)).getD I:=rfl
@[simp] theorem aGX{fK:j8}{m:W}{b:Nat}{k v:Value}:adU fK m (.map (some b)) k v=(match m.eK b with|some a9=>kR fK k a9&&S v|none=>false):=rfl
@[simp] theorem aGW{m:W}{b:Nat}{k v:Value}:adT m (.map (some b)) k v=m.gL b (iZ k v ((m.eK b).getD [])):=rfl
attribute [simp] UB Uy UA Uz NP NO Ix Ub ayG ayH ahm Br ahn adx auP auQ awF awG
  UD NR UC Ey ahH
section
variable {P:Program} {base aN:Nat} {d:Option Nat} {bR:List bp} {z:aM} {m:W} {aT:aM->W->Prop} {a4:List (Operand×Operand)}
@[simp] theorem aNd(x:Operand):hc P base (⟨aN,d,none,.nf x,a4⟩::bR) z m aT=(pd z a4=true/\hc P base bR (c0 z d (Y z x)) (m) aT):=by rw[uY rfl];simp only[af.ok,true_and];try rfl
@[simp] theorem aNe(c a b:Operand):hc P base (⟨aN,d,none,.pE c a b,a4⟩::bR) z m aT=(rX (Y z c)=true/\pd z a4=true/\hc P base bR (c0 z d (if tU (Y z c)=true then Y z a else Y z b)) (m) aT):=by rw[uY rfl];rfl
@[simp] theorem aNa(I n:Nat)(cs:List Value)(ps:List (Nat×Nat×Operand)):hc P base (⟨aN,d,none,.fR I n cs ps,a4⟩::bR) z m aT=(pD cs z ps=true/\pd z a4=true/\hc P base bR (c0 z d (.slice (some ⟨base+aN,0,none⟩) n I)) (m.a0 (base+aN) (some ⟨lE cs z ps,true⟩)) aT):=by rw[uY rfl];rfl
@[simp] theorem aM9(op:BinOp)(c:su)(x y:Operand):hc P base (⟨aN,d,none,.fg op c x y,a4⟩::bR) z m aT=(qG op c (Y z x) (Y z y)=true/\pd z a4=true/\hc P base bR (c0 z d (kI op (Y z x) (Y z y))) (m) aT):=by rw[uY rfl];rfl
@[simp] theorem aNf(op:UnOp)(x:Operand):hc P base (⟨aN,d,none,.qv op x,a4⟩::bR) z m aT=(wL op (Y z x)=true/\pd z a4=true/\hc P base bR (c0 z d (A3 op (Y z x))) (m) aT):=by rw[uY rfl];rfl
@[simp] theorem aNb(x i:Operand):hc P base (⟨aN,d,none,.sW x i,a4⟩::bR) z m aT=((kN (Y z x)&&eT (Y z i)&&decide (0<=eG (Y z i))&&decide (eG (Y z i)<h2 (Y z x)))=true/\pd z a4=true/\hc P base bR (c0 z d (.int .u8 (ry (pZ (Y z x)) (eG (Y z i)).toNat))) (m) aT):=by rw[uY rfl];rfl
@[simp] theorem aNc(x:Operand):hc P base (⟨aN,d,none,.r1 x,a4⟩::bR) z m aT=(kN (Y z x)=true/\pd z a4=true/\hc P base bR (c0 z d (.int .i64 (h2 (Y z x)))) (m) aT):=by rw[uY rfl];rfl
@[simp] theorem aM8(I bytes:Nat)(x y:Operand):hc P base (⟨aN,d,none,.app I bytes x y,a4⟩::bR) z m aT=((af.app I bytes x y).ok z m=true/\pd z a4=true/\hc P base bR (c0 z d ((af.app I bytes x y).val (base+aN) z m)) ((af.app I bytes x y).gu (base+aN) z m) aT):=by rw[uY rfl];try rfl
@[simp] theorem aE9{t aJ:TypeId}{v:Value}:FE t (.iface aJ v)=decide (aJ=t):=rfl
@[simp] theorem aFa{t:TypeId}{v:Value}:XW (.iface t v)=v:=rfl
@[simp] theorem aDM{t:Nat}:Y z (.tmp t)=z t:=rfl
@[simp] theorem aDK{v:Value}:Y z (.const v)=v:=rfl
@[simp] theorem aDL{f:Nat}:Y z (.func f)= .func (.func f) #[] #[]:=rfl
@[simp] theorem aHW{t:Nat}{v:Value}:c0 z (some t) v=mm z t v:=rfl
@[simp] theorem aHV{v:Value}:c0 z none v=z:=rfl
@[simp] theorem ayT{t bo:Nat}{v:Value}:mm z t v bo=if bo=t then v else z bo:=rfl
@[simp] theorem aFc{gJ:Value}{l:List Value}:jl (gJ::l) 0=gJ:=rfl
@[simp] theorem aFd{gJ bw:Value}{l:List Value}:jl (gJ::bw::l) 1=bw:=rfl
@[simp] theorem aFe{gJ bw bJ:Value}{l:List Value}:jl (gJ::bw::bJ::l) 2=bJ:=rfl
@[simp] theorem aFf{gJ bw bJ cb:Value}{l:List Value}:jl (gJ::bw::bJ::cb::l) 3=cb:=rfl
@[simp] theorem aFg{gJ bw bJ cb eI:Value}{l:List Value}:jl (gJ::bw::bJ::cb::eI::l) 4=eI:=rfl
@[simp] theorem aFh{gJ bw bJ cb eI fm:Value}{l:List Value}:jl (gJ::bw::bJ::cb::eI::fm::l) 5=fm:=rfl
@[simp] theorem aFi{gJ bw bJ cb eI fm hy:Value}{l:List Value}:jl (gJ::bw::bJ::cb::eI::fm::hy::l) 6=hy:=rfl
@[simp] theorem aFj{gJ bw bJ cb eI fm hy jK:Value}{l:List Value}:jl (gJ::bw::bJ::cb::eI::fm::hy::jK::l) 7=jK:=rfl
def Uq(v:Value)(b:Bool):Bool:=match v with| .bool c=>c==b|_=>false
@[simp] theorem aM1{c b:Bool}:Uq (.bool c) b=(c==b):=rfl
@[simp] theorem aM2{b:Bool}:Uq undef b=false:=rfl
@[simp] theorem aM3{t:Nat}{b:Bool}:eA z (some (t,b))=Uq (z t) b:=rfl
@[simp] theorem aIy{r:k3}:lj m z [r]=pG m z r:=rfl
@[simp] theorem aIx:lj m z []= .tuple #[]:=rfl
@[simp] theorem aIz{r s:k3}{l:List k3}:lj m z (r::s::l)= .tuple ((r::s::l).map (pG m z)).toArray:=rfl
@[simp] theorem aIu{t:Nat}:pG m z (.bL t)=z t:=rfl
@[simp] theorem aIt{t n:Nat}{dd:Bool}:pG m z (.hZ t dd n)=kg m dd n (z t):=rfl
@[simp] theorem aIw{l:List k3}:kU m z l=l.all (oQ m z):=rfl
@[simp] theorem aIs{t:Nat}:oQ m z (.bL t)=true:=rfl
@[simp] theorem aIr{t n:Nat}{dd:Bool}:oQ m z (.hZ t dd n)=(gn m (z t) n&&(dd||decide (n=1))):=rfl
@[simp] theorem aIq{l:List bp}:gW l m=if l.any (λo=>o.k.eW)=true then m.dp l.length else m:=by unfold gW;rfl
end
attribute [simp] tU rX eG eT pZ O gy N U z2 qk wm Ej kN A1 DQ JF EM rW gK nj nH nG z4 byteOf pD lE
  qG kI B1 Kk yu Im sF nV px A3 wL nx w8 lL h0
attribute [simp] kR nb hE iZ S
@[simp] theorem aFN:af.nc.eW=true:=rfl
@[simp] theorem aFk(a:List Value):(af.dz a).eW=true:=rfl
@[simp] theorem aFo(a:Operand):(af.l0 a).eW=true:=rfl
@[simp] theorem aFp(a b:Nat)(c:List Value)(d:List (Nat×Nat×Operand)):(af.fR a b c d).eW=true:=rfl
@[simp] theorem aFy(a:Operand):(af.ny a).eW=true:=rfl
@[simp] theorem aFO(a b:Nat)(c:List Value)(d e:Operand):(af.jY a b c d e).eW=true:=rfl
@[simp] theorem aFm(a b:Nat)(c:List Value)(d e:Operand):(af.lZ a b c d e).eW=true:=rfl
@[simp] theorem aFl(a b:Nat)(c d:Operand):(af.app a b c d).eW=true:=rfl
@[simp] theorem aFt(a:Operand):(af.vl a).eW=false:=rfl
@[simp] theorem aFu(a:List Value)(b:Operand):(af.hl a b).eW=false:=rfl
@[simp] theorem aFP(a:j8)(b:Value)(c:Bool)(d e:Operand):(af.nd a b c d e).eW=false:=rfl
@[simp] theorem aFR(a:j8)(b c d:Operand):(af.lR a b c d).eW=false:=rfl
@[simp] theorem aFU(a b:Nat)(c:Operand):(af.oT a b c).eW=false:=rfl
@[simp] theorem aFV(a:Nat)(b:Operand)(c:Option Operand)(d e:Operand):(af.uS a b c d e).eW=false:=rfl
@[simp] theorem aFM(a:TypeId)(b:Operand):(af.wc a b).eW=false:=rfl
@[simp] theorem aFZ(a:TypeId)(b:Operand):(af.DP a b).eW=false:=rfl
@[simp] theorem aFF(a:List (TypeId×Nat×Option (Bool×Nat)))(b:Operand)(c:List Operand):(af.kv a b c).eW=false:=rfl
@[simp] theorem aFQ(a:Operand):(af.nf a).eW=false:=rfl
@[simp] theorem aFT(a b c:Operand):(af.pE a b c).eW=false:=rfl
@[simp] theorem aFS(a:Operand):(af.ti a).eW=false:=rfl
@[simp] theorem aFq(a:List Value)(b:List (Nat×Nat×Operand)):(af.eY a b).eW=false:=rfl
@[simp] theorem aFJ(a:Bool)(b:Nat)(c:Operand):(af.kx a b c).eW=false:=rfl
@[simp] theorem aFY(a:Nat)(b c:Operand):(af.store a b c).eW=false:=rfl
@[simp] theorem aFn(a:BinOp)(b:su)(c d:Operand):(af.fg a b c d).eW=false:=rfl
@[simp] theorem aFz(a:Bool)(b:List o1)(c d:Operand):(af.vr a b c d).eW=false:=rfl
@[simp] theorem aF0(a:UnOp)(b:Operand):(af.qv a b).eW=false:=rfl
@[simp] theorem aFw(a:IntKind)(b:Operand):(af.rz a b).eW=false:=rfl
@[simp] theorem aFx(a:Operand):(af.Bx a).eW=false:=rfl
@[simp] theorem aFv(a:Operand):(af.mw a).eW=false:=rfl
@[simp] theorem aFX(a:Operand)(b c:Option Operand):(af.AW a b c).eW=false:=rfl
@[simp] theorem aFW(a:Nat)(b:Operand)(c d:Option Operand):(af.mQ a b c d).eW=false:=rfl
@[simp] theorem aFB(a:Nat)(b:Operand):(af.rF a b).eW=false:=rfl
@[simp] theorem aFC(a:Bool)(b c:Nat)(d:Operand):(af.field a b c d).eW=false:=rfl
@[simp] theorem aFD(a:Nat)(b c:Operand):(af.qc a b c).eW=false:=rfl
@[simp] theorem aFE(a b:Nat)(c d:Operand):(af.oD a b c d).eW=false:=rfl
@[simp] theorem aFG(a b:Operand):(af.sW a b).eW=false:=rfl
@[simp] theorem aFA(a:Nat)(b:Operand):(af.ext a b).eW=false:=rfl
@[simp] theorem aFH(a:Operand):(af.r1 a).eW=false:=rfl
@[simp] theorem aFI(a:Operand):(af.r2 a).eW=false:=rfl
@[simp] theorem aFK(a:Bool)(b:Operand)(c:List Operand):(af.oJ a b c).eW=false:=rfl
@[simp] theorem aFL(a:Fn)(b c:List Operand):(af.td a b c).eW=false:=rfl
@[simp] theorem aFr(a:Nat)(b:List Operand):(af.dm a b).eW=false:=rfl
@[simp] theorem aFs(a:Operand)(b:List Operand):(af.iy a b).eW=false:=rfl
abbrev E(n:Nat):Operand:= .tmp n
abbrev A(i d x:Nat):bp:=⟨i,some d,none,.nf (.tmp x),[]⟩
abbrev ba(i d:Nat)(n:Int):bp:=⟨i,some d,none,.nf (.const (.int .i64 n)),[]⟩
abbrev cu(i d:Nat)(b:Bool):bp:=⟨i,some d,none,.nf (.const (.bool b)),[]⟩
abbrev aA(i d x:Nat):bp:=⟨i,some d,none,.kx false 1 (.tmp x),[]⟩
abbrev b2(i d n x:Nat):bp:=⟨i,some d,none,.kx true n (.tmp x),[]⟩
abbrev aL(i d n x:Nat):bp:=⟨i,some d,none,.rF n (.tmp x),[]⟩
abbrev c9(i d:Nat)(op:BinOp)(x y:Operand):bp:=⟨i,some d,none,.fg op .gl x y,[]⟩
abbrev bH(i d I x y:Nat):bp:=⟨i,some d,none,.qc I (.tmp x) (.tmp y),[]⟩
abbrev bO(i d x:Nat):bp:=⟨i,some d,none,.r2 (.tmp x),[]⟩
abbrev cE(i d n x:Nat):bp:=⟨i,some d,none,.ext n (.tmp x),[]⟩
abbrev b7(i d f:Nat)(bz:List Operand):bp:=⟨i,some d,none,.dm f bz,[]⟩
abbrev b4(i n x y:Nat):bp:=⟨i,none,none,.store n (.tmp x) (.tmp y),[]⟩
abbrev a2(i d:Nat)(k:af):bp:=⟨i,some d,none,k,[]⟩
abbrev cw(i d j:Nat)(b:Bool)(k:af):bp:=⟨i,some d,some (j,b),k,[]⟩
abbrev iv(i d:Nat)(k:af)(a4:List (Operand×Operand)):bp:=⟨i,some d,none,k,a4⟩
abbrev pt(i:Nat)(k:af):bp:=⟨i,none,none,k,[]⟩
abbrev cZ(ck cm cU dP:Nat):bp:=a2 ck cm (.pE (E cU) (.const (.bool true)) (E dP))
abbrev da(ck cm cU:Nat):bp:=c9 ck cm .add (E cU) (.const (.int .i64 1))
abbrev di(ck cm cU dP:Nat):bp:=a2 ck cm (.pE (E cU) (E dP) (.const (.bool false)))
abbrev dq(ck cm cU dP:Nat):bp:=c9 ck cm .lss (E cU) (E dP)
abbrev dr(ck cm cU dP gw:Nat):bp:=b7 ck cm cU [E dP,E gw]
abbrev dG(ck cm cU dP:Nat):bp:=cw ck cm cU false (.nf (E dP))
abbrev dT(ck cm cU:Nat):bp:=a2 ck cm (.l0 (E cU))
abbrev dZ(ck cm cU gw:Nat):bp:=cw ck cm cU false (.kx false 1 (E gw))
abbrev ea(ck cm cU dP gw:Nat):bp:=cw ck cm cU true (.rF dP (E gw))
abbrev ep(ck cm cU gw:Nat):bp:=cw ck cm cU true (.kx false 1 (E gw))
abbrev ew(ck cm cU dP gw:Nat):bp:=cw ck cm cU false (.rF dP (E gw))
abbrev eN(ck cm:Nat):bp:=a2 ck cm (.nf (.const (.slice none 0 0)))
abbrev e0(ck cm cU dP:Nat):bp:=cw ck cm cU true (.nf (E dP))
abbrev gI(ck cm cU dP:Nat):bp:=c9 ck cm .add (E cU) (E dP)
abbrev ht(ck cm cU:Nat):bp:=a2 ck cm (.qv .not (E cU))
abbrev h6(ck:Nat)(cm:Nat)(cU:Nat)(dP:Int):bp:=c9 ck cm .sub (E cU) (.const (.int .i64 dP))
abbrev iC(ck cm cU dP gw qx:Nat):bp:=a2 ck cm (.app cU dP (E gw) (E qx))
abbrev iD(ck cm cU:Nat):bp:=a2 ck cm (.ti (E cU))
abbrev iE(ck cm cU dP gw:Nat):bp:=cw ck cm cU true (.kx true dP (E gw))
abbrev iF(ck cm cU dP:Nat):bp:=cw ck cm cU false (.qv .not (E dP))
abbrev iM(ck cm cU dP:Nat):bp:=cw ck cm cU false (.r2 (E dP))
abbrev jn(ck cm cU:Nat):bp:=a2 ck cm (.rz .u64 (E cU))
abbrev jC(ck:Nat)(cm:Nat)(cU:Nat)(dP:Int):bp:=c9 ck cm .eql (E cU) (.const (.int .i64 dP))
abbrev jD(ck cm cU dP gw:Nat):bp:=cw ck cm cU false (.dm dP [E gw])
abbrev kO(ck:Nat)(cm:Nat)(cU:Nat)(dP:Int):bp:=c9 ck cm .gtr (E cU) (.const (.int .i64 dP))
abbrev kP(ck:Nat)(cm:Nat)(cU:Nat)(dP:Nat)(gw:Int):bp:=b7 ck cm cU [E dP,.const (.int .i64 gw)]
abbrev kQ(ck:Nat)(cm:Nat)(cU:Int)(dP:Nat):bp:=c9 ck cm .add (.const (.int .i64 cU)) (E dP)
abbrev lz(ck:Nat)(cm:Nat)(cU:Nat)(dP:Int):bp:=c9 ck cm .lss (E cU) (.const (.int .i64 dP))
abbrev lA(ck cm cU dP:Nat):bp:=cw ck cm cU true (.r2 (E dP))
abbrev lB(ck:Nat)(cm:Nat)(cU:Nat)(dP:Nat)(gw:Int):bp:=cw ck cm cU false (.fg .gtr .gl (E dP) (.const (.int .i64 gw)))
abbrev me(ck cm cU dP gw:Nat):bp:=cw ck cm cU true (.dm dP [E gw])
abbrev mH(ck cm cU dP gw:Nat):bp:=cw ck cm cU false (.kx true dP (E gw))
abbrev nD(ck:Nat)(cm:Nat)(cU:Nat)(dP:Nat)(gw:Int):bp:=cw ck cm cU true (.fg .leq .gl (E dP) (.const (.int .i64 gw)))
abbrev nE(ck cm cU:Nat):bp:=a2 ck cm (.rz .u32 (E cU))
abbrev n4(ck cm dP gw:Nat):bp:=a2 ck cm (.mQ 1 (E dP) none (some (E gw)))
abbrev oG(ck:Nat)(cm:Nat)(cU:Nat)(dP:Int):bp:=c9 ck cm .geq (E cU) (.const (.int .i64 dP))
abbrev py(ck cm cU dP gw qx:Nat):bp:=cw ck cm cU false (.qc dP (E gw) (E qx))
abbrev pz(ck cm cU dP gw qx:Nat):bp:=cw ck cm cU true (.qc dP (E gw) (E qx))
abbrev q2(ck cm NW:Nat):bp:=a2 ck cm (.fR 1 1 [.int .i64 0] [(0,1,E NW)])
abbrev q3(ck cm cU dP:Nat):bp:=cw ck cm cU true (.fg .sub .gl (E dP) (.const (.int .i64 1)))
abbrev rZ(ck cm cU dP:Nat):bp:=cw ck cm cU true (.qv .not (E dP))
abbrev r0(ck cm cU:Nat):bp:=c9 ck cm .neq (E cU) (.const (.int .i64 0))
abbrev s5(ck:Nat)(cm:Nat)(cU:Nat)(dP:Nat)(gw:Int):bp:=cw ck cm cU true (.fg .eql .gl (E dP) (.const (.int .i64 gw)))
abbrev uw(ck:Nat)(cm:Nat)(cU:Int):bp:=a2 ck cm (.nf (.const (.int .u64 cU)))
abbrev ux(ck cm cU dP gw sk:Nat):bp:=cw ck cm cU true (.dm dP [E gw,.const (.int .i64 0),E sk])
abbrev vW(ck cm NU:Nat):bp:=a2 ck cm (.fR 3 1 [.bool false,.slice none 0 0,.slice none 0 0] [(0,3,E NU)])
abbrev vX(ck:Nat)(cm:Nat)(cU:Nat)(dP:Int)(gw:Int):bp:=b7 ck cm cU [.const (.int .i64 dP),.const (.int .i64 gw)]
abbrev vY(ck cm cU dP gw qx sk NW af5:Nat):bp:=iv ck cm (.dm cU [E dP,E gw]) [(E qx,E sk),(E NW,E af5)]
abbrev vZ(ck cm cU dP gw:Nat):bp:=cw ck cm cU false (.fg .neq .gl (E dP) (E gw))
abbrev v3(ck cm qx sk:Nat):bp:=a2 ck cm (.jY 1 4 [.int .u32 0] (E qx) (E sk))
abbrev x0(ck cm cU dP:Nat):bp:=a2 ck cm (.qc cU (E dP) (.const (.int .i64 0)))
abbrev x1(ck cm sk:Nat):bp:=a2 ck cm (.fR 1 1 [.string ⟨#[]⟩] [(0,1,E sk)])
abbrev x2(ck:Nat)(cm:Nat)(cU:Nat)(dP:Int):bp:=c9 ck cm .shr (E cU) (.const (.int .u64 dP))
abbrev z6(ck cm cU dP:Nat):bp:=cw ck cm cU false (.fg .lss .gl (E dP) (.const (.int .i64 0)))
abbrev z7(ck cm cU dP gw:Nat):bp:=cw ck cm cU false (.fg .geq .gl (E dP) (E gw))
abbrev z8(ck cm cU dP:Nat):bp:=cw ck cm cU false (.fg .eql .gl (E dP) (.const (.int .i64 0)))
abbrev z9(ck:Nat)(cm:Nat)(cU:Nat)(dP:Nat)(gw:Nat)(sk:Int):bp:=cw ck cm cU true (.dm dP [E gw,.const (.int .i64 1),.const (.int .i64 sk)])
abbrev Aa(ck:Nat)(cm:Nat)(cU:Nat)(dP:Nat)(gw:Int)(qx:Int):bp:=b7 ck cm cU [E dP,.const (.int .i64 gw),.const (.int .i64 qx)]
abbrev Ab(ck cm gw qx:Nat):bp:=a2 ck cm (.jY 1 1 [.bool false] (E gw) (E qx))
abbrev Ac(ck:Nat)(cm:Nat)(cU:Nat)(dP:Nat)(gw:Int):bp:=cw ck cm cU true (.fg .leq .gl (E dP) (.const (.int .u8 gw)))
abbrev C5(ck:Nat)(cm:Nat)(af3:UInt8)(NV:Int)(af4:Int)(azw:Nat):bp:=a2 ck cm (.eY [.string ⟨#[]⟩,.int .i64 0,.int .i64 0,.int .i64 0,.bool false,.slice none 0 0,.slice none 0 0] [(0,1,.const (.string ⟨#[af3]⟩)),(1,1,.const (.int .i64 NV)),(2,1,.const (.int .i64 af4)),(3,1,.const (.int .i64 1)),(4,3,E azw)])
abbrev C6(ck cm cU dP:Nat):bp:=cw ck cm cU false (.fg .neq .gl (E dP) (.const (.int .i64 0)))
abbrev C7(ck cm NU:Nat):bp:=a2 ck cm (.fR 4 1 [.int .i64 0,.int .i64 0,.int .i64 0,.int .i64 0] [(0,4,E NU)])
abbrev Hk(ck cm cU dP:Nat):bp:=cw ck cm cU true (.fg .gtr .gl (E dP) (.const (.int .i64 0)))
abbrev Mi(ck:Nat)(cm:Nat)(sk:UInt8)(af6:Int):bp:=a2 ck cm (.eY [.string ⟨#[]⟩,.int .i64 0,.int .i64 0] [(0,1,.const (.string ⟨#[sk]⟩)),(2,1,.const (.int .i64 af6))])
abbrev Mj(ck:Nat)(cm:Nat)(gw:Int):bp:=iv ck cm (.dm 59 [.const (.int .i64 1),.const (.int .i64 gw)]) [(E 1,E 1),(E 1,E 1),(E 1,E 1),(E 1,E 1),(E 1,E 1),(E 1,E 1),(E 1,E 1),(E 1,E 1),(E 1,E 1),(E 1,E 1)]
abbrev Sc(ck cm azx:Nat):bp:=a2 ck cm (.fR 17 1 [.string ⟨#[]⟩,.int .i64 0,.int .i64 0,.int .i64 0,.int .i64 0,.int .i64 0,.int .i64 0,.int .i64 0,.int .i64 0,.slice none 0 0,.slice none 0 0,.bool false,.slice none 0 0,.slice none 0 0,.bool false,.slice none 0 0,.slice none 0 0] [(0,17,E azx)])
abbrev Sd(ck cm NV:Nat):bp:=a2 ck cm (.eY [.string ⟨#[]⟩,.int .i64 0,.int .i64 0,.int .i64 0,.bool false,.slice none 0 0,.slice none 0 0] [(2,1,.const (.int .i64 (-1))),(4,3,E NV)])
attribute [simp] cZ da di dq dr dG dT dZ ea ep ew eN e0 gI ht h6 iC iD iE iF iM jn jC jD kO kP kQ lz lA lB me mH nD nE n4 oG py pz q2 q3 rZ r0 s5 uw ux vW vX vY vZ v3 x0 x1 x2 z6 z7 z8 z9 Aa Ab Ac C5 C6 C7 Hk Mi Mj Sc Sd
attribute [simp] E A ba cu aA b2 aL c9 bH bO cE b7 b4 a2 cw iv pt
section
variable {m:W} {b ca k:Nat} {x y:Option fq} {I:fq}
@[simp] theorem mg:(m.a0 b x).next=m.next:=rfl
@[simp] theorem Aq:(m.dp k).next=m.next+k:=rfl
theorem bn(h:m.X b=some I):b<m.next:=by
  unfold W.X at h;split at h
  · assumption
  · cases h
theorem ej(h:b<m.next):(m.a0 b x).X b=x:=by simp[W.X,W.a0,h]
theorem bW(h:ca≠b):(m.a0 b x).X ca=m.X ca:=by simp[W.X,W.a0,h]
theorem e6(h:b<m.next):(m.dp k).X b=m.X b:=by
  have:b<m.next+k:=by omega
  simp[W.X,W.dp,h,this]
@[simp] theorem aG3{a9:List (Value×Value)}:(m.gL b a9).next=m.next:=rfl
theorem aW:(∀(m:W) (b:Nat) (x:Option fq),(m.a0 b x).next=m.next)/\(∀(m:W) (k:Nat),(m.dp k).next=m.next+k)/\ ∀(m:W) (b:Nat) (a9:List (Value×Value)),(m.gL b a9).next=m.next:=⟨λ_ _ _=>rfl,λ_ _=>rfl,λ_ _ _=>rfl⟩
theorem E0{a9:List (Value×Value)}(h:b<m.next):(m.gL b a9).X b=some ⟨[],true⟩:=by simp[W.X,W.gL,h]
theorem mz{a9:List (Value×Value)}(h:ca≠b):(m.gL b a9).X ca=m.X ca:=by simp[W.X,W.gL,h]
theorem EY{a9:List (Value×Value)}(h:b<m.next):(m.gL b a9).eK b=some a9:=by simp[W.eK,E0 h];simp[W.gL]
theorem EX{a9:List (Value×Value)}(h:ca≠b):(m.gL b a9).eK ca=m.eK ca:=by simp[W.eK,mz h];simp[W.gL,h]
theorem sH(h:ca≠b):(m.a0 b x).eK ca=m.eK ca:=by simp[W.eK,bW h];rfl
theorem O1(h:b<m.next):(m.dp k).eK b=m.eK b:=by simp[W.eK,e6 h];rfl
theorem awk:(m.a0 b x).a0 b y=m.a0 b y:=by simp only[W.a0,W.mk.injEq,true_and,and_true];funext i;by_cases h:i=b<;>simp[h]
@[simp] theorem ag0{a o n:Nat}:gn m (.pointer (some ⟨a,o,none⟩)) n=(match m.X a with|some x=>decide (o+n<=x.cells.length)|none=>false):=rfl
@[simp] theorem Ve{a o:Nat}:o9 m (.pointer (some ⟨a,o,none⟩))=(match m.X a with|some x=>x.own|none=>false):=rfl
@[simp] theorem auO{a o n:Nat}{dd:Bool}:kg m dd n (.pointer (some ⟨a,o,none⟩))=if dd then .agg (hk m a o n).toArray else(hk m a o 1).headD undef:=rfl
@[simp] theorem VO{a o n:Nat}:hk m a o n=match m.X a with|some x=>(x.cells.drop o).take n|none=>[]:=rfl
@[simp] theorem ayv{a o:Nat}{cs:List Value}:nq m (.pointer (some ⟨a,o,none⟩)) cs=match m.X a with|some x=>m.a0 a (some ⟨gy x.cells o cs,x.own⟩)|none=>m:=rfl
@[simp] theorem ae8{a o l c n:Nat}:fP m n (.slice (some ⟨a,o,none⟩) l c)=(c==n&&(match m.X a with|some x=>decide (o+l*n<=x.cells.length)|none=>false)):=rfl
@[simp] theorem aLy{n:Nat}:fP m n (.slice none 0 0)=true:=rfl
@[simp] theorem aLA{a o l c:Nat}:jS m (.slice (some ⟨a,o,none⟩) l c)=(match m.X a with|some x=>x.own|none=>false):=rfl
@[simp] theorem aLz{l c:Nat}:jS m (.slice none l c)=true:=rfl
@[simp] theorem ayp{a o l c n:Nat}:fZ m n (.slice (some ⟨a,o,none⟩) l c)=hk m a o (l*n):=rfl
@[simp] theorem aLt{l c n:Nat}:fZ m n (.slice none l c)=[]:=rfl
@[simp] theorem aGu{a o l c:Nat}:kf m (.slice (some ⟨a,o,none⟩) l c)=m.a0 a none:=rfl
@[simp] theorem aGt{l c:Nat}:kf m (.slice none l c)=m:=rfl
end
theorem fx{n:Int}(D: -9223372036854775808<=n)(H:n<=9223372036854775807):IntKind.i64.wrap n=n:=IntWalk.i64_in n ⟨D,H⟩
theorem g3{n:Nat}(h:n<9223372036854775807):IntKind.i64.wrap ((n:Int)+1)=(n:Int)+1:=fx (by omega) (by omega)
theorem jz{c4:Type}{l:List c4}{i:Nat}(h:i<l.length): ∃x,l[i]?=some x:=⟨_,List.getElem?_eq_getElem h⟩
section
variable {P:Program} {z:aM} {m:W} {Q:du->aM->W->Prop}
def x4(cx:aM->W->Prop)(Q:du->aM->W->Prop)(e:du)(z:aM)(m:W):Prop:=match e with| .er=>cx z m|e=>Q e z m
@[simp] theorem aGO{cx:aM->W->Prop}:x4 cx Q .er z m=cx z m:=rfl
@[simp] theorem aGN{cx:aM->W->Prop}{id:Nat}:x4 cx Q (.bh id) z m=Q (.bh id) z m:=rfl
@[simp] theorem aGP{cx:aM->W->Prop}:x4 cx Q .aI z m=Q .aI z m:=rfl
theorem DV{c:J}(h: ∀cx:aM->W->Prop,(∀ae an,hG P (.loop c) ae an Q->cx ae an)->hG P c z m (x4 cx Q)):hG P (.loop c) z m Q:=by rw[afX];refine(h (λae an=>hG P (.loop c) ae an Q) (λ_ _ h=>h)).b6 λe ae an h=> ?_;cases e<;>exact h
def Kh(P:Program)(a8:List (TypeId×Nat×Option (Bool×Nat)))(v:Value)(args:List Value)(m:W)(cd:Value->W->Prop):Prop:=match v with
  | .iface t v=>match a8.find? (λr=>r.1==t)with
    |some (_,f,none)=>gd P f (v::args) m cd
    |some (_,f,some (dd,n))=>(gn m v n&&(dd||decide (n=1)))=true/\gd P f (kg m dd n v::args) m cd
    |none=>False
  |_=>False
theorem azp{base aN:Nat}{d:Option Nat}{bR:List bp}{aT:aM->W->Prop}{a4:List (Operand×Operand)}{a8:List (TypeId×Nat×Option (Bool×Nat))}{x:Operand}{bz:List Operand}:
    hc P base (⟨aN,d,none,.kv a8 x bz,a4⟩::bR) z m aT=Kh P a8 (Y z x) (bz.map (Y z)) m (vk P base d a4 bR z m aT):=by
  have PF:(af.kv a8 x bz).fb z m=none->hc P base (⟨aN,d,none,.kv a8 x bz,a4⟩::bR) z m aT=False:= λgj=>by refine propext ⟨λ⟨n,ae,an,h,q⟩=> ?_,False.elim⟩;obtain⟨bI,bg,D,_,_⟩:=qo h;obtain⟨ao,_⟩:=T6 (o:=⟨aN,d,none,.kv a8 x bz,a4⟩) rfl gj D;cases ao
  unfold Kh;split
  · rename_i t v ad;split
    · rename_i r f az;exact NQ (by simp only[af.fb,ad,az])
    · rename_i r f dd n az;by_cases ao:(gn m v n&&(dd||decide (n=1)))=true
      · rw[NQ (f:=f) (args:=kg m dd n v::bz.map (Y z)) (by simp only[af.fb,ad,az,ao,if_true])];simp only[ao,true_and]
      · rw[PF (by simp only[af.fb,ad,az,if_neg ao])];exact propext ⟨False.elim,λh=>absurd h.1 ao⟩
    · rename_i az;rw[PF (by simp only[af.fb,ad,az])]
  · rename_i ad;refine PF ?_;simp only[af.fb]
@[simp] theorem azo{base aN:Nat}{d:Option Nat}{bR:List bp}{aT:aM->W->Prop}{a4:List (Operand×Operand)}{a8:List (TypeId×Nat×Option (Bool×Nat))}{x:Operand}{bz:List Operand}:
    hc P base (⟨aN,d,none,.kv a8 x bz,a4⟩::bR) z m aT=Kh P a8 (Y z x) (bz.map (Y z)) m (vk P base d a4 bR z m aT):=azp
end
@[simp] theorem aGB{d gJ:Value}{l:List Value}:(gJ::l)[0]?.getD d=gJ:=rfl
@[simp] theorem aGC{d gJ bw:Value}{l:List Value}:(gJ::bw::l)[1]?.getD d=bw:=rfl
@[simp] theorem aGD{d gJ bw bJ:Value}{l:List Value}:(gJ::bw::bJ::l)[2]?.getD d=bJ:=rfl
@[simp] theorem aGE{d gJ bw bJ cb:Value}{l:List Value}:(gJ::bw::bJ::cb::l)[3]?.getD d=cb:=rfl
@[simp] theorem aGF{d gJ bw bJ cb eI:Value}{l:List Value}:(gJ::bw::bJ::cb::eI::l)[4]?.getD d=eI:=rfl
@[simp] theorem aGG{d gJ bw bJ cb eI fm:Value}{l:List Value}:(gJ::bw::bJ::cb::eI::fm::l)[5]?.getD d=fm:=rfl
@[simp] theorem aGH{d gJ bw bJ cb eI fm hy:Value}{l:List Value}:(gJ::bw::bJ::cb::eI::fm::hy::l)[6]?.getD d=hy:=rfl
@[simp] theorem aGI{d gJ bw bJ cb eI fm hy jK:Value}{l:List Value}:(gJ::bw::bJ::cb::eI::fm::hy::jK::l)[7]?.getD d=jK:=rfl
attribute [simp] af.ok af.val af.gu
section
variable {p:Option Addr} {a:Addr} {l c I i j:Nat}
@[simp] theorem q4{s:ByteArray}:h2 (.string s)=s.size:=rfl
@[simp] theorem aGy:h2 (.slice p l c)=l:=rfl
@[simp] theorem aF6:xY (.slice p l c)=true:=rfl
@[simp] theorem aLu:gv (.slice p l c)=l:=rfl
@[simp] theorem aLm{b o:Nat}:mP I (.slice (some ⟨b,o,none⟩) l c)=(c==I):=rfl
@[simp] theorem aLf{b o:Nat}{n:Int}:wG (.slice (some ⟨b,o,none⟩) l c) I n= .pointer (some ⟨b,o+n.toNat*I,none⟩):=rfl
@[simp] theorem aLr{b o:Nat}:oS (.slice (some ⟨b,o,none⟩) l c) I i j= .slice (some ⟨b,o+i*I,none⟩) (j-i) c:=rfl
@[simp] theorem aLl:mP I (.slice none 0 0)=true:=rfl
@[simp] theorem aLq:oS (.slice none 0 0) I i j= .slice none 0 0:=rfl
end
@[simp] theorem aMF{n:Nat}:min n IntKind.u64.bits=min n 64:=rfl
@[simp] theorem aMD{n:Nat}:min n IntKind.u32.bits=min n 32:=rfl
attribute [simp] ej bW e6 awk
open Go Go.RowKit
structure e4(cL:Nat->Prop)(fs m ah:W):Prop where
  next:ah.next=m.next
  uZ:fs.next<=m.next
  cp: ∀b,cL b->b<m.next
  off: ∀b,cL b->m.X b=none
  bA: ∀b,cL b->ah.X b=fs.X b/\ah.mp b=fs.mp b
  eq: ∀b,¬cL b->ah.X b=m.X b
  mp:ah.mp=m.mp
section
variable {cL:Nat->Prop} {fs m ah:W}
theorem e4.js(K:e4 cL fs m ah){b:Nat}{x:fq}(h:m.X b=some x): ¬cL b:= λay=>by rw[K.off b ay]at h;cases h
theorem e4.X(K:e4 cL fs m ah){b:Nat}{x:fq}(h:m.X b=some x):ah.X b=some x:=by rw[K.eq b (K.js h),h]
theorem e4.eK(K:e4 cL fs m ah){b:Nat}{e:List (Value×Value)}(h:m.eK b=some e):ah.eK b=some e:=by
  unfold W.eK at h⊢;cases aF:m.X b with
  |none=>rw[aF]at h;cases h
  |some x=>rw[aF]at h;rw[K.X aF,K.mp];exact h
theorem e4.O2(K:e4 cL fs m ah){b:Nat}{e:List (Value×Value)}(h:m.eK b=some e): ¬cL b:=by
  unfold W.eK at h;cases aF:m.X b with
  |none=>rw[aF]at h;cases h
  |some x=>exact K.js aF
theorem e4.a0(K:e4 cL fs m ah){b:Nat}(hb: ¬cL b)(x:Option fq):e4 cL fs (m.a0 b x) (ah.a0 b x) where
  next:=K.next
  uZ:=K.uZ
  cp:=K.cp
  off c ar:=by rw[bW (show c≠b from λh=>hb (h▸ar)),K.off c ar]
  bA c ar:=⟨by rw[bW (show c≠b from λh=>hb (h▸ar)),(K.bA c ar).1],(K.bA c ar).2⟩
  eq c ar:=by
    by_cases h:c=b
    · subst h;simp only[W.X,W.a0,K.next,if_true]
    · rw[bW h,bW h,K.eq c ar]
  mp:=K.mp
theorem e4.gL(K:e4 cL fs m ah){b:Nat}(hb: ¬cL b)(e:List (Value×Value)):e4 cL fs (m.gL b e) (ah.gL b e) where
  next:=K.next
  uZ:=K.uZ
  cp:=K.cp
  off c ar:=by rw[mz (show c≠b from λh=>hb (h▸ar)),K.off c ar]
  bA c ar:=by refine⟨by rw[mz (show c≠b from λh=>hb (h▸ar)),(K.bA c ar).1],by show(if c=b then some e else ah.mp c)=_;rw[if_neg (show c≠b from λh=>hb (h▸ar))];exact(K.bA c ar).2⟩
  eq c ar:=by
    by_cases h:c=b
    · subst h;simp only[W.X,W.gL,K.next,if_true]
    · rw[mz h,mz h,K.eq c ar]
  mp:=by show(λi=>if i=b then some e else ah.mp i)=_;rw[K.mp];rfl
theorem e4.dp(K:e4 cL fs m ah)(k:Nat):e4 cL fs (m.dp k) (ah.dp k) where
  next:=by show ah.next+k=m.next+k;rw[K.next]
  uZ:=by have:=K.uZ;show fs.next<=m.next+k;omega
  cp b hb:=by have:=K.cp b hb;show b<m.next+k;omega
  off b hb:=by rw[e6 (K.cp b hb),K.off b hb]
  bA b hb:=⟨by rw[e6 (by rw[K.next];exact K.cp b hb),(K.bA b hb).1],(K.bA b hb).2⟩
  eq b hb:=by
    by_cases h:b<m.next
    · rw[e6 h,e6 (by rw[K.next];exact h),K.eq b hb]
    · simp[W.X,W.dp,K.next,h]
  mp:=K.mp
theorem e4.gn(K:e4 cL fs m ah){v:Value}{n:Nat}(h:gn m v n=true):gn ah v n=true:=by
  unfold DI.gn at h⊢;split at h
  · rename_i a;simp only[aY]at h⊢;refine⟨h.1,?_⟩;cases aF:m.X a.block with
    |none=>rw[aF]at h;simp at h
    |some x=>rw[aF]at h;rw[K.X aF];exact h.2
  · cases h
theorem e4.o9(K:e4 cL fs m ah){v:Value}(h:o9 m v=true):o9 ah v=true:=by
  unfold DI.o9 at h⊢;split at h
  · rename_i a;cases aF:m.X a.block with
    |none=>rw[aF]at h;cases h
    |some x=>rw[aF]at h;rw[K.X aF];exact h
  · cases h
theorem e4.kg(K:e4 cL fs m ah){v:Value}{n:Nat}{dd:Bool}(h:DI.gn m v n=true):kg ah dd n v=kg m dd n v:=by
  unfold DI.gn at h;split at h
  · rename_i a;simp only[aY]at h;cases aF:m.X a.block with
    |none=>rw[aF]at h;simp at h
    |some x=>simp only[DI.kg,hk,aF,K.X aF]
  · cases h
theorem e4.nq(K:e4 cL fs m ah){v:Value}{n:Nat}{cs:List Value}(h:DI.gn m v n=true):e4 cL fs (nq m v cs) (nq ah v cs):=by
  unfold DI.gn at h;split at h
  · rename_i a;simp only[aY]at h;cases aF:m.X a.block with
    |none=>rw[aF]at h;simp at h
    |some x=>simp only[DI.nq,aF,K.X aF];exact K.a0 (K.js aF) _
  · cases h
theorem e4.fP(K:e4 cL fs m ah){v:Value}{I:Nat}(h:fP m I v=true):fP ah I v=true:=by
  unfold DI.fP at h⊢;split at h
  · exact h
  · rename_i a l c;simp only[aY]at h⊢;refine⟨h.1,?_⟩;cases aF:m.X a.block with
    |none=>rw[aF]at h;simp at h
    |some x=>rw[aF]at h;rw[K.X aF];exact h.2
  · cases h
theorem e4.jS(K:e4 cL fs m ah){v:Value}(h:jS m v=true):jS ah v=true:=by
  unfold DI.jS at h⊢;split at h
  · rfl
  · rename_i a l c;cases aF:m.X a.block with
    |none=>rw[aF]at h;cases h
    |some x=>rw[aF]at h;rw[K.X aF];exact h
  · cases h
theorem e4.fZ(K:e4 cL fs m ah){v:Value}{I:Nat}(h:DI.fP m I v=true):fZ ah I v=fZ m I v:=by
  unfold DI.fP at h;split at h
  · rfl
  · rename_i a l c;simp only[aY]at h;cases aF:m.X a.block with
    |none=>rw[aF]at h;simp at h
    |some x=>simp only[DI.fZ,hk,aF,K.X aF]
  · cases h
theorem e4.kf(K:e4 cL fs m ah){v:Value}{I:Nat}(h:DI.fP m I v=true):e4 cL fs (kf m v) (kf ah v):=by
  unfold DI.fP at h;split at h
  · exact K
  · rename_i a l c;simp only[aY]at h;cases aF:m.X a.block with
    |none=>rw[aF]at h;simp at h
    |some x=>exact K.a0 (K.js aF) _
  · cases h
theorem e4.mv(K:e4 cL fs m ah){v:Value}{I:Nat}{cs:List Value}(h:DI.fP m I v=true):e4 cL fs (mv m cs v) (mv ah cs v):=by
  unfold DI.fP at h;split at h
  · exact K
  · rename_i a l c;simp only[aY]at h;cases aF:m.X a.block with
    |none=>rw[aF]at h;simp at h
    |some x=>simp only[DI.mv,aF,K.X aF];exact K.a0 (K.js aF) _
  · cases h
theorem e4.jX(K:e4 cL fs m ah){v:Value}{a9:List (Value×Value)}(h:jX m v=some a9):jX ah v=some a9:=by
  unfold DI.jX at h⊢;split at h
  · exact h
  · exact K.eK h
  · cases h
theorem HB(K:e4 cL fs m ah){k:af}{z:aM}(h:k.ok z m=true):k.ok z ah=true:=by
  cases k with
  |oT I n y=>simp only[af.ok,aY]at h⊢;exact⟨K.gn h.1,h.2⟩
  |kx dd n x=>simp only[af.ok,aY]at h⊢;exact⟨K.gn h.1,h.2⟩
  |store n x v=>simp only[af.ok,aY]at h⊢;exact⟨⟨⟨K.gn h.1.1.1,K.o9 h.1.1.2⟩,h.1.2⟩,h.2⟩
  |mw x=>simp only[af.ok,aY]at h⊢;exact⟨K.fP h.1,by rw[K.fZ h.1];exact h.2⟩
  |app I bytes x y=>simp only[af.ok,aY]at h⊢;exact⟨⟨⟨⟨⟨K.fP h.1.1.1.1.1,K.jS h.1.1.1.1.2⟩,K.fP h.1.1.1.2⟩,h.1.1.2⟩,h.1.2⟩,h.2⟩
  |hl I x=>simp only[af.ok,aY]at h⊢;exact⟨⟨K.fP h.1.1,K.jS h.1.2⟩,h.2⟩
  | nd a4 I o x fK=>
    simp only[af.ok]at h⊢;cases av:DI.jX m (Y z x)with
    |none=>rw[av]at h;cases h
    |some a9=>rw[av]at h;rw[K.jX av];exact h
  | lR a4 x fK v=>
    simp only[af.ok]at h⊢;split at h
    · rename_i ck b hb;cases av:m.eK b with
      |none=>rw[av]at h;cases h
      |some a9=>rw[av]at h;rw[K.eK av];exact h
    · cases h
  |_=>exact h
theorem Iv(K:e4 cL fs m ah){k:af}{z:aM}{id:Nat}(h:k.ok z m=true):k.val id z ah=k.val id z m:=by
  cases k with
  |kx dd n x=>simp only[af.ok,aY]at h;exact K.kg h.1
  |mw x=>simp only[af.ok,aY]at h;simp only[af.val,K.fZ h.1]
  | nd a4 I o x fK=>
    simp only[af.ok]at h;cases av:DI.jX m (Y z x)with
    |none=>rw[av]at h;cases h
    |some a9=>simp only[af.val,av,K.jX av]
  |_=>rfl
theorem Hv(K:e4 cL fs m ah){k:af}{z:aM}{id:Nat}(eg: ¬cL id)(h:k.ok z m=true):e4 cL fs (k.gu id z m) (k.gu id z ah):=by
  cases k with
  |dz I=>exact K.a0 eg _
  |l0 x=>exact K.a0 eg _
  |fR a b c d=>exact K.a0 eg _
  |ny x=>exact K.a0 eg _
  |lZ a b c d e=>exact K.a0 eg _
  |hl I x=>simp only[af.ok,aY]at h;exact K.mv h.1.1
  |jY a b c d e=>exact K.a0 eg _
  |store n x v=>simp only[af.ok,aY]at h;exact K.nq h.1.1.1
  | app I bytes x y=>
    simp only[af.ok,aY]at h;simp only[af.gu];split
    · exact K
    · rw[K.fZ h.1.1.1.1.1,K.fZ h.1.1.1.2];exact(K.kf h.1.1.1.1.1).a0 eg _
  |nc=>exact K.gL eg _
  | lR a4 x fK v=>
    simp only[af.ok]at h;split at h
    · rename_i ck b hb;cases av:m.eK b with
      |none=>rw[av]at h;cases h
      |some a9=>simp only[af.gu,hb,uC,av,K.eK av];exact K.gL (K.O2 av) _
    · cases h
  |_=>exact K
theorem Jk(K:e4 cL fs m ah){k:af}{z:aM}{kr:Nat×List Value}(h:k.fb z m=some kr):k.fb z ah=some kr:=by
  cases k with
  | kv a8 x args=>
    simp only[af.fb]at h⊢;split at h
    · split at h
      · exact h
      · split at h
        · rename_i ar;simp only[aY]at ar;rw[if_pos (by simp only[aY];exact⟨K.gn ar.1,ar.2⟩),K.kg ar.1];exact h
        · cases h
      · cases h
    · cases h
  |_=>exact h
theorem Oq{m ah:W}{k:af}{z:aM}(h:k.fb z m=none)(ao:k.ok z m=true):k.fb z ah=none:=by
  refine q1 ?_;cases k with
  |dm f a=>simp[af.ok]at ao
  |iy f a=>simp[af.ok]at ao
  |kv f a b=>simp[af.ok]at ao
  |_=>rfl
def IM(cL:Nat->Prop)(fs:W)(bG:Callee):Prop:= ∀f a m r an,bG f a m=some (r,an)-> ∀ah,e4 cL fs m ah-> ∃cg,bG f a ah=some (r,cg)/\e4 cL fs an cg
theorem Sj{an cg:W}(K:e4 cL fs m ah)(cz:e4 cL fs an cg){z:aM}{a4:List (Operand×Operand)}(h:qg z a4 m an):qg z a4 ah cg:= λp ai b hb=>by
  by_cases ay:cL b
  · rw[(K.bA b ay).1,(cz.bA b ay).1]
  · rw[K.eq b ay,cz.eq b ay];exact h p ai b hb
theorem T5{bG:Callee}(b0:IM cL fs bG)(K:e4 cL fs m ah){base:Nat}(hb: ∀b,cL b->b<base){o:bp}{z ae:aM}{an:W}(h:g9 bG base o z m=some (ae,an))(aa:nU o z m an):
    ∃cg,g9 bG base o z ah=some (ae,cg)/\e4 cL fs an cg/\nU o z ah cg:=by
  unfold g9 at h⊢;unfold nU at aa⊢;by_cases aZ:eA z o.g=true
  · rw[if_pos aZ]at h⊢
    replace aa:=aa aZ
    cases ar:o.k.fb z m with
    | none=>
      rw[ar]at h aa;simp only at h aa;split at h
      · rename_i ao;cases h;simp only[Oq ar ao];rw[if_pos (HB K ao),Iv K ao];exact⟨_,rfl,Hv K (λay=>by have:=hb _ ay;omega) ao,λ_=>aa⟩
      · cases h
    | some kr=>
      obtain⟨f,args⟩:=kr;rw[ar]at h aa;simp only at h aa;cases a6:bG f args m with
      |none=>rw[a6]at h;cases h
      | some DT=>obtain⟨v,bg⟩:=DT;rw[a6]at h;cases h;obtain⟨cg,D,cz⟩:=b0 _ _ _ _ _ a6 ah K;simp only[Jk K ar,D];exact⟨_,rfl,cz,λ_=>Sj K cz aa⟩
  · rw[if_neg aZ]at h⊢;cases h;exact⟨ah,rfl,K,λh=>absurd h aZ⟩
theorem wj{bG:Callee}(b0:IM cL fs bG){base:Nat}(hb: ∀b,cL b->b<base): ∀{L:List bp} {z ae:aM} {m an ah:W},e4 cL fs m ah->jG bG base L z m=some (ae,an)-> ∃cg,jG bG base L z ah=some (ae,cg)/\e4 cL fs an cg
  |[],_,_,_,_,ah,K,h=>by cases h;exact⟨ah,rfl,K⟩
  | _::_,_,_,_,_,ah,K,h=>by obtain⟨bI,bg,D,H,aq⟩:=qo h;obtain⟨cT,aQ,cq,a7⟩:=T5 b0 K hb D H;obtain⟨fa,cD,fM⟩:=wj b0 hb cq aq;exact⟨fa,wx aQ a7 cD,fM⟩
theorem Hh{f:aM->W->Option (du×aM×W)}(a6: ∀z m e ae an,f z m=some (e,ae,an)-> ∀ah,e4 cL fs m ah-> ∃cg,f z ah=some (e,ae,cg)/\e4 cL fs an cg):
    ∀{n:Nat} {z:aM} {m:W} {e:du} {ae:aM} {an ah:W},jm f n z m=some (e,ae,an)->e4 cL fs m ah-> ∃cg,jm f n z ah=some (e,ae,cg)/\e4 cL fs an cg
  |0,_,_,_,_,_,_,h,_=>by simp[jm]at h
  | n+1,z,m,e,ae,an,ah,h,K=>by
    rcases Hi h with⟨bI,bg,D,H⟩|⟨D,H⟩
    · obtain⟨cT,aQ,cq⟩:=a6 _ _ _ _ _ D ah K;obtain⟨fa,a7,fM⟩:=Hh a6 H cq;exact⟨fa,by simp only[jm,aQ];exact a7,fM⟩
    · obtain⟨cT,aQ,cq⟩:=a6 _ _ _ _ _ D ah K;refine⟨cT,?_,cq⟩;simp only[jm,aQ];cases e with
      |er=>exact absurd rfl H
      |bh id=>rfl
      |aI=>rfl
theorem BZ{m:W}{b:Nat}:(m8 m).X b=(m.X b).map BY:=by
  unfold W.X;show(if b<m.next then _ else _)=_;by_cases h:b<m.next
  · rw[if_pos h,if_pos h];rfl
  · rw[if_neg h,if_neg h];rfl
theorem e4.m8(K:e4 cL fs m ah):e4 cL (m8 fs) (m8 m) (m8 ah) where
  next:=K.next
  uZ:=K.uZ
  cp:=K.cp
  off b hb:=by rw[BZ,K.off b hb];rfl
  bA b hb:=⟨by rw[BZ,BZ,(K.bA b hb).1],rfl⟩
  eq b hb:=by rw[BZ,BZ,K.eq b hb]
  mp:=rfl
theorem e4.pN(K:e4 cL fs m ah){I:Nat}{v:Value}(h:pN I m v=true):pN I ah v=true:=by
  unfold DI.pN at h⊢;split at h
  · rename_i a l c;cases aF:m.X a.block with
    |none=>rw[aF]at h;cases h
    |some x=>rw[aF]at h;rw[K.X aF];exact h
  · rfl
theorem e4.mI(K:e4 cL fs m ah){o:bp}{z:aM}(h:mI o z m=true):mI o z ah=true:=by
  unfold DI.mI at h⊢;simp only[aY]at h⊢;refine⟨⟨h.1.1,?_⟩,HB K h.2⟩;have:=h.1.2;split at this
  · exact K.pN this
  · cases this
theorem mZ{bG:Callee}(b0: ∀fs,IM cL fs bG){n:Nat}: ∀{c:J} {z ae:aM} {m an ah:W} {e:du},ei bG n c z m=some (e,ae,an)->e4 cL fs m ah-> ∃cg,ei bG n c z ah=some (e,ae,cg)/\e4 cL fs an cg
  | .skip,_,_,_,_,ah,_,h,K=>by cases h;exact⟨ah,rfl,K⟩
  | .F ops,z,ae,m,an,ah,e,h,K=>by
    simp only[ei]at h⊢;split at h
    · rename_i bI bg az;cases h;have cz:e4 cL fs (gW ops m) (gW ops ah):=by
        unfold gW;split
        · exact K.dp _
        · exact K
      obtain⟨cg,g,fM⟩:=wj (b0 fs) (base:=m.next) (λb hb=>K.cp b hb) cz az;refine⟨cg,?_,fM⟩;rw[K.next,g]
    · cases h
  | .qh bP o bR,z,ae,m,an,ah,e,h,K=>by
    simp only[ei]at h⊢;split at h
    · rename_i bI bg D;split at h
      · rename_i ao;split at h
        · rename_i dj dH H;cases h;obtain⟨cT,aQ,cq⟩:=wj (b0 fs) (base:=m.next) (λb hb=>K.cp b hb) (K.dp _) D;have aa:o.k.ok bI bg=true:=(by unfold DI.mI at ao;simp only[aY]at ao;exact ao.2);obtain⟨fa,a7,fM⟩:=wj (b0 _) (base:=m.next) (λb hb=>K.cp b hb) cq.m8 H;rw[K.next,aQ];simp only[cq.mI ao,if_true,Iv cq aa,a7,fM.next,cq.next];exact⟨_,rfl,(Hv cq (λay=>by have:=K.cp _ ay;omega) aa).dp _⟩
        · cases h
      · cases h
    · cases h
  | .B a b,z,ae,m,an,ah,e,h,K=>by
    simp only[ei]at h⊢;split at h
    · rename_i bI bg D;obtain⟨cT,aQ,cq⟩:=mZ b0 D K;obtain⟨fa,a7,fM⟩:=mZ b0 h cq;exact⟨fa,by rw[aQ];exact a7,fM⟩
    · rename_i cW;obtain⟨cT,aQ,cq⟩:=mZ b0 h K;refine⟨cT,?_,cq⟩;rw[aQ];cases e with
      |er=>exact absurd h (cW _ _)
      |bh id=>rfl
      |aI=>rfl
  | .aV x a b,z,ae,m,an,ah,e,h,K=>by
    simp only[ei]at h⊢;split at h
    · rename_i D;rw[if_pos D];split at h
      · rename_i H;rw[if_pos H];exact mZ b0 h K
      · rename_i H;rw[if_neg H];exact mZ b0 h K
    · cases h
  | .block id c,z,ae,m,an,ah,e,h,K=>by
    simp only[ei]at h⊢;split at h
    · rename_i D;obtain⟨cT,aQ,cq⟩:=mZ b0 D K;rw[aQ];simp only;split at h
      · rename_i eg;cases h;exact⟨cT,by rw[if_pos eg],cq⟩
      · rename_i eg;cases h;exact⟨cT,by rw[if_neg eg],cq⟩
    · rename_i cW;obtain⟨cT,aQ,cq⟩:=mZ b0 h K;refine⟨cT,?_,cq⟩;rw[aQ];cases e with
      |er=>rfl
      |bh id=>exact absurd h (cW _ _ _)
      |aI=>rfl
  | .loop c,z,ae,m,an,ah,e,h,K=>by simp only[ei]at h⊢;exact Hh (f:=ei bG n c) (λz m e ae an D ah K=>mZ b0 D K) h K
  | .bh id,_,_,_,_,ah,_,h,K=>by cases h;exact⟨ah,rfl,K⟩
  | .aI,_,_,_,_,ah,_,h,K=>by cases h;exact⟨ah,rfl,K⟩
theorem AE(K:e4 cL fs m ah){z:aM}{r:k3}(h:oQ m z r=true):oQ ah z r=true/\pG ah z r=pG m z r:=by
  cases r with
  |bL t=>exact⟨rfl,rfl⟩
  | hZ t dd n=>simp only[oQ,aY]at h⊢;exact⟨⟨K.gn h.1,h.2⟩,K.kg h.1⟩
theorem S6(K:e4 cL fs m ah){z:aM}{cl:List k3}(h:kU m z cl=true):kU ah z cl=true/\lj ah z cl=lj m z cl:=by
  have az: ∀r∈cl,oQ m z r=true:=by simpa[kU]using h
  refine⟨by simp only[kU,eQ];exact λr av=>(AE K (az r av)).1,?_⟩;unfold lj;split
  · exact(AE K (az _ (by simp))).2
  · rw[yH λr av=>(AE K (az r av)).2]
theorem Ez{P:Program}: ∀n fs,IM cL fs (jy P n)
  |0,_=> λf a m r an h=>by simp[jy]at h
  | n+1,fs=> λf a m r an h ah K=>by
    simp only[jy]at h⊢;split at h
    · rename_i u dv;split at h
      · rename_i e7;rw[if_pos e7];split at h
        · cases h
        · rename_i e ae bg cW gQ;obtain⟨cT,aQ,cq⟩:=mZ (Ez n) gQ K;split at h
          · rename_i az;cases h;obtain⟨a7,cD⟩:=S6 cq az;rw[aQ];refine⟨cT,?_,cq⟩;cases e with
            |er=>simp only[a7,cD,if_true]
            |aI=>simp only[a7,cD,if_true]
            |bh id=>exact absurd rfl (cW id)
          · cases h
        · cases h
      · cases h
    · cases h
end
structure vf(p m:W):Prop where
  next:p.next=m.next
  mp:p.mp=m.mp
  X: ∀b x,p.X b=some x->m.X b=some x
structure agA(p m lD an:W):Prop where
  part:vf lD an
  next:m.next<=an.next
  uG: ∀b,b<m.next->p.X b=none->an.X b=m.X b/\lD.X b=none/\an.mp b=m.mp b
theorem vf.refl(m:W):vf m m:=⟨rfl,rfl,λ_ _ h=>h⟩
theorem gd.frame{P:Program}{f:Nat}{args:List Value}{p m:W}{cd:Value->W->Prop}(ai:vf p m)(h:gd P f args p cd):
    gd P f args m λr an=> ∃lD,cd r lD/\agA p m lD an:=by
  obtain⟨n,r,lD,D,q⟩:=h;have K:e4 (λb=>b<p.next/\p.X b=none) m p m:=by
    refine⟨ai.next.symm,by rw[ai.next];exact dW _,λb hb=>hb.1,λb hb=>hb.2,λb _=>⟨rfl,rfl⟩,λb hb=> ?_,ai.mp.symm⟩;cases aF:p.X b with
    |some x=>exact ai.X b x aF
    | none=>
      have: ¬b<p.next:= λek=>hb ⟨ek,aF⟩
      have H: ¬b<m.next:=by rw[<-ai.next];exact this
      simp only[W.X,H,if_false]
  obtain⟨an,H,cz⟩:=Ez n m _ _ _ _ _ D m K;refine⟨n,r,an,H,lD,q,⟨cz.next.symm,cz.mp.symm,λb x hb=>cz.X hb⟩,?_,λb hb au=> ?_⟩
  · rw[cz.next];exact cz.uZ
  · have ay:b<p.next/\p.X b=none:=⟨by rw[ai.next];exact hb,au⟩
    exact⟨(cz.bA b ay).1,cz.off b ay,(cz.bA b ay).2⟩
inductive fr where
  |int (k:IntKind)
  |bool
  |str
  |slice (e:fr)
  |unit
  |nk (a b:fr)
abbrev fr.cL:fr->Type
  | .int _=>Int
  | .bool=>Bool
  | .str=>ByteArray
  | .slice e=>List e.cL
  | .unit=>Unit
  | .nk a b=>a.cL×b.cL
def fr.cells:fr->Nat
  | .unit=>0
  | .nk a b=>a.cells+b.cells
  |_=>1
def fr.cp:fr->Nat
  | .int .u32=>4
  |_=>1
theorem fr.auN(s:fr):1<=s.cp:=by unfold fr.cp;split<;>omega
theorem fr.auM(s:fr){n k:Nat}(h:n*s.cp<=k):n<=k:=kZ (Nat.le_mul_of_pos_right n s.auN) h
def fr.isAgg:fr->Bool
  | .unit| .nk _ _=>true
  |_=>false
def p8(P:Program)(h:TypeId->fr->Bool):Nat->List Field->fr->Bool
  |_,[],.unit=>true
  |off,f::eo,.nk a b=>f.offset==off&&h f.type a&&P.cellsOf f.type==a.cells&&p8 P h (off+a.cells) eo b
  |_,_,_=>false
def p7(h:fr->Bool)(I:Nat):Nat->fr->Bool
  |0,.unit=>true
  |n+1,.nk a b=>h a&&a.cells==I&&p7 h I n b
  |_,_=>false
def xj(P:Program):Nat->TypeId->fr->Bool
  |0,_,_=>false
  | n+1,t,s=>match P.underlying t,s with
    |some (.int k),.int eX=>decide (k=eX)
    |some .bool,.bool=>true
    |some .string,.str=>true
    |some (.slice e),.slice kV=>xj P n e kV&&P.cellsOf e==kV.cells&&decide (0<kV.cells)&&decide (kV.cp<=P.bytesOf e)
    |some (.struct eo),s=>s.isAgg&&P.cellsOf t==s.cells&&p8 P (xj P n) 0 eo.toList s
    |some (.array k e),s=>s.isAgg&&P.cellsOf t==s.cells&&p7 (xj P n e) (P.cellsOf e) k s
    |_,_=>false
abbrev pb{e:fr}(l:(fr.slice e).cL):List e.cL:=l
def pT(m:W):(s:fr)->List Value->s.cL->Prop
  | .int k,cs,n=>cs=[.int k n]/\(Lit.int k n).wf=true
  | .bool,cs,b=>cs=[.bool b]
  | .str,cs,s=>cs=[.string s]/\s.size<=reachBytes
  | .slice e,cs,l=>(cs=[.slice none 0 0]/\pb l=[])\/ ∃(b:Nat) (a8:List (List Value)),cs=[.slice (some ⟨b,0,none⟩) (pb l).length e.cells]/\m.X b=some ⟨a8.flatten,false⟩/\(pb l).length*e.cp<=reachBytes/\a8.length=(pb l).length/\(∀(i:Nat) (r:List Value) (d:e.cL),a8[i]?=some r->(pb l)[i]?=some d->pT m e r d)
  | .unit,cs,_=>cs=[]
  | .nk a b,cs,d=> ∃ch c6,cs=ch++c6/\pT m a ch d.1/\pT m b c6 d.2
theorem pT.len{m:W}: ∀{s:fr} {cs:List Value} {d:s.cL},pT m s cs d->cs.length=s.cells
  | .int _,_,_,h=>by rw[h.1];rfl
  | .bool,cs,d,h=>by have:cs=[.bool d]:=h;rw[this];rfl
  | .str,_,_,h=>by rw[h.1];rfl
  | .slice _,_,_,h=>by rcases h with⟨rfl,_⟩|⟨b,a8,rfl,_⟩<;>rfl
  | .unit,cs,_,h=>by have:cs=[]:=h;rw[this];rfl
  | .nk a b,_,_,h=>by obtain⟨ch,c6,rfl,D,H⟩:=h;simp[fr.cells,D.len,H.len]
theorem pT.b6{m an:W}(av: ∀b x,m.X b=some x->x.own=false->an.X b=some x): ∀{s:fr} {cs:List Value} {d:s.cL},pT m s cs d->pT an s cs d
  | .int _,_,_,h=>h
  | .bool,_,_,h=>h
  | .str,_,_,h=>h
  | .slice e,_,_,h=>by
    rcases h with h|⟨b,a8,D,H,aq,aE,bq⟩
    · exact .inl h
    · exact .inr ⟨b,a8,D,av _ _ H rfl,aq,aE,λi r d az ay=>(bq i r d az ay).b6 av⟩
  | .unit,_,_,h=>h
  | .nk a b,_,_,h=>by obtain⟨ch,c6,cR,D,H⟩:=h;exact⟨ch,c6,cR,D.b6 av,H.b6 av⟩
def fr.cy:fr->Bool
  | .slice _=>false
  | .nk a b=>a.cy&&b.cy
  |_=>true
def Wi:(s:fr)->s.cL->List Value
  | .int k,n=>[.int k n]
  | .bool,b=>[.bool b]
  | .str,s=>[.string s]
  | .slice _,_=>[]
  | .unit,_=>[]
  | .nk a b,d=>Wi a d.1++Wi b d.2
def Aw:(s:fr)->s.cL->Prop
  | .int k,n=>(Lit.int k n).wf=true
  | .bool,_=>True
  | .str,s=>s.size<=reachBytes
  | .slice e,l=>(pb l).length*e.cp<=reachBytes/\ ∀x∈pb l,Aw e x
  | .unit,_=>True
  | .nk a b,d=>Aw a d.1/\Aw b d.2
theorem pT.ok{m:W}: ∀{s:fr} {cs:List Value} {d:s.cL},pT m s cs d->Aw s d
  | .int _,_,_,h=>h.2
  | .bool,_,_,_=>trivial
  | .str,_,_,h=>h.2
  | .slice e,_,l,h=>by
    rcases h with⟨_,h⟩|⟨b,a8,D,H,aq,aE,bq⟩
    · subst h;exact⟨by simp[pb],λx G=>by cases G⟩
    · refine⟨aq,λx G=> ?_⟩;obtain⟨i,ak,rfl⟩:=mq G;exact(bq i (a8[i]'(by omega)) _ (by simp) (by simp)).ok
  | .unit,_,_,_=>trivial
  | .nk a b,_,_,h=>by obtain⟨ch,c6,cR,D,H⟩:=h;exact⟨D.ok,H.ok⟩
def u6(m:W)(s:fr)(v:Value)(d:s.cL):Prop:= ∃cs,pT m s cs d/\v=if s.isAgg then .agg cs.toArray else cs.headD undef
inductive sq(m:W):List fr->List Value->Prop
  |nil:sq m [] []
  |cons {s:fr} {v:Value} {d:s.cL} {kC:List fr} {cj:List Value} (h:u6 m s v d) (M:sq m kC cj):sq m (s::kC) (v::cj)
theorem sq.b6{m an:W}(av: ∀b x,m.X b=some x->x.own=false->an.X b=some x){kC:List fr}{cj:List Value}(h:sq m kC cj):sq an kC cj:=by
  induction h with
  |nil=>exact .nil
  |cons h M cc=>obtain⟨cs,D,H⟩:=h;exact .cons ⟨cs,D.b6 av,H⟩ cc
section
variable {aX:Nat} {aj:eE} {m:W} {w:World}
theorem dy.Vd(av:dy aX aj m w)(aC: ∀b x,m.X b=some x->x.own=false){xs:List Value}{l:ss}(aD:l.c<w.heap.size)(au:xs.length<=l.n)
    (G: ∀i v,xs[i]?=some v->S v=true/\ ∃bu,w.cell? ⟨l.c,l.o+i,none⟩=some bu/\dB aj v bu):
    dy aX (hi aj m.next l) ((m.dp 1).a0 m.next (some ⟨xs,false⟩)) w/\ga aj (hi aj m.next l)/\(∀b x,m.X b=some x->((m.dp 1).a0 m.next (some ⟨xs,false⟩)).X b=some x)/\
      (∀b x,((m.dp 1).a0 m.next (some ⟨xs,false⟩)).X b=some x->x.own=false)/\((m.dp 1).a0 m.next (some ⟨xs,false⟩)).X m.next=some ⟨xs,false⟩:=by
  have az:aj m.next=none:=by
    cases h:aj m.next with
    |none=>rfl
    |some l=>have:=av.kn _ _ h;omega
  have e7:=rm (l:=l) az;have XE:((m.dp 1).a0 m.next (some ⟨xs,false⟩)).X m.next=some ⟨xs,false⟩:=ej (by simp)
  have BS: ∀b x,m.X b=some x->((m.dp 1).a0 m.next (some ⟨xs,false⟩)).X b=some x:= λb x hb=>by have:=bn hb;rw[bW (by omega),e6 this,hb]
  have vy: ∀b x,((m.dp 1).a0 m.next (some ⟨xs,false⟩)).X b=some x->(b=m.next/\x=⟨xs,false⟩)\/m.X b=some x:= λb x hb=>by
    by_cases e:b=m.next
    · subst e;rw[XE]at hb;cases hb;exact .inl ⟨rfl,rfl⟩
    · rw[bW e,W.e6]at hb;exact .inr hb
  have iW: ∀b x,((m.dp 1).a0 m.next (some ⟨xs,false⟩)).X b=some x->x.own=false:= λb x hb=>by
    rcases vy b x hb with⟨_,rfl⟩|h
    · rfl
    · exact aC _ _ h
  refine⟨⟨λb de hb=> ?_,λb de hb=> ?_,λb x hb=> ?_,λb x ca hM jo jq D H=> ?_,λb a9 hb=> ?_,λb a9 hb=> ?_⟩,e7,BS,iW,XE⟩
  · unfold hi at hb;split at hb
    · rename_i e;rw[e];simp
    · have:=av.kn _ _ hb;simp;omega
  · unfold hi at hb;split at hb
    · cases hb;exact aD
    · exact av.lN _ _ hb
  · rcases vy b x hb with⟨rfl,rfl⟩|h
    · exact⟨l,by simp[hi],au,λi v ad=>by obtain⟨a3,bu,br,bX⟩:=G i v ad;exact⟨a3,bu,br,bX.b6 e7⟩,λh=>by cases h⟩
    · obtain⟨de,aQ,a7,cD,dI⟩:=av.lQ b x h;exact⟨de,e7 _ _ aQ,a7,λi v ad=>by obtain⟨a3,bu,br,bX⟩:=cD i v ad;exact⟨a3,bu,br,bX.b6 e7⟩,dI⟩
  · rw[iW _ _ D]at H;cases H
  · obtain⟨de,h⟩:=av.tc b a9 hb;exact⟨de,e7 _ _ h⟩
  · exfalso;unfold W.eK at hb;split at hb
    · rename_i h;have:=iW _ _ h;cases this
    · cases hb
end
section
variable {j7:Type} {enc:TypeId×Value->j7} {P:Program} {cA:World}
theorem Ut{P:Program}{e:TypeId}{d:DataW j7}{n:Nat}: ∀{l:List (DataW j7)},d∈l->n∈d.weights P e->n∈DataW.weightsAll P e l
  |[],h,_=>by cases h
  | x::r,h,au=>by
    simp only[DataW.weightsAll,kE];rcases gT.1 h with rfl|h
    · exact .inl au
    · exact .inr (Ut h au)
structure N9(cA:World)(aj:eE)(m:W)(s:fr)(cs:List Value)(cC:eE)(an:W)(bz:List Value)(d:s.cL):Prop where
  ml:dy cA.heap.size cC an cA
  v5:ga aj cC
  lC: ∀b x,m.X b=some x->an.X b=some x
  own: ∀b x,an.X b=some x->x.own=false
  tB:cV cC bz cs
  ni: ∀v∈bz,S v=true
  yN:pT an s bz d
def IP(cA:World)(cs:List Value):Prop:= ∀a len cap,.slice (some a) len cap∈cs->0<cA.heap.size
def IW(enc:TypeId×Value->j7)(P:Program)(cA:World)(t:TypeId)(s:fr):Prop:=
  ∀kd cs x,DataW.trod enc P cA 0 (λ_=>true) true kd t cs=some x->(∀n∈x.1.weights P t,n<=reachBytes)->IP cA cs-> ∀aj m,dy cA.heap.size aj m cA->(∀b x,m.X b=some x->x.own=false)-> ∃cC an bz d,N9 cA aj m s cs cC an bz d
theorem aef{h:TypeId->fr->Bool}(aH: ∀t s,h t s=true->IW enc P cA t s): ∀(eo:List Field) (s:fr) (off kd:Nat) (cs:List Value),p8 P h off eo s=true->off+s.cells<=cs.length->
    (∀f∈eo,∃x,DataW.trod enc P cA 0 (λ_=>true) true kd f.type ((cs.drop f.offset).take (P.cellsOf f.type))=some x/\ ∀n∈x.1.weights P f.type,n<=reachBytes)->IP cA cs->
    ∀aj m,dy cA.heap.size aj m cA->(∀b x,m.X b=some x->x.own=false)-> ∃cC an bz d,N9 cA aj m s ((cs.drop off).take s.cells) cC an bz d
  |[],.unit,off,kd,cs,M,aD,G,bD,aj,m,av,aC=>⟨aj,m,[],(),av,ga.refl aj,λ_ _ h=>h,aC,by simpa[fr.cells]using cV.nil aj,by simp,rfl⟩
  | f::eo,.nk a b,off,kd,cs,M,aD,G,bD,aj,m,av,aC=>by
    simp only[p8,aY,beq_iff_eq]at M;obtain⟨⟨⟨rfl,D⟩,H⟩,aq⟩:=M;simp only[fr.cells]at aD⊢;obtain⟨x,fJ,PV⟩:=G f (by simp);rw[H]at fJ;obtain⟨lV,bg,Ek,hP,ik⟩:=aH _ _ D _ _ _ fJ PV (λcf len cap ub=>bD cf len cap (Bb (Bc ub))) aj m av aC;obtain⟨lW,dH,El,hd,j0⟩:=aef aH eo b (f.offset+a.cells) kd cs aq (by omega) (λain rN=>G ain (by simp[rN])) bD lV bg ik.ml ik.own;refine⟨lW,dH,Ek++El,(hP,hd),j0.ml,ik.v5.trans j0.v5,λb x hb=>j0.lC _ _ (ik.lC _ _ hb),j0.own,?_,?_,⟨Ek,El,rfl,ik.yN.b6 (λb x hb _=>j0.lC _ _ hb),j0.yN⟩⟩
    · rw[List.take_add,yK];exact(ik.tB.b6 j0.v5).oq j0.tB
    · intro v ad;rcases kE.1 ad with h|h
      · exact ik.ni v h
      · exact j0.ni v h
  |[],.int _,_,_,_,M,_,_,_,_,_,_,_=>by simp[p8]at M
  |[],.bool,_,_,_,M,_,_,_,_,_,_,_=>by simp[p8]at M
  |[],.str,_,_,_,M,_,_,_,_,_,_,_=>by simp[p8]at M
  |[],.slice _,_,_,_,M,_,_,_,_,_,_,_=>by simp[p8]at M
  |[],.nk _ _,_,_,_,M,_,_,_,_,_,_,_=>by simp[p8]at M
  |_::_,.int _,_,_,_,M,_,_,_,_,_,_,_=>by simp[p8]at M
  |_::_,.bool,_,_,_,M,_,_,_,_,_,_,_=>by simp[p8]at M
  |_::_,.str,_,_,_,M,_,_,_,_,_,_,_=>by simp[p8]at M
  |_::_,.slice _,_,_,_,M,_,_,_,_,_,_,_=>by simp[p8]at M
  |_::_,.unit,_,_,_,M,_,_,_,_,_,_,_=>by simp[p8]at M
theorem aee{h:fr->Bool}{e:TypeId}{I:Nat}(aH: ∀s,h s=true->IW enc P cA e s): ∀(n:Nat) (s:fr) (i kd:Nat) (cs:List Value),p7 h I n s=true->i*I+s.cells<=cs.length->
    (∀j,i<=j->j<i+n-> ∃x,DataW.trod enc P cA 0 (λ_=>true) true kd e ((cs.drop (j*I)).take I)=some x/\ ∀n∈x.1.weights P e,n<=reachBytes)->IP cA cs->
    ∀aj m,dy cA.heap.size aj m cA->(∀b x,m.X b=some x->x.own=false)-> ∃cC an bz d,N9 cA aj m s ((cs.drop (i*I)).take s.cells) cC an bz d
  |0,.unit,i,kd,cs,M,aD,G,bD,aj,m,av,aC=>⟨aj,m,[],(),av,ga.refl aj,λ_ _ h=>h,aC,by simpa[fr.cells]using cV.nil aj,by simp,rfl⟩
  | n+1,.nk a b,i,kd,cs,M,aD,G,bD,aj,m,av,aC=>by
    simp only[p7,aY,beq_iff_eq]at M;obtain⟨⟨D,rfl⟩,aq⟩:=M;simp only[fr.cells]at aD⊢;obtain⟨x,fJ,PV⟩:=G i (dW _) (by omega);obtain⟨lV,bg,Ek,hP,ik⟩:=aH _ D _ _ _ fJ PV (λcf len cap ub=>bD cf len cap (Bb (Bc ub))) aj m av aC;have aK:(i+1)*a.cells=i*a.cells+a.cells:=(by rw[k0];omega);obtain⟨lW,dH,El,hd,j0⟩:=aee aH n b (i+1) kd cs aq (by omega) (λj D H=>G j (by omega) (by omega)) bD lV bg ik.ml ik.own;refine⟨lW,dH,Ek++El,(hP,hd),j0.ml,ik.v5.trans j0.v5,λb x hb=>j0.lC _ _ (ik.lC _ _ hb),j0.own,?_,?_,⟨Ek,El,rfl,ik.yN.b6 (λb x hb _=>j0.lC _ _ hb),j0.yN⟩⟩
    · rw[List.take_add,yK,<-aK];exact(ik.tB.b6 j0.v5).oq j0.tB
    · intro v ad;rcases kE.1 ad with h|h
      · exact ik.ni v h
      · exact j0.ni v h
  |0,.int _,_,_,_,M,_,_,_,_,_,_,_=>by simp[p7]at M
  |0,.bool,_,_,_,M,_,_,_,_,_,_,_=>by simp[p7]at M
  |0,.str,_,_,_,M,_,_,_,_,_,_,_=>by simp[p7]at M
  |0,.slice _,_,_,_,M,_,_,_,_,_,_,_=>by simp[p7]at M
  |0,.nk _ _,_,_,_,M,_,_,_,_,_,_,_=>by simp[p7]at M
  |_+1,.int _,_,_,_,M,_,_,_,_,_,_,_=>by simp[p7]at M
  |_+1,.bool,_,_,_,M,_,_,_,_,_,_,_=>by simp[p7]at M
  |_+1,.str,_,_,_,M,_,_,_,_,_,_,_=>by simp[p7]at M
  |_+1,.slice _,_,_,_,M,_,_,_,_,_,_,_=>by simp[p7]at M
  |_+1,.unit,_,_,_,M,_,_,_,_,_,_,_=>by simp[p7]at M
theorem aeg{e:TypeId}{s:fr}(aH:IW enc P cA e s){a:Addr}(M:a.spot=none){kd:Nat}(vx:0<cA.heap.size): ∀(k:Nat),(∀i,i<k-> ∃cs x,cA.cells? 0 (a.add (i*s.cells)) s.cells=some cs/\DataW.trod enc P cA 0 (λ_=>true) true kd e cs=some x/\ ∀n∈x.1.weights P e,n<=reachBytes)->
    ∀aj m,dy cA.heap.size aj m cA->(∀b x,m.X b=some x->x.own=false)->
    ∃ (cC:eE) (an:W) (a8:List (List Value)) (ds:List s.cL),dy cA.heap.size cC an cA/\ga aj cC/\(∀b x,m.X b=some x->an.X b=some x)/\(∀b x,an.X b=some x->x.own=false)/\a8.length=k/\ds.length=k/\(a8.flatten).length=k*s.cells/\
      (∀i v,a8.flatten[i]?=some v->S v=true/\ ∃bu,cA.cell? ⟨a.block,a.off+i,none⟩=some bu/\dB cC v bu)/\(∀(i:Nat) (r:List Value) (d:s.cL),a8[i]?=some r->ds[i]?=some d->pT an s r d)
  |0,_,aj,m,av,aC=>⟨aj,m,[],[],av,ga.refl aj,λ_ _ h=>h,aC,rfl,rfl,by simp,by simp,by simp⟩
  | k+1,aa,aj,m,av,aC=>by
    obtain⟨lV,bg,a8,ds,aQ,a7,cD,dI,gi,fj,rI,EW,BH⟩:=aeg aH M vx k (λi ak=>aa i (by omega)) aj m av aC;obtain⟨cs,x,ar,G,akk⟩:=aa k (by omega);obtain⟨_,eS,xl⟩:=World.cells?_some ar;obtain⟨lW,dH,bz,d,o⟩:=aH _ _ _ G akk (λ_ _ _ _=>vx) lV bg aQ dI;have fc:bz.length=s.cells:=o.yN.len;refine⟨lW,dH,a8++[bz],ds++[d],o.ml,a7.trans o.v5,λb x hb=>o.lC _ _ (cD _ _ hb),o.own,by simp[gi],by simp[fj],?_,?_,?_⟩
    · simp[rI,fc,k0]
    · intro i v ad;rw[List.flatten_append,A9]at ad;split at ad
      · obtain⟨a3,bu,br,bX⟩:=EW i v ad;exact⟨a3,bu,br,bX.b6 o.v5⟩
      · rename_i ak;rw[rI]at ak ad;simp only[rp,List.flatten_nil,u4]at ad;refine⟨o.ni v (hF ad),?_⟩;obtain⟨bu,qY,az⟩:=o.tB.X ad;have ke:i-k*s.cells<s.cells:=(by have:=(eB.1 ad).1;omega);have:=xl _ ke;rw[qY]at this;refine⟨bu,?_,az⟩;rw[<-this];congr 1;obtain⟨w1,Bp,I8⟩:=a;simp only at M;subst M;unfold Addr.add;split<;>split<;>simp<;>omega
    · intro i r ot az ay;rw[A9]at az ay;rw[gi]at az;rw[fj]at ay;split at az
      · rename_i ak;rw[if_pos ak]at ay;exact(BH i r ot az ay).b6 (λb x hb _=>o.lC _ _ hb)
      · rename_i ak;rw[if_neg ak]at ay;have:i-k=0:=by
          have:=(eB.1 az).1;simp at this;omega
        rw[this]at az ay;simp at az ay;subst az;subst ay;exact o.yN
theorem aeh: ∀(n:Nat) (t:TypeId) (s:fr),xj P n t s=true->IW enc P cA t s
  |0,_,_,h=>by cases h
  | n+1,t,s,h=>by
    have cc:=aeh n;intro kd cs x G m6 bD aj m av aC;unfold xj at h;split at h
    · rename_i k eX aS;simp only[eO]at h;subst h;obtain⟨v,rfl,rfl,aZ⟩:=DataW.trod_int aS G;exact⟨aj,m,[.int k v],v,av,ga.refl aj,λ_ _ h=>h,aC,cV.cons (.cy rfl) (cV.nil aj),by simp[S],⟨rfl,aZ⟩⟩
    · rename_i aS;obtain⟨b,rfl,rfl⟩:=DataW.trod_bool aS G;exact⟨aj,m,[.bool b],b,av,ga.refl aj,λ_ _ h=>h,aC,cV.cons (.cy rfl) (cV.nil aj),by simp[S],rfl⟩
    · rename_i aS;obtain⟨v,rfl,rfl,aZ⟩:=DataW.trod_string aS G;exact⟨aj,m,[.string v],v,av,ga.refl aj,λ_ _ h=>h,aC,cV.cons (.cy rfl) (cV.nil aj),by simp[S],⟨rfl,by have:=m6 v.data.toList.length (by simp[DataW.weights]);simpa using this⟩⟩
    · rename_i e kV aS;simp only[aY,beq_iff_eq,eO]at h;obtain⟨⟨⟨D,H⟩,aq⟩,ai7⟩:=h;rcases DataW.trod_slice aS G with⟨rfl,rfl⟩|⟨a,len,cap,yU,bR,g0,_,rfl,rfl,_,zh,pj,aEG,bQ,iA,_⟩
      · exact⟨aj,m,[.slice none 0 0],[],av,ga.refl aj,λ_ _ h=>h,aC,cV.cons (.cy rfl) (cV.nil aj),by simp[S],.inl ⟨rfl,rfl⟩⟩
      · have vx:0<cA.heap.size:=bD a len cap (by simp);have akj:len*kV.cp<=reachBytes:=by
          have bq:=m6 ((yU.length+bR.length)*P.bytesOf e) (by simp[DataW.weights,aS]);have cP:len*kV.cp<=(yU.length+bR.length)*P.bytesOf e:=Nat.mul_le_mul (by omega) ai7;omega
        have akh: ∀y∈yU,∀n∈y.1.weights P e,n<=reachBytes:= λy ag n au=>m6 n (by simp only[DataW.weights,aS];exact Ba _ (mo _ (Ut (List.mem_map_of_mem ag) au)));rw[H]at bQ iA;have iA:=iA rfl
        -- where ayI z1 a hZ,pM aCz z1 plain
        have Pp:0<cap->a.spot=none/\a.block<cA.heap.size:=by
          intro ar;have: ∃cs,cA.cells? 0 a kV.cells=some cs:=by
            by_cases aD:0<len
            · have:=bQ 0 aD;obtain⟨y,ag⟩: ∃y,yU[0]?=some y:=⟨yU[0]'(by omega),by simp⟩;rw[ag,Option.bind_eq_some_iff]at this;obtain⟨cs,iL,_⟩:=this;exact⟨cs,by simpa[Addr.add]using iL⟩
            · have:=iA.2 0 (by omega);obtain⟨y,ag⟩: ∃y,bR[0]?=some y:=⟨bR[0]'(by omega),by simp⟩;rw[ag,Option.bind_eq_some_iff]at this;obtain⟨cs,iL,_⟩:=this;exact⟨cs,by simpa[Addr.add,show len=0 by omega]using iL⟩
          obtain⟨cs,iL⟩:=this;refine⟨?_,World.cells?_block iL aq⟩;obtain⟨_,aD,xl⟩:=World.cells?_some iL;have cR:=xl 0 aq;obtain⟨jT,uc⟩: ∃jT,cs[0]?=some jT:=⟨cs[0]'(by omega),by simp⟩;rw[uc]at cR;simp only[Addr.add,if_true]at cR;unfold World.cell? at cR;split at cR
          · split at cR
            · cases cR
            · rename_i l9;simpa using l9
          · cases cR
        by_cases uc:cap=0
        · obtain rfl:len=0:=(by omega);subst uc;obtain⟨fL,g8,jt,nm,wu⟩:=av.Vd aC (xs:=[]) (l:=⟨0,0,0⟩) vx (dW _) (by simp);refine⟨_,_,[.slice (some ⟨m.next,0,none⟩) 0 kV.cells],[],fL,g8,jt,nm,cV.cons (.slice (l:=⟨0,0,0⟩) (by simp[hi]) (.inl ⟨rfl,rfl⟩) (dW _) (hx _)) (cV.nil _),by simp[S],.inr ⟨m.next,[],rfl,wu,by simp[pb],rfl,by simp⟩⟩
        · obtain⟨l9,ai8⟩:=Pp (by omega);have ajk: ∀i,i<len-> ∃cs x,cA.cells? 0 (a.add (i*kV.cells)) kV.cells=some cs/\DataW.trod enc P cA 0 (λ_=>true) true g0 e cs=some x/\ ∀n∈x.1.weights P e,n<=reachBytes:=by
            intro i ak;have:=bQ i ak;obtain⟨y,ag⟩: ∃y,yU[i]?=some y:=⟨yU[i]'(by omega),by simp⟩;have ako:=ag;rw[ag,Option.bind_eq_some_iff]at this;obtain⟨cs,iL,ag⟩:=this;exact⟨cs,y,iL,ag,akh y (hF ako)⟩
          obtain⟨lV,bg,a8,ds,aQ,a7,cD,dI,gi,fj,rI,EW,BH⟩:=aeg (cc _ _ D) l9 vx len ajk aj m av aC;have e7:len*kV.cells<=cap*kV.cells:=sn _ zh;have WN:(pb ds).length=len:=fj;obtain⟨fL,g8,jt,nm,wu⟩:=aQ.Vd dI (xs:=a8.flatten) (l:=⟨a.block,a.off,cap*kV.cells⟩) ai8 (by rw[rI];exact e7) EW
          refine⟨_,_,[.slice (some ⟨bg.next,0,none⟩) len kV.cells],ds,fL,a7.trans g8,λb x hb=>jt _ _ (cD _ _ hb),nm,cV.cons (.slice (l:=⟨a.block,a.off,cap*kV.cells⟩) (by simp[hi]) (.inr ⟨?_,by simp⟩) zh pj) (cV.nil _),by simp[S],
            .inr ⟨bg.next,a8,by rw[WN],wu,by rw[WN];exact akj,by omega,λi r d az ay=>(BH i r d az ay).b6 (λb x hb _=>jt _ _ hb)⟩⟩
          obtain⟨w1,Bp,I8⟩:=a;simp only at l9;subst l9;rfl
    · rename_i kV eo aS;simp only[aY,beq_iff_eq]at h;obtain⟨⟨cR,D⟩,H⟩:=h;obtain⟨xs,g0,_,rfl,aD,Fx,a6⟩:=DataW.trod_struct aS G;have:=aef (λt s h=>cc t s h) eo.toList _ 0 g0 cs H (by rw[aD,D];omega) (λf rN=> ?_) bD aj m av aC
      · rw[List.drop_zero,jh (by omega)]at this;exact this
      · obtain⟨i,ak,rfl⟩:=mq rN;have hH:i<eo.size:=(by simpa using ak);have:=a6 i eo[i] (by simp[hH]);refine⟨xs[i]'(by omega),?_,λn au=>m6 n ?_⟩
        · rw[dD (by omega)]at this;simpa using this
        · simp only[DataW.weights,aS];exact DataW.weights_mem_each (j:=i) (t:=eo[i].type) (d:=xs[i].1) (by simp[hH]) (by simp[dD (show i<xs.length by omega)]) n (by simpa using au)
    · rename_i kV k e aS;simp only[aY,beq_iff_eq]at h;obtain⟨⟨cR,D⟩,H⟩:=h;obtain⟨xs,g0,_,rfl,aD,Fx,a6⟩:=DataW.trod_array aS G;have:=aee (λs h=>cc e s h) k _ 0 g0 cs H (by rw[aD,D];omega) (λj _ b1=> ?_) bD aj m av aC
      · rw[Nat.zero_mul,List.drop_zero,jh (by omega)]at this;exact this
      · have:=a6 j (by omega);refine⟨xs[j]'(by omega),?_,λn au=>m6 n ?_⟩
        · rw[dD (by omega)]at this;simpa using this
        · simp only[DataW.weights,aS];exact Ut (List.mem_map_of_mem (nv (show j<xs.length by omega))) au
    · cases h
theorem aji{aX:Nat}{t:TypeId}{v:Value}(ad:Value.okWide P cA .any aX t v):IP cA v.cells.toList:=by
  have hZ: ∀bo a len cap,Cell.okWide P cA .any aX bo (.slice (some a) len cap)->0<cA.heap.size:=by
    intro bo a len cap h;unfold Cell.okWide at h;split at h<;>try(rename_i D;cases D)
    unfold Cell.ok at h;split at h<;>rename_i D<;>try cases D
    · obtain⟨_,_,_,_,cJ,cells,M,_⟩:=h;unfold World.shape? at M;split at M
      · rename_i aH;have:=(tG.1 aH).1;omega
      · cases M
    · cases h
  intro a len cap av;unfold Value.okWide at ad;split at ad
  · obtain⟨cs,rfl,_,ts,_,_,az⟩:=ad;obtain⟨i,ak,bb⟩:=mq av;obtain⟨bo,_,ar⟩:=az i (.slice (some a) len cap) (by
      have:i<cs.size:=(by simpa[Value.cells]using ak);rw[yF this];simpa[Value.cells]using bb)
    exact hZ bo a len cap ar
  · obtain⟨cs,rfl,_,ts,_,_,az⟩:=ad;obtain⟨i,ak,bb⟩:=mq av;obtain⟨bo,_,ar⟩:=az i (.slice (some a) len cap) (by
      have:i<cs.size:=(by simpa[Value.cells]using ak);rw[yF this];simpa[Value.cells]using bb)
    exact hZ bo a len cap ar
  · cases v<;>simp[Value.cells]at av
    · obtain⟨rfl,rfl,rfl⟩:=av;exact hZ _ _ _ _ ad
    · exfalso;unfold Cell.okWide at ad;split at ad<;>try(rename_i D;cases D)
      unfold Cell.ok at ad;split at ad<;>try(rename_i D;cases D)
      cases ad
theorem avW{n:Nat}{t:TypeId}{s:fr}(M:xj P n t s=true){aX:Nat}{v:Value}{d:DataW j7}{ps:List MemPlace}(ad:Value.okWide P cA .any aX t v)(ay:DataW.Trod enc P cA 0 (λ_=>true) true t v d ps)(m6: ∀n∈d.weights P t,n<=reachBytes)
    {aj:eE} {m:W} (av:dy cA.heap.size aj m cA) (aC: ∀b x,m.X b=some x->x.own=false):
    ∃cC an bo rA,dy cA.heap.size cC an cA/\ga aj cC/\(∀b x,m.X b=some x->an.X b=some x)/\(∀b x,an.X b=some x->x.own=false)/\dB cC bo v/\u6 an s bo rA:=by
  obtain⟨kd,G⟩:=ay;obtain⟨cC,an,bz,rA,o⟩:=aeh n t s M kd _ _ G m6 (aji ad) aj m av aC;refine⟨cC,an,if s.isAgg then .agg bz.toArray else bz.headD undef,rA,o.ml,o.v5,o.lC,o.own,?_,bz,o.yN,rfl⟩;cases n with
  |zero=>cases M
  | succ n=>
    unfold xj at M;have Nu: ∀w:Value,v.cells.toList=[w]->w=v->s.isAgg=false->dB cC (if s.isAgg then .agg bz.toArray else bz.headD undef) v:=by
      intro w aZ bb ax;rw[ax];have D:=o.tB;rw[aZ]at D;have H:=D.1;cases bz with
      |nil=>simp at H
      |cons a bz=>have:=D.2 0 a w rfl rfl;rw[bb]at this;simpa using this
    have agg:(∃cs,v= .agg cs)->s.isAgg=true->dB cC (if s.isAgg then .agg bz.toArray else bz.headD undef) v:=(by rintro⟨cs,rfl⟩ ax;rw[ax];have D:=o.tB;simp only[Value.cells]at D;have:=D.agg o.ni;simpa using this);split at M
    · rename_i k eX aS;obtain⟨n,rfl⟩:=WideShapes.okWide_int aS ad;exact Nu _ rfl rfl rfl
    · rename_i aS;obtain⟨n,rfl⟩:=WideShapes.okWide_bool aS ad;exact Nu _ rfl rfl rfl
    · rename_i aS;obtain⟨n,rfl⟩:=WideShapes.okWide_string aS ad;exact Nu _ rfl rfl rfl
    · rename_i e kV aS;obtain⟨a,l,c,rfl⟩:=WideShapes.okWide_slice aS ad;exact Nu _ rfl rfl rfl
    · rename_i eo aS;simp only[aY]at M;obtain⟨cs,rfl,_⟩:=WideShapes.okWide_struct aS ad;exact agg ⟨cs,rfl⟩ M.1.1
    · rename_i k e aS;simp only[aY]at M;unfold Value.okWide at ad;rw[aS]at ad;obtain⟨cs,rfl,_⟩:=ad;exact agg ⟨cs,rfl⟩ M.1.1
    · cases M
def BL(P:Program)(n:Nat):List TypeId->List fr->Bool
  |[],[]=>true
  |t::ts,s::kC=>xj P n t s&&BL P n ts kC
  |_,_=>false
theorem aed{n:Nat}{aX:Nat}: ∀(ts:List TypeId) (kC:List fr) (cj:List Value) (ds:List (DataW j7)) (ps:List MemPlace),BL P n ts kC=true->(∀(j:Nat) t v,ts[j]?=some t->cj[j]?=some v->Value.okWide P cA .any aX t v)->
    DataW.TrodAll enc P cA 0 (λ_=>true) true ts cj ds ps->(∀n∈DataW.weightsEach P ts ds,n<=reachBytes)-> ∀aj m,dy cA.heap.size aj m cA->(∀b x,m.X b=some x->x.own=false)->
    ∃cC an e2,dy cA.heap.size cC an cA/\ga aj cC/\(∀b x,m.X b=some x->an.X b=some x)/\cV cC e2 cj/\sq an kC e2
  |[],[],[],[],_,_,_,_,_,aj,m,av,aC=>⟨aj,m,[],av,ga.refl aj,λ_ _ h=>h,cV.nil aj,.nil⟩
  | t::ts,s::kC,v::cj,d::ds,ps,M,ad,bt,m6,aj,m,av,aC=>by simp only[BL,aY]at M;obtain⟨p,q,D,H,rfl⟩:=bt;obtain⟨lV,bg,bo,rA,aQ,a7,cD,dI,gi,fj⟩:=avW M.1 (ad 0 t v rfl rfl) D (λn au=>m6 n (by simp only[DataW.weightsEach];exact mo _ au)) av aC;obtain⟨lW,dH,e2,ec,gY,hU,s6,Ad⟩:=aed ts kC cj ds q M.2 (λj t v a b=>ad (j+1) t v (by simpa using a) (by simpa using b)) H (λn au=>m6 n (by simp only[DataW.weightsEach];exact lG _ au)) lV bg aQ dI;obtain⟨cs,fj,rI⟩:=fj;exact⟨lW,dH,bo::e2,ec,a7.trans gY,λb x hb=>hU _ _ (cD _ _ hb),cV.cons (gi.b6 gY) s6,.cons ⟨cs,fj.b6 (λb x hb _=>hU _ _ hb),rI⟩ Ad⟩
  |[],_::_,_,_,_,M,_,_,_,_,_,_,_=>by simp[BL]at M
  |_::_,[],_,_,_,M,_,_,_,_,_,_,_=>by simp[BL]at M
  |[],[],_::_,_,_,_,_,bt,_,_,_,_,_=>by simp[DataW.TrodAll]at bt
  |[],[],[],_::_,_,_,_,bt,_,_,_,_,_=>by simp[DataW.TrodAll]at bt
  |_::_,_::_,[],_,_,_,_,bt,_,_,_,_,_=>by simp[DataW.TrodAll]at bt
  |_::_,_::_,_::_,[],_,_,_,bt,_,_,_,_,_=>by simp[DataW.TrodAll]at bt
theorem auu(mD:P.follows .mixedOrders=true){f n aX:Nat}{ts:List TypeId}{kC:List fr}(M:BL P n ts kC=true){args:Array Value}{ds:List (DataW j7)}{ps:List MemPlace}
    (ad: ∀(j:Nat) t v,ts[j]?=some t->args[j]?=some v->Value.okWide P cA .any aX t v) (bt:DataW.TrodAll enc P cA 0 (λ_=>true) true ts args.toList ds ps) (m6: ∀n∈DataW.weightsEach P ts ds,n<=reachBytes)
    (h: ∀m e2,sq m kC e2->gd P f e2 m λr _=>r= .bool true):
    Calls P f args cA λe cN=>e= .returned (.bool true)/\Below cA.heap.size cA cN:=by
  obtain⟨aj,m,e2,aQ,_,_,dI,gi⟩:=aed ts kC args.toList ds ps M (λj t v a b=>ad j t v a (by simpa using b)) bt m6 _ _ dy.empty (λb x h=>by unfold W.X at h;split at h<;>cases h);obtain⟨k,r,an,D,rfl⟩:=h m e2 gi;have:=(VM mD k cA.heap.size f e2 _ _ _ D).2.2.2.2 aj cA args dI aQ (dW _);refine this.mono λe cN aH=> ?_;obtain⟨v,cC,rfl,_,_,ad,_,hb⟩:=aH;exact⟨by rw[ad.qd],hb⟩
end
theorem u6.int{m:W}{k:IntKind}{v:Value}{n:Int}(h:u6 m (.int k) v n):v= .int k n/\(Lit.int k n).wf=true:=by obtain⟨cs,h,rfl⟩:=h;obtain⟨rfl,h⟩:=h;exact⟨rfl,h⟩
theorem u6.bool{m:W}{v:Value}{b:Bool}(h:u6 m .bool v b):v= .bool b:=by obtain⟨cs,h,rfl⟩:=h;have:cs=[.bool b]:=h;subst this;rfl
theorem u6.str{m:W}{v:Value}{s:ByteArray}(h:u6 m .str v s):v= .string s/\s.size<=reachBytes:=by obtain⟨cs,h,rfl⟩:=h;obtain⟨rfl,h⟩:=h;exact⟨rfl,h⟩
structure o7(m an:W):Prop where
  next:m.next<=an.next
  X: ∀b x,m.X b=some x->an.X b=some x
theorem o7.refl(m:W):o7 m m:=⟨dW _,λ_ _ h=>h⟩
theorem o7.trans{a b c:W}(h:o7 a b)(bN:o7 b c):o7 a c:=⟨kZ h.next bN.next,λx y G=>bN.X x y (h.X x y G)⟩
theorem vf.sub{p m:W}(h:vf p m):o7 p m:=⟨Nat.le_of_eq h.next,h.X⟩
theorem o7.dp(m:W)(k:Nat):o7 m (m.dp k):=⟨by simp,λb x h=>by rw[e6 (bn h),h]⟩
theorem o7.a0{m:W}{b:Nat}{x:Option fq}(h:m.X b=none):o7 m (m.a0 b x):=⟨dW _,λc y ar=>by rw[bW (λbb=>by subst bb;rw[h]at ar;cases ar),ar]⟩
theorem EZ{m:W}{b:Nat}(h:m.next<=b):m.X b=none:=by simp[W.X];omega
structure jJ(c4:Type) where
  I:Nat
  R:W->List Value->c4->Prop
  len: ∀m cs x,R m cs x->cs.length=I
  b6: ∀m an cs x,o7 m an->R m cs x->R an cs x
def jJ.cG{c4:Type}(r:jJ c4)(m:W)(v:Value)(l:List c4):Prop:=
  (v= .slice none 0 0/\l=[])\/ ∃b o cs w,v= .slice (some ⟨b,o,none⟩) l.length r.I/\m.X b=some ⟨cs,w⟩/\o+l.length*r.I<=cs.length/\
    ∀(i:Nat) x,l[i]?=some x->r.R m ((cs.drop (o+i*r.I)).take r.I) x
section
variable {c4:Type} {r:jJ c4} {m an:W} {v:Value} {l:List c4}
theorem jJ.cG.b6(h:r.cG m v l)(M:o7 m an):r.cG an v l:=by
  rcases h with h|⟨b,o,cs,w,D,H,aq,aE⟩
  · exact .inl h
  · exact .inr ⟨b,o,cs,w,D,M.X _ _ H,aq,λi x G=>r.b6 _ _ _ _ M (aE i x G)⟩
theorem jJ.cG.nil:r.cG m (.slice none 0 0) []:= .inl ⟨rfl,rfl⟩
theorem jJ.cG.len(h:r.cG m v l):h2 v=l.length/\xY v=true/\mP r.I v=true/\gv v=l.length:=by
  rcases h with⟨rfl,rfl⟩|⟨b,o,cs,w,rfl,_⟩
  · exact⟨rfl,rfl,rfl,rfl⟩
  · exact⟨rfl,rfl,by simp,rfl⟩
theorem jJ.cG.pc(h:r.cG m v l){i:Nat}{x:c4}(G:l[i]?=some x): ∃b o cs w,wG v r.I (i:Int)= .pointer (some ⟨b,o,none⟩)/\m.X b=some ⟨cs,w⟩/\o+r.I<=cs.length/\r.R m ((cs.drop o).take r.I) x:=by
  rcases h with⟨rfl,rfl⟩|⟨b,o,cs,w,rfl,H,aq,aE⟩
  · simp at G
  · have ak:=(eB.1 G).1;refine⟨b,o+i*r.I,cs,w,by simp[wG],H,?_,aE i x G⟩;have:(i+1)*r.I<=l.length*r.I:=sn _ ak;rw[k0]at this;omega
theorem jJ.cG.sub(h:r.cG m v l){k n:Nat}(aa:k<=n)(au:n<=l.length):r.cG m (oS v r.I k n) ((l.take n).drop k):=by
  rcases h with⟨rfl,rfl⟩|⟨b,o,cs,w,rfl,H,aq,aE⟩
  · exact .inl ⟨rfl,by simp⟩
  · have e:((l.take n).drop k).length=n-k:=(by simp;omega);have bq:n*r.I<=l.length*r.I:=sn _ au;have cP:k*r.I+(n-k)*r.I=n*r.I:=(by rw[<-k0];congr 1;omega);refine .inr ⟨b,o+k*r.I,cs,w,by rw[e];rfl,H,by rw[e];omega,λi x G=> ?_⟩;rw[wP,tI]at G;split at G
    · have:=aE _ x G;rw[show o+k*r.I+i*r.I=o+(k+i)*r.I by rw[k0];omega];exact this
    · cases G
theorem JJ{a8:List (List Value)}{I:Nat}(bD: ∀x∈a8,x.length=I): ∀{i:Nat} {y:List Value},a8[i]?=some y->(a8.flatten.drop (i*I)).take I=y:=by
  induction a8 with
  |nil=>intro i y h;simp at h
  | cons x a8 cc=>
    intro i y h;have G:=bD x (by simp);cases i with
    | zero=>simp at h;subst h;simp[List.take_append_of_le_length (Nat.le_of_eq G.symm),jh (Nat.le_of_eq G)]
    | succ i=>rw[rp,k0,Nat.one_mul,Nat.add_comm,<-yK,<-G,List.drop_left,G];exact cc (λy ag=>bD y (by simp[ag])) (by simpa using h)
theorem rG{a8:List (List Value)}{I:Nat}(bD: ∀x∈a8,x.length=I):a8.flatten.length=a8.length*I:=by
  induction a8 with
  |nil=>simp
  |cons x a8 cc=>rw[rp,jI,bD x (by simp),cc (λy ag=>bD y (by simp[ag])),pS,k0];omega
structure jJ.L(r:jJ c4)(p:W)(a8:List (List Value))(l:List c4):Prop where
  len:a8.length=l.length
  all: ∀(i:Nat) y x,a8[i]?=some y->l[i]?=some x->r.R p y x
variable {p:W} {a8:List (List Value)}
theorem jJ.L.b6(h:r.L p a8 l){lD:W}(M:o7 p lD):r.L lD a8 l:=⟨h.len,λi y x ag G=>r.b6 _ _ _ _ M (h.all i y x ag G)⟩
theorem jJ.L.nil:r.L p [] []:=⟨rfl,λi y x h=>by simp at h⟩
theorem jJ.L.app(h:r.L p a8 l){tq:List (List Value)}{de:List c4}(bN:r.L p tq de):r.L p (a8++tq) (l++de):=by
  refine⟨by simp[h.len,bN.len],λi wO hM sU jk=> ?_⟩;by_cases ak:i<a8.length
  · rw[tH ak]at sU;rw[tH (by rw[<-h.len];exact ak)]at jk;exact h.all i _ _ sU jk
  · rw[u0 (by omega)]at sU;rw[u0 (by rw[<-h.len];omega),<-h.len]at jk;exact bN.all _ _ _ sU jk
theorem jJ.L.adv(h:r.L p a8 l): ∀y∈a8,y.length=r.I:= λy ag=>by
  obtain⟨i,ak,rfl⟩:=mq ag;have aD:i<l.length:=by rw[<-h.len];exact ak
  exact r.len _ _ _ (h.all i _ _ (dD ak) (dD aD))
theorem jJ.L.aiu(h:r.L p a8 l):a8.flatten.length=l.length*r.I:=by rw[rG h.adv,h.len]
theorem jJ.L.slice(h:r.L p a8 l)(ai:o7 p m){b:Nat}{w:Bool}(hb:m.X b=some ⟨a8.flatten,w⟩):r.cG m (.slice (some ⟨b,0,none⟩) l.length r.I) l:=by refine .inr ⟨b,0,_,w,rfl,hb,by rw[h.aiu];omega,λi x G=> ?_⟩;have ak:=(eB.1 G).1;rw[Nat.zero_add,JJ h.adv (y:=a8[i]'(by rw[h.len];exact ak)) (by simp)];exact r.b6 _ _ _ _ ai (h.all i _ _ (by simp) G)
theorem Te{cs:List Value}{I:Nat}: ∀(n o:Nat),o+n*I<=cs.length-> ∃a8:List (List Value),a8.length=n/\a8.flatten=(cs.drop o).take (n*I)/\ ∀i,i<n->a8[i]?=some ((cs.drop (o+i*I)).take I)
  |0,o,_=>⟨[],rfl,by simp,λi ak=>by omega⟩
  | n+1,o,h=>by
    rw[k0]at h;obtain⟨a8,D,H,aq⟩:=Te (cs:=cs) (I:=I) n (o+I) (by omega);refine⟨(cs.drop o).take I::a8,by simp[D],?_,λi ak=> ?_⟩
    · rw[rp,H,k0,Nat.one_mul,Nat.add_comm (n*I) I,List.take_add,yK]
    · cases i with
      |zero=>simp
      | succ i=>rw[DY,aq i (by omega)];congr 3;rw[k0];omega
theorem jJ.cG.cells(h:r.cG m v l):fP m r.I v=true/\ ∃a8,fZ m r.I v=a8.flatten/\r.L m a8 l:=by
  rcases h with⟨rfl,rfl⟩|⟨b,o,cs,w,rfl,H,aq,aE⟩
  · exact⟨rfl,[],rfl,.nil⟩
  · refine⟨by simp[H];omega,?_⟩;obtain⟨a8,aK,aR,cB⟩:=Te l.length o aq;refine⟨a8,by simp[H,aR],aK,λi y x ag G=> ?_⟩;rw[cB i (eB.1 G).1]at ag;cases ag;exact aE i x G
end
def jJ.int(k:IntKind):jJ Int:=⟨1,λ_ cs n=>cs=[.int k n],λ_ _ _ h=>by rw[h];rfl,λ_ _ _ _ _ h=>h⟩
def jJ.bool:jJ Bool:=⟨1,λ_ cs n=>cs=[.bool n],λ_ _ _ h=>by rw[h];rfl,λ_ _ _ _ _ h=>h⟩
def jJ.str:jJ ByteArray:=⟨1,λ_ cs n=>cs=[.string n],λ_ _ _ h=>by rw[h];rfl,λ_ _ _ _ _ h=>h⟩
def jJ.map{c4 kF:Type}(r:jJ c4)(f:c4->kF):jJ kF:=⟨r.I,λm cs y=> ∃x,f x=y/\r.R m cs x,λ_ _ _ ⟨_,_,h⟩=>r.len _ _ _ h,λ_ _ _ _ M ⟨x,h,bN⟩=>⟨x,h,r.b6 _ _ _ _ M bN⟩⟩
theorem jJ.cG.wK{c4 kF:Type}{r:jJ c4}{q:jJ kF}{m:W}{v:Value}{l:List c4}(f:c4->kF)(h:r.cG m v l)(bD:r.I=q.I)(a6: ∀cs x,x∈l->r.R m cs x->q.R m cs (f x)):q.cG m v (l.map f):=by
  rcases h with⟨rfl,rfl⟩|⟨b,o,cs,w,rfl,H,aq,aE⟩
  · exact .inl ⟨rfl,rfl⟩
  · refine .inr ⟨b,o,cs,w,by simp[bD],H,by simp[<-bD];exact aq,λi y ag=> ?_⟩;rw[qy,rn]at ag;obtain⟨x,G,rfl⟩:=ag;rw[<-bD];exact a6 _ x (hF G) (aE i x G)
end Go.DI
