/-
  A part of the proof, shortened by tools of ours.
-/
import Derived.Test.YtmmkkggfmigppaaGreatZag
set_option linter.all false
set_option maxRecDepth 8000
set_option maxHeartbeats 16000000
namespace Go.DI
open Go
def vm(s:ByteArray)(i:Nat):Int:=((s.data.toList.getD i 0).toNat:Nat)
def ane(e0:lQ)(m:H)(x k:Value):Bool:=match lI m x with
 |some es=>ob e0 k es
 |none=>false
def anf(zero:Value)(o:Bool)(m:H)(x k:Value):Value:=
 if o then .tuple #[((lI m x).bind (jR k)).getD zero,.bool ((lI m x).bind (jR k)).isSome]else((lI m x).bind (jR k)).getD zero
def anm(e0:lQ)(m:H)(x k v:Value):Bool:=match x with
 | .map (some b)=>(match m.fu b with
   |some es=>ob e0 k es&&aq v
   |none=>false)
 |_=>false
def anl(m:H)(x k v:Value):H:=m.hv (yE x) (lK k v ((m.fu (yE x)).getD []))
@[simp] theorem aRI{e0:lQ}{m:H}{b:Nat}{k:Value}:ane e0 m (.map (some b)) k=(match m.fu b with|some es=>ob e0 k es|none=>false):=rfl
@[simp] theorem aRJ{G:Value}{o:Bool}{m:H}{b:Nat}{k:Value}:anf G o m (.map (some b)) k=if o then .tuple #[((m.fu b).bind (jR k)).getD G,.bool ((m.fu b).bind (jR k)).isSome]else((m.fu b).bind (jR k)).getD G:=rfl
@[simp] theorem aRL{e0:lQ}{m:H}{b:Nat}{k v:Value}:anm e0 m (.map (some b)) k v=(match m.fu b with|some es=>ob e0 k es&&aq v|none=>false):=rfl
@[simp] theorem aRK{m:H}{b:Nat}{k v:Value}:anl m (.map (some b)) k v=m.hv b (lK k v ((m.fu b).getD [])):=rfl
attribute [simp] adQ adN adP adO Uy Ux N8 NX aHF aHG asq Gk asr amX aCB aCC aE0 aE1
 adT UA adR Jy as3
section
variable {P:Program} {base aW:Nat} {d:Option Nat} {bN:List cO} {z:aC} {m:H} {aR:aC->H->Prop} {bd:List (Operand×Operand)}
@[simp] theorem aYW(x:Operand):fy P base (⟨aW,d,none,.hs x,bd⟩::bN) z m aR=(iX z bd=true/\fy P base bN (cZ z d (O z x)) (m) aR):=by rw[nr rfl];simp only[ah.ok,true_and];try rfl
@[simp] theorem aYY(c a b:Operand):fy P base (⟨aW,d,none,.uV c a b,bd⟩::bN) z m aR=(vU (O z c)=true/\iX z bd=true/\fy P base bN (cZ z d (if xW (O z c)=true then O z a else O z b)) (m) aR):=by rw[nr rfl];rfl
@[simp] theorem aYX(x:Operand):fy P base (⟨aW,d,none,.uT x,bd⟩::bN) z m aR=(Cb (O z x)=true/\iX z bd=true/\fy P base bN (cZ z d (O z x)) (m) aR):=by rw[nr rfl];rfl
@[simp] theorem aYF(G:List Value):fy P base (⟨aW,d,none,.nu G,bd⟩::bN) z m aR=(iX z bd=true/\fy P base bN (cZ z d (.pointer (some ⟨base+aW,0,none⟩))) (m.aO (base+aW) (some ⟨G,true⟩)) aR):=by rw[nr rfl];simp only[ah.ok,true_and];try rfl
@[simp] theorem aYI(x:Operand):fy P base (⟨aW,d,none,.oy x,bd⟩::bN) z m aR=(au (O z x)=true/\iX z bd=true/\fy P base bN (cZ z d (.pointer (some ⟨base+aW,0,none⟩))) (m.aO (base+aW) (some ⟨an (O z x),true⟩)) aR):=by rw[nr rfl];rfl
@[simp] theorem aYK(G:List Value)(ps:List (Nat×Nat×Operand)):fy P base (⟨aW,d,none,.vl G ps,bd⟩::bN) z m aR=(rS G z ps=true/\iX z bd=true/\fy P base bN (cZ z d (.agg (nj G z ps).toArray)) (m) aR):=by rw[nr rfl];rfl
@[simp] theorem aYJ(G n:Nat)(cs:List Value)(ps:List (Nat×Nat×Operand)):fy P base (⟨aW,d,none,.mh G n cs ps,bd⟩::bN) z m aR=(rS cs z ps=true/\iX z bd=true/\fy P base bN (cZ z d (.slice (some ⟨base+aW,0,none⟩) n G)) (m.aO (base+aW) (some ⟨nj cs z ps,true⟩)) aR):=by rw[nr rfl];rfl
@[simp] theorem aYS(dr:Bool)(n:Nat)(x:Operand):fy P base (⟨aW,d,none,.g4 dr n x,bd⟩::bN) z m aR=((gT m (O z x) n&&(dr||decide (n=1)))=true/\iX z bd=true/\fy P base bN (cZ z d (lH m dr n (O z x))) (m) aR):=by rw[nr rfl];rfl
@[simp] theorem aY0(n:Nat)(x v:Operand):fy P base (⟨aW,d,none,.store n x v,bd⟩::bN) z m aR=((gT m (O z x) n&&rq m (O z x)&&au (O z v)&&decide ((an (O z v)).length=n))=true/\iX z bd=true/\fy P base bN (cZ z d (undef)) (pn m (O z x) (an (O z v))) aR):=by rw[nr rfl];rfl
@[simp] theorem aYH(op:BinOp)(c:wz)(x y:Operand):fy P base (⟨aW,d,none,.nY op c x y,bd⟩::bN) z m aR=(um op c (O z x) (O z y)=true/\iX z bd=true/\fy P base bN (cZ z d (mJ op (O z x) (O z y))) (m) aR):=by rw[nr rfl];rfl
@[simp] theorem aY1(op:UnOp)(x:Operand):fy P base (⟨aW,d,none,.y5 op x,bd⟩::bN) z m aR=(AO op (O z x)=true/\iX z bd=true/\fy P base bN (cZ z d (FT op (O z x))) (m) aR):=by rw[nr rfl];rfl
@[simp] theorem aYZ(G:Nat)(x:Operand)(bk W:Option Operand):fy P base (⟨aW,d,none,.wg G x bk W,bd⟩::bN) z m aR=((ah.wg G x bk W).ok z m=true/\iX z bd=true/\fy P base bN (cZ z d (rY (O z x) G (hf z bk 0).toNat (hf z W (fm (O z x))).toNat)) (m) aR):=by rw[nr rfl];try rfl
@[simp] theorem aYV(G bytes:Nat)(jf:List Value)(l c:Operand):fy P base (⟨aW,d,none,.oc G bytes jf l c,bd⟩::bN) z m aR=((ah.oc G bytes jf l c).ok z m=true/\iX z bd=true/\fy P base bN (cZ z d (.slice (some ⟨base+aW,0,none⟩) (eN (O z l)).toNat G)) (m.aO (base+aW) (some ⟨(List.replicate (eN (O z l)).toNat jf).flatten,true⟩)) aR):=by rw[nr rfl];try rfl
@[simp] theorem aYN(off:Nat)(x:Operand):fy P base (⟨aW,d,none,.ks off x,bd⟩::bN) z m aR=(sD (O z x)=true/\iX z bd=true/\fy P base bN (cZ z d (yS (O z x) off)) (m) aR):=by rw[nr rfl];rfl
@[simp] theorem aYO(G:Nat)(x i:Operand):fy P base (⟨aW,d,none,.mP G x i,bd⟩::bN) z m aR=((pl G (O z x)&&fe (O z i)&&decide (0<=eN (O z i))&&decide (eN (O z i)<fm (O z x)))=true/\iX z bd=true/\fy P base bN (cZ z d (CP (O z x) G (eN (O z i)))) (m) aR):=by rw[nr rfl];rfl
@[simp] theorem aYP(x i:Operand):fy P base (⟨aW,d,none,.En x i,bd⟩::bN) z m aR=((mQ (O z x)&&fe (O z i)&&decide (0<=eN (O z i))&&decide (eN (O z i)<fm (O z x)))=true/\iX z bd=true/\fy P base bN (cZ z d (.int .u8 (vm (wB (O z x)) (eN (O z i)).toNat))) (m) aR):=by rw[nr rfl];rfl
@[simp] theorem aYM(i:Nat)(x:Operand):fy P base (⟨aW,d,none,.ext i x,bd⟩::bN) z m aR=(FP (O z x) i=true/\iX z bd=true/\fy P base bN (cZ z d (CY (O z x) i)) (m) aR):=by rw[nr rfl];rfl
@[simp] theorem aYQ(x:Operand):fy P base (⟨aW,d,none,.EY x,bd⟩::bN) z m aR=(mQ (O z x)=true/\iX z bd=true/\fy P base bN (cZ z d (.int .i64 (fm (O z x)))) (m) aR):=by rw[nr rfl];rfl
@[simp] theorem aYR(x:Operand):fy P base (⟨aW,d,none,.uS x,bd⟩::bN) z m aR=(iC (O z x)=true/\iX z bd=true/\fy P base bN (cZ z d (.int .i64 (fm (O z x)))) (m) aR):=by rw[nr rfl];rfl
@[simp] theorem aYG(G bytes:Nat)(x y:Operand):fy P base (⟨aW,d,none,.app G bytes x y,bd⟩::bN) z m aR=((ah.app G bytes x y).ok z m=true/\iX z bd=true/\fy P base bN (cZ z d ((ah.app G bytes x y).val (base+aW) z m)) ((ah.app G bytes x y).hd (base+aW) z m) aR):=by rw[nr rfl];try rfl
@[simp] theorem aYT(fK:Bool)(x:Operand)(xs:List Operand):fy P base (⟨aW,d,none,.yF fK x xs,bd⟩::bN) z m aR=((fe (O z x)&&xs.all λy=>fe (O z y))=true/\iX z bd=true/\fy P base bN (cZ z d (xs.foldl (λdN y=>if fK then pK dN (O z y)else pM dN (O z y)) (O z x))) (m) aR):=by rw[nr rfl];rfl
@[simp] theorem aYU(fn:Fn)(fs cs:List Operand):fy P base (⟨aW,d,none,.yG fn fs cs,bd⟩::bN) z m aR=(iX z bd=true/\fy P base bN (cZ z d (.func fn (fs.map (O z)).toArray (cs.map (O z)).toArray)) (m) aR):=by rw[nr rfl];simp only[ah.ok,true_and];try rfl
@[simp] theorem aPJ{t af:TypeId}{v:Value}:KO t (.iface af v)=decide (af=t):=rfl
@[simp] theorem aPK{t:TypeId}{v:Value}:ah4 (.iface t v)=v:=rfl
@[simp] theorem aNZ{t:Nat}:O z (.tmp t)=z t:=rfl
@[simp] theorem aNX{v:Value}:O z (.const v)=v:=rfl
@[simp] theorem aNY{f:Nat}:O z (.func f)= .func (.func f) #[] #[]:=rfl
@[simp] theorem aSK{t:Nat}{v:Value}:cZ z (some t) v=k7 z t v:=rfl
@[simp] theorem aSJ{v:Value}:cZ z none v=z:=rfl
@[simp] theorem aH3{t bf:Nat}{v:Value}:k7 z t v bf=if bf=t then v else z bf:=rfl
@[simp] theorem aPM{a0:Value}{l:List Value}:ig (a0::l) 0=a0:=rfl
@[simp] theorem aPN{a0 bt:Value}{l:List Value}:ig (a0::bt::l) 1=bt:=rfl
@[simp] theorem aPO{a0 bt bR:Value}{l:List Value}:ig (a0::bt::bR::l) 2=bR:=rfl
@[simp] theorem aPP{a0 bt bR a3:Value}{l:List Value}:ig (a0::bt::bR::a3::l) 3=a3:=rfl
@[simp] theorem aPQ{a0 bt bR a3 a4:Value}{l:List Value}:ig (a0::bt::bR::a3::a4::l) 4=a4:=rfl
@[simp] theorem aPR{a0 bt bR a3 a4 ft:Value}{l:List Value}:ig (a0::bt::bR::a3::a4::ft::l) 5=ft:=rfl
@[simp] theorem aPS{a0 bt bR a3 a4 ft jh:Value}{l:List Value}:ig (a0::bt::bR::a3::a4::ft::jh::l) 6=jh:=rfl
@[simp] theorem aPT{a0 bt bR a3 a4 ft jh lU:Value}{l:List Value}:ig (a0::bt::bR::a3::a4::ft::jh::lU::l) 7=lU:=rfl
def adE(v:Value)(b:Bool):Bool:=match v with| .bool c=>c==b|_=>false
@[simp] theorem aYx{c b:Bool}:adE (.bool c) b=(c==b):=rfl
@[simp] theorem aYy{b:Bool}:adE undef b=false:=rfl
@[simp] theorem aYz{t:Nat}{b:Bool}:eX z (some (t,b))=adE (z t) b:=rfl
@[simp] theorem aTl{r:lP}:mU m z [r]=sG m z r:=rfl
@[simp] theorem aTk:mU m z []= .tuple #[]:=rfl
@[simp] theorem aTm{r s:lP}{l:List lP}:mU m z (r::s::l)= .tuple ((r::s::l).map (sG m z)).toArray:=rfl
@[simp] theorem aTg{t:Nat}:sG m z (.bJ t)=z t:=rfl
@[simp] theorem aTf{t n:Nat}{dr:Bool}:sG m z (.ha t dr n)=lH m dr n (z t):=rfl
@[simp] theorem aTj{l:List lP}:mw m z l=l.all (rW m z):=rfl
@[simp] theorem aTe{t:Nat}:rW m z (.bJ t)=true:=rfl
@[simp] theorem aTd{t n:Nat}{dr:Bool}:rW m z (.ha t dr n)=(gT m (z t) n&&(dr||decide (n=1))):=rfl
@[simp] theorem aTc{l:List cO}:hV l m=if l.any (λo=>o.k.fv)=true then m.b0 l.length else m:=by unfold hV;rfl
end
attribute [simp] xW vU eN fe wB an gE ak au Cb sD yS Jl mQ CY FP Pp JS vT hf pN pM pK EO byteOf rS nj
 um mJ Ha Ql CU NT wN qA sx FT AO pW Bi n0 jD
attribute [simp] ob pJ jR lK aq
@[simp] theorem aQo:ah.qW.fv=true:=rfl
@[simp] theorem aPV(a:List Value):(ah.nu a).fv=true:=rfl
@[simp] theorem aPZ(a:Operand):(ah.oy a).fv=true:=rfl
@[simp] theorem aP0(a b:Nat)(c:List Value)(d:List (Nat×Nat×Operand)):(ah.mh a b c d).fv=true:=rfl
@[simp] theorem aP9(a:Operand):(ah.pX a).fv=true:=rfl
@[simp] theorem aQp(a b:Nat)(c:List Value)(d e:Operand):(ah.oc a b c d e).fv=true:=rfl
@[simp] theorem aPX(a b:Nat)(c:List Value)(d e:Operand):(ah.oV a b c d e).fv=true:=rfl
@[simp] theorem aPW(a b:Nat)(c d:Operand):(ah.app a b c d).fv=true:=rfl
@[simp] theorem aP4(a:Operand):(ah.Dt a).fv=false:=rfl
@[simp] theorem aP5(a:List Value)(b:Operand):(ah.hJ a b).fv=false:=rfl
@[simp] theorem aQq(a:lQ)(b:Value)(c:Bool)(d e:Operand):(ah.qX a b c d e).fv=false:=rfl
@[simp] theorem aQs(a:lQ)(b c d:Operand):(ah.o7 a b c d).fv=false:=rfl
@[simp] theorem aQv(a b:Nat)(c:Operand):(ah.sN a b c).fv=false:=rfl
@[simp] theorem aQw(a:Nat)(b:Operand)(c:Option Operand)(d e:Operand):(ah.AN a b c d e).fv=false:=rfl
@[simp] theorem aQn(a:TypeId)(b:Operand):(ah.E6 a b).fv=false:=rfl
@[simp] theorem aQA(a:TypeId)(b:Operand):(ah.IS a b).fv=false:=rfl
@[simp] theorem aQg(a:List (TypeId×Nat×Option (Bool×Nat)))(b:Operand)(c:List Operand):(ah.mq a b c).fv=false:=rfl
@[simp] theorem aQr(a:Operand):(ah.hs a).fv=false:=rfl
@[simp] theorem aQu(a b c:Operand):(ah.uV a b c).fv=false:=rfl
@[simp] theorem aQt(a:Operand):(ah.uT a).fv=false:=rfl
@[simp] theorem aP1(a:List Value)(b:List (Nat×Nat×Operand)):(ah.vl a b).fv=false:=rfl
@[simp] theorem aQk(a:Bool)(b:Nat)(c:Operand):(ah.g4 a b c).fv=false:=rfl
@[simp] theorem aQz(a:Nat)(b c:Operand):(ah.store a b c).fv=false:=rfl
@[simp] theorem aPY(a:BinOp)(b:wz)(c d:Operand):(ah.nY a b c d).fv=false:=rfl
@[simp] theorem aQa(a:Bool)(b:List r9)(c d:Operand):(ah.zG a b c d).fv=false:=rfl
@[simp] theorem aQB(a:UnOp)(b:Operand):(ah.y5 a b).fv=false:=rfl
@[simp] theorem aP7(a:IntKind)(b:Operand):(ah.Dx a b).fv=false:=rfl
@[simp] theorem aP8(a:Operand):(ah.Gu a).fv=false:=rfl
@[simp] theorem aP6(a:Operand):(ah.py a).fv=false:=rfl
@[simp] theorem aQy(a:Operand)(b c:Option Operand):(ah.FK a b c).fv=false:=rfl
@[simp] theorem aQx(a:Nat)(b:Operand)(c d:Option Operand):(ah.wg a b c d).fv=false:=rfl
@[simp] theorem aQc(a:Nat)(b:Operand):(ah.ks a b).fv=false:=rfl
@[simp] theorem aQd(a:Bool)(b c:Nat)(d:Operand):(ah.field a b c d).fv=false:=rfl
@[simp] theorem aQe(a:Nat)(b c:Operand):(ah.mP a b c).fv=false:=rfl
@[simp] theorem aQf(a b:Nat)(c d:Operand):(ah.Aa a b c d).fv=false:=rfl
@[simp] theorem aQh(a b:Operand):(ah.En a b).fv=false:=rfl
@[simp] theorem aQb(a:Nat)(b:Operand):(ah.ext a b).fv=false:=rfl
@[simp] theorem aQi(a:Operand):(ah.EY a).fv=false:=rfl
@[simp] theorem aQj(a:Operand):(ah.uS a).fv=false:=rfl
@[simp] theorem aQl(a:Bool)(b:Operand)(c:List Operand):(ah.yF a b c).fv=false:=rfl
@[simp] theorem aQm(a:Fn)(b c:List Operand):(ah.yG a b c).fv=false:=rfl
@[simp] theorem aP2(a:Nat)(b:List Operand):(ah.lA a b).fv=false:=rfl
@[simp] theorem aP3(a:Operand)(b:List Operand):(ah.m2 a b).fv=false:=rfl
abbrev aJF(n:Nat):Operand:= .tmp n
abbrev axa(i d x:Nat):cO:=⟨i,some d,none,.hs (.tmp x),[]⟩
abbrev aw9(i d:Nat)(n:Int):cO:=⟨i,some d,none,.hs (.const (.int .i64 n)),[]⟩
abbrev aw8(i d:Nat)(b:Bool):cO:=⟨i,some d,none,.hs (.const (.bool b)),[]⟩
abbrev aw6(i d x:Nat):cO:=⟨i,some d,none,.g4 false 1 (.tmp x),[]⟩
abbrev aw5(i d n x:Nat):cO:=⟨i,some d,none,.g4 true n (.tmp x),[]⟩
abbrev aw2(i d n x:Nat):cO:=⟨i,some d,none,.ks n (.tmp x),[]⟩
abbrev awX(i d:Nat)(op:BinOp)(x y:Operand):cO:=⟨i,some d,none,.nY op .sC x y,[]⟩
abbrev aw4(i d G x y:Nat):cO:=⟨i,some d,none,.mP G (.tmp x) (.tmp y),[]⟩
abbrev aw7(i d x:Nat):cO:=⟨i,some d,none,.uS (.tmp x),[]⟩
abbrev aw1(i d n x:Nat):cO:=⟨i,some d,none,.ext n (.tmp x),[]⟩
abbrev awZ(i d f:Nat)(bu:List Operand):cO:=⟨i,some d,none,.lA f bu,[]⟩
abbrev aBD(i n x y:Nat):cO:=⟨i,none,none,.store n (.tmp x) (.tmp y),[]⟩
abbrev axs(i d:Nat)(k:ah):cO:=⟨i,some d,none,k,[]⟩
abbrev axr(i d j:Nat)(b:Bool)(k:ah):cO:=⟨i,some d,some (j,b),k,[]⟩
abbrev axq(i d:Nat)(k:ah)(bd:List (Operand×Operand)):cO:=⟨i,some d,none,k,bd⟩
abbrev axf(i:Nat)(k:ah):cO:=⟨i,none,none,k,[]⟩
def bg:aw->Nat->aw
 | .ky a b,p=>if p=1 then .ky a b else if p%2=0 then bg a (p/2)else bg b (p/2)
 | .nx c a b,p=>if p=1 then .nx c a b else if p%2=0 then bg a (p/2)else bg b (p/2)
 | .block i a,p=>if p=1 then .block i a else bg a (p/2)
 | .loop a,p=>if p=1 then .loop a else bg a (p/2)
 |c,_=>c
def bh(p:Nat)(x:aw):aw->aw
 | .ky a b=>if p=1 then x else if p%2=0 then .ky (bh (p/2) x a) b else .ky a (bh (p/2) x b)
 | .nx c a b=>if p=1 then x else if p%2=0 then .nx c (bh (p/2) x a) b else .nx c a (bh (p/2) x b)
 | .block i a=>if p=1 then x else .block i (bh (p/2) x a)
 | .loop a=>if p=1 then x else .loop (bh (p/2) x a)
 |c=>if p=1 then x else c
abbrev aF{dF:Type}{a:dF}(h:{b:dF//a=b}):dF:=h.1
@[simp↓] theorem aR7{dF:Type}{a x:dF}{h:a=x}:aF ⟨x,h⟩=x:=rfl
abbrev cp(P:Program)(f:Nat):={c:b8//cd P f=some c}
attribute [simp] aJF axa aw9 aw8 aw6 aw5 aw2 awX aw4 aw7 aw1 awZ aBD axs axr axq axf
section
variable {m:H} {b cw k:Nat} {x y:Option eM} {G:eM}
@[simp] theorem eJ:(m.aO b x).next=m.next:=rfl
@[simp] theorem fp:(m.b0 k).next=m.next+k:=rfl
theorem aM(h:m.I b=some G):b<m.next:=by
 unfold H.I at h;split at h
 ·assumption
 ·cases h
theorem cx(h:b<m.next):(m.aO b x).I b=x:=by simp[H.I,H.aO,h]
theorem a7(h:cw≠b):(m.aO b x).I cw=m.I cw:=by simp[H.I,H.aO,h]
theorem cJ(h:b<m.next):(m.b0 k).I b=m.I b:=by
 have:b<m.next+k:=by omega
 simp[H.I,H.b0,h,this]
@[simp] theorem aRR{es:List (Value×Value)}:(m.hv b es).next=m.next:=rfl
theorem bE:(∀(m:H) (b:Nat) (x:Option eM),(m.aO b x).next=m.next)/\(∀(m:H) (k:Nat),(m.b0 k).next=m.next+k)/\ ∀(m:H) (b:Nat) (es:List (Value×Value)),(m.hv b es).next=m.next:=⟨λ_ _ _=>rfl,λ_ _=>rfl,λ_ _ _=>rfl⟩
theorem J1{es:List (Value×Value)}(h:b<m.next):(m.hv b es).I b=some ⟨[],true⟩:=by simp[H.I,H.hv,h]
theorem oW{es:List (Value×Value)}(h:cw≠b):(m.hv b es).I cw=m.I cw:=by simp[H.I,H.hv,h]
theorem JZ{es:List (Value×Value)}(h:b<m.next):(m.hv b es).fu b=some es:=by simp[H.fu,J1 h];simp[H.hv]
theorem JY{es:List (Value×Value)}(h:cw≠b):(m.hv b es).fu cw=m.fu cw:=by simp[H.fu,oW h];simp[H.hv,h]
theorem vw(h:cw≠b):(m.aO b x).fu cw=m.fu cw:=by simp[H.fu,a7 h];rfl
theorem VU(h:b<m.next):(m.b0 k).fu b=m.fu b:=by simp[H.fu,cJ h];rfl
theorem abk:(m.aO b x).aO b y=m.aO b y:=by simp only[H.aO,H.mk.injEq,true_and,and_true];funext i;by_cases h:i=b<;>simp[h]
theorem abl(h:m.I b=some G):m.aO b (some G)=m:=by
 obtain⟨n,f,g⟩:=m;have A:=aM h;simp only[H.I,H.aO,H.mk.injEq,true_and,and_true]at h A⊢;rw[if_pos A]at h;funext i;by_cases W:i=b
 ·subst W;simp[h]
 ·simp[W]
@[simp] theorem arY{a o n:Nat}:gT m (.pointer (some ⟨a,o,none⟩)) n=(match m.I a with|some x=>decide (o+n<=x.cells.length)|none=>false):=rfl
@[simp] theorem aeE{a o:Nat}:rq m (.pointer (some ⟨a,o,none⟩))=(match m.I a with|some x=>x.own|none=>false):=rfl
@[simp] theorem aCA{a o n:Nat}{dr:Bool}:lH m dr n (.pointer (some ⟨a,o,none⟩))=if dr then .agg (gM m a o n).toArray else(gM m a o 1).headD undef:=rfl
@[simp] theorem afl{a o n:Nat}:gM m a o n=match m.I a with|some x=>(x.cells.drop o).take n|none=>[]:=rfl
@[simp] theorem aHv{a o:Nat}{cs:List Value}:pn m (.pointer (some ⟨a,o,none⟩)) cs=match m.I a with|some x=>m.aO a (some ⟨gE x.cells o cs,x.own⟩)|none=>m:=rfl
@[simp] theorem apx{a o l c n:Nat}:fw m n (.slice (some ⟨a,o,none⟩) l c)=(c==n&&(match m.I a with|some x=>decide (o+l*n<=x.cells.length)|none=>false)):=rfl
@[simp] theorem aW6{n:Nat}:fw m n (.slice none 0 0)=true:=rfl
@[simp] theorem aW8{a o l c:Nat}:iJ m (.slice (some ⟨a,o,none⟩) l c)=(match m.I a with|some x=>x.own|none=>false):=rfl
@[simp] theorem aW7{l c:Nat}:iJ m (.slice none l c)=true:=rfl
@[simp] theorem aHg{a o l c n:Nat}:fq m n (.slice (some ⟨a,o,none⟩) l c)=gM m a o (l*n):=rfl
@[simp] theorem aW1{l c n:Nat}:fq m n (.slice none l c)=[]:=rfl
@[simp] theorem aQ5{a o l c:Nat}:hC m (.slice (some ⟨a,o,none⟩) l c)=m.aO a none:=rfl
@[simp] theorem aQ4{l c:Nat}:hC m (.slice none l c)=m:=rfl
end
theorem cY{n:Int}(A: -9223372036854775808<=n)(D:n<=9223372036854775807):IntKind.i64.wrap n=n:=IntWalk.i64_in n ⟨A,D⟩
theorem fz{n:Nat}(h:n<9223372036854775807):IntKind.i64.wrap ((n:Int)+1)=(n:Int)+1:=cY (by omega) (by omega)
theorem gk{dF:Type}{l:List dF}{i:Nat}(h:i<l.length): ∃x,l[i]?=some x:=⟨_,List.getElem?_eq_getElem h⟩
section
variable {P:Program} {z:aC} {m:H} {Q:cM->aC->H->Prop}
def rM(bM:aC->H->Prop)(Q:cM->aC->H->Prop)(e:cM)(z:aC)(m:H):Prop:=match e with| .eB=>bM z m|e=>Q e z m
@[simp] theorem aRy{bM:aC->H->Prop}:rM bM Q .eB z m=bM z m:=rfl
@[simp] theorem aRx{bM:aC->H->Prop}{id:Nat}:rM bM Q (.cH id) z m=Q (.cH id) z m:=rfl
@[simp] theorem aRz{bM:aC->H->Prop}:rM bM Q .e3 z m=Q .e3 z m:=rfl
theorem j7{c:aw}(h: ∀bM:aC->H->Prop,(∀K U,fG P (.loop c) K U Q->bM K U)->fG P c z m (rM bM Q)):fG P (.loop c) z m Q:=by rw[aqG];refine(h (λK U=>fG P (.loop c) K U Q) (λ_ _ h=>h)).bD λe K U h=> ?_;cases e<;>exact h
def O0(P:Program)(v:Value)(args:List Value)(m:H)(bA:Value->H->Prop):Prop:=match v with
 | .func (.func f) first kr=>ep P f (first.toList++args++kr.toList) m bA
 |_=>False
@[simp] theorem aNk{f:Nat}{first kr:Array Value}{args:List Value}{bA:Value->H->Prop}:O0 P (.func (.func f) first kr) args m bA=ep P f (first.toList++args++kr.toList) m bA:=rfl
@[simp] theorem aYL{base aW:Nat}{d:Option Nat}{bN:List cO}{aR:aC->H->Prop}{bd:List (Operand×Operand)}{x:Operand}{bu:List Operand}:
 fy P base (⟨aW,d,none,.m2 x bu,bd⟩::bN) z m aR=O0 P (O z x) (bu.map (O z)) m (wF P base d bd bN z m aR):=by
  by_cases B: ∃f first kr,O z x= .func (.func f) first kr
  ·obtain⟨f,first,kr,B⟩:=B;rw[adS B,B];rfl
  ·have gP:(ah.m2 x bu).fF z m=none:=by
    simp only[ah.fF];split
    ·rename_i f first kr h;exact absurd ⟨f,first,kr,h⟩ B
    ·rfl
   have D:O0 P (O z x) (bu.map (O z)) m (wF P base d bd bN z m aR)=False:=by
    unfold O0;split
    ·rename_i f first kr h;exact absurd ⟨f,first,kr,h⟩ B
    ·rfl
   rw[D];refine propext ⟨λ⟨n,K,U,h,q⟩=> ?_,False.elim⟩;obtain⟨bQ,bn,A,_,_⟩:=sI h;obtain⟨av,_⟩:=Uk (o:=⟨aW,d,none,.m2 x bu,bd⟩) rfl gP A;cases av
def Qi(P:Program)(bI:List (TypeId×Nat×Option (Bool×Nat)))(v:Value)(args:List Value)(m:H)(bA:Value->H->Prop):Prop:=match v with
 | .iface t v=>match bI.find? (λr=>r.1==t)with
   |some (_,f,none)=>ep P f (v::args) m bA
   |some (_,f,some (dr,n))=>(gT m v n&&(dr||decide (n=1)))=true/\ep P f (lH m dr n v::args) m bA
   |none=>False
 |_=>False
theorem aIA{base aW:Nat}{d:Option Nat}{bN:List cO}{aR:aC->H->Prop}{bd:List (Operand×Operand)}{bI:List (TypeId×Nat×Option (Bool×Nat))}{x:Operand}{bu:List Operand}:
 fy P base (⟨aW,d,none,.mq bI x bu,bd⟩::bN) z m aR=Qi P bI (O z x) (bu.map (O z)) m (wF P base d bd bN z m aR):=by
 have kh:(ah.mq bI x bu).fF z m=none->fy P base (⟨aW,d,none,.mq bI x bu,bd⟩::bN) z m aR=False:= λgP=>by refine propext ⟨λ⟨n,K,U,h,q⟩=> ?_,False.elim⟩;obtain⟨bQ,bn,A,_,_⟩:=sI h;obtain⟨av,_⟩:=Uk (o:=⟨aW,d,none,.mq bI x bu,bd⟩) rfl gP A;cases av
 unfold Qi;split
 ·rename_i t v M;split
  ·rename_i r f al;exact Uz (by simp only[ah.fF,M,al])
  ·rename_i r f dr n al;by_cases av:(gT m v n&&(dr||decide (n=1)))=true
   ·rw[Uz (f:=f) (args:=lH m dr n v::bu.map (O z)) (by simp only[ah.fF,M,al,av,if_true])];simp only[av,true_and]
   ·rw[kh (by simp only[ah.fF,M,al,if_neg av])];exact propext ⟨False.elim,λh=>absurd h.1 av⟩
  ·rename_i al;rw[kh (by simp only[ah.fF,M,al])]
 ·rename_i M;refine kh ?_;simp only[ah.fF]
@[simp] theorem aIz{base aW:Nat}{d:Option Nat}{bN:List cO}{aR:aC->H->Prop}{bd:List (Operand×Operand)}{bI:List (TypeId×Nat×Option (Bool×Nat))}{x:Operand}{bu:List Operand}:
 fy P base (⟨aW,d,none,.mq bI x bu,bd⟩::bN) z m aR=Qi P bI (O z x) (bu.map (O z)) m (wF P base d bd bN z m aR):=aIA
end
@[simp] theorem aRi{d a0:Value}{l:List Value}:(a0::l)[0]?.getD d=a0:=rfl
@[simp] theorem aRj{d a0 bt:Value}{l:List Value}:(a0::bt::l)[1]?.getD d=bt:=rfl
@[simp] theorem aRk{d a0 bt bR:Value}{l:List Value}:(a0::bt::bR::l)[2]?.getD d=bR:=rfl
@[simp] theorem aRl{d a0 bt bR a3:Value}{l:List Value}:(a0::bt::bR::a3::l)[3]?.getD d=a3:=rfl
@[simp] theorem aRm{d a0 bt bR a3 a4:Value}{l:List Value}:(a0::bt::bR::a3::a4::l)[4]?.getD d=a4:=rfl
@[simp] theorem aRn{d a0 bt bR a3 a4 ft:Value}{l:List Value}:(a0::bt::bR::a3::a4::ft::l)[5]?.getD d=ft:=rfl
@[simp] theorem aRo{d a0 bt bR a3 a4 ft jh:Value}{l:List Value}:(a0::bt::bR::a3::a4::ft::jh::l)[6]?.getD d=jh:=rfl
@[simp] theorem aRp{d a0 bt bR a3 a4 ft jh lU:Value}{l:List Value}:(a0::bt::bR::a3::a4::ft::jh::lU::l)[7]?.getD d=lU:=rfl
attribute [simp] ah.ok ah.val ah.hd
section
variable {p:Option Addr} {a:Addr} {l c G i j:Nat}
@[simp] theorem uR{s:ByteArray}:fm (.string s)=s.size:=rfl
@[simp] theorem aRe:fm (.slice p l c)=l:=rfl
@[simp] theorem aQH:iC (.slice p l c)=true:=rfl
@[simp] theorem aW2:fR (.slice p l c)=l:=rfl
@[simp] theorem aWV{b o:Nat}:pl G (.slice (some ⟨b,o,none⟩) l c)=(c==G):=rfl
@[simp] theorem aWO{b o:Nat}{n:Int}:CP (.slice (some ⟨b,o,none⟩) l c) G n= .pointer (some ⟨b,o+n.toNat*G,none⟩):=rfl
@[simp] theorem aW0{b o:Nat}:rY (.slice (some ⟨b,o,none⟩) l c) G i j= .slice (some ⟨b,o+i*G,none⟩) (j-i) c:=rfl
@[simp] theorem aWU:pl G (.slice none 0 0)=true:=rfl
@[simp] theorem aWZ:rY (.slice none 0 0) G i j= .slice none 0 0:=rfl
end
@[simp] theorem aYe{n:Nat}:min n IntKind.u64.bits=min n 64:=rfl
@[simp] theorem aYd{n:Nat}:min n IntKind.u32.bits=min n 32:=rfl
attribute [simp] cx a7 cJ abk
open Go Go.RowKit
structure fA(bU:Nat->Prop)(dX m X:H):Prop where
 next:X.next=m.next
 y8:dX.next<=m.next
 bk: ∀b,bU b->b<m.next
 off: ∀b,bU b->m.I b=none
 bZ: ∀b,bU b->X.I b=dX.I b/\X.mp b=dX.mp b
 eq: ∀b,¬bU b->X.I b=m.I b
 mp:X.mp=m.mp
section
variable {bU:Nat->Prop} {dX m X:H}
theorem fA.fg(J:fA bU dX m X){b:Nat}{x:eM}(h:m.I b=some x): ¬bU b:= λaV=>by rw[J.off b aV]at h;cases h
theorem fA.I(J:fA bU dX m X){b:Nat}{x:eM}(h:m.I b=some x):X.I b=some x:=by rw[J.eq b (J.fg h),h]
theorem fA.fu(J:fA bU dX m X){b:Nat}{e:List (Value×Value)}(h:m.fu b=some e):X.fu b=some e:=by
 unfold H.fu at h⊢;cases aH:m.I b with
 |none=>rw[aH]at h;cases h
 |some x=>rw[aH]at h;rw[J.I aH,J.mp];exact h
theorem fA.VV(J:fA bU dX m X){b:Nat}{e:List (Value×Value)}(h:m.fu b=some e): ¬bU b:=by
 unfold H.fu at h;cases aH:m.I b with
 |none=>rw[aH]at h;cases h
 |some x=>exact J.fg aH
theorem fA.aO(J:fA bU dX m X){b:Nat}(hb: ¬bU b)(x:Option eM):fA bU dX (m.aO b x) (X.aO b x) where
 next:=J.next
 y8:=J.y8
 bk:=J.bk
 off c ar:=by rw[a7 (show c≠b from λh=>hb (h▸ar)),J.off c ar]
 bZ c ar:=⟨by rw[a7 (show c≠b from λh=>hb (h▸ar)),(J.bZ c ar).1],(J.bZ c ar).2⟩
 eq c ar:=by
  by_cases h:c=b
  ·subst h;simp only[H.I,H.aO,J.next,if_true]
  ·rw[a7 h,a7 h,J.eq c ar]
 mp:=J.mp
theorem fA.hv(J:fA bU dX m X){b:Nat}(hb: ¬bU b)(e:List (Value×Value)):fA bU dX (m.hv b e) (X.hv b e) where
 next:=J.next
 y8:=J.y8
 bk:=J.bk
 off c ar:=by rw[oW (show c≠b from λh=>hb (h▸ar)),J.off c ar]
 bZ c ar:=by refine⟨by rw[oW (show c≠b from λh=>hb (h▸ar)),(J.bZ c ar).1],by show(if c=b then some e else X.mp c)=_;rw[if_neg (show c≠b from λh=>hb (h▸ar))];exact(J.bZ c ar).2⟩
 eq c ar:=by
  by_cases h:c=b
  ·subst h;simp only[H.I,H.hv,J.next,if_true]
  ·rw[oW h,oW h,J.eq c ar]
 mp:=by show(λi=>if i=b then some e else X.mp i)=_;rw[J.mp];rfl
theorem fA.b0(J:fA bU dX m X)(k:Nat):fA bU dX (m.b0 k) (X.b0 k) where
 next:=by show X.next+k=m.next+k;rw[J.next]
 y8:=by have:=J.y8;show dX.next<=m.next+k;omega
 bk b hb:=by have:=J.bk b hb;show b<m.next+k;omega
 off b hb:=by rw[cJ (J.bk b hb),J.off b hb]
 bZ b hb:=⟨by rw[cJ (by rw[J.next];exact J.bk b hb),(J.bZ b hb).1],(J.bZ b hb).2⟩
 eq b hb:=by
  by_cases h:b<m.next
  ·rw[cJ h,cJ (by rw[J.next];exact h),J.eq b hb]
  ·simp[H.I,H.b0,J.next,h]
 mp:=J.mp
theorem fA.gT(J:fA bU dX m X){v:Value}{n:Nat}(h:gT m v n=true):gT X v n=true:=by
 unfold DI.gT at h⊢;split at h
 ·rename_i a;simp only[a6]at h⊢;refine⟨h.1,?_⟩;cases aH:m.I a.block with
  |none=>rw[aH]at h;simp at h
  |some x=>rw[aH]at h;rw[J.I aH];exact h.2
 ·cases h
theorem fA.rq(J:fA bU dX m X){v:Value}(h:rq m v=true):rq X v=true:=by
 unfold DI.rq at h⊢;split at h
 ·rename_i a;cases aH:m.I a.block with
  |none=>rw[aH]at h;cases h
  |some x=>rw[aH]at h;rw[J.I aH];exact h
 ·cases h
theorem fA.lH(J:fA bU dX m X){v:Value}{n:Nat}{dr:Bool}(h:DI.gT m v n=true):lH X dr n v=lH m dr n v:=by
 unfold DI.gT at h;split at h
 ·rename_i a;simp only[a6]at h;cases aH:m.I a.block with
  |none=>rw[aH]at h;simp at h
  |some x=>simp only[DI.lH,gM,aH,J.I aH]
 ·cases h
theorem fA.pn(J:fA bU dX m X){v:Value}{n:Nat}{cs:List Value}(h:DI.gT m v n=true):fA bU dX (pn m v cs) (pn X v cs):=by
 unfold DI.gT at h;split at h
 ·rename_i a;simp only[a6]at h;cases aH:m.I a.block with
  |none=>rw[aH]at h;simp at h
  |some x=>simp only[DI.pn,aH,J.I aH];exact J.aO (J.fg aH) _
 ·cases h
theorem fA.fw(J:fA bU dX m X){v:Value}{G:Nat}(h:fw m G v=true):fw X G v=true:=by
 unfold DI.fw at h⊢;split at h
 ·exact h
 ·rename_i a l c;simp only[a6]at h⊢;refine⟨h.1,?_⟩;cases aH:m.I a.block with
  |none=>rw[aH]at h;simp at h
  |some x=>rw[aH]at h;rw[J.I aH];exact h.2
 ·cases h
theorem fA.iJ(J:fA bU dX m X){v:Value}(h:iJ m v=true):iJ X v=true:=by
 unfold DI.iJ at h⊢;split at h
 ·rfl
 ·rename_i a l c;cases aH:m.I a.block with
  |none=>rw[aH]at h;cases h
  |some x=>rw[aH]at h;rw[J.I aH];exact h
 ·cases h
theorem fA.fq(J:fA bU dX m X){v:Value}{G:Nat}(h:DI.fw m G v=true):fq X G v=fq m G v:=by
 unfold DI.fw at h;split at h
 ·rfl
 ·rename_i a l c;simp only[a6]at h;cases aH:m.I a.block with
  |none=>rw[aH]at h;simp at h
  |some x=>simp only[DI.fq,gM,aH,J.I aH]
 ·cases h
theorem fA.hC(J:fA bU dX m X){v:Value}{G:Nat}(h:DI.fw m G v=true):fA bU dX (hC m v) (hC X v):=by
 unfold DI.fw at h;split at h
 ·exact J
 ·rename_i a l c;simp only[a6]at h;cases aH:m.I a.block with
  |none=>rw[aH]at h;simp at h
  |some x=>exact J.aO (J.fg aH) _
 ·cases h
theorem fA.n1(J:fA bU dX m X){v:Value}{G:Nat}{cs:List Value}(h:DI.fw m G v=true):fA bU dX (n1 m cs v) (n1 X cs v):=by
 unfold DI.fw at h;split at h
 ·exact J
 ·rename_i a l c;simp only[a6]at h;cases aH:m.I a.block with
  |none=>rw[aH]at h;simp at h
  |some x=>simp only[DI.n1,aH,J.I aH];exact J.aO (J.fg aH) _
 ·cases h
theorem fA.lI(J:fA bU dX m X){v:Value}{es:List (Value×Value)}(h:lI m v=some es):lI X v=some es:=by
 unfold DI.lI at h⊢;split at h
 ·exact h
 ·exact J.fu h
 ·cases h
theorem MV(J:fA bU dX m X){k:ah}{z:aC}(h:k.ok z m=true):k.ok z X=true:=by
 cases k with
 |sN G n y=>simp only[ah.ok,a6]at h⊢;exact⟨J.gT h.1,h.2⟩
 |g4 dr n x=>simp only[ah.ok,a6]at h⊢;exact⟨J.gT h.1,h.2⟩
 |store n x v=>simp only[ah.ok,a6]at h⊢;exact⟨⟨⟨J.gT h.1.1.1,J.rq h.1.1.2⟩,h.1.2⟩,h.2⟩
 |py x=>simp only[ah.ok,a6]at h⊢;exact⟨J.fw h.1,by rw[J.fq h.1];exact h.2⟩
 |app G bytes x y=>simp only[ah.ok,a6]at h⊢;exact⟨⟨⟨⟨⟨J.fw h.1.1.1.1.1,J.iJ h.1.1.1.1.2⟩,J.fw h.1.1.1.2⟩,h.1.1.2⟩,h.1.2⟩,h.2⟩
 |hJ G x=>simp only[ah.ok,a6]at h⊢;exact⟨⟨J.fw h.1.1,J.iJ h.1.2⟩,h.2⟩
 | qX bd G o x e0=>
   simp only[ah.ok]at h⊢;cases ab:DI.lI m (O z x)with
   |none=>rw[ab]at h;cases h
   |some es=>rw[ab]at h;rw[J.lI ab];exact h
 | o7 bd x e0 v=>
   simp only[ah.ok]at h⊢;split at h
   ·rename_i pq b hb;cases ab:m.fu b with
    |none=>rw[ab]at h;cases h
    |some es=>rw[ab]at h;rw[J.fu ab];exact h
   ·cases h
 |_=>exact h
theorem N2(J:fA bU dX m X){k:ah}{z:aC}{id:Nat}(h:k.ok z m=true):k.val id z X=k.val id z m:=by
 cases k with
 |g4 dr n x=>simp only[ah.ok,a6]at h;exact J.lH h.1
 |py x=>simp only[ah.ok,a6]at h;simp only[ah.val,J.fq h.1]
 | qX bd G o x e0=>
   simp only[ah.ok]at h;cases ab:DI.lI m (O z x)with
   |none=>rw[ab]at h;cases h
   |some es=>simp only[ah.val,ab,J.lI ab]
 |_=>rfl
theorem MM(J:fA bU dX m X){k:ah}{z:aC}{id:Nat}(eP: ¬bU id)(h:k.ok z m=true):fA bU dX (k.hd id z m) (k.hd id z X):=by
 cases k with
 |nu G=>exact J.aO eP _
 |oy x=>exact J.aO eP _
 |mh a b c d=>exact J.aO eP _
 |pX x=>exact J.aO eP _
 |oV a b c d e=>exact J.aO eP _
 |hJ G x=>simp only[ah.ok,a6]at h;exact J.n1 h.1.1
 |oc a b c d e=>exact J.aO eP _
 |store n x v=>simp only[ah.ok,a6]at h;exact J.pn h.1.1.1
 | app G bytes x y=>
   simp only[ah.ok,a6]at h;simp only[ah.hd];split
   ·exact J
   ·rw[J.fq h.1.1.1.1.1,J.fq h.1.1.1.2];exact(J.hC h.1.1.1.1.1).aO eP _
 |qW=>exact J.hv eP _
 | o7 bd x e0 v=>
   simp only[ah.ok]at h;split at h
   ·rename_i pq b hb;cases ab:m.fu b with
    |none=>rw[ab]at h;cases h
    |some es=>simp only[ah.hd,hb,yE,ab,J.fu ab];exact J.hv (J.VV ab) _
   ·cases h
 |_=>exact J
theorem OY(J:fA bU dX m X){k:ah}{z:aC}{ml:Nat×List Value}(h:k.fF z m=some ml):k.fF z X=some ml:=by
 cases k with
 | mq bI x args=>
   simp only[ah.fF]at h⊢;split at h
   ·split at h
    ·exact h
    ·split at h
     ·rename_i ar;simp only[a6]at ar;rw[if_pos (by simp only[a6];exact⟨J.gT ar.1,ar.2⟩),J.lH ar.1];exact h
     ·cases h
    ·cases h
   ·cases h
 |_=>exact h
theorem Vi{m X:H}{k:ah}{z:aC}(h:k.fF z m=none)(av:k.ok z m=true):k.fF z X=none:=by
 refine uJ ?_;cases k with
 |lA f a=>simp[ah.ok]at av
 |m2 f a=>simp[ah.ok]at av
 |mq f a b=>simp[ah.ok]at av
 |_=>rfl
def Oo(bU:Nat->Prop)(dX:H)(b4:Callee):Prop:= ∀f a m r U,b4 f a m=some (r,U)-> ∀X,fA bU dX m X-> ∃cF,b4 f a X=some (r,cF)/\fA bU dX U cF
theorem Z7{U cF:H}(J:fA bU dX m X)(cU:fA bU dX U cF){z:aC}{bd:List (Operand×Operand)}(h:uP z bd m U):uP z bd X cF:= λp Z b hb=>by
 by_cases aV:bU b
 ·rw[(J.bZ b aV).1,(cU.bZ b aV).1]
 ·rw[J.eq b aV,cU.eq b aV];exact h p Z b hb
theorem ac5{b4:Callee}(cu:Oo bU dX b4)(J:fA bU dX m X){base:Nat}(hb: ∀b,bU b->b<base){o:cO}{z K:aC}{U:H}(h:iq b4 base o z m=some (K,U))(S:qz o z m U):
 ∃cF,iq b4 base o z X=some (K,cF)/\fA bU dX U cF/\qz o z X cF:=by
 unfold iq at h⊢;unfold qz at S⊢;by_cases aS:eX z o.g=true
 ·rw[if_pos aS]at h⊢
  replace S:=S aS
  cases ar:o.k.fF z m with
  | none=>
    rw[ar]at h S;simp only at h S;split at h
    ·rename_i av;cases h;simp only[Vi ar av];rw[if_pos (MV J av),N2 J av];exact⟨_,rfl,MM J (λaV=>by have:=hb _ aV;omega) av,λ_=>S⟩
    ·cases h
  | some ml=>
    obtain⟨f,args⟩:=ml;rw[ar]at h S;simp only at h S;cases a5:b4 f args m with
    |none=>rw[a5]at h;cases h
    | some IT=>obtain⟨v,bn⟩:=IT;rw[a5]at h;cases h;obtain⟨cF,A,cU⟩:=cu _ _ _ _ _ a5 X J;simp only[OY J ar,A];exact⟨_,rfl,cU,λ_=>Z7 J cU S⟩
 ·rw[if_neg aS]at h⊢;cases h;exact⟨X,rfl,J,λh=>absurd h aS⟩
theorem Au{b4:Callee}(cu:Oo bU dX b4){base:Nat}(hb: ∀b,bU b->b<base): ∀{L:List cO} {z K:aC} {m U X:H},fA bU dX m X->k3 b4 base L z m=some (K,U)-> ∃cF,k3 b4 base L z X=some (K,cF)/\fA bU dX U cF
 |[],_,_,_,_,X,J,h=>by cases h;exact⟨X,rfl,J⟩
 | _::_,_,_,_,_,X,J,h=>by obtain⟨bQ,bn,A,D,ai⟩:=sI h;obtain⟨de,aE,cV,a2⟩:=ac5 cu J hb A D;obtain⟨fN,cj,gB⟩:=Au cu hb cV ai;exact⟨fN,AD aE a2 cj,gB⟩
theorem L6{f:aC->H->Option (cM×aC×H)}(a5: ∀z m e K U,f z m=some (e,K,U)-> ∀X,fA bU dX m X-> ∃cF,f z X=some (e,K,cF)/\fA bU dX U cF):
 ∀{n:Nat} {z:aC} {m:H} {e:cM} {K:aC} {U X:H},kP f n z m=some (e,K,U)->fA bU dX m X-> ∃cF,kP f n z X=some (e,K,cF)/\fA bU dX U cF
 |0,_,_,_,_,_,_,h,_=>by simp[kP]at h
 | n+1,z,m,e,K,U,X,h,J=>by
   rcases L7 h with⟨bQ,bn,A,D⟩|⟨A,D⟩
   ·obtain⟨de,aE,cV⟩:=a5 _ _ _ _ _ A X J;obtain⟨fN,a2,gB⟩:=L6 a5 D cV;exact⟨fN,by simp only[kP,aE];exact a2,gB⟩
   ·obtain⟨de,aE,cV⟩:=a5 _ _ _ _ _ A X J;refine⟨de,?_,cV⟩;simp only[kP,aE];cases e with
    |eB=>exact absurd rfl D
    |cH id=>rfl
    |e3=>rfl
theorem G8{m:H}{b:Nat}:(pH m).I b=(m.I b).map G7:=by
 unfold H.I;show(if b<m.next then _ else _)=_;by_cases h:b<m.next
 ·rw[if_pos h,if_pos h];rfl
 ·rw[if_neg h,if_neg h];rfl
theorem fA.pH(J:fA bU dX m X):fA bU (pH dX) (pH m) (pH X) where
 next:=J.next
 y8:=J.y8
 bk:=J.bk
 off b hb:=by rw[G8,J.off b hb];rfl
 bZ b hb:=⟨by rw[G8,G8,(J.bZ b hb).1],rfl⟩
 eq b hb:=by rw[G8,G8,J.eq b hb]
 mp:=rfl
theorem fA.sQ(J:fA bU dX m X){G:Nat}{v:Value}(h:sQ G m v=true):sQ G X v=true:=by
 unfold DI.sQ at h⊢;split at h
 ·rename_i a l c;cases aH:m.I a.block with
  |none=>rw[aH]at h;cases h
  |some x=>rw[aH]at h;rw[J.I aH];exact h
 ·rfl
theorem fA.o5(J:fA bU dX m X){o:cO}{z:aC}(h:o5 o z m=true):o5 o z X=true:=by
 unfold DI.o5 at h⊢;simp only[a6]at h⊢;refine⟨⟨h.1.1,?_⟩,MV J h.2⟩;have:=h.1.2;split at this
 ·exact J.sQ this
 ·cases this
theorem pC{b4:Callee}(cu: ∀dX,Oo bU dX b4){n:Nat}: ∀{c:aw} {z K:aC} {m U X:H} {e:cM},eR b4 n c z m=some (e,K,U)->fA bU dX m X-> ∃cF,eR b4 n c z X=some (e,K,cF)/\fA bU dX U cF
 | .skip,_,_,_,_,X,_,h,J=>by cases h;exact⟨X,rfl,J⟩
 | .kl ops,z,K,m,U,X,e,h,J=>by
   simp only[eR]at h⊢;split at h
   ·rename_i bQ bn al;cases h;have cU:fA bU dX (hV ops m) (hV ops X):=by
     unfold hV;split
     ·exact J.b0 _
     ·exact J
    obtain⟨cF,g,gB⟩:=Au (cu dX) (base:=m.next) (λb hb=>J.bk b hb) cU al;refine⟨cF,?_,gB⟩;rw[J.next,g]
   ·cases h
 | .uQ cD o bN,z,K,m,U,X,e,h,J=>by
   simp only[eR]at h⊢;split at h
   ·rename_i bQ bn A;split at h
    ·rename_i av;split at h
     ·rename_i c6 cI D;cases h;obtain⟨de,aE,cV⟩:=Au (cu dX) (base:=m.next) (λb hb=>J.bk b hb) (J.b0 _) A;have S:o.k.ok bQ bn=true:=(by unfold DI.o5 at av;simp only[a6]at av;exact av.2);obtain⟨fN,a2,gB⟩:=Au (cu _) (base:=m.next) (λb hb=>J.bk b hb) cV.pH D;rw[J.next,aE];simp only[cV.o5 av,if_true,N2 cV S,a2,gB.next,cV.next];exact⟨_,rfl,(MM cV (λaV=>by have:=J.bk _ aV;omega) S).b0 _⟩
     ·cases h
    ·cases h
   ·cases h
 | .ky a b,z,K,m,U,X,e,h,J=>by
   simp only[eR]at h⊢;split at h
   ·rename_i bQ bn A;obtain⟨de,aE,cV⟩:=pC cu A J;obtain⟨fN,a2,gB⟩:=pC cu h cV;exact⟨fN,by rw[aE];exact a2,gB⟩
   ·rename_i bG;obtain⟨de,aE,cV⟩:=pC cu h J;refine⟨de,?_,cV⟩;rw[aE];cases e with
    |eB=>exact absurd h (bG _ _)
    |cH id=>rfl
    |e3=>rfl
 | .nx x a b,z,K,m,U,X,e,h,J=>by
   simp only[eR]at h⊢;split at h
   ·rename_i A;rw[if_pos A];split at h
    ·rename_i D;rw[if_pos D];exact pC cu h J
    ·rename_i D;rw[if_neg D];exact pC cu h J
   ·cases h
 | .block id c,z,K,m,U,X,e,h,J=>by
   simp only[eR]at h⊢;split at h
   ·rename_i A;obtain⟨de,aE,cV⟩:=pC cu A J;rw[aE];simp only;split at h
    ·rename_i eP;cases h;exact⟨de,by rw[if_pos eP],cV⟩
    ·rename_i eP;cases h;exact⟨de,by rw[if_neg eP],cV⟩
   ·rename_i bG;obtain⟨de,aE,cV⟩:=pC cu h J;refine⟨de,?_,cV⟩;rw[aE];cases e with
    |eB=>rfl
    |cH id=>exact absurd h (bG _ _ _)
    |e3=>rfl
 | .loop c,z,K,m,U,X,e,h,J=>by simp only[eR]at h⊢;exact L6 (f:=eR b4 n c) (λz m e K U A X J=>pC cu A J) h J
 | .cH id,_,_,_,_,X,_,h,J=>by cases h;exact⟨X,rfl,J⟩
 | .e3,_,_,_,_,X,_,h,J=>by cases h;exact⟨X,rfl,J⟩
theorem Fl(J:fA bU dX m X){z:aC}{r:lP}(h:rW m z r=true):rW X z r=true/\sG X z r=sG m z r:=by
 cases r with
 |bJ t=>exact⟨rfl,rfl⟩
 | ha t dr n=>simp only[rW,a6]at h⊢;exact⟨⟨J.gT h.1,h.2⟩,J.lH h.1⟩
theorem abA(J:fA bU dX m X){z:aC}{cC:List lP}(h:mw m z cC=true):mw X z cC=true/\mU X z cC=mU m z cC:=by
 have al: ∀r∈cC,rW m z r=true:=by simpa[mw]using h
 refine⟨by simp only[mw,dP];exact λr ab=>(Fl J (al r ab)).1,?_⟩;unfold mU;split
 ·exact(Fl J (al _ (by simp))).2
 ·rw[Dc λr ab=>(Fl J (al r ab)).2]
theorem Xx(J:fA bU dX m X){args:List Value}{r:Value}{U:H}(h:tB args m=some (r,U)): ∃cF,tB args X=some (r,cF)/\fA bU dX U cF:=by
 obtain⟨s,i,y,rfl,av,rfl,rfl⟩:=KQ h;simp only[tC,a6]at av;obtain⟨a,b,c,d,e⟩:=av;have w1:tC X s i y=true:=by simp only[tC,a6];exact⟨J.fw a,J.iJ b,J.fw c,J.iJ d,e⟩
 have ae: ∀k,k=m.next-> ¬bU k:= λk S=>by intro h;have:=J.bk _ h;omega
 refine⟨((hC X s).b0 1).aO m.next (some ⟨fq m 1 y++fq m 1 s,true⟩),?_,((J.hC a).b0 1).aO (ae _ rfl) _⟩;simp only[tB,w1,if_true,xc,uH,J.next,J.fq a,J.fq c]
theorem Jz{P:Program}: ∀n dX,Oo bU dX (kL P n)
 |0,_=> λf a m r U h=>by simp[kL]at h
 | n+1,dX=> λf a m r U h X J=>by
   simp only[kL]at h⊢;split at h
   ·rename_i u dh;split at h
    ·rename_i eV;rw[if_pos eV];split at h
     ·cases h
     ·rename_i e K bn bG g2;obtain⟨de,aE,cV⟩:=pC (Jz n) g2 J;split at h
      ·rename_i al;cases h;obtain⟨a2,cj⟩:=abA cV al;rw[aE];refine⟨de,?_,cV⟩;cases e with
       |eB=>simp only[a2,cj,if_true]
       |e3=>simp only[a2,cj,if_true]
       |cH id=>exact absurd rfl (bG id)
      ·cases h
     ·cases h
    ·cases h
   ·split at h
    ·rename_i jc;rw[if_pos jc];exact Xx J h
    ·cases h
end
structure Di(p m:H):Prop where
 next:p.next=m.next
 mp:p.mp=m.mp
 I: ∀b x,p.I b=some x->m.I b=some x
structure arp(p m k2 U:H):Prop where
 part:Di k2 U
 next:m.next<=U.next
 jd: ∀b,b<m.next->p.I b=none->U.I b=m.I b/\k2.I b=none/\U.mp b=m.mp b
theorem ep.frame{P:Program}{f:Nat}{args:List Value}{p m:H}{bA:Value->H->Prop}(Z:Di p m)(h:ep P f args p bA):
 ep P f args m λr U=> ∃k2,bA r k2/\arp p m k2 U:=by
 obtain⟨n,r,k2,A,q⟩:=h;have J:fA (λb=>b<p.next/\p.I b=none) m p m:=by
  refine⟨Z.next.symm,by rw[Z.next];exact c8 _,λb hb=>hb.1,λb hb=>hb.2,λb _=>⟨rfl,rfl⟩,λb hb=> ?_,Z.mp.symm⟩;cases aH:p.I b with
  |some x=>exact Z.I b x aH
  | none=>
    have: ¬b<p.next:= λdm=>hb ⟨dm,aH⟩
    have D: ¬b<m.next:=by rw[<-Z.next];exact this
    simp only[H.I,D,if_false]
 obtain⟨U,D,cU⟩:=Jz n m _ _ _ _ _ A m J;refine⟨n,r,U,D,k2,q,⟨cU.next.symm,cU.mp.symm,λb x hb=>cU.I hb⟩,?_,λb hb ae=> ?_⟩
 ·rw[cU.next];exact cU.y8
 ·have aV:b<p.next/\p.I b=none:=⟨by rw[Z.next];exact hb,ae⟩
  exact⟨(cU.bZ b aV).1,cU.off b aV,(cU.bZ b aV).2⟩
end Go.DI
