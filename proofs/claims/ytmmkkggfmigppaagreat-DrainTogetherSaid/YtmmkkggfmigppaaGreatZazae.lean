/-
  A part of the proof, shortened by tools of ours.
-/
import Derived.Test.YtmmkkggfmigppaaGreatZazad
set_option linter.all false
set_option maxRecDepth 8000
set_option maxHeartbeats 16000000
namespace Go.Proofs.YtmmkkggfmigppaaGreat
open Go Go.DI Go.Big
section
set_option maxRecDepth 100000
def Va:aG:=⟨1,[⟨⟨#[108]⟩,[⟨false,[1],[1]⟩],[[⟨false,[],[1]⟩]],[⟨false,[1],[2]⟩]⟩],[⟨⟨#[109]⟩,2,1,0⟩],[⟨⟨#[]⟩,0,(-1),0,⟨false,[],[1]⟩⟩,⟨⟨#[97]⟩,1,0,1,⟨false,[],[1]⟩⟩,⟨⟨#[98]⟩,2,1,1,⟨false,[],[1]⟩⟩,⟨⟨#[99]⟩,3,2,1,⟨false,[],[1]⟩⟩,⟨⟨#[100]⟩,4,3,1,⟨false,[],[1]⟩⟩,⟨⟨#[101]⟩,4,3,1,⟨false,[],[1]⟩⟩,⟨⟨#[102]⟩,4,3,1,⟨false,[],[1]⟩⟩],[⟨⟨#[120]⟩,0,4⟩,⟨⟨#[121]⟩,0,5⟩,⟨⟨#[122]⟩,0,6⟩],[⟨⟨#[112]⟩,1,1,1,⟨0,0,0,0,0⟩,[0],[⟨false,[1],[1]⟩],⟨false,[],[1]⟩,⟨false,[],[1]⟩⟩],[⟨⟨#[118]⟩,0⟩]⟩
theorem aeT:Ni Va=true:=by decide+kernel
theorem aeU:N3 Va=true:=by decide+kernel
def Jo:Value:= .agg #[.int .i64 1,ad [[.string ⟨#[108]⟩,ad [[.bool false,ad [[.int .u32 1]] 1,ad [[.int .u32 1]] 1]] 3,ad [[ad [[.bool false,ad [] 1,ad [[.int .u32 1]] 1]] 3]] 1,ad [[.bool false,ad [[.int .u32 1]] 1,ad [[.int .u32 2]] 1]] 3]] 4,ad [[.string ⟨#[109]⟩,.int .i64 2,.int .i64 1,.int .i64 0]] 4,ad [[.string ⟨#[]⟩,.int .i64 0,.int .i64 (-1),.int .i64 0,.bool false,ad [] 1,ad [[.int .u32 1]] 1],[.string ⟨#[97]⟩,.int .i64 1,.int .i64 0,.int .i64 1,.bool false,ad [] 1,ad [[.int .u32 1]] 1],[.string ⟨#[98]⟩,.int .i64 2,.int .i64 1,.int .i64 1,.bool false,ad [] 1,ad [[.int .u32 1]] 1],[.string ⟨#[99]⟩,.int .i64 3,.int .i64 2,.int .i64 1,.bool false,ad [] 1,ad [[.int .u32 1]] 1],[.string ⟨#[100]⟩,.int .i64 4,.int .i64 3,.int .i64 1,.bool false,ad [] 1,ad [[.int .u32 1]] 1],[.string ⟨#[101]⟩,.int .i64 4,.int .i64 3,.int .i64 1,.bool false,ad [] 1,ad [[.int .u32 1]] 1],[.string ⟨#[102]⟩,.int .i64 4,.int .i64 3,.int .i64 1,.bool false,ad [] 1,ad [[.int .u32 1]] 1]] 7,ad [[.string ⟨#[120]⟩,.int .i64 0,.int .i64 4],[.string ⟨#[121]⟩,.int .i64 0,.int .i64 5],[.string ⟨#[122]⟩,.int .i64 0,.int .i64 6]] 3,ad [[.string ⟨#[112]⟩,.int .i64 1,.int .i64 1,.int .i64 1,.int .i64 0,.int .i64 0,.int .i64 0,.int .i64 0,.int .i64 0,ad [[.int .i64 0]] 1,ad [[.bool false,ad [[.int .u32 1]] 1,ad [[.int .u32 1]] 1]] 3,.bool false,ad [] 1,ad [[.int .u32 1]] 1,.bool false,ad [] 1,ad [[.int .u32 1]] 1]] 17,ad [[.string ⟨#[118]⟩,.int .i64 0]] 2]
theorem aeS:Jo= .agg (aI Va).toArray:=by rfl
theorem asb:bP N 62 [Jo] (.int .i64 0):=by rw[aeS];exact aB0 aeT aeU
theorem asa:bP N 87 [Jo] (.bool true):=by rw[aeS];exact aBZ aeT aeU
def asc:List (Nat×b8):=[(17,ajd),(20,Lj),(21,Rh),(23,Rs),(25,Hw),(27,Ly),(29,akZ),(31,ak0),(36,xe),(52,HD),(63,R1),(64,LH),(65,LI),(68,R4),(72,R8),(74,R9),(75,Sa),(78,LQ),(79,alQ),(81,Sd),(82,LV),(83,Sg),(84,alZ),(85,Sh),(115,Qu),(116,Qv),(117,Hb),(118,Qx),(121,Qy),(122,QA),(123,QB),(124,QD),(125,aiI),(126,QI),(127,QK),(128,K0),(129,QL),(130,QM),(131,aiU),(132,QO),(180,Q4),(182,Q5),(183,Q7),(184,ajt),(185,ajv),(186,ajx),(234,akc),(235,ake),(236,akg)]
theorem OM:OD N asc:=⟨⟨⟨by kernel_rfl,ax2⟩,by kernel_rfl⟩,⟨⟨⟨by kernel_rfl,ajL⟩,by kernel_rfl⟩,⟨⟨⟨by kernel_rfl,ajY⟩,by kernel_rfl⟩,⟨⟨⟨by kernel_rfl,akk⟩,by kernel_rfl⟩,⟨⟨⟨by kernel_rfl,YE⟩,by kernel_rfl⟩,⟨⟨⟨by kernel_rfl,akW⟩,by kernel_rfl⟩,⟨⟨⟨by kernel_rfl,azl⟩,by kernel_rfl⟩,⟨⟨⟨by kernel_rfl,azt⟩,by kernel_rfl⟩,⟨⟨⟨by kernel_rfl,ak2⟩,by kernel_rfl⟩,⟨⟨⟨by kernel_rfl,YU⟩,by kernel_rfl⟩,⟨⟨⟨by kernel_rfl,alB⟩,by kernel_rfl⟩,⟨⟨⟨by kernel_rfl,alC⟩,by kernel_rfl⟩,⟨⟨⟨by kernel_rfl,alD⟩,by kernel_rfl⟩,⟨⟨⟨by kernel_rfl,alH⟩,by kernel_rfl⟩,⟨⟨⟨by kernel_rfl,alK⟩,by kernel_rfl⟩,⟨⟨⟨by kernel_rfl,alM⟩,by kernel_rfl⟩,⟨⟨⟨by kernel_rfl,alO⟩,by kernel_rfl⟩,⟨⟨⟨by kernel_rfl,alP⟩,by kernel_rfl⟩,⟨⟨⟨by kernel_rfl,azV⟩,by kernel_rfl⟩,⟨⟨⟨by kernel_rfl,alT⟩,by kernel_rfl⟩,⟨⟨⟨by kernel_rfl,alW⟩,by kernel_rfl⟩,⟨⟨⟨by kernel_rfl,alY⟩,by kernel_rfl⟩,⟨⟨⟨by kernel_rfl,az5⟩,by kernel_rfl⟩,⟨⟨⟨by kernel_rfl,al1⟩,by kernel_rfl⟩,⟨⟨⟨by kernel_rfl,aiq⟩,by kernel_rfl⟩,⟨⟨⟨by kernel_rfl,ais⟩,by kernel_rfl⟩,⟨⟨⟨by kernel_rfl,XP⟩,by kernel_rfl⟩,⟨⟨⟨by kernel_rfl,aiu⟩,by kernel_rfl⟩,⟨⟨⟨by kernel_rfl,aiy⟩,by kernel_rfl⟩,⟨⟨⟨by kernel_rfl,aiB⟩,by kernel_rfl⟩,⟨⟨⟨by kernel_rfl,aiD⟩,by kernel_rfl⟩,⟨⟨⟨by kernel_rfl,aiF⟩,by kernel_rfl⟩,⟨⟨⟨by kernel_rfl,aiJ⟩,by kernel_rfl⟩,⟨⟨⟨by kernel_rfl,aiM⟩,by kernel_rfl⟩,⟨⟨⟨by kernel_rfl,aiO⟩,by kernel_rfl⟩,⟨⟨⟨by kernel_rfl,aiP⟩,by kernel_rfl⟩,⟨⟨⟨by kernel_rfl,aiR⟩,by kernel_rfl⟩,⟨⟨⟨by kernel_rfl,aiT⟩,by kernel_rfl⟩,⟨⟨⟨by kernel_rfl,aiV⟩,by kernel_rfl⟩,⟨⟨⟨by kernel_rfl,aiX⟩,by kernel_rfl⟩,⟨⟨⟨by kernel_rfl,ajo⟩,by kernel_rfl⟩,⟨⟨⟨by kernel_rfl,ajq⟩,by kernel_rfl⟩,⟨⟨⟨by kernel_rfl,ajs⟩,by kernel_rfl⟩,⟨⟨⟨by kernel_rfl,aju⟩,by kernel_rfl⟩,⟨⟨⟨by kernel_rfl,ajw⟩,by kernel_rfl⟩,⟨⟨⟨by kernel_rfl,ajy⟩,by kernel_rfl⟩,⟨⟨⟨by kernel_rfl,akd⟩,by kernel_rfl⟩,⟨⟨⟨by kernel_rfl,akf⟩,by kernel_rfl⟩,⟨⟨⟨by kernel_rfl,akh⟩,by kernel_rfl⟩,trivial⟩⟩⟩⟩⟩⟩⟩⟩⟩⟩⟩⟩⟩⟩⟩⟩⟩⟩⟩⟩⟩⟩⟩⟩⟩⟩⟩⟩⟩⟩⟩⟩⟩⟩⟩⟩⟩⟩⟩⟩⟩⟩⟩⟩⟩⟩⟩⟩⟩
def Jp:sd:=[(59,[.int .i64 0,.int .i64 1],.agg #[.bool false,ad [] 1,ad [[.int .u32 1]] 1]),(59,[.int .i64 1,.int .i64 1],.agg #[.bool false,ad [[.int .u32 1]] 1,ad [[.int .u32 1]] 1]),(59,[.int .i64 1,.int .i64 2],.agg #[.bool false,ad [[.int .u32 1]] 1,ad [[.int .u32 2]] 1]),(62,[Jo],.int .i64 0),(87,[Jo],.bool true)]
theorem ON:xS N Jp:=Cl (aab (x:=⟨false,[],[1]⟩) (by unfold ow;decide) (by decide+kernel)) (Cl (aab (x:=⟨false,[1],[1]⟩) (by unfold ow;decide) (by decide+kernel)) (Cl (aab (x:=⟨false,[1],[2]⟩) (by unfold ow;decide) (by decide+kernel)) (Cl (asb) (Cl (asa) (am7)))))
def aeW:Value:= .agg #[.int .i64 12,.int .i64 0,.int .i64 1,ad [[.int .i64 0,.int .i64 2,.int .i64 2,.int .i64 0],[.int .i64 2,.int .i64 3,.int .i64 2,.int .i64 0],[.int .i64 3,.int .i64 4,.int .i64 2,.int .i64 0],[.int .i64 4,.int .i64 5,.int .i64 2,.int .i64 0],[.int .i64 5,.int .i64 6,.int .i64 2,.int .i64 0],[.int .i64 5,.int .i64 7,.int .i64 2,.int .i64 0],[.int .i64 5,.int .i64 8,.int .i64 2,.int .i64 0],[.int .i64 6,.int .i64 9,.int .i64 1,.int .i64 0],[.int .i64 7,.int .i64 10,.int .i64 1,.int .i64 0],[.int .i64 8,.int .i64 11,.int .i64 1,.int .i64 0],[.int .i64 9,.int .i64 1,.int .i64 0,.int .i64 0],[.int .i64 10,.int .i64 1,.int .i64 2,.int .i64 0],[.int .i64 11,.int .i64 1,.int .i64 2,.int .i64 0]] 4]
def aeX:Value:= .tuple #[ad [[.int .i64 2],[.int .i64 2],[.int .i64 2],[.int .i64 2],[.int .i64 0],[.int .i64 1],[.int .i64 1],[.int .i64 0],[.int .i64 1],[.int .i64 1],[.int .i64 0],[.int .i64 1],[.int .i64 1]] 1,.int .i64 2,ad [[.bool true],[.bool false],[.bool false],[.bool false],[.bool false],[.bool false],[.bool false],[.bool false],[.bool false],[.bool false],[.bool false],[.bool false]] 1,.int .i64 0]
theorem ar7:bP N 125 [aeW] (aeX):=JP (IN OM) (jn:=Jp) ON O7 (n:=100000) (d:=80) (by kernel_rfl)
def aeY:Value:= .agg #[.int .i64 12,.int .i64 0,.int .i64 1,ad [[.int .i64 0,.int .i64 2,.int .i64 2,.int .i64 0],[.int .i64 2,.int .i64 3,.int .i64 2,.int .i64 0],[.int .i64 3,.int .i64 4,.int .i64 2,.int .i64 0],[.int .i64 4,.int .i64 5,.int .i64 2,.int .i64 0],[.int .i64 5,.int .i64 6,.int .i64 2,.int .i64 0],[.int .i64 5,.int .i64 7,.int .i64 2,.int .i64 0],[.int .i64 5,.int .i64 8,.int .i64 2,.int .i64 0],[.int .i64 6,.int .i64 9,.int .i64 1,.int .i64 0],[.int .i64 7,.int .i64 10,.int .i64 1,.int .i64 0],[.int .i64 8,.int .i64 11,.int .i64 1,.int .i64 0],[.int .i64 9,.int .i64 1,.int .i64 0,.int .i64 0],[.int .i64 10,.int .i64 1,.int .i64 0,.int .i64 0],[.int .i64 11,.int .i64 1,.int .i64 2,.int .i64 0]] 4]
def aeZ:Value:= .tuple #[ad [[.int .i64 1],[.int .i64 1],[.int .i64 1],[.int .i64 1],[.int .i64 0],[.int .i64 0],[.int .i64 1],[.int .i64 0],[.int .i64 0],[.int .i64 1],[.int .i64 0],[.int .i64 0],[.int .i64 1]] 1,.int .i64 1,ad [[.bool true],[.bool false],[.bool true],[.bool true],[.bool true],[.bool true],[.bool true],[.bool true],[.bool true],[.bool true],[.bool true],[.bool false]] 1,.int .i64 0]
theorem ar8:bP N 125 [aeY] (aeZ):=JP (IN OM) (jn:=Jp) ON O7 (n:=100000) (d:=80) (by kernel_rfl)
def ae0:Value:= .agg #[.int .i64 12,.int .i64 0,.int .i64 1,ad [[.int .i64 0,.int .i64 2,.int .i64 2,.int .i64 0],[.int .i64 2,.int .i64 3,.int .i64 2,.int .i64 0],[.int .i64 3,.int .i64 4,.int .i64 2,.int .i64 0],[.int .i64 4,.int .i64 5,.int .i64 2,.int .i64 0],[.int .i64 5,.int .i64 6,.int .i64 2,.int .i64 0],[.int .i64 5,.int .i64 7,.int .i64 2,.int .i64 0],[.int .i64 5,.int .i64 8,.int .i64 2,.int .i64 0],[.int .i64 6,.int .i64 9,.int .i64 1,.int .i64 0],[.int .i64 7,.int .i64 10,.int .i64 1,.int .i64 0],[.int .i64 8,.int .i64 11,.int .i64 1,.int .i64 0],[.int .i64 9,.int .i64 1,.int .i64 2,.int .i64 0],[.int .i64 10,.int .i64 1,.int .i64 0,.int .i64 0],[.int .i64 11,.int .i64 1,.int .i64 2,.int .i64 0]] 4]
def ae1:Value:= .tuple #[ad [[.int .i64 2],[.int .i64 2],[.int .i64 2],[.int .i64 2],[.int .i64 1],[.int .i64 0],[.int .i64 1],[.int .i64 1],[.int .i64 0],[.int .i64 1],[.int .i64 1],[.int .i64 0],[.int .i64 1]] 1,.int .i64 2,ad [[.bool true],[.bool false],[.bool false],[.bool false],[.bool false],[.bool false],[.bool false],[.bool false],[.bool false],[.bool false],[.bool false],[.bool false]] 1,.int .i64 0]
theorem ar9:bP N 125 [ae0] (ae1):=JP (IN OM) (jn:=Jp) ON O7 (n:=100000) (d:=80) (by kernel_rfl)
def aeV:sd:=[(125,[aeW],aeX),(125,[aeY],aeZ),(125,[ae0],ae1)]++Jp
theorem asd:xS N aeV:=Cl ar7 (Cl ar8 (Cl ar9 (ON)))
theorem ase:bP N 17 [] (.bool true):=JP (IN OM) (jn:=aeV) asd O7 (n:=100000) (d:=80) (by kernel_rfl)
end
noncomputable def Iu:bx N:= .cK 17 Unit (λ_=>True) (λ_=>[]) (λ_=> .bool true) λ_ _=>ase
@[simp] theorem aTD:Iu.f=17:=rfl
@[simp] theorem aTE:Iu.fn []=some (.bool true):=bx.dx (x:=()) trivial λ_ _=>rfl
noncomputable def aco(u:aG)(h:cE u):bx N:= .cK 21 (List Int×List Int) (λx=>x.2.length<=1000000) (λx=>[.agg (aI u).toArray,bm x.1,bm x.2]) (λx=>bm (mV u x.1 x.2)) λx B=>aEa h B
@[simp] theorem aUx{u:aG}{h:cE u}:(aco u h).f=21:=rfl
@[simp] theorem aUy{u:aG}{h:cE u}{R c9:List Int}(ae:c9.length<=1000000):(aco u h).fn [.agg #[E u.ext,ad (u.eI.map gf) 4,ad (u.cr.map gp) 4,ad (u.aP.map eG) 7,ad (u.aY.map fk) 3,ad (u.dj.map dE) 17,ad (u.aZ.map ga) 2],ad (R.map λx=>[E x]) 1,ad (c9.map λx=>[E x]) 1]=some (bm (mV u R c9)):=bx.dx (x:=(R,c9)) ae λ⟨ko,h6⟩ Y=>by simpa using Y
noncomputable def TV(u:aG)(h:cE u):bx N:= .cK 22 (List Int×List Int) (λx=>x.2.length<=1000000) (λx=>[.agg (aI u).toArray,bm x.1,bm x.2]) (λx=>bm (mV u x.1 x.2)) λx B=>aFw h B
@[simp] theorem aU2{u:aG}{h:cE u}:(TV u h).f=22:=rfl
@[simp] theorem aU3{u:aG}{h:cE u}{R c9:List Int}(ae:c9.length<=1000000):(TV u h).fn [.agg #[E u.ext,ad (u.eI.map gf) 4,ad (u.cr.map gp) 4,ad (u.aP.map eG) 7,ad (u.aY.map fk) 3,ad (u.dj.map dE) 17,ad (u.aZ.map ga) 2],ad (R.map λx=>[E x]) 1,ad (c9.map λx=>[E x]) 1]=some (bm (mV u R c9)):=bx.dx (x:=(R,c9)) ae λ⟨ko,h6⟩ Y=>by simpa using Y
noncomputable def NA(u:aG)(h:cE u):bx N:= .cK 23 (List Int×List Int) (λx=>(x.1++x.2).length<=1000000) (λx=>[.agg (aI u).toArray,.agg (jV x.1 x.2).toArray]) (λx=> .bool (hg u (x.1++x.2))) λx B=>aEe h B
@[simp] theorem aUD{u:aG}{h:cE u}:(NA u h).f=23:=rfl
@[simp] theorem aGg{u:aG}{h:cE u}{ao ay:List Int}(ae:(ao++ay).length<=1000000):(NA u h).fn [.agg #[E u.ext,ad (u.eI.map gf) 4,ad (u.cr.map gp) 4,ad (u.aP.map eG) 7,ad (u.aY.map fk) 3,ad (u.dj.map dE) 17,ad (u.aZ.map ga) 2],.agg #[ad (ao.map λx=>[E x]) 1,ad (ay.map λx=>[E x]) 1]]=some (.bool (hg u (ao++ay))):=bx.dx (x:=(ao,ay)) ae λ⟨ko,h6⟩ Y=>by simpa using Y
noncomputable def FA(u:aG)(h:cE u):bx N:= .cK 24 (List Int×List Int) (λx=>(x.1++x.2).length<=1000000) (λx=>[.agg (aI u).toArray,.agg (jV x.1 x.2).toArray]) (λx=> .bool (hg u (x.1++x.2))) λx B=>aFD h B
@[simp] theorem aVf{u:aG}{h:cE u}:(FA u h).f=24:=rfl
@[simp] theorem aGn{u:aG}{h:cE u}{ao ay:List Int}(ae:(ao++ay).length<=1000000):(FA u h).fn [.agg #[E u.ext,ad (u.eI.map gf) 4,ad (u.cr.map gp) 4,ad (u.aP.map eG) 7,ad (u.aY.map fk) 3,ad (u.dj.map dE) 17,ad (u.aZ.map ga) 2],.agg #[ad (ao.map λx=>[E x]) 1,ad (ay.map λx=>[E x]) 1]]=some (.bool (hg u (ao++ay))):=bx.dx (x:=(ao,ay)) ae λ⟨ko,h6⟩ Y=>by simpa using Y
abbrev oz(u:aG)(L:List (List Int))(R:List Int):List Value:=[E u.ext,ad (u.eI.map gf) 4,ad (u.cr.map gp) 4,ad (u.aP.map eG) 7,ad (u.aY.map fk) 3,ad (u.dj.map dE) 17,ad (u.aZ.map ga) 2,jO L,bm R]
open Go Go.DI Go.Big Go.hR
theorem aoa{u:aG}{R c9:List Int}:vY u (mV u R c9)=gh u R c9:=rfl
theorem aD5{u:aG}(h:cE u)(A:1<=u.aZ.length){R c9:List Int}(ae:c9.length<=1000000):bP N 72 [.agg (aI u).toArray,bm R,bm c9] (.bool (gh u R c9)):=by
 refine du (c2 (ax:=⟨[aco u h],[]⟩) alK (by kernel_rfl) (by simp[R8]) ?_);simp(disch:=first|omega|simp only[DI.aK];omega) [R8,alJ,aI];have Z:=aD4 h A (R:=mV u R c9) (t:=(fJ.b0 2).aO 0 (some ⟨aI u,true⟩));simp only[aI]at Z;refine Z.bD λv t ⟨w,M⟩=> ?_;subst M;rw[aoa];cases aV:gh u R c9
 ·simp
 ·simp
noncomputable def Ny(u:aG)(h:cE u)(A:1<=u.aZ.length):bx N:= .cK 72 (List Int×List Int) (λx=>x.2.length<=1000000) (λx=>[.agg (aI u).toArray,bm x.1,bm x.2]) (λx=> .bool (gh u x.1 x.2)) λx B=>aD5 h A B
@[simp] theorem aUu{u:aG}{h:cE u}{A:1<=u.aZ.length}:(Ny u h A).f=72:=rfl
@[simp] theorem aUv{u:aG}{h:cE u}{A:1<=u.aZ.length}{R c9:List Int}(ae:c9.length<=1000000):(Ny u h A).fn [.agg #[E u.ext,ad (u.eI.map gf) 4,ad (u.cr.map gp) 4,ad (u.aP.map eG) 7,ad (u.aY.map fk) 3,ad (u.dj.map dE) 17,ad (u.aZ.map ga) 2],ad (R.map λx=>[E x]) 1,ad (c9.map λx=>[E x]) 1]=some (.bool (gh u R c9)):=bx.dx (x:=(R,c9)) ae λ⟨ko,h6⟩ Y=>by simpa using Y
def nd(u:aG):List c4->List Int->List (List Int)->List (List Int)
 |a::l,bc::aj,L=>nd u l aj (if dg u 0<=a.t/\bc≠0 then L.set ((a.f-2-u.aZ.length).tdiv ((u.aP.length:Int)-1)).toNat (L.getD ((a.f-2-u.aZ.length).tdiv ((u.aP.length:Int)-1)).toNat []++[a.t-dg u 0])else L)
 |_,_,L=>L
theorem atq{u:aG}(h:fj u){v w d:Nat}(aV:d<u.aY.length)(e:gF u w (iD u d)=gF u v (iD u d)):w=v:=by have a:=(N5 h (v:=v) aV).1;have b:=(N5 h (v:=w) aV).1;rw[e]at b;omega
theorem afR{dF:Type}{l:List dF}{i:Nat}{x:dF}(h:l[i]?=some x):l.drop i=x::l.drop (i+1):=by have W:=(cG.1 h).1;rw[rb W,(cG.1 h).2]
theorem aGh{u:aG}{h:fj u}:(Fy u h).fn [.agg #[E u.ext,ad (u.eI.map gf) 4,ad (u.cr.map gp) 4,ad (u.aP.map eG) 7,ad (u.aY.map fk) 3,ad (u.dj.map dE) 17,ad (u.aZ.map ga) 2],E 0]=some (E (dg u 0)):=aGi (d:=0) (by omega)
structure wy(u:aG)(R:List Int)(aj:List Int)(ej fL hq kg bk:Nat)(ps:List Nat)(L:List (List Int))(i:Nat)(z:aC)(t:H):Prop where
 aaJ:oT t bk ps L
 len:L.length=u.aZ.length
 c3: ∀r∈L,r.length<=i
 d:ej≠bk/\fL≠bk/\hq≠bk/\kg≠bk/\ej∉ps/\fL∉ps/\hq∉ps/\kg∉ps
 aL:t.I ej=some ⟨aI u,true⟩
 hT:t.I fL=some ⟨[E (im u R).dQ,E 0,E 1,b7 hq (dC u R).length 4],true⟩
 eY:t.I hq=some ⟨fV (dC u R),true⟩
 eZ:t.I kg=some ⟨aj.map E,true⟩
 bS:z 2=b7 kg aj.length 1
 bW:z 3=bH ej
 dR:z 4=bH fL
 ca:z 7=b7 bk u.aZ.length 1
theorem wy.dK{u:aG}{R:List Int}{aj:List Int}{ej fL hq kg bk:Nat}{ps:List Nat}{L:List (List Int)}{i:Nat}{z K:aC}{t af:H}(h:wy u R aj ej fL hq kg bk ps L i z t)(S: ∀b,b<t.next->af.I b=t.I b)(F: ∀j,j∈[2,3,4,7]->K j=z j):wy u R aj ej fL hq kg bk ps L i K af:=
 ⟨h.aaJ.amH S,h.len,h.c3,h.d,(S _ (aM h.aL)).trans h.aL,(S _ (aM h.hT)).trans h.hT,(S _ (aM h.eY)).trans h.eY,(S _ (aM h.eZ)).trans h.eZ,(F 2 (by simp)).trans h.bS,(F 3 (by simp)).trans h.bW,(F 4 (by simp)).trans h.dR,(F 7 (by simp)).trans h.ca⟩
theorem aE3{u:aG}(h:cE u){R:List Int}{aj:List Int}{ej fL hq kg bk i v d:Nat}{bc:Int}(M:v<u.aZ.length)(aV:d<u.aY.length)(B:(dC u R)[i]?=some (qv u v d)){Q:cM->aC->H->Prop}{z:aC}{t:H}{ps:List Nat}{L:List (List Int)}
 (dG:wy u R aj ej fL hq kg bk ps L i z t) (bl:z 8=E i) (cP:z 9=E d) (e4:z 10=E 0)
 (bb: ∀K af kv,wy u R aj ej fL hq kg bk kv (L.set v (L.getD v []++[(d:Int)])) (i+1) K af->K 8=E i->Q (.cH 2) K af):ec N (.loop LZ) z t Q:=by
 have eW:=h.ok.fg;have ic:=h.ok.h2;have mo:=h.ok.j4;have bG:=h.ok.hl;have fl:=OJ h.ok (R:=R);obtain⟨x,w6⟩:=gk aV;have cS:=(cG.1 w6).2;obtain⟨bt,bR,a3,a4,ft⟩:=h.ok.tf d x w6;obtain⟨gK,vx⟩:=jX a3;have BM:iD u d=gK:=by unfold iD;simp only[w6,vx,ns]
 have wY:=(cG.1 B).1;have yt:=uk B (j:=0) (by decide);rw[wu]at yt;have BP:(fV (dC u R))[i*4]?=some (E (gF u v gK)):=by rw[yt,<-BM];rfl
 have awz: ∀h,(fV (dC u R))[i*4]'h=E (gF u v gK):= λh=>(cG.1 BP).2;have wV:i*4+1<=(dC u R).length*4:=by omega
 have Ih:(i:Int)<(dC u R).length:=by omega
 have aot:(d:Int)<u.aY.length:=by omega
 refine gR (ax:=⟨[CJ u h.ok],[]⟩) (λw z t=>(∃kv,wy u R aj ej fL hq kg bk kv (if w<=v then L else L.set v (L.getD v []++[(d:Int)])) (if w<=v then i else i+1) z t)/\z 8=E i/\z 9=E d/\z 10=E w) u.aZ.length ?_ ?_ 0 z t (gi _) ⟨⟨ps,by rw[if_pos (gi _),if_pos (gi _)];exact dG⟩,bl,cP,e4⟩
 ·rintro w z t aS ⟨⟨kv,dG⟩,bl,cP,e4⟩ bM a1;obtain⟨ae,gd,al,⟨fW,gI,iO,zB,Gw,afK,afL,afM⟩,aL,hT,eY,eZ,bS,bW,dR,ca⟩:=id dG;have dD:=aM aL;have E1:=aM hT;have nc:=aM eY;have lG:=aM eZ;have bC:(w:Int)<u.aZ.length:=(by omega);have br:=fz (n:=w) (by omega);have BH:w<=1000/\gK<=1000:=(by omega);by_cases e:w=v
  ·subst e;rw[if_pos (c8 _)]at ae gd al;rw[if_pos (c8 _)]at al;have W9:w<L.length:=(by omega);obtain⟨r,By⟩:=gk W9;have D1:L.getD w []=r:=(by simp[By]);obtain⟨p,KA,uC,iy,kO,WJ⟩:=ae.m1 By;have GX:=al r (fr By);have bq:=ae.jd;have aCx:=aM bq;have E2:=aM iy;have e8:(r.length+1)*8<=140737488355328/\r.length<=9223372036854775806:=(by omega);have aD: ¬p=bk:= λe=>ae.fL (e▸uC);have Ph: ¬bk=p:= λe=>aD e.symm;have mN:List.take r.length (r.map E)=r.map E:=h7 (by simp);have aH5:w+1<=u.aZ.length:=aS;simp(disch:=first|omega|simp only[DI.aK];omega) [LZ,bW,dR,ca,bl,cP,e4,aI,fk,aL,hT,eY,bC,br,BP,wV,Ih,aot,cS,vx,fC,bq,iy,kO,WJ,e8,mN,-an,-au,-ak,-aq,-List.map_map];have o1: ∀{b:Nat},b∈kv.set w (t.next+8)->b∈kv\/b=t.next+8:= λab=>F4 ab
   have Ce: ∀b,b<t.next->b≠p->b≠bk->(((((t.b0 11).aO (t.next+7) (some ⟨[E d],true⟩)).aO p none).aO (t.next+8) (some ⟨r.map E++[E d],true⟩)).aO bk (some ⟨(o8 kv L).set w (.slice (some ⟨t.next+8,0,none⟩) (r.length+1) 1),true⟩)).I b=t.I b:= λb hb b6 cR=>by rw[a7 cR,a7 (by omega),a7 b6,a7 (by omega),cJ hb]
   refine a1 _ _ ⟨⟨kv.set w (t.next+8),?_⟩,by simp[bl],by simp[cP],by simp⟩;rw[if_neg (by omega),if_neg (by omega),D1];refine⟨ae.agI By KA ⟨by omega,λab=>by have:=ae.MD ab;omega⟩ ?_ ?_ (λb hb GQ=> ?_),by simp[gd],λs F=> ?_,⟨fW,gI,iO,zB,λab=> ?_,λab=> ?_,λab=> ?_,λab=> ?_⟩,?_,?_,?_,?_,by simp[bS],by simp[bW],by simp[dR],by simp[ca]⟩
   ·simp(disch:=first|omega|simp only[DI.aK];omega) [-an,-au,-ak,-aq,-List.map_map]
   ·rw[vf];simp(disch:=first|omega|simp only[DI.aK];omega) [-an,-au,-ak,-aq,-List.map_map]
   ·exact Ce b (ae.MD hb) GQ λe=>ae.fL (e▸hb)
   ·rcases F4 F with F|rfl
    ·exact Nat.le_succ_of_le (al s F)
    ·simp;omega
   ·rcases o1 ab with ab|ab
    ·exact Gw ab
    ·omega
   ·rcases o1 ab with ab|ab
    ·exact afK ab
    ·omega
   ·rcases o1 ab with ab|ab
    ·exact afL ab
    ·omega
   ·rcases o1 ab with ab|ab
    ·exact afM ab
    ·omega
   ·exact(Ce ej dD (λe=>Gw (e▸uC)) fW).trans aL
   ·exact(Ce fL E1 (λe=>afK (e▸uC)) gI).trans hT
   ·exact(Ce hq nc (λe=>afL (e▸uC)) iO).trans eY
   ·exact(Ce kg lG (λe=>afM (e▸uC)) zB).trans eZ
  ·have GQ: ¬gF u v gK=gF u w gK:= λaJ=>e (atq h.ok aV (by rw[BM];exact aJ.symm));simp(disch:=first|omega|simp only[DI.aK];omega) [LZ,bW,dR,bl,cP,e4,aI,fk,aL,hT,eY,bC,br,BP,wV,Ih,aot,cS,vx,fC,GQ,-an,-au,-ak,-aq,-List.map_map];refine a1 _ _ ⟨⟨kv,?_⟩,by simp[bl],by simp[cP],by simp⟩;have eq:(w+1<=v)=(w<=v):=propext ⟨λ_=>by omega,λ_=>by omega⟩;simp only[eq];exact dG.dK (λ_ _=>rfl) λj aX=>by simp at aX;rcases aX with rfl|rfl|rfl|rfl<;>simp
 ·rintro z t ⟨⟨kv,dG⟩,bl,cP,e4⟩;rw[if_neg (by omega),if_neg (by omega)]at dG;have bW:=dG.bW;have aL:=dG.aL;have dD:=aM aL;simp[LZ,bW,e4,aL,aI];exact bb _ _ kv (dG.dK (λ_ _=>rfl) λj aX=>by simp at aX;rcases aX with rfl|rfl|rfl|rfl<;>simp) (by simp[bl])
theorem aE4{u:aG}(h:cE u){R:List Int}{aj:List Int}(dJ:aj.length=(dC u R).length){ej fL hq kg bk:Nat}{Q:cM->aC->H->Prop}{z:aC}{t:H}{ps:List Nat}{Ou:List (List Int)}
 (dG:wy u R aj ej fL hq kg bk ps Ou 0 z t) (bl:z 8=E 0) (bb: ∀K af kv i,wy u R aj ej fL hq kg bk kv (nd u (dC u R) aj Ou) i K af->Q (.cH 0) K af):ec N (.loop HK) z t Q:=by
 have eW:=h.ok.fg;have ic:=h.ok.h2;have mo:=h.ok.j4;have bG:=h.ok.hl;have fl:=OJ h.ok (R:=R);have rI:=aGh (u:=u) (h:=h.ok);refine gR (ax:=⟨[Fy u h.ok],[]⟩) (λi z t=>(∃kv L,nd u ((dC u R).drop i) (aj.drop i) L=nd u (dC u R) aj Ou/\wy u R aj ej fL hq kg bk kv L i z t)/\z 8=E i) (dC u R).length ?_ ?_ 0 z t (gi _) ⟨⟨ps,Ou,rfl,dG⟩,bl⟩
 ·rintro i z t W ⟨⟨kv,L,vE,dG⟩,bl⟩ bM a1;obtain⟨ae,gd,al,aV,aL,hT,eY,eZ,bS,bW,dR,ca⟩:=id dG;obtain⟨a,B⟩: ∃a,(dC u R)[i]?=some a:=⟨_,c1 W⟩;have yt:=uk B (j:=1) (by decide);have BP:(fV (dC u R))[i*4+1]?=some (E a.t):=(by rw[yt];rfl);have awz: ∀h,(fV (dC u R))[i*4+1]'h=E a.t:= λh=>(cG.1 BP).2;have wV:i*4+1+1<=(dC u R).length*4:=(by omega);have wY:i<aj.length:=(by omega);obtain⟨bc,Y⟩:=gk wY;have mO: ∀h,aj[i]'h=bc:= λh=>(cG.1 Y).2;obtain⟨_,⟨v3,v4⟩,_⟩:=(Cw h.ok R).qu a (fr B);have v4:a.t<dg u u.aY.length:=v4;have ik:=yJ h.ok;have bC:(i:Int)<(dC u R).length:=(by omega);have a8:(i:Int)<aj.length:=(by omega);have bV:i+1<=aj.length:=wY;have br:=fz (n:=i) (by omega);have yc:dg u u.aY.length=dg u 0+u.aY.length:=(by unfold dg;omega);have ct:IntKind.i64.wrap (a.t-dg u 0)=a.t-dg u 0:=cY (by omega) (by omega);have dD:=aM aL;have E1:=aM hT;have nc:=aM eY;have lG:=aM eZ;rw[afR B,afR Y]at vE;simp only[nd]at vE;have iu: ∀{kv L K af},wy u R aj ej fL hq kg bk kv L i K af->wy u R aj ej fL hq kg bk kv L (i+1) K af:= λdG=>⟨dG.aaJ,dG.len,λr ab=>Nat.le_succ_of_le (dG.c3 r ab),dG.d,dG.aL,dG.hT,dG.eY,dG.eZ,dG.bS,dG.bW,dG.dR,dG.ca⟩;by_cases b6:a.t-dg u 0<0
  ·rw[if_neg (λc=>by omega)]at vE;simp(disch:=first|omega|simp only[DI.aK];omega) [HK,bW,dR,bl,aI,aL,hT,eY,bC,br,ct,BP,wV,rI,b6,fC,-an,-au,-ak,-aq,-List.map_map];exact a1 _ _ ⟨⟨kv,L,vE,iu (dG.dK (λ_ _=>rfl) λj aX=>by simp at aX;rcases aX with rfl|rfl|rfl|rfl<;>simp)⟩,by simp⟩
  by_cases cR:bc=0
  ·rw[if_neg (λc=>c.2 cR)]at vE;simp(disch:=first|omega|simp only[DI.aK];omega) [HK,bS,bW,dR,bl,aI,aL,hT,eY,eZ,bC,a8,bV,br,ct,BP,wV,mO,rI,b6,cR,fC,-an,-au,-ak,-aq,-List.map_map];exact a1 _ _ ⟨⟨kv,L,vE,iu (dG.dK (λ_ _=>rfl) λj aX=>by simp at aX;rcases aX with rfl|rfl|rfl|rfl<;>simp)⟩,by simp⟩
  ·rw[if_pos ⟨by omega,cR⟩]at vE;obtain⟨v,d,M,BH,nz⟩:=U9 h.ok (fr B) (by omega);have rv:a.t-dg u 0=d:=(by rw[nz];show dg u d-dg u 0=d;unfold dg;omega);have O:((a.f-2-u.aZ.length).tdiv ((u.aP.length:Int)-1)).toNat=v:=by
    have:=(N5 h.ok (v:=v) BH).1;rw[nz];show((gF u v (iD u d)-2-u.aZ.length).tdiv ((u.aP.length:Int)-1)).toNat=v;rw[this];omega
   rw[O,rv]at vE;rw[rv]at ct b6;simp(disch:=first|omega|simp only[DI.aK];omega) [HK,bS,bW,dR,bl,aI,aL,hT,eY,eZ,bC,a8,bV,ct,BP,wV,mO,rI,rv,b6,cR,fC,-an,-au,-ak,-aq,-List.map_map];rw[nz]at B;refine aE3 h (R:=R) (aj:=aj) (i:=i) M BH (bc:=bc) B (dG.dK (λ_ _=>rfl) λj aX=>by simp at aX;rcases aX with rfl|rfl|rfl|rfl<;>simp) (by simp[bl]) (by simp) (by simp) λc6 eC aEc au7 xB=> ?_;simp(disch:=first|omega|simp only[DI.aK];omega) [xB,br,-an,-au,-ak,-aq,-List.map_map];exact a1 _ _ ⟨⟨aEc,_,vE,au7.dK (λ_ _=>rfl) λj aX=>by simp at aX;rcases aX with rfl|rfl|rfl|rfl<;>simp⟩,by simp⟩
 ·rintro z t ⟨⟨kv,L,vE,dG⟩,bl⟩;rw[I2 (c8 _),I2 (by omega)]at vE;have dR:=dG.dR;have hT:=dG.hT;have E1:=aM hT;simp(disch:=first|omega|simp only[DI.aK];omega) [HK,dR,bl,hT,-an,-au,-ak,-aq,-List.map_map];refine bb _ _ kv (dC u R).length ?_;rw[<-vE];exact dG.dK (λ_ _=>rfl) λj aX=>by simp at aX;rcases aX with rfl|rfl|rfl|rfl<;>simp
theorem aE5{u:aG}(h:cE u){R:List Int}{aj:List Int}(dJ:aj.length=(dC u R).length){hq kg:Nat}{t:H}(eY:t.I hq=some ⟨fV (dC u R),true⟩)(eZ:t.I kg=some ⟨aj.map E,true⟩):
 fc N 90 [.agg (aI u).toArray,.agg #[E (im u R).dQ,E 0,E 1,b7 hq (dC u R).length 4],b7 kg aj.length 1] t λv af=> ∃o ps,v=b7 o u.aZ.length 1/\oT af o ps (nd u (dC u R) aj (List.replicate u.aZ.length [])):=by
 have mo:=h.ok.j4;have nc:=aM eY;have lG:=aM eZ;refine c2 (ax:=⟨[],[]⟩) aAb (by kernel_rfl) (by simp[Zk]) ?_;have e8:(u.aZ.length:Int)*24<=140737488355328/\(u.aZ.length:Int)<=9223372036854775807:=by omega
 simp(disch:=first|omega|simp only[DI.aK];omega) [Zk,al9,aI,e8,-an,-au,-ak,-aq,-List.map_map];refine aqI (o:=t.next+3+3) (n:=u.aZ.length) (by simp(disch:=first|omega|simp only[DI.aK];omega) [-an,-au,-ak,-aq,-List.map_map]) λeC ps ae kO S o1=> ?_;simp only[eJ,fp]at kO S o1;refine aE4 h (R:=R) (aj:=aj) dJ (ej:=t.next) (fL:=t.next+1) (hq:=hq) (kg:=kg) (bk:=t.next+3+3) ⟨ae,by simp,λr al=>by rw[(List.mem_replicate.1 al).2];simp,⟨by omega,by omega,by omega,by omega,λab=> ?_,λab=> ?_,λab=> ?_,λab=> ?_⟩,?_,?_,?_,?_,by simp,by simp,by simp,by simp⟩ (by simp) λK af kv i dG=> ?_
 ·have:=o1 _ ab;omega
 ·have:=o1 _ ab;omega
 ·have:=o1 _ ab;omega
 ·have:=o1 _ ab;omega
 ·rw[S _ (by omega) (by omega)];simp(disch:=first|omega|simp only[DI.aK];omega) [aI,-an,-au,-ak,-aq,-List.map_map]
 ·rw[S _ (by omega) (by omega)];simp(disch:=first|omega|simp only[DI.aK];omega) [-an,-au,-ak,-aq,-List.map_map]
 ·rw[S _ (by omega) (by omega)];simp(disch:=first|omega|simp only[DI.aK];omega) [eY,-an,-au,-ak,-aq,-List.map_map]
 ·rw[S _ (by omega) (by omega)];simp(disch:=first|omega|simp only[DI.aK];omega) [eZ,-an,-au,-ak,-aq,-List.map_map]
 have ca:=dG.ca;simp(disch:=first|omega|simp only[DI.aK];omega) [ama,ca,-an,-au,-ak,-aq,-List.map_map];exact⟨kv,dG.aaJ⟩
def arn(u:aG)(R:List Int)(v:Value)(af:H):Prop:=
 (vY u R=false->v= .tuple #[.slice none 0 0,E 12])/\(vY u R=true-> ∃aj iZ o ps,Gd (im u R) aj iZ/\q6 u<=value (im u R) aj/\v= .tuple #[b7 o u.aZ.length 1,E 0]/\oT af o ps (nd u (dC u R) aj (List.replicate u.aZ.length [])))
theorem aoX{u:aG}(h:cE u)(A:1<=u.aZ.length){R:List Int}{t:H}:fc N 37 [.agg (aI u).toArray,bm R] t (arn u R):=by
 have mo:=h.ok.j4;have ch:=Cw h.ok R;refine c2 (ax:=⟨[acw u h],[Xq u h]⟩) azC (by kernel_rfl) (by simp[YO]) ?_;simp(disch:=first|omega|simp only[DI.aK];omega) [YO,ak4,aI,-an,-au,-ak,-aq,-List.map_map];obtain⟨X,eE⟩: ∃X,X=((((((t.b0 3).aO t.next (some ⟨aI u,true⟩)).b0 9).b0 1).aO (t.next+3+9) (some ⟨fV (dC u R),true⟩)).aO (t.next+3+6) (some ⟨[E (im u R).dQ,E 0,E 1,b7 (t.next+3+9) (dC u R).length 4],true⟩)):=⟨_,rfl⟩;obtain⟨ej,tm⟩: ∃x,x=t.next:=⟨_,rfl⟩
 obtain⟨hq,DX⟩: ∃x,x=t.next+3+9:=⟨_,rfl⟩
 obtain⟨fL,kh⟩: ∃x,x=t.next+3+6:=⟨_,rfl⟩
 have eZ:X.I ej=some ⟨aI u,true⟩:=by rw[eE,tm];simp(disch:=first|omega|simp only[DI.aK];omega) [aI,-an,-au,-ak,-aq,-List.map_map]
 have eY:X.I hq=some ⟨fV (dC u R),true⟩:=by rw[eE,DX];simp(disch:=first|omega|simp only[DI.aK];omega) [-an,-au,-ak,-aq,-List.map_map]
 have hT:X.I fL=some ⟨[E (im u R).dQ,E 0,E 1,b7 hq (dC u R).length 4],true⟩:=by rw[eE,DX,kh];simp(disch:=first|omega|simp only[DI.aK];omega) [-an,-au,-ak,-aq,-List.map_map]
 have aDx:X.next=t.next+13:=by rw[eE];simp
 simp only[aI]at eE;rw[<-eE,<-DX,<-kh,<-tm];clear eE;refine(apD (n:=im u R) (λv m M=>aFC ch M) (aeO A) eY).bD λr af ⟨aj,iZ,bo,al,ba⟩=> ?_;subst al;have e0: ∀b,b<X.next->af.I b=X.I b:= λb hb=>by rw[ba,IG,a7 (by omega),cJ (by simp;omega),a7 (by omega),cJ hb]
 have J2:af.I X.next=some ⟨aj.map E,true⟩:=by rw[ba,IG,a7 (by omega),cJ (by simp),cx (by simp)]
 have eZ:=(e0 ej (aM eZ)).trans eZ;have eY:=(e0 hq (aM eY)).trans eY;have hT:=(e0 fL (aM hT)).trans hT;clear e0 ba;have Kz:=aoc h.ok bo;have dD:=aM eZ;have nc:=aM eY;have E1:=aM hT;have aCr:=aM J2;by_cases c:value (im u R) aj<q6 u
 ·have Ed:vY u R=false:=(by rw[Kz];exact rj (by omega));simp(disch:=first|omega|simp only[DI.aK];omega) [YP,eZ,aI,c,-an,-au,-ak,-aq,-List.map_map];exact⟨λ_=>rfl,λe=>by rw[Ed]at e;cases e⟩
 ·have Ed:vY u R=true:=(by rw[Kz];exact decide_eq_true (by omega));simp(disch:=first|omega|simp only[DI.aK];omega) [YP,ak5,eZ,hT,aI,c,-an,-au,-ak,-aq,-List.map_map];have az:=aE5 h (R:=R) bo.Pt.kK.1 (t:=af) eY J2;simp only[aI]at az;refine az.bD λv t3 ⟨o,ps,M,ae⟩=> ?_;subst M;simp(disch:=first|omega|simp only[DI.aK];omega) [-an,-au,-ak,-aq,-List.map_map];exact⟨λe=>absurd (Ed.symm.trans e) (by decide),λ_=>⟨aj,iZ,o,ps,bo,by omega,rfl,ae⟩⟩
theorem aFq{u:aG}(h:cE u)(A:1<=u.aZ.length){R c9:List Int}(ae:c9.length<=1000000):bP N 38 [.agg (aI u).toArray,bm R,bm c9] (.bool (gh u R c9)):=by
 refine du (c2 (ax:=⟨[TV u h],[]⟩) azD (by kernel_rfl) (by simp[YQ]) ?_);simp(disch:=first|omega|simp only[DI.aK];omega) [YQ,ak6,aI];have Z:=aoX h A (R:=mV u R c9) (t:=(fJ.b0 2).aO 0 (some ⟨aI u,true⟩));simp only[aI]at Z;refine Z.bD λv t ⟨BQ,ll⟩=> ?_;rw[aoa]at BQ ll;cases aV:gh u R c9
 ·rw[BQ aV];simp
 ·obtain⟨aj,iZ,o,ps,_,_,e,_⟩:=ll aV;rw[e];simp
noncomputable def CK(u:aG)(h:cE u)(A:1<=u.aZ.length):bx N:= .cK 38 (List Int×List Int) (λx=>x.2.length<=1000000) (λx=>[.agg (aI u).toArray,bm x.1,bm x.2]) (λx=> .bool (gh u x.1 x.2)) λx B=>aFq h A B
@[simp] theorem aUZ{u:aG}{h:cE u}{A:1<=u.aZ.length}:(CK u h A).f=38:=rfl
@[simp] theorem aU0{u:aG}{h:cE u}{A:1<=u.aZ.length}{R c9:List Int}(ae:c9.length<=1000000):(CK u h A).fn [.agg #[E u.ext,ad (u.eI.map gf) 4,ad (u.cr.map gp) 4,ad (u.aP.map eG) 7,ad (u.aY.map fk) 3,ad (u.dj.map dE) 17,ad (u.aZ.map ga) 2],ad (R.map λx=>[E x]) 1,ad (c9.map λx=>[E x]) 1]=some (.bool (gh u R c9)):=bx.dx (x:=(R,c9)) ae λ⟨ko,h6⟩ Y=>by simpa using Y
abbrev aaO:Value:= .agg #[.slice none 0 0,.slice none 0 0]
def Fm(P:List Int->Bool)(ao ay:List Int):Value:= .agg #[bm (pO P ao ay).1,bm (pO P ao ay).2]
theorem vt{t:H}{o:Nat}{l:List Int}(h:fa t o l){k:Nat}(S:l.length=k):dt 9 t (b7 o k 1)=some (bm l)/\dt 7 t (b7 o k 1)=some (bm l):=by subst S;exact⟨h.dt,h.dt⟩
theorem Ng{t:H}{o:Nat}{l:List Int}(h:fa t o l){k:Nat}:et 9 t (b7 o k 1)=[o]:=by obtain⟨cs,g,_,_,c⟩:=h;rw[yX,g];simp only[abx c]
theorem afz{l:List Int}(az:l.length<=1000000){t:H}:wI (ad (l.map λx=>[E x]) 1) t=some (b7 t.next l.length 1,(t.b0 1).aO t.next (some ⟨l.map E,true⟩)):=O8 lT.enc az
theorem aBJ{t bj:H}{l:List Nat}(ae:t.next<=bj.next)(S: ∀b,b<t.next->bj.I b=(lY t l).I b): ∀b,b<t.next->(l7 t bj l).I b=t.I b:= λb hb=>by
 by_cases c:b∈l
 ·exact amB c ae hb
 ·rw[ET c,S b hb,JG c]
theorem aBK{t bj:H}{l:List Nat}(az: ∀o∈l,o<t.next){b:Nat}(hb:t.next<=b):(l7 t bj l).I b=bj.I b:=ET λh=>by have:=az b h;omega
@[simp] theorem aQ0{t bj:H}{l:List Nat}:(l7 t bj l).next=bj.next:=rfl
theorem aBI{t:H}{o b k:Nat}{dX:Option eM}(aB:o<t.next)(h:b≠o):l7 t (((lY t [o]).b0 k).aO b dX) [o]=(t.b0 k).aO b dX:=by
 unfold l7 lY H.aO H.b0;simp only[H.mk.injEq,and_true,true_and,rg];funext i;by_cases e:i=o
 ·subst e;rw[if_pos rfl,if_neg (λq=>h q.symm),if_pos aB]
 ·rw[if_neg e];by_cases aJ:i=b
  ·rw[if_pos aJ,if_pos aJ]
  ·rw[if_neg aJ,if_neg aJ];by_cases cg:i<t.next
   ·rw[if_pos cg,if_pos cg,if_neg e]
   ·rw[if_neg cg,if_neg cg]
structure sf(u:aG)(R:List Int)(ej hG:Nat)(z:aC)(t:H):Prop where
 aL:t.I ej=some ⟨aI u,true⟩
 e1:t.I hG=some ⟨[.slice none 0 0,.slice none 0 0],true⟩
 aU:z 1=bm R
 bW:z 3=bH ej
 bB:z 6=bH hG
theorem sf.dK{u:aG}{R:List Int}{ej hG:Nat}{z K:aC}{t af:H}(h:sf u R ej hG z t)(bY:af.I ej=t.I ej)(al:af.I hG=t.I hG)(aD:K 1=z 1)(cg:K 3=z 3)(l0:K 6=z 6):sf u R ej hG K af:=
 ⟨bY.trans h.aL,al.trans h.e1,aD.trans h.aU,cg.trans h.bW,l0.trans h.bB⟩
theorem af7{u:aG}(h:cE u)(A:1<=u.aZ.length){R ao ay:List Int}(az:ao.length+ay.length<=1000){ej hG:Nat}{Q:cM->aC->H->Prop}: ∀(k:Nat) (z:aC) (t:H) (gg gU:Nat),k<=ao.length->sf u R ej hG z t->fa t gg (ao.take k)->fa t gU (ao.drop k++ay)->gg≠gU->ej≠gU->hG≠gU->z 8=b7 gg k 1->z 9=b7 gU (ao.drop k++ay).length 1->
 (∀(K:aC) (af:H) (qY qZ:Nat) (a w:List Int),pZ (gh u R) k (ao.take k) (ao.drop k++ay)=(a,w)->sf u R ej hG K af->fa af qY a->fa af qZ w->K 8=b7 qY a.length 1->K 9=b7 qZ w.length 1->Q (.cH 0) K af)->ec N (.loop Lu) z t Q
 | 0,z,t,gg,gU,S,c0,aa,aS,fW,gI,iO,bl,cP,bb=>by refine eF (ax:=⟨[Ny u h A],[]⟩) λbM a1=> ?_;obtain⟨aL,e1,aU,bW,bB⟩:=id c0;simp(disch:=omega) [Lu,bl];exact bb _ _ gg gU [] (ao++ay) rfl (c0.dK rfl rfl (by simp) (by simp) (by simp)) aa (by simpa using aS) (by simp[bl]) (by simp[cP])
 | k+1,z,t,gg,gU,S,c0,aa,aS,fW,gI,iO,bl,cP,bb=>by
   refine eF (ax:=⟨[Ny u h A],[]⟩) λbM a1=> ?_;obtain⟨aL,e1,aU,bW,bB⟩:=id c0;have dD:=aM aL;have kR:=aM e1;have step:=af8 (P:=gh u R) (ao:=ao) (ay:=ay) (k:=k) (by omega);obtain⟨aN,b9⟩: ∃aN,aN=ao.take (k+1):=⟨_,rfl⟩;have pD:aN.length=k+1:=(by rw[b9,ri];omega);have PE:ao.take k=aN.take k:=(by rw[b9,List.take_take];congr 1;omega);obtain⟨x,B⟩: ∃x,aN[k]?=some x:=⟨_,c1 (by omega)⟩;have Xg:ao[k]?=some x:=(by rw[b9,rf]at B;simpa using B);have w6:ao.drop k=x::ao.drop (k+1):=(by rw[rb (by omega),(cG.1 Xg).2]);rw[<-b9]at aa step;obtain⟨f9,DH⟩:=vt aa pD;have uW:=Ng aa (k:=k+1);have bC:(0:Int)<(k:Int)+1:=(by omega);have ae:aN.length<=1000000:=(by omega);have br:IntKind.i64.wrap (k:Int)=k:=cY (by omega) (by omega);obtain⟨w,vR⟩: ∃w,w=ao.drop (k+1)++ay:=⟨_,rfl⟩;have Qd:w.length<=1000:=(by rw[vR,iv,F2];omega);rw[<-vR]at aS cP bb step;cases gq:gh u R aN
   ·obtain⟨cs,eY,CV,nc,w9⟩:=id aa;have hj:cs[k]?=some (E x):=by
     have e:=congrArg (λl=>l[k]?) CV;simp only[rf,rh,B]at e;rw[if_pos (by omega)]at e;exact e
    have BE: ∀h,cs[k]'h=E x:= λh=>(cG.1 hj).2;have a8:k<cs.length:=(by omega);have bV:k+1<=cs.length:=a8;have cv:(k:Int)<(k:Int)+1:=(by omega);have Cg:=aM eY;simp(disch:=first|omega|simp only[DI.aK];omega) [Lu,aI,aU,bW,bl,cP,aL,f9,uW,bC,gq,br,eY,BE,bV,cv,fC,-an,-au,-ak,-aq,-List.map_map];obtain⟨X,eE⟩: ∃X,X=((hJ t [gg]).b0 8).aO (t.next+5) (some ⟨[E x],true⟩):=⟨_,rfl⟩;rw[<-eE];have na: ∀b,b<t.next->X.I b=t.I b:= λb hb=>by rw[eE,a7 (by omega),cJ (by simpa using hb)];rfl
    have Cp:X.next=t.next+8:=by rw[eE];simp
    have PA:X.I (t.next+5)=some ⟨[E x],true⟩:=(by rw[eE];exact cx (by simp));have Ap:=aS.cQ;refine(axm (x:=x) (aS.dK (na gU Ap)) (by omega) PA (by omega)).bD λr bj ⟨al,rG⟩=> ?_;subst al;have sy: ∀b,b<t.next->b≠gU->bj.I b=t.I b:= λb hb bG=>by rw[rG,a7 (by omega),cJ (by simp;omega),a7 bG,na b hb]
    have auR:bj.I X.next=some ⟨(x::w).map E,true⟩:=by rw[rG];exact cx (by simp)
    clear rG;have jN: ¬(k:Int)<0:=(by omega);have b6:(k:Int)<=(k:Int)+1:=(by omega);have ru:ao.drop k++ay=x::w:=(by rw[w6,vR];rfl);have aB7:=aa.cQ;simp(disch:=first|omega|simp only[DI.aK];omega) [b6,bl,-an,-au,-ak,-aq,-List.map_map];refine a1 _ _ (af7 h A az k _ _ gg X.next (by omega) (c0.dK (sy ej dD gI) (sy hG kR iO) (by simp) (by simp) (by simp)) ?_ ?_ (by omega) (by omega) (by omega) (by simp) ?_ λK af qY qZ a w' aQ Kg kD kE aD aJ=> ?_)
    ·rw[PE];exact(aa.take (by omega)).dK (sy gg aB7 fW)
    ·rw[ru];exact fa.cK auR
    ·rw[ru];simp
    ·refine bb K af qY qZ a w' ?_ Kg kD kE aD aJ;rw[<-b9,step,if_pos gq];exact aQ
   ·rw[if_neg (by rw[gq];decide)]at step;simp(disch:=first|omega|simp only[DI.aK];omega) [Lu,aI,aU,bW,bl,aL,f9,uW,bC,gq,-an,-au,-ak,-aq,-List.map_map];refine bb _ _ gg gU aN w (by rw[<-b9];exact step) (c0.dK (by simp) (by simp) (by simp) (by simp) (by simp)) (aa.dK (by simp)) (aS.dK (by simp)) (by simp[bl,pD]) (by simp[cP])
theorem fa.hl{u:aG}{t:H}{o ej:Nat}{l:List Int}(aa:fa t o l)(aL:t.I ej=some ⟨aI u,true⟩):o≠ej:= λe=>by obtain⟨cs,eY,_,_,w9⟩:=aa;rw[e,aL]at eY;have aJ:=congrArg eM.cells (De eY);simp only at aJ;obtain⟨n,ae⟩:=w9 (ad (u.eI.map gf) 4) (by rw[<-aJ];simp[aI]);simp[ad]at ae
theorem arZ{u:aG}(h:cE u)(A:1<=u.aZ.length){R a0 dS:List Int}(az:a0.length+dS.length<=1000)(eW:dS.Nodup){ej hG sB gg gU:Nat}{Q:cM->aC->H->Prop}{z:aC}{t:H}(c0:sf u R ej hG z t)(aa:fa t gg a0)(aS:fa t gU dS)
 (ju:t.I sB=some ⟨dS.map E,true⟩) (bl:z 8=b7 gg a0.length 1) (cP:z 9=b7 gU dS.length 1) (It:z 48=b7 sB dS.length 1) (np:z 49=E dS.length) (mx:z 50=E 0)
 (bb: ∀(K:aC) (af:H) (qY qZ:Nat),sf u R ej hG K af->fa af qY (e6 (gh u R) a0 dS).1->fa af qZ (e6 (gh u R) a0 dS).2->K 8=b7 qY (e6 (gh u R) a0 dS).1.length 1->K 9=b7 qZ (e6 (gh u R) a0 dS).2.length 1->Q (.cH 2) K af):ec N (.loop RC) z t Q:=by
 refine gR (ax:=⟨[Ny u h A],[]⟩) (λi z t=>(∃gg gU,fa t gg (e6 (gh u R) a0 (dS.take i)).1/\fa t gU ((e6 (gh u R) a0 (dS.take i)).2++dS.drop i)/\z 8=b7 gg (e6 (gh u R) a0 (dS.take i)).1.length 1/\z 9=b7 gU ((e6 (gh u R) a0 (dS.take i)).2++dS.drop i).length 1)/\sf u R ej hG z t/\t.I sB=some ⟨dS.map E,true⟩/\z 48=b7 sB dS.length 1/\z 49=E dS.length/\z 50=E i) dS.length ?_ ?_ 0 z t (gi _) ⟨⟨gg,gU,by simpa[e6]using aa,by simpa[e6]using aS,by simpa[e6]using bl,by simpa[e6]using cP⟩,c0,ju,It,np,mx⟩
 ·rintro i z t W ⟨⟨gg,gU,aa,aS,bl,cP⟩,c0,ju,It,np,mx⟩ bM a1;obtain⟨x,B⟩:=gk W;have cS:=(cG.1 B).2;have step:=aeF (P:=gh u R) (a:=a0) B;have eV:=aCp (P:=gh u R) (a:=a0) B eW;have Qe:=aIu (P:=gh u R) (a:=a0) B;have di:=Ji (P:=gh u R) (dS.take i) a0;rw[ri]at di;obtain⟨a,Wf⟩: ∃a,a=(e6 (gh u R) a0 (dS.take i)).1:=⟨_,rfl⟩;obtain⟨lG,vF⟩: ∃a,a=(e6 (gh u R) a0 (dS.take i)).2:=⟨_,rfl⟩;rw[<-Wf]at aa bl step di;rw[<-vF]at aS cP step di eV Qe;obtain⟨w,vR⟩: ∃w,w=lG++dS.drop i:=⟨_,rfl⟩;rw[<-vR]at aS cP eV Qe;have Qd:w.length<=1000:=(by rw[vR,iv,F2];omega);have fl:a.length<=1000:=(by omega);obtain⟨aL,e1,aU,bW,bB⟩:=id c0;have dD:=aM aL;have kR:=aM e1;have yB:=aM ju;have Cg:=aa.cQ;have E0:=aS.cQ;have bC:(i:Int)<dS.length:=(by omega);have a8:i+1<=dS.length:=W;have br:=fz (n:=i) (by omega);simp(disch:=first|omega|simp only[DI.aK];omega) [RC,aI,aU,bW,bl,It,np,mx,aL,ju,bC,a8,cS,fC,-an,-au,-ak,-aq,-List.map_map];have bG:=aa.hl aL;have aPd:=aS.hl aL;refine(adM (t:=lY t [ej]) (l:=a) ((aa.dK (af:=lY t [ej]) (JG (by simpa using bG))).Us) (by omega) (n:=x)).bD λr bj ⟨o,aB,al,aH,S⟩=> ?_;subst al;rw[ath]at aB S;have tv:t.next<=bj.next:=by have:=aM aH;omega
  have na:=aBJ (l:=[ej]) tv S;have qD:(l7 t bj [ej]).I o=some ⟨(a++[x]).map E,true⟩:=(by rw[aBK (by simpa using dD) aB];exact aH);have Cp:(l7 t bj [ej]).next=bj.next:=rfl
  generalize l7 t bj [ej]=X at na qD Cp;obtain⟨f9,DH⟩:=vt (fa.cK qD) (k:=a.length+1) (by simp);have uW:=Ng (fa.cK qD) (k:=a.length+1);have ae:(a++[x]).length<=1000000:=(by simp;omega);cases gq:gh u R (a++[x])
  ·rw[if_neg (by rw[gq];decide)]at step;simp(disch:=first|omega|simp only[DI.aK];omega) [f9,uW,gq,br,mx,-an,-au,-ak,-aq,-List.map_map];refine a1 _ _ ⟨⟨gg,gU,?_,?_,?_,?_⟩,c0.dK (na ej dD) (na hG kR) (by simp) (by simp) (by simp),(na sB yB).trans ju,by simp[It],by simp[np],by simp⟩
   ·rw[step];exact aa.dK (na gg Cg)
   ·rw[step,<-Qe];exact aS.dK (na gU E0)
   ·rw[step];simp[bl]
   ·rw[step,<-Qe];simp[cP]
  ·rw[if_pos gq]at step;simp(disch:=first|omega|simp only[DI.aK];omega) [f9,uW,gq,bl];refine(adM (t:=hJ X [o]) (l:=a) ((aa.dK (af:=hJ X [o]) (na gg Cg)).Us) (by omega) (n:=x)).bD λr eC ⟨h3,iz,vQ,zT,qL⟩=> ?_;subst vQ;rw[as6,Cp]at iz qL;have cz: ∀b,b<t.next->eC.I b=t.I b:= λb hb=>by rw[qL b (by omega)];exact na b hb
   simp(disch:=omega) [cP];refine(aqD (t:=eC) (l:=w) ((aS.dK (cz gU E0)).Us) (by omega) (n:=x)).bD λr t3 ⟨xr,aPg,ahI,avL,BK⟩=> ?_;subst ahI;have WE:=aM zT;have dV: ∀b,b<t.next->t3.I b=t.I b:= λb hb=>by rw[BK b (by omega)];exact cz b hb
   simp(disch:=omega) [br,mx];refine a1 _ _ ⟨⟨h3,xr,?_,?_,?_,?_⟩,c0.dK (dV ej dD) (dV hG kR) (by simp) (by simp) (by simp),(dV sB yB).trans ju,by simp[It],by simp[np],by simp⟩
   ·rw[step];exact(fa.cK zT).dK (BK h3 WE)
   ·rw[step,<-eV];exact avL
   ·rw[step];simp
   ·rw[step,<-eV];simp
 ·rintro z t ⟨⟨gg,gU,aa,aS,bl,cP⟩,c0,ju,It,np,mx⟩;rw[mY]at aa aS bl cP;rw[List.drop_length,r8]at aS cP;simp(disch:=omega) [RC,np,mx];exact bb _ t gg gU (c0.dK rfl rfl (by simp) (by simp) (by simp)) aa aS (by simp[bl]) (by simp[cP])
theorem aD8{u:aG}(h:cE u)(A:1<=u.aZ.length){R ao ay:List Int}(az:ao.length+ay.length<=1000):bP N 25 [.agg (aI u).toArray,bm R,.agg (jV ao ay).toArray] (if hg u (ao++ay)=true then .tuple #[Fm (gh u R) ao ay,E 0]else .tuple #[.agg #[bm [],bm []],E 1]):=by
 have ae:(ao++ay).length<=1000000:=by rw[iv];omega
 have F:=aGg (u:=u) (h:=h) (ao:=ao) (ay:=ay) ae;cases M:hg u (ao++ay)
 ·rw[if_neg (by decide)];refine bP.tX (r:= .tuple #[aaO,E 1]) (du (c2 (ax:=⟨[NA u h],[G4]⟩) YE (by kernel_rfl) (by simp[Hw]) ?_)) (pt.tuple (xs:=[_,_]) (ys:=[_,_]) ⟨pt.agg (xs:=[_,_]) (ys:=[_,_]) ⟨.nil,.nil,trivial⟩,.refl _,trivial⟩);simp(disch:=first|omega|simp only[DI.aK];omega) [Hw,YD,aI,M]
 ·rw[if_pos rfl];have eW:(ao++ay).Nodup:=by
   unfold hg at M;rw[a6,ey]at M;exact M.2
  refine du (c2 (ax:=⟨[NA u h],[G4]⟩) YE (by kernel_rfl) (by simp[Hw]) ?_);have j0: ∀t,wI (ad (ao.map λx=>[E x]) 1) t=some (b7 t.next ao.length 1,(t.b0 1).aO t.next (some ⟨ao.map E,true⟩)):= λt=>afz (by omega);have j1: ∀t,wI (ad (ay.map λx=>[E x]) 1) t=some (b7 t.next ay.length 1,(t.b0 1).aO t.next (some ⟨ay.map E,true⟩)):= λt=>afz (by omega);simp(disch:=first|omega|simp only[DI.aK];omega) [Hw,YD,akD,aI,M,j0,j1,aBI,-an,-au,-ak,-aq,-List.map_map];generalize eE:H.aO _ 5 (some (eM.mk (ay.map E) true))=X;have aL:X.I 0=some ⟨aI u,true⟩:=(by rw[<-eE];simp(disch:=first|omega|simp only[DI.aK];omega) [aI,-an,-au,-ak,-aq,-List.map_map]);have e1:X.I 2=some ⟨[.slice none 0 0,.slice none 0 0],true⟩:=(by rw[<-eE];simp(disch:=first|omega|simp only[DI.aK];omega) [-an,-au,-ak,-aq,-List.map_map]);have eY:X.I 4=some ⟨ao.map E,true⟩:=(by rw[<-eE];simp(disch:=first|omega|simp only[DI.aK];omega) [-an,-au,-ak,-aq,-List.map_map]);have x6:X.I 5=some ⟨ay.map E,true⟩:=(by rw[<-eE];simp(disch:=first|omega|simp only[DI.aK];omega) [-an,-au,-ak,-aq,-List.map_map]);clear eE;simp(disch:=first|omega|simp only[DI.aK];omega) [akE,-an,-au,-ak,-aq,-List.map_map];have JL:ao.take ao.length=ao:=mY;have DC:ao.drop ao.length++ay=ay:=(by rw[List.drop_length];rfl);refine af7 h A (R:=R) az (ej:=0) (hG:=2) ao.length _ X 4 5 (c8 _) ⟨aL,e1,by simp,by simp,by simp⟩ (by rw[JL];exact fa.cK eY) (by rw[DC];exact fa.cK x6) (by decide) (by decide) (by decide) (by simp) (by rw[DC];simp) λK t gg gU a w aQ c0 aa aS lC ru=> ?_;rw[JL,DC]at aQ;have gZ:=(JQ (P:=gh u R) ao.length ao ay (c8 _)).2.1;rw[aQ]at gZ;have W2:pO (gh u R) ao ay=e6 (gh u R) a w:=(by unfold pO;rw[aQ]);have di:a.length+w.length=ao.length+ay.length:=(by have:=congrArg List.length gZ;simpa using this);have awI:w.Nodup:=by rw[<-gZ,AY]at eW;exact eW.2.1
  have x1:wI (b7 gU w.length 1) t=some (b7 t.next w.length 1,(t.b0 1).aO t.next (some ⟨w.map E,true⟩)):=O8 aS.Us (by omega);obtain⟨aL,e1,aU,bW,bB⟩:=id c0;have dD:=aM aL;have kR:=aM e1;have nc:=aa.cQ;have Ap:=aS.cQ;simp(disch:=omega) [akF,ru,x1];have e0: ∀b,b<t.next->((t.b0 1).aO t.next (some (eM.mk (w.map E) true))).I b=t.I b:= λb hb=>by rw[a7 (by omega),cJ hb]
  refine arZ h A (by omega) awI (sB:=t.next) (c0.dK (e0 0 dD) (e0 2 kR) (by simp) (by simp) (by simp)) (aa.dK (e0 gg nc)) (aS.dK (e0 gU Ap)) (cx (by simp)) (by simp[lC]) (by simp[ru]) (by simp) (by simp) (by simp) λc6 eC MR M4 x9 DV w5 JJ JK=> ?_;obtain⟨aL,e1,aU,bW,bB⟩:=id x9;have kR:=aM e1;have dY:MR≠2:= λe=>by obtain⟨cs,eY,_,_,w9⟩:=DV;rw[e,e1]at eY;obtain⟨n,ae⟩:=w9 (.slice none 0 0) (by have aJ:[Value.slice none 0 0,Value.slice none 0 0]=cs:=congrArg eM.cells (De eY);rw[<-aJ];simp);cases ae
  have ee:M4≠2:= λe=>by obtain⟨cs,eY,_,_,w9⟩:=w5;rw[e,e1]at eY;obtain⟨n,ae⟩:=w9 (.slice none 0 0) (by have aJ:[Value.slice none 0 0,Value.slice none 0 0]=cs:=congrArg eM.cells (De eY);rw[<-aJ];simp);cases ae
  rw[<-W2]at DV w5 JJ JK;have rK: ∀dX b,b≠2->(eC.aO 2 dX).I b=eC.I b:= λdX b hb=>a7 hb;have eD:= λdX=>(vt (DV.dK (rK dX MR dY)) rfl).2;have eS:= λdX=>(vt (w5.dK (rK dX M4 ee)) rfl).2;simp(disch:=omega) [akG,bB,e1,JJ,JK,eD,eS,Fm]
end Go.Proofs.YtmmkkggfmigppaaGreat
