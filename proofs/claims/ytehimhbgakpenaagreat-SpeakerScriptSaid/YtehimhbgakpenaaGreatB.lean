/- Lemmas. -/
import Derived.Test.YtehimhbgakpenaaGreatChecked
import Derived.IntWalk
import Derived.Deep.RegionHeld3
import Derived.Test.YtehimhbgakpenaaGreatA
set_option linter.all false
set_option maxRecDepth 100000
set_option maxHeartbeats 16000000
namespace Go.Proofs.YtehimhbgakpenaaGreat
open Go.RowKit Go.Proofs.Tryz
def mR(x:Nat)(l:Int):Bool:=decide (0≤l∧l≤32∧x % 2 ^(32 - l.toNat)=0)
def Pm:∀k,k<33→IntKind.u64.wrap (4294967295*2 ^k) % 4294967296=((4294967296 - 2 ^k:Nat):Int):=by decide
def Pn(l k:Nat)(hk:k+l=32)(w:World):Calls prog 190 #[l] w fun e w'=>e= .returned (.int .u32 ((4294967296 - 2 ^k:Nat):Int))∧w=w':=by
 have c:(32:Int) - (l:Int)=(k:Int):=by omega
 have b:k≤32:=by omega
 have a:(0:Int)≤(k:Int):=by omega
 go_in;go_wp2;go_ret;exact⟨tR (Pm k (by omega)),rfl⟩
def Qs(a n:Nat)(h:a<2 ^n):(BitVec.ofInt n (a:Int)).toNat=a:=by
 rw[BitVec.ofInt_natCast,BitVec.toNat_ofNat];exact mZ h
def GD(x k:Nat)(hx:x<4294967296)(hk:k≤32):bits .andNot .u32 (x:Int) ((4294967296 - 2 ^k:Nat):Int)=((x % 2 ^k:Nat):Int):=by
 have hp:2 ^k≤2 ^32:=mF (by omega) hk;have a:0<2 ^k:=Zv (by omega);have b:x % 2 ^k<4294967296:=oH (Nat.mod_le _ _) hx;show IntKind.u32.wrap ((BitVec.ofInt 32 (x:Int)&&& ~~~ BitVec.ofInt 32 ((4294967296 - 2 ^k:Nat):Int)).toNat:Int)=_
 have e:(BitVec.ofInt 32 (x:Int)&&& ~~~ BitVec.ofInt 32 ((4294967296 - 2 ^k:Nat):Int)).toNat=x % 2 ^k:=by
  rw[BitVec.toNat_and,BitVec.toNat_not,Qs x 32 (by omega),Qs _ 32 (by omega),show 2 ^32 - 1 - (4294967296 - 2 ^k)=2 ^k - 1 by omega,MA]
 rw[e,QY];omega
def HN(x:Nat)(l:Int)(hx:x<4294967296)(w:World):Calls prog 171 #[.agg #[.int .u32 x,l]] w fun e w'=>e= .returned (.bool (mR x l))∧cI w w':=by
 have a:=cQ w (.cells #[.int .u32 x,l] 181);have b:=fq.new w #[.int .u32 x,l] 181;have c0:=b.b2;clear b
 by_cases h1:l<0
 ·have e:mR x l=false:=by unfold mR;simp;omega
  rw[e];clear e;have hd:decide (0≤l)=false:=by simpa using h1
  go_in;go_wp2_with fail;go_quiet (fail);go_wp2;go_ret;exact⟨rfl,below_drewN a nq⟩
 by_cases h2:32<l
 ·have e:mR x l=false:=by unfold mR;simp;omega
  rw[e];clear e;have hd:decide (0≤l)=true:=by simpa using h1
  have c:decide (l≤32)=false:=by simpa using h2
  go_in;go_wp2_with fail;go_quiet (fail);go_wp2;go_ret;exact⟨rfl,below_drewN a nq⟩
 obtain⟨l,rfl⟩:∃j:Nat,l=j:=⟨l.toNat,by omega⟩
 obtain⟨k,hk⟩:∃k,k+l=32:=⟨32 - l,by omega⟩
 have e:mR x l=(((x % 2 ^k:Nat):Int)==0):=by
  unfold mR;rw[cU,show 32 - l=k by omega,ga,ie,ji];omega
 rw[e];clear e;have ha:=GD x k hx (by omega);have h0:(0:Int)≤(l:Int):=by omega
 have d:(l:Int)≤32:=by omega
 have M:=fun W=>Pn l k hk W
 replace M:=φ M;clear h1 h2 hk;generalize (4294967296 - 2 ^k)=mm at M ha;generalize (x % 2 ^k)=q at ha ⊢;go_in;go_wp2_with fail;go_quiet ((go_at_call 190;exact vm (M _)));go_wp2;go_ret;exact⟨rfl,below_drewN a nq⟩
def kU(a b:Int):Int:=if a<b then -1 else if b<a then 1 else 0
def AA(a b:Int)(w:World):Calls prog 179 #[a,b] w fun e w'=>e= .returned (.int .i64 (kU a b))∧w=w':=by
 by_cases h1:a<b
 ·have e:kU a b= -1:=by unfold kU;rw[cR h1]
  rw[e];clear e;go_in;go_wp2;go_ret;exact⟨rfl,rfl⟩
 ·by_cases h2:b<a
  ·have e:kU a b=1:=by unfold kU;rw[cN h1,cR h2]
   rw[e];clear e;go_in;go_wp2;go_ret;exact⟨rfl,rfl⟩
  ·have e:kU a b=0:=by unfold kU;rw[cN h1,cN h2]
   rw[e];clear e;go_in;go_wp2;go_ret;exact⟨rfl,rfl⟩
def IG(a b:Int)(w:World):Calls prog 192 #[.int .u32 a,.int .u32 b] w fun e w'=>e= .returned (.int .i64 (kU a b))∧w=w':=by
 by_cases h1:a<b
 ·have e:kU a b= -1:=by unfold kU;rw[cR h1]
  rw[e];clear e;go_in;go_wp2;go_ret;exact⟨rfl,rfl⟩
 ·by_cases h2:b<a
  ·have e:kU a b=1:=by unfold kU;rw[cN h1,cR h2]
   rw[e];clear e;go_in;go_wp2;go_ret;exact⟨rfl,rfl⟩
  ·have e:kU a b=0:=by unfold kU;rw[cN h1,cN h2]
   rw[e];clear e;go_in;go_wp2;go_ret;exact⟨rfl,rfl⟩
def Xa(a b:Int):Int:=if a=0 then b else a
def SZ(g c:Nat)(a b:Int)(w:World)(h0:w.cell? ⟨g,0,none⟩=some (.int .i64 a))(h1:w.cell? ⟨g,1,none⟩=some (.int .i64 b)) :
  Calls prog 191 #[.slice (some ⟨g,0,none⟩) 2 c] w fun e w'=>e= .returned (.int .i64 (Xa a b))∧w=w':=by
 go_in;go_wp2_with fail;go_loop [8] (fun v8=>v8= .int .i64 0∨v8= .int .i64 1∧a=0∨v8= .int .i64 2∧a=0∧b=0) (fun v8=>2 - (intOf v8).toNat)
 case atStart=>exact Or.inl rfl
 case round=>
  obtain rfl|⟨rfl,ha⟩|⟨rfl,ha,hb⟩:=hrel
  ·by_cases ha:a=0
   ·subst ha;go_wp2;go_round
    case rel=>exact Or.inr (Or.inl (by simp))
    case measure=>decide
   ·go_wp2;go_ret;exact⟨by simp[Xa,ha],rfl⟩
  ·subst ha
   by_cases hb:b=0
   ·subst hb;go_wp2;go_round
    case rel=>exact Or.inr (Or.inr (by simp))
    case measure=>decide
   ·go_wp2;go_ret;exact⟨by simp[Xa],rfl⟩
  ·subst ha hb;go_wp2;go_ret;exact⟨by simp[Xa],rfl⟩
def qi(x:Int)(l:Int)(y:Int)(m:Int):Int:=Xa (kU x y) (kU l m)
def wD(x l y m:Int)(w:World):Calls prog 172 #[.agg #[.int .u32 x,l],.agg #[.int .u32 y,m]] w fun e w'=>e= .returned (.int .i64 (qi x l y m))∧cI w w':=by
 have d:=(cQ w (.cells #[.int .u32 x,l] 181)).alloc (by simp) (.cells #[.int .u32 y,m] 181);have S:=(fq.new w #[.int .u32 x,l] 181).alloc (.cells #[.int .u32 y,m] 181);have T:=fq.new (w.alloc (.cells #[.int .u32 x,l] 181)) #[.int .u32 y,m] 181;have c0:=S.b2;obtain⟨d0,d1⟩:=T.b2;simp only[fD]at d0 d1;clear S T;go_in;go_wp2_with fail;generalize (w.alloc (.cells #[.int .u32 x,l] 181)).alloc (.cells #[.int .u32 y,m] 181)=w1 at *;have b:True:=trivial;have a:True:=trivial;go_region_held3 (fun w'=>w'.cell? ⟨w,0,none⟩=some (.int .u32 x)∧w'.cell? ⟨w,1,none⟩=some (.int .i64 l)∧w'.cell? ⟨w.heap.size+1,0,none⟩=some (.int .u32 y)∧w'.cell? ⟨w.heap.size+1,1,none⟩=some (.int .i64 m)) (go_keep)
  (first
   |(clear b;go_at_call 192;refine(IG _ _ _).mono ?_;rintro e w' ⟨rfl,rfl⟩)
   |(clear a;go_at_call 179;refine(AA _ _ _).mono ?_;rintro e w' ⟨rfl,rfl⟩)
   | (go_at_call 191; have BB:=fq.new w1.drew #[(kU x y),(kU l m)] 3; refine (SZ w1.drew.heap.size 2 (kU x y) (kU l m) _ (BB.c 0 rfl) (BB.c 1 rfl)).mono ?_; rintro e w' ⟨rfl,rfl⟩))
 go_wp2;go_ret;exact⟨rfl,(d.alloc d.size _).drew⟩
def fi(n:Nat):Nat→List UInt8
 |0=>[]
 |k+1=>UInt8.ofNat (n / 256 ^k) :: fi n k
def eQ(n k:Nat):(fi n k).length=k:=by
 induction k with
 |zero=>rfl
 |succ k ih=>rw[fi,dG,ih]
def FU(n k:Nat):∀j (h:j< (fi n k).length),(fi n k)[j]=UInt8.ofNat (n / 256 ^(k - 1 - j)):=by
 induction k with
 |zero=>intro j h;simp[fi]at h
 |succ k ih=>
   intro j h;cases j with
   |zero=>simp[fi]
   |succ j=>simp only[fi,List.getElem_cons_succ];rw[ih];congr 3;omega
def Lq(n k j:Nat)(h:j<k):(fi n k).take (j+1)=(fi n k).take j++ [UInt8.ofNat (n / 256 ^(k - 1 - j))]:=by
 rw[cT (by rw[eQ];exact h),FU]
def iW(bs:List UInt8):Nat:=bs.foldl (fun a b=>a*256+b.toNat) 0
def zj(bs:List UInt8)(b:UInt8):iW (bs++ [b])=iW bs*256+b.toNat:=by simp[iW]
def zl(bs:List UInt8):iW bs<256 ^bs.length:=by
 have h:∀k,k≤bs.length→iW (bs.take k)<256 ^k:=by
  intro k
  induction k with
  |zero=>intro _;simp[iW]
  |succ k ih=>
    intro hk;have:=ih (by omega);rw[cT (by omega),zj,IY];have hb:=jF bs[k];omega
 have:=h bs.length cj
 rwa[dE]at this
def Is(n k a:Nat):(fi n k).foldl (fun a b=>a*256+b.toNat) a=a*256 ^k+n % 256 ^k:=by
 induction k generalizing a with
 |zero=>simp[fi,Nat.mod_one]
 |succ k ih=>
   rw[fi,lL,ih,jE,show(2:Nat)^8=256 from rfl,IY,Nat.mod_mul,oQ,show n / 256 ^k % 256*256 ^k=256 ^k*(n / 256 ^k % 256)from gl _ _,Nat.mul_assoc,gl 256 (256 ^k)];omega
def sL(n k:Nat)(h:n<256 ^k):iW (fi n k)=n:=by
 unfold iW;rw[Is,mZ h];omega
def tI(n:Nat):(.int .u8 (IntKind.wrap .u8 (n:Int)):Value)=iZ (UInt8.ofNat n):=by
 unfold iZ;rw[ma];simp
def gE{w:World}{A:cG}{xs:cH}(h:Rd w A xs)(hn:0<xs.length):∃b off,A=some ⟨b,off,none⟩∧ ∀(j:Nat) (u:Value),xs[j]?=some u→w.cell? ⟨b,off+j,none⟩=some u:=by
 obtain⟨ad,e,hc⟩:=h hn;obtain⟨b,off,spot⟩:=ad;have h0:=hc 0 _ (cM hn);have hs:spot=none:=by simpa[Addr.add]using World.cell?_spot h0
 subst hs;refine⟨b,off,e,fun j u hu=>?_⟩
 have:=hc j u hu;have a:(⟨b,off,none⟩:Addr).add j=⟨b,off+j,none⟩:=by unfold Addr.add;split<;>simp_all
 rwa[a]at this
def oa(A:cG)(lo c:Nat):cG:=if c=lo then A else A.map (·.add lo)
def Rd.sub{w:World}{A:cG}{xs:cH}(h:Rd w A xs)(lo c:Nat)(hc:xs.length≤c):Rd w (oa A lo c) (xs.drop lo):=by
 unfold oa;split
 ·rw[List.drop_eq_nil_of_le (by omega)];exact Rd.nil _ _
 ·exact h.drop lo
def Jq{P:Program}{t e:TypeId}{z:Value}{bytes:Nat}(hE:iF P t e z 1 bytes)(A:cG)(n c lo hi:Nat)(h1:lo≤hi)(h2:hi≤c)(W:World) :
  (Instr.slice t (.slice A n c) (some (.int .i64 (lo:Int))) (some (.int .i64 (hi:Int))) none).run P W= .ok (.slice (oa A lo c) (hi - lo) (c - lo)) W:=by
 obtain⟨i,b,f,a,d⟩:=nu hE.info;have vL:P.elem t=e:=by simp[Program.elem,hE.under]
 rw[run_slice_lh W t A n c (by rw[vL];exact hE.under) .i64 .i64 lo hi (by omega) (by omega) (by omega),vL];simp[sizeOf,typeInfo,b,a,sliced,oa,Result.andThen]
def wh{P:Program}{t e:TypeId}{z:Value}{bytes:Nat}(hE:iF P t e z 1 bytes)(A:cG)(n c lo:Nat)(h1:lo≤n)(W:World) :
  (Instr.slice t (.slice A n c) (some (.int .i64 (lo:Int))) none none).run P W= .ok (.slice (oa A lo c) (n - lo) (c - lo)) W:=by
 obtain⟨i,b,f,a,d⟩:=nu hE.info;have vL:P.elem t=e:=by simp[Program.elem,hE.under]
 rw[run_slice_l W t A n c (by rw[vL];exact hE.under) .i64 lo (by omega) (by omega),vL];simp[sizeOf,typeInfo,b,a,sliced,oa,Result.andThen]
structure Rc where
 t:Int
 A:cG
 n:Nat
 c:Nat
 bs:List UInt8
def kM:List Rc→cH
 | []=>[]
 |r :: l=>.int .i64 r.t :: .slice r.A r.n r.c :: kM l
def qD(l:List Rc):(kM l).length=l.length*2:=by
 induction l with
 |nil=>rfl
 |cons r l ih=>simp only[kM,List.length_cons,ih];omega
def lO(a b:List Rc):kM (a++b)=kM a++kM b:=by
 induction a with
 |nil=>rfl
 |cons r a ih=>simp only[List.cons_append,kM,ih]
def Oe(l:List Rc):∀(k:Nat) (hk:k<l.length),(kM l)[2*k]?=some (.int .i64 l[k].t)∧(kM l)[2*k+1]?=some (.slice l[k].A l[k].n l[k].c):=by
 induction l with
 |nil=>intro k hk;simp at hk
 |cons r l ih=>
   intro k hk;cases k with
   |zero=>exact⟨rfl,rfl⟩
   |succ k=>
     obtain⟨h1,h2⟩:=ih k (by simpa using hk);rw[show 2*(k+1)=2*k+1+1 by omega];exact⟨by simpa[kM]using h1,by simpa[kM]using h2⟩
def DE{w:World}{A:cG}{l:List Rc}(h:Rd w A (kM l)){k:Nat}(hk:k<l.length) :
  ∃b off,A=some ⟨b,off,none⟩∧w.cell? ⟨b,off+k*2,none⟩=some (.int .i64 l[k].t)∧w.cell? ⟨b,off+k*2+1,none⟩=some (.slice l[k].A l[k].n l[k].c):=by
 obtain⟨b,off,e,hc⟩:=gE h (by rw[qD];omega);obtain⟨h1,h2⟩:=Oe l k hk;exact⟨b,off,e,hc _ _ (by rw[gl];exact h1),by rw[iS];exact hc _ _ (by rw[gl];exact h2)⟩
structure WR (w:World) (r:Rc):Prop where
 rd:Bs w r.A r.bs
 len:r.bs.length=r.n
 nc:r.n≤r.c
 cm:r.c≤9223372036854775807
def gK(w:World)(base:Nat)(e:TypeId)(r:Rc):Prop:=w.ownsRow base e 1 (.slice r.A r.n r.c) r.n (r.bs.map iZ)
def gK.ok{w:World}{base:Nat}{e:TypeId}{r:Rc}(h:gK w base e r):WR w r:=by
 obtain⟨A,c,hv,rd,h1,h2⟩:=dN h;have hl:=h.1;rw[dh,BZ]at hl;simp only[dp,fE]at hv;obtain⟨rfl,rfl⟩:=hv;exact⟨rd,hl,h1,h2⟩
def gK.below{w w':World}{base:Nat}{e:TypeId}{r:Rc}(h:gK w base e r)(hb:cI w w'):gK w' base e r:=dg h hb
def gK.mono{w:World}{base base':Nat}{e:TypeId}{r:Rc}(h:gK w base e r)(hb:base'≤base):gK w base' e r:=dx h hb
def gK.grown{w w':World}{base:Nat}{e:TypeId}{r:Rc}(h:gK w base e r){b2:Nat}{e2:TypeId}{s2:Nat}{v2:Value}{n2:Nat}{x2:cH}(h2:w.ownsRow b2 e2 s2 v2 n2 x2)(a:e≠e2)(hg:w.grownBy w' v2.ownBlock):gK w' base e r :=
 World.ownsRow.kept h hg (nS h h2 a)
def gK.set{w:World}{base:Nat}{e:TypeId}{r:Rc}(h:gK w base e r){a:Addr}(ha:a.block<base)(u:Value):gK (w.setCell a u) base e r:=cV h ha u
abbrev Rec:=Int× List UInt8
def nK(r:Rc):Rec:=(r.t,r.bs)
def mD:List Rec→Int
 | []=>0
 |r :: l=>if r.1<1∨255<r.1 then 1 else if 65535<r.2.length then 6 else mD l
def kj(r:Rec):List UInt8:=[UInt8.ofNat r.1.toNat,UInt8.ofNat (r.2.length / 256),UInt8.ofNat r.2.length]++r.2
def fZ:List Rec→List UInt8
 | []=>[]
 |r :: l=>kj r++fZ l
def wT(l:List Rec):List UInt8:=if mD l=0 then fZ l else []
def nt(a b:List Rec):fZ (a++b)=fZ a++fZ b:=by
 induction a with
 |nil=>rfl
 |cons r a ih=>simp only[List.cons_append,fZ,ih,dI]
def qO(r:Rec):(kj r).length=3+r.2.length:=by simp[kj];omega
def Qc(l:List Rec)(h:mD l=0):∀r∈l,1≤r.1∧r.1≤255∧r.2.length≤65535:=by
 induction l with
 |nil=>simp
 |cons r l ih=>
   rw[mD]at h;split at h
   ·omega
   ·split at h
    ·omega
    ·intro x hx;rcases dA.1 hx with rfl|hx
     ·omega
     ·exact ih h x hx
def CX(l:List Rc)(k:Nat)(hk:k<l.length):mD ((l.drop k).map nK)=
  if l[k].t<1∨255<l[k].t then 1 else if 65535<l[k].bs.length then 6 else mD ((l.drop (k+1)).map nK):=by
 rw[iG hk];rfl
def yH(l:List Rc)(k:Nat)(hk:k<l.length):fZ ((l.take (k+1)).map nK)=fZ ((l.take k).map nK)++kj (nK l[k]):=by
 rw[cT hk,ez,nt];simp[fZ]
def Ge(bs:List UInt8):Nat:=(bs.getD 1 0).toNat*256+(bs.getD 2 0).toNat
def qN(bs:List UInt8):Bool:=bs.getD 0 0==0||decide (bs.length<3)||decide (bs.length<3+Ge bs)
def uS(bs:List UInt8):Rec:=(((bs.getD 0 0).toNat:Int),(bs.drop 3).take (Ge bs))
def lH(bs:List UInt8):Option (List Rec) :=
 if h:bs= []then some []
 else if qN bs=true then none
 else(lH (bs.drop (3+Ge bs))).map (uS bs :: ·)
termination_by bs.length
decreasing_by
 have:=List.length_pos_iff.2 h;rw[List.length_drop];omega
def qQ:lH []=some []:=by rw[lH];rfl
def Gp(bs:List UInt8)(h:bs≠ [])(hb:qN bs=true):lH bs=none:=by rw[lH,dif_neg h,cR hb]
def ud(bs:List UInt8)(h:bs≠ [])(hb:qN bs=false):lH bs=(lH (bs.drop (3+Ge bs))).map (uS bs :: ·):=by rw[lH,dif_neg h,cN (by rw[hb];simp)]
def Ed(bs:List UInt8):Int:=if (lH bs).isSome then 0 else 4
def Qj(bs:List UInt8):List Rec:=(lH bs).getD []
def TJ(bs:List UInt8)(h3:3≤bs.length)(hN:3+Ge bs≤bs.length):kj (uS bs)++bs.drop (3+Ge bs)=bs:=by
 obtain⟨a,b,c,r,rfl⟩:∃a b c r,bs=a :: b :: c :: r:=by
  rcases bs with _|⟨a,_|⟨b,_|⟨c,r⟩⟩⟩
  ·simp at h3
  ·simp at h3
  ·simp at h3
  ·exact⟨a,b,c,r,rfl⟩
 have hh:Ge (a :: b :: c :: r)=b.toNat*256+c.toNat:=rfl;rw[hh]at hN ⊢;have hc:=jF c;have hbb:UInt8.ofNat ((b.toNat*256+c.toNat) / 256)=b:=by
  rw[show(b.toNat*256+c.toNat) / 256=b.toNat by omega];simp
 have hcc:UInt8.ofNat (b.toNat*256+c.toNat)=c:=by
  apply QL.1;rw[jE];omega
 have ha:UInt8.ofNat a.toNat=a:=by simp
 have hr:uS (a :: b :: c :: r)=((a.toNat:Int),r.take (b.toNat*256+c.toNat)):=rfl;rw[hr];generalize hM:b.toNat*256+c.toNat=M at hN hbb hcc ⊢;have hlen:(r.take M).length=M:=by rw[eM];simp at hN;omega
 unfold kj;simp only[hlen,Int.toNat_natCast];rw[ha,hbb,hcc,Nat.add_comm 3 M];simp
def Gq(k:Nat):∀bs:List UInt8,bs.length≤k→ ∀l,lH bs=some l→mD l=0∧fZ l=bs∧l.length≤bs.length:=by
 induction k with
 |zero=>
   intro bs hk l h;obtain rfl:=dy (Nat.le_zero.1 hk);rw[qQ]at h;injection h with h
   subst h;exact⟨rfl,rfl,by simp⟩
 |succ k ih=>
   intro bs hk l h
   by_cases hne:bs= []
   ·subst hne;rw[qQ]at h;injection h with h
    subst h;exact⟨rfl,rfl,by simp⟩
   by_cases hb:qN bs=true
   ·rw[Gp bs hne hb]at h;cases h
   have hb':qN bs=false:=by simpa using hb
   rw[ud bs hne hb']at h;obtain⟨l',hl',rfl⟩:=fW.1 h;have hd:=hb';unfold qN at hd;simp only[mJ,ja,Nat.not_lt,kL]at hd;obtain⟨⟨h0,h3⟩,hN⟩:=hd;obtain⟨e1,e2,e3⟩:=ih (bs.drop (3+Ge bs)) (by rw[fz];omega) l' hl';rw[fz]at e3;have l1:=jF (bs.getD 1 0);have l2:=jF (bs.getD 2 0);have l0:=jF (bs.getD 0 0);have hz:(bs.getD 0 0).toNat≠0:=fun e=>h0 (QL.1 e)
   have hlen:((bs.drop 3).take (Ge bs)).length=Ge bs:=by rw[eM,fz];omega
   have hN2:Ge bs≤65535:=by unfold Ge;omega
   refine⟨?_,?_,by rw[dG];omega⟩
   ·rw[mD];rw[cN (by unfold uS;simp only;omega),cN (by unfold uS;simp only;omega)];exact e1
   ·rw[fZ,e2];exact TJ bs h3 hN
def Me(r:Rec)(h1:1≤r.1)(h2:r.1≤255)(h3:r.2.length≤65535)(rest:List UInt8) :
  Ge (kj r++rest)=r.2.length∧(kj r++rest).getD 0 0≠0∧(((kj r++rest).getD 0 0).toNat:Int)=r.1∧(kj r++rest).drop 3=r.2++rest∧(kj r++rest).drop (3+r.2.length)=rest:=by
 have e:kj r++rest=UInt8.ofNat r.1.toNat :: UInt8.ofNat (r.2.length / 256) :: UInt8.ofNat r.2.length :: (r.2++rest):=by simp[kj]
 have t0:(UInt8.ofNat r.1.toNat).toNat=r.1.toNat:=by rw[jE];exact mZ (by omega)
 have t1:(UInt8.ofNat (r.2.length / 256)).toNat=r.2.length / 256:=by rw[jE];exact mZ (by omega)
 have t2:(UInt8.ofNat r.2.length).toNat=r.2.length % 256:=by rw[jE]
 rw[e];refine⟨?_,?_,?_,rfl,?_⟩
 ·show(UInt8.ofNat (r.2.length / 256)).toNat*256+(UInt8.ofNat r.2.length).toNat=_
  rw[t1,t2];omega
 ·intro h;have:=dU UInt8.toNat h;change (UInt8.ofNat r.1.toNat).toNat=0 at this;omega
 ·show((UInt8.ofNat r.1.toNat).toNat:Int)=_
  rw[t0];omega
 ·rw[Nat.add_comm 3];simp
def C3(r:Rec)(h1:1≤r.1)(h2:r.1≤255)(h3:r.2.length≤65535)(rest:List UInt8):lH (kj r++rest)=(lH rest).map (r :: ·):=by
 obtain⟨a1,a2,a3,a4,a5⟩:=Me r h1 h2 h3 rest;have hne:kj r++rest≠ []:=by simp[kj]
 have hl:(kj r++rest).length=3+r.2.length+rest.length:=by rw[cX,qO]
 have hb:qN (kj r++rest)=false:=by
  unfold qN;rw[a1,hl];simp only[mJ,ja,kL];exact⟨⟨a2,by omega⟩,by omega⟩
 rw[ud _ hne hb,a1,a5];have:uS (kj r++rest)=r:=by
  unfold uS;rw[a1,a3,a4];simp
 rw[this]
def Qi(l:List Rec)(h:mD l=0)(rest:List UInt8):lH (fZ l++rest)=(lH rest).map (l++ ·):=by
 induction l with
 |nil=>simp[fZ]
 |cons r l ih=>
   have hm:=Qc (r :: l) h r (by simp);have hl:mD l=0:=by
    rw[mD]at h;split at h
    ·omega
    ·split at h
     ·omega
     ·exact h
   rw[fZ,dI,C3 r hm.1 hm.2.1 hm.2.2,ih hl,Option.map_map]
   congr 1
def Mi(l:List Rec)(h:mD l=0):lH (fZ l)=some l:=by
 have:=Qi l h [];rw[gY,qQ]at this;simpa using this
def Ke(T U:TypeId)(W:World)(bs:List UInt8)(e:Ending)(w':World):Prop :=
 ∃v rs,e= .returned (.tuple #[v,(Ed bs)])∧w'.ownsRow W T 2 v rs.length (kM rs)∧(∀r∈rs,gK w' W U r)∧rs.map nK=Qj bs∧cI W w'
def QJ(T U:TypeId)(W:World)(D:Option (List Rec))(e:Ending)(w':World):Prop :=
 ∃v rs,e= .returned (.tuple #[v,.int .i64 (if D.isSome then 0 else 4)])∧w'.ownsRow W.heap.size T 2 v rs.length (kM rs)∧(∀r∈rs,gK w' W.heap.size U r)∧rs.map nK=D.getD []∧cI W w'
abbrev Ad:=Int× Int× Int
abbrev Pf:=Nat× Int
structure La where
 o:Int
 s:Int
 a:Int
 ov:Bool
 adj:List Ad
 pre:List Pf
def jN:List Ad→cH
 | []=>[]
 |x :: l=>.int .i64 x.1 :: .int .i64 x.2.1 :: .int .i64 x.2.2 :: jN l
def jU:List Pf→cH
 | []=>[]
 |x :: l=>.int .u32 (x.1:Int) :: .int .i64 x.2 :: jU l
def lC(l:List Ad):(jN l).length=l.length*3:=by
 induction l with
 |nil=>rfl
 |cons r l ih=>simp only[jN,List.length_cons,ih];omega
def gn(l:List Pf):(jU l).length=l.length*2:=by
 induction l with
 |nil=>rfl
 |cons r l ih=>simp only[jU,List.length_cons,ih];omega
def vC(a b:List Ad):jN (a++b)=jN a++jN b:=by
 induction a with
 |nil=>rfl
 |cons r a ih=>simp only[List.cons_append,jN,ih]
def HU(a b:List Pf):jU (a++b)=jU a++jU b:=by
 induction a with
 |nil=>rfl
 |cons r a ih=>simp only[List.cons_append,jU,ih]
def Ue(a:List Ad):∀u∈jN a,u.oneCell'=true:=by
 induction a with
 |nil=>simp[jN]
 |cons r a ih=>
   intro u hu;simp only[jN,dA]at hu;rcases hu with rfl|rfl|rfl|hu
   ·rfl
   ·rfl
   ·rfl
   ·exact ih u hu
def SF(a:List Pf):∀u∈jU a,u.oneCell'=true:=by
 induction a with
 |nil=>simp[jU]
 |cons r a ih=>
   intro u hu;simp only[jU,dA]at hu;rcases hu with rfl|rfl|hu
   ·rfl
   ·rfl
   ·exact ih u hu
def Uf(l:List Ad):∀(k:Nat) (hk:k<l.length),(jN l)[3*k]?=some (.int .i64 l[k].1)∧(jN l)[3*k+1]?=some (.int .i64 l[k].2.1)∧(jN l)[3*k+2]?=some (.int .i64 l[k].2.2):=by
 induction l with
 |nil=>intro k hk;simp at hk
 |cons r l ih=>
   intro k hk;cases k with
   |zero=>exact⟨rfl,rfl,rfl⟩
   |succ k=>
     obtain⟨h1,h2,h3⟩:=ih k (by simpa using hk);rw[show 3*(k+1)=3*k+1+1+1 by omega];exact⟨by simpa[jN]using h1,by simpa[jN]using h2,by simpa[jN]using h3⟩
def SG(l:List Pf):∀(k:Nat) (hk:k<l.length),(jU l)[2*k]?=some (.int .u32 (l[k].1:Int))∧(jU l)[2*k+1]?=some (.int .i64 l[k].2):=by
 induction l with
 |nil=>intro k hk;simp at hk
 |cons r l ih=>
   intro k hk;cases k with
   |zero=>exact⟨rfl,rfl⟩
   |succ k=>
     obtain⟨h1,h2⟩:=ih k (by simpa using hk);rw[show 2*(k+1)=2*k+1+1 by omega];exact⟨by simpa[jU]using h1,by simpa[jU]using h2⟩
def se{w:World}{A:cG}{l:List Ad}(h:Rd w A (jN l))(hn:0<l.length) :
  ∃b off,A=some ⟨b,off,none⟩∧ ∀k (hk:k<l.length),w.cell? ⟨b,off+k*3,none⟩=some (.int .i64 l[k].1)∧w.cell? ⟨b,off+k*3+1,none⟩=some (.int .i64 l[k].2.1)∧w.cell? ⟨b,off+k*3+2,none⟩=some (.int .i64 l[k].2.2):=by
 obtain⟨b,off,e,hc⟩:=gE h (by rw[lC];omega);refine⟨b,off,e,fun k hk=>?_⟩
 obtain⟨h1,h2,h3⟩:=Uf l k hk;exact⟨hc _ _ (by rw[gl];exact h1),by rw[iS];exact hc _ _ (by rw[gl];exact h2),by rw[iS];exact hc _ _ (by rw[gl];exact h3)⟩
def yz{w:World}{A:cG}{l:List Pf}(h:Rd w A (jU l))(hn:0<l.length) :
  ∃b off,A=some ⟨b,off,none⟩∧ ∀k (hk:k<l.length),w.cell? ⟨b,off+k*2,none⟩=some (.int .u32 (l[k].1:Int))∧w.cell? ⟨b,off+k*2+1,none⟩=some (.int .i64 l[k].2):=by
 obtain⟨b,off,e,hc⟩:=gE h (by rw[gn];omega);refine⟨b,off,e,fun k hk=>?_⟩
 obtain⟨h1,h2⟩:=SG l k hk;exact⟨hc _ _ (by rw[gl];exact h1),by rw[iS];exact hc _ _ (by rw[gl];exact h2)⟩
def jI(n l m:Int):Bool:=decide (l≤n)&&decide (n≤m)
def jH{n l m:Int}(h:jI n l m=true):l≤n∧n≤m:=by simpa[jI]using h
def kC{n l m:Int}(h:jI n l m=false):n<l∨m<n:=by
 rcases Int.lt_or_le n l with h1|h1
 ·exact .inl h1
 ·rcases Int.lt_or_le m n with h2|h2
  ·exact .inr h2
  ·rw[jI,eo h1,eo h2]at h;cases h
def kB(n l m:Int)(w:World):Calls prog 170 #[n,l,m] w fun e w'=>e= .returned (.bool (jI n l m))∧w=w':=by
 by_cases h1:l≤n
 ·have e:jI n l m=decide (n≤m):=by simp[jI,h1]
  rw[e];clear e;go_enter func170,ntmps170;go_wp2_with fail
  all_goals (first|done|go_ret)
  all_goals exact⟨rfl,rfl⟩
 ·have e:jI n l m=false:=by simp[jI,h1]
  rw[e];clear e;go_enter func170,ntmps170;go_wp2_with fail
  all_goals (first|done|go_ret)
  all_goals exact⟨rfl,rfl⟩
def mz(o:Int)(l:List Ad)(n:Nat):Prop:=∀k x,k<n→l[k]?=some x→(0≤x.2.1∧x.2.1≤255)∧x.1≠o∧(0≤x.1∧x.1≤63)∧(1≤x.2.2∧x.2.2≤65535)∧(∀y,0<k→l[k - 1]?=some y→y.2.1<x.2.1)
def mY(l:List Pf)(n:Nat):Prop:=∀k x,k<n→l[k]?=some x→mR x.1 x.2=true∧(∀y,0<k→l[k - 1]?=some y→qi y.1 y.2 x.1 x.2<0)
def dS(x:La):Prop:=(0≤x.o∧x.o≤63)∧(1≤x.s∧x.s≤1073741824)∧(0≤x.a∧x.a≤3600)∧x.adj.length≤256∧x.pre.length≤64∧(x.a=3600→x.ov=false∧x.adj= []∧x.pre= [])∧mz x.o x.adj x.adj.length∧mY x.pre x.pre.length
instance (o:Int) (l:List Ad) (n:Nat):Decidable (mz o l n) :=
 decidable_of_iff (∀k,k<n→ ∀x∈l[k]?,(0≤x.2.1∧x.2.1≤255)∧x.1≠o∧(0≤x.1∧x.1≤63)∧(1≤x.2.2∧x.2.2≤65535)∧(∀y∈l[k - 1]?,0<k→y.2.1<x.2.1))
  ⟨fun h k x hk hx=>let ⟨a,b,c,d,e⟩:=h k hk x hx;⟨a,b,c,d,fun y h0 hy=>e y hy h0⟩,fun h k hk x hx=>let ⟨a,b,c,d,e⟩:=h k x hk hx;⟨a,b,c,d,fun y hy h0=>e y h0 hy⟩⟩
instance (l:List Pf) (n:Nat):Decidable (mY l n) :=
 decidable_of_iff (∀k,k<n→ ∀x∈l[k]?,mR x.1 x.2=true∧ ∀y∈l[k - 1]?,0<k→qi y.1 y.2 x.1 x.2<0)
  ⟨fun h k x hk hx=>⟨(h k hk x hx).1,fun y h0 hy=>(h k hk x hx).2 y hy h0⟩,fun h k hk x hx=>⟨(h k x hk hx).1,fun y hy h0=>(h k x hk hx).2 y h0 hy⟩⟩
instance (x:La):Decidable (dS x):=by unfold dS;exact inferInstance
def vB(x:La):Bool:=decide (dS x)
def uZ{x:La}(h:¬dS x):vB x=false:=eI h
def nA{x:La}(h:dS x):vB x=true:=eo h
def gH{x:La}:vB x=true↔dS x:=ie
def mz.snoc{o:Int}{l:List Ad}{k:Nat}(h:mz o l k){x:Ad}(hx:l[k]?=some x)(h1:0≤x.2.1∧x.2.1≤255)(h2:x.1≠o)(h3:0≤x.1∧x.1≤63)(h4:1≤x.2.2∧x.2.2≤65535)(h5:∀y,0<k→l[k - 1]?=some y→y.2.1<x.2.1):mz o l (k+1):=by
 intro j y hj hy;rcases Yz j k with a|b
 ·exact h j y a hy
 ·obtain rfl:j=k:=by omega
  rw[hx]at hy;injection hy with hy;subst hy
  exact⟨h1,h2,h3,h4,h5⟩
def mY.snoc{l:List Pf}{k:Nat}(h:mY l k){x:Pf}(hx:l[k]?=some x)(h1:mR x.1 x.2=true)(h5:∀y,0<k→l[k - 1]?=some y→qi y.1 y.2 x.1 x.2<0):mY l (k+1):=by
 intro j y hj hy;rcases Yz j k with a|b
 ·exact h j y a hy
 ·obtain rfl:j=k:=by omega
  rw[hx]at hy;injection hy with hy;subst hy
  exact⟨h1,h5⟩
def jm:iF prog 89 5 (.int .u8 0) 1 1:=⟨underlying89,by kernel_rfl,rfl,by omega⟩
def C9(A:cG)(n cap:Nat)(bs:List UInt8)(w:World)(hb:Bs w A bs)(hn:bs.length=n)(hl:n≤140737488355328) :
  Calls prog 187 #[.slice A n cap] w fun e w'=>∃v,e= .returned v∧w'.ownsRow w 5 1 v n (bs.map iZ)∧cI w w':=by
 subst hn;have heq:=gw (P:=prog) w 89 5 A bs.length cap 0 0 underlying89;rcases A with _|ad
 ·have hn:=Rd.tW hb;go_in;go_wp2;go_ret;have f:bs= []:=by simpa using hn
  subst f;exact⟨_,rfl,by simpa using cn,cy⟩
 ·have d:=lQ w 5 1;have c:=kQ w (.cells #[] 5);have g:=hb.below c;go_in;go_wp2_with (at_builtin;refine dK rfl jm _ _ rfl w rfl d (A:=some ad) (m:=bs.length) rfl (by simp) g (ni _) (by simp only[maxLen];omega) (by omega) c.size bs.length (bs.map iZ) (by omega) (by simp) ?_;intro v1 w1 a b _ _);go_ret;exact⟨_,rfl,a,c.trans b⟩
end Go.Proofs.YtehimhbgakpenaaGreat
