/- Lemmas. -/
import Derived.Test.YtehimhbgakpenaaGreatQ
set_option linter.all false
set_option maxRecDepth 100000
set_option maxHeartbeats 16000000
namespace Go.Proofs.YtehimhbgakpenaaGreat
open Go.RowKit Go.Maps Go.Sort Go.Proofs.Tryz
def Vg{bs:List UInt8}(h1:1≤bs.length)(h8:bs.length≤8):ux bs=iW bs∧Rh bs=0:=by
 unfold ux Rh;rw[cR ⟨h1,h8⟩,cR ⟨h1,h8⟩];exact⟨rfl,rfl⟩
def EH{bs:List UInt8}(h:bs.length≤4):iW bs<4294967296:=by
 have:=zl bs;have h2:256 ^bs.length≤256 ^4:=mF (by omega) h;omega
def vR(w:World)(g:Nat)(A:cG)(n c:Nat)(bs:List UInt8)(hg:w.cell? ⟨g,0,none⟩=some (.slice A n c))(hr:Bs w A bs)(hn:bs.length=n)(d:n≤c)(lo k:Nat)(z1 z2:Int)(h1:z1=lo)(h2:z2=k)(i:1≤k)(h:k≤4)(hl:lo+k≤n)(f:n≤100000)(q:Nat)(hq:iW ((bs.drop lo).take k)=q) :
  Calls prog 112 #[z1,z2,.pointer (some ⟨g,0,none⟩)] w fun e w'=>e= .returned (.int .i64 (q:Int))∧w=w':=by
 subst h1 h2;have hlen:((bs.drop lo).take k).length=k:=by rw[eM,fz];omega
 have a:=Jq jm A n c lo (lo+k) (by omega) (by omega) w;have rd:=(hr.sub lo c (by simp;omega)).take k;rw[←ED,←WW]at rd;obtain⟨e1,e2⟩:=Vg (bs:=(bs.drop lo).take k) (by omega) (by omega);have U:=zh (oa A lo c) k (c - lo) _ w rd hlen (by omega);have b:=EH (bs:=(bs.drop lo).take k) (by omega);rw[e1,e2,hq]at U;rw[hq]at b;generalize oa A lo c=A2 at *;replace U:=φ U;rw[Int.natCast_add,Xf]at a;clear hr rd e1 e2 hq hlen;replace hn:=φ hn;go_in;go_wp2_with fail;refine U.out.mono ?_;rintro e w1 ⟨rfl,rfl⟩;go_wp2;go_ret;exact⟨rfl,rfl⟩
abbrev Kj:cH:=[.int .i64 0,.int .i64 0,.int .i64 0,.int .i64 0,.int .i64 0,.int .i64 0,.int .i64 0,false,.slice none 0 0,.slice none 0 0]
def St.yP{W w:World}{g:Nat}{bs:List (Nat× cH)}{rs:List (cG× cH)}{a0 a1 a2 a3 a4 a5 a6 a7 a8 a9:Value}(S:St W w ((g,[a0,a1,a2,a3,a4,a5,a6,a7,a8,a9]) :: bs) rs)(u0 u1 u2 u3 u4 u5 u6 u7 u8 u9:Value)(hg:W≤g)(hd:∀x∈bs,x.1≠g) :
  St W ((((((((((w.setCell ⟨g,0,none⟩ u0).setCell ⟨g,1,none⟩ u1).setCell ⟨g,2,none⟩ u2).setCell ⟨g,3,none⟩ u3).setCell ⟨g,4,none⟩ u4).setCell ⟨g,5,none⟩ u5).setCell ⟨g,6,none⟩ u6).setCell ⟨g,7,none⟩ u7).setCell ⟨g,8,none⟩ u8).setCell ⟨g,9,none⟩ u9) ((g,[u0,u1,u2,u3,u4,u5,u6,u7,u8,u9]) :: bs) rs :=
 (((((((((S.set 0 0 u0 rfl (by simp) hg hd _ rfl).set 0 1 u1 rfl (by simp) hg hd _ rfl).set 0 2 u2 rfl (by simp) hg hd _ rfl).set 0 3 u3 rfl (by simp) hg hd _ rfl).set 0 4 u4 rfl (by simp) hg hd _ rfl).set 0 5 u5 rfl (by simp) hg hd _ rfl).set 0 6 u6 rfl (by simp) hg hd _ rfl).set 0 7 u7 rfl (by simp) hg hd _ rfl).set 0 8 u8 rfl (by simp) hg hd _ rfl).set 0 9 u9 rfl (by simp) hg hd _ rfl
def FG{w:World}{base:Nat}{e:TypeId}{size:Nat}{v:Value}{n:Nat}{xs:cH}(h:w.ownsRow base e size v n xs){g:Nat}(hg:g<base)(u0 u1 u2 u3 u4 u5 u6 u7 u8 u9:Value) :
  ((((((((((w.setCell ⟨g,0,none⟩ u0).setCell ⟨g,1,none⟩ u1).setCell ⟨g,2,none⟩ u2).setCell ⟨g,3,none⟩ u3).setCell ⟨g,4,none⟩ u4).setCell ⟨g,5,none⟩ u5).setCell ⟨g,6,none⟩ u6).setCell ⟨g,7,none⟩ u7).setCell ⟨g,8,none⟩ u8).setCell ⟨g,9,none⟩ u9).ownsRow base e size v n xs :=
 cV (a:=⟨g,9,none⟩) (cV (a:=⟨g,8,none⟩) (cV (a:=⟨g,7,none⟩) (cV (a:=⟨g,6,none⟩) (cV (a:=⟨g,5,none⟩) (cV (a:=⟨g,4,none⟩) (cV (a:=⟨g,3,none⟩) (cV (a:=⟨g,2,none⟩) (cV (a:=⟨g,1,none⟩) (cV (a:=⟨g,0,none⟩) h hg _) hg _) hg _) hg _) hg _) hg _) hg _) hg _) hg _) hg _
def FF{w:World}{base:Nat}{e:TypeId}{size:Nat}{v:Value}{n:Nat}{xs:cH}(h:w.ownsRow base e size v n xs){g:Nat}(hg:g<base)(u0 u1 u2 u3 u4 u5:Value) :
  ((((((w.setCell ⟨g,4,none⟩ u0).setCell ⟨g,5,none⟩ u1).setCell ⟨g,6,none⟩ u2).setCell ⟨g,7,none⟩ u3).setCell ⟨g,8,none⟩ u4).setCell ⟨g,9,none⟩ u5).ownsRow base e size v n xs :=
 cV (a:=⟨g,9,none⟩) (cV (a:=⟨g,8,none⟩) (cV (a:=⟨g,7,none⟩) (cV (a:=⟨g,6,none⟩) (cV (a:=⟨g,5,none⟩) (cV (a:=⟨g,4,none⟩) h hg _) hg _) hg _) hg _) hg _) hg _
def Em(w:World)(E:Int)(m:Ms)(e:Ending)(w':World):Prop :=
 ∃v,e= .returned (.tuple #[v,E])∧UU w' w v m∧cI w w'
def EP(A:cG)(n cap:Nat)(bs:List UInt8)(w:World)(hr:Bs w A bs)(hn:bs.length=n)(U:n≤cap)(hm:cap≤maxLen)(ap:n≤100000) :
  Calls prog 65 #[.slice A n cap] w (Em w (sK bs) (sJ bs)):=by
 have S:St w (w.alloc (.cells #[i0,i0,i0,i0,i0,i0,i0,false,sn,sn] 142)) [(w,Kj)] [(A,bs.map iZ)]:=((St.start w).read hr).new #[i0,i0,i0,i0,i0,i0,i0,false,sn,sn] 142;have DK:=yL A n cap bs _ (S.r 0 rfl) hn U hm (by omega);obtain⟨E,hE⟩:=ex (sK bs)
 obtain⟨V,hV⟩:=ex (sJ bs)
 rw[hE,hV];unfold sK at hE;unfold sJ at hV;have d:Hid (∀E w9,cI w w9→Em w E mS (.returned (.tuple #[.agg #[i0,i0,i0,i0,i0,i0,i0,false,sn,sn],E])) w9):=fun E w9 S9=>⟨_,rfl,Ig _ _,S9⟩
 rcases hD:lH bs with _|l
 ·rw[hD]at hE hV;simp only at hE hV;subst hE hV;have I:Hid (Ed bs=4):=by show _=_;unfold Ed;rw[hD];rfl
  clear hD;replace hn:=φ hn;go_in;go_wp2_with fail;refine DK.mono ?_;rintro e w2 ⟨v,rs,rfl,g,B,hd,F⟩;rw[I.out];replace hd:=φ hd;replace S:=S.call F;obtain⟨c0,c1,c2,c3,c4,c5,c6,c7,c8,c9⟩:=(S.box 0 rfl).iM;obtain⟨f0,f1,f2,f3,f4,f5,f6,f7,f8,f9⟩:=(S.box 0 rfl).f10;go_wp2_with fail;have S9:=S.yP i0 i0 i0 i0 i0 i0 i0 (.bool false) sn sn cj (by simp);exact dc (v:=.tuple #[.agg #[i0,i0,i0,i0,i0,i0,i0,false,sn,sn],.int .i64 4]) (by simp[results,results65,go_sem,c0,c1,c2,c3,c4,c5,c6,c7,c8,c9]) rfl (d _ _ S9.b)
 have I:Hid (Ed bs=0):=by show _=_;unfold Ed;rw[hD];rfl
 have ab:Hid (Qj bs=l):=by show _=_;unfold Qj;rw[hD];rfl
 have Z:=(Gq _ bs cj l hD).2.1;rw[hD]at hE hV;clear hD
 by_cases h1:¬l.length=1
 ·have N:E=4∧V=mS:=by
   rcases l with _|⟨a,_|⟨b,l⟩⟩
   ·simp only at hE hV;exact⟨hE.symm,hV.symm⟩
   ·simp at h1
   ·simp only at hE hV;exact⟨hE.symm,hV.symm⟩
  obtain⟨rfl,rfl⟩:=N;clear hE hV;change Hid _ at hn h1;go_in;go_wp2_with fail;refine DK.mono ?_;rintro e w2 ⟨v,rs,rfl,g,B,hd,F⟩;rw[I.out];rw[ab.out]at hd;have ac:¬rs.length=1:=fun h=>h1 (by rw[←hd,dh];exact h)
  obtain⟨A1,ar,rfl,_⟩:=dN g;replace hd:=φ hd;replace S:=S.call F;have ah:((rs.length:Int) !=1)=true:=by simp;omega
  clear g B ac;obtain⟨c0,c1,c2,c3,c4,c5,c6,c7,c8,c9⟩:=(S.box 0 rfl).iM;obtain⟨f0,f1,f2,f3,f4,f5,f6,f7,f8,f9⟩:=(S.box 0 rfl).f10;go_wp2_with fail;have S9:=S.yP i0 i0 i0 i0 i0 i0 i0 (.bool false) sn sn cj (by simp);exact dc (v:=.tuple #[.agg #[i0,i0,i0,i0,i0,i0,i0,false,sn,sn],.int .i64 4]) (by simp[results,results65,go_sem,c0,c1,c2,c3,c4,c5,c6,c7,c8,c9]) rfl (d _ _ S9.b)
 obtain⟨r,rfl⟩:=YA.1 (Decidable.not_not.1 h1);simp only at hE hV;clear h1;change Hid _ at hn hE hV;go_in;go_wp2_with fail;refine DK.mono ?_;rintro e w2 ⟨v,rs,rfl,g,B,hd,F⟩;rw[I.out];rw[ab.out]at hd;obtain⟨rc,rfl⟩:=YA.1 (show rs.length=1 by have:=dU List.length hd;simpa using this);have P:=B rc (by simp);have R:nK rc=r:=by simpa using hd
 obtain⟨g3,c3,rfl,aq,al,C⟩:=pk g (by simp);replace S:=S.call F;obtain⟨t,X,nx,cx,bx⟩:=rc;simp only[nK]at R;subst R;have ae:=P.ok;obtain⟨k1,k2,k3,k4⟩:=ae;simp only at k1 k2 k3 k4;have L:=(ki C).1;have z0:=L.at 0 (u:=.int .i64 t) rfl;have z1:=L.at 1 (u:=.slice X nx cx) rfl;have am:bx.length≤100000:=by
  have:=dU List.length Z;simp[fZ,qO]at this;have:=hn.out;omega
 clear Z;have T:=(S.nw #[t,i0,i0,i0,i0,i0,i0,false,sn,sn] 142 w2).nw #[.slice X nx cx] 89 (w2.heap.size+1);have i:=(k1.below (cQ _ (.cells #[t,i0,i0,i0,i0,i0,i0,false,sn,sn] 142))).below (cQ _ (.cells #[.slice X nx cx] 89));clear g B P C L DK hd;go_upto_region 6 with fail;clear z0 z1;have ak:=S.lt 0 rfl (by simp);have K:∀ad,X=some ad→0<bx.length→ad.block<w2:=fun ad e hp=>by
  obtain⟨au,e',hb⟩:=Rd.block k1 (by simpa using hp);rw[e]at e';injection e' with e';subst e';exact hb
 generalize World.alloc (World.alloc _ _) _=w3 at *;generalize w2.heap.size=g4 at *;have x:Hid (∀W,Bs W X bx→ ∀j u,Bs (W.setCell ⟨g4,j,none⟩ u) X bx):=fun W h j u=>Rd.XU h (dk _ _ _ _) (fun hp ad e e2=>by have:=K ad e (by simpa using hp);injection e2 with e2;omega)
 clear S hr k1 K;replace k2:=φ k2;have T0:=T
 by_cases ht1:t=1
 ·subst ht1
  by_cases h10:bx.length=10
  ·obtain rfl:nx=10:=by rw[←k2.out,h10]
   have U1:=fun W (hc:Cv W (g4+1) 0 (.slice X 10 cx)) (hb:Bs W X bx)=>vR W (g4+1) X 10 cx bx hc hb h10 k3 0 2 0 2 rfl rfl (by omega) (by omega) (by omega) (by omega) _ rfl
   have U2:=fun W (hc:Cv W (g4+1) 0 (.slice X 10 cx)) (hb:Bs W X bx)=>vR W (g4+1) X 10 cx bx hc hb h10 k3 2 4 2 4 rfl rfl (by omega) (by omega) (by omega) (by omega) _ rfl
   have U3:=fun W (hc:Cv W (g4+1) 0 (.slice X 10 cx)) (hb:Bs W X bx)=>vR W (g4+1) X 10 cx bx hc hb h10 k3 6 4 6 4 rfl rfl (by omega) (by omega) (by omega) (by omega) _ rfl
   have hR:vS (1,bx)=⟨1,iW ((bx.drop 0).take 2),iW ((bx.drop 2).take 4),iW ((bx.drop 6).take 4),dT⟩:=by unfold vS;rw[cR rfl,Ca]
   generalize iW ((bx.drop 0).take 2)=q1 at *;generalize iW ((bx.drop 2).take 4)=q2 at *;generalize iW ((bx.drop 6).take 4)=q3 at *;have f:(if qg ⟨1,q1,q2,q3,dT⟩=true then 0 else 4)=E:=by
    rw[←hE.out];unfold qq;rw[cR rfl,hR]
    by_cases hm:qg ⟨1,q1,q2,q3,dT⟩=true
    ·rw[cR hm,cR ⟨h10,hm⟩]
    ·rw[cN hm,cN (fun h=>hm h.2)]
   have m:(if E=0 then⟨1,q1,q2,q3,dT⟩else mS)=V:=by rw[←hV.out,hE.out,hR]
   clear hE hV hR;obtain⟨mb,k⟩:=ex (qg ⟨1,q1,q2,q3,dT⟩)
   rw[k]at f;have VA:∀W,Calls prog 116 #[.agg #[.int .i64 1,q1,q2,q3,i0,i0,i0,false,sn,sn]] W fun e w'=>e= .returned (.bool mb)∧cI W w':=fun W=>by
    have:=rn W _ ⟨1,q1,q2,q3,dT⟩ ⟨none,0,none,0,rfl,(fQ W W).at⟩;rw[k]at this;exact this
   clear k h10;change Hid _ at f m;replace U1:=φ U1;replace U2:=φ U2;replace U3:=φ U3;replace VA:=φ VA;have v0:=T.c 0 0 rfl rfl;obtain⟨a0,a1,a2,a3,a4,a5,a6,a7,a8,a9⟩:=(T.box 1 rfl).iM;obtain⟨e0,e1,e2,e3,e4,e5,e6,e7,e8,e9⟩:=(T.box 1 rfl).f10;go_wp2_with fail;refine (U1 _ v0 i).mono ?_;rintro e w4 ⟨rfl,rfl⟩;go_wp2_with fail;have p:=x.out _ i 1 (.int .i64 (q1:Int));have T2:=T.s 1 1 (.int .i64 (q1:Int));clear a0 e0 e1 e2 e3 e4 e5 e6 e7 e8 e9 v0 i U1;generalize World.setCell _ _ _=w4 at *;have v0:=T2.c 0 0 rfl rfl;obtain⟨a0,a1,a2,a3,a4,a5,a6,a7,a8,a9⟩:=(T2.box 1 rfl).iM;obtain⟨e0,e1,e2,e3,e4,e5,e6,e7,e8,e9⟩:=(T2.box 1 rfl).f10;refine (U2 _ v0 p).mono ?_;rintro e w5 ⟨rfl,rfl⟩;go_wp2_with fail;have O:=x.out _ p 2 (.int .i64 (q2:Int));have T3:=T2.s 1 2 (.int .i64 (q2:Int));clear a0 e0 e1 e2 e3 e4 e5 e6 e7 e8 e9 v0 p U2;generalize World.setCell _ _ _=w5 at *;have v0:=T3.c 0 0 rfl rfl;obtain⟨a0,a1,a2,a3,a4,a5,a6,a7,a8,a9⟩:=(T3.box 1 rfl).iM;obtain⟨e0,e1,e2,e3,e4,e5,e6,e7,e8,e9⟩:=(T3.box 1 rfl).f10;refine (U3 _ v0 O).mono ?_;rintro e w6 ⟨rfl,rfl⟩;have T4:=T3.s 1 3 (.int .i64 (q3:Int));go_upto_region 22 with fail;clear a0 e0 e1 e2 e3 e4 e5 e6 e7 e8 e9 v0 O U3;generalize World.setCell _ _ _=w6 at *;obtain⟨a0,a1,a2,a3,a4,a5,a6,a7,a8,a9⟩:=(T4.box 1 rfl).iM;go_wp2_with fail;refine (VA _).mono ?_;rintro e w7 ⟨rfl,hb⟩;clear a0;replace T:=T4.call hb;clear T2 T3 T4 hb VA T0;cases mb with
   |false=>
     obtain rfl:E=4:=f.out.symm;obtain rfl:V=mS:=m.out.symm;obtain⟨c0,c1,c2,c3,c4,c5,c6,c7,c8,c9⟩:=(T.box 2 rfl).iM;obtain⟨f0,f1,f2,f3,f4,f5,f6,f7,f8,f9⟩:=(T.box 2 rfl).f10;have S9:=(T.dX [(w,Kj)] (by simp)).yP i0 i0 i0 i0 i0 i0 i0 (.bool false) sn sn cj (by simp);go_wp2;exact dc (v:=.tuple #[.agg #[i0,i0,i0,i0,i0,i0,i0,false,sn,sn],.int .i64 4]) (by simp[results,results65,go_sem,c0,c1,c2,c3,c4,c5,c6,c7,c8,c9]) rfl (d _ _ S9.b)
   |true=>
     obtain rfl:E=0:=f.out.symm;obtain rfl:V=⟨1,q1,q2,q3,dT⟩:=m.out.symm;obtain⟨a0,a1,a2,a3,a4,a5,a6,a7,a8,a9⟩:=(T.box 1 rfl).iM;obtain⟨c0,c1,c2,c3,c4,c5,c6,c7,c8,c9⟩:=(T.box 2 rfl).iM;obtain⟨f0,f1,f2,f3,f4,f5,f6,f7,f8,f9⟩:=(T.box 2 rfl).f10;have S9:=(T.dX [(w,Kj)] (by simp)).yP (.int .i64 1) (.int .i64 q1) (.int .i64 q2) (.int .i64 q3) i0 i0 i0 (.bool false) sn sn cj (by simp);go_wp2;exact dc (v:=.tuple #[.agg #[.int .i64 1,q1,q2,q3,i0,i0,i0,false,sn,sn],i0]) (by simp[results,results65,go_sem,c0,c1,c2,c3,c4,c5,c6,c7,c8,c9]) rfl ⟨_,rfl,⟨none,0,none,0,rfl,fQ _ _⟩,S9.b⟩
  ·have f:4=E:=by
    rw[←hE.out];unfold qq;rw[cR rfl,cN (fun h=>h10 h.1)]
   obtain rfl:=f;obtain rfl:V=mS:=by rw[←hV.out,hE.out,cN (by omega)]
   have M:((nx:Int) !=10)=true:=by have:=k2.out;simp;omega
   clear h10 hE hV i T0;have v0:=T.c 0 0 rfl rfl;obtain⟨a0,a1,a2,a3,a4,a5,a6,a7,a8,a9⟩:=(T.box 1 rfl).iM;obtain⟨c0,c1,c2,c3,c4,c5,c6,c7,c8,c9⟩:=(T.box 2 rfl).iM;obtain⟨f0,f1,f2,f3,f4,f5,f6,f7,f8,f9⟩:=(T.box 2 rfl).f10;have S9:=(T.dX [(w,Kj)] (by simp)).yP i0 i0 i0 i0 i0 i0 i0 (.bool false) sn sn cj (by simp);go_wp2;exact dc (v:=.tuple #[.agg #[i0,i0,i0,i0,i0,i0,i0,false,sn,sn],.int .i64 4]) (by simp[results,results65,go_sem,c0,c1,c2,c3,c4,c5,c6,c7,c8,c9]) rfl (d _ _ S9.b)
 by_cases ht2:t=2∨t=3
 ·by_cases h4:bx.length<4
  ·obtain rfl:E=4:=by
    rw[←hE.out];unfold qq;rw[cN ht1,cR ht2,cR h4]
   obtain rfl:V=mS:=by rw[←hV.out,hE.out,cN (by omega)]
   have M:(nx:Int)<4:=by have:=k2.out;omega
   clear h4 hE hV i T0;rcases ht2 with rfl|rfl
   all_goals
    have v0:=T.c 0 0 rfl rfl;obtain⟨a0,a1,a2,a3,a4,a5,a6,a7,a8,a9⟩:=(T.box 1 rfl).iM;obtain⟨c0,c1,c2,c3,c4,c5,c6,c7,c8,c9⟩:=(T.box 2 rfl).iM;obtain⟨f0,f1,f2,f3,f4,f5,f6,f7,f8,f9⟩:=(T.box 2 rfl).f10;have S9:=(T.dX [(w,Kj)] (by simp)).yP i0 i0 i0 i0 i0 i0 i0 (.bool false) sn sn cj (by simp);go_wp2;exact dc (v:=.tuple #[.agg #[i0,i0,i0,i0,i0,i0,i0,false,sn,sn],.int .i64 4]) (by simp[results,results65,go_sem,c0,c1,c2,c3,c4,c5,c6,c7,c8,c9]) rfl (d _ _ S9.b)
  ·have M:4≤nx:=by have:=k2.out;omega
   have aj:¬(nx:Int)<4:=by omega
   have ai:nx≤100000:=by have:=k2.out;omega
   have ao:∀W,(Instr.slice 89 (.slice X nx cx) (some (.int .i64 4)) none none).run prog W= .ok (.slice (oa X 4 cx) (nx - 4) (cx - 4)) W:=fun W=>wh jm X nx cx 4 M W
   have G:∀W,Bs W X bx→Bs W (oa X 4 cx) (bx.drop 4):=fun W h=>by
    have:=Rd.sub h 4 cx (by simpa[k2.out]using k3)
    rwa[←ED]at this
   have H:(bx.drop 4).length=nx - 4:=by rw[fz,k2.out]
   have CK:=fun W h=>Da (oa X 4 cx) (nx - 4) (cx - 4) (bx.drop 4) W (G W h) H (by omega)
   have LD:=fun W h=>F6 (oa X 4 cx) (nx - 4) (cx - 4) (bx.drop 4) W (G W h) H (by omega) (by unfold maxLen;omega) (by omega)
   generalize oa X 4 cx=X4 at *
   by_cases hc:Gw (bx.drop 4)=false
   ·obtain rfl:E=5:=by
     rw[←hE.out];unfold qq;rw[cN ht1,cR ht2,cN h4,cR hc]
    obtain rfl:V=mS:=by rw[←hV.out,hE.out,cN (by omega)]
    rw[hc]at CK;replace CK:=φ CK;clear h4 hE hV T0 LD G H;rcases ht2 with rfl|rfl
    all_goals
     have v0:=T.c 0 0 rfl rfl;obtain⟨a0,a1,a2,a3,a4,a5,a6,a7,a8,a9⟩:=(T.box 1 rfl).iM;go_wp2_with fail;refine (CK _ i).mono ?_;rintro e w4 ⟨rfl,rfl⟩;obtain⟨c0,c1,c2,c3,c4,c5,c6,c7,c8,c9⟩:=(T.box 2 rfl).iM;obtain⟨f0,f1,f2,f3,f4,f5,f6,f7,f8,f9⟩:=(T.box 2 rfl).f10;have S9:=(T.dX [(w,Kj)] (by simp)).yP i0 i0 i0 i0 i0 i0 i0 (.bool false) sn sn cj (by simp);go_wp2;exact dc (v:=.tuple #[.agg #[i0,i0,i0,i0,i0,i0,i0,false,sn,sn],.int .i64 5]) (by simp[results,results65,go_sem,c0,c1,c2,c3,c4,c5,c6,c7,c8,c9]) rfl (d _ _ S9.b)
   ·have Y:Gw (bx.drop 4)=true:=by simpa using hc
    have f:(if qg (vS (t,bx))=true then 0 else 4)=E:=by
     rw[←hE.out];unfold qq;rw[cN ht1,cR ht2,cN h4,cN hc]
    have m:(if E=0 then vS (t,bx)else mS)=V:=by rw[←hV.out,hE.out]
    have hR:vS (t,bx)=⟨t,0,iW ((bx.drop 0).take 4),0,uQ (bx.drop 4)⟩:=by unfold vS;rw[cN ht1,Ca]
    rw[hR]at f m;rw[Y]at CK;have U1:=fun W (hc:Cv W (g4+1) 0 (.slice X nx cx)) (hb:Bs W X bx)=>vR W (g4+1) X nx cx bx hc hb k2 k3 0 4 0 4 rfl rfl (by omega) (by omega) (by omega) (by omega) _ rfl
    unfold Bc at LD;generalize iW ((bx.drop 0).take 4)=q1 at *;generalize uQ (bx.drop 4)=y at *;generalize wN (bx.drop 4)=ye at *;obtain⟨mb,k⟩:=ex (qg ⟨t,0,q1,0,y⟩)
    rw[k]at f;have VA:∀W A5 c5 B5 d5,eU W (ig y.o y.s y.a y.ov A5 y.adj.length c5 B5 y.pre.length d5) y→Calls prog 116 #[.agg #[t,i0,q1,i0,y.o,y.s,y.a,y.ov,.slice A5 y.adj.length c5,.slice B5 y.pre.length d5]] W fun e w'=>e= .returned (.bool mb)∧cI W w':=fun W A5 c5 B5 d5 h=>by
     have:=rn W _ ⟨t,0,q1,0,y⟩ ⟨A5,c5,B5,d5,rfl,h⟩;rw[k]at this;exact this
    change Hid _ at f m;replace CK:=φ CK;replace LD:=φ LD;replace U1:=φ U1;replace VA:=φ VA;have tt:((t==2)=true∧(t==3)=false)∨((t==2)=false∧(t==3)=true):=by rcases ht2 with rfl|rfl<;>simp
    have t1:(t==1)=false:=by simpa using ht1
    clear h4 hE hV T0 G H hc Y k hR ht1 ht2;rcases tt with ⟨t2,t3⟩|⟨t2,t3⟩
    all_goals
     have v0:=T.c 0 0 rfl rfl;obtain⟨a0,a1,a2,a3,a4,a5,a6,a7,a8,a9⟩:=(T.box 1 rfl).iM;obtain⟨e0,e1,e2,e3,e4,e5,e6,e7,e8,e9⟩:=(T.box 1 rfl).f10;go_wp2_with fail;refine (CK _ i).mono ?_;rintro e w4 ⟨rfl,rfl⟩;go_wp2_with fail;refine (U1 _ v0 i).mono ?_;rintro e w4 ⟨rfl,rfl⟩;have p:=x.out _ i 2 (.int .i64 (q1:Int));have T2:=T.s 1 2 (.int .i64 (q1:Int));go_upto_region 21 with fail;clear a0 e0 e1 e2 e3 e4 e5 e6 e7 e8 e9 v0 i U1 CK T;generalize World.setCell _ _ _=w4 at *;have v0:=T2.c 0 0 rfl rfl;go_wp2_with fail;refine (LD _ p).mono ?_;rintro e w5 ⟨v5,rfl,g,hb⟩;clear LD v0 p;have J:=T2.lt 1 rfl (by simp);replace T2:=T2.call hb;have ag:=hb.size;clear hb;obtain⟨A5,c5,B5,d5,rfl,o1,o2,hu⟩:=g;obtain⟨a0,a1,a2,a3,a4,a5,a6,a7,a8,a9⟩:=(T2.box 1 rfl).iM;obtain⟨e0,e1,e2,e3,e4,e5,e6,e7,e8,e9⟩:=(T2.box 1 rfl).f10;have T3:=(((((T2.s 1 4 (.int .i64 y.o)).s 1 5 (.int .i64 y.s)).s 1 6 (.int .i64 y.a)).s 1 7 (.bool y.ov)).s 1 8 (.slice A5 y.adj.length c5)).s 1 9 (.slice B5 y.pre.length d5);have p1:=FF o1 J (.int .i64 y.o) (.int .i64 y.s) (.int .i64 y.a) (.bool y.ov) (.slice A5 y.adj.length c5) (.slice B5 y.pre.length d5);have p2:=FF o2 J (.int .i64 y.o) (.int .i64 y.s) (.int .i64 y.a) (.bool y.ov) (.slice A5 y.adj.length c5) (.slice B5 y.pre.length d5);go_upto_region 22 with fail;clear a0 e0 e1 e2 e3 e4 e5 e6 e7 e8 e9 o1 o2 T2;generalize World.setCell _ _ _=w6 at *;have q:fh w6 w4 (ig y.o y.s y.a y.ov A5 y.adj.length c5 B5 y.pre.length d5) y:=⟨A5,c5,B5,d5,rfl,p1,p2,hu⟩
     have Q:=q.at;clear p1 p2 hu;obtain⟨a0,a1,a2,a3,a4,a5,a6,a7,a8,a9⟩:=(T3.box 1 rfl).iM;go_wp2_with fail;refine (VA _ A5 c5 B5 d5 Q).mono ?_;rintro e w7 ⟨rfl,hb⟩;clear a0;have T:=T3.call hb;replace q:=q.below hb;clear T3 hb VA Q;cases mb with
     |false=>
       obtain rfl:E=4:=f.out.symm;obtain rfl:V=mS:=m.out.symm;clear q;have r0:=(T.box 2 rfl).iM;obtain⟨f0,f1,f2,f3,f4,f5,f6,f7,f8,f9⟩:=(T.box 2 rfl).f10;have S9:=(T.dX [(w,Kj)] (by simp)).yP i0 i0 i0 i0 i0 i0 i0 (.bool false) sn sn cj (by simp);go_wp2;exact dc (v:=.tuple #[.agg #[i0,i0,i0,i0,i0,i0,i0,false,sn,sn],.int .i64 4]) (by simp[results,results65,go_sem,r0]) rfl (d _ _ S9.b)
     |true=>
       obtain rfl:E=0:=f.out.symm;have aa:=m.out.symm;rw[cR rfl]at aa;subst aa;have D:∀u0 u1 u2 u3 u4 u5 u6 u7 u8 u9,fh ((((((((((w7.setCell ⟨w,0,none⟩ u0).setCell ⟨w,1,none⟩ u1).setCell ⟨w,2,none⟩ u2).setCell ⟨w,3,none⟩ u3).setCell ⟨w,4,none⟩ u4).setCell ⟨w,5,none⟩ u5).setCell ⟨w,6,none⟩ u6).setCell ⟨w,7,none⟩ u7).setCell ⟨w,8,none⟩ u8).setCell ⟨w,9,none⟩ u9) w4 (ig y.o y.s y.a y.ov A5 y.adj.length c5 B5 y.pre.length d5) y:=by
        intro u0 u1 u2 u3 u4 u5 u6 u7 u8 u9;obtain⟨A9,c9,B9,d9,e9,o1,o2,hu⟩:=q;exact⟨A9,c9,B9,d9,e9,FG o1 (by omega) _ _ _ _ _ _ _ _ _ _,FG o2 (by omega) _ _ _ _ _ _ _ _ _ _,hu⟩
       replace D:=φ D;clear q;obtain⟨a0,a1,a2,a3,a4,a5,a6,a7,a8,a9⟩:=(T.box 1 rfl).iM;have r0:=(T.box 2 rfl).iM;obtain⟨f0,f1,f2,f3,f4,f5,f6,f7,f8,f9⟩:=(T.box 2 rfl).f10;have af:=T.b.size;have S9:=(T.dX [(w,Kj)] (by simp)).yP (.int .i64 t) i0 (.int .i64 q1) i0 (.int .i64 y.o) (.int .i64 y.s) (.int .i64 y.a) (.bool y.ov) (.slice A5 y.adj.length c5) (.slice B5 y.pre.length d5) cj (by simp);go_wp2;exact dc (v:=.tuple #[Ih ⟨t,0,q1,0,y⟩ A5 c5 B5 d5,i0]) (by simp[results,results65,go_sem,r0]) rfl ⟨_,rfl,⟨A5,c5,B5,d5,rfl,(D _ _ _ _ _ _ _ _ _ _).mono (by omega)⟩,S9.b⟩
 ·have N:E=4:=by
   rw[←hE.out];unfold qq;rw[cN ht1,cN ht2]
  obtain rfl:=N;obtain rfl:V=mS:=by rw[←hV.out,hE.out,cN (by omega)]
  have k:qg ⟨t,0,0,0,dT⟩=false:=by simp[qg,jI]
  have VA:∀W,Calls prog 116 #[.agg #[t,i0,i0,i0,i0,i0,i0,false,sn,sn]] W fun e w'=>e= .returned (.bool false)∧cI W w':=fun W=>by
   have:=rn W _ ⟨t,0,0,0,dT⟩ ⟨none,0,none,0,rfl,(fQ W W).at⟩;rw[k]at this;exact this
  have t1:(t==1)=false:=by simpa using ht1
  have t2:(t==2)=false:=by simp;omega
  have t3:(t==3)=false:=by simp;omega
  clear hE hV i T0 ht1 ht2 k;replace VA:=φ VA;have a0:=(T.box 1 rfl).iM;go_wp2_with fail;refine (VA _).mono ?_;rintro e w4 ⟨rfl,hb⟩;clear a0;replace T:=T.call hb;clear hb;have r0:=(T.box 2 rfl).iM;have f0:=(T.box 2 rfl).f10;have S9:=(T.dX [(w,Kj)] (by simp)).yP i0 i0 i0 i0 i0 i0 i0 (.bool false) sn sn cj (by simp);go_wp2;exact dc (v:=.tuple #[.agg #[i0,i0,i0,i0,i0,i0,i0,false,sn,sn],.int .i64 4]) (by simp[results,results65,go_sem,r0]) rfl (d _ _ S9.b)
def Ko(w:World)(h1 h2 h3:Int):Calls prog 29 #[.agg #[h1,h2,h3]] w fun e w'=>e= .returned (.bool (MC h1 h2 h3))∧cI w w':=by
 have S:=(St.start w).nw #[h1,h2,h3] 27 w;have hb9:=S.b;have c0:=(S.box 0 rfl).b3;go_in;go_wp2_with fail
 all_goals
  go_ret;exact⟨fg (ga.2 (by simp[MC,jI]<;>omega)),hb9⟩
section
variable {H:Type} {enc:TypeId × Value → H} {w:World} {base:Nat} {spare:Nat → Bool} {held:Bool} {r:Reach} {b0:Nat} {v:Value} {d:DataW H} {ps:List MemPlace}
def WH(hv:Value.okWide prog w r b0 27 v)(h:DataW.Trod enc prog w base spare held 27 v d ps):∃h1 h2 h3:Int,v= .agg #[h1,h2,h3]:=by
 have OI:fH prog w 3 _:=iL (w:=w) underlying3 (by kernel_rfl);have O:fH prog w 27 _:=qe (w:=w) underlying27 rfl rfl rfl (by kernel_rfl) (by kernel_rfl) (by kernel_rfl) (by kernel_rfl) OI OI OI;obtain⟨cs,x,rfl,v0,v1,v2,rfl,⟨e0,_⟩,⟨e1,_⟩,⟨e2,_⟩⟩:=AH underlying27 O hv h;simp only[dJ,fv]at e0 e1 e2;subst e0 e1 e2;exact⟨_,_,_,rfl⟩
end
end Go.Proofs.YtehimhbgakpenaaGreat
