/- Lemmas. -/
import Derived.Test.YtehimhbgakpenaaGreatO
set_option linter.all false
set_option maxRecDepth 100000
set_option maxHeartbeats 16000000
namespace Go.Proofs.YtehimhbgakpenaaGreat
open Go.RowKit Go.Sort Go.Proofs.Tryz
structure BY where
 b:Nat
 g:Nat
section
variable [Inhabited BY]
def lF:Nat:=(default:BY).b
def Row(w:World)(A:cG)(n:Nat)(T:TypeId):Prop:=0<n→ ∀ad,A=some ad→Ty w ad.block T∨ad.block<lF
variable {w w':World} {A:cG} {n:Nat} {T:TypeId}
def Ty.below{k:Nat}(h:Ty w k T)(hb:cI w w'):Ty w' k T:=by
 obtain⟨cur,fr,e⟩:=h;exact⟨cur,fr,(hb.block k (df.1 e).1).trans e⟩
def Row.below(h:Row w A n T)(hb:cI w w'):Row w' A n T:=fun hn ad ha=>(h hn ad ha).imp (fun t=>t.below hb) id
def Row.nil(w:World)(T:TypeId):Row w none n T:=fun _ _ h=>nomatch h
def Row.own{base size cap:Nat}{xs:cH}(h:w.ownsRow base T size (.slice A n cap) n xs):Row w A n T:=fun hn ad ha=>by
 rcases h.2 with ⟨e,_⟩|⟨g,a,cur,e,_,hh,_⟩
 ·injection e with e;rw[e]at ha;cases ha
 ·injection e with e
  rw[e]at ha;injection ha with ha
  subst ha;exact .inl ⟨_,_,hh⟩
end
namespace Ro
variable [Inhabited BY]
def eU(w:World)(v:Value)(x:La):Prop:=∃A c B d,v=ig x.o x.s x.a x.ov A x.adj.length c B x.pre.length d∧Go.Proofs.YtehimhbgakpenaaGreat.eU w (ig x.o x.s x.a x.ov A x.adj.length c B x.pre.length d) x∧
 Row w A x.adj.length 169∧Row w B x.pre.length 181
variable {w w':World} {v:Value} {x:La}
def eU.at(h:eU w v x):Go.Proofs.YtehimhbgakpenaaGreat.eU w v x:=by
 obtain⟨A,c,B,d,rfl,h,_⟩:=h;exact h
def eU.below(h:eU w v x)(hb:cI w w'):eU w' v x:=by
 obtain⟨A,c,B,d,rfl,h,h1,h2⟩:=h;exact⟨A,c,B,d,rfl,Go.Proofs.YtehimhbgakpenaaGreat.eU.below h hb,h1.below hb,h2.below hb⟩
def eU.ok(h:eU w v x):∀p∈x.pre,p.1<4294967296:=Go.Proofs.YtehimhbgakpenaaGreat.eU.ok h.at
def eU.form(h:eU w v x):∃A c B d,v=ig x.o x.s x.a x.ov A x.adj.length c B x.pre.length d:=by
 obtain⟨A,c,B,d,hv,_⟩:=h;exact⟨A,c,B,d,hv⟩
def eU.mK{o s a:Int}{ov:Bool}{A:cG}{n c:Nat}{B:cG}{m d:Nat}(h:eU w (ig o s a ov A n c B m d) x)(o' s' a':Int)(b:Bool) :
  eU w (ig o' s' a' b A n c B m d) ⟨o',s',a',b,x.adj,x.pre⟩:=by
 obtain⟨A9,c9,B9,d9,e9,h,h1,h2⟩:=h;simp only[ig,eE,eS,dJ,dp,fv]at e9;obtain⟨_,_,_,_,⟨rfl,rfl,rfl⟩,rfl,rfl,rfl⟩:=e9;exact⟨_,_,_,_,rfl,Go.Proofs.YtehimhbgakpenaaGreat.eU.mK h o' s' a' b,h1,h2⟩
def lN(w:World)(v:Value)(x:La)(h:eU w v x):Calls prog 51 #[v] w fun e w'=>e= .returned (.bool (vB x))∧cI w w':=Go.Proofs.YtehimhbgakpenaaGreat.lN w v x h.at
def oD(w:World)(v u:Value)(x y:La)(hx:eU w v x)(hy:eU w u y):Calls prog 108 #[v,u] w fun e w'=>e= .returned (.bool (pL x y))∧cI w w':=Go.Proofs.YtehimhbgakpenaaGreat.oD w v u x y hx.at hy.at
def kF(w:World)(v u:Value)(x y:La)(hx:eU w v x)(hy:eU w u y):Calls prog 154 #[v,u] w fun e w'=>e= .returned (.int .i64 (kO x y))∧cI w w':=Go.Proofs.YtehimhbgakpenaaGreat.kF w v u x y hx.at hy.at
end Ro
end Go.Proofs.YtehimhbgakpenaaGreat
namespace Go.Proofs.YtehimhbgakpenaaGreat.Ro
open Go.Proofs.Tryz
variable [Inhabited BY]
open Go.RowKit Go.Sort
structure RO where
 node:Int
 floor:Int
 is:Bool
 now:La
 since:Int
abbrev sk(r:RO)(A:cG)(c:Nat)(B:cG)(d:Nat):Value :=
 .agg #[r.node,r.floor,r.is,r.now.o,r.now.s,r.now.a,r.now.ov,.slice A r.now.adj.length c,.slice B r.now.pre.length d,r.since]
def nO(w:World)(v:Value)(r:RO):Prop:=∃A c B d,v=sk r A c B d∧eU w (ig r.now.o r.now.s r.now.a r.now.ov A r.now.adj.length c B r.now.pre.length d) r.now
def tN(w:World)(node seq o s a:Int)(ov:Bool)(A:cG)(n c:Nat)(B:cG)(m d:Nat) :
  Calls prog 132 #[node,seq,ig o s a ov A n c B m d] w fun e w'=>e= .returned (ig node seq 0 ov A n c B m d)∧cI w w':=by
 have S:=((St.start w).nw #[o,s,a,ov,.slice A n c,.slice B m d] 41 w).nw #[node,seq,i0,ov,.slice A n c,.slice B m d] 41 (w.heap.size+1);have a0:=(S.box 1 rfl).b6;have r0:=(S.box 0 rfl).b6;have hb:=S.b;go_in;go_wp2;exact dc (v:=ig node seq 0 ov A n c B m d) (by simp[results,results132,go_sem,r0]) rfl ⟨rfl,hb⟩
def _root_.Go.Proofs.YtehimhbgakpenaaGreat.St.tail{W w:World}{b:Nat× cH}{bs:List (Nat× cH)}{rs:List (cG× cH)}(S:St W w (b :: bs) rs):St W w bs rs:=S.dX bs fun x hx=>fy _ hx
def _root_.Go.Proofs.YtehimhbgakpenaaGreat.St.iD{W w:World}{g:Nat}{bs:List (Nat× cH)}{rs:List (cG× cH)}{a0 a1 a2 a3 a4 a5 a6 a7 a8 a9:Value}(S:St W w ((g,[a0,a1,a2,a3,a4,a5,a6,a7,a8,a9]) :: bs) rs)(b0 b1 b2 b3 b4 b5 b6 b7 b8 b9:Value)(hg:W≤g)(hd:∀x∈bs,x.1≠g) :
  St W ((((((((((w.setCell ⟨g,0,none⟩ b0).setCell ⟨g,1,none⟩ b1).setCell ⟨g,2,none⟩ b2).setCell ⟨g,3,none⟩ b3).setCell ⟨g,4,none⟩ b4).setCell ⟨g,5,none⟩ b5).setCell ⟨g,6,none⟩ b6).setCell ⟨g,7,none⟩ b7).setCell ⟨g,8,none⟩ b8).setCell ⟨g,9,none⟩ b9) ((g,[b0,b1,b2,b3,b4,b5,b6,b7,b8,b9]) :: bs) rs :=
 (((((((((S.set 0 0 b0 rfl (by simp) hg hd _ rfl).set 0 1 b1 rfl (by simp) hg hd _ rfl).set 0 2 b2 rfl (by simp) hg hd _ rfl).set 0 3 b3 rfl (by simp) hg hd _ rfl).set 0 4 b4 rfl (by simp) hg hd _ rfl).set 0 5 b5 rfl (by simp) hg hd _ rfl).set 0 6 b6 rfl (by simp) hg hd _ rfl).set 0 7 b7 rfl (by simp) hg hd _ rfl).set 0 8 b8 rfl (by simp) hg hd _ rfl).set 0 9 b9 rfl (by simp) hg hd _ rfl
def oY(w:World)(node floor:Int)(is:Bool)(o s a:Int)(ov:Bool)(A:cG)(n c:Nat)(B:cG)(m d:Nat)(since:Int)
  (o' s' a':Int) (f:Bool) (A':cG) (n' c':Nat) (B':cG) (m' d':Nat) (h:0≤floor) (g:floor<1073741824) :
  Calls prog 133 #[.agg #[.int .i64 node,floor,is,o,s,a,ov,.slice A n c,.slice B m d,since],ig o' s' a' f A' n' c' B' m' d'] w fun e w'=>
   e= .returned (.tuple #[.agg #[.int .i64 node,.int .i64 (floor+1),true,node,.int .i64 (floor+1),.int .i64 0,f,.slice A' n' c',.slice B' m' d',.int .i64 0],true])∧cI w w':=by
 have S:=(((St.start w).nw #[.int .i64 node,.int .i64 (floor+1),is,o,s,a,ov,.slice A n c,.slice B m d,since] 63 w).nw #[.int .i64 o',s',a',f,.slice A' n' c',.slice B' m' d'] 41 (w.heap.size+1)).nw #[i0,i0,false,i0,i0,i0,false,sn,sn,i0] 63 (w.heap.size+2);go_in;go_wp2_with fail;refine (tN _ _ _ _ _ _ _ _ _ _ _ _ _).mono ?_;rintro e w1 ⟨rfl,hb⟩;replace S:=S.call hb;clear hb;obtain⟨p0,p1,p2,p3,p4,p5,p6,p7,p8,p9⟩:=(S.box 2 rfl).iM;obtain⟨f0,f1,f2,f3,f4,f5,f6,f7,f8,f9⟩:=(S.box 2 rfl).f10;have S2:=(((((((S.s 2 2 (.bool true)).s 2 3 (.int .i64 node)).s 2 4 (.int .i64 (floor+1))).s 2 5 i0).s 2 6 (.bool f)).s 2 7 (.slice A' n' c')).s 2 8 (.slice B' m' d')).s 2 9 i0;go_upto_region 5 with fail;clear p0 f0 S;generalize World.setCell (World.setCell (World.setCell (World.setCell (World.setCell (World.setCell (World.setCell (World.setCell w1 _ _) _ _) _ _) _ _) _ _) _ _) _ _) _ _=w2 at *;have p0:=(S2.box 2 rfl).iM;have r0:=(S2.box 0 rfl).iM;have f0:=(S2.box 0 rfl).f10;have hb:=(S2.iD (.int .i64 node) (.int .i64 (floor+1)) (.bool true) (.int .i64 node) (.int .i64 (floor+1)) i0 (.bool f) (.slice A' n' c') (.slice B' m' d') i0 (by omega) (by simp)).b;clear S2;go_wp2;exact dc (v:=.tuple #[.agg #[.int .i64 node,.int .i64 (floor+1),true,node,.int .i64 (floor+1),i0,f,.slice A' n' c',.slice B' m' d',i0],true]) (by simp[results,results133,go_sem,r0]) rfl ⟨rfl,hb⟩
def qC(w:World)(node floor:Int)(is:Bool)(o s a:Int)(ov:Bool)(A:cG)(n c:Nat)(B:cG)(m d:Nat)(since:Int)
  (o' s' a':Int) (f:Bool) (A':cG) (n' c':Nat) (B':cG) (m' d':Nat) (g:1073741824≤floor) :
  Calls prog 133 #[.agg #[node,floor,is,o,s,a,ov,.slice A n c,.slice B m d,since],ig o' s' a' f A' n' c' B' m' d'] w fun e w'=>
   e= .returned (.tuple #[.agg #[node,floor,is,o,s,a,ov,.slice A n c,.slice B m d,since],false])∧cI w w':=by
 have S:=(((St.start w).nw #[node,floor,is,o,s,a,ov,.slice A n c,.slice B m d,since] 63 w).nw #[o',s',a',f,.slice A' n' c',.slice B' m' d'] 41 (w.heap.size+1)).nw #[node,floor,is,o,s,a,ov,.slice A n c,.slice B m d,since] 63 (w.heap.size+2);have r0:=(S.box 0 rfl).iM;have hb:=S.b;clear S;go_in;go_wp2;exact dc (v:=.tuple #[.agg #[node,floor,is,o,s,a,ov,.slice A n c,.slice B m d,since],false]) (by simp[results,results133,go_sem,r0]) rfl ⟨rfl,hb⟩
def WA(r:RO):La:=if r.is=true then { r.now with a:=r.since }else r.now
def DI(w:World)(v:Value)(r:RO)(h:nO w v r) :
  Calls prog 134 #[v] w fun e w'=>∃v',e= .returned v'∧eU w' v' (WA r)∧cI w w':=by
 obtain⟨A,c,B,d,rfl,hl⟩:=h;obtain⟨node,floor,is,now,since⟩:=r;simp only at hl;cases is with
 |true=>
   have S:=(((St.start w).nw #[node,floor,true,now.o,now.s,now.a,now.ov,.slice A now.adj.length c,.slice B now.pre.length d,since] 63 w).nw #[now.o,now.s,since,now.ov,.slice A now.adj.length c,.slice B now.pre.length d] 41 (w.heap.size+1)).nw #[now.o,now.s,since,now.ov,.slice A now.adj.length c,.slice B now.pre.length d] 41 (w.heap.size+2);have r0:=(S.box 1 rfl).b6;have hb:=S.b;have f:=(hl.below hb).mK now.o now.s since now.ov;clear S hl;go_in;go_wp2;exact dc (v:=ig now.o now.s since now.ov A now.adj.length c B now.pre.length d) (by simp[results,results134,go_sem,r0]) rfl ⟨_,rfl,f,hb⟩
 |false=>
   have S:=(((St.start w).nw #[node,floor,false,now.o,now.s,now.a,now.ov,.slice A now.adj.length c,.slice B now.pre.length d,since] 63 w).nw #[now.o,now.s,now.a,now.ov,.slice A now.adj.length c,.slice B now.pre.length d] 41 (w.heap.size+1)).nw #[now.o,now.s,now.a,now.ov,.slice A now.adj.length c,.slice B now.pre.length d] 41 (w.heap.size+2);have r0:=(S.box 1 rfl).b6;have hb:=S.b;have f:=hl.below hb;clear S hl;go_in;go_wp2;exact dc (v:=ig now.o now.s now.a now.ov A now.adj.length c B now.pre.length d) (by simp[results,results134,go_sem,r0]) rfl ⟨_,rfl,f,hb⟩
structure RR where
 r:RO
 made:Bool
 err:Int
noncomputable def Cm(r:RO)(y:La):RR :=
 if vB (num r.node 1 0 y)=true then if r.is=true∧pL r.now y=true then⟨r,false,0⟩else if 1073741824≤r.floor then⟨r,false,6⟩else⟨⟨r.node,r.floor+1,true,num r.node (r.floor+1) 0 y,0⟩,true,0⟩else⟨r,false,1⟩
noncomputable def mN(r:RO)(a:La):RR :=
 if vB a=true∧a.o=r.node then if r.is=true then if kO a r.now≤0 then⟨r,false,0⟩else if 1073741824≤a.s then⟨r,false,6⟩else⟨⟨r.node,a.s+1,true,num r.node (a.s+1) 0 r.now,0⟩,true,0⟩else⟨{ r with floor:=max r.floor a.s },false,0⟩else⟨r,false,1⟩
def AV(W w:World)(z:RR)(e:Ending)(w':World):Prop:=∃v,e= .returned (.tuple #[v,z.made,z.err])∧nO W v z.r∧cI w w'
def NT(W0 w:World)(n:cI W0 w)(v u:Value)(r:RO)(y:La)(h:nO W0 v r)(hy:eU W0 u y)(k:0≤r.floor) :
  Calls prog 79 #[v,u] w (AV W0 w (Cm r y)):=by
 obtain⟨A,c,B,d,rfl,hl⟩:=h;obtain⟨A',c',B',d',rfl⟩:=hy.form;obtain⟨node,floor,is,now,since⟩:=r;simp only at hl k ⊢;have m:=hl;have l:=hy;replace hl:=hl.below n;replace hy:=hy.below n;have S:=(((St.start w).nw #[.int .i64 node,floor,is,now.o,now.s,now.a,now.ov,.slice A now.adj.length c,.slice B now.pre.length d,since] 63 w).nw #[y.o,y.s,y.a,y.ov,.slice A' y.adj.length c',.slice B' y.pre.length d'] 41 (w.heap.size+1)).nw #[i0,i0,false,i0,i0,i0,false,sn,sn,i0] 63 (w.heap.size+2);obtain⟨z,hz⟩:=ex (Cm ⟨node,floor,is,now,since⟩ y)
 rw[hz];unfold Cm at hz;have V:=fun W (hb:cI w W)=>lN W _ (num node 1 0 y) ((hy.below hb).mK node 1 0 y.ov)
 have C:=fun W (hb:cI w W)=>oD W _ _ now y (hl.below hb) (hy.below hb)
 have f:Hid (nO W0 (sk ⟨node,floor,is,now,since⟩ A c B d) ⟨node,floor,is,now,since⟩):=⟨A,c,B,d,rfl,m⟩
 have g:Hid (nO W0 (sk ⟨node,floor+1,true,num node (floor+1) 0 y,0⟩ A' c' B' d') ⟨node,floor+1,true,num node (floor+1) 0 y,0⟩):=⟨A',c',B',d',rfl,l.mK node (floor+1) 0 y.ov⟩
 generalize vB (num node 1 0 y)=vb at *;generalize pL now y=cb at *;replace V:=φ V;replace C:=φ C;replace hz:=φ hz;clear hl hy m l;go_in;go_wp2_with fail;refine (tN _ _ _ _ _ _ _ _ _ _ _ _ _).mono ?_;rintro e w1 ⟨rfl,hb⟩;replace S:=S.call hb;clear hb;go_wp2_with fail;refine (V _ S.b).mono ?_;rintro e w2 ⟨rfl,hb⟩;clear V;replace S:=S.call hb;clear hb;obtain⟨p0,p1,p2,p3,p4,p5,p6,p7,p8,p9⟩:=(S.box 2 rfl).iM;have r0:=(S.box 0 rfl).iM;obtain⟨f0,f1,f2,f3,f4,f5,f6,f7,f8,f9⟩:=(S.box 0 rfl).f10;have hb9:=(S.iD (.int .i64 node) (.int .i64 floor) (.bool is) (.int .i64 now.o) (.int .i64 now.s) (.int .i64 now.a) (.bool now.ov) (.slice A now.adj.length c) (.slice B now.pre.length d) (.int .i64 since) (by omega) (by simp)).b;cases vb with
 |false=>
   obtain rfl:⟨⟨node,floor,is,now,since⟩,false,1⟩=z:=by rw[←hz.out,cN (by simp)]
   go_wp2;exact dc (v:=.tuple #[sk ⟨node,floor,is,now,since⟩ A c B d,false,.int .i64 1]) (by simp[results,results79,go_sem,r0]) rfl ⟨_,rfl,f,hb9⟩
 |true=>
 have i:=hz.out;rw[cR (by simp)]at i;replace hz:=φ i;clear i;cases is with
 |true=>
   obtain⟨q0,q1,q2,q3,q4,q5⟩:=(S.box 1 rfl).b6;go_wp2_with fail;refine (C _ S.b).mono ?_;rintro e w4 ⟨rfl,hb⟩;clear p0 r0 f0 q0 hb9 C;replace S:=S.call hb;clear hb;obtain⟨p0,p1,p2,p3,p4,p5,p6,p7,p8,p9⟩:=(S.box 2 rfl).iM;have r0:=(S.box 0 rfl).iM;obtain⟨f0,f1,f2,f3,f4,f5,f6,f7,f8,f9⟩:=(S.box 0 rfl).f10;cases cb with
   |true=>
     obtain rfl:⟨⟨node,floor,true,now,since⟩,false,0⟩=z:=by rw[←hz.out,cR (by simp)]
     have hb9:=(S.iD (.int .i64 node) (.int .i64 floor) (.bool true) (.int .i64 now.o) (.int .i64 now.s) (.int .i64 now.a) (.bool now.ov) (.slice A now.adj.length c) (.slice B now.pre.length d) (.int .i64 since) (by omega) (by simp)).b;go_wp2;exact dc (v:=.tuple #[sk ⟨node,floor,true,now,since⟩ A c B d,false,i0]) (by simp[results,results79,go_sem,r0]) rfl ⟨_,rfl,f,hb9⟩
   |false=>
     by_cases hf:1073741824≤floor
     ·obtain rfl:⟨⟨node,floor,true,now,since⟩,false,6⟩=z:=by rw[←hz.out,cN (by simp),cR hf]
      obtain⟨q0,q1,q2,q3,q4,q5⟩:=(S.box 1 rfl).b6;go_wp2_with fail;refine (qC _ _ _ _ _ _ _ _ _ _ _ _ _ _ _ _ _ _ _ _ _ _ _ _ _ hf).mono ?_;rintro e w5 ⟨rfl,hb⟩;clear p0 r0 f0 q0;replace S:=S.call hb;clear hb;have j:=S.lt 0 rfl (by simp);have S2:=S.call (cQ w5 (.cells #[.int .i64 node,floor,true,now.o,now.s,now.a,now.ov,.slice A now.adj.length c,.slice B now.pre.length d,since] 63));go_upto_region 6 with fail;clear S;generalize w5.alloc _=w6 at *;have hb9:=(S2.iD (.int .i64 node) (.int .i64 floor) (.bool true) (.int .i64 now.o) (.int .i64 now.s) (.int .i64 now.a) (.bool now.ov) (.slice A now.adj.length c) (.slice B now.pre.length d) (.int .i64 since) (by omega) (by simp)).b;obtain⟨p0,p1,p2,p3,p4,p5,p6,p7,p8,p9⟩:=(S2.box 2 rfl).iM;have r0:=(S2.box 0 rfl).iM;obtain⟨f0,f1,f2,f3,f4,f5,f6,f7,f8,f9⟩:=(S2.box 0 rfl).f10;clear S2;go_wp2;exact dc (v:=.tuple #[sk ⟨node,floor,true,now,since⟩ A c B d,false,.int .i64 6]) (by simp[results,results79,go_sem,r0]) rfl ⟨_,rfl,f,hb9⟩
     ·obtain rfl:⟨⟨node,floor+1,true,num node (floor+1) 0 y,0⟩,true,0⟩=z:=by rw[←hz.out,cN (by simp),cN hf]
      obtain⟨q0,q1,q2,q3,q4,q5⟩:=(S.box 1 rfl).b6;go_wp2_with fail;refine (oY _ _ _ _ _ _ _ _ _ _ _ _ _ _ _ _ _ _ _ _ _ _ _ _ _ k (by omega)).mono ?_;rintro e w5 ⟨rfl,hb⟩;clear p0 r0 f0 q0;replace S:=S.call hb;clear hb;have j:=S.lt 0 rfl (by simp);have S2:=S.nw #[.int .i64 node,.int .i64 (floor+1),true,node,.int .i64 (floor+1),i0,y.ov,.slice A' y.adj.length c',.slice B' y.pre.length d',i0] 63 w5;go_upto_region 6 with fail;clear S;generalize w5.alloc _=w6 at *;have S3:=S2.tail;have hb9:=(S3.iD (.int .i64 node) (.int .i64 (floor+1)) (.bool true) (.int .i64 node) (.int .i64 (floor+1)) i0 (.bool y.ov) (.slice A' y.adj.length c') (.slice B' y.pre.length d') i0 (by omega) (by simp)).b;obtain⟨p0,p1,p2,p3,p4,p5,p6,p7,p8,p9⟩:=(S2.box 0 rfl).iM;have r0:=(S2.box 1 rfl).iM;obtain⟨f0,f1,f2,f3,f4,f5,f6,f7,f8,f9⟩:=(S2.box 1 rfl).f10;clear S2;go_wp2;exact dc (v:=.tuple #[sk ⟨node,floor+1,true,num node (floor+1) 0 y,0⟩ A' c' B' d',true,i0]) (by simp[results,results79,go_sem,num,r0]) rfl ⟨_,rfl,g,hb9⟩
 |false=>
   clear hb9 C
   by_cases hf:1073741824≤floor
   ·obtain rfl:⟨⟨node,floor,false,now,since⟩,false,6⟩=z:=by rw[←hz.out,cN (by simp),cR hf]
    obtain⟨q0,q1,q2,q3,q4,q5⟩:=(S.box 1 rfl).b6;go_wp2_with fail;refine (qC _ _ _ _ _ _ _ _ _ _ _ _ _ _ _ _ _ _ _ _ _ _ _ _ _ hf).mono ?_;rintro e w5 ⟨rfl,hb⟩;clear p0 r0 f0 q0;replace S:=S.call hb;clear hb;have j:=S.lt 0 rfl (by simp);have S2:=S.call (cQ w5 (.cells #[.int .i64 node,floor,false,now.o,now.s,now.a,now.ov,.slice A now.adj.length c,.slice B now.pre.length d,since] 63));go_upto_region 6 with fail;clear S;generalize w5.alloc _=w6 at *;have hb9:=(S2.iD (.int .i64 node) (.int .i64 floor) (.bool false) (.int .i64 now.o) (.int .i64 now.s) (.int .i64 now.a) (.bool now.ov) (.slice A now.adj.length c) (.slice B now.pre.length d) (.int .i64 since) (by omega) (by simp)).b;obtain⟨p0,p1,p2,p3,p4,p5,p6,p7,p8,p9⟩:=(S2.box 2 rfl).iM;have r0:=(S2.box 0 rfl).iM;obtain⟨f0,f1,f2,f3,f4,f5,f6,f7,f8,f9⟩:=(S2.box 0 rfl).f10;clear S2;go_wp2;exact dc (v:=.tuple #[sk ⟨node,floor,false,now,since⟩ A c B d,false,.int .i64 6]) (by simp[results,results79,go_sem,r0]) rfl ⟨_,rfl,f,hb9⟩
   ·obtain rfl:⟨⟨node,floor+1,true,num node (floor+1) 0 y,0⟩,true,0⟩=z:=by rw[←hz.out,cN (by simp),cN hf]
    have q0:=(S.box 1 rfl).b6;go_wp2_with fail;refine (oY _ _ _ _ _ _ _ _ _ _ _ _ _ _ _ _ _ _ _ _ _ _ _ _ _ k (by omega)).mono ?_;rintro e w5 ⟨rfl,hb⟩;clear p0 r0 f0 q0;replace S:=S.call hb;clear hb;have j:=S.lt 0 rfl (by simp);have S2:=S.nw #[.int .i64 node,.int .i64 (floor+1),true,node,.int .i64 (floor+1),i0,y.ov,.slice A' y.adj.length c',.slice B' y.pre.length d',i0] 63 w5;go_upto_region 6 with fail;clear S;generalize w5.alloc _=w6 at *;have S3:=S2.tail;have hb9:=(S3.iD (.int .i64 node) (.int .i64 (floor+1)) (.bool true) (.int .i64 node) (.int .i64 (floor+1)) i0 (.bool y.ov) (.slice A' y.adj.length c') (.slice B' y.pre.length d') i0 (by omega) (by simp)).b;have p0:=(S2.box 0 rfl).iM;have r0:=(S2.box 1 rfl).iM;have f0:=(S2.box 1 rfl).f10;clear S2;go_wp2;exact dc (v:=.tuple #[sk ⟨node,floor+1,true,num node (floor+1) 0 y,0⟩ A' c' B' d',true,i0]) (by simp[results,results79,go_sem,num,r0]) rfl ⟨_,rfl,g,hb9⟩
def rM(z:Int):Int:=if z+1≤3599 then z+1 else 3599
def jK(r:RO):RO:=if 1800≤rM r.since∧r.floor<1073741824 then⟨r.node,r.floor+1,true,num r.node (r.floor+1) 0 r.now,0⟩else { r with since:=rM r.since }
def pU(r:RO):Bool:=decide (1800≤rM r.since)&&decide (r.floor<1073741824)
def gQ(r:RO):Nat→RO
 |0=>r
 |k+1=>jK (gQ r k)
def uR(r:RO):Nat→Bool
 |0=>false
 |k+1=>uR r k||pU (gQ r k)
def PC{r:RO}(h:r.is=true):∀k,(gQ r k).is=true:=by
 intro k
 induction k with
 |zero=>exact h
 |succ k ih=>show(jK (gQ r k)).is=true;unfold jK;split<;>simp[ih]
def F9{r:RO}(h:r.floor≤1073741824):∀k,r.floor≤(gQ r k).floor∧(gQ r k).floor≤1073741824:=by
 intro k
 induction k with
 |zero=>exact⟨ZA _,h⟩
 |succ k ih=>
   show r.floor≤(jK (gQ r k)).floor∧(jK (gQ r k)).floor≤1073741824
   unfold jK;split
   ·next h=>simp only;omega
   ·exact ih
def F8{r:RO}(h:0≤r.since∧r.since≤3599):∀k,0≤(gQ r k).since∧(gQ r k).since≤3599:=by
 intro k
 induction k with
 |zero=>exact h
 |succ k ih=>
   show 0≤(jK (gQ r k)).since∧(jK (gQ r k)).since≤3599
   unfold jK;split
   ·exact⟨ZA 0,(by decide:(0:Int)≤3599)⟩
   ·show 0≤rM (gQ r k).since∧rM (gQ r k).since≤3599
    unfold rM;split<;>omega
def Rel(x:La)(mk:Bool)(r:RO):Prop:=r.node=x.o∧r.floor=x.s∧r.is=mk∧(mk=true→r.now=num x.o x.s 0 x∧r.since=x.a)∧(mk=false→r.now=dT∧r.since=0)
def Inv(x:La)(mk:Bool):Prop:=0≤x.s∧x.s≤1073741824∧0≤x.a∧x.a≤3599∧(x.a<1800∨1073741824≤x.s)
def tS(x:La)(n:Int):Int:=if (x.a+n) / 1800≤1073741824 - x.s then(x.a+n) / 1800 else 1073741824 - x.s
def sM(x:La)(n:Int)(hi:Inv x true)(hn:0≤n) :
  ix x true n=num x.o (x.s+tS x n) (kr (x.a+n - tS x n*1800)) x∧kZ x true n=decide (0<tS x n):=by
 obtain⟨s0,s1,a0,a1,hc⟩:=hi
 by_cases hn0:0<n
 ·have e1:ix x true n=if mO x n=true then { x with s:=x.s+times x n,a:=kr (n - (1800 - x.a) - (times x n - 1)*1800) }else { x with a:=kr (x.a+n) }:=by unfold ix;rw[cR ⟨rfl,hn0⟩]
  have e2:kZ x true n=mO x n:=by unfold kZ;rw[eo hn0];simp
  rw[e1,e2]
  by_cases hr:x.a<1800∧1800 - x.a≤n∧x.s<1073741824
  ·obtain⟨r1,r2,r3⟩:=hr;have b:mO x n=true:=by unfold mO;rw[eo r1,eo r2,eo r3];rfl
   have ht:times x n=tS x n∧0<tS x n:=by unfold times tS;split<;>split<;>omega
   rw[b,ht.1,cR rfl,eo ht.2,show n - (1800 - x.a) - (tS x n - 1)*1800=x.a+n - tS x n*1800 by omega];exact⟨rfl,rfl⟩
  ·have b:mO x n=false:=by
    unfold mO
    by_cases r1:x.a<1800
    ·by_cases r2:1800 - x.a≤n
     ·rw[eI (by omega:¬x.s<1073741824)];simp
     ·rw[eI r2];simp
    ·rw[eI r1];simp
   have ht:tS x n=0:=by unfold tS;split<;>omega
   rw[b,ht,cN (by simp),eI (by omega),Int.add_zero,show x.a+n - 0*1800=x.a+n by omega];exact⟨rfl,rfl⟩
 ·obtain rfl:n=0:=by omega
  have e1:ix x true 0=x:=by unfold ix;rw[cN (by simp)]
  have e2:kZ x true 0=false:=by unfold kZ;simp
  have ht:tS x 0=0:=by unfold tS;split<;>omega
  have c:kr (x.a+0 - 0*1800)=x.a:=by unfold kr;split<;>omega
  rw[e1,e2,ht,c,eI (by omega),Int.add_zero];exact⟨rfl,rfl⟩
def Nn(x:La)(k:Int)(hi:Inv x true)(hk:0≤k) :
  ((1800≤rM (kr (x.a+k - tS x k*1800))∧x.s+tS x k<1073741824)→tS x (k+1)=tS x k+1∧kr (x.a+(k+1) - tS x (k+1)*1800)=0) ∧
  (¬(1800≤rM (kr (x.a+k - tS x k*1800))∧x.s+tS x k<1073741824)→tS x (k+1)=tS x k∧kr (x.a+(k+1) - tS x (k+1)*1800)=rM (kr (x.a+k - tS x k*1800))):=by
 obtain⟨s0,s1,a0,a1,hc⟩:=hi
 by_cases h:(x.a+k) / 1800≤1073741824 - x.s
 ·have e1:tS x k=(x.a+k) / 1800:=by unfold tS;rw[cR h]
  by_cases h':(x.a+(k+1)) / 1800≤1073741824 - x.s
  ·have e2:tS x (k+1)=(x.a+(k+1)) / 1800:=by unfold tS;rw[cR h']
   rw[e1,e2];unfold rM kr;constructor
   ·intro hh;split at hh<;>split at hh<;>first|omega|(refine⟨by omega,?_⟩;split<;>omega)
   ·intro hh;refine⟨?_,?_⟩
    ·split at hh<;>split at hh<;>omega
    ·split at hh<;>split at hh<;>(repeat' split)<;>omega
  ·have e2:tS x (k+1)=1073741824 - x.s:=by unfold tS;rw[cN h']
   rw[e1,e2];unfold rM kr;constructor
   ·intro hh;split at hh<;>split at hh<;>first|omega|(refine⟨by omega,?_⟩;split<;>omega)
   ·intro hh;refine⟨?_,?_⟩
    ·split at hh<;>split at hh<;>omega
    ·split at hh<;>split at hh<;>(repeat' split)<;>omega
 ·have e1:tS x k=1073741824 - x.s:=by unfold tS;rw[cN h]
  have e2:tS x (k+1)=1073741824 - x.s:=by unfold tS;rw[cN (by omega)]
  rw[e1,e2];unfold rM kr;constructor
  ·intro hh;omega
  ·intro hh;refine⟨rfl,?_⟩
   (repeat' split)<;>omega
def Kv(x:La)(hi:Inv x true)(r:RO)(hr:Rel x true r):∀k:Nat,Rel (ix x true k) true (gQ r k)∧uR r k=kZ x true k:=by
 intro k;have b:=hi;obtain⟨s0,s1,a0,a1,hc⟩:=hi
 induction k with
 |zero=>
   have e1:ix x true ((0:Nat):Int)=x:=by unfold ix;rw[cN (by simp)]
   have e2:kZ x true ((0:Nat):Int)=false:=by unfold kZ;simp
   rw[e1,e2];exact⟨hr,rfl⟩
 |succ k ih=>
   obtain⟨⟨h1,h2,h3,h4,_⟩,h5⟩:=ih;obtain⟨h4,h6⟩:=h4 rfl;obtain⟨c1,c2⟩:=sM x k b (by omega);obtain⟨d1,d2⟩:=sM x ((k+1:Nat):Int) b (by omega);rw[c1]at h1 h2 h4 h6;rw[c2]at h5;rw[d1,d2];show Rel _ true (jK (gQ r k))∧(uR r k||pU (gQ r k))=_
   rw[h5];simp only[num]at h1 h2 h4 h6;have c:((k+1:Nat):Int)=(k:Int)+1:=by omega
   rw[c];obtain⟨p1,p2⟩:=Nn x k b (by omega);unfold pU jK;rw[h6,h2]
   by_cases hcond:1800≤rM (kr (x.a+k - tS x k*1800))∧x.s+tS x k<1073741824
   ·obtain⟨q1,q2⟩:=p1 hcond;rw[cR hcond,eo hcond.1,eo hcond.2,q2,q1];refine⟨⟨h1,by simp only[num];omega,rfl,fun _=>⟨?_,rfl⟩,fun h=>by simp at h⟩,?_⟩
    ·rw[h1,h4];simp only[num,La.mk.injEq,fE,fv];omega
    ·have:0≤tS x k:=by unfold tS;split<;>omega
     rw[eo (by omega:0<tS x k+1)];simp
   ·obtain⟨q1,q2⟩:=p2 hcond;rw[cN hcond,q2,q1];refine⟨⟨h1,rfl,h3,fun _=>⟨?_,rfl⟩,fun h=>by simp at h⟩,?_⟩
    ·simp only;rw[h4];rfl
    ·have:(decide (1800≤rM (kr (x.a+k - tS x k*1800)))&&decide (x.s+tS x k<1073741824))=false:=by
      rw[YO]
      by_cases h:1800≤rM (kr (x.a+k - tS x k*1800))
      ·right;rw[ja];exact fun h'=>hcond ⟨h,h'⟩
      ·left;rw[ja];exact h
     rw[this,xw]
def IQ(W w:World)(r:RO)(b:Bool)(e:Ending)(w':World):Prop:=∃v,e= .returned (.tuple #[v,b])∧nO W v r∧cI w w'
def xE(r:RO)(n:Int):RO:=if r.is=true then gQ r n.toNat else r
def zE(r:RO)(n:Int):Bool:=if r.is=true then uR r n.toNat else false
def Co(W0 w:World)(j:cI W0 w)(v u:Value)(r:RO)(a:La)(h:nO W0 v r)(hy:eU W0 u a)(l:0≤r.floor)(hP:vB a=false∨vB a=true∧a.o≠r.node) :
  Calls prog 141 #[v,u] w (AV W0 w (mN r a)):=by
 obtain⟨A,c,B,d,rfl,hl⟩:=h;obtain⟨A',c',B',d',rfl⟩:=hy.form;obtain⟨node,floor,is,now,since⟩:=r;simp only at hl l hP ⊢;have f:=hl;have k:=hy;replace hl:=hl.below j;replace hy:=hy.below j;have S:=(((St.start w).nw #[node,floor,is,now.o,now.s,now.a,now.ov,.slice A now.adj.length c,.slice B now.pre.length d,since] 63 w).nw #[a.o,a.s,a.a,a.ov,.slice A' a.adj.length c',.slice B' a.pre.length d'] 41 (w.heap.size+1)).nw #[i0,i0,false,i0,i0,i0,false,sn,sn,i0] 63 (w.heap.size+2);obtain⟨z,hz⟩:=ex (mN ⟨node,floor,is,now,since⟩ a)
 rw[hz];unfold mN at hz;have V:=fun W (hb:cI w W)=>lN W _ a (hy.below hb)
 have N:=fun W (hb:cI w W)=>kF W _ _ a now (hy.below hb) (hl.below hb)
 have g:vB a=true→1≤a.s∧a.s≤1073741824:=fun h=>(gH.1 h).2.1
 have i:Hid (nO W0 (sk ⟨node,floor,is,now,since⟩ A c B d) ⟨node,floor,is,now,since⟩):=⟨A,c,B,d,rfl,f⟩
 have p:Hid (∀m,nO W0 (sk ⟨node,m,is,now,since⟩ A c B d) ⟨node,m,is,now,since⟩):=fun m=>⟨A,c,B,d,rfl,f⟩
 have n:Hid (nO W0 (sk ⟨node,a.s+1,true,num node (a.s+1) 0 now,0⟩ A c B d) ⟨node,a.s+1,true,num node (a.s+1) 0 now,0⟩):=⟨A,c,B,d,rfl,f.mK node (a.s+1) 0 now.ov⟩
 rcases hP with hP|⟨hP,ho⟩
 all_goals
  rw[hP]at V hz g;clear hP;generalize kO a now=nz at *;change Hid _ at N hz g;replace V:=φ V;clear hl hy f k;obtain⟨q0,q1,q2,q3,q4,q5⟩:=(S.box 1 rfl).b6;go_in;go_wp2_with fail;refine (V _ S.b).mono ?_;rintro e w2 ⟨rfl,hb⟩;clear q0 V;replace S:=S.call hb;clear hb;have p0:=(S.box 2 rfl).iM;have q0:=(S.box 1 rfl).b6;have r0:=(S.box 0 rfl).iM;have f0:=(S.box 0 rfl).f10;(try have q:(a.o !=node)=true:=by simpa using ho);obtain rfl:⟨⟨node,floor,is,now,since⟩,false,1⟩=z:=by rw[←hz.out,cN (by first|(simp;done)|simp[ho])]
  have hb9:=(S.iD (.int .i64 node) (.int .i64 floor) (.bool is) (.int .i64 now.o) (.int .i64 now.s) (.int .i64 now.a) (.bool now.ov) (.slice A now.adj.length c) (.slice B now.pre.length d) (.int .i64 since) (by omega) (by simp)).b;go_wp2;exact dc (v:=.tuple #[sk ⟨node,floor,is,now,since⟩ A c B d,false,.int .i64 1]) (by simp[results,results141,go_sem,r0]) rfl ⟨_,rfl,i,hb9⟩
def KQ(W0 w:World)(n:cI W0 w)(v u:Value)(r:RO)(a:La)(h:nO W0 v r)(hy:eU W0 u a)(y:0≤r.floor)(hP:vB a=true∧a.o=r.node)(l:r.is=false) :
  Calls prog 141 #[v,u] w (AV W0 w (mN r a)):=by
 obtain⟨A,c,B,d,rfl,hl⟩:=h;obtain⟨A',c',B',d',rfl⟩:=hy.form;obtain⟨node,floor,is,now,since⟩:=r;simp only at hl y hP l ⊢;subst l;have i:=hl;have p:=hy;replace hl:=hl.below n;replace hy:=hy.below n;have S:=(((St.start w).nw #[node,floor,false,now.o,now.s,now.a,now.ov,.slice A now.adj.length c,.slice B now.pre.length d,since] 63 w).nw #[a.o,a.s,a.a,a.ov,.slice A' a.adj.length c',.slice B' a.pre.length d'] 41 (w.heap.size+1)).nw #[i0,i0,false,i0,i0,i0,false,sn,sn,i0] 63 (w.heap.size+2);obtain⟨z,hz⟩:=ex (mN ⟨node,floor,false,now,since⟩ a)
 rw[hz];unfold mN at hz;have V:=fun W (hb:cI w W)=>lN W _ a (hy.below hb)
 have N:=fun W (hb:cI w W)=>kF W _ _ a now (hy.below hb) (hl.below hb)
 have g:vB a=true→1≤a.s∧a.s≤1073741824:=fun h=>(gH.1 h).2.1
 have q:Hid (nO W0 (sk ⟨node,floor,false,now,since⟩ A c B d) ⟨node,floor,false,now,since⟩):=⟨A,c,B,d,rfl,i⟩
 have j:Hid (∀m,nO W0 (sk ⟨node,m,false,now,since⟩ A c B d) ⟨node,m,false,now,since⟩):=fun m=>⟨A,c,B,d,rfl,i⟩
 have D:Hid (nO W0 (sk ⟨node,a.s+1,true,num node (a.s+1) 0 now,0⟩ A c B d) ⟨node,a.s+1,true,num node (a.s+1) 0 now,0⟩):=⟨A,c,B,d,rfl,i.mK node (a.s+1) 0 now.ov⟩
 obtain⟨hP,ho⟩:=hP;replace ho:=φ ho;rw[hP]at V hz g;clear hP;generalize kO a now=nz at *;change Hid _ at N hz g;replace V:=φ V;clear hl hy i p;obtain⟨q0,q1,q2,q3,q4,q5⟩:=(S.box 1 rfl).b6;go_in;go_wp2_with fail;refine (V _ S.b).mono ?_;rintro e w2 ⟨rfl,hb⟩;clear q0 V;replace S:=S.call hb;clear hb;obtain⟨p0,p1,p2,p3,p4,p5,p6,p7,p8,p9⟩:=(S.box 2 rfl).iM;obtain⟨q0,q1,q2,q3,q4,q5⟩:=(S.box 1 rfl).b6;have r0:=(S.box 0 rfl).iM;obtain⟨f0,f1,f2,f3,f4,f5,f6,f7,f8,f9⟩:=(S.box 0 rfl).f10;replace ho:=ho.out;have E:(a.o !=node)=false:=by simpa using ho
 have k:=hz.out;rw[cR ⟨by simp,ho⟩]at k;replace hz:=φ k;have C:=g.out (by simp);clear k g ho;have t:(floor<a.s∧a.s=max floor a.s)∨(¬floor<a.s∧floor=max floor a.s):=by omega
 obtain rfl:⟨⟨node,max floor a.s,false,now,since⟩,false,0⟩=z:=by rw[←hz.out,cN (by simp)]
 generalize max floor a.s=m at *;have S2:=S.s 2 1 (.int .i64 m);have g1:=S.f 2 1 rfl rfl;rcases t with ⟨x,rfl⟩|⟨x,rfl⟩
 ·go_upto_region 5 with fail;clear p0 q0 r0 f0 S g1;generalize World.setCell w2 _ _=w3 at *;obtain⟨p0,p1,p2,p3,p4,p5,p6,p7,p8,p9⟩:=(S2.box 2 rfl).iM;obtain⟨q0,q1,q2,q3,q4,q5⟩:=(S2.box 1 rfl).b6;have r0:=(S2.box 0 rfl).iM;obtain⟨f0,f1,f2,f3,f4,f5,f6,f7,f8,f9⟩:=(S2.box 0 rfl).f10;have hb9:=(S2.iD (.int .i64 node) (.int .i64 (a.s)) (.bool false) (.int .i64 now.o) (.int .i64 now.s) (.int .i64 now.a) (.bool now.ov) (.slice A now.adj.length c) (.slice B now.pre.length d) (.int .i64 since) (by omega) (by simp)).b;go_wp2;exact dc (v:=.tuple #[sk ⟨node,a.s,false,now,since⟩ A c B d,false,i0]) (by simp[results,results141,go_sem,r0]) rfl ⟨_,rfl,j a.s,hb9⟩
 ·go_upto_region 5 with fail;clear p0 q0 r0 f0 S g1;generalize World.setCell w2 _ _=w3 at *;have p0:=(S2.box 2 rfl).iM;have q0:=(S2.box 1 rfl).b6;have r0:=(S2.box 0 rfl).iM;have f0:=(S2.box 0 rfl).f10;have hb9:=(S2.iD (.int .i64 node) (.int .i64 (floor)) (.bool false) (.int .i64 now.o) (.int .i64 now.s) (.int .i64 now.a) (.bool now.ov) (.slice A now.adj.length c) (.slice B now.pre.length d) (.int .i64 since) (by omega) (by simp)).b;go_wp2;exact dc (v:=.tuple #[sk ⟨node,floor,false,now,since⟩ A c B d,false,i0]) (by simp[results,results141,go_sem,r0]) rfl ⟨_,rfl,j floor,hb9⟩
def Oa(W0 w:World)(q:cI W0 w)(v u:Value)(r:RO)(a:La)(h:nO W0 v r)(hy:eU W0 u a)(y:0≤r.floor)(hP:vB a=true∧a.o=r.node)(p:r.is=true) :
  Calls prog 141 #[v,u] w (AV W0 w (mN r a)):=by
 obtain⟨A,c,B,d,rfl,hl⟩:=h;obtain⟨A',c',B',d',rfl⟩:=hy.form;obtain⟨node,floor,is,now,since⟩:=r;simp only at hl y hP p ⊢;subst p;have j:=hl;have t:=hy;replace hl:=hl.below q;replace hy:=hy.below q;have S:=(((St.start w).nw #[node,floor,true,now.o,now.s,now.a,now.ov,.slice A now.adj.length c,.slice B now.pre.length d,since] 63 w).nw #[a.o,a.s,a.a,a.ov,.slice A' a.adj.length c',.slice B' a.pre.length d'] 41 (w.heap.size+1)).nw #[i0,i0,false,i0,i0,i0,false,sn,sn,i0] 63 (w.heap.size+2);obtain⟨z,hz⟩:=ex (mN ⟨node,floor,true,now,since⟩ a)
 rw[hz];unfold mN at hz;have V:=fun W (hb:cI w W)=>lN W _ a (hy.below hb)
 have N:=fun W (hb:cI w W)=>kF W _ _ a now (hy.below hb) (hl.below hb)
 have i:vB a=true→1≤a.s∧a.s≤1073741824:=fun h=>(gH.1 h).2.1
 have g:Hid (nO W0 (sk ⟨node,floor,true,now,since⟩ A c B d) ⟨node,floor,true,now,since⟩):=⟨A,c,B,d,rfl,j⟩
 have n:Hid (∀m,nO W0 (sk ⟨node,m,true,now,since⟩ A c B d) ⟨node,m,true,now,since⟩):=fun m=>⟨A,c,B,d,rfl,j⟩
 have l:Hid (nO W0 (sk ⟨node,a.s+1,true,num node (a.s+1) 0 now,0⟩ A c B d) ⟨node,a.s+1,true,num node (a.s+1) 0 now,0⟩):=⟨A,c,B,d,rfl,j.mK node (a.s+1) 0 now.ov⟩
 obtain⟨hP,ho⟩:=hP;replace ho:=φ ho;rw[hP]at V hz i;clear hP;generalize kO a now=nz at *;change Hid _ at hz i;replace V:=φ V;replace N:=φ N;clear hl hy j t;obtain⟨q0,q1,q2,q3,q4,q5⟩:=(S.box 1 rfl).b6;go_in;go_wp2_with fail;refine (V _ S.b).mono ?_;rintro e w2 ⟨rfl,hb⟩;clear q0 V;replace S:=S.call hb;clear hb;obtain⟨p0,p1,p2,p3,p4,p5,p6,p7,p8,p9⟩:=(S.box 2 rfl).iM;obtain⟨q0,q1,q2,q3,q4,q5⟩:=(S.box 1 rfl).b6;have r0:=(S.box 0 rfl).iM;obtain⟨f0,f1,f2,f3,f4,f5,f6,f7,f8,f9⟩:=(S.box 0 rfl).f10;replace ho:=ho.out;have M:(a.o !=node)=false:=by simpa using ho
 have f:=hz.out;rw[cR ⟨by simp,ho⟩]at f;replace hz:=φ f;have C:=i.out (by simp);clear f i ho;go_wp2_with fail;refine (N _ S.b).mono ?_;rintro e w3 ⟨rfl,hb⟩;clear p0 q0 r0 f0 N n;replace S:=S.call hb;clear hb
 by_cases hnz:nz≤0
 ·obtain rfl:⟨⟨node,floor,true,now,since⟩,false,0⟩=z:=by rw[←hz.out,cR (by simp),cR hnz]
  clear hz;obtain⟨p0,p1,p2,p3,p4,p5,p6,p7,p8,p9⟩:=(S.box 2 rfl).iM;have r0:=(S.box 0 rfl).iM;obtain⟨f0,f1,f2,f3,f4,f5,f6,f7,f8,f9⟩:=(S.box 0 rfl).f10;have hb9:=(S.iD (.int .i64 node) (.int .i64 floor) (.bool true) (.int .i64 now.o) (.int .i64 now.s) (.int .i64 now.a) (.bool now.ov) (.slice A now.adj.length c) (.slice B now.pre.length d) (.int .i64 since) (by omega) (by simp)).b;go_wp2;exact dc (v:=.tuple #[sk ⟨node,floor,true,now,since⟩ A c B d,false,i0]) (by simp[results,results141,go_sem,r0]) rfl ⟨_,rfl,g,hb9⟩
 have f:=hz.out;rw[cR (by simp),cN hnz]at f;replace hz:=φ f;clear f;have O:=S.lt 0 rfl (by simp);have S2:=S.nw #[node,a.s,true,now.o,now.s,now.a,now.ov,.slice A now.adj.length c,.slice B now.pre.length d,since] 63 w3;have S1:=S.nw #[node,floor,true,now.o,now.s,now.a,now.ov,.slice A now.adj.length c,.slice B now.pre.length d,since] 63 w3;obtain⟨p0,p1,p2,p3,p4,p5,p6,p7,p8,p9⟩:=(S.box 2 rfl).iM;have q0:=(S1.box 2 rfl).b6;clear S1;go_upto_region 10 with fail;clear p0 q0;generalize w3.alloc _=w4 at *;obtain⟨n0,n1,n2,n3,n4,n5,n6,n7,n8,n9⟩:=(S2.box 0 rfl).iM;obtain⟨p0,p1,p2,p3,p4,p5,p6,p7,p8,p9⟩:=(S2.box 3 rfl).iM;clear S
 by_cases hf:1073741824≤a.s
 ·obtain rfl:⟨⟨node,floor,true,now,since⟩,false,6⟩=z:=by rw[←hz.out,cR hf]
  clear hz;go_wp2_with fail;refine (qC _ _ _ _ _ _ _ _ _ _ _ _ _ _ _ _ _ _ _ _ _ _ _ _ _ hf).mono ?_;rintro e w5 ⟨rfl,hb⟩;clear n0 p0;replace S2:=S2.call hb;clear hb;obtain⟨n0,n1,n2,n3,n4,n5,n6,n7,n8,n9⟩:=(S2.box 0 rfl).iM;obtain⟨k,L,K,J,I,H,G,F,E,D⟩:=(S2.box 0 rfl).f10;have S3:=S2.iD (.int .i64 node) (.int .i64 a.s) (.bool true) (.int .i64 now.o) (.int .i64 now.s) (.int .i64 now.a) (.bool now.ov) (.slice A now.adj.length c) (.slice B now.pre.length d) (.int .i64 since) (by omega) (by simp only[dA,eF,ik];rintro x (rfl|rfl|rfl)<;>simp only<;>omega);go_upto_region 11 with fail;clear n0 k S2;generalize World.setCell (World.setCell (World.setCell (World.setCell (World.setCell (World.setCell (World.setCell (World.setCell (World.setCell (World.setCell w5 _ _) _ _) _ _) _ _) _ _) _ _) _ _) _ _) _ _) _ _=w6 at *;have S:=S3.tail;clear S3;obtain⟨p0,p1,p2,p3,p4,p5,p6,p7,p8,p9⟩:=(S.box 2 rfl).iM;have r0:=(S.box 0 rfl).iM;obtain⟨f0,f1,f2,f3,f4,f5,f6,f7,f8,f9⟩:=(S.box 0 rfl).f10;have hb9:=(S.iD (.int .i64 node) (.int .i64 floor) (.bool true) (.int .i64 now.o) (.int .i64 now.s) (.int .i64 now.a) (.bool now.ov) (.slice A now.adj.length c) (.slice B now.pre.length d) (.int .i64 since) (by omega) (by simp)).b;go_wp2;exact dc (v:=.tuple #[sk ⟨node,floor,true,now,since⟩ A c B d,false,.int .i64 6]) (by simp[results,results141,go_sem,r0]) rfl ⟨_,rfl,g,hb9⟩
 ·obtain rfl:⟨⟨node,a.s+1,true,num node (a.s+1) 0 now,0⟩,true,0⟩=z:=by rw[←hz.out,cN hf]
  clear hz g;go_wp2_with fail;refine (oY _ _ _ _ _ _ _ _ _ _ _ _ _ _ _ _ _ _ _ _ _ _ _ _ _ (by omega) (by omega)).mono ?_;rintro e w5 ⟨rfl,hb⟩;clear n0 p0;replace S2:=S2.call hb;clear hb;have n0:=(S2.box 0 rfl).iM;have k:=(S2.box 0 rfl).f10;have S3:=S2.iD (.int .i64 node) (.int .i64 (a.s+1)) (.bool true) (.int .i64 node) (.int .i64 (a.s+1)) i0 (.bool now.ov) (.slice A now.adj.length c) (.slice B now.pre.length d) i0 (by omega) (by simp only[dA,eF,ik];rintro x (rfl|rfl|rfl)<;>simp only<;>omega);go_upto_region 11 with fail;clear n0 k S2;generalize World.setCell (World.setCell (World.setCell (World.setCell (World.setCell (World.setCell (World.setCell (World.setCell (World.setCell (World.setCell w5 _ _) _ _) _ _) _ _) _ _) _ _) _ _) _ _) _ _) _ _=w6 at *;have S:=S3.tail;have p0:=(S3.box 0 rfl).iM;have r0:=(S.box 0 rfl).iM;have f0:=(S.box 0 rfl).f10;clear S3;have hb9:=(S.iD (.int .i64 node) (.int .i64 (a.s+1)) (.bool true) (.int .i64 node) (.int .i64 (a.s+1)) i0 (.bool now.ov) (.slice A now.adj.length c) (.slice B now.pre.length d) i0 (by omega) (by simp)).b;go_wp2;exact dc (v:=.tuple #[sk ⟨node,a.s+1,true,num node (a.s+1) 0 now,0⟩ A c B d,true,i0]) (by simp[results,results141,go_sem,num,r0]) rfl ⟨_,rfl,l,hb9⟩
def KR(W0 w:World)(c:cI W0 w)(v u:Value)(r:RO)(a:La)(h:nO W0 v r)(hy:eU W0 u a)(b:0≤r.floor) :
  Calls prog 141 #[v,u] w (AV W0 w (mN r a)):=by
 rcases h1:vB a with _|_
 ·exact Co W0 w c v u r a h hy b (.inl h1)
 ·by_cases h2:a.o=r.node
  ·rcases h3:r.is with _|_
   ·exact KQ W0 w c v u r a h hy b ⟨h1,h2⟩ h3
   ·exact Oa W0 w c v u r a h hy b ⟨h1,h2⟩ h3
  ·exact Co W0 w c v u r a h hy b (.inr ⟨h1,h2⟩)
def NO(W0 w:World)(R:cI W0 w)(v:Value)(r:RO)(n:Int)(h:nO W0 v r)(N:0≤n)(hn:n≤100000)(m:r.is=true)(Q:0≤r.floor)(L:r.floor≤1073741824)(E:0≤r.since)(D:r.since≤3599) :
  Calls prog 102 #[v,n] w (IQ W0 w (gQ r n.toNat) (uR r n.toNat)):=by
 obtain⟨A,c,B,d,rfl,hl⟩:=h;obtain⟨K,rfl⟩:∃K:Nat,n=K:=⟨n.toNat,by omega⟩
 rw[cU];have u:∀k,(gQ r k).now.adj=r.now.adj∧(gQ r k).now.pre=r.now.pre∧(gQ r k).now.ov=r.now.ov:=by
  intro k
  induction k with
  |zero=>exact⟨rfl,rfl,rfl⟩
  |succ k ih=>
    show(jK (gQ r k)).now.adj=_∧(jK (gQ r k)).now.pre=_∧(jK (gQ r k)).now.ov=_
    unfold jK;split<;>exact ih
 have hlen:=hl.ok;have p:Hid (∀k,nO W0 (sk (gQ r k) A c B d) (gQ r k)):=fun k=>by
  obtain⟨e1,e2,e3⟩:=u k;refine⟨A,c,B,d,rfl,?_⟩
  have h9:=hl.mK (gQ r k).now.o (gQ r k).now.s (gQ r k).now.a r.now.ov;rw[←e1,←e2,←e3]at h9;exact h9
 have S:=((St.start w).nw #[r.node,r.floor,r.is,r.now.o,r.now.s,r.now.a,r.now.ov,.slice A r.now.adj.length c,.slice B r.now.pre.length d,r.since] 63 w).nw #[i0,i0,false,i0,i0,i0,false,sn,sn,i0] 63 (w.heap.size+1);rw[m]at S;have hI:Hid (∀k,(gQ r k).is=true∧(0≤(gQ r k).floor∧(gQ r k).floor≤1073741824)∧(0≤(gQ r k).since∧(gQ r k).since≤3599)):=fun k=>⟨PC m k,by have:=F9 L k;omega,F8 ⟨E,D⟩ k⟩
 have y:sk r A c B d= .agg #[r.node,r.floor,true,r.now.o,r.now.s,r.now.a,r.now.ov,.slice A r.now.adj.length c,.slice B r.now.pre.length d,r.since]:=by rw[show sk r A c B d= .agg #[r.node,r.floor,r.is,r.now.o,r.now.s,r.now.a,r.now.ov,.slice A r.now.adj.length c,.slice B r.now.pre.length d,r.since]from rfl,m]
 rw[y];clear y hl u hlen;replace m:=φ m;go_in;go_wp2_with fail;go_loopw [6,7] (fun v6 v7 wr=>∃k:Nat,v7= .int .i64 k∧v6= .bool (uR r k)∧k≤K∧ ∃q:RO,Hid (gQ r k=q)∧St w wr [(w.heap.size+1,[i0,i0,false,i0,i0,i0,false,sn,sn,i0]),(w,[q.node,q.floor,true,q.now.o,q.now.s,q.now.a,q.now.ov,.slice A q.now.adj.length c,.slice B q.now.pre.length d,q.since])] []) (fun _ v7 _=>K - (intOf v7).toNat)
 case atStart=>exact⟨0,rfl,rfl,by omega,r,rfl,S⟩
 case round=>
  clear S;obtain⟨k,rfl,rfl,hk,q,hq,S⟩:=hrel;obtain⟨t,⟨x,I⟩,H,G⟩:=hI.out k;rw[hq.out]at t x I H G;replace t:=φ t
  by_cases hkK:k<K
  rotate_left
  ·obtain rfl:k=K:=by omega
   have z:sk (gQ r k) A c B d=(.agg #[q.node,q.floor,true,q.now.o,q.now.s,q.now.a,q.now.ov,.slice A q.now.adj.length c,.slice B q.now.pre.length d,q.since]):=by
    rw[hq.out,show sk q A c B d= .agg #[q.node,q.floor,q.is,q.now.o,q.now.s,q.now.a,q.now.ov,.slice A q.now.adj.length c,.slice B q.now.pre.length d,q.since]from rfl,t.out]
   have F:Hid (nO W0 (.agg #[q.node,q.floor,true,q.now.o,q.now.s,q.now.a,q.now.ov,.slice A q.now.adj.length c,.slice B q.now.pre.length d,q.since]) (gQ r k)):=by have:=p.out k;rw[z]at this;exact this
   clear hq p hI z;generalize uR r k=rb at *;obtain⟨p0,p1,p2,p3,p4,p5,p6,p7,p8,p9⟩:=(S.box 1 rfl).iM;have r0:=(S.box 0 rfl).iM;obtain⟨f0,f1,f2,f3,f4,f5,f6,f7,f8,f9⟩:=(S.box 0 rfl).f10;have hb9:=(S.iD (.int .i64 q.node) (.int .i64 q.floor) (.bool true) (.int .i64 q.now.o) (.int .i64 q.now.s) (.int .i64 q.now.a) (.bool q.now.ov) (.slice A q.now.adj.length c) (.slice B q.now.pre.length d) (.int .i64 q.since) (by omega) (by simp)).b;go_wp2;exact dc (v:=.tuple #[.agg #[q.node,q.floor,true,q.now.o,q.now.s,q.now.a,q.now.ov,.slice A q.now.adj.length c,.slice B q.now.pre.length d,q.since],rb]) (by simp[results,results102,go_sem,r0]) rfl ⟨_,rfl,F,hb9⟩
  have P:(k:Int)<100000:=by omega
  have O:(k:Int)< (K:Int):=by omega
  have j:Hid (∀b,b=(uR r k||pU q)→(Value.bool b:Value)= .bool (uR r (k+1))):=fun b h=>by rw[h,←hq.out];rfl
  have l:Hid (∀q',jK q=q'→gQ r (k+1)=q'):=fun q' h=>by rw[←h,←hq.out];rfl
  clear p hI hq;generalize uR r k=rb at *;obtain⟨p0,p1,p2,p3,p4,p5,p6,p7,p8,p9⟩:=(S.box 1 rfl).iM;obtain⟨f0,f1,f2,f3,f4,f5,f6,f7,f8,f9⟩:=(S.box 1 rfl).f10
  by_cases hs:q.since<3599
  ·have f:rM q.since=q.since+1:=by unfold rM;rw[cR (by omega)]
   have S2:=S.s 1 9 (.int .i64 (q.since+1));replace f:=φ f;go_upto_region 6 with fail;clear p0 f0 S;have S:St w (wr.setCell ⟨w,9,none⟩ (.int .i64 (q.since+1))) [(w.heap.size+1,[i0,i0,false,i0,i0,i0,false,sn,sn,i0]),(w,[q.node,q.floor,true,q.now.o,q.now.s,q.now.a,q.now.ov,.slice A q.now.adj.length c,.slice B q.now.pre.length d,.int .i64 (q.since+1)])] []:=S2;clear S2;generalize wr.setCell ⟨w,9,none⟩ (.int .i64 (q.since+1))=w2 at *;obtain⟨p0,p1,p2,p3,p4,p5,p6,p7,p8,p9⟩:=(S.box 1 rfl).iM;obtain⟨f0,f1,f2,f3,f4,f5,f6,f7,f8,f9⟩:=(S.box 1 rfl).f10
   by_cases C:1800≤q.since+1
   rotate_left
   ·have g:jK q= { q with since:=q.since+1 }:=by unfold jK;rw[f.out,cN (by omega)]
    have i:pU q=false:=by unfold pU;rw[f.out,eI (by omega)];rfl
    clear f;go_wp2;go_round
    case rel=>exact⟨k+1,by go_num,j _ (by rw[i,xw]),by omega,_,l _ g,S⟩
    case measure=>simp[intOf];omega
   by_cases hfl:1073741824≤q.floor
   ·have g:jK q= { q with since:=q.since+1 }:=by unfold jK;rw[f.out,cN (by omega)]
    have i:pU q=false:=by unfold pU;rw[eI (by omega:¬q.floor<1073741824)];simp
    clear f;go_wp2_with fail;(with_reducible refine(qC _ _ _ _ _ _ _ _ _ _ _ _ _ _ _ _ _ _ _ _ _ _ _ _ _ hfl).mono ?_);rintro e w3 ⟨rfl,hb⟩;clear p0 f0;replace S:=S.call hb;replace S:=S.call (cQ w3 (.cells #[q.node,q.floor,true,q.now.o,q.now.s,q.now.a,q.now.ov,.slice A q.now.adj.length c,.slice B q.now.pre.length d,.int .i64 (q.since+1)] 63));clear hb;go_wp2;go_round
    case rel=>exact⟨k+1,by go_num,j _ (by rw[i,xw]),by omega,_,l _ g,S⟩
    case measure=>simp[intOf];omega
   ·have g:jK q=⟨q.node,q.floor+1,true,num q.node (q.floor+1) 0 q.now,0⟩:=by unfold jK;rw[f.out,cR (by omega)]
    have i:pU q=true:=by unfold pU;rw[f.out,eo C,eo (by omega)];rfl
    clear f;go_wp2_with fail;(with_reducible refine(oY _ _ _ _ _ _ _ _ _ _ _ _ _ _ _ _ _ _ _ _ _ _ _ _ _ x (by omega)).mono ?_);rintro e w3 ⟨rfl,hb⟩;clear p0 f0;replace S:=S.call hb;clear hb;have J:=S.lt 0 rfl (by simp);have S3:=S.nw #[q.node,.int .i64 (q.floor+1),true,q.node,.int .i64 (q.floor+1),i0,q.now.ov,.slice A q.now.adj.length c,.slice B q.now.pre.length d,i0] 63 w3;go_upto_region 8 with fail;clear S;generalize w3.alloc _=w4 at *;obtain⟨n0,n1,n2,n3,n4,n5,n6,n7,n8,n9⟩:=(S3.box 0 rfl).iM;obtain⟨p0,p1,p2,p3,p4,p5,p6,p7,p8,p9⟩:=(S3.box 2 rfl).iM;obtain⟨f0,f1,f2,f3,f4,f5,f6,f7,f8,f9⟩:=(S3.box 2 rfl).f10;have S4:=((((((((((S3.tail.s 1 0 (.int .i64 q.node)).s 1 1 (.int .i64 (q.floor+1))).s 1 2 (.bool true)).s 1 3 (.int .i64 q.node)).s 1 4 (.int .i64 (q.floor+1))).s 1 5 i0).s 1 6 (.bool q.now.ov)).s 1 7 (.slice A q.now.adj.length c)).s 1 8 (.slice B q.now.pre.length d)).s 1 9 i0)
    clear S3;go_wp2;go_round
    case rel=>exact⟨k+1,by go_num,j _ (by rw[i,Bool.or_true]),by omega,_,l _ g,S4⟩
    case measure=>simp[intOf];omega
  ·have M:q.since=3599:=by omega
   have f:rM q.since=3599:=by unfold rM;rw[cN (by omega)]
   have S2:=S.s 1 9 (.int .i64 3599);replace f:=φ f;go_upto_region 6 with fail;clear p0 f0 S;have S:St w (wr.setCell ⟨w,9,none⟩ (.int .i64 (3599))) [(w.heap.size+1,[i0,i0,false,i0,i0,i0,false,sn,sn,i0]),(w,[q.node,q.floor,true,q.now.o,q.now.s,q.now.a,q.now.ov,.slice A q.now.adj.length c,.slice B q.now.pre.length d,.int .i64 3599])] []:=S2;clear S2;generalize wr.setCell ⟨w,9,none⟩ (.int .i64 (3599))=w2 at *;obtain⟨p0,p1,p2,p3,p4,p5,p6,p7,p8,p9⟩:=(S.box 1 rfl).iM;obtain⟨f0,f1,f2,f3,f4,f5,f6,f7,f8,f9⟩:=(S.box 1 rfl).f10;have C:True:=trivial
   by_cases hfl:1073741824≤q.floor
   ·have g:jK q= { q with since:=3599 }:=by unfold jK;rw[f.out,cN (by omega)]
    have i:pU q=false:=by unfold pU;rw[eI (by omega:¬q.floor<1073741824)];simp
    clear f;go_wp2_with fail;(with_reducible refine(qC _ _ _ _ _ _ _ _ _ _ _ _ _ _ _ _ _ _ _ _ _ _ _ _ _ hfl).mono ?_);rintro e w3 ⟨rfl,hb⟩;clear p0 f0;replace S:=S.call hb;replace S:=S.call (cQ w3 (.cells #[q.node,q.floor,true,q.now.o,q.now.s,q.now.a,q.now.ov,.slice A q.now.adj.length c,.slice B q.now.pre.length d,.int .i64 3599] 63));clear hb;go_wp2;go_round
    case rel=>exact⟨k+1,by go_num,j _ (by rw[i,xw]),by omega,_,l _ g,S⟩
    case measure=>simp[intOf];omega
   ·have g:jK q=⟨q.node,q.floor+1,true,num q.node (q.floor+1) 0 q.now,0⟩:=by unfold jK;rw[f.out,cR (by omega)]
    have i:pU q=true:=by unfold pU;rw[f.out,eo (by omega:q.floor<1073741824)];rfl
    clear f;go_wp2_with fail;(with_reducible refine(oY _ _ _ _ _ _ _ _ _ _ _ _ _ _ _ _ _ _ _ _ _ _ _ _ _ x (by omega)).mono ?_);rintro e w3 ⟨rfl,hb⟩;clear p0 f0;replace S:=S.call hb;clear hb;have J:=S.lt 0 rfl (by simp);have S3:=S.nw #[q.node,.int .i64 (q.floor+1),true,q.node,.int .i64 (q.floor+1),i0,q.now.ov,.slice A q.now.adj.length c,.slice B q.now.pre.length d,i0] 63 w3;go_upto_region 8 with fail;clear S;generalize w3.alloc _=w4 at *;have n0:=(S3.box 0 rfl).iM;have p0:=(S3.box 2 rfl).iM;have f0:=(S3.box 2 rfl).f10;have S4:=((((((((((S3.tail.s 1 0 (.int .i64 q.node)).s 1 1 (.int .i64 (q.floor+1))).s 1 2 (.bool true)).s 1 3 (.int .i64 q.node)).s 1 4 (.int .i64 (q.floor+1))).s 1 5 i0).s 1 6 (.bool q.now.ov)).s 1 7 (.slice A q.now.adj.length c)).s 1 8 (.slice B q.now.pre.length d)).s 1 9 i0)
    clear S3;go_wp2;go_round
    case rel=>exact⟨k+1,by go_num,j _ (by rw[i,Bool.or_true]),by omega,_,l _ g,S4⟩
    case measure=>simp[intOf];omega
def Cl(W0 w:World)(i:cI W0 w)(v:Value)(r:RO)(n:Int)(h:nO W0 v r)(hn:n≤100000)(f:r.is=false∨n≤0) :
  Calls prog 102 #[v,n] w (IQ W0 w r false):=by
 obtain⟨A,c,B,d,rfl,hl⟩:=h;obtain⟨node,floor,is,now,since⟩:=r;simp only at hl f ⊢;have S:=((St.start w).nw #[node,floor,is,now.o,now.s,now.a,now.ov,.slice A now.adj.length c,.slice B now.pre.length d,since] 63 w).nw #[i0,i0,false,i0,i0,i0,false,sn,sn,i0] 63 (w.heap.size+1);have g:Hid (nO W0 (sk ⟨node,floor,is,now,since⟩ A c B d) ⟨node,floor,is,now,since⟩):=⟨A,c,B,d,rfl,hl⟩
 clear hl;replace f:=φ f;go_in;go_wp2_with fail;go_loopw [6,7] (fun v6 v7 wr=>v7= .int .i64 0∧v6= .bool false∧St w wr [(w.heap.size+1,[i0,i0,false,i0,i0,i0,false,sn,sn,i0]),(w,[node,floor,is,now.o,now.s,now.a,now.ov,.slice A now.adj.length c,.slice B now.pre.length d,since])] []) (fun _ _ _=>0)
 case atStart=>exact⟨rfl,rfl,S⟩
 case round=>
  clear S;obtain⟨rfl,rfl,S⟩:=hrel;have p0:=(S.box 1 rfl).iM;have r0:=(S.box 0 rfl).iM;have f0:=(S.box 0 rfl).f10;have hb9:=(S.iD (.int .i64 node) (.int .i64 floor) (.bool is) (.int .i64 now.o) (.int .i64 now.s) (.int .i64 now.a) (.bool now.ov) (.slice A now.adj.length c) (.slice B now.pre.length d) (.int .i64 since) (by omega) (by simp)).b;have e:Hid (n≤0∨0<n∧is=false):=by
   show _∨_
   rcases f.out with h|h
   ·by_cases h0:n≤0
    ·exact .inl h0
    ·exact .inr ⟨by omega,h⟩
   ·exact .inl h
  rcases e.out with h0|⟨h0,rfl⟩
  ·have h1:¬(0:Int)<n:=by omega
   clear e f;go_wp2;exact dc (v:=.tuple #[sk ⟨node,floor,is,now,since⟩ A c B d,false]) (by simp[results,results102,go_sem,r0]) rfl ⟨_,rfl,g,hb9⟩
  ·clear e f;go_wp2;exact dc (v:=.tuple #[sk ⟨node,floor,false,now,since⟩ A c B d,false]) (by simp[results,results102,go_sem,r0]) rfl ⟨_,rfl,g,hb9⟩
def qA(W0 w:World)(a:cI W0 w)(v:Value)(r:RO)(n:Int)(h:nO W0 v r)(hn:n≤100000)(e:0≤r.floor)(d:r.floor≤1073741824)(c:0≤r.since)(b:r.since≤3599) :
  Calls prog 102 #[v,n] w (IQ W0 w (xE r n) (zE r n)):=by
 unfold xE zE;rcases h1:r.is with _|_
 ·rw[cN (by simp),cN (by simp)];exact Cl W0 w a v r n h hn (.inl h1)
 ·rw[cR rfl,cR rfl]
  by_cases h0:0≤n
  ·exact NO W0 w a v r n h h0 hn h1 e d c b
  ·rw[show n.toNat=0 by omega];exact Cl W0 w a v r n h hn (.inr (by omega))
def Nd(x:La)(mk:Bool)(r:RO)(n:Int)(hr:Rel x mk r)(hi:Inv x mk):Rel (ix x mk n) mk (xE r n)∧zE r n=kZ x mk n:=by
 have h3:=hr.2.2.1;cases mk with
 |false=>
   have e1:ix x false n=x:=by unfold ix;rw[cN (by simp)]
   have e2:kZ x false n=false:=rfl;unfold xE zE;rw[e1,e2,h3,cN (by simp),cN (by simp)];exact⟨hr,rfl⟩
 |true=>
   unfold xE zE;rw[h3,cR rfl,cR rfl]
   by_cases h0:0≤n
   ·have:=Kv x hi r hr n.toNat;rw[dR h0]at this;exact this
   ·rw[show n.toNat=0 by omega];have e1:ix x true n=x:=by unfold ix;rw[cN (by omega)]
    have e2:kZ x true n=false:=by unfold kZ;rw[eI (by omega)];rfl
    rw[e1,e2];exact⟨hr,rfl⟩
def Ba(x:La):Prop:=x.adj.length≤300∧x.pre.length≤100
def Vd{x:La}(h0:0≤x.a)(h1:x.a≤3599):vB (num x.o x.s 0 x)=vB x:=by
 have:dS (num x.o x.s 0 x)↔dS x:=by
  constructor
  ·rintro⟨k1,k2,k3,k4,k5,k6,k7,k8⟩;exact⟨k1,k2,⟨h0,by omega⟩,k4,k5,fun h=>by omega,k7,k8⟩
  ·rintro⟨k1,k2,k3,k4,k5,k6,k7,k8⟩;exact⟨k1,k2,⟨by simp[num],by simp[num]⟩,k4,k5,fun h=>by simp[num]at h,k7,k8⟩
 rw[ga,gH,gH];exact this
def Pc(a:La){x:La}(h0:0≤x.a)(h1:x.a≤3599):kO a (num x.o x.s 0 x)=kO a x:=by
 unfold kO;rw [Vd h0 h1,show oE (num x.o x.s 0 x) = oE x from rfl,show (num x.o x.s 0 x).s = x.s from rfl,show ((num x.o x.s 0 x).a == 3600) = (x.a == 3600) by
  rw [show ((num x.o x.s 0 x).a == 3600) = false from rfl]; symm; rw [kL]; omega]
def Gt(o s a:Int)(x y:La):pL (num o s a x) y=pL x y:=rfl
def Kg(z:Yt)(z':RR):Prop:=Rel z.x z.now z'.r∧z.made=z'.made∧z.err=z'.err∧Inv z.x z.now∧Ba z.x
def Rel.same{x:La}{mk:Bool}{r:RO}(h:Rel x mk r)(hi:Inv x mk)(hl:Ba x)(err:Int):Kg ⟨x,mk,false,err⟩ ⟨r,false,err⟩:=⟨h,rfl,rfl,hi,hl⟩
def Rel.new{x y:La}{r:RO}{mk:Bool}(h:Rel x mk r)(s:Int)(h0:0≤s)(h1:s<1073741824)(hl:Ba y):Kg ⟨num x.o (s+1) 0 y,true,true,0⟩ ⟨⟨r.node,s+1,true,num r.node (s+1) 0 y,0⟩,true,0⟩:=by
 obtain⟨e1,_⟩:=h;refine⟨⟨e1,rfl,rfl,fun _=>⟨by rw[e1];rfl,rfl⟩,fun h=>by simp at h⟩,rfl,rfl,⟨by simp only[num];omega,by simp only[num];omega,by simp[num],by simp[num],.inl (by simp[num])⟩,hl⟩
def KC{x y:La}{mk:Bool}{r:RO}(h:Rel x mk r)(hi:Inv x mk)(hl:Ba x)(hy:Ba y):Kg (ke x mk y) (Cm r y):=by
 obtain⟨e1,e2,e3,e4,e5⟩:=id h;unfold ke Cm;rw[e1,e2,e3]
 by_cases hv:vB (num x.o 1 0 y)=true
 ·rw[cR hv,cR hv];have hc:(mk=true∧pL r.now y=true)↔(mk=true∧pL x y=true):=by
   constructor
   ·rintro⟨a,b⟩;refine⟨a,?_⟩;rw[(e4 a).1,Gt]at b;exact b
   ·rintro⟨a,b⟩;refine⟨a,?_⟩;rw[(e4 a).1,Gt];exact b
  by_cases hm:mk=true∧pL x y=true
  ·rw[cR hm,cR (hc.2 hm)];exact h.same hi hl 0
  ·rw[cN hm,cN (fun h=>hm (hc.1 h))]
   by_cases hf:1073741824≤x.s
   ·rw[cR hf,cR hf];exact h.same hi hl 6
   ·rw[cN hf,cN hf,←e1];have:=h.new (y:=y) x.s hi.1 (by omega) hy;rw[e1]at this ⊢;exact this
 ·rw[cN hv,cN hv];exact h.same hi hl 1
def Ip{x a:La}{mk:Bool}{r:RO}(h:Rel x mk r)(hi:Inv x mk)(hl:Ba x):Kg (gI x mk a) (mN r a):=by
 obtain⟨e1,e2,e3,e4,e5⟩:=id h;obtain⟨i1,i2,i3,i4,i5⟩:=id hi;unfold gI mN;rw[e1,e3]
 by_cases hv:vB a=true∧a.o=x.o
 ·rw[cR hv,cR hv];have b:=(gH.1 hv.1).2.1;cases mk with
  |true=>
    rw[cR rfl,cR rfl,(e4 rfl).1,Pc a i3 i4]
    by_cases hz:kO a x≤0
    ·rw[cR hz,cR hz];exact h.same hi hl 0
    ·rw[cN hz,cN hz]
     by_cases hf:1073741824≤a.s
     ·rw[cR hf,cR hf];exact h.same hi hl 6
     ·rw[cN hf,cN hf];have:=h.new (y:=x) a.s (by omega) (by omega) hl;rw[e1]at this;exact this
  |false=>
    rw[cN (by simp),cN (by simp),e2];refine⟨⟨rfl,rfl,rfl,fun h=>by simp at h,e5⟩,rfl,rfl,⟨by simp only[num];omega,by simp only[num];omega,i3,i4,?_⟩,hl⟩
    rcases i5 with h|h
    ·exact .inl h
    ·exact .inr (by simp only[num];omega)
 ·rw[cN hv,cN hv];exact h.same hi hl 1
def Nf{x:La}{mk:Bool}(n:Int)(hi:Inv x mk)(hl:Ba x):Inv (ix x mk n) mk∧Ba (ix x mk n):=by
 cases mk with
 |false=>
   have e1:ix x false n=x:=by unfold ix;rw[cN (by simp)]
   rw[e1];exact⟨hi,hl⟩
 |true=>
   by_cases h0:0≤n
   ·rw[(sM x n hi h0).1];refine⟨?_,hl⟩
    obtain⟨s0,s1,a0,a1,hc⟩:=hi;have h1:0≤tS x n∧tS x n≤1073741824 - x.s:=by unfold tS;split<;>omega
    have h2:0≤kr (x.a+n - tS x n*1800)∧kr (x.a+n - tS x n*1800)≤3599:=by
     unfold kr tS;split<;>split<;>omega
    have h3:kr (x.a+n - tS x n*1800)<1800∨1073741824≤x.s+tS x n:=by
     unfold kr tS;split<;>split<;>omega
    exact⟨by simp only[num];omega,by simp only[num];omega,h2.1,h2.2,h3⟩
   ·have e1:ix x true n=x:=by unfold ix;rw[cN (by omega)]
    rw[e1];exact⟨hi,hl⟩
def Ml{x:La}{mk:Bool}{r:RO}(h:Rel x mk r):xW x mk=WA r:=by
 obtain⟨e1,e2,e3,e4,e5⟩:=h;unfold xW WA;rw[e3];cases mk with
 |true=>
   rw[cR rfl,cR rfl,(e4 rfl).1,(e4 rfl).2];rfl
 |false=>rw[cN (by simp),cN (by simp),(e5 rfl).1]
end Go.Proofs.YtehimhbgakpenaaGreat.Ro
