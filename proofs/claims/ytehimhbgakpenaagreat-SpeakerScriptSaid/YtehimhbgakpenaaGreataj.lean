/- Lemmas. -/
import Derived.Test.YtehimhbgakpenaaGreatS
import Derived.Test.YtehimhbgakpenaaGreatah
import Derived.Test.YtehimhbgakpenaaGreatai
set_option linter.all false
set_option maxRecDepth 100000
set_option maxHeartbeats 16000000
namespace Go.Proofs.YtehimhbgakpenaaGreat
open Go.RowKit Go.Maps Go.Sort Go.Proofs.Tryz
structure UX (n:Nat) (t:Tp) (S:sv):Prop where
 tp:mE t
 nn:t.n=n
 n1:1≤n
 ok:∀i,i<n→eO (S i)
 tpi:∀i,i<n→(S i).tp=t
 vT:∀i,i<n→jx (S i).db t=t
 vD:∀i,i<n→qb (S i).db 0 t.ln=List.replicate (2*t.ln.length) false
 og:∀i,i<n→eR (S i).db=eR (S 0).db
 sm:∀i,i<n→ ∀(k:Nat) (x y:La),(ku (S 0).db)[k]?=some x→(ku (S i).db)[k]?=some y→kS x y=true
def FY{w:World}{A:cG}{l:List Lx}(h:Rd w A (nr l))(hl:0<l.length):∃b off,A=some ⟨b,off,none⟩:=by
 obtain⟨b,off,e,_⟩:=gE h (by rw[yV];omega);exact⟨b,off,e⟩
def If{B0 Bn:Nat}{w0 w:World}{N:Nm}{n:Nat}{t:Tp}{S:sv}(h:jh B0 Bn w0 w N n t S)(ok:UX n t S) :
  Calls prog 21 #[.pointer (some ⟨N.g,0,none⟩)] w fun e w'=>e= .returned (.bool true)∧cI w w':=by
 have ay:n≤64:=by have:=ok.tp.n;have:=ok.nn;omega
 have aG:=ok.n1;obtain⟨m,hm⟩:∃m,t.ln.length=m:=⟨_,rfl⟩
 have aH:m≤256:=by have:=ok.tp.ln;omega
 have x2:=h.bx.c 2 rfl;rw[hm]at x2;have E:=fun W (hb:cI w W)=>h.below hb
 have MK:∀W:World,(Instr.makeSlice 22 (.int .i64 (2*(m:Int))) (.int .i64 (2*(m:Int)))).run prog W= .ok (.slice (some ⟨W,0,none⟩) (2*m) (2*m)) (W.alloc (.cells (ia (.bool false) (2*m)) 4)):=fun W=>by
  have:=oM (P:=prog) Ua rfl .i64 .i64 (2*m) (2*m) cj (by omega) (by omega) W;simpa using this
 have SX:=(St.start w).iE (ia (.bool false) (2*m)) 4 w (iw (List.replicate (2*m) false)) rfl (by simp[ia,iw]);replace ok:=φ ok;replace hm:=φ hm;replace E:=φ E;clear h;go_in;go_upto_region 2 with fail;generalize World.alloc w _=w2 at *;clear MK x2;go_wp2_with fail;go_loopw [4] (fun v4 wr=>∃(i:Nat),v4= .int .i64 i∧i≤n∧St w wr [(w,iw (List.replicate (2*m) false))] []) (fun v4 _=>n - (intOf v4).toNat)
 case atStart=>exact⟨0,rfl,by omega,SX⟩
 case round=>
  clear SX;obtain⟨i,rfl,hi,SX⟩:=hrel;have NA:=E.out _ SX.b;have x3:=NA.bx.c 3 rfl
  by_cases hin:i<n
  ·obtain⟨b1,l,F,z1⟩:=gE (dQ NA.rp) (by rw[qE];omega);have z:=z1 i _ (pj hin);rw[F]at x3;have VW:=φ (zw wr (N.M i) (S i) N.col (i+1) (NA.sp i hin) (ok.out.ok i hin));clear z1;have F:=φ F;replace NA:=φ NA;go_wp2_with fail;(with_reducible refine(VW.out).mono ?_);rintro e w3 ⟨v,D,cD,rfl,ai,hD,au⟩;clear VW x3 z;rw[(ok.out.tpi i hin),ok.out.vT i hin]at ai;rw[(ok.out.tpi i hin),ok.out.vD i hin]at hD;rw[(ok.out.tpi i hin),hm.out];rw[hm.out]at hD;have C:=ai;obtain⟨A',c1,B',d1,rfl,r1,r2,r3⟩:=ai;obtain⟨ko,hk⟩:=ex t.ov.length;rw[hm.out,hk]at C;replace C:=φ C;replace hD:=φ hD;(try dsimp only);rw[hm.out,hk];clear hk r1 r2 r3;go_upto_region 6 with fail;have R:=cQ w3 (.cells #[t.n,.slice A' ko c1,.slice B' m d1] 25);have S4:=(SX.call au).nw #[t.n,.slice A' ko c1,.slice B' m d1] 25 w3;generalize World.alloc w3 _=w4 at *;have ap:=E.out _ S4.b;obtain⟨kv,U⟩:∃kv,t.ov.length=kv:=⟨_,rfl⟩
   have VS:Hid (∀W,cI w4 W→Calls prog 16 #[.agg #[t.n,.slice A' ko c1,.slice B' m d1],.agg #[t.n,.slice N.O kv N.cO,.slice N.L m N.cL],.slice D (2*m) cD,.slice (some ⟨w,0,none⟩) (2*m) (2*m)] W fun e w'=>e= .returned (.bool true)∧cI W w'):=fun W hb=>by
    have NW:=E.out _ (S4.b.trans (hb.mono S4.b.size));refine uN W _ _ t D _ (2*m) cD (2*m) (List.replicate (2*m) false) ((C.out.below R).below hb) ⟨N.O,N.cO,N.L,N.cL,by rw[U,hm.out],NW.rO.1,NW.rL.1,NW.lT⟩ ((hD.out.below R).below hb) (fq.rd ((S4.call hb).box 1 rfl)) (by simp) (by omega)
   have c0:=cell_regrown (S4.c 0 0 rfl rfl);have av:=cell_regrown (S4.c 0 1 rfl rfl);have c2:=cell_regrown (S4.c 0 2 rfl rfl);obtain⟨d0,X,d2⟩:=ap.bx.b3;rw[U]at X;rw[hm.out]at d2;replace U:=φ U;replace d0:=cell_regrown d0;replace X:=cell_regrown X;replace d2:=cell_regrown d2;clear C hD R ap;refine wp_region_quiet_below (by kernel_rfl) (by kernel_rfl) ?_
   repeat (go_big_quiet_step (first|(go_at_call 16;with_reducible exact Calls.regrown_of (VS.out _ (below_regrown _ _ _)))))
   refine fI ?_;intro _ ab;obtain⟨⟨dq,G⟩,H⟩:=ab;subst H;have S5:=(S4.call (below_regrown _ dq G)).dX [(w,iw (List.replicate (2*m) false))] (by simp);clear c0 av c2 d0 X d2 VS S4;generalize grow (redrawn _ dq) G=w5 at *;go_upto_region 8 with fail;have T:=E.out _ S5.b;obtain⟨b1,l,F,z1⟩:=gE (dQ T.rp) (by rw[qE];omega);have z0:=z1 0 _ (pj (show 0<n by omega));rw[fM]at z0;have aI:0<n:=by omega
   have zi:=z1 i _ (pj hin);have x3:=T.bx.c 3 rfl;rw[F]at x3;have Q:=(ok.out.ok 0 (by omega)).db;have J:=(ok.out.ok i hin).db;have Z:=φ (fun W (hb:cI w5 W)=>vh W (N.M 0) (S 0) N.col (0+1) ((T.sp 0 (by omega)).below hb) Q);have Y:=φ (fun W (hb:cI w5 W)=>vh W (N.M i) (S i) N.col (i+1) ((T.sp i hin).below hb) J);obtain⟨no,u⟩:∃no,(eR (S 0).db).length=no:=⟨_,rfl⟩
   have aq:no≤64:=by rw[←u];exact lg _
   have r:(eR (S i).db).length=no:=by rw[ok.out.og i hin];exact u
   unfold re at Z Y;rw[u]at Z;rw[r]at Y;have am:Hid ((ku (S 0).db).length=no):=by unfold ku;rw[dh];exact u
   have al:Hid ((ku (S i).db).length=no):=by unfold ku;rw[dh];exact r
   replace u:=φ u;replace r:=φ r;clear T z1 F Q J;refine gF (S:=fun w'=>w'.cell? ⟨N.g,3,none⟩=some (.slice (some ⟨b1,l,none⟩) n N.c1)∧w'.cell? ⟨b1,l,none⟩=some (.pointer (some ⟨(N.M 0).g,0,none⟩))∧w'.cell? ⟨b1,l+i,none⟩=some (.pointer (some ⟨(N.M i).g,0,none⟩))) ⟨x3,z0,zi⟩ (fun k=>?_);refine tF 0 47 ?_;refine tF 1 48 ?_;refine tF 2 49 ?_;refine tF 3 50 ?_;refine tF 4 51 ?_;refine tF 5 52 ?_;refine tF 7 54 ?_;refine tF 8 55 ?_;refine tF 9 56 ?_;refine tF 10 57 ?_;refine tF 11 58 ?_;refine tF 12 59 ?_;refine tF 13 60 ?_;refine rF 6 (fun K hK=>?_);go_simp;(with_reducible refine(Z.out _ bd).mono ?_);rintro e wa ⟨A6,c6,ld,rfl,o6,ah,aj,ak⟩;dsimp only;have f:cI w5 wa:=bd.trans ak;refine hK.out _ _ ⟨cW f x3,cW f z0,cW f zi⟩ (fun k=>?_);clear hK K;refine rF 14 (fun K hK=>?_);go_simp;(with_reducible refine(Y.out _ f).mono ?_);rintro e wb ⟨A8,c8,le,rfl,o8,I,aa,V⟩;dsimp only;have j:cI w5 wb:=f.trans (V.mono f.size);refine hK.out _ _ ⟨cW j x3,cW j z0,cW j zi⟩ (fun k=>?_);clear hK K;refine tV 15 7 (.slice A6 no c6) ?_
   refine tV 16 8 (.slice A8 no c8) ?_
   refine dF ?_;have SB:=S5.call j;have r6:=φ (dQ (dg o6 V));have r8:=φ (dQ o8);have k6:Hid (∀s∈ld,jD wb s):=fun s hs=>(fh.below (aj s hs) V).at
   have k8:Hid (∀s∈le,jD wb s):=fun s hs=>(aa s hs).ok
   have ar:Hid (ld.length=no):=by
    have:=dU List.length ah;show _=_
    rw[←am.out];simpa[pz]using this
   have hle:Hid (le.length=no):=by
    have:=dU List.length I;show _=_
    rw[←al.out];simpa[pz]using this
   have ac:Hid (∀(q:Nat) (h1:q<ld.length) (h2:q<le.length),kS ld[q].y le[q].y=true):=fun q h1 h2=>by
    refine ok.out.sm i hin q _ _ ?_ ?_
    ·rw[←ah];simp[pz,cM h1]
    ·rw[←I];simp[pz,cM h2]
   have e2:((no:Int) !=(no:Int))=false:=by simp
   clear k o6 o8 aj aa ak V f j x3 z0 zi Z Y S5 ah I;go_wp2_with fail;clear e2;go_loopw [9] (fun v9 wr=>∃(q:Nat),v9= .int .i64 q∧q≤no∧Hid (Rd wr A6 (nr ld))∧Hid (Rd wr A8 (nr le))∧Hid (∀s∈ld,jD wr s)∧Hid (∀s∈le,jD wr s)∧St w wr [(w,iw (List.replicate (2*m) false))] []) (fun v9 _=>no - (intOf v9).toNat)
   case atStart=>exact⟨0,rfl,by omega,r6,r8,k6,k8,SB⟩
   case round=>
    clear r6 r8 k6 k8 SB;obtain⟨q,rfl,hq,r6,r8,k6,k8,Sb⟩:=hrel
    by_cases hqn:q<no
    ·have ag:q<ld.length:=by rw[ar.out];exact hqn
     have af:q<le.length:=by rw[hle.out];exact hqn
     have p:=ac.out q ag af;obtain⟨b6,ax,rfl⟩:=FY r6.out (by omega);obtain⟨b8,aw,rfl⟩:=FY r8.out (by omega);have v6:=k6.out _ (di ag);have v8:=k8.out _ (di af);obtain⟨s6,ae⟩:∃s,ld[q]=s:=⟨_,rfl⟩
     obtain⟨s8,ad⟩:∃s,le[q]=s:=⟨_,rfl⟩
     obtain⟨c0,c1,c2,c3,c4,c5⟩:=nH r6.out q ag s6 ae;obtain⟨d0,d1,d2,d3,d4,d5⟩:=nH r8.out q af s8 ad;rw[ae]at p v6;rw[ad]at p v8;have EQ:Hid (∀W,cI wr W→Calls prog 62 #[ig s6.y.o s6.y.s s6.y.a s6.y.ov s6.A s6.y.adj.length s6.c s6.B s6.y.pre.length s6.d,ig s8.y.o s8.y.s s8.y.a s8.y.ov s8.A s8.y.adj.length s8.c s8.B s8.y.pre.length s8.d] W fun e w'=>e= .returned (.bool true)∧cI W w'):=fun W hb=>by
      unfold jD at v6 v8;have:=sO W _ _ s6.y s8.y (v6.below hb) (v8.below hb)
      rwa[p]at this
     replace c0:=cell_regrown c0;replace c1:=cell_regrown c1;replace c2:=cell_regrown c2;replace c3:=cell_regrown c3;replace c4:=cell_regrown c4;replace c5:=cell_regrown c5;replace d0:=cell_regrown d0;replace d1:=cell_regrown d1;replace d2:=cell_regrown d2;replace d3:=cell_regrown d3;replace d4:=cell_regrown d4;replace d5:=cell_regrown d5;have l6:=r6.out;have l8:=r8.out;have m6:Hid (∀W,cI wr W→ ∀s∈ld,jD W s):=fun W hb s hs=>by
      have:=k6.out s hs;unfold jD at this ⊢;exact this.below hb
     have m8:Hid (∀W,cI wr W→ ∀s∈le,jD W s):=fun W hb s hs=>by
      have:=k8.out s hs;unfold jD at this ⊢;exact this.below hb
     clear p v6 v8 ae ad r6 r8 k6 k8;obtain⟨⟨yo,ys,ya,az,yj,yp⟩,sA,sc,sB,sd⟩:=s6;obtain⟨⟨aD,ts,ta,aC,tj,tp⟩,tA,tc,tB,td⟩:=s8;dsimp only at *;generalize yj.length=aB at *;generalize yp.length=aA at *;generalize tj.length=aF at *;generalize tp.length=aE at *;have ao:=Sb;clear Sb;go_upto_region 14 with fail;refine wp_region_quiet_below (by kernel_rfl) (by kernel_rfl) ?_
     repeat (go_big_quiet_step (first|(go_at_call 62;with_reducible exact Calls.regrown_of (EQ.out _ (below_regrown _ _ _)))))
     refine fI ?_;intro _ ab;obtain⟨⟨dq,G⟩,H⟩:=ab;subst H;have x:=below_regrown wr dq G;have S9:=ao.call x;have n6:=φ (l6.below x);have n8:=φ (l8.below x);have p6:=φ (m6.out _ x);have p8:=φ (m8.out _ x);clear EQ c0 c1 c2 c3 c4 c5 d0 d1 d2 d3 d4 d5 l6 l8 m6 m8 ao x;generalize grow (redrawn wr dq) G=w9 at *;go_wp2;go_round
     case rel=>exact⟨q+1,by go_num,by omega,n6,n8,p6,p8,S9⟩
     case measure=>simp[intOf];omega
    ·obtain rfl:no=q:=by omega
     clear r6 r8 k6 k8;go_wp2;go_round
     case rel=>exact⟨i+1,by go_num,by omega,Sb⟩
     case measure=>simp[intOf];omega
  ·have hb9:=SX.b;clear SX NA;go_wp2;go_ret;exact⟨rfl,hb9⟩
def QR(t:Tp)(j:Nat):Po:=G6 (yA t (j:Int))
def Oo(t:Tp)(z:Int):((outs t z).map (yA t)).map G6=((List.range (2*t.ln.length)).filter fun i=>decide (Dr t.ln i=z)).map (QR t):=by
 unfold outs wE;rw[jv,jv];rfl
def Fs(t:Tp)(j:Nat):(QR t j).l=((j / 2:Nat):Int):=by
 show(j:Int) / 2=_
 omega
def HQ{t:Tp}{j i:Nat}(hj:j<2*t.ln.length)(h:Dr t.ln j=(i:Int)):∃x,t.ln[j / 2]?=some x∧((j % 2=0∧x.a=i∧(QR t j).o=x.b∧(QR t j).c=x.c)∨(j % 2=1∧x.b=i∧(QR t j).o=x.a∧(QR t j).c=x.d)):=by
 have hk:j / 2<t.ln.length:=by omega
 have he:t.ln[j / 2]?=some t.ln[j / 2]:=cM hk;refine⟨t.ln[j / 2],he,?_⟩
 unfold Dr at h;rw[he]at h;have e1:(QR t j).o=nD t.ln[j / 2] (!decide (j % 2=1)):=by
  show QW t.ln (j:Int).toNat=_
  rw[cU];unfold QW;rw[he]
 have e2:(QR t j).c=uT t.ln[j / 2] (decide (j % 2=1)):=by
  show QX t.ln (j:Int).toNat=_
  rw[cU];unfold QX;rw[he]
 rw[e1,e2];simp only at h
 by_cases hp:j % 2=1
 ·right;simp only[hp,decide_true,nD,uT]at h ⊢;simp at h ⊢;exact h
 ·left;simp only[hp,decide_false,nD,uT]at h ⊢;simp at h ⊢;exact⟨by omega,h⟩
def Fv{t:Tp}(hT:mE t)(i:Nat):Yq t i (((outs t i).map (yA t)).map G6):=by
 rw[Oo];refine⟨fun p hp=>?_,fun k x hx hi=>?_,?_⟩
 ·obtain⟨j,hj,rfl⟩:=dL.1 hp;rw[dW,ec,fa]at hj;obtain⟨x,h1,h2⟩:=HQ hj.1 hj.2;rw[Fs,cU];refine⟨by omega,x,h1,?_⟩
  rcases h2 with ⟨_,a,b,c⟩|⟨_,a,b,c⟩
  ·exact .inl ⟨a,b,c⟩
  ·exact .inr ⟨a,b,c⟩
 ·have hk:k<t.ln.length:=(dj.1 hx).1;rcases hi with hi|hi
  ·refine⟨QR t (2*k),dL.2 ⟨2*k,?_,rfl⟩,by rw[Fs];omega⟩
   rw[dW,ec,fa];refine⟨by omega,?_⟩
   unfold Dr;rw[show 2*k / 2=k by omega,hx];simp only[nD];rw[cN (by simp)];exact hi
  ·refine⟨QR t (2*k+1),dL.2 ⟨2*k+1,?_,rfl⟩,by rw[Fs];omega⟩
   rw[dW,ec,fa];refine⟨by omega,?_⟩
   unfold Dr;rw[show(2*k+1) / 2=k by omega,hx];simp only[nD];rw[cR (by simp)];exact hi
 ·rw[gM];refine WY (fun {a b} ha hb d=>?_) (ju.filter _);rw[dW,ec,fa]at ha hb;rw[Fs,Fs];obtain⟨x,h1,h2⟩:=HQ ha.1 ha.2;obtain⟨y,h3,h4⟩:=HQ hb.1 hb.2;rcases Yz (a / 2) (b / 2)with h5|h5
  ·omega
  ·have e:a / 2=b / 2:=by omega
   rw[e,h3]at h1;injection h1 with h1
   subst h1;have:=(F3 hT h3).ne;omega
def rG{t:Tp}{z:Int}{p:Po}(h:p∈((outs t z).map (yA t)).map G6):Ys p 0 0 0:=by
 obtain⟨q,hq,rfl⟩:=dL.1 h;exact⟨rfl,rfl,rfl⟩
def GH{ps:List Po}(h:∀p∈ps,Ys p 0 0 0):gW ps= []:=by
 unfold gW;rw[List.filterMap_eq_nil_iff];intro p hp;rw[(h p hp).1];simp
def Nt(a:La)(z:Int):lX IV a z=IV:=by
 unfold lX;split
 ·rfl
 ·rfl
def DS{t:Tp}{z:Int}(h0:0≤z)(h1:z≤63)(a b c:Int):qI t z a b c= { gz t z a b c with x:=yF z (yR t z.toNat),md:=true,db:=fun i=>if i=z.toNat then some ⟨yF z (yR t z.toNat),60⟩else none }:=by
 have e:ke (gz t z a b c).x (gz t z a b c).md (jS (gz t z a b c))=⟨yF z (yR t z.toNat),true,true,0⟩:=by
  have h2:gW (gz t z a b c).ps= []:=GH fun p hp=>rG hp
  unfold jS;rw[h2];exact Jm h0 h1 _
 have hv:=nA (xN h0 h1 (yR t z.toNat));have e2:instN ML (yF z (yR t z.toNat))=fun i=>if i=z.toNat then some ⟨yF z (yR t z.toNat),60⟩else none:=by
  unfold instN;rw[cR ⟨hv,by simp[instR,hv]⟩];rfl
 unfold qI ft;rw[e,cR rfl];unfold nF xW;simp only[gy];rw[show instN (gz t z a b c).db (yF z (yR t z.toNat))=_ from e2,show lX (gz t z a b c).fl (yF z (yR t z.toNat)) (-1)=(gz t z a b c).fl from Nt _ _]
def DR{t:Tp}(hT:mE t){i:Nat}(hi:(i:Int)<t.n){h1 h2 h3:Int}(g:MC h1 h2 h3=true):eO (qI t i h1 h2 h3):=by
 have hn:=hT.n;have hb:((1≤h1∧h1≤65536)∧(1≤h2∧h2≤65536))∧(1≤h3∧h3≤65536):=by
  simp only[MC,jI,dD,fa]at g;omega
 have hp:=Fv hT i;rw[DS (by omega) (by omega)];have hv:=xN (node:=(i:Int)) (by omega) (by omega) (yR t ((i:Int)).toNat);have hl:=VF hp;refine⟨hT,⟨by simp[gz],hi⟩,⟨by simp[gz],by simp[gz]⟩,hb.1.1,hb.1.2,hb.2,by simp[gz],fun p f=>?_,?_,?_,by simp[gz],fun o h e=>?_,fun j hj=>?_,fun l D o h e=>by simp[gz,IV]at e,fun l=>?_,rfl,⟨by simp[yF],by simp[yF]⟩,⟨by simp[yF],by simp[yF]⟩,rfl,hv,⟨by simp[yF],by simp[yF]⟩⟩
 ·obtain⟨a1,x,a2,a3⟩:=hp.mem p f;obtain⟨z1,z2,z3⟩:=rG f;have hx:=F3 hT a2;have hk:=(dj.1 a2).1;have:=hT.ln;have ha:=hx.a;have hb:=hx.b;have hc:=hx.c;have hd:=hx.d;refine⟨⟨a1,by omega⟩,⟨by omega,by omega⟩,⟨by omega,by omega⟩,?_,⟨by omega,by omega⟩⟩
  rw[z1,z2];rfl
 ·unfold List.Nodup;rw[gM];refine hp.inc.imp fun {p q} h=>?_
  omega
 ·have:=hT.ln;show(((outs t i).map (yA t)).map G6).length≤512
  omega
 ·simp only at e;split at e
  ·next ho=>
   injection e with e
   subst e;exact⟨hv,by simp only[yF];omega,by simp,by simp⟩
  ·cases e
 ·simp only;rw[cN (by omega)]
 ·refine⟨fun h=>by simp[gz,IV]at h,fun⟨p,f,_,h⟩=>?_⟩
  have:=(rG f).1;omega
def SmP(w:World)(t:Tp)(h1 h2 h3:Int)(e:Ending)(w':World):Prop:=∃r,e= .returned (.bool r)∧(r=true→mE t∧MC h1 h2 h3=true∧t.ln.length≤12)∧cI w w'
def KA(w:World)(v:Value)(t:Tp)(ht:js w v t)(h1 h2 h3:Int) :
  Calls prog 6 #[v,.agg #[h1,h2,h3]] w (SmP w t h1 h2 h3):=by
 have a:=ht;obtain⟨A,c,B,d,rfl,rA,rB,l1,l2⟩:=ht;have S:=((St.start w).nw #[t.n,.slice A t.ov.length c,.slice B t.ln.length d] 25 w).nw #[h1,h2,h3] 27 (w.heap.size+1);have TV:=φ (Ff _ _ t (a.below S.b));have hT:tB t=true→mE t:=Nj.1;clear rA rB l1 l2 a;have a0:=(S.box 1 rfl).b3;go_in;go_wp2_with fail;refine TV.out.mono ?_;rintro e w1 ⟨rfl,hb⟩;replace S:=S.call hb;clear TV hb a0;generalize t.ov.length=ko at *;generalize hm:t.ln.length=m at *;replace hm:=φ hm;generalize tB t=b1 at *;have a0:=(S.box 1 rfl).b3;obtain⟨b0,g,b2⟩:=(S.box 0 rfl).b3;rcases b1 with _|_
 ·have hb9:=S.b;clear S;go_wp2;go_ret;exact⟨false,rfl,fun h=>absurd h (by decide),hb9⟩
 replace hT:=φ (hT rfl);rcases e1:decide (t.n≤8)with _|_
 ·have hb9:=S.b;clear S;go_wp2;go_ret;exact⟨false,rfl,fun h=>absurd h (by decide),hb9⟩
 rcases e2:decide ((m:Int)≤12)with _|_
 ·have hb9:=S.b;clear S;go_wp2;go_ret;exact⟨false,rfl,fun h=>absurd h (by decide),hb9⟩
 have f:=φ (show t.ln.length≤12 by rw[hm.out];have:=fS e2;omega);go_wp2_with fail;refine (Ko _ h1 h2 h3).mono ?_;rintro e w2 ⟨rfl,hb⟩;clear a0 b0;replace S:=S.call hb;have b0:=(S.box 0 rfl).b3;have hb9:=S.b;clear S hb;rcases e3:MC h1 h2 h3 with _|_
 ·go_wp2;go_ret;exact⟨false,rfl,fun h=>absurd h (by decide),hb9⟩
 replace e3:=φ e3;go_wp2_with fail
 all_goals
  go_ret;exact⟨_,rfl,fun _=>⟨hT,e3,f⟩,hb9⟩
def pT:Tp:=⟨2,[false,false],[⟨0,1,3,4,1,1,0⟩]⟩
def OB(w:World):Calls prog 27 #[] w fun e w'=>∃v,e= .returned v∧js w' v pT∧cI w w':=by
 have MK:∀W:World,(Instr.makeSlice 22 (.int .i64 2) (.int .i64 2)).run prog W= .ok (.slice (some ⟨W,0,none⟩) 2 2) (W.alloc (.cells #[false,false] 4)):=fun W=>by
  have:=oM (P:=prog) Ua rfl .i64 .i64 2 2 cj (by omega) (by omega) W;simpa[ia]using this
 go_in;go_wp2_with fail;have S:=(((St.start w).nw #[.int .i64 2,.slice (some ⟨w.heap.size+1,0,none⟩) 2 2,.slice (some ⟨w.heap.size+1+1,0,none⟩) 1 1] 25 w).nw #[false,false] 4 (w.heap.size+1)).nw #[i0,.int .i64 1,.int .i64 3,.int .i64 4,.int .i64 1,.int .i64 1,i0] 79 (w.heap.size+1+1);generalize World.alloc (World.alloc (World.alloc w _) _) _=w1 at *;have k0:=(S.box 2 rfl).b3;have a:js w1 (.agg #[.int .i64 2,.slice (some ⟨w.heap.size+1,0,none⟩) 2 2,.slice (some ⟨w.heap.size+1+1,0,none⟩) 1 1]) pT:=⟨_,_,_,_,rfl,fq.rd (S.box 1 rfl),fq.rd (S.box 0 rfl),by simp[pT,maxLen],by simp[pT,maxLen]⟩
 exact dc (v:=.agg #[.int .i64 2,.slice (some ⟨w.heap.size+1,0,none⟩) 2 2,.slice (some ⟨w.heap.size+1+1,0,none⟩) 1 1]) (by simp[results,results27,go_sem,k0]) rfl ⟨_,rfl,a,S.b⟩
def FE:mE pT:=⟨by decide,by decide,by decide,fun x hx=>by
 simp only[pT,ew]at hx;subst hx;constructor <;> decide⟩
end Go.Proofs.YtehimhbgakpenaaGreat
