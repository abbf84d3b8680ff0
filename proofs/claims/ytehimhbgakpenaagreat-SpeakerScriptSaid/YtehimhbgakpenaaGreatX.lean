/- Lemmas. -/
import Derived.Test.YtehimhbgakpenaaGreatT
set_option linter.all false
set_option maxRecDepth 100000
set_option maxHeartbeats 16000000
namespace Go.Proofs.YtehimhbgakpenaaGreat.Fd
open Go.RowKit Go.Maps Go.Sort
def AW(w:World)(g b:Nat)(iv:Int)(N:Fn)(f:Nat→Nat)(e:Ending)(w':World):Prop :=
 ∃A c ls,e= .returned (.slice A ls.length c)∧w'.ownsRow w 263 7 (.slice A ls.length c) ls.length (Fc ls)∧Hy ls=oU N (iA N)∧(∀s∈ls,qY w' w s.x)∧fR w' g b iv (wB iv N) f∧Kf (FS N f) w w'
def LS(w:World)(g b:Nat)(iv:Int)(N:Fn)(f:Nat→Nat)(h:fR w g b iv N f)(aK:pI N) :
  Calls Tryz.prog 150 #[pt g] w (AW w g b iv N f):=by
 have O:=vx w g b iv N f h;unfold nQ at O;obtain⟨len,hlen⟩:=ex ((iA N).length)
 have bj:len≤256:=by rw[←hlen];exact wK N
 rw[hlen]at O;replace O:=φ O;go_in;go_wp2_with fail;(with_reducible refine O.out.mono ?_);rintro e w1 ⟨A,c,rfl,og,hb⟩;clear O;have hF:=h.below hb;have ar:=hb.size;have a8:Hid (∀wr AS cS ls,gS w1 wr g b N f (nG iv N len)→wr.ownsRow w1 263 7 (.slice AS ls.length cS) ls.length (Fc ls)→Hy ls=oU N (iA N)→(∀s∈ls,qY wr w1 s.x)→AW w g b iv N f (.returned (.slice AS ls.length cS)) wr):=fun wr AS cS ls hm ho hp hx=>by
  have h1:=hm.fin hF (fun i _=>Ct iv N len i);refine⟨AS,cS,ls,rfl,dx ho ar,hp,fun s hs=>fh.UA (hx s hs) ar,?_,((Kf.refl _ w).below hb).trans hm.kf⟩
  refine⟨h1.c0,h1.c1,?_,fun i hi D hD=>h1.el i hi D (by rw[←hlen,Fw iv N i hi];exact hD),fun i hi hs=>hF.ne i hi (by simpa[wB]using hs),fun i j hi hj hs bf=>hF.inj i j hi hj (by simpa[wB]using hs) (by simpa[wB]using bf)⟩
  have e:sF (wB iv N) f=sF (nG iv N len) f:=by
   funext z
   unfold sF
   by_cases hz:0≤z∧z<256
   ·rw[cR hz,cR hz,←hlen,Fw iv N z.toNat (by omega)]
   ·rw[cN hz,cN hz]
  rw[e];exact h1.nb
 have d:Hid (gS w1 w1 g b N f (nG iv N 0)):=by rw[K9];exact hF.XO
 have n:Hid (Es w w1 w1 A len c (iA N) none 0 0 [] sn []):=⟨by rw[hlen]at *;exact og,cn,cn,by simp⟩
 have r:Hid (Hy []=oU N ((iA N).take 0)):=rfl;change Hid _ at aK hlen;replace hF:=φ hF;clear h og hb;go_wp2_with fail;go_loopw [3,13] (fun v3 aD wr=>∃(k:Nat) (AS:cG) (cS:Nat) (ls:List Sd),aD= .int .i64 k∧v3= .slice AS ls.length cS∧k≤len∧ls.length≤64*k∧Hid (gS w1 wr g b N f (nG iv N k))∧Hid (Es w w1 wr A len c (iA N) none 0 0 [] (.slice AS ls.length cS) ls)∧Hid (Hy ls=oU N ((iA N).take k))) (fun _ aD _=>len - (intOf aD).toNat)
 case atStart=>exact⟨0,none,0,[],rfl,rfl,by omega,by simp,d,n,r⟩
 case round=>
  clear d n r;obtain⟨k,AS,cS,ls,rfl,rfl,hk,bi,d,n,r⟩:=hrel
  by_cases hkn:k<len
  ·have U:k< (iA N).length:=by rw[hlen.out];exact hkn
   have t:=(jQ (N:=N) (iA N)[k]).1 (di U);obtain⟨q,hq⟩:=de t.1.1;have v:q<256:=by have:=t.1.2;omega
   have aH:(N q).isSome=true:=by have:=t.2;rwa[hq,cU]at this
   obtain⟨D,hD⟩:=dC.1 aH;have a9:=Jy iv N k U q hq;have L:=Lc iv N k U q hq hD;have ac:=Kz N k U q hq hD;obtain⟨M,hm,he⟩:=d.out.el q v D (by rw[a9,hD]);have a7:=vq he;have H:Rd wr A ((iA N).map encZ):=dQ n.out.o1;obtain⟨bz,X,rfl,hz⟩:=gE H (by simp only[dh];omega);have z0:=hz k _ (by rw[eJ,cM U];rfl);rw[hq]at z0;unfold encZ at z0;have x1:=d.out.c1;have bb:(Lit.int .i64 (q:Int)).wf=true:=lW (by omega) (by omega);have K1:=d.out.nb.mM G7 bb;rw[rK v,hD]at K1;simp only[Option.map_some,Option.getD_some]at K1;have SO:=EZ wr (f q) 64 M hm (by omega);unfold mW at SO;rw[a7]at SO;obtain⟨no,R⟩:=ex ((eR D).length)
   have bh:no≤64:=by rw[←R];exact lg D
   rw[R]at SO;change Hid _ at L ac hq R;replace SO:=φ SO;have bo:=φ U;clear hz H t a9 hm he a7;go_wp2_with fail;(with_reducible refine(LJ _ _).mono ?_);rintro e w4 ⟨rfl,rfl⟩;go_wp2_with fail;(with_reducible refine SO.out.mono ?_);rintro e w5 ⟨A2,c2,rfl,aS,V⟩;clear SO K1 x1 z0;have aP:=(cQ wr (.cells #[.map (some (f q))] 228)).trans (V.mono (by simp));have ae:Hid (gS w1 w5 g b N f (eY (nG iv N k) q (nR iv D 0))):=by
    have h1:=d.out.below aP;have e:eY (nG iv N k) q (nR iv D 0)=nG iv N k:=by
     rw[Ld]
     funext j
     unfold eY
     by_cases e:j=q
     ·subst e;rw[cR rfl,Jy iv N k U j hq.out,hD]
     ·rw[cN e]
    rw[e];exact h1
   have bm:w1.heap.size≤wr.heap.size:=d.out.kf.size;have aw:Hid (Es w w1 w5 (some ⟨bz,X,none⟩) len c (iA N) A2 no c2 (eR D) (.slice AS ls.length cS) ls):=by
    have h1:=n.out.below aP;exact⟨h1.o1,dx aS (by simp;omega),h1.os,h1.ok⟩
   have au:Hid (Hy ls=oU N ((iA N).take k)++si (q:Int) D ((eR D).take 0)):=by
    show _=_
    rw[r.out];simp[si]
   clear d n r aS V aP;go_wp2_with fail;go_loopw [3,27] (fun v3 v27 wx=>∃(j:Nat) (AS:cG) (cS:Nat) (ls:List Sd),v27= .int .i64 j∧v3= .slice AS ls.length cS∧j≤no∧ls.length≤64*k+j∧Hid (gS w1 wx g b N f (eY (nG iv N k) q (nR iv D j)))∧Hid (Es w w1 wx (some ⟨bz,X,none⟩) len c (iA N) A2 no c2 (eR D) (.slice AS ls.length cS) ls)∧Hid (Hy ls=oU N ((iA N).take k)++si (q:Int) D ((eR D).take j))) (fun _ v27 _=>no - (intOf v27).toNat)
   case atStart=>exact⟨0,AS,cS,ls,rfl,rfl,by omega,by omega,ae,aw,au⟩
   case round=>
    clear ae aw au;obtain⟨j,AS,cS,ls,rfl,rfl,hj,bi,d,n,r⟩:=hrel
    by_cases hjn:j<no
    ·have J:j< (eR D).length:=by rw[R.out];exact hjn
     have t:=(jf (D:=D) (eR D)[j]).1 (di J);obtain⟨o,ho⟩:=de t.1.1;have aZ:o<64:=by have:=t.1.2;omega
     obtain⟨hh,ab⟩:∃hh,D o=some hh:=by
      have:=t.2;rw[ho,cU]at this;exact dC.1 this
     have aF:Hid (∀i,i<256→(eY (nG iv N k) q (nR iv D j) i).isSome=true→(N i).isSome=true):=fun i hi hs=>by
      unfold eY at hs;split at hs
      ·next e=>rw[e];exact aH
      ·rwa[Ct]at hs
     obtain⟨M,hm,he⟩:=d.out.el q v (nR iv D j) (by unfold eY;rw[cR rfl]);have vL:=he o aZ;rw[Jz iv D j J o ho,ab]at vL;obtain⟨Mv,ap⟩:=ex (M (o:Int))
     rw[ap]at vL;cases Mv with
     |none=>exact vL.elim
     |some vv=>
     obtain⟨A5,c5,B5,d5,rfl,ag⟩:=vL;have bc:(Lit.int .i64 (o:Int)).wf=true:=lW (by omega) (by omega);have K2:=hm.mM Oy bc;rw[ap]at K2;simp only[Option.getD_some]at K2;have H:Rd wr A2 ((eR D).map encZ):=dQ n.out.o2;obtain⟨bl,aT,rfl,hz⟩:=gE H (by simp only[dh];omega);have z0:=hz j _ (by rw[eJ,cM J];rfl);rw[ho]at z0;unfold encZ at z0;have V:=aK.out q D o hh hD ab;have ba:=d.out.kf.kq hF.out.maps;have af:=ba.la ag.1;replace ag:=φ ag;replace V:=φ V;unfold vM at K2;change Hid _ at hm he ap;have bp:=φ J;replace ho:=φ ho;clear hz H t ba
     by_cases hll:0<hh.l
     ·have aX:Hid (eY (nG iv N k) q (nR iv D (j+1))=eY (nG iv N k) q (nR iv D j)):=by
       show _=_
       rw[Le iv D j J o ho.out ab hll]
      have P:=RI (q:Int) D j J o ho.out ab hll;rw[←aX.out]at d;rw[←P]at r;have K:=cQ wr (.cells #[hh.x.o,hh.x.s,hh.x.a,hh.x.ov,.slice A5 hh.x.adj.length c5,.slice B5 hh.x.pre.length d5,hh.l] 231);have u:=fq.iE wr #[hh.x.o,hh.x.s,hh.x.a,hh.x.ov,.slice A5 hh.x.adj.length c5,.slice B5 hh.x.pre.length d5,hh.l] 231 wr _ rfl rfl;replace d:=φ (d.out.below K);replace n:=φ (n.out.below K);clear aX P hm he af K;go_upto_region 10 with fail;clear K2 z0;generalize World.alloc wr _=w6 at *;generalize wr.heap.size=g6 at *;have a6:=u.c 6 rfl;clear u;go_wp2;go_round
      case rel=>exact⟨j+1,AS,cS,ls,by go_num,rfl,by omega,by omega,d,n,r⟩
      case measure=>simp[intOf];omega
     ·have P:=Nw (q:Int) D j J o ho.out ab hll;have al:=Cu iv D j J o ho.out ab;have bq:=V.out.1.2.2.2.1;have bn:=V.out.1.2.2.2.2.1;have C:=fun W hb=>py 178 (.inr rfl) W _ hh.x (af.below hb) (by omega) (by omega)
      replace C:=φ C;have K:=cQ wr (.cells #[hh.x.o,hh.x.s,hh.x.a,hh.x.ov,.slice A5 hh.x.adj.length c5,.slice B5 hh.x.pre.length d5,hh.l] 231);have u:=fq.iE wr #[hh.x.o,hh.x.s,hh.x.a,hh.x.ov,.slice A5 hh.x.adj.length c5,.slice B5 hh.x.pre.length d5,hh.l] 231 wr _ rfl rfl;have ak:∃cs fr,(wr.alloc (.cells #[hh.x.o,hh.x.s,hh.x.a,hh.x.ov,.slice A5 hh.x.adj.length c5,.slice B5 hh.x.pre.length d5,hh.l] 231)).heap[wr.heap.size]?=some (.cells cs 231 fr):=⟨_,_,ib wr _⟩
      have bk:w1.heap.size≤wr.heap.size:=d.out.kf.size;replace d:=φ (d.out.below K);replace n:=φ (n.out.below K);have C6:=C.out _ K;change Hid _ at P al;replace C6:=φ C6;clear hm he af K C;go_upto_region 10 with fail;clear K2 z0;generalize World.alloc wr _=w6 at *;generalize wr.heap.size=g6 at *;have a0:=u.c 0 rfl;have a1:=u.c 1 rfl;have a2:=u.c 2 rfl;have a3:=u.c 3 rfl;have a4:=u.c 4 rfl;have a5:=u.c 5 rfl;have a6:=u.c 6 rfl;have bt:decide (0<hh.l)=false:=by simpa using hll
      go_wp2_with fail;(with_reducible refine C6.out.mono ?_);rintro e w7 ⟨v7,rfl,ax,aj⟩;clear a0 a1 a2 a3 a4 a5 a6 C6;have aV:w1.heap.size≤w6.heap.size:=d.out.kf.size;have Q:fh w7 w1 v7 hh.x:=ax.UA aV;replace d:=φ (d.out.below aj);replace n:=φ (n.out.below aj);replace u:=u.later aj;replace ak:=EI ak aj;obtain⟨A7,c7,B7,d7,be⟩:=Q.at.form;subst be;have aa:=cQ w7 (.cells #[(q:Int),hh.x.o,hh.x.s,hh.x.a,hh.x.ov,.slice A7 hh.x.adj.length c7,.slice B7 hh.x.pre.length d7] 263);have aR:=Rd.lit w7 #[(q:Int),hh.x.o,hh.x.s,hh.x.a,hh.x.ov,.slice A7 hh.x.adj.length c7,.slice B7 hh.x.pre.length d7] 263;have B:qY _ w1 ⟨hh.x,A7,c7,B7,d7⟩:=fh.below Q aa;have I:=n.out.below aa;have y:=d.out.below aa;have Z:=u.later aa;have G:=EI ak aa;have aJ:=I.os;have aU:=y.kf.size;clear ax Q d n u ak aj aa;change Hid _ at B I G;replace y:=φ y;replace Z:=φ Z;have ay:=RW ⟨(q:Int),⟨hh.x,A7,c7,B7,d7⟩⟩;have aC:ls.length+1≤maxLen:=by simp only[maxLen];omega
      have aB:(ls.length+1)*88≤140737488355328:=by omega
      go_upto_region 12 with (at_builtin;refine dK rfl sdT (.tmp 37) (.tmp 43) rfl w1 rfl aJ (m:=1) rfl (by simp) aR ay aC aB aU (ls.length+1) _ rfl rfl ?_;intro v9 w9 aL ai ao bd;obtain⟨A9,c9,rfl,-⟩:=dN aL);have az:=oN aJ G.out (by decide);have S:(Value.slice AS ls.length cS).ownBlock≠some g6:=by
       rcases az with e|e
       ·rw[e];simp
       ·exact e
      have av:=Es.app (s:=⟨(q:Int),⟨hh.x,A7,c7,B7,d7⟩⟩) I.out B.out aL ao;have T:=y.out.app ai cj hF.out aF.out;have Y:=Z.out.kept ao (fun e=>S e.symm) (by simp);have aq:=Vh G.out ao S;have x0:w9.cell? ⟨g,0,none⟩=some (.int .i64 iv):=by
       obtain⟨bs,e1,e2⟩:=T.c0;rw[hF.out.c0]at e2;rw[e1,←e2]
      clear aJ I y Z G B ay aC aB aR aL ai ao bd az S;have a6:=Y.c 6 rfl;have f6:=Y.f 6 rfl;have aO:=dk w9 g6 6 (.int .i64 iv);have ad:=φ (av.row aO aq);have F:=φ (T.new aO bk hF.out aF.out);have p:=Y.set 6 (.int .i64 iv) (by simp);clear aO av T Y aq;go_upto_region 13 with fail;clear x0 a6 f6;generalize World.setCell w9 _ _=br at *;obtain⟨M2,aN,UE⟩:=F.out.el q v (nR iv D j) (by unfold eY;rw[cR rfl]);obtain⟨aQ,aE,aA,ah⟩:=aN.nj Oy (by omega) (i:=(o:Int)) (by omega) (by omega) (vM hh.x A5 c5 B5 d5 iv);have am:Hid (gS w1 aQ g b N f (eY (nG iv N k) q (nR iv D (j+1)))):=by
       have h1:=F.out.uy hF.out v aH aF.out (D':=nR iv D (j + 1)) aA (fun o' bg=>by
        rw[al.out]
        by_cases e:o'=o
        ·subst e;simp only[gy];refine⟨A5,c5,B5,d5,?_,?_⟩
         ·unfold DJ;rw[cN (by omega)]
         ·unfold DJ;rw[cN (by omega)];exact ag.out
        ·have e':¬(o':Int)=(o:Int):=by omega
         simp only[cN e,cN e'];exact UE o' bg) ah
       have e:eY (eY (nG iv N k) q (nR iv D j)) q (nR iv D (j+1))=eY (nG iv N k) q (nR iv D (j+1)):=by
        funext z;unfold eY;split<;>rfl
       rw[e]at h1;exact h1
      have aI:Hid (Es w w1 aQ (some ⟨bz,X,none⟩) len c (iA N) (some ⟨bl,aT,none⟩) no c2 (eR D) (.slice A9 (ls.length+1) c9) (ls++ [⟨(q:Int),⟨hh.x,A7,c7,B7,d7⟩⟩])):=ad.out.kq (Kq.of_map aN ah);have aG:Hid (Hy (ls++ [⟨(q:Int),⟨hh.x,A7,c7,B7,d7⟩⟩])=oU N ((iA N).take k)++si (q:Int) D ((eR D).take (j+1))):=by
       show _=_
       rw[P.out,←dI,←r.out];simp[Hy]
      unfold vM at aE;have a0:=p.c 0 rfl;have a1:=p.c 1 rfl;have a2:=p.c 2 rfl;have a3:=p.c 3 rfl;have a4:=p.c 4 rfl;have a5:=p.c 5 rfl;have a6:=p.c 6 rfl;clear ad F p aN UE aA ah r P al ag;go_wp2;go_round
      case rel=>exact⟨j+1,A9,c9,ls++ [⟨(q:Int),⟨hh.x,A7,c7,B7,d7⟩⟩],by go_num,by simp,by omega,by simp;omega,am,by simpa using aI,aG⟩
      case measure=>simp[intOf];omega
    ·obtain rfl:j=no:=by omega
     have aM:Hid (gS w1 wr g b N f (nG iv N (k+1))):=by
      rw[L.out];have h1:=d.out;rw[←R.out]at h1;exact ⟨h1.c0,h1.c1,h1.nb,fun i hi E hE=>by
       unfold eY at hE
       by_cases e:i=q
       ·subst e;simp only[gy,dB]at hE;subst hE;obtain⟨M,hm,he⟩:=h1.el i hi (nR iv D (eR D).length) (by unfold eY;rw[cR rfl]);exact⟨M,hm,fun o ho=>by rw[←HT iv D o ho];exact he o ho⟩
       ·simp only[cN e]at hE;exact h1.el i hi E (by unfold eY; rw [cN e]; exact hE),h1.kf⟩
     have aW:Hid (Hy ls=oU N ((iA N).take (k+1))):=by
      show _=_
      rw[ac.out,r.out,←R.out,dE]
     have aY:Hid (Es w w1 wr (some ⟨bz,X,none⟩) len c (iA N) none 0 0 [] (.slice AS ls.length cS) ls):=⟨n.out.o1,cn,n.out.os,n.out.ok⟩
     clear d n r;go_wp2;go_round
     case rel=>exact⟨k+1,AS,cS,ls,by go_num,rfl,by omega,by omega,aM,aY,aW⟩
     case measure=>simp[intOf];omega
  ·obtain rfl:k=len:=by omega
   have hf:=a8.out _ _ _ _ d.out n.out.os (by rw[r.out,←hlen.out,dE]) n.out.ok;replace hf:=φ hf;clear d n r;go_wp2;go_ret;exact hf.out
noncomputable def pJ(D:Db)(l:List La):Db:=l.foldl mu D
def Ln(l:List Lx)(k:Nat)(hk:k<l.length)(D:Db):pJ D ((pz l).take (k+1))=mu (pJ D ((pz l).take k)) l[k].y:=by
 unfold pJ;rw[cT (by simpa[pz]using hk),I2,yX l k hk];rfl
def fR.up{w w':World}{g b:Nat}{iv:Int}{N:Fn}{f:Nat→Nat}(h:fR w g b iv N f){i:Nat}(hi:i<256)(m:dV 256 w' b (fun j=>if j=(i:Int)then some (.map (some w.heap.size))else sF N f j))
  (l:dV 64 w' w (fun _=>none)) (hq:Kq w w') (d:∀j,j<256→(N j).isSome=true→ ∀D,N j=some D→xq w' (f j) D):fR w' g b iv (eY N i (fun _=>none)) (fun j=>if j=i then w.heap.size else f j):=by
 have n:=h.lt;refine⟨hq.cell h.c0,hq.cell h.c1,?_,fun j hj D hD=>?_,fun j hj hs=>?_,fun j k hj hk c a e=>?_⟩
 ·have e:sF (eY N i (fun _=>none)) (fun j=>if j=i then w.heap.size else f j)=(fun j=>if j=(i:Int)then some (.map (some w.heap.size))else sF N f j):=by
   funext z
   unfold sF eY
   by_cases e:z=(i:Int)
   ·subst e;rw[cR ⟨by omega,by omega⟩];simp
   ·simp only[cN e]
    by_cases hz:0≤z∧z<256
    ·have e2:z.toNat≠i:=by omega
     simp only[cR hz,cN e2]
    ·simp only[cN hz]
  rw[e];exact m
 ·unfold eY at hD
  by_cases e:j=i
  ·subst e;simp only[gy,dB]at hD;subst hD;simp only[gy];exact⟨_,l,fun o _=>trivial⟩
  ·simp only[cN e]at hD ⊢;exact d j hj (by rw[hD];rfl) D hD
 ·unfold eY at hs
  by_cases e:j=i
  ·simp only[cR e];omega
  ·simp only[cN e]at hs ⊢;exact h.ne j hj hs
 ·unfold eY at c a
  by_cases e1:j=i
  ·by_cases e2:k=i
   ·omega
   ·simp only[cR e1,cN e2]at e a;have:=h.Xd hk a;omega
  ·by_cases e2:k=i
   ·simp only[cN e1,cR e2]at e c;have:=h.Xd hj c;omega
   ·simp only[cN e1,cN e2]at e c a;exact h.inj j k hj hk c a e
def QD(w:World)(g b:Nat)(iv:Int)(N':Fn)(f:Nat→Nat)(i:Nat)(e:Ending)(w':World):Prop:=e= .returned (.int .i64 0)∧ ∃k,w.heap.size≤k∧fR w' g b iv N' (fun j=>if j=i then k else f j)∧w.grownBy w' (some b)
def TC(w:World)(g b:Nat)(iv:Int)(N:Fn)(f:Nat→Nat)(h:fR w g b iv N f)(i:Nat)(hi:i<256)(A:cG)(n c:Nat)(l:List Lx)(hA:Rd w A (nr l))(hn:l.length=n)(hm:n≤1000000)(K:∀s∈l,jD w s∧dS s.y) :
  Calls Tryz.prog 144 #[.pointer (some ⟨g,0,none⟩),i,.slice A n c] w (QD w g b iv (eY N i (pJ (fun _=>none) (pz l))) f i):=by
 have S:=(St.start w).read hA;have ac:=h.nb;have am:=h.c1;have aq:=h.lt;have ao:(Lit.int .i64 (i:Int)).wf=true:=lW (by omega) (by omega);have ak:(i:Int)<256:=by omega
 change Hid _ at hn K;clear hA;have ap:=@run_makeMap Tryz.prog;go_in;go_wp2_with fail;go_loopw [21] (fun R wr=>∃(k:Nat),R= .int .i64 k∧k≤n∧St w wr [] [(A,nr l)]) (fun R _=>n - (intOf R).toNat)
 case atStart=>exact⟨0,rfl,by omega,S⟩
 case round=>
  clear S;obtain⟨k,rfl,hk,S⟩:=hrel
  by_cases hkn:k<n
  ·have X:k<l.length:=by rw[hn.out];exact hkn
   obtain⟨ba,off,rfl⟩:=tX (S.r 0 rfl) (by omega);obtain⟨d,t⟩:=K.out l[k] (di X);obtain⟨s,hs⟩:=ex (l[k])
   rw[hs]at d t;have u:=fun W (h:Rd W (some ⟨ba,off,none⟩) (nr l))=>nH h k X s hs
   clear hs X;obtain⟨y,A2,c2,B2,d2⟩:=s;unfold jD at d;simp only at d u t;obtain⟨x0,x1,x2,x3,x4,x5⟩:=u _ (S.r 0 rfl);have V:=fun W hb=>me W _ y (d.below hb)
   rw[nA t]at V;replace V:=φ V;clear u d;go_upto_region 8 with fail;replace S:=S.nw #[y.o,y.s,y.a,y.ov,.slice A2 y.adj.length c2,.slice B2 y.pre.length d2] 41 wr;clear x0 x1 x2 x3 x4 x5;generalize World.alloc wr _=w4 at *;generalize wr.heap.size=g4 at *;obtain⟨r0,r1,r2,r3,r4,r5⟩:=(S.box 0 rfl).b6;go_wp2_with fail;refine (V _ S.b).mono ?_;rintro e w5 ⟨rfl,hb⟩;clear r0;replace S:=(S.call hb).dX [] (by simp);clear hb V;go_wp2;go_round
   case rel=>exact⟨k+1,by go_num,by omega,S⟩
   case measure=>simp[intOf];omega
  ·obtain rfl:k=n:=by omega
   have ar:=cW S.b am;have au:=fun W=>(show(binOp .eql 160 (.map (some b)) (.map none)).run Tryz.prog W= .ok (.bool false) W by kernel_rfl)
   have x:=ac.below S.b;have m:=h.below S.b;have Y:=φ S.b;have aa:=S.b.size
   -- the new map
   have v:=cQ wr (.map #[] 0);obtain⟨w9,Z,ae,C⟩:=(x.below v).nj G7 (by omega) (i:=(i:Int)) (by omega) ak (.map (some wr.heap.size));have U:=(Kq.qH v).trans (Kq.of_map (x.below v) C);have p:fR w9 g b iv (eY N i (fun _=>none)) (fun j=>if j=i then wr.heap.size else f j):=m.up hi ae ((dV.made 64 wr).kept C (fun e=>by injection e with e;have:=m.lt;omega)) U (fun j hj hs D hD=>((m.below v).el j hj D hD).kept (Kq.of_map (x.below v) C) C (h.ne j hj hs));have P:w.grownBy w9 (some b):=(ij Y (some b)).andThen ((ij v (some b)).trans C) (fun j e=>.inr e);have J:Kq w w9:=(Kq.qH Y.out).trans U;have af:w.heap.size≤wr.heap.size:=aa;have e0:pJ (fun _=>none) ((pz l).take 0)=fun _=>none:=rfl
   rw[←e0]at p;clear e0 ae C U v m x Y aa ac;obtain⟨kb,F⟩:=ex wr
   rw[F]at p af;have ab:Hid (Rd w A (nr l)):=S.rd 0 _ rfl;change Hid _ at p P J F;clear S;go_wp2_with fail;go_loopw [46] (fun v46 wr=>∃(q:Nat),v46= .int .i64 q∧q≤k∧Hid (fR wr g b iv (eY N i (pJ (fun _=>none) ((pz l).take q))) (fun j=>if j=i then kb else f j))∧Hid (w.grownBy wr (some b))∧Hid (Kq w wr)) (fun v46 _=>k - (intOf v46).toNat)
   case atStart=>exact⟨0,rfl,by omega,p,P,J⟩
   case round=>
    clear p P J Z;obtain⟨q,rfl,hq,m,hg,G⟩:=hrel
    by_cases hqn:q<k
    ·have I:q<l.length:=by rw[hn.out];exact hqn
     have T:=G.out.rd ab;obtain⟨ba,off,rfl⟩:=tX T (by omega);obtain⟨d,t⟩:=K.out l[q] (di I);have B:=Ln l q I (fun _=>none);obtain⟨s,hs⟩:=ex (l[q])
     rw[hs]at d t B;obtain⟨x0,x1,x2,x3,x4,x5⟩:=nH T q I s hs;clear hs I T;obtain⟨y,A2,c2,B2,d2⟩:=s;unfold jD at d;simp only at d x0 x1 x2 x3 x4 x5 t B;have E:=cQ wr (.cells #[y.o,y.s,y.a,y.ov,.slice A2 y.adj.length c2,.slice B2 y.pre.length d2] 41);have ah:=fq.iE wr #[y.o,y.s,y.a,y.ov,.slice A2 y.adj.length c2,.slice B2 y.pre.length d2] 41 wr _ rfl rfl;have OF:=te _ g b iv _ _ (m.out.below E) i hi (pJ (fun _=>none) ((pz l).take q)) (by unfold eY;rw[cR rfl]) _ y ((G.out.la d).below E) t;unfold uu at OF;have Q:=G.out.trans (Kq.qH E);have ag:=hg.out.andThen (ij E none) (fun j e=>by cases e);replace OF:=φ OF;replace B:=φ B;have L:∃M,dV 64 (wr.alloc (.cells #[y.o,y.s,y.a,y.ov,.slice A2 y.adj.length c2,.slice B2 y.pre.length d2] 41)) kb M:=by
      obtain⟨M,hm,_⟩:=(m.out.below E).el i hi (pJ (fun _=>none) ((pz l).take q)) (by unfold eY;rw[cR rfl]);simp only[gy]at hm;exact⟨M,hm⟩
     replace L:=φ L;clear d m G hg E;go_upto_region 17 with fail;generalize World.alloc wr _=w4 at *;generalize wr.heap.size=g4 at *;have r0:=ah.b6;clear x0 x1 x2 x3 x4 x5 ah;go_wp2_with fail;refine OF.out.mono ?_;rintro e w5 ⟨rfl,H,O⟩;clear r0;simp only[gy]at O;have aj:Hid (fR w5 g b iv (eY N i (pJ (fun _=>none) ((pz l).take (q+1)))) (fun j=>if j=i then kb else f j)):=by
      rw[B.out];have e:eY (eY N i (pJ (fun _=>none) ((pz l).take q))) i (mu (pJ (fun _=>none) ((pz l).take q)) y)=eY N i (mu (pJ (fun _=>none) ((pz l).take q)) y):=by
       funext j;unfold eY;split<;>rfl
      rw[e]at H;exact H
     have al:Hid (w.grownBy w5 (some b)):=ag.andThen O (fun j e=>by injection e with e;exact .inl (by omega));obtain⟨M,ad⟩:=L.out;have ai:Hid (Kq w w5):=Q.trans (Kq.of_map ad O);clear H O ag Q OF B ad L;go_wp2;go_round
     case rel=>exact⟨q+1,by go_num,by omega,aj,al,ai⟩
     case measure=>simp[intOf];omega
    ·obtain rfl:q=k:=by omega
     have hf:Hid (QD w g b iv (eY N i (pJ (fun _=>none) (pz l))) f i (.returned i0) wr):=by
      have e:(pz l).take q=pz l:=dn (by rw[dh,hn.out];omega);have hF:=m.out;rw[e]at hF;exact⟨rfl,kb,af,hF,hg⟩
     clear m hg G;go_wp2;go_ret;exact hf
end Go.Proofs.YtehimhbgakpenaaGreat.Fd
