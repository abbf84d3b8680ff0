/- Lemmas. -/
import Derived.ChangeKeysEq
import Derived.Test.YtehimhbgakpenaaGreatR
set_option linter.all false
set_option maxRecDepth 100000
set_option maxHeartbeats 16000000
namespace Go.Proofs.YtehimhbgakpenaaGreat
open Go.RowKit Go.Maps Go.Sort Go.Proofs.Tryz
def LA:prog.underlying 79=some (.struct (prog.fieldsOf 79)):=by kernel_rfl
def Tl:prog.stoodInHeld 79=false:=by kernel_rfl
def Ps:prog.eqGuardType prog.depth 79=false:=by kernel_rfl
abbrev XR(x:Lk):Value:=.agg #[x.a,x.b,x.c,x.d,x.cap,x.del,x.grp]
def XP:((prog.fieldsOf 79).toList.map fun f=>(f.name != "_",f.type,f.offset)) = [(true,3,0),(true,3,1),(true,77,2),(true,3,4),(true,3,5),(true,3,6)]:=by kernel_rfl
def PE:∃i,prog.info? 3=some i:=by
 cases h:prog.info? 3 with
 |some i=>exact⟨i,rfl⟩
 |none=>
   have e:(prog.info? 3).isSome=true:=by kernel_rfl
   rw[h]at e;cases e
def Wu(w:World)(d:Nat)(a b:Int):(Op.equalIn (d+1+1) 77 (.agg #[a,b]) (.agg #[a,b])).run prog w= .ok true w:=by
 obtain⟨i,hi⟩:=PE;rw[run_equalIn_array (P:=prog) w (d+1) _ _ underlying77 hi];rw[show prog.cellsOf 3=1 from by kernel_rfl,show List.range 2= [0,1]from rfl];have E:=fun(W:World) (a b:Int)=>uv (P:=prog) W d 3 .i64 .i64 a b underlying3
 simp[Op.eqItems,part,sizeOf,E]
def Ya(w:World)(x:Lk):(Op.equalIn 10000 79 (XR x) (XR x)).run prog w= .ok true w:=by
 rw[show(10000:Nat)=9999+1 from rfl,UZ w 9999 _ _ _ LA Tl];have h:=XP;generalize (prog.fieldsOf 79).toList=l at h;rcases l with _|⟨f0,_|⟨f1,_|⟨f2,_|⟨f3,_|⟨f4,_|⟨f5,_|⟨f6,l⟩⟩⟩⟩⟩⟩⟩
 all_goals simp at h
 obtain⟨⟨n0,t0,o0⟩,⟨n1,t1,o1⟩,⟨n2,t2,o2⟩,⟨n3,t3,o3⟩,⟨n4,t4,o4⟩,n5,t5,o5⟩:=h;have E:=fun(W:World) (a b:Int)=>uv (P:=prog) W 9998 3 .i64 .i64 a b underlying3
 have F:=fun(W:World) (a b:Int)=>Wu W 9997 a b
 simp only[show(9998+1:Nat)=9999 from rfl]at E;simp only[show(9997+1+1:Nat)=9999 from rfl]at F;have hs:Tryz.t77.size=2:=by kernel_rfl
 simp[Op.eqFields,n0,n1,n2,n3,n4,n5,t0,t1,t2,t3,t4,t5,o0,o1,o2,o3,o4,o5,part,sizeOf,E,F,hs]
def VT(w:World)(x:Lk):(binOp .neq 79 (XR x) (XR x)).run prog w= .ok (.bool false) w:=by rw[Xe,Ya];rfl
def IH(l:List Bool):Bool:=l.any id
def Gy(w:World)(v:Value)(t:Tp)(h:js w v t):Calls prog 107 #[v] w fun e w'=>e= .returned (.bool (IH t.ov))∧cI w w':=by
 obtain⟨A,c,B,d,rfl,rA,rB,h1,h2⟩:=h;have S:=((St.start w).read rA).nw #[t.n,.slice A t.ov.length c,.slice B t.ln.length d] 25 w;clear rA rB;unfold maxLen at h1;generalize t.ln.length=m at *;generalize t.n=n at *;obtain⟨l,hl⟩:=ex t.ov
 rw[hl]at S h1 ⊢;clear hl;obtain⟨k,hk⟩:=ex l.length
 rw[hk]at S h1 ⊢;replace hk:=φ hk;obtain⟨r,hr⟩:=ex (IH l)
 rw[hr];have a:Hid (IH (l.drop 0)=r):=hr;clear hr;go_in;go_wp2_with fail;generalize World.alloc w _=w1 at *;go_loopw [3] (fun v3 wr=>∃i:Nat,v3= .int .i64 i∧i≤k∧Hid (IH (l.drop i)=r)∧St w wr [(w,[n,.slice A k c,.slice B m d])] [(A,iw l)]) (fun v3 _=>k - (intOf v3).toNat)
 case atStart=>exact⟨0,rfl,by omega,a,S⟩
 case round=>
  clear S a;obtain⟨i,rfl,hi,hr,S⟩:=hrel;have r0:=(S.box 0 rfl).b3
  by_cases hik:i<k
  ·have f:i<l.length:=by have:=hk.out;omega
   obtain⟨b,off,rfl,hc⟩:=zJ (S.r 0 rfl) (by omega);have x0:=hc i f;have hd:=hr.out;rw[iG f]at hd;simp only[IH,List.any_cons,id]at hd;generalize l[i]=x at *;clear hc hr;cases x with
   |true=>
     simp only[Bool.true_or]at hd;subst hd;go_wp2;go_ret;exact⟨rfl,S.b⟩
   |false=>
     simp only[nV]at hd;have g:Hid (IH (l.drop (i+1))=r):=hd;clear hd;go_wp2;go_round
     case rel=>exact⟨i+1,by go_num,by omega,g,S⟩
     case measure=>simp[intOf];omega
  ·obtain rfl:i=k:=by omega
   have e:=hr.out;rw[gG (by have:=hk.out;omega)]at e;subst e;go_wp2;go_ret;exact⟨rfl,S.b⟩
def HB(w:World)(v u:Value)(t:Tp)(h:js w v t)(h':js w u t):Calls prog 60 #[v,u] w fun e w'=>e= .returned (.bool true)∧cI w w':=by
 obtain⟨A,c,B,d,rfl,rA,rB,h1,h2⟩:=id h;obtain⟨A',c',B',d',rfl,g,f,_,_⟩:=id h';have S:=((((((St.start w).read f).read g).read rB).read rA).nw #[t.n,.slice A t.ov.length c,.slice B t.ln.length d] 25 w).nw #[t.n,.slice A' t.ov.length c',.slice B' t.ln.length d'] 25 (w.heap.size+1);have B1:=fun W hb=>Gy W _ t (h.below hb)
 have B2:=fun W hb=>Gy W _ t (h'.below hb)
 clear rA rB g f h h';unfold maxLen at h1 h2;obtain⟨bb,F⟩:=ex (IH t.ov)
 rw[F]at B1 B2;clear F;change Hid _ at B1 B2;generalize t.n=n at *;obtain⟨lo,y⟩:=ex t.ov
 obtain⟨ll,C⟩:=ex t.ln
 rw[y]at S h1 B1 B2 ⊢;rw[C]at S h2 B1 B2 ⊢;clear y C;obtain⟨k,hk⟩:=ex lo.length
 obtain⟨m,hm⟩:=ex ll.length
 rw[hk]at S h1 B1 B2 ⊢;rw[hm]at S h2 B1 B2 ⊢;change Hid _ at hk hm;have e1:(n !=n)=false:=by simp
 have e2:((m:Int) !=(m:Int))=false:=by simp
 have e3:(bb !=bb)=false:=by simp
 have e4:((k:Int) !=(k:Int))=false:=by simp
 go_in;go_upto_region 1 with fail;generalize World.alloc _ _=w1 at *;have BA:=fun W (hb:cI w1 W)=>B1.out W (S.b.trans (hb.mono S.b.size))
 have BB:=fun W (hb:cI w1 W)=>B2.out W (S.b.trans (hb.mono S.b.size))
 replace BA:=φ BA;replace BB:=φ BB;have a0:=cell_regrown (S.c 0 0 rfl rfl);have a1:=cell_regrown (S.c 0 1 rfl rfl);have a2:=cell_regrown (S.c 0 2 rfl rfl);have b0:=cell_regrown (S.c 1 0 rfl rfl);have b1:=cell_regrown (S.c 1 1 rfl rfl);have b2:=cell_regrown (S.c 1 2 rfl rfl);refine wp_region_quiet_below (by kernel_rfl) (by kernel_rfl) ?_
 repeat (go_big_quiet_step ((first|(go_at_call 107;with_reducible exact Calls.regrown_of (BA.out _ (below_regrown _ _ _)))|(go_at_call 107;with_reducible exact Calls.regrown_of (BB.out _ (below_regrown _ _ _))))))
 refine fI ?_;intro _ I;obtain⟨⟨dq,o⟩,s⟩:=I;subst s;replace S:=S.call (below_regrown _ dq o);generalize grow (redrawn _ dq) o=w2 at *;clear a0 b0 BA BB B2;go_wp2_with fail;go_loopw [5] (fun v5 wr=>∃i:Nat,v5= .int .i64 i∧i≤m∧St w wr [(w.heap.size+1,[n,.slice A' k c',.slice B' m d']),(w,[n,.slice A k c,.slice B m d])] [(A,iw lo),(B,fw ll),(A',iw lo),(B',fw ll)]) (fun v5 _=>m - (intOf v5).toNat)
 case atStart=>exact⟨0,rfl,by omega,S⟩
 case round=>
  clear S;obtain⟨i,rfl,hi,S⟩:=hrel;obtain⟨a0,a1,a2⟩:=(S.box 0 rfl).b3;obtain⟨b0,b1,b2⟩:=(S.box 1 rfl).b3
  by_cases him:i<m
  ·have E:i<ll.length:=by have:=hm.out;omega
   obtain⟨p,off,rfl,hc⟩:=sR (S.r 1 rfl) (by omega);obtain⟨p',q,rfl,a⟩:=sR (S.r 3 rfl) (by omega);obtain⟨x0,x1,x2,x3,H,x4,x5,x6⟩:=hc i E;obtain⟨y0,y1,y2,y3,G,y4,y5,y6⟩:=a i E;generalize ll[i]=x at *;have NE:=fun W=>VT W x
   have hG:=Ps;unfold XR at NE;obtain⟨xa,xb,xc,xd,xe,xf,xg⟩:=x;simp only at x0 x1 x2 x3 H x4 x5 x6 y0 y1 y2 y3 G y4 y5 y6 NE;clear hc a B1;go_wp2_with fail;go_quiet (fail);go_wp2;go_round
   case rel=>exact⟨i+1,by go_num,by omega,S.drewN nq⟩
   case measure=>simp[intOf];omega
  ·obtain rfl:i=m:=by omega
   have BA:=B1.out wr S.b;replace BA:=φ BA;clear B1;go_wp2_with fail;refine BA.out.mono ?_;rintro e w3 ⟨rfl,hb⟩;clear a0 b0;replace S:=S.call hb;clear BA hb;obtain⟨a0,a1,a2⟩:=(S.box 0 rfl).b3;obtain⟨b0,b1,b2⟩:=(S.box 1 rfl).b3;cases bb with
   |false=>
     go_wp2;go_ret;exact⟨rfl,S.b⟩
   |true=>
     go_wp2_with fail;clear a0 b0;go_loopw [6] (fun v6 wr=>∃j:Nat,v6= .int .i64 j∧j≤k∧St w wr [(w.heap.size+1,[n,.slice A' k c',.slice B' i d']),(w,[n,.slice A k c,.slice B i d])] [(A,iw lo),(B,fw ll),(A',iw lo),(B',fw ll)]) (fun v6 _=>k - (intOf v6).toNat)
     case atStart=>exact⟨0,rfl,by omega,S⟩
     case round=>
      clear S;obtain⟨j,rfl,hj,S⟩:=hrel;have a0:=(S.box 0 rfl).b3;have b0:=(S.box 1 rfl).b3
      by_cases hjk:j<k
      ·have D:j<lo.length:=by have:=hk.out;omega
       obtain⟨p,off,rfl,hc⟩:=zJ (S.r 0 rfl) (by omega);obtain⟨p',q,rfl,a⟩:=zJ (S.r 2 rfl) (by omega);have x0:=hc j D;have y0:=a j D;generalize lo[j]=x at *;have e5:(x !=x)=false:=by simp
       clear hc a;go_wp2_with fail;go_quiet (fail);go_wp2;go_round
       case rel=>exact⟨j+1,by go_num,by omega,S.drewN nq⟩
       case measure=>simp[intOf];omega
      ·obtain rfl:j=k:=by omega
       go_wp2;go_ret;exact⟨rfl,S.b⟩
def uN(w:World)(v u:Value)(t:Tp)(D E:cG)(k c d:Nat)(l:List Bool)(h:js w v t)(h':js w u t)(hD:Rd w D (iw l))(hE:Rd w E (iw l))(hk:l.length=k)(q:k≤1000000) :
  Calls prog 16 #[v,u,.slice D k c,.slice E k d] w fun e w'=>e= .returned (.bool true)∧cI w w':=by
 obtain⟨A,ca,B,da,rfl,_⟩:=id h;obtain⟨A',i,B',g,rfl,_⟩:=id h';have S:=((((St.start w).read hE).read hD).nw #[t.n,.slice A t.ov.length ca,.slice B t.ln.length da] 25 w).nw #[t.n,.slice A' t.ov.length i,.slice B' t.ln.length g] 25 (w.heap.size+1);have SM:=HB _ _ _ t (h.below S.b) (h'.below S.b);replace SM:=φ SM;clear hE hD h h';replace hk:=φ hk;have e4:((k:Int) !=(k:Int))=false:=by simp
 generalize t.n=n at *;generalize t.ov.length=ko at *;generalize t.ln.length=m at *;have a0:=(S.box 0 rfl).b3;have b0:=(S.box 1 rfl).b3;go_in;go_wp2_with fail;refine SM.out.mono ?_;rintro e w1 ⟨rfl,hb⟩;clear a0 b0;replace S:=S.call hb;clear SM hb;go_wp2_with fail;replace S:=S.dX [] (by simp);go_loopw [9] (fun v9 wr=>∃j:Nat,v9= .int .i64 j∧j≤k∧St w wr [] [(D,iw l),(E,iw l)]) (fun v9 _=>k - (intOf v9).toNat)
 case atStart=>exact⟨0,rfl,by omega,S⟩
 case round=>
  clear S;obtain⟨j,rfl,hj,S⟩:=hrel
  by_cases hjk:j<k
  ·have a:j<l.length:=by have:=hk.out;omega
   obtain⟨p,off,rfl,hc⟩:=zJ (S.r 0 rfl) (by omega);obtain⟨p',o,rfl,f⟩:=zJ (S.r 1 rfl) (by omega);have x0:=hc j a;have y0:=f j a;generalize l[j]=x at *;have e5:(x !=x)=false:=by simp
   clear hc f;go_wp2_with fail;go_quiet (fail);go_wp2;go_round
   case rel=>exact⟨j+1,by go_num,by omega,S.drewN nq⟩
   case measure=>simp[intOf];omega
  ·obtain rfl:j=k:=by omega
   go_wp2;go_ret;exact⟨rfl,S.b⟩
end Go.Proofs.YtehimhbgakpenaaGreat
