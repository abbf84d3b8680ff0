/- Lemmas. -/
import Derived.Test.YtehimhbgakpenaaGreatT
set_option linter.all false
set_option maxRecDepth 100000
set_option maxHeartbeats 16000000
namespace Go.Proofs.YtehimhbgakpenaaGreat.Fd
open Go.RowKit Go.Maps Go.Sort Go.Proofs.Tryz
structure It where
 q:Int
 x:Lx
 t:Int
def Ga(s:It):cH:=[s.q,s.x.y.o,s.x.y.s,s.x.y.a,s.x.y.ov,.slice s.x.A s.x.y.adj.length s.x.c,.slice s.x.B s.x.y.pre.length s.x.d,s.t]
def lG:List It→cH
 | []=>[]
 |s :: l=>Ga s++lG l
def DZ(l:List It):(lG l).length=l.length*8:=by
 induction l with
 |nil=>rfl
 |cons r l ih=>simp only[lG,Ga,cX,List.length_cons,List.length_nil,ih];omega
def vt(a b:List It):lG (a++b)=lG a++lG b:=by
 induction a with
 |nil=>rfl
 |cons r l ih=>simp only[List.cons_append,lG,ih,dI]
def pY(s:It):∀u∈Ga s,u.oneCell'=true:=by
 intro u hu;simp only[Ga,dA,eF,ik]at hu;rcases hu with rfl|rfl|rfl|rfl|rfl|rfl|rfl|rfl<;>rfl
def To(l:List It):∀(k:Nat) (hk:k<l.length) (j:Nat) (hj:j<8),(lG l)[8*k+j]?=(Ga l[k])[j]?:=by
 induction l with
 |nil=>intro k hk;simp at hk
 |cons r l ih=>
   intro k hk j hj;have h8:(Ga r).length=8:=rfl;cases k with
   |zero=>simp only[lG,List.getElem_cons_zero];rw[eP (by omega)];simp
   |succ k=>
     simp only[lG,List.getElem_cons_succ];rw[dY (by omega),h8,show 8*(k+1)+j - 8=8*k+j by omega];exact ih k (by simpa using hk) j hj
def yY{w:World}{A:cG}{l:List It}(h:Rd w A (lG l))(hn:0<l.length):∃b off,A=some ⟨b,off,none⟩:=by
 obtain⟨b,off,e,_⟩:=gE h (by rw[DZ];omega);exact⟨b,off,e⟩
def sZ{w:World}{b off:Nat}{l:List It}(h:Rd w (some ⟨b,off,none⟩) (lG l))(k:Nat)(hk:k<l.length)(s:It)(hs:l[k]=s) :
  w.cell? ⟨b,off+k*8,none⟩=some (.int .i64 s.q)∧w.cell? ⟨b,off+k*8+1,none⟩=some (.int .i64 s.x.y.o)∧w.cell? ⟨b,off+k*8+2,none⟩=some (.int .i64 s.x.y.s)∧w.cell? ⟨b,off+k*8+3,none⟩=some (.int .i64 s.x.y.a) ∧
  w.cell? ⟨b,off+k*8+4,none⟩=some (.bool s.x.y.ov)∧w.cell? ⟨b,off+k*8+5,none⟩=some (.slice s.x.A s.x.y.adj.length s.x.c)∧w.cell? ⟨b,off+k*8+6,none⟩=some (.slice s.x.B s.x.y.pre.length s.x.d)∧w.cell? ⟨b,off+k*8+7,none⟩=some (.int .i64 s.t):=by
 subst hs;obtain⟨b',f,e,hc⟩:=gE h (by rw[DZ];omega);injection e with e
 injection e with e1 e2 e3
 subst e1 e2;have H:∀j u,j<8→(Ga l[k])[j]?=some u→Cv w b (off+k*8+j) u:=fun j u hj hu=>by
  rw[iS];exact hc _ _ (by rw[gl k 8,To l k hk j hj];exact hu)
 have x0:=H 0 _ (by omega) rfl;simp only[Nat.add_zero]at x0;exact⟨x0,H 1 _ (by omega) rfl,H 2 _ (by omega) rfl,H 3 _ (by omega) rfl,H 4 _ (by omega) rfl,H 5 _ (by omega) rfl,H 6 _ (by omega) rfl,H 7 _ (by omega) rfl⟩
def UD:iF prog 59 202 (.agg #[.int .i64 0,.int .i64 0,.int .i64 0,.int .i64 0,false,.slice none 0 0,.slice none 0 0,.int .i64 0]) 8 96:=⟨underlying59,by kernel_rfl,rfl,by omega⟩
def W6(q o:Int)(s:It):Bool:=(s.q !=q)||(decide (0≤o)&& (s.x.y.o !=o))
def wo(q o:Int)(l:List It):List It:=l.filter (W6 q o)
def Q3(q o:Int)(l:List It)(k:Nat)(hk:k<l.length):wo q o (l.take (k+1))=wo q o (l.take k)++(if W6 q o l[k]=true then [l[k]]else []):=by
 unfold wo;rw[cT hk,gC]
 congr 1
 by_cases h:W6 q o l[k]=true
 ·rw[cR h,Xg h];rfl
 ·rw[cN h,Xh h];rfl
def Va(q o:Int)(l:List It)(k:Nat):(wo q o (l.take k)).length≤k:=by
 unfold wo;exact cZ cz (by simp;omega)
def rW(w:World)(l:List It)(e:Ending)(w':World):Prop :=
 ∃A c,e= .returned (.slice A l.length c)∧w'.ownsRow w 202 8 (.slice A l.length c) l.length (lG l)∧cI w w'
structure tG (w wr:World) (B:cG) (l:List It) (A:cG) (c:Nat) (out:List It):Prop where
 rd0:Rd w B (lG l)
 own:wr.ownsRow w 202 8 (.slice A out.length c) out.length (lG out)
 bel:cI w wr
def tG.below{w wr w':World}{B:cG}{l:List It}{A:cG}{c:Nat}{out:List It}(h:tG w wr B l A c out)(hb:cI wr w'):tG w w' B l A c out :=
 ⟨h.rd0,dg h.own hb,h.bel.trans (hb.mono h.bel.size)⟩
def tG.rd{w wr:World}{B:cG}{l:List It}{A:cG}{c:Nat}{out:List It}(h:tG w wr B l A c out):Rd wr B (lG l):=h.rd0.below h.bel
def tG.app{w wr w':World}{B:cG}{l:List It}{A:cG}{c:Nat}{out:List It}(h:tG w wr B l A c out){s:It}{A':cG}{c':Nat}
  (ho:w'.ownsRow w 202 8 (.slice A' (out.length+1) c') (out.length+1) (lG out++Ga s)) (hb:Below w wr w'):tG w w' B l A' c' (out++ [s]) :=
 ⟨h.rd0,by rw[vt];simpa[lG]using ho,h.bel.trans hb⟩
def oh(w:World)(B:cG)(m d:Nat)(l:List It)(hB:Rd w B (lG l))(hm:l.length=m)(M:m≤1000000)(q o:Int) :
  Calls prog 151 #[.slice B m d,q,o] w (rW w (wo q o l)):=by
 have hT:Hid (tG w w B l none 0 (wo q o (l.take 0))):=⟨hB,cn,cy⟩
 have D:Hid (∀w' A c,tG w w' B l A c (wo q o (l.take m))→rW w (wo q o l) (.returned (.slice A (wo q o (l.take m)).length c)) w'):=fun w' A c h=>by
  rw[←hm,dE]at *;exact⟨A,c,rfl,h.own,h.bel⟩
 clear hB;replace hm:=φ hm;go_in;go_wp2_with fail;go_loopw [7,8] (fun v7 v8 wr=>∃(k:Nat) (A:cG) (c:Nat),v8= .int .i64 k∧v7= .slice A (wo q o (l.take k)).length c∧k≤m∧Hid (tG w wr B l A c (wo q o (l.take k)))) (fun _ v8 _=>m - (intOf v8).toNat)
 case atStart=>exact⟨0,none,0,rfl,rfl,by omega,hT⟩
 case round=>
  clear hT;obtain⟨k,A,c,rfl,rfl,hk,hT⟩:=hrel
  by_cases hkm:k<m
  ·have C:k<l.length:=by rw[hm.out];exact hkm
   have K:=Va q o l k;have e:=Q3 q o l k C;obtain⟨ba,off,rfl⟩:=yY hT.out.rd (by omega);obtain⟨s,hs⟩:=ex (l[k])
   rw[hs]at e;have j:=sZ hT.out.rd k C s hs;have i:=hT.out.own;generalize u:wo q o (l.take k)=out at *;have L:=hT.out.bel.size;obtain⟨x0,x1,x2,x3,x4,x5,x6,x7⟩:=j;have g:W6 q o s=((s.q !=q)||(decide (0≤o)&& (s.x.y.o !=o))):=rfl;clear hs u
   by_cases hb:W6 q o s=true
   ·rw[cR hb]at e;have E:=cQ wr (.cells #[s.q,s.x.y.o,s.x.y.s,s.x.y.a,s.x.y.ov,.slice s.x.A s.x.y.adj.length s.x.c,.slice s.x.B s.x.y.pre.length s.x.d,s.t] 202);have n:=Rd.lit wr #[s.q,s.x.y.o,s.x.y.s,s.x.y.a,s.x.y.ov,.slice s.x.A s.x.y.adj.length s.x.c,.slice s.x.B s.x.y.pre.length s.x.d,s.t] 202;have T3:=hT.out.below E;have o3:=T3.own;have p:=T3.bel.size;clear hT i E;change Hid _ at T3 e;have v:=pY s;have b:(s.q !=q)=true∨((s.q !=q)=false∧decide (0≤o)=true∧(s.x.y.o !=o)=true):=by
     rw[g]at hb;cases h1:(s.q !=q)with
     |true=>exact .inl rfl
     |false=>rw[h1]at hb;simp only[nV,dD]at hb;exact .inr ⟨rfl,hb⟩
    clear g hb;have J:out.length+1≤maxLen:=by simp only[maxLen];omega
    have I:(out.length+1)*96≤140737488355328:=by omega
    rcases b with r|⟨r,z,G⟩
    all_goals
     go_wp2_with (at_builtin;refine dK rfl UD (.tmp 36) (.tmp 41) rfl w rfl o3 (m:=1) rfl (by simp) n v J I p (out.length+1) _ rfl rfl ?_;intro v6 w6 o6 f H F);obtain⟨A7,c7,rfl,-⟩:=dN o6;have T4:Hid (tG w w6 (some ⟨ba,off,none⟩) l A7 c7 (out++ [s])):=T3.out.app o6 f;have hlen:(wo q o (l.take (k+1))).length=out.length+1:=by rw[e.out];simp
     clear o6 f H F o3 n T3;go_wp2;go_round
     case rel=>exact⟨k+1,A7,c7,by go_num,by rw[hlen],by omega,by rw[e.out];exact T4⟩
     case measure=>simp[intOf];omega
   ·rw[cN hb,gY]at e;have b:(s.q !=q)=false∧((decide (0≤o)=true∧(s.x.y.o !=o)=false)∨decide (0≤o)=false):=by
     rw[g]at hb;cases h1:(s.q !=q)with
     |true=>rw[h1]at hb;simp at hb
     |false=>
       rw[h1]at hb;cases h2:decide (0≤o)with
       |true=>rw[h2]at hb;simp only[nV,gi,yt]at hb;exact⟨rfl,.inl ⟨rfl,hb⟩⟩
       |false=>exact⟨rfl,.inr rfl⟩
    clear g hb i;obtain⟨r,b⟩:=b;rcases b with ⟨z,G⟩|z
    all_goals
     go_wp2;go_round
     case rel=>exact⟨k+1,A,c,by go_num,by rw[e],by omega,by rw[e];exact hT⟩
     case measure=>simp[intOf];omega
  ·obtain rfl:k=m:=by omega
   have hf:=D.out _ _ _ hT;replace hf:=φ hf;go_wp2;go_ret;exact hf
def ins{α:Type}(p:α→Bool):List α→α→List α
 | [],x=>[x]
 |s :: l,x=>if p s=true then x :: s :: l else s :: ins p l x
def Tv{α:Type}{p:α→Bool}{l:List α}(x:α)(h:l.any p=false):ins p l x=l++ [x]:=by
 induction l with
 |nil=>rfl
 |cons s l ih=>
   simp only[List.any_cons,mJ]at h;simp[ins,h.1,ih h.2]
def Tt{α:Type}{p:α→Bool}{l:List α}(x s:α)(h:l.any p=true):ins p (l++ [s]) x=ins p l x++ [s]:=by
 induction l with
 |nil=>simp at h
 |cons t l ih=>
   by_cases ht:p t=true
   ·simp[ins,ht]
   ·simp only[List.any_cons,ht,nV]at h;simp[ins,ht,ih h]
def Tu{α:Type}{p:α→Bool}{l:List α}(x s:α)(h:l.any p=false)(hs:p s=true):ins p (l++ [s]) x=l++ [x,s]:=by
 induction l with
 |nil=>simp[ins,hs]
 |cons t l ih=>
   simp only[List.any_cons,mJ]at h;simp[ins,h.1,ih h.2]
def JM{α:Type}(p:α→Bool)(l:List α)(x:α):(ins p l x).length=l.length+1:=by
 induction l with
 |nil=>rfl
 |cons t l ih=>
   unfold ins;split
   ·rfl
   ·simp[ih]
def mT{α:Type}(p:α→Bool)(l:List α)(x:α)(k:Nat):List α:=if (l.take k).any p=true then ins p (l.take k) x else l.take k
def Ae{α:Type}(p:α→Bool)(l:List α)(x:α)(k:Nat):(mT p l x k).length≤k+1:=by
 unfold mT;split
 ·rw[JM];simp;omega
 ·simp;omega
def tq{α:Type}(p:α→Bool)(l:List α)(k:Nat)(hk:k<l.length):(l.take (k+1)).any p=((l.take k).any p||p l[k]):=by
 rw[cT hk,List.any_append];simp
def Gc{α:Type}{p:α→Bool}{l:List α}(x:α){k:Nat}(hk:k<l.length)(h:(l.take k).any p=false)(hs:p l[k]=true):mT p l x (k+1)=mT p l x k++ [x]++ [l[k]]:=by
 unfold mT;rw[tq p l k hk,h,hs,cR (by rfl),cN (by simp),cT hk,Tu x _ h hs];simp
def Gb{α:Type}{p:α→Bool}{l:List α}(x:α){k:Nat}(hk:k<l.length)(h:(l.take k).any p=true∨p l[k]=false):mT p l x (k+1)=mT p l x k++ [l[k]]:=by
 unfold mT;rw[tq p l k hk]
 by_cases h1:(l.take k).any p=true
 ·rw[h1,cR (by rfl),cR (by rfl),cT hk,Tt x _ h1]
 ·have h2:p l[k]=false:=h.resolve_left h1;rw[h2];simp only[yt]at h1;rw[h1,cN (by simp),cN (by simp),cT hk]
def Gd{α:Type}{p:α→Bool}{l:List α}(x:α):ins p l x=if l.any p=true then mT p l x l.length else mT p l x l.length++ [x]:=by
 unfold mT;rw[dE]
 by_cases h:l.any p=true
 ·rw[cR h,cR h]
 ·rw[cN h,cN h,Tv x (by simpa using h)]
def uY(x s:It):Bool:=decide (x.q<s.q)||((s.q==x.q)&&decide (x.x.y.o<s.x.y.o))
def wi(l:List It)(x:It):List It:=ins (uY x) l x
def Qv{n:Nat}(h:n≤1000009):n*96≤140737488355328:=by omega
def tN(w:World)(B:cG)(m d:Nat)(l:List It)(hB:Rd w B (lG l))(hm:l.length=m)(ac:m≤1000000)(x:It) :
  Calls prog 176 #[.slice B m d,.agg #[x.q,x.x.y.o,x.x.y.s,x.x.y.a,x.x.y.ov,.slice x.x.A x.x.y.adj.length x.x.c,.slice x.x.B x.x.y.pre.length x.x.d,x.t]] w (rW w (wi l x)):=by
 have N:=cQ w (.cells #[x.q,x.x.y.o,x.x.y.s,x.x.y.a,x.x.y.ov,.slice x.x.A x.x.y.adj.length x.x.c,.slice x.x.B x.x.y.pre.length x.x.d,x.t] 202);have E:=fq.iE w #[x.q,x.x.y.o,x.x.y.s,x.x.y.a,x.x.y.ov,.slice x.x.A x.x.y.adj.length x.x.c,.slice x.x.B x.x.y.pre.length x.x.d,x.t] 202 w _ rfl rfl;have O:=hB.below N;have L:w.heap.size≤(w.alloc (.cells #[x.q,x.x.y.o,x.x.y.s,x.x.y.a,x.x.y.ov,.slice x.x.A x.x.y.adj.length x.x.c,.slice x.x.B x.x.y.pre.length x.x.d,x.t] 202)).heap.size:=N.size;have D:=@Gd It (uY x) l x;rw[hm]at D;clear hB;change Hid _ at hm D;go_in;go_upto_region 1 with fail;generalize X:World.alloc w _=w1 at *;clear X;have hT:Hid (tG w1 w1 B l none 0 (mT (uY x) l x 0)):=⟨O,cn,cy⟩
 replace E:=φ E;clear O;go_wp2_with fail;go_loopw [5,6,7] (fun v5 v6 v7 wr=>∃(k:Nat) (A:cG) (c:Nat),v7= .int .i64 k∧v6= .bool ((l.take k).any (uY x))∧v5= .slice A (mT (uY x) l x k).length c∧k≤m∧Hid (tG w1 wr B l A c (mT (uY x) l x k))) (fun _ _ v7 _=>m - (intOf v7).toNat)
 case atStart=>exact⟨0,none,0,rfl,rfl,rfl,by omega,hT⟩
 case round=>
  clear hT;obtain⟨k,A,c,rfl,rfl,rfl,hk,hT⟩:=hrel
  by_cases hkm:k<m
  ·have G:k<l.length:=by rw[hm.out];exact hkm
   have V:=Ae (uY x) l x k;have Q:(mT (uY x) l x k).length+1≤maxLen:=by simp only[maxLen];omega
   have P:((mT (uY x) l x k).length+1)*96≤140737488355328:=by omega
   have O:(mT (uY x) l x k).length+1+1≤maxLen:=by simp only[maxLen];omega
   have ab:((mT (uY x) l x k).length+1+1)*96≤140737488355328:=Qv (by omega);have C:=@Gc It (uY x) l x k G;have z:=@Gb It (uY x) l x k G;have i:=tq (uY x) l k G;obtain⟨ba,off,rfl⟩:=yY hT.out.rd (by omega);obtain⟨s,hs⟩:=ex (l[k])
   rw[hs]at C z i;have R:=sZ hT.out.rd k G s hs;have T:Hid (∀W,Rd W (some ⟨ba,off,none⟩) (lG l)→_):=fun W h=>sZ h k G s hs
   have b:=E.out.later (hT.out.bel);generalize (l.take k).any (uY x)=put at *;generalize mT (uY x) l x k=out at *;obtain⟨x0,x1,x2,x3,x4,x5,x6,x7⟩:=R;have a0:=b.c 0 rfl;have a1:=b.c 1 rfl;have a2:=b.c 2 rfl;have a3:=b.c 3 rfl;have a4:=b.c 4 rfl;have a5:=b.c 5 rfl;have a6:=b.c 6 rfl;have a7:=b.c 7 rfl;clear b hs;have K:uY x s=(decide (x.q<s.q)||((s.q==x.q)&&decide (x.x.y.o<s.x.y.o))):=rfl
   by_cases hc:put=false∧uY x s=true
   ·obtain⟨rfl,hc⟩:=hc;have p:=C rfl hc;rw[hc]at i;have u:decide (x.q<s.q)=true∨(decide (x.q<s.q)=false∧(s.q==x.q)=true∧decide (x.x.y.o<s.x.y.o)=true):=by
     rw[K]at hc;cases h1:decide (x.q<s.q)with
     |true=>exact .inl rfl
     |false=>rw[h1]at hc;simp only[nV,dD]at hc;exact .inr ⟨rfl,hc⟩
    clear C z K hc;have j:=cQ wr (.cells #[x.q,x.x.y.o,x.x.y.s,x.x.y.a,x.x.y.ov,.slice x.x.A x.x.y.adj.length x.x.c,.slice x.x.B x.x.y.pre.length x.x.d,x.t] 202);change Hid _ at p i;rcases u with S|⟨S,heq,Z⟩
    all_goals
     go_wp2_with fail;go_quiet (fail);have I:cI wr (wr.drewN nq):=below_drewN cy nq;replace hT:=φ (hT.out.below I);have b:=E.out.later hT.out.bel;clear I x0 x1 x2 x3 x4 x5 x6 x7 a0 a1 a2 a3 a4 a5 a6 a7;generalize wr.drewN nq=w2 at *;have a0:=b.c 0 rfl;have a1:=b.c 1 rfl;have a2:=b.c 2 rfl;have a3:=b.c 3 rfl;have a4:=b.c 4 rfl;have a5:=b.c 5 rfl;have a6:=b.c 6 rfl;have a7:=b.c 7 rfl;have j:=cQ w2 (.cells #[x.q,x.x.y.o,x.x.y.s,x.x.y.a,x.x.y.ov,.slice x.x.A x.x.y.adj.length x.x.c,.slice x.x.B x.x.y.pre.length x.x.d,x.t] 202);have n:=Rd.lit w2 #[x.q,x.x.y.o,x.x.y.s,x.x.y.a,x.x.y.ov,.slice x.x.A x.x.y.adj.length x.x.c,.slice x.x.B x.x.y.pre.length x.x.d,x.t] 202;have T3:=hT.out.below j;have o3:=T3.own;have e:=T3.bel.size;have f:=pY x;clear j b;replace T3:=φ T3;go_upto_region 8 with (at_builtin;refine dK rfl UD (.tmp 48) (.tmp 50) rfl w1 rfl o3 (m:=1) rfl (by simp) n f Q P e (out.length+1) _ rfl rfl ?_;intro v6 w6 o6 g H F;obtain⟨A6,c6,rfl,-⟩:=dN o6);have r:(out++ [x]).length=out.length+1:=by simp
     have T4:Hid (tG w1 w6 (some ⟨ba,off,none⟩) l A6 c6 (out++ [x])):=T3.out.app o6 g;clear o6 g H F o3 n T3 f e hT a0 a1 a2 a3 a4 a5 a6 a7;obtain⟨x0,x1,x2,x3,x4,x5,x6,x7⟩:=T.out _ T4.out.rd;have j:=cQ w6 (.cells #[s.q,s.x.y.o,s.x.y.s,s.x.y.a,s.x.y.ov,.slice s.x.A s.x.y.adj.length s.x.c,.slice s.x.B s.x.y.pre.length s.x.d,s.t] 202);have n:=Rd.lit w6 #[s.q,s.x.y.o,s.x.y.s,s.x.y.a,s.x.y.ov,.slice s.x.A s.x.y.adj.length s.x.c,.slice s.x.B s.x.y.pre.length s.x.d,s.t] 202;have T5:=T4.out.below j;have o3:=T5.own;rw[r]at o3;have e:=T5.bel.size;have f:=pY s;clear j T4;change Hid _ at T5 r;go_wp2_with (at_builtin;refine dK rfl UD (.tmp 52) (.tmp 57) rfl w1 rfl o3 (m:=1) rfl (by simp) n f O ab e (out.length+1+1) _ rfl rfl ?_;intro v8 w8 o8 J aa Y;obtain⟨A8,c8,rfl,-⟩:=dN o8);have T6:Hid (tG w1 w8 (some ⟨ba,off,none⟩) l A8 c8 (out++ [x]++ [s])):=T5.out.app (by rw[r.out];exact o8) J;have hlen:(mT (uY x) l x (k+1)).length=out.length+1+1:=by rw[p.out];simp
     clear o8 J aa Y o3 n T5 f e x0 x1 x2 x3 x4 x5 x6 x7;go_wp2;go_round
     case rel=>exact⟨k+1,A8,c8,by go_num,by rw[i.out];rfl,by rw[hlen],by omega,by rw[p.out];exact T6⟩
     case measure=>simp[intOf];omega
   ·have M:put=true∨uY x s=false:=by
     cases put with
     |true=>exact .inl rfl
     |false=>exact .inr (by simpa using fun h=>hc ⟨rfl,h⟩)
    have p:=z M;have v:(l.take (k+1)).any (uY x)=put:=by
     rw[i];rcases M with h|h<;>simp[h]
    have u:put=true∨(put=false∧decide (x.q<s.q)=false∧((s.q==x.q)=false∨((s.q==x.q)=true∧decide (x.x.y.o<s.x.y.o)=false))):=by
     cases put with
     |true=>exact .inl rfl
     |false=>
       rcases M with h|h
       ·cases h
       ·rw[K]at h;cases h1:decide (x.q<s.q)with
        |true=>rw[h1]at h;simp at h
        |false=>
          rw[h1]at h;cases h2:(s.q==x.q)with
          |false=>exact .inr ⟨rfl,rfl,.inl rfl⟩
          |true=>rw[h2]at h;simp only[nV,gi]at h;exact .inr ⟨rfl,rfl,.inr ⟨rfl,h⟩⟩
    clear C z K hc M i;change Hid _ at p v;rcases u with rfl|⟨rfl,S,heq|⟨heq,Z⟩⟩
    all_goals
     go_wp2_with fail;go_quiet (fail);have I:cI wr (wr.drewN nq):=below_drewN cy nq;replace hT:=φ (hT.out.below I);have b:=E.out.later hT.out.bel;clear I x0 x1 x2 x3 x4 x5 x6 x7 a0 a1 a2 a3 a4 a5 a6 a7;generalize wr.drewN nq=w2 at *;obtain⟨x0,x1,x2,x3,x4,x5,x6,x7⟩:=T.out _ hT.out.rd
     skip
     have j:=cQ w2 (.cells #[s.q,s.x.y.o,s.x.y.s,s.x.y.a,s.x.y.ov,.slice s.x.A s.x.y.adj.length s.x.c,.slice s.x.B s.x.y.pre.length s.x.d,s.t] 202);have n:=Rd.lit w2 #[s.q,s.x.y.o,s.x.y.s,s.x.y.a,s.x.y.ov,.slice s.x.A s.x.y.adj.length s.x.c,.slice s.x.B s.x.y.pre.length s.x.d,s.t] 202;have T3:=hT.out.below j;have o3:=T3.own;have e:=T3.bel.size;have f:=pY s;clear j;replace T3:=φ T3;go_wp2_with (at_builtin;refine dK rfl UD (.tmp 52) (.tmp 57) rfl w1 rfl o3 (m:=1) rfl (by simp) n f Q P e (out.length+1) _ rfl rfl ?_;intro v6 w6 o6 g H F);obtain⟨A6,c6,rfl,-⟩:=dN o6;have T4:=T3.out.app o6 g;clear o6 g H F o3 n T3 f e;have hlen:(mT (uY x) l x (k+1)).length=out.length+1:=by rw[p.out];simp
     replace T4:=φ T4;clear x0 x1 x2 x3 x4 x5 x6 x7 b;go_wp2;go_round
     case rel=>exact⟨k+1,A6,c6,by go_num,by rw[v.out],by rw[hlen],by omega,by rw[p.out];exact T4⟩
     case measure=>simp[intOf];omega
  ·obtain rfl:k=m:=by omega
   have b:=E.out.later hT.out.bel;have hp:=D.out;have V:=Ae (uY x) l x k;have Q:(mT (uY x) l x k).length+1≤maxLen:=by simp only[maxLen];omega
   have P:((mT (uY x) l x k).length+1)*96≤140737488355328:=Qv (by omega);have U:(l.take k).any (uY x)=l.any (uY x):=by rw[←hm.out,dE]
   rw[U];generalize l.any (uY x)=put at *;generalize mT (uY x) l x k=out at *;cases put with
   |true=>
     rw[cR rfl]at hp;have hf:Hid (rW w (wi l x) (.returned (.slice A out.length c)) wr):=by
      show rW _ _ _ _
      unfold wi;rw[hp];exact⟨A,c,rfl,dx hT.out.own L,N.trans (hT.out.bel.mono L)⟩
     clear hp hT b;go_wp2;go_ret;exact hf
   |false=>
     rw[cN (by simp)]at hp;have a0:=b.c 0 rfl;have a1:=b.c 1 rfl;have a2:=b.c 2 rfl;have a3:=b.c 3 rfl;have a4:=b.c 4 rfl;have a5:=b.c 5 rfl;have a6:=b.c 6 rfl;have a7:=b.c 7 rfl;have j:=cQ wr (.cells #[x.q,x.x.y.o,x.x.y.s,x.x.y.a,x.x.y.ov,.slice x.x.A x.x.y.adj.length x.x.c,.slice x.x.B x.x.y.pre.length x.x.d,x.t] 202);have n:=Rd.lit wr #[x.q,x.x.y.o,x.x.y.s,x.x.y.a,x.x.y.ov,.slice x.x.A x.x.y.adj.length x.x.c,.slice x.x.B x.x.y.pre.length x.x.d,x.t] 202;have T3:=hT.out.below j;have o3:=T3.own;have e:=T3.bel.size;have f:=pY x;clear j b hT;change Hid _ at T3 hp;go_wp2_with (at_builtin;refine dK rfl UD (.tmp 61) (.tmp 63) rfl w1 rfl o3 (m:=1) rfl (by simp) n f Q P e (out.length+1) _ rfl rfl ?_;intro v6 w6 o6 g H F;obtain⟨A6,c6,rfl,-⟩:=dN o6);have T4:Hid (tG w1 w6 B l A6 c6 (out++ [x])):=T3.out.app o6 g;have hf:Hid (rW w (wi l x) (.returned (.slice A6 (out.length+1) c6)) w6):=by
      show rW _ _ _ _
      unfold wi;rw[hp.out];exact⟨A6,c6,by simp,dx T4.out.own L,N.trans (T4.out.bel.mono L)⟩
     clear o6 g H F o3 n T3 T4 f e;go_wp2;go_ret;exact hf
structure RF where
 iv:Int
 now:Int
 ls:List Int
 dP:List It
abbrev Cp(R:RF)(A:cG)(n c:Nat)(B:cG)(m d:Nat):Value:=.agg #[R.iv,R.now,.slice A n c,.slice B m d]
def Mw(w:World)(v:Value)(R:RF):Prop:=∃A c B d,v=Cp R A R.ls.length c B R.dP.length d∧Rd w A (R.ls.map encZ)∧Rd w B (lG R.dP)∧ ∀s∈R.dP,jD w s.x
def jD.below{w w':World}{s:Lx}(h:jD w s)(hb:cI w w'):jD w' s:=eU.below h hb
def Mw.below{w w':World}{v:Value}{R:RF}(h:Mw w v R)(hb:cI w w'):Mw w' v R:=by
 obtain⟨A,c,B,d,e,hA,hB,hx⟩:=h;exact⟨A,c,B,d,e,hA.below hb,hB.below hb,fun s hs=>(hx s hs).below hb⟩
def JR(q o:Int)(s:It):Bool:=(s.q==q)&& (s.x.y.o==o)
def CG(dP:List It)(q o:Int):Option It:=dP.find? (JR q o)
def Gf(o:Option It):Lx:=match o with|some s=>s.x|none=>⟨dT,none,0,none,0⟩
def D4{w:World}{dP:List It}(h:∀s∈dP,jD w s.x)(q o:Int):jD w (Gf (CG dP q o)):=by
 unfold Gf;split
 ·next s e=>exact h s (vK e)
 ·exact(fQ w w).at
abbrev Cz(s:Lx):Value:=ig s.y.o s.y.s s.y.a s.y.ov s.A s.y.adj.length s.c s.B s.y.pre.length s.d
def LZ(p:It→Bool)(l:List It)(k:Nat)(hk:k<l.length)(h:(l.take k).any p=false)(hp:p l[k]=true):l.find? p=some l[k]:=by
 have hd:l.drop k=l[k] :: l.drop (k+1):=iG hk;generalize l[k]=y at *;have h1:(l.take k).find? p=none:=by
  rw[GY];intro x hx;have:=(ZY.1 h) x hx;simpa using this
 rw[←qo k l,List.find?_append,h1,hd];simp[hp]
def PX(p:It→Bool)(l:List It)(h:(l.take l.length).any p=false):l.find? p=none:=by
 rw[dE]at h;rw[GY];intro x hx;have:=(ZY.1 h) x hx;simpa using this
def _root_.Go.Proofs.YtehimhbgakpenaaGreat.St.Us{W w:World}{g:Nat}{bs:List (Nat× cH)}{rs:List (cG× cH)}{a0 a1 a2 a3 a4 a5:Value}(S:St W w ((g,[a0,a1,a2,a3,a4,a5]) :: bs) rs)(v0 v1 v2 v3 v4 v5:Value)(hg:W≤g)(hd:∀x∈bs,x.1≠g) :
  St W ((((((w.setCell ⟨g,0,none⟩ v0).setCell ⟨g,1,none⟩ v1).setCell ⟨g,2,none⟩ v2).setCell ⟨g,3,none⟩ v3).setCell ⟨g,4,none⟩ v4).setCell ⟨g,5,none⟩ v5) ((g,[v0,v1,v2,v3,v4,v5]) :: bs) rs :=
 (((((S.set 0 0 v0 rfl (by simp) hg hd _ rfl).set 0 1 v1 rfl (by simp) hg hd _ rfl).set 0 2 v2 rfl (by simp) hg hd _ rfl).set 0 3 v3 rfl (by simp) hg hd _ rfl).set 0 4 v4 rfl (by simp) hg hd _ rfl).set 0 5 v5 rfl (by simp) hg hd _ rfl
def zH(w:World)(v:Value)(R:RF)(h:Mw w v R)(hn:R.dP.length≤1000000)(q o:Int) :
  Calls prog 153 #[v,q,o] w fun e w'=>e= .returned (.tuple #[Cz (Gf (CG R.dP q o)),.bool (CG R.dP q o).isSome])∧cI w w':=by
 obtain⟨A,c,B,d,rfl,hA,hB,hx⟩:=h;have S:=(((St.start w).read hB).nw #[R.iv,R.now,.slice A R.ls.length c,.slice B R.dP.length d] 61 w).nw #[i0,i0,i0,false,sn,sn] 41 (w.heap.size+1);have t:=fun k hk=>LZ (JR q o) R.dP k hk
 have l:=fun k (hk:k<R.dP.length)=>tq (JR q o) R.dP k hk
 have g:=PX (JR q o) R.dP;have hT:(R.dP.take 0).any (JR q o)=false:=rfl;obtain⟨G,hG⟩:=ex (CG R.dP q o)
 change R.dP.find? (JR q o)=G at hG;rw[show CG R.dP q o=R.dP.find? (JR q o)from rfl,hG];rw[hG]at g t;obtain⟨iv,now,ls,dP⟩:=R;simp only at *;generalize hm:ls.length=nl at *;obtain⟨m,j⟩:=ex dP.length
 rw[j]at S hn ⊢;change Hid _ at j l t g;clear hA hB hx hm hG;obtain⟨a0,a1,a2,a3⟩:=(S.box 1 rfl).b4;go_in;go_wp2_with fail;clear a0;generalize World.alloc (World.alloc w _) _=w1 at *;go_loopw [8] (fun v8 wr=>∃(k:Nat),v8= .int .i64 k∧k≤m∧Hid ((dP.take k).any (JR q o)=false)∧St w wr [(w.heap.size+1,[i0,i0,i0,false,sn,sn]),(w,[iv,now,.slice A nl c,.slice B m d])] [(B,lG dP)]) (fun v8 _=>m - (intOf v8).toNat)
 case atStart=>exact⟨0,rfl,by omega,hT,S⟩
 case round=>
  clear S hT;obtain⟨k,rfl,hk,hT,S⟩:=hrel;have a0:=(S.box 1 rfl).b4
  by_cases hkn:k<m
  ·have z:k<dP.length:=by rw[j.out];exact hkn
   obtain⟨ba,off,rfl⟩:=yY (S.r 0 rfl) (by omega);obtain⟨s,hs⟩:=ex (dP[k])
   have i:=l.out k z;have p:=t.out k z hT;rw[hs]at i p;rw[hT.out,nV]at i;have C:=sZ (S.r 0 rfl) k z s hs;obtain⟨x0,x1,x2,x3,x4,x5,x6,x7⟩:=C;have f:JR q o s=((s.q==q)&& (s.x.y.o==o)):=rfl;replace i:=φ i;clear hs;cases hc:JR q o s with
   |true=>
     have H:=p hc;subst H;rw[hc]at f;have u:=(Bool.and_eq_true_iff.1 f.symm)
     obtain⟨u,E⟩:=u;obtain⟨f0,f1,f2,f3,f4,f5⟩:=(S.box 0 rfl).f6;have S9:=S.Us (.int .i64 s.x.y.o) (.int .i64 s.x.y.s) (.int .i64 s.x.y.a) (.bool s.x.y.ov) (.slice s.x.A s.x.y.adj.length s.x.c) (.slice s.x.B s.x.y.pre.length s.x.d) (by omega) (by simp);obtain⟨e0,e1,e2,e3,e4,e5⟩:=(S.box 0 rfl).b6;have b0:=(S9.box 0 rfl).b6;have hb9:=S9.b;clear p f hc;go_wp2;exact dc (v:=.tuple #[Cz s.x,true]) (by simp[results,results153,go_sem,b0]) rfl ⟨rfl,hb9⟩
   |false=>
     have F:Hid ((dP.take (k+1)).any (JR q o)=false):=by show _=_;rw[i.out,hc]
     have D:(s.q==q)=false∨((s.q==q)=true∧(s.x.y.o==o)=false):=by
      rw[hc]at f;cases h1:(s.q==q)with
      |false=>exact .inl rfl
      |true=>rw[h1]at f;simp only[gi]at f;exact .inr ⟨rfl,f.symm⟩
     clear hT i p f hc;rcases D with u|⟨u,E⟩
     all_goals
      go_wp2;go_round
      case rel=>exact⟨k+1,by go_num,by omega,F,S⟩
      case measure=>simp[intOf];omega
  ·obtain rfl:k=m:=by omega
   have I:=g.out (by rw[j.out];exact hT);subst I;have f0:=(S.box 0 rfl).f6;have S9:=S.Us i0 i0 i0 (.bool false) sn sn (by omega) (by simp);have e0:=(S.box 0 rfl).b6;have b0:=(S9.box 0 rfl).b6;have hb9:=S9.b;go_wp2;exact dc (v:=.tuple #[Cz (Gf none),false]) (by simp[results,results153,go_sem,b0,Gf,dT]) rfl ⟨rfl,hb9⟩
def GR(w w':World)(A:cG)(c:Nat)(ls:List Int)(A':cG)(c':Nat)(ls':List Int):Prop:=(A'=A∧c'=c∧ls'=ls)∨w'.ownsRow w 3 1 (.slice A' ls'.length c') ls'.length (ls'.map encZ)
def GS(w w':World)(B:cG)(d:Nat)(dP:List It)(B':cG)(d':Nat)(its':List It):Prop:=(B'=B∧d'=d∧its'=dP)∨w'.ownsRow w 202 8 (.slice B' its'.length d') its'.length (lG its')
def tw(w:World)(A:cG)(c:Nat)(B:cG)(d:Nat)(R R':RF)(e:Ending)(w':World):Prop :=
 ∃A' c' B' d',e= .returned (Cp R' A' R'.ls.length c' B' R'.dP.length d')∧GR w w' A c R.ls A' c' R'.ls∧GS w w' B d R.dP B' d' R'.dP∧cI w w'
noncomputable def BM(R:RF)(q:Int)(a:La):Bool:=match CG R.dP q a.o with|some s=>decide (kO a s.x.y≤0)|none=>false
noncomputable def kN(R:RF)(q:Int)(a:Lx):RF:=if BM R q a.y=true then R else⟨R.iv,R.now,R.ls,wi (wo q a.y.o R.dP) ⟨q,a,R.now⟩⟩
def I9(q o:Int)(l:List It):(wo q o l).length≤l.length:=cz
def Vb{l:List It}{x s:It}(h:s∈wi l x):s=x∨s∈l:=by
 unfold wi at h
 induction l with
 |nil=>simp only[ins,ew]at h;exact .inl h
 |cons t l ih=>
   unfold ins at h;split at h
   ·rcases dA.1 h with h|h
    ·exact .inl h
    ·exact .inr h
   ·rcases dA.1 h with h|h
    ·exact .inr (by rw[h];simp)
    ·rcases ih h with h|h
     ·exact .inl h
     ·exact .inr (fy _ h)
def _root_.Go.Proofs.YtehimhbgakpenaaGreat.St.sN{W w:World}{g:Nat}{bs:List (Nat× cH)}{rs:List (cG× cH)}{a0 a1 a2 a3:Value}(S:St W w ((g,[a0,a1,a2,a3]) :: bs) rs)(v0 v1 v2 v3:Value)(hg:W≤g)(hd:∀x∈bs,x.1≠g) :
  St W ((((w.setCell ⟨g,0,none⟩ v0).setCell ⟨g,1,none⟩ v1).setCell ⟨g,2,none⟩ v2).setCell ⟨g,3,none⟩ v3) ((g,[v0,v1,v2,v3]) :: bs) rs :=
 (((S.set 0 0 v0 rfl (by simp) hg hd _ rfl).set 0 1 v1 rfl (by simp) hg hd _ rfl).set 0 2 v2 rfl (by simp) hg hd _ rfl).set 0 3 v3 rfl (by simp) hg hd _ rfl
def je{w:World}{base:Nat}{e:TypeId}{size:Nat}{v:Value}{n:Nat}{xs:cH}(h:w.ownsRow base e size v n xs){g:Nat}(hg:g<base)(u0 u1 u2 u3:Value) :
  ((((w.setCell ⟨g,0,none⟩ u0).setCell ⟨g,1,none⟩ u1).setCell ⟨g,2,none⟩ u2).setCell ⟨g,3,none⟩ u3).ownsRow base e size v n xs :=
 cV (a:=⟨g,3,none⟩) (cV (a:=⟨g,2,none⟩) (cV (a:=⟨g,1,none⟩) (cV (a:=⟨g,0,none⟩) h hg u0) hg u1) hg u2) hg u3
def jX{w:World}{base:Nat}{e:TypeId}{size:Nat}{v:Value}{n:Nat}{xs:cH}(h:w.ownsRow base e size v n xs){g:Nat}(hg:g<base)(j:Nat)(u:Value):(w.setCell ⟨g,j,none⟩ u).ownsRow base e size v n xs :=
 cV (a:=⟨g,j,none⟩) h hg u
def nP(w:World)(l:List It):Prop:=∀s∈l,jD w s.x
def nP.below{w w':World}{l:List It}(h:nP w l)(hb:cI w w'):nP w' l:=fun s hs=>(h s hs).below hb
def D1:iF prog 58 3 (.int .i64 0) 1 8:=⟨underlying58,by kernel_rfl,rfl,by omega⟩
def th(l:List Int):∀u∈l.map encZ,u.oneCell'=true:=by
 intro u hu;obtain⟨z,_,rfl⟩:=dL.1 hu;rfl
def _root_.Go.Proofs.YtehimhbgakpenaaGreat.fq.Xk{w w':World}{g B:Nat}{cs:cH}(h:fq w g cs)(hb:Below B w w')(hg:g<B):fq w' g cs:=fun i u hu=>by
 obtain⟨h1,h2⟩:=h i u hu;have e:=hb.block g hg;exact⟨(cY (a:=⟨g,i,none⟩) e).trans h1,(eC (a:=⟨g,i,none⟩) e).trans h2⟩
def _root_.Go.Proofs.YtehimhbgakpenaaGreat.St.Q7{W w w':World}{bs:List (Nat× cH)}{rs:List (cG× cH)}(S:St W w bs rs){B:Nat}(hb:Below B w w')(hB:W≤B)(h:∀x∈bs,x.1<B):St W w' bs rs :=
 ⟨S.b.trans (hb.mono hB),fun i x hx=>(S.bx i x hx).Xk hb (h x (eu hx)),S.rd⟩
def Ub{n:Nat}(h:n≤1000009):n*8≤140737488355328:=by omega
def EC(q:Int)(l:List Int):List Int:=l.filter fun i=>i !=q
def Qf(q:Int)(l:List Int)(k:Nat)(hk:k<l.length):EC q (l.take (k+1))=EC q (l.take k)++(if (l[k] !=q)=true then [l[k]]else []):=by
 unfold EC;rw[cT hk,gC]
 congr 1
 by_cases h:(l[k] !=q)=true
 ·rw[cR h];simp only[List.filter,h]
 ·rw[cN h];simp only[List.filter];rw[yt]at h;rw[h]
def TO(q:Int)(l:List Int)(k:Nat):(EC q (l.take k)).length≤k:=by
 unfold EC;exact cZ cz (by simp;omega)
def xx(R:RF)(q:Int):RF:=⟨R.iv,R.now,EC q R.ls,wo q (-1) R.dP⟩
def Ep(w:World)(R':RF)(e:Ending)(w':World):Prop :=
 ∃A' c' B' d',e= .returned (Cp R' A' R'.ls.length c' B' R'.dP.length d')∧w'.ownsRow w 3 1 (.slice A' R'.ls.length c') R'.ls.length (R'.ls.map encZ)∧w'.ownsRow w 202 8 (.slice B' R'.dP.length d') R'.dP.length (lG R'.dP)∧cI w w'
def Cq(w:World)(A:cG)(c:Nat)(B:cG)(d:Nat)(R:RF)(hA:Rd w A (R.ls.map encZ))(hB:Rd w B (lG R.dP))(hn:R.dP.length≤1000000)(hl:R.ls.length≤1000000)(q:Int) :
  Calls prog 99 #[Cp R A R.ls.length c B R.dP.length d,q] w (Ep w (xx R q)):=by
 have a:Hid (∀w' A' c' B' d',cI w w'→w'.ownsRow w 3 1 (.slice A' (EC q R.ls).length c') (EC q R.ls).length ((EC q R.ls).map encZ)→w'.ownsRow w 202 8 (.slice B' (wo q (-1) R.dP).length d') (wo q (-1) R.dP).length (lG (wo q (-1) R.dP))→Ep w (xx R q) (.returned (.agg #[R.iv,R.now,.slice A' (EC q R.ls).length c',.slice B' (wo q (-1) R.dP).length d'])) w'):=fun w' A' c' B' d' hb h1 h2=>
  ⟨A',c',B',d',rfl,h1,h2,hb⟩
 have S:=(((((St.start w).read hA).read hB).nw #[R.iv,R.now,.slice A R.ls.length c,.slice B R.dP.length d] 61 w).nw #[i0,i0,sn,sn] 61 (w.heap.size+1))
 have hW:=fun W (hb:cI w W)=>oh W B R.dP.length d R.dP (hB.below hb) rfl hn q (-1)
 obtain⟨L,hL⟩:=ex (wo q (-1) R.dP)
 rw[hL]at a hW;have f:=fun k hk=>Qf q R.ls k hk
 have hle:=fun k=>TO q R.ls k
 have l:EC q R.ls=EC q (R.ls.take R.ls.length):=by rw[dE]
 have h0:EC q (R.ls.take 0)= []:=rfl;obtain⟨D,hD⟩:=ex (fun k=>EC q (R.ls.take k))
 have u:∀k,EC q (R.ls.take k)=D k:=fun k=>by rw[←hD]
 rw[l]at a;simp only[u]at a f hle h0;clear l hL hA hB hn hD u;obtain⟨Q,hQ⟩:=ex (Ep w (xx R q))
 rw[hQ]at a ⊢;clear hQ;obtain⟨iv,now,ls,dP⟩:=R;simp only at *;generalize dP.length=m at *;obtain⟨n,i⟩:=ex ls.length
 rw[i]at S a hl ⊢;change Hid _ at i f hle;replace hW:=φ hW;generalize lG dP=iB at *;obtain⟨a0,a1,a2,a3⟩:=(S.box 1 rfl).b4;go_in;go_wp2_with fail;clear a0;generalize World.alloc (World.alloc w _) _=w1 at *;have o0:w1.ownsRow (w.heap.size+2) 3 1 sn (D 0).length ((D 0).map encZ):=by rw[h0];exact cn
 go_loopw [5,6] (fun v5 v6 wr=>∃(k:Nat) (A':cG) (c':Nat),v6= .int .i64 k∧v5= .slice A' (D k).length c'∧k≤n∧St w wr [(w.heap.size+1,[i0,i0,sn,sn]),(w,[.int .i64 iv,now,.slice A n c,.slice B m d])] [(B,iB),(A,ls.map encZ)]∧wr.ownsRow (w.heap.size+2) 3 1 (.slice A' (D k).length c') (D k).length ((D k).map encZ)) (fun _ v6 _=>n - (intOf v6).toNat)
 case atStart=>exact⟨0,none,0,rfl,by rw[h0];rfl,by omega,S,by rw[h0];exact cn⟩
 case round=>
  clear S h0 o0;obtain⟨k,A',c',rfl,rfl,hk,S,ho⟩:=hrel;obtain⟨a0,a1,a2,a3⟩:=(S.box 1 rfl).b4
  by_cases hkn:k<n
  ·have t:k<ls.length:=by rw[i.out];exact hkn
   obtain⟨bz,j,rfl,hz⟩:=gE (S.r 1 rfl) (by simp only[dh];omega);have z0:=hz k _ (by rw[eJ,cM t];rfl);have hu:=f.out k t;have F:=hle.out k;unfold encZ at z0;generalize ls[k]=y at *;replace hu:=φ hu;clear hz;have C:w.heap.size+1<wr:=(S.box 0 rfl).lt (by simp);cases hy:(y !=q)with
   |true=>
     have x:=Rd.lit wr #[.int .i64 y] 3;have p:=cQ wr (.cells #[.int .i64 y] 3);have h:=dg ho p;have S3:=S.call p;have z:w.heap.size+2≤(World.alloc wr (.cells #[.int .i64 y] 3)).heap.size:=by simp;omega
     have e:D (k+1)=D k++ [y]:=by rw[hu.out,cR hy]
     have el:(D k).length+1=(D (k+1)).length:=by rw[e];simp
     have s:(D k).map encZ++ [.int .i64 y]=(D (k+1)).map encZ:=by rw[e];simp
     have b8:((D k).length+1)*8≤140737488355328:=Ub (by omega);clear ho S p e hu;change Hid _ at s el;go_wp2_with (at_builtin;refine dK rfl D1 (.tmp 21) (.tmp 27) rfl (w.heap.size+2) rfl h (m:=1) rfl (by simp) x (th [y]) (by simp only[maxLen];omega) b8 z _ _ el s ?_;intro v6 w6 o6 o G _);obtain⟨A7,c7,rfl,-⟩:=dN o6;have S9:St w w6 [(w.heap.size+1,[i0,i0,sn,sn]),(w,[.int .i64 iv,now,.slice (some ⟨bz,j,none⟩) n c,.slice B m d])] [(B,iB),(some ⟨bz,j,none⟩,ls.map encZ)]:=S3.Q7 o (by omega) (by simp);go_wp2;go_round
     case rel=>exact⟨k+1,A7,c7,by go_num,rfl,by omega,S9,o6⟩
     case measure=>simp[intOf];omega
   |false=>
     have e:D (k+1)=D k:=by rw[hu.out,cN (by simpa using hy),gY]
     rw[←e]at ho;have e':=φ e;clear e hu;go_wp2;go_round
     case rel=>exact⟨k+1,A',c',by go_num,by rw[e'.out],by omega,S,ho⟩
     case measure=>simp[intOf];omega
  ·obtain rfl:n=k:=by omega
   have C:w.heap.size+1<wr:=(S.box 0 rfl).lt (by simp);go_wp2_with fail;refine (hW _ S.b).mono ?_;rintro e w3 ⟨B3,d3,rfl,h,hb⟩;clear a0;replace S:=S.call hb;replace ho:=dg ho hb;clear hb;have a0:=(S.box 1 rfl).b4;have f0:=(S.box 1 rfl).f4;have S5:=(S.s 1 2 (.slice A' (D n).length c')).s 1 3 (.slice B3 L.length d3);have S9:=S5.sN (.int .i64 iv) (.int .i64 now) (.slice A' (D n).length c') (.slice B3 L.length d3) (by omega) (by simp);have o8:=je (jX (jX ho (g:=w.heap.size) (by omega) 2 (.slice A' (D n).length c')) (g:=w.heap.size) (by omega) 3 (.slice B3 L.length d3)) (g:=w.heap.size+1) (by omega) (.int .i64 iv) (.int .i64 now) (.slice A' (D n).length c') (.slice B3 L.length d3);have o9:=je (jX (jX h (g:=w.heap.size) (by omega) 2 (.slice A' (D n).length c')) (g:=w.heap.size) (by omega) 3 (.slice B3 L.length d3)) (g:=w.heap.size+1) (by omega) (.int .i64 iv) (.int .i64 now) (.slice A' (D n).length c') (.slice B3 L.length d3);have E:=φ (a _ A' c' B3 d3 S9.b (dx o8 (by omega)) (dx o9 (by omega)));have e0:=(S5.box 1 rfl).b4;have r0:=(S5.box 0 rfl).b4;have g0:=(S5.box 0 rfl).f4;have k0:=(S9.box 0 rfl).b4;clear hW a ho h o8 o9;go_wp2;exact dc (v:=.agg #[.int .i64 iv,now,.slice A' (D n).length c',.slice B3 L.length d3]) (by simp[results,results99,go_sem,k0]) rfl E
def Cr(w:World)(A:cG)(c:Nat)(B:cG)(d:Nat)(R:RF)(hA:Rd w A (R.ls.map encZ))(hB:Rd w B (lG R.dP))(hn:R.dP.length≤1000000)(hl:R.ls.length≤1000000)(q:Int) :
  Calls prog 99 #[Cp R A R.ls.length c B R.dP.length d,q] w (tw w A c B d R (xx R q)) :=
 (Cq w A c B d R hA hB hn hl q).mono fun e w' ⟨A',c',B',d',h1,h2,h3,h4⟩=>⟨A',c',B',d',h1,.inr h2,.inr h3,h4⟩
abbrev KU(R:RF)(A:cG)(c:Nat)(B:cG)(d:Nat):cH:=[R.iv,R.now,.slice A R.ls.length c,.slice B R.dP.length d]
def By(wr:World)(base:Nat)(A0:cG)(c0:Nat)(ls0:List Int)(A:cG)(c:Nat)(ls:List Int):Prop:=(A=A0∧c=c0∧ls=ls0)∨wr.ownsRow base 3 1 (.slice A ls.length c) ls.length (ls.map encZ)
def Eu(wr:World)(base:Nat)(B0:cG)(d0:Nat)(its0:List It)(B:cG)(d:Nat)(dP:List It):Prop:=(B=B0∧d=d0∧dP=its0)∨wr.ownsRow base 202 8 (.slice B dP.length d) dP.length (lG dP)
section
variable {w wr w':World} {base base':Nat} {A0 A A':cG} {ls0 ls ls':List Int} {c0 c c':Nat} {B0 B B':cG} {its0 dP its':List It} {d0 d d':Nat}
def By.below(h:By wr base A0 c0 ls0 A c ls)(hb:cI wr w'):By w' base A0 c0 ls0 A c ls:=h.imp id fun h=>dg h hb
def Eu.below(h:Eu wr base B0 d0 its0 B d dP)(hb:cI wr w'):Eu w' base B0 d0 its0 B d dP:=h.imp id fun h=>dg h hb
def By.to(h:By wr base A0 c0 ls0 A c ls)(hb:cI wr w')(hs:base≤wr)(h2:GR wr w' A c ls A' c' ls'):By w' base A0 c0 ls0 A' c' ls':=by
 rcases h2 with ⟨rfl,rfl,rfl⟩|h2
 ·exact h.below hb
 ·exact .inr (dx h2 hs)
def Eu.to(h:Eu wr base B0 d0 its0 B d dP)(hb:cI wr w')(hs:base≤wr)(h2:GS wr w' B d dP B' d' its'):Eu w' base B0 d0 its0 B' d' its':=by
 rcases h2 with ⟨rfl,rfl,rfl⟩|h2
 ·exact h.below hb
 ·exact .inr (dx h2 hs)
def By.rd(h:By wr base A0 c0 ls0 A c ls)(h0:Rd wr A0 (ls0.map encZ)):Rd wr A (ls.map encZ):=by
 rcases h with ⟨rfl,_,rfl⟩|h
 ·exact h0
 ·exact dQ h
def Eu.rd(h:Eu wr base B0 d0 its0 B d dP)(h0:Rd wr B0 (lG its0)):Rd wr B (lG dP):=by
 rcases h with ⟨rfl,_,rfl⟩|h
 ·exact h0
 ·exact dQ h
def By.sN(h:By wr base A0 c0 ls0 A c ls){g:Nat}(hg:g<base)(u0 u1 u2 u3:Value):By ((((wr.setCell ⟨g,0,none⟩ u0).setCell ⟨g,1,none⟩ u1).setCell ⟨g,2,none⟩ u2).setCell ⟨g,3,none⟩ u3) base A0 c0 ls0 A c ls:=h.imp id fun h=>je h hg u0 u1 u2 u3
def Eu.sN(h:Eu wr base B0 d0 its0 B d dP){g:Nat}(hg:g<base)(u0 u1 u2 u3:Value):Eu ((((wr.setCell ⟨g,0,none⟩ u0).setCell ⟨g,1,none⟩ u1).setCell ⟨g,2,none⟩ u2).setCell ⟨g,3,none⟩ u3) base B0 d0 its0 B d dP:=h.imp id fun h=>je h hg u0 u1 u2 u3
def By.Dy(h:By wr base A0 c0 ls0 A c ls){g:Nat}(hg:g<base)(j:Nat)(u:Value):By (wr.setCell ⟨g,j,none⟩ u) base A0 c0 ls0 A c ls:=h.imp id fun h=>jX h hg j u
def By.fin(h:By wr base A0 c0 ls0 A c ls)(hb:base'≤base)(hw:base'=w.heap.size):GR w wr A0 c0 ls0 A c ls:=h.imp id fun h=>by subst hw;exact dx h hb
def Eu.fin(h:Eu wr base B0 d0 its0 B d dP)(hb:base'≤base)(hw:base'=w.heap.size):GS w wr B0 d0 its0 B d dP:=h.imp id fun h=>by subst hw;exact dx h hb
end
def ry(w:World)(A:cG)(c:Nat)(B:cG)(d:Nat)(R:RF)(hA:Rd w A (R.ls.map encZ))(hB:Rd w B (lG R.dP))(hx:nP w R.dP)(hn:R.dP.length≤900000)(q:Int)(a:Lx)(ha:jD w a) :
  Calls prog 142 #[Cp R A R.ls.length c B R.dP.length d,q,Cz a] w (tw w A c B d R (kN R q a)):=by
 have hG:=fun W (hb:cI w W)=>zH W _ R (Mw.below ⟨A,c,B,d,rfl,hA,hB,hx⟩ hb) (by omega) q a.y.o
 have h:Hid (∀w',cI w w'→BM R q a.y=true→tw w A c B d R (kN R q a) (.returned (Cp R A R.ls.length c B R.dP.length d)) w'):=fun w' hb ho=>by
  unfold kN;rw[cR ho];exact⟨A,c,B,d,rfl,.inl ⟨rfl,rfl,rfl⟩,.inl ⟨rfl,rfl,rfl⟩,hb⟩
 have i:Hid (∀w' B' d',cI w w'→w'.ownsRow w 202 8 (.slice B' (wi (wo q a.y.o R.dP) ⟨q,a,R.now⟩).length d') (wi (wo q a.y.o R.dP) ⟨q,a,R.now⟩).length (lG (wi (wo q a.y.o R.dP) ⟨q,a,R.now⟩))→BM R q a.y=false→tw w A c B d R (kN R q a) (.returned (.agg #[R.iv,R.now,.slice A R.ls.length c,.slice B' (wi (wo q a.y.o R.dP) ⟨q,a,R.now⟩).length d'])) w'):=fun w' B' d' hb hr ho=>by
  unfold kN;rw[cN (by rw[ho];simp)];exact⟨A,c,B',d',rfl,.inl ⟨rfl,rfl,rfl⟩,.inr hr,hb⟩
 have S:=(((((St.start w).read hB).nw #[R.iv,R.now,.slice A R.ls.length c,.slice B R.dP.length d] 61 w).nw #[a.y.o,a.y.s,a.y.a,a.y.ov,.slice a.A a.y.adj.length a.c,.slice a.B a.y.pre.length a.d] 41 (w.heap.size+1))).nw #[i0,i0,sn,sn] 61 (w.heap.size+2);have k:=D4 hx q a.y.o;have l:Hid (BM R q a.y=match CG R.dP q a.y.o with|some s=>decide (kO a.y s.x.y≤0)|none=>false):=rfl;have hb9:R.dP.length≤1000000:=by omega
 have hW:=fun W (hb:cI w W)=>oh W B R.dP.length d R.dP (hB.below hb) rfl hb9 q a.y.o
 have hI:=fun W B' d' (hr:Rd W B' (lG (wo q a.y.o R.dP)))=>tN W B' (wo q a.y.o R.dP).length d' (wo q a.y.o R.dP) hr rfl (cZ (I9 _ _ _) hb9) ⟨q,a,R.now⟩
 replace hG:=φ hG;replace hW:=φ hW;replace hI:=φ hI;replace ha:=φ ha;clear hA hB hx;obtain⟨a0,a1,a2,a3⟩:=(S.box 2 rfl).b4;obtain⟨b0,b1,b2,b3,b4,b5⟩:=(S.box 1 rfl).b6;go_in;go_wp2_with fail;refine (hG.out _ S.b).mono ?_;rintro e w2 ⟨rfl,hb⟩;clear a0 b0;replace S:=S.call hb;clear hb hG;generalize CG R.dP q a.y.o=G at *;obtain⟨X,hX⟩:=ex (Gf G)
 rw[hX]at k ⊢;replace S:=S.iE #[X.y.o,X.y.s,X.y.a,X.y.ov,.slice X.A X.y.adj.length X.c,.slice X.B X.y.pre.length X.d] 41 (w2.heap.size) _ (by first|rfl|simp) rfl;obtain⟨L,hL⟩:=ex (wi (wo q a.y.o R.dP) ⟨q,a,R.now⟩)
 rw[hL]at i;simp only[hL]at hI;obtain⟨L1,n⟩:=ex (wo q a.y.o R.dP)
 rw[n]at hW;simp only[n]at hI;clear hL n;cases G
 case' none=>
  have C:Hid (BM R q a.y=false):=l;clear h l k hX
 case' some s=>
  obtain rfl:s.x=X:=hX;have NW:=kF _ _ _ a.y s.x.y (eU.below ha.out S.b) (k.below S.b);have j:Hid (BM R q a.y=decide (kO a.y s.x.y≤0)):=l;generalize kO a.y s.x.y=z at *;generalize s.x=X at *;replace NW:=φ NW;clear l k;obtain⟨b0,b1,b2,b3,b4,b5⟩:=(S.box 2 rfl).b6;obtain⟨e0,e1,e2,e3,e4,e5⟩:=(S.box 0 rfl).b6;go_wp2_with fail;refine NW.out.mono ?_;rintro e w4 ⟨rfl,hb⟩;clear b0 e0 e4 e5;replace S:=S.call hb;clear NW hb;rcases hz:decide (z≤0)with _|_
  rotate_left
  ·have hf:=fun w' hb=>h.out w' hb (j.out.trans hz)
   obtain⟨b0,b1,b2,b3⟩:=(S.box 3 rfl).b4;have S9:=(S.dX [(w.heap.size+2,[i0,i0,sn,sn])] (by simp)).sN (.int .i64 R.iv) (.int .i64 R.now) (.slice A R.ls.length c) (.slice B R.dP.length d) (by omega) (by simp);obtain⟨e0,e1,e2,e3⟩:=(S9.box 0 rfl).b4;obtain⟨r0,r1,r2,r3⟩:=(S.box 1 rfl).b4;obtain⟨f0,f1,f2,f3⟩:=(S.box 1 rfl).f4;have m:=φ (hf _ S9.b);clear h i j hf hW hI;go_wp2;exact dc (v:=Cp R A R.ls.length c B R.dP.length d) (by simp[results,results142,go_sem,e0,e1,e2,e3]) rfl m.out
  have C:Hid (BM R q a.y=false):=j.out.trans hz;clear h j
 all_goals
  have hf:=i;clear i;go_upto_region 4 with fail
  (try clear hz)
  have r:True:=trivial;have Sd:=S.drew;have a0:=(Sd.box 3 rfl).b4;have b0:=(Sd.box 2 rfl).b6;have p:True:=trivial;clear S;go_region_law
   (first
    |(clear r;rw[cR (by simp[Region.wanted])];go_simp;refine (hW.out _ Sd.b).mono ?_;rintro e wa ⟨A1,c1,rfl,u,E⟩;have T:=Sd.call E;have ka:=T.c 3 1 rfl rfl;have F:=(T.box 2 rfl).b6;dsimp only)
    | (clear p; rw [cR (by simp [Region.wanted])]; go_simp; (with_reducible refine (hI.out _ _ _ (dQ u)).mono ?_); rintro e wb ⟨A2,c2,rfl,t,D⟩; have U:=T.call D; have ff:=U.f 3 3 rfl rfl; have cc:=U.c 3 3 rfl rfl; dsimp only))
  all_goals
   have H:w.heap.size+2<wa:=(T.box 1 rfl).lt (by simp);have V:=(U.dX [(w.heap.size+2,[i0,i0,sn,sn]),(w,[R.iv,R.now,.slice A R.ls.length c,.slice B R.dP.length d])] (by simp)).s 1 3 (.slice A2 L.length c2);have V9:=V.sN (.int .i64 R.iv) (.int .i64 R.now) (.slice A R.ls.length c) (.slice A2 L.length c2) (by omega) (by simp);have o9:=je (jX t (g:=w.heap.size) (by omega) 3 (.slice A2 L.length c2)) (g:=w.heap.size+2) (by omega) (.int .i64 R.iv) (.int .i64 R.now) (.slice A R.ls.length c) (.slice A2 L.length c2);have m:=φ (hf.out _ A2 c2 V9.b (dx o9 (by omega)) C.out);have e0:=(V.box 1 rfl).b4;have r0:=(V.box 0 rfl).b4;have f0:=(V.box 0 rfl).f4;obtain⟨k0,k1,k2,k3⟩:=(V9.box 0 rfl).b4;clear hf hW hI T U u t E D;go_wp2;exact dc (v:=.agg #[R.iv,R.now,.slice A R.ls.length c,.slice A2 L.length c2]) (by simp[results,results142,go_sem,k0,k1,k2,k3]) rfl m.out
noncomputable def Vn(R:RF)(q:Int)(a:La):Bool:=match CG R.dP q a.o with|some s=>decide (kO s.x.y a≤0)|none=>false
noncomputable def EU(a:Lx)(ex:Int)(R:RF)(q:Int):RF:=if (q !=ex)=true then kN R q a else if Vn R ex a.y=true then⟨R.iv,R.now,R.ls,wo ex a.y.o R.dP⟩else R
noncomputable def EW(R:RF)(a:Lx)(ex:Int):RF:=R.ls.foldl (EU a ex) R
def Ta(R:RF)(q:Int)(a:Lx):(kN R q a).ls=R.ls∧(kN R q a).iv=R.iv∧(kN R q a).now=R.now:=by unfold kN;split<;>exact⟨rfl,rfl,rfl⟩
def Vc(l:List It)(x:It):(wi l x).length=l.length+1:=JM _ _ _
def FR(R:RF)(q:Int)(a:Lx):(kN R q a).dP.length≤R.dP.length+1:=by
 unfold kN;split
 ·omega
 ·show(wi _ _).length≤_
  rw[Vc];have:=I9 q a.y.o R.dP;omega
def JE{w:World}{R:RF}{q:Int}{a:Lx}(h:nP w R.dP)(ha:jD w a):nP w (kN R q a).dP:=by
 unfold kN;split
 ·exact h
 ·intro s hs;rcases Vb hs with e|e
  ·rw[e];exact ha
  ·exact h s (dW.1 e).1
def xT{α β:Type}(f:α→β→α)(z:α)(l:List β)(k:Nat)(hk:k<l.length):(l.take (k+1)).foldl f z=f ((l.take k).foldl f z) l[k]:=by
 rw[cT hk,I2];rfl
structure pO (w wr:World) (A0:cG) (c0:Nat) (B0:cG) (d0:Nat) (R0:RF) (aC:cH) (k:Nat) (R:RF) (A:cG) (c:Nat) (B:cG) (d:Nat):Prop where
 S:St w wr [(w,KU R A c B d),(w.heap.size+1,aC),(w.heap.size+2,[.int .i64 0,.int .i64 0,.slice none 0 0,.slice none 0 0])] [(A0,R0.ls.map encZ),(B0,lG R0.dP)]
 la:By wr (w.heap.size+3) A0 c0 R0.ls A c R.ls
 it:Eu wr (w.heap.size+3) B0 d0 R0.dP B d R.dP
 ls:R.ls=R0.ls
 ok:nP w R.dP
 ln:R.dP.length≤R0.dP.length+k
section
variable {w wr w':World} {A0 B0 A B A' B':cG} {R0 R R':RF} {aC:cH} {k c0 d0 c d c' d':Nat}
def pO.below(h:pO w wr A0 c0 B0 d0 R0 aC k R A c B d)(hb:cI wr w'):pO w w' A0 c0 B0 d0 R0 aC k R A c B d:=⟨h.S.call hb,h.la.below hb,h.it.below hb,h.ls,h.ok,h.ln⟩
def pO.size(h:pO w wr A0 c0 B0 d0 R0 aC k R A c B d):w.heap.size+3≤wr:=(h.S.box 2 rfl).lt (by simp)
def pO.W8(h:pO w wr A0 c0 B0 d0 R0 aC k R A c B d):Rd wr A (R.ls.map encZ):=h.la.rd (h.S.r 0 rfl)
def pO.W7(h:pO w wr A0 c0 B0 d0 R0 aC k R A c B d):Rd wr B (lG R.dP):=h.it.rd (h.S.r 1 rfl)
def pO.Za(h:pO w wr A0 c0 B0 d0 R0 aC k R A c B d):nP wr R.dP:=h.ok.below h.S.b
def pO.to(h:pO w wr A0 c0 B0 d0 R0 aC k R A c B d)(hb:cI wr w')(h1:GR wr w' A c R.ls A' c' R'.ls)(h2:GS wr w' B d R.dP B' d' R'.dP)(e1:R'.ls=R.ls)(e2:nP w R'.dP)(e3:R'.dP.length≤R.dP.length+1) :
  pO w ((((w'.setCell ⟨w,0,none⟩ (.int .i64 R'.iv)).setCell ⟨w,1,none⟩ (.int .i64 R'.now)).setCell ⟨w,2,none⟩ (.slice A' R'.ls.length c')).setCell ⟨w,3,none⟩ (.slice B' R'.dP.length d')) A0 c0 B0 d0 R0 aC (k+1) R' A' c' B' d' :=
 ⟨(h.S.call hb).sN _ _ _ _ cj (by simp),(h.la.to hb h.size h1).sN (by omega) _ _ _ _,(h.it.to hb h.size h2).sN (by omega) _ _ _ _,e1.trans h.ls,e2,by have:=h.ln;omega⟩
def pO.same(h:pO w wr A0 c0 B0 d0 R0 aC k R A c B d):pO w wr A0 c0 B0 d0 R0 aC (k+1) R A c B d:=⟨h.S,h.la,h.it,h.ls,h.ok,cZ h.ln (by omega)⟩
def pO.less(h:pO w wr A0 c0 B0 d0 R0 aC k R A c B d){q o:Int}(hb:cI wr w')(h2:w'.ownsRow wr 202 8 (.slice B' (wo q o R.dP).length d') (wo q o R.dP).length (lG (wo q o R.dP))) :
  pO w (w'.setCell ⟨w,3,none⟩ (.slice B' (wo q o R.dP).length d')) A0 c0 B0 d0 R0 aC (k+1) ⟨R.iv,R.now,R.ls,wo q o R.dP⟩ A c B' d' :=
 ⟨(h.S.call hb).s 0 3 _,(h.la.below hb).Dy (by omega) _ _,.inr (jX (dx h2 h.size) (by omega) _ _),h.ls,fun s hs=>h.ok s (dW.1 hs).1,cZ (I9 _ _ _) (cZ h.ln (by omega))⟩
end
def pV(w:World)(A:cG)(c:Nat)(B:cG)(d:Nat)(R:RF)(hA:Rd w A (R.ls.map encZ))(hB:Rd w B (lG R.dP))(hx:nP w R.dP)(hn:R.dP.length+R.ls.length≤900000)(a:Lx)(ha:jD w a)(ex:Int) :
  Calls prog 101 #[Cp R A R.ls.length c B R.dP.length d,Cz a,ex] w (tw w A c B d R (EW R a ex)):=by
 have S:=(((((St.start w).read hB).read hA).nw #[R.iv,R.now,.slice A R.ls.length c,.slice B R.dP.length d] 61 w).nw #[a.y.o,a.y.s,a.y.a,a.y.ov,.slice a.A a.y.adj.length a.c,.slice a.B a.y.pre.length a.d] 41 (w.heap.size+1)).nw #[.int .i64 0,.int .i64 0,.slice none 0 0,.slice none 0 0] 61 (w.heap.size+2);have i:∃n,R.ls.length=n:=⟨_,rfl⟩
 obtain⟨n,i⟩:=i;have P0:pO w _ A c B d R [a.y.o,a.y.s,a.y.a,a.y.ov,.slice a.A a.y.adj.length a.c,.slice a.B a.y.pre.length a.d] 0 R A c B d:=⟨S.dX _ (by simp),.inl ⟨rfl,rfl,rfl⟩,.inl ⟨rfl,rfl,rfl⟩,rfl,hx,by omega⟩
 have r:=fun k hk=>xT (EU a ex) R R.ls k hk
 have C:EW R a ex=(R.ls.take n).foldl (EU a ex) R:=by unfold EW;rw[←i,dE]
 have h0:(R.ls.take 0).foldl (EU a ex) R=R:=rfl;obtain⟨F,hF⟩:∃F,(fun k=>(R.ls.take k).foldl (EU a ex) R)=F:=⟨_,rfl⟩
 have hk:∀k,(R.ls.take k).foldl (EU a ex) R=F k:=fun k=>by rw[←hF]
 rw[C];simp only[hk]at r h0 ⊢;clear C hk hF S hA hB hx;replace r:=φ r;replace i:=φ i;replace ha:=φ ha;replace h0:=φ h0;go_in;go_wp2_with fail;generalize World.alloc (World.alloc (World.alloc w _) _) _=w1 at *;go_loopw [7] (fun v7 wr=>∃(k:Nat) (A':cG) (c':Nat) (B':cG) (d':Nat),v7= .int .i64 k∧k≤n∧pO w wr A c B d R [a.y.o,a.y.s,a.y.a,a.y.ov,.slice a.A a.y.adj.length a.c,.slice a.B a.y.pre.length a.d] k (F k) A' c' B' d') (fun v7 _=>n - (intOf v7).toNat)
 case atStart=>exact⟨0,A,c,B,d,rfl,by omega,by rw[h0.out];exact P0⟩
 case round=>
  clear P0 h0;obtain⟨k,A',c',B',d',rfl,hk,P⟩:=hrel;obtain⟨Rk,j⟩:∃z,F k=z:=⟨_,rfl⟩
  rw[j]at P;have D:Rk.ls.length=n:=by rw[P.ls,i.out]
  have Z:=P.ln
  by_cases hkn:k<n
  ·have O:k<R.ls.length:=by rw[i.out];exact hkn
   have hu:=r.out k O;rw[j]at hu;obtain⟨bz,L,rfl,hz⟩:=gE P.W8 (by simp only[dh];omega);have z0:=hz k _ (by rw[P.ls,eJ,cM O];rfl);unfold encZ at z0;generalize R.ls[k]=y at *;have V:k<Rk.ls.length:=by omega
   replace hu:=φ hu;replace j:=φ j;replace D:=φ D;have hlen:Rk.dP.length≤900000:=by omega
   clear hz;obtain⟨a0,a1,a2,a3⟩:=(P.S.box 0 rfl).b4;cases hye:(y !=ex)with
   |true=>
     have u:=fun W (hb:cI wr W)=>ry W _ c' _ d' Rk ((P.below hb).W8) ((P.below hb).W7) ((P.below hb).Za) hlen y a (ha.out.below (P.below hb).S.b)
     have h:Hid (F (k+1)=kN Rk y a):=show _=_ by rw[hu.out];unfold EU;rw[cR hye]
     replace u:=φ u;clear hu;have Y:=P.S.f 0 0 rfl rfl;go_upto_region 5 with fail;clear a0;have Pd:=P.below bd;have Q:cI wr wr.drew:=bd;have z1:wr.drew.cell? ⟨bz,L+k,none⟩=some (.int .i64 y):=z0;have K:True:=trivial;obtain⟨a0,a1,a2,a3⟩:=(Pd.S.box 0 rfl).b4;obtain⟨b0,b1,b2,b3,b4,b5⟩:=(Pd.S.box 1 rfl).b6;clear P z0 Y;go_region_law
      (first
       | (clear K; rw [cR (by simp [Region.wanted])]; go_simp; (with_reducible refine (u.out _ Q).mono ?_); rintro e wa ⟨A2,c2,B2,d2,rfl,t1,t2,I⟩; have T:=Pd.S.call I; have f0:=T.f 0 0 rfl rfl; have f1:=T.f 0 1 rfl rfl; have f2:=T.f 0 2 rfl rfl; have f3:=T.f 0 3 rfl rfl; have g0:=T.c 0 0 rfl rfl; have g1:=T.c 0 1 rfl rfl; have g2:=T.c 0 2 rfl rfl; have g3:=T.c 0 3 rfl rfl; dsimp only))
     all_goals
      have P9:=Pd.to I t1 t2 (Ta Rk y a).1 (JE Pd.ok ha.out) (FR Rk y a);replace P9:=φ P9;clear u T t1 t2 I Pd Q;go_wp2;go_round
      case rel=>exact⟨k+1,A2,c2,B2,d2,by go_num,by omega,by rw[h.out];exact P9.out⟩
      case measure=>simp[intOf];omega
   |false=>
     have U:y=ex:=by simpa using hye
     have h:Hid (F (k+1)=if Vn Rk ex a.y=true then⟨Rk.iv,Rk.now,Rk.ls,wo ex a.y.o Rk.dP⟩else Rk):=show _=_ by rw[hu.out];unfold EU;rw[cN (by rw[hye];simp)]
     have hG:=zH wr _ Rk ⟨_,c',_,d',rfl,P.W8,P.W7,P.Za⟩ (by omega) ex a.y.o;have q:Hid (Vn Rk ex a.y=match CG Rk.dP ex a.y.o with|some s=>decide (kO s.x.y a.y≤0)|none=>false):=rfl;have p:=D4 P.Za ex a.y.o;replace hG:=φ hG;clear hu;clear U;obtain⟨b0,b1,b2,b3,b4,b5⟩:=(P.S.box 1 rfl).b6;go_wp2_with fail;(with_reducible refine(hG.out).mono ?_);rintro e w2 ⟨rfl,hb⟩;clear a0;clear b0;replace P:=P.below hb;generalize CG Rk.dP ex a.y.o=G at *;obtain⟨X,hX⟩:∃X,Gf G=X:=⟨_,rfl⟩
     rw[hX]at p ⊢;replace p:=p.below hb;clear hb hG z0;have J:=cQ w2 (.cells #[X.y.o,X.y.s,X.y.a,X.y.ov,.slice X.A X.y.adj.length X.c,.slice X.B X.y.pre.length X.d] 41);have H:=fq.iE w2 #[X.y.o,X.y.s,X.y.a,X.y.ov,.slice X.A X.y.adj.length X.c,.slice X.B X.y.pre.length X.d] 41 w2 (Bv X) rfl rfl;have m:=p.below J;have P3:=P.below J;clear P p J;cases G with
     |none=>
       have M:Vn Rk ex a.y=false:=q;have l:Hid (F (k+1)=Rk):=show _=_ by rw[h.out,cN (by rw[M];simp)]
       have P9:=φ P3.same;clear M q h P3 H m;go_wp2;go_round
       case rel=>exact⟨k+1,_,c',B',d',by go_num,by omega,by rw[l.out];exact P9.out⟩
       case measure=>simp[intOf];omega
     |some s=>
       obtain rfl:s.x=X:=hX;have NW:=kF _ _ _ s.x.y a.y m (ha.out.below P3.S.b);have t:Hid (Vn Rk ex a.y=decide (kO s.x.y a.y≤0)):=q;generalize kO s.x.y a.y=z at *;generalize s.x=X at *;replace NW:=φ NW;obtain⟨b0,b1,b2,b3,b4,b5⟩:=(P3.S.box 1 rfl).b6;have y0:=H.b6;go_wp2_with fail;(with_reducible refine(NW.out).mono ?_);rintro e w4 ⟨rfl,hb⟩;clear b0;clear y0 H m NW;replace P3:=P3.below hb;clear hb;rcases hz:decide (z≤0)with _|_
       ·have l:Hid (F (k+1)=Rk):=show _=_ by rw[h.out,cN (by rw[t.out,hz];simp)]
        have P9:=φ P3.same;clear h P3 t q;go_wp2;go_round
        case rel=>exact⟨k+1,_,c',B',d',by go_num,by omega,by rw[l.out];exact P9.out⟩
        case measure=>simp[intOf];omega
       ·have l:Hid (F (k+1)=⟨Rk.iv,Rk.now,Rk.ls,wo ex a.y.o Rk.dP⟩):=show _=_ by rw[h.out,cR (by rw[t.out,hz])]
        have hW:=φ (oh w4 B' Rk.dP.length d' Rk.dP P3.W7 rfl (by omega) ex a.y.o);clear h t q;obtain⟨a0,a1,a2,a3⟩:=(P3.S.box 0 rfl).b4;have b0:=(P3.S.box 1 rfl).b6;go_wp2_with fail;(with_reducible refine(hW.out).mono ?_);rintro e w5 ⟨B5,d5,rfl,N,hb⟩;have T:=P3.S.call hb;have g3:=T.c 0 3 rfl rfl;have f3:=T.f 0 3 rfl rfl;have P9:=φ (P3.less hb N);clear T P3 N hb hW;clear a0;clear b0;go_wp2;go_round
        case rel=>exact⟨k+1,_,c',B5,d5,by go_num,by omega,by rw[l.out];exact P9.out⟩
        case measure=>simp[intOf];omega
  ·obtain rfl:n=k:=by omega
   have V:¬n<Rk.ls.length:=by omega
   have S9:=(P.S.dX [(w.heap.size+2,[.int .i64 0,.int .i64 0,.slice none 0 0,.slice none 0 0])] (by simp)).sN (.int .i64 Rk.iv) (.int .i64 Rk.now) (.slice A' Rk.ls.length c') (.slice B' Rk.dP.length d') (by omega) (by simp);have l9:=(P.la.sN (g:=w.heap.size+2) (by omega) (.int .i64 Rk.iv) (.int .i64 Rk.now) (.slice A' Rk.ls.length c') (.slice B' Rk.dP.length d')).fin (base':=w.heap.size) (by omega) rfl;have i9:=(P.it.sN (g:=w.heap.size+2) (by omega) (.int .i64 Rk.iv) (.int .i64 Rk.now) (.slice A' Rk.ls.length c') (.slice B' Rk.dP.length d')).fin (base':=w.heap.size) (by omega) rfl;have E:tw w A c B d R (F n) (.returned (Cp Rk A' Rk.ls.length c' B' Rk.dP.length d')) ((((wr.setCell ⟨w.heap.size+2,0,none⟩ (.int .i64 Rk.iv)).setCell ⟨w.heap.size+2,1,none⟩ (.int .i64 Rk.now)).setCell ⟨w.heap.size+2,2,none⟩ (.slice A' Rk.ls.length c')).setCell ⟨w.heap.size+2,3,none⟩ (.slice B' Rk.dP.length d')):=by rw[j];exact⟨A',c',B',d',rfl,l9,i9,S9.b⟩
   replace E:=φ E;have a0:=(P.S.box 0 rfl).b4;have r0:=(P.S.box 2 rfl).b4;have f0:=(P.S.box 2 rfl).f4;obtain⟨k0,k1,k2,k3⟩:=(S9.box 0 rfl).b4;clear l9 i9 P j i D;go_wp2;exact dc (v:=Cp Rk A' Rk.ls.length c' B' Rk.dP.length d') (by simp[results,results101,go_sem,k0,k1,k2,k3]) rfl E.out
def OQ{w:World}{base:Nat}{e:TypeId}{size:Nat}{v:Value}{n:Nat}{xs:cH}(h:w.ownsRow base e size v n xs){g:Nat}(hg:w≤g):v.ownBlock≠some g:=fun e2=>by
 rcases h.2 with ⟨rfl,_⟩|⟨k,cap,cur,rfl,hk,_⟩
 ·cases e2
 ·simp only[Value.ownBlock,dB]at e2;have:=(h.lt k rfl).2;omega
def CI(q:Int)(i:Int):Bool:=decide (q<i)
def nY(R:RF)(q:Int):RF:=⟨(xx R q).iv,(xx R q).now,ins (CI q) (xx R q).ls q,(xx R q).dP⟩
noncomputable def Bo(R:RF)(q:Int)(l:List Lx):RF:=l.foldl (fun R a=>kN R q a) (nY R q)
def Wj(q:Int)(ls:List Int)(k:Nat):List Int:=mT (CI q) ls q k
structure xY (w wr:World) (R1:RF) (A1:cG) (c1:Nat) (B1:cG) (d1:Nat) (AL:cG) (l:List Lx) (V7:Value) (L7:List Int):Prop where
 S:St w wr [(w,KU R1 A1 c1 B1 d1),(w.heap.size+1,[.int .i64 0,.int .i64 0,.slice none 0 0,.slice none 0 0])] [(AL,nr l)]
 o1:wr.ownsRow (w.heap.size+2) 3 1 (.slice A1 R1.ls.length c1) R1.ls.length (R1.ls.map encZ)
 o2:wr.ownsRow (w.heap.size+2) 202 8 (.slice B1 R1.dP.length d1) R1.dP.length (lG R1.dP)
 o7:wr.ownsRow (w.heap.size+2) 3 1 V7 L7.length (L7.map encZ)
 ap:V7.ownBlock=none∨V7.ownBlock≠(Value.slice A1 R1.ls.length c1).ownBlock
section
variable {w wr w':World} {R1:RF} {A1:cG} {c1:Nat} {B1:cG} {d1:Nat} {AL:cG} {l:List Lx} {V7 V':Value} {L7:List Int} {z:Int}
def xY.below(h:xY w wr R1 A1 c1 B1 d1 AL l V7 L7)(hb:cI wr w'):xY w w' R1 A1 c1 B1 d1 AL l V7 L7:=⟨h.S.call hb,dg h.o1 hb,dg h.o2 hb,dg h.o7 hb,h.ap⟩
def xY.size(h:xY w wr R1 A1 c1 B1 d1 AL l V7 L7):w.heap.size+2≤wr:=(h.S.box 1 rfl).lt (by simp)
def xY.app(h:xY w wr R1 A1 c1 B1 d1 AL l V7 L7)(ho:w'.ownsRow (w.heap.size+2) 3 1 V' (L7.length+1) (L7.map encZ++ [.int .i64 z]))(hb:Below (w.heap.size+2) wr w')(hg:wr.grownBy w' V7.ownBlock)(hv:V'.ownBlock=V7.ownBlock∨V'.ownBlock=some wr.heap.size) :
  xY w w' R1 A1 c1 B1 d1 AL l V' (L7++ [z]):=by
 have a:(Value.slice A1 R1.ls.length c1).ownBlock=none∨(Value.slice A1 R1.ls.length c1).ownBlock≠V7.ownBlock:=by
  rcases h.ap with e|e
  ·cases h2:(Value.slice A1 R1.ls.length c1).ownBlock with
   |none=>exact .inl rfl
   |some k=>rw[e];exact .inr (by simp)
  ·exact .inr fun e2=>e e2.symm
 refine⟨h.S.Q7 hb (by omega) (by simp),fV h.o1 hg a,fV h.o2 hg (nS h.o2 h.o7 (by decide)),by simpa using ho,?_⟩
 rcases hv with e|e
 ·rw[e];exact h.ap
 ·rw[e];exact .inr fun e2=>OQ h.o1 cj e2.symm
end
structure vF (w wr:World) (AL:cG) (l:List Lx) (R:RF) (A:cG) (c:Nat) (B:cG) (d:Nat):Prop where
 S:St w wr [(w,KU R A c B d),(w.heap.size+1,[.int .i64 0,.int .i64 0,.slice none 0 0,.slice none 0 0])] [(AL,nr l)]
 o1:wr.ownsRow (w.heap.size+2) 3 1 (.slice A R.ls.length c) R.ls.length (R.ls.map encZ)
 o2:wr.ownsRow (w.heap.size+2) 202 8 (.slice B R.dP.length d) R.dP.length (lG R.dP)
 ok:nP w R.dP
section
variable {w wr w':World} {AL:cG} {l:List Lx} {R R':RF} {A A':cG} {c c':Nat} {B B':cG} {d d':Nat}
def vF.below(h:vF w wr AL l R A c B d)(hb:cI wr w'):vF w w' AL l R A c B d:=⟨h.S.call hb,dg h.o1 hb,dg h.o2 hb,h.ok⟩
def vF.size(h:vF w wr AL l R A c B d):w.heap.size+2≤wr:=(h.S.box 1 rfl).lt (by simp)
def vF.to(h:vF w wr AL l R A c B d)(hb:cI wr w')(h1:GR wr w' A c R.ls A' c' R'.ls)(h2:GS wr w' B d R.dP B' d' R'.dP)(e2:nP w R'.dP) :
  vF w ((((w'.setCell ⟨w,0,none⟩ (.int .i64 R'.iv)).setCell ⟨w,1,none⟩ (.int .i64 R'.now)).setCell ⟨w,2,none⟩ (.slice A' R'.ls.length c')).setCell ⟨w,3,none⟩ (.slice B' R'.dP.length d')) AL l R' A' c' B' d':=by
 refine⟨(h.S.call hb).sN _ _ _ _ cj (by simp),je ?_ (by omega) _ _ _ _,je ?_ (by omega) _ _ _ _,e2⟩
 ·rcases h1 with ⟨rfl,rfl,e⟩|h1
  ·rw[e];exact dg h.o1 hb
  ·exact dx h1 h.size
 ·rcases h2 with ⟨rfl,rfl,e⟩|h2
  ·rw[e];exact dg h.o2 hb
  ·exact dx h2 h.size
def xY.two{L7:List Int}{A7:cG}{c7:Nat}(h:xY w wr R A c B d AL l (.slice A7 L7.length c7) L7)(a:nP w R.dP):vF w (wr.setCell ⟨w,2,none⟩ (.slice A7 L7.length c7)) AL l ⟨R.iv,R.now,L7,R.dP⟩ A7 c7 B d :=
 ⟨h.S.s 0 2 _,jX h.o7 (by omega) _ _,jX h.o2 (by omega) _ _,a⟩
end
def OK{w:World}{base b off n c:Nat}{l:List Int}(h:w.ownsRow base 3 1 (.slice (some ⟨b,off,none⟩) n c) n (l.map encZ)){k:Nat}{y:Int}(hy:l[k]?=some y):w.cell? ⟨b,off+k,none⟩=some (.int .i64 y):=by
 have hk:k<l.length:=(dj.1 hy).1;obtain⟨b',a,e,hz⟩:=gE (dQ h) (by simp only[dh];omega);injection e with e
 injection e with e1 e2 e3
 subst e1 e2;exact hz k _ (by rw[eJ,hy];rfl)
def LN(q:Int)(ls:List Int):Wj q ls 0= []:=by unfold Wj mT;simp
def MW(R:RF)(q:Int)(l:List Lx)(k:Nat)(hk:k<l.length):Bo R q (l.take (k+1))=kN (Bo R q (l.take k)) q l[k]:=by
 unfold Bo;exact xT (fun R a=>kN R q a) _ l k hk
def Rf(R:RF)(q:Int)(l:List Lx):(Bo R q l).dP.length≤R.dP.length+l.length:=by
 have:∀(l:List Lx) (Z:RF),(l.foldl (fun R a=>kN R q a) Z).dP.length≤Z.dP.length+l.length:=fun l=>by
  induction l with
  |nil=>intro Z;simp
  |cons a r ih=>intro Z;have:=ih (kN Z q a);have:=FR Z q a;simp only[List.foldl_cons,List.length_cons];omega
 have h:=this l (nY R q);have h2:(nY R q).dP.length≤R.dP.length:=I9 q (-1) R.dP;unfold Bo;omega
def RX(w:World)(A:cG)(c:Nat)(B:cG)(d:Nat)(R:RF)(hA:Rd w A (R.ls.map encZ))(hB:Rd w B (lG R.dP))(hx:nP w R.dP)(AL:cG)(m cL:Nat)(l:List Lx)(hL:Rd w AL (nr l))(hm:l.length=m)(aa:∀s∈l,jD w s)(hn:R.dP.length+m≤900000)(hl:R.ls.length≤900000)(q:Int) :
  Calls prog 143 #[Cp R A R.ls.length c B R.dP.length d,q,.slice AL m cL] w (tw w A c B d R (Bo R q l)):=by
 have S:=((((St.start w).read hL).nw #[R.iv,R.now,.slice A R.ls.length c,.slice B R.dP.length d] 61 w).nw #[i0,i0,sn,sn] 61 (w.heap.size+1))
 have DN:=fun W (hb:cI w W)=>Cq W A c B d R (hA.below hb) (hB.below hb) (by omega) (by omega) q
 replace DN:=φ DN;have u:nP w (xx R q).dP:=fun s hs=>hx s (dW.1 hs).1
 have ar:(xx R q).ls.length≤900000:=cZ cz hl;have Q:=fun k hk=>MW R q l k hk
 have O:=fun k=>Rf R q (l.take k)
 have t:Bo R q (l.take 0)=⟨(xx R q).iv,(xx R q).now,ins (CI q) (xx R q).ls q,(xx R q).dP⟩:=rfl;have ah:Bo R q l=Bo R q (l.take m):=by rw[←hm,dE]
 rw[ah];obtain⟨R1,af⟩:=ex (xx R q)
 rw[af]at u ar t;simp only[af]at DN;obtain⟨U,hU⟩:=ex (fun k=>Bo R q (l.take k))
 have am:∀k,Bo R q (l.take k)=U k:=fun k=>by rw[←hU]
 simp only[am]at Q O t ⊢;clear af hU am ah hA hB hx;have K:=fun k hk=>Gc (p:=CI q) (l:=R1.ls) q (k:=k) hk
 have J:=fun k hk=>Gb (p:=CI q) (l:=R1.ls) q (k:=k) hk
 have H:=Gd (p:=CI q) (l:=R1.ls) q;have G:=fun k=>Ae (CI q) R1.ls q k
 have V:=fun k hk=>tq (CI q) R1.ls k hk
 have C:=LN q R1.ls;have X:(R1.ls.take 0).any (CI q)=false:=rfl;obtain⟨I,hI⟩:=ex (Wj q R1.ls)
 have ao:∀k,mT (CI q) R1.ls q k=I k:=fun k=>by rw[←hI];rfl
 rw[hI]at C;simp only[ao]at K J H G;clear hI ao;change Hid _ at u Q O t K J H G V C X hm aa;obtain⟨a0,a1,a2,a3⟩:=(S.box 1 rfl).b4;go_in;go_wp2_with fail;refine (DN.out _ S.b).mono ?_;rintro e w1 ⟨A1,c1,B1,d1,rfl,o1,o2,hb⟩;clear a0 DN;replace S:=S.call hb;obtain⟨f0,f1,f2,f3⟩:=(S.box 1 rfl).f4;obtain⟨a0,a1,a2,a3⟩:=(S.box 1 rfl).b4;have S1:=(S.dX [(w,[R.iv,R.now,.slice A R.ls.length c,.slice B R.dP.length d]),(w.heap.size+1,[i0,i0,sn,sn])] (by simp)).sN (.int .i64 R1.iv) (.int .i64 R1.now) (.slice A1 R1.ls.length c1) (.slice B1 R1.dP.length d1) cj (by simp);have P0:xY w _ R1 A1 c1 B1 d1 AL l (.slice none (I 0).length 0) (I 0):=⟨S1,dx (je o1 (g:=w.heap.size) (by simp;omega) (.int .i64 R1.iv) (.int .i64 R1.now) (.slice A1 R1.ls.length c1) (.slice B1 R1.dP.length d1)) (by simp),dx (je o2 (g:=w.heap.size) (by simp;omega) (.int .i64 R1.iv) (.int .i64 R1.now) (.slice A1 R1.ls.length c1) (.slice B1 R1.dP.length d1)) (by simp),by rw[C.out];exact cn,.inl rfl⟩
 clear S S1 o1 o2 hb;go_wp2_with fail;clear a0 f0;generalize World.setCell _ _ _=w2 at *;go_loopw [7,8,9] (fun v7 v8 v9 wr=>∃(k:Nat) (A7:cG) (c7:Nat),v9= .int .i64 k∧v8= .bool ((R1.ls.take k).any (CI q))∧v7= .slice A7 (I k).length c7∧k≤R1.ls.length∧xY w wr R1 A1 c1 B1 d1 AL l (.slice A7 (I k).length c7) (I k)) (fun _ _ v9 _=>R1.ls.length - (intOf v9).toNat)
 case atStart=>exact⟨0,none,0,rfl,by rw[X.out],by rw[C.out];rfl,by omega,P0⟩
 case round=>
  clear P0 X C;obtain⟨k,A7,c7,rfl,rfl,rfl,hk,P⟩:=hrel;have ax:=G.out k;obtain⟨a0,a1,a2,a3⟩:=(P.S.box 0 rfl).b4
  by_cases hkn:k<R1.ls.length
  ·obtain⟨bz,av,rfl,hz⟩:=gE (dQ P.o1) (by simp only[dh];omega);have N:=cM hkn;clear hz;have e1:=fun h1 h2=>K.out k hkn h1 h2
   have e2:=fun h=>J.out k hkn h
   have e3:=V.out k hkn;generalize R1.ls[k]=y at *;have z0:=OK P.o1 N;have D:CI q y=decide (q<y):=rfl;generalize hb:(R1.ls.take k).any (CI q)=bt at *;have ap:=P.size;have f1:(I k).length+1≤maxLen:=by simp only[maxLen];omega
   have f2:((I k).length+1)*8≤140737488355328:=Ub (by omega);have f3:(I k).length+1+1≤maxLen:=by simp only[maxLen];omega
   have f4:((I k).length+1+1)*8≤140737488355328:=Ub (by omega);change Hid _ at e3 e1 e2 hb N;have ad:(bt=false∧decide (q<y)=true)∨(bt=true∨(bt=false∧decide (q<y)=false)):=by
    cases bt<;>cases decide (q<y)<;>simp
   rcases ad with ⟨rfl,hd⟩|hd
   ·-- the link,and then y
    have e4:Hid (I (k+1)=I k++ [q]++ [y]):=e1.out rfl (by rw[D,hd]);have e5:Hid ((R1.ls.take (k+1)).any (CI q)=true):=show _=_ by rw[e3.out,D,hd];rfl
    have Py:=P.below (cQ wr (.cells #[q] 3));have i:=Rd.lit wr #[q] 3;have j:=Py.size;clear e1 e2 e3 D P;go_upto_region 9 with (at_builtin;refine dK rfl D1 (.tmp 32) (.tmp 34) rfl (w.heap.size+2) rfl Py.o7 (m:=1) rfl (by simp) i (th [q]) f1 f2 j ((I k).length+1) _ rfl rfl ?_;intro v6 w6 o6 o M F;obtain⟨A6,c6,rfl,-⟩:=dN o6);have P6:=Py.app o6 o M F;clear Py i j o6 o M F hd z0 a0;obtain⟨a0,a1,a2,a3⟩:=(P6.S.box 0 rfl).b4;have z1:=OK P6.o1 N.out;have Pz:=P6.below (cQ w6 (.cells #[y] 3));have i:=Rd.lit w6 #[y] 3;have j:=Pz.size;have o7:_:=Pz.o7;rw[cX,lZ]at o7;clear P6;go_wp2_with (at_builtin;refine dK rfl D1 (.tmp 36) (.tmp 42) rfl (w.heap.size+2) rfl o7 (m:=1) rfl (by simp) i (th [y]) f3 f4 j ((I k).length+1+1) _ rfl rfl ?_;intro v8 w8 o8 n L E;obtain⟨A8,c8,rfl,-⟩:=dN o8);have P9:=Pz.app (by rw[cX,lZ];exact o8) n L E;have l1:(I (k+1)).length=(I k).length+1+1:=by rw[e4.out];simp
    change Hid _ at l1 P9;clear Pz i j o8 n L E o7 z1 a0;go_wp2;go_round
    case rel=>exact⟨k+1,A8,c8,by go_num,by rw[e5.out],by rw[l1.out],by omega,by rw[l1.out,e4.out];exact P9.out⟩
    case measure=>simp[intOf];omega
   ·have e4:Hid (I (k+1)=I k++ [y]):=e2.out (by rcases hd with h|⟨h,h2⟩;exact .inl h;exact .inr (by rw[D,h2]));have e5:Hid ((R1.ls.take (k+1)).any (CI q)=bt):=show _=_ by
     rw[e3.out,D];rcases hd with h|⟨h,h2⟩
     ·rw[h];rfl
     ·rw[h,h2];rfl
    have Pz:=P.below (cQ wr (.cells #[y] 3));have i:=Rd.lit wr #[y] 3;have j:=Pz.size;have l1:(I (k+1)).length=(I k).length+1:=by rw[e4.out];simp
    replace l1:=φ l1;clear e1 e2 e3 D P hb;rcases hd with rfl|⟨rfl,hd⟩
    all_goals
     go_wp2_with (at_builtin;refine dK rfl D1 (.tmp 36) (.tmp 42) rfl (w.heap.size+2) rfl Pz.o7 (m:=1) rfl (by simp) i (th [y]) f1 f2 j ((I k).length+1) _ rfl rfl ?_;intro v8 w8 o8 n L E;obtain⟨A8,c8,rfl,-⟩:=dN o8);have P9:=φ (Pz.app o8 n L E);clear Pz i j o8 n L E a0;go_wp2;go_round
     case rel=>exact⟨k+1,A8,c8,by go_num,by rw[e5.out],by rw[l1.out],by omega,by rw[l1.out,e4.out];exact P9.out⟩
     case measure=>simp[intOf];omega
  ·have au:k=R1.ls.length:=by omega
   subst au;have ai:R1.ls.take R1.ls.length=R1.ls:=dE;rw[ai];have a:=H.out;have aw:¬R1.ls.length<R1.ls.length:=by omega
   clear K J H G V ai hkn;cases hput:R1.ls.any (CI q)
   case' true=>
    rw[cR hput]at a;obtain⟨f0,f1,f2,f3⟩:=(P.S.box 0 rfl).f4;have P2:=P.two u.out;have Y:Hid (vF w _ AL l (U 0) A7 c7 B1 d1):=show vF w _ AL l (U 0) A7 c7 B1 d1 from by rw[t.out,a];exact P2
    clear P2 a t hput;go_wp2_with fail;clear P a0 f0;generalize wr.setCell _ _=w5 at *;generalize (I R1.ls.length).length=n7 at *
   case' false=>
    rw[cN (by rw[hput];simp)]at a;have Py:=P.below (cQ wr (.cells #[q] 3));have i:=Rd.lit wr #[q] 3;have j:=Py.size;have f1:(I R1.ls.length).length+1≤maxLen:=by simp only[maxLen];omega
    have f2:((I R1.ls.length).length+1)*8≤140737488355328:=Ub (by omega);clear P hput;replace a:=φ a;go_upto_region 13 with (at_builtin;refine dK rfl D1 (.tmp 46) (.tmp 48) rfl (w.heap.size+2) rfl Py.o7 (m:=1) rfl (by simp) i (th [q]) f1 f2 j ((I R1.ls.length).length+1) _ rfl rfl ?_;intro v6 w6 o6 o M F;obtain⟨A6,c6,rfl,-⟩:=dN o6);have P6:=Py.app o6 o M F;clear Py i j o6 o M F a0;obtain⟨a0,a1,a2,a3⟩:=(P6.S.box 0 rfl).b4;obtain⟨f0,f1,f2,f3⟩:=(P6.S.box 0 rfl).f4;have ll:(I R1.ls.length++ [q]).length=(I R1.ls.length).length+1:=by simp
    have P7:xY w w6 R1 A1 c1 B1 d1 AL l (.slice A6 (I R1.ls.length++ [q]).length c6) (I R1.ls.length++ [q]):=by rw[ll];exact P6
    have P2:=P7.two u.out;have Y:Hid (vF w _ AL l (U 0) A6 c6 B1 d1):=show vF w _ AL l (U 0) A6 c6 B1 d1 from by rw[t.out,a.out];exact P2
    clear P2 a t P7 P6;rw[ll]at Y;clear ll;go_wp2_with fail;clear a0 f0;generalize w6.setCell _ _=w5 at *
   all_goals
    go_loopw [10] (fun v10 wr=>∃(k:Nat) (A':cG) (c':Nat) (B':cG) (d':Nat),v10= .int .i64 k∧k≤m∧Hid (vF w wr AL l (U k) A' c' B' d')) (fun v10 _=>m - (intOf v10).toNat)
    case atStart=>exact⟨0,_,_,_,_,rfl,by omega,Y⟩
    case round=>
     clear Y;obtain⟨k,A',c',B',d',rfl,hk,P⟩:=hrel;replace P:=P.out;obtain⟨Rk,x⟩:=ex (U k)
     rw[x]at P;have ak:=O.out k;rw[x]at ak;have aq:(l.take k).length≤k:=by simp;omega
     have hlen:Rk.dP.length≤900000:=by omega
     clear ak aq
     by_cases hkm:k<m
     ·have ab:k<l.length:=by rw[hm.out];exact hkm
      have hu:=Q.out k ab;rw[x]at hu;obtain⟨bl,ol,rfl⟩:=tX (P.S.r 0 rfl) (by omega);obtain⟨s,hs⟩:=ex (l[k])
      obtain⟨x0,x1,x2,x3,x4,x5⟩:=nH (P.S.r 0 rfl) k ab s hs;have aj:=aa.out s (by rw[←hs];exact di ab);rw[hs]at hu;change Hid _ at hu x;clear hs;have Z:=fun W (hb:cI wr W)=>ry W A' c' B' d' Rk (dQ (P.below hb).o1) (dQ (P.below hb).o2) (P.ok.below (P.below hb).S.b) hlen q s (aj.below (P.below hb).S.b)
      replace Z:=φ Z;go_upto_region 17 with fail;have Pd:=P.below bd;have al:cI wr wr.drew:=bd;have y0:wr.drew.cell? _=_:=x0;have y1:wr.drew.cell? _=_:=x1;have y2:wr.drew.cell? _=_:=x2;have y3:wr.drew.cell? _=_:=x3;have y4:wr.drew.cell? _=_:=x4;have y5:wr.drew.cell? _=_:=x5;have ag:True:=trivial;obtain⟨a0,a1,a2,a3⟩:=(Pd.S.box 0 rfl).b4;have e8:=JE (q:=q) Pd.ok aj;replace e8:=φ e8;clear P x0 x1 x2 x3 x4 x5;go_region_law
       (first
        | (clear ag; rw [cR (by simp [Region.wanted])]; go_simp; (with_reducible refine (Z.out _ al).mono ?_); rintro e wa ⟨A2,c2,B2,d2,rfl,t1,t2,ae⟩; have T:=Pd.S.call ae; have f0:=T.f 0 0 rfl rfl; have f1:=T.f 0 1 rfl rfl; have f2:=T.f 0 2 rfl rfl; have f3:=T.f 0 3 rfl rfl; have g0:=T.c 0 0 rfl rfl; have g1:=T.c 0 1 rfl rfl; have g2:=T.c 0 2 rfl rfl; have g3:=T.c 0 3 rfl rfl; dsimp only))
      all_goals
       have P9:=φ (Pd.to ae t1 t2 e8.out);clear Z T t1 t2 ae Pd al e8;go_wp2;go_round
       case rel=>exact⟨k+1,A2,c2,B2,d2,by go_num,by omega,show vF w _ _ l (U (k+1)) A2 c2 B2 d2 from by rw[hu.out];exact P9.out⟩
       case measure=>simp[intOf];omega
     ·obtain rfl:m=k:=by omega
      have ap:=P.size;have S9:=(P.S.dX [(w.heap.size+1,[i0,i0,sn,sn])] (by simp)).sN (.int .i64 Rk.iv) (.int .i64 Rk.now) (.slice A' Rk.ls.length c') (.slice B' Rk.dP.length d') (by omega) (by simp);have l9:=dx (je P.o1 (g:=w.heap.size+1) (by omega) (.int .i64 Rk.iv) (.int .i64 Rk.now) (.slice A' Rk.ls.length c') (.slice B' Rk.dP.length d')) (base:=w.heap.size) (by omega);have i9:=dx (je P.o2 (g:=w.heap.size+1) (by omega) (.int .i64 Rk.iv) (.int .i64 Rk.now) (.slice A' Rk.ls.length c') (.slice B' Rk.dP.length d')) (base:=w.heap.size) (by omega);have ac:tw w A c B d R (U m) (.returned (Cp Rk A' Rk.ls.length c' B' Rk.dP.length d')) ((((wr.setCell ⟨w.heap.size+1,0,none⟩ Rk.iv).setCell ⟨w.heap.size+1,1,none⟩ Rk.now).setCell ⟨w.heap.size+1,2,none⟩ (.slice A' Rk.ls.length c')).setCell ⟨w.heap.size+1,3,none⟩ (.slice B' Rk.dP.length d')):=by rw[x];exact⟨A',c',B',d',rfl,.inr l9,.inr i9,S9.b⟩
      replace ac:=φ ac;have a0:=(P.S.box 0 rfl).b4;have r0:=(P.S.box 1 rfl).b4;have f0:=(P.S.box 1 rfl).f4;obtain⟨k0,k1,k2,k3⟩:=(S9.box 0 rfl).b4;clear l9 i9 P x;go_wp2;exact dc (v:=Cp Rk A' Rk.ls.length c' B' Rk.dP.length d') (by simp[results,results143,go_sem,k0,k1,k2,k3]) rfl ac.out
def BS(now:Int)(s:It):Bool:=decide (s.t≤now)
def yB(iv now:Int)(s:It):It:=if BS now s=true then⟨s.q,s.x,now+iv⟩else s
def MF(R:RF):RF:=⟨R.iv,R.now,R.ls,R.dP.map (yB R.iv R.now)⟩
def QU(R:RF):List It:=R.dP.filter (BS R.now)
def uo(w:World)(A:cG)(c:Nat)(B:cG)(d:Nat)(R:RF)(e:Ending)(w':World):Prop :=
 ∃A' c' B' d' A2 c2,e= .returned (.tuple #[Cp (MF R) A' (MF R).ls.length c' B' (MF R).dP.length d',.slice A2 (QU R).length c2])∧GR w w' A c R.ls A' c' (MF R).ls∧GS w w' B d R.dP B' d' (MF R).dP∧w'.ownsRow w 202 8 (.slice A2 (QU R).length c2) (QU R).length (lG (QU R))∧cI w w'
def ou{w:World}{base:Nat}{e:TypeId}{size:Nat}{v:Value}{n:Nat}{xs:cH}(h:w.ownsRow base e size v n xs){g:Nat}(hg:w≤g):v.ownBlock≠some g:=fun e2=>by
 rcases h.2 with ⟨rfl,_⟩|⟨k,cap,cur,rfl,hk,_⟩
 ·cases e2
 ·simp only[Value.ownBlock,dB]at e2;have:=(h.lt k rfl).2;omega
structure uD (w wr:World) (iv now:Int) (A:cG) (n c:Nat) (B:cG) (m d:Nat) (vB:cH) (V1 V2:Value) (s1 s2:List It):Prop where
 S:St w wr [(w.heap.size+1,[.int .i64 0,.int .i64 0,.slice none 0 0,.slice none 0 0]),(w,[iv,now,.slice A n c,.slice B m d])] [(B,vB)]
 o1:wr.ownsRow (w.heap.size+2) 202 8 V1 s1.length (lG s1)
 o2:wr.ownsRow (w.heap.size+2) 202 8 V2 s2.length (lG s2)
 ap:V1.ownBlock=none∨V1.ownBlock≠V2.ownBlock
section
variable {w wr w':World} {iv now:Int} {A:cG} {n c:Nat} {B:cG} {m d:Nat} {vB:cH} {V1 V2 V':Value} {s1 s2:List It} {s:It} {g:Nat} {cs:cH}
def uD.below(h:uD w wr iv now A n c B m d vB V1 V2 s1 s2)(hb:cI wr w'):uD w w' iv now A n c B m d vB V1 V2 s1 s2 :=
 ⟨h.S.call hb,dg h.o1 hb,dg h.o2 hb,h.ap⟩
def uD.size(h:uD w wr iv now A n c B m d vB V1 V2 s1 s2):w.heap.size+2≤wr:=(h.S.box 0 rfl).lt (by simp)
def uD.YY(h:uD w wr iv now A n c B m d vB V1 V2 s1 s2)(ho:w'.ownsRow (w.heap.size+2) 202 8 V' (s1.length+1) (lG s1++Ga s))(hb:Below (w.heap.size+2) wr w')(hg:wr.grownBy w' V1.ownBlock)(hv:V'.ownBlock=V1.ownBlock∨V'.ownBlock=some wr.heap.size) :
  uD w w' iv now A n c B m d vB V' V2 (s1++ [s]) s2:=by
 have a:V2.ownBlock=none∨V2.ownBlock≠V1.ownBlock:=by
  rcases h.ap with e|e
  ·cases h2:V2.ownBlock with
   |none=>exact .inl rfl
   |some k=>rw[e];exact .inr (by simp)
  ·exact .inr fun e2=>e e2.symm
 refine⟨h.S.Q7 hb (by omega) (by simp),by rw[vt,cX];simpa[lG]using ho,fV h.o2 hg a,?_⟩
 rcases hv with e|e
 ·rw[e];exact h.ap
 ·rw[e];exact .inr fun e2=>ou h.o2 cj e2.symm
def uD.item(h:uD w wr iv now A n c B m d vB V1 V2 s1 s2)(ho:w'.ownsRow (w.heap.size+2) 202 8 V' (s2.length+1) (lG s2++Ga s))(hb:Below (w.heap.size+2) wr w')(hg:wr.grownBy w' V2.ownBlock)(hv:V'.ownBlock=V2.ownBlock∨V'.ownBlock=some wr.heap.size) :
  uD w w' iv now A n c B m d vB V1 V' s1 (s2++ [s]):=by
 refine⟨h.S.Q7 hb (by omega) (by simp),fV h.o1 hg h.ap,by rw[vt,cX];simpa[lG]using ho,?_⟩
 rcases hv with e|e
 ·rw[e];exact h.ap
 ·rw[e];exact .inr (ou h.o1 cj)
def uD.set(h:uD w wr iv now A n c B m d vB V1 V2 s1 s2)(hg:w.heap.size+2≤g)(n1:V1.ownBlock≠some g)(n2:V2.ownBlock≠some g)(j:Nat)(u:Value):uD w (wr.setCell ⟨g,j,none⟩ u) iv now A n c B m d vB V1 V2 s1 s2:=by
 have a:=dk wr g j u;refine⟨⟨h.S.b.setCell (p:=⟨g,j,none⟩) (by simp only;omega) u,fun i x hx=>?_,h.S.rd⟩,fV h.o1 a (.inr n1),fV h.o2 a (.inr n2),h.ap⟩
 refine(h.S.bx i x hx).iX u ?_
 match i,hx with
 |0,hx=>simp at hx;subst hx;simp only;omega
 |1,hx=>simp at hx;subst hx;simp only;omega
end
def Ou(now:Int)(l:List It)(k:Nat)(hk:k<l.length):(l.take (k+1)).filter (BS now)=(l.take k).filter (BS now)++(if BS now l[k]=true then [l[k]]else []):=by
 rw[cT hk,gC]
 congr 1
 by_cases h:BS now l[k]=true
 ·rw[cR h,Xg h];rfl
 ·rw[cN h,Xh h];rfl
def Ov(iv now:Int)(l:List It)(k:Nat)(hk:k<l.length):(l.take (k+1)).map (yB iv now)=(l.take k).map (yB iv now)++ [yB iv now l[k]]:=by
 rw[cT hk,ez];rfl
def KO(w:World)(A:cG)(c:Nat)(B:cG)(d:Nat)(R:RF)(hB:Rd w B (lG R.dP))(hn:R.dP.length≤1000000)(h0:0≤R.now)(h1:R.now≤1000000000000)(h2:0≤R.iv)(h3:R.iv≤1000000) :
  Calls prog 103 #[Cp R A R.ls.length c B R.dP.length d] w (uo w A c B d R):=by
 have j:Hid (∀w' B' d' A2 c2,cI w w'→w'.ownsRow w 202 8 (.slice B' (R.dP.map (yB R.iv R.now)).length d') (R.dP.map (yB R.iv R.now)).length (lG (R.dP.map (yB R.iv R.now)))→w'.ownsRow w 202 8 (.slice A2 (R.dP.filter (BS R.now)).length c2) (R.dP.filter (BS R.now)).length (lG (R.dP.filter (BS R.now)))→uo w A c B d R (.returned (.tuple #[.agg #[R.iv,R.now,.slice A R.ls.length c,.slice B' (R.dP.map (yB R.iv R.now)).length d'],.slice A2 (R.dP.filter (BS R.now)).length c2])) w'):=fun w' B' d' A2 c2 hb h1 h2=>
  ⟨A,c,B',d',A2,c2,rfl,.inl ⟨rfl,rfl,rfl⟩,.inr h1,h2,hb⟩
 have S:=(((St.start w).read hB).nw #[R.iv,R.now,.slice A R.ls.length c,.slice B R.dP.length d] 61 w).nw #[i0,i0,sn,sn] 61 (w.heap.size+1);obtain⟨Q,hQ⟩:=ex (uo w A c B d R)
 rw[hQ]at j ⊢;clear hQ;obtain⟨iv,now,ls,dP⟩:=R;simp only at *;have K:=fun k hk=>Ou now dP k hk
 have D:=fun k hk=>Ov iv now dP k hk
 have YI:dP.filter (BS now)=(dP.take dP.length).filter (BS now):=by rw[dE]
 have UE:dP.map (yB iv now)=(dP.take dP.length).map (yB iv now):=by rw[dE]
 have N:∀k,((dP.take k).filter (BS now)).length≤k:=fun k=>cZ cz (by simp;omega)
 have M:∀k,((dP.take k).map (yB iv now)).length≤k:=fun k=>by simp;omega
 have z1:(dP.take 0).filter (BS now)= []:=rfl;have z2:(dP.take 0).map (yB iv now)= []:=rfl;obtain⟨F1,ag⟩:=ex (fun k=>(dP.take k).filter (BS now))
 obtain⟨F2,af⟩:=ex (fun k=>(dP.take k).map (yB iv now))
 have ae:∀k,(dP.take k).filter (BS now)=F1 k:=fun k=>by rw[←ag]
 have ad:∀k,(dP.take k).map (yB iv now)=F2 k:=fun k=>by rw[←af]
 rw[YI,UE]at j;simp only[ae,ad]at j K D N M z1 z2;clear YI UE hB ag af ae ad;generalize ls.length=n at *;obtain⟨m,L⟩:=ex dP.length
 rw[L]at S j hn ⊢;change Hid _ at L K D N M;have a0:=S.c 1 0 rfl rfl;have a1:=S.c 1 1 rfl rfl;have a2:=S.c 1 2 rfl rfl;have a3:=S.c 1 3 rfl rfl;go_in;go_wp2_with fail;clear a0 a1 a2 a3;generalize World.alloc (World.alloc w _) _=w1 at *;have P0:uD w w1 iv now A n c B m d (lG dP) (.slice none (F1 0).length 0) (.slice none (F2 0).length 0) (F1 0) (F2 0) :=
  ⟨S,by rw[z1];exact cn,by rw[z2];exact cn,.inl rfl⟩
 go_loopw [4,5,6] (fun v4 v5 v6 wr=>∃(k:Nat) (A1:cG) (c1:Nat) (A2:cG) (c2:Nat),v6= .int .i64 k∧v4= .slice A1 (F1 k).length c1∧v5= .slice A2 (F2 k).length c2∧k≤m∧uD w wr iv now A n c B m d (lG dP) (.slice A1 (F1 k).length c1) (.slice A2 (F2 k).length c2) (F1 k) (F2 k)) (fun _ _ v6 _=>m - (intOf v6).toNat)
 case atStart=>exact⟨0,none,0,none,0,rfl,by rw[z1];rfl,by rw[z2];rfl,by omega,P0⟩
 case round=>
  clear S P0 z1 z2;obtain⟨k,A1,c1,A2,c2,rfl,rfl,rfl,hk,P⟩:=hrel
  by_cases hkm:k<m
  ·have V:k<dP.length:=by rw[L.out];exact hkm
   obtain⟨ba,off,rfl⟩:=yY (P.S.r 0 rfl) (by omega);obtain⟨s,hs⟩:=ex (dP[k])
   have e1:=K.out k V;have e2:=D.out k V;have q1:=N.out k;have q2:=M.out k;rw[hs]at e1 e2;obtain⟨x0,x1,x2,x3,x4,x5,x6,x7⟩:=sZ (P.S.r 0 rfl) k V s hs;change Hid _ at e1 e2;clear hs;have a0:=P.S.c 1 0 rfl rfl;have a1:=P.S.c 1 1 rfl rfl;have a2:=P.S.c 1 2 rfl rfl;have a3:=P.S.c 1 3 rfl rfl;have hx:=fq.iE wr #[s.q,s.x.y.o,s.x.y.s,s.x.y.a,s.x.y.ov,.slice s.x.A s.x.y.adj.length s.x.c,.slice s.x.B s.x.y.pre.length s.x.d,s.t] 202 wr (Ga s) rfl rfl;have Px:=P.below (cQ wr (.cells #[s.q,s.x.y.o,s.x.y.s,s.x.y.a,s.x.y.ov,.slice s.x.A s.x.y.adj.length s.x.c,.slice s.x.B s.x.y.pre.length s.x.d,s.t] 202));have I:=ou P.o1 cj;have O:=ou P.o2 cj;have ak:=P.size;have X:∀z,z≤k→(z+1)*96≤140737488355328:=fun z hz=>Qv (by omega)
   have U:∀z,z≤k→z+1≤maxLen:=fun z hz=>by simp only[maxLen];omega
   have ai:=X _ q1;have Z:=X _ q2;have ah:=U _ q1;have Y:=U _ q2;have u:BS now s=decide (s.t≤now):=rfl;clear P X U;change Hid _ at I O;have b0:=Px.S.c 1 0 rfl rfl;have b1:=Px.S.c 1 1 rfl rfl;have b2:=Px.S.c 1 2 rfl rfl;have b3:=Px.S.c 1 3 rfl rfl;have y0:=hx.c 0 rfl;have y1:=hx.c 1 rfl;have y2:=hx.c 2 rfl;have y3:=hx.c 3 rfl;have y4:=hx.c 4 rfl;have y5:=hx.c 5 rfl;have y6:=hx.c 6 rfl;have y7:=hx.c 7 rfl;go_upto_region 6 with fail;generalize ac:World.alloc wr (.cells #[s.q,s.x.y.o,s.x.y.s,s.x.y.a,s.x.y.ov,.slice s.x.A s.x.y.adj.length s.x.c,.slice s.x.B s.x.y.pre.length s.x.d,s.t] 202)=wx at *;generalize ab:wr.heap.size=xb at *;have ao:xb<wx:=hx.lt (by simp[Ga]);change Hid _ at ac ab;cases hd:BS now s with
   |true=>
     rw[hd]at u;have H:Hid (F1 (k+1)=F1 k++ [s]):=show _=_ by rw[e1.out,cR hd]
     have G:Hid (F2 (k+1)=F2 k++ [⟨s.q,s.x,now+iv⟩]):=show _=_ by rw[e2.out];unfold yB;rw[cR hd]
     have Py:=Px.below (cQ wx (.cells #[s.q,s.x.y.o,s.x.y.s,s.x.y.a,s.x.y.ov,.slice s.x.A s.x.y.adj.length s.x.c,.slice s.x.B s.x.y.pre.length s.x.d,s.t] 202));have aa:=hx.alloc (.cells #[s.q,s.x.y.o,s.x.y.s,s.x.y.a,s.x.y.ov,.slice s.x.A s.x.y.adj.length s.x.c,.slice s.x.B s.x.y.pre.length s.x.d,s.t] 202);have l:=Rd.lit wx #[s.q,s.x.y.o,s.x.y.s,s.x.y.a,s.x.y.ov,.slice s.x.A s.x.y.adj.length s.x.c,.slice s.x.B s.x.y.pre.length s.x.d,s.t] 202;have h:=Py.size;replace u:decide (s.t≤now)=true:=u.symm;clear e1 e2 hd Px;go_upto_region 8 with (at_builtin;refine dK rfl UD (.tmp 25) (.tmp 27) rfl (w.heap.size+2) rfl Py.o1 (m:=1) rfl (by simp) l (pY s) ah ai h ((F1 k).length+1) _ rfl rfl ?_;intro v6 w6 o6 F W T;obtain⟨A7,c7,rfl,-⟩:=dN o6);have J:=aa.kept W (fun e=>I e.symm) (by simp[Ga]);have P6:=Py.YY o6 F W T;have n1:(Value.slice A7 ((F1 k).length+1) c7).ownBlock≠some xb:=by
      rcases T with e|e
      ·rw[e];exact I
      ·rw[e];simp;omega
     have P7:=P6.set (g:=xb) ak n1 O 7 (.int .i64 (now+iv));have p:=J.set 7 (.int .i64 (now+iv)) (by simp[Ga]);have am:=φ n1;clear Py aa l h o6 F W T y0 y1 y2 y3 y4 y5 y6 y7 b0 b1 b2 b3 n1 a0 a1 a2 a3 x0 x1 x2 x3 x4 x5 x6 x7;have b0:=P6.S.c 1 0 rfl rfl;have b1:=P6.S.c 1 1 rfl rfl;have b2:=P6.S.c 1 2 rfl rfl;have b3:=P6.S.c 1 3 rfl rfl;have f7:=J.f 7 rfl;have g7:=J.c 7 rfl;clear P6;generalize aj:w6.setCell ⟨xb,7,none⟩ (now+iv)=w7 at *;have y0:=p.c 0 rfl;have y1:=p.c 1 rfl;have y2:=p.c 2 rfl;have y3:=p.c 3 rfl;have y4:=p.c 4 rfl;have y5:=p.c 5 rfl;have y6:=p.c 6 rfl;have y7:=p.c 7 rfl;have Pz:=P7.below (cQ w7 (.cells #[s.q,s.x.y.o,s.x.y.s,s.x.y.a,s.x.y.ov,.slice s.x.A s.x.y.adj.length s.x.c,.slice s.x.B s.x.y.pre.length s.x.d,(now+iv)] 202));have l:=Rd.lit w7 #[s.q,s.x.y.o,s.x.y.s,s.x.y.a,s.x.y.ov,.slice s.x.A s.x.y.adj.length s.x.c,.slice s.x.B s.x.y.pre.length s.x.d,(now+iv)] 202;have h:=Pz.size;subst aj;rw[show(w6.setCell ⟨xb,7,none⟩ (now+iv)).heap.size=w6.heap.size by simp]at l;go_wp2_with (at_builtin;refine dK rfl UD (.tmp 35) (.tmp 37) rfl (w.heap.size+2) rfl Pz.o2 (m:=1) rfl (by simp) l (pY ⟨s.q,s.x,now+iv⟩) Y Z h ((F2 k).length+1) _ rfl rfl ?_;intro v8 w8 o8 i E C;obtain⟨A8,c8,rfl,-⟩:=dN o8);have P9:=φ (Pz.item (s:=⟨s.q,s.x,now+iv⟩) o8 i E C);have l1:(F1 (k+1)).length=(F1 k).length+1:=by rw[H.out];simp
     have l2:(F2 (k+1)).length=(F2 k).length+1:=by rw[G.out];simp
     change Hid _ at l1 l2;clear Pz l h o8 i E C y0 y1 y2 y3 y4 y5 y6 y7 b0 b1 b2 b3 P7 p J f7 g7 u;go_wp2;go_round
     case rel=>exact⟨k+1,A7,c7,A8,c8,by go_num,by rw[l1.out],by rw[l2.out],by omega,by rw[l1.out,l2.out,H.out,G.out];exact P9⟩
     case measure=>simp[intOf];omega
   |false=>
     rw[hd]at u;have H:Hid (F1 (k+1)=F1 k):=show _=_ by rw[e1.out,cN (by rw[hd];simp),gY]
     have G:Hid (F2 (k+1)=F2 k++ [s]):=show _=_ by rw[e2.out];unfold yB;rw[cN (by rw[hd];simp)]
     have Pz:=Px.below (cQ wx (.cells #[s.q,s.x.y.o,s.x.y.s,s.x.y.a,s.x.y.ov,.slice s.x.A s.x.y.adj.length s.x.c,.slice s.x.B s.x.y.pre.length s.x.d,s.t] 202));have l:=Rd.lit wx #[s.q,s.x.y.o,s.x.y.s,s.x.y.a,s.x.y.ov,.slice s.x.A s.x.y.adj.length s.x.c,.slice s.x.B s.x.y.pre.length s.x.d,s.t] 202;have h:=Pz.size;replace u:decide (s.t≤now)=false:=u.symm;clear e1 e2 hd Px;go_wp2_with (at_builtin;refine dK rfl UD (.tmp 35) (.tmp 37) rfl (w.heap.size+2) rfl Pz.o2 (m:=1) rfl (by simp) l (pY s) Y Z h ((F2 k).length+1) _ rfl rfl ?_;intro v8 w8 o8 i E C;obtain⟨A8,c8,rfl,-⟩:=dN o8);have P9:=φ (Pz.item (s:=s) o8 i E C);have l2:(F2 (k+1)).length=(F2 k).length+1:=by rw[G.out];simp
     replace l2:=φ l2;clear Pz l h o8 i E C y0 y1 y2 y3 y4 y5 y6 y7 b0 b1 b2 b3 u;go_wp2;go_round
     case rel=>exact⟨k+1,A1,c1,A8,c8,by go_num,by rw[H.out],by rw[l2.out],by omega,by rw[l2.out,H.out,G.out];exact P9⟩
     case measure=>simp[intOf];omega
  ·obtain rfl:m=k:=by omega
   have D:=P.size;have a0:=P.S.c 1 0 rfl rfl;have a1:=P.S.c 1 1 rfl rfl;have a2:=P.S.c 1 2 rfl rfl;have a3:=P.S.c 1 3 rfl rfl;have f0:=P.S.f 1 0 rfl rfl;have f1:=P.S.f 1 1 rfl rfl;have f2:=P.S.f 1 2 rfl rfl;have f3:=P.S.f 1 3 rfl rfl;have S5:=P.S.s 1 3 (.slice A2 (F2 m).length c2);have S9:=S5.sN (.int .i64 iv) (.int .i64 now) (.slice A n c) (.slice A2 (F2 m).length c2) (by omega) (by simp);have o8:=je (jX P.o1 (g:=w.heap.size) (by omega) 3 (.slice A2 (F2 m).length c2)) (g:=w.heap.size+1) (by omega) (.int .i64 iv) (.int .i64 now) (.slice A n c) (.slice A2 (F2 m).length c2);have o9:=je (jX P.o2 (g:=w.heap.size) (by omega) 3 (.slice A2 (F2 m).length c2)) (g:=w.heap.size+1) (by omega) (.int .i64 iv) (.int .i64 now) (.slice A n c) (.slice A2 (F2 m).length c2);have al:=φ (j _ A2 c2 A1 c1 S9.b (dx o9 (by omega)) (dx o8 (by omega)));have e0:=S5.c 1 0 rfl rfl;have e1:=S5.c 1 1 rfl rfl;have e2:=S5.c 1 2 rfl rfl;have e3:=S5.c 1 3 rfl rfl;have r0:=S5.c 0 0 rfl rfl;have r1:=S5.c 0 1 rfl rfl;have r2:=S5.c 0 2 rfl rfl;have r3:=S5.c 0 3 rfl rfl;have g0:=S5.f 0 0 rfl rfl;have g1:=S5.f 0 1 rfl rfl;have g2:=S5.f 0 2 rfl rfl;have g3:=S5.f 0 3 rfl rfl;have k0:=S9.c 0 0 rfl rfl;have k1:=S9.c 0 1 rfl rfl;have k2:=S9.c 0 2 rfl rfl;have k3:=S9.c 0 3 rfl rfl;clear j P o8 o9;go_wp2;exact dc (v:=.tuple #[.agg #[iv,now,.slice A n c,.slice A2 (F2 m).length c2],.slice A1 (F1 m).length c1]) (by simp[results,results103,go_sem,k0,k1,k2,k3]) rfl al
def QA(R:RF)(q:Int)(a:La):Bool:=match CG R.dP q a.o with|some s=>kS a s.x.y|none=>false
def Bw(R:RF)(q:Int)(a:La):RF:=if QA R q a=true then⟨R.iv,R.now,R.ls,wo q a.o R.dP⟩else R
def qW(w:World)(A:cG)(c:Nat)(B:cG)(d:Nat)(R:RF)(q:Int)(a:La)(e:Ending)(w':World):Prop :=
 ∃A' c' B' d',e= .returned (.tuple #[Cp (Bw R q a) A' (Bw R q a).ls.length c' B' (Bw R q a).dP.length d',(QA R q a)])∧GR w w' A c R.ls A' c' (Bw R q a).ls∧GS w w' B d R.dP B' d' (Bw R q a).dP∧cI w w'
def zK(w:World)(A:cG)(c:Nat)(B:cG)(d:Nat)(R:RF)(hA:Rd w A (R.ls.map encZ))(hB:Rd w B (lG R.dP))(hx:nP w R.dP)(hn:R.dP.length≤1000000)(q:Int)(a:Lx)(ha:jD w a) :
  Calls prog 140 #[Cp R A R.ls.length c B R.dP.length d,q,Cz a] w (qW w A c B d R q a.y):=by
 have hG:=fun W (hb:cI w W)=>zH W _ R (Mw.below ⟨A,c,B,d,rfl,hA,hB,hx⟩ hb) hn q a.y.o
 have f:Hid (∀w',cI w w'→QA R q a.y=false→qW w A c B d R q a.y (.returned (.tuple #[Cp R A R.ls.length c B R.dP.length d,false])) w'):=fun w' hb ho=>by
  unfold qW Bw;rw[cN (by rw[ho];simp),ho];exact⟨A,c,B,d,rfl,.inl ⟨rfl,rfl,rfl⟩,.inl ⟨rfl,rfl,rfl⟩,hb⟩
 have h:Hid (∀w' B' d',cI w w'→w'.ownsRow w 202 8 (.slice B' (wo q a.y.o R.dP).length d') (wo q a.y.o R.dP).length (lG (wo q a.y.o R.dP))→QA R q a.y=true→qW w A c B d R q a.y (.returned (.tuple #[.agg #[R.iv,R.now,.slice A R.ls.length c,.slice B' (wo q a.y.o R.dP).length d'],true])) w'):=fun w' B' d' hb hr ho=>by
  unfold qW Bw;rw[cR ho,ho];exact⟨A,c,B',d',rfl,.inl ⟨rfl,rfl,rfl⟩,.inr hr,hb⟩
 have S:=(((((St.start w).read hB).nw #[R.iv,R.now,.slice A R.ls.length c,.slice B R.dP.length d] 61 w).nw #[a.y.o,a.y.s,a.y.a,a.y.ov,.slice a.A a.y.adj.length a.c,.slice a.B a.y.pre.length a.d] 41 (w.heap.size+1))).nw #[i0,i0,sn,sn] 61 (w.heap.size+2);have j:=D4 hx q a.y.o;have i:Hid (QA R q a.y=match CG R.dP q a.y.o with|some s=>kS a.y s.x.y|none=>false):=rfl;have hW:=fun W (hb:cI w W)=>oh W B R.dP.length d R.dP (hB.below hb) rfl hn q a.y.o
 replace hG:=φ hG;replace hW:=φ hW;replace ha:=φ ha;clear hA hB hx;obtain⟨L,hL⟩:=ex (wo q a.y.o R.dP)
 rw[hL]at h hW;clear hL;obtain⟨Q,hQ⟩:=ex (qW w A c B d R q a.y)
 rw[hQ]at f h ⊢;clear hQ;obtain⟨a0,a1,a2,a3⟩:=(S.box 2 rfl).b4;obtain⟨b0,b1,b2,b3,b4,b5⟩:=(S.box 1 rfl).b6;go_in;go_wp2_with fail;refine (hG _ S.b).mono ?_;rintro e w2 ⟨rfl,hb⟩;clear a0 b0 b4 b5;replace S:=S.call hb;clear hb hG;generalize CG R.dP q a.y.o=G at *;obtain⟨X,hX⟩:=ex (Gf G)
 rw[hX]at j ⊢;replace S:=S.iE #[X.y.o,X.y.s,X.y.a,X.y.ov,.slice X.A X.y.adj.length X.c,.slice X.B X.y.pre.length X.d] 41 (w2.heap.size) _ (by first|rfl|simp) rfl;obtain⟨bo,m⟩:=ex (QA R q a.y)
 rw[m]at f h i;clear m;cases G
 case' none=>
  obtain rfl:bo=false:=i;clear h j hX
 case' some s=>
  obtain rfl:s.x=X:=hX;have NW:=sO _ _ _ a.y s.x.y (eU.below ha S.b) (j.below S.b);replace i:Hid (bo=kS a.y s.x.y):=i;generalize kS a.y s.x.y=z at *;obtain rfl:bo=z:=i;generalize s.x=X at *;replace NW:=φ NW;clear j;obtain⟨b0,b1,b2,b3,b4,b5⟩:=(S.box 2 rfl).b6;have e0:=(S.box 0 rfl).b6;go_wp2_with fail;refine NW.out.mono ?_;rintro e w4 ⟨rfl,hb⟩;clear b0 b4 b5 e0;replace S:=S.call hb;clear NW hb;cases bo
  rotate_left
  ·obtain⟨b0,b1,b2,b3,b4,b5⟩:=(S.box 2 rfl).b6;obtain⟨a0,a1,a2,a3⟩:=(S.box 3 rfl).b4;clear f;have n:w.heap.size+2<w4:=(S.box 1 rfl).lt (by simp);go_wp2_with fail;refine (hW _ S.b).mono ?_;rintro e w5 ⟨B3,d3,rfl,l,hb⟩;clear a0 b0 b4 b5;replace S:=S.call hb;clear hb;have T:=S.dX [(w.heap.size+2,[i0,i0,sn,sn]),(w,[R.iv,R.now,.slice A R.ls.length c,.slice B R.dP.length d])] (by simp);have a0:=(T.box 1 rfl).b4;obtain⟨f0,f1,f2,f3⟩:=(T.box 1 rfl).f4;have S5:=T.s 1 3 (.slice B3 L.length d3);have S9:=S5.sN (.int .i64 R.iv) (.int .i64 R.now) (.slice A R.ls.length c) (.slice B3 L.length d3) (by omega) (by simp);have o9:=je (jX l (g:=w.heap.size) (by omega) 3 (.slice B3 L.length d3)) (g:=w.heap.size+2) (by omega) (.int .i64 R.iv) (.int .i64 R.now) (.slice A R.ls.length c) (.slice B3 L.length d3);have k:=φ (h _ B3 d3 S9.b (dx o9 (by omega)) (by first|rfl|trivial));have e0:=(S5.box 1 rfl).b4;obtain⟨r0,r1,r2,r3⟩:=(S5.box 0 rfl).b4;have g0:=(S5.box 0 rfl).f4;have k0:=(S9.box 0 rfl).b4;clear hW h l o9;go_wp2;exact dc (v:=.tuple #[.agg #[R.iv,R.now,.slice A R.ls.length c,.slice B3 L.length d3],true]) (by simp[results,results140,go_sem,k0]) rfl k
 all_goals
  have b0:=(S.box 3 rfl).b4;have S9:=(S.dX [(w.heap.size+2,[i0,i0,sn,sn])] (by simp)).sN (.int .i64 R.iv) (.int .i64 R.now) (.slice A R.ls.length c) (.slice B R.dP.length d) (by omega) (by simp);have e0:=(S9.box 0 rfl).b4;have r0:=(S.box 1 rfl).b4;have f0:=(S.box 1 rfl).f4;have k:=φ (f _ S9.b (by first|rfl|trivial));clear f hW;go_wp2;exact dc (v:=.tuple #[Cp R A R.ls.length c B R.dP.length d,false]) (by simp[results,results140,go_sem,e0]) rfl k
end Go.Proofs.YtehimhbgakpenaaGreat.Fd
