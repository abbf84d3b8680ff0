/-
  The texts DbC, DbVp, DbV, SpV, one after the other.
-/
import Derived.Test.YtehimhbgakpenaaGreatQPWith23
import Derived.Test.YtehimhbgakpenaaGreatQPWith27
import Derived.Test.YtehimhbgakpenaaGreatQPWith7
import Derived.Test.YtehimhbgakpenaaGreatQPWith46
namespace Go.Proofs.YtehimhbgakpenaaGreat
set_option linter.unusedVariables false
set_option linter.unusedSimpArgs false
open Go.RowKit Go.Maps Go.Sort
def cstL:List Ad → Int → Int → Option Int
 | [],_,_=>none
 | x :: l,tn,lk=>if x.2.1 = lk ∧ x.1 = tn then some x.2.2 else cstL l tn lk
def vX (N:Db) (i:Int):La:=getX (getO N i)
def CostPost (w:World) (r:Option Int) (e:Ending) (w':World):Prop:=e = .returned (.tuple #[.int .i64 (r.getD 0),.bool r.isSome]) ∧ Below w.heap.size w w'
theorem DbAt.look {w:World} {g b:Nat} {N:Db} (h:DbAt w g b N) (hf:Few33 N) (i:Int) (hi:(Lit.int .i64 i).wf = true) :
  ∃ A c B d l,(∀ w',Below w.heap.size w w' → (Instr.lookup 157 (.map (some b)) (.int .i64 i) false).run Tryz.prog w' = .ok (hdV (vX N i) A c B d l) w') ∧ LaAt w (laV (vX N i).o (vX N i).s (vX N i).a (vX N i).ov A (vX N i).adj.length c B (vX N i).pre.length d) (vX N i):=by
 obtain ⟨M,hm,hs,⟨A,c,B,d,l,hv,hl⟩,_⟩:=elem_form h hf i
 refine ⟨A,c,B,d,l,fun w' hb=>?_,hl⟩
 have:=(hm.below hb).run_at hi
 rw [hv] at this
 exact this
theorem cstL_drop {l:List Ad} {k:Nat} (hk:k < l.length) (tn lk:Int):cstL (l.drop k) tn lk = if l[k].2.1 = lk ∧ l[k].1 = tn then some l[k].2.2 else cstL (l.drop (k + 1)) tn lk:=by
 rw [List.drop_eq_getElem_cons hk]; rfl
theorem la_field4 (o s a:Int) (ov:Bool) (A:Option Addr) (n c:Nat) (B:Option Addr) (m d:Nat) (W:World):(Instr.field 41 (laV o s a ov A n c B m d) 4).run Tryz.prog W = .ok (.slice A n c) W:=by kernel_rfl
theorem la_field3 (o s a:Int) (ov:Bool) (A:Option Addr) (n c:Nat) (B:Option Addr) (m d:Nat) (W:World):(Instr.field 41 (laV o s a ov A n c B m d) 3).run Tryz.prog W = .ok (.bool ov) W:=by kernel_rfl
set_option maxRecDepth 100000 in
set_option maxHeartbeats 3200000 in
theorem dcost_any (w:World) (g b:Nat) (N:Db) (node tn lk:Int) (h:DbAt w g b N) (hf:Few33 N) (hi:(Lit.int .i64 node).wf = true) :
  Calls Tryz.prog 106 #[.pointer (some ⟨g,0,none⟩),.int .i64 node,.int .i64 tn,.int .i64 lk] w (CostPost w (cstL (vX N node).adj tn lk)):=by
 obtain ⟨A,c,B,d,l,L,la⟩:=h.look hf node hi
 have K:=L w (Below.refl _ _)
 have FL:=hd_field (vX N node) A c B d l
 have c0:=h.cell
 unfold hdV at K FL
 obtain ⟨x,hx⟩:∃ x,vX N node = x:=⟨_,rfl⟩
 rw [hx] at K FL la ⊢
 have rA:Rd w A (adV x.adj):=by
  obtain ⟨A',c',B',d',e,h1,_⟩:=la
  simp only [laV,Value.agg.injEq,Array.mk.injEq,List.cons.injEq,Value.slice.injEq] at e
  obtain ⟨-,-,-,-,⟨rfl,-,-⟩,-⟩:=e
  exact h1
 have hlen:x.adj.length ≤ maxLen:=by
  obtain ⟨A',c',B',d',e,h1,h2,h3,h4,_⟩:=la
  exact Nat.le_trans h3 h4
 unfold maxLen at hlen
 have S:=(St.start w).read rA
 clear L la rA hx h hi
 obtain ⟨al,hal⟩:∃ al,x.adj = al:=⟨_,rfl⟩
 rw [hal] at S K FL hlen ⊢
 obtain ⟨n,hn⟩:∃ n,al.length = n:=⟨_,rfl⟩
 rw [hn] at K FL hlen
 replace hn:=Lib.hid hn
 clear hal
 obtain ⟨r,hr⟩:∃ r,cstL al tn lk = r:=⟨_,rfl⟩
 rw [hr]
 have hr0:Hid (cstL (al.drop 0) tn lk = r):=hr
 clear hr
 unfold CostPost
 have FL4:=la_field4 x.o x.s x.a x.ov A n c B x.pre.length d
 go_enter Tryz.func106,Tryz.ntmps106
 go_wp2_with fail
 clear K FL FL4 c0
 go_loopw [21] (fun v21 wr=>∃ k:Nat,v21 = .int .i64 k ∧ k ≤ n ∧ Hid (cstL (al.drop k) tn lk = r) ∧ St w wr [] [(A,adV al)]) (fun v21 _=>n - (intOf v21).toNat)
 case atStart=>exact ⟨0,rfl,by omega,hr0,S⟩
 case round =>
  clear S hr0
  obtain ⟨k,rfl,hk,hr,S⟩:=hrel
  by_cases hkn:k < n
  ·have hkl:k < al.length:=by have:=hn.out; omega
   obtain ⟨ba,off,rfl,hc⟩:=rd_ad (S.r 0 rfl) (by omega)
   obtain ⟨x0,x1,x2⟩:=hc k hkl
   have hd:cstL (al.drop k) tn lk = _:=cstL_drop hkl tn lk
   rw [hr.out] at hd
   generalize al[k] = y at *
   obtain ⟨p0,p1,p2⟩:=y
   simp only at x0 x1 x2 hd
   replace hd:=Lib.hid hd
   clear hc hr
   go_upto_region 4 with fail
   replace S:=S.new' #[.int .i64 p0,.int .i64 p1,.int .i64 p2] 169 wr.heap.size _ rfl rfl
   clear x0 x1 x2
   generalize World.alloc wr _ = w4 at *
   generalize wr.heap.size = g4 at *
   have d0:=S.c 0 0 rfl rfl
   have d1:=S.c 0 1 rfl rfl
   have d2:=S.c 0 2 rfl rfl
   by_cases e1:p1 = lk
   ·by_cases e2:p0 = tn
    ·have e3:=hd.out
     rw [if_pos ⟨e1,e2⟩] at e3
     subst e3 e1 e2
     clear hd
     go_wp2_with fail
     go_ret2
     exact ⟨rfl,S.b⟩
    ·have e3:Hid (cstL (al.drop (k + 1)) tn lk = r):=by
      have:=hd.out
      rw [if_neg (fun h=>e2 h.2)] at this
      exact this.symm
     subst e1
     go_wp2_with fail
     go_round
     case rel=>exact ⟨k + 1,by go_num,by omega,e3,S.keepBoxes _ (by simp)⟩
     case measure=>simp [intOf]; omega
   ·have e3:Hid (cstL (al.drop (k + 1)) tn lk = r):=by
     have:=hd.out
     rw [if_neg (fun h=>e1 h.1)] at this
     exact this.symm
    go_wp2_with fail
    go_round
    case rel=>exact ⟨k + 1,by go_num,by omega,e3,S.keepBoxes _ (by simp)⟩
    case measure=>simp [intOf]; omega
  ·obtain rfl:k = n:=by omega
   have e3:=hr.out
   rw [List.drop_of_length_le (by have:=hn.out; omega)] at e3
   subst e3
   go_wp2_with fail
   go_ret2
   exact ⟨rfl,S.b⟩
end Go.Proofs.YtehimhbgakpenaaGreat

namespace Go.Proofs.YtehimhbgakpenaaGreat
set_option linter.unusedVariables false
set_option linter.unusedSimpArgs false
open Go.RowKit Go.Maps Go.Sort
def cA (N:Db) (i:Nat) (x:Lk):Option Int:=cstL (vX N x.a).adj x.b (i:Int)
def cB (N:Db) (i:Nat) (x:Lk):Option Int:=cstL (vX N x.b).adj x.a (i:Int)
def upL (N:Db) (i:Nat) (x:Lk):Lk:=if (cA N i x).isSome && (cB N i x).isSome then { x with c:=(cA N i x).getD 0,d:=(cB N i x).getD 0 } else x
def dnB (N:Db) (i:Nat) (x:Lk):Bool:=!((cA N i x).isSome && (cB N i x).isSome)
def vwL (N:Db):Nat → List Lk → List Lk
 | _,[]=>[]
 | i,x :: l=>upL N i x :: vwL N (i + 1) l
def vwD (N:Db):Nat → List Lk → List Bool
 | _,[]=>[]
 | i,x :: l=>dnB N i x :: dnB N i x :: vwD N (i + 1) l
def vwO (N:Db) (n:Nat):List Bool:=(List.range n).map fun (i:Nat)=>(vX N (i:Int)).ov
def vwT (N:Db) (t:Tp):Tp:=⟨t.n,vwO N t.n.toNat,vwL N 0 t.ln⟩
section
variable (N:Db)
theorem vwL_len (l:List Lk):∀ i,(vwL N i l).length = l.length:=by
 induction l with
 | nil=>intro i; rfl
 | cons x l ih=>intro i; simp only [vwL,List.length_cons,ih]
theorem vwD_len (l:List Lk):∀ i,(vwD N i l).length = 2 * l.length:=by
 induction l with
 | nil=>intro i; rfl
 | cons x l ih=>intro i; simp only [vwD,List.length_cons,ih]; omega
theorem vwO_len (n:Nat):(vwO N n).length = n:=by simp [vwO]
theorem vwO_succ (n:Nat):vwO N (n + 1) = vwO N n ++ [(vX N (n:Int)).ov]:=by simp [vwO,List.range_succ]
theorem vwL_app (x:Lk) (l:List Lk):∀ i,vwL N i (l ++ [x]) = vwL N i l ++ [upL N (i + l.length) x]:=by
 induction l with
 | nil=>intro i; rfl
 | cons y l ih=>intro i; simp only [List.cons_append,vwL,ih,List.length_cons]; rw [show i + 1 + l.length = i + (l.length + 1) by omega]
theorem vwD_app (x:Lk) (l:List Lk):∀ i,vwD N i (l ++ [x]) = vwD N i l ++ [dnB N (i + l.length) x,dnB N (i + l.length) x]:=by
 induction l with
 | nil=>intro i; rfl
 | cons y l ih=>intro i; simp only [List.cons_append,vwD,ih,List.length_cons]; rw [show i + 1 + l.length = i + (l.length + 1) by omega]
def stO (n k:Nat):List Bool:=vwO N k ++ List.replicate (n - k) false
def stL (l:List Lk) (k:Nat):List Lk:=vwL N 0 (l.take k) ++ l.drop k
def stD (l:List Lk) (k:Nat):List Bool:=vwD N 0 (l.take k) ++ List.replicate (2 * (l.length - k)) false
theorem stO_zero (n:Nat):stO N n 0 = List.replicate n false:=by simp [stO,vwO]
theorem stO_end (n:Nat):stO N n n = vwO N n:=by simp [stO]
theorem stL_zero (l:List Lk):stL N l 0 = l:=by simp [stL,vwL]
theorem stL_end (l:List Lk):stL N l l.length = vwL N 0 l:=by simp [stL]
theorem stD_zero (l:List Lk):stD N l 0 = List.replicate (2 * l.length) false:=by simp [stD,vwD]
theorem stD_end (l:List Lk):stD N l l.length = vwD N 0 l:=by simp [stD]
theorem stO_len {n k:Nat} (hk:k ≤ n):(stO N n k).length = n:=by simp [stO,vwO_len]; omega
theorem stL_len (l:List Lk) {k:Nat} (hk:k ≤ l.length):(stL N l k).length = l.length:=by simp [stL,vwL_len]; omega
theorem stD_len (l:List Lk) {k:Nat} (hk:k ≤ l.length):(stD N l k).length = 2 * l.length:=by simp [stD,vwD_len]; omega
theorem boV_set (P Q:List Bool) (a u:Bool):(boV (P ++ a :: Q)).set P.length (.bool u) = boV (P ++ u :: Q):=by
 simp [boV]
theorem stO_next {n k:Nat} (hk:k < n):(boV (stO N n k)).set k (.bool (vX N (k:Int)).ov) = boV (stO N n (k + 1)):=by
 have e:stO N n k = vwO N k ++ false :: List.replicate (n - (k + 1)) false:=by
  unfold stO
  rw [show n - k = (n - (k + 1)) + 1 by omega,List.replicate_succ]
 rw [e]
 have h:=boV_set (vwO N k) (List.replicate (n - (k + 1)) false) false (vX N (k:Int)).ov
 rw [vwO_len] at h
 rw [h]
 unfold stO
 rw [vwO_succ]
 simp
theorem stL_at (l:List Lk) {k:Nat} (hk:k < l.length):stL N l k = vwL N 0 (l.take k) ++ l[k] :: l.drop (k + 1):=by
 unfold stL
 rw [List.drop_eq_getElem_cons hk]
theorem stL_succ (l:List Lk) {k:Nat} (hk:k < l.length):stL N l (k + 1) = vwL N 0 (l.take k) ++ upL N k l[k] :: l.drop (k + 1):=by
 unfold stL
 rw [List.take_succ_eq_append_getElem hk,vwL_app]
 simp only [List.length_take,Nat.zero_add,Nat.min_eq_left (Nat.le_of_lt hk),List.append_assoc,List.singleton_append]
theorem stL_same (l:List Lk) {k:Nat} (hk:k < l.length) (h:upL N k l[k] = l[k]):stL N l (k + 1) = stL N l k:=by
 rw [stL_succ N l hk,stL_at N l hk,h]
theorem lks_set (P Q:List Lk) (x y:Lk) (j:Nat) (hj:j < 7) (v:Value) (h:(lkL x).set j v = lkL y):(lksV (P ++ x :: Q)).set (P.length * 7 + j) v = lksV (P ++ y :: Q):=by
 rw [lksV_append,lksV_append]
 simp only [lksV]
 rw [List.set_append_right _ _ (by rw [lksV_len]; omega),lksV_len,show P.length * 7 + j - P.length * 7 = j by omega,List.set_append_left _ _ (by exact hj),h]
theorem stL_set (l:List Lk) {k:Nat} (hk:k < l.length) (p q:Int) (hu:upL N k l[k] = { l[k] with c:=p,d:=q }) :
  ((lksV (stL N l k)).set (k * 7 + 2) (.int .i64 p)).set (k * 7 + 3) (.int .i64 q) = lksV (stL N l (k + 1)):=by
 have hl:(vwL N 0 (l.take k)).length = k:=by rw [vwL_len,List.length_take]; omega
 rw [stL_succ N l hk,stL_at N l hk,hu]
 have h1:=lks_set (vwL N 0 (l.take k)) (l.drop (k + 1)) l[k] { l[k] with c:=p } 2 (by omega) (.int .i64 p) rfl
 have h2:=lks_set (vwL N 0 (l.take k)) (l.drop (k + 1)) { l[k] with c:=p } { l[k] with c:=p,d:=q } 3 (by omega) (.int .i64 q) rfl
 rw [hl] at h1 h2
 rw [h1,h2]
theorem stD_at (l:List Lk) {k:Nat} (hk:k < l.length):stD N l k = vwD N 0 (l.take k) ++ false :: false :: List.replicate (2 * (l.length - (k + 1))) false:=by
 unfold stD
 rw [show 2 * (l.length - k) = (2 * (l.length - (k + 1)) + 1) + 1 by omega,List.replicate_succ,List.replicate_succ]
theorem stD_succ (l:List Lk) {k:Nat} (hk:k < l.length):stD N l (k + 1) = vwD N 0 (l.take k) ++ dnB N k l[k] :: dnB N k l[k] :: List.replicate (2 * (l.length - (k + 1))) false:=by
 unfold stD
 rw [List.take_succ_eq_append_getElem hk,vwD_app]
 simp only [List.length_take,Nat.zero_add,Nat.min_eq_left (Nat.le_of_lt hk),List.append_assoc,List.cons_append,List.nil_append]
theorem stD_same (l:List Lk) {k:Nat} (hk:k < l.length) (h:dnB N k l[k] = false):stD N l (k + 1) = stD N l k:=by
 rw [stD_succ N l hk,stD_at N l hk,h]
theorem stD_set (l:List Lk) {k:Nat} (hk:k < l.length) (h:dnB N k l[k] = true):((boV (stD N l k)).set (2 * k) (.bool true)).set (2 * k + 1) (.bool true) = boV (stD N l (k + 1)):=by
 have hl:(vwD N 0 (l.take k)).length = 2 * k:=by rw [vwD_len,List.length_take]; omega
 rw [stD_succ N l hk,stD_at N l hk,h]
 have h1:=boV_set (vwD N 0 (l.take k)) (false :: List.replicate (2 * (l.length - (k + 1))) false) false true
 have h2:=boV_set (vwD N 0 (l.take k) ++ [true]) (List.replicate (2 * (l.length - (k + 1))) false) false true
 rw [hl] at h1
 rw [List.length_append,hl] at h2
 simp only [List.append_assoc,List.singleton_append,List.length_singleton] at h2
 rw [h1,h2]
end
theorem own_box0 {w:World} {base g0:Nat} {e:TypeId} {size:Nat} {A:Option Addr} {n c:Nat} {xs:List Value} (h:w.ownsRow base e size (.slice A n c) n xs) (h0:g0 < w.heap.size) (hs:0 < size):∃ g,(0 < n → A = some ⟨g,0,none⟩ ∧ base ≤ g) ∧ (g = g0 ∨ base ≤ g) ∧ g < w.heap.size ∧ Box w g xs:=by
 rcases Nat.eq_zero_or_pos n with hn | hn
 ·refine ⟨g0,fun h=>by omega,.inl rfl,h0,?_⟩
  have hl:=h.1
  rw [hn,Nat.zero_mul] at hl
  obtain rfl:xs = []:=List.eq_nil_of_length_eq_zero hl
  intro i u hu
  simp at hu
 ·obtain ⟨g,h1,h2,h3,h4⟩:=own_box h hn
  exact ⟨g,fun _=>⟨h1,h2⟩,.inr h2,h3,h4⟩
end Go.Proofs.YtehimhbgakpenaaGreat

namespace Go.Proofs.YtehimhbgakpenaaGreat
set_option linter.unusedVariables false
set_option linter.unusedSimpArgs false
open Go.RowKit Go.Maps Go.Sort
theorem St.addBox {W w:World} {bs:List (Nat × List Value)} {rs:List (Option Addr × List Value)} {g:Nat} {cs:List Value} (S:St W w bs rs) (h:Box w g cs):St W w ((g,cs) :: bs) rs :=
 ⟨S.b,fun i x hx=>by
  cases i with
  | zero=>simp at hx; subst hx; exact h
  | succ i=>exact S.bx i x (by simpa using hx),S.rd⟩
theorem Box.rd {w:World} {g:Nat} {cs:List Value} (h:Box w g cs):Rd w (some ⟨g,0,none⟩) cs:=fun _=>⟨_,rfl,fun j u hu=>by
 rw [show (⟨g,0,none⟩:Addr).add j = ⟨g,j,none⟩ by unfold Addr.add; split <;> simp_all]
 exact (h j u hu).1⟩
def ViewPost (w:World) (N:Db) (t:Tp) (e:Ending) (w':World):Prop :=
 ∃ v D c,e = .returned (.tuple #[v,.slice D (2 * t.ln.length) c,.int .i64 0]) ∧ TpAt w' v (vwT N t) ∧ Rd w' D (boV (vwD N 0 t.ln)) ∧ Below w.heap.size w w'
set_option maxRecDepth 100000 in
set_option maxHeartbeats 12800000 in
theorem dview_any (w:World) (g b:Nat) (N:Db) (v:Value) (t:Tp) (h:DbAt w g b N) (hf:Few33 N) (ht:TpAt w v t) (hok:TpOk t):Calls Tryz.prog 57 #[.pointer (some ⟨g,0,none⟩),v] w (ViewPost w N t):=by
 obtain ⟨A,c,B,d,rfl,rA,rB,h3,h4⟩:=id ht
 have S:=((St.start w).new' #[.int .i64 t.n,.slice A t.ov.length c,.slice B t.ln.length d] 25 w.heap.size _ rfl rfl).new' #[.int .i64 0,.slice none 0 0,.slice none 0 0] 25 (w.heap.size + 1) _ (by simp) rfl
 have TV:=tvalid_any _ _ t (ht.below S.b)
 rw [tB_t hok] at TV
 have hk64:t.ov.length ≤ 64:=by have:=hok.ov; have:=hok.n; omega
 have GC:=fun W hb=>gclone_any W _ t (ht.below hb) (by omega) (by have:=hok.ln; omega)
 unfold GClPost at GC
 have hln:=hok.ln
 obtain ⟨q,hq⟩:∃ q:Nat,t.n = (q:Int):=⟨t.n.toNat,by have:=hok.n; omega⟩
 have hq64:1 ≤ q ∧ q ≤ 64:=by have:=hok.n; omega
 have hlk:Hid (∀ x ∈ t.ln,LkOk (q:Int) x):=by have:=hok.all; rw [hq] at this; exact this
 obtain ⟨l,hl⟩:∃ l,t.ln = l:=⟨_,rfl⟩
 have hfin:Hid (∀ w' A' c' B' d' D c3,Rd w' A' (boV (vwO N q)) → Rd w' B' (lksV (vwL N 0 l)) → Rd w' D (boV (vwD N 0 l)) → Below w.heap.size w w' → ViewPost w N t (.returned (.tuple #[tpV (q:Int) A' q c' B' l.length d',.slice D (2 * l.length) c3,.int .i64 0])) w'):=fun w' A' c' B' d' D c3 r1 r2 r3 hb=>by
  refine ⟨_,D,c3,by rw [hl],⟨A',c',B',d',?_,?_,?_,?_,?_⟩,by rw [hl]; exact r3,hb⟩
  ·simp only [vwT,vwO_len,vwL_len,hq,Int.toNat_natCast,hl]
  ·simp only [vwT,hq,Int.toNat_natCast]; exact r1
  ·simp only [vwT,hl]; exact r2
  ·simp only [vwT,hq,Int.toNat_natCast,vwO_len,maxLen]; omega
  ·simp only [vwT,vwL_len,maxLen]; omega
 obtain ⟨m,hm⟩:∃ m,l.length = m:=⟨_,rfl⟩
 rw [hq,hl,hm] at S TV GC
 rw [hl,hm] at hln
 rw [hm] at hfin
 rw [hl] at hlk
 simp only [hq,hl,hm]
 have L:=fun i=>h.look hf i
 have hc:=h.cell
 have dat:=Lib.hid h
 have hgl:=h.lt
 replace L:=Lib.hid L
 replace hm:=Lib.hid hm
 replace TV:=Lib.hid TV
 replace GC:=Lib.hid GC
 clear rA rB h h3 h4 ht hok hq hl
 generalize t.ov.length = k at *
 obtain ⟨l0,hl0⟩:∃ z,ViewPost w N t = z:=⟨_,rfl⟩
 rw [hl0] at hfin ⊢
 clear hl0
 have a0:=S.c 1 0 rfl rfl
 have a1:=S.c 1 1 rfl rfl
 have a2:=S.c 1 2 rfl rfl
 go_enter Tryz.func57,Tryz.ntmps57
 go_wp2_with fail
 (with_reducible refine (TV.out).mono ?_)
 rintro e w1 ⟨rfl,hb⟩
 clear a0 a1 a2
 clear TV
 replace S:=S.call hb
 clear hb
 have a0:=S.c 1 0 rfl rfl
 have a1:=S.c 1 1 rfl rfl
 have a2:=S.c 1 2 rfl rfl
 go_wp2_with fail
 (with_reducible refine (GC.out _ S.b).mono ?_)
 rintro e w2 ⟨A1,c1,B1,d1,rfl,o1,hb⟩
 clear a0 a1 a2
 clear GC
 have hs1:=S.b.size
 have hs2:=hb.size
 have hlt0:=S.box 0 rfl
 have hlt1:w.heap.size + 1 < w1.heap.size:=(S.box 0 rfl).lt (by simp)
 clear hlt0
 replace S:=S.call hb
 clear hb
 go_upto_region 6 with fail
 obtain ⟨gB,hBe,hBo,hBl,bxB⟩:=own_box0 (g0:=w.heap.size) o1 (by omega) (by omega)
 replace S:=(S.addBox bxB).new' #[.int .i64 (q:Int),.slice A1 k c1,.slice B1 m d1] 25 w2.heap.size _ rfl rfl
 clear o1 bxB
 generalize hw3:World.alloc w2 _ = w3 at *
 have hs3:w2.heap.size < w3.heap.size:=by rw [← hw3]; simp
 clear hw3
 generalize w2.heap.size = g7 at *
 replace hBe:=Lib.hid hBe
 have MK:=fun W=>run_make1 (P:=Tryz.prog) boT rfl .i64 .i64 q q (Nat.le_refl _) (by omega) (by omega) W
 have a0:=S.c 3 0 rfl rfl
 have a1:=S.c 3 1 rfl rfl
 have a2:=S.c 3 2 rfl rfl
 have r0:=S.c 0 0 rfl rfl
 have r1:=S.c 0 1 rfl rfl
 have r2:=S.c 0 2 rfl rfl
 have f0:=S.f 0 0 rfl rfl
 have f1:=S.f 0 1 rfl rfl
 have f2:=S.f 0 2 rfl rfl
 have S2:=((S.set 0 1 (.slice (some ⟨w3.heap.size,0,none⟩) q q) rfl (by simp) (by omega) (by simp; omega) _ rfl).new' (zeroRow (.bool false) q) 4 w3.heap.size (boV (stO N q 0)) (by simp) (by rw [stO_zero]; simp [zeroRow,boV])).keepBoxes [(w3.heap.size,boV (stO N q 0)),(g7,[.int .i64 (q:Int),.slice (some ⟨w3.heap.size,0,none⟩) q q,.slice B1 m d1]),(gB,lksV l),(w.heap.size + 1,[.int .i64 0,.slice none 0 0,.slice none 0 0]),(w.heap.size,[.int .i64 (q:Int),.slice A k c,.slice B m d])] (by simp)
 go_upto_region 7 with fail
 clear S MK
 clear a0 a1 a2
 clear r0 r1 r2
 clear f0 f1 f2
 generalize World.alloc (World.setCell w3 _ _) _ = w4 at *
 generalize w3.heap.size = gO at *
 have r0:=S2.c 1 0 rfl rfl
 have r1:=S2.c 1 1 rfl rfl
 have r2:=S2.c 1 2 rfl rfl
 go_wp2_with fail
 clear r0 r1 r2
 go_loopw [32] (fun v32 wr=>∃ i:Nat,v32 = .int .i64 i ∧ i ≤ q ∧ St w wr [(gO,boV (stO N q i)),(g7,[.int .i64 (q:Int),.slice (some ⟨gO,0,none⟩) q q,.slice B1 m d1]),(gB,lksV l),(w.heap.size + 1,[.int .i64 0,.slice none 0 0,.slice none 0 0]),(w.heap.size,[.int .i64 (q:Int),.slice A k c,.slice B m d])] []) (fun v32 _=>q - (intOf v32).toNat)
 case atStart=>exact ⟨0,rfl,by omega,S2⟩
 case round =>
  clear S2
  obtain ⟨i,rfl,hi,S⟩:=hrel
  by_cases hiq:i < q
  ·obtain ⟨A9,c9,B9,d9,l9,L9,-⟩:=L.out (i:Int) (wf64 (by omega) (by omega))
   have hu:=hd_field (vX N (i:Int)) A9 c9 B9 d9 l9
   have hv:=fun W=>la_field3 (vX N (i:Int)).o (vX N (i:Int)).s (vX N (i:Int)).a (vX N (i:Int)).ov A9 (vX N (i:Int)).adj.length c9 B9 (vX N (i:Int)).pre.length d9 W
   have hst:=stO_next N hiq
   have c0:=cell_later S.b hc
   have LK:=L9 _ S.b.drew
   have c0':wr.drew.cell? ⟨g,0,none⟩ = some (.map (some b)):=c0
   have hlen:(stO N q i).length = q:=stO_len N hi
   have hcO:∃ u,wr.cell? ⟨gO,i,none⟩ = some u:=⟨_,S.c 0 i rfl (List.getElem?_eq_getElem (by rw [boV_len]; omega))⟩
   obtain ⟨u,hcO⟩:=hcO
   have hfO:=S.f 0 i rfl (List.getElem?_eq_getElem (by rw [boV_len]; omega))
   unfold hdV at LK hu
   generalize hx:vX N (i:Int) = x at *
   clear L9
   have T:=S.drew
   have S3:=(S.set 0 i (.bool x.ov) rfl (by rw [boV_len]; omega) (by omega) (by simp; omega) [(gO,boV (stO N q (i + 1))),(g7,[.int .i64 (q:Int),.slice (some ⟨gO,0,none⟩) q q,.slice B1 m d1]),(gB,lksV l),(w.heap.size + 1,[.int .i64 0,.slice none 0 0,.slice none 0 0]),(w.heap.size,[.int .i64 (q:Int),.slice A k c,.slice B m d])] (by rw [← hst]; rfl)).drew
   clear S
   have r0:=T.c 1 0 rfl rfl
   have r1:=T.c 1 1 rfl rfl
   have r2:=T.c 1 2 rfl rfl
   go_upto_region 10 with fail
   go_region_law (fail)
   all_goals clear T hst LK hv hu r0 r1 r2
   all_goals (first | (refine ⟨⟨i + 1,by go_num,by omega,S3⟩,?_⟩; simp [intOf]; omega) | (generalize World.drew (World.setCell _ _ _) = w6 at *; go_wp2_with fail; go_round; all_goals (first | exact ⟨i + 1,by go_num,by omega,S3⟩ | (simp [intOf]; omega))))
  ·obtain rfl:i = q:=by omega
   rw [stO_end] at S
   have AR:=fun W=>arcs_any (i:Int) (.slice A k c) B m d W (by omega)
   have MK:∀ W:World,(Instr.makeSlice 22 (.int .i64 (2 * (m:Int))) (.int .i64 (2 * (m:Int)))).run Tryz.prog W = .ok (.slice (some ⟨W.heap.size,0,none⟩) (2 * m) (2 * m)) (W.alloc (.cells (zeroRow (.bool false) (2 * m)) 4)):=fun W=>by
    have:=run_make1 (P:=Tryz.prog) boT rfl .i64 .i64 (2 * m) (2 * m) (Nat.le_refl _) (by omega) (by omega) W
    rw [Int.natCast_mul] at this
    exact this
   replace AR:=Lib.hid AR
   have a0:=S.c 4 0 rfl rfl
   have a1:=S.c 4 1 rfl rfl
   have a2:=S.c 4 2 rfl rfl
   go_wp2_with fail
   (with_reducible refine (AR.out _).mono ?_)
   rintro e w7 ⟨rfl,hb⟩
   clear a0 a1 a2
   clear AR
   replace S:=S.call hb
   clear hb
   have hOl:=(S.box 0 rfl).lt (by rw [boV_len,vwO_len]; omega)
   replace S:=S.new' (zeroRow (.bool false) (2 * m)) 4 w7.heap.size (boV (stD N l 0)) rfl (by rw [stD_zero,hm.out]; simp [zeroRow,boV])
   rw [← stL_zero N l] at S
   have e0:stD N (stL N l 0) 0 = stD N l 0:=by rw [stL_zero]
   rw [e0] at S
   clear e0
   go_upto_region 13 with fail
   generalize World.alloc w7 _ = w8 at *
   generalize w7.heap.size = gD at *
   have r0:=S.c 2 0 rfl rfl
   have r1:=S.c 2 1 rfl rfl
   have r2:=S.c 2 2 rfl rfl
   go_wp2_with fail
   clear r0 r1 r2
   clear MK
   go_loopw [54] (fun v54 wr=>∃ j:Nat,v54 = .int .i64 j ∧ j ≤ m ∧ St w wr [(gD,boV (stD N l j)),(gO,boV (vwO N i)),(g7,[.int .i64 (i:Int),.slice (some ⟨gO,0,none⟩) i i,.slice B1 m d1]),(gB,lksV (stL N l j)),(w.heap.size + 1,[.int .i64 0,.slice none 0 0,.slice none 0 0]),(w.heap.size,[.int .i64 (i:Int),.slice A k c,.slice B m d])] []) (fun v54 _=>m - (intOf v54).toNat)
   case atStart=>exact ⟨0,rfl,by omega,S⟩
   case round =>
    clear S
    obtain ⟨j,rfl,hj,S⟩:=hrel
    by_cases hjm:j < m
    ·have hjl:j < l.length:=by have:=hm.out; omega
     obtain ⟨hB1,hBb⟩:=hBe.out (by omega)
     subst hB1
     have hk:=hlk.out l[j] (List.getElem_mem hjl)
     have hat:=stL_at N l hjl
     have hset:=stL_set N l hjl
     have hsame:=stL_same N l hjl
     have dset:=stD_set N l hjl
     have dsame:=stD_same N l hjl
     have hvl:(vwL N 0 (l.take j)).length = j:=by rw [vwL_len,List.length_take]; omega
     have hcell:∀ (q:Nat) (hq:q < 7) (u:Value),(lkL l[j])[q]? = some u → (lksV (stL N l j))[7 * j + q]? = some u:=fun q hq u hu=>by
      have hlen:j < (stL N l j).length:=by rw [stL_len N l (by omega)]; exact hjl
      rw [lksV_get _ j hlen q hq]
      have e:(stL N l j)[j] = l[j]:=by
       have:(stL N l j)[j]? = some l[j]:=by rw [hat,List.getElem?_append_right (by omega),hvl]; simp
       rw [List.getElem?_eq_getElem hlen] at this
       exact Option.some.inj this
      rw [e]; exact hu
     have hdl:(stD N l j).length = 2 * m:=by rw [stD_len N l (by omega),hm.out]
     have hll:(lksV (stL N l j)).length = m * 7:=by rw [lksV_len,stL_len N l (by omega),hm.out]
     obtain ⟨x,hx⟩:∃ x,l[j] = x:=⟨_,rfl⟩
     rw [hx] at hk hset hsame dset dsame
     simp only [hx] at hcell
     clear hat hx hvl
     have hcl:∀ W,St w W [(gD,boV (stD N l j)),(gO,boV (vwO N i)),(g7,[.int .i64 (i:Int),.slice (some ⟨gO,0,none⟩) i i,.slice (some ⟨gB,0,none⟩) m d1]),(gB,lksV (stL N l j)),(w.heap.size + 1,[.int .i64 0,.slice none 0 0,.slice none 0 0]),(w.heap.size,[.int .i64 (i:Int),.slice A k c,.slice B m d])] [] → ∀ (q:Nat) (hq:q < 7) (u:Value),(lkL x)[q]? = some u → W.cell? ⟨gB,j * 7 + q,none⟩ = some u:=fun W S q hq u hu=>by
      have:=S.c 3 (7 * j + q) rfl (hcell q hq u hu)
      rwa [show 7 * j + q = j * 7 + q by omega] at this
     have CO1:=fun W (hb:Below wr.heap.size wr W)=>dcost_any W g b N x.a x.b (j:Int) (dat.out.below (S.b.trans (hb.mono S.b.size))) hf (wf64 hk.a.1 (by have:=hk.a.2; omega))
     have CO2:=fun W (hb:Below w.heap.size w W)=>dcost_any W g b N x.b x.a (j:Int) (dat.out.below hb) hf (wf64 hk.b.1 (by have:=hk.b.2; omega))
     unfold CostPost at CO1 CO2
     obtain ⟨pA,hpA⟩:∃ z,cA N j x = z:=⟨_,rfl⟩
     obtain ⟨pB,hpB⟩:∃ z,cB N j x = z:=⟨_,rfl⟩
     have eA:cstL (vX N x.a).adj x.b (j:Int) = pA:=hpA
     have eB:cstL (vX N x.b).adj x.a (j:Int) = pB:=hpB
     rw [eA] at CO1
     rw [eB] at CO2
     unfold upL at hset hsame
     unfold dnB at dset dsame
     rw [hpA,hpB] at hset hsame dset dsame
     clear hcell eA eB hpA hpB hk
     replace hset:=Lib.hid hset
     replace hsame:=Lib.hid hsame
     replace dset:=Lib.hid dset
     replace dsame:=Lib.hid dsame
     replace hcl:=Lib.hid hcl
     replace CO1:=Lib.hid CO1
     replace CO2:=Lib.hid CO2
     have r0:=S.c 2 0 rfl rfl
     have r1:=S.c 2 1 rfl rfl
     have r2:=S.c 2 2 rfl rfl
     go_upto_region 17 with fail
     clear r0 r1 r2
     have x0:=cell_regrown (hcl.out _ S 0 (by omega) _ rfl)
     have x1:=cell_regrown (hcl.out _ S 1 (by omega) _ rfl)
     simp only [Nat.add_zero] at x0 x1
     refine wp_region_quiet_below (by kernel_rfl) (by kernel_rfl) ?_
     repeat (go_big_quiet_step ((first | (go_at_call 106; with_reducible exact Calls.regrown_of (CO1.out _ (below_regrown _ _ _))))))
     refine wpQuiet_nil ?_
     intro _ hw'
     obtain ⟨⟨dq,osq⟩,hw''⟩:=hw'
     subst hw''
     replace S:=S.call (below_regrown _ dq osq)
     generalize grow (redrawn _ dq) osq = w5 at *
     clear x0 x1 CO1
     replace CO2:=Lib.hid (fun W hb=>CO2.out W (S.b.trans (Below.mono hb S.b.size)))
     have x0:=cell_regrown (hcl.out _ S 0 (by omega) _ rfl)
     have x1:=cell_regrown (hcl.out _ S 1 (by omega) _ rfl)
     simp only [Nat.add_zero] at x0 x1
     go_upto_region 18 with fail
     refine wp_region_quiet_below (by kernel_rfl) (by kernel_rfl) ?_
     repeat (go_big_quiet_step ((first | (go_at_call 106; with_reducible exact Calls.regrown_of (CO2.out _ (below_regrown _ _ _))))))
     refine wpQuiet_nil ?_
     intro _ hw'
     obtain ⟨⟨dq,osq⟩,hw''⟩:=hw'
     subst hw''
     replace S:=S.call (below_regrown _ dq osq)
     generalize grow (redrawn _ dq) osq = w6 at *
     clear x0 x1 CO2
     have x2:=hcl.out _ S 2 (by omega) _ rfl
     have x3:=hcl.out _ S 3 (by omega) _ rfl
     have y2:=S.f 3 (j * 7 + 2) rfl (List.getElem?_eq_getElem (by omega))
     have y3:=S.f 3 (j * 7 + 3) rfl (List.getElem?_eq_getElem (by omega))
     have z0:=S.c 0 (2 * j) rfl (List.getElem?_eq_getElem (by rw [boV_len]; omega))
     have z1:=S.c 0 (2 * j + 1) rfl (List.getElem?_eq_getElem (by rw [boV_len]; omega))
     have q0:=S.f 0 (2 * j) rfl (List.getElem?_eq_getElem (by rw [boV_len]; omega))
     have q1:=S.f 0 (2 * j + 1) rfl (List.getElem?_eq_getElem (by rw [boV_len]; omega))
     generalize (boV (stD N l j))[2 * j]'_ = zz0 at z0
     generalize (boV (stD N l j))[2 * j + 1]'_ = zz1 at z1
     have hw0:IntKind.i64.wrap (2 * (j:Int)) = 2 * (j:Int):=IntWalk.i64_in _ (by omega)
     have hw1:IntKind.i64.wrap (2 * (j:Int) + 1) = 2 * (j:Int) + 1:=IntWalk.i64_in _ (by omega)
     rcases pA with _ | pa
     ·clear x2 x3 y2 y3
      have en:Hid (stL N l (j + 1) = stL N l j):=hsame.out (if_neg (by simp))
      have ed:Hid (((boV (stD N l j)).set (2 * j) (.bool true)).set (2 * j + 1) (.bool true) = boV (stD N l (j + 1))):=dset.out rfl
      clear hset hsame dset dsame hcl
      have S9:=(S.set 0 (2 * j) (.bool true) rfl (by rw [boV_len]; omega) (by omega) (by simp; omega) _ rfl).set 0 (2 * j + 1) (.bool true) rfl (by rw [List.length_set,boV_len]; omega) (by omega) (by simp; omega) [(gD,boV (stD N l (j + 1))),(gO,boV (vwO N i)),(g7,[.int .i64 (i:Int),.slice (some ⟨gO,0,none⟩) i i,.slice (some ⟨gB,0,none⟩) m d1]),(gB,lksV (stL N l (j + 1))),(w.heap.size + 1,[.int .i64 0,.slice none 0 0,.slice none 0 0]),(w.heap.size,[.int .i64 (i:Int),.slice A k c,.slice B m d])] (by rw [← ed.out,en.out]; rfl)
      clear en ed
      replace S9:=Lib.hid S9
      go_wp2_with fail
      go_round
      case rel=>exact ⟨j + 1,by go_num,by omega,S9.out⟩
      case measure=>simp [intOf]; omega
     rcases pB with _ | pb
     ·clear x2 x3 y2 y3
      have en:Hid (stL N l (j + 1) = stL N l j):=hsame.out (if_neg (by simp))
      have ed:Hid (((boV (stD N l j)).set (2 * j) (.bool true)).set (2 * j + 1) (.bool true) = boV (stD N l (j + 1))):=dset.out rfl
      clear hset hsame dset dsame hcl
      have S9:=(S.set 0 (2 * j) (.bool true) rfl (by rw [boV_len]; omega) (by omega) (by simp; omega) _ rfl).set 0 (2 * j + 1) (.bool true) rfl (by rw [List.length_set,boV_len]; omega) (by omega) (by simp; omega) [(gD,boV (stD N l (j + 1))),(gO,boV (vwO N i)),(g7,[.int .i64 (i:Int),.slice (some ⟨gO,0,none⟩) i i,.slice (some ⟨gB,0,none⟩) m d1]),(gB,lksV (stL N l (j + 1))),(w.heap.size + 1,[.int .i64 0,.slice none 0 0,.slice none 0 0]),(w.heap.size,[.int .i64 (i:Int),.slice A k c,.slice B m d])] (by rw [← ed.out,en.out]; rfl)
      clear en ed
      replace S9:=Lib.hid S9
      go_wp2_with fail
      go_round
      case rel=>exact ⟨j + 1,by go_num,by omega,S9.out⟩
      case measure=>simp [intOf]; omega
     have en:Hid (stD N l (j + 1) = stD N l j):=dsame.out rfl
     have ed:Hid (((lksV (stL N l j)).set (j * 7 + 2) (.int .i64 pa)).set (j * 7 + 3) (.int .i64 pb) = lksV (stL N l (j + 1))):=hset.out pa pb (if_pos rfl)
     clear hset hsame dset dsame hcl z0 z1 q0 q1
     have S9:=(S.set 3 (j * 7 + 2) (.int .i64 pa) rfl (by omega) (by omega) (by simp; omega) _ rfl).set 3 (j * 7 + 3) (.int .i64 pb) rfl (by rw [List.length_set]; omega) (by omega) (by simp; omega) [(gD,boV (stD N l (j + 1))),(gO,boV (vwO N i)),(g7,[.int .i64 (i:Int),.slice (some ⟨gO,0,none⟩) i i,.slice (some ⟨gB,0,none⟩) m d1]),(gB,lksV (stL N l (j + 1))),(w.heap.size + 1,[.int .i64 0,.slice none 0 0,.slice none 0 0]),(w.heap.size,[.int .i64 (i:Int),.slice A k c,.slice B m d])] (by rw [← ed.out,en.out]; rfl)
     clear en ed
     replace S9:=Lib.hid S9
     go_wp2_with fail
     go_round
     case rel=>exact ⟨j + 1,by go_num,by omega,S9.out⟩
     case measure=>simp [intOf]; omega
    ·obtain rfl:j = m:=by omega
     have eL:stL N l j = vwL N 0 l:=by rw [← hm.out]; exact stL_end N l
     have eD:stD N l j = vwD N 0 l:=by rw [← hm.out]; exact stD_end N l
     rw [eL,eD] at S
     clear eL eD
     have r0:=S.c 2 0 rfl rfl
     have r1:=S.c 2 1 rfl rfl
     have r2:=S.c 2 2 rfl rfl
     have a0:=S.c 4 0 rfl rfl
     have a1:=S.c 4 1 rfl rfl
     have a2:=S.c 4 2 rfl rfl
     have f0:=S.f 4 0 rfl rfl
     have f1:=S.f 4 1 rfl rfl
     have f2:=S.f 4 2 rfl rfl
     have S9:=(((S.set 4 0 (.int .i64 (i:Int)) rfl (by simp) (by omega) (by simp; omega) _ rfl).set 4 1 (.slice (some ⟨gO,0,none⟩) i i) rfl (by simp) (by omega) (by simp; omega) _ rfl).set 4 2 (.slice B1 j d1) rfl (by simp) (by omega) (by simp; omega) _ rfl)
     have R1:=(S9.box 1 rfl).rd
     have R0:=(S9.box 0 rfl).rd
     have R3:Rd _ B1 (lksV (vwL N 0 l)):=fun hn=>by
      obtain ⟨e,_⟩:=hBe.out (by rw [lksV_len,vwL_len,hm.out] at hn; omega)
      have:=(S9.box 3 rfl).rd hn
      rwa [← e] at this
     have hf9:=hfin.out _ _ i _ d1 _ (2 * j) R1 R3 R0 S9.b
     replace hf9:=Lib.hid hf9
     clear R1 R0 R3 S9 S
     go_wp2_with fail
     exact bodyPost_ret (v:=.tuple #[tpV (i:Int) (some ⟨gO,0,none⟩) i i B1 j d1,.slice (some ⟨gD,0,none⟩) (2 * j) (2 * j),.int .i64 0]) (by simp [results,Tryz.results57,go_sem,a0,a1,a2]) rfl hf9.out
end Go.Proofs.YtehimhbgakpenaaGreat

namespace Go.Proofs.YtehimhbgakpenaaGreat
set_option linter.unusedVariables false
set_option linter.unusedSimpArgs false
open Go.RowKit Go.Maps Go.Sort
def SViewPost (w:World) (S:Sp) (e:Ending) (w':World):Prop :=
 ∃ v D c,e = .returned (.tuple #[v,.slice D (2 * S.tp.ln.length) c]) ∧ TpAt w' v (vwT S.db S.tp) ∧ Rd w' D (boV (vwD S.db 0 S.tp.ln)) ∧ Below w.heap.size w w'
theorem SpAt.tpa {w:World} {m:Sm} {S:Sp} {col:Nat → Nat} {c:Nat} (h:SpAt w m S col c):TpAt w (tpV S.tp.n m.O S.tp.ov.length m.co m.L S.tp.ln.length m.cl) S.tp:=⟨m.O,m.co,m.L,m.cl,rfl,h.rO.1,h.rL.1,h.lT⟩
theorem rd_set {w:World} {A:Option Addr} {xs:List Value} (hr:Rd w A xs) {g:Nat} (hne:0 < xs.length → ∀ ad,A = some ad → ad.block ≠ g) (j:Nat) (u:Value):Rd (w.setCell ⟨g,j,none⟩ u) A xs:=fun hx=>by
 obtain ⟨ad,e,hc⟩:=hr hx
 refine ⟨ad,e,fun i v hv=>?_⟩
 have e2:(w.setCell ⟨g,j,none⟩ u).heap[(ad.add i).block]? = w.heap[(ad.add i).block]?:=by rw [addr_add_block]; exact heap_setCell_other w _ _ u (hne hx ad e)
 rw [World.cell?_of_block e2]
 exact hc i v hv
theorem rd_set3 {w:World} {A:Option Addr} {xs:List Value} (hr:Rd w A xs) {g:Nat} (hne:0 < xs.length → ∀ ad,A = some ad → ad.block ≠ g) (u0 u1 u2:Value):Rd (((w.setCell ⟨g,0,none⟩ u0).setCell ⟨g,1,none⟩ u1).setCell ⟨g,2,none⟩ u2) A xs :=
 rd_set (rd_set (rd_set hr hne 0 u0) hne 1 u1) hne 2 u2
theorem rd_far {w:World} {A:Option Addr} {xs:List Value} {k:Nat} {T:TypeId} (hr:Rd w A xs) (hh:w.heap[k]? = some (.cells #[.int .i64 0,.slice none 0 0,.slice none 0 0] T (0,0))) {j:Nat} {u:Value} (hj:xs[j]? = some u) (hc:(∃ b,u = .bool b) ∨ 3 ≤ j):∀ ad,A = some ad → ad.block ≠ k:=fun ad ha e=>by
 have hx:=(List.getElem?_eq_some_iff.1 hj).1
 obtain ⟨b,off,e1,h1⟩:=rd_at hr (by omega)
 rw [ha] at e1
 injection e1 with e1
 subst e1
 simp only at e
 subst e
 have h2:=h1 j u hj
 unfold World.cell? at h2
 rw [hh] at h2
 rcases hc with ⟨v,rfl⟩ | h3
 ·rcases hi:off + j with _ | _ | _ | i <;> simp [hi] at h2
 ·have:¬ off + j < 3:=by omega
  simp [this] at h2
theorem bool_far {w:World} {A:Option Addr} {l:List Bool} {k:Nat} {T:TypeId} (hr:Rd w A (boV l)) (hh:w.heap[k]? = some (.cells #[.int .i64 0,.slice none 0 0,.slice none 0 0] T (0,0))):0 < (boV l).length → ∀ ad,A = some ad → ad.block ≠ k:=fun hx=>by
 cases l with
 | nil=>simp [boV] at hx
 | cons b l=>exact rd_far hr hh (j:=0) (u:=.bool b) rfl (.inl ⟨b,rfl⟩)
theorem link_far {w:World} {A:Option Addr} {l:List Lk} {k:Nat} {T:TypeId} (hr:Rd w A (lksV l)) (hh:w.heap[k]? = some (.cells #[.int .i64 0,.slice none 0 0,.slice none 0 0] T (0,0))):0 < (lksV l).length → ∀ ad,A = some ad → ad.block ≠ k:=fun hx=>by
 cases l with
 | nil=>simp [lksV] at hx
 | cons b l=>exact rd_far hr hh (j:=6) (u:=.int .i64 b.grp) rfl (.inr (by omega))
def VwAt (w wx:World) (S:Sp) (v4 v5:Value):Prop :=
 ∃ k A' c1 B' d1 D c3,v4 = .pointer (some ⟨k,0,none⟩) ∧ v5 = .slice D (2 * S.tp.ln.length) c3 ∧ St w wx [(k,[.int .i64 (vwT S.db S.tp).n,.slice A' (vwT S.db S.tp).ov.length c1,.slice B' (vwT S.db S.tp).ln.length d1]),(w.heap.size,[.int .i64 0,.slice none 0 0,.slice none 0 0])] [] ∧
   TpAt wx (tpV (vwT S.db S.tp).n A' (vwT S.db S.tp).ov.length c1 B' (vwT S.db S.tp).ln.length d1) (vwT S.db S.tp) ∧ Rd wx D (boV (vwD S.db 0 S.tp.ln)) ∧ w.heap.size < k ∧ wx.heap[w.heap.size]? = some (.cells #[.int .i64 0,.slice none 0 0,.slice none 0 0] 25 (0,0))
set_option maxRecDepth 100000 in
set_option maxHeartbeats 6400000 in
theorem spView_any (w:World) (m:Sm) (S:Sp) (col:Nat → Nat) (c:Nat) (h:SpAt w m S col c) (ok:SpOk S) :
  Calls Tryz.prog 14 #[.pointer (some ⟨m.g,0,none⟩)] w (SViewPost w S):=by
 have S0:=(St.start w).new' #[.int .i64 0,.slice none 0 0,.slice none 0 0] 25 w.heap.size _ rfl rfl
 have VW:=fun W (hb:Below w.heap.size w W)=>dview_any W m.gd m.bd S.db _ S.tp (h.below hb).db ok.db.few (h.below hb).tpa ok.tp
 unfold ViewPost at VW
 have hcs:=fun W (hb:Below w.heap.size w W)=>(h.below hb).cs
 obtain ⟨T,hT⟩:∃ T,vwT S.db S.tp = T:=⟨_,rfl⟩
 obtain ⟨DL,hDL⟩:∃ DL,boV (vwD S.db 0 S.tp.ln) = DL:=⟨_,rfl⟩
 have hTn:T.n = S.tp.n:=by rw [← hT]; rfl
 have hq:Hid (∀ w' v D c,TpAt w' v T → Rd w' D DL → Below w.heap.size w w' → SViewPost w S (.returned (.tuple #[v,.slice D (2 * S.tp.ln.length) c])) w'):=fun w' v D c h1 h2 h3=>⟨v,D,c,rfl,by rw [hT]; exact h1,by rw [hDL]; exact h2,h3⟩
 have hvw:Hid (∀ wx k A' c1 B' d1 D c3,St w wx [(k,[.int .i64 T.n,.slice A' T.ov.length c1,.slice B' T.ln.length d1]),(w.heap.size,[.int .i64 0,.slice none 0 0,.slice none 0 0])] [] → TpAt wx (tpV T.n A' T.ov.length c1 B' T.ln.length d1) T → Rd wx D DL → w.heap.size < k → wx.heap[w.heap.size]? = some (.cells #[.int .i64 0,.slice none 0 0,.slice none 0 0] 25 (0,0)) → VwAt w wx S (.pointer (some ⟨k,0,none⟩)) (.slice D (2 * S.tp.ln.length) c3)):=fun wx k A' c1 B' d1 D c3 h1 h2 h3 h4 h5=>⟨k,A',c1,B',d1,D,c3,rfl,rfl,by rw [hT]; exact h1,by rw [hT]; exact h2,by rw [hDL]; exact h3,h4,h5⟩
 have hDfar:Hid (∀ W {D:Option Addr} {k:Nat} {T2:TypeId},Rd W D DL → W.heap[k]? = some (.cells #[.int .i64 0,.slice none 0 0,.slice none 0 0] T2 (0,0)) → 0 < DL.length → ∀ ad,D = some ad → ad.block ≠ k):=fun W {D k T2} h1 h2=>by rw [← hDL] at h1 ⊢; exact bool_far h1 h2
 simp only [hT,hDL] at VW
 replace VW:=Lib.hid VW
 replace hcs:=Lib.hid hcs
 replace hTn:=Lib.hid hTn
 have hT':=Lib.hid hT
 have hDL':=Lib.hid hDL
 clear h ok hT hDL
 go_enter Tryz.func14,Tryz.ntmps14
 go_upto_region 3 with fail
 have hh1:=heap_alloc_new w (.cells #[.int .i64 0,.slice none 0 0,.slice none 0 0] 25)
 generalize hw1:World.alloc w _ = w1 at *
 clear hw1
 go_cut [4,5] (fun v4 v5 wx=>VwAt w wx S v4 v5)
 case first =>
  have hb1:=S0.b
  have cs:=hcs.out w1.drew (hb1.trans (Below.refl _ _).drew)
  have tok1:True:=trivial
  have cs2:=hcs.out (World.alloc w1 (.cells #[.int .i64 0,.slice none 0 0,.slice none 0 0] 25)).drew ((hb1.trans ((below_new' w1 (.cells #[.int .i64 0,.slice none 0 0,.slice none 0 0] 25)).mono S0.b.size)).drew)
  have a12:=cs.c12
  have a0:=cs.c0
  have a1:=cs.c1
  have a2:=cs.c2
  have b12:=cs2.c12
  have b0:=cs2.c0
  have b1:=cs2.c1
  have b2:=cs2.c2
  clear cs cs2
  have SA:=S0.drew
  have SB:=(S0.new' #[.int .i64 0,.slice none 0 0,.slice none 0 0] 25 w1.heap.size _ rfl rfl).drew
  have hk1:w.heap.size < w1.heap.size:=(S0.box 0 rfl).lt (by simp)
  have hh0:=heap_alloc_new w1 (.cells #[.int .i64 0,.slice none 0 0,.slice none 0 0] 25)
  go_region_law
   (first
    | (clear tok1; rw [if_pos (by simp [Region.wanted])]; go_simp; (with_reducible refine (VW.out _ SA.b).mono ?_); rintro e wa ⟨v,D,c3,rfl,hTp,hD,hba⟩; dsimp only; obtain ⟨A',c1,B',d1,rfl,r1,r2,r3⟩:=hTp; have S9:=(SA.call hba).new' #[.int .i64 T.n,.slice A' T.ov.length c1,.slice B' T.ln.length d1] 25 wa.heap.size _ rfl rfl; have hb9:=below_new' wa (.cells #[.int .i64 T.n,.slice A' T.ov.length c1,.slice B' T.ln.length d1] 25); have hN:=Lib.hid (hvw.out _ _ _ _ _ _ D c3 S9 ⟨A',c1,B',d1,rfl,r1.below hb9,r2.below hb9,r3⟩ (hD.below hb9) (by have:=hba.size; have e:w1.drew.heap.size = w1.heap.size:=rfl; omega) ((hb9.block w.heap.size (by have:=hba.size; have e:w1.drew.heap.size = w1.heap.size:=rfl; omega)).trans ((hba.block w.heap.size hk1).trans hh1))); clear S9)
    | (clear tok1; rw [if_pos (by simp [Region.wanted])]; go_simp; (with_reducible refine (VW.out _ SB.b).mono ?_); rintro e wa ⟨v,D,c3,rfl,hTp,hD,hba⟩; dsimp only; obtain ⟨A',c1,B',d1,rfl,r1,r2,r3⟩:=hTp; have hh8:=hba.block w1.heap.size (by show w1.heap.size < (World.alloc w1 (.cells #[.int .i64 0,.slice none 0 0,.slice none 0 0] 25)).heap.size; simp); have S8:=SB.call hba; have k0:=S8.c 0 0 rfl rfl; have k1:=S8.c 0 1 rfl rfl; have k2:=S8.c 0 2 rfl rfl; have j0:=S8.f 0 0 rfl rfl; have j1:=S8.f 0 1 rfl rfl; have j2:=S8.f 0 2 rfl rfl; have S9:=S8.set3 (.int .i64 T.n) (.slice A' T.ov.length c1) (.slice B' T.ln.length d1) (by omega) (by simp; omega); have hN:=Lib.hid (hvw.out _ _ _ _ _ _ D c3 S9 ⟨A',c1,B',d1,rfl,rd_set3 r1 (bool_far r1 (hh8.trans hh0)) _ _ _,rd_set3 r2 (link_far r2 (hh8.trans hh0)) _ _ _,r3⟩ (rd_set3 hD (hDfar.out _ hD (hh8.trans hh0)) _ _ _) hk1 ((((((below_new' w1 (.cells #[.int .i64 0,.slice none 0 0,.slice none 0 0] 25)).drew.trans (hba.mono (by show w1.heap.size ≤ (World.alloc w1 (.cells #[.int .i64 0,.slice none 0 0,.slice none 0 0] 25)).heap.size; simp))).setCell (p:=⟨w1.heap.size,0,none⟩) (Nat.le_refl _) _).setCell (p:=⟨w1.heap.size,1,none⟩) (Nat.le_refl _) _).setCell (p:=⟨w1.heap.size,2,none⟩) (Nat.le_refl _) _).block w.heap.size hk1 |>.trans hh1)); clear S9))
  all_goals go_wp2_with fail
  all_goals go_meet
  all_goals exact hN.out
 case rest =>
  obtain ⟨k,A',c1,B',d1,D,c3,rfl,rfl,S9,h1,h2,h3,h5⟩:=hcut
  rw [hT'.out] at S9 h1
  rw [hDL'.out] at h2
  have k0:=S9.c 0 0 rfl rfl
  have k1:=S9.c 0 1 rfl rfl
  have k2:=S9.c 0 2 rfl rfl
  have r0:=S9.c 1 0 rfl rfl
  have r1:=S9.c 1 1 rfl rfl
  have r2:=S9.c 1 2 rfl rfl
  have f0:=S9.f 1 0 rfl rfl
  have f1:=S9.f 1 1 rfl rfl
  have f2:=S9.f 1 2 rfl rfl
  have hb9:=((S9.b.setCell (p:=⟨w.heap.size,0,none⟩) (Nat.le_refl _) (.int .i64 T.n)).setCell (p:=⟨w.heap.size,1,none⟩) (Nat.le_refl _) (.slice A' T.ov.length c1)).setCell (p:=⟨w.heap.size,2,none⟩) (Nat.le_refl _) (.slice B' T.ln.length d1)
  obtain ⟨a1,a2,a3,a4,a5,q1,q2,q3⟩:=h1
  simp only [Value.agg.injEq,Array.mk.injEq,List.cons.injEq,Value.slice.injEq,true_and,and_true] at a5
  obtain ⟨⟨rfl,rfl⟩,rfl,rfl⟩:=a5
  have hf:=hq.out _ (tpV T.n A' T.ov.length c1 B' T.ln.length d1) D c3 ⟨A',c1,B',d1,rfl,rd_set3 q1 (bool_far q1 h5) (.int .i64 T.n) (.slice A' T.ov.length c1) (.slice B' T.ln.length d1),rd_set3 q2 (link_far q2 h5) _ _ _,q3⟩ (rd_set3 h2 (hDfar.out _ h2 h5) _ _ _) hb9
  have Sz:=S9.set 1 0 (.int .i64 T.n) rfl (by simp) (Nat.le_refl _) (by simp; omega) _ rfl
  clear S9 hb9 hq hvw VW hcs q1 q2 q3 h2 h5
  go_wp2_with fail
  exact bodyPost_ret (v:=.tuple #[tpV T.n A' T.ov.length c1 B' T.ln.length d1,.slice D (2 * S.tp.ln.length) c3]) (by simp [results,Tryz.results14,go_sem,r0,r1,r2]) rfl hf
end Go.Proofs.YtehimhbgakpenaaGreat
