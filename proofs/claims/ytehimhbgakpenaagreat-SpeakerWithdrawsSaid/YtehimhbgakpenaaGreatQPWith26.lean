/-
  The texts Ms, MsV, one after the other.
-/
import Derived.Test.YtehimhbgakpenaaGreatQPWith20
import Derived.Test.YtehimhbgakpenaaGreatQPWith9
namespace Go.Proofs.YtehimhbgakpenaaGreat
set_option linter.unusedVariables false
open Go.RowKit Go.Sort
theorem own_rdp {w:World} {base:Nat} {e:TypeId} {size:Nat} {A:Option Addr} {n c:Nat} {xs:List Value} (h:w.ownsRow base e size (.slice A n c) n xs):Rd w A xs ∧ n ≤ c ∧ c ≤ maxLen:=by
 obtain ⟨A',c',e1,r,l,m⟩:=own_rd h
 simp only [Value.slice.injEq,true_and] at e1
 obtain ⟨rfl,rfl⟩:=e1
 exact ⟨r,l,m⟩
theorem Rd.keptR {w w':World} {A:Option Addr} {xs:List Value} {row:Option Nat} (h:Rd w A xs) (hg:w.grownBy w' row) (hf:0 < xs.length → ∀ ad,A = some ad → row ≠ some ad.block):Rd w' A xs:=by
 intro hn
 obtain ⟨ad,e,hb⟩:=h.block hn
 obtain ⟨ad',e',hc⟩:=h hn
 rw [e] at e'
 injection e' with e'
 subst e'
 refine ⟨ad,e,fun j u hu=>?_⟩
 rw [World.cell?_of_block (hg.block _ (by rw [addr_add_block]; exact hb) (by rw [addr_add_block]; exact fun e2=>hf hn ad e e2.symm))]
 exact hc j u hu
structure Ms where
 k:Int
 n:Int
 b:Int
 h:Int
 y:La
abbrev msV (m:Ms) (A:Option Addr) (c:Nat) (B:Option Addr) (d:Nat):Value :=
 .agg #[.int .i64 m.k,.int .i64 m.n,.int .i64 m.b,.int .i64 m.h,.int .i64 m.y.o,.int .i64 m.y.s,.int .i64 m.y.a,.bool m.y.ov,.slice A m.y.adj.length c,.slice B m.y.pre.length d]
abbrev laW (y:La) (A:Option Addr) (c:Nat) (B:Option Addr) (d:Nat):Value:=laV y.o y.s y.a y.ov A y.adj.length c B y.pre.length d
def MsAt (w:World) (v:Value) (m:Ms):Prop:=∃ A c B d,v = msV m A c B d ∧ LaAt w (laW m.y A c B d) m.y
theorem MsAt.below {w w':World} {v:Value} {m:Ms} (h:MsAt w v m) (hb:Below w.heap.size w w'):MsAt w' v m:=by
 obtain ⟨A,c,B,d,rfl,h⟩:=h
 exact ⟨A,c,B,d,rfl,h.below hb⟩
def msZero:Ms:=⟨0,0,0,0,laZero⟩
def MsOwn (w:World) (base:Nat) (v:Value) (m:Ms):Prop:=∃ A c B d,v = msV m A c B d ∧ LaOwn w base (laW m.y A c B d) m.y
theorem MsOwn.at {w:World} {base:Nat} {v:Value} {m:Ms} (h:MsOwn w base v m):MsAt w v m:=by
 obtain ⟨A,c,B,d,rfl,h⟩:=h
 exact ⟨A,c,B,d,rfl,h.at⟩
theorem msZero_own (w:World) (base:Nat):MsOwn w base (.agg #[.int .i64 0,.int .i64 0,.int .i64 0,.int .i64 0,.int .i64 0,.int .i64 0,.int .i64 0,.bool false,.slice none 0 0,.slice none 0 0]) msZero:=⟨none,0,none,0,rfl,laZero_own w base⟩
def emB (x:La):Bool:=x.o == 0 && (x.s == 0 && (x.a == 0 && (!x.ov && (decide (x.adj.length = 0) && decide (x.pre.length = 0)))))
theorem emB_iff {x:La}:emB x = true ↔ x = laZero:=by
 obtain ⟨o,s,a,ov,adj,pre⟩:=x
 simp [emB,laZero]
noncomputable def msB (m:Ms):Bool:=wiB m.b 1 1073741824 && (if m.k = 1 then wiB m.n 0 63 && (wiB m.h 0 1073741824 && emB m.y) else if m.k = 2 ∨ m.k = 3 then m.n == 0 && (m.h == 0 && vB m.y) else false)
def msVal (m:Ms):List UInt8:=if m.k = 1 then numB m.n.toNat 2 ++ (numB m.b.toNat 4 ++ numB m.h.toNat 4) else numB m.b.toNat 4 ++ laEnc m.y
def msEnc (m:Ms):List UInt8:=enc1 (m.k,msVal m)
theorem msVal_len {m:Ms} (h:msB m = true):(msVal m).length ≤ 3000:=by
 unfold msVal
 split
 ·simp [numB_len]
 ·rename_i hk
  simp only [msB,hk,if_false,Bool.and_eq_true] at h
  obtain ⟨_,h2⟩:=h
  split at h2
  ·simp only [Bool.and_eq_true] at h2
   have:=vB_iff.1 h2.2.2
   rw [List.length_append,numB_len,laEnc_len]
   have h4:=this.2.2.2.1
   have h5:=this.2.2.2.2.1
   omega
  ·simp at h2
noncomputable def unpR (r:Rec):Ms :=
 if r.1 = 1 then ⟨1,uintB (r.2.take 2),uintB ((r.2.drop 2).take 4),uintB ((r.2.drop 6).take 4),laZero⟩
 else ⟨r.1,0,uintB (r.2.take 4),0,ldecV (r.2.drop 4)⟩
noncomputable def unpE1 (r:Rec):Int :=
 if r.1 = 1 then if r.2.length = 10 ∧ msB (unpR r) = true then 0 else 4
 else if r.1 = 2 ∨ r.1 = 3 then if r.2.length < 4 then 4 else if chk (r.2.drop 4) = false then 5 else if msB (unpR r) = true then 0 else 4
 else 4
noncomputable def unpE (bs:List UInt8):Int:=match decO bs with | some [r]=>unpE1 r | _=>4
noncomputable def unpM (bs:List UInt8):Ms:=match decO bs with | some [r]=>if unpE1 r = 0 then unpR r else msZero | _=>msZero
end Go.Proofs.YtehimhbgakpenaaGreat

namespace Go.Proofs.YtehimhbgakpenaaGreat
set_option linter.unusedVariables false
open Go.RowKit Go.Sort
set_option maxHeartbeats 800000 in
theorem swithin_any (n l m:Int) (w:World):Calls Tryz.prog 31 #[.int .i64 n,.int .i64 l,.int .i64 m] w fun e w'=>e = .returned (.bool (wiB n l m)) ∧ w = w':=by
 unfold wiB
 rcases h1:decide (l ≤ n) with _ | _
 ·have h1':¬ l ≤ n:=of_decide_eq_false h1
  go_enter Tryz.func31,Tryz.ntmps31
  go_wp2_with fail
  go_ret
  exact ⟨rfl,rfl⟩
 ·have h1':l ≤ n:=of_decide_eq_true h1
  rcases h2:decide (n ≤ m) with _ | _
  ·have h2':¬ n ≤ m:=of_decide_eq_false h2
   go_enter Tryz.func31,Tryz.ntmps31
   go_wp2_with fail
   go_ret
   exact ⟨rfl,rfl⟩
  ·have h2':n ≤ m:=of_decide_eq_true h2
   go_enter Tryz.func31,Tryz.ntmps31
   go_wp2_with fail
   go_ret
   exact ⟨rfl,rfl⟩
set_option maxRecDepth 100000 in
set_option maxHeartbeats 1600000 in
theorem sempty_ex (w:World) (o s ag:Int) (ov:Bool) (A:Option Addr) (n c:Nat) (B:Option Addr) (m d:Nat):Calls Tryz.prog 162 #[laV o s ag ov A n c B m d] w fun e w' =>
  e = .returned (.bool (o == 0 && (s == 0 && (ag == 0 && (!ov && ((n:Int) == 0 && (m:Int) == 0)))))) ∧ Below w.heap.size w w':=by
 have S:=(St.start w).new' #[.int .i64 o,.int .i64 s,.int .i64 ag,.bool ov,.slice A n c,.slice B m d] 41 w.heap.size _ rfl rfl
 have a0:=S.c 0 0 rfl rfl
 have a1:=S.c 0 1 rfl rfl
 have a2:=S.c 0 2 rfl rfl
 have a3:=S.c 0 3 rfl rfl
 have a4:=S.c 0 4 rfl rfl
 have a5:=S.c 0 5 rfl rfl
 have hbb:=S.b
 clear S
 rcases h1:(o == 0) with _ | _
 ·go_enter Tryz.func162,Tryz.ntmps162
  go_wp2_with fail
  go_ret
  exact ⟨rfl,hbb⟩
 rcases h2:(s == 0) with _ | _
 ·go_enter Tryz.func162,Tryz.ntmps162
  go_wp2_with fail
  go_ret
  exact ⟨rfl,hbb⟩
 rcases h3:(ag == 0) with _ | _
 ·go_enter Tryz.func162,Tryz.ntmps162
  go_wp2_with fail
  go_ret
  exact ⟨rfl,hbb⟩
 cases ov with
 | true =>
   go_enter Tryz.func162,Tryz.ntmps162
   go_wp2_with fail
   go_ret
   exact ⟨rfl,hbb⟩
 | false =>
 rcases h5:((n:Int) == 0) with _ | _
 ·go_enter Tryz.func162,Tryz.ntmps162
  go_wp2_with fail
  go_ret
  exact ⟨rfl,hbb⟩
 rcases h6:((m:Int) == 0) with _ | _
 ·go_enter Tryz.func162,Tryz.ntmps162
  go_wp2_with fail
  go_ret
  exact ⟨rfl,hbb⟩
 ·go_enter Tryz.func162,Tryz.ntmps162
  go_wp2_with fail
  go_ret
  exact ⟨rfl,hbb⟩
theorem sempty_any (w:World) (x:La) (A:Option Addr) (c:Nat) (B:Option Addr) (d:Nat):Calls Tryz.prog 162 #[laW x A c B d] w fun e w'=>e = .returned (.bool (emB x)) ∧ Below w.heap.size w w':=by
 have e5:((x.adj.length:Int) == 0) = decide (x.adj.length = 0):=by rw [Bool.eq_iff_iff]; simp
 have e6:((x.pre.length:Int) == 0) = decide (x.pre.length = 0):=by rw [Bool.eq_iff_iff]; simp
 have:=sempty_ex w x.o x.s x.a x.ov A x.adj.length c B x.pre.length d
 rw [e5,e6] at this
 exact this
set_option maxRecDepth 100000 in
set_option maxHeartbeats 3200000 in
theorem svalid_any (w:World) (v:Value) (m:Ms) (h:MsAt w v m):Calls Tryz.prog 116 #[v] w fun e w'=>e = .returned (.bool (msB m)) ∧ Below w.heap.size w w':=by
 obtain ⟨A,c,B,d,rfl,hl⟩:=h
 obtain ⟨mk,mn,mb,mh,y⟩:=m
 unfold msB
 unfold msV
 simp only at hl ⊢
 have S:=(St.start w).new' #[.int .i64 mk,.int .i64 mn,.int .i64 mb,.int .i64 mh,.int .i64 y.o,.int .i64 y.s,.int .i64 y.a,.bool y.ov,.slice A y.adj.length c,.slice B y.pre.length d] 142 w.heap.size _ rfl rfl
 have V:=fun W hb=>valid_at W _ y (hl.below hb)
 obtain ⟨vb,hvb⟩:∃ z,vB y = z:=⟨_,rfl⟩
 rw [hvb] at V
 rw [hvb]
 have E:=fun W=>sempty_any W y A c B d
 generalize emB y = eb at *
 obtain ⟨b1,hb1⟩:∃ z,wiB mb 1 1073741824 = z:=⟨_,rfl⟩
 obtain ⟨b2,hb2⟩:∃ z,wiB mn 0 63 = z:=⟨_,rfl⟩
 obtain ⟨b3,hb3⟩:∃ z,wiB mh 0 1073741824 = z:=⟨_,rfl⟩
 have W1:=fun W=>swithin_any mb 1 1073741824 W
 have W2:=fun W=>swithin_any mn 0 63 W
 have W3:=fun W=>swithin_any mh 0 1073741824 W
 rw [hb1] at W1
 rw [hb2] at W2
 rw [hb3] at W3
 obtain ⟨r,hr⟩:∃ r,(wiB mb 1 1073741824 && (if mk = 1 then wiB mn 0 63 && (wiB mh 0 1073741824 && eb) else if mk = 2 ∨ mk = 3 then mn == 0 && (mh == 0 && vb) else false)) = r:=⟨_,rfl⟩
 rw [hr]
 rw [hb1,hb2,hb3] at hr
 replace hr:=Lib.hid hr
 replace V:=Lib.hid V
 replace E:=Lib.hid E
 replace W1:=Lib.hid W1
 replace W2:=Lib.hid W2
 replace W3:=Lib.hid W3
 clear hl hvb hb1 hb2 hb3
 have a0:=S.c 0 0 rfl rfl
 have a1:=S.c 0 1 rfl rfl
 have a2:=S.c 0 2 rfl rfl
 have a3:=S.c 0 3 rfl rfl
 have a4:=S.c 0 4 rfl rfl
 have a5:=S.c 0 5 rfl rfl
 have a6:=S.c 0 6 rfl rfl
 have a7:=S.c 0 7 rfl rfl
 have a8:=S.c 0 8 rfl rfl
 have a9:=S.c 0 9 rfl rfl
 go_enter Tryz.func116,Tryz.ntmps116
 go_wp2_with fail
 (with_reducible refine (W1.out _).mono ?_)
 rintro e w1 ⟨rfl,rfl⟩
 cases b1 with
 | false =>
   obtain rfl:false = r:=by rw [← hr.out]; simp
   go_wp2_with fail
   go_ret
   exact ⟨rfl,S.b⟩
 | true =>
 by_cases hk1:mk = 1
 ·subst hk1
  cases b2 with
  | false =>
    obtain rfl:false = r:=by rw [← hr.out]; simp
    go_wp2_with fail
    (with_reducible refine (W2.out _).mono ?_)
    rintro e w2 ⟨rfl,rfl⟩
    go_wp2_with fail
    go_ret
    exact ⟨rfl,S.b⟩
  | true =>
  cases b3 with
  | false =>
    obtain rfl:false = r:=by rw [← hr.out]; simp
    go_wp2_with fail
    (with_reducible refine (W2.out _).mono ?_)
    rintro e w2 ⟨rfl,rfl⟩
    go_wp2_with fail
    (with_reducible refine (W3.out _).mono ?_)
    rintro e w3 ⟨rfl,rfl⟩
    go_wp2_with fail
    go_ret
    exact ⟨rfl,S.b⟩
  | true =>
  obtain rfl:eb = r:=by rw [← hr.out]; simp
  go_wp2_with fail
  (with_reducible refine (W2.out _).mono ?_)
  rintro e w2 ⟨rfl,rfl⟩
  go_wp2_with fail
  (with_reducible refine (W3.out _).mono ?_)
  rintro e w3 ⟨rfl,rfl⟩
  go_wp2_with fail
  (with_reducible refine (E.out _).mono ?_)
  rintro e w4 ⟨rfl,hb⟩
  replace S:=S.call hb
  go_wp2_with fail
  go_ret
  exact ⟨rfl,S.b⟩
 by_cases hk2:mk = 2 ∨ mk = 3
 ·by_cases hn0:mn = 0
  ·subst hn0
   by_cases hh0:mh = 0
   ·subst hh0
    obtain rfl:vb = r:=by rw [← hr.out,if_neg hk1,if_pos hk2]; simp
    rcases hk2 with hk2 | hk2
    all_goals
     subst hk2
     go_wp2_with fail
     (with_reducible refine (V.out _ S.b).mono ?_)
     rintro e w4 ⟨rfl,hb⟩
     replace S:=S.call hb
     go_wp2_with fail
     go_ret
     exact ⟨rfl,S.b⟩
   ·obtain rfl:false = r:=by rw [← hr.out,if_neg hk1,if_pos hk2]; simp [hh0]
    have h6:(mh == 0) = false:=by simpa using hh0
    rcases hk2 with hk2 | hk2
    all_goals
     subst hk2
     go_wp2_with fail
     go_ret
     exact ⟨rfl,S.b⟩
  ·obtain rfl:false = r:=by rw [← hr.out,if_neg hk1,if_pos hk2]; simp [hn0]
   have h5:(mn == 0) = false:=by simpa using hn0
   rcases hk2 with hk2 | hk2
   all_goals
    subst hk2
    go_wp2_with fail
    go_ret
    exact ⟨rfl,S.b⟩
 ·obtain rfl:false = r:=by rw [← hr.out,if_neg hk1,if_neg hk2]; simp
  have k1:(mk == 1) = false:=by simpa using hk1
  have k2:(mk == 2) = false:=by simp; omega
  have k3:(mk == 3) = false:=by simp; omega
  clear hk1 hk2
  go_wp2_with fail
  go_ret
  exact ⟨rfl,S.b⟩
end Go.Proofs.YtehimhbgakpenaaGreat
