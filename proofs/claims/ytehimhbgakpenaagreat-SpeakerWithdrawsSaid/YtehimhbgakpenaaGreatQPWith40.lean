/-
  The texts SpP, SpC, SpD, one after the other.
-/
import Derived.Test.YtehimhbgakpenaaGreatQPWith37
import Derived.Test.YtehimhbgakpenaaGreatQPWith26
import Derived.Test.YtehimhbgakpenaaGreatQPWith38
import Derived.Test.YtehimhbgakpenaaGreatQPWith23
import Derived.Test.YtehimhbgakpenaaGreatQPWith39
import Derived.StillTailTactics
import Derived.Deep.DeepCutAuto
import Derived.Deep.CutBlock
namespace Go.Proofs.YtehimhbgakpenaaGreat
set_option linter.unusedVariables false
open Go.RowKit Go.Maps Go.Sort
def adjS (ps:List Po):List Ad:=ps.filterMap fun p=>if p.ph = 2 then some (p.o,p.l,p.c) else none
def conS (S:Sp):La:=⟨0,0,0,S.ov,adjS S.ps,S.pre⟩
noncomputable def sprF (F:Fd.Fn) (a:La) (z:Int):Fd.Fn:=if vB a = true then Fd.sprN F a z else F
noncomputable def pubS (S:Sp):Sp:={ S with db:=instN S.db (curX S.x S.md),fl:=sprF S.fl (curX S.x S.md) (-1) }
noncomputable def origS (S:Sp):Sp :=
 if (setP S.x S.md (conS S)).made = true then pubS { S with x:=(setP S.x S.md (conS S)).x,md:=(setP S.x S.md (conS S)).now }
 else { S with x:=(setP S.x S.md (conS S)).x,md:=(setP S.x S.md (conS S)).now }
def poSet (p:Po) (ph lf:Int):Po:=⟨p.l,p.o,p.c,ph,lf,if ph = 0 then 0 else p.bt⟩
noncomputable def folS (S:Sp) (i:Nat) (ph lf:Int):Sp :=
 match S.ps[i]? with
 | none=>S
 | some p =>
   { S with
     ps:=S.ps.set i (poSet p ph lf)
     fl:=if He.evt p.ph ph = 1 then Fd.setN S.fl p.l.toNat (Fd.offs (fun _=>none) (allN S.db)) else if He.evt p.ph ph = 2 then Fd.dropN S.fl p.l.toNat else S.fl }
def phS (S:Sp) (i:Nat):Int:=match S.ps[i]? with | some p=>p.ph | none=>0
noncomputable def chgS (S:Sp) (i:Nat) (ph lf:Int):Sp:=if He.evt (phS S i) ph = 0 then folS S i ph lf else origS (folS S i ph lf)
def botS (S:Sp) (i:Nat) (b:Int):Sp:=match S.ps[i]? with | none=>S | some p=>{ S with ps:=S.ps.set i ⟨p.l,p.o,p.c,p.ph,p.lf,b⟩ }
noncomputable def helS (S:Sp) (i:Nat) (b h:Int):Sp :=
 match S.ps[i]? with
 | none=>S
 | some p=>chgS (botS (if p.ph ≠ 0 ∧ p.bt ≠ b then chgS S i 0 0 else S) i b) i (if h = S.bo then 2 else 1) S.h2
noncomputable def ackL (F:Fd.Fn) (l:Nat) (a:La):Fd.Fn:=match F l with | some D=>Fd.setN F l (Fd.ackD D a) | none=>F
noncomputable def offL (F:Fd.Fn) (l:Nat) (a:La):Fd.Fn:=match F l with | some D=>if vB a = true then Fd.setN F l (Fd.offD D a) else F | none=>F
noncomputable def insS (S:Sp) (l:Int) (a:La):Sp × Bool :=
 if instR S.db a = 1 then ({ S with db:=instN S.db a,fl:=sprF S.fl a l },true)
 else if instR S.db a = 2 then ({ S with db:=instN S.db a,fl:=ackL S.fl l.toNat a },true)
 else ({ S with db:=instN S.db a,fl:=offL S.fl l.toNat (getX (getO (instN S.db a) a.o)) },false)
noncomputable def updS (S:Sp) (l:Int) (a:La):Sp × Bool :=
 if a.o = S.nd then
  if (hearP S.x S.md a).made = true then (pubS { S with x:=(hearP S.x S.md a).x,md:=(hearP S.x S.md a).now },false)
  else if (hearP S.x S.md a).err ≠ 0 then ({ S with x:=(hearP S.x S.md a).x,md:=(hearP S.x S.md a).now },false)
  else insS { S with x:=(hearP S.x S.md a).x,md:=(hearP S.x S.md a).now } l a
 else insS S l a
def fndS (ps:List Po) (l:Int):Option Nat:=ps.findIdx? fun p=>p.l == l
noncomputable def recS (S:Sp) (i:Nat) (m:Ms):Sp × List (Int × Ms) :=
 match S.ps[i]? with
 | none=>(S,[])
 | some p =>
   if m.k = 1 then (helS S i m.b m.h,[])
   else if p.ph ≠ 2 ∨ p.bt ≠ m.b then (S,[])
   else if m.k = 2 then ((updS S p.l m.y).1,if (updS S p.l m.y).2 = true then [(p.l,⟨3,0,S.bo,0,m.y⟩)] else [])
   else ({ S with fl:=ackL S.fl p.l.toNat m.y },[])
noncomputable def tk1 (S:Sp):Nat → Sp
 | 0=>S
 | k + 1=>match (tk1 S k).ps[k]? with | none=>tk1 S k | some p=>folS (tk1 S k) k (He.tkP p.ph p.lf 1) (He.tkL p.ph p.lf 1)
def losB (ps:List Po) (k:Nat):Bool:=(ps.take k).any fun p=>decide (He.evt p.ph (He.tkP p.ph p.lf 1) = 2)
noncomputable def purF (nd:Int) (N:Db) (F:Fd.Fn) (l:List Int):Fd.Fn:=l.foldl (fun F n=>match getO N n with | some h=>if n ≠ nd then sprF F h.x (-1) else F | none=>F) F
noncomputable def tkA (S:Sp):Sp:=tk1 { S with tm:=S.tm + 1 } S.ps.length
noncomputable def tkB (S:Sp):Sp:=if losB S.ps S.ps.length = true then origS (tkA S) else tkA S
noncomputable def tkC (S:Sp):Sp:={ tkB S with db:=tickN 1 (tkB S).db,fl:=purF S.nd (tickN 1 (tkB S).db) (tkB S).fl (tickL 1 (tkB S).db) }
noncomputable def tkD (S:Sp):Sp:=if tickB (tkC S).x (tkC S).md 1 = true then pubS { tkC S with x:=tickX (tkC S).x (tkC S).md 1 } else { tkC S with x:=tickX (tkC S).x (tkC S).md 1 }
noncomputable def tkE (S:Sp):Sp:={ tkD S with fl:=Fd.tikN 1 (tkD S).fl }
def helM (S:Sp):List (Int × Ms):=if (S.tm - 1) % S.h1 = 0 then S.ps.map fun p=>(p.l,⟨1,S.nd,S.bo,p.bt,laZero⟩) else []
def updM (S:Sp):List (Int × Ms):=(Fd.sndK S.fl (Fd.lks S.fl)).map fun qx=>(qx.1,⟨2,0,S.bo,0,qx.2⟩)
def sndS (S:Sp):Sp:={ S with fl:=Fd.polN S.h3 S.fl }
noncomputable def ticS (S:Sp):Sp × List (Int × Ms):=(sndS (tkE S),helM (tkE S) ++ updM (tkE S))
structure PoOk (p:Po):Prop where
 l:0 ≤ p.l ∧ p.l < 256
 o:0 ≤ p.o ∧ p.o < 64
 c:1 ≤ p.c ∧ p.c ≤ 65535
 st:He.vld p.ph p.lf = true
 bt:0 ≤ p.bt ∧ p.bt ≤ 1073741824
structure SpOk (S:Sp):Prop where
 tp:TpOk S.tp
 nd:0 ≤ S.nd ∧ S.nd < S.tp.n
 bo:1 ≤ S.bo ∧ S.bo ≤ 1073741824
 h1:1 ≤ S.h1 ∧ S.h1 ≤ 65536
 h2:1 ≤ S.h2 ∧ S.h2 ≤ 65536
 h3:1 ≤ S.h3 ∧ S.h3 ≤ 65536
 tm:0 ≤ S.tm
 ps:∀ p ∈ S.ps,PoOk p
 uq:(S.ps.map (·.l)).Nodup
 pl:S.ps.length ≤ 512
 pre:S.pre.length ≤ 64
 db:DbOk S.db
 dz:∀ i,64 ≤ i → S.db i = none
 fl:Fd.FnOk S.fl
 up:∀ l:Nat,(S.fl l).isSome = true ↔ ∃ p ∈ S.ps,p.l = (l:Int) ∧ p.ph = 2
 xo:S.x.o = S.nd
 xs:0 ≤ S.x.s ∧ S.x.s ≤ 1073741824
 xa:0 ≤ S.x.a ∧ S.x.a ≤ 3599
 xm:S.md = true
 xv:LaValid S.x
 xl:S.x.adj.length ≤ 256 ∧ S.x.pre.length ≤ 64
end Go.Proofs.YtehimhbgakpenaaGreat

namespace Go.Proofs.YtehimhbgakpenaaGreat
set_option linter.unusedVariables false
open Go.RowKit Go.Maps Go.Sort
structure SpC (w:World) (m:Sm) (S:Sp):Prop where
 c0:w.cell? ⟨m.g,0,none⟩ = some (.int .i64 S.tp.n)
 c1:w.cell? ⟨m.g,1,none⟩ = some (.slice m.O S.tp.ov.length m.co)
 c2:w.cell? ⟨m.g,2,none⟩ = some (.slice m.L S.tp.ln.length m.cl)
 c3:w.cell? ⟨m.g,3,none⟩ = some (.int .i64 S.nd)
 c4:w.cell? ⟨m.g,4,none⟩ = some (.int .i64 S.bo)
 c5:w.cell? ⟨m.g,5,none⟩ = some (.int .i64 S.h1)
 c6:w.cell? ⟨m.g,6,none⟩ = some (.int .i64 S.h2)
 c7:w.cell? ⟨m.g,7,none⟩ = some (.int .i64 S.h3)
 c8:w.cell? ⟨m.g,8,none⟩ = some (.int .i64 S.tm)
 c9:w.cell? ⟨m.g,9,none⟩ = some (.slice m.P S.ps.length m.cp)
 c10:w.cell? ⟨m.g,10,none⟩ = some (.bool S.ov)
 c11:w.cell? ⟨m.g,11,none⟩ = some (.slice m.B S.pre.length m.cb)
 c12:w.cell? ⟨m.g,12,none⟩ = some (.pointer (some ⟨m.gd,0,none⟩))
 c13:w.cell? ⟨m.g,13,none⟩ = some (.pointer (some ⟨m.gf,0,none⟩))
 c14:w.cell? ⟨m.g,14,none⟩ = some (.pointer (some ⟨m.go,0,none⟩))
section
variable {w w':World} {m:Sm} {S:Sp} {col:Nat → Nat} {c:Nat}
theorem SpAt.cs (h:SpAt w m S col c):SpC w m S:=⟨h.bx.c 0 rfl,h.bx.c 1 rfl,h.bx.c 2 rfl,h.bx.c 3 rfl,h.bx.c 4 rfl,h.bx.c 5 rfl,h.bx.c 6 rfl,h.bx.c 7 rfl,h.bx.c 8 rfl,h.bx.c 9 rfl,h.bx.c 10 rfl,h.bx.c 11 rfl,h.bx.c 12 rfl,h.bx.c 13 rfl,h.bx.c 14 rfl⟩
structure PoC (w:World) (b o:Nat) (p:Po):Prop where
 c0:w.cell? ⟨b,o,none⟩ = some (.int .i64 p.l)
 c1:w.cell? ⟨b,o + 1,none⟩ = some (.int .i64 p.o)
 c2:w.cell? ⟨b,o + 2,none⟩ = some (.int .i64 p.c)
 c3:w.cell? ⟨b,o + 3,none⟩ = some (.int .i64 p.ph)
 c4:w.cell? ⟨b,o + 4,none⟩ = some (.int .i64 p.lf)
 c4':w.cell? ⟨b,o + 3 + 1,none⟩ = some (.int .i64 p.lf)
 c5:w.cell? ⟨b,o + 5,none⟩ = some (.int .i64 p.bt)
theorem SpAt.gp (h:SpAt w m S col c) (hn:0 < S.ps.length):∃ gp,m.P = some ⟨gp,0,none⟩ ∧ ∀ i (hi:i < S.ps.length),PoC w gp (i * 6) S.ps[i]:=by
 rcases h.po.2 with ⟨e,e2⟩ | ⟨gp,cap,cur,e,hgb,hh,r⟩
 ·omega
 ·injection e with e _ _
  refine ⟨gp,e,fun i hi=>?_⟩
  have hob:(Value.slice m.P S.ps.length m.cp).ownBlock = some gp:=by rw [e]; rfl
  have key:∀ j (u:Value),j < 6 → (poL S.ps[i])[j]? = some u → w.cell? ⟨gp,i * 6 + j,none⟩ = some u:=fun j u hj hu=>by
   have hp:=h.po
   rw [e] at hp
   have hc:=hp.cells (g:=gp) rfl (i * 6 + j) u (by rw [poV_get S.ps i hi j hj]; exact hu)
   have hadd:(⟨gp,0,none⟩:Addr).add (i * 6 + j) = ⟨gp,i * 6 + j,none⟩:=by unfold Addr.add; split <;> simp_all
   rwa [hadd] at hc
  exact ⟨key 0 _ (by omega) rfl,key 1 _ (by omega) rfl,key 2 _ (by omega) rfl,key 3 _ (by omega) rfl,key 4 _ (by omega) rfl,key 4 _ (by omega) rfl,key 5 _ (by omega) rfl⟩
theorem SpAt.free (h:SpAt w m S col c) {gp:Nat} (hP:m.P = some ⟨gp,0,none⟩) (j:Nat):w.frozen? ⟨gp,j,none⟩ = false:=by
 rcases h.po.2 with ⟨e,e2⟩ | ⟨gp',cap,cur,e,hgb,hh,r⟩
 ·rw [hP] at e; cases e
 ·rw [hP] at e
  injection e with e _ _
  injection e with e
  injection e with e
  subst e
  simp [World.frozen?,hh]
end
def SmEq (m m':Sm):Prop:=m'.g = m.g ∧ m'.P = m.P ∧ m'.gd = m.gd ∧ m'.gf = m.gf ∧ m'.go = m.go
def SpTo (w:World) (m:Sm) (col:Nat → Nat) (c:Nat) (S':Sp) (w':World):Prop:=∃ m' col',SmEq m m' ∧ (∀ k,k < w.heap.size → col' k = col k) ∧ SpAt w' m' S' col' c ∧ Ev col c w w'
theorem ev_trans {col col':Nat → Nat} {c:Nat} {w w' w'':World} (h:Ev col c w w') (h2:Ev col' c w' w'') (hc:∀ k,k < w.heap.size → col' k = col k):Ev col c w w'':=Eff.trans h h2 fun k hk e=>by rw [← hc k hk]; exact e
theorem SpTo.from {w w1 w2:World} {m:Sm} {S':Sp} {col:Nat → Nat} {c:Nat} (v:Ev col c w w1) (h:SpTo w1 m col c S' w2):SpTo w m col c S' w2:=by
 obtain ⟨m',col',e,hc,h1,h2⟩:=h
 exact ⟨m',col',e,fun k hk=>hc k (Nat.lt_of_lt_of_le hk v.size),h1,v.tr h2⟩
theorem SpTo.next {w w1 w2:World} {m m1:Sm} {S':Sp} {col col1:Nat → Nat} {c:Nat} (v:Ev col c w w1) (e1:SmEq m m1) (hc1:∀ k,k < w.heap.size → col1 k = col k) (h:SpTo w1 m1 col1 c S' w2):SpTo w m col c S' w2:=by
 obtain ⟨m',col',e,hc,h1,h2⟩:=h
 exact ⟨m',col',⟨e.1.trans e1.1,e.2.1.trans e1.2.1,e.2.2.1.trans e1.2.2.1,e.2.2.2.1.trans e1.2.2.2.1,e.2.2.2.2.trans e1.2.2.2.2⟩,fun k hk=>(hc k (Nat.lt_of_lt_of_le hk v.size)).trans (hc1 k hk),h1,ev_trans v h2 hc1⟩
def SpPost (w:World) (m:Sm) (col:Nat → Nat) (c:Nat) (S':Sp) (v:Value) (e:Ending) (w':World):Prop:=e = .returned v ∧ SpAt w' m S' col c ∧ Ev col c w w'
theorem fnd_none {ps:List Po} {l:Int} (h:∀ i (hi:i < ps.length),ps[i].l ≠ l):fndS ps l = none:=by
 unfold fndS
 rw [List.findIdx?_eq_none_iff]
 intro p hp
 obtain ⟨i,hi,rfl⟩:=List.getElem_of_mem hp
 simpa using h i hi
theorem fnd_some {ps:List Po} {l:Int} {i:Nat} (hi:i < ps.length) (h:ps[i].l = l) (hn:∀ j (hj:j < i),(ps[j]'(by omega)).l ≠ l):fndS ps l = some i:=by
 unfold fndS
 rw [List.findIdx?_eq_some_iff_getElem]
 exact ⟨hi,by simpa using h,fun j hj=>by simpa using hn j hj⟩
def PortPost (w:World) (m:Sm) (S:Sp) (l:Int) (e:Ending) (w':World):Prop :=
 w = w' ∧ match fndS S.ps l with | none=>e = .returned (.pointer none) | some i=>∃ gp,m.P = some ⟨gp,0,none⟩ ∧ e = .returned (.pointer (some ⟨gp,i * 6,none⟩))
set_option maxRecDepth 100000 in
set_option maxHeartbeats 1600000 in
theorem port_any (w:World) (m:Sm) (S:Sp) (col:Nat → Nat) (c:Nat) (h:SpAt w m S col c) (hl:S.ps.length ≤ 100000) (l:Int) :
  Calls Tryz.prog 61 #[.pointer (some ⟨m.g,0,none⟩),.int .i64 l] w (PortPost w m S l):=by
 have k9:=h.cs.c9
 have hgp:=fun (hn:0 < S.ps.length)=>h.gp hn
 have hno:Hid (∀ _:(∀ i (hi:i < S.ps.length),S.ps[i].l ≠ l),PortPost w m S l (.returned (.pointer none)) w):=fun hn=>⟨rfl,by rw [fnd_none hn]⟩
 have hyes:Hid (∀ i gp (hi:i < S.ps.length),S.ps[i].l = l → (∀ j (hj:j < i),(S.ps[j]'(by omega)).l ≠ l) → m.P = some ⟨gp,0,none⟩ → PortPost w m S l (.returned (.pointer (some ⟨gp,i * 6,none⟩))) w):=fun i gp hi h1 h2 hP=>⟨rfl,by rw [fnd_some hi h1 h2]; exact ⟨gp,hP,rfl⟩⟩
 clear h
 go_enter Tryz.func61,Tryz.ntmps61
 go_wp2_with fail
 go_loop [11] (fun v11=>∃ i:Nat,v11 = .int .i64 i ∧ i ≤ S.ps.length ∧ Hid (∀ j (hj:j < i) (hj2:j < S.ps.length),S.ps[j].l ≠ l)) (fun v11=>S.ps.length - (intOf v11).toNat)
 case atStart=>exact ⟨0,rfl,by omega,fun j hj=>by omega⟩
 case round =>
  obtain ⟨i,rfl,hi,hn⟩:=hrel
  by_cases hin:i < S.ps.length
  ·obtain ⟨gp,hP,hc⟩:=hgp (by omega)
   have hp:=hc i hin
   obtain ⟨p,hpe⟩:∃ p,S.ps[i] = p:=⟨_,rfl⟩
   rw [hpe] at hp
   have c0:=hp.c0
   rw [hP] at k9
   by_cases hl2:p.l = l
   ·have e1:(p.l == l) = true:=by simp [hl2]
    have hf:=hyes.out i gp hin (by rw [hpe]; exact hl2) (fun j hj=>hn.out j hj (by omega)) hP
    clear hgp hc hno hyes hpe hp hn
    go_wp2_with fail
    go_ret
    exact hf
   ·have e1:(p.l == l) = false:=by simp [hl2]
    have hn2:Hid (∀ j (hj:j < i + 1) (hj2:j < S.ps.length),S.ps[j].l ≠ l):=fun j hj hj2=>by
     by_cases e:j = i
     ·subst e; rw [hpe]; exact hl2
     ·exact hn.out j (by omega) hj2
    clear hgp hc hno hyes hpe hp hn
    go_wp2_with fail
    go_round
    case rel=>exact ⟨i + 1,by go_num,by omega,hn2⟩
    case measure=>simp [intOf]; omega
  ·have hf:=hno.out (fun j hj=>hn.out j (by omega) hj)
   have e1:decide ((i:Int) < (S.ps.length:Int)) = false:=by simp; omega
   clear hgp hno hyes hn
   go_wp2_with fail
   go_ret
   exact hf
end Go.Proofs.YtehimhbgakpenaaGreat

namespace Go.Proofs.YtehimhbgakpenaaGreat
set_option linter.unusedVariables false
open Go.RowKit Go.Maps Go.Sort
theorem LaOwn.keptB {w w':World} {base k:Nat} {v:Value} {x:La} (h:LaOwn w base v x) (hg:w.grownBy w' (some k)) (hk:k < base):LaOwn w' base v x:=by
 obtain ⟨A,c,B,d,rfl,o1,o2,hu⟩:=h
 have key:∀ {e:TypeId} {size:Nat} {v:Value} {n:Nat} {xs:List Value},w.ownsRow base e size v n xs → w'.ownsRow base e size v n xs:=fun {e size v n xs} h=>by
  refine ⟨h.1,?_⟩
  rcases h.2 with e1 | ⟨g,cap,cur,rfl,hgb,hh,r⟩
  ·exact .inl e1
  ·exact .inr ⟨g,cap,cur,rfl,hgb,(hg.block g (h.lt g rfl).2 (fun e=>by injection e with e; omega)).trans hh,r⟩
 exact ⟨A,c,B,d,rfl,key o1,key o2,hu⟩
theorem spr_any (w:World) (m:Sm) (S:Sp) (col:Nat → Nat) (c:Nat) (h:SpAt w m S col c) (v:Value) (a:La) (hv:LaAt w v a) (z:Int) :
  Calls Tryz.prog 93 #[.pointer (some ⟨m.gf,0,none⟩),v,.int .i64 z] w fun e w'=>(∃ r,e = .returned (.int .i64 r)) ∧ SpAt w' m { S with fl:=sprF S.fl a z } col c ∧ Ev col c w w':=by
 by_cases hva:LaValid a
 ·refine (Fd.fspread_any w m.gf m.bf S.h3 S.fl m.ff h.fl v a hv hva z).mono ?_
  rintro e w' ⟨rfl,hf,hk⟩
  have e1:sprF S.fl a z = Fd.sprN S.fl a z:=by unfold sprF; rw [if_pos (vB_t hva)]
  rw [e1]
  exact ⟨⟨_,rfl⟩,h.flTurn hk hf (fun l=>by unfold Fd.sprN; simp)⟩
 ·refine (Fd.fspread_bad w m.gf v a hv hva z).mono ?_
  rintro e w' ⟨rfl,hb⟩
  have e1:sprF S.fl a z = S.fl:=by unfold sprF; rw [if_neg (by rw [vB_f hva]; simp)]
  rw [e1]
  exact ⟨⟨_,rfl⟩,h.below hb,Eff.below hb⟩
set_option maxRecDepth 100000 in
set_option maxHeartbeats 3200000 in
theorem publish_any (w:World) (m:Sm) (S:Sp) (col:Nat → Nat) (c:Nat) (h:SpAt w m S col c) (hb1:S.x.adj.length ≤ 1000000) (hb2:S.x.pre.length ≤ 1000000) :
  Calls Tryz.prog 78 #[.pointer (some ⟨m.g,0,none⟩)] w (SpPost w m col c (pubS S) (.tuple #[])):=by
 have CU:=current_any w m.go S.x S.md h.og hb1 hb2
 unfold CurPost at CU
 obtain ⟨x,hx⟩:∃ x,curX S.x S.md = x:=⟨_,rfl⟩
 have hfin:Hid (∀ w',SpAt w' m { S with db:=instN S.db x,fl:=sprF S.fl x (-1) } col c → Ev col c w w' → SpPost w m col c (pubS S) (.tuple #[]) (.returned (.tuple #[])) w'):=fun w' h1 h2=>by
  unfold pubS
  rw [hx]
  exact ⟨rfl,h1,h2⟩
 rw [hx] at CU
 replace CU:=Lib.hid CU
 have k14:=h.cs.c14
 replace h:=Lib.hid h
 clear hx
 go_enter Tryz.func78,Tryz.ntmps78
 go_wp2_with fail
 (with_reducible refine (CU.out).mono ?_)
 rintro e w1 ⟨v,rfl,hown,hb⟩
 obtain ⟨A,d,B,d2,hv⟩:=hown.at.form
 subst hv
 clear CU
 have hsz:w.heap.size ≤ w1.heap.size:=hb.size
 have hb2:=below_new' w1 (.cells #[.int .i64 x.o,.int .i64 x.s,.int .i64 x.a,.bool x.ov,.slice A x.adj.length d,.slice B x.pre.length d2] 41)
 have S3:=((((St.start w).call hb).new' #[.int .i64 x.o,.int .i64 x.s,.int .i64 x.a,.bool x.ov,.slice A x.adj.length d,.slice B x.pre.length d2] 41 w1.heap.size _ rfl rfl)).drew
 have hla3:=(hown.below hb2).below (Below.refl _ _).drew
 have H3:=h.out.below S3.b
 have V3:Ev col c w _:=Eff.below S3.b
 clear hown hb hb2
 go_upto_region 1 with fail
 generalize hw2:World.alloc w1 _ = w2 at *
 clear hw2
 generalize w1.heap.size = k at *
 have I:=Lib.hid (dinstall_any w2.drew m.gd m.bd S.db _ x H3.db hla3.at)
 have i12:=H3.cs.c12
 have c0:=S3.c 0 0 rfl rfl
 have c1:=S3.c 0 1 rfl rfl
 have c2:=S3.c 0 2 rfl rfl
 have c3:=S3.c 0 3 rfl rfl
 have c4:=S3.c 0 4 rfl rfl
 have c5:=S3.c 0 5 rfl rfl
 go_still_tail 5,(by kernel_rfl)
 change wpList _ _ _ _ _ w2.drew
 clear c0 c1 c2 c3 c4 c5
 clear i12
 generalize w2.drew = w3 at *
 go_wp2_with fail
 (with_reducible refine (I.out).mono ?_)
 rintro e w4 ⟨rfl,hD4,hg⟩
 clear I
 obtain ⟨H4,V4⟩:=H3.dbTurn hg hD4
 have hne:k ≠ m.bd:=fun e=>by have:=h.out.db.lt.2; omega
 have bx4:=(S3.box 0 rfl).kept hg (by intro e; injection e; contradiction) (by simp)
 have hla4:=hla3.keptB hg (by have:=h.out.db.lt.2; omega)
 have V34:=V3.tr V4
 clear hla3 S3 H3 hD4 hg V3 V4
 have H5:=H4.below (w':=w4.drew) (Below.refl _ _).drew
 have SP:=Lib.hid (spr_any w4.drew m _ col c H5 _ x (hla4.below (Below.refl _ _).drew).at (-1))
 have i13:=H5.cs.c13
 have c0:=bx4.c 0 rfl
 have c1:=bx4.c 1 rfl
 have c2:=bx4.c 2 rfl
 have c3:=bx4.c 3 rfl
 have c4:=bx4.c 4 rfl
 have c5:=bx4.c 5 rfl
 replace V34:=V34.tr (Eff.below (E:=fun k=>col k = c) (Below.refl w4.heap.size w4).drew)
 replace V34:=Lib.hid V34
 clear H4 H5 hla4 bx4
 go_upto_region 2 with fail
 go_still_tail 5,(by kernel_rfl)
 change wpList _ _ _ _ _ w4.drew
 go_wp2_with fail
 (with_reducible refine (SP.out).mono ?_)
 rintro e w5 ⟨⟨r,rfl⟩,H6,V6⟩
 have hf:=hfin.out _ H6 (V34.out.tr V6)
 clear c0 c1 c2 c3 c4 c5
 clear SP H6 V6 V34 hfin i13
 go_wp2_with fail
 exact bodyPost_end (v:=.tuple #[]) (by simp [results,Tryz.results78,go_sem]) rfl hf
end Go.Proofs.YtehimhbgakpenaaGreat
