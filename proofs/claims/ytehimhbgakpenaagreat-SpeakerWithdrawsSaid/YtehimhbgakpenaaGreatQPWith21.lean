/-
  The texts Fl1, Lay, FlK, Fl2, one after the other.
-/
import Derived.Test.YtehimhbgakpenaaGreatQPWith8
import Derived.Test.YtehimhbgakpenaaGreatQPWith6
import Derived.Test.YtehimhbgakpenaaGreatQPWith20
import Derived.Shelf.SlIterI.Nil
import Derived.Shelf.SortM.Plain
import Derived.Shelf.SortM.SortNone
import Derived.Ground.GgzProg
import Derived.Ground.SlgmProg
import Derived.Test.YtehimhbgakpenaaGreatProg
import Derived.Test.YtehimhbgakpenaaGreatQPWith0
import Derived.Test.YtehimhbgakpenaaGreatChecked
import Derived.Shelf.AbstractIn
namespace Go.Proofs.YtehimhbgakpenaaGreat.Fd
set_option linter.unusedVariables false
open Go.RowKit Go.Maps Go.Sort
set_option maxRecDepth 100000 in
set_option maxHeartbeats 1600000 in
theorem fclone_any (w:World) (v:Value) (x:La) (h:LaAt w v x) (hb1:x.adj.length ≤ 1000000) (hb2:x.pre.length ≤ 1000000) :
  Calls Tryz.prog 178 #[v] w fun e w'=>∃ v',e = .returned v' ∧ LaOwn w' w.heap.size v' x ∧ Below w.heap.size w w':=by
 obtain ⟨A,c,B,d,rfl,rA,rB,h1,h2,h3,h4,hu⟩:=h
 have S:=((((St.start w).read rB).read rA).new' #[.int .i64 x.o,.int .i64 x.s,.int .i64 x.a,.bool x.ov,.slice A x.adj.length c,.slice B x.pre.length d] 41 w.heap.size _ rfl rfl).new' #[.int .i64 0,.int .i64 0,.int .i64 0,.bool false,.slice none 0 0,.slice none 0 0] 41 (w.heap.size + 1) _ (by simp) rfl
 have C1:=fun W (h:Rd W A (adV x.adj))=>clone_ad W A _ c x.adj h rfl hb1
 have C2:=fun W (h:Rd W B (pfV x.pre))=>clone_pf W B _ d x.pre h rfl hb2
 have hfin:∀ W' A' c' B' d',W'.ownsRow w.heap.size 169 3 (.slice A' x.adj.length c') x.adj.length (adV x.adj) → W'.ownsRow w.heap.size 181 2 (.slice B' x.pre.length d') x.pre.length (pfV x.pre) → LaOwn W' w.heap.size (laV x.o x.s x.a x.ov A' x.adj.length c' B' x.pre.length d') x:=fun W' A' c' B' d' a b=>⟨A',c',B',d',rfl,a,b,hu⟩
 clear rA rB hu
 replace C1:=Lib.hid C1
 replace C2:=Lib.hid C2
 replace hfin:=Lib.hid hfin
 generalize x.adj.length = n at *
 generalize x.pre.length = m at *
 generalize x.ov = ov at *
 generalize x.o = o at *
 generalize x.s = s at *
 generalize x.a = ag at *
 have a0:=S.c 1 0 rfl rfl
 have a1:=S.c 1 1 rfl rfl
 have a2:=S.c 1 2 rfl rfl
 have a3:=S.c 1 3 rfl rfl
 have a4:=S.c 1 4 rfl rfl
 have a5:=S.c 1 5 rfl rfl
 go_enter Tryz.func178,Tryz.ntmps178
 go_wp2_with fail
 (with_reducible refine (C1.out _ (S.r 0 rfl)).mono ?_)
 rintro e w1 ⟨A1,c1,rfl,o1,hb⟩
 clear a0 a1 a2 a3 a4 a5
 replace S:=S.call hb
 clear hb C1
 simp only [World.size_alloc] at o1
 have f1:=S.f 1 4 rfl rfl
 have a0:=S.c 1 0 rfl rfl
 have a1:=S.c 1 1 rfl rfl
 have a2:=S.c 1 2 rfl rfl
 have a3:=S.c 1 3 rfl rfl
 have a4:=S.c 1 4 rfl rfl
 have a5:=S.c 1 5 rfl rfl
 have S2:=S.set 1 4 (.slice A1 n c1) rfl (by simp) (Nat.le_refl _) (by simp) _ rfl
 replace o1:=ownsRow_setCell_below (a:=⟨w.heap.size,4,none⟩) o1 (by simp only; omega) (.slice A1 n c1)
 have hsz:=S2.b.size
 have hlt:=S2.lt 0 rfl (by simp)
 go_wp2_with fail
 generalize w1.setCell ⟨w.heap.size,4,none⟩ (.slice A1 n c1) = w2 at *
 (with_reducible refine (C2.out _ (S2.r 1 rfl)).mono ?_)
 rintro e w3 ⟨B1,d1,rfl,o2,hb⟩
 clear a0 a1 a2 a3 a4 a5
 clear f1 C2 S
 replace o1:=own_below o1 hb
 replace S2:=S2.call hb
 clear hb
 have f2:=S2.f 1 5 rfl rfl
 have e0:=S2.f 0 0 rfl rfl
 have e1:=S2.f 0 1 rfl rfl
 have e2:=S2.f 0 2 rfl rfl
 have e3:=S2.f 0 3 rfl rfl
 have e4:=S2.f 0 4 rfl rfl
 have e5:=S2.f 0 5 rfl rfl
 have a0:=S2.c 1 0 rfl rfl
 have a1:=S2.c 1 1 rfl rfl
 have a2:=S2.c 1 2 rfl rfl
 have a3:=S2.c 1 3 rfl rfl
 have a4:=S2.c 1 4 rfl rfl
 have a5:=S2.c 1 5 rfl rfl
 have b0:=S2.c 0 0 rfl rfl
 have b1:=S2.c 0 1 rfl rfl
 have b2:=S2.c 0 2 rfl rfl
 have b3:=S2.c 0 3 rfl rfl
 have b4:=S2.c 0 4 rfl rfl
 have b5:=S2.c 0 5 rfl rfl
 have S9:=(S2.set 1 5 (.slice B1 m d1) rfl (by simp) (Nat.le_refl _) (by simp) _ rfl).set6 o s ag ov (.slice A1 n c1) (.slice B1 m d1) (by omega) (by simp)
 have o3:=own_set6 (ownsRow_setCell_below (a:=⟨w.heap.size,5,none⟩) o1 (by simp only; omega) (.slice B1 m d1)) (g:=w.heap.size + 1) (by omega) (.int .i64 o) (.int .i64 s) (.int .i64 ag) (.bool ov) (.slice A1 n c1) (.slice B1 m d1)
 have o4:=own_set6 (ownsRow_setCell_below (a:=⟨w.heap.size,5,none⟩) o2 (by simp only; omega) (.slice B1 m d1)) (g:=w.heap.size + 1) (by omega) (.int .i64 o) (.int .i64 s) (.int .i64 ag) (.bool ov) (.slice A1 n c1) (.slice B1 m d1)
 have hf:=hfin.out _ _ _ _ _ (own_mono o3 (by omega)) (own_mono o4 (by omega))
 have hb9:=S9.b
 go_wp2_with fail
 exact bodyPost_ret (v:=laV o s ag ov A1 n c1 B1 m d1) (by simp [results,Tryz.results178,go_sem,b0,b1,b2,b3,b4,b5]) rfl ⟨_,rfl,hf,hb9⟩
structure Hd where
 x:La
 l:Int
abbrev Db:=Nat → Option Hd
abbrev Fn:=Nat → Option Db
abbrev hdV (x:La) (A:Option Addr) (c:Nat) (B:Option Addr) (d:Nat) (l:Int):Value:=.agg #[.int .i64 x.o,.int .i64 x.s,.int .i64 x.a,.bool x.ov,.slice A x.adj.length c,.slice B x.pre.length d,.int .i64 l]
abbrev hdZ:Value:=.agg #[.int .i64 0,.int .i64 0,.int .i64 0,.bool false,.slice none 0 0,.slice none 0 0,.int .i64 0]
def TyF (w:World) (A:Option Addr) (n:Nat) (e:TypeId):Prop:=0 < n → ∀ ad,A = some ad → ∃ cs fr,w.heap[ad.block]? = some (.cells cs e fr)
theorem TyF.keep {w w':World} {A:Option Addr} {n:Nat} {e:TypeId} (h:TyF w A n e) (hk:∀ k cs fr,k < w.heap.size → w.heap[k]? = some (.cells cs e fr) → w'.heap[k]? = w.heap[k]?):TyF w' A n e:=fun hn ad ha=>by
 obtain ⟨cs,fr,e⟩:=h hn ad ha
 exact ⟨cs,fr,(hk _ cs fr (Array.getElem?_eq_some_iff.1 e).1 e).trans e⟩
theorem TyF.below {w w':World} {A:Option Addr} {n:Nat} {e:TypeId} (h:TyF w A n e) (hb:Below w.heap.size w w'):TyF w' A n e:=h.keep fun k cs fr hk _=>hb.block k hk
def LaTf (w:World) (x:La) (A:Option Addr) (c:Nat) (B:Option Addr) (d:Nat):Prop:=LaAt w (laV x.o x.s x.a x.ov A x.adj.length c B x.pre.length d) x ∧ TyF w A x.adj.length 169 ∧ TyF w B x.pre.length 181
theorem LaTf.below {w w':World} {x:La} {A:Option Addr} {c:Nat} {B:Option Addr} {d:Nat} (h:LaTf w x A c B d) (hb:Below w.heap.size w w'):LaTf w' x A c B d:=⟨LaAt.below h.1 hb,h.2.1.below hb,h.2.2.below hb⟩
theorem own_tf {w:World} {base:Nat} {e:TypeId} {size:Nat} {A:Option Addr} {n c:Nat} {xs:List Value} (h:w.ownsRow base e size (.slice A n c) n xs):TyF w A n e:=fun hn ad ha=>by
 rcases h.2 with ⟨h2,h3⟩ | ⟨g,cap,cur,h2,hgb,hh,r⟩
 ·omega
 ·injection h2 with h2 _ _
  rw [ha] at h2
  injection h2 with h2
  subst h2
  exact ⟨_,_,hh⟩
def ElAt (w:World):Option Value → Option Hd → Prop
 | none,none=>True
 | some v,some h=>∃ A c B d,v = hdV h.x A c B d h.l ∧ LaTf w h.x A c B d
 | _,_=>False
theorem ElAt.below {w w':World} {v:Option Value} {h:Option Hd} (he:ElAt w v h) (hb:Below w.heap.size w w'):ElAt w' v h:=by
 match v,h,he with
 | none,none,_=>trivial
 | some v,some h,⟨A,c,B,d,e,hl⟩=>exact ⟨A,c,B,d,e,hl.below hb⟩
theorem ElAt.isS {w:World} {v:Option Value} {h:Option Hd} (he:ElAt w v h):v.isSome = h.isSome:=by
 match v,h,he with
 | none,none,_=>rfl
 | some v,some h,_=>rfl
structure Kq (w w':World):Prop where
 os:w'.os = w.os
 tape:w'.tape = w.tape
 output:w'.output = w.output
 size:w.heap.size ≤ w'.heap.size
 block:∀ k,k < w.heap.size → (∀ es c,w.heap[k]? ≠ some (.map es c)) → w'.heap[k]? = w.heap[k]?
section
variable {w w' w'':World}
theorem Kq.refl (w:World):Kq w w:=⟨rfl,rfl,rfl,Nat.le_refl _,fun _ _ _=>rfl⟩
theorem Kq.trans (h:Kq w w') (h2:Kq w' w''):Kq w w'' :=
 ⟨h2.os.trans h.os,h2.tape.trans h.tape,h2.output.trans h.output,Nat.le_trans h.size h2.size,fun k hk hne=>(h2.block k (Nat.lt_of_lt_of_le hk h.size) (by rw [h.block k hk hne]; exact hne)).trans (h.block k hk hne)⟩
theorem Kq.of_below (hb:Below w.heap.size w w'):Kq w w':=⟨hb.os,hb.tape,hb.output,hb.size,fun k hk _=>hb.block k hk⟩
theorem MapIs.isMap {B b:Nat} {M:Int → Option Value} (h:MapIs B w b M):∃ es c,w.heap[b]? = some (.map es c):=by
 obtain ⟨D,⟨es,clock,hb,_⟩,_⟩:=h
 exact ⟨es,clock,hb⟩
theorem Kq.of_map {B b:Nat} {M:Int → Option Value} (h:MapIs B w b M) (hg:w.grownBy w' (some b)):Kq w w':=by
 obtain ⟨es,c,hm⟩:=h.isMap
 exact ⟨hg.os,hg.tape,hg.output,hg.size,fun k hk hne=>hg.block k hk (fun e=>by injection e with e; subst e; exact hne _ _ hm)⟩
theorem not_map_of_cell {a:Addr} {v:Value} (h:w.cell? a = some v):∀ es c,w.heap[a.block]? ≠ some (.map es c):=fun es c e=>by
 simp [World.cell?,e] at h
theorem Kq.cell (h:Kq w w') {a:Addr} {v:Value} (hc:w.cell? a = some v):w'.cell? a = some v:=by
 rw [World.cell?_of_block (h.block a.block (World.block_lt_of_cell? _ _ hc) (not_map_of_cell hc))]; exact hc
theorem Kq.rd (h:Kq w w') {A:Option Addr} {xs:List Value} (hr:Rd w A xs):Rd w' A xs:=fun hn=>by
 obtain ⟨ad,e,hc⟩:=hr hn
 exact ⟨ad,e,fun j u hu=>h.cell (hc j u hu)⟩
theorem Kq.box (h:Kq w w') {g:Nat} {cs:List Value} (hb:Box w g cs):Box w' g cs:=fun i u hu=>by
 obtain ⟨h1,h2⟩:=hb i u hu
 have hk:=h.block g (World.block_lt_of_cell? _ _ h1) (not_map_of_cell h1)
 exact ⟨h.cell h1,(World.frozen?_of_block (a:=⟨g,i,none⟩) hk).trans h2⟩
theorem Kq.la (h:Kq w w') {v:Value} {x:La} (hl:LaAt w v x):LaAt w' v x:=by
 obtain ⟨A,c,B,d,rfl,h1,h2,h3⟩:=hl
 exact ⟨A,c,B,d,rfl,h.rd h1,h.rd h2,h3⟩
theorem Kq.laF (h:Kq w w') {x:La} {A:Option Addr} {c:Nat} {B:Option Addr} {d:Nat} (hl:LaTf w x A c B d):LaTf w' x A c B d :=
 ⟨h.la hl.1,hl.2.1.keep fun k cs fr hk e=>h.block k hk (fun es c2 e2=>by rw [e] at e2; cases e2),hl.2.2.keep fun k cs fr hk e=>h.block k hk (fun es c2 e2=>by rw [e] at e2; cases e2)⟩
theorem Kq.el (h:Kq w w') {v:Option Value} {x:Option Hd} (he:ElAt w v x):ElAt w' v x:=by
 match v,x,he with
 | none,none,_=>trivial
 | some v,some x,⟨A,c,B,d,e,hl⟩=>exact ⟨A,c,B,d,e,h.laF hl⟩
theorem Kq.own (h:Kq w w') {base:Nat} {e:TypeId} {size:Nat} {v:Value} {n:Nat} {xs:List Value} (ho:w.ownsRow base e size v n xs):w'.ownsRow base e size v n xs:=by
 refine ⟨ho.1,?_⟩
 rcases ho.2 with h2 | ⟨g,cap,cur,rfl,hgb,hh,r⟩
 ·exact .inl h2
 ·exact .inr ⟨g,cap,cur,rfl,hgb,(h.block g (ho.lt g rfl).2 (fun es c e=>by rw [hh] at e; cases e)).trans hh,r⟩
theorem Kq.laOwn (h:Kq w w') {base:Nat} {v:Value} {x:La} (hl:LaOwn w base v x):LaOwn w' base v x:=by
 obtain ⟨A,c,B,d,rfl,h1,h2,h3⟩:=hl
 exact ⟨A,c,B,d,rfl,h.own h1,h.own h2,h3⟩
end
def nbM (N:Fn) (f:Nat → Nat):Int → Option Value:=fun i=>if 0 ≤ i ∧ i < 256 then (N i.toNat).map (fun _=>.map (some (f i.toNat))) else none
theorem nbM_at {N:Fn} {f:Nat → Nat} {i:Nat} (hi:i < 256):nbM N f (i:Int) = (N i).map (fun _=>.map (some (f i))):=by
 unfold nbM; rw [if_pos ⟨by omega,by omega⟩,Int.toNat_natCast]
def InAt (w:World) (k:Nat) (D:Db):Prop:=∃ M,MapIs 64 w k M ∧ ∀ o:Nat,o < 64 → ElAt w (M (o:Int)) (D o)
structure FlAt (w:World) (g b:Nat) (iv:Int) (N:Fn) (f:Nat → Nat):Prop where
 c0:w.cell? ⟨g,0,none⟩ = some (.int .i64 iv)
 c1:w.cell? ⟨g,1,none⟩ = some (.map (some b))
 nb:MapIs 256 w b (nbM N f)
 el:∀ i,i < 256 → ∀ D,N i = some D → InAt w (f i) D
 ne:∀ i,i < 256 → (N i).isSome = true → f i ≠ b
 inj:∀ i j,i < 256 → j < 256 → (N i).isSome = true → (N j).isSome = true → f i = f j → i = j
theorem InAt.below {w w':World} {k:Nat} {D:Db} (h:InAt w k D) (hb:Below w.heap.size w w'):InAt w' k D:=by
 obtain ⟨M,hm,he⟩:=h
 exact ⟨M,hm.below hb,fun o ho=>(he o ho).below hb⟩
theorem InAt.kept {w w':World} {k j:Nat} {D:Db} (h:InAt w k D) (hq:Kq w w') (hg:w.grownBy w' (some j)) (hne:k ≠ j):InAt w' k D:=by
 obtain ⟨M,hm,he⟩:=h
 exact ⟨M,hm.kept hg (fun e=>by injection e with e; exact hne e.symm),fun o ho=>hq.el (he o ho)⟩
theorem FlAt.below {w w':World} {g b:Nat} {iv:Int} {N:Fn} {f:Nat → Nat} (h:FlAt w g b iv N f) (hb:Below w.heap.size w w'):FlAt w' g b iv N f :=
 ⟨cell_later hb h.c0,cell_later hb h.c1,h.nb.below hb,fun i hi D hD=>(h.el i hi D hD).below hb,h.ne,h.inj⟩
theorem FlAt.lt {w:World} {g b:Nat} {iv:Int} {N:Fn} {f:Nat → Nat} (h:FlAt w g b iv N f):g < w.heap.size ∧ b < w.heap.size:=⟨World.block_lt_of_cell? _ _ h.c0,h.nb.lt⟩
theorem FlAt.flt {w:World} {g b:Nat} {iv:Int} {N:Fn} {f:Nat → Nat} (h:FlAt w g b iv N f) {i:Nat} (hi:i < 256) (hs:(N i).isSome = true):f i < w.heap.size:=by
 obtain ⟨D,hD⟩:=Option.isSome_iff_exists.1 hs
 obtain ⟨M,hm,_⟩:=h.el i hi D hD
 exact hm.lt
theorem FlAt.turn {w w':World} {g b:Nat} {iv:Int} {N:Fn} {f:Nat → Nat} (h:FlAt w g b iv N f) {i:Nat} (hi:i < 256) (hs:(N i).isSome = true) {D':Db} (hin:InAt w' (f i) D') (hg:w.grownBy w' (some (f i))) :
  FlAt w' g b iv (fun j=>if j = i then some D' else N j) f:=by
 obtain ⟨D,hD⟩:=Option.isSome_iff_exists.1 hs
 obtain ⟨M,hm,_⟩:=h.el i hi D hD
 have hq:=Kq.of_map hm hg
 refine ⟨hq.cell h.c0,hq.cell h.c1,?_,fun j hj E hE=>?_,fun j hj hjs=>?_,fun j k hj hk hjs hks e=>?_⟩
 ·have e:nbM (fun j=>if j = i then some D' else N j) f = nbM N f:=by
   funext z
   unfold nbM
   split
   ·by_cases e:z.toNat = i
    ·simp [e,hD]
    ·simp only [if_neg e]
   ·rfl
  rw [e]
  exact h.nb.kept hg (fun e=>h.ne i hi hs (by injection e))
 ·by_cases e:j = i
  ·subst e
   simp only [if_true,Option.some.injEq] at hE
   subst hE
   exact hin
  ·simp only [if_neg e] at hE
   exact (h.el j hj E hE).kept hq hg (fun e2=>e (h.inj j i hj hi (by rw [hE]; rfl) hs e2))
 ·by_cases e:j = i
  ·subst e; exact h.ne j hj hs
  ·simp only [if_neg e] at hjs; exact h.ne j hj hjs
 ·refine h.inj j k hj hk ?_ ?_ e
  ·by_cases e:j = i
   ·subst e; exact hs
   ·simpa only [if_neg e] using hjs
  ·by_cases e:k = i
   ·subst e; exact hs
   ·simpa only [if_neg e] using hks
theorem pdT:MapT 228 231 hdZ:=⟨Tryz.underlying228,Tryz.zeroValue231⟩
theorem nbT:MapT 160 228 (.map none):=⟨Tryz.underlying160,by intro w; kernel_rfl⟩
end Go.Proofs.YtehimhbgakpenaaGreat.Fd

namespace Go.Proofs.YtehimhbgakpenaaGreat
open Go.Shelf
def Tryz.lkeys_ren:Go.Shelf.Ren:=⟨fun | 7=>156 | 10=>185 | n=>n,fun | 23=>157 | 26=>3 | 3=>206 | 28=>268 | 0=>0 | 27=>267 | 33=>70 | 4=>4 | n=>n,fun | n=>n⟩
theorem Tryz.lkeys:Go.Proofs.SlLaysZI.n7 Tryz.prog Tryz.lkeys_ren:={
 mixed:=by kernel_rfl
 f7:=⟨Tryz.f156.name,by decide,Tryz.func156.trans (congrArg some (by kernel_rfl))⟩
 f10:=⟨Tryz.f185.name,by decide,Tryz.func185.trans (congrArg some (by kernel_rfl))⟩
 t0:=Tryz.underlying0
 a0:=Tryz.isAgg0
 z0:=Tryz.sizeOf0
 v0:=Tryz.zeroValue0
 t4:=Tryz.underlying4
 a4:=Tryz.isAgg4
 z4:=Tryz.sizeOf4
 v4:=Tryz.zeroValue4
 t23:=Tryz.underlying157
 a23:=Tryz.isAgg157
 z23:=Tryz.sizeOf157
 v23:=Tryz.zeroValue157
 t26:=Tryz.underlying3
 a26:=Tryz.isAgg3
 z26:=Tryz.sizeOf3
 v26:=Tryz.zeroValue3
 t27:=Tryz.underlying267
 a27:=Tryz.isAgg267
 z27:=Tryz.sizeOf267
 v27:=Tryz.zeroValue267
 t28:=Tryz.underlying268
 a28:=Tryz.isAgg268
 z28:=Tryz.sizeOf268
 v28:=Tryz.zeroValue268
 t33:=Tryz.underlying70
 a33:=Tryz.isAgg70
 z33:=Tryz.sizeOf70
 v33:=Tryz.zeroValue70 }
def Tryz.lkeysp_ren:Go.Shelf.Ren:=⟨fun | 7=>181 | 10=>197 | n=>n,fun | 23=>228 | 26=>3 | 3=>231 | 28=>268 | 0=>0 | 27=>267 | 33=>70 | 4=>4 | n=>n,fun | n=>n⟩
theorem Tryz.lkeysp:Go.Proofs.SlLaysZI.n7 Tryz.prog Tryz.lkeysp_ren:={
 mixed:=by kernel_rfl
 f7:=⟨Tryz.f181.name,by decide,Tryz.func181.trans (congrArg some (by kernel_rfl))⟩
 f10:=⟨Tryz.f197.name,by decide,Tryz.func197.trans (congrArg some (by kernel_rfl))⟩
 t0:=Tryz.underlying0
 a0:=Tryz.isAgg0
 z0:=Tryz.sizeOf0
 v0:=Tryz.zeroValue0
 t4:=Tryz.underlying4
 a4:=Tryz.isAgg4
 z4:=Tryz.sizeOf4
 v4:=Tryz.zeroValue4
 t23:=Tryz.underlying228
 a23:=Tryz.isAgg228
 z23:=Tryz.sizeOf228
 v23:=Tryz.zeroValue228
 t26:=Tryz.underlying3
 a26:=Tryz.isAgg3
 z26:=Tryz.sizeOf3
 v26:=Tryz.zeroValue3
 t27:=Tryz.underlying267
 a27:=Tryz.isAgg267
 z27:=Tryz.sizeOf267
 v27:=Tryz.zeroValue267
 t28:=Tryz.underlying268
 a28:=Tryz.isAgg268
 z28:=Tryz.sizeOf268
 v28:=Tryz.zeroValue268
 t33:=Tryz.underlying70
 a33:=Tryz.isAgg70
 z33:=Tryz.sizeOf70
 v33:=Tryz.zeroValue70 }
def Tryz.lkeysn_ren:Go.Shelf.Ren:=⟨fun | 7=>177 | 10=>194 | n=>n,fun | 23=>160 | 26=>3 | 3=>228 | 28=>268 | 0=>0 | 27=>267 | 33=>70 | 4=>4 | n=>n,fun | n=>n⟩
theorem Tryz.lkeysn:Go.Proofs.SlLaysZI.n7 Tryz.prog Tryz.lkeysn_ren:={
 mixed:=by kernel_rfl
 f7:=⟨Tryz.f177.name,by decide,Tryz.func177.trans (congrArg some (by kernel_rfl))⟩
 f10:=⟨Tryz.f194.name,by decide,Tryz.func194.trans (congrArg some (by kernel_rfl))⟩
 t0:=Tryz.underlying0
 a0:=Tryz.isAgg0
 z0:=Tryz.sizeOf0
 v0:=Tryz.zeroValue0
 t4:=Tryz.underlying4
 a4:=Tryz.isAgg4
 z4:=Tryz.sizeOf4
 v4:=Tryz.zeroValue4
 t23:=Tryz.underlying160
 a23:=Tryz.isAgg160
 z23:=Tryz.sizeOf160
 v23:=Tryz.zeroValue160
 t26:=Tryz.underlying3
 a26:=Tryz.isAgg3
 z26:=Tryz.sizeOf3
 v26:=Tryz.zeroValue3
 t27:=Tryz.underlying267
 a27:=Tryz.isAgg267
 z27:=Tryz.sizeOf267
 v27:=Tryz.zeroValue267
 t28:=Tryz.underlying268
 a28:=Tryz.isAgg268
 z28:=Tryz.sizeOf268
 v28:=Tryz.zeroValue268
 t33:=Tryz.underlying70
 a33:=Tryz.isAgg70
 z33:=Tryz.sizeOf70
 v33:=Tryz.zeroValue70 }
def Tryz.lsorted_ren:Go.Shelf.Ren:=⟨fun | 6=>155 | 8=>183 | 9=>184 | 11=>198 | 13=>200 | 12=>199 | 23=>211 | 24=>212 | 14=>202 | 15=>203 | 16=>204 | 17=>205 | 18=>206 | 19=>207 | 20=>208 | 21=>209 | 22=>210 | 25=>213 | 26=>214 | 27=>215 | 28=>216 | 29=>217 | 30=>195 | 31=>218 | n=>n,fun | 26=>3 | 28=>268 | 24=>58 | 0=>0 | 3=>3 | 37=>275 | 48=>179 | 50=>216 | 4=>4 | 40=>308 | 39=>307 | 45=>207 | 5=>5 | 9=>9 | 51=>316 | 55=>320 | 57=>322 | 58=>276 | 33=>70 | n=>n,fun | n=>n⟩
theorem Tryz.lsorted:Go.Proofs.SlLaysZI.n6 Tryz.prog Tryz.lsorted_ren:={
 mixed:=by kernel_rfl
 f6:=⟨Tryz.f155.name,by decide,Tryz.func155.trans (congrArg some (by kernel_rfl))⟩
 f8:=⟨Tryz.f183.name,by decide,Tryz.func183.trans (congrArg some (by kernel_rfl))⟩
 f11:=⟨Tryz.f198.name,by decide,Tryz.func198.trans (congrArg some (by kernel_rfl))⟩
 t0:=Tryz.underlying0
 a0:=Tryz.isAgg0
 z0:=Tryz.sizeOf0
 v0:=Tryz.zeroValue0
 t24:=Tryz.underlying58
 a24:=Tryz.isAgg58
 z24:=Tryz.sizeOf58
 v24:=Tryz.zeroValue58
 t26:=Tryz.underlying3
 a26:=Tryz.isAgg3
 z26:=Tryz.sizeOf3
 v26:=Tryz.zeroValue3
 t28:=Tryz.underlying268
 a28:=Tryz.isAgg268
 z28:=Tryz.sizeOf268
 v28:=Tryz.zeroValue268
 i26:=by kernel_rfl }
def Tryz.lsort_ren:Go.Shelf.Ren:=⟨fun | 5=>184 | 8=>200 | 7=>199 | 19=>211 | 20=>212 | 10=>202 | 11=>203 | 12=>204 | 13=>205 | 14=>206 | 15=>207 | 16=>208 | 17=>209 | 18=>210 | 30=>213 | 31=>214 | 32=>215 | 33=>216 | 34=>217 | 35=>195 | 40=>218 | n=>n,fun | 23=>58 | 25=>3 | 3=>3 | 32=>275 | 22=>58 | 0=>0 | 44=>179 | 46=>216 | 4=>4 | 36=>308 | 35=>307 | 41=>207 | 5=>5 | 9=>9 | 53=>316 | 57=>320 | 63=>322 | 64=>276 | n=>n,fun | n=>n⟩
theorem Tryz.lsort:Go.Proofs.SlLaysM.n5 Tryz.prog Tryz.lsort_ren:={
 mixed:=by kernel_rfl
 f5:=⟨Tryz.f184.name,by decide,Tryz.func184.trans (congrArg some (by kernel_rfl))⟩
 f7:=⟨Tryz.f199.name,by decide,Tryz.func199.trans (congrArg some (by kernel_rfl))⟩
 f8:=Tryz.func200.trans (congrArg some (by kernel_rfl))
 f10:=⟨Tryz.f202.name,by decide,Tryz.func202.trans (congrArg some (by kernel_rfl))⟩
 f11:=⟨Tryz.f203.name,by decide,Tryz.func203.trans (congrArg some (by kernel_rfl))⟩
 f12:=⟨Tryz.f204.name,by decide,Tryz.func204.trans (congrArg some (by kernel_rfl))⟩
 f13:=⟨Tryz.f205.name,by decide,Tryz.func205.trans (congrArg some (by kernel_rfl))⟩
 f14:=⟨Tryz.f206.name,by decide,Tryz.func206.trans (congrArg some (by kernel_rfl))⟩
 f15:=⟨Tryz.f207.name,by decide,Tryz.func207.trans (congrArg some (by kernel_rfl))⟩
 f16:=⟨Tryz.f208.name,by decide,Tryz.func208.trans (congrArg some (by kernel_rfl))⟩
 f17:=⟨Tryz.f209.name,by decide,Tryz.func209.trans (congrArg some (by kernel_rfl))⟩
 f18:=⟨Tryz.f210.name,by decide,Tryz.func210.trans (congrArg some (by kernel_rfl))⟩
 f19:=Tryz.func211.trans (congrArg some (by kernel_rfl))
 f20:=Tryz.func212.trans (congrArg some (by kernel_rfl))
 f30:=⟨Tryz.f213.name,by decide,Tryz.func213.trans (congrArg some (by kernel_rfl))⟩
 f31:=Tryz.func214.trans (congrArg some (by kernel_rfl))
 f32:=Tryz.func215.trans (congrArg some (by kernel_rfl))
 f33:=⟨Tryz.f216.name,by decide,Tryz.func216.trans (congrArg some (by kernel_rfl))⟩
 f34:=⟨Tryz.f217.name,by decide,Tryz.func217.trans (congrArg some (by kernel_rfl))⟩
 f35:=⟨Tryz.f195.name,by decide,Tryz.func195.trans (congrArg some (by kernel_rfl))⟩
 f40:=⟨Tryz.f218.name,by decide,Tryz.func218.trans (congrArg some (by kernel_rfl))⟩
 t0:=Tryz.underlying0
 a0:=Tryz.isAgg0
 z0:=Tryz.sizeOf0
 v0:=Tryz.zeroValue0
 t3:=Tryz.underlying3
 a3:=Tryz.isAgg3
 z3:=Tryz.sizeOf3
 v3:=Tryz.zeroValue3
 t4:=Tryz.underlying4
 a4:=Tryz.isAgg4
 z4:=Tryz.sizeOf4
 v4:=Tryz.zeroValue4
 t5:=Tryz.underlying5
 a5:=Tryz.isAgg5
 z5:=Tryz.sizeOf5
 v5:=Tryz.zeroValue5
 t9:=Tryz.underlying9
 a9:=Tryz.isAgg9
 z9:=Tryz.sizeOf9
 v9:=Tryz.zeroValue9
 t22:=Tryz.underlying58
 a22:=Tryz.isAgg58
 z22:=Tryz.sizeOf58
 v22:=Tryz.zeroValue58
 t23:=Tryz.underlying58
 a23:=Tryz.isAgg58
 z23:=Tryz.sizeOf58
 v23:=Tryz.zeroValue58
 t25:=Tryz.underlying3
 a25:=Tryz.isAgg3
 z25:=Tryz.sizeOf3
 v25:=Tryz.zeroValue3
 t32:=Tryz.underlying275
 a32:=Tryz.isAgg275
 z32:=Tryz.sizeOf275
 v32:=Tryz.zeroValue275
 t35:=Tryz.underlying307
 a35:=Tryz.isAgg307
 z35:=Tryz.sizeOf307
 v35:=Tryz.zeroValue307
 t36:=Tryz.underlying308
 a36:=Tryz.isAgg308
 z36:=Tryz.sizeOf308
 v36:=Tryz.zeroValue308
 t41:=Tryz.underlying207
 a41:=Tryz.isAgg207
 z41:=Tryz.sizeOf207
 v41:=Tryz.zeroValue207
 t44:=Tryz.underlying179
 a44:=Tryz.isAgg179
 z44:=Tryz.sizeOf179
 v44:=Tryz.zeroValue179
 t46:=Tryz.underlying216
 a46:=Tryz.isAgg216
 z46:=Tryz.sizeOf216
 v46:=Tryz.zeroValue216
 t53:=Tryz.underlying316
 a53:=Tryz.isAgg316
 z53:=Tryz.sizeOf316
 v53:=Tryz.zeroValue316
 t57:=Tryz.underlying320
 a57:=Tryz.isAgg320
 z57:=Tryz.sizeOf320
 v57:=Tryz.zeroValue320
 t63:=Tryz.underlying322
 a63:=Tryz.isAgg322
 z63:=Tryz.sizeOf322
 v63:=Tryz.zeroValue322
 t64:=Tryz.underlying276
 a64:=Tryz.isAgg276
 z64:=Tryz.sizeOf276
 v64:=Tryz.zeroValue276 }
end Go.Proofs.YtehimhbgakpenaaGreat

namespace Go.Proofs.YtehimhbgakpenaaGreat.Fd
set_option linter.unusedVariables false
open Go.RowKit Go.Maps Go.Sort Go.Shelf
theorem sorts_in (m:Nat):AnyZI.SortsIn Tryz.prog Tryz.lsorted_ren Fence.wide m :=
 ⟨fun blk off cap ss W hH hblk hsz=>callsIn_wide.2 (AnyM.slices_Sort_int Tryz.lsort blk off cap ss W hH hblk hsz),
  fun p cap W=>callsIn_wide.2 (AnyM.slices_Sort_int_none Tryz.lsort p cap W)⟩
def SortedPost (w:World) (B:Nat) (M:Int → Option Value) (e:Ending) (w':World):Prop :=
 ∃ A c,e = .returned (.slice A (keysL B M).length c) ∧ w'.ownsRow w.heap.size 3 1 (.slice A (keysL B M).length c) (keysL B M).length ((keysL B M).map encZ) ∧ Below w.heap.size w w'
theorem sorted_post {w w':World} {B:Nat} {M:Int → Option Value} {D:DataW Value} {b nn:Nat} (hown:w.ownsMap Tryz.prog 3 hdR b nn D) (hd:DatIs B D M) {v:Value} {ss:List Int} {e:Ending} (he:e = .returned v) (hp:ss.Perm (intKeys D)) (hrow:w'.ownsRow w.heap.size 3 1 v ss.length ((ss.mergeSort (fun x y=>decide (x ≤ y))).map encZ)) (hb:Below w.heap.size w w'):SortedPost w B M e w':=by
 rw [sort_keys hown hd hp] at hrow
 have hl:ss.length = (keysL B M).length:=by rw [← sort_keys hown hd hp,List.length_mergeSort]
 rw [hl] at hrow
 obtain ⟨A,c,rfl,_⟩:=own_rd hrow
 exact ⟨A,c,he,hrow,hb⟩
theorem keysP_any (mb:Option Nat) (W:World):Calls Tryz.prog 181 #[.map mb] W fun e w'=>e = .returned (.func (.func 197) #[] #[.pointer (some ⟨W.heap.size,0,none⟩)]) ∧ w' = W.alloc (.cells #[.map mb] 228) :=
 (callsIn_wide (n:=5)).1 (AnyZI.keys_in Tryz.lkeysp Fence.wide 5 trivial rfl mb W)
theorem keysN_any (mb:Option Nat) (W:World):Calls Tryz.prog 177 #[.map mb] W fun e w'=>e = .returned (.func (.func 194) #[] #[.pointer (some ⟨W.heap.size,0,none⟩)]) ∧ w' = W.alloc (.cells #[.map mb] 160) :=
 (callsIn_wide (n:=5)).1 (AnyZI.keys_in Tryz.lkeysn Fence.wide 5 trivial rfl mb W)
theorem sortedP_any (w:World) (b B:Nat) (M:Int → Option Value) (h:MapIs B w b M) (hB:B ≤ 1000) :
  Calls Tryz.prog 155 #[.func (.func 197) #[] #[.pointer (some ⟨w.heap.size,0,none⟩)]] (w.alloc (.cells #[.map (some b)] 228)) (SortedPost (w.alloc (.cells #[.map (some b)] 228)) B M):=by
 have h9:=h.below (below_new' w (.cells #[.map (some b)] 228))
 obtain ⟨D0,hown,hd⟩:=h9
 have hs:=size_keys hown hd
 have hmax:Maps.size D0 ≤ maxLen:=by unfold maxLen; omega
 have hbytes:Maps.size D0 * 8 ≤ 140737488355328:=by omega
 have hseq:SeqGives Fence.wide 2 Tryz.prog 197 #[.pointer (some ⟨w.heap.size,0,none⟩)] encZ (fun ss=>ss.Perm (intKeys D0)) (Maps.size D0) (w.alloc (.cells #[.map (some b)] 228)) :=
  AnyZI.keys_gives (ρ:=Tryz.lkeysp_ren) { Tryz.lkeysp with } Fence.wide _ trivial rfl (by omega) w.heap.size b B D0 _ (by simp) (by simp) hown
 have cS:=AnyZI.sorted_in Tryz.lsorted Fence.wide 5 trivial trivial trivial trivial rfl (by omega) (sorts_in _) (enters_of Tryz.func184 (by kernel_rfl) rfl) 197 #[.pointer (some ⟨w.heap.size,0,none⟩)] trivial (enters_of Tryz.func197 (by kernel_rfl) rfl) _ _ hmax hbytes _ hseq
 change CallsIn _ _ Tryz.prog 155 _ _ _ at cS
 refine ((callsIn_wide (n:=5)).1 cS).mono ?_
 rintro e w' ⟨v,ss,he,hp,hrow,hnil,hb⟩
 exact sorted_post hown hd he hp hrow hb
theorem sortedN_any (w:World) (b B:Nat) (M:Int → Option Value) (h:MapIs B w b M) (hB:B ≤ 1000) :
  Calls Tryz.prog 155 #[.func (.func 194) #[] #[.pointer (some ⟨w.heap.size,0,none⟩)]] (w.alloc (.cells #[.map (some b)] 160)) (SortedPost (w.alloc (.cells #[.map (some b)] 160)) B M):=by
 have h9:=h.below (below_new' w (.cells #[.map (some b)] 160))
 obtain ⟨D0,hown,hd⟩:=h9
 have hs:=size_keys hown hd
 have hmax:Maps.size D0 ≤ maxLen:=by unfold maxLen; omega
 have hbytes:Maps.size D0 * 8 ≤ 140737488355328:=by omega
 have hseq:SeqGives Fence.wide 2 Tryz.prog 194 #[.pointer (some ⟨w.heap.size,0,none⟩)] encZ (fun ss=>ss.Perm (intKeys D0)) (Maps.size D0) (w.alloc (.cells #[.map (some b)] 160)) :=
  AnyZI.keys_gives (ρ:=Tryz.lkeysn_ren) { Tryz.lkeysn with } Fence.wide _ trivial rfl (by omega) w.heap.size b B D0 _ (by simp) (by simp) hown
 have cS:=AnyZI.sorted_in Tryz.lsorted Fence.wide 5 trivial trivial trivial trivial rfl (by omega) (sorts_in _) (enters_of Tryz.func184 (by kernel_rfl) rfl) 194 #[.pointer (some ⟨w.heap.size,0,none⟩)] trivial (enters_of Tryz.func194 (by kernel_rfl) rfl) _ _ hmax hbytes _ hseq
 change CallsIn _ _ Tryz.prog 155 _ _ _ at cS
 refine ((callsIn_wide (n:=5)).1 cS).mono ?_
 rintro e w' ⟨v,ss,he,hp,hrow,hnil,hb⟩
 exact sorted_post hown hd he hp hrow hb
end Go.Proofs.YtehimhbgakpenaaGreat.Fd

namespace Go.Proofs.YtehimhbgakpenaaGreat.Fd
set_option linter.unusedVariables false
open Go.RowKit Go.Maps Go.Sort
theorem nbM_none (f:Nat → Nat):nbM (fun _=>none) f = fun _=>none:=by
 funext z; unfold nbM; split <;> rfl
set_option maxRecDepth 100000 in
set_option maxHeartbeats 1600000 in
theorem fnew_any (w:World) (iv:Int) (h1:1 ≤ iv) (h2:iv ≤ 65536):Calls Tryz.prog 36 #[.int .i64 iv] w fun e w'=>e = .returned (.tuple #[.pointer (some ⟨w.heap.size + 1,0,none⟩),.int .i64 0]) ∧ FlAt w' (w.heap.size + 1) w.heap.size iv (fun _=>none) (fun _=>0) ∧ Below w.heap.size w w':=by
 have hfin:FlAt ((w.alloc (.map #[] 0)).alloc (.cells #[.int .i64 iv,.map (some w.heap.size)] 162)) (w.heap.size + 1) w.heap.size iv (fun _=>none) (fun _=>0):=by
  have hb:=below_new' (w.alloc (.map #[] 0)) (.cells #[.int .i64 iv,.map (some w.heap.size)] 162)
  have hbx:=Box.new' (w.alloc (.map #[] 0)) #[.int .i64 iv,.map (some w.heap.size)] 162 (w.heap.size + 1) _ (by simp) rfl
  exact ⟨hbx.c 0 rfl,hbx.c 1 rfl,by rw [nbM_none]; exact (MapIs.made 256 w).below hb,fun i _ D h=>(nomatch h),fun i _ h=>by simp at h,fun i j _ _ h=>by simp at h⟩
 have hbl:Below w.heap.size w ((w.alloc (.map #[] 0)).alloc (.cells #[.int .i64 iv,.map (some w.heap.size)] 162)):=(below_new' w _).trans ((below_new' _ _).mono (by simp))
 have hmm:=@run_makeMap Tryz.prog
 have e1:decide (iv < 1) = false:=by simp; omega
 have e2:decide (65536 < iv) = false:=by simp; omega
 replace hfin:=Lib.hid hfin
 go_enter Tryz.func36,Tryz.ntmps36
 go_wp2_with fail
 go_ret2
 exact ⟨rfl,hfin.out,hbl⟩
def lks (N:Fn):List Int:=((List.range 256).map fun (i:Nat)=>(i:Int)).filter fun i=>(N i.toNat).isSome
theorem keysL_nb (N:Fn) (f:Nat → Nat):keysL 256 (nbM N f) = lks N:=by
 unfold keysL lks
 refine List.filter_congr fun i hi=>?_
 obtain ⟨k,hk,rfl⟩:=List.mem_map.1 hi
 rw [nbM_at (List.mem_range.1 hk),Option.isSome_map,Int.toNat_natCast]
theorem lks_mem {N:Fn} (i:Int):i ∈ lks N ↔ (0 ≤ i ∧ i < 256) ∧ (N i.toNat).isSome = true:=by
 unfold lks
 rw [List.mem_filter,List.mem_map]
 constructor
 ·rintro ⟨⟨k,hk,rfl⟩,h⟩
  exact ⟨⟨by omega,by have:=List.mem_range.1 hk; omega⟩,h⟩
 ·rintro ⟨⟨h0,h1⟩,h⟩
  exact ⟨⟨i.toNat,List.mem_range.2 (by omega),Int.toNat_of_nonneg h0⟩,h⟩
theorem lks_len (N:Fn):(lks N).length ≤ 256:=by
 unfold lks
 refine Nat.le_trans (List.length_filter_le _ _) ?_
 simp
def IntsPost (w:World) (l:List Int) (e:Ending) (w':World):Prop :=
 ∃ A c,e = .returned (.slice A l.length c) ∧ w'.ownsRow w.heap.size 3 1 (.slice A l.length c) l.length (l.map encZ) ∧ Below w.heap.size w w'
set_option maxRecDepth 100000 in
set_option maxHeartbeats 1600000 in
theorem flinks_any (w:World) (g b:Nat) (iv:Int) (N:Fn) (f:Nat → Nat) (h:FlAt w g b iv N f):Calls Tryz.prog 147 #[.pointer (some ⟨g,0,none⟩)] w (IntsPost w (lks N)):=by
 have c1:=h.c1
 have SO:=sortedN_any w b 256 _ h.nb (by omega)
 rw [show SortedPost (w.alloc (.cells #[.map (some b)] 160)) 256 (nbM N f) = IntsPost (w.alloc (.cells #[.map (some b)] 160)) (lks N) by unfold SortedPost IntsPost; rw [keysL_nb]] at SO
 have hfin:Hid (∀ e w',IntsPost (w.alloc (.cells #[.map (some b)] 160)) (lks N) e w' → IntsPost w (lks N) e w'):=fun e w' hp=>by
  obtain ⟨A,c,he,ho,hb⟩:=hp
  exact ⟨A,c,he,own_mono ho (by simp),(below_new' w _).trans (hb.mono (by simp))⟩
 replace SO:=Lib.hid SO
 clear h
 go_enter Tryz.func147,Tryz.ntmps147
 go_wp2_with fail
 (with_reducible refine (keysN_any _ _).mono ?_)
 rintro e w1 ⟨rfl,rfl⟩
 go_wp2_with fail
 (with_reducible refine SO.out.mono ?_)
 rintro e w2 hp
 have hp2:=hfin.out _ _ hp
 obtain ⟨A,c,rfl,hp3⟩:=hp2
 go_wp2_with fail
 go_ret
 exact ⟨A,c,rfl,hp3⟩
end Go.Proofs.YtehimhbgakpenaaGreat.Fd
