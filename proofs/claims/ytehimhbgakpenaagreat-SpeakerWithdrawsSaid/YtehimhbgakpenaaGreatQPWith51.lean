/-
  The texts Nw8, one after the other.
-/
import Derived.Test.YtehimhbgakpenaaGreatQPWith33
import Derived.Test.YtehimhbgakpenaaGreatQPWith49
import Derived.Test.YtehimhbgakpenaaGreatQPWith50
import Derived.Test.YtehimhbgakpenaaGreatQPWith44
import Derived.Test.YtehimhbgakpenaaGreatQPWith9
namespace Go.Proofs.YtehimhbgakpenaaGreat
set_option linter.unusedVariables false
set_option linter.unusedSimpArgs false
open Go.RowKit Go.Maps Go.Sort
structure AgrOk (n:Nat) (t:Tp) (S:Sps):Prop where
 tp:TpOk t
 nn:t.n = n
 n1:1 ≤ n
 ok:∀ i,i < n → SpOk (S i)
 tpi:∀ i,i < n → (S i).tp = t
 vT:∀ i,i < n → vwT (S i).db t = ⟨t.n,(List.range n).map (ovB t),t.ln⟩
 vD:∀ i,i < n → vwD (S i).db 0 t.ln = List.replicate (2 * t.ln.length) false
 og:∀ i,i < n → orgs (S i).db = orgs (S 0).db
 sm:∀ i,i < n → ∀ (k:Nat) (x y:La),(allN (S 0).db)[k]? = some x → (allN (S i).db)[k]? = some y → sameB x y = true
theorem lx_form8 {w:World} {A:Option Addr} {l:List Lx} (h:Rd w A (lxV l)) (hl:0 < l.length):∃ b off,A = some ⟨b,off,none⟩:=by
 obtain ⟨b,off,e,_⟩:=rd_at h (by rw [lxV_len]; omega)
 exact ⟨b,off,e⟩
set_option maxRecDepth 100000 in
set_option maxHeartbeats 12800000 in
theorem nagree_any {B0 Bn:Nat} {w0 w:World} {N:Nm} {n:Nat} {t:Tp} {S:Sps} (h:NtwAt B0 Bn w0 w N n t S) (ok:AgrOk n t S) :
  Calls Tryz.prog 21 #[.pointer (some ⟨N.g,0,none⟩)] w fun e w'=>e = .returned (.bool true) ∧ Below w.heap.size w w':=by
 have hn64:n ≤ 64:=by have:=ok.tp.n; have:=ok.nn; omega
 have hn1:=ok.n1
 obtain ⟨m,hm⟩:∃ m,t.ln.length = m:=⟨_,rfl⟩
 have hm9:m ≤ 256:=by have:=ok.tp.ln; omega
 have x2:=h.bx.c 2 rfl
 rw [hm] at x2
 have hNW:=fun W (hb:Below w.heap.size w W)=>h.below hb
 have MK:∀ W:World,(Instr.makeSlice 22 (.int .i64 (2 * (m:Int))) (.int .i64 (2 * (m:Int)))).run Tryz.prog W = .ok (.slice (some ⟨W.heap.size,0,none⟩) (2 * m) (2 * m)) (W.alloc (.cells (zeroRow (.bool false) (2 * m)) 4)):=fun W=>by
  have:=run_make1 (P:=Tryz.prog) boT rfl .i64 .i64 (2 * m) (2 * m) (Nat.le_refl _) (by omega) (by omega) W
  simpa using this
 have SX:=(St.start w).new' (zeroRow (.bool false) (2 * m)) 4 w.heap.size (boV (List.replicate (2 * m) false)) rfl (by simp [zeroRow,boV])
 replace ok:=Lib.hid ok
 replace hm:=Lib.hid hm
 replace hNW:=Lib.hid hNW
 clear h
 go_enter Tryz.func21,Tryz.ntmps21
 go_upto_region 2 with fail
 generalize World.alloc w _ = w2 at *
 clear MK x2
 go_wp2_with fail
 go_loopw [4] (fun v4 wr=>∃ (i:Nat),v4 = .int .i64 i ∧ i ≤ n ∧ St w wr [(w.heap.size,boV (List.replicate (2 * m) false))] []) (fun v4 _=>n - (intOf v4).toNat)
 case atStart=>exact ⟨0,rfl,by omega,SX⟩
 case round =>
  clear SX
  obtain ⟨i,rfl,hi,SX⟩:=hrel
  have NA:=hNW.out _ SX.b
  have x3:=NA.bx.c 3 rfl
  by_cases hin:i < n
  ·obtain ⟨b1,off1,hA1,z1⟩:=rd_at (own_slice NA.rp) (by rw [ptrN_len]; omega)
   have z:=z1 i _ (ptrN_get hin)
   rw [hA1] at x3
   have VW:=Lib.hid (spView_any wr (N.M i) (S i) N.col (i + 1) (NA.sp i hin) (ok.out.ok i hin))
   clear z1
   have hA1:=Lib.hid hA1
   replace NA:=Lib.hid NA
   go_wp2_with fail
   (with_reducible refine (VW.out).mono ?_)
   rintro e w3 ⟨v,D,cD,rfl,hTv,hD,hb3⟩
   clear VW x3 z
   rw [(ok.out.tpi i hin),ok.out.vT i hin] at hTv
   rw [(ok.out.tpi i hin),ok.out.vD i hin] at hD
   rw [(ok.out.tpi i hin),hm.out]
   rw [hm.out] at hD
   have hT9:=hTv
   obtain ⟨A',c1,B',d1,rfl,r1,r2,r3⟩:=hTv
   dsimp only at hT9
   rw [hm.out] at hT9
   replace hT9:=Lib.hid hT9
   replace hD:=Lib.hid hD
   dsimp only
   rw [hm.out]
   generalize ((List.range n).map (ovB t)).length = ko at *
   clear r1 r2 r3
   go_upto_region 6 with fail
   have hb34:=below_new' w3 (.cells #[.int .i64 t.n,.slice A' ko c1,.slice B' m d1] 25)
   have S4:=(SX.call hb3).new' #[.int .i64 t.n,.slice A' ko c1,.slice B' m d1] 25 w3.heap.size _ rfl rfl
   generalize World.alloc w3 _ = w4 at *
   have NA4:=hNW.out _ S4.b
   obtain ⟨kv,hkv⟩:∃ kv,t.ov.length = kv:=⟨_,rfl⟩
   have VS:Hid (∀ W,Below w4.heap.size w4 W → Calls Tryz.prog 16 #[.agg #[.int .i64 t.n,.slice A' ko c1,.slice B' m d1],.agg #[.int .i64 t.n,.slice N.O kv N.cO,.slice N.L m N.cL],.slice D (2 * m) cD,.slice (some ⟨w.heap.size,0,none⟩) (2 * m) (2 * m)] W fun e w'=>e = .returned (.bool true) ∧ Below W.heap.size W w'):=fun W hb=>by
    have NW:=hNW.out _ (S4.b.trans (hb.mono S4.b.size))
    refine vsame_any W _ _ t n ok.out.tp ok.out.nn D _ (2 * m) cD (2 * m) (List.replicate (2 * m) false) ((hT9.out.below hb34).below hb) ⟨N.O,N.cO,N.L,N.cL,by rw [hkv,hm.out],NW.rO.1,NW.rL.1,NW.lT⟩ ((hD.out.below hb34).below hb) (Box.rd ((S4.call hb).box 1 rfl)) (by simp) (by omega)
   have c0:=cell_regrown (S4.c 0 0 rfl rfl)
   have c1':=cell_regrown (S4.c 0 1 rfl rfl)
   have c2:=cell_regrown (S4.c 0 2 rfl rfl)
   have d0:=NA4.bx.c 0 rfl
   have d1':=NA4.bx.c 1 rfl
   have d2:=NA4.bx.c 2 rfl
   rw [hkv] at d1'
   rw [hm.out] at d2
   replace hkv:=Lib.hid hkv
   replace d0:=cell_regrown d0
   replace d1':=cell_regrown d1'
   replace d2:=cell_regrown d2
   clear hT9 hD hb34 NA4
   refine wp_region_quiet_below (by kernel_rfl) (by kernel_rfl) ?_
   repeat (go_big_quiet_step (first | (go_at_call 16; with_reducible exact Calls.regrown_of (VS.out _ (below_regrown _ _ _)))))
   refine wpQuiet_nil ?_
   intro _ hw'
   obtain ⟨⟨dq,osq⟩,hw''⟩:=hw'
   subst hw''
   have S5:=(S4.call (below_regrown _ dq osq)).keepBoxes [(w.heap.size,boV (List.replicate (2 * m) false))] (by simp)
   clear c0 c1' c2 d0 d1' d2 VS S4
   generalize grow (redrawn _ dq) osq = w5 at *
   go_upto_region 8 with fail
   have NA5:=hNW.out _ S5.b
   obtain ⟨b1,off1,hA1,z1⟩:=rd_at (own_slice NA5.rp) (by rw [ptrN_len]; omega)
   have z0:=z1 0 _ (ptrN_get (show 0 < n by omega))
   rw [Nat.add_zero] at z0
   have h0n:0 < n:=by omega
   have zi:=z1 i _ (ptrN_get hin)
   have x3:=NA5.bx.c 3 rfl
   rw [hA1] at x3
   have hdok0:=(ok.out.ok 0 (by omega)).db
   have hdoki:=(ok.out.ok i hin).db
   have DA0:=Lib.hid (fun W (hb:Below w5.heap.size w5 W)=>spData_any W (N.M 0) (S 0) N.col (0 + 1) ((NA5.sp 0 (by omega)).below hb) hdok0)
   have DAi:=Lib.hid (fun W (hb:Below w5.heap.size w5 W)=>spData_any W (N.M i) (S i) N.col (i + 1) ((NA5.sp i hin).below hb) hdoki)
   obtain ⟨no,hno⟩:∃ no,(orgs (S 0).db).length = no:=⟨_,rfl⟩
   have hno64:no ≤ 64:=by rw [← hno]; exact orgs_len _
   have hnoi:(orgs (S i).db).length = no:=by rw [ok.out.og i hin]; exact hno
   unfold DAllPost at DA0 DAi
   rw [hno] at DA0
   rw [hnoi] at DAi
   have hal0:Hid ((allN (S 0).db).length = no):=by unfold allN; rw [List.length_map]; exact hno
   have hali:Hid ((allN (S i).db).length = no):=by unfold allN; rw [List.length_map]; exact hnoi
   replace hno:=Lib.hid hno
   replace hnoi:=Lib.hid hnoi
   clear NA5 z1 hA1 hdok0 hdoki
   refine wp_region_noPanic ?_
   refine wp_region_held_drew (S:=fun w'=>w'.cell? ⟨N.g,3,none⟩ = some (.slice (some ⟨b1,off1,none⟩) n N.c1) ∧ w'.cell? ⟨b1,off1,none⟩ = some (.pointer (some ⟨(N.M 0).g,0,none⟩)) ∧ w'.cell? ⟨b1,off1 + i,none⟩ = some (.pointer (some ⟨(N.M i).g,0,none⟩))) (by kernel_rfl) ⟨x3,z0,zi⟩ (fun hHeld=>?_)
   refine take_first (i:=0) (v:=?_) (some 47) rfl rfl (by kernel_rfl) (by kernel_rfl) (by kernel_rfl) (fun _ _ _ h=>h) (Or.inl ⟨by rfl,?_⟩) (by assumption) ?_
   rotate_left
   ·intro w hSw; (try dsimp only at hSw); go_simp; (try with_reducible rfl)
   try simp only [Act.put,List.setIfInBounds_toArray,List.set_cons_succ,List.set_cons_zero]
   refine take_first (i:=1) (v:=?_) (some 48) rfl rfl (by kernel_rfl) (by kernel_rfl) (by kernel_rfl) (fun _ _ _ h=>h) (Or.inl ⟨by rfl,?_⟩) (by assumption) ?_
   rotate_left
   ·intro w hSw; (try dsimp only at hSw); go_simp; (try with_reducible rfl)
   try simp only [Act.put,List.setIfInBounds_toArray,List.set_cons_succ,List.set_cons_zero]
   refine take_first (i:=2) (v:=?_) (some 49) rfl rfl (by kernel_rfl) (by kernel_rfl) (by kernel_rfl) (fun _ _ _ h=>h) (Or.inl ⟨by rfl,?_⟩) (by assumption) ?_
   rotate_left
   ·intro w hSw; (try dsimp only at hSw); go_simp; (try with_reducible rfl)
   try simp only [Act.put,List.setIfInBounds_toArray,List.set_cons_succ,List.set_cons_zero]
   refine take_first (i:=3) (v:=?_) (some 50) rfl rfl (by kernel_rfl) (by kernel_rfl) (by kernel_rfl) (fun _ _ _ h=>h) (Or.inl ⟨by rfl,?_⟩) (by assumption) ?_
   rotate_left
   ·intro w hSw; (try dsimp only at hSw); go_simp; (try with_reducible rfl)
   try simp only [Act.put,List.setIfInBounds_toArray,List.set_cons_succ,List.set_cons_zero]
   refine take_first (i:=4) (v:=?_) (some 51) rfl rfl (by kernel_rfl) (by kernel_rfl) (by kernel_rfl) (fun _ _ _ h=>h) (Or.inl ⟨by rfl,?_⟩) (by assumption) ?_
   rotate_left
   ·intro w hSw; (try dsimp only at hSw); go_simp; (try with_reducible rfl)
   try simp only [Act.put,List.setIfInBounds_toArray,List.set_cons_succ,List.set_cons_zero]
   refine take_first (i:=5) (v:=?_) (some 52) rfl rfl (by kernel_rfl) (by kernel_rfl) (by kernel_rfl) (fun _ _ _ h=>h) (Or.inl ⟨by rfl,?_⟩) (by assumption) ?_
   rotate_left
   ·intro w hSw; (try dsimp only at hSw); go_simp; (try with_reducible rfl)
   try simp only [Act.put,List.setIfInBounds_toArray,List.set_cons_succ,List.set_cons_zero]
   refine take_first (i:=7) (v:=?_) (some 54) rfl rfl (by kernel_rfl) (by kernel_rfl) (by kernel_rfl) (fun _ _ _ h=>h) (Or.inl ⟨by rfl,?_⟩) (by assumption) ?_
   rotate_left
   ·intro w hSw; (try dsimp only at hSw); go_simp; (try with_reducible rfl)
   try simp only [Act.put,List.setIfInBounds_toArray,List.set_cons_succ,List.set_cons_zero]
   refine take_first (i:=8) (v:=?_) (some 55) rfl rfl (by kernel_rfl) (by kernel_rfl) (by kernel_rfl) (fun _ _ _ h=>h) (Or.inl ⟨by rfl,?_⟩) (by assumption) ?_
   rotate_left
   ·intro w hSw; (try dsimp only at hSw); go_simp; (try with_reducible rfl)
   try simp only [Act.put,List.setIfInBounds_toArray,List.set_cons_succ,List.set_cons_zero]
   refine take_first (i:=9) (v:=?_) (some 56) rfl rfl (by kernel_rfl) (by kernel_rfl) (by kernel_rfl) (fun _ _ _ h=>h) (Or.inl ⟨by rfl,?_⟩) (by assumption) ?_
   rotate_left
   ·intro w hSw; (try dsimp only at hSw); go_simp; (try with_reducible rfl)
   try simp only [Act.put,List.setIfInBounds_toArray,List.set_cons_succ,List.set_cons_zero]
   refine take_first (i:=10) (v:=?_) (some 57) rfl rfl (by kernel_rfl) (by kernel_rfl) (by kernel_rfl) (fun _ _ _ h=>h) (Or.inl ⟨by rfl,?_⟩) (by assumption) ?_
   rotate_left
   ·intro w hSw; (try dsimp only at hSw); go_simp; (try with_reducible rfl)
   try simp only [Act.put,List.setIfInBounds_toArray,List.set_cons_succ,List.set_cons_zero]
   refine take_first (i:=11) (v:=?_) (some 58) rfl rfl (by kernel_rfl) (by kernel_rfl) (by kernel_rfl) (fun _ _ _ h=>h) (Or.inl ⟨by rfl,?_⟩) (by assumption) ?_
   rotate_left
   ·intro w hSw; (try dsimp only at hSw); go_simp; (try with_reducible rfl)
   try simp only [Act.put,List.setIfInBounds_toArray,List.set_cons_succ,List.set_cons_zero]
   refine take_first (i:=12) (v:=?_) (some 59) rfl rfl (by kernel_rfl) (by kernel_rfl) (by kernel_rfl) (fun _ _ _ h=>h) (Or.inl ⟨by rfl,?_⟩) (by assumption) ?_
   rotate_left
   ·intro w hSw; (try dsimp only at hSw); go_simp; (try with_reducible rfl)
   try simp only [Act.put,List.setIfInBounds_toArray,List.set_cons_succ,List.set_cons_zero]
   refine take_first (i:=13) (v:=?_) (some 60) rfl rfl (by kernel_rfl) (by kernel_rfl) (by kernel_rfl) (fun _ _ _ h=>h) (Or.inl ⟨by rfl,?_⟩) (by assumption) ?_
   rotate_left
   ·intro w hSw; (try dsimp only at hSw); go_simp; (try with_reducible rfl)
   try simp only [Act.put,List.setIfInBounds_toArray,List.set_cons_succ,List.set_cons_zero]
   refine wpAnyH_ready (rs:=[6]) (by kernel_rfl) (by simp) ?_
   refine AllReadyH.cons rfl (fun K hK=>?_) AllReadyH.nil
   go_simp
   (with_reducible refine (DA0.out _ (Below.refl _ _).drew).mono ?_)
   rintro e wa ⟨A6,c6,ld,rfl,o6,hla,hlo,hba⟩
   dsimp only
   have hba9:Below w5.heap.size w5 wa:=(Below.refl _ _).drew.trans hba
   refine hK.out _ _ ⟨cell_later hba9 x3,cell_later hba9 z0,cell_later hba9 zi⟩ (fun hHeld=>?_)
   clear hK K
   refine wpAnyH_ready (rs:=[14]) (by kernel_rfl) (by simp) ?_
   refine AllReadyH.cons rfl (fun K hK=>?_) AllReadyH.nil
   go_simp
   (with_reducible refine (DAi.out _ hba9).mono ?_)
   rintro e wb ⟨A8,c8,le,rfl,o8,hla8,hlo8,hbb⟩
   dsimp only
   have hbb9:Below w5.heap.size w5 wb:=hba9.trans (hbb.mono hba9.size)
   refine hK.out _ _ ⟨cell_later hbb9 x3,cell_later hbb9 z0,cell_later hbb9 zi⟩ (fun hHeld=>?_)
   clear hK K
   refine take_first (i:=15) (v:=.slice A6 no c6) (some 7) rfl rfl (by kernel_rfl) (by kernel_rfl) (by kernel_rfl) (fun _ _ _ h=>h) (Or.inl ⟨by rfl,fun _ _=>rfl⟩) (by assumption) ?_
   try simp only [Act.put,List.setIfInBounds_toArray,List.set_cons_succ,List.set_cons_zero]
   refine take_first (i:=16) (v:=.slice A8 no c8) (some 8) rfl rfl (by kernel_rfl) (by kernel_rfl) (by kernel_rfl) (fun _ _ _ h=>h) (Or.inl ⟨by rfl,fun _ _=>rfl⟩) (by assumption) ?_
   try simp only [Act.put,List.setIfInBounds_toArray,List.set_cons_succ,List.set_cons_zero]
   refine wpAnyH_done (by kernel_rfl) ?_ _
   refine NoPanic.normal ?_
   have SB:=S5.call hbb9
   have r6:=Lib.hid (own_slice (own_below o6 hbb))
   have r8:=Lib.hid (own_slice o8)
   have k6:Hid (∀ s ∈ ld,LxOk wb s):=fun s hs=>(LaOwn.below (hlo s hs) hbb).at
   have k8:Hid (∀ s ∈ le,LxOk wb s):=fun s hs=>(hlo8 s hs).ok
   have hld:Hid (ld.length = no):=by
    have:=congrArg List.length hla
    show _ = _
    rw [← hal0.out]
    simpa [laL] using this
   have hle:Hid (le.length = no):=by
    have:=congrArg List.length hla8
    show _ = _
    rw [← hali.out]
    simpa [laL] using this
   have hsame:Hid (∀ (q:Nat) (h1:q < ld.length) (h2:q < le.length),sameB ld[q].y le[q].y = true):=fun q h1 h2=>by
    refine ok.out.sm i hin q _ _ ?_ ?_
    ·rw [← hla]; simp [laL,List.getElem?_eq_getElem h1]
    ·rw [← hla8]; simp [laL,List.getElem?_eq_getElem h2]
   have e2:((no:Int) != (no:Int)) = false:=by simp
   clear hHeld o6 o8 hlo hlo8 hba hbb hba9 hbb9 x3 z0 zi DA0 DAi S5 hla hla8
   go_wp2_with fail
   clear e2
   go_loopw [9] (fun v9 wr=>∃ (q:Nat),v9 = .int .i64 q ∧ q ≤ no ∧ Hid (Rd wr A6 (lxV ld)) ∧ Hid (Rd wr A8 (lxV le)) ∧ Hid (∀ s ∈ ld,LxOk wr s) ∧ Hid (∀ s ∈ le,LxOk wr s) ∧ St w wr [(w.heap.size,boV (List.replicate (2 * m) false))] []) (fun v9 _=>no - (intOf v9).toNat)
   case atStart=>exact ⟨0,rfl,by omega,r6,r8,k6,k8,SB⟩
   case round =>
    clear r6 r8 k6 k8 SB
    obtain ⟨q,rfl,hq,r6,r8,k6,k8,Sb⟩:=hrel
    by_cases hqn:q < no
    ·have hq6:q < ld.length:=by rw [hld.out]; exact hqn
     have hq8:q < le.length:=by rw [hle.out]; exact hqn
     have hsm2:=hsame.out q hq6 hq8
     obtain ⟨b6,off6,rfl⟩:=lx_form8 r6.out (by omega)
     obtain ⟨b8,off8,rfl⟩:=lx_form8 r8.out (by omega)
     have v6:=k6.out _ (List.getElem_mem hq6)
     have v8:=k8.out _ (List.getElem_mem hq8)
     obtain ⟨s6,hs6⟩:∃ s,ld[q] = s:=⟨_,rfl⟩
     obtain ⟨s8,hs8⟩:∃ s,le[q] = s:=⟨_,rfl⟩
     obtain ⟨c0,c1,c2,c3,c4,c5⟩:=lx_cells r6.out q hq6 s6 hs6
     obtain ⟨d0,d1,d2,d3,d4,d5⟩:=lx_cells r8.out q hq8 s8 hs8
     rw [hs6] at hsm2 v6
     rw [hs8] at hsm2 v8
     have EQ:Hid (∀ W,Below wr.heap.size wr W → Calls Tryz.prog 62 #[laV s6.y.o s6.y.s s6.y.a s6.y.ov s6.A s6.y.adj.length s6.c s6.B s6.y.pre.length s6.d,laV s8.y.o s8.y.s s8.y.a s8.y.ov s8.A s8.y.adj.length s8.c s8.B s8.y.pre.length s8.d] W fun e w'=>e = .returned (.bool true) ∧ Below W.heap.size W w'):=fun W hb=>by
      unfold LxOk at v6 v8
      have:=rsamela_any W _ _ s6.y s8.y (v6.below hb) (v8.below hb)
      rwa [hsm2] at this
     replace c0:=cell_regrown c0
     replace c1:=cell_regrown c1
     replace c2:=cell_regrown c2
     replace c3:=cell_regrown c3
     replace c4:=cell_regrown c4
     replace c5:=cell_regrown c5
     replace d0:=cell_regrown d0
     replace d1:=cell_regrown d1
     replace d2:=cell_regrown d2
     replace d3:=cell_regrown d3
     replace d4:=cell_regrown d4
     replace d5:=cell_regrown d5
     have l6:=r6.out
     have l8:=r8.out
     have m6:Hid (∀ W,Below wr.heap.size wr W → ∀ s ∈ ld,LxOk W s):=fun W hb s hs=>by
      have:=k6.out s hs; unfold LxOk at this ⊢; exact this.below hb
     have m8:Hid (∀ W,Below wr.heap.size wr W → ∀ s ∈ le,LxOk W s):=fun W hb s hs=>by
      have:=k8.out s hs; unfold LxOk at this ⊢; exact this.below hb
     clear hsm2 v6 v8 hs6 hs8 r6 r8 k6 k8
     obtain ⟨⟨yo,ys,ya,yov,yj,yp⟩,sA,sc,sB,sd⟩:=s6
     obtain ⟨⟨to',ts,ta,tov,tj,tp⟩,tA,tc,tB,td⟩:=s8
     dsimp only at *
     generalize yj.length = yn1 at *
     generalize yp.length = yn2 at *
     generalize tj.length = tn1 at *
     generalize tp.length = tn2 at *
     have Sb2:=Sb
     clear Sb
     go_upto_region 14 with fail
     refine wp_region_quiet_below (by kernel_rfl) (by kernel_rfl) ?_
     repeat (go_big_quiet_step (first | (go_at_call 62; with_reducible exact Calls.regrown_of (EQ.out _ (below_regrown _ _ _)))))
     refine wpQuiet_nil ?_
     intro _ hw'
     obtain ⟨⟨dq,osq⟩,hw''⟩:=hw'
     subst hw''
     have hbq:=below_regrown wr dq osq
     have S9:=Sb2.call hbq
     have n6:=Lib.hid (l6.below hbq)
     have n8:=Lib.hid (l8.below hbq)
     have p6:=Lib.hid (m6.out _ hbq)
     have p8:=Lib.hid (m8.out _ hbq)
     clear EQ c0 c1 c2 c3 c4 c5 d0 d1 d2 d3 d4 d5 l6 l8 m6 m8 Sb2 hbq
     generalize grow (redrawn wr dq) osq = w9 at *
     go_wp2_with fail
     go_round
     case rel=>exact ⟨q + 1,by go_num,by omega,n6,n8,p6,p8,S9⟩
     case measure=>simp [intOf]; omega
    ·obtain rfl:no = q:=by omega
     clear r6 r8 k6 k8
     go_wp2_with fail
     go_round
     case rel=>exact ⟨i + 1,by go_num,by omega,Sb⟩
     case measure=>simp [intOf]; omega
  ·have hb9:=SX.b
   clear SX NA
   go_wp2_with fail
   go_ret
   exact ⟨rfl,hb9⟩
end Go.Proofs.YtehimhbgakpenaaGreat
