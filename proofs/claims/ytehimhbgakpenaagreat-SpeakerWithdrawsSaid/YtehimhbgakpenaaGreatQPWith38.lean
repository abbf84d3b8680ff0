/-
  The texts Hel, one after the other.
-/
import Derived.Test.YtehimhbgakpenaaGreatQPWith0
import Derived.Test.YtehimhbgakpenaaGreatChecked
import Derived.Deep.RegionHeld3
namespace Go.Proofs.YtehimhbgakpenaaGreat.He
set_option linter.unusedVariables false
open Go.RowKit
def vld (p l:Int):Bool:=(p == 0 && l == 0) || ((p == 1 || p == 2) && decide (1 ≤ l) && decide (l ≤ 65536))
def evt (p q:Int):Int:=if p = 2 then (if q = 2 then 0 else 2) else (if q = 2 then 1 else 0)
set_option maxHeartbeats 400000 in
theorem valid_any (p l:Int) (w:World) :
  Calls Tryz.prog 109 #[.agg #[.int .i64 p,.int .i64 l]] w fun e w'=>e = .returned (.bool (vld p l)) ∧ Below w.heap.size w w':=by
 go_enter Tryz.func109,Tryz.ntmps109
 go_wp2
 all_goals
  go_ret
  refine ⟨ret_bool ?_,below_new _ _⟩
  first
   | (simp [vld, *]; done)
   | (simp [vld, *] at *; omega)
theorem eql_bools (a b c d:Bool) (w:World):(Op.equalIn 10000 271 (.agg #[.bool a,.bool b]) (.agg #[.bool c,.bool d])).run Tryz.prog w = .ok (a == c && b == d) w:=by
 cases a <;> cases b <;> cases c <;> cases d <;> kernel_rfl
set_option maxHeartbeats 400000 in
theorem event_any (p q:Int) (w:World) :
  Calls Tryz.prog 110 #[.int .i64 p,.int .i64 q] w fun e w'=>e = .returned (.int .i64 (evt p q)) ∧ w = w':=by
 have H:∀ b c,(p == 2) = b → (q == 2) = c → Calls Tryz.prog 110 #[.int .i64 p,.int .i64 q] w fun e w'=>e = .returned (.int .i64 (evt p q)) ∧ w = w':=by
  intro b c hb hc
  have e1:=eql_bools b c false true w
  have e2:=eql_bools b c true false w
  cases b <;> cases c
  all_goals
   go_enter Tryz.func110,Tryz.ntmps110
   go_wp2
   go_ret
   refine ⟨ret_int ?_,rfl⟩
   simp at hb hc
   simp [evt,hb,hc]
 exact H _ _ rfl rfl
def sn (p l:Int):Bool:=vld p l && p != 0
set_option maxHeartbeats 400000 in
theorem receive_ok (p l hold:Int) (seen:Bool) (w:World) (hv:vld p l = true) (h1:1 ≤ hold) (h2:hold ≤ 65536) :
  Calls Tryz.prog 118 #[.agg #[.int .i64 p,.int .i64 l],.bool seen,.int .i64 hold] w fun e w' =>
   e = .returned (.tuple #[.agg #[.int .i64 (if seen then 2 else 1),.int .i64 hold],.int .i64 (evt p (if seen then 2 else 1)),.int .i64 0]) ∧ Below w.heap.size w w':=by
 have V:=valid_any p l ((w.alloc (.cells #[.int .i64 p,.int .i64 l] 116)).alloc (.cells #[.int .i64 0,.int .i64 0] 116))
 rw [hv] at V
 clear hv
 cases seen
 ·go_enter Tryz.func118,Tryz.ntmps118
  go_wp2_with fail
  (with_reducible refine V.mono ?_)
  rintro e w1 ⟨rfl,hb1⟩
  have c0:=cell_later hb1 (a:=⟨w.heap.size,0,none⟩) (v:=.int .i64 p) (by simp)
  have c1:=cell_later hb1 (a:=⟨w.heap.size + 1,0,none⟩) (v:=.int .i64 0) (by simp)
  have c2:=cell_later hb1 (a:=⟨w.heap.size + 1,1,none⟩) (v:=.int .i64 0) (by simp)
  have f1:=free_later hb1 (a:=⟨w.heap.size + 1,0,none⟩) (v:=.int .i64 0) (by simp) (by simp)
  have f2:=free_later hb1 (a:=⟨w.heap.size + 1,1,none⟩) (v:=.int .i64 0) (by simp) (by simp)
  have hb2:=((below_new w _).alloc (by simp) _).trans (hb1.mono (by simp; omega))
  have hz:w.heap.size + 1 < w1.heap.size:=by have:=hb1.size; simp at this; omega
  clear V hb1
  go_wp2_with fail
  have hn:=below_new w1 (.cells #[.int .i64 1,.int .i64 hold] 116)
  have c0:=cell_later hn c0
  have f1:=free_later hn c1 f1
  have f2:=free_later hn c2 f2
  have c1:=cell_later hn c1
  have c2:=cell_later hn c2
  have d1:(w1.alloc (.cells #[.int .i64 1,.int .i64 hold] 116)).cell? ⟨w1.heap.size,0,none⟩ = some (.int .i64 1):=by simp
  have d2:(w1.alloc (.cells #[.int .i64 1,.int .i64 hold] 116)).cell? ⟨w1.heap.size,1,none⟩ = some (.int .i64 hold):=by simp
  have hb3:=hb2.trans (hn.mono hb2.size)
  have n1:¬ w.heap.size = w1.heap.size:=by omega
  have n2:¬ w1.heap.size = w.heap.size + 1:=by omega
  have n3:¬ w.heap.size + 1 = w1.heap.size:=by omega
  clear hb2 hn hz
  generalize w1.alloc (.cells #[.int .i64 1,.int .i64 hold] 116) = w2 at *
  go_region_held3 (fun w'=>w'.cell? ⟨w.heap.size,0,none⟩ = some (.int .i64 p) ∧ w'.cell? ⟨w1.heap.size,0,none⟩ = some (.int .i64 1) ∧ w'.cell? ⟨w1.heap.size,1,none⟩ = some (.int .i64 hold)) (go_keep) (first | (go_at_call 110; refine (event_any _ _ _).mono ?_; rintro e w' ⟨rfl,rfl⟩))
  go_wp2_with fail
  exact bodyPost_ret (v:=.tuple #[.agg #[.int .i64 1,.int .i64 hold],.int .i64 (evt p 1),.int .i64 0]) (by simp [results,Tryz.results118,go_sem,c1,c2]) rfl ⟨rfl,((hb3.setCell (p:=⟨w.heap.size + 1,0,none⟩) (Nat.le_succ _) _).setCell (p:=⟨w.heap.size + 1,1,none⟩) (Nat.le_succ _) _).drew⟩
 ·go_enter Tryz.func118,Tryz.ntmps118
  go_wp2_with fail
  (with_reducible refine V.mono ?_)
  rintro e w1 ⟨rfl,hb1⟩
  have c0:=cell_later hb1 (a:=⟨w.heap.size,0,none⟩) (v:=.int .i64 p) (by simp)
  have c1:=cell_later hb1 (a:=⟨w.heap.size + 1,0,none⟩) (v:=.int .i64 0) (by simp)
  have c2:=cell_later hb1 (a:=⟨w.heap.size + 1,1,none⟩) (v:=.int .i64 0) (by simp)
  have f1:=free_later hb1 (a:=⟨w.heap.size + 1,0,none⟩) (v:=.int .i64 0) (by simp) (by simp)
  have f2:=free_later hb1 (a:=⟨w.heap.size + 1,1,none⟩) (v:=.int .i64 0) (by simp) (by simp)
  have hb2:=((below_new w _).alloc (by simp) _).trans (hb1.mono (by simp; omega))
  have hz:w.heap.size + 1 < w1.heap.size:=by have:=hb1.size; simp at this; omega
  clear V hb1
  go_wp2_with fail
  have hn:=below_new w1 (.cells #[.int .i64 2,.int .i64 hold] 116)
  have c0:=cell_later hn c0
  have f1:=free_later hn c1 f1
  have f2:=free_later hn c2 f2
  have c1:=cell_later hn c1
  have c2:=cell_later hn c2
  have d1:(w1.alloc (.cells #[.int .i64 2,.int .i64 hold] 116)).cell? ⟨w1.heap.size,0,none⟩ = some (.int .i64 2):=by simp
  have d2:(w1.alloc (.cells #[.int .i64 2,.int .i64 hold] 116)).cell? ⟨w1.heap.size,1,none⟩ = some (.int .i64 hold):=by simp
  have hb3:=hb2.trans (hn.mono hb2.size)
  have n1:¬ w.heap.size = w1.heap.size:=by omega
  have n2:¬ w1.heap.size = w.heap.size + 1:=by omega
  have n3:¬ w.heap.size + 1 = w1.heap.size:=by omega
  clear hb2 hn hz
  generalize w1.alloc (.cells #[.int .i64 2,.int .i64 hold] 116) = w2 at *
  go_region_held3 (fun w'=>w'.cell? ⟨w.heap.size,0,none⟩ = some (.int .i64 p) ∧ w'.cell? ⟨w1.heap.size,0,none⟩ = some (.int .i64 2) ∧ w'.cell? ⟨w1.heap.size,1,none⟩ = some (.int .i64 hold)) (go_keep) (first | (go_at_call 110; refine (event_any _ _ _).mono ?_; rintro e w' ⟨rfl,rfl⟩))
  go_wp2_with fail
  exact bodyPost_ret (v:=.tuple #[.agg #[.int .i64 2,.int .i64 hold],.int .i64 (evt p 2),.int .i64 0]) (by simp [results,Tryz.results118,go_sem,c1,c2]) rfl ⟨rfl,((hb3.setCell (p:=⟨w.heap.size + 1,0,none⟩) (Nat.le_succ _) _).setCell (p:=⟨w.heap.size + 1,1,none⟩) (Nat.le_succ _) _).drew⟩
set_option maxHeartbeats 400000 in
theorem receive_bad (p l hold:Int) (seen:Bool) (w:World) (h:vld p l = false ∨ hold < 1 ∨ 65536 < hold) :
  Calls Tryz.prog 118 #[.agg #[.int .i64 p,.int .i64 l],.bool seen,.int .i64 hold] w fun e w' =>
   e = .returned (.tuple #[.agg #[.int .i64 0,.int .i64 0],.int .i64 0,.int .i64 1]) ∧ Below w.heap.size w w':=by
 have H:∀ b,vld p l = b → Calls Tryz.prog 118 #[.agg #[.int .i64 p,.int .i64 l],.bool seen,.int .i64 hold] w fun e w' =>
   e = .returned (.tuple #[.agg #[.int .i64 0,.int .i64 0],.int .i64 0,.int .i64 1]) ∧ Below w.heap.size w w':=by
  intro b hb
  have V:=valid_any p l ((w.alloc (.cells #[.int .i64 p,.int .i64 l] 116)).alloc (.cells #[.int .i64 0,.int .i64 0] 116))
  rw [hb] at V h
  clear hb
  have hh:b = true → hold < 1 ∨ 65536 < hold:=by
   rintro rfl
   simpa using h
  clear h
  cases b
  all_goals
   simp only [forall_const,reduceCtorEq,false_imp_iff] at hh
   go_enter Tryz.func118,Tryz.ntmps118
   go_wp2_with fail
   (with_reducible refine V.mono ?_)
   rintro e w1 ⟨rfl,hb1⟩
   have c1:=cell_later hb1 (a:=⟨w.heap.size + 1,0,none⟩) (v:=.int .i64 0) (by simp)
   have c2:=cell_later hb1 (a:=⟨w.heap.size + 1,1,none⟩) (v:=.int .i64 0) (by simp)
   have f1:=free_later hb1 (a:=⟨w.heap.size + 1,0,none⟩) (v:=.int .i64 0) (by simp) (by simp)
   have f2:=free_later hb1 (a:=⟨w.heap.size + 1,1,none⟩) (v:=.int .i64 0) (by simp) (by simp)
   have hb2:=((below_new w _).alloc (by simp) _).trans (hb1.mono (by simp; omega))
   clear V hb1
   go_wp2_with fail
   all_goals exact bodyPost_ret (v:=.tuple #[.agg #[.int .i64 0,.int .i64 0],.int .i64 0,.int .i64 1]) (by simp [results,Tryz.results118,go_sem,c1,c2]) rfl ⟨rfl,(hb2.setCell (p:=⟨w.heap.size + 1,0,none⟩) (Nat.le_succ _) _).setCell (p:=⟨w.heap.size + 1,1,none⟩) (Nat.le_succ _) _⟩
 exact H _ rfl
set_option maxHeartbeats 400000 in
theorem fail_ok (p l:Int) (w:World) (h:vld p l = true) :
  Calls Tryz.prog 64 #[.agg #[.int .i64 p,.int .i64 l]] w fun e w' =>
   e = .returned (.tuple #[.agg #[.int .i64 0,.int .i64 0],.int .i64 (evt p 0),.int .i64 0]) ∧ Below w.heap.size w w':=by
 have V:=valid_any p l ((w.alloc (.cells #[.int .i64 p,.int .i64 l] 116)).alloc (.cells #[.int .i64 0,.int .i64 0] 116))
 rw [h] at V
 clear h
 go_enter Tryz.func64,Tryz.ntmps64
 go_wp2_with fail
 (with_reducible refine V.mono ?_)
 rintro e w1 ⟨rfl,hb1⟩
 have c0:=cell_later hb1 (a:=⟨w.heap.size,0,none⟩) (v:=.int .i64 p) (by simp)
 have c1:=cell_later hb1 (a:=⟨w.heap.size + 1,0,none⟩) (v:=.int .i64 0) (by simp)
 have c2:=cell_later hb1 (a:=⟨w.heap.size + 1,1,none⟩) (v:=.int .i64 0) (by simp)
 have f1:=free_later hb1 (a:=⟨w.heap.size + 1,0,none⟩) (v:=.int .i64 0) (by simp) (by simp)
 have f2:=free_later hb1 (a:=⟨w.heap.size + 1,1,none⟩) (v:=.int .i64 0) (by simp) (by simp)
 have hb2:=((below_new w _).alloc (by simp) _).trans (hb1.mono (by simp; omega))
 clear V hb1
 go_wp2_with fail
 (with_reducible refine (event_any _ _ _).mono ?_)
 rintro e w' ⟨rfl,rfl⟩
 go_wp2_with fail
 exact bodyPost_ret (v:=.tuple #[.agg #[.int .i64 0,.int .i64 0],.int .i64 (evt p 0),.int .i64 0]) (by simp [results,Tryz.results64,go_sem,c1,c2]) rfl ⟨rfl,(hb2.setCell (p:=⟨w.heap.size + 1,0,none⟩) (Nat.le_succ _) _).setCell (p:=⟨w.heap.size + 1,1,none⟩) (Nat.le_succ _) _⟩
set_option maxHeartbeats 400000 in
theorem tick_stay1 (p l n:Int) (w:World) (h:vld p l = true) (hn:n ≤ 0) :
  Calls Tryz.prog 90 #[.agg #[.int .i64 p,.int .i64 l],.int .i64 n] w fun e w' =>
   e = .returned (.tuple #[.agg #[.int .i64 p,.int .i64 l],.int .i64 0,.int .i64 0]) ∧ Below w.heap.size w w':=by
 have V:=valid_any p l ((w.alloc (.cells #[.int .i64 p,.int .i64 l] 116)).alloc (.cells #[.int .i64 0,.int .i64 0] 116))
 rw [h] at V
 clear h
 go_enter Tryz.func90,Tryz.ntmps90
 go_wp2_with fail
 (with_reducible refine V.mono ?_)
 rintro e w1 ⟨rfl,hb1⟩
 have c0:=cell_later hb1 (a:=⟨w.heap.size,0,none⟩) (v:=.int .i64 p) (by simp)
 have c3:=cell_later hb1 (a:=⟨w.heap.size,1,none⟩) (v:=.int .i64 l) (by simp)
 have c1:=cell_later hb1 (a:=⟨w.heap.size + 1,0,none⟩) (v:=.int .i64 0) (by simp)
 have c2:=cell_later hb1 (a:=⟨w.heap.size + 1,1,none⟩) (v:=.int .i64 0) (by simp)
 have f1:=free_later hb1 (a:=⟨w.heap.size + 1,0,none⟩) (v:=.int .i64 0) (by simp) (by simp)
 have f2:=free_later hb1 (a:=⟨w.heap.size + 1,1,none⟩) (v:=.int .i64 0) (by simp) (by simp)
 have hb2:=((below_new w _).alloc (by simp) _).trans (hb1.mono (by simp; omega))
 clear V hb1
 go_wp2_with fail
 exact bodyPost_ret (v:=.tuple #[.agg #[.int .i64 p,.int .i64 l],.int .i64 0,.int .i64 0]) (by simp [results,Tryz.results90,go_sem,c1,c2]) rfl ⟨rfl,(hb2.setCell (p:=⟨w.heap.size + 1,0,none⟩) (Nat.le_succ _) _).setCell (p:=⟨w.heap.size + 1,1,none⟩) (Nat.le_succ _) _⟩
set_option maxHeartbeats 400000 in
theorem tick_stay2 (p l n:Int) (w:World) (h:vld p l = true) (hn:0 < n) (hp:(p == 0) = true) :
  Calls Tryz.prog 90 #[.agg #[.int .i64 p,.int .i64 l],.int .i64 n] w fun e w' =>
   e = .returned (.tuple #[.agg #[.int .i64 p,.int .i64 l],.int .i64 0,.int .i64 0]) ∧ Below w.heap.size w w':=by
 have V:=valid_any p l ((w.alloc (.cells #[.int .i64 p,.int .i64 l] 116)).alloc (.cells #[.int .i64 0,.int .i64 0] 116))
 rw [h] at V
 clear h
 go_enter Tryz.func90,Tryz.ntmps90
 go_wp2_with fail
 (with_reducible refine V.mono ?_)
 rintro e w1 ⟨rfl,hb1⟩
 have c0:=cell_later hb1 (a:=⟨w.heap.size,0,none⟩) (v:=.int .i64 p) (by simp)
 have c3:=cell_later hb1 (a:=⟨w.heap.size,1,none⟩) (v:=.int .i64 l) (by simp)
 have c1:=cell_later hb1 (a:=⟨w.heap.size + 1,0,none⟩) (v:=.int .i64 0) (by simp)
 have c2:=cell_later hb1 (a:=⟨w.heap.size + 1,1,none⟩) (v:=.int .i64 0) (by simp)
 have f1:=free_later hb1 (a:=⟨w.heap.size + 1,0,none⟩) (v:=.int .i64 0) (by simp) (by simp)
 have f2:=free_later hb1 (a:=⟨w.heap.size + 1,1,none⟩) (v:=.int .i64 0) (by simp) (by simp)
 have hb2:=((below_new w _).alloc (by simp) _).trans (hb1.mono (by simp; omega))
 clear V hb1
 go_wp2_with fail
 exact bodyPost_ret (v:=.tuple #[.agg #[.int .i64 p,.int .i64 l],.int .i64 0,.int .i64 0]) (by simp [results,Tryz.results90,go_sem,c1,c2]) rfl ⟨rfl,(hb2.setCell (p:=⟨w.heap.size + 1,0,none⟩) (Nat.le_succ _) _).setCell (p:=⟨w.heap.size + 1,1,none⟩) (Nat.le_succ _) _⟩
set_option maxHeartbeats 400000 in
theorem tick_go (p l n:Int) (w:World) (h:vld p l = true) (hn:0 < n) (hp:(p == 0) = false) (hl:n < l) (hl0:l ≤ 65536) :
  Calls Tryz.prog 90 #[.agg #[.int .i64 p,.int .i64 l],.int .i64 n] w fun e w' =>
   e = .returned (.tuple #[.agg #[.int .i64 p,.int .i64 (l - n)],.int .i64 0,.int .i64 0]) ∧ Below w.heap.size w w':=by
 have V:=valid_any p l ((w.alloc (.cells #[.int .i64 p,.int .i64 l] 116)).alloc (.cells #[.int .i64 0,.int .i64 0] 116))
 rw [h] at V
 clear h
 go_enter Tryz.func90,Tryz.ntmps90
 go_wp2_with fail
 (with_reducible refine V.mono ?_)
 rintro e w1 ⟨rfl,hb1⟩
 have c0:=cell_later hb1 (a:=⟨w.heap.size,0,none⟩) (v:=.int .i64 p) (by simp)
 have c3:=cell_later hb1 (a:=⟨w.heap.size,1,none⟩) (v:=.int .i64 l) (by simp)
 have c1:=cell_later hb1 (a:=⟨w.heap.size + 1,0,none⟩) (v:=.int .i64 0) (by simp)
 have c2:=cell_later hb1 (a:=⟨w.heap.size + 1,1,none⟩) (v:=.int .i64 0) (by simp)
 have f1:=free_later hb1 (a:=⟨w.heap.size + 1,0,none⟩) (v:=.int .i64 0) (by simp) (by simp)
 have f2:=free_later hb1 (a:=⟨w.heap.size + 1,1,none⟩) (v:=.int .i64 0) (by simp) (by simp)
 have hb2:=((below_new w _).alloc (by simp) _).trans (hb1.mono (by simp; omega))
 clear V hb1
 go_wp2_with fail
 exact bodyPost_ret (v:=.tuple #[.agg #[.int .i64 p,.int .i64 (l - n)],.int .i64 0,.int .i64 0]) (by simp [results,Tryz.results90,go_sem,c1,c2]) rfl ⟨rfl,(hb2.setCell (p:=⟨w.heap.size + 1,0,none⟩) (Nat.le_succ _) _).setCell (p:=⟨w.heap.size + 1,1,none⟩) (Nat.le_succ _) _⟩
set_option maxHeartbeats 400000 in
theorem tick_fail (p l n:Int) (w:World) (h:vld p l = true) (hn:0 < n) (hp:(p == 0) = false) (hl:l ≤ n) :
  Calls Tryz.prog 90 #[.agg #[.int .i64 p,.int .i64 l],.int .i64 n] w fun e w' =>
   e = .returned (.tuple #[.agg #[.int .i64 0,.int .i64 0],.int .i64 (evt p 0),.int .i64 0]) ∧ Below w.heap.size w w':=by
 have F:=fun W=>fail_ok p l W h
 have V:=valid_any p l ((w.alloc (.cells #[.int .i64 p,.int .i64 l] 116)).alloc (.cells #[.int .i64 0,.int .i64 0] 116))
 rw [h] at V
 clear h
 go_enter Tryz.func90,Tryz.ntmps90
 go_wp2_with fail
 (with_reducible refine V.mono ?_)
 rintro e w1 ⟨rfl,hb1⟩
 have c0:=cell_later hb1 (a:=⟨w.heap.size,0,none⟩) (v:=.int .i64 p) (by simp)
 have c3:=cell_later hb1 (a:=⟨w.heap.size,1,none⟩) (v:=.int .i64 l) (by simp)
 have c1:=cell_later hb1 (a:=⟨w.heap.size + 1,0,none⟩) (v:=.int .i64 0) (by simp)
 have c2:=cell_later hb1 (a:=⟨w.heap.size + 1,1,none⟩) (v:=.int .i64 0) (by simp)
 have f1:=free_later hb1 (a:=⟨w.heap.size + 1,0,none⟩) (v:=.int .i64 0) (by simp) (by simp)
 have f2:=free_later hb1 (a:=⟨w.heap.size + 1,1,none⟩) (v:=.int .i64 0) (by simp) (by simp)
 have hb2:=((below_new w _).alloc (by simp) _).trans (hb1.mono (by simp; omega))
 clear V hb1
 go_wp2_with fail
 (with_reducible refine (F _).mono ?_)
 rintro e w2 ⟨rfl,hb3⟩
 have f1:=free_later hb3 c1 f1
 have f2:=free_later hb3 c2 f2
 have c1:=cell_later hb3 c1
 have c2:=cell_later hb3 c2
 have hb2:=hb2.trans (hb3.mono hb2.size)
 clear F hb3
 go_wp2_with fail
 exact bodyPost_ret (v:=.tuple #[.agg #[.int .i64 0,.int .i64 0],.int .i64 (evt p 0),.int .i64 0]) (by simp [results,Tryz.results90,go_sem,c1,c2]) rfl ⟨rfl,(hb2.setCell (p:=⟨w.heap.size + 1,0,none⟩) (Nat.le_succ _) _).setCell (p:=⟨w.heap.size + 1,1,none⟩) (Nat.le_succ _) _⟩
def tkP (p l n:Int):Int:=if n ≤ 0 ∨ p = 0 then p else if l ≤ n then 0 else p
def tkL (p l n:Int):Int:=if n ≤ 0 ∨ p = 0 then l else if l ≤ n then 0 else l - n
theorem evt_same (p:Int):evt p p = 0:=by unfold evt; split <;> rfl
theorem vld_le {p l:Int} (h:vld p l = true):0 ≤ l ∧ l ≤ 65536 ∧ 0 ≤ p ∧ p ≤ 2 ∧ (p = 0 ↔ l = 0):=by
 simp [vld] at h; omega
theorem tick_ok (p l n:Int) (w:World) (h:vld p l = true) :
  Calls Tryz.prog 90 #[.agg #[.int .i64 p,.int .i64 l],.int .i64 n] w fun e w' =>
   e = .returned (.tuple #[.agg #[.int .i64 (tkP p l n),.int .i64 (tkL p l n)],.int .i64 (evt p (tkP p l n)),.int .i64 0]) ∧ Below w.heap.size w w':=by
 have hl:=vld_le h
 by_cases hn:n ≤ 0
 ·have e1:tkP p l n = p:=by simp [tkP,hn]
  have e2:tkL p l n = l:=by simp [tkL,hn]
  rw [e1,e2,evt_same]; exact tick_stay1 p l n w h hn
 ·by_cases hp:p = 0
  ·have e1:tkP p l n = p:=by simp [tkP,hp]
   have e2:tkL p l n = l:=by simp [tkL,hp]
   rw [e1,e2,evt_same]; exact tick_stay2 p l n w h (by omega) (by simpa using hp)
  ·by_cases hk:l ≤ n
   ·have e1:tkP p l n = 0:=by simp [tkP,hn,hp,hk]
    have e2:tkL p l n = 0:=by simp [tkL,hn,hp,hk]
    rw [e1,e2]; exact tick_fail p l n w h (by omega) (by simpa using hp) hk
   ·have e1:tkP p l n = p:=by simp [tkP,hk]
    have e2:tkL p l n = l - n:=by simp [tkL,hn,hp,hk]
    rw [e1,e2,evt_same]; exact tick_go p l n w h (by omega) (by simpa using hp) (by omega) (by omega)
end Go.Proofs.YtehimhbgakpenaaGreat.He
