/-
  The texts MsRU, MsL, Sp8, one after the other.
-/
import Derived.Test.YtehimhbgakpenaaGreatQPWith30
import Derived.Test.YtehimhbgakpenaaGreatQPWith31
import Derived.Test.YtehimhbgakpenaaGreatQPWith19
import Derived.Test.YtehimhbgakpenaaGreatQPWith27
import Derived.Test.YtehimhbgakpenaaGreatQPWith28
namespace Go.Proofs.YtehimhbgakpenaaGreat
set_option linter.unusedVariables false
open Go.RowKit Go.Sort
def Fin (bs:List UInt8) (M:Ms) (ye:Int):Prop:=(unpE bs = if ye = 0 ∧ msB M = true then 0 else 4) ∧ (ye = 0 → msB M = true → unpM bs = M ∧ msEnc M = bs)
end Go.Proofs.YtehimhbgakpenaaGreat

namespace Go.Proofs.YtehimhbgakpenaaGreat
set_option linter.unusedVariables false
open Go.RowKit Go.Sort
end Go.Proofs.YtehimhbgakpenaaGreat

namespace Go.Proofs.YtehimhbgakpenaaGreat
set_option linter.unusedVariables false
open Go.RowKit Go.Maps Go.Sort
set_option maxRecDepth 100000 in
set_option maxHeartbeats 3200000 in
theorem timed_any (w:World) (h1 h2 h3:Int):Calls Tryz.prog 29 #[.agg #[.int .i64 h1,.int .i64 h2,.int .i64 h3]] w fun e w'=>e = .returned (.bool (tmB h1 h2 h3)) ∧ Below w.heap.size w w':=by
 have S:=(St.start w).new' #[.int .i64 h1,.int .i64 h2,.int .i64 h3] 27 w.heap.size _ rfl rfl
 have hb9:=S.b
 have c0:=S.c 0 0 rfl rfl
 have c1:=S.c 0 1 rfl rfl
 have c2:=S.c 0 2 rfl rfl
 go_enter Tryz.func29,Tryz.ntmps29
 go_wp2_with fail
 all_goals
  go_ret
  exact ⟨ret_bool (Bool.eq_iff_iff.2 (by simp [tmB,wiB] <;> omega)),hb9⟩
section
variable {H:Type} {enc:TypeId × Value → H} {w:World} {base:Nat} {spare:Nat → Bool} {held:Bool} {r:Reach} {b0:Nat} {v:Value} {d:DataW H} {ps:List MemPlace}
set_option maxRecDepth 100000 in
theorem arg_tm (hv:Value.okWide Tryz.prog w r b0 27 v) (h:DataW.Trod enc Tryz.prog w base spare held 27 v d ps):∃ h1 h2 h3,v = .agg #[.int .i64 h1,.int .i64 h2,.int .i64 h3]:=by
 have OI:Opens Tryz.prog w 3 _:=opens_int (w:=w) Tryz.underlying3 (by kernel_rfl)
 have O:Opens Tryz.prog w 27 _:=opens_struct3 (w:=w) Tryz.underlying27 rfl rfl rfl (by kernel_rfl) (by kernel_rfl) (by kernel_rfl) (by kernel_rfl) OI OI OI
 obtain ⟨cs,x,rfl,v0,v1,v2,rfl,⟨e0,_⟩,⟨e1,_⟩,⟨e2,_⟩⟩:=arg_struct Tryz.underlying27 O hv h
 simp only [List.cons.injEq,and_true] at e0 e1 e2
 subst e0 e1 e2
 exact ⟨_,_,_,rfl⟩
end
end Go.Proofs.YtehimhbgakpenaaGreat
