/-
  '==' and '!=' on adjacencies and prefixes.
-/
import Derived.Test.YtnfldccaeibcpaaVal
import Derived.Laws.StructEq
namespace Go.Proofs.Ytnfldccaeibcpaa
set_option linter.unusedVariables false
open Go.RowKit

theorem ad_fields : Try.prog.underlying 105 = some (.struct (Try.prog.fieldsOf 105)) := by kernel_rfl
theorem pf_fields : Try.prog.underlying 108 = some (.struct (Try.prog.fieldsOf 108)) := by kernel_rfl
theorem ad_held : Try.prog.stoodInHeld 105 = false := by kernel_rfl
theorem pf_held : Try.prog.stoodInHeld 108 = false := by kernel_rfl
theorem ad_guard : Try.prog.eqGuardType Try.prog.depth 105 = false := by kernel_rfl
theorem pf_guard : Try.prog.eqGuardType Try.prog.depth 108 = false := by kernel_rfl
abbrev adA (x : Ad) : Value := .agg #[.int .i64 x.1, .int .i64 x.2.1, .int .i64 x.2.2]
abbrev pfA (x : Pf) : Value := .agg #[.int .u32 (x.1 : Int), .int .i64 x.2]

theorem ad_fl : ((Try.prog.fieldsOf 105).toList.map fun f => (f.name != "_", f.type, f.offset)) = [(true, 3, 0), (true, 3, 1), (true, 3, 2)] := by kernel_rfl
theorem eq_ad (w : World) (x y : Ad) : (Op.equalIn 10000 105 (adA x) (adA y)).run Try.prog w = .ok (decide (x = y)) w := by
  rw [show (10000 : Nat) = 9999 + 1 from rfl, run_equalIn_agg w 9999 _ _ _ ad_fields ad_held]
  have h := ad_fl
  obtain ⟨f0, f1, f2, hf, n0, t0, o0, n1, t1, o1, n2, t2, o2⟩ : ∃ f0 f1 f2 : Field, (Try.prog.fieldsOf 105).toList = [f0, f1, f2] ∧ (f0.name != "_") = true ∧ f0.type = 3 ∧ f0.offset = 0 ∧ (f1.name != "_") = true ∧ f1.type = 3 ∧ f1.offset = 1 ∧ (f2.name != "_") = true ∧ f2.type = 3 ∧ f2.offset = 2 := by
    generalize (Try.prog.fieldsOf 105).toList = l at h
    rcases l with _ | ⟨f0, _ | ⟨f1, _ | ⟨f2, _ | ⟨f3, l⟩⟩⟩⟩
    all_goals simp at h
    obtain ⟨⟨a, b, c⟩, ⟨d, e, f⟩, g, i, j⟩ := h
    exact ⟨f0, f1, f2, rfl, by simpa using a, b, c, by simpa using d, e, f, by simpa using g, i, j⟩
  rw [hf]
  obtain ⟨x0, x1, x2⟩ := x
  obtain ⟨y0, y1, y2⟩ := y
  simp only [bne_iff_ne] at n0 n1 n2
  simp [Op.eqFields, n0, n1, n2, t0, t1, t2, o0, o1, o2, part, sizeOf]
  have E := fun (W : World) (a b : Int) => run_equalIn_int (P := Try.prog) W 9998 3 .i64 .i64 a b Try.underlying3
  simp only [show (9998 + 1 : Nat) = 9999 from rfl] at E
  simp only [E, Result.andThen_ok]
  by_cases h0 : x0 = y0 <;> by_cases h1 : x1 = y1 <;> by_cases h2 : x2 = y2 <;> simp [h0, h1, h2]
theorem pf_fl : ((Try.prog.fieldsOf 108).toList.map fun f => (f.name != "_", f.type, f.offset)) = [(true, 106, 0), (true, 3, 1)] := by kernel_rfl
theorem eq_pf (w : World) (x y : Pf) : (Op.equalIn 10000 108 (pfA x) (pfA y)).run Try.prog w = .ok (decide (x = y)) w := by
  rw [show (10000 : Nat) = 9999 + 1 from rfl, run_equalIn_agg w 9999 _ _ _ pf_fields pf_held]
  have h := pf_fl
  obtain ⟨f0, f1, hf, n0, t0, o0, n1, t1, o1⟩ : ∃ f0 f1 : Field, (Try.prog.fieldsOf 108).toList = [f0, f1] ∧ (f0.name != "_") = true ∧ f0.type = 106 ∧ f0.offset = 0 ∧ (f1.name != "_") = true ∧ f1.type = 3 ∧ f1.offset = 1 := by
    generalize (Try.prog.fieldsOf 108).toList = l at h
    rcases l with _ | ⟨f0, _ | ⟨f1, _ | ⟨f2, l⟩⟩⟩
    all_goals simp at h
    obtain ⟨⟨a, b, c⟩, d, e, f⟩ := h
    exact ⟨f0, f1, rfl, by simpa using a, b, c, by simpa using d, e, f⟩
  rw [hf]
  obtain ⟨x0, x1⟩ := x
  obtain ⟨y0, y1⟩ := y
  simp only [bne_iff_ne] at n0 n1
  simp [Op.eqFields, n0, n1, t0, t1, o0, o1, part, sizeOf]
  have E := fun (W : World) (a b : Int) => run_equalIn_int (P := Try.prog) W 9998 3 .i64 .i64 a b Try.underlying3
  have F := fun (W : World) (a b : Int) => run_equalIn_int (P := Try.prog) W 9998 106 .u32 .u32 a b Try.underlying106
  simp only [show (9998 + 1 : Nat) = 9999 from rfl] at E F
  simp only [E, F, Result.andThen_ok]
  by_cases h0 : x0 = y0 <;> by_cases h1 : x1 = y1 <;> simp [h0, h1] <;> omega
/-- '!=' and '==' as the walk runs them. -/
theorem neq_ad (w : World) (x y : Ad) : (binOp .neq 105 (adA x) (adA y)).run Try.prog w = .ok (.bool (!decide (x = y))) w := by rw [run_neq_struct, eq_ad]; rfl
theorem eql_ad (w : World) (x y : Ad) : (binOp .eql 105 (adA x) (adA y)).run Try.prog w = .ok (.bool (decide (x = y))) w := by rw [run_eql_struct, eq_ad]; rfl
theorem neq_pf (w : World) (x y : Pf) : (binOp .neq 108 (pfA x) (pfA y)).run Try.prog w = .ok (.bool (!decide (x = y))) w := by rw [run_neq_struct, eq_pf]; rfl
theorem eql_pf (w : World) (x y : Pf) : (binOp .eql 108 (pfA x) (pfA y)).run Try.prog w = .ok (.bool (decide (x = y))) w := by rw [run_eql_struct, eq_pf]; rfl

end Go.Proofs.Ytnfldccaeibcpaa
