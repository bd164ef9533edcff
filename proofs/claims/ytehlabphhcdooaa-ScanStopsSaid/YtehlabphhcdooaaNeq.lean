/- Two tokens compared. -/
import Derived.Test.YtehlabphhcdooaaS5x0
import Derived.Test.YtehlabphhcdooaaLex2
set_option linter.unusedVariables false
set_option linter.unusedSimpArgs false
namespace Go.Proofs.Ytehlabphhcdooaa.Sc
open Go.RowKit Go.Proofs.YtehlabphhcdooaaW.PrintWords Go.Proofs.YtehlabphhcdooaaW.PrintLast Go.Proofs.YtehlabphhcdooaaW.PrintMore

theorem guard28 : Try.prog.eqGuardType Try.prog.depth 28 = false := by kernel_rfl
theorem neq_tk (k1 a1 n1 k2 a2 n2 : Int) (t1 t2 : ByteArray) (W : World) :
    (binOp .neq 28 (.agg #[.int .i64 k1, .int .i64 a1, .string t1, .int .i64 n1]) (.agg #[.int .i64 k2, .int .i64 a2, .string t2, .int .i64 n2])).run Try.prog W = .ok (.bool !((k1 == k2) && ((a1 == a2) && ((t1.toList == t2.toList) && ((n1 == n2) && true))))) W := by
  have hs : ∃ fs, Try.prog.underlying 28 = some (.struct fs) := ⟨_, Try.underlying28⟩
  have hf : Try.prog.underlying 28 = some (.struct (Try.prog.fieldsOf 28)) := by obtain ⟨fs, h⟩ := hs; simp only [Program.fieldsOf, h]
  rw [run_neq_struct, run_equalIn_struct W 9999 28 _ _ hf (by kernel_rfl)]
  simp only [Program.fieldsOf, Try.underlying28]
  simp [Op.eqFields, go_sem, Try.underlying3, Try.underlying9, Try.underlying2]
  repeat' split
  all_goals simp_all
theorem neq_same (k a n : Nat) (t : List UInt8) (W : World) :
    (binOp .neq 28 (.agg #[.int .i64 k, .int .i64 a, .string ⟨t.toArray⟩, .int .i64 n]) (.agg #[.int .i64 k, .int .i64 a, .string ⟨t.toArray⟩, .int .i64 n])).run Try.prog W = .ok (.bool false) W := by
  rw [neq_tk]; simp
theorem neq_diff (k a n k2 a2 n2 : Nat) (t t2 : List UInt8) (h : (⟨k, a, t, n⟩ : Tk) ≠ ⟨k2, a2, t2, n2⟩) (W : World) :
    (binOp .neq 28 (.agg #[.int .i64 k, .int .i64 a, .string ⟨t.toArray⟩, .int .i64 n]) (.agg #[.int .i64 k2, .int .i64 a2, .string ⟨t2.toArray⟩, .int .i64 n2])).run Try.prog W = .ok (.bool true) W := by
  rw [neq_tk, Lib.toList_data, Lib.toList_data]
  by_cases h1 : k = k2
  · by_cases h2 : a = a2
    · by_cases h3 : t = t2
      · have h4 : n ≠ n2 := fun e => h (by rw [h1, h2, h3, e])
        have h5 : ((n : Int) == (n2 : Int)) = false := beq_eq_false_iff_ne.2 (by omega)
        simp [h5]
      · have h5 : (t == t2) = false := beq_eq_false_iff_ne.2 h3
        simp [h5]
    · have h5 : ((a : Int) == (a2 : Int)) = false := beq_eq_false_iff_ne.2 (by omega)
      simp [h5]
  · have h5 : ((k : Int) == (k2 : Int)) = false := beq_eq_false_iff_ne.2 (by omega)
    simp [h5]
end Go.Proofs.Ytehlabphhcdooaa.Sc
