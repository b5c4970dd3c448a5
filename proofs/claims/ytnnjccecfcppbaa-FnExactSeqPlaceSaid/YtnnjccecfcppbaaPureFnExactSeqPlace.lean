/- The pure law of SeqPlace: the program's and the reference's answers are the same place. No conditions. -/
import Derived.Test.YtnnjccecfcppbaaPFnExactSeqPlacex1
namespace Go.Proofs.Ytnnjccecfcppbaa.Pure
open Go.RowKit Go.Proofs.Ytnnjccecfcppbaa.PFnExactSeqPlace Go.Proofs.YtnnjccecfcppbaaW.PrintWords Go.Proofs.YtnnjccecfcppbaaW.PrintLast

theorem seqPlace_spec (a : Int) : spec_SeqOf.f a = some (a % 65536) := by
  simp only [spec_SeqOf.f, wrap64]
  have h := Int.tmod_add_mul_tdiv a 65536
  have h1 := Int.lt_tmod_of_pos a (b := 65536) (by omega)
  have h2 := Int.tmod_lt_of_pos a (b := 65536) (by omega)
  split <;> congr 1 <;> omega
theorem seqPlace_impl (a : Int) : impl_SeqOf.f a = some (a % 65536) := by
  simp only [impl_SeqOf.f, wrap64]
  have h := Int.tmod_add_mul_tdiv a 65536
  have h1 := Int.lt_tmod_of_pos a (b := 65536) (by omega)
  have h2 := Int.tmod_lt_of_pos a (b := 65536) (by omega)
  have h3 := Int.tmod_eq_emod_of_nonneg (a := (((a.tmod 65536 + 65536) + 9223372036854775808) % 18446744073709551616 - 9223372036854775808)) (b := 65536) (by omega)
  congr 1
  omega
theorem FnExactSeqPlace : laws_FnExactSeqPlace.Pure := by
  intro a0 a1 _ _
  refine ⟨1, ?_⟩
  simp only [laws_FnExactSeqPlace.f, spec_SeqPlace.f, spec_SeqPlace.j0, impl_SeqPlace.f, impl_seqPlace.f, impl_in.f, spec_l1In.f, seqPlace_spec, seqPlace_impl, Option.bind_some]
  by_cases h0 : 0 ≤ a0 ∧ a0 ≤ 1000000
  · by_cases h1 : 0 ≤ a1 ∧ a1 ≤ 65535
    · obtain ⟨h0, h0'⟩ := h0
      obtain ⟨h1, h1'⟩ := h1
      simp only [ge_iff_le, h0, h0', h1, h1', if_true, Option.bind_some, decide_true, Bool.not_true, Bool.false_eq_true, if_false, wrap64]
      split <;> simp only [Option.bind_some] <;> rw [if_pos] <;> omega
    · by_cases h2 : 0 ≤ a1
      · simp only [ge_iff_le, h0.1, h0.2, h2, show ¬ a1 ≤ 65535 by omega, if_true, Option.bind_some, decide_true, decide_false, Bool.not_false, Bool.false_eq_true, if_false]
      · simp only [ge_iff_le, h0.1, h0.2, h2, if_true, Option.bind_some, decide_true, Bool.not_false, Bool.false_eq_true, if_false]
  · by_cases h2 : 0 ≤ a0
    · simp only [ge_iff_le, h2, show ¬ a0 ≤ 1000000 by omega, if_true, Option.bind_some, decide_false, Bool.false_eq_true, if_false]
    · simp only [ge_iff_le, h2, if_true, Option.bind_some, Bool.false_eq_true, if_false]

end Go.Proofs.Ytnnjccecfcppbaa.Pure
