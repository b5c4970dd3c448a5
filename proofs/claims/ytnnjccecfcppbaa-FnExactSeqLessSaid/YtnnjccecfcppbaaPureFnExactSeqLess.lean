/- The pure law of SeqLess: the program's and the reference's answers are the same. No conditions. -/
import Derived.Test.YtnnjccecfcppbaaPFnExactSeqLessx1
namespace Go.Proofs.Ytnnjccecfcppbaa.Pure
open Go.RowKit Go.Proofs.Ytnnjccecfcppbaa.PFnExactSeqLess Go.Proofs.YtnnjccecfcppbaaW.PrintWords Go.Proofs.YtnnjccecfcppbaaW.PrintLast

theorem seqLess_spec (a : Int) : spec_SeqOf.f a = some (a % 65536) := by
  simp only [spec_SeqOf.f, wrap64]
  have h := Int.tmod_add_mul_tdiv a 65536
  have h1 := Int.lt_tmod_of_pos a (b := 65536) (by omega)
  have h2 := Int.tmod_lt_of_pos a (b := 65536) (by omega)
  split <;> congr 1 <;> omega
theorem seqLess_impl (a : Int) : impl_SeqOf.f a = some (a % 65536) := by
  simp only [impl_SeqOf.f, wrap64]
  have h := Int.tmod_add_mul_tdiv a 65536
  have h1 := Int.lt_tmod_of_pos a (b := 65536) (by omega)
  have h2 := Int.tmod_lt_of_pos a (b := 65536) (by omega)
  have h3 := Int.tmod_eq_emod_of_nonneg (a := (((a.tmod 65536 + 65536) + 9223372036854775808) % 18446744073709551616 - 9223372036854775808)) (b := 65536) (by omega)
  congr 1
  omega
theorem FnExactSeqLess : laws_FnExactSeqLess.Pure := by
  intro a0 a1 _ _
  simp only [laws_FnExactSeqLess.f, spec_SeqLess.f, impl_SeqLess.f, impl_in.f, seqLess_spec, seqLess_impl, Option.bind_some]
  by_cases h : 1 ≤ wrap64 (a1 % 65536 - a0 % 65536) % 65536
  · rw [if_pos h, if_pos h]
    simp only [Option.bind_some]
    rw [if_neg]
    simp only [bne_iff_ne, ne_eq, Decidable.not_not, decide_eq_decide]
    omega
  · rw [if_neg h, if_neg h]; rfl

end Go.Proofs.Ytnnjccecfcppbaa.Pure
