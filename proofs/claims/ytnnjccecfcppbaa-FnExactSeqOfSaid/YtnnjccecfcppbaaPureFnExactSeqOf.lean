/- The pure law of SeqOf: both remainders are the same number. No conditions. -/
import Derived.Test.YtnnjccecfcppbaaPFnExactSeqOfx1
namespace Go.Proofs.Ytnnjccecfcppbaa.Pure
open Go.RowKit Go.Proofs.Ytnnjccecfcppbaa.PFnExactSeqOf Go.Proofs.YtnnjccecfcppbaaW.PrintWords Go.Proofs.YtnnjccecfcppbaaW.PrintLast

theorem FnExactSeqOf : laws_FnExactSeqOf.Pure := by
  intro a0 _
  simp only [laws_FnExactSeqOf.f, spec_SeqOf.f, impl_SeqOf.f, wrap64]
  have h := Int.tmod_add_mul_tdiv a0 65536
  have h1 := Int.lt_tmod_of_pos a0 (b := 65536) (by omega)
  have h2 := Int.tmod_lt_of_pos a0 (b := 65536) (by omega)
  have h3 := Int.tmod_eq_emod_of_nonneg (a := (((a0.tmod 65536 + 65536) + 9223372036854775808) % 18446744073709551616 - 9223372036854775808)) (b := 65536) (by omega)
  split <;> simp only [Option.bind_some] <;> rw [if_pos] <;> omega

end Go.Proofs.Ytnnjccecfcppbaa.Pure
