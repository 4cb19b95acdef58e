/- What a caller hands: steps. -/
import Derived.Test.YtbdopnhfbjdegaaLawPlays
namespace Go.Proofs.Ytbdopnhfbjdegaa
open Go Go.Tr
set_option linter.unusedVariables false
theorem op29 : Opens Try.prog 29 kL (SlW u8 (fun _ n => (Lit.int .u8 n).wf = true) 1) := opens_sl Try.underlying29 (by kernel_rfl) (by kernel_rfl) (opens_int Try.underlying5)
theorem op49 : Opens Try.prog 49 k48 wStep :=
  opens_struct (total := 4) (fun h y w => by obtain ⟨_, _, ⟨ys, a, b, c⟩, _⟩ := w; exact ⟨ys, a, by rw [Nat.mul_one] at c; exact c⟩) Try.underlying49 (by kernel_rfl) (opensF_cons (opens_int Try.underlying3) rfl (by kernel_rfl) (opensF_cons (opens_int Try.underlying3) rfl (by kernel_rfl) (opensF_cons op29 rfl (by kernel_rfl) (opensF_last (opens_int Try.underlying3) rfl (by kernel_rfl) rfl))))
end Go.Proofs.Ytbdopnhfbjdegaa
