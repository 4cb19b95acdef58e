/- What a caller hands: steps. -/
import Derived.Test.YtgmihbchcmjmdaaLawPlays
namespace Go.Proofs.Ytgmihbchcmjmdaa
open Go Go.Tr
set_option linter.unusedVariables false
theorem op32 : Opens Try.prog 32 kLk (fun _ _ => True) :=
  opens_struct (total := 2) (fun h y w => trivial) Try.underlying32 (by kernel_rfl) (opensF_cons (opens_int Try.underlying3) rfl (by kernel_rfl) (opensF_last (opens_bool Try.underlying4) rfl (by kernel_rfl) rfl))
theorem op30 : Opens Try.prog 30 kL (SlW kLk (fun _ _ => True) 16) := opens_sl Try.underlying30 (by kernel_rfl) (by kernel_rfl) op32
theorem op53 : Opens Try.prog 53 kStep wStep :=
  opens_struct (total := 3) (fun h y w => by obtain ⟨_, _, ys, a, b, c⟩ := w; exact ⟨ys, a, by unfold reachBytes at c; omega⟩) Try.underlying53 (by kernel_rfl) (opensF_cons (opens_int Try.underlying3) rfl (by kernel_rfl) (opensF_cons (opens_int Try.underlying3) rfl (by kernel_rfl) (opensF_last op30 rfl (by kernel_rfl) rfl)))
end Go.Proofs.Ytgmihbchcmjmdaa
