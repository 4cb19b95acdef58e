/- The locks chapter's names for this seat's numbers. Printed by names.py. -/
import Derived.Test.YtgmihbchcmjmdaaG0
import Derived.Test.YtgmihbchcmjmdaaG1
namespace Go.Proofs.Ytgmihbchcmjmdaa
open Go Go.Tr
abbrev Lk := S31
abbrev kLk : Kd Lk := k31
abbrev zLk : Lk := z31
abbrev Claim := S85
abbrev kClaim : Kd Claim := k85
abbrev zClaim : Claim := z85
abbrev Mgr := S76
abbrev kMgr : Kd Mgr := k76
abbrev zMgr : Mgr := z76
abbrev Refd := S83
abbrev kRefd : Kd Refd := k83
abbrev zRefd : Refd := z83
abbrev tErrno : Nat := 26
abbrev tRef : Nat := 82
abbrev nFind1 : Nat := 56
abbrev nAgainst : Nat := 45
theorem func_find1 : ∃ f, Try.prog.funcs[nFind1]? = some f ∧ (f.name == "runtime.NumGoroutine") = false ∧ f.body.isNone = false := ⟨_, Try.func56, by rfl, by rfl⟩
theorem func_against : ∃ f, Try.prog.funcs[nAgainst]? = some f ∧ (f.name == "runtime.NumGoroutine") = false ∧ f.body.isNone = false := ⟨_, Try.func45, by rfl, by rfl⟩
end Go.Proofs.Ytgmihbchcmjmdaa
