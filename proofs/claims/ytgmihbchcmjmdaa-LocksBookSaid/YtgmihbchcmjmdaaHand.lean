/- errors.Is, its target an error by its number: of such an error itself, and of one that wraps it. Go's own text, walked. Printed by hand.py, after the kit's worked Sentry. -/
import Derived.Test.YtgmihbchcmjmdaaTy
import Derived.WalkKit
import Derived.LaidEql
import Derived.Stop.Asserts
import Derived.RowKitTokens
namespace Go.Proofs.Ytgmihbchcmjmdaa
open Go Go.Tr
open Go.RowKit Go.Extern.Stop Go.Stop Go.Extern
set_option linter.unusedVariables false
set_option linter.unusedSimpArgs false
set_option maxRecDepth 100000
theorem isTypeOf (v : Value) (w : World) : (Extern.ReflectliteType.typeOf #[.iface 26 v]).run Try.prog w = .ok (.iface 110 (.agg #[.pointer (some ⟨0, 26, none⟩)])) w := by kernel_rfl
theorem isComparable (w : World) : ((Extern.ReflectliteType.method fun t => do Extern.Rtype.noPackHeld "Comparable" t; (fun a => Value.bool a.comparable) <$> typeInfo t) #[.agg #[.pointer (some ⟨0, 26, none⟩)]]).run Try.prog w = .ok (.bool true) w := by kernel_rfl
theorem isMethodComparable (v : Value) (w : World) : (Go.method 255 110 v "Comparable").run Try.prog w = .ok (83, v) w := by kernel_rfl
theorem noIsE (v : Value) (xT : TypeId) (w : World) : (Instr.typeAssert (.iface 26 v) xT 112 true).run Try.prog w = .ok (.tuple #[.nilIface, .bool false]) w := run_typeAssert_lacksB Try.underlying112 (by kernel_rfl) (by kernel_rfl) v xT w
theorem noUnwrapE (v : Value) (xT : TypeId) (w : World) : (Instr.typeAssert (.iface 26 v) xT 115 true).run Try.prog w = .ok (.tuple #[.nilIface, .bool false]) w := run_typeAssert_lacksB Try.underlying115 (by kernel_rfl) (by kernel_rfl) v xT w
theorem noUnwrapsE (v : Value) (xT : TypeId) (w : World) : (Instr.typeAssert (.iface 26 v) xT 117 true).run Try.prog w = .ok (.tuple #[.nilIface, .bool false]) w := run_typeAssert_lacksB Try.underlying117 (by kernel_rfl) (by kernel_rfl) v xT w
theorem eqlE (a b : Int) (w : World) : (binOp .eql 37 (.iface 26 (.int .i64 a)) (.iface 26 (.int .i64 b))).run Try.prog w = .ok (.bool (a == b)) w := by
  have hinfo : (Try.prog.info? 26).map (·.comparable) = some true := by kernel_rfl
  obtain ⟨i, hi, hc⟩ := Option.map_eq_some_iff.1 hinfo
  have h : ∀ d : Nat, (Op.equalIn (d + 2) 37 (.iface 26 (.int .i64 a)) (.iface 26 (.int .i64 b))).run Try.prog w = .ok (a == b) w := fun d => by
    simp [Op.equalIn, run_underlying Try.underlying37, run_underlying Try.underlying26, typeInfo, hi, hc]
  simp only [binOp]
  simp [Op.equal, Op.maxDepth, h 9998]
theorem is_same (n : Int) (w : World) : Calls Try.prog 46 #[.iface 26 (.int .i64 n), .iface 26 (.int .i64 n)] w fun e w' => e = .returned (.bool true) ∧ w' = w := by
  have h8 := @run_callFunc_extern Try.prog 57 _ Extern.ReflectliteType.typeOf Try.func57 (by kernel_rfl) (by kernel_rfl) (by kernel_rfl) (by kernel_rfl)
  have h32 := @run_callFunc_extern Try.prog 83 _ (Extern.ReflectliteType.method fun t => do Extern.Rtype.noPackHeld "Comparable" t; pure (.bool (← typeInfo t).comparable)) Try.func83 (by kernel_rfl) (by kernel_rfl) (by kernel_rfl) (by kernel_rfl)
  have tT := isTypeOf
  have cT := isComparable
  have mR := isMethodComparable
  have nE := noIsE
  have uE := noUnwrapE
  have vE := noUnwrapsE
  have heq : (binOp .eql 37 (.iface 26 (.int .i64 n)) (.iface 26 (.int .i64 n))).run Try.prog w = .ok (.bool true) w := by rw [eqlE]; simp
  go_enter Try.func46, Try.ntmps46
  go_wp2
  refine wp_loop_rounds 1 ?_
  rw [rounds_succ]
  go_wp2
  go_ret
  exact ⟨rfl, rfl⟩
theorem is_other (n : Int) (m : Int) (hne : (m == n) = false) (w : World) : Calls Try.prog 46 #[.iface 26 (.int .i64 m), .iface 26 (.int .i64 n)] w fun e w' => e = .returned (.bool false) ∧ w' = w := by
  have h8 := @run_callFunc_extern Try.prog 57 _ Extern.ReflectliteType.typeOf Try.func57 (by kernel_rfl) (by kernel_rfl) (by kernel_rfl) (by kernel_rfl)
  have h32 := @run_callFunc_extern Try.prog 83 _ (Extern.ReflectliteType.method fun t => do Extern.Rtype.noPackHeld "Comparable" t; pure (.bool (← typeInfo t).comparable)) Try.func83 (by kernel_rfl) (by kernel_rfl) (by kernel_rfl) (by kernel_rfl)
  have tT := isTypeOf
  have cT := isComparable
  have mR := isMethodComparable
  have nE := noIsE
  have uE := noUnwrapE
  have vE := noUnwrapsE
  have heq : (binOp .eql 37 (.iface 26 (.int .i64 m)) (.iface 26 (.int .i64 n))).run Try.prog w = .ok (.bool false) w := by rw [eqlE, hne]
  clear hne
  go_enter Try.func46, Try.ntmps46
  go_wp2
  refine wp_loop_rounds 1 ?_
  rw [rounds_succ]
  go_wp2
  go_ret
  exact ⟨rfl, rfl⟩
theorem noIsref (v : Value) (xT : TypeId) (w : World) : (Instr.typeAssert (.iface 82 v) xT 112 true).run Try.prog w = .ok (.tuple #[.nilIface, .bool false]) w := run_typeAssert_lacksB Try.underlying112 (by kernel_rfl) (by kernel_rfl) v xT w
theorem hasUnwrapref (v : Value) (xT : TypeId) (w : World) : (Instr.typeAssert (.iface 82 v) xT 115 true).run Try.prog w = .ok (.tuple #[.iface 82 v, .bool true]) w := run_typeAssert_hasB Try.underlying115 (by kernel_rfl) v xT w
theorem methodUnwrapref (v : Value) (w : World) : (Go.method 255 82 v "Unwrap").run Try.prog w = .ok (79, v) w := by kernel_rfl
theorem is_ref_same (n : Int) (pb po : Nat) (w : World) (h1 : w.cell? ⟨pb, po + 1, none⟩ = some (.iface 26 (.int .i64 n))) :
    Calls Try.prog 46 #[.iface 82 (.pointer (some ⟨pb, po, none⟩)), .iface 26 (.int .i64 n)] w fun e w' => e = .returned (.bool true) ∧ w' = w := by
  have h8 := @run_callFunc_extern Try.prog 57 _ Extern.ReflectliteType.typeOf Try.func57 (by kernel_rfl) (by kernel_rfl) (by kernel_rfl) (by kernel_rfl)
  have h32 := @run_callFunc_extern Try.prog 83 _ (Extern.ReflectliteType.method fun t => do Extern.Rtype.noPackHeld "Comparable" t; pure (.bool (← typeInfo t).comparable)) Try.func83 (by kernel_rfl) (by kernel_rfl) (by kernel_rfl) (by kernel_rfl)
  have tT := isTypeOf
  have cT := isComparable
  have mR := isMethodComparable
  have nE := noIsE
  have uE := noUnwrapE
  have vE := noUnwrapsE
  have nW := noIsref
  have uW := hasUnwrapref
  have mU := methodUnwrapref
  have heq : (binOp .eql 37 (.iface 26 (.int .i64 n)) (.iface 26 (.int .i64 n))).run Try.prog w = .ok (.bool true) w := by rw [eqlE]; simp
  have hty := run_eql_iface_types (P := Try.prog) 82 26 (.pointer (some ⟨pb, po, none⟩)) (.int .i64 n) Try.underlying37 (by decide) w
  go_enter Try.func46, Try.ntmps46
  go_wp2
  refine wp_loop_rounds 2 ?_
  rw [rounds_succ]
  go_wp2
  rw [rounds_succ]
  go_wp2
  go_ret
  exact ⟨rfl, rfl⟩
theorem is_ref_other (n : Int) (m : Int) (hne : (m == n) = false) (pb po : Nat) (w : World) (h1 : w.cell? ⟨pb, po + 1, none⟩ = some (.iface 26 (.int .i64 m))) :
    Calls Try.prog 46 #[.iface 82 (.pointer (some ⟨pb, po, none⟩)), .iface 26 (.int .i64 n)] w fun e w' => e = .returned (.bool false) ∧ w' = w := by
  have h8 := @run_callFunc_extern Try.prog 57 _ Extern.ReflectliteType.typeOf Try.func57 (by kernel_rfl) (by kernel_rfl) (by kernel_rfl) (by kernel_rfl)
  have h32 := @run_callFunc_extern Try.prog 83 _ (Extern.ReflectliteType.method fun t => do Extern.Rtype.noPackHeld "Comparable" t; pure (.bool (← typeInfo t).comparable)) Try.func83 (by kernel_rfl) (by kernel_rfl) (by kernel_rfl) (by kernel_rfl)
  have tT := isTypeOf
  have cT := isComparable
  have mR := isMethodComparable
  have nE := noIsE
  have uE := noUnwrapE
  have vE := noUnwrapsE
  have nW := noIsref
  have uW := hasUnwrapref
  have mU := methodUnwrapref
  have heq : (binOp .eql 37 (.iface 26 (.int .i64 m)) (.iface 26 (.int .i64 n))).run Try.prog w = .ok (.bool false) w := by rw [eqlE]; rw [hne]
  clear hne
  have hty := run_eql_iface_types (P := Try.prog) 82 26 (.pointer (some ⟨pb, po, none⟩)) (.int .i64 n) Try.underlying37 (by decide) w
  go_enter Try.func46, Try.ntmps46
  go_wp2
  refine wp_loop_rounds 2 ?_
  rw [rounds_succ]
  go_wp2
  rw [rounds_succ]
  go_wp2
  go_ret
  exact ⟨rfl, rfl⟩
/-- Errors that are numbers, or wrap one. -/
def ErrIs (e : IF) (h : H) (m : Int) : Prop := e = some (26, .int .i64 m) ∨ (∃ pb po, e = some (82, .pointer (some ⟨pb, po, none⟩)) ∧ hcell h ⟨pb, po + 1, none⟩ = some (.iface 26 (.int .i64 m)))
def errors_Is (e t : IF) (h : H) (Q : Bool → H → Prop) : Prop := ∃ m n, ErrIs e h m ∧ t = some (26, .int .i64 n) ∧ Q (m == n) h
theorem errors_Is.sound {a0 a1 : IF} {h : H} {Q : Bool → H → Prop} (hF : errors_Is a0 a1 h Q) : CallsH Try.prog 46 (List.toArray (α := Value) [IF.val a0, IF.val a1]) h fun v h' => ∃ x : Bool, v = .bool x ∧ Q x h' := by
  obtain ⟨m, n, he, rfl, hQ⟩ := hF
  intro c d
  have fin : ∀ e w', (e = Ending.returned (.bool (m == n)) ∧ w' = c.w h d) → ∃ v h' d', e = .returned v ∧ w' = c.w h' d' ∧ ∃ x : Bool, v = .bool x ∧ Q x h' := fun e w' ⟨h1, h2⟩ => ⟨_, h, d, h1, h2, _, rfl, hQ⟩
  rcases he with rfl | ⟨pb, po, rfl, hc⟩
  · cases hb : (m == n) with
    | true =>
      obtain rfl : m = n := by simpa using hb
      rw [hb] at fin
      exact (is_same m (c.w h d)).mono fin
    | false =>
      rw [hb] at fin
      exact (is_other n m hb (c.w h d)).mono fin
  · cases hb : (m == n) with
    | true =>
      obtain rfl : m = n := by simpa using hb
      rw [hb] at fin
      exact (is_ref_same m pb po (c.w h d) hc).mono fin
    | false =>
      rw [hb] at fin
      exact (is_ref_other n m hb pb po (c.w h d) hc).mono fin
end Go.Proofs.Ytgmihbchcmjmdaa
