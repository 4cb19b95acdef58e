/- The statements' first example, and the small numbers. -/
import Derived.Test.YtanpaamamfabkaaFlowN
import Derived.Test.YtanpaamamfabkaaG2
import Derived.Test.YtanpaamamfabkaaG5
namespace Go.Proofs.Ytanpaamamfabkaa
open Go Go.Tr
set_option linter.unusedVariables false

theorem isEmp_eq (k : ByteArray) : isEmp k = k.data.toList.isEmpty := by
  unfold isEmp
  rw [ByteArray.toList_eq, ByteArray.toList_eq]
  cases k.data.toList <;> rfl
def kc : ByteArray := ⟨#[99]⟩
def ka : ByteArray := ⟨#[97]⟩
def x1 : Item := ⟨false, kc, 0, 3⟩
def x2 : Item := ⟨true, ⟨#[]⟩, 5, 0⟩
theorem route_c : routeA kc 2 = 0 := by kernel_rfl
theorem route_a : routeA ka 2 = 1 := by kernel_rfl
theorem may1 : mayA x1 = 0 := by
  unfold mayA; rw [isEmp_eq]; decide
theorem may2 : mayA x2 = 0 := by
  unfold mayA; rw [isEmp_eq]; decide
theorem kput1 : (AF.new 1 2 1).put 0 x1 = (0, ⟨1, [([x1], 0)], [[], []]⟩) := by
  simp [AF.put, AF.putQ, AF.new, may1]
theorem kput2 : (AF.mk 1 [([x1], 0)] [[], []]).put 0 x2 = (0, ⟨1, [([x1, x2], 0)], [[], []]⟩) := by
  simp [AF.put, AF.putQ, may2]
theorem kpass1 : (AF.mk 1 [([x1, x2], 0)] [[], []]).pass 0 = ((0, 0), ⟨1, [([x2], 0)], [[⟨0, x1⟩], []]⟩) := by
  have h : routeA x1.f1 2 = 0 := route_c
  simp [AF.pass, AF.passQ, AF.towardQ, x1, AF.onward]
  have h : routeA kc 2 = 0 := route_c
  simp [h]
theorem kpass2 : (AF.mk 1 [([x2], 0)] [[⟨0, x1⟩], []]).pass 0 = ((0, 45), ⟨1, [([x2], 0)], [[⟨0, x1⟩], []]⟩) := by
  simp [AF.pass, AF.passQ, AF.towardQ, x2]
theorem ktake : (AF.mk 1 [([x2], 0)] [[⟨0, x1⟩], []]).take 0 = ((0, x1, 0), ⟨1, [([x2], 0)], [[], []]⟩) := by
  simp [AF.take, AF.takeQ]

theorem known_spec (h : H) {Q : Bool → H → Prop} (k : ∀ h', Ext h h' → Q true h') : spatelaw15_known h Q := by
  unfold spatelaw15_known
  refine new_spec 1 2 1 (fun hb => by omega) fun n m kk p h1 F1 e1 e2 e3 _ _ _ _ _ _ R1 n1 x1' => ?_
  obtain rfl : n = 1 := by omega
  obtain rfl : m = 2 := by omega
  obtain rfl : kk = 1 := by omega
  refine new_spec 0 1 1 (fun _ => ?_) fun n m kk p h1 F1 e1 e2 e3 _ _ _ _ _ _ R1 n1 x1' => by omega
  refine jn_i (ite_f rfl (ite_f rfl (ite_f rfl (ite_f rfl ?_))))
  have base : ∀ h2 F2, Frm F1 F2 h1 h2 → Ext h h2 := fun h2 F2 f => ⟨Nat.le_trans x1'.1 f.size, fun b hb => by
    rw [f.keep b (by have := x1'.1; omega) (fun e => by have := n1 b e; omega), x1'.2 b hb]⟩
  refine jn_i (put_spec R1 0 x1 fun h13 F13 R13 f13 => ?_)
  rw [kput1] at R13 ⊢
  refine ite_t rfl (put_spec R13 0 x2 fun h14 F14 R14 f14 => ?_)
  rw [kput2] at R14 ⊢
  refine ite_t rfl (queued_spec R14 0 (ite_t rfl (route_spec R14 kc (by decide) fun h16 e16 => ?_)))
  have R16 := R14.ext e16
  have hc : routeA kc (AF.mk 1 [([x1, x2], 0)] [[], []]).bs.length = 0 := route_c
  rw [hc]
  refine ite_t rfl (route_spec R16 ka (by decide) fun h17 e17 => ?_)
  have R17 := R16.ext e17
  have ha : routeA ka (AF.mk 1 [([x1, x2], 0)] [[], []]).bs.length = 1 := route_a
  rw [ha]
  refine pass_spec R17 0 fun h5 F5 R5 f5 => ?_
  rw [kpass1] at R5 ⊢
  refine pass_spec R5 0 fun h6 F6 R6 f6 => ?_
  rw [kpass2] at R6 ⊢
  refine take_spec R6 0 fun h7 F7 R7 f7 => ?_
  rw [ktake] at R7 ⊢
  refine al_var fun b8 h8 eb8 V8 e8 z8 => ?_
  obtain ⟨h9, s9, V9, O9⟩ := V8.st (Fld.whole k32) x1
  have R9 : FRep h9 p _ F7 := (R7.ext e8).frame (by rw [O9.1]; exact Nat.le_refl _) fun b hb _ => O9.2 b (fun e => by have := R7.lt b hb; omega)
  refine rd_some s9 (jn_i (ite_t rfl (ite_t rfl (ite_t rfl (ite_t rfl (ite_t rfl (rd_some (V9.ld (Fld.whole k32)) (ite_t (by decide) (ite_t rfl (boxed_spec R9 0 (ite_t rfl (empty_spec R9 fun h12 e12 => ?_))))))))))))
  have f9 : Frm F7 F7 h7 h9 := ⟨by rw [O9.1]; exact e8.1, fun b hb _ => by rw [O9.2 b (by omega), e8.2 b hb], fun _ h => .inl h⟩
  exact k h12 (base h12 F7 ((((((f13.trans f14).trans ((Frm.ext e16).trans (Frm.ext e17))).trans f5).trans f6).trans f7).trans (f9.trans (Frm.ext e12))))

theorem small_spec (h : H) (a m : Int) (hm : 0 < m) (hm2 : m < 1000000) {Q : Int → H → Prop} (k : ∀ n : Nat, 1 ≤ n → (n : Int) ≤ m → Q (n : Int) h) : spatelaw15_small a m h Q := by
  unfold spatelaw15_small
  have hr : remI a m = some (a.tmod m) := by unfold remI; rw [if_neg (by omega)]
  have h1 := Int.tmod_lt_of_pos a hm
  have h2 : -m < a.tmod m := by
    have := Int.lt_tmod_of_pos a hm
    omega
  refine rd_some hr ?_
  have fin : ∀ r : Int, 0 ≤ r → r < m → Q (IntKind.i64.wrap (r + 1)) h := fun r r0 r1 => by
    have := k (r + 1).toNat (by omega) (by omega)
    have e : ((r + 1).toNat : Int) = r + 1 := by omega
    rw [e] at this
    rw [wrap64_id (by omega) (by omega)]; exact this
  refine jn_i (ite_b (fun e => ?_) (fun e => ?_))
  · simp at e
    rw [wrap64_id (by omega) (by omega)]
    exact fin _ (by omega) (by omega)
  · simp at e
    exact fin _ (by omega) (by omega)
end Go.Proofs.Ytanpaamamfabkaa
