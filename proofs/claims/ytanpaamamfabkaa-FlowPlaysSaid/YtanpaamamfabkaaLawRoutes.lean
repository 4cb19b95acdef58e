/- FlowRoutes, over the heap. -/
import Derived.Test.YtanpaamamfabkaaFlowK
import Derived.Test.YtanpaamamfabkaaG5
namespace Go.Proofs.Ytanpaamamfabkaa
open Go Go.Tr
set_option linter.unusedVariables false

theorem refhash_spec (key : ByteArray) (h : H) (hk : key.size < 9223372036854775808) {Q : Int → H → Prop} (k : Q (hashA key) h) : spateref15_Hash key h Q := by
  unfold spateref15_Hash
  have hb : (bytesI key).length = key.size := by simp [bytesI]
  refine jn_i (loopE_rule (fun n s h'' => h'' = h ∧ ∃ i : Nat, s.2 = (i : Int) ∧ i ≤ key.size ∧ n = key.size - i ∧ s.1 = ((bytesI key).take i).foldl hashStep 14695981039346656037) key.size ⟨rfl, 0, rfl, by omega, by omega, rfl⟩ ?_)
  rintro n ⟨a, i⟩ h'' K ⟨rfl, i, rfl, hi, rfl, ha⟩ kl kr
  simp only at ha
  subst ha
  unfold spateref15_Hash.b1
  by_cases hlt : i < key.size
  · have hix : ixS key (i : Int) = some ((bytesI key)[i]'(by omega)) := by
      unfold ixS
      rw [if_pos (by omega), Int.toNat_natCast]
      have : key[i]? = some key[i] := by
        rw [getElem?_pos key i hlt]
      rw [this]
      simp [bytesI]
      rfl
    refine ite_t (by simp; omega) (rd_some hix (kl (key.size - (i + 1)) _ _ (by omega) ⟨rfl, i + 1, ?_, by omega, by omega, ?_⟩))
    · simp only
      rw [wrap64_id (by omega) (by omega)]; omega
    · simp only
      rw [List.take_succ_eq_append_getElem (by omega), List.foldl_append]
      rfl
  · refine ite_f (by simp; omega) (kr _ _ ?_)
    rw [List.take_of_length_le (by omega)]
    exact k
theorem operator_spec (key : ByteArray) (m : Nat) (hm : 0 < m) (hm2 : m < 1000000) (h : H) (hk : key.size < 9223372036854775808) {Q : Int → H → Prop} (k : Q (routeA key m) h) : spateref15_Operator key (m : Int) h Q := by
  unfold spateref15_Operator
  refine refhash_spec key h hk ?_
  have hr := routeA_range key hm
  have hw : IntKind.u64.wrap (m : Int) = m := wrapu64_id (by omega) (by omega)
  refine rd_some (x := (IntKind.u64.wrap (hashA key * 11400714819323198485)).fdiv 4294967296) ?_ (rd_some (x := routeA key m) ?_ ?_)
  · unfold shrI; rw [if_neg (by decide)]; rfl
  · unfold remI
    simp only [hw]
    rw [if_neg (by omega)]; rfl
  · rw [wrap64_id (by omega) (by omega)]; exact k
theorem routes_true (ops : Int) (key : ByteArray) (h : H) (hk : key.size ≤ 140737488351232) : spatelaw15_FlowRoutes ops key h fun r h' => r = true ∧ Ext h h' := by
  unfold spatelaw15_FlowRoutes
  refine known_spec h fun h1 e1 => ite_f rfl ?_
  refine new_spec 1 ops 1 (fun hb => ?_) fun n m kk p h2 F2 e2 e3 e4 _ _ c1 c2 _ _ R2 n2 x2 => ?_
  · refine jn_i (ite_t rfl (ite_t rfl ?_))
    refine jn_i (ite_b (fun e => ⟨rfl, e1⟩) fun e => ite_b (fun e => ⟨rfl, e1⟩) fun e' => ?_)
    simp at e e'; omega
  · refine jn_i (ite_f rfl (ite_f rfl ?_))
    refine ite_b (fun e => ?_) fun e => ?_
    · refine jn_i (ite_b (fun e => ⟨rfl, e1.trans x2⟩) fun e => ite_b (fun e => ⟨rfl, e1.trans x2⟩) fun e' => ⟨?_, e1.trans x2⟩)
      assumption
    · subst e3
      have hb : (AF.new n m kk).bs.length = m := by simp [AF.new]
      refine route_spec R2 key (by omega) fun h5 e5 => ?_
      rw [hb]
      exact operator_spec key m (by omega) (by omega) h5 (by omega) ⟨by simp, (e1.trans x2).trans e5⟩
end Go.Proofs.Ytanpaamamfabkaa
