/- The plays' addresses; how often each did a step. -/
import Derived.Test.YtomngllmnhdmlaaB3
namespace Go.Proofs.Ytomngllmnhdmlaa
open Go Go.Tr
set_option linter.unusedVariables false
def ptrs (L : List PLY) : List (Option Addr) := L.map fun p => some ⟨p.b, 0, none⟩
theorem ptrs_bump (L : List PLY) (n : Nat) : ptrs (bump L n) = ptrs L := by
  have h := bump_b L n
  have e : ∀ L : List PLY, ptrs L = (L.map (·.b)).map fun b => some ⟨b, 0, none⟩ := fun L => by unfold ptrs; rw [List.map_map]; rfl
  rw [e, e, h]
def nxA (L : List PLY) (i : Nat) : Int := match L[i]? with | some p => (p.nx : Int) | none => 0
theorem nxA_at {L : List PLY} {i : Nat} (h : i < L.length) : nxA L i = (L[i].nx : Int) := by unfold nxA; rw [List.getElem?_eq_getElem h]
theorem nxA_bump_ne {L : List PLY} {n i : Nat} (h : n ≠ i) : nxA (bump L n) i = nxA L i := by unfold nxA; rw [bump_at, if_neg h]
theorem nxA_bump {L : List PLY} {n : Nat} (h : n < L.length) : nxA (bump L n) n = nxA L n + 1 := by
  unfold nxA
  rw [bump_at, if_pos rfl, List.getElem?_eq_getElem h]
  rfl
section
variable {h0 h : H} {q : Nat} {W : WS} {B N : Nat} {Ps : List HP}
theorem nx_at (S : SS h0 h Ps) (i : Nat) (hi : Ps[i]? = some (runP q W)) {t : Nat} (ht : t < W.2.length) : ld (kI .i64) ((⟨W.2[t].b, 0, none⟩ : Addr).add 1) h = some (nxA W.2 t) := by
  rw [add_mk, nxA_at ht]; exact run_nx S i hi ht
theorem ptr_at {h : H} {s : Sl} {L : List PLY} (R : Rds kP h s (ptrs L)) {i : Nat} (hi : i < L.length) {Q : Option Addr → Prop} (k : Q (some ⟨L[i].b, 0, none⟩)) : rd (ixA 1 s (i : Int)) fun q => rd (ld kP q h) Q := by
  refine R.elt0 (by unfold ptrs; simpa using hi) rfl ?_
  unfold ptrs
  rw [List.getElem_map]; exact k
end
def row1 (k : Int) : MR := ⟨⟨k, Sl.nil, 0, Sl.nil⟩, [], []⟩
theorem rbagP.more {F0 : Nat → Prop} {h0 h : H} {Ps : List HP} (k : Int) {rows : List MR} (S : SG F0 h0 h Ps) (i : Nat) (hi : Ps[i]? = some (rbagP rows)) : SG F0 h0 h (Ps.set i (rbagP (rows ++ [row1 k]))) :=
  S.imp i hi _ fun F ⟨v, l⟩ => ⟨fun r hr => by
    rcases List.mem_append.1 hr with hr | hr
    · exact v r hr
    · obtain rfl := List.mem_singleton.1 hr
      exact ⟨Own.nil _ _ _, Own.nil _ _ _⟩, l⟩
theorem count_spec (a : Int) {h : H} {Q : Int → H → Prop} (k : ∀ n : Nat, n < 20 → Q (n : Int) h) : spatelaw12_count a h Q := by
  unfold spatelaw12_count
  have h1 := Int.tmod_lt_of_pos a (b := 20) (by decide)
  have h2 : -20 < a.tmod 20 := by
    have := Int.tmod_lt_of_pos (-a) (b := 20) (by decide)
    rw [Int.neg_tmod] at this
    omega
  have hr : remI a 20 = some (a.tmod 20) := by unfold remI; rw [if_neg (by decide)]
  refine rd_some hr (ite_b (fun c => ?_) (fun c => ?_))
  · rw [decide_eq_true_eq] at c
    rw [wrap64_id (by omega) (by omega)]
    have := k (0 - a.tmod 20).toNat (by omega)
    rw [Int.toNat_of_nonneg (by omega)] at this; exact this
  · rw [decide_eq_false_iff_not] at c
    have := k (a.tmod 20).toNat (by omega)
    rw [Int.toNat_of_nonneg (by omega)] at this; exact this
end Go.Proofs.Ytomngllmnhdmlaa
