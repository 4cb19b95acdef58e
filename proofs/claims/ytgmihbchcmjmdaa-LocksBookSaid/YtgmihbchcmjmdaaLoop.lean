/- Counted loops. -/
import Derived.Test.YtgmihbchcmjmdaaPart
namespace Go.Proofs.Ytgmihbchcmjmdaa
open Go Go.Tr
set_option linter.unusedVariables false
/-- for j := i0; j < n; j++, with whatever else it carries; it may end earlier. -/
theorem forG {σ τ ρ : Type} {body : τ → H → (τ ⊕ ρ → H → Prop) → Prop} (mk : σ → Int → τ) {i0 n : Nat} (hi : i0 ≤ n) (hn : n < 4611686018427387904) (I : Nat → σ → H → Prop) {s : σ} {h : H} {Q : ρ → H → Prop} (h0 : I i0 s h)
    (step : ∀ (j : Nat) (s : σ) (h1 : H) (K : τ ⊕ ρ → H → Prop), i0 ≤ j → j < n → I j s h1 → (∀ s' h2, I (j + 1) s' h2 → K (.inl (mk s' (IntKind.i64.wrap ((j : Int) + 1)))) h2) → (∀ b h2, Q b h2 → K (.inr b) h2) → body (mk s j) h1 K)
    (stop : ∀ (s : σ) (h1 : H) (K : τ ⊕ ρ → H → Prop), I n s h1 → (∀ b h2, Q b h2 → K (.inr b) h2) → body (mk s n) h1 K) : loopE body (mk s (i0 : Int)) h Q := by
  refine loopE_rule (fun m t h' => ∃ (j : Nat) (s : σ), t = mk s j ∧ i0 ≤ j ∧ m + j = n ∧ I j s h') (n - i0) ⟨i0, s, rfl, Nat.le_refl _, by omega, h0⟩ ?_
  rintro m _ h1 K ⟨j, s, rfl, hj, hm, hI⟩ next done
  by_cases hlt : j < n
  · refine step j s h1 K hj hlt hI (fun s' h2 hI' => next (m - 1) _ _ (by omega) ⟨j + 1, s', ?_, by omega, by omega, hI'⟩) done
    rw [wrap64_id (by omega) (by omega)]; rfl
  · obtain rfl : j = n := by omega
    exact stop s h1 K hI done
/-- The same, from 0 on. -/
theorem for0 {σ τ ρ : Type} {body : τ → H → (τ ⊕ ρ → H → Prop) → Prop} (mk : σ → Int → τ) {n : Nat} (hn : n < 4611686018427387904) (I : Nat → σ → H → Prop) {s : σ} {h : H} {Q : ρ → H → Prop} (h0 : I 0 s h)
    (step : ∀ (j : Nat) (s : σ) (h1 : H) (K : τ ⊕ ρ → H → Prop), j < n → I j s h1 → (∀ s' h2, I (j + 1) s' h2 → K (.inl (mk s' (IntKind.i64.wrap ((j : Int) + 1)))) h2) → (∀ b h2, Q b h2 → K (.inr b) h2) → body (mk s j) h1 K)
    (stop : ∀ (s : σ) (h1 : H) (K : τ ⊕ ρ → H → Prop), I n s h1 → (∀ b h2, Q b h2 → K (.inr b) h2) → body (mk s n) h1 K) : loopE body (mk s 0) h Q :=
  forG mk (i0 := 0) (Nat.zero_le _) hn I h0 (fun j s h1 K _ => step j s h1 K) stop
theorem clt_t {i n : Nat} (h : i < n) : decide ((i : Int) < (n : Int)) = true := by rw [decide_eq_true_eq]; omega
theorem clt_f {i n : Nat} (h : ¬ i < n) : decide ((i : Int) < (n : Int)) = false := by rw [decide_eq_false_iff_not]; omega
/-- An element read, a part of it. -/
theorem _root_.Go.Tr.Rds.elt {α β : Type} {K : Kd α} {G : Kd β} {off : Nat} {g : α → β} {p : α → β → α} {h : H} {s : Sl} {xs : List α} (f : Fld K G off g p) (R : Rds K h s xs) {i : Nat} (hi : i < xs.length) {n : Nat} (hn : n = K.n) {Q : β → Prop} (k : Q (g xs[i])) :
    rd (ixA n s (i : Int)) fun q => rd (ld G (q.add off) h) Q := by
  obtain ⟨a, ha, hx⟩ := R.ix hi hn
  exact rd_some ha (rd_some (ld_fld f hx) k)
theorem _root_.Go.Tr.Rds.elt0 {α : Type} {K : Kd α} {h : H} {s : Sl} {xs : List α} (R : Rds K h s xs) {i : Nat} (hi : i < xs.length) {n : Nat} (hn : n = K.n) {Q : α → Prop} (k : Q xs[i]) : rd (ixA n s (i : Int)) fun q => rd (ld K q h) Q := by
  obtain ⟨a, ha, hx⟩ := R.ix hi hn
  exact rd_some ha (rd_some hx k)
end Go.Proofs.Ytgmihbchcmjmdaa
