/- The program's flow: New. -/
import Derived.Test.YtanpaamamfabkaaFlowP4
namespace Go.Proofs.Ytanpaamamfabkaa
open Go Go.Tr
set_option linter.unusedVariables false

def boxAt (B k i j : Nat) : S61 := if j < i then ⟨⟨some ⟨B + j, 0, none⟩, k, k⟩, 0, 0⟩ else z61
def boxesAt (B k m i : Nat) : List S61 := (List.range m).map (boxAt B k i)
theorem boxesAt_set {B k m i : Nat} (hi : i < m) (x : S61) (hx : x = ⟨⟨some ⟨B + i, 0, none⟩, k, k⟩, 0, 0⟩) : (boxesAt B k m i).set i x = boxesAt B k m (i + 1) := by
  subst hx
  apply List.ext_getElem?
  intro j
  unfold boxesAt
  by_cases e : j = i
  · subst e
    rw [List.getElem?_set_self (by simpa using hi)]
    simp [hi, boxAt]
  · rw [List.getElem?_set_ne (Ne.symm e)]
    simp only [List.getElem?_map]
    cases h : (List.range m)[j]? with
    | none => rfl
    | some y =>
      obtain ⟨_, rfl⟩ : j < m ∧ j = y := by
        by_cases hj : j < m
        · rw [List.getElem?_range hj] at h; exact ⟨hj, by simpa using h⟩
        · rw [List.getElem?_eq_none (by simpa using hj)] at h; cases h
      simp only [Option.map_some, boxAt]
      by_cases h1 : j < i
      · rw [if_pos h1, if_pos (by omega)]
      · rw [if_neg h1, if_neg (by omega)]
theorem boxesAt_zero (B k m : Nat) : boxesAt B k m 0 = List.replicate m z61 := by
  apply List.ext_getElem?
  intro j
  simp [boxesAt, List.getElem?_replicate]
  by_cases h : j < m <;> simp [h, boxAt]

theorem new_fill {h : H} {n m k bF bq bb : Nat} (hn : 1 ≤ n) (hn8 : n ≤ 8) (hm : 1 ≤ m) (hm8 : m ≤ 8) (hk : 1 ≤ k) (hk64 : k ≤ 64) (hF : Var k58 h bF ⟨⟨some ⟨bq, 0, none⟩, n, n⟩, ⟨some ⟨bb, 0, none⟩, m, m⟩⟩)
    (hq : Arr k78 h bq (List.replicate n z78)) (hb : Arr k61 h bb (List.replicate m z61)) (h12 : bF ≠ bq) (h13 : bF ≠ bb) (h23 : bq ≠ bb) {K : Unit → H → Prop}
    (kk : ∀ h', FRep h' ⟨bF, 0, none⟩ (AF.new n m k) (fun b => b = bF ∨ b = bq ∨ b = bb ∨ h.size ≤ b ∧ b < h'.size) → (∀ b, b < h.size → b ≠ bb → h'[b]? = h[b]?) → h.size ≤ h'.size → K () h') :
    rd (some (⟨bF, 0, none⟩ : Addr)) fun q1 => rd (ld kL (q1.add 1) h) fun x1 => loopE (flow_New.b1 (k : Int) (some ⟨bF, 0, none⟩) (x1.len : Int)) 0 h (fun r1 hh => K r1 hh) := by
  have ldb : ∀ h', h'[bF]? = h[bF]? → ld kL ((⟨bF, 0, none⟩ : Addr).add 1) h' = some ⟨some ⟨bb, 0, none⟩, m, m⟩ := fun h' e => (hF.same e).ld ff_boxes
  have hFl := Blk.lt hF
  have hql := Blk.lt hq
  have hbl := Blk.lt hb
  refine rd_some rfl (rd_some (ldb h rfl) ?_)
  refine loopE_rule (fun μ s h' => ∃ i : Nat, s = (i : Int) ∧ i ≤ m ∧ μ = m - i ∧ h'.size = h.size + i ∧ (∀ b, b < h.size → b ≠ bb → h'[b]? = h[b]?) ∧ Arr k61 h' bb (boxesAt h.size k m i) ∧ ∀ j, j < i → Arr k82 h' (h.size + j) (List.replicate k z82)) m
    ⟨0, rfl, by omega, by omega, rfl, fun _ _ _ => rfl, by rw [boxesAt_zero]; exact hb, fun j hj => by omega⟩ ?_
  rintro μ s h1 K1 ⟨i, rfl, hi, rfl, hs, keep, ab, ar⟩ kl kr
  unfold flow_New.b1
  have kF := keep bF hFl h13
  by_cases hlt : i < m
  · refine ite_t (by simp; omega) (rd_some rfl (rd_some (ldb h1 kF) ?_))
    refine mk_own (by decide) (by omega) (by omega) fun s3 h4 e3 o3 a3 x3 hs4 => ?_
    have ab4 : Arr k61 h4 bb _ := ab.same (x3.2 bb (by omega))
    have hil : i < (boxesAt h.size k m i).length := by simpa [boxesAt] using hlt
    obtain ⟨h5, s5, a5, O5⟩ := ab4.st fb_ring hil (o := i * 3 + 0) rfl s3
    rw [boxesAt_set hlt _ (by simp [boxesAt, boxAt, e3, hs, z61])] at a5
    refine rd_some (ixA_arr hlt) (rd_some s5 (kl (m - (i + 1)) _ _ (by omega) ⟨i + 1, (wrap64_id (by omega) (by omega)).trans (by omega), by omega, by omega, by rw [O5.1]; omega, fun b hb1 hb2 => ?_, a5, fun j hj => ?_⟩))
    · rw [O5.2 b hb2, x3.2 b (by omega), keep b hb1 hb2]
    · by_cases e : j = i
      · subst e
        exact (by rw [hs] at a3; exact a3 : Arr k82 h4 (h.size + j) _).same (O5.2 _ (by omega))
      · have := ar j (by omega)
        exact this.same (by rw [O5.2 _ (by omega), x3.2 _ (by omega)])
  · have hie : i = m := by omega
    subst hie
    refine ite_f (by simp) (kr _ _ (kk h1 ?_ keep (by omega)))
    refine ⟨AF.Ok.new hn hn8 hm hm8 hk hk64, fun b => if b = bF then some .f else if b = bq then some .qa else if b = bb then some .ba else if h.size ≤ b ∧ b < h1.size then some (.r (b - h.size)) else none, bF, bq, bb, List.replicate n z78, boxesAt h.size k i i, ?_, ?_⟩
    · refine { p := rfl, of := by simp, oq := ?_, ob := ?_, lt := fun b hb => ?_, f := ?_, q := ?_, ql := by simp [AF.new], qr := ?_, b := ab, bl := by simp [AF.new, boxesAt], br := ?_ }
      · rw [if_neg (Ne.symm h12)]; simp
      · rw [if_neg (Ne.symm h13), if_neg (Ne.symm h23)]; simp
      · by_cases e1 : b = bF
        · omega
        · by_cases e2 : b = bq
          · omega
          · by_cases e3 : b = bb
            · omega
            · rw [if_neg e1, if_neg e2, if_neg e3] at hb
              by_cases e4 : h.size ≤ b ∧ b < h1.size
              · exact e4.2
              · rw [if_neg e4] at hb; exact absurd rfl hb
      · simpa [AF.new] using hF.same kF
      · exact hq.same (keep bq hql h23)
      · intro j c q hc hq'
        simp [AF.new, List.getElem?_replicate] at hc hq'
        obtain ⟨_, rfl⟩ := hc
        obtain ⟨_, rfl⟩ := hq'
        exact ⟨Own.nil _ _ _, rfl⟩
      · intro j c l hc hl
        simp [AF.new, List.getElem?_replicate] at hl
        obtain ⟨hj, rfl⟩ := hl
        simp [boxesAt, hj, boxAt] at hc
        subst hc
        refine ⟨h.size + j, List.replicate k z82, 0, rfl, ?_, ar j hj, by simp [AF.new], by simp [AF.new]; omega, by simp, fun i' hi' => by simp at hi'⟩
        rw [if_neg (by omega), if_neg (by omega), if_neg (by omega), if_pos (by omega)]
        simp
    · funext b
      apply propext
      by_cases e1 : b = bF
      · simp [e1]
      · by_cases e2 : b = bq
        · simp [e2, Ne.symm h12]
        · by_cases e3 : b = bb
          · simp [e3, Ne.symm h13, Ne.symm h23]
          · simp [e1, e2, e3]

theorem new_spec {h : H} (a0 a1 a2 : Int) {Q : (Option Addr × Int) → H → Prop} (bad : (a0 < 1 ∨ a0 > 8 ∨ a1 < 1 ∨ a1 > 8 ∨ a2 < 1 ∨ a2 > 64) → Q (none, 1) h)
    (good : ∀ (n m k : Nat) p h' F', a0 = n → a1 = m → a2 = k → 1 ≤ n → n ≤ 8 → 1 ≤ m → m ≤ 8 → 1 ≤ k → k ≤ 64 → FRep h' p (AF.new n m k) F' → (∀ b, F' b → h.size ≤ b) → Ext h h' → Q (some p, 0) h') : flow_New a0 a1 a2 h Q := by
  unfold flow_New
  refine jn_c (decide (a0 < 1) || (decide (a0 > 8) || (decide (a1 < 1) || (decide (a1 > 8) || (decide (a2 < 1) || decide (a2 > 64)))))) h (fun K hK => ?_) ?_
  · refine ite_b (fun e => by rw [e] at hK; exact hK) fun e => ?_
    rw [e, Bool.false_or] at hK
    refine ite_b (fun e => by rw [e] at hK; exact hK) fun e => ?_
    rw [e, Bool.false_or] at hK
    refine ite_b (fun e => by rw [e] at hK; exact hK) fun e => ?_
    rw [e, Bool.false_or] at hK
    refine ite_b (fun e => by rw [e] at hK; exact hK) fun e => ?_
    rw [e, Bool.false_or] at hK
    refine ite_b (fun e => by rw [e] at hK; exact hK) fun e => ?_
    rw [e, Bool.false_or] at hK
    exact hK
  refine ite_b (fun e => bad (by simpa using e)) fun e => ?_
  have hr : 1 ≤ a0 ∧ a0 ≤ 8 ∧ 1 ≤ a1 ∧ a1 ≤ 8 ∧ 1 ≤ a2 ∧ a2 ≤ 64 := by simp at e; omega
  obtain ⟨n, rfl⟩ : ∃ n : Nat, a0 = n := ⟨a0.toNat, by omega⟩
  obtain ⟨m, rfl⟩ : ∃ n : Nat, a1 = n := ⟨a1.toNat, by omega⟩
  obtain ⟨k, rfl⟩ : ∃ n : Nat, a2 = n := ⟨a2.toNat, by omega⟩
  have fin : ∀ h' bF bq bb, Var k58 h' bF ⟨⟨some ⟨bq, 0, none⟩, n, n⟩, ⟨some ⟨bb, 0, none⟩, m, m⟩⟩ → Arr k78 h' bq (List.replicate n z78) → Arr k61 h' bb (List.replicate m z61) → bF ≠ bq → bF ≠ bb → bq ≠ bb → h.size ≤ bF → h.size ≤ bq → h.size ≤ bb → Ext h h' →
      jn (fun (k3 : Unit → H → Prop) => rd (some (⟨bF, 0, none⟩ : Addr)) fun q1 => rd (ld kL (q1.add 1) h') fun x1 => loopE (flow_New.b1 (k : Int) (some ⟨bF, 0, none⟩) (x1.len : Int)) 0 h' (fun r1 hh => k3 r1 hh)) fun s3 h3 => Q (some ⟨bF, 0, none⟩, 0) h3 := by
    intro h' bF bq bb v1 v2 v3 n1 n2 n3 l1 l2 l3 e
    refine jn_i (new_fill (by omega) (by omega) (by omega) (by omega) (by omega) (by omega) v1 v2 v3 n1 n2 n3 fun h'' R keep hs => ?_)
    have e1 := e.1
    refine good n m k _ h'' _ rfl rfl rfl (by omega) (by omega) (by omega) (by omega) (by omega) (by omega) R (fun b hb => by omega) ⟨by omega, fun b hb => ?_⟩
    rw [keep b (by omega) (by omega), e.2 b hb]
  refine jn_i ⟨?_, ?_⟩
  · refine mk_own (by decide) (by omega) (by omega) fun s4 h7 e4 o4 a4 x4 z4 => mk_own (by decide) (by omega) (by omega) fun s5 h8 e5 o5 a5 x5 z5 => al_var fun b9 h9 eb9 V9 x9 z9 => ?_
    subst e4 e5
    exact fin h9 b9 h.size h7.size V9 ((a4.ext x5).ext x9) (a5.ext x9) (by omega) (by omega) (by omega) (by omega) (by omega) (by omega) (x4.trans (x5.trans x9))
  · refine mk_own (by decide) (by omega) (by omega) fun s4 h7 e4 o4 a4 x4 z4 => mk_own (by decide) (by omega) (by omega) fun s5 h8 e5 o5 a5 x5 z5 => al_var fun b9 h9 eb9 V9 x9 z9 => ?_
    subst e4 e5
    exact fin h9 b9 h7.size h.size V9 (a5.ext x9) ((a4.ext x5).ext x9) (by omega) (by omega) (by omega) (by omega) (by omega) (by omega) (x4.trans (x5.trans x9))
end Go.Proofs.Ytanpaamamfabkaa
