/- NetApart, over the heap. -/
import Derived.Test.YtbdopnhfbjdegaaNetD
import Derived.Test.YtbdopnhfbjdegaaLawPlays
import Derived.Test.YtbdopnhfbjdegaaG7
namespace Go.Proofs.Ytbdopnhfbjdegaa
open Go Go.Tr
set_option linter.unusedVariables false
set_option maxRecDepth 100000
theorem apart_true (a0 a1 : Int) (l : Sl) (xs : List S48) (m : Sl) (zs : List S48) (h : H) (hl : Rds k48 h l xs) (hw : ∀ y ∈ xs, wStep h y) (hx : xs.length * 48 ≤ reachBytes) (ml : Rds k48 h m zs) (mw : ∀ y ∈ zs, wStep h y) (hz : zs.length * 48 ≤ reachBytes) :
    spatelaw16_NetApart a0 a1 l m h fun r h' => r = true ∧ Ext h h' := by
  unfold spatelaw16_NetApart
  have S0 : SS h h [] := SS.nil (Ext.refl h)
  refine small_spec a0 30 (by decide) (by decide) fun i i0 i1 => small_spec a1 30 (by decide) (by decide) fun o o0 o1 => ?_
  obtain ⟨i, rfl⟩ := Int.eq_ofNat_of_zero_le i0
  obtain ⟨o, rfl⟩ := Int.eq_ofNat_of_zero_le o0
  have ei : IntKind.i64.wrap (1 + (i : Int)) = ((i + 1 : Nat) : Int) := (wrap64_id (by omega) (by omega)).trans (by omega)
  have eo : IntKind.i64.wrap (1 + (o : Int)) = ((o + 1 : Nat) : Int) := (wrap64_id (by omega) (by omega)).trans (by omega)
  rw [ei, eo]
  refine new_good S0 (i := i + 1) (o := o + 1) (by omega) (by omega) (by omega) (by omega) fun p h1 e1 S1 => ?_
  refine new_good S1 (i := i + 1) (o := o + 1) (by omega) (by omega) (by omega) (by omega) fun q h2 e2 S2 => ?_
  have okN : (AN.new (i + 1) (o + 1)).Ok 0 := AN.Ok.new (by omega) (by omega) (by omega) (by omega)
  generalize hN : AN.new (i + 1) (o + 1) = N0 at *
  have S2 : SS h h2 [netP p N0, netP q N0] := SG.swap S2
  have hlk : N0.look 3 = .none := by rw [← hN]; rfl
  have ho : N0.open' 3 = (0, N0.put 3 .fresh) := by unfold AN.open'; rw [hlk]; rfl
  have ok1 : (N0.put 3 .fresh).Ok 0 := by have := okN.open' 3; rw [ho] at this; exact this
  refine jn_i (ite_f rfl (ite_f rfl (ite_f rfl (ite_f rfl ?_))))
  refine SG.go1 S2 0 rfl (open_spec okN 3) fun _ h3 S3 => ite_f (by rw [ho]; rfl) ?_
  refine SG.go1 S3 1 rfl (open_spec okN 3) fun _ h4 S4 => ?_
  rw [ho] at S4 ⊢
  refine ite_f rfl (jn_i ?_)
  have S4 : SS h h4 [netP p (N0.put 3 .fresh), netP q (N0.put 3 .fresh)] := S4
  have sim0 : AN.Sim 3 (N0.put 3 .fresh) (N0.put 3 .fresh) := ⟨rfl, rfl, rfl, ok1.l, ok1.l⟩
  refine loopE_rule (fun μ s h' => ∃ (k : Nat) (A B : AN), s = (k : Int) ∧ k ≤ 80 ∧ μ = 80 - k ∧ A.Ok (k * 262144) ∧ B.Ok (k * 262144) ∧ AN.Sim 3 A B ∧ SS h h' [netP p A, netP q B]) 80 ⟨0, _, _, rfl, by omega, by omega, by simpa using ok1, by simpa using ok1, sim0, S4⟩ ?_
  rintro μ s h' K ⟨k, A, B, rfl, hk, rfl, okA, okB, sim, S⟩ kl kr
  unfold spatelaw16_NetApart.b1
  have hlen := hl.len
  have mlen := ml.len
  by_cases hc : k < xs.length ∧ k < 80
  · have c1 : decide ((k : Int) < (l.len : Int)) = true := by rw [decide_eq_true_eq]; omega
    have c2 : decide ((k : Int) < 80) = true := by rw [decide_eq_true_eq]; omega
    refine jn_c true h' (fun K3 hK => ite_t c1 (by rw [c2]; exact hK)) (ite_t rfl ?_)
    obtain ⟨a, ha, hxa⟩ := hl.ix hc.1 (n := 4) rfl
    obtain ⟨ys, hys, hyl⟩ := hw _ (List.getElem_mem hc.1)
    generalize xs[k] = x at *
    refine rd_some ha (rd_some (ld_ext (SS.e S) hxa) ?_)
    refine SG.cell S (K := k48) (x := x) fun c5 h5 S5 e5 => ?_
    obtain ⟨h6, s6, S6, _⟩ := varP.st S5 fs_c 0 rfl 3
    have S6 : SS h h6 [varP k48 c5 { x with f1 := 3 }, netP p A, netP q B] := S6
    refine rd_some s6 (jn_q (fun _ h7 => ∃ B' : AN, B'.Ok (k * 262144 + 131072) ∧ AN.Sim 3 A B' ∧ SS h h7 [varP k48 c5 { x with f1 := 3 }, netP p A, netP q B']) (fun K4 hK => ?_) ?_)
    · refine ite_b (fun c3 => ?_) (fun _ => hK () h6 ⟨B, okB.mono (by omega), sim, S6⟩)
      rw [decide_eq_true_eq] at c3
      have hkz : k < zs.length := by omega
      obtain ⟨a', ha', hxa'⟩ := ml.ix hkz (n := 4) rfl
      obtain ⟨yz, hyz, hyzl⟩ := mw _ (List.getElem_mem hkz)
      generalize zs[k] = z at *
      refine rd_some ha' (rd_some (ld_ext (SS.e S6) hxa') ?_)
      refine SG.cell S6 (K := k48) (x := z) fun c7 h8 S8 e8 => ?_
      refine rd_some (varP.ld S8 fs_c 0 rfl) (small_spec _ 5 (by decide) (by decide) fun y y0 y5 => ?_)
      have ey : IntKind.i64.wrap (4 + y) = 4 + y := wrap64_id (by omega) (by omega)
      rw [ey]
      obtain ⟨h9, s9, S9, _⟩ := varP.st S8 fs_c 0 rfl (4 + y)
      have S9 : SS h h9 (varP k48 c7 { z with f1 := 4 + y } :: [varP k48 c5 { x with f1 := 3 }, netP p A, netP q B]) := S9
      refine rd_some s9 (rd_some (varP.ld S9 (Fld.whole k48) 0 rfl) ?_)
      refine did_spec okB (by omega) { z with f1 := 4 + y } hyz hyzl (S9.front 3 rfl) fun h10 S10 => ?_
      refine hK () h10 ⟨_, okB.did _ _, sim.other { z with f1 := 4 + y } yz (by show 4 + y ≠ ((3 : Nat) : Int); omega) (by show 0 ≤ 4 + y; omega), ?_⟩
      have S11 := (SG.tail (S10.front 1 rfl))
      exact (S11.front 1 rfl).perm (List.Perm.cons _ (List.Perm.swap _ _ _))
    rintro _ h7 ⟨B', okB', sim', S7⟩
    refine rd_some (varP.ld S7 (Fld.whole k48) 0 rfl) ?_
    refine did_spec okA (by omega) { x with f1 := 3 } hys hyl (S7.front 1 rfl) fun h8 S8 => ?_
    have S8 : SS h h8 [netP p (A.did { x with f1 := 3 } ys).2, varP k48 c5 { x with f1 := 3 }, netP q B'] := S8
    refine rd_some (varP.ld S8 (Fld.whole k48) 1 rfl) ?_
    refine did_spec okB' (by omega) { x with f1 := 3 } hys hyl (S8.front 2 rfl) fun h9 S9 => ?_
    obtain ⟨e1, sim2⟩ := sim'.same (by decide) { x with f1 := 3 } ys rfl
    have okA2 := okA.did { x with f1 := 3 } ys
    have okB2 := okB'.did { x with f1 := 3 } ys
    have S9 : SS h h9 [netP q (B'.did { x with f1 := 3 } ys).2, netP p (A.did { x with f1 := 3 } ys).2, varP k48 c5 { x with f1 := 3 }] := S9
    rw [e1]
    generalize hA2 : (A.did { x with f1 := 3 } ys).2 = A2 at *
    generalize hB2 : (B'.did { x with f1 := 3 } ys).2 = B2 at *
    generalize (B'.did { x with f1 := 3 } ys).1 = r at *
    obtain ⟨g1, g2, g3⟩ := sim2.looks
    refine jn_c false h9 (fun K5 hK => ite_f (by simp) (by simpa using hK)) (ite_f rfl ?_)
    refine SG.go1 S9 1 rfl (heard_spec okA2 (by omega) 3) fun s1 h10 S10 => ?_
    refine SG.go1 S10 1 rfl (heard_spec okB2 (by omega) 3) fun s2 h11 S11 => ?_
    have S11 : SS h h11 [ownP u8 s2 (B2.heard 3).1, ownP u8 s1 (A2.heard 3).1, netP q B2, netP p A2, varP k48 c5 { x with f1 := 3 }] := S11
    refine SG.go1 S11 3 rfl (is_spec okA2 3) fun _ h12 S12 => ?_
    refine SG.go1 S12 2 rfl (is_spec okB2 3) fun _ h13 S13 => ?_
    refine SG.go1 S13 3 rfl (under_spec okA2 3) fun _ h14 S14 => ?_
    refine SG.go1 S14 2 rfl (under_spec okB2 3) fun _ h15 S15 => ?_
    have S15 : SS h h15 [ownP u8 s2 (B2.heard 3).1, ownP u8 s1 (A2.heard 3).1, netP q B2, netP p A2, varP k48 c5 { x with f1 := 3 }] := S15
    have g1 : A2.heard 3 = B2.heard 3 := g1
    have g2 : A2.is 3 = B2.is 3 := g2
    have g3 : A2.under 3 = B2.under 3 := g3
    refine jn_c false h15 (fun K6 hK => rd_some (ownP.rds S15 1 rfl).b2s (rd_some (ownP.rds S15 0 rfl).b2s ?_)) (ite_f rfl ?_)
    · rw [g1, g2, g3]
      refine ite_f (by simp) (ite_f (by simp) (ite_f (by simp) (ite_f (by simp) (ite_f (by simp) ?_))))
      simpa using hK
    · exact kl (80 - (k + 1)) _ _ (by omega) ⟨k + 1, A2, B2, (wrap64_id (by omega) (by omega)).trans (by omega), by omega, rfl, okA2.mono (by omega), okB2.mono (by omega), sim2, (SG.swap (SG.tail (SG.tail S15))).perm (List.Perm.refl _) |> fun T => ((T.front 2 rfl).tail)⟩
  · refine jn_c false h' (fun K6 hK => ite_b (fun c1 => ?_) (fun c1 => hK)) (ite_f rfl (kr _ _ ?_))
    · have c2 : decide ((k : Int) < 80) = false := by rw [decide_eq_true_eq] at c1; rw [decide_eq_false_iff_not]; omega
      rw [c2]; exact hK
    · exact head_spec S fun h5 S5 => ⟨rfl, SS.e S5⟩
end Go.Proofs.Ytbdopnhfbjdegaa
