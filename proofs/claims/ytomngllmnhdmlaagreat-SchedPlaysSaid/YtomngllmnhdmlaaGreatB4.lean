/- Merged by merge.py: texts of this seat, one behind the other, in an order that builds. -/
import Derived.Test.YtomngllmnhdmlaaGreatB0
import Derived.Test.YtomngllmnhdmlaaGreatB3
import Derived.Test.YtomngllmnhdmlaaGreatB2
import Derived.Test.YtomngllmnhdmlaaGreatB1
/- (*spate/spateref11.Manager).Free, as a predicate over the heap, and that the code comes to it. Printed by gen.py. -/
namespace Go.Proofs.YtomngllmnhdmlaaGreat
open Go Go.Tr
set_option linter.unusedVariables false
set_option maxRecDepth 100000
set_option maxHeartbeats 400000
/-- (*spate/spateref11.Manager).Free -/
def spateref11_Manager_Free (a0 : Option Addr) (a1 : Int) (h : H) (Q : (Sl × Int) → H → Prop) : Prop :=
  rd a0 fun q1 =>
  rd (ld kL (q1.add 1) h) fun x1 =>
  spateref11_find x1 a1 h fun r1 h1 =>
  if (decide (r1 < 0)) = true then
    Q (Sl.nil, 42) h1
  else
    rd a0 fun q2 =>
    rd (ld kL (q2.add 1) h1) fun x2 =>
    spateref11_without x2 r1 h1 fun r2 h2 =>
    rd a0 fun q3 =>
    rd (st kL (q3.add 1) r2 h2) fun h3 =>
    spateref11_Manager_through a0 h3 fun r3 h4 =>
    Q (r3, 0) h4
theorem spateref11_Manager_Free.sound {a0 : Option Addr} {a1 : Int} {h : H} {Q : (Sl × Int) → H → Prop} (hF : spateref11_Manager_Free a0 a1 h Q) :
    CallsH Tryz.prog 60 (List.toArray (α := Value) [.pointer a0, .int .i64 a1]) h fun v h' => ∃ x : Sl × Int, v = .tuple #[Sl.val x.1, .int .i64 x.2] ∧ Q x h' := by
  refine CallsH.of_body Tryz.func60 rfl 26 rfl rfl ?_
  refine WP.seq ?_
  refine WP.region ?_
  refine EvK.pure (v := Sl.val Sl.nil) (w_none rfl) rfl rfl (f_assign rfl rfl) ?_
  refine EvK.pure (v := .int .i64 0) (w_none rfl) rfl rfl (f_assign rfl rfl) ?_
  refine EvK.nil ?_
  refine WP.seq ?_
  refine WP.region ?_
  refine EvK.pure (v := .pointer a0) (w_none rfl) rfl rfl (f_move rfl rfl) ?_
  obtain ⟨q1, hq1, hF⟩ := hF
  refine EvK.pure (v := .pointer (some q1)) (w_none rfl) rfl rfl (f_nilCheck rfl (congrArg Value.pointer hq1)) ?_
  refine EvK.pure (v := .pointer (some (q1.add 1))) (w_none rfl) rfl rfl (f_fieldAddr fd93_1 rfl rfl) ?_
  obtain ⟨x1, hx1, hF⟩ := hF
  refine EvK.read (v := Sl.val x1) (w_none rfl) rfl rfl (f_load kL ty91 rfl rfl hx1 rfl) ?_
  refine EvK.pure (v := .int .i64 a1) (w_none rfl) rfl rfl (f_move rfl rfl) ?_
  refine EvK.call (w_none rfl) rfl rfl (enterH Tryz.func78 rfl rfl rfl rfl (spateref11_find.sound hF)) ?_
  rintro _ h1 ⟨r1, rfl, hF⟩
  refine EvK.pure (v := .int .i64 r1) (w_none rfl) rfl rfl (f_assign rfl rfl) ?_
  refine EvK.nil ?_
  refine WP.seq ?_
  refine WP.seq ?_
  refine WP.region ?_
  refine EvK.pure (v := .int .i64 r1) (w_none rfl) rfl rfl (f_move rfl rfl) ?_
  refine EvK.pure (v := .bool (decide (r1 < 0))) (w_none rfl) rfl rfl (f_lss rfl rfl rfl) ?_
  refine EvK.nil ?_
  rcases ite_inv hF with ⟨c1, hF⟩ | ⟨c1, hF⟩
  · refine WP.cond_true _ rfl c1 ?_
    refine WP.seq ?_
    refine WP.region ?_
    refine EvK.pure (v := Sl.val Sl.nil) (w_none rfl) rfl rfl (f_assign rfl rfl) ?_
    refine EvK.pure (v := .int .i64 42) (w_none rfl) rfl rfl (f_assign rfl rfl) ?_
    refine EvK.nil ?_
    refine WP.ret ?_
    exact Ret.mk (vs := [Sl.val Sl.nil, .int .i64 42]) (Sl.nil, 42) ⟨rfl, rfl, trivial⟩ rfl hF
  · refine WP.cond_false _ rfl c1 ?_
    refine WP.skip ?_
    refine WP.seq ?_
    refine WP.region ?_
    refine EvK.pure (v := .pointer a0) (w_none rfl) rfl rfl (f_move rfl rfl) ?_
    refine EvK.pure (v := .pointer a0) (w_none rfl) rfl rfl (f_move rfl rfl) ?_
    obtain ⟨q2, hq2, hF⟩ := hF
    refine EvK.pure (v := .pointer (some q2)) (w_none rfl) rfl rfl (f_nilCheck rfl (congrArg Value.pointer hq2)) ?_
    refine EvK.pure (v := .pointer (some (q2.add 1))) (w_none rfl) rfl rfl (f_fieldAddr fd93_1 rfl rfl) ?_
    obtain ⟨x2, hx2, hF⟩ := hF
    refine EvK.read (v := Sl.val x2) (w_none rfl) rfl rfl (f_load kL ty91 rfl rfl hx2 rfl) ?_
    refine EvK.pure (v := .int .i64 r1) (w_none rfl) rfl rfl (f_move rfl rfl) ?_
    refine EvK.call (w_none rfl) rfl rfl (enterH Tryz.func80 rfl rfl rfl rfl (spateref11_without.sound hF)) ?_
    rintro _ h2 ⟨r2, rfl, hF⟩
    obtain ⟨q3, hq3, hF⟩ := hF
    refine EvK.pure (v := .pointer (some q3)) (w_none rfl) rfl rfl (f_nilCheck rfl (congrArg Value.pointer hq3)) ?_
    refine EvK.pure (v := .pointer (some (q3.add 1))) (w_none rfl) rfl rfl (f_fieldAddr fd93_1 rfl rfl) ?_
    obtain ⟨h3, hs1, hF⟩ := hF
    refine EvK.runN (w_none rfl) rfl (f_store kL ty91.size (z := r2) rfl rfl rfl hs1) ?_
    rintro _ _ ⟨rfl, rfl⟩
    refine EvK.nil ?_
    refine WP.seq ?_
    refine WP.region ?_
    refine EvK.pure (v := .pointer a0) (w_none rfl) rfl rfl (f_move rfl rfl) ?_
    refine EvK.call (w_none rfl) rfl rfl (enterH Tryz.func81 rfl rfl rfl rfl (spateref11_Manager_through.sound hF)) ?_
    rintro _ h4 ⟨r3, rfl, hF⟩
    refine EvK.pure (v := Sl.val r3) (w_none rfl) rfl rfl (f_assign rfl rfl) ?_
    refine EvK.pure (v := .int .i64 0) (w_none rfl) rfl rfl (f_assign rfl rfl) ?_
    refine EvK.nil ?_
    refine WP.ret ?_
    exact Ret.mk (vs := [Sl.val r3, .int .i64 0]) (r3, 0) ⟨rfl, rfl, trivial⟩ rfl hF
end Go.Proofs.YtomngllmnhdmlaaGreat
/- (*spate/spateref11.Manager).Quit, as a predicate over the heap, and that the code comes to it. Printed by gen.py. -/
namespace Go.Proofs.YtomngllmnhdmlaaGreat
open Go Go.Tr
set_option linter.unusedVariables false
set_option maxRecDepth 100000
set_option maxHeartbeats 400000
/-- (*spate/spateref11.Manager).Quit -/
def spateref11_Manager_Quit (a0 : Option Addr) (a1 : Int) (h : H) (Q : Sl → H → Prop) : Prop :=
  rd a0 fun q1 =>
  rd (ld kL (q1.add 1) h) fun x1 =>
  spateref11_find x1 a1 h fun r1 h1 =>
  if (decide (r1 ≥ 0)) = true then
    rd a0 fun q2 =>
    rd (ld kL (q2.add 1) h1) fun x2 =>
    spateref11_without x2 r1 h1 fun r2 h2 =>
    rd a0 fun q3 =>
    rd (st kL (q3.add 1) r2 h2) fun h3 =>
    spateref11_Manager_through a0 h3 fun r3 h4 =>
    Q r3 h4
  else
    rd a0 fun q4 =>
    rd (ld kL (q4.add 2) h1) fun x3 =>
    spateref11_find x3 a1 h1 fun r4 h5 =>
    if (decide (r4 ≥ 0)) = true then
      rd a0 fun q5 =>
      rd (ld kL (q5.add 2) h5) fun x4 =>
      spateref11_without x4 r4 h5 fun r5 h6 =>
      rd a0 fun q6 =>
      rd (st kL (q6.add 2) r5 h6) fun h7 =>
      spateref11_Manager_through a0 h7 fun r6 h8 =>
      Q r6 h8
    else
      Q Sl.nil h5
theorem spateref11_Manager_Quit.sound {a0 : Option Addr} {a1 : Int} {h : H} {Q : Sl → H → Prop} (hF : spateref11_Manager_Quit a0 a1 h Q) :
    CallsH Tryz.prog 76 (List.toArray (α := Value) [.pointer a0, .int .i64 a1]) h fun v h' => ∃ x : Sl, v = Sl.val x ∧ Q x h' := by
  refine CallsH.of_body Tryz.func76 rfl 44 rfl rfl ?_
  refine WP.seq ?_
  refine WP.region ?_
  refine EvK.pure (v := Sl.val Sl.nil) (w_none rfl) rfl rfl (f_assign rfl rfl) ?_
  refine EvK.nil ?_
  refine WP.seq ?_
  refine WP.region ?_
  refine EvK.pure (v := .pointer a0) (w_none rfl) rfl rfl (f_move rfl rfl) ?_
  obtain ⟨q1, hq1, hF⟩ := hF
  refine EvK.pure (v := .pointer (some q1)) (w_none rfl) rfl rfl (f_nilCheck rfl (congrArg Value.pointer hq1)) ?_
  refine EvK.pure (v := .pointer (some (q1.add 1))) (w_none rfl) rfl rfl (f_fieldAddr fd93_1 rfl rfl) ?_
  obtain ⟨x1, hx1, hF⟩ := hF
  refine EvK.read (v := Sl.val x1) (w_none rfl) rfl rfl (f_load kL ty91 rfl rfl hx1 rfl) ?_
  refine EvK.pure (v := .int .i64 a1) (w_none rfl) rfl rfl (f_move rfl rfl) ?_
  refine EvK.call (w_none rfl) rfl rfl (enterH Tryz.func78 rfl rfl rfl rfl (spateref11_find.sound hF)) ?_
  rintro _ h1 ⟨r1, rfl, hF⟩
  refine EvK.pure (v := .int .i64 r1) (w_none rfl) rfl rfl (f_assign rfl rfl) ?_
  refine EvK.nil ?_
  refine WP.seq ?_
  refine WP.seq ?_
  refine WP.region ?_
  refine EvK.pure (v := .int .i64 r1) (w_none rfl) rfl rfl (f_move rfl rfl) ?_
  refine EvK.pure (v := .bool (decide (r1 ≥ 0))) (w_none rfl) rfl rfl (f_geq rfl rfl rfl) ?_
  refine EvK.nil ?_
  rcases ite_inv hF with ⟨c1, hF⟩ | ⟨c1, hF⟩
  · refine WP.cond_true _ rfl c1 ?_
    refine WP.seq ?_
    refine WP.region ?_
    refine EvK.pure (v := .pointer a0) (w_none rfl) rfl rfl (f_move rfl rfl) ?_
    refine EvK.pure (v := .pointer a0) (w_none rfl) rfl rfl (f_move rfl rfl) ?_
    obtain ⟨q2, hq2, hF⟩ := hF
    refine EvK.pure (v := .pointer (some q2)) (w_none rfl) rfl rfl (f_nilCheck rfl (congrArg Value.pointer hq2)) ?_
    refine EvK.pure (v := .pointer (some (q2.add 1))) (w_none rfl) rfl rfl (f_fieldAddr fd93_1 rfl rfl) ?_
    obtain ⟨x2, hx2, hF⟩ := hF
    refine EvK.read (v := Sl.val x2) (w_none rfl) rfl rfl (f_load kL ty91 rfl rfl hx2 rfl) ?_
    refine EvK.pure (v := .int .i64 r1) (w_none rfl) rfl rfl (f_move rfl rfl) ?_
    refine EvK.call (w_none rfl) rfl rfl (enterH Tryz.func80 rfl rfl rfl rfl (spateref11_without.sound hF)) ?_
    rintro _ h2 ⟨r2, rfl, hF⟩
    obtain ⟨q3, hq3, hF⟩ := hF
    refine EvK.pure (v := .pointer (some q3)) (w_none rfl) rfl rfl (f_nilCheck rfl (congrArg Value.pointer hq3)) ?_
    refine EvK.pure (v := .pointer (some (q3.add 1))) (w_none rfl) rfl rfl (f_fieldAddr fd93_1 rfl rfl) ?_
    obtain ⟨h3, hs1, hF⟩ := hF
    refine EvK.runN (w_none rfl) rfl (f_store kL ty91.size (z := r2) rfl rfl rfl hs1) ?_
    rintro _ _ ⟨rfl, rfl⟩
    refine EvK.nil ?_
    refine WP.seq ?_
    refine WP.region ?_
    refine EvK.pure (v := .pointer a0) (w_none rfl) rfl rfl (f_move rfl rfl) ?_
    refine EvK.call (w_none rfl) rfl rfl (enterH Tryz.func81 rfl rfl rfl rfl (spateref11_Manager_through.sound hF)) ?_
    rintro _ h4 ⟨r3, rfl, hF⟩
    refine EvK.pure (v := Sl.val r3) (w_none rfl) rfl rfl (f_assign rfl rfl) ?_
    refine EvK.nil ?_
    refine WP.ret ?_
    exact Ret.mk (vs := [Sl.val r3]) r3 ⟨rfl, trivial⟩ rfl hF
  · refine WP.cond_false _ rfl c1 ?_
    refine WP.skip ?_
    refine WP.seq ?_
    refine WP.region ?_
    refine EvK.pure (v := .pointer a0) (w_none rfl) rfl rfl (f_move rfl rfl) ?_
    obtain ⟨q4, hq4, hF⟩ := hF
    refine EvK.pure (v := .pointer (some q4)) (w_none rfl) rfl rfl (f_nilCheck rfl (congrArg Value.pointer hq4)) ?_
    refine EvK.pure (v := .pointer (some (q4.add 2))) (w_none rfl) rfl rfl (f_fieldAddr fd93_2 rfl rfl) ?_
    obtain ⟨x3, hx3, hF⟩ := hF
    refine EvK.read (v := Sl.val x3) (w_none rfl) rfl rfl (f_load kL ty91 rfl rfl hx3 rfl) ?_
    refine EvK.pure (v := .int .i64 a1) (w_none rfl) rfl rfl (f_move rfl rfl) ?_
    refine EvK.call (w_none rfl) rfl rfl (enterH Tryz.func78 rfl rfl rfl rfl (spateref11_find.sound hF)) ?_
    rintro _ h5 ⟨r4, rfl, hF⟩
    refine EvK.pure (v := .int .i64 r4) (w_none rfl) rfl rfl (f_assign rfl rfl) ?_
    refine EvK.nil ?_
    refine WP.seq ?_
    refine WP.seq ?_
    refine WP.region ?_
    refine EvK.pure (v := .int .i64 r4) (w_none rfl) rfl rfl (f_move rfl rfl) ?_
    refine EvK.pure (v := .bool (decide (r4 ≥ 0))) (w_none rfl) rfl rfl (f_geq rfl rfl rfl) ?_
    refine EvK.nil ?_
    rcases ite_inv hF with ⟨c2, hF⟩ | ⟨c2, hF⟩
    · refine WP.cond_true _ rfl c2 ?_
      refine WP.seq ?_
      refine WP.region ?_
      refine EvK.pure (v := .pointer a0) (w_none rfl) rfl rfl (f_move rfl rfl) ?_
      refine EvK.pure (v := .pointer a0) (w_none rfl) rfl rfl (f_move rfl rfl) ?_
      obtain ⟨q5, hq5, hF⟩ := hF
      refine EvK.pure (v := .pointer (some q5)) (w_none rfl) rfl rfl (f_nilCheck rfl (congrArg Value.pointer hq5)) ?_
      refine EvK.pure (v := .pointer (some (q5.add 2))) (w_none rfl) rfl rfl (f_fieldAddr fd93_2 rfl rfl) ?_
      obtain ⟨x4, hx4, hF⟩ := hF
      refine EvK.read (v := Sl.val x4) (w_none rfl) rfl rfl (f_load kL ty91 rfl rfl hx4 rfl) ?_
      refine EvK.pure (v := .int .i64 r4) (w_none rfl) rfl rfl (f_move rfl rfl) ?_
      refine EvK.call (w_none rfl) rfl rfl (enterH Tryz.func80 rfl rfl rfl rfl (spateref11_without.sound hF)) ?_
      rintro _ h6 ⟨r5, rfl, hF⟩
      obtain ⟨q6, hq6, hF⟩ := hF
      refine EvK.pure (v := .pointer (some q6)) (w_none rfl) rfl rfl (f_nilCheck rfl (congrArg Value.pointer hq6)) ?_
      refine EvK.pure (v := .pointer (some (q6.add 2))) (w_none rfl) rfl rfl (f_fieldAddr fd93_2 rfl rfl) ?_
      obtain ⟨h7, hs2, hF⟩ := hF
      refine EvK.runN (w_none rfl) rfl (f_store kL ty91.size (z := r5) rfl rfl rfl hs2) ?_
      rintro _ _ ⟨rfl, rfl⟩
      refine EvK.nil ?_
      refine WP.seq ?_
      refine WP.region ?_
      refine EvK.pure (v := .pointer a0) (w_none rfl) rfl rfl (f_move rfl rfl) ?_
      refine EvK.call (w_none rfl) rfl rfl (enterH Tryz.func81 rfl rfl rfl rfl (spateref11_Manager_through.sound hF)) ?_
      rintro _ h8 ⟨r6, rfl, hF⟩
      refine EvK.pure (v := Sl.val r6) (w_none rfl) rfl rfl (f_assign rfl rfl) ?_
      refine EvK.nil ?_
      refine WP.ret ?_
      exact Ret.mk (vs := [Sl.val r6]) r6 ⟨rfl, trivial⟩ rfl hF
    · refine WP.cond_false _ rfl c2 ?_
      refine WP.skip ?_
      refine WP.seq ?_
      refine WP.region ?_
      refine EvK.pure (v := Sl.val Sl.nil) (w_none rfl) rfl rfl (f_assign rfl rfl) ?_
      refine EvK.nil ?_
      refine WP.ret ?_
      exact Ret.mk (vs := [Sl.val Sl.nil]) Sl.nil ⟨rfl, trivial⟩ rfl hF
end Go.Proofs.YtomngllmnhdmlaaGreat
/- The document's manager in memory, and what each of its calls does. -/
namespace Go.Proofs.YtomngllmnhdmlaaGreat
open Go Go.Tr
set_option linter.unusedVariables false
abbrev kRM : Kd S92 := k92
theorem fr_locks : Fld kRM (kI .i64) 0 (·.f0) (fun x v => { x with f0 := v }) := (Fld.whole (kI .i64)).fst.iso
theorem fr_has : Fld kRM kL 1 (·.f1) (fun x v => { x with f1 := v }) := (Fld.whole kL).fst.snd.iso
theorem fr_queue : Fld kRM kL 2 (·.f2) (fun x v => { x with f2 := v }) := (Fld.whole kL).snd.snd.iso
abbrev RR := Int × Sl × List Lk
def rrow (r : RR) : RSet := ⟨r.1, r.2.1⟩
def rabs (r : RR) : C := (r.1, r.2.2)
def sbagP (n : Nat) (rs : List RR) : HP where
  p h F := (∀ r ∈ rs, Own kLk h F r.2.1 (AM.sortL n r.2.2)) ∧ ∀ b, F b → b < h.size
  st := fun ⟨v, l⟩ hs k => ⟨fun r hr => (v r hr).same fun b hb _ => k b hb, fun b hb => Nat.lt_of_lt_of_le (l b hb) hs⟩
  lt := fun ⟨_, l⟩ => l
def refL (b : Nat) (n : Nat) (sh sq : Sl) (RH RQ : List RR) : List HP := [varP kRM b ⟨n, sh, sq⟩, ownP kRS sh (RH.map rrow), ownP kRS sq (RQ.map rrow), sbagP n (RH ++ RQ)]
def refP (b : Nat) (A : AM) : HP := HP.ex fun w : (Sl × Sl) × (List RR × List RR) => HP.and (w.2.1.map rabs = A.has ∧ w.2.2.map rabs = A.queue) (HP.all (refL b A.locks w.1.1 w.1.2 w.2.1 w.2.2))
theorem filt_find {l : List Lk} (hn : nod l) (k : Int) : (l.filter fun x => x.f0 == k) = match l.find? (fun y => k == y.f0) with | some y => [⟨k, how y == 1⟩] | none => [] := by
  induction l with
  | nil => rfl
  | cons x l ih =>
    have hn' := List.nodup_cons.1 (by simpa [nod] using hn : (x.f0 :: l.map (·.f0)).Nodup)
    rw [List.find?_cons]
    by_cases hb : k = x.f0
    · subst hb
      have : (l.filter fun y => y.f0 == x.f0) = [] := by
        rw [List.filter_eq_nil_iff]
        intro y hy e
        have e : y.f0 = x.f0 := by simpa using e
        exact hn'.1 (by rw [← e]; exact List.mem_map_of_mem hy)
      rw [List.filter_cons_of_pos (by simp), this]
      have e2 : (how x == 1) = x.f1 := by unfold how; cases x.f1 <;> rfl
      simp [e2]
    · have h1 : (k == x.f0) = false := by simpa using hb
      rw [h1, List.filter_cons_of_neg (by simp; exact fun e => hb e.symm)]
      exact ih hn'.2
theorem sortL_le {l : List Lk} (hn : nod l) : ∀ (m : Nat), (AM.sortL m l).length ≤ m
  | 0 => Nat.le_refl _
  | m + 1 => by
    have ih := sortL_le hn m
    rw [sortL_succ, List.length_append, filt_find hn]
    split <;> simp <;> omega
section
variable {F0 : Nat → Prop} {h0 h : H} {b : Nat} {A : AM} {B : Nat} {Rs Ps : List HP}
theorem ref_open (S : SG F0 h0 h (refP b A :: Rs)) : ∃ sh sq RH RQ, RH.map rabs = A.has ∧ RQ.map rabs = A.queue ∧ SG F0 h0 h (refL b A.locks sh sq RH RQ ++ Rs) := by
  obtain ⟨w, S1⟩ := S.unex
  obtain ⟨⟨e1, e2⟩, S2⟩ := S1.unand
  exact ⟨_, _, _, _, e1, e2, S2.flat⟩
theorem ref_close {sh sq : Sl} {RH RQ : List RR} (e1 : RH.map rabs = A.has) (e2 : RQ.map rabs = A.queue) (S : SG F0 h0 h (refL b A.locks sh sq RH RQ ++ Rs)) : SG F0 h0 h (refP b A :: Rs) :=
  SG.toex (P := fun w : (Sl × Sl) × (List RR × List RR) => HP.and (w.2.1.map rabs = A.has ∧ w.2.2.map rabs = A.queue) (HP.all (refL b A.locks w.1.1 w.1.2 w.2.1 w.2.2))) ((sh, sq), (RH, RQ)) (SG.toand ⟨e1, e2⟩ (SG.fold _ S))
theorem sbagP.is (S : SG F0 h0 h Ps) (i : Nat) {n : Nat} {rs : List RR} (hi : Ps[i]? = some (sbagP n rs)) {r : RR} (hr : r ∈ rs) : Rds kLk h r.2.1 (AM.sortL n r.2.2) := by
  obtain ⟨F1, ⟨v, _⟩, _⟩ := S.at i hi
  exact (v r hr).rds
theorem sbagP.sub (S : SG F0 h0 h Ps) (i : Nat) {n : Nat} {rs rs' : List RR} (hi : Ps[i]? = some (sbagP n rs)) (hs : ∀ r ∈ rs', r ∈ rs) : SG F0 h0 h (Ps.set i (sbagP n rs')) :=
  S.imp i hi _ fun F ⟨v, l⟩ => ⟨fun r hr => v r (hs r hr), l⟩
theorem sbagP.add {n : Nat} {s : Sl} {t : Int} {l : List Lk} {rs : List RR} (S : SG F0 h0 h (ownP kLk s (AM.sortL n l) :: sbagP n rs :: Rs)) : SG F0 h0 h (sbagP n ((t, s, l) :: rs) :: Rs) := by
  obtain ⟨F, ⟨F1, _, a, ⟨F2, F3, a2, r, c2, d2⟩, c, d⟩, f⟩ := S
  refine ⟨F, ⟨fun k => F1 k ∨ F2 k, F3, ⟨fun x hx => ?_, fun k hk => ?_⟩, r, fun k hk h3 => ?_, fun k => ?_⟩, f⟩
  · rcases List.mem_cons.1 hx with rfl | hx
    · exact a.1.mono fun _ h => .inl h
    · exact (a2.1 x hx).mono fun _ h => .inr h
  · rcases hk with hk | hk
    · exact a.2 k hk
    · exact a2.2 k hk
  · rcases hk with hk | hk
    · exact c _ hk ((d2 _).2 (.inr h3))
    · exact c2 k hk h3
  · rw [d k, d2 k, or_assoc]
theorem rrows_ok (ok : A.Ok B) {RH RQ : List RR} (e1 : RH.map rabs = A.has) (e2 : RQ.map rabs = A.queue) : ∀ x ∈ RH ++ RQ, okSet A.locks x.2.2 = true := by
  intro x hx
  refine ok.ok (rabs x) ?_
  rw [← e1, ← e2, ← List.map_append]
  exact List.mem_map_of_mem hx
theorem rrows_len (ok : A.Ok B) {RH RQ : List RR} (e1 : RH.map rabs = A.has) (e2 : RQ.map rabs = A.queue) : RH.length + RQ.length ≤ B := by
  have := ok.b
  rw [← e1, ← e2] at this
  simpa using this
theorem rfindR (R : List RR) (t : Int) : (R.findIdx? fun r => (rrow r).f0 == t) = findC (R.map rabs) t := by
  unfold findC
  rw [List.findIdx?_map]; rfl
theorem rfind_has (ok : A.Ok B) (hB : B ≤ 1000000000) {sh : Sl} {RH : List RR} {i : Nat} (hi : Ps[i]? = some (ownP kRS sh (RH.map rrow))) {l : List C} (hl : RH.map rabs = l) (hm : l.length ≤ B) (S : SG F0 h0 h Ps) (t : Int) {Q : Int → H → Prop} (k : Q (pl (findC l t)) h) : spateref11_find sh t h Q := by
  subst hl
  rw [List.length_map] at hm
  refine rfind_spec (ownP.rds (K := kRS) S i hi) (by omega) t ?_
  rw [rfindR]; exact k
theorem rhit_spec {n : Nat} (hn : n ≤ 1024) {s : Sl} {RS all : List RR} {r : RR} (R : Rds kRS h s (RS.map rrow)) (hl : RS.length < 4611686018427387904) (hM : ∀ x ∈ all, Rds kLk h x.2.1 (AM.sortL n x.2.2)) (hok : ∀ x ∈ all, okSet n x.2.2 = true) (hr : r ∈ all) (hs : ∀ x ∈ RS, x ∈ all)
    {Q : Bool → H → Prop} (k : ∀ h', Ext h h' → Q (hit (RS.map rabs) r.2.2) h') : spateref11_conflicts s (rrow r) h Q := by
  have hle : ∀ x ∈ all, (AM.sortL n x.2.2).length < 4611686018427387904 := fun x hx => by
    have := sortL_le (okSet_nod (hok x hx)) n
    omega
  refine rconfs_spec (g := rrow) (lx := AM.sortL n r.2.2) (f := fun x : RR => AM.sortL n x.2.2) R hl (hM r hr) (hle r hr) (fun y hy => ⟨hM y (hs y hy), hle y (hs y hy)⟩) fun h' e => ?_
  have k' := k h' e
  have : (RS.any fun y => conf (AM.sortL n y.2.2) (AM.sortL n r.2.2)) = hit (RS.map rabs) r.2.2 := by
    unfold hit
    rw [List.any_map]
    apply Bool.eq_iff_iff.2
    rw [List.any_eq_true, List.any_eq_true]
    constructor
    · rintro ⟨x, hx, hp⟩
      rw [conf_sort (hok x (hs x hx)) (hok r hr), conf_comm] at hp
      exact ⟨x, hx, hp⟩
    · rintro ⟨x, hx, hp⟩
      refine ⟨x, hx, ?_⟩
      rw [conf_sort (hok x (hs x hx)) (hok r hr), conf_comm]
      exact hp
  rw [this]; exact k'
theorem rwithout_spec {s : Sl} {xs : List RSet} (S : SG F0 h0 h Ps) (R : Rds kRS h s xs) (hl : xs.length ≤ 1000000000) {i : Nat} (hi : i < xs.length) {Q : Sl → H → Prop} (k : ∀ s' h', SG F0 h0 h' (ownP kRS s' (xs.eraseIdx i) :: Ps) → Q s' h') : spateref11_without s (i : Int) h Q := by
  unfold spateref11_without
  obtain ⟨x1, hx1, R1, _⟩ := R.slx_hi (n := i) (by omega) (w := 2) rfl
  refine rd_some hx1 (SG.copied (K := kRS) (by decide) S rfl rfl R1 (by simp; omega) (by simp; omega) fun s2 h1 e1 S1 => ?_)
  obtain ⟨x3, hx3, R3, _⟩ := (R.ext e1).slx_lo (n := i + 1) (by omega) (w := 2) rfl
  refine rd_some (by rw [wrap64_id (by omega) (by omega)]; exact hx3) (ownP.app (K := kRS) (by decide) S1 0 rfl R3 (by simp; omega) (by simp; omega) fun s3 h2 S2 => k s3 h2 ?_)
  rw [List.eraseIdx_eq_take_drop_succ]; exact S2
theorem rthrough_spec (ok : A.Ok B) (hB : B ≤ 1000000000) :
    Does h [refP b A] (fun Q => spateref11_Manager_through (some ⟨b, 0, none⟩) h Q) (fun s : Sl => s) (fun s => [refP b A.through.2, ownP (kI .i64) s A.through.1]) := by
  intro F0 h0 Q S k
  show spateref11_Manager_through _ _ _
  obtain ⟨sh, sq, RH, RQ, e1, e2, S⟩ := ref_open S
  have hok := rrows_ok ok e1 e2
  have hlen := rrows_len ok e1 e2
  have hn := ok.l2
  unfold spateref11_Manager_through
  have hql : sq.len = RQ.length := by have := ownP.len (K := kRS) S 2 rfl; simpa using this
  refine jn_i (for0 (mk := fun (s : Sl × Sl) i => (s.1, s.2, i)) (s := (Sl.nil, Sl.nil)) (n := RQ.length) (by omega) (fun j s h' => ∃ (sh' : Sl) (RH' RL : List RR) (told : List Int),
      SG F0 h0 h' [varP kRM b ⟨A.locks, sh', sq⟩, ownP kRS sh' (RH'.map rrow), ownP kRS sq (RQ.map rrow), sbagP A.locks (RH ++ RQ), ownP kRS s.2 (RL.map rrow), ownP (kI .i64) s.1 told] ∧
      (∀ x ∈ RH', x ∈ RH ++ RQ) ∧ (∀ x ∈ RL, x ∈ RH ++ RQ) ∧ RH'.length + RL.length = RH.length + j ∧ told.length ≤ j ∧
      thr A.has [] A.queue = ((thr (RH'.map rabs) (RL.map rabs) ((RQ.drop j).map rabs)).1, (thr (RH'.map rabs) (RL.map rabs) ((RQ.drop j).map rabs)).2.1, told ++ (thr (RH'.map rabs) (RL.map rabs) ((RQ.drop j).map rabs)).2.2))
    ⟨sh, RH, [], [], ?_, fun x hx => List.mem_append_left _ hx, by simp, rfl, Nat.le_refl _, ?_⟩ (fun j s h1 K hj hI next done => ?_) (fun s h1 K hI done => ?_))
  · have S1 := S.made (Ext.refl h) (Own.nil kRS h _)
    have S2 := S1.made (Ext.refl h) (Own.nil (kI .i64) h _)
    exact S2.swap.rot.rot
  · rw [e1, List.drop_zero, e2]; rfl
  · obtain ⟨out, left⟩ := s
    obtain ⟨sh', RH', RL, told, S1, hs1, hs2, hl1, hl2, ht⟩ := hI
    unfold spateref11_Manager_through.b1
    have hdr : RQ.drop j = RQ[j] :: RQ.drop (j + 1) := List.drop_eq_getElem_cons hj
    have hrm : RQ[j] ∈ RH ++ RQ := List.mem_append_right _ (List.getElem_mem _)
    rw [hdr, List.map_cons] at ht
    have hq : ld kL ⟨b, 2, none⟩ h1 = some sq := varP.ld S1 fr_queue 0 rfl
    refine rd_some rfl (rd_some (by rw [add_mk]; exact hq) (ite_t (by rw [hql]; exact clt_t hj) (jn_i ?_)))
    refine rd_some rfl (rd_some (by rw [add_mk]; exact hq) ((ownP.rds (K := kRS) S1 2 rfl).elt0 (i := j) (by simpa using hj) rfl ?_))
    rw [List.getElem_map]
    refine S1.cell (K := kRS) (x := rrow RQ[j]) fun q h2 S2 eb => ?_
    refine jn_q (fun a h' => a = (hit (RH'.map rabs) RQ[j].2.2 || hit (RL.map rabs) RQ[j].2.2) ∧ SG F0 h0 h' (varP kRS q (rrow RQ[j]) :: [varP kRM b ⟨A.locks, sh', sq⟩, ownP kRS sh' (RH'.map rrow), ownP kRS sq (RQ.map rrow), sbagP A.locks (RH ++ RQ), ownP kRS left (RL.map rrow), ownP (kI .i64) out told])) (fun K2 hK => ?_) ?_
    · have hv : ld kL ⟨b, 1, none⟩ h2 = some sh' := varP.ld S2 fr_has 1 rfl
      have hw : ld kRS ⟨q, 0, none⟩ h2 = some (rrow RQ[j]) := varP.ld S2 (Fld.whole kRS) 0 rfl
      refine rd_some rfl (rd_some (by rw [add_mk]; exact hv) (rd_some hw ?_))
      refine rhit_spec hn (ownP.rds (K := kRS) S2 2 rfl) (by omega) (fun x hx => sbagP.is S2 4 rfl hx) hok hrm hs1 fun h3 e3 => ?_
      have S3 := S2.ext e3
      refine ite_b (fun c => hK _ _ ⟨by rw [c]; rfl, S3⟩) (fun c => ?_)
      refine rd_some (ld_ext e3 hw) ?_
      refine rhit_spec hn (ownP.rds (K := kRS) S3 5 rfl) (by omega) (fun x hx => sbagP.is S3 4 rfl hx) hok hrm hs2 fun h4 e4 => ?_
      exact hK _ _ ⟨by rw [c, Bool.false_or], S3.ext e4⟩
    · rintro _ h3 ⟨rfl, S3⟩
      have hw : ld kRS ⟨q, 0, none⟩ h3 = some (rrow RQ[j]) := varP.ld S3 (Fld.whole kRS) 0 rfl
      refine ite_b (fun c => ?_) (fun c => ?_)
      · refine rd_some hw (ownP.push (K := kRS) (by decide) S3 5 rfl (rrow RQ[j]) (by simp; omega) (by simp; omega) fun s' h4 S4 => ?_)
        refine next (out, s') h4 ⟨sh', RH', RL ++ [RQ[j]], told, by rw [List.map_append]; exact S4.tail, hs1, ?_, by simp; omega, by omega, ?_⟩
        · intro x hx
          rcases List.mem_append.1 hx with hx | hx
          · exact hs2 x hx
          · obtain rfl := List.mem_singleton.1 hx
            exact hrm
        · rw [thr_hit (c := rabs RQ[j]) c] at ht
          rw [List.map_append]; exact ht
      · have hv : ld kL ⟨b, 1, none⟩ h3 = some sh' := varP.ld S3 fr_has 1 rfl
        refine rd_some rfl (rd_some (by rw [add_mk]; exact hv) (rd_some hw (ownP.push (K := kRS) (by decide) S3 2 rfl (rrow RQ[j]) (by simp; omega) (by simp; omega) fun s' h4 S4 => ?_)))
        obtain ⟨h5, s5, S5, _⟩ := varP.st S4 fr_has 1 rfl s'
        refine rd_some rfl (rd_some (by rw [add_mk]; exact s5) ?_)
        have hv6 : ld (kI .i64) ⟨q, 0, none⟩ h5 = some (rrow RQ[j]).f0 := varP.ld S5 fs_task 0 rfl
        refine rd_some (by rw [add_mk]; exact hv6) (ownP.push (K := kI .i64) (by decide) S5 6 rfl (rrow RQ[j]).f0 (by omega) (by omega) fun o' h6 S6 => ?_)
        refine next (o', left) h6 ⟨s', RH' ++ [RQ[j]], RL, told ++ [(rrow RQ[j]).f0], by rw [List.map_append]; exact S6.tail, ?_, hs2, by simp; omega, by simp; omega, ?_⟩
        · intro x hx
          rcases List.mem_append.1 hx with hx | hx
          · exact hs1 x hx
          · obtain rfl := List.mem_singleton.1 hx
            exact hrm
        · rw [thr_go (c := rabs RQ[j]) c] at ht
          rw [List.map_append, ht]
          simp only [List.append_assoc]; rfl
  · obtain ⟨out, left⟩ := s
    obtain ⟨sh', RH', RL, told, S1, hs1, hs2, hl1, hl2, ht⟩ := hI
    unfold spateref11_Manager_through.b1
    have hq : ld kL ⟨b, 2, none⟩ h1 = some sq := varP.ld S1 fr_queue 0 rfl
    refine rd_some rfl (rd_some (by rw [add_mk]; exact hq) (ite_f (by rw [hql]; exact clt_f (Nat.lt_irrefl _)) (done _ _ ?_)))
    obtain ⟨h2, s2, S2, _⟩ := varP.st S1 fr_queue 0 rfl left
    refine rd_some rfl (rd_some (by rw [add_mk]; exact s2) ?_)
    rw [List.drop_length] at ht
    have hA : A.through = (told, { A with has := RH'.map rabs, queue := RL.map rabs }) := by
      unfold AM.through; rw [ht]; simp [thr]
    refine k _ h2 ?_
    rw [hA]
    have S3 : SG F0 h0 h2 [varP kRM b ⟨A.locks, sh', left⟩, ownP kRS sh' (RH'.map rrow), ownP kRS sq (RQ.map rrow), sbagP A.locks (RH ++ RQ), ownP kRS left (RL.map rrow), ownP (kI .i64) out told] := S2
    have S4 := (S3.front 2 rfl).tail
    have S5 := sbagP.sub S4 2 rfl (rs' := RH' ++ RL) fun r hr => (List.mem_append.1 hr).elim (hs1 r) (hs2 r)
    have S6 : SG F0 h0 h2 (refL b A.locks sh' left RH' RL ++ [ownP (kI .i64) out told]) := S5.perm ((List.Perm.refl _).cons _ |>.trans (List.Perm.cons _ (List.Perm.cons _ (List.Perm.swap _ _ _))))
    exact ref_close (A := { A with has := RH'.map rabs, queue := RL.map rabs }) rfl rfl S6
theorem rthrough_after (ok : A.Ok B) (hB : B ≤ 1000000000) {sh sq : Sl} {RH RQ RH' RQ' : List RR} {A' : AM} (ok' : A'.Ok B) (hl : A'.locks = A.locks) (e1 : RH'.map rabs = A'.has) (e2 : RQ'.map rabs = A'.queue) (hs : ∀ r ∈ RH' ++ RQ', r ∈ RH ++ RQ)
    (S : SG F0 h0 h [varP kRM b ⟨A.locks, sh, sq⟩, ownP kRS sh (RH'.map rrow), ownP kRS sq (RQ'.map rrow), sbagP A.locks (RH ++ RQ)]) {Q : Sl → H → Prop} (k : ∀ s h', SG F0 h0 h' [refP b A'.through.2, ownP (kI .i64) s A'.through.1] → Q s h') : spateref11_Manager_through (some ⟨b, 0, none⟩) h Q := by
  refine rthrough_spec ok' hB (h := h) (b := b) ?_ k
  refine ref_close (Rs := []) (sh := sh) (sq := sq) e1 e2 ?_
  rw [hl]
  exact sbagP.sub S 3 rfl hs
theorem rfree_spec (ok : A.Ok B) (hB : B ≤ 1000000000) (t : Int) :
    Does h [refP b A] (fun Q => spateref11_Manager_Free (some ⟨b, 0, none⟩) t h Q) (fun s : Sl => (s, (A.free t).1.2)) (fun s => [refP b (A.free t).2, ownP (kI .i64) s (A.free t).1.1]) := by
  intro F0 h0 Q S k
  show spateref11_Manager_Free _ _ _ _
  obtain ⟨sh, sq, RH, RQ, e1, e2, S⟩ := ref_open S
  have hlen := rrows_len ok e1 e2
  have hb := ok.b
  unfold spateref11_Manager_Free
  refine rd_some rfl (rd_some (by rw [add_mk]; exact varP.ld S fr_has 0 rfl) ?_)
  refine rfind_has ok hB (i := 1) rfl e1 (by omega) S t ?_
  cases hf : findC A.has t with
  | none =>
    have hA : A.free t = (([], 42), A) := by unfold AM.free; rw [hf]
    rw [hA] at k
    exact ite_t rfl (k Sl.nil h ((ref_close e1 e2 S).made (Ext.refl _) (Own.nil (kI .i64) h _)).swap)
  | some i =>
    have hi := findC_lt hf
    have hA : A.free t = (({ A with has := A.has.eraseIdx i }.through.1, 0), { A with has := A.has.eraseIdx i }.through.2) := by unfold AM.free; rw [hf]
    rw [hA] at k
    have hrl : RH.length = A.has.length := by rw [← e1]; simp
    refine ite_f (by show decide ((i : Int) < 0) = false; rw [decide_eq_false_iff_not]; omega) ?_
    refine rd_some rfl (rd_some (by rw [add_mk]; exact varP.ld S fr_has 0 rfl) ?_)
    refine rwithout_spec S (ownP.rds (K := kRS) S 1 rfl) (i := i) (by rw [List.length_map]; omega) (by rw [List.length_map]; omega) fun s' h2 S2 => ?_
    obtain ⟨h3, s3, S3, _⟩ := varP.st S2 fr_has 1 rfl s'
    refine rd_some rfl (rd_some (by rw [add_mk]; exact s3) ?_)
    refine rthrough_after (F0 := F0) (h0 := h0) ok hB (ok.eraseH i) rfl (RH := RH) (RQ := RQ) (RH' := RH.eraseIdx i) (RQ' := RQ) (sh := s') (sq := sq) (by rw [← e1]; exact (map_erase rabs _ _).symm) e2 (fun r hr => ?_) ?_ fun s h4 S4 => k s h4 S4
    · rcases List.mem_append.1 hr with hr | hr
      · exact List.mem_append_left _ (List.mem_of_mem_eraseIdx hr)
      · exact List.mem_append_right _ hr
    · have S4 : SG F0 h0 h3 [varP kRM b ⟨A.locks, s', sq⟩, ownP kRS s' ((RH.map rrow).eraseIdx i), ownP kRS sq (RQ.map rrow), sbagP A.locks (RH ++ RQ)] := SG.replace S3 1 (by show 1 < 4; omega)
      rw [map_erase] at S4; exact S4
end
end Go.Proofs.YtomngllmnhdmlaaGreat
/- The document's manager, the other calls. -/
namespace Go.Proofs.YtomngllmnhdmlaaGreat
open Go Go.Tr
set_option linter.unusedVariables false
section
variable {F0 : Nat → Prop} {h0 h : H} {b : Nat} {A : AM} {B : Nat} {Rs Ps : List HP}
theorem rquit_spec (ok : A.Ok B) (hB : B ≤ 1000000000) (t : Int) :
    Does h [refP b A] (fun Q => spateref11_Manager_Quit (some ⟨b, 0, none⟩) t h Q) (fun s : Sl => s) (fun s => [refP b (A.quit t).2, ownP (kI .i64) s (A.quit t).1]) := by
  intro F0 h0 Q S k
  show spateref11_Manager_Quit _ _ _ _
  obtain ⟨sh, sq, RH, RQ, e1, e2, S⟩ := ref_open S
  have hlen := rrows_len ok e1 e2
  have hb := ok.b
  have hrl : RH.length = A.has.length := by rw [← e1]; simp
  have hql : RQ.length = A.queue.length := by rw [← e2]; simp
  unfold spateref11_Manager_Quit
  refine rd_some rfl (rd_some (by rw [add_mk]; exact varP.ld S fr_has 0 rfl) ?_)
  refine rfind_has ok hB (i := 1) rfl e1 (by omega) S t ?_
  cases hf : findC A.has t with
  | some i =>
    have hi := findC_lt hf
    have hA : A.quit t = ({ A with has := A.has.eraseIdx i }.through.1, { A with has := A.has.eraseIdx i }.through.2) := by unfold AM.quit; rw [hf]
    rw [hA] at k
    refine ite_t (by show decide ((i : Int) ≥ 0) = true; rw [decide_eq_true_eq]; omega) ?_
    refine rd_some rfl (rd_some (by rw [add_mk]; exact varP.ld S fr_has 0 rfl) ?_)
    refine rwithout_spec S (ownP.rds (K := kRS) S 1 rfl) (i := i) (by rw [List.length_map]; omega) (by rw [List.length_map]; omega) fun s' h2 S2 => ?_
    obtain ⟨h3, s3, S3, _⟩ := varP.st S2 fr_has 1 rfl s'
    refine rd_some rfl (rd_some (by rw [add_mk]; exact s3) ?_)
    refine rthrough_after (F0 := F0) (h0 := h0) ok hB (ok.eraseH i) rfl (RH := RH) (RQ := RQ) (RH' := RH.eraseIdx i) (RQ' := RQ) (sh := s') (sq := sq) (by rw [← e1]; exact (map_erase rabs _ _).symm) e2 (fun r hr => ?_) ?_ fun s h4 S4 => k s h4 S4
    · rcases List.mem_append.1 hr with hr | hr
      · exact List.mem_append_left _ (List.mem_of_mem_eraseIdx hr)
      · exact List.mem_append_right _ hr
    · have S4 : SG F0 h0 h3 [varP kRM b ⟨A.locks, s', sq⟩, ownP kRS s' ((RH.map rrow).eraseIdx i), ownP kRS sq (RQ.map rrow), sbagP A.locks (RH ++ RQ)] := SG.replace S3 1 (by show 1 < 4; omega)
      rw [map_erase] at S4; exact S4
  | none =>
    refine ite_f rfl (rd_some rfl (rd_some (by rw [add_mk]; exact varP.ld S fr_queue 0 rfl) ?_))
    refine rfind_has ok hB (i := 2) rfl e2 (by omega) S t ?_
    cases hq : findC A.queue t with
    | some i =>
      have hi := findC_lt hq
      have hA : A.quit t = ({ A with queue := A.queue.eraseIdx i }.through.1, { A with queue := A.queue.eraseIdx i }.through.2) := by unfold AM.quit; rw [hf]; simp only [hq]
      rw [hA] at k
      refine ite_t (by show decide ((i : Int) ≥ 0) = true; rw [decide_eq_true_eq]; omega) ?_
      refine rd_some rfl (rd_some (by rw [add_mk]; exact varP.ld S fr_queue 0 rfl) ?_)
      refine rwithout_spec S (ownP.rds (K := kRS) S 2 rfl) (i := i) (by rw [List.length_map]; omega) (by rw [List.length_map]; omega) fun s' h2 S2 => ?_
      obtain ⟨h3, s3, S3, _⟩ := varP.st S2 fr_queue 1 rfl s'
      refine rd_some rfl (rd_some (by rw [add_mk]; exact s3) ?_)
      refine rthrough_after (F0 := F0) (h0 := h0) ok hB (ok.eraseQ i) rfl (RH := RH) (RQ := RQ) (RH' := RH) (RQ' := RQ.eraseIdx i) (sh := sh) (sq := s') e1 (by rw [← e2]; exact (map_erase rabs _ _).symm) (fun r hr => ?_) ?_ fun s h4 S4 => k s h4 S4
      · rcases List.mem_append.1 hr with hr | hr
        · exact List.mem_append_left _ hr
        · exact List.mem_append_right _ (List.mem_of_mem_eraseIdx hr)
      · have S4 : SG F0 h0 h3 [varP kRM b ⟨A.locks, sh, s'⟩, ownP kRS sh (RH.map rrow), ownP kRS s' ((RQ.map rrow).eraseIdx i), sbagP A.locks (RH ++ RQ)] := SG.replace S3 2 (by show 2 < 4; omega)
        rw [map_erase] at S4; exact S4
    | none =>
      have hA : A.quit t = ([], A) := by unfold AM.quit; rw [hf]; simp only [hq]
      rw [hA] at k
      refine ite_f rfl (k Sl.nil h ?_)
      exact ((ref_close e1 e2 S).made (Ext.refl _) (Own.nil (kI .i64) h _)).swap
theorem rnew_spec {n : Int} {Ps : List HP} (S : SG F0 h0 h Ps) {Q : Option Addr × Int → H → Prop} (bad : n < 1 ∨ n > 1024 → Q (none, 1) h) (good : 1 ≤ n → n ≤ 1024 → ∀ b h', SG F0 h0 h' (refP b (AM.new n.toNat) :: Ps) → Q (some ⟨b, 0, none⟩, 0) h') : spateref11_New n h Q := by
  unfold spateref11_New
  refine jn_c (decide (n < 1) || decide (n > 1024)) h (fun K hK => ite_b (fun c => ?_) (fun c => ?_)) (ite_b (fun c => ?_) (fun c => ?_))
  · rw [c, Bool.true_or] at hK; exact hK
  · rw [c, Bool.false_or] at hK; exact hK
  · exact bad (by simpa using c)
  · simp at c
    have S1 := S.add (P := sbagP n.toNat []) (F1 := fun _ => False) ⟨by simp, fun _ h => h.elim⟩ (Ext.refl h) fun _ h => h.elim
    have S2 := (S1.made (Ext.refl h) (Own.nil kRS h _)).made (Ext.refl h) (Own.nil kRS h _)
    refine S2.var (K := kRM) fun b h' S3 e3 => good (by omega) (by omega) b h' ?_
    refine ref_close (A := AM.new n.toNat) (sh := Sl.nil) (sq := Sl.nil) (RH := []) (RQ := []) rfl rfl ?_
    have : ((n.toNat : Nat) : Int) = n := Int.toNat_of_nonneg (by omega)
    show SG F0 h0 h' (varP kRM b ⟨((n.toNat : Nat) : Int), Sl.nil, Sl.nil⟩ :: _)
    rw [this]; exact S3
theorem rask_spec (ok : A.Ok B) (hB : B ≤ 100000000) {t : Int} {s : Sl} {l : List Lk} (R : Rds kLk h s l) (hl : l.length ≤ 8796093022080) :
    Does h [refP b A] (fun Q => spateref11_Manager_Ask (some ⟨b, 0, none⟩) t s h Q) (fun _ : Unit => (A.ask t l).1) (fun _ => [refP b (A.ask t l).2]) := by
  intro F0 h0 Q S k
  have k := k ()
  show spateref11_Manager_Ask _ _ _ _ _
  obtain ⟨sh, sq, RH, RQ, e1, e2, S⟩ := ref_open S
  have hoks := rrows_ok ok e1 e2
  have hlen := rrows_len ok e1 e2
  have hb := ok.b
  have hn := ok.l2
  unfold spateref11_Manager_Ask
  have hm : ld (kI .i64) ⟨b, 0, none⟩ h = some (A.locks : Int) := varP.ld S fr_locks 0 rfl
  refine ordered_spec hm hn R hl fun s' h1 S1 s2 hs2 => ?_
  refine jn_c (decide (t < 0) || !okSet A.locks l) h1 (fun K hK => ite_b (fun c => ?_) (fun c => ?_)) ?_
  · rw [c, Bool.true_or] at hK; exact hK
  · rw [c, Bool.false_or] at hK; exact hK
  refine ite_b (fun c => ?_) (fun c => ?_)
  · have hA : A.ask t l = ((false, 1), A) := by unfold AM.ask; rw [if_pos (by simpa using c)]
    rw [hA] at k
    exact k h1 (ref_close e1 e2 (S.ext (SS.e S1)))
  · rw [Bool.or_eq_false_iff, decide_eq_false_iff_not, Bool.not_eq_false'] at c
    obtain ⟨ht, hok⟩ := c
    obtain rfl := hs2 hok
    have S2 := (S.take_in S1).flat
    have S3 := (sbagP.add (t := t) (S2.front 4 rfl).swap).rot
    have S3 : SG F0 h0 h1 [varP kRM b ⟨A.locks, sh, sq⟩, ownP kRS sh (RH.map rrow), ownP kRS sq (RQ.map rrow), sbagP A.locks ((t, s2, l) :: (RH ++ RQ))] := S3
    have hcond : ¬ (t < 0 ∨ okSet A.locks l = false) := by rw [hok]; simp; omega
    refine jn_c ((findC A.has t).isSome || (findC A.queue t).isSome) h1 (fun K hK => ?_) ?_
    · refine rd_some rfl (rd_some (by rw [add_mk]; exact varP.ld S3 fr_has 0 rfl) (rfind_has ok (by omega) (i := 1) rfl e1 (by omega) S3 t ?_))
      rw [pl_neg]
      refine ite_b (fun c => ?_) (fun c => ?_)
      · rw [c, Bool.true_or] at hK; exact hK
      · rw [c, Bool.false_or] at hK
        refine rd_some rfl (rd_some (by rw [add_mk]; exact varP.ld S3 fr_queue 0 rfl) (rfind_has ok (by omega) (i := 2) rfl e2 (by omega) S3 t ?_))
        rw [pl_neg]; exact hK
    · refine ite_b (fun hh => ?_) (fun hh => ?_)
      · have hA : A.ask t l = ((false, 41), A) := by unfold AM.ask; rw [if_neg hcond, if_pos hh]
        rw [hA] at k
        exact k h1 (ref_close e1 e2 (sbagP.sub S3 3 rfl fun r hr => List.mem_cons_of_mem _ hr))
      · refine S3.cell (K := kRS) (x := rrow (t, s2, l)) fun q h3 S5 ex5 => ?_
        have hn2 : ∀ x ∈ (t, s2, l) :: (RH ++ RQ), okSet A.locks x.2.2 = true := by
          intro x hx
          rcases List.mem_cons.1 hx with rfl | hx
          · exact hok
          · exact hoks x hx
        have sub1 : ∀ x ∈ RH, x ∈ (t, s2, l) :: (RH ++ RQ) := fun x hx => List.mem_cons_of_mem _ (List.mem_append_left _ hx)
        have sub2 : ∀ x ∈ RQ, x ∈ (t, s2, l) :: (RH ++ RQ) := fun x hx => List.mem_cons_of_mem _ (List.mem_append_right _ hx)
        refine jn_q (fun (v : Bool) h' => Ext h3 h' ∧ v = (hit A.has l || hit A.queue l)) (fun K hK => ?_) ?_
        · have hw : ld kRS ⟨q, 0, none⟩ h3 = some (rrow (t, s2, l)) := varP.ld S5 (Fld.whole kRS) 0 rfl
          refine rd_some rfl (rd_some (by rw [add_mk]; exact varP.ld S5 fr_has 1 rfl) (rd_some hw ?_))
          refine rhit_spec hn (ownP.rds (K := kRS) S5 2 rfl) (by omega) (fun x hx => sbagP.is S5 4 rfl hx) hn2 List.mem_cons_self sub1 fun h4 ex4 => ?_
          have S6 := S5.ext ex4
          rw [e1]
          refine ite_b (fun c => hK _ _ ⟨ex4, by rw [show hit A.has l = true from c]; rfl⟩) (fun c => ?_)
          refine rd_some rfl (rd_some (by rw [add_mk]; exact varP.ld S6 fr_queue 1 rfl) (rd_some (ld_ext ex4 hw) ?_))
          refine rhit_spec hn (ownP.rds (K := kRS) S6 3 rfl) (by omega) (fun x hx => sbagP.is S6 4 rfl hx) hn2 List.mem_cons_self sub2 fun h5 ex5 => ?_
          rw [e2]
          exact hK _ _ ⟨ex4.trans ex5, by rw [show hit A.has l = false from c, Bool.false_or]⟩
        · rintro _ h4 ⟨ex4, rfl⟩
          have S6 := S5.ext ex4
          have hw : ld kRS ⟨q, 0, none⟩ h4 = some (rrow (t, s2, l)) := varP.ld S6 (Fld.whole kRS) 0 rfl
          refine ite_b (fun c => ?_) (fun c => ?_)
          · have hA : A.ask t l = ((false, 0), { A with queue := A.queue ++ [(t, l)] }) := by unfold AM.ask; rw [if_neg hcond, if_neg (by rw [hh]; simp), if_pos c]
            rw [hA] at k
            refine rd_some rfl (rd_some (by rw [add_mk]; exact varP.ld S6 fr_queue 1 rfl) (rd_some hw (ownP.push (K := kRS) (by decide) S6 3 rfl (rrow (t, s2, l)) (by simp; omega) (by simp; omega) fun s' h5 S7 => ?_)))
            obtain ⟨h6, s6, S8, _⟩ := varP.st S7 fr_queue 1 rfl s'
            refine rd_some rfl (rd_some (by rw [add_mk]; exact s6) (k h6 ?_))
            have S9 := sbagP.sub S8.tail 3 rfl (rs' := RH ++ (RQ ++ [(t, s2, l)])) (fun r hr => by simp at hr ⊢; rcases hr with h | h | h <;> simp [h])
            have S10 : SG F0 h0 h6 (refL b A.locks sh s' RH (RQ ++ [(t, s2, l)]) ++ []) := by unfold refL; rw [List.map_append]; exact S9
            exact ref_close (A := { A with queue := A.queue ++ [(t, l)] }) e1 (by rw [List.map_append, e2]; rfl) S10
          · have hA : A.ask t l = ((true, 0), { A with has := A.has ++ [(t, l)] }) := by unfold AM.ask; rw [if_neg hcond, if_neg (by rw [hh]; simp), if_neg (by rw [c]; simp)]
            rw [hA] at k
            refine rd_some rfl (rd_some (by rw [add_mk]; exact varP.ld S6 fr_has 1 rfl) (rd_some hw (ownP.push (K := kRS) (by decide) S6 2 rfl (rrow (t, s2, l)) (by simp; omega) (by simp; omega) fun s' h5 S7 => ?_)))
            obtain ⟨h6, s6, S8, _⟩ := varP.st S7 fr_has 1 rfl s'
            refine rd_some rfl (rd_some (by rw [add_mk]; exact s6) (k h6 ?_))
            have S9 := sbagP.sub S8.tail 3 rfl (rs' := (RH ++ [(t, s2, l)]) ++ RQ) (fun r hr => by simp at hr ⊢; rcases hr with h | h | h <;> simp [h])
            have S10 : SG F0 h0 h6 (refL b A.locks s' sq (RH ++ [(t, s2, l)]) RQ ++ []) := by unfold refL; rw [List.map_append]; exact S9
            exact ref_close (A := { A with has := A.has ++ [(t, l)] }) (by rw [List.map_append, e1]; rfl) e2 S10
end
end Go.Proofs.YtomngllmnhdmlaaGreat
/- spate/spateref12.New, as a predicate over the heap, and that the code comes to it. Printed by gen.py. -/
namespace Go.Proofs.YtomngllmnhdmlaaGreat
open Go Go.Tr
set_option linter.unusedVariables false
set_option maxRecDepth 100000
set_option maxHeartbeats 400000
/-- spate/spateref12.New -/
def spateref12_New (a0 : Int) (h : H) (Q : ((Option Addr) × Int) → H → Prop) : Prop :=
  spateref11_New a0 h fun r1 h1 =>
  if (r1.2 != 0) = true then
    Q (none, r1.2) h1
  else
    al 72 (k71.enc (S71.mk Sl.nil r1.1)) h1 fun q1 h2 =>
    Q ((some q1), 0) h2
theorem spateref12_New.sound {a0 : Int} {h : H} {Q : ((Option Addr) × Int) → H → Prop} (hF : spateref12_New a0 h Q) :
    CallsH Tryz.prog 6 (List.toArray (α := Value) [.int .i64 a0]) h fun v h' => ∃ x : (Option Addr) × Int, v = .tuple #[.pointer x.1, .int .i64 x.2] ∧ Q x h' := by
  refine CallsH.of_body Tryz.func6 rfl 17 rfl rfl ?_
  refine WP.seq ?_
  refine WP.region ?_
  refine EvK.pure (v := .pointer none) (w_none rfl) rfl rfl (f_assign rfl rfl) ?_
  refine EvK.pure (v := .int .i64 0) (w_none rfl) rfl rfl (f_assign rfl rfl) ?_
  refine EvK.nil ?_
  refine WP.seq ?_
  refine WP.region ?_
  refine EvK.pure (v := .int .i64 a0) (w_none rfl) rfl rfl (f_move rfl rfl) ?_
  refine EvK.call (w_none rfl) rfl rfl (enterH Tryz.func20 rfl rfl rfl rfl (spateref11_New.sound hF)) ?_
  rintro _ h1 ⟨r1, rfl, hF⟩
  refine EvK.pure (v := .tuple #[.pointer r1.1, .int .i64 r1.2]) (w_none rfl) rfl rfl (f_move rfl rfl) ?_
  refine EvK.pure (v := .pointer r1.1) (w_none rfl) rfl rfl (f_extract (vs := #[.pointer r1.1, .int .i64 r1.2]) rfl rfl rfl) ?_
  refine EvK.pure (v := .int .i64 r1.2) (w_none rfl) rfl rfl (f_extract (vs := #[.pointer r1.1, .int .i64 r1.2]) rfl rfl rfl) ?_
  refine EvK.pure (v := .pointer r1.1) (w_none rfl) rfl rfl (f_assign rfl rfl) ?_
  refine EvK.pure (v := .int .i64 r1.2) (w_none rfl) rfl rfl (f_assign rfl rfl) ?_
  refine EvK.nil ?_
  refine WP.seq ?_
  refine WP.seq ?_
  refine WP.region ?_
  refine EvK.pure (v := .int .i64 r1.2) (w_none rfl) rfl rfl (f_move rfl rfl) ?_
  refine EvK.pure (v := .bool (r1.2 != 0)) (w_none rfl) rfl rfl (f_neq rfl rfl rfl) ?_
  refine EvK.nil ?_
  rcases ite_inv hF with ⟨c1, hF⟩ | ⟨c1, hF⟩
  · refine WP.cond_true _ rfl c1 ?_
    refine WP.seq ?_
    refine WP.region ?_
    refine EvK.pure (v := .int .i64 r1.2) (w_none rfl) rfl rfl (f_move rfl rfl) ?_
    refine EvK.pure (v := .pointer none) (w_none rfl) rfl rfl (f_assign rfl rfl) ?_
    refine EvK.pure (v := .int .i64 r1.2) (w_none rfl) rfl rfl (f_assign rfl rfl) ?_
    refine EvK.nil ?_
    refine WP.ret ?_
    exact Ret.mk (vs := [.pointer none, .int .i64 r1.2]) (none, r1.2) ⟨rfl, rfl, trivial⟩ rfl hF
  · refine WP.cond_false _ rfl c1 ?_
    refine WP.skip ?_
    refine WP.seq ?_
    refine WP.region ?_
    refine EvK.pure (v := .pointer r1.1) (w_none rfl) rfl rfl (f_move rfl rfl) ?_
    refine EvK.pure (v := k71.val (S71.mk Sl.nil r1.1)) (w_none rfl) rfl rfl (f_build (cells := k71.enc (S71.mk Sl.nil r1.1)) st72 rfl rfl rfl) ?_
    refine EvK.alloc (w_none rfl) rfl rfl (f_boxF (v := k71.val (S71.mk Sl.nil r1.1)) rfl rfl rfl hF) ?_
    rintro _ h2 ⟨q1, rfl, hF⟩
    refine EvK.pure (v := .pointer (some q1)) (w_none rfl) rfl rfl (f_assign rfl rfl) ?_
    refine EvK.pure (v := .int .i64 0) (w_none rfl) rfl rfl (f_assign rfl rfl) ?_
    refine EvK.nil ?_
    refine WP.ret ?_
    exact Ret.mk (vs := [.pointer (some q1), .int .i64 0]) ((some q1), 0) ⟨rfl, rfl, trivial⟩ rfl hF
end Go.Proofs.YtomngllmnhdmlaaGreat
/- (*spate/spateref12.Sched).Add, as a predicate over the heap, and that the code comes to it. Printed by gen.py. -/
namespace Go.Proofs.YtomngllmnhdmlaaGreat
open Go Go.Tr
set_option linter.unusedVariables false
set_option maxRecDepth 100000
set_option maxHeartbeats 400000
/-- (*spate/spateref12.Sched).Add -/
def spateref12_Sched_Add (a0 : Option Addr) (a1 : Sl) (h : H) (Q : Int → H → Prop) : Prop :=
  rd a0 fun q1 =>
  rd (ld kL (q1.add 0) h) fun x1 =>
  bs 80 1 (k79.enc (S79.mk a1 0 1 0 0 0)) h fun x2 h1 =>
  ap k79.n 64 80 (k79.enc z79) x1 x2 h1 fun x3 h2 =>
  rd a0 fun q2 =>
  rd (st kL (q2.add 0) x3 h2) fun h3 =>
  rd a0 fun q3 =>
  rd (ld kL (q3.add 0) h3) fun x4 =>
  Q (IntKind.i64.wrap ((x4.len : Int) - 1)) h3
theorem spateref12_Sched_Add.sound {a0 : Option Addr} {a1 : Sl} {h : H} {Q : Int → H → Prop} (hF : spateref12_Sched_Add a0 a1 h Q) :
    CallsH Tryz.prog 9 (List.toArray (α := Value) [.pointer a0, Sl.val a1]) h fun v h' => ∃ x : Int, v = .int .i64 x ∧ Q x h' := by
  refine CallsH.of_body Tryz.func9 rfl 22 rfl rfl ?_
  refine WP.seq ?_
  refine WP.region ?_
  refine EvK.pure (v := .int .i64 0) (w_none rfl) rfl rfl (f_assign rfl rfl) ?_
  refine EvK.nil ?_
  refine WP.seq ?_
  refine WP.region ?_
  refine EvK.pure (v := .pointer a0) (w_none rfl) rfl rfl (f_move rfl rfl) ?_
  refine EvK.pure (v := .pointer a0) (w_none rfl) rfl rfl (f_move rfl rfl) ?_
  obtain ⟨q1, hq1, hF⟩ := hF
  refine EvK.pure (v := .pointer (some q1)) (w_none rfl) rfl rfl (f_nilCheck rfl (congrArg Value.pointer hq1)) ?_
  refine EvK.pure (v := .pointer (some (q1.add 0))) (w_none rfl) rfl rfl (f_fieldAddr fd72_0 rfl rfl) ?_
  obtain ⟨x1, hx1, hF⟩ := hF
  refine EvK.read (v := Sl.val x1) (w_none rfl) rfl rfl (f_load kL ty70 rfl rfl hx1 rfl) ?_
  refine EvK.pure (v := Sl.val a1) (w_none rfl) rfl rfl (f_move rfl rfl) ?_
  refine EvK.pure (v := k79.val (S79.mk a1 0 1 0 0 0)) (w_none rfl) rfl rfl (f_build (cells := k79.enc (S79.mk a1 0 1 0 0 0)) st80 rfl rfl rfl) ?_
  refine EvK.alloc (w_none rfl) rfl rfl (f_buildSliceF Tryz.underlying70 el80 (by decide) rfl rfl rfl hF) ?_
  rintro _ h1 ⟨x2, rfl, hF⟩
  refine EvK.run (w_none rfl) rfl rfl (f_appendE (s := x1) (x := x2) Tryz.underlying70 el80 rfl rfl rfl hF) ?_
  rintro _ h2 ⟨x3, rfl, hF⟩
  obtain ⟨q2, hq2, hF⟩ := hF
  refine EvK.pure (v := .pointer (some q2)) (w_none rfl) rfl rfl (f_nilCheck rfl (congrArg Value.pointer hq2)) ?_
  refine EvK.pure (v := .pointer (some (q2.add 0))) (w_none rfl) rfl rfl (f_fieldAddr fd72_0 rfl rfl) ?_
  obtain ⟨h3, hs1, hF⟩ := hF
  refine EvK.runN (w_none rfl) rfl (f_store kL ty70.size (z := x3) rfl rfl rfl hs1) ?_
  rintro _ _ ⟨rfl, rfl⟩
  refine EvK.nil ?_
  refine WP.seq ?_
  refine WP.region ?_
  refine EvK.pure (v := .pointer a0) (w_none rfl) rfl rfl (f_move rfl rfl) ?_
  obtain ⟨q3, hq3, hF⟩ := hF
  refine EvK.pure (v := .pointer (some q3)) (w_none rfl) rfl rfl (f_nilCheck rfl (congrArg Value.pointer hq3)) ?_
  refine EvK.pure (v := .pointer (some (q3.add 0))) (w_none rfl) rfl rfl (f_fieldAddr fd72_0 rfl rfl) ?_
  obtain ⟨x4, hx2, hF⟩ := hF
  refine EvK.read (v := Sl.val x4) (w_none rfl) rfl rfl (f_load kL ty70 rfl rfl hx2 rfl) ?_
  refine EvK.pure (v := .int .i64 (x4.len : Int)) (w_none rfl) rfl rfl (f_lenL (s := x4) Tryz.underlying70 rfl rfl) ?_
  refine EvK.pure (v := .int .i64 (IntKind.i64.wrap ((x4.len : Int) - 1))) (w_none rfl) rfl rfl (f_sub rfl rfl rfl) ?_
  refine EvK.pure (v := .int .i64 (IntKind.i64.wrap ((x4.len : Int) - 1))) (w_none rfl) rfl rfl (f_assign rfl rfl) ?_
  refine EvK.nil ?_
  refine WP.ret ?_
  exact Ret.mk (vs := [.int .i64 (IntKind.i64.wrap ((x4.len : Int) - 1))]) (IntKind.i64.wrap ((x4.len : Int) - 1)) ⟨rfl, trivial⟩ rfl hF
end Go.Proofs.YtomngllmnhdmlaaGreat
/- (*spate/spateref12.Sched).Ready, as a predicate over the heap, and that the code comes to it. Printed by gen.py. -/
namespace Go.Proofs.YtomngllmnhdmlaaGreat
open Go Go.Tr
set_option linter.unusedVariables false
set_option maxRecDepth 100000
set_option maxHeartbeats 400000
def spateref12_Sched_Ready.b1 (p0 : Option Addr) (s : Sl × Int) (h : H) (K : (Sl × Int) ⊕ Sl → H → Prop) : Prop :=
  rd p0 fun q1 =>
  rd (ld kL (q1.add 0) h) fun x1 =>
  if (decide (s.2 < (x1.len : Int))) = true then
    jn (fun (k2 : Sl → H → Prop) =>
      rd p0 fun q2 =>
      rd (ld kL (q2.add 0) h) fun x2 =>
      rd (ixA 6 x2 s.2) fun q3 =>
      rd (ld (kI .i64) (q3.add 2) h) fun x3 =>
      if (x3 == 1) = true then
        bs 3 1 ((kI .i64).enc s.2) h fun x4 h3 =>
        ap (kI .i64).n 8 3 ((kI .i64).enc 0) s.1 x4 h3 fun x5 h4 =>
        k2 x5 h4
      else
        k2 s.1 h) fun s2 h2 =>
    K (.inl (s2, IntKind.i64.wrap (s.2 + 1))) h2
  else
    K (.inr s.1) h
/-- (*spate/spateref12.Sched).Ready -/
def spateref12_Sched_Ready (a0 : Option Addr) (h : H) (Q : Sl → H → Prop) : Prop :=
  jn (fun (k1 : Sl → H → Prop) =>
    loopE (spateref12_Sched_Ready.b1 a0) (Sl.nil, 0) h (fun r1 hh => k1 r1 hh)) fun s1 h1 =>
  Q s1 h1
theorem spateref12_Sched_Ready.sound {a0 : Option Addr} {h : H} {Q : Sl → H → Prop} (hF : spateref12_Sched_Ready a0 h Q) :
    CallsH Tryz.prog 27 (List.toArray (α := Value) [.pointer a0]) h fun v h' => ∃ x : Sl, v = Sl.val x ∧ Q x h' := by
  refine CallsH.of_body Tryz.func27 rfl 28 rfl rfl ?_
  refine WP.seq ?_
  refine WP.region ?_
  refine EvK.pure (v := Sl.val Sl.nil) (w_none rfl) rfl rfl (f_assign rfl rfl) ?_
  refine EvK.nil ?_
  refine WP.seq ?_
  refine WP.region ?_
  refine EvK.pure (v := Sl.val Sl.nil) (w_none rfl) rfl rfl (f_assign rfl rfl) ?_
  refine EvK.nil ?_
  refine WP.joinF (fun (s1 : Sl) => [(3, Sl.val s1)]) hF ?_ ?_
  · intro s1 E0 h1 hF
    refine WP.seq ?_
    refine WP.region ?_
    refine EvK.pure (v := Sl.val s1) (w_none rfl) rfl rfl (f_move rfl rfl) ?_
    refine EvK.pure (v := Sl.val s1) (w_none rfl) rfl rfl (f_assign rfl rfl) ?_
    refine EvK.nil ?_
    refine WP.ret ?_
    exact Ret.mk (vs := [Sl.val s1]) s1 ⟨rfl, trivial⟩ rfl hF
  · intro k1 hF
    refine WP.seq ?_
    refine WP.region ?_
    refine EvK.pure (v := .int .i64 0) (w_none rfl) rfl rfl (f_assign rfl rfl) ?_
    refine EvK.nil ?_
    refine WP.block ?_
    refine WP.loopF (fun (s2 : Sl × Int) => [(3, Sl.val s2.1), (4, .int .i64 s2.2), (0, .pointer a0)]) hF ⟨rfl, rfl, rfl, trivial⟩ ?_
    intro k2 s2 E0 h2 hF
    refine WP.seq ?_
    refine WP.seq ?_
    refine WP.region ?_
    refine EvK.pure (v := .int .i64 s2.2) (w_none rfl) rfl rfl (f_move rfl rfl) ?_
    refine EvK.pure (v := .pointer a0) (w_none rfl) rfl rfl (f_move rfl rfl) ?_
    obtain ⟨q1, hq1, hF⟩ := hF
    refine EvK.pure (v := .pointer (some q1)) (w_none rfl) rfl rfl (f_nilCheck rfl (congrArg Value.pointer hq1)) ?_
    refine EvK.pure (v := .pointer (some (q1.add 0))) (w_none rfl) rfl rfl (f_fieldAddr fd72_0 rfl rfl) ?_
    obtain ⟨x1, hx1, hF⟩ := hF
    refine EvK.read (v := Sl.val x1) (w_none rfl) rfl rfl (f_load kL ty70 rfl rfl hx1 rfl) ?_
    refine EvK.pure (v := .int .i64 (x1.len : Int)) (w_none rfl) rfl rfl (f_lenL (s := x1) Tryz.underlying70 rfl rfl) ?_
    refine EvK.pure (v := .bool (decide (s2.2 < (x1.len : Int)))) (w_none rfl) rfl rfl (f_lss rfl rfl rfl) ?_
    refine EvK.nil ?_
    rcases ite_inv hF with ⟨c1, hF⟩ | ⟨c1, hF⟩
    · refine WP.cond_true _ rfl c1 ?_
      refine WP.skip ?_
      refine WP.joinF (fun (s3 : Sl) => [(3, Sl.val s3), (0, .pointer a0), (4, .int .i64 s2.2)]) hF ?_ ?_
      · intro s3 E0 h3 hF
        refine WP.region ?_
        refine EvK.pure (v := .int .i64 s2.2) (w_none rfl) rfl rfl (f_move rfl rfl) ?_
        refine EvK.pure (v := .int .i64 (IntKind.i64.wrap (s2.2 + 1))) (w_none rfl) rfl rfl (f_add rfl rfl rfl) ?_
        refine EvK.pure (v := .int .i64 (IntKind.i64.wrap (s2.2 + 1))) (w_none rfl) rfl rfl (f_assign rfl rfl) ?_
        refine EvK.nil ?_
        exact KE.mk (s3, IntKind.i64.wrap (s2.2 + 1)) ⟨rfl, rfl, rfl, trivial⟩ hF
      · intro k3 hF
        refine WP.block ?_
        refine WP.seq ?_
        refine WP.region ?_
        refine EvK.pure (v := .pointer a0) (w_none rfl) rfl rfl (f_move rfl rfl) ?_
        obtain ⟨q2, hq2, hF⟩ := hF
        refine EvK.pure (v := .pointer (some q2)) (w_none rfl) rfl rfl (f_nilCheck rfl (congrArg Value.pointer hq2)) ?_
        refine EvK.pure (v := .pointer (some (q2.add 0))) (w_none rfl) rfl rfl (f_fieldAddr fd72_0 rfl rfl) ?_
        obtain ⟨x2, hx2, hF⟩ := hF
        refine EvK.read (v := Sl.val x2) (w_none rfl) rfl rfl (f_load kL ty70 rfl rfl hx2 rfl) ?_
        refine EvK.pure (v := .int .i64 s2.2) (w_none rfl) rfl rfl (f_move rfl rfl) ?_
        obtain ⟨q3, hq3, hF⟩ := hF
        refine EvK.pure (v := .pointer (some q3)) (w_none rfl) rfl rfl (f_indexAddr (s := x2) Tryz.underlying70 ty80.size rfl rfl rfl hq3) ?_
        refine EvK.pure (v := .pointer (some (q3.add 2))) (w_none rfl) rfl rfl (f_fieldAddr fd80_2 rfl rfl) ?_
        obtain ⟨x3, hx3, hF⟩ := hF
        refine EvK.read (v := .int .i64 x3) (w_none rfl) rfl rfl (f_load (kI .i64) ty3 rfl rfl hx3 rfl) ?_
        refine EvK.pure (v := .bool (x3 == 1)) (w_none rfl) rfl rfl (f_eql rfl rfl rfl) ?_
        refine EvK.nil ?_
        rcases ite_inv hF with ⟨c2, hF⟩ | ⟨c2, hF⟩
        · refine WP.cond_true _ rfl c2 ?_
          refine WP.region ?_
          refine EvK.pure (v := Sl.val s2.1) (w_none rfl) rfl rfl (f_move rfl rfl) ?_
          refine EvK.pure (v := .int .i64 s2.2) (w_none rfl) rfl rfl (f_move rfl rfl) ?_
          refine EvK.alloc (w_none rfl) rfl rfl (f_buildSliceF Tryz.underlying51 el3 (by decide) rfl rfl rfl hF) ?_
          rintro _ h4 ⟨x4, rfl, hF⟩
          refine EvK.run (w_none rfl) rfl rfl (f_appendE (s := s2.1) (x := x4) Tryz.underlying51 el3 rfl rfl rfl hF) ?_
          rintro _ h5 ⟨x5, rfl, hF⟩
          refine EvK.pure (v := Sl.val x5) (w_none rfl) rfl rfl (f_assign rfl rfl) ?_
          refine EvK.nil ?_
          exact KE.mk x5 ⟨rfl, rfl, rfl, trivial⟩ hF
        · refine WP.cond_false _ rfl c2 ?_
          refine WP.skip ?_
          exact KE.mk s2.1 ⟨rfl, rfl, rfl, trivial⟩ hF
    · refine WP.cond_false _ rfl c1 ?_
      refine WP.exit ?_
      exact KE.mk s2.1 ⟨rfl, trivial⟩ hF
end Go.Proofs.YtomngllmnhdmlaaGreat
/- (*spate/spateref12.Sched).Wake, as a predicate over the heap, and that the code comes to it. Printed by gen.py. -/
namespace Go.Proofs.YtomngllmnhdmlaaGreat
open Go Go.Tr
set_option linter.unusedVariables false
set_option maxRecDepth 100000
set_option maxHeartbeats 400000
def spateref12_Sched_Wake.b1 (p0 : Option Addr) (p1 : Int) (s : Int × Int) (h : H) (K : (Int × Int) ⊕ Int → H → Prop) : Prop :=
  rd p0 fun q1 =>
  rd (ld kL (q1.add 0) h) fun x1 =>
  if (decide (s.2 < (x1.len : Int))) = true then
    jn (fun (k2 : Int → H → Prop) =>
      jn (fun (k3 : Bool → H → Prop) =>
        rd p0 fun q4 =>
        rd (ld kL (q4.add 0) h) fun x3 =>
        rd (ixA 6 x3 s.2) fun q5 =>
        rd (ld (kI .i64) (q5.add 2) h) fun x4 =>
        if (x4 == 3) = true then
          rd p0 fun q6 =>
          rd (ld kL (q6.add 0) h) fun x5 =>
          rd (ixA 6 x5 s.2) fun q7 =>
          rd (ld (kI .i64) (q7.add 3) h) fun x6 =>
          k3 (x6 == p1) h
        else
          k3 false h) fun s3 h3 =>
      if s3 = true then
        rd p0 fun q2 =>
        rd (ld kL (q2.add 0) h3) fun x2 =>
        rd (ixA 6 x2 s.2) fun q3 =>
        rd (st (kI .i64) (q3.add 2) 1 h3) fun h4 =>
        k2 (IntKind.i64.wrap (s.1 + 1)) h4
      else
        k2 s.1 h3) fun s2 h2 =>
    K (.inl (s2, IntKind.i64.wrap (s.2 + 1))) h2
  else
    K (.inr s.1) h
/-- (*spate/spateref12.Sched).Wake -/
def spateref12_Sched_Wake (a0 : Option Addr) (a1 : Int) (h : H) (Q : Int → H → Prop) : Prop :=
  jn (fun (k1 : Int → H → Prop) =>
    loopE (spateref12_Sched_Wake.b1 a0 a1) (0, 0) h (fun r1 hh => k1 r1 hh)) fun s1 h1 =>
  Q s1 h1
theorem spateref12_Sched_Wake.sound {a0 : Option Addr} {a1 : Int} {h : H} {Q : Int → H → Prop} (hF : spateref12_Sched_Wake a0 a1 h Q) :
    CallsH Tryz.prog 15 (List.toArray (α := Value) [.pointer a0, .int .i64 a1]) h fun v h' => ∃ x : Int, v = .int .i64 x ∧ Q x h' := by
  refine CallsH.of_body Tryz.func15 rfl 47 rfl rfl ?_
  refine WP.seq ?_
  refine WP.region ?_
  refine EvK.pure (v := .int .i64 0) (w_none rfl) rfl rfl (f_assign rfl rfl) ?_
  refine EvK.nil ?_
  refine WP.seq ?_
  refine WP.region ?_
  refine EvK.pure (v := .int .i64 0) (w_none rfl) rfl rfl (f_assign rfl rfl) ?_
  refine EvK.nil ?_
  refine WP.joinF (fun (s1 : Int) => [(5, .int .i64 s1)]) hF ?_ ?_
  · intro s1 E0 h1 hF
    refine WP.seq ?_
    refine WP.region ?_
    refine EvK.pure (v := .int .i64 s1) (w_none rfl) rfl rfl (f_move rfl rfl) ?_
    refine EvK.pure (v := .int .i64 s1) (w_none rfl) rfl rfl (f_assign rfl rfl) ?_
    refine EvK.nil ?_
    refine WP.ret ?_
    exact Ret.mk (vs := [.int .i64 s1]) s1 ⟨rfl, trivial⟩ rfl hF
  · intro k1 hF
    refine WP.seq ?_
    refine WP.region ?_
    refine EvK.pure (v := .int .i64 0) (w_none rfl) rfl rfl (f_assign rfl rfl) ?_
    refine EvK.nil ?_
    refine WP.block ?_
    refine WP.loopF (fun (s2 : Int × Int) => [(5, .int .i64 s2.1), (6, .int .i64 s2.2), (0, .pointer a0), (1, .int .i64 a1)]) hF ⟨rfl, rfl, rfl, rfl, trivial⟩ ?_
    intro k2 s2 E0 h2 hF
    refine WP.seq ?_
    refine WP.seq ?_
    refine WP.region ?_
    refine EvK.pure (v := .int .i64 s2.2) (w_none rfl) rfl rfl (f_move rfl rfl) ?_
    refine EvK.pure (v := .pointer a0) (w_none rfl) rfl rfl (f_move rfl rfl) ?_
    obtain ⟨q1, hq1, hF⟩ := hF
    refine EvK.pure (v := .pointer (some q1)) (w_none rfl) rfl rfl (f_nilCheck rfl (congrArg Value.pointer hq1)) ?_
    refine EvK.pure (v := .pointer (some (q1.add 0))) (w_none rfl) rfl rfl (f_fieldAddr fd72_0 rfl rfl) ?_
    obtain ⟨x1, hx1, hF⟩ := hF
    refine EvK.read (v := Sl.val x1) (w_none rfl) rfl rfl (f_load kL ty70 rfl rfl hx1 rfl) ?_
    refine EvK.pure (v := .int .i64 (x1.len : Int)) (w_none rfl) rfl rfl (f_lenL (s := x1) Tryz.underlying70 rfl rfl) ?_
    refine EvK.pure (v := .bool (decide (s2.2 < (x1.len : Int)))) (w_none rfl) rfl rfl (f_lss rfl rfl rfl) ?_
    refine EvK.nil ?_
    rcases ite_inv hF with ⟨c1, hF⟩ | ⟨c1, hF⟩
    · refine WP.cond_true _ rfl c1 ?_
      refine WP.skip ?_
      refine WP.joinF (fun (s3 : Int) => [(5, .int .i64 s3), (0, .pointer a0), (1, .int .i64 a1), (6, .int .i64 s2.2)]) hF ?_ ?_
      · intro s3 E0 h3 hF
        refine WP.region ?_
        refine EvK.pure (v := .int .i64 s2.2) (w_none rfl) rfl rfl (f_move rfl rfl) ?_
        refine EvK.pure (v := .int .i64 (IntKind.i64.wrap (s2.2 + 1))) (w_none rfl) rfl rfl (f_add rfl rfl rfl) ?_
        refine EvK.pure (v := .int .i64 (IntKind.i64.wrap (s2.2 + 1))) (w_none rfl) rfl rfl (f_assign rfl rfl) ?_
        refine EvK.nil ?_
        exact KE.mk (s3, IntKind.i64.wrap (s2.2 + 1)) ⟨rfl, rfl, rfl, rfl, trivial⟩ hF
      · intro k3 hF
        refine WP.block ?_
        refine WP.joinF (fun (s4 : Bool) => [(36, .bool s4), (0, .pointer a0), (1, .int .i64 a1), (5, .int .i64 s2.1), (6, .int .i64 s2.2)]) hF ?_ ?_
        · intro s4 E0 h4 hF
          rcases ite_inv hF with ⟨c2, hF⟩ | ⟨c2, hF⟩
          · refine WP.cond_true _ rfl c2 ?_
            refine WP.seq ?_
            refine WP.region ?_
            refine EvK.pure (v := .pointer a0) (w_none rfl) rfl rfl (f_move rfl rfl) ?_
            obtain ⟨q2, hq2, hF⟩ := hF
            refine EvK.pure (v := .pointer (some q2)) (w_none rfl) rfl rfl (f_nilCheck rfl (congrArg Value.pointer hq2)) ?_
            refine EvK.pure (v := .pointer (some (q2.add 0))) (w_none rfl) rfl rfl (f_fieldAddr fd72_0 rfl rfl) ?_
            obtain ⟨x2, hx2, hF⟩ := hF
            refine EvK.read (v := Sl.val x2) (w_none rfl) rfl rfl (f_load kL ty70 rfl rfl hx2 rfl) ?_
            refine EvK.pure (v := .int .i64 s2.2) (w_none rfl) rfl rfl (f_move rfl rfl) ?_
            obtain ⟨q3, hq3, hF⟩ := hF
            refine EvK.pure (v := .pointer (some q3)) (w_none rfl) rfl rfl (f_indexAddr (s := x2) Tryz.underlying70 ty80.size rfl rfl rfl hq3) ?_
            refine EvK.pure (v := .pointer (some (q3.add 2))) (w_none rfl) rfl rfl (f_fieldAddr fd80_2 rfl rfl) ?_
            obtain ⟨h5, hs1, hF⟩ := hF
            refine EvK.runN (w_none rfl) rfl (f_store (kI .i64) ty3.size (z := 1) rfl rfl rfl hs1) ?_
            rintro _ _ ⟨rfl, rfl⟩
            refine EvK.nil ?_
            refine WP.region ?_
            refine EvK.pure (v := .int .i64 s2.1) (w_none rfl) rfl rfl (f_move rfl rfl) ?_
            refine EvK.pure (v := .int .i64 (IntKind.i64.wrap (s2.1 + 1))) (w_none rfl) rfl rfl (f_add rfl rfl rfl) ?_
            refine EvK.pure (v := .int .i64 (IntKind.i64.wrap (s2.1 + 1))) (w_none rfl) rfl rfl (f_assign rfl rfl) ?_
            refine EvK.nil ?_
            exact KE.mk (IntKind.i64.wrap (s2.1 + 1)) ⟨rfl, rfl, rfl, rfl, trivial⟩ hF
          · refine WP.cond_false _ rfl c2 ?_
            refine WP.skip ?_
            exact KE.mk s2.1 ⟨rfl, rfl, rfl, rfl, trivial⟩ hF
        · intro k4 hF
          refine WP.region ?_
          refine EvK.pure (v := .pointer a0) (w_none rfl) rfl rfl (f_move rfl rfl) ?_
          obtain ⟨q4, hq4, hF⟩ := hF
          refine EvK.pure (v := .pointer (some q4)) (w_none rfl) rfl rfl (f_nilCheck rfl (congrArg Value.pointer hq4)) ?_
          refine EvK.pure (v := .pointer (some (q4.add 0))) (w_none rfl) rfl rfl (f_fieldAddr fd72_0 rfl rfl) ?_
          obtain ⟨x3, hx3, hF⟩ := hF
          refine EvK.read (v := Sl.val x3) (w_none rfl) rfl rfl (f_load kL ty70 rfl rfl hx3 rfl) ?_
          refine EvK.pure (v := .int .i64 s2.2) (w_none rfl) rfl rfl (f_move rfl rfl) ?_
          obtain ⟨q5, hq5, hF⟩ := hF
          refine EvK.pure (v := .pointer (some q5)) (w_none rfl) rfl rfl (f_indexAddr (s := x3) Tryz.underlying70 ty80.size rfl rfl rfl hq5) ?_
          refine EvK.pure (v := .pointer (some (q5.add 2))) (w_none rfl) rfl rfl (f_fieldAddr fd80_2 rfl rfl) ?_
          obtain ⟨x4, hx4, hF⟩ := hF
          refine EvK.read (v := .int .i64 x4) (w_none rfl) rfl rfl (f_load (kI .i64) ty3 rfl rfl hx4 rfl) ?_
          refine EvK.pure (v := .bool (x4 == 3)) (w_none rfl) rfl rfl (f_eql rfl rfl rfl) ?_
          refine EvK.pure (v := .bool (x4 == 3)) (w_none rfl) rfl rfl (f_move rfl rfl) ?_
          rcases ite_inv hF with ⟨c3, hF⟩ | ⟨c3, hF⟩
          · refine EvK.pure (v := .pointer a0) (w_some rfl rfl c3) rfl rfl (f_move rfl rfl) ?_
            obtain ⟨q6, hq6, hF⟩ := hF
            refine EvK.pure (v := .pointer (some q6)) (w_some rfl rfl c3) rfl rfl (f_nilCheck rfl (congrArg Value.pointer hq6)) ?_
            refine EvK.pure (v := .pointer (some (q6.add 0))) (w_some rfl rfl c3) rfl rfl (f_fieldAddr fd72_0 rfl rfl) ?_
            obtain ⟨x5, hx5, hF⟩ := hF
            refine EvK.read (v := Sl.val x5) (w_some rfl rfl c3) rfl rfl (f_load kL ty70 rfl rfl hx5 rfl) ?_
            refine EvK.pure (v := .int .i64 s2.2) (w_some rfl rfl c3) rfl rfl (f_move rfl rfl) ?_
            obtain ⟨q7, hq7, hF⟩ := hF
            refine EvK.pure (v := .pointer (some q7)) (w_some rfl rfl c3) rfl rfl (f_indexAddr (s := x5) Tryz.underlying70 ty80.size rfl rfl rfl hq7) ?_
            refine EvK.pure (v := .pointer (some (q7.add 3))) (w_some rfl rfl c3) rfl rfl (f_fieldAddr fd80_3 rfl rfl) ?_
            obtain ⟨x6, hx6, hF⟩ := hF
            refine EvK.read (v := .int .i64 x6) (w_some rfl rfl c3) rfl rfl (f_load (kI .i64) ty3 rfl rfl hx6 rfl) ?_
            refine EvK.pure (v := .int .i64 a1) (w_some rfl rfl c3) rfl rfl (f_move rfl rfl) ?_
            refine EvK.pure (v := .bool (x6 == a1)) (w_some rfl rfl c3) rfl rfl (f_eql rfl rfl rfl) ?_
            refine EvK.pure (v := .bool (x6 == a1)) (w_none rfl) rfl rfl (f_pickT rfl rfl c3 rfl) ?_
            refine EvK.nil ?_
            exact KE.mk (x6 == a1) ⟨rfl, rfl, rfl, rfl, rfl, trivial⟩ hF
          · refine EvK.not (w_not rfl rfl c3) rfl rfl ?_
            refine EvK.not (w_not rfl rfl c3) rfl rfl ?_
            refine EvK.not (w_not rfl rfl c3) rfl rfl ?_
            refine EvK.not (w_not rfl rfl c3) rfl rfl ?_
            refine EvK.not (w_not rfl rfl c3) rfl rfl ?_
            refine EvK.not (w_not rfl rfl c3) rfl rfl ?_
            refine EvK.not (w_not rfl rfl c3) rfl rfl ?_
            refine EvK.not (w_not rfl rfl c3) rfl rfl ?_
            refine EvK.not (w_not rfl rfl c3) rfl rfl ?_
            refine EvK.not (w_not rfl rfl c3) rfl rfl ?_
            refine EvK.pure (v := .bool false) (w_none rfl) rfl rfl (f_pickF rfl rfl c3 rfl) ?_
            refine EvK.nil ?_
            exact KE.mk false ⟨rfl, rfl, rfl, rfl, rfl, trivial⟩ hF
    · refine WP.cond_false _ rfl c1 ?_
      refine WP.exit ?_
      exact KE.mk s2.1 ⟨rfl, trivial⟩ hF
end Go.Proofs.YtomngllmnhdmlaaGreat
/- (*spate/spateref12.Sched).granted, as a predicate over the heap, and that the code comes to it. Printed by gen.py. -/
namespace Go.Proofs.YtomngllmnhdmlaaGreat
open Go Go.Tr
set_option linter.unusedVariables false
set_option maxRecDepth 100000
set_option maxHeartbeats 400000
def spateref12_Sched_granted.b1 (p0 : Option Addr) (p1 : Sl) (s : Int) (h : H) (K : Int ⊕ Unit → H → Prop) : Prop :=
  if (decide (s < (p1.len : Int))) = true then
    rd p0 fun q1 =>
    rd (ld kL (q1.add 0) h) fun x1 =>
    rd (ixA 1 p1 s) fun q2 =>
    rd (ld (kI .i64) q2 h) fun x2 =>
    rd (ixA 6 x1 x2) fun q3 =>
    rd (st (kI .i64) (q3.add 2) 1 h) fun h1 =>
    K (.inl (IntKind.i64.wrap (s + 1))) h1
  else
    K (.inr ()) h
/-- (*spate/spateref12.Sched).granted -/
def spateref12_Sched_granted (a0 : Option Addr) (a1 : Sl) (h : H) (Q : Unit → H → Prop) : Prop :=
  loopE (spateref12_Sched_granted.b1 a0 a1) 0 h (fun r1 hh => Q r1 hh)
theorem spateref12_Sched_granted.sound {a0 : Option Addr} {a1 : Sl} {h : H} {Q : Unit → H → Prop} (hF : spateref12_Sched_granted a0 a1 h Q) :
    CallsH Tryz.prog 61 (List.toArray (α := Value) [.pointer a0, Sl.val a1]) h fun v h' => ∃ x : Unit, v = .tuple #[] ∧ Q x h' := by
  refine CallsH.of_body Tryz.func61 rfl 21 rfl rfl ?_
  refine WP.seq ?_
  refine WP.region ?_
  refine EvK.pure (v := .int .i64 0) (w_none rfl) rfl rfl (f_assign rfl rfl) ?_
  refine EvK.nil ?_
  refine WP.block ?_
  refine WP.loopF (fun (s1 : Int) => [(4, .int .i64 s1), (0, .pointer a0), (1, Sl.val a1)]) hF ⟨rfl, rfl, rfl, trivial⟩ ?_
  intro k1 s1 E0 h1 hF
  refine WP.seq ?_
  refine WP.seq ?_
  refine WP.region ?_
  refine EvK.pure (v := .int .i64 s1) (w_none rfl) rfl rfl (f_move rfl rfl) ?_
  refine EvK.pure (v := Sl.val a1) (w_none rfl) rfl rfl (f_move rfl rfl) ?_
  refine EvK.pure (v := .int .i64 (a1.len : Int)) (w_none rfl) rfl rfl (f_lenL (s := a1) Tryz.underlying51 rfl rfl) ?_
  refine EvK.pure (v := .bool (decide (s1 < (a1.len : Int)))) (w_none rfl) rfl rfl (f_lss rfl rfl rfl) ?_
  refine EvK.nil ?_
  rcases ite_inv hF with ⟨c1, hF⟩ | ⟨c1, hF⟩
  · refine WP.cond_true _ rfl c1 ?_
    refine WP.skip ?_
    refine WP.seq ?_
    refine WP.block ?_
    refine WP.draw mixed [.pure, .pure, .pure, .read, .pure, .pure, .pure, .read, .pure, .pure, .eff []] [[], [0], [0, 1], [0, 1, 2], [], [], [4, 5], [4, 5, 6], [0, 1, 2, 3, 4, 5, 6, 7], [0, 1, 2, 3, 4, 5, 6, 7, 8], [0, 1, 2, 3, 4, 5, 6, 7, 8, 9]] [0, 1, 2, 3, 4, 5, 6, 7, 8, 9, 10] (by kernel_rfl) (by kernel_rfl) ?_
    refine EvI.pure (v := .pointer a0) rfl rfl (w_none rfl) rfl (f_move rfl rfl) ?_
    obtain ⟨q1, hq1, hF⟩ := hF
    refine EvI.pure (v := .pointer (some q1)) rfl rfl (w_none rfl) rfl (f_nilCheck rfl (congrArg Value.pointer hq1)) ?_
    refine EvI.pure (v := .pointer (some (q1.add 0))) rfl rfl (w_none rfl) rfl (f_fieldAddr fd72_0 rfl rfl) ?_
    obtain ⟨x1, hx1, hF⟩ := hF
    refine EvI.read (v := Sl.val x1) rfl rfl (w_none rfl) rfl (f_load kL ty70 rfl rfl hx1 rfl) ?_
    refine EvI.pure (v := Sl.val a1) rfl rfl (w_none rfl) rfl (f_move rfl rfl) ?_
    refine EvI.pure (v := .int .i64 s1) rfl rfl (w_none rfl) rfl (f_move rfl rfl) ?_
    obtain ⟨q2, hq2, hF⟩ := hF
    refine EvI.pure (v := .pointer (some q2)) rfl rfl (w_none rfl) rfl (f_indexAddr (s := a1) Tryz.underlying51 ty3.size rfl rfl rfl hq2) ?_
    obtain ⟨x2, hx2, hF⟩ := hF
    refine EvI.read (v := .int .i64 x2) rfl rfl (w_none rfl) rfl (f_load (kI .i64) ty3 rfl rfl hx2 rfl) ?_
    obtain ⟨q3, hq3, hF⟩ := hF
    refine EvI.pure (v := .pointer (some q3)) rfl rfl (w_none rfl) rfl (f_indexAddr (s := x1) Tryz.underlying70 ty80.size rfl rfl rfl hq3) ?_
    refine EvI.pure (v := .pointer (some (q3.add 2))) rfl rfl (w_none rfl) rfl (f_fieldAddr fd80_2 rfl rfl) ?_
    obtain ⟨h2, hs1, hF⟩ := hF
    refine EvI.runN rfl rfl (w_none rfl) rfl (f_store (kI .i64) ty3.size (z := 1) rfl rfl rfl hs1) ?_
    rintro _ _ ⟨rfl, rfl⟩
    refine ⟨⟨chk_no rfl, chk_no rfl, trivial⟩, ?_⟩
    refine EvI.nil ?_
    refine WP.region ?_
    refine EvK.pure (v := .int .i64 s1) (w_none rfl) rfl rfl (f_move rfl rfl) ?_
    refine EvK.pure (v := .int .i64 (IntKind.i64.wrap (s1 + 1))) (w_none rfl) rfl rfl (f_add rfl rfl rfl) ?_
    refine EvK.pure (v := .int .i64 (IntKind.i64.wrap (s1 + 1))) (w_none rfl) rfl rfl (f_assign rfl rfl) ?_
    refine EvK.nil ?_
    exact KE.mk (IntKind.i64.wrap (s1 + 1)) ⟨rfl, rfl, rfl, trivial⟩ hF
  · refine WP.cond_false _ rfl c1 ?_
    refine WP.exit ?_
    exact Ret.mk (vs := []) () trivial rfl hF
end Go.Proofs.YtomngllmnhdmlaaGreat
/- (*spate/spateref12.Sched).end, as a predicate over the heap, and that the code comes to it. Printed by gen.py. -/
namespace Go.Proofs.YtomngllmnhdmlaaGreat
open Go Go.Tr
set_option linter.unusedVariables false
set_option maxRecDepth 100000
set_option maxHeartbeats 400000
/-- (*spate/spateref12.Sched).end -/
def spateref12_Sched_end (a0 : Option Addr) (a1 : Int) (a2 : Int) (h : H) (Q : Unit → H → Prop) : Prop :=
  rd a0 fun q1 =>
  rd (ld kL (q1.add 0) h) fun x1 =>
  rd (ixA 6 x1 a1) fun q2 =>
  rd (st (kI .i64) (q2.add 2) 4 h) fun h1 =>
  rd a0 fun q3 =>
  rd (ld kL (q3.add 0) h1) fun x2 =>
  rd (ixA 6 x2 a1) fun q4 =>
  rd (st (kI .i64) (q4.add 4) a2 h1) fun h2 =>
  rd a0 fun q5 =>
  rd (ld kP (q5.add 1) h2) fun x3 =>
  spateref11_Manager_Quit x3 a1 h2 fun r1 h3 =>
  spateref12_Sched_granted a0 r1 h3 fun r2 h4 =>
  Q () h4
theorem spateref12_Sched_end.sound {a0 : Option Addr} {a1 : Int} {a2 : Int} {h : H} {Q : Unit → H → Prop} (hF : spateref12_Sched_end a0 a1 a2 h Q) :
    CallsH Tryz.prog 58 (List.toArray (α := Value) [.pointer a0, .int .i64 a1, .int .i64 a2]) h fun v h' => ∃ x : Unit, v = .tuple #[] ∧ Q x h' := by
  refine CallsH.of_body Tryz.func58 rfl 29 rfl rfl ?_
  refine WP.seq ?_
  refine WP.region ?_
  refine EvK.pure (v := .pointer a0) (w_none rfl) rfl rfl (f_move rfl rfl) ?_
  obtain ⟨q1, hq1, hF⟩ := hF
  refine EvK.pure (v := .pointer (some q1)) (w_none rfl) rfl rfl (f_nilCheck rfl (congrArg Value.pointer hq1)) ?_
  refine EvK.pure (v := .pointer (some (q1.add 0))) (w_none rfl) rfl rfl (f_fieldAddr fd72_0 rfl rfl) ?_
  obtain ⟨x1, hx1, hF⟩ := hF
  refine EvK.read (v := Sl.val x1) (w_none rfl) rfl rfl (f_load kL ty70 rfl rfl hx1 rfl) ?_
  refine EvK.pure (v := .int .i64 a1) (w_none rfl) rfl rfl (f_move rfl rfl) ?_
  obtain ⟨q2, hq2, hF⟩ := hF
  refine EvK.pure (v := .pointer (some q2)) (w_none rfl) rfl rfl (f_indexAddr (s := x1) Tryz.underlying70 ty80.size rfl rfl rfl hq2) ?_
  refine EvK.pure (v := .pointer (some (q2.add 2))) (w_none rfl) rfl rfl (f_fieldAddr fd80_2 rfl rfl) ?_
  obtain ⟨h1, hs1, hF⟩ := hF
  refine EvK.runN (w_none rfl) rfl (f_store (kI .i64) ty3.size (z := 4) rfl rfl rfl hs1) ?_
  rintro _ _ ⟨rfl, rfl⟩
  refine EvK.nil ?_
  refine WP.seq ?_
  refine WP.region ?_
  refine EvK.pure (v := .pointer a0) (w_none rfl) rfl rfl (f_move rfl rfl) ?_
  obtain ⟨q3, hq3, hF⟩ := hF
  refine EvK.pure (v := .pointer (some q3)) (w_none rfl) rfl rfl (f_nilCheck rfl (congrArg Value.pointer hq3)) ?_
  refine EvK.pure (v := .pointer (some (q3.add 0))) (w_none rfl) rfl rfl (f_fieldAddr fd72_0 rfl rfl) ?_
  obtain ⟨x2, hx2, hF⟩ := hF
  refine EvK.read (v := Sl.val x2) (w_none rfl) rfl rfl (f_load kL ty70 rfl rfl hx2 rfl) ?_
  refine EvK.pure (v := .int .i64 a1) (w_none rfl) rfl rfl (f_move rfl rfl) ?_
  refine EvK.pure (v := .int .i64 a2) (w_none rfl) rfl rfl (f_move rfl rfl) ?_
  obtain ⟨q4, hq4, hF⟩ := hF
  refine EvK.pure (v := .pointer (some q4)) (w_none rfl) rfl rfl (f_indexAddr (s := x2) Tryz.underlying70 ty80.size rfl rfl rfl hq4) ?_
  refine EvK.pure (v := .pointer (some (q4.add 4))) (w_none rfl) rfl rfl (f_fieldAddr fd80_4 rfl rfl) ?_
  obtain ⟨h2, hs2, hF⟩ := hF
  refine EvK.runN (w_none rfl) rfl (f_store (kI .i64) ty3.size (z := a2) rfl rfl rfl hs2) ?_
  rintro _ _ ⟨rfl, rfl⟩
  refine EvK.nil ?_
  refine WP.region ?_
  refine EvK.pure (v := .pointer a0) (w_none rfl) rfl rfl (f_move rfl rfl) ?_
  refine EvK.pure (v := .pointer a0) (w_none rfl) rfl rfl (f_move rfl rfl) ?_
  obtain ⟨q5, hq5, hF⟩ := hF
  refine EvK.pure (v := .pointer (some q5)) (w_none rfl) rfl rfl (f_nilCheck rfl (congrArg Value.pointer hq5)) ?_
  refine EvK.pure (v := .pointer (some (q5.add 1))) (w_none rfl) rfl rfl (f_fieldAddr fd72_1 rfl rfl) ?_
  obtain ⟨x3, hx3, hF⟩ := hF
  refine EvK.read (v := .pointer x3) (w_none rfl) rfl rfl (f_load kP ty67 rfl rfl hx3 rfl) ?_
  refine EvK.pure (v := .int .i64 a1) (w_none rfl) rfl rfl (f_move rfl rfl) ?_
  refine EvK.call (w_none rfl) rfl rfl (enterH Tryz.func76 rfl rfl rfl rfl (spateref11_Manager_Quit.sound hF)) ?_
  rintro _ h3 ⟨r1, rfl, hF⟩
  refine EvK.call (w_none rfl) rfl rfl (enterH Tryz.func61 rfl rfl rfl rfl (spateref12_Sched_granted.sound hF)) ?_
  rintro _ h4 ⟨r2, rfl, hF⟩
  refine EvK.nil ?_
  exact Ret.mk (vs := []) () trivial rfl hF
end Go.Proofs.YtomngllmnhdmlaaGreat
/- (*spate/spateref12.Sched).Do, as a predicate over the heap, and that the code comes to it. Printed by gen.py. -/
namespace Go.Proofs.YtomngllmnhdmlaaGreat
open Go Go.Tr
set_option linter.unusedVariables false
set_option maxRecDepth 100000
set_option maxHeartbeats 400000
def spateref12_Sched_Do.b1 (p0 : Option Addr) (p1 : Int) (p5 : Addr) (s : Int) (h : H) (K : Int ⊕ Unit → H → Prop) : Prop :=
  rd (ld kL (p5.add 3) h) fun x9 =>
  if (decide (s < (x9.len : Int))) = true then
    rd (ld kL (p5.add 3) h) fun x10 =>
    rd (ixA 1 x10 s) fun q10 =>
    rd (ld (kI .i64) q10 h) fun x11 =>
    spateref12_Sched_Wake p0 x11 h fun r9 h15 =>
    K (.inl (IntKind.i64.wrap (s + 1))) h15
  else
    K (.inr ()) h
/-- (*spate/spateref12.Sched).Do -/
def spateref12_Sched_Do (a0 : Option Addr) (a1 : Int) (a2 : S52) (h : H) (Q : Unit → H → Prop) : Prop :=
  al 53 (k52.enc a2) h fun q1 h1 =>
  jn (fun (k1 : Bool → H → Prop) =>
    rd (ld (kI .i64) (q1.add 0) h1) fun x12 =>
    if (decide (x12 ≤ (-99))) = true then
      rd (ld (kI .i64) (q1.add 0) h1) fun x13 =>
      k1 (decide (x13 ≥ (-103))) h1
    else
      k1 false h1) fun s1 h2 =>
  if s1 = true then
    spateref12_Sched_end a0 a1 42 h2 fun r1 h3 =>
    Q () h3
  else
    jn (fun (k2 : Unit → H → Prop) =>
      loopE (spateref12_Sched_Do.b1 a0 a1 q1) 0 h2 (fun r10 hh => k2 r10 hh)) fun s2 h4 =>
    rd (ld (kI .i64) (q1.add 0) h4) fun x1 =>
    if (x1 == 1) = true then
      Q () h4
    else
      if (x1 == 2) = true then
        rd a0 fun q2 =>
        rd (ld kP (q2.add 1) h4) fun x2 =>
        rd (ld kL (q1.add 1) h4) fun x3 =>
        spateref11_Manager_Ask x2 a1 x3 h4 fun r2 h5 =>
        if (r2.2 != 0) = true then
          spateref12_Sched_end a0 a1 r2.2 h5 fun r3 h6 =>
          Q () h6
        else
          if (!r2.1) = true then
            rd a0 fun q3 =>
            rd (ld kL (q3.add 0) h5) fun x4 =>
            rd (ixA 6 x4 a1) fun q4 =>
            rd (st (kI .i64) (q4.add 2) 2 h5) fun h7 =>
            Q () h7
          else
            Q () h5
      else
        if (x1 == 3) = true then
          rd a0 fun q5 =>
          rd (ld kP (q5.add 1) h4) fun x5 =>
          spateref11_Manager_Free x5 a1 h4 fun r4 h8 =>
          if (r4.2 != 0) = true then
            spateref12_Sched_end a0 a1 r4.2 h8 fun r5 h9 =>
            Q () h9
          else
            spateref12_Sched_granted a0 r4.1 h8 fun r6 h10 =>
            Q () h10
        else
          if (x1 == 4) = true then
            rd a0 fun q6 =>
            rd (ld kL (q6.add 0) h4) fun x6 =>
            rd (ixA 6 x6 a1) fun q7 =>
            rd (st (kI .i64) (q7.add 2) 3 h4) fun h11 =>
            rd a0 fun q8 =>
            rd (ld kL (q8.add 0) h11) fun x7 =>
            rd (ld (kI .i64) (q1.add 2) h11) fun x8 =>
            rd (ixA 6 x7 a1) fun q9 =>
            rd (st (kI .i64) (q9.add 3) x8 h11) fun h12 =>
            Q () h12
          else
            if (x1 == 5) = true then
              spateref12_Sched_end a0 a1 0 h4 fun r7 h13 =>
              Q () h13
            else
              spateref12_Sched_end a0 a1 15 h4 fun r8 h14 =>
              Q () h14
theorem spateref12_Sched_Do.sound {a0 : Option Addr} {a1 : Int} {a2 : S52} {h : H} {Q : Unit → H → Prop} (hF : spateref12_Sched_Do a0 a1 a2 h Q) :
    CallsH Tryz.prog 42 (List.toArray (α := Value) [.pointer a0, .int .i64 a1, k52.val a2]) h fun v h' => ∃ x : Unit, v = .tuple #[] ∧ Q x h' := by
  refine CallsH.of_body Tryz.func42 rfl 114 rfl rfl ?_
  refine WP.seq ?_
  refine WP.region ?_
  refine EvK.alloc (w_none rfl) rfl rfl (f_boxF (v := k52.val a2) rfl rfl rfl hF) ?_
  rintro _ h1 ⟨q1, rfl, hF⟩
  refine EvK.nil ?_
  refine WP.seq ?_
  refine WP.joinF (fun (s1 : Bool) => [(18, .bool s1), (0, .pointer a0), (1, .int .i64 a1), (5, .pointer (some q1))]) hF ?_ ?_
  · intro s1 E0 h2 hF
    rcases ite_inv hF with ⟨c1, hF⟩ | ⟨c1, hF⟩
    · refine WP.cond_true _ rfl c1 ?_
      refine WP.seq ?_
      refine WP.region ?_
      refine EvK.pure (v := .pointer a0) (w_none rfl) rfl rfl (f_move rfl rfl) ?_
      refine EvK.pure (v := .int .i64 a1) (w_none rfl) rfl rfl (f_move rfl rfl) ?_
      refine EvK.call (w_none rfl) rfl rfl (enterH Tryz.func58 rfl rfl rfl rfl (spateref12_Sched_end.sound hF)) ?_
      rintro _ h3 ⟨r1, rfl, hF⟩
      refine EvK.nil ?_
      refine WP.ret ?_
      exact Ret.mk (vs := []) () trivial rfl hF
    · refine WP.cond_false _ rfl c1 ?_
      refine WP.skip ?_
      refine WP.joinF (fun (s2 : Unit) => [(0, .pointer a0), (1, .int .i64 a1), (5, .pointer (some q1))]) hF ?_ ?_
      · intro s2 E0 h4 hF
        refine WP.seq ?_
        refine WP.region ?_
        refine EvK.pure (v := .pointer (some (q1.add 0))) (w_none rfl) rfl rfl (f_fieldAddr fd53_0 rfl rfl) ?_
        obtain ⟨x1, hx1, hF⟩ := hF
        refine EvK.read (v := .int .i64 x1) (w_none rfl) rfl rfl (f_load (kI .i64) ty3 rfl rfl hx1 rfl) ?_
        refine EvK.nil ?_
        refine WP.block ?_
        refine WP.seq ?_
        refine WP.region ?_
        refine EvK.pure (v := .bool (x1 == 1)) (w_none rfl) rfl rfl (f_eql rfl rfl rfl) ?_
        refine EvK.pure (v := .bool (x1 == 1)) (w_none rfl) rfl rfl (f_assign rfl rfl) ?_
        refine EvK.nil ?_
        rcases ite_inv hF with ⟨c2, hF⟩ | ⟨c2, hF⟩
        · refine WP.cond_true _ rfl c2 ?_
          refine WP.skip ?_
          exact Ret.mk (vs := []) () trivial rfl hF
        · refine WP.cond_false _ rfl c2 ?_
          refine WP.seq ?_
          refine WP.region ?_
          refine EvK.pure (v := .bool (x1 == 2)) (w_none rfl) rfl rfl (f_eql rfl rfl rfl) ?_
          refine EvK.pure (v := .bool (x1 == 2)) (w_none rfl) rfl rfl (f_assign rfl rfl) ?_
          refine EvK.nil ?_
          rcases ite_inv hF with ⟨c3, hF⟩ | ⟨c3, hF⟩
          · refine WP.cond_true _ rfl c3 ?_
            refine WP.seq ?_
            refine WP.draw mixed [.pure, .pure, .pure, .read, .pure, .pure, .read, .eff [], .pure, .pure, .pure, .pure, .pure] [[], [0], [0, 1], [0, 1, 2], [], [], [5], [0, 1, 2, 3, 4, 5, 6], [0, 1, 2, 3, 4, 5, 6, 7], [0, 1, 2, 3, 4, 5, 6, 7, 8], [0, 1, 2, 3, 4, 5, 6, 7, 8], [0, 1, 2, 3, 4, 5, 6, 7, 8, 9], [0, 1, 2, 3, 4, 5, 6, 7, 8, 9, 10, 11]] [0, 1, 2, 3, 4, 5, 6, 7, 8, 9, 10, 11, 12] (by kernel_rfl) (by kernel_rfl) ?_
            refine EvI.pure (v := .pointer a0) rfl rfl (w_none rfl) rfl (f_move rfl rfl) ?_
            obtain ⟨q2, hq1, hF⟩ := hF
            refine EvI.pure (v := .pointer (some q2)) rfl rfl (w_none rfl) rfl (f_nilCheck rfl (congrArg Value.pointer hq1)) ?_
            refine EvI.pure (v := .pointer (some (q2.add 1))) rfl rfl (w_none rfl) rfl (f_fieldAddr fd72_1 rfl rfl) ?_
            obtain ⟨x2, hx2, hF⟩ := hF
            refine EvI.read (v := .pointer x2) rfl rfl (w_none rfl) rfl (f_load kP ty67 rfl rfl hx2 rfl) ?_
            refine EvI.pure (v := .int .i64 a1) rfl rfl (w_none rfl) rfl (f_move rfl rfl) ?_
            refine EvI.pure (v := .pointer (some (q1.add 1))) rfl rfl (w_none rfl) rfl (f_fieldAddr fd53_1 rfl rfl) ?_
            obtain ⟨x3, hx3, hF⟩ := hF
            refine EvI.read (v := Sl.val x3) rfl rfl (w_none rfl) rfl (f_load kL ty50 rfl rfl hx3 rfl) ?_
            refine EvI.call rfl rfl (w_none rfl) rfl (enterH Tryz.func59 rfl rfl rfl rfl (spateref11_Manager_Ask.sound hF)) ?_
            rintro _ h5 ⟨r2, rfl, hF⟩
            refine ⟨⟨chk_no rfl, chk_no rfl, trivial⟩, ?_⟩
            refine EvI.pure (v := .tuple #[.bool r2.1, .int .i64 r2.2]) rfl rfl (w_none rfl) rfl (f_move rfl rfl) ?_
            refine EvI.pure (v := .bool r2.1) rfl rfl (w_none rfl) rfl (f_extract (vs := #[.bool r2.1, .int .i64 r2.2]) rfl rfl rfl) ?_
            refine EvI.pure (v := .int .i64 r2.2) rfl rfl (w_none rfl) rfl (f_extract (vs := #[.bool r2.1, .int .i64 r2.2]) rfl rfl rfl) ?_
            refine EvI.pure (v := .bool r2.1) rfl rfl (w_none rfl) rfl (f_assign rfl rfl) ?_
            refine EvI.pure (v := .int .i64 r2.2) rfl rfl (w_none rfl) rfl (f_assign rfl rfl) ?_
            refine EvI.nil ?_
            refine WP.seq ?_
            refine WP.seq ?_
            refine WP.region ?_
            refine EvK.pure (v := .int .i64 r2.2) (w_none rfl) rfl rfl (f_move rfl rfl) ?_
            refine EvK.pure (v := .bool (r2.2 != 0)) (w_none rfl) rfl rfl (f_neq rfl rfl rfl) ?_
            refine EvK.nil ?_
            rcases ite_inv hF with ⟨c4, hF⟩ | ⟨c4, hF⟩
            · refine WP.cond_true _ rfl c4 ?_
              refine WP.seq ?_
              refine WP.region ?_
              refine EvK.pure (v := .pointer a0) (w_none rfl) rfl rfl (f_move rfl rfl) ?_
              refine EvK.pure (v := .int .i64 a1) (w_none rfl) rfl rfl (f_move rfl rfl) ?_
              refine EvK.pure (v := .int .i64 r2.2) (w_none rfl) rfl rfl (f_move rfl rfl) ?_
              refine EvK.call (w_none rfl) rfl rfl (enterH Tryz.func58 rfl rfl rfl rfl (spateref12_Sched_end.sound hF)) ?_
              rintro _ h6 ⟨r3, rfl, hF⟩
              refine EvK.nil ?_
              refine WP.ret ?_
              exact Ret.mk (vs := []) () trivial rfl hF
            · refine WP.cond_false _ rfl c4 ?_
              refine WP.skip ?_
              refine WP.seq ?_
              refine WP.region ?_
              refine EvK.pure (v := .bool r2.1) (w_none rfl) rfl rfl (f_move rfl rfl) ?_
              refine EvK.pure (v := .bool (!r2.1)) (w_none rfl) rfl rfl (f_not rfl rfl) ?_
              refine EvK.nil ?_
              rcases ite_inv hF with ⟨c5, hF⟩ | ⟨c5, hF⟩
              · refine WP.cond_true _ rfl c5 ?_
                refine WP.region ?_
                refine EvK.pure (v := .pointer a0) (w_none rfl) rfl rfl (f_move rfl rfl) ?_
                obtain ⟨q3, hq2, hF⟩ := hF
                refine EvK.pure (v := .pointer (some q3)) (w_none rfl) rfl rfl (f_nilCheck rfl (congrArg Value.pointer hq2)) ?_
                refine EvK.pure (v := .pointer (some (q3.add 0))) (w_none rfl) rfl rfl (f_fieldAddr fd72_0 rfl rfl) ?_
                obtain ⟨x4, hx4, hF⟩ := hF
                refine EvK.read (v := Sl.val x4) (w_none rfl) rfl rfl (f_load kL ty70 rfl rfl hx4 rfl) ?_
                refine EvK.pure (v := .int .i64 a1) (w_none rfl) rfl rfl (f_move rfl rfl) ?_
                obtain ⟨q4, hq3, hF⟩ := hF
                refine EvK.pure (v := .pointer (some q4)) (w_none rfl) rfl rfl (f_indexAddr (s := x4) Tryz.underlying70 ty80.size rfl rfl rfl hq3) ?_
                refine EvK.pure (v := .pointer (some (q4.add 2))) (w_none rfl) rfl rfl (f_fieldAddr fd80_2 rfl rfl) ?_
                obtain ⟨h7, hs1, hF⟩ := hF
                refine EvK.runN (w_none rfl) rfl (f_store (kI .i64) ty3.size (z := 2) rfl rfl rfl hs1) ?_
                rintro _ _ ⟨rfl, rfl⟩
                refine EvK.nil ?_
                exact Ret.mk (vs := []) () trivial rfl hF
              · refine WP.cond_false _ rfl c5 ?_
                refine WP.skip ?_
                exact Ret.mk (vs := []) () trivial rfl hF
          · refine WP.cond_false _ rfl c3 ?_
            refine WP.seq ?_
            refine WP.region ?_
            refine EvK.pure (v := .bool (x1 == 3)) (w_none rfl) rfl rfl (f_eql rfl rfl rfl) ?_
            refine EvK.pure (v := .bool (x1 == 3)) (w_none rfl) rfl rfl (f_assign rfl rfl) ?_
            refine EvK.nil ?_
            rcases ite_inv hF with ⟨c6, hF⟩ | ⟨c6, hF⟩
            · refine WP.cond_true _ rfl c6 ?_
              refine WP.seq ?_
              refine WP.region ?_
              refine EvK.pure (v := .pointer a0) (w_none rfl) rfl rfl (f_move rfl rfl) ?_
              obtain ⟨q5, hq4, hF⟩ := hF
              refine EvK.pure (v := .pointer (some q5)) (w_none rfl) rfl rfl (f_nilCheck rfl (congrArg Value.pointer hq4)) ?_
              refine EvK.pure (v := .pointer (some (q5.add 1))) (w_none rfl) rfl rfl (f_fieldAddr fd72_1 rfl rfl) ?_
              obtain ⟨x5, hx5, hF⟩ := hF
              refine EvK.read (v := .pointer x5) (w_none rfl) rfl rfl (f_load kP ty67 rfl rfl hx5 rfl) ?_
              refine EvK.pure (v := .int .i64 a1) (w_none rfl) rfl rfl (f_move rfl rfl) ?_
              refine EvK.call (w_none rfl) rfl rfl (enterH Tryz.func60 rfl rfl rfl rfl (spateref11_Manager_Free.sound hF)) ?_
              rintro _ h8 ⟨r4, rfl, hF⟩
              refine EvK.pure (v := .tuple #[Sl.val r4.1, .int .i64 r4.2]) (w_none rfl) rfl rfl (f_move rfl rfl) ?_
              refine EvK.pure (v := Sl.val r4.1) (w_none rfl) rfl rfl (f_extract (vs := #[Sl.val r4.1, .int .i64 r4.2]) rfl rfl rfl) ?_
              refine EvK.pure (v := .int .i64 r4.2) (w_none rfl) rfl rfl (f_extract (vs := #[Sl.val r4.1, .int .i64 r4.2]) rfl rfl rfl) ?_
              refine EvK.pure (v := Sl.val r4.1) (w_none rfl) rfl rfl (f_assign rfl rfl) ?_
              refine EvK.pure (v := .int .i64 r4.2) (w_none rfl) rfl rfl (f_assign rfl rfl) ?_
              refine EvK.nil ?_
              refine WP.seq ?_
              refine WP.seq ?_
              refine WP.region ?_
              refine EvK.pure (v := .int .i64 r4.2) (w_none rfl) rfl rfl (f_move rfl rfl) ?_
              refine EvK.pure (v := .bool (r4.2 != 0)) (w_none rfl) rfl rfl (f_neq rfl rfl rfl) ?_
              refine EvK.nil ?_
              rcases ite_inv hF with ⟨c7, hF⟩ | ⟨c7, hF⟩
              · refine WP.cond_true _ rfl c7 ?_
                refine WP.seq ?_
                refine WP.region ?_
                refine EvK.pure (v := .pointer a0) (w_none rfl) rfl rfl (f_move rfl rfl) ?_
                refine EvK.pure (v := .int .i64 a1) (w_none rfl) rfl rfl (f_move rfl rfl) ?_
                refine EvK.pure (v := .int .i64 r4.2) (w_none rfl) rfl rfl (f_move rfl rfl) ?_
                refine EvK.call (w_none rfl) rfl rfl (enterH Tryz.func58 rfl rfl rfl rfl (spateref12_Sched_end.sound hF)) ?_
                rintro _ h9 ⟨r5, rfl, hF⟩
                refine EvK.nil ?_
                refine WP.ret ?_
                exact Ret.mk (vs := []) () trivial rfl hF
              · refine WP.cond_false _ rfl c7 ?_
                refine WP.skip ?_
                refine WP.region ?_
                refine EvK.pure (v := .pointer a0) (w_none rfl) rfl rfl (f_move rfl rfl) ?_
                refine EvK.pure (v := Sl.val r4.1) (w_none rfl) rfl rfl (f_move rfl rfl) ?_
                refine EvK.call (w_none rfl) rfl rfl (enterH Tryz.func61 rfl rfl rfl rfl (spateref12_Sched_granted.sound hF)) ?_
                rintro _ h10 ⟨r6, rfl, hF⟩
                refine EvK.nil ?_
                exact Ret.mk (vs := []) () trivial rfl hF
            · refine WP.cond_false _ rfl c6 ?_
              refine WP.seq ?_
              refine WP.region ?_
              refine EvK.pure (v := .bool (x1 == 4)) (w_none rfl) rfl rfl (f_eql rfl rfl rfl) ?_
              refine EvK.pure (v := .bool (x1 == 4)) (w_none rfl) rfl rfl (f_assign rfl rfl) ?_
              refine EvK.nil ?_
              rcases ite_inv hF with ⟨c8, hF⟩ | ⟨c8, hF⟩
              · refine WP.cond_true _ rfl c8 ?_
                refine WP.seq ?_
                refine WP.region ?_
                refine EvK.pure (v := .pointer a0) (w_none rfl) rfl rfl (f_move rfl rfl) ?_
                obtain ⟨q6, hq5, hF⟩ := hF
                refine EvK.pure (v := .pointer (some q6)) (w_none rfl) rfl rfl (f_nilCheck rfl (congrArg Value.pointer hq5)) ?_
                refine EvK.pure (v := .pointer (some (q6.add 0))) (w_none rfl) rfl rfl (f_fieldAddr fd72_0 rfl rfl) ?_
                obtain ⟨x6, hx6, hF⟩ := hF
                refine EvK.read (v := Sl.val x6) (w_none rfl) rfl rfl (f_load kL ty70 rfl rfl hx6 rfl) ?_
                refine EvK.pure (v := .int .i64 a1) (w_none rfl) rfl rfl (f_move rfl rfl) ?_
                obtain ⟨q7, hq6, hF⟩ := hF
                refine EvK.pure (v := .pointer (some q7)) (w_none rfl) rfl rfl (f_indexAddr (s := x6) Tryz.underlying70 ty80.size rfl rfl rfl hq6) ?_
                refine EvK.pure (v := .pointer (some (q7.add 2))) (w_none rfl) rfl rfl (f_fieldAddr fd80_2 rfl rfl) ?_
                obtain ⟨h11, hs2, hF⟩ := hF
                refine EvK.runN (w_none rfl) rfl (f_store (kI .i64) ty3.size (z := 3) rfl rfl rfl hs2) ?_
                rintro _ _ ⟨rfl, rfl⟩
                refine EvK.nil ?_
                refine WP.draw mixed [.pure, .pure, .pure, .read, .pure, .pure, .read, .pure, .pure, .eff []] [[], [0], [0, 1], [0, 1, 2], [], [], [5], [0, 1, 2, 3, 4, 5, 6], [0, 1, 2, 3, 4, 5, 6, 7], [0, 1, 2, 3, 4, 5, 6, 7, 8]] [0, 1, 2, 3, 4, 5, 6, 7, 8, 9] (by kernel_rfl) (by kernel_rfl) ?_
                refine EvI.pure (v := .pointer a0) rfl rfl (w_none rfl) rfl (f_move rfl rfl) ?_
                obtain ⟨q8, hq7, hF⟩ := hF
                refine EvI.pure (v := .pointer (some q8)) rfl rfl (w_none rfl) rfl (f_nilCheck rfl (congrArg Value.pointer hq7)) ?_
                refine EvI.pure (v := .pointer (some (q8.add 0))) rfl rfl (w_none rfl) rfl (f_fieldAddr fd72_0 rfl rfl) ?_
                obtain ⟨x7, hx7, hF⟩ := hF
                refine EvI.read (v := Sl.val x7) rfl rfl (w_none rfl) rfl (f_load kL ty70 rfl rfl hx7 rfl) ?_
                refine EvI.pure (v := .int .i64 a1) rfl rfl (w_none rfl) rfl (f_move rfl rfl) ?_
                refine EvI.pure (v := .pointer (some (q1.add 2))) rfl rfl (w_none rfl) rfl (f_fieldAddr fd53_2 rfl rfl) ?_
                obtain ⟨x8, hx8, hF⟩ := hF
                refine EvI.read (v := .int .i64 x8) rfl rfl (w_none rfl) rfl (f_load (kI .i64) ty3 rfl rfl hx8 rfl) ?_
                obtain ⟨q9, hq8, hF⟩ := hF
                refine EvI.pure (v := .pointer (some q9)) rfl rfl (w_none rfl) rfl (f_indexAddr (s := x7) Tryz.underlying70 ty80.size rfl rfl rfl hq8) ?_
                refine EvI.pure (v := .pointer (some (q9.add 3))) rfl rfl (w_none rfl) rfl (f_fieldAddr fd80_3 rfl rfl) ?_
                obtain ⟨h12, hs3, hF⟩ := hF
                refine EvI.runN rfl rfl (w_none rfl) rfl (f_store (kI .i64) ty3.size (z := x8) rfl rfl rfl hs3) ?_
                rintro _ _ ⟨rfl, rfl⟩
                refine ⟨⟨chk_no rfl, chk_no rfl, trivial⟩, ?_⟩
                refine EvI.nil ?_
                exact Ret.mk (vs := []) () trivial rfl hF
              · refine WP.cond_false _ rfl c8 ?_
                refine WP.seq ?_
                refine WP.region ?_
                refine EvK.pure (v := .bool (x1 == 5)) (w_none rfl) rfl rfl (f_eql rfl rfl rfl) ?_
                refine EvK.pure (v := .bool (x1 == 5)) (w_none rfl) rfl rfl (f_assign rfl rfl) ?_
                refine EvK.nil ?_
                rcases ite_inv hF with ⟨c9, hF⟩ | ⟨c9, hF⟩
                · refine WP.cond_true _ rfl c9 ?_
                  refine WP.region ?_
                  refine EvK.pure (v := .pointer a0) (w_none rfl) rfl rfl (f_move rfl rfl) ?_
                  refine EvK.pure (v := .int .i64 a1) (w_none rfl) rfl rfl (f_move rfl rfl) ?_
                  refine EvK.call (w_none rfl) rfl rfl (enterH Tryz.func58 rfl rfl rfl rfl (spateref12_Sched_end.sound hF)) ?_
                  rintro _ h13 ⟨r7, rfl, hF⟩
                  refine EvK.nil ?_
                  exact Ret.mk (vs := []) () trivial rfl hF
                · refine WP.cond_false _ rfl c9 ?_
                  refine WP.region ?_
                  refine EvK.pure (v := .pointer a0) (w_none rfl) rfl rfl (f_move rfl rfl) ?_
                  refine EvK.pure (v := .int .i64 a1) (w_none rfl) rfl rfl (f_move rfl rfl) ?_
                  refine EvK.call (w_none rfl) rfl rfl (enterH Tryz.func58 rfl rfl rfl rfl (spateref12_Sched_end.sound hF)) ?_
                  rintro _ h14 ⟨r8, rfl, hF⟩
                  refine EvK.nil ?_
                  exact Ret.mk (vs := []) () trivial rfl hF
      · intro k2 hF
        refine WP.seq ?_
        refine WP.region ?_
        refine EvK.pure (v := .int .i64 0) (w_none rfl) rfl rfl (f_assign rfl rfl) ?_
        refine EvK.nil ?_
        refine WP.block ?_
        refine WP.loopF (fun (s3 : Int) => [(6, .int .i64 s3), (0, .pointer a0), (1, .int .i64 a1), (5, .pointer (some q1))]) hF ⟨rfl, rfl, rfl, rfl, trivial⟩ ?_
        intro k3 s3 E0 h15 hF
        refine WP.seq ?_
        refine WP.seq ?_
        refine WP.region ?_
        refine EvK.pure (v := .int .i64 s3) (w_none rfl) rfl rfl (f_move rfl rfl) ?_
        refine EvK.pure (v := .pointer (some (q1.add 3))) (w_none rfl) rfl rfl (f_fieldAddr fd53_3 rfl rfl) ?_
        obtain ⟨x9, hx9, hF⟩ := hF
        refine EvK.read (v := Sl.val x9) (w_none rfl) rfl rfl (f_load kL ty51 rfl rfl hx9 rfl) ?_
        refine EvK.pure (v := .int .i64 (x9.len : Int)) (w_none rfl) rfl rfl (f_lenL (s := x9) Tryz.underlying51 rfl rfl) ?_
        refine EvK.pure (v := .bool (decide (s3 < (x9.len : Int)))) (w_none rfl) rfl rfl (f_lss rfl rfl rfl) ?_
        refine EvK.nil ?_
        rcases ite_inv hF with ⟨c10, hF⟩ | ⟨c10, hF⟩
        · refine WP.cond_true _ rfl c10 ?_
          refine WP.skip ?_
          refine WP.seq ?_
          refine WP.block ?_
          refine WP.region ?_
          refine EvK.pure (v := .pointer a0) (w_none rfl) rfl rfl (f_move rfl rfl) ?_
          refine EvK.pure (v := .pointer (some (q1.add 3))) (w_none rfl) rfl rfl (f_fieldAddr fd53_3 rfl rfl) ?_
          obtain ⟨x10, hx10, hF⟩ := hF
          refine EvK.read (v := Sl.val x10) (w_none rfl) rfl rfl (f_load kL ty51 rfl rfl hx10 rfl) ?_
          refine EvK.pure (v := .int .i64 s3) (w_none rfl) rfl rfl (f_move rfl rfl) ?_
          obtain ⟨q10, hq9, hF⟩ := hF
          refine EvK.pure (v := .pointer (some q10)) (w_none rfl) rfl rfl (f_indexAddr (s := x10) Tryz.underlying51 ty3.size rfl rfl rfl hq9) ?_
          obtain ⟨x11, hx11, hF⟩ := hF
          refine EvK.read (v := .int .i64 x11) (w_none rfl) rfl rfl (f_load (kI .i64) ty3 rfl rfl hx11 rfl) ?_
          refine EvK.call (w_none rfl) rfl rfl (enterH Tryz.func15 rfl rfl rfl rfl (spateref12_Sched_Wake.sound hF)) ?_
          rintro _ h16 ⟨r9, rfl, hF⟩
          refine EvK.nil ?_
          refine WP.region ?_
          refine EvK.pure (v := .int .i64 s3) (w_none rfl) rfl rfl (f_move rfl rfl) ?_
          refine EvK.pure (v := .int .i64 (IntKind.i64.wrap (s3 + 1))) (w_none rfl) rfl rfl (f_add rfl rfl rfl) ?_
          refine EvK.pure (v := .int .i64 (IntKind.i64.wrap (s3 + 1))) (w_none rfl) rfl rfl (f_assign rfl rfl) ?_
          refine EvK.nil ?_
          exact KE.mk (IntKind.i64.wrap (s3 + 1)) ⟨rfl, rfl, rfl, rfl, trivial⟩ hF
        · refine WP.cond_false _ rfl c10 ?_
          refine WP.exit ?_
          exact KE.mk () ⟨rfl, rfl, rfl, trivial⟩ hF
  · intro k1 hF
    refine WP.region ?_
    refine EvK.pure (v := .pointer (some (q1.add 0))) (w_none rfl) rfl rfl (f_fieldAddr fd53_0 rfl rfl) ?_
    obtain ⟨x12, hx12, hF⟩ := hF
    refine EvK.read (v := .int .i64 x12) (w_none rfl) rfl rfl (f_load (kI .i64) ty3 rfl rfl hx12 rfl) ?_
    refine EvK.pure (v := .bool (decide (x12 ≤ (-99)))) (w_none rfl) rfl rfl (f_leq rfl rfl rfl) ?_
    refine EvK.pure (v := .bool (decide (x12 ≤ (-99)))) (w_none rfl) rfl rfl (f_move rfl rfl) ?_
    rcases ite_inv hF with ⟨c11, hF⟩ | ⟨c11, hF⟩
    · refine EvK.pure (v := .pointer (some (q1.add 0))) (w_some rfl rfl c11) rfl rfl (f_fieldAddr fd53_0 rfl rfl) ?_
      obtain ⟨x13, hx13, hF⟩ := hF
      refine EvK.read (v := .int .i64 x13) (w_some rfl rfl c11) rfl rfl (f_load (kI .i64) ty3 rfl rfl hx13 rfl) ?_
      refine EvK.pure (v := .bool (decide (x13 ≥ (-103)))) (w_some rfl rfl c11) rfl rfl (f_geq rfl rfl rfl) ?_
      refine EvK.pure (v := .bool (decide (x13 ≥ (-103)))) (w_none rfl) rfl rfl (f_pickT rfl rfl c11 rfl) ?_
      refine EvK.nil ?_
      exact KE.mk (decide (x13 ≥ (-103))) ⟨rfl, rfl, rfl, rfl, trivial⟩ hF
    · refine EvK.not (w_not rfl rfl c11) rfl rfl ?_
      refine EvK.not (w_not rfl rfl c11) rfl rfl ?_
      refine EvK.not (w_not rfl rfl c11) rfl rfl ?_
      refine EvK.pure (v := .bool false) (w_none rfl) rfl rfl (f_pickF rfl rfl c11 rfl) ?_
      refine EvK.nil ?_
      exact KE.mk false ⟨rfl, rfl, rfl, rfl, trivial⟩ hF
end Go.Proofs.YtomngllmnhdmlaaGreat
/- (*spate/spateref12.Sched).step, as a predicate over the heap, and that the code comes to it. Printed by gen.py. -/
namespace Go.Proofs.YtomngllmnhdmlaaGreat
open Go Go.Tr
set_option linter.unusedVariables false
set_option maxRecDepth 100000
set_option maxHeartbeats 400000
/-- (*spate/spateref12.Sched).step -/
def spateref12_Sched_step (a0 : Option Addr) (a1 : Int) (h : H) (Q : Unit → H → Prop) : Prop :=
  al 53 (k52.enc z52) h fun q1 h1 =>
  rd (st k52 q1 (S52.mk 5 Sl.nil 0 Sl.nil) h1) fun h2 =>
  jn (fun (k1 : Unit → H → Prop) =>
    rd a0 fun q8 =>
    rd (ld kL (q8.add 0) h2) fun x6 =>
    rd (ixA 6 x6 a1) fun q9 =>
    rd (ld (kI .i64) (q9.add 1) h2) fun x7 =>
    rd a0 fun q10 =>
    rd (ld kL (q10.add 0) h2) fun x8 =>
    rd (ixA 6 x8 a1) fun q11 =>
    rd (ld kL (q11.add 0) h2) fun x9 =>
    if (decide (x7 < (x9.len : Int))) = true then
      rd a0 fun q12 =>
      rd (ld kL (q12.add 0) h2) fun x10 =>
      rd (ixA 6 x10 a1) fun q13 =>
      rd (ld kL (q13.add 0) h2) fun x11 =>
      rd a0 fun q14 =>
      rd (ld kL (q14.add 0) h2) fun x12 =>
      rd (ixA 6 x12 a1) fun q15 =>
      rd (ld (kI .i64) (q15.add 1) h2) fun x13 =>
      rd (ixA 4 x11 x13) fun q16 =>
      rd (ld k52 q16 h2) fun x14 =>
      rd (st k52 q1 x14 h2) fun h7 =>
      k1 () h7
    else
      k1 () h2) fun s1 h3 =>
  rd a0 fun q2 =>
  rd (ld kL (q2.add 0) h3) fun x1 =>
  rd (ixA 6 x1 a1) fun q3 =>
  rd (ld (kI .i64) (q3.add 1) h3) fun x2 =>
  rd (ixA 6 x1 a1) fun q4 =>
  rd (st (kI .i64) (q4.add 1) (IntKind.i64.wrap (x2 + 1)) h3) fun h4 =>
  rd a0 fun q5 =>
  rd (ld kL (q5.add 0) h4) fun x3 =>
  rd (ixA 6 x3 a1) fun q6 =>
  rd (ld (kI .i64) (q6.add 5) h4) fun x4 =>
  rd (ixA 6 x3 a1) fun q7 =>
  rd (st (kI .i64) (q7.add 5) (IntKind.i64.wrap (x4 + 1)) h4) fun h5 =>
  rd (ld k52 q1 h5) fun x5 =>
  spateref12_Sched_Do a0 a1 x5 h5 fun r1 h6 =>
  Q () h6
theorem spateref12_Sched_step.sound {a0 : Option Addr} {a1 : Int} {h : H} {Q : Unit → H → Prop} (hF : spateref12_Sched_step a0 a1 h Q) :
    CallsH Tryz.prog 26 (List.toArray (α := Value) [.pointer a0, .int .i64 a1]) h fun v h' => ∃ x : Unit, v = .tuple #[] ∧ Q x h' := by
  refine CallsH.of_body Tryz.func26 rfl 68 rfl rfl ?_
  refine WP.seq ?_
  refine WP.region ?_
  refine EvK.pure (v := k52.val (S52.mk 5 Sl.nil 0 Sl.nil)) (w_none rfl) rfl rfl (f_build (cells := k52.enc (S52.mk 5 Sl.nil 0 Sl.nil)) st53 rfl rfl rfl) ?_
  refine EvK.alloc (w_none rfl) rfl rfl (f_allocF zero53 rfl rfl hF) ?_
  rintro _ h1 ⟨q1, rfl, hF⟩
  obtain ⟨h2, hs1, hF⟩ := hF
  refine EvK.runN (w_none rfl) rfl (f_store k52 ty53.size (z := (S52.mk 5 Sl.nil 0 Sl.nil)) rfl rfl rfl hs1) ?_
  rintro _ _ ⟨rfl, rfl⟩
  refine EvK.nil ?_
  refine WP.joinF (fun (s1 : Unit) => [(0, .pointer a0), (1, .int .i64 a1), (4, .pointer (some q1))]) hF ?_ ?_
  · intro s1 E0 h3 hF
    refine WP.seq ?_
    refine WP.region ?_
    refine EvK.pure (v := .pointer a0) (w_none rfl) rfl rfl (f_move rfl rfl) ?_
    obtain ⟨q2, hq1, hF⟩ := hF
    refine EvK.pure (v := .pointer (some q2)) (w_none rfl) rfl rfl (f_nilCheck rfl (congrArg Value.pointer hq1)) ?_
    refine EvK.pure (v := .pointer (some (q2.add 0))) (w_none rfl) rfl rfl (f_fieldAddr fd72_0 rfl rfl) ?_
    obtain ⟨x1, hx1, hF⟩ := hF
    refine EvK.read (v := Sl.val x1) (w_none rfl) rfl rfl (f_load kL ty70 rfl rfl hx1 rfl) ?_
    refine EvK.pure (v := .int .i64 a1) (w_none rfl) rfl rfl (f_move rfl rfl) ?_
    obtain ⟨q3, hq2, hF⟩ := hF
    refine EvK.pure (v := .pointer (some q3)) (w_none rfl) rfl rfl (f_indexAddr (s := x1) Tryz.underlying70 ty80.size rfl rfl rfl hq2) ?_
    refine EvK.pure (v := .pointer (some (q3.add 1))) (w_none rfl) rfl rfl (f_fieldAddr fd80_1 rfl rfl) ?_
    obtain ⟨x2, hx2, hF⟩ := hF
    refine EvK.read (v := .int .i64 x2) (w_none rfl) rfl rfl (f_load (kI .i64) ty3 rfl rfl hx2 rfl) ?_
    refine EvK.pure (v := .int .i64 (IntKind.i64.wrap (x2 + 1))) (w_none rfl) rfl rfl (f_add rfl rfl rfl) ?_
    obtain ⟨q4, hq3, hF⟩ := hF
    refine EvK.pure (v := .pointer (some q4)) (w_none rfl) rfl rfl (f_indexAddr (s := x1) Tryz.underlying70 ty80.size rfl rfl rfl hq3) ?_
    refine EvK.pure (v := .pointer (some (q4.add 1))) (w_none rfl) rfl rfl (f_fieldAddr fd80_1 rfl rfl) ?_
    obtain ⟨h4, hs2, hF⟩ := hF
    refine EvK.runN (w_none rfl) rfl (f_store (kI .i64) ty3.size (z := IntKind.i64.wrap (x2 + 1)) rfl rfl rfl hs2) ?_
    rintro _ _ ⟨rfl, rfl⟩
    refine EvK.nil ?_
    refine WP.seq ?_
    refine WP.region ?_
    refine EvK.pure (v := .pointer a0) (w_none rfl) rfl rfl (f_move rfl rfl) ?_
    obtain ⟨q5, hq4, hF⟩ := hF
    refine EvK.pure (v := .pointer (some q5)) (w_none rfl) rfl rfl (f_nilCheck rfl (congrArg Value.pointer hq4)) ?_
    refine EvK.pure (v := .pointer (some (q5.add 0))) (w_none rfl) rfl rfl (f_fieldAddr fd72_0 rfl rfl) ?_
    obtain ⟨x3, hx3, hF⟩ := hF
    refine EvK.read (v := Sl.val x3) (w_none rfl) rfl rfl (f_load kL ty70 rfl rfl hx3 rfl) ?_
    refine EvK.pure (v := .int .i64 a1) (w_none rfl) rfl rfl (f_move rfl rfl) ?_
    obtain ⟨q6, hq5, hF⟩ := hF
    refine EvK.pure (v := .pointer (some q6)) (w_none rfl) rfl rfl (f_indexAddr (s := x3) Tryz.underlying70 ty80.size rfl rfl rfl hq5) ?_
    refine EvK.pure (v := .pointer (some (q6.add 5))) (w_none rfl) rfl rfl (f_fieldAddr fd80_5 rfl rfl) ?_
    obtain ⟨x4, hx4, hF⟩ := hF
    refine EvK.read (v := .int .i64 x4) (w_none rfl) rfl rfl (f_load (kI .i64) ty3 rfl rfl hx4 rfl) ?_
    refine EvK.pure (v := .int .i64 (IntKind.i64.wrap (x4 + 1))) (w_none rfl) rfl rfl (f_add rfl rfl rfl) ?_
    obtain ⟨q7, hq6, hF⟩ := hF
    refine EvK.pure (v := .pointer (some q7)) (w_none rfl) rfl rfl (f_indexAddr (s := x3) Tryz.underlying70 ty80.size rfl rfl rfl hq6) ?_
    refine EvK.pure (v := .pointer (some (q7.add 5))) (w_none rfl) rfl rfl (f_fieldAddr fd80_5 rfl rfl) ?_
    obtain ⟨h5, hs3, hF⟩ := hF
    refine EvK.runN (w_none rfl) rfl (f_store (kI .i64) ty3.size (z := IntKind.i64.wrap (x4 + 1)) rfl rfl rfl hs3) ?_
    rintro _ _ ⟨rfl, rfl⟩
    refine EvK.nil ?_
    refine WP.region ?_
    refine EvK.pure (v := .pointer a0) (w_none rfl) rfl rfl (f_move rfl rfl) ?_
    refine EvK.pure (v := .int .i64 a1) (w_none rfl) rfl rfl (f_move rfl rfl) ?_
    obtain ⟨x5, hx5, hF⟩ := hF
    refine EvK.read (v := k52.val x5) (w_none rfl) rfl rfl (f_load k52 ty53 rfl rfl hx5 rfl) ?_
    refine EvK.call (w_none rfl) rfl rfl (enterH Tryz.func42 rfl rfl rfl rfl (spateref12_Sched_Do.sound hF)) ?_
    rintro _ h6 ⟨r1, rfl, hF⟩
    refine EvK.nil ?_
    exact Ret.mk (vs := []) () trivial rfl hF
  · intro k1 hF
    refine WP.seq ?_
    refine WP.draw mixed [.pure, .pure, .pure, .read, .pure, .pure, .pure, .read, .pure, .pure, .pure, .read, .pure, .pure, .pure, .read, .pure, .pure] [[], [0], [0, 1], [0, 1, 2], [], [0, 1, 2, 3, 4], [0, 1, 2, 3, 4, 5], [0, 1, 2, 3, 4, 5, 6], [], [8], [8, 9], [8, 9, 10], [], [8, 9, 10, 11, 12], [8, 9, 10, 11, 12, 13], [8, 9, 10, 11, 12, 13, 14], [8, 9, 10, 11, 12, 13, 14, 15], [0, 1, 2, 3, 4, 5, 6, 7, 8, 9, 10, 11, 12, 13, 14, 15, 16]] [0, 1, 2, 3, 4, 5, 6, 7, 8, 9, 10, 11, 12, 13, 14, 15, 16, 17] (by kernel_rfl) (by kernel_rfl) ?_
    refine EvI.pure (v := .pointer a0) rfl rfl (w_none rfl) rfl (f_move rfl rfl) ?_
    obtain ⟨q8, hq7, hF⟩ := hF
    refine EvI.pure (v := .pointer (some q8)) rfl rfl (w_none rfl) rfl (f_nilCheck rfl (congrArg Value.pointer hq7)) ?_
    refine EvI.pure (v := .pointer (some (q8.add 0))) rfl rfl (w_none rfl) rfl (f_fieldAddr fd72_0 rfl rfl) ?_
    obtain ⟨x6, hx6, hF⟩ := hF
    refine EvI.read (v := Sl.val x6) rfl rfl (w_none rfl) rfl (f_load kL ty70 rfl rfl hx6 rfl) ?_
    refine EvI.pure (v := .int .i64 a1) rfl rfl (w_none rfl) rfl (f_move rfl rfl) ?_
    obtain ⟨q9, hq8, hF⟩ := hF
    refine EvI.pure (v := .pointer (some q9)) rfl rfl (w_none rfl) rfl (f_indexAddr (s := x6) Tryz.underlying70 ty80.size rfl rfl rfl hq8) ?_
    refine EvI.pure (v := .pointer (some (q9.add 1))) rfl rfl (w_none rfl) rfl (f_fieldAddr fd80_1 rfl rfl) ?_
    obtain ⟨x7, hx7, hF⟩ := hF
    refine EvI.read (v := .int .i64 x7) rfl rfl (w_none rfl) rfl (f_load (kI .i64) ty3 rfl rfl hx7 rfl) ?_
    refine EvI.pure (v := .pointer a0) rfl rfl (w_none rfl) rfl (f_move rfl rfl) ?_
    obtain ⟨q10, hq9, hF⟩ := hF
    refine EvI.pure (v := .pointer (some q10)) rfl rfl (w_none rfl) rfl (f_nilCheck rfl (congrArg Value.pointer hq9)) ?_
    refine EvI.pure (v := .pointer (some (q10.add 0))) rfl rfl (w_none rfl) rfl (f_fieldAddr fd72_0 rfl rfl) ?_
    obtain ⟨x8, hx8, hF⟩ := hF
    refine EvI.read (v := Sl.val x8) rfl rfl (w_none rfl) rfl (f_load kL ty70 rfl rfl hx8 rfl) ?_
    refine EvI.pure (v := .int .i64 a1) rfl rfl (w_none rfl) rfl (f_move rfl rfl) ?_
    obtain ⟨q11, hq10, hF⟩ := hF
    refine EvI.pure (v := .pointer (some q11)) rfl rfl (w_none rfl) rfl (f_indexAddr (s := x8) Tryz.underlying70 ty80.size rfl rfl rfl hq10) ?_
    refine EvI.pure (v := .pointer (some (q11.add 0))) rfl rfl (w_none rfl) rfl (f_fieldAddr fd80_0 rfl rfl) ?_
    obtain ⟨x9, hx9, hF⟩ := hF
    refine EvI.read (v := Sl.val x9) rfl rfl (w_none rfl) rfl (f_load kL ty34 rfl rfl hx9 rfl) ?_
    refine EvI.pure (v := .int .i64 (x9.len : Int)) rfl rfl (w_none rfl) rfl (f_lenL (s := x9) Tryz.underlying34 rfl rfl) ?_
    refine EvI.pure (v := .bool (decide (x7 < (x9.len : Int)))) rfl rfl (w_none rfl) rfl (f_lss rfl rfl rfl) ?_
    refine EvI.nil ?_
    rcases ite_inv hF with ⟨c1, hF⟩ | ⟨c1, hF⟩
    · refine WP.cond_true _ rfl c1 ?_
      refine WP.draw mixed [.pure, .pure, .pure, .read, .pure, .pure, .pure, .read, .pure, .pure, .pure, .read, .pure, .pure, .pure, .read, .pure, .read, .eff []] [[], [0], [0, 1], [0, 1, 2], [], [0, 1, 2, 3, 4], [0, 1, 2, 3, 4, 5], [0, 1, 2, 3, 4, 5, 6], [], [8], [8, 9], [8, 9, 10], [], [8, 9, 10, 11, 12], [8, 9, 10, 11, 12, 13], [8, 9, 10, 11, 12, 13, 14], [0, 1, 2, 3, 4, 5, 6, 7, 8, 9, 10, 11, 12, 13, 14, 15], [0, 1, 2, 3, 4, 5, 6, 7, 8, 9, 10, 11, 12, 13, 14, 15, 16], [0, 1, 2, 3, 4, 5, 6, 7, 8, 9, 10, 11, 12, 13, 14, 15, 16, 17]] [0, 1, 2, 3, 4, 5, 6, 7, 8, 9, 10, 11, 12, 13, 14, 15, 16, 17, 18] (by kernel_rfl) (by kernel_rfl) ?_
      refine EvI.pure (v := .pointer a0) rfl rfl (w_none rfl) rfl (f_move rfl rfl) ?_
      obtain ⟨q12, hq11, hF⟩ := hF
      refine EvI.pure (v := .pointer (some q12)) rfl rfl (w_none rfl) rfl (f_nilCheck rfl (congrArg Value.pointer hq11)) ?_
      refine EvI.pure (v := .pointer (some (q12.add 0))) rfl rfl (w_none rfl) rfl (f_fieldAddr fd72_0 rfl rfl) ?_
      obtain ⟨x10, hx10, hF⟩ := hF
      refine EvI.read (v := Sl.val x10) rfl rfl (w_none rfl) rfl (f_load kL ty70 rfl rfl hx10 rfl) ?_
      refine EvI.pure (v := .int .i64 a1) rfl rfl (w_none rfl) rfl (f_move rfl rfl) ?_
      obtain ⟨q13, hq12, hF⟩ := hF
      refine EvI.pure (v := .pointer (some q13)) rfl rfl (w_none rfl) rfl (f_indexAddr (s := x10) Tryz.underlying70 ty80.size rfl rfl rfl hq12) ?_
      refine EvI.pure (v := .pointer (some (q13.add 0))) rfl rfl (w_none rfl) rfl (f_fieldAddr fd80_0 rfl rfl) ?_
      obtain ⟨x11, hx11, hF⟩ := hF
      refine EvI.read (v := Sl.val x11) rfl rfl (w_none rfl) rfl (f_load kL ty34 rfl rfl hx11 rfl) ?_
      refine EvI.pure (v := .pointer a0) rfl rfl (w_none rfl) rfl (f_move rfl rfl) ?_
      obtain ⟨q14, hq13, hF⟩ := hF
      refine EvI.pure (v := .pointer (some q14)) rfl rfl (w_none rfl) rfl (f_nilCheck rfl (congrArg Value.pointer hq13)) ?_
      refine EvI.pure (v := .pointer (some (q14.add 0))) rfl rfl (w_none rfl) rfl (f_fieldAddr fd72_0 rfl rfl) ?_
      obtain ⟨x12, hx12, hF⟩ := hF
      refine EvI.read (v := Sl.val x12) rfl rfl (w_none rfl) rfl (f_load kL ty70 rfl rfl hx12 rfl) ?_
      refine EvI.pure (v := .int .i64 a1) rfl rfl (w_none rfl) rfl (f_move rfl rfl) ?_
      obtain ⟨q15, hq14, hF⟩ := hF
      refine EvI.pure (v := .pointer (some q15)) rfl rfl (w_none rfl) rfl (f_indexAddr (s := x12) Tryz.underlying70 ty80.size rfl rfl rfl hq14) ?_
      refine EvI.pure (v := .pointer (some (q15.add 1))) rfl rfl (w_none rfl) rfl (f_fieldAddr fd80_1 rfl rfl) ?_
      obtain ⟨x13, hx13, hF⟩ := hF
      refine EvI.read (v := .int .i64 x13) rfl rfl (w_none rfl) rfl (f_load (kI .i64) ty3 rfl rfl hx13 rfl) ?_
      obtain ⟨q16, hq15, hF⟩ := hF
      refine EvI.pure (v := .pointer (some q16)) rfl rfl (w_none rfl) rfl (f_indexAddr (s := x11) Tryz.underlying34 ty53.size rfl rfl rfl hq15) ?_
      obtain ⟨x14, hx14, hF⟩ := hF
      refine EvI.read (v := k52.val x14) rfl rfl (w_none rfl) rfl (f_load k52 ty53 rfl rfl hx14 rfl) ?_
      obtain ⟨h7, hs4, hF⟩ := hF
      refine EvI.runN rfl rfl (w_none rfl) rfl (f_store k52 ty53.size (z := x14) rfl rfl rfl hs4) ?_
      rintro _ _ ⟨rfl, rfl⟩
      refine ⟨⟨chk_no rfl, chk_no rfl, chk_no rfl, chk_no rfl, chk_no rfl, trivial⟩, ?_⟩
      refine EvI.nil ?_
      exact KE.mk () ⟨rfl, rfl, rfl, trivial⟩ hF
    · refine WP.cond_false _ rfl c1 ?_
      refine WP.skip ?_
      exact KE.mk () ⟨rfl, rfl, rfl, trivial⟩ hF
end Go.Proofs.YtomngllmnhdmlaaGreat
/- The document's scheduler in memory, and what each of its calls does. -/
namespace Go.Proofs.YtomngllmnhdmlaaGreat
open Go Go.Tr
set_option linter.unusedVariables false
abbrev RTask := S79
abbrev kRT : Kd RTask := k79
abbrev RSd := S71
abbrev kRSd : Kd RSd := k71
theorem ft_ms : Fld kRT kL 0 (·.f0) (fun x v => { x with f0 := v }) := (Fld.whole kL).fst.iso
theorem ft_nx : Fld kRT (kI .i64) 1 (·.f1) (fun x v => { x with f1 := v }) := (Fld.whole (kI .i64)).fst.snd.iso
theorem ft_st : Fld kRT (kI .i64) 2 (·.f2) (fun x v => { x with f2 := v }) := (Fld.whole (kI .i64)).fst.snd.snd.iso
theorem ft_on : Fld kRT (kI .i64) 3 (·.f3) (fun x v => { x with f3 := v }) := (Fld.whole (kI .i64)).fst.snd.snd.snd.iso
theorem ft_fl : Fld kRT (kI .i64) 4 (·.f4) (fun x v => { x with f4 := v }) := (Fld.whole (kI .i64)).fst.snd.snd.snd.snd.iso
theorem ft_sp : Fld kRT (kI .i64) 5 (·.f5) (fun x v => { x with f5 := v }) := (Fld.whole (kI .i64)).snd.snd.snd.snd.snd.iso
theorem fd_l : Fld kRSd kL 0 (·.f0) (fun x v => { x with f0 := v }) := (Fld.whole kL).fst.iso
theorem fd_m : Fld kRSd kP 1 (·.f1) (fun x v => { x with f1 := v }) := (Fld.whole kP).snd.iso
abbrev RE := TK × PLY
def trow (e : RE) : RTask := ⟨e.2.sl, (e.2.nx : Int), e.1.st, e.1.on, e.1.fl, (e.2.nx : Int)⟩
def rfX (q mb : Nat) (M : AM) (ts : Sl) (xs : List RTask) : List HP := [varP kRSd q ⟨ts, some ⟨mb, 0, none⟩⟩, refP mb M, ownP kRT ts xs]
theorem at_tr {es : List RE} {n : Nat} (hn : n < es.length) : (es.map trow)[n]? = some (trow es[n]) := by rw [List.getElem?_map, List.getElem?_eq_getElem hn]; rfl
theorem set_tr (es : List RE) (n : Nat) (e : RE) : (es.map trow).set n (trow e) = (es.set n e).map trow := List.map_set.symm
def curG {α : Type _} (f : α → α) (es : List α) (j : Nat) : List α := (es.take j).map f ++ es.drop j
theorem curG_at {α : Type _} (f : α → α) {es : List α} {j : Nat} (hj : j < es.length) : (curG f es j)[j]? = some es[j] := by
  unfold curG
  rw [List.getElem?_append_right (by simp; omega)]
  simp [Nat.min_eq_left (Nat.le_of_lt hj), hj]
theorem curG_succ {α : Type _} (f : α → α) {es : List α} {j : Nat} (hj : j < es.length) : curG f es (j + 1) = (curG f es j).set j (f es[j]) := by
  unfold curG
  rw [List.take_add_one, List.getElem?_eq_getElem hj, Option.toList_some, List.map_append, List.append_assoc, List.set_append, if_neg (by simp; omega)]
  congr 1
  have : j - ((es.take j).map f).length = 0 := by simp; omega
  rw [this, List.drop_eq_getElem_cons hj]; rfl
theorem curG_len {α : Type _} (f : α → α) (es : List α) (j : Nat) : (curG f es j).length = es.length := by unfold curG; simp; omega
def wkR (on : Int) (e : RE) : RE := (wk on e.1, e.2)
def gr1 (e : RE) : RE := ({ e.1 with st := 1 }, e.2)
def rgr (es : List RE) (l : List Int) : List RE := l.foldl (fun es x => es.modify x.toNat gr1) es
theorem rgr_len : ∀ (l : List Int) (es : List RE), (rgr es l).length = es.length
  | [], es => rfl
  | x :: l, es => by
    show (rgr (es.modify x.toNat gr1) l).length = _
    rw [rgr_len l]; simp
theorem rgr_fst : ∀ (l : List Int) (es : List RE), (rgr es l).map Prod.fst = grantT (es.map Prod.fst) l
  | [], es => rfl
  | x :: l, es => by
    show (rgr (es.modify x.toNat gr1) l).map Prod.fst = grantT (setSt (es.map Prod.fst) x.toNat 1) l
    rw [rgr_fst l]
    congr 1
    unfold setSt
    apply List.ext_getElem?
    intro i
    rw [List.getElem?_map, List.getElem?_modify, List.getElem?_modify, List.getElem?_map]
    cases es[i]? with
    | none => simp
    | some z => by_cases c : x.toNat = i <;> simp [c, gr1]
theorem rgr_snd : ∀ (l : List Int) (es : List RE), (rgr es l).map Prod.snd = es.map Prod.snd
  | [], es => rfl
  | x :: l, es => by
    show (rgr (es.modify x.toNat gr1) l).map Prod.snd = _
    rw [rgr_snd l]
    apply List.ext_getElem?
    intro i
    rw [List.getElem?_map, List.getElem?_modify, List.getElem?_map]
    cases es[i]? with
    | none => simp
    | some z => by_cases c : x.toNat = i <;> simp [c, gr1]
section
variable {F0 : Nat → Prop} {h0 h : H} {q mb : Nat} {M : AM} {ts : Sl} {xs : List RTask} {es : List RE} {B n : Nat} {Rs Ps : List HP} {X : HP}
theorem rts (S : SG F0 h0 h (rfX q mb M ts xs ++ Rs)) {T : Sl → Prop} (t : T ts) : rd (some (⟨q, 0, none⟩ : Addr)) fun q1 => rd (ld kL (q1.add 0) h) T :=
  rd_some rfl (rd_some (by rw [add_mk]; exact varP.ld S fd_l 0 rfl) t)
theorem rmg (S : SG F0 h0 h (rfX q mb M ts xs ++ Rs)) {T : Option Addr → Prop} (t : T (some ⟨mb, 0, none⟩)) : rd (some (⟨q, 0, none⟩ : Addr)) fun q1 => rd (ld kP (q1.add 1) h) T :=
  rd_some rfl (rd_some (by rw [add_mk]; exact varP.ld S fd_m 0 rfl) t)
theorem rget {β : Type} {Fk : Kd β} {off : Nat} {g : RTask → β} {p : RTask → β → RTask} (f : Fld kRT Fk off g p) (S : SG F0 h0 h (rfX q mb M ts xs ++ Rs)) {x : RTask} (hn : xs[n]? = some x) {T : β → Prop} (t : T (g x)) : rd (ixA 6 ts (n : Int)) fun q2 => rd (ld Fk (q2.add off) h) T := by
  obtain ⟨hl, rfl⟩ := List.getElem?_eq_some_iff.1 hn
  exact (ownP.rds (K := kRT) S 2 rfl).elt f hl rfl t
theorem rset {β : Type} {Fk : Kd β} {off : Nat} {g : RTask → β} {p : RTask → β → RTask} (f : Fld kRT Fk off g p) (S : SG F0 h0 h (rfX q mb M ts xs ++ Rs)) {x : RTask} (hn : xs[n]? = some x) (v : β) {T : H → Prop} (t : ∀ h', SG F0 h0 h' (rfX q mb M ts (xs.set n (p x v)) ++ Rs) → T h') : rd (ixA 6 ts (n : Int)) fun q2 => rd (st Fk (q2.add off) v h) T := by
  have hl := (List.getElem?_eq_some_iff.1 hn).1
  obtain ⟨a, ha⟩ := ownP.ix S 2 (K := kRT) rfl hl (n := 6) rfl
  obtain ⟨h', hs, S2⟩ := ownP.stF f S 2 rfl hn (n := 6) rfl ha v
  exact rd_some ha (rd_some hs (t h' S2))
theorem rlen (S : SG F0 h0 h (rfX q mb M ts (es.map trow) ++ Rs)) : ts.len = es.length := by
  have := ownP.len (K := kRT) S 2 rfl
  rw [List.length_map] at this; exact this
theorem rready_spec (S : SG F0 h0 h (rfX q mb M ts (es.map trow) ++ Rs)) (hl : es.length ≤ 1000) {Q : Sl → H → Prop} (k : ∀ s h', SG F0 h0 h' (ownP (kI .i64) s (readyT (es.map Prod.fst)) :: (rfX q mb M ts (es.map trow) ++ Rs)) → Q s h') : spateref12_Sched_Ready (some ⟨q, 0, none⟩) h Q := by
  unfold spateref12_Sched_Ready
  have hlen := rlen S
  refine jn_i (for0 (mk := fun (s : Sl) i => (s, i)) (s := Sl.nil) (n := es.length) (by omega) (fun j s h' => SG F0 h0 h' (rfX q mb M ts (es.map trow) ++ (ownP (kI .i64) s (readyTo (es.map Prod.fst) j) :: Rs))) ?_ (fun j s h' K hj S1 next done => ?_) (fun s h' K S1 done => ?_))
  · exact (S.made (Ext.refl h) (Own.nil (kI .i64) h _)).perm (List.perm_middle (l₁ := rfX q mb M ts (es.map trow))).symm
  · have hl' := readyTo_len (es.map Prod.fst) j
    unfold spateref12_Sched_Ready.b1
    have hr : rdyB (es.map Prod.fst) j = (es[j].1.st == 1) := by
      unfold rdyB
      rw [List.getElem?_map, List.getElem?_eq_getElem hj]; rfl
    refine rts S1 (ite_t (by rw [hlen]; exact clt_t hj) (jn_q (fun s' h2 => SG F0 h0 h2 (rfX q mb M ts (es.map trow) ++ (ownP (kI .i64) s' (readyTo (es.map Prod.fst) (j + 1)) :: Rs))) (fun K2 hK2 => rts S1 (rget ft_st S1 (at_tr hj) (ite_b (fun c => ?_) (fun c => ?_)))) fun s' h2 S2 => next s' h2 S2))
    · have c : (es[j].1.st == 1) = true := c
      refine ownP.push (K := kI .i64) (by decide) S1 3 rfl (j : Int) (by omega) (by omega) fun s' h3 S3 => hK2 s' h3 ?_
      rw [readyTo_succ, hr, c]; exact S3
    · have c : (es[j].1.st == 1) = false := c
      refine hK2 s h' ?_
      rw [readyTo_succ, hr, c]
      simpa using S1
  · unfold spateref12_Sched_Ready.b1
    refine rts S1 (ite_f (by rw [hlen]; exact clt_f (Nat.lt_irrefl _)) (done _ _ (k s h' ?_)))
    have S2 := S1.perm (List.perm_middle (l₁ := rfX q mb M ts (es.map trow)))
    unfold readyT
    rw [List.length_map]; exact S2
theorem rwake_spec (S : SG F0 h0 h (rfX q mb M ts (es.map trow) ++ Rs)) (hl : es.length ≤ 1000) (on : Int) {Q : Int → H → Prop} (k : ∀ h', SG F0 h0 h' (rfX q mb M ts ((es.map (wkR on)).map trow) ++ Rs) → Q (wakeN (es.map Prod.fst) on : Nat) h') : spateref12_Sched_Wake (some ⟨q, 0, none⟩) on h Q := by
  unfold spateref12_Sched_Wake
  have hlen := rlen S
  refine jn_i (for0 (mk := fun (c : Int) i => (c, i)) (s := (0 : Int)) (n := es.length) (by omega) (fun j c h' => c = ((((es.take j).map Prod.fst).countP (wkB on) : Nat) : Int) ∧ SG F0 h0 h' (rfX q mb M ts ((curG (wkR on) es j).map trow) ++ Rs)) ⟨rfl, by simpa [curG] using S⟩ (fun j c h' K hj hI next done => ?_) (fun c h' K hI done => ?_))
  · obtain ⟨rfl, S1⟩ := hI
    unfold spateref12_Sched_Wake.b1
    have hcl := curG_len (wkR on) es j
    have hat : ((curG (wkR on) es j).map trow)[j]? = some (trow es[j]) := by rw [List.getElem?_map, curG_at _ hj]; rfl
    have hcnt : (es.take (j + 1)).map Prod.fst = (es.take j).map Prod.fst ++ [es[j].1] := by rw [List.take_add_one, List.getElem?_eq_getElem hj, Option.toList_some, List.map_append]; rfl
    have hle : ((es.take j).map Prod.fst).countP (wkB on) ≤ j := Nat.le_trans List.countP_le_length (by simp; omega)
    refine rts S1 (ite_t (by rw [hlen]; exact clt_t hj) (jn_q (fun (c : Int) h2 => c = ((((es.take (j + 1)).map Prod.fst).countP (wkB on) : Nat) : Int) ∧ SG F0 h0 h2 (rfX q mb M ts ((curG (wkR on) es (j + 1)).map trow) ++ Rs)) (fun K2 hK2 => ?_) fun c h2 hI => next c h2 hI))
    rw [hcnt, List.countP_append, List.countP_singleton, curG_succ _ hj, ← set_tr] at hK2
    refine jn_c' (wkB on es[j].1) h' (fun K3 hK3 => rts S1 (rget ft_st S1 hat (ite_b (fun c => rts S1 (rget ft_on S1 hat ?_)) (fun c => ?_)))) (ite_b (fun c => rts S1 (rset ft_st S1 hat 1 fun h3 S2 => hK2 _ _ ⟨?_, ?_⟩)) (fun c => hK2 _ _ ⟨?_, ?_⟩))
    · have c : (es[j].1.st == 3) = true := c
      unfold wkB at hK3
      rw [c, Bool.true_and] at hK3; exact hK3
    · have c : (es[j].1.st == 3) = false := c
      unfold wkB at hK3
      rw [c, Bool.false_and] at hK3; exact hK3
    · rw [c, if_pos rfl, wrap64_id (by omega) (by omega)]; rfl
    · have e : trow (wkR on es[j]) = { trow es[j] with f2 := 1 } := by unfold wkR wk; rw [if_pos c]; rfl
      rw [e]; exact S2
    · rw [c]; simp
    · have e : trow (wkR on es[j]) = trow es[j] := by unfold wkR wk; rw [if_neg (by rw [c]; simp)]
      rw [e]
      have e2 : ((curG (wkR on) es j).map trow).set j (trow es[j]) = (curG (wkR on) es j).map trow := by
        apply List.ext_getElem?
        intro i
        by_cases ci : j = i
        · subst ci; rw [List.getElem?_set_self (by rw [List.length_map]; omega), hat]
        · rw [List.getElem?_set_ne ci]
      rw [e2]; exact S1
  · obtain ⟨rfl, S1⟩ := hI
    unfold spateref12_Sched_Wake.b1
    refine rts S1 (ite_f (by rw [hlen]; exact clt_f (Nat.lt_irrefl _)) (done _ _ ?_))
    rw [List.take_length]
    have e : curG (wkR on) es es.length = es.map (wkR on) := by simp [curG]
    rw [e] at S1
    exact k h' S1
theorem rgranted_spec {s : Sl} {l : List Int} (S : SG F0 h0 h (ownP (kI .i64) s l :: (rfX q mb M ts (es.map trow) ++ Rs))) (hl : l.length < 4611686018427387904) (hin : ∀ x ∈ l, ∃ m : Nat, x = m ∧ m < es.length) {Q : Unit → H → Prop} (k : ∀ h', SG F0 h0 h' (ownP (kI .i64) s l :: (rfX q mb M ts ((rgr es l).map trow) ++ Rs)) → Q () h') : spateref12_Sched_granted (some ⟨q, 0, none⟩) s h Q := by
  unfold spateref12_Sched_granted
  have hlen := ownP.len (K := kI .i64) S 0 rfl
  have S0 : SG F0 h0 h (rfX q mb M ts (es.map trow) ++ (ownP (kI .i64) s l :: Rs)) := S.perm (List.perm_middle (l₁ := rfX q mb M ts (es.map trow))).symm
  refine for0 (mk := fun (_ : Unit) i => i) (s := ()) (n := l.length) hl (fun j _ h' => SG F0 h0 h' (rfX q mb M ts ((rgr es (l.take j)).map trow) ++ (ownP (kI .i64) s l :: Rs))) S0 (fun j _ h' K hj S1 next done => ?_) (fun _ h' K S1 done => ?_)
  · unfold spateref12_Sched_granted.b1
    obtain ⟨m, hm, hml⟩ := hin _ (List.getElem_mem hj)
    have hml' : m < (rgr es (l.take j)).length := by rw [rgr_len]; exact hml
    refine ite_t (by rw [hlen]; exact clt_t hj) (rts S1 ((ownP.rds (K := kI .i64) S1 3 rfl).elt0 hj rfl ?_))
    rw [hm]
    refine rset ft_st S1 (at_tr hml') 1 fun h2 S2 => next () h2 ?_
    have e : rgr es (l.take (j + 1)) = (rgr es (l.take j)).set m (gr1 (rgr es (l.take j))[m]) := by
      rw [← modify_set _ hml']
      unfold rgr
      rw [List.take_add_one, List.getElem?_eq_getElem hj, Option.toList_some, List.foldl_append, hm]
      show List.modify _ (Int.toNat (m : Int)) gr1 = _
      rw [Int.toNat_natCast]
    rw [e, ← set_tr]; exact S2
  · unfold spateref12_Sched_granted.b1
    rw [List.take_length] at S1
    exact ite_f (by rw [hlen]; exact clt_f (Nat.lt_irrefl _)) (done _ _ (k h' (S1.perm (List.perm_middle (l₁ := rfX q mb M ts ((rgr es l).map trow))))))
theorem rend_spec (hn : n < es.length) (ok : (AS.mk M (es.map Prod.fst)).Ok B) (hB : B ≤ 90000000) (fl : Int) (S : SG F0 h0 h (rfX q mb M ts (es.map trow) ++ Rs)) {Q : Unit → H → Prop}
    (k : ∀ (es' : List RE) h', es'.map Prod.fst = ((AS.mk M (es.map Prod.fst)).endT n fl).ts → es'.map Prod.snd = es.map Prod.snd → SG F0 h0 h' (rfX q mb ((AS.mk M (es.map Prod.fst)).endT n fl).m ts (es'.map trow) ++ Rs) → Q () h') : spateref12_Sched_end (some ⟨q, 0, none⟩) (n : Int) fl h Q := by
  unfold spateref12_Sched_end
  refine rts S (rset ft_st S (at_tr hn) 4 fun h1 S1 => rts S1 (rset ft_fl S1 (x := { trow es[n] with f2 := 4 }) (by rw [List.getElem?_set_self (by simpa using hn)]) fl fun h2 S2 => ?_))
  rw [List.set_set] at S2
  have e1 : ({ { trow es[n] with f2 := 4 } with f4 := fl } : RTask) = trow ({ es[n].1 with st := 4, fl := fl }, es[n].2) := rfl
  have S2 : SG F0 h0 h2 (rfX q mb M ts ((es.map trow).set n ({ { trow es[n] with f2 := 4 } with f4 := fl } : RTask)) ++ Rs) := S2
  rw [e1, set_tr] at S2
  have f1 : (es.set n ({ es[n].1 with st := 4, fl := fl }, es[n].2)).map Prod.fst = (es.map Prod.fst).modify n fun t => { t with st := 4, fl := fl } := by
    rw [List.map_set, modify_set _ (by simpa using hn), List.getElem_map]
  have f2 : (es.set n ({ es[n].1 with st := 4, fl := fl }, es[n].2)).map Prod.snd = es.map Prod.snd := by
    rw [List.map_set]
    apply List.ext_getElem?
    intro i
    by_cases c : n = i
    · subst c; rw [List.getElem?_set_self (by simpa using hn), List.getElem?_map, List.getElem?_eq_getElem hn]; rfl
    · rw [List.getElem?_set_ne c]
  have hl2 : (es.set n ({ es[n].1 with st := 4, fl := fl }, es[n].2)).length = es.length := List.length_set
  generalize es.set n ({ es[n].1 with st := 4, fl := fl }, es[n].2) = es2 at S2 f1 f2 hl2
  refine rmg S2 (S2.go1 1 rfl (rquit_spec ok.m (by omega) (n : Int)) fun g h3 S3 => ?_)
  have S3 : SG F0 h0 h3 (ownP (kI .i64) g (M.quit n).1 :: (rfX q mb (M.quit n).2 ts (es2.map trow) ++ Rs)) := S3
  have hmb := ok.m.b
  have hql : (M.quit n).1.length ≤ B := by
    unfold AM.quit
    split
    · rename_i i hi
      have := thr_told M.queue (M.has.eraseIdx i) []
      show (thr (M.has.eraseIdx i) [] M.queue).2.2.length ≤ _
      have hmb : M.has.length + M.queue.length ≤ B := hmb
      omega
    · split
      · rename_i i hi
        have := thr_told (M.queue.eraseIdx i) M.has []
        have := List.length_eraseIdx_le M.queue i
        have hmb : M.has.length + M.queue.length ≤ B := hmb
        show (thr M.has [] (M.queue.eraseIdx i)).2.2.length ≤ _
        omega
      · simp
  refine rgranted_spec S3 (by omega) (AS.quit_told (P := fun x => ∃ m : Nat, x = m ∧ m < es2.length) _ fun c hc => ?_) fun h4 S4 => k (rgr es2 (M.quit n).1) h4 ?_ ((rgr_snd _ _).trans f2) S4.tail
  · obtain ⟨m, h1, h2⟩ := ok.t c hc
    have h2 : m < (es.map Prod.fst).length := h2
    rw [List.length_map] at h2
    exact ⟨m, h1, by omega⟩
  · rw [rgr_fst, f1]; rfl
theorem wkR_fst (on : Int) (es : List RE) : (es.map (wkR on)).map Prod.fst = wakeT (es.map Prod.fst) on := by unfold wakeT; rw [List.map_map, List.map_map]; rfl
theorem wkR_snd (on : Int) (es : List RE) : (es.map (wkR on)).map Prod.snd = es.map Prod.snd := by rw [List.map_map]; rfl
theorem fst_len {es es' : List RE} {L : List TK} (h : es'.map Prod.fst = L) (e : L.length = es.length) : es'.length = es.length := by
  have := congrArg List.length h
  rw [List.length_map] at this; omega
theorem rdo_spec (hn : n < es.length) (ok : (AS.mk M (es.map Prod.fst)).Ok B) (hB : B ≤ 80000000) {v : Mv} {l : List Lk} {w : List Int} (j : Nat) (hj : Rs[j]? = some X) (hX : ∀ h F, X.p h F → Rds kLk h v.f1 l ∧ Rds (kI .i64) h v.f3 w) (hll : l.length ≤ 8796093022080) (hwl : w.length < 4611686018427387904)
    (S : SG F0 h0 h (rfX q mb M ts (es.map trow) ++ Rs)) {Q : Unit → H → Prop}
    (k : ∀ (es' : List RE) h', es'.map Prod.fst = ((AS.mk M (es.map Prod.fst)).step n ⟨v.f0, l, v.f2, w⟩).ts → es'.map Prod.snd = es.map Prod.snd → SG F0 h0 h' (rfX q mb ((AS.mk M (es.map Prod.fst)).step n ⟨v.f0, l, v.f2, w⟩).m ts (es'.map trow) ++ Rs) → Q () h') : spateref12_Sched_Do (some ⟨q, 0, none⟩) (n : Int) v h Q := by
  have hes : es.length ≤ 400 := by have := ok.n; simpa using this
  unfold spateref12_Sched_Do
  refine S.var (K := kMv) (x := v) fun b h1 S1 _ => ?_
  have S1 : SG F0 h0 h1 (rfX q mb M ts (es.map trow) ++ (varP kMv b v :: Rs)) := S1.perm (List.perm_middle (l₁ := rfX q mb M ts (es.map trow))).symm
  have hk : ld (kI .i64) ((⟨b, 0, none⟩ : Addr).add 0) h1 = some v.f0 := by rw [add_mk]; exact varP.ld S1 fv_kind 3 rfl
  refine jn_c' (isPan v.f0) h1 (fun K hK => rd_some hk (ite_b (fun c => rd_some hk ?_) (fun c => ?_))) ?_
  · rw [decide_eq_true_eq] at c
    unfold isPan at hK
    rw [decide_eq_true c, Bool.and_true] at hK
    exact hK
  · rw [decide_eq_false_iff_not] at c
    unfold isPan at hK
    rw [decide_eq_false c, Bool.and_false] at hK
    exact hK
  have drop : ∀ {M' : AM} {xs' : List RTask} {h' : H}, SG F0 h0 h' (rfX q mb M' ts xs' ++ (varP kMv b v :: Rs)) → SG F0 h0 h' (rfX q mb M' ts xs' ++ Rs) := fun {M' xs' h'} S' => (S'.perm (List.perm_middle (l₁ := rfX q mb M' ts xs'))).tail
  refine ite_b (fun c => ?_) (fun c => ?_)
  · have e : (AS.mk M (es.map Prod.fst)).step n ⟨v.f0, l, v.f2, w⟩ = (AS.mk M (es.map Prod.fst)).endT n 42 := by unfold AS.step; rw [if_pos c]
    rw [e] at k
    exact rend_spec hn ok (by omega) 42 S1 fun es' h' a1 a2 S' => k es' h' a1 a2 (drop S')
  -- whom it wakes
  refine jn_q (fun (_ : Unit) h' => ∃ es1 : List RE, es1.map Prod.fst = ((AS.mk M (es.map Prod.fst)).wakes w).ts ∧ es1.map Prod.snd = es.map Prod.snd ∧ SG F0 h0 h' (rfX q mb M ts (es1.map trow) ++ (varP kMv b v :: Rs))) (fun K hK => ?_) ?_
  · refine for0 (mk := fun (_ : Unit) i => i) (s := ()) (n := w.length) hwl (fun i _ h' => ∃ es1 : List RE, es1.map Prod.fst = (w.take i).foldl wakeT (es.map Prod.fst) ∧ es1.map Prod.snd = es.map Prod.snd ∧ SG F0 h0 h' (rfX q mb M ts (es1.map trow) ++ (varP kMv b v :: Rs))) ⟨es, rfl, rfl, S1⟩ (fun i _ h' K2 hi hI next done => ?_) (fun _ h' K2 hI done => ?_)
    · obtain ⟨es1, a1, a2, S2⟩ := hI
      have hl1 : es1.length = es.length := fst_len a1 (by rw [wakes_len, List.length_map])
      have hw : ld kL ((⟨b, 0, none⟩ : Addr).add 3) h' = some v.f3 := by rw [add_mk]; exact varP.ld S2 fv_w 3 rfl
      obtain ⟨F1, pX, _⟩ := S2.at (4 + j) (P := X) (by rw [Nat.add_comm]; exact hj)
      have RW := (hX h' F1 pX).2
      unfold spateref12_Sched_Do.b1
      refine rd_some hw (ite_t (by rw [RW.len]; exact clt_t hi) (rd_some hw (RW.elt0 hi rfl (rwake_spec S2 (by omega) w[i] fun h3 S3 => next () h3 ⟨es1.map (wkR w[i]), ?_, ?_, S3⟩))))
      · rw [wkR_fst, a1, List.take_add_one, List.getElem?_eq_getElem hi, Option.toList_some, List.foldl_append]; rfl
      · rw [wkR_snd, a2]
    · obtain ⟨es1, a1, a2, S2⟩ := hI
      have hw : ld kL ((⟨b, 0, none⟩ : Addr).add 3) h' = some v.f3 := by rw [add_mk]; exact varP.ld S2 fv_w 3 rfl
      obtain ⟨F1, pX, _⟩ := S2.at (4 + j) (P := X) (by rw [Nat.add_comm]; exact hj)
      have RW := (hX h' F1 pX).2
      rw [List.take_length] at a1
      unfold spateref12_Sched_Do.b1
      exact rd_some hw (ite_f (by rw [RW.len]; exact clt_f (Nat.lt_irrefl _)) (done _ _ (hK () h' ⟨es1, a1, a2, S2⟩)))
  rintro _ h2 ⟨es1, a1, a2, S2⟩
  have okw := ok.wakes w
  have hl1 : es1.length = es.length := fst_len a1 (by rw [AS.wakes_tlen, List.length_map])
  obtain ⟨A1, hA1⟩ : ∃ A1 : AS, A1 = (AS.mk M (es.map Prod.fst)).wakes w := ⟨_, rfl⟩
  have eA1 : A1 = AS.mk M (es1.map Prod.fst) := by rw [hA1, a1]; rfl
  rw [← hA1] at okw
  have est : (AS.mk M (es.map Prod.fst)).step n ⟨v.f0, l, v.f2, w⟩ = if ((AS.mk M (es.map Prod.fst)).move n ⟨v.f0, l, v.f2, w⟩).1.1 = true then ((AS.mk M (es.map Prod.fst)).move n ⟨v.f0, l, v.f2, w⟩).2.endT n ((AS.mk M (es.map Prod.fst)).move n ⟨v.f0, l, v.f2, w⟩).1.2 else ((AS.mk M (es.map Prod.fst)).move n ⟨v.f0, l, v.f2, w⟩).2 := by
    unfold AS.step
    rw [if_neg (by show ¬ isPan v.f0 = true; rw [c]; simp)]
  have emv : (AS.mk M (es.map Prod.fst)).move n ⟨v.f0, l, v.f2, w⟩ =
      if v.f0 = 1 then ((false, 0), A1)
      else if v.f0 = 2 then
        if (A1.m.ask n l).1.2 ≠ 0 then ((true, (A1.m.ask n l).1.2), ⟨(A1.m.ask n l).2, A1.ts⟩)
        else ((false, 0), ⟨(A1.m.ask n l).2, if (A1.m.ask n l).1.1 then A1.ts else setSt A1.ts n 2⟩)
      else if v.f0 = 3 then
        if (A1.m.free n).1.2 ≠ 0 then ((true, (A1.m.free n).1.2), ⟨(A1.m.free n).2, A1.ts⟩)
        else ((false, 0), ⟨(A1.m.free n).2, grantT A1.ts (A1.m.free n).1.1⟩)
      else if v.f0 = 4 then ((false, 0), ⟨A1.m, A1.ts.modify n fun t => { t with st := 3, on := v.f2 }⟩)
      else if v.f0 = 5 then ((true, 0), A1)
      else ((true, 15), A1) := by rw [hA1]; rfl
  rw [est, emv, eA1] at k
  rw [eA1] at okw
  have hn1 : n < es1.length := by omega
  clear est emv hA1 eA1 a1
  have hk : ld (kI .i64) ((⟨b, 0, none⟩ : Addr).add 0) h2 = some v.f0 := by rw [add_mk]; exact varP.ld S2 fv_kind 3 rfl
  have fin : ∀ {M' : AM} (es' : List RE) (h' : H) (fl : Int), (AS.mk M' (es'.map Prod.fst)).Ok (B + 1) → n < es'.length → es'.map Prod.snd = es.map Prod.snd → SG F0 h0 h' (rfX q mb M' ts (es'.map trow) ++ (varP kMv b v :: Rs)) → (∀ (es2 : List RE) h3, es2.map Prod.fst = ((AS.mk M' (es'.map Prod.fst)).endT n fl).ts → es2.map Prod.snd = es.map Prod.snd → SG F0 h0 h3 (rfX q mb ((AS.mk M' (es'.map Prod.fst)).endT n fl).m ts (es2.map trow) ++ Rs) → Q () h3) → spateref12_Sched_end (some ⟨q, 0, none⟩) (n : Int) fl h' fun _ h => Q () h := fun {M'} es' h' fl ok' hn' hs S' k' =>
    rend_spec hn' ok' (by omega) fl S' fun es2 h3 b1 b2 S3 => k' es2 h3 b1 (b2.trans hs) (drop S3)
  refine rd_some hk (ite_b (fun d => ?_) (fun d => ?_))
  · have d : v.f0 = 1 := by simpa using d
    rw [if_pos d] at k
    exact k es1 h2 rfl a2 (drop S2)
  have d1 : ¬ v.f0 = 1 := by simpa using d
  rw [if_neg d1] at k
  refine ite_b (fun d => ?_) (fun d => ?_)
  · have d : v.f0 = 2 := by simpa using d
    rw [if_pos d] at k
    obtain ⟨F1, pX, _⟩ := S2.at (4 + j) (P := X) (by rw [Nat.add_comm]; exact hj)
    have RL := (hX h2 F1 pX).1
    refine rmg S2 (rd_some (by rw [add_mk]; exact varP.ld S2 fv_l 3 rfl) (S2.go1 1 rfl (rask_spec okw.m (by omega) RL hll) fun _ h3 S3 => ?_))
    have S3 : SG F0 h0 h3 (rfX q mb (M.ask n l).2 ts (es1.map trow) ++ (varP kMv b v :: Rs)) := S3
    have oka : (AS.mk (M.ask n l).2 (es1.map Prod.fst)).Ok (B + 1) := ⟨okw.m.ask _ _, AS.ask_mem (P := fun c => ∃ m : Nat, c.1 = m ∧ m < (es1.map Prod.fst).length) _ _ okw.t ⟨n, rfl, by rw [List.length_map]; exact hn1⟩, okw.n⟩
    simp only at k
    refine ite_b (fun e => ?_) (fun e => ?_)
    · have e : (M.ask n l).1.2 ≠ 0 := by simpa using e
      rw [if_pos e, if_pos rfl] at k
      exact fin es1 h3 _ oka hn1 a2 S3 k
    · have e : ¬ (M.ask n l).1.2 ≠ 0 := by simpa using e
      rw [if_neg e, if_neg (by simp)] at k
      refine ite_b (fun g => ?_) (fun g => ?_)
      · have g : (M.ask n l).1.1 = false := by simpa using g
        rw [g] at k
        refine rts S3 (rset ft_st S3 (at_tr hn1) 2 fun h4 S4 => k (es1.set n ({ es1[n].1 with st := 2 }, es1[n].2)) h4 ?_ ?_ (drop ?_))
        · show _ = setSt (es1.map Prod.fst) n 2
          unfold setSt
          rw [List.map_set, modify_set _ (by simpa using hn1), List.getElem_map]
        · rw [List.map_set, ← a2]
          apply List.ext_getElem?
          intro i
          by_cases ci : n = i
          · subst ci; rw [List.getElem?_set_self (by simpa using hn1), List.getElem?_map, List.getElem?_eq_getElem hn1]; rfl
          · rw [List.getElem?_set_ne ci]
        · rw [← set_tr]; exact S4
      · have g : (M.ask n l).1.1 = true := by simpa using g
        rw [g] at k
        exact k es1 h3 rfl a2 (drop S3)
  have d2 : ¬ v.f0 = 2 := by simpa using d
  rw [if_neg d2] at k
  refine ite_b (fun d => ?_) (fun d => ?_)
  · have d : v.f0 = 3 := by simpa using d
    rw [if_pos d] at k
    refine rmg S2 (S2.go1 1 rfl (rfree_spec okw.m (by omega) (n : Int)) fun g h3 S3 => ?_)
    have S3 : SG F0 h0 h3 (ownP (kI .i64) g (M.free n).1.1 :: (rfX q mb (M.free n).2 ts (es1.map trow) ++ (varP kMv b v :: Rs))) := S3
    have okf : (AS.mk (M.free n).2 (es1.map Prod.fst)).Ok (B + 1) := ⟨(okw.m.free _).mono (by omega), AS.free_mem (P := fun c => ∃ m : Nat, c.1 = m ∧ m < (es1.map Prod.fst).length) _ okw.t, okw.n⟩
    simp only at k
    refine ite_b (fun e => ?_) (fun e => ?_)
    · have e : (M.free n).1.2 ≠ 0 := by simpa using e
      rw [if_pos e, if_pos rfl] at k
      exact fin es1 h3 _ okf hn1 a2 S3.tail k
    · have e : ¬ (M.free n).1.2 ≠ 0 := by simpa using e
      rw [if_neg e, if_neg (by simp)] at k
      have hmb : M.has.length + M.queue.length ≤ B := okw.m.b
      have hql : (M.free n).1.1.length ≤ B := by
        unfold AM.free
        split
        · simp
        · rename_i i hi
          have := thr_told M.queue (M.has.eraseIdx i) []
          show (thr (M.has.eraseIdx i) [] M.queue).2.2.length ≤ _
          omega
      refine rgranted_spec S3 (by omega) (AS.free_told (P := fun x => ∃ m : Nat, x = m ∧ m < es1.length) _ fun c hc => ?_) fun h4 S4 => k (rgr es1 (M.free n).1.1) h4 ?_ ((rgr_snd _ _).trans a2) (drop S4.tail)
      · obtain ⟨m, b1, b2⟩ := okw.t c hc
        have b2 : m < (es1.map Prod.fst).length := b2
        rw [List.length_map] at b2
        exact ⟨m, b1, b2⟩
      · rw [rgr_fst]
  have d3 : ¬ v.f0 = 3 := by simpa using d
  rw [if_neg d3] at k
  refine ite_b (fun d => ?_) (fun d => ?_)
  · have d : v.f0 = 4 := by simpa using d
    rw [if_pos d, if_neg (by simp)] at k
    refine rts S2 (rset ft_st S2 (at_tr hn1) 3 fun h3 S3 => rts S3 (rd_some (by rw [add_mk]; exact varP.ld S3 fv_on 3 rfl) (rset ft_on S3 (x := { trow es1[n] with f2 := 3 }) (by rw [List.getElem?_set_self (by simpa using hn1)]) v.f2 fun h4 S4 => k (es1.set n ({ es1[n].1 with st := 3, on := v.f2 }, es1[n].2)) h4 ?_ ?_ (drop ?_))))
    · show _ = (es1.map Prod.fst).modify n _
      rw [List.map_set, modify_set _ (by simpa using hn1), List.getElem_map]
    · rw [List.map_set, ← a2]
      apply List.ext_getElem?
      intro i
      by_cases ci : n = i
      · subst ci; rw [List.getElem?_set_self (by simpa using hn1), List.getElem?_map, List.getElem?_eq_getElem hn1]; rfl
      · rw [List.getElem?_set_ne ci]
    · rw [List.set_set] at S4
      rw [← set_tr]; exact S4
  have d4 : ¬ v.f0 = 4 := by simpa using d
  rw [if_neg d4] at k
  refine ite_b (fun d => ?_) (fun d => ?_)
  · have d : v.f0 = 5 := by simpa using d
    rw [if_pos d, if_pos rfl] at k
    exact fin es1 h2 0 (okw.mono (by omega)) hn1 a2 S2 k
  · have d : ¬ v.f0 = 5 := by simpa using d
    rw [if_neg d, if_pos rfl] at k
    exact fin es1 h2 15 (okw.mono (by omega)) hn1 a2 S2 k
end
end Go.Proofs.YtomngllmnhdmlaaGreat
/- (*spate/spateref12.Sched).Choose, as a predicate over the heap, and that the code comes to it. Printed by gen.py. -/
namespace Go.Proofs.YtomngllmnhdmlaaGreat
open Go Go.Tr
set_option linter.unusedVariables false
set_option maxRecDepth 100000
set_option maxHeartbeats 400000
/-- (*spate/spateref12.Sched).Choose -/
def spateref12_Sched_Choose (a0 : Option Addr) (a1 : Int) (h : H) (Q : (Int × Bool) → H → Prop) : Prop :=
  spateref12_Sched_Ready a0 h fun r1 h1 =>
  if ((r1.len : Int) == 0) = true then
    Q (0, false) h1
  else
    rd (remI a1 (r1.len : Int)) fun x1 =>
    jn (fun (k1 : Int → H → Prop) =>
      if (decide (x1 < 0)) = true then
        k1 (IntKind.i64.wrap (x1 + (r1.len : Int))) h1
      else
        k1 x1 h1) fun s1 h2 =>
    rd (ixA 1 r1 s1) fun q1 =>
    rd (ld (kI .i64) q1 h2) fun x2 =>
    Q (x2, true) h2
theorem spateref12_Sched_Choose.sound {a0 : Option Addr} {a1 : Int} {h : H} {Q : (Int × Bool) → H → Prop} (hF : spateref12_Sched_Choose a0 a1 h Q) :
    CallsH Tryz.prog 25 (List.toArray (α := Value) [.pointer a0, .int .i64 a1]) h fun v h' => ∃ x : Int × Bool, v = .tuple #[.int .i64 x.1, .bool x.2] ∧ Q x h' := by
  refine CallsH.of_body Tryz.func25 rfl 27 rfl rfl ?_
  refine WP.seq ?_
  refine WP.region ?_
  refine EvK.pure (v := .int .i64 0) (w_none rfl) rfl rfl (f_assign rfl rfl) ?_
  refine EvK.pure (v := .bool false) (w_none rfl) rfl rfl (f_assign rfl rfl) ?_
  refine EvK.nil ?_
  refine WP.seq ?_
  refine WP.region ?_
  refine EvK.pure (v := .pointer a0) (w_none rfl) rfl rfl (f_move rfl rfl) ?_
  refine EvK.call (w_none rfl) rfl rfl (enterH Tryz.func27 rfl rfl rfl rfl (spateref12_Sched_Ready.sound hF)) ?_
  rintro _ h1 ⟨r1, rfl, hF⟩
  refine EvK.pure (v := Sl.val r1) (w_none rfl) rfl rfl (f_assign rfl rfl) ?_
  refine EvK.nil ?_
  refine WP.seq ?_
  refine WP.seq ?_
  refine WP.region ?_
  refine EvK.pure (v := Sl.val r1) (w_none rfl) rfl rfl (f_move rfl rfl) ?_
  refine EvK.pure (v := .int .i64 (r1.len : Int)) (w_none rfl) rfl rfl (f_lenL (s := r1) Tryz.underlying51 rfl rfl) ?_
  refine EvK.pure (v := .bool ((r1.len : Int) == 0)) (w_none rfl) rfl rfl (f_eql rfl rfl rfl) ?_
  refine EvK.nil ?_
  rcases ite_inv hF with ⟨c1, hF⟩ | ⟨c1, hF⟩
  · refine WP.cond_true _ rfl c1 ?_
    refine WP.seq ?_
    refine WP.region ?_
    refine EvK.pure (v := .int .i64 0) (w_none rfl) rfl rfl (f_assign rfl rfl) ?_
    refine EvK.pure (v := .bool false) (w_none rfl) rfl rfl (f_assign rfl rfl) ?_
    refine EvK.nil ?_
    refine WP.ret ?_
    exact Ret.mk (vs := [.int .i64 0, .bool false]) (0, false) ⟨rfl, rfl, trivial⟩ rfl hF
  · refine WP.cond_false _ rfl c1 ?_
    refine WP.skip ?_
    refine WP.seq ?_
    refine WP.region ?_
    refine EvK.pure (v := .int .i64 a1) (w_none rfl) rfl rfl (f_move rfl rfl) ?_
    refine EvK.pure (v := Sl.val r1) (w_none rfl) rfl rfl (f_move rfl rfl) ?_
    refine EvK.pure (v := .int .i64 (r1.len : Int)) (w_none rfl) rfl rfl (f_lenL (s := r1) Tryz.underlying51 rfl rfl) ?_
    obtain ⟨x1, hx1, hF⟩ := hF
    refine EvK.pure (v := .int .i64 x1) (w_none rfl) rfl rfl (f_rem rfl rfl rfl hx1) ?_
    refine EvK.pure (v := .int .i64 x1) (w_none rfl) rfl rfl (f_assign rfl rfl) ?_
    refine EvK.nil ?_
    refine WP.joinF (fun (s1 : Int) => [(7, .int .i64 s1), (6, Sl.val r1)]) hF ?_ ?_
    · intro s1 E0 h2 hF
      refine WP.seq ?_
      refine WP.region ?_
      refine EvK.pure (v := Sl.val r1) (w_none rfl) rfl rfl (f_move rfl rfl) ?_
      refine EvK.pure (v := .int .i64 s1) (w_none rfl) rfl rfl (f_move rfl rfl) ?_
      obtain ⟨q1, hq1, hF⟩ := hF
      refine EvK.pure (v := .pointer (some q1)) (w_none rfl) rfl rfl (f_indexAddr (s := r1) Tryz.underlying51 ty3.size rfl rfl rfl hq1) ?_
      obtain ⟨x2, hx2, hF⟩ := hF
      refine EvK.read (v := .int .i64 x2) (w_none rfl) rfl rfl (f_load (kI .i64) ty3 rfl rfl hx2 rfl) ?_
      refine EvK.pure (v := .int .i64 x2) (w_none rfl) rfl rfl (f_assign rfl rfl) ?_
      refine EvK.pure (v := .bool true) (w_none rfl) rfl rfl (f_assign rfl rfl) ?_
      refine EvK.nil ?_
      refine WP.ret ?_
      exact Ret.mk (vs := [.int .i64 x2, .bool true]) (x2, true) ⟨rfl, rfl, trivial⟩ rfl hF
    · intro k1 hF
      refine WP.seq ?_
      refine WP.region ?_
      refine EvK.pure (v := .int .i64 x1) (w_none rfl) rfl rfl (f_move rfl rfl) ?_
      refine EvK.pure (v := .bool (decide (x1 < 0))) (w_none rfl) rfl rfl (f_lss rfl rfl rfl) ?_
      refine EvK.nil ?_
      rcases ite_inv hF with ⟨c2, hF⟩ | ⟨c2, hF⟩
      · refine WP.cond_true _ rfl c2 ?_
        refine WP.region ?_
        refine EvK.pure (v := .int .i64 x1) (w_none rfl) rfl rfl (f_move rfl rfl) ?_
        refine EvK.pure (v := Sl.val r1) (w_none rfl) rfl rfl (f_move rfl rfl) ?_
        refine EvK.pure (v := .int .i64 (r1.len : Int)) (w_none rfl) rfl rfl (f_lenL (s := r1) Tryz.underlying51 rfl rfl) ?_
        refine EvK.pure (v := .int .i64 (IntKind.i64.wrap (x1 + (r1.len : Int)))) (w_none rfl) rfl rfl (f_add rfl rfl rfl) ?_
        refine EvK.pure (v := .int .i64 (IntKind.i64.wrap (x1 + (r1.len : Int)))) (w_none rfl) rfl rfl (f_assign rfl rfl) ?_
        refine EvK.nil ?_
        exact KE.mk (IntKind.i64.wrap (x1 + (r1.len : Int))) ⟨rfl, rfl, trivial⟩ hF
      · refine WP.cond_false _ rfl c2 ?_
        refine WP.skip ?_
        exact KE.mk x1 ⟨rfl, rfl, trivial⟩ hF
end Go.Proofs.YtomngllmnhdmlaaGreat
/- (*spate/spateref12.Sched).Pick, as a predicate over the heap, and that the code comes to it. Printed by gen.py. -/
namespace Go.Proofs.YtomngllmnhdmlaaGreat
open Go Go.Tr
set_option linter.unusedVariables false
set_option maxRecDepth 100000
set_option maxHeartbeats 400000
/-- (*spate/spateref12.Sched).Pick -/
def spateref12_Sched_Pick (a0 : Option Addr) (a1 : Int) (h : H) (Q : (Int × Bool) → H → Prop) : Prop :=
  spateref12_Sched_Choose a0 a1 h fun r1 h1 =>
  jn (fun (k1 : Unit → H → Prop) =>
    if r1.2 = true then
      spateref12_Sched_step a0 r1.1 h1 fun r2 h3 =>
      k1 () h3
    else
      k1 () h1) fun s1 h2 =>
  Q (r1.1, r1.2) h2
theorem spateref12_Sched_Pick.sound {a0 : Option Addr} {a1 : Int} {h : H} {Q : (Int × Bool) → H → Prop} (hF : spateref12_Sched_Pick a0 a1 h Q) :
    CallsH Tryz.prog 11 (List.toArray (α := Value) [.pointer a0, .int .i64 a1]) h fun v h' => ∃ x : Int × Bool, v = .tuple #[.int .i64 x.1, .bool x.2] ∧ Q x h' := by
  refine CallsH.of_body Tryz.func11 rfl 20 rfl rfl ?_
  refine WP.seq ?_
  refine WP.region ?_
  refine EvK.pure (v := .int .i64 0) (w_none rfl) rfl rfl (f_assign rfl rfl) ?_
  refine EvK.pure (v := .bool false) (w_none rfl) rfl rfl (f_assign rfl rfl) ?_
  refine EvK.nil ?_
  refine WP.seq ?_
  refine WP.region ?_
  refine EvK.pure (v := .pointer a0) (w_none rfl) rfl rfl (f_move rfl rfl) ?_
  refine EvK.pure (v := .int .i64 a1) (w_none rfl) rfl rfl (f_move rfl rfl) ?_
  refine EvK.call (w_none rfl) rfl rfl (enterH Tryz.func25 rfl rfl rfl rfl (spateref12_Sched_Choose.sound hF)) ?_
  rintro _ h1 ⟨r1, rfl, hF⟩
  refine EvK.pure (v := .tuple #[.int .i64 r1.1, .bool r1.2]) (w_none rfl) rfl rfl (f_move rfl rfl) ?_
  refine EvK.pure (v := .int .i64 r1.1) (w_none rfl) rfl rfl (f_extract (vs := #[.int .i64 r1.1, .bool r1.2]) rfl rfl rfl) ?_
  refine EvK.pure (v := .bool r1.2) (w_none rfl) rfl rfl (f_extract (vs := #[.int .i64 r1.1, .bool r1.2]) rfl rfl rfl) ?_
  refine EvK.pure (v := .int .i64 r1.1) (w_none rfl) rfl rfl (f_assign rfl rfl) ?_
  refine EvK.pure (v := .bool r1.2) (w_none rfl) rfl rfl (f_assign rfl rfl) ?_
  refine EvK.nil ?_
  refine WP.joinF (fun (s1 : Unit) => [(6, .int .i64 r1.1), (7, .bool r1.2)]) hF ?_ ?_
  · intro s1 E0 h2 hF
    refine WP.seq ?_
    refine WP.region ?_
    refine EvK.pure (v := .int .i64 r1.1) (w_none rfl) rfl rfl (f_move rfl rfl) ?_
    refine EvK.pure (v := .bool r1.2) (w_none rfl) rfl rfl (f_move rfl rfl) ?_
    refine EvK.pure (v := .int .i64 r1.1) (w_none rfl) rfl rfl (f_assign rfl rfl) ?_
    refine EvK.pure (v := .bool r1.2) (w_none rfl) rfl rfl (f_assign rfl rfl) ?_
    refine EvK.nil ?_
    refine WP.ret ?_
    exact Ret.mk (vs := [.int .i64 r1.1, .bool r1.2]) (r1.1, r1.2) ⟨rfl, rfl, trivial⟩ rfl hF
  · intro k1 hF
    refine WP.seq ?_
    refine WP.region ?_
    refine EvK.pure (v := .bool r1.2) (w_none rfl) rfl rfl (f_move rfl rfl) ?_
    refine EvK.nil ?_
    rcases ite_inv hF with ⟨c1, hF⟩ | ⟨c1, hF⟩
    · refine WP.cond_true _ rfl c1 ?_
      refine WP.region ?_
      refine EvK.pure (v := .pointer a0) (w_none rfl) rfl rfl (f_move rfl rfl) ?_
      refine EvK.pure (v := .int .i64 r1.1) (w_none rfl) rfl rfl (f_move rfl rfl) ?_
      refine EvK.call (w_none rfl) rfl rfl (enterH Tryz.func26 rfl rfl rfl rfl (spateref12_Sched_step.sound hF)) ?_
      rintro _ h3 ⟨r2, rfl, hF⟩
      refine EvK.nil ?_
      exact KE.mk () ⟨rfl, rfl, trivial⟩ hF
    · refine WP.cond_false _ rfl c1 ?_
      refine WP.skip ?_
      exact KE.mk () ⟨rfl, rfl, trivial⟩ hF
end Go.Proofs.YtomngllmnhdmlaaGreat
/- (*spate/spateref12.Sched).Round, as a predicate over the heap, and that the code comes to it. Printed by gen.py. -/
namespace Go.Proofs.YtomngllmnhdmlaaGreat
open Go Go.Tr
set_option linter.unusedVariables false
set_option maxRecDepth 100000
set_option maxHeartbeats 400000
def spateref12_Sched_Round.b1 (p0 : Option Addr) (p3 : Sl) (s : Int × Int) (h : H) (K : (Int × Int) ⊕ Int → H → Prop) : Prop :=
  if (decide (s.2 < (p3.len : Int))) = true then
    jn (fun (k2 : Int → H → Prop) =>
      rd p0 fun q1 =>
      rd (ld kL (q1.add 0) h) fun x1 =>
      rd (ixA 1 p3 s.2) fun q2 =>
      rd (ld (kI .i64) q2 h) fun x2 =>
      rd (ixA 6 x1 x2) fun q3 =>
      rd (ld (kI .i64) (q3.add 2) h) fun x3 =>
      if (x3 == 1) = true then
        rd (ixA 1 p3 s.2) fun q4 =>
        rd (ld (kI .i64) q4 h) fun x4 =>
        spateref12_Sched_step p0 x4 h fun r2 h4 =>
        k2 (IntKind.i64.wrap (s.1 + 1)) h4
      else
        k2 s.1 h) fun s2 h3 =>
    K (.inl (s2, IntKind.i64.wrap (s.2 + 1))) h3
  else
    K (.inr s.1) h
/-- (*spate/spateref12.Sched).Round -/
def spateref12_Sched_Round (a0 : Option Addr) (h : H) (Q : Int → H → Prop) : Prop :=
  spateref12_Sched_Ready a0 h fun r1 h1 =>
  jn (fun (k1 : Int → H → Prop) =>
    loopE (spateref12_Sched_Round.b1 a0 r1) (0, 0) h1 (fun r3 hh => k1 r3 hh)) fun s1 h2 =>
  Q s1 h2
theorem spateref12_Sched_Round.sound {a0 : Option Addr} {h : H} {Q : Int → H → Prop} (hF : spateref12_Sched_Round a0 h Q) :
    CallsH Tryz.prog 13 (List.toArray (α := Value) [.pointer a0]) h fun v h' => ∃ x : Int, v = .int .i64 x ∧ Q x h' := by
  refine CallsH.of_body Tryz.func13 rfl 35 rfl rfl ?_
  refine WP.seq ?_
  refine WP.region ?_
  refine EvK.pure (v := .int .i64 0) (w_none rfl) rfl rfl (f_assign rfl rfl) ?_
  refine EvK.nil ?_
  refine WP.seq ?_
  refine WP.region ?_
  refine EvK.pure (v := .pointer a0) (w_none rfl) rfl rfl (f_move rfl rfl) ?_
  refine EvK.call (w_none rfl) rfl rfl (enterH Tryz.func27 rfl rfl rfl rfl (spateref12_Sched_Ready.sound hF)) ?_
  rintro _ h1 ⟨r1, rfl, hF⟩
  refine EvK.pure (v := Sl.val r1) (w_none rfl) rfl rfl (f_assign rfl rfl) ?_
  refine EvK.nil ?_
  refine WP.seq ?_
  refine WP.region ?_
  refine EvK.pure (v := .int .i64 0) (w_none rfl) rfl rfl (f_assign rfl rfl) ?_
  refine EvK.nil ?_
  refine WP.joinF (fun (s1 : Int) => [(4, .int .i64 s1)]) hF ?_ ?_
  · intro s1 E0 h2 hF
    refine WP.seq ?_
    refine WP.region ?_
    refine EvK.pure (v := .int .i64 s1) (w_none rfl) rfl rfl (f_move rfl rfl) ?_
    refine EvK.pure (v := .int .i64 s1) (w_none rfl) rfl rfl (f_assign rfl rfl) ?_
    refine EvK.nil ?_
    refine WP.ret ?_
    exact Ret.mk (vs := [.int .i64 s1]) s1 ⟨rfl, trivial⟩ rfl hF
  · intro k1 hF
    refine WP.seq ?_
    refine WP.region ?_
    refine EvK.pure (v := .int .i64 0) (w_none rfl) rfl rfl (f_assign rfl rfl) ?_
    refine EvK.nil ?_
    refine WP.block ?_
    refine WP.loopF (fun (s2 : Int × Int) => [(4, .int .i64 s2.1), (5, .int .i64 s2.2), (0, .pointer a0), (3, Sl.val r1)]) hF ⟨rfl, rfl, rfl, rfl, trivial⟩ ?_
    intro k2 s2 E0 h3 hF
    refine WP.seq ?_
    refine WP.seq ?_
    refine WP.region ?_
    refine EvK.pure (v := .int .i64 s2.2) (w_none rfl) rfl rfl (f_move rfl rfl) ?_
    refine EvK.pure (v := Sl.val r1) (w_none rfl) rfl rfl (f_move rfl rfl) ?_
    refine EvK.pure (v := .int .i64 (r1.len : Int)) (w_none rfl) rfl rfl (f_lenL (s := r1) Tryz.underlying51 rfl rfl) ?_
    refine EvK.pure (v := .bool (decide (s2.2 < (r1.len : Int)))) (w_none rfl) rfl rfl (f_lss rfl rfl rfl) ?_
    refine EvK.nil ?_
    rcases ite_inv hF with ⟨c1, hF⟩ | ⟨c1, hF⟩
    · refine WP.cond_true _ rfl c1 ?_
      refine WP.skip ?_
      refine WP.joinF (fun (s3 : Int) => [(4, .int .i64 s3), (0, .pointer a0), (3, Sl.val r1), (5, .int .i64 s2.2)]) hF ?_ ?_
      · intro s3 E0 h4 hF
        refine WP.region ?_
        refine EvK.pure (v := .int .i64 s2.2) (w_none rfl) rfl rfl (f_move rfl rfl) ?_
        refine EvK.pure (v := .int .i64 (IntKind.i64.wrap (s2.2 + 1))) (w_none rfl) rfl rfl (f_add rfl rfl rfl) ?_
        refine EvK.pure (v := .int .i64 (IntKind.i64.wrap (s2.2 + 1))) (w_none rfl) rfl rfl (f_assign rfl rfl) ?_
        refine EvK.nil ?_
        exact KE.mk (s3, IntKind.i64.wrap (s2.2 + 1)) ⟨rfl, rfl, rfl, rfl, trivial⟩ hF
      · intro k3 hF
        refine WP.block ?_
        refine WP.seq ?_
        refine WP.draw mixed [.pure, .pure, .pure, .read, .pure, .pure, .pure, .read, .pure, .pure, .read, .pure] [[], [0], [0, 1], [0, 1, 2], [], [], [4, 5], [4, 5, 6], [0, 1, 2, 3, 4, 5, 6, 7], [0, 1, 2, 3, 4, 5, 6, 7, 8], [0, 1, 2, 3, 4, 5, 6, 7, 8, 9], [0, 1, 2, 3, 4, 5, 6, 7, 8, 9, 10]] [0, 1, 2, 3, 4, 5, 6, 7, 8, 9, 10, 11] (by kernel_rfl) (by kernel_rfl) ?_
        refine EvI.pure (v := .pointer a0) rfl rfl (w_none rfl) rfl (f_move rfl rfl) ?_
        obtain ⟨q1, hq1, hF⟩ := hF
        refine EvI.pure (v := .pointer (some q1)) rfl rfl (w_none rfl) rfl (f_nilCheck rfl (congrArg Value.pointer hq1)) ?_
        refine EvI.pure (v := .pointer (some (q1.add 0))) rfl rfl (w_none rfl) rfl (f_fieldAddr fd72_0 rfl rfl) ?_
        obtain ⟨x1, hx1, hF⟩ := hF
        refine EvI.read (v := Sl.val x1) rfl rfl (w_none rfl) rfl (f_load kL ty70 rfl rfl hx1 rfl) ?_
        refine EvI.pure (v := Sl.val r1) rfl rfl (w_none rfl) rfl (f_move rfl rfl) ?_
        refine EvI.pure (v := .int .i64 s2.2) rfl rfl (w_none rfl) rfl (f_move rfl rfl) ?_
        obtain ⟨q2, hq2, hF⟩ := hF
        refine EvI.pure (v := .pointer (some q2)) rfl rfl (w_none rfl) rfl (f_indexAddr (s := r1) Tryz.underlying51 ty3.size rfl rfl rfl hq2) ?_
        obtain ⟨x2, hx2, hF⟩ := hF
        refine EvI.read (v := .int .i64 x2) rfl rfl (w_none rfl) rfl (f_load (kI .i64) ty3 rfl rfl hx2 rfl) ?_
        obtain ⟨q3, hq3, hF⟩ := hF
        refine EvI.pure (v := .pointer (some q3)) rfl rfl (w_none rfl) rfl (f_indexAddr (s := x1) Tryz.underlying70 ty80.size rfl rfl rfl hq3) ?_
        refine EvI.pure (v := .pointer (some (q3.add 2))) rfl rfl (w_none rfl) rfl (f_fieldAddr fd80_2 rfl rfl) ?_
        obtain ⟨x3, hx3, hF⟩ := hF
        refine EvI.read (v := .int .i64 x3) rfl rfl (w_none rfl) rfl (f_load (kI .i64) ty3 rfl rfl hx3 rfl) ?_
        refine EvI.pure (v := .bool (x3 == 1)) rfl rfl (w_none rfl) rfl (f_eql rfl rfl rfl) ?_
        refine EvI.nil ?_
        rcases ite_inv hF with ⟨c2, hF⟩ | ⟨c2, hF⟩
        · refine WP.cond_true _ rfl c2 ?_
          refine WP.seq ?_
          refine WP.region ?_
          refine EvK.pure (v := .pointer a0) (w_none rfl) rfl rfl (f_move rfl rfl) ?_
          refine EvK.pure (v := Sl.val r1) (w_none rfl) rfl rfl (f_move rfl rfl) ?_
          refine EvK.pure (v := .int .i64 s2.2) (w_none rfl) rfl rfl (f_move rfl rfl) ?_
          obtain ⟨q4, hq4, hF⟩ := hF
          refine EvK.pure (v := .pointer (some q4)) (w_none rfl) rfl rfl (f_indexAddr (s := r1) Tryz.underlying51 ty3.size rfl rfl rfl hq4) ?_
          obtain ⟨x4, hx4, hF⟩ := hF
          refine EvK.read (v := .int .i64 x4) (w_none rfl) rfl rfl (f_load (kI .i64) ty3 rfl rfl hx4 rfl) ?_
          refine EvK.call (w_none rfl) rfl rfl (enterH Tryz.func26 rfl rfl rfl rfl (spateref12_Sched_step.sound hF)) ?_
          rintro _ h5 ⟨r2, rfl, hF⟩
          refine EvK.nil ?_
          refine WP.region ?_
          refine EvK.pure (v := .int .i64 s2.1) (w_none rfl) rfl rfl (f_move rfl rfl) ?_
          refine EvK.pure (v := .int .i64 (IntKind.i64.wrap (s2.1 + 1))) (w_none rfl) rfl rfl (f_add rfl rfl rfl) ?_
          refine EvK.pure (v := .int .i64 (IntKind.i64.wrap (s2.1 + 1))) (w_none rfl) rfl rfl (f_assign rfl rfl) ?_
          refine EvK.nil ?_
          exact KE.mk (IntKind.i64.wrap (s2.1 + 1)) ⟨rfl, rfl, rfl, rfl, trivial⟩ hF
        · refine WP.cond_false _ rfl c2 ?_
          refine WP.skip ?_
          exact KE.mk s2.1 ⟨rfl, rfl, rfl, rfl, trivial⟩ hF
    · refine WP.cond_false _ rfl c1 ?_
      refine WP.exit ?_
      exact KE.mk s2.1 ⟨rfl, trivial⟩ hF
end Go.Proofs.YtomngllmnhdmlaaGreat
/- (*spate/spateref12.Sched).State, as a predicate over the heap, and that the code comes to it. Printed by gen.py. -/
namespace Go.Proofs.YtomngllmnhdmlaaGreat
open Go Go.Tr
set_option linter.unusedVariables false
set_option maxRecDepth 100000
set_option maxHeartbeats 400000
/-- (*spate/spateref12.Sched).State -/
def spateref12_Sched_State (a0 : Option Addr) (a1 : Int) (h : H) (Q : Int → H → Prop) : Prop :=
  jn (fun (k1 : Bool → H → Prop) =>
    if (decide (a1 < 0)) = true then
      k1 true h
    else
      rd a0 fun q3 =>
      rd (ld kL (q3.add 0) h) fun x3 =>
      k1 (decide (a1 ≥ (x3.len : Int))) h) fun s1 h1 =>
  if s1 = true then
    Q 0 h1
  else
    rd a0 fun q1 =>
    rd (ld kL (q1.add 0) h1) fun x1 =>
    rd (ixA 6 x1 a1) fun q2 =>
    rd (ld (kI .i64) (q2.add 2) h1) fun x2 =>
    Q x2 h1
theorem spateref12_Sched_State.sound {a0 : Option Addr} {a1 : Int} {h : H} {Q : Int → H → Prop} (hF : spateref12_Sched_State a0 a1 h Q) :
    CallsH Tryz.prog 31 (List.toArray (α := Value) [.pointer a0, .int .i64 a1]) h fun v h' => ∃ x : Int, v = .int .i64 x ∧ Q x h' := by
  refine CallsH.of_body Tryz.func31 rfl 24 rfl rfl ?_
  refine WP.seq ?_
  refine WP.region ?_
  refine EvK.pure (v := .int .i64 0) (w_none rfl) rfl rfl (f_assign rfl rfl) ?_
  refine EvK.nil ?_
  refine WP.seq ?_
  refine WP.joinF (fun (s1 : Bool) => [(15, .bool s1), (0, .pointer a0), (1, .int .i64 a1)]) hF ?_ ?_
  · intro s1 E0 h1 hF
    rcases ite_inv hF with ⟨c1, hF⟩ | ⟨c1, hF⟩
    · refine WP.cond_true _ rfl c1 ?_
      refine WP.seq ?_
      refine WP.region ?_
      refine EvK.pure (v := .int .i64 0) (w_none rfl) rfl rfl (f_assign rfl rfl) ?_
      refine EvK.nil ?_
      refine WP.ret ?_
      exact Ret.mk (vs := [.int .i64 0]) 0 ⟨rfl, trivial⟩ rfl hF
    · refine WP.cond_false _ rfl c1 ?_
      refine WP.skip ?_
      refine WP.seq ?_
      refine WP.region ?_
      refine EvK.pure (v := .pointer a0) (w_none rfl) rfl rfl (f_move rfl rfl) ?_
      obtain ⟨q1, hq1, hF⟩ := hF
      refine EvK.pure (v := .pointer (some q1)) (w_none rfl) rfl rfl (f_nilCheck rfl (congrArg Value.pointer hq1)) ?_
      refine EvK.pure (v := .pointer (some (q1.add 0))) (w_none rfl) rfl rfl (f_fieldAddr fd72_0 rfl rfl) ?_
      obtain ⟨x1, hx1, hF⟩ := hF
      refine EvK.read (v := Sl.val x1) (w_none rfl) rfl rfl (f_load kL ty70 rfl rfl hx1 rfl) ?_
      refine EvK.pure (v := .int .i64 a1) (w_none rfl) rfl rfl (f_move rfl rfl) ?_
      obtain ⟨q2, hq2, hF⟩ := hF
      refine EvK.pure (v := .pointer (some q2)) (w_none rfl) rfl rfl (f_indexAddr (s := x1) Tryz.underlying70 ty80.size rfl rfl rfl hq2) ?_
      refine EvK.pure (v := .pointer (some (q2.add 2))) (w_none rfl) rfl rfl (f_fieldAddr fd80_2 rfl rfl) ?_
      obtain ⟨x2, hx2, hF⟩ := hF
      refine EvK.read (v := .int .i64 x2) (w_none rfl) rfl rfl (f_load (kI .i64) ty3 rfl rfl hx2 rfl) ?_
      refine EvK.pure (v := .int .i64 x2) (w_none rfl) rfl rfl (f_assign rfl rfl) ?_
      refine EvK.nil ?_
      refine WP.ret ?_
      exact Ret.mk (vs := [.int .i64 x2]) x2 ⟨rfl, trivial⟩ rfl hF
  · intro k1 hF
    refine WP.region ?_
    refine EvK.pure (v := .int .i64 a1) (w_none rfl) rfl rfl (f_move rfl rfl) ?_
    refine EvK.pure (v := .bool (decide (a1 < 0))) (w_none rfl) rfl rfl (f_lss rfl rfl rfl) ?_
    refine EvK.pure (v := .bool (decide (a1 < 0))) (w_none rfl) rfl rfl (f_move rfl rfl) ?_
    rcases ite_inv hF with ⟨c2, hF⟩ | ⟨c2, hF⟩
    · refine EvK.not (w_not rfl rfl c2) rfl rfl ?_
      refine EvK.not (w_not rfl rfl c2) rfl rfl ?_
      refine EvK.not (w_not rfl rfl c2) rfl rfl ?_
      refine EvK.not (w_not rfl rfl c2) rfl rfl ?_
      refine EvK.not (w_not rfl rfl c2) rfl rfl ?_
      refine EvK.not (w_not rfl rfl c2) rfl rfl ?_
      refine EvK.not (w_not rfl rfl c2) rfl rfl ?_
      refine EvK.pure (v := .bool true) (w_none rfl) rfl rfl (f_pickT rfl rfl c2 rfl) ?_
      refine EvK.nil ?_
      exact KE.mk true ⟨rfl, rfl, rfl, trivial⟩ hF
    · refine EvK.pure (v := .int .i64 a1) (w_some rfl rfl c2) rfl rfl (f_move rfl rfl) ?_
      refine EvK.pure (v := .pointer a0) (w_some rfl rfl c2) rfl rfl (f_move rfl rfl) ?_
      obtain ⟨q3, hq3, hF⟩ := hF
      refine EvK.pure (v := .pointer (some q3)) (w_some rfl rfl c2) rfl rfl (f_nilCheck rfl (congrArg Value.pointer hq3)) ?_
      refine EvK.pure (v := .pointer (some (q3.add 0))) (w_some rfl rfl c2) rfl rfl (f_fieldAddr fd72_0 rfl rfl) ?_
      obtain ⟨x3, hx3, hF⟩ := hF
      refine EvK.read (v := Sl.val x3) (w_some rfl rfl c2) rfl rfl (f_load kL ty70 rfl rfl hx3 rfl) ?_
      refine EvK.pure (v := .int .i64 (x3.len : Int)) (w_some rfl rfl c2) rfl rfl (f_lenL (s := x3) Tryz.underlying70 rfl rfl) ?_
      refine EvK.pure (v := .bool (decide (a1 ≥ (x3.len : Int)))) (w_some rfl rfl c2) rfl rfl (f_geq rfl rfl rfl) ?_
      refine EvK.pure (v := .bool (decide (a1 ≥ (x3.len : Int)))) (w_none rfl) rfl rfl (f_pickF rfl rfl c2 rfl) ?_
      refine EvK.nil ?_
      exact KE.mk (decide (a1 ≥ (x3.len : Int))) ⟨rfl, rfl, rfl, trivial⟩ hF
end Go.Proofs.YtomngllmnhdmlaaGreat
/- (*spate/spateref12.Sched).Fault, as a predicate over the heap, and that the code comes to it. Printed by gen.py. -/
namespace Go.Proofs.YtomngllmnhdmlaaGreat
open Go Go.Tr
set_option linter.unusedVariables false
set_option maxRecDepth 100000
set_option maxHeartbeats 400000
/-- (*spate/spateref12.Sched).Fault -/
def spateref12_Sched_Fault (a0 : Option Addr) (a1 : Int) (h : H) (Q : Int → H → Prop) : Prop :=
  jn (fun (k1 : Bool → H → Prop) =>
    if (decide (a1 < 0)) = true then
      k1 true h
    else
      rd a0 fun q3 =>
      rd (ld kL (q3.add 0) h) fun x3 =>
      k1 (decide (a1 ≥ (x3.len : Int))) h) fun s1 h1 =>
  if s1 = true then
    Q 0 h1
  else
    rd a0 fun q1 =>
    rd (ld kL (q1.add 0) h1) fun x1 =>
    rd (ixA 6 x1 a1) fun q2 =>
    rd (ld (kI .i64) (q2.add 4) h1) fun x2 =>
    Q x2 h1
theorem spateref12_Sched_Fault.sound {a0 : Option Addr} {a1 : Int} {h : H} {Q : Int → H → Prop} (hF : spateref12_Sched_Fault a0 a1 h Q) :
    CallsH Tryz.prog 34 (List.toArray (α := Value) [.pointer a0, .int .i64 a1]) h fun v h' => ∃ x : Int, v = .int .i64 x ∧ Q x h' := by
  refine CallsH.of_body Tryz.func34 rfl 24 rfl rfl ?_
  refine WP.seq ?_
  refine WP.region ?_
  refine EvK.pure (v := .int .i64 0) (w_none rfl) rfl rfl (f_assign rfl rfl) ?_
  refine EvK.nil ?_
  refine WP.seq ?_
  refine WP.joinF (fun (s1 : Bool) => [(15, .bool s1), (0, .pointer a0), (1, .int .i64 a1)]) hF ?_ ?_
  · intro s1 E0 h1 hF
    rcases ite_inv hF with ⟨c1, hF⟩ | ⟨c1, hF⟩
    · refine WP.cond_true _ rfl c1 ?_
      refine WP.seq ?_
      refine WP.region ?_
      refine EvK.pure (v := .int .i64 0) (w_none rfl) rfl rfl (f_assign rfl rfl) ?_
      refine EvK.nil ?_
      refine WP.ret ?_
      exact Ret.mk (vs := [.int .i64 0]) 0 ⟨rfl, trivial⟩ rfl hF
    · refine WP.cond_false _ rfl c1 ?_
      refine WP.skip ?_
      refine WP.seq ?_
      refine WP.region ?_
      refine EvK.pure (v := .pointer a0) (w_none rfl) rfl rfl (f_move rfl rfl) ?_
      obtain ⟨q1, hq1, hF⟩ := hF
      refine EvK.pure (v := .pointer (some q1)) (w_none rfl) rfl rfl (f_nilCheck rfl (congrArg Value.pointer hq1)) ?_
      refine EvK.pure (v := .pointer (some (q1.add 0))) (w_none rfl) rfl rfl (f_fieldAddr fd72_0 rfl rfl) ?_
      obtain ⟨x1, hx1, hF⟩ := hF
      refine EvK.read (v := Sl.val x1) (w_none rfl) rfl rfl (f_load kL ty70 rfl rfl hx1 rfl) ?_
      refine EvK.pure (v := .int .i64 a1) (w_none rfl) rfl rfl (f_move rfl rfl) ?_
      obtain ⟨q2, hq2, hF⟩ := hF
      refine EvK.pure (v := .pointer (some q2)) (w_none rfl) rfl rfl (f_indexAddr (s := x1) Tryz.underlying70 ty80.size rfl rfl rfl hq2) ?_
      refine EvK.pure (v := .pointer (some (q2.add 4))) (w_none rfl) rfl rfl (f_fieldAddr fd80_4 rfl rfl) ?_
      obtain ⟨x2, hx2, hF⟩ := hF
      refine EvK.read (v := .int .i64 x2) (w_none rfl) rfl rfl (f_load (kI .i64) ty3 rfl rfl hx2 rfl) ?_
      refine EvK.pure (v := .int .i64 x2) (w_none rfl) rfl rfl (f_assign rfl rfl) ?_
      refine EvK.nil ?_
      refine WP.ret ?_
      exact Ret.mk (vs := [.int .i64 x2]) x2 ⟨rfl, trivial⟩ rfl hF
  · intro k1 hF
    refine WP.region ?_
    refine EvK.pure (v := .int .i64 a1) (w_none rfl) rfl rfl (f_move rfl rfl) ?_
    refine EvK.pure (v := .bool (decide (a1 < 0))) (w_none rfl) rfl rfl (f_lss rfl rfl rfl) ?_
    refine EvK.pure (v := .bool (decide (a1 < 0))) (w_none rfl) rfl rfl (f_move rfl rfl) ?_
    rcases ite_inv hF with ⟨c2, hF⟩ | ⟨c2, hF⟩
    · refine EvK.not (w_not rfl rfl c2) rfl rfl ?_
      refine EvK.not (w_not rfl rfl c2) rfl rfl ?_
      refine EvK.not (w_not rfl rfl c2) rfl rfl ?_
      refine EvK.not (w_not rfl rfl c2) rfl rfl ?_
      refine EvK.not (w_not rfl rfl c2) rfl rfl ?_
      refine EvK.not (w_not rfl rfl c2) rfl rfl ?_
      refine EvK.not (w_not rfl rfl c2) rfl rfl ?_
      refine EvK.pure (v := .bool true) (w_none rfl) rfl rfl (f_pickT rfl rfl c2 rfl) ?_
      refine EvK.nil ?_
      exact KE.mk true ⟨rfl, rfl, rfl, trivial⟩ hF
    · refine EvK.pure (v := .int .i64 a1) (w_some rfl rfl c2) rfl rfl (f_move rfl rfl) ?_
      refine EvK.pure (v := .pointer a0) (w_some rfl rfl c2) rfl rfl (f_move rfl rfl) ?_
      obtain ⟨q3, hq3, hF⟩ := hF
      refine EvK.pure (v := .pointer (some q3)) (w_some rfl rfl c2) rfl rfl (f_nilCheck rfl (congrArg Value.pointer hq3)) ?_
      refine EvK.pure (v := .pointer (some (q3.add 0))) (w_some rfl rfl c2) rfl rfl (f_fieldAddr fd72_0 rfl rfl) ?_
      obtain ⟨x3, hx3, hF⟩ := hF
      refine EvK.read (v := Sl.val x3) (w_some rfl rfl c2) rfl rfl (f_load kL ty70 rfl rfl hx3 rfl) ?_
      refine EvK.pure (v := .int .i64 (x3.len : Int)) (w_some rfl rfl c2) rfl rfl (f_lenL (s := x3) Tryz.underlying70 rfl rfl) ?_
      refine EvK.pure (v := .bool (decide (a1 ≥ (x3.len : Int)))) (w_some rfl rfl c2) rfl rfl (f_geq rfl rfl rfl) ?_
      refine EvK.pure (v := .bool (decide (a1 ≥ (x3.len : Int)))) (w_none rfl) rfl rfl (f_pickF rfl rfl c2 rfl) ?_
      refine EvK.nil ?_
      exact KE.mk (decide (a1 ≥ (x3.len : Int))) ⟨rfl, rfl, rfl, trivial⟩ hF
end Go.Proofs.YtomngllmnhdmlaaGreat
/- The document's scheduler with its moves, as one part; its calls. -/
namespace Go.Proofs.YtomngllmnhdmlaaGreat
open Go Go.Tr
set_option linter.unusedVariables false
def rowsZ (rows : List MR) : Prop := rowsOk rows ∧ ∀ r ∈ rows, r.l.length ≤ 8796093022080
def rOkZ (W : WS) : Prop := ∀ p ∈ W.2, rowsZ p.rows
def rfP (q : Nat) (W : WS) : HP := HP.ex fun w : (Nat × Sl) × List RE => HP.and (w.2.map Prod.fst = W.1.ts ∧ w.2.map Prod.snd = W.2 ∧ rOkZ W) (HP.all (rfX q w.1.1 W.1.m w.1.2 (w.2.map trow) ++ [mvsP (lm W.2)]))
section
variable {F0 : Nat → Prop} {h0 h : H} {q mb : Nat} {W : WS} {ts : Sl} {es : List RE} {B N n : Nat} {Rs Ps : List HP}
theorem rf_open (S : SG F0 h0 h (rfP q W :: Rs)) : ∃ (mb : Nat) (ts : Sl) (es : List RE), es.map Prod.fst = W.1.ts ∧ es.map Prod.snd = W.2 ∧ rOkZ W ∧ SG F0 h0 h (rfX q mb W.1.m ts (es.map trow) ++ (mvsP (lm W.2) :: Rs)) := by
  obtain ⟨⟨⟨mb, ts⟩, es⟩, S⟩ := S.unex
  obtain ⟨⟨e1, e2, r⟩, S⟩ := S.unand
  exact ⟨mb, ts, es, e1, e2, r, S.flat⟩
theorem rf_close (e1 : es.map Prod.fst = W.1.ts) (e2 : es.map Prod.snd = W.2) (r : rOkZ W) (S : SG F0 h0 h (rfX q mb W.1.m ts (es.map trow) ++ (mvsP (lm W.2) :: Rs))) : SG F0 h0 h (rfP q W :: Rs) :=
  SG.toex ((mb, ts), es) (SG.toand ⟨e1, e2, r⟩ (SG.fold (rfX q mb W.1.m ts (es.map trow) ++ [mvsP (lm W.2)]) S))
theorem rOkZ_step (r : rOkZ W) (n : Nat) : rOkZ (W.step n) := fun p hp => by
  obtain ⟨y, hy, _, e⟩ := mem_bump hp
  rw [← e]; exact r y hy
theorem es_len (e1 : es.map Prod.fst = W.1.ts) : es.length = W.1.ts.length := by rw [← e1, List.length_map]
theorem rf_step (o : W.Ok B N) (hB : B ≤ 80000000) (hN : N ≤ 1000000000000) (hn : n < W.2.length) (S : SG F0 h0 h (rfP q W :: Rs)) {Q : Unit → H → Prop} (k : ∀ h', SG F0 h0 h' (rfP q (W.step n) :: Rs) → Q () h') : spateref12_Sched_step (some ⟨q, 0, none⟩) (n : Int) h Q := by
  obtain ⟨mb, ts, es, e1, e2, r, S⟩ := rf_open S
  have hes := es_len e1
  have hne : n < es.length := by rw [hes, o.l]; exact hn
  have hp : es[n].2 = W.2[n] := by
    have h1 : (es.map Prod.snd)[n]? = W.2[n]? := by rw [e2]
    rw [List.getElem?_map, List.getElem?_eq_getElem hne, List.getElem?_eq_getElem hn] at h1
    simpa using h1
  have hX : Xok (mvsP (lm W.2)) W.2 := mvs_ok fun p hp => (r p hp).1
  have hnx := o.x _ (List.getElem_mem hn)
  unfold spateref12_Sched_step
  refine S.cell (K := kMv) (x := ⟨5, Sl.nil, 0, Sl.nil⟩) fun c h2 S2 _ => ?_
  have S2 : SG F0 h0 h2 (rfX q mb W.1.m ts (es.map trow) ++ (varP kMv c ⟨5, Sl.nil, 0, Sl.nil⟩ :: mvsP (lm W.2) :: Rs)) := S2.perm (List.perm_middle (l₁ := rfX q mb W.1.m ts (es.map trow))).symm
  obtain ⟨F1, pX, _⟩ := S2.at 4 rfl
  have MR0 := hX h2 F1 pX _ (List.getElem_mem hn)
  have hml := MR0.r.len
  rw [List.length_map] at hml
  have hat := at_tr (es := es) hne
  have t0 : (trow es[n]).f0 = W.2[n].sl := by rw [← hp]; rfl
  have t1 : (trow es[n]).f1 = (W.2[n].nx : Int) := by rw [← hp]; rfl
  refine jn_q (fun (_ : Unit) h' => SG F0 h0 h' (rfX q mb W.1.m ts (es.map trow) ++ (varP kMv c (curR W.2[n].rows W.2[n].nx).v :: mvsP (lm W.2) :: Rs))) (fun K hK => rts S2 (rget ft_nx S2 hat (rts S2 (rget ft_ms S2 hat ?_)))) ?_
  · rw [t0, t1]
    refine ite_b (fun d => ?_) (fun d => ?_)
    · have d : W.2[n].nx < W.2[n].rows.length := by rw [decide_eq_true_eq] at d; omega
      refine rts S2 (rget ft_ms S2 hat (rts S2 (rget ft_nx S2 hat ?_)))
      rw [t0, t1]
      refine MR0.r.elt0 (i := W.2[n].nx) (by rw [List.length_map]; exact d) rfl ?_
      rw [List.getElem_map]
      obtain ⟨h7, hs, S7, _⟩ := varP.st S2 (Fld.whole kMv) 3 rfl W.2[n].rows[W.2[n].nx].v
      refine rd_some hs (hK () h7 ?_)
      have e : curR W.2[n].rows W.2[n].nx = W.2[n].rows[W.2[n].nx] := by unfold curR; rw [List.getD_eq_getElem?_getD, List.getElem?_eq_getElem d]; rfl
      rw [e]; exact S7
    · have d : ¬ W.2[n].nx < W.2[n].rows.length := by rw [decide_eq_false_iff_not] at d; omega
      refine hK () h2 ?_
      have e : curR W.2[n].rows W.2[n].nx = endR := by unfold curR; rw [List.getD_eq_getElem?_getD, List.getElem?_eq_none (by omega)]; rfl
      rw [e]; exact S2
  rintro _ h3 S3
  have hw : IntKind.i64.wrap ((W.2[n].nx : Int) + 1) = ((W.2[n].nx + 1 : Nat) : Int) := by rw [wrap64_id (by omega) (by omega)]; rfl
  refine rts S3 (rget ft_nx S3 hat (rset ft_nx S3 hat _ fun h4 S4 => ?_))
  rw [t1, hw] at S4
  have S4 : SG F0 h0 h4 (rfX q mb W.1.m ts ((es.map trow).set n { trow es[n] with f1 := ((W.2[n].nx + 1 : Nat) : Int) }) ++ (varP kMv c (curR W.2[n].rows W.2[n].nx).v :: mvsP (lm W.2) :: Rs)) := S4
  have hat4 : ((es.map trow).set n { trow es[n] with f1 := ((W.2[n].nx + 1 : Nat) : Int) })[n]? = some { trow es[n] with f1 := ((W.2[n].nx + 1 : Nat) : Int) } := by rw [List.getElem?_set_self (by simpa using hne)]
  have t5 : ({ trow es[n] with f1 := ((W.2[n].nx + 1 : Nat) : Int) } : RTask).f5 = (W.2[n].nx : Int) := by rw [← hp]; rfl
  refine rts S4 (rget ft_sp S4 hat4 (rset ft_sp S4 hat4 _ fun h5 S5 => ?_))
  rw [t5, hw, List.set_set] at S5
  have er : ({ ({ trow es[n] with f1 := ((W.2[n].nx + 1 : Nat) : Int) } : RTask) with f5 := ((W.2[n].nx + 1 : Nat) : Int) } : RTask) = trow (es[n].1, es[n].2.up) := by
    rw [← hp]; rfl
  have S5 : SG F0 h0 h5 (rfX q mb W.1.m ts ((es.map trow).set n ({ ({ trow es[n] with f1 := ((W.2[n].nx + 1 : Nat) : Int) } : RTask) with f5 := ((W.2[n].nx + 1 : Nat) : Int) } : RTask)) ++ (varP kMv c (curR W.2[n].rows W.2[n].nx).v :: mvsP (lm W.2) :: Rs)) := S5
  rw [er, set_tr] at S5
  have g1 : (es.set n (es[n].1, es[n].2.up)).map Prod.fst = W.1.ts := by
    rw [← e1, List.map_set]
    apply List.ext_getElem?
    intro i
    by_cases ci : n = i
    · subst ci; rw [List.getElem?_set_self (by simpa using hne), List.getElem?_map, List.getElem?_eq_getElem hne]; rfl
    · rw [List.getElem?_set_ne ci]
  have g2 : (es.set n (es[n].1, es[n].2.up)).map Prod.snd = bump W.2 n := by
    rw [List.map_set, e2, modify_setP hn, hp]
  have hl2 : n < (es.set n (es[n].1, es[n].2.up)).length := by rw [List.length_set]; exact hne
  generalize es.set n (es[n].1, es[n].2.up) = es2 at S5 g1 g2 hl2
  refine rd_some (varP.ld S5 (Fld.whole kMv) 3 rfl) ?_
  have hcl : (curR W.2[n].rows W.2[n].nx).l.length ≤ 8796093022080 := by
    unfold curR
    rw [List.getD_eq_getElem?_getD]
    cases hg : W.2[n].rows[W.2[n].nx]? with
    | none => show 0 ≤ _; omega
    | some y => exact (r _ (List.getElem_mem hn)).2 _ (List.mem_of_getElem? hg)
  have hA : AS.mk W.1.m (es2.map Prod.fst) = W.1 := by rw [g1]
  refine rdo_spec (v := (curR W.2[n].rows W.2[n].nx).v) (l := (curR W.2[n].rows W.2[n].nx).l) (w := (curR W.2[n].rows W.2[n].nx).w) hl2 (by rw [hA]; exact o.a) hB 1 (X := mvsP (lm W.2)) rfl (fun h F p => ?_) hcl (by have := (MR0.cur W.2[n].nx).2.2.2; omega) S5 fun es' h6 b1 b2 S6 => k h6 ?_
  · have := (hX h F p _ (List.getElem_mem hn)).cur W.2[n].nx
    exact ⟨this.1, this.2.1⟩
  · have hmv : (⟨(curR W.2[n].rows W.2[n].nx).v.f0, (curR W.2[n].rows W.2[n].nx).l, (curR W.2[n].rows W.2[n].nx).v.f2, (curR W.2[n].rows W.2[n].nx).w⟩ : MV) = mvAtL W.2 n := by rw [mvAtL_eq hn]; rfl
    rw [hA, hmv] at b1 S6
    refine rf_close (mb := mb) (ts := ts) (W := W.step n) (es := es') b1 (b2.trans g2) (rOkZ_step r n) ?_
    have el : lm (W.step n).2 = lm W.2 := lm_bump W.2 n
    rw [el]
    exact (S6.perm (List.perm_middle (l₁ := rfX q mb (W.1.step n (mvAtL W.2 n)).m ts (es'.map trow)))).tail
theorem rf_ready (o : W.Ok B N) (S : SG F0 h0 h (rfP q W :: Rs)) {Q : Sl → H → Prop} (k : ∀ s h', SG F0 h0 h' (ownP (kI .i64) s (readyT W.1.ts) :: rfP q W :: Rs) → Q s h') : spateref12_Sched_Ready (some ⟨q, 0, none⟩) h Q := by
  obtain ⟨mb, ts, es, e1, e2, r, S⟩ := rf_open S
  have hes := es_len e1
  have hn : W.1.ts.length ≤ 400 := o.a.n
  refine rready_spec S (by omega) fun s h' S' => k s h' ?_
  rw [e1] at S'
  have S2 : SG F0 h0 h' (rfX q mb W.1.m ts (es.map trow) ++ (mvsP (lm W.2) :: ownP (kI .i64) s (readyT W.1.ts) :: Rs)) := S'.perm ((List.perm_middle (l₁ := rfX q mb W.1.m ts (es.map trow))).symm.trans (List.Perm.append_left _ (List.Perm.swap _ _ _)))
  exact (rf_close e1 e2 r S2).swap
theorem rf_wake (o : W.Ok B N) (on : Int) (S : SG F0 h0 h (rfP q W :: Rs)) {Q : Int → H → Prop} (k : ∀ h', SG F0 h0 h' (rfP q (W.wake on) :: Rs) → Q (wakeN W.1.ts on : Nat) h') : spateref12_Sched_Wake (some ⟨q, 0, none⟩) on h Q := by
  obtain ⟨mb, ts, es, e1, e2, r, S⟩ := rf_open S
  have hes := es_len e1
  have hn : W.1.ts.length ≤ 400 := o.a.n
  refine rwake_spec S (by omega) on fun h' S' => ?_
  rw [e1]
  exact k h' (rf_close (W := W.wake on) (es := es.map (wkR on)) (by rw [wkR_fst, e1]; rfl) (by rw [wkR_snd, e2]; rfl) r S')
theorem rf_pick (o : W.Ok B N) (hB : B ≤ 80000000) (hN : N ≤ 1000000000000) (n : Int) (S : SG F0 h0 h (rfP q W :: Rs)) {Q : (Int × Bool) → H → Prop}
    (k0 : readyT W.1.ts = [] → ∀ h', SG F0 h0 h' (rfP q W :: Rs) → Q (0, false) h')
    (k1 : ∀ t : Nat, t < W.2.length → (readyT W.1.ts)[pickI n (readyT W.1.ts).length]? = some (t : Int) → ∀ h', SG F0 h0 h' (rfP q (W.step t) :: Rs) → Q ((t : Int), true) h') :
    spateref12_Sched_Pick (some ⟨q, 0, none⟩) n h Q := by
  unfold spateref12_Sched_Pick spateref12_Sched_Choose
  have hn : W.1.ts.length ≤ 400 := o.a.n
  refine rf_ready o S fun s h1 S1 => ?_
  have hs := ownP.len (K := kI .i64) S1 0 rfl
  have hrl : (readyT W.1.ts).length ≤ W.1.ts.length := readyTo_len _ _
  refine ite_b (fun c => ?_) (fun c => ?_)
  · have hz : readyT W.1.ts = [] := by
      rw [beq_iff_eq] at c
      exact List.length_eq_zero_iff.1 (by omega)
    exact jn_c' () h1 (fun K hK => ite_f rfl hK) (k0 hz h1 S1.tail)
  · have hpos : 0 < (readyT W.1.ts).length := by
      rw [beq_eq_false_iff_ne] at c
      omega
    obtain ⟨r, hr, hp⟩ := rem_pick (n := n) hpos (by omega)
    rw [hs]
    refine rd_some hr ?_
    have hpl := pickI_lt (n := n) hpos
    obtain ⟨t, ht, htl, hst⟩ := readyT_mem (List.getElem_mem hpl)
    have htL : t < W.2.length := by rw [← o.l]; exact htl
    refine jn_c (pickI n (readyT W.1.ts).length : Int) h1 (fun K1 hK => ite_b (fun c2 => ?_) (fun c2 => ?_)) ?_
    · have c2 : r < 0 := by rw [decide_eq_true_eq] at c2; exact c2
      rw [if_pos c2] at hp
      rw [hp]; exact hK
    · have c2 : ¬ r < 0 := by rw [decide_eq_false_iff_not] at c2; exact c2
      rw [if_neg c2] at hp
      rw [hp]; exact hK
    refine (ownP.rds (K := kI .i64) S1 0 rfl).elt0 hpl rfl ?_
    rw [ht]
    refine jn_q (fun (_ : Unit) h' => SG F0 h0 h' (rfP q (W.step t) :: Rs)) (fun K hK => ite_t rfl (rf_step o hB hN htL S1.tail fun h2 S2 => hK () h2 S2)) fun _ h2 S2 => k1 t htL (by rw [List.getElem?_eq_getElem hpl, ht]) h2 S2
theorem rf_round (o : W.Ok B N) (hB : B ≤ 79000000) (hN : N ≤ 900000000000) (S : SG F0 h0 h (rfP q W :: Rs)) {Q : Int → H → Prop}
    (k : ∀ h', SG F0 h0 h' (rfP q (roundW W).1 :: Rs) → Q ((roundW W).2 : Nat) h') : spateref12_Sched_Round (some ⟨q, 0, none⟩) h Q := by
  unfold spateref12_Sched_Round
  have hn : W.1.ts.length ≤ 400 := o.a.n
  refine rf_ready o S fun s h1 S1 => ?_
  have hs := ownP.len (K := kI .i64) S1 0 rfl
  have hrl : (readyT W.1.ts).length ≤ W.1.ts.length := readyTo_len _ _
  refine jn_i (for0 (mk := fun (c : Int) i => (c, i)) (s := (0 : Int)) (n := (readyT W.1.ts).length) (by omega) (fun j c h' => c = ((((readyT W.1.ts).take j).foldl rstep (W, 0)).2 : Nat) ∧ SG F0 h0 h' (rfP q (((readyT W.1.ts).take j).foldl rstep (W, 0)).1 :: ownP (kI .i64) s (readyT W.1.ts) :: Rs)) ⟨rfl, S1.swap⟩ (fun j c h' K hj hI next done => ?_) (fun c h' K hI done => ?_))
  · obtain ⟨rfl, S2⟩ := hI
    have ok := rfold_ok ((readyT W.1.ts).take j) (W, 0) _ _ o
    have hlk := rfold_len ((readyT W.1.ts).take j) (W, 0)
    have hcn := rfold_n ((readyT W.1.ts).take j) (W, 0)
    have htk : ((readyT W.1.ts).take j).length ≤ 400 := by simp; omega
    have hstep : ((readyT W.1.ts).take (j + 1)).foldl rstep (W, 0) = rstep (((readyT W.1.ts).take j).foldl rstep (W, 0)) (readyT W.1.ts)[j] := by
      rw [List.take_add_one, List.getElem?_eq_getElem hj, Option.toList_some, List.foldl_append]; rfl
    rw [hstep] at next
    have okw : (((readyT W.1.ts).take j).foldl rstep (W, 0)).1.Ok (B + 400) (N + 400) := ok.mono (by omega) (by omega)
    generalize ((readyT W.1.ts).take j).foldl rstep (W, 0) = w at S2 okw hlk hcn next
    obtain ⟨V, cc⟩ := w
    have hcn : cc ≤ 0 + ((readyT W.1.ts).take j).length := hcn
    have hlk : V.1.ts.length = W.1.ts.length := hlk
    obtain ⟨t, ht, htl, _⟩ := readyT_mem (List.getElem_mem hj)
    have htV : t < V.1.ts.length := by omega
    unfold spateref12_Sched_Round.b1
    have S2 : SG F0 h0 h' (rfP q V :: ownP (kI .i64) s (readyT W.1.ts) :: Rs) := S2
    refine ite_t (by rw [hs]; exact clt_t hj) (jn_q (fun (c : Int) h2 => c = ((rstep (V, cc) (readyT W.1.ts)[j]).2 : Nat) ∧ SG F0 h0 h2 (rfP q (rstep (V, cc) (readyT W.1.ts)[j]).1 :: ownP (kI .i64) s (readyT W.1.ts) :: Rs)) (fun K2 hK2 => ?_) fun c h2 hI => next c h2 hI)
    obtain ⟨mb, ts, es, e1, e2, r, S3⟩ := rf_open S2
    have hes := es_len e1
    have hte : t < es.length := by omega
    have R := ownP.rds (K := kI .i64) S3 4 rfl
    refine rts S3 (R.elt0 hj rfl ?_)
    rw [ht] at hK2 ⊢
    unfold rstep at hK2
    simp only [Int.toNat_natCast] at hK2
    refine rget ft_st S3 (at_tr hte) ?_
    have hst : ((trow es[t]).f2 == 1) = rdyB V.1.ts t := by
      unfold rdyB
      rw [← e1, List.getElem?_map, List.getElem?_eq_getElem hte]; rfl
    rw [hst]
    refine ite_b (fun d => R.elt0 hj rfl ?_) (fun d => ?_)
    · simp only [d, if_true] at hK2
      rw [ht]
      refine rf_step okw (by omega) (by omega) (n := t) (by show t < V.2.length; have h1 : V.1.ts.length = V.2.length := okw.l; omega) S2 fun h2 S4 => hK2 _ h2 ⟨?_, S4⟩
      have hcc : cc ≤ 400 := by omega
      show IntKind.i64.wrap ((cc : Int) + 1) = ((cc + 1 : Nat) : Int)
      rw [wrap64_id (by omega) (by omega)]; rfl
    · simp only [d, Bool.false_eq_true, if_false] at hK2
      exact hK2 _ h' ⟨rfl, S2⟩
  · obtain ⟨rfl, S2⟩ := hI
    unfold spateref12_Sched_Round.b1
    rw [List.take_length] at S2 ⊢
    exact ite_f (by rw [hs]; exact clt_f (Nat.lt_irrefl _)) (done _ _ (k h' S2.swap.tail))
theorem rf_state (o : W.Ok B N) (t : Int) (S : SG F0 h0 h (rfP q W :: Rs)) {Q : Int → H → Prop} (k : Q (stAt W.1.ts t) h) : spateref12_Sched_State (some ⟨q, 0, none⟩) t h Q := by
  obtain ⟨mb, ts, es, e1, e2, r, S⟩ := rf_open S
  have hes := es_len e1
  have hlen := rlen S
  have hn : W.1.ts.length ≤ 400 := o.a.n
  unfold spateref12_Sched_State
  by_cases hin : 0 ≤ t ∧ t < (es.length : Int)
  · obtain ⟨n, rfl⟩ : ∃ n : Nat, t = n := ⟨t.toNat, by omega⟩
    have hne : n < es.length := by omega
    refine jn_c' false h (fun K hK => ite_f (by rw [decide_eq_false_iff_not]; omega) (rts S ?_)) (ite_f rfl (rts S (rget ft_st S (at_tr hne) ?_)))
    · have e : decide ((n : Int) ≥ (ts.len : Int)) = false := by rw [decide_eq_false_iff_not]; omega
      rw [e]; exact hK
    · have e : (trow es[n]).f2 = stAt W.1.ts (n : Int) := by
        unfold stAt
        rw [if_neg (by omega), Int.toNat_natCast, ← e1, List.getElem?_map, List.getElem?_eq_getElem hne]; rfl
      rw [e]; exact k
  · have e : stAt W.1.ts t = 0 := by
      unfold stAt
      split
      · rfl
      · rw [List.getElem?_eq_none (by omega)]
    rw [e] at k
    refine jn_c' true h (fun K hK => ite_b (fun c => hK) (fun c => rts S ?_)) (ite_t rfl k)
    rw [decide_eq_false_iff_not] at c
    have e : decide (t ≥ (ts.len : Int)) = true := by rw [decide_eq_true_eq]; omega
    rw [e]; exact hK
theorem rf_fault (o : W.Ok B N) (t : Int) (S : SG F0 h0 h (rfP q W :: Rs)) {Q : Int → H → Prop} (k : Q (flAt W.1.ts t) h) : spateref12_Sched_Fault (some ⟨q, 0, none⟩) t h Q := by
  obtain ⟨mb, ts, es, e1, e2, r, S⟩ := rf_open S
  have hes := es_len e1
  have hlen := rlen S
  have hn : W.1.ts.length ≤ 400 := o.a.n
  unfold spateref12_Sched_Fault
  by_cases hin : 0 ≤ t ∧ t < (es.length : Int)
  · obtain ⟨n, rfl⟩ : ∃ n : Nat, t = n := ⟨t.toNat, by omega⟩
    have hne : n < es.length := by omega
    refine jn_c' false h (fun K hK => ite_f (by rw [decide_eq_false_iff_not]; omega) (rts S ?_)) (ite_f rfl (rts S (rget ft_fl S (at_tr hne) ?_)))
    · have e : decide ((n : Int) ≥ (ts.len : Int)) = false := by rw [decide_eq_false_iff_not]; omega
      rw [e]; exact hK
    · have e : (trow es[n]).f4 = flAt W.1.ts (n : Int) := by
        unfold flAt
        rw [if_neg (by omega), Int.toNat_natCast, ← e1, List.getElem?_map, List.getElem?_eq_getElem hne]; rfl
      rw [e]; exact k
  · have e : flAt W.1.ts t = 0 := by
      unfold flAt
      split
      · rfl
      · rw [List.getElem?_eq_none (by omega)]
    rw [e] at k
    refine jn_c' true h (fun K hK => ite_b (fun c => hK) (fun c => rts S ?_)) (ite_t rfl k)
    rw [decide_eq_false_iff_not] at c
    have e : decide (t ≥ (ts.len : Int)) = true := by rw [decide_eq_true_eq]; omega
    rw [e]; exact hK
theorem rf_new {n : Int} (S : SG F0 h0 h Rs) {Q : Option Addr × Int → H → Prop} (bad : n < 1 ∨ n > 1024 → Q (none, 1) h) (good : 1 ≤ n → n ≤ 1024 → ∀ q h', SG F0 h0 h' (rfP q (AS.new n.toNat, []) :: Rs) → Q (some ⟨q, 0, none⟩, 0) h') : spateref12_New n h Q := by
  unfold spateref12_New
  refine rnew_spec S (fun hb => ite_t rfl (bad hb)) fun g1 g2 mb h1 S1 => ite_f rfl ?_
  have S2 := (mvsP.nil S1).made (Ext.refl h1) (Own.nil kRT h1 (fun b => h1.size ≤ b))
  refine S2.var (K := kRSd) fun q h2 S3 _ => good g1 g2 q h2 ?_
  have S3 : SG F0 h0 h2 (varP kRSd q ⟨Sl.nil, some ⟨mb, 0, none⟩⟩ :: ownP kRT Sl.nil [] :: mvsP [] :: refP mb (AM.new n.toNat) :: Rs) := S3
  have S4 : SG F0 h0 h2 (rfX q mb (AM.new n.toNat) Sl.nil [] ++ (mvsP [] :: Rs)) := by
    refine S3.perm ?_
    show (_ :: ([ownP kRT Sl.nil [], mvsP []] ++ [refP mb (AM.new n.toNat)] ++ Rs)).Perm (_ :: ([refP mb (AM.new n.toNat)] ++ [ownP kRT Sl.nil [], mvsP []] ++ Rs))
    exact (List.perm_append_comm.append_right Rs).cons _
  exact rf_close (mb := mb) (ts := Sl.nil) (W := (AS.new n.toNat, [])) (es := []) rfl rfl (fun p hp => absurd hp (by simp)) S4
theorem rf_add (o : W.Ok B N) (hl : W.1.ts.length < 400) {b : Nat} {s : Sl} {rows : List MR} (hr : rowsZ rows) (S : SG F0 h0 h (ownP kMv s (rows.map (·.v)) :: rbagP rows :: rfP q W :: Rs)) {Q : Int → H → Prop}
    (k : ∀ h', SG F0 h0 h' (rfP q (W.add ⟨b, s, 0, rows⟩) :: Rs) → Q (W.1.ts.length : Nat) h') : spateref12_Sched_Add (some ⟨q, 0, none⟩) s h Q := by
  obtain ⟨mb, ts, es, e1, e2, r, S1⟩ := rf_open (S.front 2 rfl)
  have hes := es_len e1
  have S1 : SG F0 h0 h (rfX q mb W.1.m ts (es.map trow) ++ (mvsP (lm W.2) :: ownP kMv s (rows.map (·.v)) :: rbagP rows :: Rs)) := S1
  unfold spateref12_Sched_Add
  refine rts S1 (ownP.pushW (K := kRT) (by decide) S1 2 rfl (trow (⟨1, 0, 0⟩, ⟨b, s, 0, rows⟩)) (by simp; omega) (by simp; omega) fun s2 h2 S2 => ?_)
  obtain ⟨h3, hs, S3, _⟩ := varP.st S2 fd_l 0 rfl s2
  have e3 : es.map trow ++ [trow (⟨1, 0, 0⟩, ⟨b, s, 0, rows⟩)] = (es ++ [((⟨1, 0, 0⟩ : TK), (⟨b, s, 0, rows⟩ : PLY))]).map trow := by rw [List.map_append]; rfl
  have S3 : SG F0 h0 h3 (rfX q mb W.1.m s2 (es.map trow ++ [trow (⟨1, 0, 0⟩, ⟨b, s, 0, rows⟩)]) ++ (mvsP (lm W.2) :: ownP kMv s (rows.map (·.v)) :: rbagP rows :: Rs)) := S3
  rw [e3] at S3
  refine rd_some rfl (rd_some (by rw [add_mk]; exact hs) (rts S3 ?_))
  have hlen := rlen S3
  have hw : IntKind.i64.wrap ((s2.len : Int) - 1) = ((W.1.ts.length : Nat) : Int) := by
    rw [List.length_append] at hlen
    simp at hlen
    rw [wrap64_id (by omega) (by omega)]; omega
  rw [hw]
  refine k h3 (rf_close (mb := mb) (ts := s2) (W := W.add ⟨b, s, 0, rows⟩) (es := es ++ [((⟨1, 0, 0⟩ : TK), (⟨b, s, 0, rows⟩ : PLY))]) ?_ ?_ ?_ ?_)
  · rw [List.map_append, e1]; rfl
  · rw [List.map_append, e2]; rfl
  · intro p hp
    rcases List.mem_append.1 hp with hp | hp
    · exact r p hp
    · obtain rfl := List.mem_singleton.1 hp; exact hr
  · have el : lm (W.add ⟨b, s, 0, rows⟩).2 = lm W.2 ++ [(s, rows)] := by unfold WS.add; rw [lm_append]; rfl
    rw [el]
    have S4 : SG F0 h0 h3 (ownP kMv s (rows.map (·.v)) :: rbagP rows :: mvsP (lm W.2) :: (rfX q mb W.1.m s2 ((es ++ [((⟨1, 0, 0⟩ : TK), (⟨b, s, 0, rows⟩ : PLY))]).map trow) ++ Rs)) := by
      refine S3.perm ?_
      have p1 := List.perm_append_comm_assoc (rfX q mb W.1.m s2 ((es ++ [((⟨1, 0, 0⟩ : TK), (⟨b, s, 0, rows⟩ : PLY))]).map trow)) [mvsP (lm W.2), ownP kMv s (rows.map (·.v)), rbagP rows] Rs
      refine p1.trans ?_
      exact (List.perm_append_comm (l₁ := [mvsP (lm W.2)]) (l₂ := [ownP kMv s (rows.map (·.v)), rbagP rows])).append_right _
    have S5 := mvsP.add S4
    exact S5.perm (List.perm_middle (l₁ := rfX q mb W.1.m s2 ((es ++ [((⟨1, 0, 0⟩ : TK), (⟨b, s, 0, rows⟩ : PLY))]).map trow))).symm
end
end Go.Proofs.YtomngllmnhdmlaaGreat
/- The plays' addresses; how often each did a step. -/
namespace Go.Proofs.YtomngllmnhdmlaaGreat
open Go Go.Tr
set_option linter.unusedVariables false
def ptrs (L : List PLY) : List (Option Addr) := L.map fun p => some ⟨p.b, 0, none⟩
theorem ptrs_bump (L : List PLY) (n : Nat) : ptrs (bump L n) = ptrs L := by
  have h := bump_b L n
  have e : ∀ L : List PLY, ptrs L = (L.map (·.b)).map fun b => some ⟨b, 0, none⟩ := fun L => by unfold ptrs; rw [List.map_map]; rfl
  rw [e, e, h]
def nxA (L : List PLY) (i : Nat) : Int := match L[i]? with | some p => (p.nx : Int) | none => 0
theorem nxA_at {L : List PLY} {i : Nat} (h : i < L.length) : nxA L i = (L[i].nx : Int) := by unfold nxA; rw [List.getElem?_eq_getElem h]
theorem nxA_bump_ne {L : List PLY} {n i : Nat} (h : n ≠ i) : nxA (bump L n) i = nxA L i := by unfold nxA; rw [bump_at, if_neg h]
theorem nxA_bump {L : List PLY} {n : Nat} (h : n < L.length) : nxA (bump L n) n = nxA L n + 1 := by
  unfold nxA
  rw [bump_at, if_pos rfl, List.getElem?_eq_getElem h]
  rfl
section
variable {h0 h : H} {q : Nat} {W : WS} {B N : Nat} {Ps : List HP}
theorem nx_at (S : SS h0 h Ps) (i : Nat) (hi : Ps[i]? = some (runP q W)) {t : Nat} (ht : t < W.2.length) : ld (kI .i64) ((⟨W.2[t].b, 0, none⟩ : Addr).add 1) h = some (nxA W.2 t) := by
  rw [add_mk, nxA_at ht]; exact run_nx S i hi ht
theorem ptr_at {h : H} {s : Sl} {L : List PLY} (R : Rds kP h s (ptrs L)) {i : Nat} (hi : i < L.length) {Q : Option Addr → Prop} (k : Q (some ⟨L[i].b, 0, none⟩)) : rd (ixA 1 s (i : Int)) fun q => rd (ld kP q h) Q := by
  refine R.elt0 (by unfold ptrs; simpa using hi) rfl ?_
  unfold ptrs
  rw [List.getElem_map]; exact k
end
def row1 (k : Int) : MR := ⟨⟨k, Sl.nil, 0, Sl.nil⟩, [], []⟩
theorem rbagP.more {F0 : Nat → Prop} {h0 h : H} {Ps : List HP} (k : Int) {rows : List MR} (S : SG F0 h0 h Ps) (i : Nat) (hi : Ps[i]? = some (rbagP rows)) : SG F0 h0 h (Ps.set i (rbagP (rows ++ [row1 k]))) :=
  S.imp i hi _ fun F ⟨v, l⟩ => ⟨fun r hr => by
    rcases List.mem_append.1 hr with hr | hr
    · exact v r hr
    · obtain rfl := List.mem_singleton.1 hr
      exact ⟨Own.nil _ _ _, Own.nil _ _ _⟩, l⟩
end Go.Proofs.YtomngllmnhdmlaaGreat
/- spate/spatelaw12.fault, as a predicate over the heap, and that the code comes to it. Printed by gen.py. -/
namespace Go.Proofs.YtomngllmnhdmlaaGreat
open Go Go.Tr
set_option linter.unusedVariables false
set_option maxRecDepth 100000
set_option maxHeartbeats 400000
/-- spate/spatelaw12.fault -/
def spatelaw12_fault (a0 : IF) (a1 : Int) (h : H) (Q : Bool → H → Prop) : Prop :=
  if (a1 == 0) = true then
    Q a0.isNone h
  else
    jn (fun (k1 : Bool → H → Prop) =>
      if (!a0.isNone) = true then
        errors_Is a0 (some (26, .int .i64 a1) : IF) h fun r1 h2 =>
        k1 r1 h2
      else
        k1 false h) fun s1 h1 =>
    Q s1 h1
theorem spatelaw12_fault.sound {a0 : IF} {a1 : Int} {h : H} {Q : Bool → H → Prop} (hF : spatelaw12_fault a0 a1 h Q) :
    CallsH Tryz.prog 32 (List.toArray (α := Value) [IF.val a0, .int .i64 a1]) h fun v h' => ∃ x : Bool, v = .bool x ∧ Q x h' := by
  refine CallsH.of_body Tryz.func32 rfl 17 rfl rfl ?_
  refine WP.seq ?_
  refine WP.region ?_
  refine EvK.pure (v := .bool false) (w_none rfl) rfl rfl (f_assign rfl rfl) ?_
  refine EvK.nil ?_
  refine WP.seq ?_
  refine WP.seq ?_
  refine WP.region ?_
  refine EvK.pure (v := .int .i64 a1) (w_none rfl) rfl rfl (f_move rfl rfl) ?_
  refine EvK.pure (v := .bool (a1 == 0)) (w_none rfl) rfl rfl (f_eql rfl rfl rfl) ?_
  refine EvK.nil ?_
  rcases ite_inv hF with ⟨c1, hF⟩ | ⟨c1, hF⟩
  · refine WP.cond_true _ rfl c1 ?_
    refine WP.seq ?_
    refine WP.region ?_
    refine EvK.pure (v := IF.val a0) (w_none rfl) rfl rfl (f_move rfl rfl) ?_
    refine EvK.pure (v := .bool a0.isNone) (w_none rfl) rfl rfl (f_ieqln (a := a0) Tryz.underlying76 rfl rfl) ?_
    refine EvK.pure (v := .bool a0.isNone) (w_none rfl) rfl rfl (f_assign rfl rfl) ?_
    refine EvK.nil ?_
    refine WP.ret ?_
    exact Ret.mk (vs := [.bool a0.isNone]) a0.isNone ⟨rfl, trivial⟩ rfl hF
  · refine WP.cond_false _ rfl c1 ?_
    refine WP.skip ?_
    refine WP.joinF (fun (s1 : Bool) => [(4, .bool s1)]) hF ?_ ?_
    · intro s1 E0 h1 hF
      refine WP.ret ?_
      exact Ret.mk (vs := [.bool s1]) s1 ⟨rfl, trivial⟩ rfl hF
    · intro k1 hF
      refine WP.region ?_
      refine EvK.pure (v := IF.val a0) (w_none rfl) rfl rfl (f_move rfl rfl) ?_
      refine EvK.pure (v := .bool (!a0.isNone)) (w_none rfl) rfl rfl (f_ineqn (a := a0) Tryz.underlying76 rfl rfl) ?_
      refine EvK.pure (v := .bool (!a0.isNone)) (w_none rfl) rfl rfl (f_move rfl rfl) ?_
      rcases ite_inv hF with ⟨c2, hF⟩ | ⟨c2, hF⟩
      · refine EvK.pure (v := IF.val a0) (w_some rfl rfl c2) rfl rfl (f_move rfl rfl) ?_
        refine EvK.pure (v := .int .i64 a1) (w_some rfl rfl c2) rfl rfl (f_move rfl rfl) ?_
        refine EvK.pure (v := IF.val (some (26, .int .i64 a1) : IF)) (w_some rfl rfl c2) rfl rfl (f_makeIf Tryz.underlying26 rfl rfl rfl) ?_
        refine EvK.call (w_some rfl rfl c2) rfl rfl (enterH (vs := [IF.val a0, IF.val (some (26, .int .i64 a1) : IF)]) Tryz.func43 rfl rfl rfl rfl (errors_Is.sound hF)) ?_
        rintro _ h2 ⟨r1, rfl, hF⟩
        refine EvK.pure (v := .bool r1) (w_none rfl) rfl rfl (f_pickT rfl rfl c2 rfl) ?_
        refine EvK.pure (v := .bool r1) (w_none rfl) rfl rfl (f_assign rfl rfl) ?_
        refine EvK.nil ?_
        exact KE.mk r1 ⟨rfl, trivial⟩ hF
      · refine EvK.not (w_not rfl rfl c2) rfl rfl ?_
        refine EvK.not (w_not rfl rfl c2) rfl rfl ?_
        refine EvK.not (w_not rfl rfl c2) rfl rfl ?_
        refine EvK.not (w_not rfl rfl c2) rfl rfl ?_
        refine EvK.pure (v := .bool false) (w_none rfl) rfl rfl (f_pickF rfl rfl c2 rfl) ?_
        refine EvK.pure (v := .bool false) (w_none rfl) rfl rfl (f_assign rfl rfl) ?_
        refine EvK.nil ?_
        exact KE.mk false ⟨rfl, trivial⟩ hF
end Go.Proofs.YtomngllmnhdmlaaGreat
/- spate/spatelaw12.like, as a predicate over the heap, and that the code comes to it. Printed by gen.py. -/
namespace Go.Proofs.YtomngllmnhdmlaaGreat
open Go Go.Tr
set_option linter.unusedVariables false
set_option maxRecDepth 100000
set_option maxHeartbeats 400000
def spatelaw12_like.b1 (p1 : Option Addr) (p2 : Sl) (s : Int) (h : H) (K : Int ⊕ (Unit ⊕ Bool) → H → Prop) : Prop :=
  rd p1 fun q1 =>
  rd (ld kL (q1.add 0) h) fun x1 =>
  if (decide (s < (x1.len : Int))) = true then
    rd (ixA 1 p2 s) fun q2 =>
    rd (ld kP q2 h) fun x2 =>
    rd x2 fun q3 =>
    rd (ld (kI .i64) (q3.add 1) h) fun x3 =>
    rd p1 fun q4 =>
    rd (ld kL (q4.add 0) h) fun x4 =>
    rd (ixA 6 x4 s) fun q5 =>
    rd (ld (kI .i64) (q5.add 5) h) fun x5 =>
    if (x3 != x5) = true then
      K (.inr (.inr false)) h
    else
      K (.inl (IntKind.i64.wrap (s + 1))) h
  else
    K (.inr (.inl ())) h
def spatelaw12_like.b2 (p0 : Option Addr) (p1 : Option Addr) (p2 : Sl) (s : Int) (h : H) (K : Int ⊕ (Unit ⊕ Bool) → H → Prop) : Prop :=
  rd p1 fun q6 =>
  rd (ld kL (q6.add 0) h) fun x6 =>
  if (decide (s ≤ (x6.len : Int))) = true then
    jn (fun (k5 : Bool → H → Prop) =>
      sched_Sched_State p0 s h fun r3 h6 =>
      spateref12_Sched_State p1 s h6 fun r4 h7 =>
      if (r3 != r4) = true then
        k5 true h7
      else
        sched_Sched_Fault p0 s h7 fun r5 h8 =>
        spateref12_Sched_Fault p1 s h8 fun r6 h9 =>
        spatelaw12_fault r5 r6 h9 fun r7 h10 =>
        k5 (!r7) h10) fun s5 h5 =>
    if s5 = true then
      K (.inr (.inr false)) h5
    else
      K (.inl (IntKind.i64.wrap (s + 1))) h5
  else
    K (.inr (.inl ())) h
/-- spate/spatelaw12.like -/
def spatelaw12_like (a0 : Option Addr) (a1 : Option Addr) (a2 : Sl) (h : H) (Q : Bool → H → Prop) : Prop :=
  jn (fun (k1 : Bool → H → Prop) =>
    sched_Sched_Ready a0 h fun r10 h12 =>
    spateref12_Sched_Ready a1 h12 fun r11 h13 =>
    spatelaw12_ints r10 r11 h13 fun r12 h14 =>
    if (!r12) = true then
      k1 true h14
    else
      rd a1 fun q7 =>
      rd (ld kL (q7.add 0) h14) fun x7 =>
      sched_Sched_Tasks a0 h14 fun r13 h15 =>
      ld kL (q7.add 0) h15 = some x7 ∧
      k1 (r13 != (x7.len : Int)) h15) fun s1 h1 =>
  if s1 = true then
    Q false h1
  else
    jn (fun (k2 : Unit → H → Prop) =>
      loopE (spatelaw12_like.b2 a0 a1 a2) (-1) h1 (sumK (fun r8 hh => k2 r8 hh) (fun r9 hh => Q r9 hh))) fun s2 h2 =>
    jn (fun (k3 : Unit → H → Prop) =>
      loopE (spatelaw12_like.b1 a1 a2) 0 h2 (sumK (fun r1 hh => k3 r1 hh) (fun r2 hh => Q r2 hh))) fun s3 h3 =>
    Q true h3
theorem spatelaw12_like.sound {a0 : Option Addr} {a1 : Option Addr} {a2 : Sl} {h : H} {Q : Bool → H → Prop} (hF : spatelaw12_like a0 a1 a2 h Q) :
    CallsH Tryz.prog 16 (List.toArray (α := Value) [.pointer a0, .pointer a1, Sl.val a2]) h fun v h' => ∃ x : Bool, v = .bool x ∧ Q x h' := by
  refine CallsH.of_body Tryz.func16 rfl 76 rfl rfl ?_
  refine WP.seq ?_
  refine WP.region ?_
  refine EvK.pure (v := .bool false) (w_none rfl) rfl rfl (f_assign rfl rfl) ?_
  refine EvK.nil ?_
  refine WP.seq ?_
  refine WP.joinF (fun (s1 : Bool) => [(24, .bool s1), (0, .pointer a0), (1, .pointer a1), (2, Sl.val a2)]) hF ?_ ?_
  · intro s1 E0 h1 hF
    rcases ite_inv hF with ⟨c1, hF⟩ | ⟨c1, hF⟩
    · refine WP.cond_true _ rfl c1 ?_
      refine WP.seq ?_
      refine WP.region ?_
      refine EvK.pure (v := .bool false) (w_none rfl) rfl rfl (f_assign rfl rfl) ?_
      refine EvK.nil ?_
      refine WP.ret ?_
      exact Ret.mk (vs := [.bool false]) false ⟨rfl, trivial⟩ rfl hF
    · refine WP.cond_false _ rfl c1 ?_
      refine WP.skip ?_
      refine WP.joinF (fun (s2 : Unit) => [(1, .pointer a1), (2, Sl.val a2)]) hF ?_ ?_
      · intro s2 E0 h2 hF
        refine WP.joinF (fun (s3 : Unit) => []) hF ?_ ?_
        · intro s3 E0 h3 hF
          refine WP.seq ?_
          refine WP.region ?_
          refine EvK.pure (v := .bool true) (w_none rfl) rfl rfl (f_assign rfl rfl) ?_
          refine EvK.nil ?_
          refine WP.ret ?_
          exact Ret.mk (vs := [.bool true]) true ⟨rfl, trivial⟩ rfl hF
        · intro k3 hF
          refine WP.seq ?_
          refine WP.region ?_
          refine EvK.pure (v := .int .i64 0) (w_none rfl) rfl rfl (f_assign rfl rfl) ?_
          refine EvK.nil ?_
          refine WP.block ?_
          refine WP.loopF (fun (s4 : Int) => [(8, .int .i64 s4), (1, .pointer a1), (2, Sl.val a2)]) hF ⟨rfl, rfl, rfl, trivial⟩ ?_
          intro k4 s4 E0 h4 hF
          refine WP.seq ?_
          refine WP.seq ?_
          refine WP.region ?_
          refine EvK.pure (v := .int .i64 s4) (w_none rfl) rfl rfl (f_move rfl rfl) ?_
          refine EvK.pure (v := .pointer a1) (w_none rfl) rfl rfl (f_move rfl rfl) ?_
          obtain ⟨q1, hq1, hF⟩ := hF
          refine EvK.pure (v := .pointer (some q1)) (w_none rfl) rfl rfl (f_nilCheck rfl (congrArg Value.pointer hq1)) ?_
          refine EvK.pure (v := .pointer (some (q1.add 0))) (w_none rfl) rfl rfl (f_fieldAddr fd72_0 rfl rfl) ?_
          obtain ⟨x1, hx1, hF⟩ := hF
          refine EvK.read (v := Sl.val x1) (w_none rfl) rfl rfl (f_load kL ty70 rfl rfl hx1 rfl) ?_
          refine EvK.pure (v := .int .i64 (x1.len : Int)) (w_none rfl) rfl rfl (f_lenL (s := x1) Tryz.underlying70 rfl rfl) ?_
          refine EvK.pure (v := .bool (decide (s4 < (x1.len : Int)))) (w_none rfl) rfl rfl (f_lss rfl rfl rfl) ?_
          refine EvK.nil ?_
          rcases ite_inv hF with ⟨c2, hF⟩ | ⟨c2, hF⟩
          · refine WP.cond_true _ rfl c2 ?_
            refine WP.skip ?_
            refine WP.seq ?_
            refine WP.block ?_
            refine WP.seq ?_
            refine WP.draw mixed [.pure, .pure, .pure, .read, .pure, .pure, .read, .pure, .pure, .pure, .read, .pure, .pure, .pure, .read, .pure] [[], [], [0, 1], [0, 1, 2], [0, 1, 2, 3], [0, 1, 2, 3, 4], [0, 1, 2, 3, 4, 5], [], [7], [7, 8], [7, 8, 9], [], [7, 8, 9, 10, 11], [7, 8, 9, 10, 11, 12], [7, 8, 9, 10, 11, 12, 13], [0, 1, 2, 3, 4, 5, 6, 7, 8, 9, 10, 11, 12, 13, 14]] [0, 1, 2, 3, 4, 5, 6, 7, 8, 9, 10, 11, 12, 13, 14, 15] (by kernel_rfl) (by kernel_rfl) ?_
            refine EvI.pure (v := Sl.val a2) rfl rfl (w_none rfl) rfl (f_move rfl rfl) ?_
            refine EvI.pure (v := .int .i64 s4) rfl rfl (w_none rfl) rfl (f_move rfl rfl) ?_
            obtain ⟨q2, hq2, hF⟩ := hF
            refine EvI.pure (v := .pointer (some q2)) rfl rfl (w_none rfl) rfl (f_indexAddr (s := a2) Tryz.underlying32 ty33.size rfl rfl rfl hq2) ?_
            obtain ⟨x2, hx2, hF⟩ := hF
            refine EvI.read (v := .pointer x2) rfl rfl (w_none rfl) rfl (f_load kP ty33 rfl rfl hx2 rfl) ?_
            obtain ⟨q3, hq3, hF⟩ := hF
            refine EvI.pure (v := .pointer (some q3)) rfl rfl (w_none rfl) rfl (f_nilCheck rfl (congrArg Value.pointer hq3)) ?_
            refine EvI.pure (v := .pointer (some (q3.add 1))) rfl rfl (w_none rfl) rfl (f_fieldAddr fd37_1 rfl rfl) ?_
            obtain ⟨x3, hx3, hF⟩ := hF
            refine EvI.read (v := .int .i64 x3) rfl rfl (w_none rfl) rfl (f_load (kI .i64) ty3 rfl rfl hx3 rfl) ?_
            refine EvI.pure (v := .pointer a1) rfl rfl (w_none rfl) rfl (f_move rfl rfl) ?_
            obtain ⟨q4, hq4, hF⟩ := hF
            refine EvI.pure (v := .pointer (some q4)) rfl rfl (w_none rfl) rfl (f_nilCheck rfl (congrArg Value.pointer hq4)) ?_
            refine EvI.pure (v := .pointer (some (q4.add 0))) rfl rfl (w_none rfl) rfl (f_fieldAddr fd72_0 rfl rfl) ?_
            obtain ⟨x4, hx4, hF⟩ := hF
            refine EvI.read (v := Sl.val x4) rfl rfl (w_none rfl) rfl (f_load kL ty70 rfl rfl hx4 rfl) ?_
            refine EvI.pure (v := .int .i64 s4) rfl rfl (w_none rfl) rfl (f_move rfl rfl) ?_
            obtain ⟨q5, hq5, hF⟩ := hF
            refine EvI.pure (v := .pointer (some q5)) rfl rfl (w_none rfl) rfl (f_indexAddr (s := x4) Tryz.underlying70 ty80.size rfl rfl rfl hq5) ?_
            refine EvI.pure (v := .pointer (some (q5.add 5))) rfl rfl (w_none rfl) rfl (f_fieldAddr fd80_5 rfl rfl) ?_
            obtain ⟨x5, hx5, hF⟩ := hF
            refine EvI.read (v := .int .i64 x5) rfl rfl (w_none rfl) rfl (f_load (kI .i64) ty3 rfl rfl hx5 rfl) ?_
            refine EvI.pure (v := .bool (x3 != x5)) rfl rfl (w_none rfl) rfl (f_neq rfl rfl rfl) ?_
            refine EvI.nil ?_
            rcases ite_inv hF with ⟨c3, hF⟩ | ⟨c3, hF⟩
            · refine WP.cond_true _ rfl c3 ?_
              refine WP.seq ?_
              refine WP.region ?_
              refine EvK.pure (v := .bool false) (w_none rfl) rfl rfl (f_assign rfl rfl) ?_
              refine EvK.nil ?_
              refine WP.ret ?_
              exact Ret.mk (vs := [.bool false]) false ⟨rfl, trivial⟩ rfl hF
            · refine WP.cond_false _ rfl c3 ?_
              refine WP.skip ?_
              refine WP.region ?_
              refine EvK.pure (v := .int .i64 s4) (w_none rfl) rfl rfl (f_move rfl rfl) ?_
              refine EvK.pure (v := .int .i64 (IntKind.i64.wrap (s4 + 1))) (w_none rfl) rfl rfl (f_add rfl rfl rfl) ?_
              refine EvK.pure (v := .int .i64 (IntKind.i64.wrap (s4 + 1))) (w_none rfl) rfl rfl (f_assign rfl rfl) ?_
              refine EvK.nil ?_
              exact KE.mk (IntKind.i64.wrap (s4 + 1)) ⟨rfl, rfl, rfl, trivial⟩ hF
          · refine WP.cond_false _ rfl c2 ?_
            refine WP.exit ?_
            exact KE.mk () trivial hF
      · intro k2 hF
        refine WP.seq ?_
        refine WP.region ?_
        refine EvK.pure (v := .int .i64 (-1)) (w_none rfl) rfl rfl (f_assign rfl rfl) ?_
        refine EvK.nil ?_
        refine WP.block ?_
        refine WP.loopF (fun (s5 : Int) => [(7, .int .i64 s5), (0, .pointer a0), (1, .pointer a1), (2, Sl.val a2)]) hF ⟨rfl, rfl, rfl, rfl, trivial⟩ ?_
        intro k5 s5 E0 h5 hF
        refine WP.seq ?_
        refine WP.seq ?_
        refine WP.region ?_
        refine EvK.pure (v := .int .i64 s5) (w_none rfl) rfl rfl (f_move rfl rfl) ?_
        refine EvK.pure (v := .pointer a1) (w_none rfl) rfl rfl (f_move rfl rfl) ?_
        obtain ⟨q6, hq6, hF⟩ := hF
        refine EvK.pure (v := .pointer (some q6)) (w_none rfl) rfl rfl (f_nilCheck rfl (congrArg Value.pointer hq6)) ?_
        refine EvK.pure (v := .pointer (some (q6.add 0))) (w_none rfl) rfl rfl (f_fieldAddr fd72_0 rfl rfl) ?_
        obtain ⟨x6, hx6, hF⟩ := hF
        refine EvK.read (v := Sl.val x6) (w_none rfl) rfl rfl (f_load kL ty70 rfl rfl hx6 rfl) ?_
        refine EvK.pure (v := .int .i64 (x6.len : Int)) (w_none rfl) rfl rfl (f_lenL (s := x6) Tryz.underlying70 rfl rfl) ?_
        refine EvK.pure (v := .bool (decide (s5 ≤ (x6.len : Int)))) (w_none rfl) rfl rfl (f_leq rfl rfl rfl) ?_
        refine EvK.nil ?_
        rcases ite_inv hF with ⟨c4, hF⟩ | ⟨c4, hF⟩
        · refine WP.cond_true _ rfl c4 ?_
          refine WP.skip ?_
          refine WP.seq ?_
          refine WP.block ?_
          refine WP.joinF (fun (s6 : Bool) => [(50, .bool s6), (0, .pointer a0), (1, .pointer a1), (2, Sl.val a2), (7, .int .i64 s5)]) hF ?_ ?_
          · intro s6 E0 h6 hF
            rcases ite_inv hF with ⟨c5, hF⟩ | ⟨c5, hF⟩
            · refine WP.cond_true _ rfl c5 ?_
              refine WP.seq ?_
              refine WP.region ?_
              refine EvK.pure (v := .bool false) (w_none rfl) rfl rfl (f_assign rfl rfl) ?_
              refine EvK.nil ?_
              refine WP.ret ?_
              exact Ret.mk (vs := [.bool false]) false ⟨rfl, trivial⟩ rfl hF
            · refine WP.cond_false _ rfl c5 ?_
              refine WP.skip ?_
              refine WP.region ?_
              refine EvK.pure (v := .int .i64 s5) (w_none rfl) rfl rfl (f_move rfl rfl) ?_
              refine EvK.pure (v := .int .i64 (IntKind.i64.wrap (s5 + 1))) (w_none rfl) rfl rfl (f_add rfl rfl rfl) ?_
              refine EvK.pure (v := .int .i64 (IntKind.i64.wrap (s5 + 1))) (w_none rfl) rfl rfl (f_assign rfl rfl) ?_
              refine EvK.nil ?_
              exact KE.mk (IntKind.i64.wrap (s5 + 1)) ⟨rfl, rfl, rfl, rfl, trivial⟩ hF
          · intro k6 hF
            refine WP.region ?_
            refine EvK.pure (v := .pointer a0) (w_none rfl) rfl rfl (f_move rfl rfl) ?_
            refine EvK.pure (v := .int .i64 s5) (w_none rfl) rfl rfl (f_move rfl rfl) ?_
            refine EvK.call (w_none rfl) rfl rfl (enterH Tryz.func17 rfl rfl rfl rfl (sched_Sched_State.sound hF)) ?_
            rintro _ h7 ⟨r3, rfl, hF⟩
            refine EvK.pure (v := .pointer a1) (w_none rfl) rfl rfl (f_move rfl rfl) ?_
            refine EvK.pure (v := .int .i64 s5) (w_none rfl) rfl rfl (f_move rfl rfl) ?_
            refine EvK.call (w_none rfl) rfl rfl (enterH Tryz.func31 rfl rfl rfl rfl (spateref12_Sched_State.sound hF)) ?_
            rintro _ h8 ⟨r4, rfl, hF⟩
            refine EvK.pure (v := .bool (r3 != r4)) (w_none rfl) rfl rfl (f_neq rfl rfl rfl) ?_
            refine EvK.pure (v := .bool (r3 != r4)) (w_none rfl) rfl rfl (f_move rfl rfl) ?_
            rcases ite_inv hF with ⟨c6, hF⟩ | ⟨c6, hF⟩
            · refine EvK.not (w_not rfl rfl c6) rfl rfl ?_
              refine EvK.not (w_not rfl rfl c6) rfl rfl ?_
              refine EvK.not (w_not rfl rfl c6) rfl rfl ?_
              refine EvK.not (w_not rfl rfl c6) rfl rfl ?_
              refine EvK.not (w_not rfl rfl c6) rfl rfl ?_
              refine EvK.not (w_not rfl rfl c6) rfl rfl ?_
              refine EvK.not (w_not rfl rfl c6) rfl rfl ?_
              refine EvK.not (w_not rfl rfl c6) rfl rfl ?_
              refine EvK.pure (v := .bool true) (w_none rfl) rfl rfl (f_pickT rfl rfl c6 rfl) ?_
              refine EvK.nil ?_
              exact KE.mk true ⟨rfl, rfl, rfl, rfl, rfl, trivial⟩ hF
            · refine EvK.pure (v := .pointer a0) (w_some rfl rfl c6) rfl rfl (f_move rfl rfl) ?_
              refine EvK.pure (v := .int .i64 s5) (w_some rfl rfl c6) rfl rfl (f_move rfl rfl) ?_
              refine EvK.call (w_some rfl rfl c6) rfl rfl (enterH Tryz.func33 rfl rfl rfl rfl (sched_Sched_Fault.sound hF)) ?_
              rintro _ h9 ⟨r5, rfl, hF⟩
              refine EvK.pure (v := .pointer a1) (w_some rfl rfl c6) rfl rfl (f_move rfl rfl) ?_
              refine EvK.pure (v := .int .i64 s5) (w_some rfl rfl c6) rfl rfl (f_move rfl rfl) ?_
              refine EvK.call (w_some rfl rfl c6) rfl rfl (enterH Tryz.func34 rfl rfl rfl rfl (spateref12_Sched_Fault.sound hF)) ?_
              rintro _ h10 ⟨r6, rfl, hF⟩
              refine EvK.call (w_some rfl rfl c6) rfl rfl (enterH (vs := [IF.val r5, .int .i64 r6]) Tryz.func32 rfl rfl rfl rfl (spatelaw12_fault.sound hF)) ?_
              rintro _ h11 ⟨r7, rfl, hF⟩
              refine EvK.pure (v := .bool (!r7)) (w_some rfl rfl c6) rfl rfl (f_not rfl rfl) ?_
              refine EvK.pure (v := .bool (!r7)) (w_none rfl) rfl rfl (f_pickF rfl rfl c6 rfl) ?_
              refine EvK.nil ?_
              exact KE.mk (!r7) ⟨rfl, rfl, rfl, rfl, rfl, trivial⟩ hF
        · refine WP.cond_false _ rfl c4 ?_
          refine WP.exit ?_
          exact KE.mk () ⟨rfl, rfl, trivial⟩ hF
  · intro k1 hF
    refine WP.draw mixed [.pure, .eff [], .pure, .eff [], .eff [], .pure, .pure, .pure, .eff [12], .pure, .pure, .pure, .read, .pure, .pure, .pure] [[], [0], [], [0, 1, 2], [0, 1, 2, 3], [0, 1, 2, 3, 4], [0, 1, 2, 3, 4, 5], [0, 1, 2, 3, 4, 5, 6], [0, 1, 2, 3, 4, 5, 6, 7], [0, 1, 2, 3, 4, 5, 6], [0, 1, 2, 3, 4, 5, 6, 9], [0, 1, 2, 3, 4, 5, 6, 9, 10], [0, 1, 2, 3, 4, 5, 6, 9, 10, 11], [0, 1, 2, 3, 4, 5, 6, 9, 10, 11, 12], [0, 1, 2, 3, 4, 5, 6, 7, 8, 9, 10, 11, 12, 13], [0, 1, 2, 3, 4, 5, 6, 7, 8, 9, 10, 11, 12, 13, 14]] [0, 2, 1, 3, 4, 5, 6, 7, 9, 10, 11, 12, 13, 8, 14, 15] (by kernel_rfl) (by kernel_rfl) ?_
    refine EvI.pure (v := .pointer a0) rfl rfl (w_none rfl) rfl (f_move rfl rfl) ?_
    refine EvI.pure (v := .pointer a1) rfl rfl (w_none rfl) rfl (f_move rfl rfl) ?_
    refine EvI.call rfl rfl (w_none rfl) rfl (enterH Tryz.func30 rfl rfl rfl rfl (sched_Sched_Ready.sound hF)) ?_
    rintro _ h12 ⟨r10, rfl, hF⟩
    refine ⟨trivial, ?_⟩
    refine EvI.call rfl rfl (w_none rfl) rfl (enterH Tryz.func27 rfl rfl rfl rfl (spateref12_Sched_Ready.sound hF)) ?_
    rintro _ h13 ⟨r11, rfl, hF⟩
    refine ⟨trivial, ?_⟩
    refine EvI.call rfl rfl (w_none rfl) rfl (enterH Tryz.func29 rfl rfl rfl rfl (spatelaw12_ints.sound hF)) ?_
    rintro _ h14 ⟨r12, rfl, hF⟩
    refine ⟨trivial, ?_⟩
    refine EvI.pure (v := .bool (!r12)) rfl rfl (w_none rfl) rfl (f_not rfl rfl) ?_
    refine EvI.pure (v := .bool (!r12)) rfl rfl (w_none rfl) rfl (f_move rfl rfl) ?_
    rcases ite_inv hF with ⟨c7, hF⟩ | ⟨c7, hF⟩
    · refine EvI.not rfl (w_not rfl rfl c7) rfl ?_
      refine EvI.not rfl (w_not rfl rfl c7) rfl ?_
      refine EvI.not rfl (w_not rfl rfl c7) rfl ?_
      refine EvI.not rfl (w_not rfl rfl c7) rfl ?_
      refine EvI.not rfl (w_not rfl rfl c7) rfl ?_
      refine EvI.not rfl (w_not rfl rfl c7) rfl ?_
      refine EvI.not rfl (w_not rfl rfl c7) rfl ?_
      refine EvI.not rfl (w_not rfl rfl c7) rfl ?_
      refine EvI.pure (v := .bool true) rfl rfl (w_none rfl) rfl (f_pickT rfl rfl c7 rfl) ?_
      refine EvI.nil ?_
      exact KE.mk true ⟨rfl, rfl, rfl, rfl, trivial⟩ hF
    · refine EvI.pure (v := .pointer a0) rfl rfl (w_some rfl rfl c7) rfl (f_move rfl rfl) ?_
      refine EvI.pure (v := .pointer a1) rfl rfl (w_some rfl rfl c7) rfl (f_move rfl rfl) ?_
      obtain ⟨q7, hq7, hF⟩ := hF
      refine EvI.pure (v := .pointer (some q7)) rfl rfl (w_some rfl rfl c7) rfl (f_nilCheck rfl (congrArg Value.pointer hq7)) ?_
      refine EvI.pure (v := .pointer (some (q7.add 0))) rfl rfl (w_some rfl rfl c7) rfl (f_fieldAddr fd72_0 rfl rfl) ?_
      obtain ⟨x7, hx7, hF⟩ := hF
      refine EvI.read (v := Sl.val x7) rfl rfl (w_some rfl rfl c7) rfl (f_load kL ty70 rfl rfl hx7 rfl) ?_
      refine EvI.pure (v := .int .i64 (x7.len : Int)) rfl rfl (w_some rfl rfl c7) rfl (f_lenL (s := x7) Tryz.underlying70 rfl rfl) ?_
      refine EvI.call rfl rfl (w_some rfl rfl c7) rfl (enterH Tryz.func18 rfl rfl rfl rfl (sched_Sched_Tasks.sound hF)) ?_
      rintro _ h15 ⟨r13, rfl, hF⟩
      obtain ⟨hy1, hF⟩ := hF
      refine ⟨⟨chk_yes rfl (f_load kL ty70 rfl rfl hy1 rfl), trivial⟩, ?_⟩
      refine EvI.pure (v := .bool (r13 != (x7.len : Int))) rfl rfl (w_some rfl rfl c7) rfl (f_neq rfl rfl rfl) ?_
      refine EvI.pure (v := .bool (r13 != (x7.len : Int))) rfl rfl (w_none rfl) rfl (f_pickF rfl rfl c7 rfl) ?_
      refine EvI.nil ?_
      exact KE.mk (r13 != (x7.len : Int)) ⟨rfl, rfl, rfl, rfl, trivial⟩ hF
end Go.Proofs.YtomngllmnhdmlaaGreat
