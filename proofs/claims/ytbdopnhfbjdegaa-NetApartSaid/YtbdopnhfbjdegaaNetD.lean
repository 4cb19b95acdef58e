/- One step of the program's net, as lists and over the heap; what other connections' steps leave. -/
import Derived.Test.YtbdopnhfbjdegaaNetT
import Derived.Test.YtbdopnhfbjdegaaG7
namespace Go.Proofs.Ytbdopnhfbjdegaa
open Go Go.Tr
set_option linter.unusedVariables false
abbrev noB : ByteArray := ⟨#[]⟩
def zB (n : Int) : ByteArray := toB (List.replicate n.toNat 0)
namespace AN
def did (A : AN) (x : S48) (ys : List Int) : (Int × ByteArray) × AN :=
  if x.f0 = 1 then (((A.open' x.f1).1, noB), (A.open' x.f1).2)
  else if x.f0 = 2 then (((A.send x.f1 ys).1, noB), (A.send x.f1 ys).2)
  else if x.f0 = 3 then (((A.bring x.f1 x.f3).1.2, zB (A.bring x.f1 x.f3).1.1), (A.bring x.f1 x.f3).2)
  else if x.f0 = 4 then (((A.take x.f1).1.2, toB (A.take x.f1).1.1), (A.take x.f1).2)
  else if x.f0 = 5 then (((A.write x.f1 ys).1.2, zB (A.write x.f1 ys).1.1), (A.write x.f1 ys).2)
  else if x.f0 = 6 then (((A.fetch x.f1 x.f3).1.2, zB (A.fetch x.f1 x.f3).1.1), (A.fetch x.f1 x.f3).2)
  else if x.f0 = 7 then (((A.close x.f1).1, noB), (A.close x.f1).2)
  else if x.f0 = 8 then (((A.cutC x.f1).1, noB), (A.cutC x.f1).2)
  else ((0, noB), A)
theorem did_stepA (A : AN) (x : S48) (ys : List Int) : (A.did x ys).2 = A.stepA x ys := by
  unfold did stepA
  repeat' split
  all_goals rfl
theorem Ok.did {A : AN} {B : Nat} (ok : A.Ok B) (x : S48) (ys : List Int) : (A.did x ys).2.Ok (B + 131072) := by
  rw [did_stepA]; exact ok.stepA x ys
theorem bring_nat {A : AN} {B : Nat} (ok : A.Ok B) (c m : Int) : ∃ n : Nat, (A.bring c m).1.1 = (n : Int) ∧ n ≤ 2000000 := by
  unfold bring
  split
  · exact ⟨0, rfl, by omega⟩
  · exact ⟨0, rfl, by omega⟩
  · rename_i n x hl
    have := ok.x n x (look_some hl).1
    exact ⟨_, rfl, by unfold bringN; omega⟩
theorem write_nat {A : AN} {B : Nat} (ok : A.Ok B) (c : Int) (ys : List Int) : ∃ n : Nat, (A.write c ys).1.1 = (n : Int) ∧ n ≤ 2000000 := by
  unfold write
  have := ok.o2
  split
  · exact ⟨0, rfl, by omega⟩
  · exact ⟨0, rfl, by omega⟩
  · split
    · exact ⟨0, rfl, by omega⟩
    · exact ⟨_, rfl, by unfold writeN; omega⟩
theorem fetch_nat {A : AN} {B : Nat} (ok : A.Ok B) (c m : Int) : ∃ n : Nat, (A.fetch c m).1.1 = (n : Int) ∧ n ≤ 2000000 := by
  unfold fetch
  have := ok.o2
  split
  · exact ⟨0, rfl, by omega⟩
  · exact ⟨0, rfl, by omega⟩
  · rename_i n x hl
    have := ok.x n x (look_some hl).1
    exact ⟨_, rfl, by unfold fetchN; omega⟩
/-- The same rooms, the same at one connection. -/
structure Sim (n : Nat) (A B : AN) : Prop where
  i : A.i = B.i
  o : A.o = B.o
  c : A.cs[n]? = B.cs[n]?
  lA : A.cs.length = 65
  lB : B.cs.length = 65
theorem Sim.look {n : Nat} {A B : AN} (s : Sim n A B) : A.look (n : Int) = B.look (n : Int) := by
  unfold AN.look
  rw [Int.toNat_natCast, s.c]
theorem Sim.put {n : Nat} {A B : AN} (s : Sim n A B) (hn : n < 65) (x : AC) : Sim n (A.put n x) (B.put n x) :=
  ⟨s.i, s.o, by simp only [AN.put]; rw [List.getElem?_set_self (by rw [s.lA]; exact hn), List.getElem?_set_self (by rw [s.lB]; exact hn)], by simp [AN.put, s.lA], by simp [AN.put, s.lB]⟩
theorem Sim.put2 {n : Nat} {A B : AN} (s : Sim n A B) {m : Nat} (hm : m ≠ n) (x : AC) : Sim n A (B.put m x) :=
  ⟨s.i, s.o, by simp only [AN.put]; rw [List.getElem?_set_ne hm]; exact s.c, s.lA, by simp [AN.put, s.lB]⟩
theorem Sim.moved {n : Nat} {A B : AN} (s : Sim n A B) (a b : Int) : Sim n { A with moved := a } { B with moved := b } := ⟨s.i, s.o, s.c, s.lA, s.lB⟩
theorem Sim.moved2 {n : Nat} {A B : AN} (s : Sim n A B) (b : Int) : Sim n A { B with moved := b } := ⟨s.i, s.o, s.c, s.lA, s.lB⟩
theorem look_n {A : AN} {c : Int} {n : Nat} {x : AC} (h : A.look c = .some n x) : c = n := (look_some h).2.1
/-- A step of another connection. -/
theorem Sim.other {n : Nat} {A B : AN} (s : Sim n A B) (x : S48) (ys : List Int) (hc : x.f1 ≠ n) (h0 : 0 ≤ x.f1) : Sim n A (B.did x ys).2 := by
  have p : ∀ {m : Nat} {y : AC} (z : AC), B.look x.f1 = .some m y → Sim n A (B.put m z) := fun z h => s.put2 (fun e => hc (by rw [look_n h, e])) z
  rw [did_stepA]
  unfold stepA
  split
  · unfold open'
    split
    · exact s
    · exact s.put2 (by omega) _
    · exact s
  split
  · unfold send
    split
    · exact s
    · exact s
    · split
      · exact s
      · split
        · exact s
        · exact p _ (by assumption)
  split
  · unfold bring
    split
    · exact s
    · exact s
    · exact (p _ (by assumption)).moved2 _
  split
  · unfold take
    split
    · exact s
    · exact s
    · split
      · exact s
      · exact p _ (by assumption)
  split
  · unfold write
    split
    · exact s
    · exact s
    · split
      · exact s
      · exact p _ (by assumption)
  split
  · unfold fetch
    split
    · exact s
    · exact s
    · exact (p _ (by assumption)).moved2 _
  split
  · unfold close
    split
    · exact s
    · exact s
    · split
      · exact s
      · exact p _ (by assumption)
  split
  · unfold cutC
    split
    · exact s
    · exact s
    · split
      · exact s
      · exact p _ (by assumption)
  · exact s
/-- The same step of the connection, in both. -/
theorem Sim.same {n : Nat} {A B : AN} (s : Sim n A B) (hn : n < 65) (x : S48) (ys : List Int) (hc : x.f1 = n) : (A.did x ys).1 = (B.did x ys).1 ∧ Sim n (A.did x ys).2 (B.did x ys).2 := by
  have hl := s.look
  rw [← hc] at hl
  have fin : ∀ {m : Nat} {y : AC}, B.look x.f1 = .some m y → m = n := fun h => by have := look_n h; omega
  unfold did
  by_cases c1 : x.f0 = 1
  · rw [if_pos c1, if_pos c1]
    unfold open'
    rw [hl]
    cases h : B.look x.f1 with
    | bad => exact ⟨rfl, s⟩
    | none =>
      refine ⟨rfl, ?_⟩
      rw [hc, Int.toNat_natCast]; exact s.put hn _
    | some m y => exact ⟨rfl, s⟩
  rw [if_neg c1, if_neg c1]
  by_cases c2 : x.f0 = 2
  · rw [if_pos c2, if_pos c2]
    unfold send
    rw [hl]
    cases h : B.look x.f1 with
    | bad => exact ⟨rfl, s⟩
    | none => exact ⟨rfl, s⟩
    | some m y =>
      obtain rfl := fin h
      simp only
      split
      · exact ⟨rfl, s⟩
      · split
        · exact ⟨rfl, s⟩
        · exact ⟨rfl, s.put hn _⟩
  rw [if_neg c2, if_neg c2]
  by_cases c3 : x.f0 = 3
  · rw [if_pos c3, if_pos c3]
    unfold bring
    rw [hl]
    cases h : B.look x.f1 with
    | bad => exact ⟨rfl, s⟩
    | none => exact ⟨rfl, s⟩
    | some m y =>
      obtain rfl := fin h
      have e : A.bringN y x.f3 = B.bringN y x.f3 := by unfold bringN; rw [s.i]
      simp only [e]
      exact ⟨by trivial, (s.put hn _).moved _ _⟩
  rw [if_neg c3, if_neg c3]
  by_cases c4 : x.f0 = 4
  · rw [if_pos c4, if_pos c4]
    unfold take
    rw [hl]
    cases h : B.look x.f1 with
    | bad => exact ⟨rfl, s⟩
    | none => exact ⟨rfl, s⟩
    | some m y =>
      obtain rfl := fin h
      simp only
      split
      · exact ⟨rfl, s⟩
      · exact ⟨rfl, s.put hn _⟩
  rw [if_neg c4, if_neg c4]
  by_cases c5 : x.f0 = 5
  · rw [if_pos c5, if_pos c5]
    unfold write
    rw [hl]
    cases h : B.look x.f1 with
    | bad => exact ⟨rfl, s⟩
    | none => exact ⟨rfl, s⟩
    | some m y =>
      obtain rfl := fin h
      have e : A.writeN y ys = B.writeN y ys := by unfold writeN; rw [s.o]
      simp only [e]
      split
      · exact ⟨by trivial, s⟩
      · exact ⟨by trivial, s.put hn _⟩
  rw [if_neg c5, if_neg c5]
  by_cases c6 : x.f0 = 6
  · rw [if_pos c6, if_pos c6]
    unfold fetch
    rw [hl]
    cases h : B.look x.f1 with
    | bad => exact ⟨rfl, s⟩
    | none => exact ⟨rfl, s⟩
    | some m y =>
      obtain rfl := fin h
      exact ⟨rfl, (s.put hn _).moved _ _⟩
  rw [if_neg c6, if_neg c6]
  by_cases c7 : x.f0 = 7
  · rw [if_pos c7, if_pos c7]
    unfold close
    rw [hl]
    cases h : B.look x.f1 with
    | bad => exact ⟨rfl, s⟩
    | none => exact ⟨rfl, s⟩
    | some m y =>
      obtain rfl := fin h
      simp only
      split
      · exact ⟨rfl, s⟩
      · exact ⟨rfl, s.put hn _⟩
  rw [if_neg c7, if_neg c7]
  by_cases c8 : x.f0 = 8
  · rw [if_pos c8, if_pos c8]
    unfold cutC
    rw [hl]
    cases h : B.look x.f1 with
    | bad => exact ⟨rfl, s⟩
    | none => exact ⟨rfl, s⟩
    | some m y =>
      obtain rfl := fin h
      simp only
      split
      · exact ⟨rfl, s⟩
      · exact ⟨rfl, s.put hn _⟩
  rw [if_neg c8, if_neg c8]
  exact ⟨rfl, s⟩
theorem Sim.looks {n : Nat} {A B : AN} (s : Sim n A B) : A.heard n = B.heard n ∧ A.is n = B.is n ∧ A.under n = B.under n := by
  unfold heard is under
  rw [s.look]
  exact ⟨rfl, rfl, rfl⟩
end AN
section
variable {h0 h : H} {b : Nat} {A : AN} {B : Nat} {Rs Ps : List HP}
theorem zeros_spec (S : SS h0 h Rs) {n : Int} (hn : ∃ m : Nat, n = (m : Int) ∧ m ≤ 2000000) {Q : ByteArray → H → Prop} (k : ∀ h', SS h0 h' Rs → Q (zB n) h') : mk u8.n 1 5 (u8.enc 0) n n h fun x h5 => rd (b2s x h5) fun y => Q y h5 := by
  obtain ⟨m, rfl, hm⟩ := hn
  refine SG.own (K := u8) (n := m) (z := 0) (by decide) S (by omega) (by omega) fun s h' S' => ?_
  refine rd_some (ownP.rds S' 0 rfl).b2s ?_
  have := k h' (SG.tail S')
  unfold zB at this
  rw [Int.toNat_natCast] at this
  exact this
/-- One step: the net at the list's i-th place. -/
theorem did_spec (ok : A.Ok B) (hB : B ≤ 10000000000) (x : S48) {ys : List Int} (R : Rds u8 h0 x.f2 ys) (hy : ys.length ≤ 140737488351232) (S : SS h0 h (netP b A :: Rs)) {Q : Int × ByteArray → H → Prop}
    (k : ∀ h', SS h0 h' (netP b (A.did x ys).2 :: Rs) → Q (A.did x ys).1 h') : spatelaw16_did (some ⟨b, 0, none⟩) x h Q := by
  unfold spatelaw16_did
  refine SG.var S (K := k48) (x := x) fun q h1 S1 _ => ?_
  have f0 : ld (kI .i64) ⟨q, 0, none⟩ h1 = some x.f0 := varP.ld S1 fs_kind 0 rfl
  have f1 : ld (kI .i64) ⟨q, 1, none⟩ h1 = some x.f1 := varP.ld S1 fs_c 0 rfl
  have f2 : ld kL ⟨q, 2, none⟩ h1 = some x.f2 := varP.ld S1 fs_b 0 rfl
  have f3 : ld (kI .i64) ⟨q, 3, none⟩ h1 = some x.f3 := varP.ld S1 fs_most 0 rfl
  unfold AN.did at k
  refine rd_some f0 (ite_b (fun c1 => ?_) fun c1 => ite_b (fun c2 => ?_) fun c2 => ite_b (fun c3 => ?_) fun c3 => ite_b (fun c4 => ?_) fun c4 => ite_b (fun c5 => ?_) fun c5 => ite_b (fun c6 => ?_) fun c6 => ite_b (fun c7 => ?_) fun c7 => ite_b (fun c8 => ?_) fun c8 => ?_)
  all_goals try simp only [beq_iff_eq, beq_eq_false_iff_ne, ne_eq] at c1
  all_goals try simp only [beq_iff_eq, beq_eq_false_iff_ne, ne_eq] at c2
  all_goals try simp only [beq_iff_eq, beq_eq_false_iff_ne, ne_eq] at c3
  all_goals try simp only [beq_iff_eq, beq_eq_false_iff_ne, ne_eq] at c4
  all_goals try simp only [beq_iff_eq, beq_eq_false_iff_ne, ne_eq] at c5
  all_goals try simp only [beq_iff_eq, beq_eq_false_iff_ne, ne_eq] at c6
  all_goals try simp only [beq_iff_eq, beq_eq_false_iff_ne, ne_eq] at c7
  all_goals try simp only [beq_iff_eq, beq_eq_false_iff_ne, ne_eq] at c8
  · rw [if_pos c1] at k
    exact rd_some f1 (SG.go1 S1 1 rfl (open_spec ok x.f1) fun _ h2 S2 => k h2 (SG.tail S2))
  · rw [if_neg c1, if_pos c2] at k
    exact rd_some f1 (rd_some f2 (SG.go1 S1 1 rfl (send_spec ok (c := x.f1) (R.ext (SS.e S1)) hy) fun _ h2 S2 => k h2 (SG.tail S2)))
  · rw [if_neg c1, if_neg c2, if_pos c3] at k
    exact rd_some f1 (rd_some f3 (SG.go1 S1 1 rfl (bring_spec ok x.f1 x.f3) fun _ h2 S2 => zeros_spec (SG.tail S2) (AN.bring_nat ok _ _) fun h3 S3 => k h3 S3))
  · rw [if_neg c1, if_neg c2, if_neg c3, if_pos c4] at k
    exact rd_some f1 (SG.go1 S1 1 rfl (take_spec ok x.f1) fun s h2 S2 => rd_some (ownP.rds S2 0 rfl).b2s (k h2 (SG.tail (SG.tail S2))))
  · rw [if_neg c1, if_neg c2, if_neg c3, if_neg c4, if_pos c5] at k
    exact rd_some f1 (rd_some f2 (SG.go1 S1 1 rfl (write_spec ok (c := x.f1) (R.ext (SS.e S1)) hy) fun _ h2 S2 => zeros_spec (SG.tail S2) (AN.write_nat ok _ _) fun h3 S3 => k h3 S3))
  · rw [if_neg c1, if_neg c2, if_neg c3, if_neg c4, if_neg c5, if_pos c6] at k
    exact rd_some f1 (rd_some f3 (SG.go1 S1 1 rfl (fetch_spec ok hB x.f1 x.f3) fun _ h2 S2 => zeros_spec (SG.tail S2) (AN.fetch_nat ok _ _) fun h3 S3 => k h3 S3))
  · rw [if_neg c1, if_neg c2, if_neg c3, if_neg c4, if_neg c5, if_neg c6, if_pos c7] at k
    exact rd_some f1 (SG.go1 S1 1 rfl (close_spec ok x.f1) fun _ h2 S2 => k h2 (SG.tail S2))
  · rw [if_neg c1, if_neg c2, if_neg c3, if_neg c4, if_neg c5, if_neg c6, if_neg c7, if_pos c8] at k
    exact rd_some f1 (SG.go1 S1 1 rfl (cut_spec ok x.f1) fun _ h2 S2 => k h2 (SG.tail S2))
  · rw [if_neg c1, if_neg c2, if_neg c3, if_neg c4, if_neg c5, if_neg c6, if_neg c7, if_neg c8] at k
    exact k h1 S1.tail
end
end Go.Proofs.Ytbdopnhfbjdegaa
