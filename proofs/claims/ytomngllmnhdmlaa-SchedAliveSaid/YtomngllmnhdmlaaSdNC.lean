/- A round steps each that is ready. No heap. -/
import Derived.Test.YtomngllmnhdmlaaSdJC
namespace Go.Proofs.Ytomngllmnhdmlaa
open Go Go.Tr
set_option linter.unusedVariables false
theorem rdy_iff {ts : List TK} {i : Nat} : rdyB ts i = true ↔ ∃ t, ts[i]? = some t ∧ t.st = 1 := by
  unfold rdyB
  cases h : ts[i]? with
  | none => simp
  | some t => simp
theorem Qr.rdy {n i : Nat} {ts ts' : List TK} (q : Qr n ts ts') (hi : i ≠ n) (h : rdyB ts i = true) : rdyB ts' i = true := by
  obtain ⟨t, h1, h2⟩ := rdy_iff.1 h
  have hl : i < ts'.length := by
    have := (List.getElem?_eq_some_iff.1 h1).1
    have := q.1; omega
  refine rdy_iff.2 ⟨_, List.getElem?_eq_getElem hl, ?_⟩
  rcases q.2 i hi t _ h1 (List.getElem?_eq_getElem hl) with e | ⟨e, _⟩ <;> omega
theorem WS.step_Q {W : WS} {B N n : Nat} (o : W.Ok B N) (j : W.1.J) (h : rdyB W.1.ts n = true) : Qr n W.1.ts (W.step n).1.ts ∧ (W.step n).1.J := by
  obtain ⟨t, h1, h2⟩ := rdy_iff.1 h
  exact AS.step_Q j o.a h1 h2 _
def stepsW (W : WS) (l : List Int) : WS := l.foldl (fun W t => W.step t.toNat) W
theorem rfold_all : ∀ (l : List Int) (w : WS × Nat) (B N : Nat), w.1.Ok B N → w.1.1.J → l.Nodup → (∀ x ∈ l, ∃ n : Nat, x = n ∧ rdyB w.1.1.ts n = true) → l.foldl rstep w = (stepsW w.1 l, w.2 + l.length) ∧ (stepsW w.1 l).1.J
  | [], w, B, N, o, j, _, _ => ⟨rfl, j⟩
  | t :: l, w, B, N, o, j, nd, h => by
    obtain ⟨n, rfl, hn⟩ := h t List.mem_cons_self
    obtain ⟨nd1, nd2⟩ := List.nodup_cons.1 nd
    have e : rstep w (n : Int) = (w.1.step n, w.2 + 1) := by unfold rstep; rw [Int.toNat_natCast, if_pos hn]
    obtain ⟨q, j'⟩ := WS.step_Q o j hn
    have hl : n < w.1.1.ts.length := by
      obtain ⟨t, h1, _⟩ := rdy_iff.1 hn
      exact (List.getElem?_eq_some_iff.1 h1).1
    obtain ⟨h1, h2⟩ := rfold_all l (w.1.step n, w.2 + 1) _ _ (o.step hl) j' nd2 fun x hx => by
      obtain ⟨m, rfl, hm⟩ := h x (List.mem_cons_of_mem _ hx)
      refine ⟨m, rfl, q.rdy ?_ hm⟩
      rintro rfl
      exact nd1 hx
    refine ⟨?_, ?_⟩
    · rw [List.foldl_cons, e, h1]
      show (stepsW (w.1.step n) l, _) = (stepsW w.1 ((n : Int) :: l), _)
      refine Prod.ext rfl ?_
      show w.2 + 1 + l.length = w.2 + (l.length + 1)
      omega
    · exact h2
theorem ready_lt (ts : List TK) : (readyT ts).Pairwise fun a b => a < b := by
  unfold readyT readyTo
  rw [List.pairwise_map]
  refine List.Pairwise.imp (R := fun a b : Nat => a < b) (fun h => by omega) ?_
  exact (List.pairwise_lt_range).sublist List.filter_sublist
theorem ready_nd (ts : List TK) : (readyT ts).Nodup := (ready_lt ts).imp fun h => by omega
theorem ready_rdy {ts : List TK} {x : Int} (h : x ∈ readyT ts) : ∃ n : Nat, x = n ∧ rdyB ts n = true := by
  unfold readyT readyTo at h
  obtain ⟨n, hn, rfl⟩ := List.mem_map.1 h
  exact ⟨n, rfl, (List.mem_filter.1 hn).2⟩
theorem round_all {W : WS} {B N : Nat} (o : W.Ok B N) (j : W.1.J) : roundW W = (stepsW W (readyT W.1.ts), (readyT W.1.ts).length) ∧ (stepsW W (readyT W.1.ts)).1.J := by
  have h := rfold_all (readyT W.1.ts) (W, 0) B N o j (ready_nd _) fun x hx => ready_rdy hx
  refine ⟨?_, h.2⟩
  unfold roundW
  rw [h.1, Nat.zero_add]
theorem mvAt_ab {L : List PLY} {n : Nat} {x : Nat × List MV} (h : (L.map PLY.ab)[n]? = some x) : mvAtL L n = abMv x := by
  rw [List.getElem?_map] at h
  unfold mvAtL
  cases hp : L[n]? with
  | none => rw [hp] at h; cases h
  | some p =>
    rw [hp] at h
    have h : p.ab = x := by simpa using h
    show p.mv = _
    rw [mv_ab, h]
theorem bump_ab_at {L : List PLY} {n i : Nat} {x : Nat × List MV} (h : (L.map PLY.ab)[i]? = some x) : ((bump L n).map PLY.ab)[i]? = some (if n = i then (x.1 + 1, x.2) else x) := by
  rw [bump_ab, List.getElem?_modify, h]; rfl
theorem AS.eqv {A B : AS} (h : A.m.locks = B.m.locks ∧ A.m.has = B.m.has ∧ A.m.queue = B.m.queue ∧ A.ts = B.ts) : A = B := by
  obtain ⟨⟨a, b, c⟩, d⟩ := A
  obtain ⟨⟨a', b', c'⟩, d'⟩ := B
  obtain ⟨h1, h2, h3, h4⟩ := h
  simp only at h1 h2 h3 h4
  subst h1 h2 h3 h4; rfl
end Go.Proofs.Ytomngllmnhdmlaa
