/- The document's flow, over the heap: Pass, Empty, New. -/
import Derived.Test.YtanpaamamfabkaaFlowRef
namespace Go.Proofs.Ytanpaamamfabkaa
open Go Go.Tr
set_option linter.unusedVariables false
/-- Brought tells of a mark alone. -/
def AF.Z (A : AF) : Prop := ∀ (i : Nat) (q : List Item × Nat), A.qs[i]? = some q → q.2 ≠ 0 → ∃ y r, q.1 = y :: r ∧ y.f0 = true
theorem AF.Z.new (n m k : Nat) : (AF.new n m k).Z := fun i q h hz => by
  simp [AF.new, List.getElem?_replicate] at h
  obtain ⟨_, rfl⟩ := h
  simp at hz
theorem AF.Z.put {A : AF} (o : A.Z) (s : Int) (x : Item) : (A.put s x).2.Z := by
  by_cases h : (A.put s x).1 = 0
  · obtain ⟨i, q, rfl, hq, _, he⟩ := put_some h
    rw [he]
    intro i' q' h hz
    rcases getElem?_set_cases h with ⟨rfl, rfl⟩ | ⟨_, h⟩
    · obtain ⟨y, r, e1, e2⟩ := o _ _ hq hz
      exact ⟨y, r ++ [x], by simp [e1], e2⟩
    · exact o _ _ h hz
  · rw [put_none h]; exact o
theorem AF.Z.pass {A : AF} (o : A.Z) (ok : A.Ok) (s : Int) : (A.pass s).2.Z := by
  rcases pass_cases ok s with h | ⟨i, t, x, r, to, b, rfl, hq, hb, ht, h⟩
  · rw [h]; exact o
  · rw [h]
    intro i' q' h' hne
    rcases getElem?_set_cases h' with ⟨rfl, rfl⟩ | ⟨_, h'⟩
    · cases hx : x.f0 with
      | false => simp [AF.onward, hx] at hne
      | true =>
        simp only [AF.onward, hx, if_true] at hne ⊢
        split
        · exact ⟨x, r, rfl, hx⟩
        · rename_i hlt; rw [if_neg hlt] at hne; exact absurd rfl hne
    · exact o _ _ h' hne
theorem AF.Z.take {A : AF} (o : A.Z) (s : Int) : (A.take s).2.Z := by
  rcases take_cases A s with ⟨_, h⟩ | ⟨j, m, r, rfl, hb, _, h⟩
  · rw [h]; exact o
  · rw [h]; exact o
theorem pass_refused {A : AF} {s : Int} (h : (A.toward s).2 ≠ 0) : A.pass s = ((0, (A.toward s).2), A) := by
  unfold AF.pass
  unfold AF.toward at *
  split at h
  · rename_i hs; simp [hs]
  · rename_i hs
    rw [if_neg hs] at *
    unfold AF.passQ
    simp [h, hs]
theorem pass_full {A : AF} (o : A.Ok) {s : Int} (h : (A.toward s).2 = 0) : ∃ (i t : Nat) (x : Item) (r : List Item) (to : Nat) (b : List Msg), s = (i : Int) ∧ A.qs[i]? = some (x :: r, to) ∧ A.bs[t]? = some b ∧ A.toward s = ((t : Int), 0) ∧ (x.f0 = true → t = to) ∧
    A.pass s = if b.length = A.most then ((0, 45), A) else (((t : Int), 0), { A with qs := A.qs.set i (AF.onward A.bs.length (x :: r, to)), bs := A.bs.set t (b ++ [⟨(i : Int), x⟩]) }) := by
  rcases source_cases A s with hs | ⟨i, rfl, hi⟩
  · rw [toward_bad hs] at h; cases h
  · have hr := AF.toward_range o h
    have hn : ¬ ((i : Int) < 0) := by omega
    have e : A.toward (i : Int) = A.towardQ i := by unfold AF.toward; rw [if_neg hn, Int.toNat_natCast]
    rw [e] at h hr ⊢
    have hq : ∃ x r to, A.qs[i]? = some (x :: r, to) := by
      unfold AF.towardQ at h
      split at h
      · cases h
      · cases h
      · rename_i x r to hq; exact ⟨x, r, to, hq⟩
    obtain ⟨x, r, to, hq⟩ := hq
    have hb : A.bs[(A.towardQ i).1.toNat]? = some A.bs[(A.towardQ i).1.toNat] := List.getElem?_eq_getElem hr.2
    refine ⟨i, (A.towardQ i).1.toNat, x, r, to, _, rfl, hq, hb, ?_, ?_, ?_⟩
    · have : ((A.towardQ i).1.toNat : Int) = (A.towardQ i).1 := by omega
      rw [this, ← h]
    · intro hx
      unfold AF.towardQ
      rw [hq]
      simp [hx]
    · unfold AF.pass
      rw [if_neg hn, Int.toNat_natCast]
      unfold AF.passQ
      have : ((A.towardQ i).1.toNat : Int) = (A.towardQ i).1 := by omega
      simp only [hb, hq]
      rw [if_neg (by rw [h]; simp), this]
theorem set_same {α β : Type} (f : α → β) (l : List α) (i : Nat) (a : α) (v : β) (h : l[i]? = some a) (e : f a = v) : (l.map f).set i v = l.map f := by
  apply List.ext_getElem?
  intro j
  have hi : i < l.length := (List.getElem?_eq_some_iff.1 h).1
  by_cases x : i = j
  · subst x
    rw [List.getElem?_set_self (by simpa using hi), List.getElem?_map, h, ← e]; rfl
  · rw [List.getElem?_set_ne x]
section
variable {F0 : Nat → Prop} {h0 h : H} {b : Nat} {sq sb st : Sl} {A : AF}
theorem ref_pass (ok : A.Ok) (z : A.Z) (S : SG F0 h0 h (refL b sq sb st A)) (s : Int) {Q : (Int × Int) → H → Prop} (k : ∀ h', SG F0 h0 h' (refL b sq sb st (A.pass s).2) → Q (A.pass s).1 h') : spateref15_Flow_Pass (some ⟨b, 0, none⟩) s h Q := by
  unfold spateref15_Flow_Pass
  refine ref_toward ok S s fun h1 S1 => ?_
  obtain ⟨l1, l2⟩ := refL.lens S1
  by_cases hg : (A.toward s).2 = 0
  · obtain ⟨i, t, x, r, to, bx, rfl, hq, hb, htw, hxt, hp⟩ := pass_full ok hg
    rw [htw]
    have hi : i < A.qs.length := (List.getElem?_eq_some_iff.1 hq).1
    have ht : t < A.bs.length := (List.getElem?_eq_some_iff.1 hb).1
    have hqe : A.qs[i] = (x :: r, to) := by have := List.getElem?_eq_getElem hi; rw [hq] at this; exact (Option.some.inj this).symm
    have hbe : A.bs[t] = bx := by have := List.getElem?_eq_getElem ht; rw [hb] at this; exact (Option.some.inj this).symm
    have hbl := ok.bl _ _ hb
    have hm64 := ok.m64
    have hql := ok.ql _ _ hq
    have hb8 := ok.b8
    obtain ⟨q2, c2, hq2, hc2, _, o2⟩ := gridP.get (K := k51) S1 2 rfl (j := t) (by simpa using ht)
    have ol2 := o2.len
    simp only [List.getElem_map, hbe] at ol2
    have ol2' : c2.len = bx.length := by rw [ol2]; simp [conv]
    have hB1 : ld kL (Addr.add ⟨b, 0, none⟩ 2) h1 = some sb := varP.ld S1 fr_boxes 0 rfl
    refine ite_f rfl (rd_some rfl (rd_some hB1 (rd_some hq2 (rd_some hc2 (rd_some rfl (rd_some (varP.ld S1 fr_box 0 rfl) ?_))))))
    by_cases hfull : bx.length = A.most
    · rw [if_pos hfull] at hp
      refine ite_t (by rw [ol2']; simp; omega) ?_
      have := k h1 (by rw [hp]; exact S1)
      rw [hp] at this; exact this
    · rw [if_neg hfull] at hp
      rw [hp] at k
      refine ite_f (by rw [ol2']; simp; omega) ?_
      obtain ⟨q5, c5, hq5, hc5, _, o5⟩ := gridP.get (K := k32) S1 1 rfl (j := i) (by simpa using hi)
      simp only [List.getElem_map, hqe] at o5
      obtain ⟨a6, ha6, hl6⟩ := get_all o5 (i := 0) (by simp) (n := 4) rfl
      have hQ1 : ld kL (Addr.add ⟨b, 0, none⟩ 1) h1 = some sq := varP.ld S1 fr_queues 0 rfl
      refine rd_some rfl (rd_some hQ1 (rd_some hq5 (rd_some hc5 (rd_some ha6 (rd_some hl6 (S1.cell (K := k32) (x := x) fun b7 h3 S3 e3 => ?_))))))
      have hB3 : ld kL (Addr.add ⟨b, 0, none⟩ 2) h3 = some sb := varP.ld S3 fr_boxes 1 rfl
      obtain ⟨q10, c10, hq10, hc10, _, _⟩ := gridP.get (K := k51) S3 3 rfl (j := t) (by simpa using ht)
      refine rd_some rfl (rd_some hB3 (rd_some rfl (rd_some hB3 (rd_some hq10 (rd_some hc10 (rd_some (varP.ld S3 (Fld.whole k32) 0 rfl) ?_))))))
      have hcb : ((A.bs.map conv)[t]'(by simpa using ht)) = conv bx := by simp [hbe]
      have hcl : ((A.bs.map conv)[t]'(by simpa using ht)).length = bx.length := by rw [hcb]; simp [conv]
      refine gridP.app (K := k51) (by decide) S3 3 rfl (by simpa using ht) (⟨(i : Int), x⟩ : Tk) hq10 hc10 (by rw [hcl]; omega) (by rw [hcl]; omega) fun c' h5 S5 => ?_
      rw [hcb] at S5
      have S5' : SG F0 h0 h5 [varP k32 b7 x, varP k65 b ⟨(A.most : Int), sq, sb, st⟩, gridP k32 sq (A.qs.map (·.1)), gridM k51 sb t c' ((A.bs.map conv).set t (conv bx ++ [⟨(i : Int), x⟩])), ownP (kI .i64) st (A.qs.map toI)] := S5
      obtain ⟨q11, h6, hq11, hs11, S6⟩ := gridM.st S5' 3 rfl (by simpa using ht)
      refine ⟨varP.ld S5' fr_boxes 1 rfl, rd_some hq11 (rd_some hs11 ?_)⟩
      have ebs : (A.bs.map conv).set t (conv bx ++ [⟨(i : Int), x⟩]) = (A.bs.set t (bx ++ [⟨(i : Int), x⟩])).map conv := by rw [List.map_set]; simp [conv]
      have S6' : SG F0 h0 h6 [varP k32 b7 x, varP k65 b ⟨(A.most : Int), sq, sb, st⟩, gridP k32 sq (A.qs.map (·.1)), gridP k51 sb ((A.bs.set t (bx ++ [⟨(i : Int), x⟩])).map conv), ownP (kI .i64) st (A.qs.map toI)] := by rw [← ebs]; exact S6
      -- the head goes
      have last : ∀ h7 tos, SG F0 h0 h7 [varP k32 b7 x, varP k65 b ⟨(A.most : Int), sq, sb, st⟩, gridP k32 sq (A.qs.map (·.1)), gridP k51 sb ((A.bs.set t (bx ++ [⟨(i : Int), x⟩])).map conv), ownP (kI .i64) st tos] →
          tos = ((A.qs.set i (r, 0)).map toI) → AF.onward A.bs.length (x :: r, to) = (r, 0) →
          rd (some (⟨b, 0, none⟩ : Addr)) fun q12 => rd (ld kL (q12.add 1) h7) fun x13 => rd (some (⟨b, 0, none⟩ : Addr)) fun q13 => rd (ld kL (q13.add 1) h7) fun x14 => rd (ixA 1 x14 (i : Int)) fun q14 => rd (ld kL q14 h7) fun x15 => rd (slx 4 x15 (some 1) none none) fun x16 =>
            bs 33 0 [] h7 fun x17 h8 => ap k32.n 40 33 (k32.enc z32) x17 x16 h8 fun x18 h9 => ld kL (q12.add 1) h9 = some x13 ∧ rd (ixA 1 x13 (i : Int)) fun q15 => rd (Tr.st kL q15 x18 h9) fun h10 => Q ((t : Int), 0) h10 := by
        intro h7 tos S7 htos hon
        have hQ7 : ld kL (Addr.add ⟨b, 0, none⟩ 1) h7 = some sq := varP.ld S7 fr_queues 1 rfl
        obtain ⟨q14, c14, hq14, hc14, _, _⟩ := gridP.get (K := k32) S7 2 rfl (j := i) (by simpa using hi)
        refine rd_some rfl (rd_some hQ7 (rd_some rfl (rd_some hQ7 (rd_some hq14 (rd_some hc14 ?_)))))
        have hql' : r.length + 1 ≤ 65536 := by have := hql.1; simpa using this
        refine gridP.cut (K := k32) (by decide) S7 2 rfl (by simpa using hi) (x := x) (r := r) (by simp [hqe]) rfl hq14 hc14 (by omega) (by omega) fun c' h9 S9 _ => ?_
        have S9' : SG F0 h0 h9 [varP k32 b7 x, varP k65 b ⟨(A.most : Int), sq, sb, st⟩, gridM k32 sq i c' ((A.qs.map (·.1)).set i r), gridP k51 sb ((A.bs.set t (bx ++ [⟨(i : Int), x⟩])).map conv), ownP (kI .i64) st tos] := S9
        obtain ⟨q15, h10, hq15, hs15, S10⟩ := gridM.st S9' 2 rfl (by simpa using hi)
        refine ⟨varP.ld S9' fr_queues 1 rfl, rd_some hq15 (rd_some hs15 (k h10 ?_))⟩
        rw [hon]
        unfold refL
        have S10' := SG.tail S10
        rw [htos] at S10'
        have e1 : (A.qs.map (·.1)).set i r = (A.qs.set i (r, 0)).map (·.1) := by rw [List.map_set]
        rw [e1] at S10'
        exact S10'
      refine jn_i (rd_some (varP.ld S6' fi_mark 0 rfl) (ite_b (fun c => ?_) (fun c => ?_)))
      · have htt := hxt c
        subst htt
        obtain ⟨a17, ha17, hl17⟩ := ownP.get (K := kI .i64) S6' 4 rfl (j := i) (by simpa using hi) (n := 1) rfl
        have hto : (A.qs.map toI)[i]'(by simpa using hi) = (t : Int) := by simp [hqe, toI]
        rw [hto] at hl17
        have hw : IntKind.i64.wrap ((t : Int) + 1) = ((t + 1 : Nat) : Int) := (wrap64_id (by omega) (by omega)).trans (by omega)
        obtain ⟨a18, h11, ha18, hs18, S11⟩ := ownP.set (K := kI .i64) S6' 4 rfl (j := i) (by simpa using hi) ((t + 1 : Nat) : Int) (n := 1) rfl
        have hT6 : ld kL (Addr.add ⟨b, 0, none⟩ 3) h6 = some st := varP.ld S6' fr_brought 1 rfl
        refine rd_some rfl (rd_some hT6 (rd_some ha17 (rd_some hl17 (rd_some ha18 ?_))))
        rw [hw]
        refine rd_some hs18 ?_
        have S11' : SG F0 h0 h11 [varP k32 b7 x, varP k65 b ⟨(A.most : Int), sq, sb, st⟩, gridP k32 sq (A.qs.map (·.1)), gridP k51 sb ((A.bs.set t (bx ++ [⟨(i : Int), x⟩])).map conv), ownP (kI .i64) st ((A.qs.map toI).set i ((t + 1 : Nat) : Int))] := S11
        have hT11 : ld kL (Addr.add ⟨b, 0, none⟩ 3) h11 = some st := varP.ld S11' fr_brought 1 rfl
        have hB11 : ld kL (Addr.add ⟨b, 0, none⟩ 2) h11 = some sb := varP.ld S11' fr_boxes 1 rfl
        obtain ⟨a20, ha20, hl20⟩ := ownP.get (K := kI .i64) S11' 4 rfl (j := i) (by simpa using hi) (n := 1) rfl
        rw [List.getElem_set_self] at hl20
        refine rd_some rfl (rd_some hT11 (rd_some ha20 (rd_some hl20 (rd_some rfl (rd_some hB11 ?_)))))
        rw [l2]
        refine ite_b (fun c2 => ?_) (fun c2 => ?_)
        · have hlt : t + 1 < A.bs.length := by simp at c2; omega
          refine k h11 ?_
          have hon : AF.onward A.bs.length (x :: r, t) = (x :: r, t + 1) := by simp only [AF.onward, c, if_true]; rw [if_pos hlt]
          rw [hon]
          unfold refL
          have e1 : (A.qs.set i (x :: r, t + 1)).map (·.1) = A.qs.map (·.1) := by rw [List.map_set]; exact set_same _ _ _ _ _ hq rfl
          have e2 : (A.qs.set i (x :: r, t + 1)).map toI = (A.qs.map toI).set i ((t + 1 : Nat) : Int) := by rw [List.map_set]; rfl
          show SG F0 h0 h11 [varP k65 b ⟨(A.most : Int), sq, sb, st⟩, gridP k32 sq ((A.qs.set i (x :: r, t + 1)).map (·.1)), gridP k51 sb ((A.bs.set t (bx ++ [⟨(i : Int), x⟩])).map conv), ownP (kI .i64) st ((A.qs.set i (x :: r, t + 1)).map toI)]
          rw [e1, e2]
          exact S11'.tail
        · have hge : ¬ t + 1 < A.bs.length := by simp at c2; omega
          obtain ⟨a23, h12, ha23, hs23, S12⟩ := ownP.set (K := kI .i64) S11' 4 rfl (j := i) (by simpa using hi) (0 : Int) (n := 1) rfl
          have S12' : SG F0 h0 h12 [varP k32 b7 x, varP k65 b ⟨(A.most : Int), sq, sb, st⟩, gridP k32 sq (A.qs.map (·.1)), gridP k51 sb ((A.bs.set t (bx ++ [⟨(i : Int), x⟩])).map conv), ownP (kI .i64) st (((A.qs.map toI).set i ((t + 1 : Nat) : Int)).set i 0)] := S12
          refine rd_some rfl (rd_some hT11 (rd_some ha23 (rd_some hs23 (last h12 _ S12' ?_ ?_))))
          · rw [List.set_set, List.map_set]; rfl
          · simp only [AF.onward, c, if_true]; rw [if_neg hge]
      · have hx : x.f0 = false := c
        have h0to : to = 0 := by
          rcases Nat.decEq to 0 with hne | e
          · obtain ⟨y, r', e1, e2⟩ := z _ _ hq hne
            simp at e1
            rw [← e1.1, hx] at e2; cases e2
          · exact e
        subst h0to
        refine last h6 _ S6' ?_ (by simp [AF.onward, hx])
        rw [List.map_set]; exact (set_same _ _ _ _ _ hq rfl).symm
  · rw [pass_refused hg] at k
    exact ite_t (by simpa using hg) (k h1 S1)
end
end Go.Proofs.Ytanpaamamfabkaa
