/- The flow under a law: what is kept, and what a local variable reads. -/
import Derived.Test.YtanpaamamfabkaaFlowK
import Derived.Test.YtanpaamamfabkaaRead
namespace Go.Proofs.Ytanpaamamfabkaa
open Go Go.Tr
set_option linter.unusedVariables false

structure RS (h0 h : H) (p : Addr) (A : AF) (F : Nat → Prop) : Prop where
  R : FRep h p A F
  e : Ext h0 h
  n : ∀ b, F b → h0.size ≤ b
theorem RS.step {h0 h h' : H} {p : Addr} {A A' : AF} {F F' : Nat → Prop} (r : RS h0 h p A F) (R' : FRep h' p A' F') (f : Frm F F' h h') : RS h0 h' p A' F' :=
  ⟨R', ⟨Nat.le_trans r.e.1 f.size, fun b hb => by
    rw [f.keep b (Nat.lt_of_lt_of_le hb r.e.1) (fun hF => by have := r.n b hF; omega), r.e.2 b hb]⟩,
   fun b hb => by
    rcases f.new b hb with h1 | h1
    · exact r.n b h1
    · exact Nat.le_trans r.e.1 h1⟩
theorem RS.ext {h0 h h' : H} {p : Addr} {A : AF} {F : Nat → Prop} (r : RS h0 h p A F) (e : Ext h h') : RS h0 h' p A F := ⟨r.R.ext e, r.e.trans e, r.n⟩

/-- A local variable beside the flow. -/
structure Loc {α : Type} (K : Kd α) (F : Nat → Prop) (h : H) (b : Nat) (x : α) : Prop where
  V : Var K h b x
  nF : ¬ F b
  lt : b < h.size
theorem Loc.step {α : Type} {K : Kd α} {F F' : Nat → Prop} {h h' : H} {b : Nat} {x : α} (L : Loc K F h b x) (f : Frm F F' h h') : Loc K F' h' b x :=
  ⟨L.V.same (f.keep b L.lt L.nF), fun hF => by
    rcases f.new b hF with h1 | h1
    · exact L.nF h1
    · have := L.lt; omega, Nat.lt_of_lt_of_le L.lt f.size⟩
theorem Loc.ext {α : Type} {K : Kd α} {F : Nat → Prop} {h h' : H} {b : Nat} {x : α} (L : Loc K F h b x) (e : Ext h h') : Loc K F h' b x :=
  ⟨L.V.same (e.2 b L.lt), L.nF, Nat.lt_of_lt_of_le L.lt e.1⟩
/-- A cell made and written, beside the flow. -/
theorem RS.cell {α : Type} {K : Kd α} {t : TypeId} {z x : α} {h0 h : H} {p : Addr} {A : AF} {F : Nat → Prop} (r : RS h0 h p A F) (hK : Fld K K 0 id (fun _ v => v)) {Q : Addr → H → Prop}
    (k : ∀ b h', RS h0 h' p A F → Frm F F h h' → Loc K F h' b x → h'.size = h.size + 1 → Q ⟨b, 0, none⟩ h') : al t (K.enc z) h fun q h1 => rd (st K q x h1) fun h2 => Q q h2 := by
  refine al_var fun b h1 eb V1 e1 z1 => ?_
  obtain ⟨h2, s2, V2, O2⟩ := V1.st hK x
  have f : Frm F F h h2 := ⟨by rw [O2.1]; exact e1.1, fun b hb _ => by rw [O2.2 b (by omega), e1.2 b hb], fun _ h => .inl h⟩
  have R2 : FRep h2 p A F := (r.R.ext e1).frame (by rw [O2.1]; exact Nat.le_refl _) fun b hb _ => O2.2 b (fun e => by have := r.R.lt b hb; omega)
  exact rd_some s2 (k b h2 (r.step R2 f) f ⟨V2, fun hF => by have := r.R.lt b hF; omega, by rw [O2.1]; omega⟩ (by rw [O2.1]; exact z1))

def w32 (x : S32) : Prop := True ∧ x.f1.size ≤ maxLen ∧ (Lit.int .i64 x.f2).wf = true ∧ (Lit.int .i64 x.f3).wf = true
def w34 (x : S34) : Prop := (Lit.int .i64 x.f0).wf = true ∧ (Lit.int .i64 x.f1).wf = true ∧ w32 x.f2
theorem op33 : Opens Try.prog 33 k32 w32 :=
  opens_struct (total := 4) (fun _ h => h) Try.underlying33 (by kernel_rfl) (opensF_cons (opens_bool Try.underlying4) rfl (by kernel_rfl) (opensF_cons (opens_string Try.underlying9) rfl (by kernel_rfl) (opensF_cons (opens_int Try.underlying2) rfl (by kernel_rfl) (opensF_last (opens_int Try.underlying2) rfl (by kernel_rfl) rfl))))
theorem op35 : Opens Try.prog 35 k34 w34 :=
  opens_struct (total := 6) (fun _ h => h) Try.underlying35 (by kernel_rfl) (opensF_cons (opens_int Try.underlying3) rfl (by kernel_rfl) (opensF_cons (opens_int Try.underlying3) rfl (by kernel_rfl) (opensF_last op33 rfl (by kernel_rfl) rfl)))
namespace AF
theorem put_most (A : AF) (s : Int) (x : Item) : (A.put s x).2.most = A.most := by
  unfold put; split
  · rfl
  · unfold putQ; split
    · rfl
    · split
      · rfl
      · split <;> rfl
theorem put_bs (A : AF) (s : Int) (x : Item) : (A.put s x).2.bs = A.bs := by
  unfold put; split
  · rfl
  · unfold putQ; split
    · rfl
    · split
      · rfl
      · split <;> rfl
theorem pass_most (A : AF) (s : Int) : (A.pass s).2.most = A.most := by
  unfold pass; split
  · rfl
  · unfold passQ; simp only; split
    · rfl
    · split
      · split <;> rfl
      · rfl
theorem take_most (A : AF) (s : Int) : (A.take s).2.most = A.most := by
  unfold take; split
  · rfl
  · unfold takeQ; split <;> rfl
theorem put_queued (A : AF) (s : Int) (x : Item) : (A.put s x).2.queued s = if (A.put s x).1 = 0 then A.queued s + 1 else A.queued s := by
  unfold put queued
  split
  · rfl
  · unfold putQ
    cases hq : A.qs[s.toNat]? with
    | none => simp [hq]
    | some q =>
      have hi : s.toNat < A.qs.length := (List.getElem?_eq_some_iff.1 hq).1
      by_cases hm : mayA x = 0
      · by_cases h6 : q.1.length = 65536
        · simp [hm, h6, hq]
        · simp [hm, h6, List.getElem?_set_self hi]
      · simp [hm, hq]
theorem boxed_le {A : AF} (o : A.Ok) (s : Int) : A.boxed s ≤ A.most := by
  unfold boxed
  split
  · omega
  · split
    · omega
    · rename_i b hb
      have := o.bl _ _ hb
      omega
theorem toward_range {A : AF} (o : A.Ok) {s : Int} (h : (A.toward s).2 = 0) : 0 ≤ (A.toward s).1 ∧ (A.toward s).1.toNat < A.bs.length := by
  unfold toward at *
  split at h
  · cases h
  · rename_i hs
    rw [if_neg hs]
    unfold towardQ at *
    split at h
    · cases h
    · cases h
    · rename_i x r to hq
      have := (o.ql _ _ hq).2
      have h2 := routeA_range x.f1 (m := A.bs.length) o.b1
      split <;> simp_all <;> omega
theorem pass_room {A : AF} (o : A.Ok) {s : Int} (h : (A.toward s).2 = 0) :
    (A.pass s = ((0, 45), A) ∧ A.boxed (A.toward s).1 = A.most) ∨
    ((A.pass s).1 = ((A.toward s).1, 0) ∧ A.boxed (A.toward s).1 < A.most ∧ (A.pass s).2.boxed (A.toward s).1 = A.boxed (A.toward s).1 + 1) := by
  obtain ⟨h0, h1⟩ := toward_range o h
  unfold pass
  unfold toward at *
  split at h
  · cases h
  · rename_i hs
    rw [if_neg hs] at *
    have hq : ∃ x r to, A.qs[s.toNat]? = some (x :: r, to) := by
      unfold towardQ at h
      split at h
      · cases h
      · cases h
      · rename_i x r to hq; exact ⟨x, r, to, hq⟩
    obtain ⟨x, r, to, hq⟩ := hq
    obtain ⟨b, hb⟩ : ∃ b, A.bs[(A.towardQ s.toNat).1.toNat]? = some b := ⟨_, List.getElem?_eq_getElem h1⟩
    have e : ¬ (A.towardQ s.toNat).1 < 0 := by omega
    have bl := o.bl _ _ hb
    unfold passQ
    simp only [h, hq, hb, if_neg hs]
    unfold boxed
    rw [if_neg e, hb]
    by_cases hm : b.length = A.most
    · left; simp [hm]
    · right
      have hj : (A.towardQ s.toNat).1.toNat < A.bs.length := (List.getElem?_eq_some_iff.1 hb).1
      simp [hm, e, List.getElem?_set_self hj]; omega
theorem pass_err {A : AF} {s : Int} (h : (A.toward s).2 ≠ 0) : (A.pass s).1.2 = (A.toward s).2 := by
  unfold pass
  unfold toward at *
  split at h
  · rename_i hs; simp [hs]
  · rename_i hs
    rw [if_neg hs] at *
    unfold passQ
    simp [h, hs]
theorem take_room {A : AF} (s : Int) : ((A.take s).1.2.2 = 0 ∧ 0 < A.boxed s ∧ (A.take s).2.boxed s = A.boxed s - 1) ∨ ((A.take s).1.2.2 ≠ 0 ∧ A.boxed s = 0) := by
  unfold take boxed
  split
  · right; simp
  · unfold takeQ
    split
    · rename_i h; right; simp [h]
    · rename_i h; right; simp [h]
    · rename_i m r hb
      left
      have hj : s.toNat < A.bs.length := (List.getElem?_eq_some_iff.1 hb).1
      simp [hb, List.getElem?_set_self hj]
end AF
end Go.Proofs.Ytanpaamamfabkaa
