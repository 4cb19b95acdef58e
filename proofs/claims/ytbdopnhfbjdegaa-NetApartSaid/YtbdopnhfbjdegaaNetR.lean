/- The document's net in memory, against the same lists. -/
import Derived.Test.YtbdopnhfbjdegaaNetP
import Derived.Test.YtbdopnhfbjdegaaG3
import Derived.Test.YtbdopnhfbjdegaaG4
import Derived.Test.YtbdopnhfbjdegaaG5
import Derived.Test.YtbdopnhfbjdegaaG6
import Derived.Test.YtbdopnhfbjdegaaG7
namespace Go.Proofs.Ytbdopnhfbjdegaa
open Go Go.Tr
set_option linter.unusedVariables false
theorem fr_in : Fld k82 (kI .i64) 0 (·.f0) (fun x v => { x with f0 := v }) := (Fld.whole _).fst.iso
theorem fr_out : Fld k82 (kI .i64) 1 (·.f1) (fun x v => { x with f1 := v }) := (Fld.whole _).fst.snd.iso
theorem fr_l : Fld k82 kL 2 (·.f2) (fun x v => { x with f2 := v }) := (Fld.whole _).fst.snd.snd.iso
theorem fr_moved : Fld k82 (kI .i64) 3 (·.f3) (fun x v => { x with f3 := v }) := (Fld.whole (kI .i64)).snd.snd.snd.iso
theorem fw_there : Fld k97 kB 0 (·.f0) (fun x v => { x with f0 := v }) := (Fld.whole kB).fst.iso
theorem fw_closed : Fld k97 kB 1 (·.f1) (fun x v => { x with f1 := v }) := (Fld.whole kB).fst.snd.iso
theorem fw_cut : Fld k97 kB 2 (·.f2) (fun x v => { x with f2 := v }) := (Fld.whole kB).fst.snd.snd.iso
theorem fw_way : Fld k97 kL 3 (·.f3) (fun x v => { x with f3 := v }) := (Fld.whole kL).fst.snd.snd.snd.iso
theorem fw_in : Fld k97 kL 4 (·.f4) (fun x v => { x with f4 := v }) := (Fld.whole kL).fst.snd.snd.snd.snd.iso
theorem fw_out : Fld k97 kL 5 (·.f5) (fun x v => { x with f5 := v }) := (Fld.whole kL).fst.snd.snd.snd.snd.snd.iso
theorem fw_heard : Fld k97 kL 6 (·.f6) (fun x v => { x with f6 := v }) := (Fld.whole kL).snd.snd.snd.snd.snd.snd.iso

def rowL (w ib ob hd : Sl) (x : AC) : List HP := [ownP u8 w x.way, ownP u8 ib x.inb, ownP u8 ob x.out, ownP u8 hd x.heard]
def rowP (r : S97) : Option AC → HP
  | none => HP.and (r = z97) HP.emp
  | some x => HP.and (r.f0 = true ∧ r.f1 = x.closed ∧ r.f2 = x.cut) (HP.all (rowL r.f3 r.f4 r.f5 r.f6 x))
def rcell (A : AN) (sl : Sl) : S82 := ⟨(A.i : Int), (A.o : Int), sl, A.moved⟩
def rows (A : AN) (rs : List S97) : List HP := List.zipWith rowP rs A.cs
def refP (b : Nat) (A : AN) : HP := HP.ex fun t : Sl × List S97 => HP.and (t.2.length = 65) (HP.all (varP k82 b (rcell A t.1) :: ownP k97 t.1 t.2 :: rows A t.2))
section
variable {F0 : Nat → Prop} {h0 h : H} {b : Nat} {A : AN} {B : Nat} {Rs Ps : List HP}
theorem ref_out (S : SG F0 h0 h (refP b A :: Rs)) : ∃ sl rs, rs.length = 65 ∧ SG F0 h0 h (varP k82 b (rcell A sl) :: ownP k97 sl rs :: rows A rs ++ Rs) := by
  obtain ⟨t, S⟩ := S.unex
  obtain ⟨hl, S⟩ := S.unand
  exact ⟨t.1, t.2, hl, S.flat⟩
theorem ref_in {sl : Sl} {rs : List S97} (hl : rs.length = 65) (S : SG F0 h0 h (varP k82 b (rcell A sl) :: ownP k97 sl rs :: rows A rs ++ Rs)) : SG F0 h0 h (refP b A :: Rs) := SG.toex (sl, rs) (SG.toand hl (SG.fold _ S))
theorem row_out (hl : A.cs.length = 65) {sl : Sl} {rs : List S97} (hrl : rs.length = 65) (S : SG F0 h0 h (varP k82 b (rcell A sl) :: ownP k97 sl rs :: rows A rs ++ Rs)) {n : Nat} (hn : n < 65) {x : AC} (hx : A.cs[n]'(by omega) = some x) :
    ∃ w ib ob hd, rs[n]? = some ⟨true, x.closed, x.cut, w, ib, ob, hd⟩ ∧ SG F0 h0 h (rowL w ib ob hd x ++ (varP k82 b (rcell A sl) :: ownP k97 sl rs :: (rows A rs).eraseIdx n ++ Rs)) := by
  have hc : n < (rows A rs).length := by simp [rows, hrl, hl]; exact hn
  have hr : n < rs.length := by omega
  have hz : (varP k82 b (rcell A sl) :: ownP k97 sl rs :: rows A rs ++ Rs)[n + 2]? = some (rowP rs[n] (some x)) := by
    rw [List.cons_append, List.cons_append, List.getElem?_cons_succ, List.getElem?_cons_succ, List.getElem?_append_left hc, List.getElem?_eq_getElem hc]
    simp [rows, hx]
  have S2 := S.front (n + 2) hz
  rw [List.cons_append, List.cons_append, List.eraseIdx_cons_succ, List.eraseIdx_cons_succ, List.eraseIdx_append_of_lt_length hc] at S2
  obtain ⟨⟨e1, e2, e3⟩, S3⟩ := S2.unand
  refine ⟨rs[n].f3, rs[n].f4, rs[n].f5, rs[n].f6, ?_, S3.flat⟩
  rw [List.getElem?_eq_getElem hr, ← e1, ← e2, ← e3]
theorem row_none (hl : A.cs.length = 65) {sl : Sl} {rs : List S97} (hrl : rs.length = 65) (S : SG F0 h0 h (varP k82 b (rcell A sl) :: ownP k97 sl rs :: rows A rs ++ Rs)) {n : Nat} (hn : n < 65) (hx : A.cs[n]'(by omega) = none) : rs[n]? = some z97 := by
  have hc : n < (rows A rs).length := by simp [rows, hrl, hl]; exact hn
  have hr : n < rs.length := by omega
  have hz : (varP k82 b (rcell A sl) :: ownP k97 sl rs :: rows A rs ++ Rs)[n + 2]? = some (rowP rs[n] none) := by
    rw [List.cons_append, List.cons_append, List.getElem?_cons_succ, List.getElem?_cons_succ, List.getElem?_append_left hc, List.getElem?_eq_getElem hc]
    simp [rows, hx]
  obtain ⟨F, p, _⟩ := S.at (n + 2) hz
  rw [List.getElem?_eq_getElem hr]
  exact congrArg some p.1
theorem row_in (hl : A.cs.length = 65) {sl : Sl} {rs : List S97} (hrl : rs.length = 65) {n : Nat} (hn : n < 65) {x : AC} {w ib ob hd : Sl}
    (S : SG F0 h0 h (rowL w ib ob hd x ++ (varP k82 b (rcell A sl) :: ownP k97 sl (rs.set n ⟨true, x.closed, x.cut, w, ib, ob, hd⟩) :: (rows A rs).eraseIdx n ++ Rs))) : SG F0 h0 h (refP b (A.put n x) :: Rs) := by
  have hc : n < (rows A rs).length := by simp [rows, hrl, hl]; exact hn
  have S2 : SG F0 h0 h (rowP ⟨true, x.closed, x.cut, w, ib, ob, hd⟩ (some x) :: (varP k82 b (rcell A sl) :: ownP k97 sl (rs.set n ⟨true, x.closed, x.cut, w, ib, ob, hd⟩) :: (rows A rs).eraseIdx n ++ Rs)) := SG.toand ⟨rfl, rfl, rfl⟩ (SG.fold _ S)
  have e1 : (varP k82 b (rcell A sl) :: ownP k97 sl (rs.set n ⟨true, x.closed, x.cut, w, ib, ob, hd⟩) :: (rows A rs).eraseIdx n ++ Rs) = (varP k82 b (rcell A sl) :: ownP k97 sl (rs.set n ⟨true, x.closed, x.cut, w, ib, ob, hd⟩) :: rows A rs ++ Rs).eraseIdx (n + 2) := by
    simp only [List.cons_append, List.eraseIdx_cons_succ]
    rw [List.eraseIdx_append_of_lt_length hc]
  rw [e1] at S2
  have S3 := SG.unfront (n + 2) (by simp; omega) S2
  refine ref_in (sl := sl) (rs := rs.set n ⟨true, x.closed, x.cut, w, ib, ob, hd⟩) (by simpa using hrl) ?_
  have e2 : (varP k82 b (rcell A sl) :: ownP k97 sl (rs.set n ⟨true, x.closed, x.cut, w, ib, ob, hd⟩) :: rows A rs ++ Rs).set (n + 2) (rowP ⟨true, x.closed, x.cut, w, ib, ob, hd⟩ (some x)) = varP k82 b (rcell (A.put n x) sl) :: ownP k97 sl (rs.set n ⟨true, x.closed, x.cut, w, ib, ob, hd⟩) :: rows (A.put n x) (rs.set n ⟨true, x.closed, x.cut, w, ib, ob, hd⟩) ++ Rs := by
    simp only [List.cons_append, List.set_cons_succ]
    rw [List.set_append_left _ _ hc]
    unfold rows
    rw [zipWith_set]
    rfl
  rw [e2] at S3
  exact S3
theorem ref_go (hl : A.cs.length = 65) (S : SG F0 h0 h (refP b A :: Rs)) (c : Int) {G : Prop}
    (bad : A.look c = .bad → (c < 1 ∨ 64 < c) → G)
    (non : ∀ (n : Nat) (sl : Sl) (rs : List S97) (a : Addr), A.look c = .none → c = n → 1 ≤ n → n ≤ 64 → rs.length = 65 → rs[n]? = some z97 → ixA 7 sl (n : Int) = some a → SG F0 h0 h (varP k82 b (rcell A sl) :: ownP k97 sl rs :: rows A rs ++ Rs) → G)
    (som : ∀ (n : Nat) (x : AC) (sl : Sl) (rs : List S97) (a : Addr) (w ib ob hd : Sl), A.look c = .some n x → c = n → 1 ≤ n → n ≤ 64 → rs.length = 65 → rs[n]? = some ⟨true, x.closed, x.cut, w, ib, ob, hd⟩ → ixA 7 sl (n : Int) = some a → SG F0 h0 h (rowL w ib ob hd x ++ (varP k82 b (rcell A sl) :: ownP k97 sl rs :: (rows A rs).eraseIdx n ++ Rs)) → G) : G := by
  rcases A.look_cases c hl with ⟨hk, hc⟩ | ⟨hk, n, rfl, h1, h2, hx⟩ | ⟨n, x, hk, rfl, h1, h2, hx⟩
  · exact bad hk hc
  · obtain ⟨sl, rs, hrl, S1⟩ := ref_out S
    obtain ⟨hlt, hx⟩ := List.getElem?_eq_some_iff.1 hx
    obtain ⟨a, ha⟩ := ownP.ix S1 1 rfl (j := n) (by omega) (n := 7) rfl
    exact non n sl rs a hk rfl h1 h2 hrl (row_none hl hrl S1 (by omega) hx) ha S1
  · obtain ⟨sl, rs, hrl, S1⟩ := ref_out S
    obtain ⟨hlt, hx⟩ := List.getElem?_eq_some_iff.1 hx
    obtain ⟨a, ha⟩ := ownP.ix S1 1 rfl (j := n) (by omega) (n := 7) rfl
    obtain ⟨w, ib, ob, hd, hr, S2⟩ := row_out hl hrl S1 (by omega) hx
    exact som n x sl rs a w ib ob hd hk rfl h1 h2 hrl hr ha S2

/-! the inner functions -/
theorem is_ok {n : Nat} (h1 : 1 ≤ n) (h2 : n ≤ 64) {Q : Bool → H → Prop} (k : Q true h) : spateref16_is (n : Int) h Q := by
  unfold spateref16_is
  refine jn_i (ite_t (by simp; omega) ?_)
  have : decide ((n : Int) ≤ 64) = true := by simp; omega
  rw [this]; exact k
theorem is_bad {c : Int} (hc : c < 1 ∨ 64 < c) {Q : Bool → H → Prop} (k : Q false h) : spateref16_is c h Q := by
  unfold spateref16_is
  refine jn_i (ite_b (fun e => ?_) (fun _ => k))
  have : decide (c ≤ 64) = false := by simp at e ⊢; omega
  rw [this]; exact k
theorem gone_bad {p : Option Addr} {c : Int} (hc : c < 1 ∨ 64 < c) (use : Bool) {Q : Int → H → Prop} (k : Q 1 h) : spateref16_Net_gone p c use h Q := by
  unfold spateref16_Net_gone
  exact is_bad hc (ite_t rfl k)
def goneE (r : S97) (use : Bool) : Int := if !r.f0 || (use && (r.f2 || r.f1)) then 44 else 0
theorem gone_row (S : SG F0 h0 h Ps) (i j : Nat) {x : S82} {rs : List S97} (hi : Ps[i]? = some (varP k82 b x)) (hj : Ps[j]? = some (ownP k97 x.f2 rs)) {n : Nat} (h1 : 1 ≤ n) (h2 : n ≤ 64) {r : S97} (hr : rs[n]? = some r) {a : Addr} (ha : ixA 7 x.f2 (n : Int) = some a) (use : Bool) {Q : Int → H → Prop}
    (k : ∀ h', SG F0 h0 h' Ps → Q (goneE r use) h') : spateref16_Net_gone (some ⟨b, 0, none⟩) (n : Int) use h Q := by
  unfold spateref16_Net_gone
  refine is_ok h1 h2 (ite_f rfl ?_)
  have hL : ld kL ⟨b, 2, none⟩ h = some x.f2 := varP.ld S fr_l i hi
  have hR : ld k97 a h = some r := by have := ownP.ldF (Fld.whole k97) S j hj hr (n := 7) rfl ha; simpa [Addr.add] using this
  refine rd_some rfl (rd_some (by rw [add_mk]; exact hL) (rd_some ha (rd_some hR ?_)))
  refine S.cell (K := k97) (x := r) fun b1 h3 S3 e3 => ?_
  have k' := k h3 S3.tail
  unfold goneE at k'
  have m0 : ld kB ⟨b1, 0, none⟩ h3 = some r.f0 := varP.ld S3 fw_there 0 rfl
  have m1 : ld kB ⟨b1, 1, none⟩ h3 = some r.f1 := varP.ld S3 fw_closed 0 rfl
  have m2 : ld kB ⟨b1, 2, none⟩ h3 = some r.f2 := varP.ld S3 fw_cut 0 rfl
  refine jn_c (!r.f0 || (use && (r.f2 || r.f1))) h3 (fun K hK => ?_) (ite_b (fun e => ?_) (fun e => ?_))
  · refine rd_some m0 (ite_b (fun e => ?_) (fun e => ?_))
    · rw [e, Bool.true_or] at hK; exact hK
    · rw [e, Bool.false_or] at hK
      refine ite_b (fun e2 => ?_) (fun e2 => ?_)
      · rw [e2, Bool.true_and] at hK
        refine rd_some m2 (ite_b (fun e3 => ?_) (fun e3 => ?_))
        · rw [e3, Bool.true_or] at hK; exact hK
        · rw [e3, Bool.false_or] at hK; exact rd_some m1 hK
      · rw [e2, Bool.false_and] at hK; exact hK
  · rw [if_pos e] at k'; exact k'
  · rw [if_neg (by rw [e]; simp)] at k'; exact k'
theorem join_spec (S : SG F0 h0 h Ps) {s t : Sl} {xs ys : List Int} (R1 : Rds u8 h s xs) (R2 : Rds u8 h t ys) (hb : xs.length + ys.length ≤ 100000000000000) {Q : Sl → H → Prop}
    (k : ∀ s' h', Ext h h' → SG F0 h0 h' (ownP u8 s' (xs ++ ys) :: Ps) → Q s' h') : spateref16_join s t h Q := by
  unfold spateref16_join
  have S0 : SS h h [] := SS.nil (Ext.refl h)
  refine SG.copied (K := u8) (by decide) S0 rfl rfl R1 (by omega) (by omega) fun s1 h1 e1 S1 => ?_
  refine ownP.app (K := u8) (by decide) S1 0 rfl (R2.ext e1) (by omega) (by omega) fun s2 h2 S2 => ?_
  exact k s2 h2 (SS.e S2) (SG.flat (S.take_in S2))
theorem part_spec (a0 a1 a2 : Int) {Q : Int → H → Prop} (k : Q (max 0 (min a2 (min a1 a0))) h) : spateref16_part a0 a1 a2 h Q := by
  unfold spateref16_part
  refine jn_c (min a1 a0) h (fun K hK => ite_b (fun e => ?_) (fun e => ?_)) ?_
  · have : min a1 a0 = a1 := by simp at e; omega
    rw [this] at hK; exact hK
  · have : min a1 a0 = a0 := by simp at e; omega
    rw [this] at hK; exact hK
  refine jn_c (min a2 (min a1 a0)) h (fun K hK => ite_b (fun e => ?_) (fun e => ?_)) ?_
  · have : min a2 (min a1 a0) = a2 := by simp only [decide_eq_true_eq] at e; omega
    rw [this] at hK; exact hK
  · have : min a2 (min a1 a0) = min a1 a0 := by simp only [decide_eq_false_iff_not] at e; omega
    rw [this] at hK; exact hK
  refine jn_c (max 0 (min a2 (min a1 a0))) h (fun K hK => ite_b (fun e => ?_) (fun e => ?_)) k
  · have : max 0 (min a2 (min a1 a0)) = 0 := by simp only [decide_eq_true_eq] at e; omega
    rw [this] at hK; exact hK
  · have : max 0 (min a2 (min a1 a0)) = min a2 (min a1 a0) := by simp only [decide_eq_false_iff_not] at e; omega
    rw [this] at hK; exact hK
end
end Go.Proofs.Ytbdopnhfbjdegaa
