/- The program's net in memory, and what each of its calls does. -/
import Derived.Test.YtbdopnhfbjdegaaPart
import Derived.Test.YtbdopnhfbjdegaaNetA
import Derived.Test.YtbdopnhfbjdegaaG0
import Derived.Test.YtbdopnhfbjdegaaG1
import Derived.Test.YtbdopnhfbjdegaaG2
import Derived.Test.YtbdopnhfbjdegaaG3
import Derived.Test.YtbdopnhfbjdegaaG6
namespace Go.Proofs.Ytbdopnhfbjdegaa
open Go Go.Tr
set_option linter.unusedVariables false
abbrev u8 : Kd Int := kI .u8
/-! fields -/
theorem fn_in : Fld k66 (kI .i64) 0 (·.f0) (fun x v => { x with f0 := v }) := (Fld.whole _).fst.iso
theorem fn_out : Fld k66 (kI .i64) 1 (·.f1) (fun x v => { x with f1 := v }) := (Fld.whole _).fst.snd.iso
theorem fn_conns : Fld k66 (kA 65 kP) 2 (·.f2) (fun x v => { x with f2 := v }) := (Fld.whole _).fst.snd.snd.iso
theorem fn_moved : Fld k66 (kI .i64) 67 (·.f3.f2) (fun x v => { x with f3 := { x.f3 with f2 := v } }) := ((Fld.whole (kI .i64)).snd (A := k61)).snd (A := k61) |>.iso |>.snd |>.snd |>.snd |>.iso
theorem fn_conn (i : Nat) (hi : i < 65) : Fld k66 kP (2 + i * 1) (fun x => x.f2.l[i]'(by rw [x.f2.h]; exact hi)) (fun x v => { x with f2 := x.f2.set i v }) := fn_conns.comp (Fld.arr kP 65 i hi)
theorem fc_way : Fld k74 k70 0 (·.f0.f0) (fun x v => { x with f0 := { x.f0 with f0 := v } }) := (Fld.whole k70).fst.iso.fst.iso
theorem fc_inb : Fld k74 k70 2 (·.f0.f1) (fun x v => { x with f0 := { x.f0 with f1 := v } }) := (Fld.whole k70).snd.iso.fst.iso
theorem fc_out : Fld k74 k70 4 (·.f1) (fun x v => { x with f1 := v }) := (Fld.whole k70).fst.snd.iso
theorem fc_heard : Fld k74 kL 6 (·.f2) (fun x v => { x with f2 := v }) := (Fld.whole kL).fst.snd.snd.iso
theorem fc_closed : Fld k74 kB 7 (·.f3) (fun x v => { x with f3 := v }) := (Fld.whole kB).fst.snd.snd.snd.iso
theorem fc_cut : Fld k74 kB 8 (·.f4) (fun x v => { x with f4 := v }) := (Fld.whole kB).snd.snd.snd.snd.iso
theorem fb_bytes : Fld k70 kL 0 (·.f0) (fun x v => { x with f0 := v }) := (Fld.whole kL).fst.iso
theorem fb_room : Fld k70 (kI .i64) 1 (·.f1) (fun x v => { x with f1 := v }) := (Fld.whole (kI .i64)).snd.iso

/-! how it lies there -/
def connL (i o cb : Nat) (w ib ob hd : Sl) (x : AC) : List HP :=
  [varP k74 cb ⟨⟨⟨w, -1⟩, ⟨ib, (i : Int)⟩⟩, ⟨ob, (o : Int)⟩, hd, x.closed, x.cut⟩, ownP u8 w x.way, ownP u8 ib x.inb, ownP u8 ob x.out, ownP u8 hd x.heard]
def connP (i o : Nat) : Option Addr → Option AC → HP
  | none, none => HP.emp
  | some a, some x => HP.ex fun t : Nat × Sl × Sl × Sl × Sl => HP.and (a = ⟨t.1, 0, none⟩) (HP.all (connL i o t.1 t.2.1 t.2.2.1 t.2.2.2.1 t.2.2.2.2 x))
  | _, _ => HP.bot
def cell (A : AN) (ps : Ar 65 (Option Addr)) : S66 := ⟨(A.i : Int), (A.o : Int), ps, ⟨⟨⟩, ⟨⟩, A.moved⟩⟩
def conns (A : AN) (ps : Ar 65 (Option Addr)) : List HP := List.zipWith (connP A.i A.o) ps.l A.cs
def netP (b : Nat) (A : AN) : HP := HP.ex fun ps : Ar 65 (Option Addr) => HP.all (varP k66 b (cell A ps) :: conns A ps)
section
variable {F0 : Nat → Prop} {h0 h : H} {b : Nat} {A : AN} {B : Nat} {Rs : List HP}
theorem net_out (S : SG F0 h0 h (netP b A :: Rs)) : ∃ ps, SG F0 h0 h (varP k66 b (cell A ps) :: conns A ps ++ Rs) := by
  obtain ⟨ps, S⟩ := S.unex
  exact ⟨ps, S.flat⟩
theorem net_in {ps : Ar 65 (Option Addr)} (S : SG F0 h0 h (varP k66 b (cell A ps) :: conns A ps ++ Rs)) : SG F0 h0 h (netP b A :: Rs) := SG.toex ps (SG.fold _ S)
/-- A pointer, and what is there, agree. -/
theorem conn_at (hl : A.cs.length = 65) {ps : Ar 65 (Option Addr)} (S : SG F0 h0 h (varP k66 b (cell A ps) :: conns A ps ++ Rs)) {n : Nat} (hn : n < 65) : (ps.l[n]'(by rw [ps.h]; exact hn) = none ∧ A.cs[n]'(by omega) = none) ∨ ∃ a x, ps.l[n]'(by rw [ps.h]; exact hn) = some a ∧ A.cs[n]'(by omega) = some x := by
  have hp : n < ps.l.length := by rw [ps.h]; exact hn
  have hz : (varP k66 b (cell A ps) :: conns A ps ++ Rs)[n + 1]? = some (connP A.i A.o ps.l[n] A.cs[n]) := by
    have : n < (conns A ps).length := by simp [conns, ps.h, hl]; exact hn
    rw [List.cons_append, List.getElem?_cons_succ, List.getElem?_append_left this, List.getElem?_eq_getElem this]
    simp [conns]
  obtain ⟨F, p, _⟩ := S.at (n + 1) hz
  generalize ps.l[n] = q at *
  generalize A.cs[n] = y at *
  cases q <;> cases y
  · exact .inl ⟨rfl, rfl⟩
  · exact p.elim
  · exact p.elim
  · exact .inr ⟨_, _, rfl, rfl⟩
/-- One connection taken out of the net; and back. -/
theorem conn_out (hl : A.cs.length = 65) {ps : Ar 65 (Option Addr)} (S : SG F0 h0 h (varP k66 b (cell A ps) :: conns A ps ++ Rs)) {n : Nat} (hn : n < 65) {x : AC} (hx : A.cs[n]'(by omega) = some x) :
    ∃ cb w ib ob hd, ps.l[n]'(by rw [ps.h]; exact hn) = some ⟨cb, 0, none⟩ ∧ SG F0 h0 h (connL A.i A.o cb w ib ob hd x ++ (varP k66 b (cell A ps) :: (conns A ps).eraseIdx n ++ Rs)) := by
  have hp : n < ps.l.length := by rw [ps.h]; exact hn
  have hc : n < (conns A ps).length := by simp [conns, ps.h, hl]; exact hn
  rcases conn_at hl S hn with ⟨_, h2⟩ | ⟨a, x', h1, h2⟩
  · rw [hx] at h2; cases h2
  · have hz : (varP k66 b (cell A ps) :: conns A ps ++ Rs)[n + 1]? = some (connP A.i A.o (some a) (some x')) := by
      rw [List.cons_append, List.getElem?_cons_succ, List.getElem?_append_left hc, List.getElem?_eq_getElem hc]
      simp [conns, h1, h2]
    have S2 := S.front (n + 1) hz
    rw [List.cons_append, List.eraseIdx_cons_succ, List.eraseIdx_append_of_lt_length hc] at S2
    obtain ⟨⟨cb, w, ib, ob, hd⟩, S2⟩ := S2.unex
    obtain ⟨e, S2⟩ := S2.unand
    rw [hx] at h2; cases h2
    exact ⟨cb, w, ib, ob, hd, by rw [h1]; exact congrArg some e, S2.flat⟩
theorem conn_in (hl : A.cs.length = 65) {ps : Ar 65 (Option Addr)} {n : Nat} (hn : n < 65) {x : AC} {cb : Nat} {w ib ob hd : Sl} (hp : ps.l[n]'(by rw [ps.h]; exact hn) = some ⟨cb, 0, none⟩)
    (S : SG F0 h0 h (connL A.i A.o cb w ib ob hd x ++ (varP k66 b (cell A ps) :: (conns A ps).eraseIdx n ++ Rs))) : SG F0 h0 h (varP k66 b (cell (A.put n x) ps) :: conns (A.put n x) ps ++ Rs) := by
  have hpl : n < ps.l.length := by rw [ps.h]; exact hn
  have hc : n < (conns A ps).length := by simp [conns, ps.h, hl]; exact hn
  have S2 : SG F0 h0 h (connP A.i A.o (some ⟨cb, 0, none⟩) (some x) :: (varP k66 b (cell A ps) :: (conns A ps).eraseIdx n ++ Rs)) := SG.toex (cb, w, ib, ob, hd) (SG.toand rfl (SG.fold _ S))
  have e1 : (varP k66 b (cell A ps) :: (conns A ps).eraseIdx n ++ Rs) = (varP k66 b (cell A ps) :: conns A ps ++ Rs).eraseIdx (n + 1) := by
    rw [List.cons_append, List.cons_append, List.eraseIdx_cons_succ, List.eraseIdx_append_of_lt_length hc]
  rw [e1] at S2
  have S3 := SG.unfront (n + 1) (by simp; omega) S2
  have e2 : (varP k66 b (cell A ps) :: conns A ps ++ Rs).set (n + 1) (connP A.i A.o (some ⟨cb, 0, none⟩) (some x)) = varP k66 b (cell (A.put n x) ps) :: conns (A.put n x) ps ++ Rs := by
    rw [List.cons_append, List.set_cons_succ, List.set_append_left _ _ hc]
    unfold conns
    rw [zipWith_set, set_same (by rw [List.getElem?_eq_getElem hpl, hp])]
    rfl
  rw [e2] at S3
  exact S3
end

/-! the inner functions -/
section
variable {F0 : Nat → Prop} {h0 h : H} {Ps : List HP}
theorem clone_spec (S : SG F0 h0 h Ps) {s : Sl} {ys : List Int} (R : Rds u8 h s ys) (hb : ys.length ≤ 100000000000000) {Q : Sl → H → Prop} (k : ∀ s' h', Ext h h' → SG F0 h0 h' (ownP u8 s' ys :: Ps) → Q s' h') : slices_Clone___byte_byte_ s h Q := by
  unfold slices_Clone___byte_byte_
  refine ite_b (fun c => ?_) (fun c => ?_)
  · have : ys = [] := by
      cases ys with
      | nil => rfl
      | cons y ys =>
        obtain ⟨a, ha, _⟩ := R.at_ 0 (by simp)
        rw [ha] at c; simp at c
    subst this
    exact k _ _ (Ext.refl _) (S.made (Ext.refl _) (Own.nil _ _ _))
  · refine bs_own (K := u8) [] rfl rfl fun x1 h1 o1 l1 e1 z1 => ?_
    refine ap_own (K := u8) (by decide) o1 (R.ext e1).rdAll R.len (by simp; omega) (by simp; omega) fun s' h2 o2 f2 => ?_
    have e : Ext h h2 := ⟨Nat.le_trans e1.1 f2.1, fun b hb => by rw [f2.2 b (Nat.lt_of_lt_of_le hb e1.1) (fun x => by have x' : b = h.size := x; omega), e1.2 b hb]⟩
    refine k s' h2 e (S.made e ?_)
    rw [List.nil_append] at o2
    exact o2.mono fun b hb => by
      have := e1.1
      rcases hb with hb | hb <;> omega
/-- How many bytes are laid: room none, or r in all. -/
def layN (room : Int) (have_ : Nat) (n : Nat) : Nat := if room < 0 then n else min n (room.toNat - have_)
theorem lay_spec {α : Type} {K : Kd α} {off : Nat} {g : α → S70} {p : α → S70 → α} (f : Fld K k70 off g p) (S : SG F0 h0 h Ps) (i j : Nat) {cb : Nat} {x : α} {s : Sl} {room : Int} (hg : g x = ⟨s, room⟩) {xs : List Int} (hi : Ps[i]? = some (varP K cb x)) (hj : Ps[j]? = some (ownP u8 s xs)) (hij : i ≠ j)
    {a : Sl} {ys : List Int} (R : Rds u8 h a ys) (hx : xs.length ≤ 100000000000) (hy : ys.length ≤ 140737488351232) (hr : room < 0 ∨ (xs.length : Int) ≤ room ∧ room ≤ 131072) (hsum : xs.length + layN room xs.length ys.length ≤ 100000000000) {Q : Int → H → Prop}
    (k : ∀ s' h', SG F0 h0 h' ((Ps.set j (ownP u8 s' (xs ++ ys.take (layN room xs.length ys.length)))).set i (varP K cb (p x ⟨s', room⟩))) → Q (layN room xs.length ys.length : Nat) h') :
    net_buffer_lay (some ⟨cb, off, none⟩) a h Q := by
  unfold net_buffer_lay
  have f0 := f.comp fb_bytes
  have f1 := f.comp fb_room
  have l0 : ld kL ⟨cb, off + 0, none⟩ h = some s := by rw [varP.ld S f0 i hi, hg]
  have l1 : ld (kI .i64) ⟨cb, off + 1, none⟩ h = some room := by rw [varP.ld S f1 i hi, hg]
  have hl := R.len
  have hs := ownP.len S j hj
  refine jn_c ((layN room xs.length ys.length : Nat) : Int) h (fun Kk hK => ?_) ?_
  · refine rd_some rfl (rd_some (by rw [add_mk]; exact l1) ?_)
    refine ite_b (fun c => ?_) (fun c => ?_)
    · refine rd_some rfl (rd_some (by rw [add_mk]; exact l1) (rd_some rfl (rd_some (by rw [add_mk]; exact l0) ?_)))
      have c' : ¬ room < 0 := by simp at c; omega
      have e : (if IntKind.i64.wrap (room - (s.len : Int)) < (a.len : Int) then IntKind.i64.wrap (room - (s.len : Int)) else (a.len : Int)) = ((layN room xs.length ys.length : Nat) : Int) := by
        rw [wrap64_id (by omega) (by omega)]
        unfold layN
        rw [if_neg c', hs, hl]
        split <;> omega
      rw [e]; exact hK
    · have c' : room < 0 := by simp at c; omega
      have e : (a.len : Int) = ((layN room xs.length ys.length : Nat) : Int) := by unfold layN; rw [if_pos c', hl]
      rw [e]; exact hK
  · refine rd_some rfl (rd_some (by rw [add_mk]; exact l0) ?_)
    have hn : layN room xs.length ys.length ≤ ys.length := by unfold layN; split <;> omega
    obtain ⟨a', ha, Ra, la⟩ := R.slx_hi hn (w := 1) rfl
    refine rd_some ha ?_
    have hlen : (ys.take (layN room xs.length ys.length)).length = layN room xs.length ys.length := by simp; omega
    refine ownP.app (K := u8) (by decide) S j hj Ra (by rw [hlen]; omega) (by rw [hlen]; omega) fun s' h' S' => ?_
    have hi' : (Ps.set j (ownP u8 s' (xs ++ ys.take (layN room xs.length ys.length))))[i]? = some (varP K cb x) := by rw [List.getElem?_set_ne (Ne.symm hij)]; exact hi
    obtain ⟨h3, hs3, S3, _⟩ := varP.st S' f0 i hi' s'
    refine rd_some rfl (rd_some (by rw [add_mk]; exact hs3) ?_)
    rw [hg] at S3
    exact k s' h3 S3
theorem buf_take_spec {α : Type} {K : Kd α} {off : Nat} {g : α → S70} {p : α → S70 → α} (f : Fld K k70 off g p) (S : SG F0 h0 h Ps) (i j : Nat) {cb : Nat} {x : α} {s : Sl} {room : Int} (hg : g x = ⟨s, room⟩) {xs : List Int} (hi : Ps[i]? = some (varP K cb x)) (hj : Ps[j]? = some (ownP u8 s xs)) (hij : i ≠ j)
    {n : Nat} (hn : n ≤ xs.length) (hx : xs.length ≤ 100000000000) {Q : Sl → H → Prop}
    (k : ∀ s1 s2 h', SG F0 h0 h' (ownP u8 s1 (xs.take n) :: (Ps.set j (ownP u8 s2 (xs.drop n))).set i (varP K cb (p x ⟨s2, room⟩))) → Q s1 h') :
    net_buffer_take (some ⟨cb, off, none⟩) (n : Int) h Q := by
  unfold net_buffer_take
  have f0 := f.comp fb_bytes
  have hjl : j < Ps.length := (List.getElem?_eq_some_iff.1 hj).1
  have l0 : ld kL ⟨cb, off + 0, none⟩ h = some s := by rw [varP.ld S f0 i hi, hg]
  refine rd_some rfl (rd_some (by rw [add_mk]; exact l0) ?_)
  have R := ownP.rds S j hj
  obtain ⟨a1, h1, R1, _⟩ := R.slx_hi hn (w := 1) rfl
  refine rd_some h1 (clone_spec S R1 (by simp; omega) fun s1 h2 e2 S2 => ?_)
  have hi2 : (ownP u8 s1 (xs.take n) :: Ps)[i + 1]? = some (varP K cb x) := hi
  have l2 : ld kL ⟨cb, off + 0, none⟩ h2 = some s := by rw [varP.ld S2 f0 (i + 1) hi2, hg]
  refine rd_some rfl (rd_some (by rw [add_mk]; exact l2) ?_)
  have R' := ownP.rds S2 (j + 1) (K := u8) (s := s) (xs := xs) hj
  obtain ⟨a2, h3, R2, _⟩ := R'.slx_lo hn (w := 1) rfl
  refine rd_some h3 (clone_spec S2 R2 (by simp; omega) fun s2 h4 e4 S4 => ?_)
  have S5 := S4.replace (j + 1) (by simpa using hjl)
  rw [List.set_cons_succ] at S5
  have hi5 : (ownP u8 s1 (xs.take n) :: Ps.set j (ownP u8 s2 (xs.drop n)))[i + 1]? = some (varP K cb x) := by
    rw [List.getElem?_cons_succ, List.getElem?_set_ne (Ne.symm hij)]; exact hi
  obtain ⟨h6, hs6, S6, _⟩ := varP.st S5 f0 (i + 1) hi5 s2
  refine rd_some rfl (rd_some (by rw [add_mk]; exact hs6) ?_)
  rw [hg, List.set_cons_succ] at S6
  exact k s1 s2 h6 S6
end
end Go.Proofs.Ytbdopnhfbjdegaa
