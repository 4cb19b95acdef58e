/- A map of numbers to true, in memory; the sets that may be asked for. -/
import Derived.Test.YtomngllmnhdmlaaSdGC
import Derived.Test.YtomngllmnhdmlaaB1
import Derived.Test.YtomngllmnhdmlaaF20C
namespace Go.Proofs.Ytomngllmnhdmlaa
open Go Go.Tr
set_option linter.unusedVariables false
def entB (x : Int × Nat) : MapEntry := ⟨.int .i64 x.1, .bool true, x.2⟩
def entsB (m : List Int) : List MapEntry := m.zipIdx.map entB
def mobjB (m : List Int) : Obj := .map (entsB m).toArray m.length
def fndB : List Int → Int → Option Nat
  | [], _ => none
  | x :: m, n => if n == x then some 0 else (fndB m n).map (· + 1)
theorem findNow_entsB (n : Int) : ∀ (m : List Int) (i j : Nat), Instr.findNow (.int .i64) (.int .i64 n) ((m.zipIdx i).map entB) j = some ((fndB m n).map fun y => (j + y, .bool true))
  | [], i, j => rfl
  | x :: m, i, j => by
    have ih := findNow_entsB n m (i + 1) (j + 1)
    simp only [List.zipIdx_cons, List.map_cons]
    unfold Instr.findNow
    have e : Instr.sameNow (.int .i64) (.int .i64 n) (entB (x, i)).key = some (n == x) := by simp [Instr.sameNow, entB]
    rw [e]
    unfold fndB
    cases hb : n == x with
    | true => simp [entB]
    | false =>
      simp only [ih, Bool.false_eq_true, if_false, Option.map_map]
      congr 2
      funext y
      simp only [Function.comp]
      congr 1; omega
theorem fndB_none : ∀ {m : List Int} {n : Int}, fndB m n = none ↔ n ∉ m
  | [], n => by simp [fndB]
  | x :: m, n => by
    unfold fndB
    have ih := fndB_none (m := m) (n := n)
    cases hb : n == x with
    | true => simp at hb; simp [hb]
    | false => simp at hb; simp [hb, ih]
theorem fndB_some : ∀ {m : List Int} {n : Int} {i : Nat}, fndB m n = some i → m[i]? = some n
  | [], n, i, h => by simp [fndB] at h
  | x :: m, n, i, h => by
    unfold fndB at h
    split at h
    · rename_i hb
      simp at hb h; subst h; simp [hb]
    · obtain ⟨z, hz, rfl⟩ := Option.map_eq_some_iff.1 h
      simpa using fndB_some hz
theorem entsB_set {m : List Int} {n : Int} {i : Nat} (h : m[i]? = some n) : (entsB m).modify i (fun e => { e with key := .int .i64 n, val := .bool true }) = entsB m := by
  unfold entsB
  apply List.ext_getElem?
  intro j
  rw [List.getElem?_modify]
  by_cases e : i = j
  · subst e
    rw [List.getElem?_map, List.getElem?_zipIdx, h]; simp [entB]
  · simp [e]
theorem entsB_push (m : List Int) (n : Int) : entsB (m ++ [n]) = entsB m ++ [⟨.int .i64 n, .bool true, m.length⟩] := by
  unfold entsB
  rw [List.zipIdx_append]
  simp [entB]
def setP (b : Nat) (m : List Int) : HP where
  p h F := h[b]? = some (mobjB m) ∧ F = fun k => k = b
  st := fun ⟨v, e⟩ _ k => ⟨(k b (by rw [e])).trans v, e⟩
  lt := fun {h F} ⟨v, e⟩ k hk => by
    rw [e] at hk; subst hk
    rcases Nat.lt_or_ge k h.size with hl | hl
    · exact hl
    · rw [Array.getElem?_eq_none hl] at v; cases v
section
variable {F0 : Nat → Prop} {h0 h : H} {Ps : List HP}
theorem setP.look (S : SG F0 h0 h Ps) (i : Nat) {b : Nat} {m : List Int} (hi : Ps[i]? = some (setP b m)) (n : Int) : mlk kB false .i64 (some b) n h = some (decide (n ∈ m), decide (n ∈ m)) := by
  obtain ⟨F1, ⟨v, _⟩, _⟩ := S.at i hi
  have hg : mget (some b) h = some ((entsB m).toArray, m.length) := by
    unfold mget
    simp only [v, mobjB]
  unfold mlk
  rw [hg, Option.bind_some]
  have hf := findNow_entsB n m 0 0
  simp only [entsB, hf, Option.bind_some]
  cases hc : fndB m n with
  | none => simp [fndB_none.1 hc]
  | some y =>
    have : n ∈ m := List.mem_of_getElem? (fndB_some hc)
    simp [this]; rfl
theorem setP.up (S : SG F0 h0 h Ps) (i : Nat) {b : Nat} {m : List Int} (hi : Ps[i]? = some (setP b m)) (n : Int) : ∃ h', mup kB .i64 (some b) n true h = some h' ∧ SG F0 h0 h' (Ps.set i (setP b (if n ∈ m then m else m ++ [n]))) := by
  obtain ⟨F1, ⟨v, rfl⟩, back⟩ := S.at i hi
  have hlt : b < h.size := by
    rcases Nat.lt_or_ge b h.size with hl | hl
    · exact hl
    · rw [Array.getElem?_eq_none hl] at v; cases v
  have hf := findNow_entsB n m 0 0
  have key : mup kB .i64 (some b) n true h = some (h.setIfInBounds b (mobjB (if n ∈ m then m else m ++ [n]))) := by
    unfold mup
    rw [Option.bind_some]
    simp only [v, mobjB]
    have hf : Instr.findNow (.int .i64) (.int .i64 n) (entsB m) 0 = _ := hf
    rw [hf]
    cases hfd : fndB m n with
    | none =>
      rw [if_neg (fndB_none.1 hfd)]
      simp only [Option.map_none, Option.map_some]
      rw [entsB_push]
      simp [Kd.val, kB]
    | some y =>
      have hy := fndB_some hfd
      rw [if_pos (List.mem_of_getElem? hy)]
      have e := entsB_set hy
      simp only [Option.map_some, Nat.zero_add]
      have e2 : (entsB m).toArray.modify y (fun e => { e with key := .int .i64 n, val := kB.val true }) = (entsB m).toArray := by
        have : kB.val true = .bool true := rfl
        rw [this, List.modify_toArray, e]
      rw [e2]
  refine ⟨_, key, back _ _ (fun k => k = b) ⟨?_, rfl⟩ ⟨by simp, fun k hk hn => ?_, fun _ h => .inl h⟩⟩
  · simp [hlt]
  · rw [Array.getElem?_setIfInBounds, if_neg (fun e => hn e.symm)]
theorem SG.newset (S : SG F0 h0 h Ps) {Q : Option Nat → H → Prop} (k : ∀ b h', Ext h h' → SG F0 h0 h' (setP b [] :: Ps) → Q (some b) h') : mmk h Q := by
  refine k h.size _ (Ext.push _ _) (S.add (P := setP h.size []) (F1 := fun k => k = h.size) ⟨?_, rfl⟩ (Ext.push _ _) fun b hb => by omega)
  show (h.push (.map #[] 0))[h.size]? = _
  rw [getElem_push]; rfl
end
theorem right_spec {h0 h : H} {Ps : List HP} {s : Sl} {xs : List Lk} (R : Rds kLk h0 s xs) (hn : xs.length ≤ 8796093022076) (S : SS h0 h Ps) {Q : Sl → H → Prop} (k : ∀ r ys h', okSet 16 ys = true → ys.length ≤ 8796093022077 → SS h0 h' (ownP kLk r ys :: Ps) → Q r h') : spatelaw12_right s h Q := by
  unfold spatelaw12_right
  have hlen := R.len
  refine S.newset fun b h1 e1 S1 => ?_
  refine jn_q (fun (r : Sl) h' => ∃ ys : List Lk, nod ys ∧ (∀ y ∈ ys, 0 ≤ y.f0 ∧ y.f0 < 16) ∧ ys.length ≤ xs.length ∧ SS h0 h' (ownP kLk r ys :: Ps)) (fun K hK => ?_) ?_
  · refine for0 (mk := fun (r : Sl) i => (r, i)) (s := Sl.nil) (n := xs.length) (by omega) (fun j r h' => ∃ (ys : List Lk) (m : List Int), nod ys ∧ (∀ y ∈ ys, 0 ≤ y.f0 ∧ y.f0 < 16) ∧ ys.length ≤ j ∧ (∀ n, n ∈ m ↔ n ∈ ys.map (·.f0)) ∧ SS h0 h' (ownP kLk r ys :: setP b m :: Ps)) ⟨[], [], by simp [nod], by simp, by simp, by simp, S1.made (Ext.refl h1) (Own.nil kLk h1 _)⟩ (fun j r h' K2 hj hI next done => ?_) (fun r h' K2 hI done => ?_)
    · obtain ⟨ys, m, hnd, hr, hlj, hm, S2⟩ := hI
      unfold spatelaw12_right.b1
      refine ite_t (by rw [hlen]; exact clt_t hj) ((R.ext (SS.e S2)).elt fk_n hj rfl ?_)
      have h1 := Int.tmod_lt_of_pos xs[j].f0 (b := 16) (by decide)
      have h2 : -16 < xs[j].f0.tmod 16 := by
        have := Int.tmod_lt_of_pos (-xs[j].f0) (b := 16) (by decide)
        rw [Int.neg_tmod] at this
        omega
      have hrm : remI xs[j].f0 16 = some (xs[j].f0.tmod 16) := by unfold remI; rw [if_neg (by decide)]
      refine rd_some hrm (jn_q (fun (n : Int) h3 => 0 ≤ n ∧ n < 16 ∧ h3 = h') (fun K3 hK3 => ite_b (fun c => ?_) (fun c => ?_)) ?_)
      · rw [decide_eq_true_eq] at c
        rw [wrap64_id (by omega) (by omega)]
        exact hK3 _ _ ⟨by omega, by omega, rfl⟩
      · rw [decide_eq_false_iff_not] at c
        exact hK3 _ _ ⟨by omega, by omega, rfl⟩
      rintro n h5 ⟨hn0, hn16, rfl⟩
      refine jn_q (fun (r2 : Sl) h3 => ∃ ys : List Lk, nod ys ∧ (∀ y ∈ ys, 0 ≤ y.f0 ∧ y.f0 < 16) ∧ ys.length ≤ j + 1 ∧ (∀ x, x ∈ (if n ∈ m then m else m ++ [n]) ↔ x ∈ ys.map (·.f0)) ∧ SS h0 h3 (ownP kLk r2 ys :: setP b m :: Ps)) (fun K3 hK3 => rd_some (setP.look S2 1 rfl n) (ite_b (fun c => ?_) (fun c => ?_))) ?_
      · have c : n ∉ m := by simpa using c
        refine (R.ext (SS.e S2)).elt fk_s hj rfl (ownP.pushW (K := kLk) (by decide) S2 0 rfl ⟨n, xs[j].f1⟩ (by omega) (by omega) fun r2 h3 S3 => hK3 r2 h3 ⟨ys ++ [(⟨n, xs[j].f1⟩ : Lk)], ?_, fun y hy => ?_, by simp; omega, fun x => ?_, S3⟩)
        · show ((ys ++ [(⟨n, xs[j].f1⟩ : Lk)]).map (·.f0)).Nodup
          rw [List.map_append, List.nodup_append]
          refine ⟨hnd, by simp, fun a ha d hd => ?_⟩
          simp at hd; subst hd
          rintro rfl
          exact c ((hm _).2 ha)
        · rcases List.mem_append.1 hy with hy | hy
          · exact hr y hy
          · obtain rfl := List.mem_singleton.1 hy; exact ⟨hn0, hn16⟩
        · rw [if_neg c, List.map_append, List.mem_append, List.mem_append, hm x]; simp
      · have c : n ∈ m := by simpa using c
        exact hK3 r h5 ⟨ys, hnd, hr, by omega, fun x => by rw [if_pos c]; exact hm x, S2⟩
      rintro r2 h3 ⟨ys2, hnd2, hr2, hl2, hm2, S3⟩
      obtain ⟨h4, hu, S4⟩ := setP.up S3 1 rfl n
      exact rd_some hu (next r2 h4 ⟨ys2, _, hnd2, hr2, hl2, hm2, S4⟩)
    · obtain ⟨ys, m, hnd, hr, hlj, hm, S2⟩ := hI
      unfold spatelaw12_right.b1
      exact ite_f (by rw [hlen]; exact clt_f (Nat.lt_irrefl _)) (done _ _ (hK r h' ⟨ys, hnd, hr, hlj, (S2.front 1 rfl).tail⟩))
  rintro r h2 ⟨ys, hnd, hr, hl, S2⟩
  have hrl := ownP.len (K := kLk) S2 0 rfl
  refine ite_b (fun c => ?_) (fun c => ?_)
  · refine bs_own (K := kLk) [⟨0, false⟩] rfl rfl fun x2 h3 o3 hl3 e3 z3 => k x2 [⟨0, false⟩] h3 (by decide) (by show 1 ≤ _; omega) (S2.made e3 (o3.mono fun b hb => by omega)).swap.tail
  · have c : ys.length ≠ 0 := by
      intro e
      rw [hrl, e] at c
      exact absurd c (by decide)
    refine k r ys h2 ?_ (by omega) S2
    unfold okSet
    rw [Bool.and_eq_true, Bool.and_eq_true, List.all_eq_true]
    refine ⟨⟨?_, fun y hy => ?_⟩, by simpa using hnd⟩
    · cases ys with
      | nil => exact absurd rfl c
      | cons y ys => rfl
    · have := hr y hy
      simp only [Bool.and_eq_true, decide_eq_true_eq]; omega
end Go.Proofs.Ytomngllmnhdmlaa
