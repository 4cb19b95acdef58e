/- Other numbers for tasks and locks: all goes alike. No heap. -/
import Derived.Test.YtgmihbchcmjmdaaLkM4
import Derived.Test.YtgmihbchcmjmdaaLkS
namespace Go.Proofs.Ytgmihbchcmjmdaa
open Go Go.Tr
set_option linter.unusedVariables false
theorem mod_inj {n b x y : Int} (hn : 0 < n) (hb : 0 ≤ b) (hx : 0 ≤ x ∧ x < n) (hy : 0 ≤ y ∧ y < n) (h : (x + b).tmod n = (y + b).tmod n) : x = y := by
  rw [Int.tmod_eq_emod_of_nonneg (by omega), Int.tmod_eq_emod_of_nonneg (by omega)] at h
  have h2 := Int.emod_eq_emod_iff_emod_sub_eq_zero.1 h
  obtain ⟨k, hk⟩ := Int.dvd_of_emod_eq_zero h2
  have hk : x - y = n * k := by omega
  have h3 : k = 0 := by
    rcases Int.lt_trichotomy k 0 with h | h | h
    · have := Int.mul_le_mul_of_nonneg_left (show k ≤ -1 by omega) (show 0 ≤ n by omega)
      omega
    · exact h
    · have := Int.mul_le_mul_of_nonneg_left (show 1 ≤ k by omega) (show 0 ≤ n by omega)
      omega
  rw [h3] at hk; omega
def gren (n b : Nat) (v : Int) : Int := if 0 ≤ v ∧ v < (n : Int) then (v + (b : Int)).tmod (n : Int) else v
def ren (n b : Nat) (x : Lk) : Lk := ⟨gren n b x.f0, x.f1⟩
def renL (n b : Nat) (l : List Lk) : List Lk := l.reverse.map (ren n b)
def tname (b : Nat) (t : Int) : Int := 3 * t + b
def rc (n b : Nat) (c : C) : C := (tname b c.1, renL n b c.2)
section
variable {n b : Nat}
theorem gren_in (hn : 1 ≤ n) (v : Int) : (0 ≤ gren n b v ∧ gren n b v < (n : Int)) ↔ (0 ≤ v ∧ v < (n : Int)) := by
  unfold gren
  split
  · rename_i h
    have h1 : 0 ≤ (v + (b : Int)).tmod (n : Int) := Int.tmod_nonneg _ (by omega)
    have h2 := Int.tmod_lt_of_pos (v + (b : Int)) (show (0 : Int) < n by omega)
    exact ⟨fun _ => h, fun _ => ⟨h1, h2⟩⟩
  · exact Iff.rfl
theorem gren_inj (hn : 1 ≤ n) {v w : Int} (h : gren n b v = gren n b w) : v = w := by
  have h1 := gren_in (b := b) hn v
  have h2 := gren_in (b := b) hn w
  by_cases hv : 0 ≤ v ∧ v < (n : Int)
  · have hw : 0 ≤ w ∧ w < (n : Int) := h2.1 (by rw [← h]; exact h1.2 hv)
    unfold gren at h
    rw [if_pos hv, if_pos hw] at h
    exact mod_inj (by omega) (by omega) hv hw h
  · have hw : ¬ (0 ≤ w ∧ w < (n : Int)) := fun x => hv (h1.1 (by rw [h]; exact h2.2 x))
    unfold gren at h
    rw [if_neg hv, if_neg hw] at h
    exact h
theorem conf_ren (hn : 1 ≤ n) (x y : List Lk) : conf (renL n b x) (renL n b y) = conf x y := by
  unfold conf renL
  apply Bool.eq_iff_iff.2
  simp only [List.any_eq_true, List.mem_map, List.mem_reverse, Bool.and_eq_true, beq_iff_eq]
  constructor
  · rintro ⟨_, ⟨u, hu, rfl⟩, _, ⟨v, hv, rfl⟩, e, c⟩
    exact ⟨u, hu, v, hv, gren_inj hn e, c⟩
  · rintro ⟨u, hu, v, hv, e, c⟩
    exact ⟨_, ⟨u, hu, rfl⟩, _, ⟨v, hv, rfl⟩, by show gren n b u.f0 = gren n b v.f0; rw [e], c⟩
theorem nod_ren (hn : 1 ≤ n) (l : List Lk) : nod (renL n b l) ↔ nod l := by
  unfold nod renL
  rw [List.map_map, List.map_reverse, List.nodup_iff_pairwise_ne, List.nodup_iff_pairwise_ne, List.pairwise_reverse, List.pairwise_map, List.pairwise_map]
  constructor
  · exact fun h => h.imp fun x e => x (by show gren n b _ = gren n b _; rw [e])
  · exact fun h => h.imp fun x e => x (gren_inj hn e).symm
theorem okSet_ren (hn : 1 ≤ n) (l : List Lk) : okSet n (renL n b l) = okSet n l := by
  apply Bool.eq_iff_iff.2
  rw [okSet_iff, okSet_iff, nod_ren hn]
  have e1 : renL n b l ≠ [] ↔ l ≠ [] := by
    unfold renL
    cases l <;> simp
  have e2 : (renL n b l).all (inR n) = true ↔ l.all (inR n) = true := by
    unfold renL
    simp only [List.all_eq_true, List.mem_map, List.mem_reverse, inR, Bool.and_eq_true, decide_eq_true_eq]
    constructor
    · intro h x hx
      exact (gren_in (b := b) hn x.f0).1 (h _ ⟨x, hx, rfl⟩)
    · rintro h _ ⟨x, hx, rfl⟩
      exact (gren_in (b := b) hn x.f0).2 (h x hx)
  rw [e1, e2]
theorem findC_ren (l : List C) (t : Int) : findC (l.map (rc n b)) (tname b t) = findC l t := by
  unfold findC
  rw [List.findIdx?_map]
  congr 1
  funext c
  simp only [Function.comp, rc, tname]
  apply Bool.eq_iff_iff.2
  rw [beq_iff_eq, beq_iff_eq]
  omega
theorem hit_ren (hn : 1 ≤ n) (l : List C) (x : List Lk) : hit (l.map (rc n b)) (renL n b x) = hit l x := by
  unfold hit
  rw [List.any_map]
  congr 1
  funext c
  exact conf_ren hn x c.2
theorem thr_ren (hn : 1 ≤ n) : ∀ (q has left : List C), thr (has.map (rc n b)) (left.map (rc n b)) (q.map (rc n b)) = ((thr has left q).1.map (rc n b), (thr has left q).2.1.map (rc n b), (thr has left q).2.2.map (tname b))
  | [], has, left => by simp [thr]
  | c :: q, has, left => by
    rw [List.map_cons]
    have e : (hit (has.map (rc n b)) (rc n b c).2 || hit (left.map (rc n b)) (rc n b c).2) = (hit has c.2 || hit left c.2) := by
      show (hit (has.map (rc n b)) (renL n b c.2) || hit (left.map (rc n b)) (renL n b c.2)) = _
      rw [hit_ren hn, hit_ren hn]
    cases hc : (hit has c.2 || hit left c.2) with
    | true =>
      rw [thr_hit (e.trans hc), thr_hit hc]
      have := thr_ren hn q has (left ++ [c])
      rw [List.map_append] at this
      exact this
    | false =>
      rw [thr_go (e.trans hc), thr_go hc]
      have := thr_ren hn q (has ++ [c]) left
      rw [List.map_append] at this
      simp only [List.map_cons, List.map_nil] at this
      rw [this]; rfl
namespace AM
def ren (b : Nat) (A : AM) : AM := ⟨A.locks, A.has.map (rc A.locks b), A.queue.map (rc A.locks b)⟩
variable {A : AM} {B : Nat}
theorem Ok.ren (ok : A.Ok B) : (A.ren b).Ok B := by
  refine ⟨ok.l1, ok.l2, fun c hc => ?_, by have := ok.b; simpa [AM.ren] using this⟩
  have hc : c ∈ A.has.map (rc A.locks b) ++ A.queue.map (rc A.locks b) := hc
  rw [← List.map_append] at hc
  obtain ⟨d, hd, rfl⟩ := List.mem_map.1 hc
  show okSet A.locks (renL A.locks b d.2) = true
  rw [okSet_ren ok.l1]
  exact ok.ok d hd
theorem ask_ren (h1 : 1 ≤ A.locks) {t : Int} (ht : 0 ≤ t) (l : List Lk) : (A.ren b).ask (tname b t) (renL A.locks b l) = ((A.ask t l).1, (A.ask t l).2.ren b) := by
  have e1 : (tname b t < 0 ∨ okSet A.locks (renL A.locks b l) = false) ↔ (t < 0 ∨ okSet A.locks l = false) := by
    rw [okSet_ren h1]; unfold tname; constructor
    · rintro (h | h)
      · omega
      · exact .inr h
    · rintro (h | h)
      · omega
      · exact .inr h
  have e2 : ((findC (A.has.map (rc A.locks b)) (tname b t)).isSome || (findC (A.queue.map (rc A.locks b)) (tname b t)).isSome) = ((findC A.has t).isSome || (findC A.queue t).isSome) := by rw [findC_ren, findC_ren]
  have e3 : (hit (A.has.map (rc A.locks b)) (renL A.locks b l) || hit (A.queue.map (rc A.locks b)) (renL A.locks b l)) = (hit A.has l || hit A.queue l) := by rw [hit_ren h1, hit_ren h1]
  unfold AM.ask
  show (if tname b t < 0 ∨ okSet A.locks (renL A.locks b l) = false then ((false, (1 : Int)), A.ren b) else if ((findC (A.has.map (rc A.locks b)) (tname b t)).isSome || (findC (A.queue.map (rc A.locks b)) (tname b t)).isSome) = true then ((false, 41), A.ren b) else if (hit (A.has.map (rc A.locks b)) (renL A.locks b l) || hit (A.queue.map (rc A.locks b)) (renL A.locks b l)) = true then ((false, 0), _) else ((true, 0), _)) = _
  rw [e2, e3]
  by_cases c1 : t < 0 ∨ okSet A.locks l = false
  · rw [if_pos (e1.2 c1), if_pos c1]
  · rw [if_neg (fun x => c1 (e1.1 x)), if_neg c1]
    split
    · rfl
    · split
      · simp only [AM.ren, List.map_append]; rfl
      · simp only [AM.ren, List.map_append]; rfl
theorem through_ren (h1 : 1 ≤ A.locks) : (A.ren b).through = (A.through.1.map (tname b), A.through.2.ren b) := by
  have := thr_ren (b := b) h1 A.queue A.has []
  unfold AM.through
  show (_, _) = _
  simp only [AM.ren]
  rw [show ([] : List C) = [].map (rc A.locks b) from rfl, this]; rfl
theorem eraseH_ren (i : Nat) : ({ A.ren b with has := (A.ren b).has.eraseIdx i } : AM) = ({ A with has := A.has.eraseIdx i } : AM).ren b := by
  simp only [AM.ren, map_erase]
theorem eraseQ_ren (i : Nat) : ({ A.ren b with queue := (A.ren b).queue.eraseIdx i } : AM) = ({ A with queue := A.queue.eraseIdx i } : AM).ren b := by
  simp only [AM.ren, map_erase]
theorem free_ren (h1 : 1 ≤ A.locks) (t : Int) : (A.ren b).free (tname b t) = (((A.free t).1.1.map (tname b), (A.free t).1.2), (A.free t).2.ren b) := by
  unfold AM.free
  have e : findC (A.ren b).has (tname b t) = findC A.has t := findC_ren _ _
  rw [e]
  cases hf : findC A.has t with
  | none => rfl
  | some i =>
    simp only
    rw [eraseH_ren, through_ren (A := { A with has := A.has.eraseIdx i }) h1]
theorem quit_ren (h1 : 1 ≤ A.locks) (t : Int) : (A.ren b).quit (tname b t) = ((A.quit t).1.map (tname b), (A.quit t).2.ren b) := by
  unfold AM.quit
  have e : findC (A.ren b).has (tname b t) = findC A.has t := findC_ren _ _
  have e2 : findC (A.ren b).queue (tname b t) = findC A.queue t := findC_ren _ _
  rw [e, e2]
  cases hf : findC A.has t with
  | some i =>
    simp only
    rw [eraseH_ren, through_ren (A := { A with has := A.has.eraseIdx i }) h1]
  | none =>
    simp only
    cases hq : findC A.queue t with
    | some i =>
      simp only
      rw [eraseQ_ren, through_ren (A := { A with queue := A.queue.eraseIdx i }) h1]
    | none => rfl
theorem waits_ren (t : Int) : (A.ren b).waits (tname b t) = A.waits t := by
  unfold AM.waits
  rw [show findC (A.ren b).queue (tname b t) = findC A.queue t from findC_ren _ _]
theorem queueL_ren : (A.ren b).queueL = A.queueL.map (tname b) := by
  unfold AM.queueL AM.ren
  simp only [List.map_map]; rfl
theorem hasL_len (ok : A.Ok B) (t : Int) : (A.hasL t).length = match findC A.has t with | some i => (match A.has[i]? with | some c => c.2.length | none => 0) | none => 0 := by
  unfold AM.hasL
  cases hf : findC A.has t with
  | none => rfl
  | some i =>
    simp only
    cases hc : A.has[i]? with
    | none => rfl
    | some c => exact (ok_sort (ok.ok c (List.mem_append_left _ (List.mem_of_getElem? hc)))).2.1
theorem hasL_ren (ok : A.Ok B) (t : Int) : ((A.ren b).hasL (tname b t)).length = (A.hasL t).length := by
  rw [hasL_len ok, hasL_len (ok.ren (b := b)), show findC (A.ren b).has (tname b t) = findC A.has t from findC_ren _ _]
  cases hf : findC A.has t with
  | none => rfl
  | some i =>
    simp only [AM.ren, List.getElem?_map]
    cases hc : A.has[i]? with
    | none => rfl
    | some c => simp [rc, renL]
/-- Tasks within bounds. -/
def Rg (A : AM) : Prop := ∀ c ∈ A.has ++ A.queue, 0 ≤ c.1 ∧ c.1 ≤ 1099511627776
theorem Rg.through (r : A.Rg) : A.through.2.Rg ∧ ∀ t ∈ A.through.1, 0 ≤ t ∧ t ≤ 1099511627776 := by
  refine ⟨thr_mem (P := fun c => 0 ≤ c.1 ∧ c.1 ≤ 1099511627776) A.queue A.has [] (fun c hc => r c (by simpa using hc)), ?_⟩
  have key : ∀ (q has left : List C), (∀ c ∈ q, 0 ≤ c.1 ∧ c.1 ≤ 1099511627776) → ∀ t ∈ (thr has left q).2.2, 0 ≤ t ∧ t ≤ 1099511627776 := by
    intro q
    induction q with
    | nil => intro has left _ t ht; simp [thr] at ht
    | cons c q ih =>
      intro has left h t ht
      cases hc : (hit has c.2 || hit left c.2) with
      | true => rw [thr_hit hc] at ht; exact ih _ _ (fun d hd => h d (List.mem_cons_of_mem _ hd)) t ht
      | false =>
        rw [thr_go hc] at ht
        rcases List.mem_cons.1 ht with rfl | ht
        · exact h c List.mem_cons_self
        · exact ih _ _ (fun d hd => h d (List.mem_cons_of_mem _ hd)) t ht
  exact key A.queue A.has [] fun c hc => r c (List.mem_append_right _ hc)
theorem Rg.ask (r : A.Rg) {t : Int} (h1 : 0 ≤ t) (h2 : t ≤ 1099511627776) (l : List Lk) : (A.ask t l).2.Rg := by
  unfold AM.ask
  split
  · exact r
  · split
    · exact r
    · split
      · intro c hc
        simp only [List.mem_append, List.mem_singleton] at hc
        rcases hc with hc | hc | rfl
        · exact r c (by simp [hc])
        · exact r c (by simp [hc])
        · exact ⟨h1, h2⟩
      · intro c hc
        simp only [List.mem_append, List.mem_singleton] at hc
        rcases hc with (hc | rfl) | hc
        · exact r c (by simp [hc])
        · exact ⟨h1, h2⟩
        · exact r c (by simp [hc])
theorem Rg.eraseH (r : A.Rg) (i : Nat) : ({ A with has := A.has.eraseIdx i } : AM).Rg := by
  intro c hc
  refine r c ?_
  simp only [List.mem_append] at hc ⊢
  exact hc.imp (fun h => List.mem_of_mem_eraseIdx h) id
theorem Rg.eraseQ (r : A.Rg) (i : Nat) : ({ A with queue := A.queue.eraseIdx i } : AM).Rg := by
  intro c hc
  refine r c ?_
  simp only [List.mem_append] at hc ⊢
  exact hc.imp id (fun h => List.mem_of_mem_eraseIdx h)
theorem Rg.free (r : A.Rg) (t : Int) : (A.free t).2.Rg ∧ ∀ u ∈ (A.free t).1.1, 0 ≤ u ∧ u ≤ 1099511627776 := by
  cases hf : findC A.has t with
  | none =>
    have e : A.free t = (([], 42), A) := by unfold AM.free; rw [hf]
    rw [e]; exact ⟨r, by simp⟩
  | some i =>
    have e : A.free t = (({ A with has := A.has.eraseIdx i }.through.1, 0), { A with has := A.has.eraseIdx i }.through.2) := by unfold AM.free; rw [hf]
    rw [e]; exact (r.eraseH i).through
theorem Rg.quit (r : A.Rg) (t : Int) : (A.quit t).2.Rg ∧ ∀ u ∈ (A.quit t).1, 0 ≤ u ∧ u ≤ 1099511627776 := by
  cases hf : findC A.has t with
  | some i =>
    have e : A.quit t = { A with has := A.has.eraseIdx i }.through := by unfold AM.quit; rw [hf]
    rw [e]; exact (r.eraseH i).through
  | none =>
    cases hq : findC A.queue t with
    | some i =>
      have e : A.quit t = { A with queue := A.queue.eraseIdx i }.through := by unfold AM.quit; rw [hf]; simp only [hq]
      rw [e]; exact (r.eraseQ i).through
    | none =>
      have e : A.quit t = ([], A) := by unfold AM.quit; rw [hf]; simp only [hq]
      rw [e]; exact ⟨r, by simp⟩
end AM
end
end Go.Proofs.Ytgmihbchcmjmdaa
