/- The flow as lists: what each call answers, what it leaves. No heap, no program. -/
import Derived.Test.YtanpaamamfabkaaHeap2
import Derived.Test.YtanpaamamfabkaaTy
import Derived.Laws.Strings
namespace Go.Proofs.Ytanpaamamfabkaa
open Go Go.Tr
set_option linter.unusedVariables false

theorem wrap64_id {n : Int} (h0 : -9223372036854775808 ≤ n) (h1 : n < 9223372036854775808) : IntKind.i64.wrap n = n := by
  have e : IntKind.i64.bits = 64 := rfl
  have s : IntKind.i64.signed = true := rfl
  unfold IntKind.wrap
  rw [e, s]
  have h2 : (2 : Int) ^ 64 = 18446744073709551616 := by decide
  have h3 : (2 : Int) ^ (64 - 1) = 9223372036854775808 := by decide
  simp only [h2, h3, Bool.true_and, ge_iff_le, decide_eq_true_eq]
  by_cases hn : 0 ≤ n
  · have : n % 18446744073709551616 = n := Int.emod_eq_of_lt hn (by omega)
    rw [this, if_neg (by omega)]
  · have : n % 18446744073709551616 = n + 18446744073709551616 := by omega
    rw [this, if_pos (by omega)]; omega
theorem wrapu64_id {n : Int} (h0 : 0 ≤ n) (h1 : n < 18446744073709551616) : IntKind.u64.wrap n = n := by
  have e : IntKind.u64.bits = 64 := rfl
  have s : IntKind.u64.signed = false := rfl
  unfold IntKind.wrap
  rw [e, s]
  have h2 : (2 : Int) ^ 64 = 18446744073709551616 := by decide
  simp only [h2, Bool.false_and, Bool.false_eq_true, if_false]
  exact Int.emod_eq_of_lt h0 h1
theorem wrapu64_range (n : Int) : 0 ≤ IntKind.u64.wrap n ∧ IntKind.u64.wrap n < 18446744073709551616 := by
  have e : IntKind.u64.bits = 64 := rfl
  have s : IntKind.u64.signed = false := rfl
  unfold IntKind.wrap
  rw [e, s]
  have h2 : (2 : Int) ^ 64 = 18446744073709551616 := by decide
  simp only [h2, Bool.false_and, Bool.false_eq_true, if_false]
  omega

def hashStep (a b : Int) : Int := IntKind.u64.wrap ((bitI .xor .u64 a (IntKind.u64.wrap b)) * 1099511628211)
def hashA (key : ByteArray) : Int := (bytesI key).foldl hashStep 14695981039346656037
/-- A key's operator, of so many. -/
def routeA (key : ByteArray) (m : Nat) : Int := ((IntKind.u64.wrap (hashA key * 11400714819323198485)).fdiv 4294967296).tmod m
theorem routeA_range (key : ByteArray) {m : Nat} (hm : 0 < m) : 0 ≤ routeA key m ∧ routeA key m < m := by
  have h := wrapu64_range (hashA key * 11400714819323198485)
  unfold routeA
  generalize IntKind.u64.wrap (hashA key * 11400714819323198485) = n at *
  have e : n.fdiv 4294967296 = n / 4294967296 := Int.fdiv_eq_ediv_of_nonneg _ (by decide)
  rw [e]
  have h1 : 0 ≤ n / 4294967296 := by omega
  rw [Int.tmod_eq_emod_of_nonneg h1]
  exact ⟨Int.emod_nonneg _ (by omega), Int.emod_lt_of_pos _ (by omega)⟩

abbrev Item := S32
abbrev Msg := S82
structure AF where
  most : Nat
  qs : List (List Item × Nat)
  bs : List (List Msg)

def isEmp (k : ByteArray) : Bool := k.toList == (⟨#[]⟩ : ByteArray).toList
/-- The error of an item that may not be put. -/
def mayA (x : Item) : Int :=
  if !x.f0 && (isEmp x.f1 || decide ((x.f1.size : Int) > 32)) then 21
  else if decide (x.f2 < -1152921504606846976) || decide (x.f2 > 1152921504606846976) then 22
  else if x.f0 && (!isEmp x.f1 || x.f3 != 0) then 16
  else 0
namespace AF
def putQ (A : AF) (i : Nat) (x : Item) : Int × AF :=
  match A.qs[i]? with
  | none => (1, A)
  | some q => if mayA x != 0 then (mayA x, A) else if q.1.length = 65536 then (2, A) else (0, { A with qs := A.qs.set i (q.1 ++ [x], q.2) })
def put (A : AF) (s : Int) (x : Item) : Int × AF := if s < 0 then (1, A) else A.putQ s.toNat x
def towardQ (A : AF) (i : Nat) : Int × Int :=
  match A.qs[i]? with
  | none => (0, 1)
  | some ([], _) => (0, 44)
  | some (x :: _, to) => if x.f0 then ((to : Int), 0) else (routeA x.f1 A.bs.length, 0)
def toward (A : AF) (s : Int) : Int × Int := if s < 0 then (0, 1) else A.towardQ s.toNat
/-- The first item gone on: out of its queue, or a mark one box further. -/
def onward (m : Nat) : List Item × Nat → List Item × Nat
  | ([], to) => ([], to)
  | (x :: r, to) => if x.f0 then (if to + 1 < m then (x :: r, to + 1) else (r, 0)) else (r, 0)
def passQ (A : AF) (i : Nat) : (Int × Int) × AF :=
  let t := A.towardQ i
  if t.2 != 0 then ((0, t.2), A) else
  match A.qs[i]?, A.bs[t.1.toNat]? with
  | some (x :: r, to), some b =>
    if b.length = A.most then ((0, 45), A)
    else ((t.1, 0), { A with qs := A.qs.set i (onward A.bs.length (x :: r, to)), bs := A.bs.set t.1.toNat (b ++ [⟨(i : Int), x⟩]) })
  | _, _ => ((0, 0), A)
def pass (A : AF) (s : Int) : (Int × Int) × AF := if s < 0 then ((0, 1), A) else A.passQ s.toNat
def takeQ (A : AF) (j : Nat) : (Int × Item × Int) × AF :=
  match A.bs[j]? with
  | none => ((0, z32, 1), A)
  | some [] => ((0, z32, 44), A)
  | some (m :: r) => ((m.f0, m.f1, 0), { A with bs := A.bs.set j r })
def take (A : AF) (s : Int) : (Int × Item × Int) × AF := if s < 0 then ((0, z32, 1), A) else A.takeQ s.toNat
def queued (A : AF) (s : Int) : Int := if s < 0 then 0 else match A.qs[s.toNat]? with | none => 0 | some q => q.1.length
def boxed (A : AF) (s : Int) : Int := if s < 0 then 0 else match A.bs[s.toNat]? with | none => 0 | some b => b.length
def empty (A : AF) : Bool := A.qs.all (fun q => q.1.isEmpty) && A.bs.all (fun b => b.isEmpty)
def new (n m k : Nat) : AF := ⟨k, List.replicate n ([], 0), List.replicate m []⟩
/-- What holds of every flow. -/
structure Ok (A : AF) : Prop where
  q1 : 1 ≤ A.qs.length
  q8 : A.qs.length ≤ 8
  b1 : 1 ≤ A.bs.length
  b8 : A.bs.length ≤ 8
  m1 : 1 ≤ A.most
  m64 : A.most ≤ 64
  ql : ∀ (i : Nat) (q : List Item × Nat), A.qs[i]? = some q → q.1.length ≤ 65536 ∧ q.2 < A.bs.length
  qx : ∀ (i : Nat) (q : List Item × Nat), A.qs[i]? = some q → ∀ x ∈ q.1, x.f1.size ≤ 32
  bl : ∀ (j : Nat) (b : List Msg), A.bs[j]? = some b → b.length ≤ A.most
end AF

theorem getElem?_set_cases {α : Type} {l : List α} {i j : Nat} {a x : α} (h : (l.set i a)[j]? = some x) : (j = i ∧ x = a) ∨ (j ≠ i ∧ l[j]? = some x) := by
  by_cases e : i = j
  · subst e
    left
    rw [List.getElem?_set_self'] at h
    cases hl : l[i]? with
    | none => rw [hl] at h; cases h
    | some y => rw [hl] at h; simp at h; exact ⟨rfl, h.symm⟩
  · right
    rw [List.getElem?_set_ne e] at h
    exact ⟨fun x => e x.symm, h⟩

theorem isEmp_size {k : ByteArray} (h : isEmp k = true) : k.size = 0 := by
  unfold isEmp at h
  rw [ByteArray.toList_eq, ByteArray.toList_eq] at h
  have h1 : k.data.toList = [] := by simpa using h
  have h3 : k.data.toList.length = k.size := rfl
  rw [h1] at h3
  simpa using h3.symm
theorem may_size {x : Item} (h : mayA x = 0) : x.f1.size ≤ 32 := by
  unfold mayA at h
  split at h
  · cases h
  · rename_i h1
    split at h
    · cases h
    · split at h
      · cases h
      · rename_i h3
        cases hm : x.f0 with
        | false =>
          rw [hm] at h1
          simp at h1
          omega
        | true =>
          rw [hm] at h3
          simp at h3
          have := isEmp_size h3.1
          omega
namespace AF
theorem onward_sub {m : Nat} {q : List Item × Nat} {x : Item} (h : x ∈ (onward m q).1) : x ∈ q.1 := by
  obtain ⟨l, to⟩ := q
  cases l with
  | nil => exact h
  | cons y r =>
    simp only [onward] at h
    split at h
    · split at h
      · exact h
      · exact List.mem_cons_of_mem _ h
    · exact List.mem_cons_of_mem _ h
theorem onward_ok {m : Nat} {q : List Item × Nat} (h : q.2 < m) (hl : q.1.length ≤ 65536) : (onward m q).1.length ≤ 65536 ∧ (onward m q).2 < m := by
  obtain ⟨l, to⟩ := q
  cases l with
  | nil => exact ⟨hl, h⟩
  | cons x r =>
    simp only [onward]
    simp at hl h
    split
    · split
      · exact ⟨by simp; omega, by simp; omega⟩
      · exact ⟨by simp; omega, by simp; omega⟩
    · exact ⟨by simp; omega, by simp; omega⟩
theorem Ok.put {A : AF} (o : A.Ok) (s : Int) (x : Item) : (A.put s x).2.Ok := by
  unfold AF.put
  split
  · exact o
  · unfold putQ
    split
    · exact o
    · rename_i q hq
      split
      · exact o
      · split
        · exact o
        · rename_i hm _
          refine { o with q1 := by simpa using o.q1, q8 := by simpa using o.q8, ql := fun i q' h => ?_, qx := fun i q' h => ?_ }
          · rcases getElem?_set_cases h with ⟨_, rfl⟩ | ⟨_, h⟩
            · have := o.ql _ _ hq
              exact ⟨by simp; omega, this.2⟩
            · exact o.ql _ _ h
          · rcases getElem?_set_cases h with ⟨_, rfl⟩ | ⟨_, h⟩
            · intro y hy
              rcases List.mem_append.1 hy with hy | hy
              · exact o.qx _ _ hq y hy
              · simp at hy; subst hy; exact may_size (by simpa using hm)
            · exact o.qx _ _ h
theorem Ok.pass {A : AF} (o : A.Ok) (s : Int) : (A.pass s).2.Ok := by
  unfold AF.pass
  split
  · exact o
  · unfold passQ
    simp only
    split
    · exact o
    · split
      · rename_i x r to b hq hb
        split
        · exact o
        · refine { o with q1 := by simpa using o.q1, q8 := by simpa using o.q8, b1 := by simpa using o.b1, b8 := by simpa using o.b8, ql := fun i q' h => ?_, qx := fun i q' h => ?_, bl := fun j b' h => ?_ }
          · simp only [List.length_set]
            rcases getElem?_set_cases h with ⟨_, rfl⟩ | ⟨_, h⟩
            · have := o.ql _ _ hq
              exact onward_ok this.2 this.1
            · exact o.ql _ _ h
          · rcases getElem?_set_cases h with ⟨_, rfl⟩ | ⟨_, h⟩
            · exact fun y hy => o.qx _ _ hq y (onward_sub hy)
            · exact o.qx _ _ h
          · rcases getElem?_set_cases h with ⟨_, rfl⟩ | ⟨_, h⟩
            · have := o.bl _ _ hb
              simp; omega
            · exact o.bl _ _ h
      · exact o
theorem Ok.addBox {A : AF} (o : A.Ok) {j : Nat} {b : List Msg} (hb : A.bs[j]? = some b) (hl : b.length < A.most) (m : Msg) : AF.Ok { A with bs := A.bs.set j (b ++ [m]) } := by
  refine { o with b1 := by simpa using o.b1, b8 := by simpa using o.b8, ql := fun i q h => (by simpa using o.ql i q h), bl := fun j' b' h => ?_ }
  rcases getElem?_set_cases h with ⟨_, rfl⟩ | ⟨_, h⟩
  · show _ ≤ A.most
    simp; omega
  · exact o.bl _ _ h
theorem Ok.take {A : AF} (o : A.Ok) (s : Int) : (A.take s).2.Ok := by
  unfold AF.take
  split
  · exact o
  · unfold takeQ
    split
    · exact o
    · exact o
    · rename_i m r hb
      refine { o with b1 := by simpa using o.b1, b8 := by simpa using o.b8, ql := fun i q h => by simpa using o.ql i q h, bl := fun j b' h => ?_ }
      rcases getElem?_set_cases h with ⟨_, rfl⟩ | ⟨_, h⟩
      · have := o.bl _ _ hb
        simp at this
        show _ ≤ A.most
        omega
      · exact o.bl _ _ h
theorem Ok.new {n m k : Nat} (h1 : 1 ≤ n) (h2 : n ≤ 8) (h3 : 1 ≤ m) (h4 : m ≤ 8) (h5 : 1 ≤ k) (h6 : k ≤ 64) : (AF.new n m k).Ok := by
  refine ⟨by simpa [AF.new] using h1, by simpa [AF.new] using h2, by simpa [AF.new] using h3, by simpa [AF.new] using h4, h5, h6, fun i q h => ?_, fun i q h => ?_, fun j b h => ?_⟩
  · simp [AF.new, List.getElem?_replicate] at h ⊢
    obtain ⟨_, rfl⟩ := h
    simp; omega
  · simp [AF.new, List.getElem?_replicate] at h ⊢
    obtain ⟨_, rfl⟩ := h
    simp
  · simp [AF.new, List.getElem?_replicate] at h ⊢
    obtain ⟨_, rfl⟩ := h
    simp
end AF
end Go.Proofs.Ytanpaamamfabkaa
