/- What each call of the program's net does. -/
import Derived.Test.YtbdopnhfbjdegaaNetP
namespace Go.Proofs.Ytbdopnhfbjdegaa
open Go Go.Tr
set_option linter.unusedVariables false
section
variable {F0 : Nat → Prop} {h0 h : H} {b : Nat} {A : AN} {B : Nat} {Rs : List HP}
theorem get_bad {p : Option Addr} {c : Int} (hc : c < 1 ∨ 64 < c) {Q : Option Addr × Int → H → Prop} (k : Q (none, 1) h) : net_Net_get p c h Q := by
  unfold net_Net_get
  refine jn_c true h (fun K hK => ?_) (ite_t rfl k)
  refine ite_b (fun _ => hK) fun c1 => ?_
  have : decide (c > 64) = true := by simp at c1 ⊢; omega
  rw [this]; exact hK
theorem get_at {ps : Ar 65 (Option Addr)} (S : SG F0 h0 h (varP k66 b (cell A ps) :: Rs)) {n : Nat} (h1 : 1 ≤ n) (h2 : n ≤ 64) {q : Option Addr} (hp : ps.l[n]'(by rw [ps.h]; omega) = q) {Q : Option Addr × Int → H → Prop} (k : Q (q, if q.isNone then 44 else 0) h) : net_Net_get (some ⟨b, 0, none⟩) (n : Int) h Q := by
  unfold net_Net_get
  have hl : ld kP ⟨b, 2 + n * 1, none⟩ h = some q := by rw [varP.ld S (fn_conn n (by omega)) 0 rfl]; exact congrArg some hp
  have hi : ixR 65 1 ((⟨b, 0, none⟩ : Addr).add 2) (n : Int) = some ⟨b, 2 + n * 1, none⟩ := by
    rw [add_mk]; exact ixR_at (by omega)
  refine jn_c false h (fun K hK => ?_) (ite_f rfl ?_)
  · refine ite_f (by simp; omega) ?_
    have : decide ((n : Int) > 64) = false := by simp; omega
    rw [this]; exact hK
  · refine rd_some rfl (rd_some hi (rd_some hl ?_))
    cases q with
    | none => exact ite_t rfl k
    | some a => exact ite_f rfl (rd_some rfl (rd_some hi (rd_some hl k)))
/-- A connection's number, and what 'get' tells of it. -/
theorem net_go (hl : A.cs.length = 65) (S : SG F0 h0 h (netP b A :: Rs)) (c : Int) {G : Prop}
    (bad : A.look c = .bad → (∀ Q : Option Addr × Int → H → Prop, Q (none, 1) h → net_Net_get (some ⟨b, 0, none⟩) c h Q) → G)
    (non : ∀ (n : Nat) (ps : Ar 65 (Option Addr)), A.look c = .none → c = n → 1 ≤ n → n ≤ 64 → SG F0 h0 h (varP k66 b (cell A ps) :: conns A ps ++ Rs) → (∀ Q : Option Addr × Int → H → Prop, Q (none, 44) h → net_Net_get (some ⟨b, 0, none⟩) c h Q) → G)
    (som : ∀ (n : Nat) (x : AC) (ps : Ar 65 (Option Addr)) (cb : Nat) (w ib ob hd : Sl), A.look c = .some n x → c = n → ∀ hn : n < 65, ps.l[n]'(by rw [ps.h]; exact hn) = some ⟨cb, 0, none⟩ → SG F0 h0 h (connL A.i A.o cb w ib ob hd x ++ (varP k66 b (cell A ps) :: (conns A ps).eraseIdx n ++ Rs)) → (∀ Q : Option Addr × Int → H → Prop, Q (some ⟨cb, 0, none⟩, 0) h → net_Net_get (some ⟨b, 0, none⟩) c h Q) → G) : G := by
  rcases A.look_cases c hl with ⟨hk, hc⟩ | ⟨hk, n, rfl, h1, h2, hx⟩ | ⟨n, x, hk, rfl, h1, h2, hx⟩
  · exact bad hk fun Q k => get_bad hc k
  · obtain ⟨ps, S1⟩ := net_out S
    obtain ⟨hlt, hx⟩ := List.getElem?_eq_some_iff.1 hx
    rcases conn_at hl S1 (n := n) (by omega) with ⟨hp, _⟩ | ⟨a, x', _, hx'⟩
    · exact non n ps hk rfl h1 h2 S1 fun Q k => get_at S1 h1 h2 hp k
    · rw [hx] at hx'; cases hx'
  · obtain ⟨ps, S1⟩ := net_out S
    obtain ⟨hlt, hx⟩ := List.getElem?_eq_some_iff.1 hx
    obtain ⟨cb, w, ib, ob, hd, hp, S2⟩ := conn_out hl S1 (n := n) (by omega) hx
    exact som n x ps cb w ib ob hd hk rfl (by omega) hp S2 fun Q k => get_at S1 h1 h2 hp k
theorem live_go (hl : A.cs.length = 65) (S : SG F0 h0 h (netP b A :: Rs)) (c : Int) {G : Prop}
    (bad : A.liveE c ≠ 0 → (∀ Q : Option Addr × Int → H → Prop, Q (none, A.liveE c) h → net_Net_live (some ⟨b, 0, none⟩) c h Q) → G)
    (som : ∀ (n : Nat) (x : AC) (ps : Ar 65 (Option Addr)) (cb : Nat) (w ib ob hd : Sl), A.look c = .some n x → AN.gone x = false → c = n → ∀ hn : n < 65, ps.l[n]'(by rw [ps.h]; exact hn) = some ⟨cb, 0, none⟩ → SG F0 h0 h (connL A.i A.o cb w ib ob hd x ++ (varP k66 b (cell A ps) :: (conns A ps).eraseIdx n ++ Rs)) → (∀ Q : Option Addr × Int → H → Prop, Q (some ⟨cb, 0, none⟩, 0) h → net_Net_live (some ⟨b, 0, none⟩) c h Q) → G) : G := by
  refine net_go hl S c (fun hk get => ?_) (fun n ps hk _ _ _ _ get => ?_) (fun n x ps cb w ib ob hd hk hc hn hp S' get => ?_)
  · have e : A.liveE c = 1 := by unfold AN.liveE; rw [hk]
    exact bad (by rw [e]; decide) fun Q k => by
      unfold net_Net_live
      rw [e] at k
      exact get _ (ite_t rfl k)
  · have e : A.liveE c = 44 := by unfold AN.liveE; rw [hk]
    exact bad (by rw [e]; decide) fun Q k => by
      unfold net_Net_live
      rw [e] at k
      exact get _ (ite_t rfl k)
  · have hcut : ld kB ⟨cb, 8, none⟩ h = some x.cut := varP.ld S' fc_cut 0 rfl
    have hclo : ld kB ⟨cb, 7, none⟩ h = some x.closed := varP.ld S' fc_closed 0 rfl
    have live : ∀ Q : Option Addr × Int → H → Prop, Q (if AN.gone x then (none, 44) else (some ⟨cb, 0, none⟩, 0)) h → net_Net_live (some ⟨b, 0, none⟩) c h Q := fun Q k => by
      unfold net_Net_live
      refine get _ (ite_f rfl ?_)
      refine jn_c (AN.gone x) h (fun K hK => ?_) ?_
      · refine rd_some rfl (rd_some (by rw [add_mk]; exact hcut) ?_)
        unfold AN.gone at hK
        refine ite_b (fun e => ?_) (fun e => ?_)
        · rw [e, Bool.true_or] at hK; exact hK
        · rw [e, Bool.false_or] at hK
          exact rd_some rfl (rd_some (by rw [add_mk]; exact hclo) hK)
      · refine ite_b (fun e => ?_) (fun e => ?_)
        · rw [if_pos e] at k; exact k
        · rw [e] at k; exact k
    cases hg : AN.gone x with
    | true =>
      have e : A.liveE c = 44 := by unfold AN.liveE; rw [hk]; simp [hg]
      exact bad (by rw [e]; decide) fun Q k => live Q (by rw [hg]; rw [e] at k; exact k)
    | false => exact som n x ps cb w ib ob hd hk hg hc hn hp S' fun Q k => live Q (by rw [hg]; exact k)

theorem send_spec (ok : A.Ok B) {c : Int} {s : Sl} {ys : List Int} (R : Rds u8 h s ys) (hy : ys.length ≤ 140737488351232) :
    Does h [netP b A] (fun Q => net_Net_Send (some ⟨b, 0, none⟩) c s h Q) (fun _ : Unit => (A.send c ys).1) (fun _ => [netP b (A.send c ys).2]) := by
  intro F0 h0 Q S k
  have k := k ()
  show net_Net_Send _ _ _ _ _
  unfold net_Net_Send
  refine live_go ok.l S c (fun he get => get _ (ite_t (by simpa using he) ?_)) (fun n x ps cb w ib ob hd hk hg hc hn hp S' get => get _ (ite_f rfl ?_))
  · rw [AN.send_e he] at k; exact k h S
  · have hx := ok.x n x (AN.look_some hk).1
    have hw : ld kL ⟨cb, 0, none⟩ h = some w := varP.ld S' (fc_way.comp fb_bytes) 0 rfl
    have hwl : w.len = x.way.length := ownP.len (K := u8) S' 1 rfl
    have hsl := R.len
    have e : A.send c ys = if x.way.length + ys.length > 1048576 then (2, A) else (0, A.put n { x with way := x.way ++ ys }) := by unfold AN.send; rw [hk]; simp [hg]
    rw [e] at k
    refine rd_some rfl (rd_some hw ?_)
    rw [wrap64_id (by omega) (by omega), hwl, hsl]
    by_cases hm : x.way.length + ys.length > 1048576
    · rw [if_pos hm] at k
      exact ite_t (by simp; omega) (k h S)
    · rw [if_neg hm] at k
      refine ite_f (by simp; omega) (rd_some rfl ?_)
      have hn' : layN (-1) x.way.length ys.length = ys.length := by unfold layN; rw [if_pos (by decide)]
      refine lay_spec fc_way S' 0 1 (room := -1) rfl (xs := x.way) rfl rfl (by decide) R (by omega) hy (.inl (by decide)) (by rw [hn']; omega) fun s' h3 S3 => ?_
      rw [hn', List.take_length] at S3
      exact k h3 (net_in (conn_in ok.l hn hp (x := { x with way := x.way ++ ys }) S3))
theorem add_spec {α : Type} {K : Kd α} {off : Nat} {g : α → Int} {p : α → Int → α} (f : Fld K (kI .i64) off g p) (S : SG F0 h0 h Rs) (i : Nat) {cb : Nat} {x : α} (hi : Rs[i]? = some (varP K cb x)) (n : Int) {Q : Int → H → Prop}
    (k : ∀ h', SG F0 h0 h' (Rs.set i (varP K cb (p x (IntKind.i64.wrap (g x + n))))) → Q (IntKind.i64.wrap (g x + n)) h') : sync_atomic_Int64_Add (some ⟨cb, off, none⟩) n h Q := by
  unfold sync_atomic_Int64_Add
  obtain ⟨h', s', S', _⟩ := varP.st S f i hi (IntKind.i64.wrap (g x + n))
  exact rd_some rfl (rd_some (by rw [add_mk]; exact varP.ld S f i hi) (rd_some (by rw [add_mk]; exact s') (k h' S')))
theorem bring_spec (ok : A.Ok B) (c most : Int) :
    Does h [netP b A] (fun Q => net_Net_Bring (some ⟨b, 0, none⟩) c most h Q) (fun _ : Unit => (A.bring c most).1) (fun _ => [netP b (A.bring c most).2]) := by
  intro F0 h0 Q S k
  have k := k ()
  show net_Net_Bring _ _ _ _ _
  unfold net_Net_Bring
  refine net_go ok.l S c (fun hk get => get _ (ite_t rfl ?_)) (fun n ps hk _ _ _ _ get => get _ (ite_t rfl ?_)) (fun n x ps cb w ib ob hd hk hc hn hp S' get => get _ (ite_f rfl ?_))
  · have e : A.bring c most = ((0, 1), A) := by unfold AN.bring; rw [hk]
    rw [e] at k; exact k h S
  · have e : A.bring c most = ((0, 44), A) := by unfold AN.bring; rw [hk]
    rw [e] at k; exact k h S
  · have hx := ok.x n x (AN.look_some hk).1
    have hi2 := ok.i2
    have hw : ld kL ⟨cb, 0, none⟩ h = some w := varP.ld S' (fc_way.comp fb_bytes) 0 rfl
    have hwl : w.len = x.way.length := ownP.len (K := u8) S' 1 rfl
    have e : A.bring c most = ((((A.bringN x most : Nat) : Int), 0), { A.put n { x with way := x.way.drop (A.bringN x most), inb := x.inb ++ x.way.take (A.bringN x most) } with moved := IntKind.i64.wrap (A.moved + (A.bringN x most : Nat)) }) := by unfold AN.bring; rw [hk]
    rw [e] at k
    refine rd_some rfl (rd_some rfl (rd_some hw (rd_some rfl (rd_some hw ?_))))
    have em : (if (if (w.len : Int) < most then (w.len : Int) else most) > 0 then (if (w.len : Int) < most then (w.len : Int) else most) else 0) = ((min most.toNat x.way.length : Nat) : Int) := by
      rw [hwl]; split <;> split <;> omega
    rw [em]
    have Rw := ownP.rds (K := u8) S' 1 rfl
    obtain ⟨a1, ha1, Ra1, _⟩ := Rw.slx_hi (n := min most.toNat x.way.length) (Nat.min_le_right _ _) (w := 1) rfl
    refine rd_some ha1 ?_
    have hN : layN (A.i : Int) x.inb.length (x.way.take (min most.toNat x.way.length)).length = A.bringN x most := by
      unfold layN AN.bringN
      rw [if_neg (by omega), List.length_take, Int.toNat_natCast]
      congr 1
      omega
    have hle : A.bringN x most ≤ min most.toNat x.way.length := Nat.min_le_left _ _
    refine lay_spec fc_inb S' 0 2 (room := (A.i : Int)) rfl (xs := x.inb) rfl rfl (by decide) Ra1 (by omega) (by simp; omega) (.inr ⟨by omega, by omega⟩) (by rw [hN]; omega) fun s' h3 S3 => ?_
    rw [hN, List.take_take, Nat.min_eq_left hle] at *
    refine rd_some rfl ?_
    refine buf_take_spec fc_way S3 0 1 (room := -1) rfl (xs := x.way) rfl rfl (by decide) (n := A.bringN x most) (by omega) (by omega) fun s1 s2 h4 S4 => ?_
    refine rd_some rfl (add_spec fn_moved S4.tail 5 (x := cell A ps) rfl _ fun h5 S5 => ?_)
    exact k h5 (net_in (A := { A.put n { x with way := x.way.drop (A.bringN x most), inb := x.inb ++ x.way.take (A.bringN x most) } with moved := IntKind.i64.wrap (A.moved + (A.bringN x most : Nat)) }) (conn_in (A := { A with moved := IntKind.i64.wrap (A.moved + (A.bringN x most : Nat)) }) ok.l hn hp (x := { x with way := x.way.drop (A.bringN x most), inb := x.inb ++ x.way.take (A.bringN x most) }) S5))
theorem fetch_spec (ok : A.Ok B) (hB : B ≤ 10000000000) (c most : Int) :
    Does h [netP b A] (fun Q => net_Net_Fetch (some ⟨b, 0, none⟩) c most h Q) (fun _ : Unit => (A.fetch c most).1) (fun _ => [netP b (A.fetch c most).2]) := by
  intro F0 h0 Q S k
  have k := k ()
  show net_Net_Fetch _ _ _ _ _
  unfold net_Net_Fetch
  refine net_go ok.l S c (fun hk get => get _ (ite_t rfl ?_)) (fun n ps hk _ _ _ _ get => get _ (ite_t rfl ?_)) (fun n x ps cb w ib ob hd hk hc hn hp S' get => get _ (ite_f rfl ?_))
  · have e : A.fetch c most = ((0, 1), A) := by unfold AN.fetch; rw [hk]
    rw [e] at k; exact k h S
  · have e : A.fetch c most = ((0, 44), A) := by unfold AN.fetch; rw [hk]
    rw [e] at k; exact k h S
  · have hx := ok.x n x (AN.look_some hk).1
    have hi2 := ok.o2
    have hw : ld kL ⟨cb, 4, none⟩ h = some ob := varP.ld S' (fc_out.comp fb_bytes) 0 rfl
    have hwl : ob.len = x.out.length := ownP.len (K := u8) S' 3 rfl
    have e : A.fetch c most = ((((AN.fetchN x most : Nat) : Int), 0), { A.put n { x with out := x.out.drop (AN.fetchN x most), heard := x.heard ++ x.out.take (AN.fetchN x most) } with moved := IntKind.i64.wrap (A.moved + (AN.fetchN x most : Nat)) }) := by unfold AN.fetch; rw [hk]
    rw [e] at k
    refine rd_some rfl (rd_some rfl (rd_some hw ?_))
    have em : (if (if (ob.len : Int) < most then (ob.len : Int) else most) > 0 then (if (ob.len : Int) < most then (ob.len : Int) else most) else 0) = ((AN.fetchN x most : Nat) : Int) := by
      unfold AN.fetchN
      rw [hwl]; split <;> split <;> omega
    rw [em]
    have hle : AN.fetchN x most ≤ x.out.length := Nat.min_le_right _ _
    refine buf_take_spec fc_out S' 0 3 (room := (A.o : Int)) rfl (xs := x.out) rfl rfl (by decide) (n := AN.fetchN x most) hle (by omega) fun s1 s2 h4 S4 => ?_
    have hh : ld kL ⟨cb, 6, none⟩ h4 = some hd := varP.ld S4 fc_heard 1 rfl
    have Rt := ownP.rds (K := u8) S4 0 rfl
    have hl : (x.out.take (AN.fetchN x most)).length = AN.fetchN x most := by simp; omega
    have hr : ((s1.len : Nat) : Int) = ((AN.fetchN x most : Nat) : Int) := by rw [Rt.len, hl]
    refine rd_some rfl (rd_some hh ?_)
    refine ownP.app (K := u8) (by decide) S4 5 (xs := x.heard) rfl Rt (by rw [hl]; omega) (by rw [hl]; omega) fun s3 h5 S5 => ?_
    obtain ⟨h6, s6, S6, _⟩ := varP.st S5 fc_heard 1 rfl s3
    refine rd_some rfl (rd_some s6 ?_)
    rw [hr]
    refine rd_some rfl (add_spec fn_moved S6.tail 5 (x := cell A ps) rfl _ fun h7 S7 => ?_)
    exact k h7 (net_in (A := { A.put n { x with out := x.out.drop (AN.fetchN x most), heard := x.heard ++ x.out.take (AN.fetchN x most) } with moved := IntKind.i64.wrap (A.moved + (AN.fetchN x most : Nat)) }) (conn_in (A := { A with moved := IntKind.i64.wrap (A.moved + (AN.fetchN x most : Nat)) }) ok.l hn hp (x := { x with out := x.out.drop (AN.fetchN x most), heard := x.heard ++ x.out.take (AN.fetchN x most) }) S7))
theorem take_spec (ok : A.Ok B) (c : Int) :
    Does h [netP b A] (fun Q => net_Net_Take (some ⟨b, 0, none⟩) c h Q) (fun s : Sl => (s, (A.take c).1.2)) (fun s => [netP b (A.take c).2, ownP u8 s (A.take c).1.1]) := by
  intro F0 h0 Q S k
  show net_Net_Take _ _ _ _
  unfold net_Net_Take
  refine live_go ok.l S c (fun he get => get _ (ite_t (by simpa using he) ?_)) (fun n x ps cb w ib ob hd hk hg hc hn hp S' get => get _ (ite_f rfl ?_))
  · rw [AN.take_e he] at k
    exact k Sl.nil h (SG.swap (S.made (Ext.refl _) (Own.nil _ _ _)))
  · have hx := ok.x n x (AN.look_some hk).1
    have hi2 := ok.i2
    have e : A.take c = ((x.inb, 0), A.put n { x with inb := [] }) := by unfold AN.take; rw [hk]; simp [hg]
    rw [e] at k
    have hw : ld kL ⟨cb, 2, none⟩ h = some ib := varP.ld S' (fc_inb.comp fb_bytes) 0 rfl
    have hwl : ib.len = x.inb.length := ownP.len (K := u8) S' 2 rfl
    refine rd_some rfl (rd_some rfl (rd_some hw ?_))
    rw [hwl]
    refine buf_take_spec fc_inb S' 0 2 (room := (A.i : Int)) rfl (xs := x.inb) rfl rfl (by decide) (n := x.inb.length) (Nat.le_refl _) (by omega) fun s1 s2 h4 S4 => ?_
    rw [List.take_length, List.drop_length] at S4
    have S5 := S4.perm (List.perm_append_comm (l₁ := [ownP u8 s1 x.inb]))
    rw [List.append_nil] at S5
    refine k s1 h4 ?_
    exact net_in (conn_in (Rs := [ownP u8 s1 x.inb]) ok.l hn hp (x := { x with inb := [] }) (w := w) (ib := s2) (ob := ob) (hd := hd) S5)
theorem write_spec (ok : A.Ok B) {c : Int} {s : Sl} {ys : List Int} (R : Rds u8 h s ys) (hy : ys.length ≤ 140737488351232) :
    Does h [netP b A] (fun Q => net_Net_Write (some ⟨b, 0, none⟩) c s h Q) (fun _ : Unit => (A.write c ys).1) (fun _ => [netP b (A.write c ys).2]) := by
  intro F0 h0 Q S k
  have k := k ()
  show net_Net_Write _ _ _ _ _
  unfold net_Net_Write
  refine live_go ok.l S c (fun he get => get _ (ite_t (by simpa using he) ?_)) (fun n x ps cb w ib ob hd hk hg hc hn hp S' get => get _ (ite_f rfl ?_))
  · rw [AN.write_e he] at k; exact k h S
  · have hx := ok.x n x (AN.look_some hk).1
    have ho2 := ok.o2
    have e : A.write c ys = ((((A.writeN x ys : Nat) : Int), 0), A.put n { x with out := x.out ++ ys.take (A.writeN x ys) }) := by unfold AN.write; rw [hk]; simp [hg]
    rw [e] at k
    have hN : layN (A.o : Int) x.out.length ys.length = A.writeN x ys := by
      unfold layN AN.writeN
      rw [if_neg (by omega), Int.toNat_natCast]
    have hle : A.writeN x ys ≤ A.o - x.out.length := Nat.min_le_right _ _
    refine rd_some rfl (lay_spec fc_out S' 0 3 (room := (A.o : Int)) rfl (xs := x.out) rfl rfl (by decide) R (by omega) hy (.inr ⟨by omega, by omega⟩) (by rw [hN]; omega) fun s' h3 S3 => ?_)
    rw [hN] at *
    exact k h3 (net_in (conn_in ok.l hn hp (x := { x with out := x.out ++ ys.take (A.writeN x ys) }) S3))
end
end Go.Proofs.Ytbdopnhfbjdegaa
