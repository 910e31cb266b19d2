/- The plain law of AuditParts. No program in sight. -/
import Derived.Test.YtelfachmfcjpoaaPAx10
import Derived.Test.YtelfachmfcjpoaaTq
namespace Go.Proofs.Ytelfachmfcjpoaa.PA
open Go.RowKit Go.Proofs.YtelfachmfcjpoaaW.PrintWords Go.Proofs.YtelfachmfcjpoaaW.PrintLast Go.Proofs.YtelfachmfcjpoaaW.PrintMore
set_option linter.unusedVariables false

abbrev STt := S41
def sel (p : Int) (L : List Int) (n : Nat) : Int := if p ∈ L then (n : Int) else 0

theorem cnt_append (p : Int) (A B : List SA') : cnt p (A ++ B) = cnt p A + cnt p B := by simp [cnt]
theorem agn_append (p : Int) (A B : List SA') : agn p (A ++ B) = agn p A + agn p B := by simp [agn]
theorem fld_append (p : Int) (A B : List SA') : fld p (A ++ B) = fld p A + fld p B := by simp [fld]
theorem none_of (p : Int) (R : List SA') (h : p ∉ keysOf R) : cnt p R = 0 ∧ agn p R = 0 ∧ fld p R = 0 := by
  have hn : ∀ r ∈ R, ¬ r.f3 = p := fun r hr e => h ((keysOf_mem p R).2 ⟨r, hr, e⟩)
  refine ⟨?_, ?_, ?_⟩ <;> (first | unfold cnt | unfold agn | unfold fld) <;> rw [List.length_eq_zero_iff, List.filter_eq_nil_iff] <;> intro r hr <;> simp [hn r hr]
theorem sel_all (p : Int) (R : List SA') : sel p (keysOf R) (cnt p R) = cnt p R ∧ sel p (keysOf R) (agn p R) = agn p R ∧ sel p (keysOf R) (fld p R) = fld p R := by
  unfold sel
  by_cases h : p ∈ keysOf R
  · simp [h]
  · obtain ⟨h1, h2, h3⟩ := none_of p R h
    simp [h, h1, h2, h3]
theorem sel_le (p : Int) (L : List Int) (n m : Nat) (h : n ≤ m) : 0 ≤ sel p L n ∧ sel p L n ≤ m := by unfold sel; split <;> omega
theorem sel_nil (p : Int) (n : Nat) : sel p [] n = 0 := by simp [sel]
theorem sel_succ (p q : Int) (L : List Int) (n m : Nat) (hd : q ∉ L) (hm : q = p → m = n) (c : Int) : (if q = p then (c - sel p L n) - m else c - sel p L n) = c - sel p (L ++ [q]) n := by
  unfold sel
  by_cases e : q = p
  · subst e
    simp [hd, hm rfl]
  · have : ¬ p = q := fun h => e h.symm
    simp [e, this]
theorem wrap_mid (c : Int) (n m : Nat) (h : n ≤ 4194304) (h1 : -10000000 ≤ c) (h2 : c ≤ 10000000) (L : List Int) (p : Int) (hm : m ≤ 4194304) : wrap64 (c - sel p L m - n) = c - sel p L m - n := by
  have := sel_le p L m 4194304 hm
  exact wrap_small _ (by omega) (by omega)

theorem pl1_next (k : Nat) (a : List SA') (T X Y : List STt) (i j p c g f : Int) (x : STt) (hj : j < (X.length : Int)) (h0 : 0 ≤ j) (hx : rd_T41 X j = x)
    (hwj : wrap64 (j + 1) = j + 1) (w1 : wrap64 (c - x.f1) = c - x.f1) (w2 : wrap64 (g - x.f2) = g - x.f2) (w3 : wrap64 (f - x.f3) = f - x.f3) :
    coraclelaw24_AuditParts.l1 (k + 1) a T X Y i j p c g f = coraclelaw24_AuditParts.l1 k a T X Y i (j + 1) p (if x.f0 = p then c - x.f1 else c) (if x.f0 = p then g - x.f2 else g) (if x.f0 = p then f - x.f3 else f) := by
  rw [coraclelaw24_AuditParts.l1, if_pos hj, if_pos h0, hx, hwj, w1, w2, w3]
  by_cases e : x.f0 = p <;> simp only [e, if_true, if_false]
theorem pl1_end (k : Nat) (a : List SA') (T X Y : List STt) (i j p c g f : Int) (hj : ¬ j < (X.length : Int)) :
    coraclelaw24_AuditParts.l1 (k + 1) a T X Y i j p c g f = coraclelaw24_AuditParts.l2 k a T X Y i 0 p c g f := by
  rw [coraclelaw24_AuditParts.l1, if_neg hj]
theorem pl2_next (k : Nat) (a : List SA') (T X Y : List STt) (i j p c g f : Int) (x : STt) (hj : j < (Y.length : Int)) (h0 : 0 ≤ j) (hx : rd_T41 Y j = x)
    (hwj : wrap64 (j + 1) = j + 1) (w1 : wrap64 (c - x.f1) = c - x.f1) (w2 : wrap64 (g - x.f2) = g - x.f2) (w3 : wrap64 (f - x.f3) = f - x.f3) :
    coraclelaw24_AuditParts.l2 (k + 1) a T X Y i j p c g f = coraclelaw24_AuditParts.l2 k a T X Y i (j + 1) p (if x.f0 = p then c - x.f1 else c) (if x.f0 = p then g - x.f2 else g) (if x.f0 = p then f - x.f3 else f) := by
  rw [coraclelaw24_AuditParts.l2, if_pos hj, if_pos h0, hx, hwj, w1, w2, w3]
  by_cases e : x.f0 = p <;> simp only [e, if_true, if_false]
theorem pl2_end (k : Nat) (a : List SA') (T X Y : List STt) (i j p : Int) (hj : ¬ j < (Y.length : Int)) (hwi : wrap64 (i + 1) = i + 1) :
    coraclelaw24_AuditParts.l2 (k + 1) a T X Y i j p 0 0 0 = coraclelaw24_AuditParts.l0 k a T X Y (i + 1) := by
  rw [coraclelaw24_AuditParts.l2, if_neg hj, if_pos rfl, if_pos rfl, if_pos rfl, hwi]

theorem rdT (R : List SA') (j : Nat) (h : j < (keysOf R).length) : rd_T41 (totalsOf R) (j : Int) = tot (keysOf R)[j] R := by
  show (totalsOf R).getD (j : Int).toNat _ = _
  rw [List.getD_eq_getElem?_getD, Int.toNat_natCast, List.getElem?_eq_getElem (by simpa [totalsOf] using h)]
  simp [totalsOf]
theorem keys_apart (R : List SA') (j : Nat) (h : j < (keysOf R).length) : (keysOf R)[j] ∉ (keysOf R).take j := by
  intro hm
  obtain ⟨n, hn, e⟩ := List.getElem_of_mem hm
  rw [List.length_take] at hn
  have hr := List.pairwise_iff_getElem.1 (keysOf_rising R) n j (by omega) h (by omega)
  rw [List.getElem_take] at e
  rw [e] at hr
  exact Int.lt_irrefl _ hr

theorem scan1 (a : List SA') (T Y : List STt) (R : List SA') (hR : R.length ≤ 4194304) (i p c g f : Int) (res : Bool)
    (hc : -10000000 ≤ c ∧ c ≤ 10000000) (hg : -10000000 ≤ g ∧ g ≤ 10000000) (hf : -10000000 ≤ f ∧ f ≤ 10000000)
    (h : Evt (fun k => coraclelaw24_AuditParts.l2 k a T (totalsOf R) Y i 0 p (c - cnt p R) (g - agn p R) (f - fld p R)) res) :
    ∀ (d j : Nat), j + d = (keysOf R).length →
      Evt (fun k => coraclelaw24_AuditParts.l1 k a T (totalsOf R) Y i j p (c - sel p ((keysOf R).take j) (cnt p R)) (g - sel p ((keysOf R).take j) (agn p R)) (f - sel p ((keysOf R).take j) (fld p R))) res := by
  have hT : (totalsOf R).length = (keysOf R).length := by simp [totalsOf]
  have hK := Nat.le_trans (keysOf_length R) hR
  intro d
  induction d with
  | zero =>
    intro j hj
    rw [List.take_of_length_le (by omega), (sel_all p R).1, (sel_all p R).2.1, (sel_all p R).2.2]
    exact h.step fun k => pl1_end k a T _ Y i j p _ _ _ (by rw [hT]; omega)
  | succ d ih =>
    intro j hj
    have hjl : j < (keysOf R).length := by omega
    have hi' := ih (j + 1) (by omega)
    rw [List.take_succ_eq_append_getElem hjl] at hi'
    refine hi'.step fun k => ?_
    rw [pl1_next k a T _ Y i j p _ _ _ (tot (keysOf R)[j] R) (by rw [hT]; exact Int.ofNat_lt.2 hjl) (Int.natCast_nonneg _) (rdT R j hjl) (wrap_nat1 j j (Nat.le_refl _) (by omega))
      (wrap_mid c _ _ (Nat.le_trans (cnt_le _ _) hR) hc.1 hc.2 _ _ (Nat.le_trans (cnt_le _ _) hR)) (wrap_mid g _ _ (Nat.le_trans (agn_le _ _) hR) hg.1 hg.2 _ _ (Nat.le_trans (agn_le _ _) hR)) (wrap_mid f _ _ (Nat.le_trans (fld_le _ _) hR) hf.1 hf.2 _ _ (Nat.le_trans (fld_le _ _) hR))]
    have hd := keys_apart R j hjl
    have e1 := sel_succ p (keysOf R)[j] ((keysOf R).take j) (cnt p R) (cnt (keysOf R)[j] R) hd (fun e => by rw [e]) c
    have e2 := sel_succ p (keysOf R)[j] ((keysOf R).take j) (agn p R) (agn (keysOf R)[j] R) hd (fun e => by rw [e]) g
    have e3 := sel_succ p (keysOf R)[j] ((keysOf R).take j) (fld p R) (fld (keysOf R)[j] R) hd (fun e => by rw [e]) f
    rw [← e1, ← e2, ← e3]
    rfl

theorem scan2 (a : List SA') (T X : List STt) (R : List SA') (hR : R.length ≤ 4194304) (i p c g f : Int) (res : Bool)
    (hc : c = cnt p R) (hg : g = agn p R) (hf : f = fld p R) (hwi : wrap64 (i + 1) = i + 1)
    (h : Evt (fun k => coraclelaw24_AuditParts.l0 k a T X (totalsOf R) (i + 1)) res) :
    ∀ (d j : Nat), j + d = (keysOf R).length →
      Evt (fun k => coraclelaw24_AuditParts.l2 k a T X (totalsOf R) i j p (c - sel p ((keysOf R).take j) (cnt p R)) (g - sel p ((keysOf R).take j) (agn p R)) (f - sel p ((keysOf R).take j) (fld p R))) res := by
  have hT : (totalsOf R).length = (keysOf R).length := by simp [totalsOf]
  have hK := Nat.le_trans (keysOf_length R) hR
  have b1 := Nat.le_trans (cnt_le p R) hR
  have b2 := Nat.le_trans (agn_le p R) hR
  have b3 := Nat.le_trans (fld_le p R) hR
  have c1 : -10000000 ≤ c ∧ c ≤ 10000000 := by rw [hc]; generalize cnt p R = n at *; omega
  have c2 : -10000000 ≤ g ∧ g ≤ 10000000 := by rw [hg]; generalize agn p R = n at *; omega
  have c3 : -10000000 ≤ f ∧ f ≤ 10000000 := by rw [hf]; generalize fld p R = n at *; omega
  intro d
  induction d with
  | zero =>
    intro j hj
    rw [List.take_of_length_le (by omega), (sel_all p R).1, (sel_all p R).2.1, (sel_all p R).2.2, hc, hg, hf, Int.sub_self, Int.sub_self, Int.sub_self]
    exact h.step fun k => pl2_end k a T X _ i j p (by rw [hT]; omega) hwi
  | succ d ih =>
    intro j hj
    have hjl : j < (keysOf R).length := by omega
    have hi' := ih (j + 1) (by omega)
    rw [List.take_succ_eq_append_getElem hjl] at hi'
    refine hi'.step fun k => ?_
    rw [pl2_next k a T X _ i j p _ _ _ (tot (keysOf R)[j] R) (by rw [hT]; exact Int.ofNat_lt.2 hjl) (Int.natCast_nonneg _) (rdT R j hjl) (wrap_nat1 j j (Nat.le_refl _) (by omega))
      (wrap_mid c _ _ (Nat.le_trans (cnt_le _ _) hR) c1.1 c1.2 _ _ b1) (wrap_mid g _ _ (Nat.le_trans (agn_le _ _) hR) c2.1 c2.2 _ _ b2) (wrap_mid f _ _ (Nat.le_trans (fld_le _ _) hR) c3.1 c3.2 _ _ b3)]
    have hd := keys_apart R j hjl
    have e1 := sel_succ p (keysOf R)[j] ((keysOf R).take j) (cnt p R) (cnt (keysOf R)[j] R) hd (fun e => by rw [e]) c
    have e2 := sel_succ p (keysOf R)[j] ((keysOf R).take j) (agn p R) (agn (keysOf R)[j] R) hd (fun e => by rw [e]) g
    have e3 := sel_succ p (keysOf R)[j] ((keysOf R).take j) (fld p R) (fld (keysOf R)[j] R) hd (fun e => by rw [e]) f
    rw [← e1, ← e2, ← e3]
    rfl

theorem keys_le (A B : List SA') (h : ∀ r ∈ A, r ∈ B) : (keysOf A).length ≤ (keysOf B).length :=
  List.Nodup.length_le_of_subset ((keysOf_rising A).imp (fun h => by omega)) fun p hp => by
    obtain ⟨r, hr, e⟩ := (keysOf_mem p A).1 hp
    exact (keysOf_mem p B).2 ⟨r, h r hr, e⟩

theorem wrap_keys (i : Nat) (h : i ≤ 8388608) : wrap64 ((i : Int) + 1) = i + 1 := wrap_small _ (by omega) (by omega)

theorem twice_none (A : List SA') : ∀ (i : Nat) (L : List SA'), twiceGo 0 i L A = [] := by
  induction A with
  | nil => intro i L; rfl
  | cons r rs ih =>
    intro i L
    have hl : (lowOf 0 L.length).toNat = L.length := by unfold lowOf mx; split <;> split <;> omega
    by_cases h : chg r = true
    · rw [twiceGo_no h (by rw [hl, List.drop_length]; rfl), ih]
    · rw [twiceGo_ne (by simpa using h), ih]

theorem parts_outer (A B : List SA') (hA : A.length ≤ 2097152) (hB : B.length ≤ 2097152) : ∀ (d i : Nat), i + d = (keysOf (A ++ B)).length →
    Evt (fun k => coraclelaw24_AuditParts.l0 k A (totalsOf (A ++ B)) (totalsOf A) (totalsOf B) i) true := by
  have hT : (totalsOf (A ++ B)).length = (keysOf (A ++ B)).length := by simp [totalsOf]
  have hX : (totalsOf A).length = (keysOf A).length := by simp [totalsOf]
  have hY : (totalsOf B).length = (keysOf B).length := by simp [totalsOf]
  have k1 := keys_le A (A ++ B) (fun r hr => List.mem_append_left _ hr)
  have k2 := keys_le B (A ++ B) (fun r hr => List.mem_append_right _ hr)
  have hK := keysOf_length (A ++ B)
  rw [List.length_append] at hK
  intro d
  induction d with
  | zero =>
    intro i hi
    refine Evt.now fun k => ?_
    rw [coraclelaw24_AuditParts.l0, if_neg (by rw [hT]; omega)]
    have e : audit_Twice.f A 0 = some [] := by
      unfold audit_Twice.f
      rw [if_pos ⟨by omega, by decide⟩, twice_none]
    rw [e, Option.bind_some, if_pos (show ((([] : List Int).length : Nat) : Int) = 0 from rfl), hT, hX, hY]
    have : ((keysOf (A ++ B)).length : Int) ≥ mx ((keysOf A).length : Int) ((keysOf B).length : Int) := by unfold mx; split <;> omega
    rw [decide_eq_true this]
  | succ d ih =>
    intro i hi
    have hil : i < (keysOf (A ++ B)).length := by omega
    have h := ih (i + 1) (by omega)
    have hl : (A ++ B).length = A.length + B.length := List.length_append
    have s2 := scan2 A (totalsOf (A ++ B)) (totalsOf A) B (by omega) i ((keysOf (A ++ B))[i]) _ _ _ true rfl rfl rfl (wrap_keys i (by omega)) (by simpa using h) _ 0 (Nat.zero_add _)
    simp only [List.take_zero, sel_nil, Int.sub_zero] at s2
    have bnd : ∀ n : Nat, n ≤ (A ++ B).length → -10000000 ≤ (n : Int) ∧ (n : Int) ≤ 10000000 := fun n hn => by omega
    have s1 := scan1 A (totalsOf (A ++ B)) (totalsOf B) A (by omega) i ((keysOf (A ++ B))[i]) (cnt (keysOf (A ++ B))[i] (A ++ B) : Nat) (agn (keysOf (A ++ B))[i] (A ++ B) : Nat) (fld (keysOf (A ++ B))[i] (A ++ B) : Nat) true (bnd _ (cnt_le _ _)) (bnd _ (agn_le _ _)) (bnd _ (fld_le _ _))
      (by
        have e1 : ∀ a b : Nat, ((a + b : Nat) : Int) - a = b := fun a b => by omega
        rw [cnt_append, agn_append, fld_append, e1, e1, e1]
        exact s2) _ 0 (Nat.zero_add _)
    simp only [List.take_zero, sel_nil, Int.sub_zero] at s1
    refine s1.step fun k => ?_
    rw [coraclelaw24_AuditParts.l0, if_pos (by rw [hT]; exact Int.ofNat_lt.2 hil), if_pos (Int.natCast_nonneg _), rdT (A ++ B) i hil]
    rfl

/-- THE PLAIN LAW -/
theorem parts_pure (l m : List SR) (hl : l.length ≤ 1048576) (hm : m.length ≤ 1048576) (h3 : ∀ x ∈ l, Ok64 x.f3) (g3 : ∀ x ∈ m, Ok64 x.f3) : ∃ k, coraclelaw24_AuditParts.f k l m = some true := by
  obtain ⟨k0, h0⟩ := parts_outer (l.map toA) (m.map toA) (by simp; omega) (by simp; omega) _ 0 (Nat.zero_add _)
  refine ⟨k0 + l.length + m.length + 1, ?_⟩
  have ok : ∀ (q : List SR), (∀ x ∈ q, Ok64 x.f3) → ∀ r ∈ q.map toA, -9223372036854775808 ≤ r.f3 ∧ r.f3 ≤ 9223372036854775807 := fun q hq r hr => by
    obtain ⟨x, hx, rfl⟩ := List.mem_map.1 hr
    exact hq x hx
  have t1 : audit_Totals.f (l.map toA) = some (totalsOf (l.map toA)) := if_pos ⟨by simp; omega, ok l h3⟩
  have t2 : audit_Totals.f (m.map toA) = some (totalsOf (m.map toA)) := if_pos ⟨by simp; omega, ok m g3⟩
  have t3 : audit_Totals.f (l.map toA ++ m.map toA) = some (totalsOf (l.map toA ++ m.map toA)) := if_pos ⟨by simp; omega, fun r hr => (List.mem_append.1 hr).elim (ok l h3 r) (ok m g3 r)⟩
  unfold coraclelaw24_AuditParts.f coraclelaw24_speaks.f
  simp only [Option.bind_some, if_true]
  rw [rows_more l (by omega) _ (by omega), rows_more m (by omega) _ (by omega)]
  simp only [Option.bind_some, List.nil_append, List.length_nil]
  rw [if_pos (by simp; omega), if_pos (by simp; omega), t1, t2, t3]
  simp only [Option.bind_some]
  exact h0 _ (by omega)
end Go.Proofs.Ytelfachmfcjpoaa.PA
