/- The plain law of AuditTotals. No program in sight. -/
import Derived.Test.YtelfachmfcjpoaaPAx9
import Derived.Test.YtelfachmfcjpoaaTp
namespace Go.Proofs.Ytelfachmfcjpoaa.PA
open Go.RowKit Go.Proofs.YtelfachmfcjpoaaW.PrintWords Go.Proofs.YtelfachmfcjpoaaW.PrintLast Go.Proofs.YtelfachmfcjpoaaW.PrintMore
set_option linter.unusedVariables false

theorem cnt_cons (p : Int) (r : SA') (R : List SA') : cnt p (r :: R) = (if r.f3 = p then 1 else 0) + cnt p R := by
  unfold cnt
  rw [List.filter_cons]
  by_cases h : r.f3 = p
  · simp [h]; omega
  · simp [h]
theorem sum_ite (q : Int) : ∀ K : List Int, K.Nodup → (K.map fun p => if q = p then 1 else 0).sum = if q ∈ K then 1 else 0
  | [], _ => rfl
  | p :: K, h => by
    rw [List.nodup_cons] at h
    simp only [List.map_cons, List.sum_cons, sum_ite q K h.2, List.mem_cons]
    by_cases e : q = p
    · subst e; simp [h.1]
    · by_cases e2 : q ∈ K <;> simp [e, e2]
theorem sum_add (f g : Int → Nat) : ∀ K : List Int, (K.map fun p => f p + g p).sum = (K.map f).sum + (K.map g).sum
  | [] => rfl
  | p :: K => by simp only [List.map_cons, List.sum_cons, sum_add f g K]; omega
theorem sum_cnt (K : List Int) (hK : K.Nodup) : ∀ R : List SA', (∀ r ∈ R, r.f3 ∈ K) → (K.map fun p => cnt p R).sum = R.length
  | [], _ => by
    have : (K.map fun p => cnt p []).sum = 0 := by
      clear hK
      induction K with
      | nil => rfl
      | cons p K ih => rw [List.map_cons, List.sum_cons, ih (fun r hr => by cases hr)]; rfl
    rw [this]; rfl
  | r :: R, h => by
    have e : (K.map fun p => cnt p (r :: R)) = K.map fun p => (if r.f3 = p then 1 else 0) + cnt p R := List.map_congr_left fun p _ => cnt_cons p r R
    rw [e, sum_add, sum_ite _ _ hK, if_pos (h r (by simp)), sum_cnt K hK R fun q hq => h q (by simp [hq])]
    simp; omega
theorem take_sum_le (f : Int → Nat) : ∀ (K : List Int) (i : Nat), ((K.take i).map f).sum ≤ (K.map f).sum
  | [], i => by simp
  | p :: K, 0 => by simp
  | p :: K, i + 1 => by simpa using take_sum_le f K i

theorem inner_eq (p : Int) (A : List SA') (x : SA') :
    ((cnt p (A ++ [x]) : Nat) : Int) = (if x.f3 = p then (cnt p A : Int) + 1 else cnt p A)
    ∧ ((agn p (A ++ [x]) : Nat) : Int) = (if x.f3 = p then (if x.f5 = true then (agn p A : Int) + 1 else agn p A) else agn p A)
    ∧ ((fld p (A ++ [x]) : Nat) : Int) = (if x.f3 = p then (if x.f4 = 0 then (fld p A : Int) else fld p A + 1) else fld p A) := by
  by_cases e : x.f3 = p
  · subst e
    have ht := tot_same (l := A) (r := x)
    have t1 := congrArg S41.f1 ht
    have t2 := congrArg S41.f2 ht
    have t3 := congrArg S41.f3 ht
    simp only [tot] at t1 t2 t3
    rw [t1, t2, t3]
    by_cases e5 : x.f5 = true <;> by_cases e4 : x.f4 = 0 <;> simp [e5, e4]
  · have ht : tot p (A ++ [x]) = tot p A := tot_other e
    have t1 := congrArg S41.f1 ht
    have t2 := congrArg S41.f2 ht
    have t3 := congrArg S41.f3 ht
    simp only [tot] at t1 t2 t3
    rw [t1, t2, t3]
    simp [e]

theorem wrap_nat1 (n j : Nat) (h : n ≤ j) (hj : j ≤ 4194304) : wrap64 ((n : Int) + 1) = n + 1 := wrap_small _ (by omega) (by omega)
theorem end_facts (s : Nat) (c i P : Nat) (n : Nat) (hi : i < P) (hP : P ≤ n) (hn : n ≤ 4194304) (hs : s ≤ n) (hc : c ≤ n) (hc1 : 1 ≤ c) :
    wrap64 ((s : Int) + c) = s + c ∧ wrap64 ((i : Int) + 1) = i + 1 ∧ wrap64 ((i : Int) - 1) = i - 1 ∧ (¬ (c : Int) = 0) ∧ ((i : Int) > 0 → 0 ≤ (i : Int) - 1 ∧ (i : Int) - 1 < (P : Int)) :=
  ⟨wrap_small _ (by omega) (by omega), wrap_small _ (by omega) (by omega), wrap_small _ (by omega) (by omega), by omega, fun h => ⟨by omega, by omega⟩⟩

theorem l1_end (k : Nat) (l : List SR) (P : List S41) (s i j p c g f : Int) (hj : ¬ j < (l.length : Int)) (h0 : 0 ≤ i) (hi : i < (P.length : Int))
    (hrd : rd_T41 P i = ⟨p, c, g, f⟩) (hc : ¬ c = 0) (hpr : i > 0 → 0 ≤ i - 1 ∧ i - 1 < (P.length : Int) ∧ ¬ (rd_T41 P (i - 1)).f0 ≥ p)
    (hw1 : wrap64 (s + c) = s + c) (hw2 : wrap64 (i + 1) = i + 1) (hw3 : wrap64 (i - 1) = i - 1) :
    coraclelaw24_AuditTotals.l1 (k + 1) l P s i j p c g f = coraclelaw24_AuditTotals.l0 k l P (s + c) (i + 1) := by
  simp only [coraclelaw24_AuditTotals.l1]
  have e1 : ¬ ((!(p == p) || (!(c == c) || (!(g == g) || (!(f == f))))) = true) := by simp
  rw [if_neg hj, if_pos h0, if_pos hi, hrd, hw1, hw2, hw3]
  by_cases hz : i > 0
  · obtain ⟨a1, a2, a3⟩ := hpr hz
    rw [if_neg e1, if_neg hc, if_pos hz, if_pos a1, if_pos a2, if_neg a3]
  · rw [if_neg e1, if_neg hc, if_neg hz]

theorem l1_next (k : Nat) (l : List SR) (P : List S41) (s i j p c g f : Int) (x : SR) (hj : j < (l.length : Int)) (h0 : 0 ≤ j) (hx : rd_T32 l j = x)
    (hwj : wrap64 (j + 1) = j + 1) (w1 : wrap64 (c + 1) = c + 1) (w2 : wrap64 (g + 1) = g + 1) (w3 : wrap64 (f + 1) = f + 1) :
    coraclelaw24_AuditTotals.l1 (k + 1) l P s i j p c g f = coraclelaw24_AuditTotals.l1 k l P s i (j + 1) p (if x.f3 = p then c + 1 else c) (if x.f3 = p then (if x.f5 = true then g + 1 else g) else g) (if x.f3 = p then (if x.f4 = 0 then f else f + 1) else f) := by
  rw [coraclelaw24_AuditTotals.l1, if_pos hj, if_pos h0, hx, hwj, w1, w2, w3]
  by_cases e : x.f3 = p <;> by_cases e5 : x.f5 = true <;> by_cases e4 : x.f4 = 0 <;> simp only [e, e5, e4, if_true, if_false, Bool.false_eq_true]

section
variable (l : List SR) (hn : l.length ≤ 4194304)
include hn

theorem rdA (j : Nat) (h : j < l.length) : (l.map toA).take (j + 1) = (l.map toA).take j ++ [toA l[j]] := by
  have _h := hn
  rw [List.take_succ_eq_append_getElem (by simpa using h)]; simp

theorem tot_inner (A : List SA') (P : List S41) (p : Int) (hA : A = l.map toA) (i : Nat) (s : Int) (res : Bool)
    (hE : ∀ k, coraclelaw24_AuditTotals.l1 (k + 1) l P s i (l.length : Nat) p (cnt p A : Nat) (agn p A : Nat) (fld p A : Nat) = coraclelaw24_AuditTotals.l0 k l P (s + (cnt p A : Nat)) ((i : Int) + 1))
    (h : Evt (fun k => coraclelaw24_AuditTotals.l0 k l P (s + (cnt p A : Nat)) ((i : Int) + 1)) res) :
    ∀ (d j : Nat), j + d = l.length →
      Evt (fun k => coraclelaw24_AuditTotals.l1 k l P s i j p (cnt p (A.take j) : Nat) (agn p (A.take j) : Nat) (fld p (A.take j) : Nat)) res := by
  have hcl := cnt_le p A
  have hal := agn_le p A
  have hfl := fld_le p A
  have hAl : A.length = l.length := by rw [hA]; simp
  rw [hAl] at hcl hal hfl
  intro d
  induction d with
  | zero =>
    intro j hj
    have hjn : j = l.length := by omega
    have htk : A.take j = A := List.take_of_length_le (by omega)
    rw [htk, hjn]
    exact h.step hE
  | succ d ih =>
    intro j hj
    have hjl : j < l.length := by omega
    have hi' := ih (j + 1) (by omega)
    have c1 := cnt_le p (A.take j)
    have c2 := agn_le p (A.take j)
    have c3 := fld_le p (A.take j)
    have hlen : (A.take j).length = j := by simp; omega
    rw [hlen] at c1 c2 c3
    rw [show A.take (j + 1) = A.take j ++ [toA l[j]] by rw [hA]; exact rdA l hn j hjl] at hi'
    have hr32 : rd_T32 l (j : Int) = l[j] := by
      show l.getD (j : Int).toNat _ = _
      rw [List.getD_eq_getElem?_getD, Int.toNat_natCast, List.getElem?_eq_getElem hjl]; rfl
    have hwj := wrap_nat1 j j (Nat.le_refl _) (by clear c1 c2 c3 hcl hal hfl; omega)
    have w1 := wrap_nat1 (cnt p (A.take j)) j c1 (by clear c1 c2 c3 hcl hal hfl; omega)
    have w2 := wrap_nat1 (agn p (A.take j)) j c2 (by clear c1 c2 c3 hcl hal hfl; omega)
    have w3 := wrap_nat1 (fld p (A.take j)) j c3 (by clear c1 c2 c3 hcl hal hfl; omega)
    refine hi'.step fun k => ?_
    rw [l1_next k l P s i j p _ _ _ (l[j]) (Int.ofNat_lt.2 hjl) (Int.natCast_nonneg _) hr32 hwj w1 w2 w3]
    have e := inner_eq p (A.take j) (toA l[j])
    rw [e.1, e.2.1, e.2.2]
    rfl

theorem tot_outer : ∀ (d i : Nat), i + d = (keysOf (l.map toA)).length →
    Evt (fun k => coraclelaw24_AuditTotals.l0 k l (totalsOf (l.map toA)) ((((keysOf (l.map toA)).take i).map fun p => cnt p (l.map toA)).sum : Nat) i) true := by
  have hnd : (keysOf (l.map toA)).Nodup := (keysOf_rising (l.map toA)).imp (fun h => by omega)
  have hsum := sum_cnt (keysOf (l.map toA)) hnd (l.map toA) (fun r hr => (keysOf_mem _ _).2 ⟨r, hr, rfl⟩)
  have hT : (totalsOf (l.map toA)).length = (keysOf (l.map toA)).length := by simp [totalsOf]
  simp only [List.length_map] at hsum
  intro d
  induction d with
  | zero =>
    intro i hi
    have e : (keysOf (l.map toA)).take i = keysOf (l.map toA) := List.take_of_length_le (by omega)
    rw [e, hsum]
    refine Evt.now fun k => ?_
    simp only [coraclelaw24_AuditTotals.l0]
    rw [if_neg (by rw [hT]; omega)]
    simp
  | succ d ih =>
    intro i hi
    have hil : i < (keysOf (l.map toA)).length := by omega
    have hle := take_sum_le (fun p => cnt p (l.map toA)) (keysOf (l.map toA)) i
    have h := ih (i + 1) (by omega)
    rw [List.take_succ_eq_append_getElem hil] at h
    simp only [List.map_append, List.map_cons, List.map_nil, List.sum_append, List.sum_cons, List.sum_nil, Nat.add_zero] at h
    have hrd : rd_T41 (totalsOf (l.map toA)) (i : Int) = tot (keysOf (l.map toA))[i] (l.map toA) := by
      show (totalsOf (l.map toA)).getD (i : Int).toNat _ = _
      rw [List.getD_eq_getElem?_getD, Int.toNat_natCast, List.getElem?_eq_getElem (by rw [hT]; exact hil)]
      simp [totalsOf]
    have hpr : 0 < i → (rd_T41 (totalsOf (l.map toA)) ((i : Int) - 1)).f0 < (keysOf (l.map toA))[i] := by
      intro h0
      have e : ((i : Int) - 1).toNat = i - 1 := by omega
      have hi1 : i - 1 < (keysOf (l.map toA)).length := by omega
      have hr := List.pairwise_iff_getElem.1 (keysOf_rising (l.map toA)) (i - 1) i hi1 hil (by omega)
      show ((totalsOf (l.map toA)).getD ((i : Int) - 1).toNat _).f0 < _
      rw [e, List.getD_eq_getElem?_getD, List.getElem?_eq_getElem (by rw [hT]; exact hi1)]
      simpa [totalsOf, tot] using hr
    have hcnt : 1 ≤ cnt (keysOf (l.map toA))[i] (l.map toA) := by
      obtain ⟨r, hr, e⟩ := (keysOf_mem _ _).1 (List.getElem_mem hil)
      exact List.length_pos_of_mem (List.mem_filter.2 ⟨hr, by simp [e]⟩)
    have hKl := keysOf_length (l.map toA)
    simp only [List.length_map] at hKl
    have hE : ∀ k, coraclelaw24_AuditTotals.l1 (k + 1) l (totalsOf (l.map toA)) ((((keysOf (l.map toA)).take i).map fun p => cnt p (l.map toA)).sum : Nat) i (l.length : Nat) (keysOf (l.map toA))[i] (cnt (keysOf (l.map toA))[i] (l.map toA) : Nat) (agn (keysOf (l.map toA))[i] (l.map toA) : Nat) (fld (keysOf (l.map toA))[i] (l.map toA) : Nat) = coraclelaw24_AuditTotals.l0 k l (totalsOf (l.map toA)) (((((keysOf (l.map toA)).take i).map fun p => cnt p (l.map toA)).sum : Nat) + (cnt (keysOf (l.map toA))[i] (l.map toA) : Nat)) ((i : Int) + 1) := by
      have hcl := cnt_le (keysOf (l.map toA))[i] (l.map toA)
      rw [List.length_map] at hcl
      obtain ⟨hw1, hw2, hw3, hc0, hpr2⟩ := end_facts (((keysOf (l.map toA)).take i).map fun p => cnt p (l.map toA)).sum (cnt (keysOf (l.map toA))[i] (l.map toA)) i (totalsOf (l.map toA)).length l.length (hT ▸ hil) (hT ▸ hKl) hn (hsum ▸ hle) hcl hcnt
      exact fun k => l1_end k l _ _ i _ _ _ _ _ (Int.lt_irrefl _) (Int.natCast_nonneg _) (Int.ofNat_lt.2 (hT ▸ hil)) hrd hc0 (fun h0 => ⟨(hpr2 h0).1, (hpr2 h0).2, Int.not_le.2 (hpr (Int.natCast_pos.1 h0))⟩) hw1 hw2 hw3
    have h2 := tot_inner l hn (l.map toA) (totalsOf (l.map toA)) (keysOf (l.map toA))[i] rfl i ((((keysOf (l.map toA)).take i).map fun p => cnt p (l.map toA)).sum : Nat) true hE (by simpa using h) l.length 0 (by omega)
    refine Evt.step (h := fun k => coraclelaw24_AuditTotals.l1 k l (totalsOf (l.map toA)) ((((keysOf (l.map toA)).take i).map fun p => cnt p (l.map toA)).sum : Nat) i 0 (keysOf (l.map toA))[i] 0 0 0) (by simpa [cnt, agn, fld] using h2) fun k => ?_
    simp only [coraclelaw24_AuditTotals.l0]
    rw [if_pos (by rw [hT]; omega), if_pos (by omega), hrd]
    rfl

/-- THE PLAIN LAW -/
theorem totals_pure (h3 : ∀ x ∈ l, Ok64 x.f3) : ∃ k, coraclelaw24_AuditTotals.f k l = some true := by
  obtain ⟨k0, h0⟩ := tot_outer l hn _ 0 (Nat.zero_add _)
  refine ⟨k0 + l.length + 1, ?_⟩
  unfold coraclelaw24_AuditTotals.f coraclelaw24_speaks.f
  simp only [Option.bind_some, if_true]
  rw [rows_more l hn _ (by omega)]
  simp only [Option.bind_some]
  unfold audit_Totals.f
  rw [if_pos ⟨by simpa using hn, fun r hr => by obtain ⟨x, hx, rfl⟩ := List.mem_map.1 hr; exact h3 x hx⟩]
  simp only [Option.bind_some]
  have h := h0 (k0 + l.length + 1) (by omega)
  simpa using h
end
end Go.Proofs.Ytelfachmfcjpoaa.PA
