/- The plain law of AuditTwice: the program's way to find what was done already, and the document's, come to one. No program in sight. -/
import Derived.Test.YtelfachmfcjpoaaPAx7
import Derived.Test.YtelfachmfcjpoaaPc
namespace Go.Proofs.Ytelfachmfcjpoaa.PA
open Go.RowKit Go.Proofs.YtelfachmfcjpoaaW.PrintWords Go.Proofs.YtelfachmfcjpoaaW.PrintLast Go.Proofs.YtelfachmfcjpoaaW.PrintMore
set_option linter.unusedVariables false

abbrev SR := S32
abbrev SB := S46
def Evt {α : Type} (g : Nat → Option α) (r : α) : Prop := ∃ k0, ∀ k, k0 ≤ k → g k = some r
theorem Evt.step {α : Type} {g h : Nat → Option α} {r : α} (e : Evt h r) (hs : ∀ k, g (k + 1) = h k) : Evt g r := by
  obtain ⟨k0, h0⟩ := e
  refine ⟨k0 + 1, fun k hk => ?_⟩
  obtain ⟨m, rfl⟩ : ∃ m, k = m + 1 := ⟨k - 1, by omega⟩
  rw [hs, h0 m (by omega)]
theorem Evt.now {α : Type} {g : Nat → Option α} {r : α} (hs : ∀ k, g (k + 1) = some r) : Evt g r := ⟨1, fun k hk => by
  obtain ⟨m, rfl⟩ : ∃ m, k = m + 1 := ⟨k - 1, by omega⟩
  exact hs m⟩

theorem chgB (x : SR) : coracleref24_Changes.f (toB x).f0 (toB x).f1 (toB x).f2 (toB x).f3 (toB x).f4 (toB x).f5 (toB x).f6 = some (chg (toA x)) := by
  unfold coracleref24_Changes.f chg toA toB
  by_cases h1 : x.f3 = 2
  · by_cases h2 : x.f4 = 0 <;> simp [h1, h2]
  · by_cases h3 : x.f3 ≥ 7
    · by_cases h4 : x.f3 ≤ 15
      · by_cases h2 : x.f4 = 0 <;> simp [h1, h2, h3, h4]
      · simp [h1, h4]
    · have : ¬ 7 ≤ x.f3 := by omega
      simp [h1, this]

theorem rdB (l : List SR) (j : Nat) (h : j < l.length) : rd_T46 (l.map toB) (j : Int) = toB (l[j]) := by
  show (l.map toB).getD (j : Int).toNat _ = _
  simp [List.getD_eq_getElem?_getD, List.getElem?_eq_getElem h]
theorem wrap_small (x : Int) (h1 : -9223372036854775808 ≤ x) (h2 : x ≤ 9223372036854775807) : wrap64 x = x := by unfold wrap64; omega

def hit (l : List SR) (i : SA) (j : Nat) (left : Int) : Bool := ((((l.map toA).take j).filter chg).reverse.take left.toNat).any (sameRow i)

theorem hit_succ_no {l : List SR} {i : SA} {j : Nat} {left : Int} (h : j < l.length) (hc : chg (toA l[j]) = false) : hit l i (j + 1) left = hit l i j left := by
  unfold hit
  rw [List.take_succ_eq_append_getElem (by simpa using h), List.filter_append]
  simp [hc]
theorem hit_succ_yes {l : List SR} {i : SA} {j : Nat} {left : Int} (h : j < l.length) (hc : chg (toA l[j]) = true) (hl : 0 < left) : hit l i (j + 1) left = (sameRow i (toA l[j]) || hit l i j (left - 1)) := by
  unfold hit
  rw [List.take_succ_eq_append_getElem (by simpa using h), List.filter_append]
  have e : left.toNat = (left - 1).toNat + 1 := by omega
  rw [e]
  simp [hc]
theorem hit_none {l : List SR} {i : SA} {j : Nat} {left : Int} (hl : ¬ 0 < left) : hit l i j left = false := by
  unfold hit
  have e : left.toNat = 0 := by omega
  rw [e]
  simp

section
variable (l : List SR) (win : Int) (x5 : List Int) (i : Nat) (hi : i < l.length) (hn : l.length ≤ 4194304) (h5 : x5.length ≤ i) (r : List Int)
include hi hn h5

theorem inner_found (left y : Int) (h : Evt (fun k => coracleref24_Twice.l0 k (l.map toB) win (x5 ++ [(i : Int)]) ((i : Int) + 1)) r) : Evt (fun k => coracleref24_Twice.l1 k (l.map toB) win x5 i left true y) r := by
  have hw := wrap_small ((i : Int) + 1) (by omega) (by omega)
  have h2 : Evt (fun k => coracleref24_Twice.j2 k (l.map toB) win x5 i left true y false) r := h.step fun k => by
    simp only [coracleref24_Twice.j2]
    rw [if_neg (by decide), if_pos trivial, if_pos (by omega), hw]
  refine h2.step fun k => ?_
  simp only [coracleref24_Twice.l1, Bool.not_true]
  split <;> simp

theorem inner_end (left y : Int) (hy : y < 0 ∨ left ≤ 0) (h : Evt (fun k => coracleref24_Twice.l0 k (l.map toB) win x5 ((i : Int) + 1)) r) : Evt (fun k => coracleref24_Twice.l1 k (l.map toB) win x5 i left false y) r := by
  have hw := wrap_small ((i : Int) + 1) (by omega) (by omega)
  have _h5 := h5
  have h2 : Evt (fun k => coracleref24_Twice.j2 k (l.map toB) win x5 i left false y false) r := h.step fun k => by
    simp only [coracleref24_Twice.j2]
    rw [if_neg (by decide), if_neg (by decide), hw]
  refine h2.step fun k => ?_
  simp only [coracleref24_Twice.l1, Bool.not_false]
  rcases hy with hy | hy
  · rw [if_neg (by omega)]
  · split
    · rw [if_neg (by omega)]
    · rfl

theorem inner (j : Nat) : ∀ (left : Int), j ≤ i → left ≤ 9223372036854775807 → -9223372036854775808 ≤ left →
    Evt (fun k => coracleref24_Twice.l0 k (l.map toB) win (x5 ++ (if hit l (toA l[i]) j left = true then [(i : Int)] else [])) ((i : Int) + 1)) r →
    Evt (fun k => coracleref24_Twice.l1 k (l.map toB) win x5 i left false ((j : Int) - 1)) r := by
  induction j with
  | zero =>
    intro left _ _ _ h
    have e : hit l (toA l[i]) 0 left = false := by simp [hit]
    rw [e] at h
    exact inner_end l win x5 i hi hn h5 r left _ (.inl (by omega)) (by simpa using h)
  | succ j ih =>
    intro left hj hl1 hl2 h
    have hjl : j < l.length := by omega
    by_cases hl : 0 < left
    · have e1 : ((j + 1 : Nat) : Int) - 1 = (j : Int) := by omega
      rw [e1]
      have hwl := wrap_small (left - 1) (by omega) (by omega)
      have hwj := wrap_small ((j : Int) - 1) (by omega) (by omega)
      have hlen : (((l.map toB).length : Nat) : Int) = (l.length : Int) := by simp
      cases hc : chg (toA l[j]) with
      | false =>
        rw [hit_succ_no hjl hc] at h
        have h2 : Evt (fun k => coracleref24_Twice.j2 k (l.map toB) win x5 i left false j true) r := (ih left (by omega) hl1 hl2 h).step fun k => by
          simp only [coracleref24_Twice.j2]
          rw [if_pos trivial, if_pos (by omega), if_pos (by rw [hlen]; omega), rdB l j hjl, chgB, hc]
          simp only [Option.bind_some]
          rw [if_neg (by decide), hwj]
        refine h2.step fun k => ?_
        simp only [coracleref24_Twice.l1, Bool.not_false]
        rw [if_pos (by omega), if_pos hl]
      | true =>
        rw [hit_succ_yes hjl hc hl] at h
        have key : Evt (fun k => coracleref24_Twice.l1 k (l.map toB) win x5 i (left - 1) (sameRow (toA l[i]) (toA l[j])) ((j : Int) - 1)) r := by
          cases hs : sameRow (toA l[i]) (toA l[j]) with
          | true => rw [hs] at h; exact inner_found l win x5 i hi hn h5 r _ _ (by simpa using h)
          | false => rw [hs] at h; exact ih (left - 1) (by omega) (by omega) (by omega) (by simpa using h)
        have h2 : Evt (fun k => coracleref24_Twice.j2 k (l.map toB) win x5 i left false j true) r := key.step fun k => by
          simp only [coracleref24_Twice.j2]
          rw [if_pos trivial, if_pos (by omega), if_pos (by rw [hlen]; omega), rdB l j hjl, chgB, hc]
          simp only [Option.bind_some]
          rw [if_pos trivial, if_pos (by omega), if_pos (by rw [hlen]; omega), rdB l i hi, hwl, hwj]
          unfold sameRow
          by_cases a0 : (toB l[j]).f0 = (toB l[i]).f0
          · rw [if_pos a0]
            have b0 : ((toA l[j]).f0 == (toA l[i]).f0) = true := beq_iff_eq.2 a0
            by_cases a2 : (toB l[j]).f2 = (toB l[i]).f2
            · rw [if_pos a2]
              have b2 : ((toA l[j]).f2 == (toA l[i]).f2) = true := beq_iff_eq.2 a2
              rw [b0, b2]
              rfl
            · rw [if_neg a2]
              have b2 : ((toA l[j]).f2 == (toA l[i]).f2) = false := beq_eq_false_iff_ne.2 a2
              rw [b2]
              simp
          · rw [if_neg a0]
            have b0 : ((toA l[j]).f0 == (toA l[i]).f0) = false := beq_eq_false_iff_ne.2 a0
            rw [b0]
            rfl
        refine h2.step fun k => ?_
        simp only [coracleref24_Twice.l1, Bool.not_false]
        rw [if_pos (by omega), if_pos hl]
    · rw [hit_none hl] at h
      exact inner_end l win x5 i hi hn h5 r left _ (.inr (by omega)) (by simpa using h)
end

theorem low_any (win : Int) (L : List SA) (p : SA → Bool) : (L.drop (lowOf win L.length).toNat).any p = (L.reverse.take win.toNat).any p := by
  have e : (lowOf win L.length).toNat = L.length - win.toNat := by unfold lowOf mx; split <;> split <;> omega
  rw [e, List.take_reverse, List.any_reverse]

theorem outer (l : List SR) (win : Int) (hn : l.length ≤ 4194304) (hw : Ok64 win) : ∀ (d i : Nat) (x5 : List Int), i + d = l.length → x5.length ≤ i →
    Evt (fun k => coracleref24_Twice.l0 k (l.map toB) win x5 i) (x5 ++ twiceGo win i (((l.map toA).take i).filter chg) ((l.map toA).drop i))
  | 0, i, x5, hd, h5 => Evt.now fun k => by
    simp only [coracleref24_Twice.l0]
    rw [if_neg (by simp; omega), List.drop_eq_nil_of_le (by simp; omega)]
    simp [twiceGo]
  | d + 1, i, x5, hd, h5 => by
    have hi : i < l.length := by omega
    have hdr : (l.map toA).drop i = toA l[i] :: (l.map toA).drop (i + 1) := by rw [List.drop_eq_getElem_cons (by simpa using hi)]; simp
    have htk : (l.map toA).take (i + 1) = (l.map toA).take i ++ [toA l[i]] := by rw [List.take_succ_eq_append_getElem (by simpa using hi)]; simp
    have hwi := wrap_small ((i : Int) + 1) (by omega) (by omega)
    have hwj := wrap_small ((i : Int) - 1) (by omega) (by omega)
    rw [hdr]
    cases hc : chg (toA l[i]) with
    | false =>
      have h := outer l win hn hw d (i + 1) x5 (by omega) (by omega)
      rw [htk, List.filter_append] at h
      simp only [List.filter_cons, hc, List.filter_nil, List.append_nil] at h
      rw [twiceGo_ne hc]
      refine Evt.step (h := fun k => coracleref24_Twice.l0 k (l.map toB) win x5 ((i : Int) + 1)) (by simpa using h) fun k => ?_
      simp only [coracleref24_Twice.l0]
      rw [if_pos (by simp; omega), if_pos (by omega), rdB l i hi, chgB, hc]
      simp only [Option.bind_some]
      rw [if_neg (by decide), hwi]
    | true =>
      have h := outer l win hn hw d (i + 1) (x5 ++ (if hit l (toA l[i]) i win = true then [(i : Int)] else [])) (by omega) (by split <;> simp <;> omega)
      rw [htk, List.filter_append] at h
      simp only [List.filter_cons, hc, List.filter_nil, if_true] at h
      have hlow := low_any win (((l.map toA).take i).filter chg) (sameRow (toA l[i]))
      have key : Evt (fun k => coracleref24_Twice.l1 k (l.map toB) win x5 i win false ((i : Int) - 1)) (x5 ++ twiceGo win i (((l.map toA).take i).filter chg) (toA l[i] :: (l.map toA).drop (i + 1))) := by
        refine inner l win x5 i hi hn h5 _ i win (Nat.le_refl _) hw.2 hw.1 ?_
        have e : x5 ++ twiceGo win i (((l.map toA).take i).filter chg) (toA l[i] :: (l.map toA).drop (i + 1)) =
            x5 ++ (if hit l (toA l[i]) i win = true then [(i : Int)] else []) ++ twiceGo win (i + 1) (((l.map toA).take i).filter chg ++ [toA l[i]]) ((l.map toA).drop (i + 1)) := by
          cases hh : hit l (toA l[i]) i win with
          | true => rw [twiceGo_yes hc (by rw [hlow]; exact hh)]; simp
          | false => rw [twiceGo_no hc (by rw [hlow]; exact hh)]; simp
        rw [e]
        simpa using h
      refine key.step fun k => ?_
      simp only [coracleref24_Twice.l0]
      rw [if_pos (by simp; omega), if_pos (by omega), rdB l i hi, chgB, hc]
      simp only [Option.bind_some]
      rw [if_pos trivial, hwj]

theorem same_lists (T : List Int) (hn : T.length ≤ 9223372036854775806) : ∀ (d i : Nat), i + d = T.length → Evt (fun k => coraclelaw24_AuditTwice.l0 k T T i) true
  | 0, i, hd => Evt.now fun k => by
    simp only [coraclelaw24_AuditTwice.l0]
    rw [if_neg (by omega)]
  | d + 1, i, hd => by
    have h := same_lists T hn d (i + 1) (by omega)
    have hwi := wrap_small ((i : Int) + 1) (by omega) (by omega)
    refine Evt.step (h := fun k => coraclelaw24_AuditTwice.l0 k T T ((i : Int) + 1)) (by simpa using h) fun k => ?_
    simp only [coraclelaw24_AuditTwice.l0]
    rw [if_pos (by omega), if_pos (by omega), if_pos (by omega), if_pos trivial, hwi]

theorem twiceGo_length (win : Int) : ∀ (rs : List SA) (i : Nat) (L : List SA), (twiceGo win i L rs).length ≤ rs.length
  | [], i, L => by simp [twiceGo]
  | r :: rs, i, L => by
    unfold twiceGo
    have h1 := twiceGo_length win rs (i + 1) (L ++ [r])
    have h2 := twiceGo_length win rs (i + 1) L
    split
    · split <;> simp <;> omega
    · simp; omega

theorem rows_more (l : List SR) (hn : l.length ≤ 4194304) (k : Nat) (hk : l.length + 1 ≤ k) : coraclelaw24_rows.f k l = some (l.map toA, l.map toB) :=
  at_rounds (fun k => coraclelaw24_rows.mono l k) hk (rows_eq l hn)

/-- THE PLAIN LAW -/
theorem twice_pure (l : List SR) (win : Int) (hn : l.length ≤ 4194304) (hw : Ok64 win) : ∃ k, coraclelaw24_AuditTwice.f k l win = some true := by
  obtain ⟨k0, h0⟩ := outer l win hn hw l.length 0 [] (by omega) (by simp)
  obtain ⟨k1, h1⟩ := same_lists (twiceGo win 0 [] (l.map toA)) (by have := twiceGo_length win (l.map toA) 0 []; simp at this; omega) _ 0 (Nat.zero_add _)
  refine ⟨k0 + k1 + l.length + 1, ?_⟩
  have h0' : coracleref24_Twice.l0 (k0 + k1 + l.length + 1) (l.map toB) win [] ((0 : Nat) : Int) = some (twiceGo win 0 [] (l.map toA)) := by
    have h := h0 (k0 + k1 + l.length + 1) (by omega)
    simpa using h
  unfold coraclelaw24_AuditTwice.f coraclelaw24_speaks.f
  simp only [Option.bind_some, if_true]
  rw [rows_more l hn _ (by omega)]
  simp only [Option.bind_some]
  unfold audit_Twice.f
  rw [if_pos ⟨by simpa using hn, hw⟩]
  simp only [Option.bind_some]
  unfold coracleref24_Twice.f
  rw [show (0 : Int) = ((0 : Nat) : Int) from rfl, h0']
  simp only [Option.bind_some]
  rw [if_pos trivial]
  exact h1 (k0 + k1 + l.length + 1) (by omega)
end Go.Proofs.Ytelfachmfcjpoaa.PA
