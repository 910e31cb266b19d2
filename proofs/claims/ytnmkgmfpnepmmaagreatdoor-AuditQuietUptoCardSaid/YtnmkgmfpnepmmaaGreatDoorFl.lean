/- Plain facts on float64: the difference of two whole numbers that were made floats is finite; sums where a NaN may come out. No program in sight. -/
import Derived.Laws.FloatArith
namespace Go.Proofs.YtnmkgmfpnepmmaaGreatDoor.Fl
open Ieee

abbrev D : Format := Ieee.double

/-- finite: the rung lies below infinity's -/
def Fin (b : Nat) : Prop := b % 9223372036854775808 < 9218868437227405312

theorem signWeight_eq : D.signWeight = 9223372036854775808 := by decide
theorem binade_eq : D.binade = 4503599627370496 := by decide
theorem infRung_eq : D.infRung = 9218868437227405312 := by decide
theorem least_eq : D.leastPlace = -1074 := by decide

theorem log2_lt (n k : Nat) (h : n < 2 ^ (k + 1)) : n.log2 ≤ k := by
  by_cases h0 : n = 0
  · subst h0; simp
  · have := (Nat.log2_lt h0).2 h; omega

/-- what is kept is at most 2^53 -/
theorem cut_le (neg : Bool) (n drop : Nat) (h : n < 9007199254740992 * 2 ^ drop) : Toward.even.cut neg n drop ≤ 9007199254740992 := by
  unfold Toward.cut
  have hlow : n / (1 <<< min drop (n.log2 + 2)) < 9007199254740992 := by
    rw [Nat.shiftLeft_eq, Nat.one_mul]
    by_cases hd : drop ≤ n.log2 + 2
    · rw [Nat.min_eq_left hd]
      exact (Nat.div_lt_iff_lt_mul (Nat.two_pow_pos _)).2 h
    · rw [Nat.min_eq_right (by omega)]
      have h1 : n < 2 ^ (n.log2 + 2) := Nat.lt_of_lt_of_le Nat.lt_log2_self (Nat.pow_le_pow_right (by decide) (by omega))
      rw [Nat.div_eq_of_lt h1]
      decide
  dsimp only
  have hb : ∀ b : Bool, b.toNat ≤ 1 := by intro b; cases b <;> decide
  exact Nat.le_trans (Nat.add_le_add_left (hb _) _) hlow

theorem word_mod (neg : Bool) (rung : Nat) (h : rung < 9223372036854775808) : D.word neg rung % 9223372036854775808 = rung := by
  unfold Format.word
  rw [signWeight_eq]
  split <;> omega

/-- the nearest word of a number below 2^67 is finite, and its rung small -/
theorem nearest_rung (neg : Bool) (mag : Nat) (place : Int) (hp : -1074 ≤ place) (top : Nat) (ht : top ≤ 900) (h : (mag.log2 : Int) + place ≤ top) :
    D.nearest neg mag place % 9223372036854775808 ≤ (top + 1022) * 4503599627370496 + 9007199254740992 := by
  unfold Format.nearest
  by_cases h0 : mag = 0
  · rw [if_pos h0, word_mod _ _ (by decide)]; exact Nat.zero_le _
  · rw [if_neg h0]
    dsimp only
    have e52 : (D.fractionBits : Int) = 52 := rfl
    rw [least_eq, e52]
    obtain ⟨last, hl⟩ : ∃ last : Int, max (place + (mag.log2 : Int) - 52) (-1074) = last := ⟨_, rfl⟩
    rw [hl]
    have hlast1 : last ≤ (top : Int) - 52 ∨ last = -1074 := by omega
    have hlast2 : place + (mag.log2 : Int) - 52 ≤ last ∧ -1074 ≤ last := by omega
    have hlast3 : last = place + (mag.log2 : Int) - 52 ∨ last = -1074 := by omega
    have hk : Toward.even.cut neg (mag <<< (place - last).toNat) (last - place).toNat ≤ 9007199254740992 := by
      apply cut_le
      rw [Nat.shiftLeft_eq]
      have hm : mag < 2 ^ (mag.log2 + 1) := Nat.lt_log2_self
      by_cases hc : last ≤ place
      · have e1 : (last - place).toNat = 0 := by omega
        rw [e1, Nat.pow_zero, Nat.mul_one]
        have h2 : mag * 2 ^ (place - last).toNat < 2 ^ (mag.log2 + 1) * 2 ^ (place - last).toNat := Nat.mul_lt_mul_of_pos_right hm (Nat.two_pow_pos _)
        rw [← Nat.pow_add] at h2
        refine Nat.lt_of_lt_of_le h2 ?_
        have : mag.log2 + 1 + (place - last).toNat ≤ 53 := by omega
        exact Nat.le_trans (Nat.pow_le_pow_right (by decide) this) (by decide)
      · have e1 : (place - last).toNat = 0 := by omega
        rw [e1, Nat.pow_zero, Nat.mul_one]
        refine Nat.lt_of_lt_of_le hm ?_
        have e2 : (9007199254740992 : Nat) = 2 ^ 53 := by decide
        rw [e2, ← Nat.pow_add]
        exact Nat.pow_le_pow_right (by decide) (by omega)
    rw [binade_eq, infRung_eq]
    generalize Toward.even.cut neg (mag <<< (place - last).toNat) (last - place).toNat = kept at hk
    have hlt : min ((last - -1074).toNat * 4503599627370496 + kept) 9218868437227405312 < 9223372036854775808 := by omega
    rw [word_mod _ _ hlt]
    have hz : (last - -1074).toNat ≤ top + 1022 := by omega
    have hz2 := Nat.mul_le_mul_right 4503599627370496 hz
    omega

theorem nearest_fin (neg : Bool) (mag : Nat) (place : Int) (hp : -1074 ≤ place) (h : (mag.log2 : Int) + place ≤ 70) : Fin (D.nearest neg mag place) := by
  have := nearest_rung neg mag place hp 70 (by omega) h
  unfold Fin
  omega

theorem ofInt_rung (n : Int) (h1 : -9223372036854775808 ≤ n) (h2 : n ≤ 9223372036854775807) : floatOfInt .f64 n % 9223372036854775808 ≤ 1085 * 4503599627370496 + 9007199254740992 := by
  have h : n.natAbs < 2 ^ (63 + 1) := by omega
  have := log2_lt _ _ h
  exact nearest_rung (n < 0) n.natAbs 0 (by omega) 63 (by omega) (by omega)

/-- what a word with a small rung stands for -/
theorem read_small (b : Nat) (h : b % 9223372036854775808 ≤ 1087 * 4503599627370496) : ∃ s m, ∃ e : Int, D.read b = .number s m e ∧ m < 9007199254740992 ∧ -1074 ≤ e ∧ e ≤ 12 := by
  unfold Format.read
  dsimp only
  rw [signWeight_eq, binade_eq, infRung_eq, least_eq]
  by_cases h1 : b % 9223372036854775808 < 4503599627370496
  · rw [if_pos h1]
    exact ⟨_, _, _, rfl, by omega, by omega, by omega⟩
  · rw [if_neg h1, if_pos (by omega)]
    refine ⟨_, _, _, rfl, ?_, by omega, ?_⟩
    · have := Nat.mod_lt (b % 9223372036854775808) (show 0 < 4503599627370496 by decide)
      omega
    · have : b % 9223372036854775808 / 4503599627370496 ≤ 1087 := (Nat.div_le_iff_le_mul_add_pred (by decide)).2 (by omega)
      omega

theorem signed_abs (s : Bool) (m up : Nat) : (signed s m up).natAbs = m * 2 ^ up := by
  unfold signed
  have e : ∀ q : Nat, ((q : Int)).natAbs = q := fun q => by omega
  split
  · rw [Int.natAbs_neg, e, Nat.shiftLeft_eq]
  · rw [e, Nat.shiftLeft_eq]

theorem sub_small (x y : Nat) (hx : x % 9223372036854775808 ≤ 1087 * 4503599627370496) (hy : y % 9223372036854775808 ≤ 1087 * 4503599627370496) : ∃ d, D.sub x y = some d ∧ Fin d := by
  obtain ⟨s, m, i, ex, hm, hi1, hi2⟩ := read_small x hx
  obtain ⟨t, n, j, ey, hn, hj1, hj2⟩ := read_small y hy
  unfold Format.sub
  rw [ex, ey]
  simp only [Datum.opposite, Datum.sum, Option.map_some, Format.write]
  refine ⟨_, rfl, ?_⟩
  apply nearest_fin
  · omega
  · obtain ⟨base, hb⟩ : ∃ base : Int, min i j = base := ⟨_, rfl⟩
    rw [hb]
    have hlt : (signed s m (i - base).toNat + signed (!t) n (j - base).toNat).natAbs < 2 ^ ((12 - base).toNat + 54) := by
      have h1 := signed_abs s m (i - base).toNat
      have h2 := signed_abs (!t) n (j - base).toNat
      have ha : m * 2 ^ (i - base).toNat < 2 ^ 53 * 2 ^ (12 - base).toNat :=
        Nat.lt_of_lt_of_le (Nat.mul_lt_mul_of_pos_right (show m < 2 ^ 53 by omega) (Nat.two_pow_pos _)) (Nat.mul_le_mul_left _ (Nat.pow_le_pow_right (by decide) (by omega)))
      have hc : n * 2 ^ (j - base).toNat < 2 ^ 53 * 2 ^ (12 - base).toNat :=
        Nat.lt_of_lt_of_le (Nat.mul_lt_mul_of_pos_right (show n < 2 ^ 53 by omega) (Nat.two_pow_pos _)) (Nat.mul_le_mul_left _ (Nat.pow_le_pow_right (by decide) (by omega)))
      have e : (2 : Nat) ^ ((12 - base).toNat + 54) = 2 * (2 ^ 53 * 2 ^ (12 - base).toNat) := by
        rw [show (12 - base).toNat + 54 = 1 + (53 + (12 - base).toNat) by omega, Nat.pow_add 2 1, Nat.pow_add 2 53]
      rw [e]
      generalize 2 ^ 53 * 2 ^ (12 - base).toNat = q at *
      omega
    have := log2_lt _ ((12 - base).toNat + 53) hlt
    omega

/-- THE DIFFERENCE OF TWO MOMENTS IS FINITE -/
theorem gap_fin (a b : Int) (ha1 : -9223372036854775808 ≤ a) (ha2 : a ≤ 9223372036854775807) (hb1 : -9223372036854775808 ≤ b) (hb2 : b ≤ 9223372036854775807) :
    ∃ d, D.sub (floatOfInt .f64 a) (floatOfInt .f64 b) = some d ∧ Fin d := by
  have h1 := ofInt_rung a ha1 ha2
  have h2 := ofInt_rung b hb1 hb2
  exact sub_small _ _ (by omega) (by omega)

/-- is it a NaN? as the program asks it -/
def nanB (b : Nat) : Bool := D.order b b != some .eq

theorem read_fin (b : Nat) (h : Fin b) : ∃ s m, ∃ e : Int, D.read b = .number s m e ∧ m ≤ 9007199254740991 ∧ e ≤ 971 := by
  unfold Fin at h
  unfold Format.read
  dsimp only
  rw [signWeight_eq, binade_eq, infRung_eq, least_eq]
  by_cases h1 : b % 9223372036854775808 < 4503599627370496
  · rw [if_pos h1]
    exact ⟨_, _, _, rfl, by omega, by omega⟩
  · rw [if_neg h1, if_pos (by omega)]
    refine ⟨_, _, _, rfl, ?_, ?_⟩
    · have := Nat.mod_lt (b % 9223372036854775808) (show 0 < 4503599627370496 by decide)
      omega
    · have : b % 9223372036854775808 / 4503599627370496 < 2047 := (Nat.div_lt_iff_lt_mul (by decide)).2 (by omega)
      omega

theorem compare_self (x : Int) : compare x x = .eq := by simp

theorem nanB_fin (b : Nat) (h : Fin b) : nanB b = false := by
  obtain ⟨s, m, e, hr, _, _⟩ := read_fin b h
  unfold nanB Format.order
  rw [hr]
  simp [Datum.order]

/-- a number that is no NaN is itself -/
theorem nanB_read (b : Nat) : nanB b = (D.read b).isNaN := by
  unfold nanB Format.order
  cases h : D.read b with
  | number s m e => simp [Datum.order, Datum.isNaN]
  | infinity s => cases s <;> rfl
  | nan s f => simp [Datum.order, Datum.isNaN]

theorem add_nan (x y : Nat) (h : nanB x = true) : D.add x y = none := by
  rw [nanB_read] at h
  unfold Format.add
  cases e : D.read x with
  | nan s f => rfl
  | number => rw [e] at h; cases h
  | infinity => rw [e] at h; cases h
theorem div_nan (x y : Nat) (h : nanB x = true) : D.div x y = none := by
  rw [nanB_read] at h
  unfold Format.div
  cases e : D.read x with
  | nan s f => rfl
  | number => rw [e] at h; cases h
  | infinity => rw [e] at h; cases h

theorem read_not_nan {b : Nat} (h : (D.read b).isNaN = true) : 9218868437227405312 < b % 9223372036854775808 := by
  unfold Format.read at h
  dsimp only at h
  rw [signWeight_eq, binade_eq, infRung_eq] at h
  split at h
  · cases h
  · split at h
    · cases h
    · split at h
      · cases h
      · omega
theorem nan_of_rung {b : Nat} (h : 9218868437227405312 < b % 9223372036854775808) : nanB b = true := by
  rw [nanB_read]
  unfold Format.read
  dsimp only
  rw [signWeight_eq, binade_eq, infRung_eq, if_neg (by omega), if_neg (by omega), if_neg (by omega)]
  rfl

/-- Abs of a finite number is not above the greatest -/
theorem not_above (b : Nat) (h : Fin b) : (D.order (b % 9223372036854775808) 9218868437227405311 == some .gt) = false := by
  have hf : Fin (b % 9223372036854775808) := by unfold Fin at *; rw [Nat.mod_mod]; exact h
  obtain ⟨s, m, e, hr, hm, he⟩ := read_fin _ hf
  have hs : s = false := by
    unfold Format.read at hr
    dsimp only at hr
    rw [signWeight_eq] at hr
    have : b % 9223372036854775808 / 9223372036854775808 = 0 := Nat.div_eq_of_lt (Nat.mod_lt _ (by decide))
    rw [this] at hr
    split at hr
    · injection hr with h1; exact h1.symm
    · split at hr
      · injection hr with h1; exact h1.symm
      · split at hr <;> cases hr
  subst hs
  have hR : D.read 9218868437227405311 = .number false 9007199254740991 971 := by decide
  unfold Format.order
  rw [hr, hR]
  simp only [Datum.order]
  have e1 : min e 971 = e := by omega
  rw [e1]
  have e2 : (e - e).toNat = 0 := by omega
  rw [e2]
  simp only [signed, Nat.shiftLeft_eq, Nat.pow_zero, Nat.mul_one]
  have hp : 1 ≤ 2 ^ (971 - e).toNat := Nat.two_pow_pos _
  have hle : (m : Int) ≤ ((9007199254740991 * 2 ^ (971 - e).toNat : Nat) : Int) := by
    have := Nat.mul_le_mul_left 9007199254740991 hp
    omega
  generalize ((9007199254740991 * 2 ^ (971 - e).toNat : Nat) : Int) = z at *
  have : compare (m : Int) z ≠ .gt := by
    rw [Int.compare_ne_gt]; exact hle
  simpa using this

theorem not_nan_of_rung {b : Nat} (h : b % 9223372036854775808 ≤ 9218868437227405312) : nanB b = false := by
  rw [nanB_read]
  unfold Format.read
  dsimp only
  rw [signWeight_eq, binade_eq, infRung_eq]
  split
  · rfl
  · split
    · rfl
    · rw [if_pos (by omega)]; rfl

theorem nearest_le (neg : Bool) (mag : Nat) (place : Int) : D.nearest neg mag place % 9223372036854775808 ≤ 9218868437227405312 := by
  unfold Format.nearest
  split
  · rw [word_mod _ _ (by decide)]; decide
  · dsimp only
    rw [infRung_eq]
    generalize (_ : Nat) * _ + _ = z
    rw [word_mod _ _ (by omega)]
    omega

theorem write_le (d : Datum) (h : d.isNaN = false) : nanB (D.write d) = false := by
  cases d with
  | number s m e => exact not_nan_of_rung (nearest_le s m e)
  | infinity s => cases s <;> decide
  | nan s f => cases h

/-- a sum of what is no NaN and of what is finite is no NaN -/
theorem add_ok (r x : Nat) (hr : nanB r = false) (hx : Fin x) : ∃ s, D.add r x = some s ∧ nanB s = false ∧ s < 18446744073709551616 := by
  obtain ⟨s, m, e, ex, _, _⟩ := read_fin x hx
  rw [nanB_read] at hr
  have key : ∃ d : Datum, (D.read r).sum (D.read x) = some d ∧ d.isNaN = false := by
    rw [ex]
    cases er : D.read r with
    | number t n j => exact ⟨_, rfl, rfl⟩
    | infinity t => exact ⟨_, rfl, rfl⟩
    | nan t f => rw [er] at hr; cases hr
  obtain ⟨d, hd, hn⟩ := key
  have hs : D.add r x = some (D.write d) := by unfold Format.add; rw [hd]; rfl
  refine ⟨_, hs, write_le d hn, ?_⟩
  have := D.add_lt hs
  exact Nat.lt_of_lt_of_le this (by decide)

theorem ofInt_pos (n : Int) (h1 : 1 ≤ n) (h2 : n ≤ 9223372036854775807) : ∃ s m, ∃ e : Int, D.read (floatOfInt .f64 n) = .number s m e ∧ m ≠ 0 := by
  have hr := ofInt_rung n (by omega) h2
  have hlow : 4503599627370496 ≤ floatOfInt .f64 n % 9223372036854775808 := by
    show 4503599627370496 ≤ D.nearest (n < 0) n.natAbs 0 % _
    unfold Format.nearest
    rw [if_neg (by omega)]
    dsimp only
    rw [binade_eq, infRung_eq, least_eq, show (D.fractionBits : Int) = 52 from rfl]
    obtain ⟨last, hl⟩ : ∃ last : Int, max (0 + (n.natAbs.log2 : Int) - 52) (-1074) = last := ⟨_, rfl⟩
    rw [hl]
    have hge : 1 ≤ (last - -1074).toNat := by omega
    have h3 := Nat.mul_le_mul_right 4503599627370496 hge
    generalize Toward.even.cut _ _ _ = kept
    rw [word_mod _ _ (by omega)]
    omega
  unfold Format.read
  dsimp only
  rw [signWeight_eq, binade_eq, infRung_eq, least_eq, if_neg (by omega), if_pos (by omega)]
  exact ⟨_, _, _, rfl, by omega⟩

/-- a quotient of what is no NaN and of a number from 1 on is no NaN -/
theorem div_ok (r : Nat) (n : Int) (hr : nanB r = false) (h1 : 1 ≤ n) (h2 : n ≤ 9223372036854775807) : ∃ s, D.div r (floatOfInt .f64 n) = some s ∧ nanB s = false ∧ s < 18446744073709551616 := by
  obtain ⟨s, m, e, ex, hm⟩ := ofInt_pos n h1 h2
  rw [nanB_read] at hr
  have key : ∃ d : Datum, (D.read r).quotient (D.fractionBits + 2) (D.read (floatOfInt .f64 n)) = some d ∧ d.isNaN = false := by
    rw [ex]
    cases er : D.read r with
    | number t q j => simp only [Datum.quotient, if_neg hm]; exact ⟨_, rfl, rfl⟩
    | infinity t => exact ⟨_, rfl, rfl⟩
    | nan t f => rw [er] at hr; cases hr
  obtain ⟨d, hd, hn⟩ := key
  have hs : D.div r (floatOfInt .f64 n) = some (D.write d) := by unfold Format.div; rw [hd]; rfl
  refine ⟨_, hs, write_le d hn, ?_⟩
  have := D.div_lt hs
  exact Nat.lt_of_lt_of_le this (by decide)

/-- the sum of finite numbers -/
def sumF (l : List Nat) : Nat := l.foldl (fun r x => (D.add r x).getD 0) 0
theorem sumF_snoc (l : List Nat) (x : Nat) : sumF (l ++ [x]) = (D.add (sumF l) x).getD 0 := by simp [sumF]
def Good (x : Nat) : Prop := Fin x ∧ x < 18446744073709551616
theorem fold_ok : ∀ (l : List Nat) (r : Nat), nanB r = false → r < 18446744073709551616 → (∀ x ∈ l, Good x) → nanB (l.foldl (fun r x => (D.add r x).getD 0) r) = false ∧ l.foldl (fun r x => (D.add r x).getD 0) r < 18446744073709551616
  | [], r, h1, h2, _ => ⟨h1, h2⟩
  | x :: l, r, h1, h2, h => by
    obtain ⟨s, hs, hn, hl⟩ := add_ok r x h1 (h x (by simp)).1
    rw [List.foldl_cons, hs]
    exact fold_ok l s hn hl fun y hy => h y (by simp [hy])
theorem sumF_ok (l : List Nat) (h : ∀ x ∈ l, Good x) : nanB (sumF l) = false ∧ sumF l < 18446744073709551616 := fold_ok l 0 (by decide) (by decide) h
theorem sumF_add (l : List Nat) (x : Nat) (h : ∀ y ∈ l, Good y) (hx : Good x) : D.add (sumF l) x = some (sumF (l ++ [x])) := by
  obtain ⟨s, hs, hn, hl⟩ := add_ok (sumF l) x (sumF_ok l h).1 hx.1
  rw [sumF_snoc, hs]
  rfl
/-- the mean -/
def meanF (l : List Nat) : Nat := (D.div (sumF l) (floatOfInt .f64 l.length)).getD 0
theorem meanF_ok (l : List Nat) (h : ∀ y ∈ l, Good y) (h0 : l ≠ []) (hn : l.length ≤ 9223372036854775807) :
    D.div (sumF l) (floatOfInt .f64 l.length) = some (meanF l) ∧ nanB (meanF l) = false := by
  have : 1 ≤ l.length := by cases l with | nil => exact absurd rfl h0 | cons => simp
  obtain ⟨s, hs, hb, hl⟩ := div_ok (sumF l) l.length (sumF_ok l h).1 (by omega) (by omega)
  unfold meanF
  rw [hs]
  exact ⟨rfl, hb⟩
/-- the gap of two moments -/
def gap (a b : Int) : Nat := (D.sub (floatOfInt .f64 a) (floatOfInt .f64 b)).getD 0
theorem gap_ok (a b : Int) (ha1 : -9223372036854775808 ≤ a) (ha2 : a ≤ 9223372036854775807) (hb1 : -9223372036854775808 ≤ b) (hb2 : b ≤ 9223372036854775807) :
    D.sub (floatOfInt .f64 a) (floatOfInt .f64 b) = some (gap a b) ∧ Good (gap a b) := by
  obtain ⟨d, hd, hf⟩ := gap_fin a b ha1 ha2 hb1 hb2
  unfold gap
  rw [hd]
  exact ⟨rfl, hf, Nat.lt_of_lt_of_le (D.sub_lt hd) (by decide)⟩

end Go.Proofs.YtnmkgmfpnepmmaaGreatDoor.Fl
