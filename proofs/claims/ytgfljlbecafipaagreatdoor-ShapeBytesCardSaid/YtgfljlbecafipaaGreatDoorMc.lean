/- What a taker takes of bytes, plainly; lengths. What a taker takes of any bytes is laid out as just these bytes. -/
import Derived.Test.YtgfljlbecafipaaGreatDoorMb
import Derived.Test.YtgfljlbecafipaaGreatDoorRd
namespace Go.Proofs.YtgfljlbecafipaaGreatDoor.Xw
open Go.RowKit Go.Lib Go.Proofs.YtgfljlbecafipaaGreatDoor.PA
set_option linter.unusedVariables false
set_option linter.unusedSimpArgs false

/-- what a taker has come to -/
structure TP where
  r : RP
  N : List Int
  T : List ByteArray
/-- what it hands on, or a refusal's number -/
inductive TR where
  | ok (s : TP)
  | no (c : Int)
def TR.then (x : TR) (f : TP → TR) : TR := match x with
  | .ok s => f s
  | .no c => .no c
theorem TR.then_ok (s : TP) (f : TP → TR) : (TR.ok s).then f = f s := rfl
theorem TR.then_no (c : Int) (f : TP → TR) : (TR.no c).then f = .no c := rfl
theorem TR.then_some {x : TR} {f : TP → TR} {s : TP} (h : x.then f = .ok s) : ∃ u, x = .ok u ∧ f u = .ok s := by
  cases x with
  | ok u => exact ⟨u, rfl, h⟩
  | no c => cases h

def bitI (b : Bool) : Int := if b = true then 1 else 0
def TP.num (s : TP) (x : Int) (r : RP) : TR := if r.e = 0 ∨ r.e = 6 then .ok ⟨r, s.N ++ [x], s.T⟩ else .no r.e
def TP.txt (s : TP) (x : List UInt8) (r : RP) : TR := if r.e = 0 ∨ r.e = 6 then .ok ⟨r, s.N, s.T ++ [⟨x.toArray⟩]⟩ else .no r.e
def bump (N : List Int) (p : Nat) : List Int := N.set p (wrap64 (N.getD p 0 + 1))
def star (f : TP → TR) (p : Nat) : Nat → TP → TR
  | 0, _ => .no 0
  | k + 1, s => if s.r.bool.1 = true then (f ⟨s.r.bool.2, bump s.N p, s.T⟩).then (star f p k) else if s.r.bool.2.e = 0 ∨ s.r.bool.2.e = 6 then .ok ⟨s.r.bool.2, s.N, s.T⟩ else .no s.r.bool.2.e

mutual
def tkOne : S77 → TP → TR
  | .mk k n arms, s =>
    if k = 117 then s.num s.r.uint.1 s.r.uint.2
    else if k = 113 then s.num s.r.hyper.1 s.r.hyper.2
    else if k = 98 then s.num (bitI s.r.bool.1) s.r.bool.2
    else if k = 111 then s.txt (s.r.opq n).1 (s.r.opq n).2
    else if k = 102 then s.txt (s.r.fixed n.toNat).1 (s.r.fixed n.toNat).2
    else if k = 63 then (s.num (bitI s.r.bool.1) s.r.bool.2).then fun u => if s.r.bool.1 = true then tkFirst arms u else .ok u
    else if k = 42 then (s.num 0 s.r).then fun u => star (tkFirst arms) s.N.length (u.r.l.length + 1) u
    else if k = 60 then (s.num s.r.uint.1 s.r.uint.2).then fun u => tkPick arms s.r.uint.1 u
    else .ok s
def tkL : List S77 → TP → TR
  | [], s => .ok s
  | x :: r, s => (tkOne x s).then fun u => tkL r u
def tkFirst : List S84 → TP → TR
  | [], _ => .no 0
  | .mk _ _ form :: _, s => tkL form s
def tkPick : List S84 → Int → TP → TR
  | [], _, _ => .no 4
  | .mk key any form :: r, x, s => if any = true ∨ key = x then tkL form s else tkPick r x s
end

mutual
def cntS : S77 → Nat
  | .mk _ _ arms => 1 + cntA arms
def cntL : List S77 → Nat
  | [] => 0
  | x :: r => cntS x + cntL r
def cntA : List S84 → Nat
  | [] => 0
  | .mk _ _ f :: r => cntL f + cntA r
end
mutual
/-- the numbers of texts' signs are within bounds -/
def nokS : S77 → Bool
  | .mk _ n arms => decide (0 ≤ n) && decide (n ≤ 100000) && nokA arms
def nokL : List S77 → Bool
  | [] => true
  | x :: r => nokS x && nokL r
def nokA : List S84 → Bool
  | [] => true
  | .mk _ _ f :: r => nokL f && nokA r
end

theorem tkPick_is : ∀ (arms : List S84) (x : Int) (s : TP), tkPick arms x s = match pickF arms x with | none => TR.no 4 | some f => tkL f s
  | [], _, _ => by simp [tkPick, pickF]
  | .mk key any form :: r, x, s => by
    rw [tkPick, pickF]
    show (if any = true ∨ key = x then _ else _) = match (if any = true ∨ key = x then some form else pickF r x : Option _) with | none => TR.no 4 | some f => tkL f s
    split
    · rfl
    · exact tkPick_is r x s

/-- room that a taker may yet fill -/
def psi (M : Nat) (s : TP) : Nat := s.N.length + s.T.length + M * s.r.l.length

theorem tk_le (s : RP) (n : Nat) : (s.tk n).2.2.l.length ≤ s.l.length := by
  unfold RP.tk
  split
  · split
    · simp [RP.wrong]
    · simp
  · exact Nat.le_refl _
theorem wrong_le (s : RP) (x : Int) : (s.wrong x).l.length ≤ s.l.length := by simp [RP.wrong]
theorem uint_le (s : RP) : s.uint.2.l.length ≤ s.l.length := tk_le s 4
theorem hyper_le (s : RP) : s.hyper.2.l.length ≤ s.l.length := tk_le s 8
theorem bool_le (s : RP) : s.bool.2.l.length ≤ s.l.length := by
  unfold RP.bool
  show (if 1 < s.uint.1 then s.uint.2.wrong 4 else s.uint.2).l.length ≤ _
  split
  · exact Nat.le_trans (wrong_le _ _) (uint_le s)
  · exact uint_le s
theorem fixed_le (s : RP) (n : Nat) : (s.fixed n).2.l.length ≤ s.l.length := by
  have h1 : (s.fixed1 n).l.length ≤ s.l.length := by
    unfold RP.fixed1; split
    · exact wrong_le _ _
    · exact Nat.le_refl _
  have h2 := Nat.le_trans (tk_le (s.fixed1 n) (n + padN n)) h1
  unfold RP.fixed
  split
  · split
    · exact h2
    · exact Nat.le_trans (wrong_le _ _) h2
  · exact h2
theorem opq_le (s : RP) (m : Int) : (s.opq m).2.l.length ≤ s.l.length := by
  unfold RP.opq
  split
  · exact Nat.le_trans (wrong_le _ _) (uint_le s)
  · exact Nat.le_trans (fixed_le _ _) (uint_le s)
theorem bool_true {s : RP} (h : s.bool.1 = true) : s.e = 0 ∧ 4 ≤ s.l.length ∧ s.bool.2 = ⟨s.l.drop 4, 0⟩ := by
  have h1 : s.uint.1 = 1 := by simpa [RP.bool] using h
  have h2 : s.bool.2 = s.uint.2 := by
    unfold RP.bool
    show (if 1 < s.uint.1 then s.uint.2.wrong 4 else s.uint.2) = _
    rw [if_neg (by omega)]
  have h3 : ∀ x : RP, (x.tk 4).1 = [] → x.uint.1 = 0 := fun x hx => by unfold RP.uint; rw [hx]; rfl
  by_cases he : s.e = 0
  · by_cases hl : s.l.length < 4
    · have : (s.tk 4).1 = [] := by unfold RP.tk; rw [if_pos he, if_pos hl]
      have := h3 s this; omega
    · refine ⟨he, by omega, ?_⟩
      rw [h2]
      unfold RP.uint RP.tk
      rw [if_pos he, if_neg hl, he]
  · have : (s.tk 4).1 = [] := by unfold RP.tk; rw [if_neg he]
    have := h3 s this; omega
theorem bump_length (N : List Int) (p : Nat) : (bump N p).length = N.length := by simp [bump]

theorem num_ok {s u : TP} {x : Int} {r : RP} (h : s.num x r = .ok u) : (r.e = 0 ∨ r.e = 6) ∧ u = ⟨r, s.N ++ [x], s.T⟩ := by
  unfold TP.num at h
  split at h
  · rename_i he; injection h with h; exact ⟨he, h.symm⟩
  · cases h
theorem txt_ok {s u : TP} {x : List UInt8} {r : RP} (h : s.txt x r = .ok u) : (r.e = 0 ∨ r.e = 6) ∧ u = ⟨r, s.N, s.T ++ [⟨x.toArray⟩]⟩ := by
  unfold TP.txt at h
  split at h
  · rename_i he; injection h with h; exact ⟨he, h.symm⟩
  · cases h
theorem num_psi {M : Nat} {s u : TP} {x : Int} {r : RP} (h : s.num x r = .ok u) (hr : r.l.length ≤ s.r.l.length) : psi M u ≤ psi M s + 1 ∧ u.r.l.length ≤ s.r.l.length := by
  obtain ⟨_, rfl⟩ := num_ok h
  have := Nat.mul_le_mul_left M hr
  unfold psi
  refine ⟨?_, hr⟩
  show (s.N ++ [x]).length + s.T.length + M * r.l.length ≤ _
  rw [List.length_append, List.length_singleton]; omega
theorem txt_psi {M : Nat} {s u : TP} {x : List UInt8} {r : RP} (h : s.txt x r = .ok u) (hr : r.l.length ≤ s.r.l.length) : psi M u ≤ psi M s + 1 ∧ u.r.l.length ≤ s.r.l.length := by
  obtain ⟨_, rfl⟩ := txt_ok h
  have := Nat.mul_le_mul_left M hr
  unfold psi
  refine ⟨?_, hr⟩
  show s.N.length + (s.T ++ [(⟨x.toArray⟩ : ByteArray)]).length + M * r.l.length ≤ _
  rw [List.length_append, List.length_singleton]; omega
theorem round_psi {M : Nat} {s : TP} {p : Nat} (h : s.r.bool.1 = true) : psi M ⟨s.r.bool.2, bump s.N p, s.T⟩ + 4 * M = psi M s ∧ s.r.bool.2.l.length + 4 = s.r.l.length := by
  obtain ⟨_, h1, h2⟩ := bool_true h
  have e : s.r.bool.2.l.length + 4 = s.r.l.length := by rw [h2]; simp; omega
  refine ⟨?_, e⟩
  unfold psi
  show (bump s.N p).length + s.T.length + M * s.r.bool.2.l.length + 4 * M = s.N.length + s.T.length + M * s.r.l.length
  rw [bump_length, ← e, Nat.mul_add]; omega
theorem star_psi {M : Nat} (f : TP → TR) (p : Nat) (hf : ∀ s u, f s = .ok u → psi M u ≤ psi M s + M ∧ u.r.l.length ≤ s.r.l.length) : ∀ k s u, star f p k s = .ok u → psi M u ≤ psi M s ∧ u.r.l.length ≤ s.r.l.length
  | 0, s, u, h => by cases h
  | k + 1, s, u, h => by
    rw [star] at h
    split at h
    · rename_i hb
      obtain ⟨s1, h1, h2⟩ := TR.then_some h
      have a := round_psi (M := M) (p := p) hb
      have b := hf _ _ h1
      have c := star_psi f p hf k s1 u h2
      have b2 : s1.r.l.length ≤ s.r.bool.2.l.length := b.2
      exact ⟨by omega, by omega⟩
    · split at h
      · injection h with h
        subst h
        have hl := bool_le s.r
        have := Nat.mul_le_mul_left M hl
        refine ⟨?_, hl⟩
        unfold psi
        show s.N.length + s.T.length + M * s.r.bool.2.l.length ≤ _
        omega
      · cases h

mutual
theorem tkOne_psi (M : Nat) : ∀ (x : S77) (s u : TP), cntS x ≤ M → tkOne x s = .ok u → psi M u ≤ psi M s + cntS x ∧ u.r.l.length ≤ s.r.l.length
  | .mk k n arms, s, u, hM, h => by
    rw [cntS] at hM ⊢
    rw [tkOne] at h
    split at h
    · have := num_psi (M := M) h (uint_le _); exact ⟨by omega, this.2⟩
    split at h
    · have := num_psi (M := M) h (hyper_le _); exact ⟨by omega, this.2⟩
    split at h
    · have := num_psi (M := M) h (bool_le _); exact ⟨by omega, this.2⟩
    split at h
    · have := txt_psi (M := M) h (opq_le _ _); exact ⟨by omega, this.2⟩
    split at h
    · have := txt_psi (M := M) h (fixed_le _ _); exact ⟨by omega, this.2⟩
    split at h
    · obtain ⟨s1, h1, h2⟩ := TR.then_some h
      have a := num_psi (M := M) h1 (bool_le _)
      split at h2
      · have b := tkFirst_psi M arms s1 u (by omega) h2
        exact ⟨by omega, by omega⟩
      · injection h2 with h2; subst h2; exact ⟨by omega, a.2⟩
    split at h
    · obtain ⟨s1, h1, h2⟩ := TR.then_some h
      have a := num_psi (M := M) h1 (Nat.le_refl _)
      have b := star_psi (M := M) (tkFirst arms) _ (fun s' u' hu => by
        have c := tkFirst_psi M arms s' u' (by omega) hu
        exact ⟨by omega, c.2⟩) _ s1 u h2
      exact ⟨by omega, by omega⟩
    split at h
    · obtain ⟨s1, h1, h2⟩ := TR.then_some h
      have a := num_psi (M := M) h1 (uint_le _)
      have b := tkPick_psi M arms _ s1 u (by omega) h2
      exact ⟨by omega, by omega⟩
    · injection h with h; subst h; exact ⟨by omega, Nat.le_refl _⟩
theorem tkL_psi (M : Nat) : ∀ (l : List S77) (s u : TP), cntL l ≤ M → tkL l s = .ok u → psi M u ≤ psi M s + cntL l ∧ u.r.l.length ≤ s.r.l.length
  | [], s, u, _, h => by rw [tkL] at h; injection h with h; subst h; exact ⟨by omega, Nat.le_refl _⟩
  | x :: r, s, u, hM, h => by
    rw [cntL] at hM ⊢
    rw [tkL] at h
    obtain ⟨s1, h1, h2⟩ := TR.then_some h
    have a := tkOne_psi M x s s1 (by omega) h1
    have b := tkL_psi M r s1 u (by omega) h2
    exact ⟨by omega, by omega⟩
theorem tkFirst_psi (M : Nat) : ∀ (l : List S84) (s u : TP), cntA l ≤ M → tkFirst l s = .ok u → psi M u ≤ psi M s + cntA l ∧ u.r.l.length ≤ s.r.l.length
  | [], s, u, _, h => by rw [tkFirst] at h; cases h
  | .mk ka aa f :: r, s, u, hM, h => by
    rw [cntA] at hM ⊢
    rw [tkFirst] at h
    have b := tkL_psi M f s u (by omega) h
    exact ⟨by omega, b.2⟩
theorem tkPick_psi (M : Nat) : ∀ (l : List S84) (x : Int) (s u : TP), cntA l ≤ M → tkPick l x s = .ok u → psi M u ≤ psi M s + cntA l ∧ u.r.l.length ≤ s.r.l.length
  | [], x, s, u, _, h => by rw [tkPick] at h; cases h
  | .mk ka aa f :: r, x, s, u, hM, h => by
    rw [cntA] at hM ⊢
    rw [tkPick] at h
    split at h
    · have b := tkL_psi M f s u (by omega) h
      exact ⟨by omega, b.2⟩
    · have b := tkPick_psi M r x s u (by omega) h
      exact ⟨by omega, b.2⟩
end
end Go.Proofs.YtgfljlbecafipaaGreatDoor.Xw

namespace Go.Proofs.YtgfljlbecafipaaGreatDoor.Xw
open Go.RowKit Go.Lib Go.Proofs.YtgfljlbecafipaaGreatDoor.PA
set_option linter.unusedVariables false
set_option linter.unusedSimpArgs false

theorem dg2 (z x : Int) (h : z % 65536 = x) : z % 256 = x % 256 ∧ z / 256 % 256 = x / 256 := by omega
theorem dg3 (z x : Int) (h : z % 16777216 = x) : z % 256 = x % 256 ∧ z / 256 % 65536 = x / 256 := by omega
theorem dg4 (z x : Int) (h : z % 4294967296 = x) : z % 256 = x % 256 ∧ z / 256 % 16777216 = x / 256 := by omega
theorem dg5 (z x : Int) (h : z % 1099511627776 = x) : z % 256 = x % 256 ∧ z / 256 % 4294967296 = x / 256 := by omega
theorem dg6 (z x : Int) (h : z % 281474976710656 = x) : z % 256 = x % 256 ∧ z / 256 % 1099511627776 = x / 256 := by omega
theorem dg7 (z x : Int) (h : z % 72057594037927936 = x) : z % 256 = x % 256 ∧ z / 256 % 281474976710656 = x / 256 := by omega
theorem dg8 (x d y : Int) (h0 : 0 ≤ x) (h1 : x < 72057594037927936) (h2 : 0 ≤ d) (h3 : d < 256) (h : y = wrap64 (x * 256) + d) : -9223372036854775808 ≤ y ∧ y ≤ 9223372036854775807 ∧ y / 256 % 72057594037927936 = x ∧ y % 256 = d := by
  by_cases hs : x < 36028797018963968
  · have e : wrap64 (x * 256) = x * 256 := by unfold wrap64; omega
    rw [e] at h
    exact ⟨by omega, by omega, by omega, by omega⟩
  · have e : wrap64 (x * 256) = x * 256 - 18446744073709551616 := by unfold wrap64; omega
    rw [e] at h
    exact ⟨by omega, by omega, by omega, by omega⟩
theorem div_pow (y : Int) (k : Nat) : y / (256 : Int) ^ (k + 1) = y / (256 : Int) ^ k / 256 := by
  rw [Int.pow_succ, Int.ediv_ediv_of_nonneg (Int.le_of_lt (Int.pow_pos (by decide)))]
theorem be8 (y : Int) : be y 8 = [UInt8.ofNat (y / 256 / 256 / 256 / 256 / 256 / 256 / 256 % 256).toNat, UInt8.ofNat (y / 256 / 256 / 256 / 256 / 256 / 256 % 256).toNat, UInt8.ofNat (y / 256 / 256 / 256 / 256 / 256 % 256).toNat, UInt8.ofNat (y / 256 / 256 / 256 / 256 % 256).toNat, UInt8.ofNat (y / 256 / 256 / 256 % 256).toNat, UInt8.ofNat (y / 256 / 256 % 256).toNat, UInt8.ofNat (y / 256 % 256).toNat, UInt8.ofNat (y % 256).toNat] := by
  have q0 : y / (256 : Int) ^ 0 = y := by rw [Int.pow_zero, Int.ediv_one]
  have q1 := div_pow y 0
  rw [q0] at q1
  have q2 := div_pow y 1
  rw [q1] at q2
  have q3 := div_pow y 2
  rw [q2] at q3
  have q4 := div_pow y 3
  rw [q3] at q4
  have q5 := div_pow y 4
  rw [q4] at q5
  have q6 := div_pow y 5
  rw [q5] at q6
  have q7 := div_pow y 6
  rw [q6] at q7
  rw [be, be, be, be, be, be, be, be, be, q0, q1, q2, q3, q4, q5, q6, q7]
theorem fold8 {α β : Type} (f : α → β → α) (z : α) (a b c d a' b' c' d' : β) : [a, b, c, d, a', b', c', d'].foldl f z = f (f (f (f (f (f (f (f z a) b) c) d) a') b') c') d' := rfl
theorem num_8 (bs : List UInt8) (h : bs.length = 8) : -9223372036854775808 ≤ num bs ∧ num bs ≤ 9223372036854775807 ∧ be (num bs) 8 = bs := by
  match bs, h with
  | [a, b, c, d, a', b', c', d'], _ =>
    have ha := a.toNat_lt
    have hb := b.toNat_lt
    have hc := c.toNat_lt
    have hd := d.toNat_lt
    have ha' := a'.toNat_lt
    have hb' := b'.toNat_lt
    have hc' := c'.toNat_lt
    have hd' := d'.toNat_lt
    have e : num [a, b, c, d, a', b', c', d'] = stp (stp (stp (stp (stp (stp (stp (stp 0 a) b) c) d) a') b') c') d' := by unfold num; exact fold8 stp 0 a b c d a' b' c' d'
    obtain ⟨x1, h1⟩ : ∃ x, x = stp 0 a := ⟨_, rfl⟩
    rw [← h1] at e
    rw [stp_small (by omega) (by omega)] at h1
    have g1 : 0 ≤ x1 ∧ x1 < 256 := by omega
    obtain ⟨x2, h2⟩ : ∃ x, x = stp x1 b := ⟨_, rfl⟩
    rw [← h2] at e
    rw [stp_small (by omega) (by omega)] at h2
    have g2 : 0 ≤ x2 ∧ x2 < 65536 ∧ x2 / 256 = x1 ∧ x2 % 256 = b.toNat := by omega
    clear h2
    obtain ⟨x3, h3⟩ : ∃ x, x = stp x2 c := ⟨_, rfl⟩
    rw [← h3] at e
    rw [stp_small (by omega) (by omega)] at h3
    have g3 : 0 ≤ x3 ∧ x3 < 16777216 ∧ x3 / 256 = x2 ∧ x3 % 256 = c.toNat := by omega
    clear h3
    obtain ⟨x4, h4⟩ : ∃ x, x = stp x3 d := ⟨_, rfl⟩
    rw [← h4] at e
    rw [stp_small (by omega) (by omega)] at h4
    have g4 : 0 ≤ x4 ∧ x4 < 4294967296 ∧ x4 / 256 = x3 ∧ x4 % 256 = d.toNat := by omega
    clear h4
    obtain ⟨x5, h5⟩ : ∃ x, x = stp x4 a' := ⟨_, rfl⟩
    rw [← h5] at e
    rw [stp_small (by omega) (by omega)] at h5
    have g5 : 0 ≤ x5 ∧ x5 < 1099511627776 ∧ x5 / 256 = x4 ∧ x5 % 256 = a'.toNat := by omega
    clear h5
    obtain ⟨x6, h6⟩ : ∃ x, x = stp x5 b' := ⟨_, rfl⟩
    rw [← h6] at e
    rw [stp_small (by omega) (by omega)] at h6
    have g6 : 0 ≤ x6 ∧ x6 < 281474976710656 ∧ x6 / 256 = x5 ∧ x6 % 256 = b'.toNat := by omega
    clear h6
    obtain ⟨x7, h7⟩ : ∃ x, x = stp x6 c' := ⟨_, rfl⟩
    rw [← h7] at e
    rw [stp_small (by omega) (by omega)] at h7
    have g7 : 0 ≤ x7 ∧ x7 < 72057594037927936 ∧ x7 / 256 = x6 ∧ x7 % 256 = c'.toNat := by omega
    clear h7
    unfold stp at e
    rw [bits_or] at e
    obtain ⟨y, hy⟩ : ∃ y, y = num [a, b, c, d, a', b', c', d'] := ⟨_, rfl⟩
    rw [← hy] at e ⊢
    clear hy
    have e' := dg8 x7 d'.toNat y g7.1 g7.2.1 (Int.natCast_nonneg _) (Int.ofNat_lt.2 hd') e
    clear e
    refine ⟨e'.1, e'.2.1, ?_⟩
    obtain ⟨_, _, e7, e8⟩ := e'
    have k7 := dg7 _ _ e7
    rw [g7.2.2.1, g7.2.2.2] at k7
    have k6 := dg6 _ _ k7.2
    rw [g6.2.2.1, g6.2.2.2] at k6
    have k5 := dg5 _ _ k6.2
    rw [g5.2.2.1, g5.2.2.2] at k5
    have k4 := dg4 _ _ k5.2
    rw [g4.2.2.1, g4.2.2.2] at k4
    have k3 := dg3 _ _ k4.2
    rw [g3.2.2.1, g3.2.2.2] at k3
    have k2 := dg2 _ _ k3.2
    rw [g2.2.2.1, g2.2.2.2] at k2
    have k1 : y / 256 / 256 / 256 / 256 / 256 / 256 / 256 % 256 = (a.toNat : Int) := by rw [k2.2, h1]; simp
    rw [be8 y]
    exact List.cons_eq_cons.2 ⟨byte_eq k1, List.cons_eq_cons.2 ⟨byte_eq k2.1, List.cons_eq_cons.2 ⟨byte_eq k3.1, List.cons_eq_cons.2 ⟨byte_eq k4.1, List.cons_eq_cons.2 ⟨byte_eq k5.1, List.cons_eq_cons.2 ⟨byte_eq k6.1, List.cons_eq_cons.2 ⟨byte_eq k7.1, List.cons_eq_cons.2 ⟨byte_eq e8, rfl⟩⟩⟩⟩⟩⟩⟩⟩

theorem tk_ok {s : RP} {n : Nat} (he : s.e = 0) (h : (s.tk n).2.2.e = 0 ∨ (s.tk n).2.2.e = 6) : n ≤ s.l.length ∧ s.tk n = (s.l.take n, true, ⟨s.l.drop n, 0⟩) := by
  unfold RP.tk at h ⊢
  rw [if_pos he] at h ⊢
  by_cases hl : s.l.length < n
  · rw [if_pos hl] at h
    simp [RP.wrong, he] at h
  · rw [if_neg hl, he]; exact ⟨by omega, rfl⟩
theorem uint_ok {s : RP} (he : s.e = 0) (h : s.uint.2.e = 0 ∨ s.uint.2.e = 6) : ∃ bs l, bs.length = 4 ∧ s.l = bs ++ l ∧ s.uint = (num bs, ⟨l, 0⟩) := by
  obtain ⟨h1, h2⟩ := tk_ok (n := 4) he h
  exact ⟨s.l.take 4, s.l.drop 4, by simp; omega, (List.take_append_drop 4 s.l).symm, by unfold RP.uint; rw [h2]⟩
theorem hyper_ok {s : RP} (he : s.e = 0) (h : s.hyper.2.e = 0 ∨ s.hyper.2.e = 6) : ∃ bs l, bs.length = 8 ∧ s.l = bs ++ l ∧ s.hyper = (num bs, ⟨l, 0⟩) := by
  obtain ⟨h1, h2⟩ := tk_ok (n := 8) he h
  exact ⟨s.l.take 8, s.l.drop 8, by simp; omega, (List.take_append_drop 8 s.l).symm, by unfold RP.hyper; rw [h2]⟩
theorem wrong_no (s : RP) (x : Int) (h0 : x ≠ 0) (h6 : x ≠ 6) (hs : s.e ≠ 6) : ¬ ((s.wrong x).e = 0 ∨ (s.wrong x).e = 6) := by
  unfold RP.wrong
  show ¬ ((if s.e = 0 then x else s.e) = 0 ∨ (if s.e = 0 then x else s.e) = 6)
  split <;> omega
theorem tk_e6 (s : RP) (n : Nat) (h : s.e ≠ 6) : (s.tk n).2.2.e ≠ 6 := by
  unfold RP.tk
  split
  · split
    · unfold RP.wrong; show (if s.e = 0 then (5 : Int) else s.e) ≠ 6; split <;> omega
    · exact h
  · exact h
theorem bool_ok {s : RP} (he : s.e = 0) (h : s.bool.2.e = 0 ∨ s.bool.2.e = 6) : ∃ bs l, bs.length = 4 ∧ s.l = bs ++ l ∧ s.bool = (num bs == 1, ⟨l, 0⟩) ∧ (num bs = 0 ∨ num bs = 1) := by
  by_cases hu : 1 < s.uint.1
  · have : s.bool.2 = s.uint.2.wrong 4 := by
      unfold RP.bool
      show (if 1 < s.uint.1 then s.uint.2.wrong 4 else s.uint.2) = _
      rw [if_pos hu]
    rw [this] at h
    exact absurd h (wrong_no _ _ (by decide) (by decide) (tk_e6 s 4 (by omega)))
  · have e : s.bool.2 = s.uint.2 := by
      unfold RP.bool
      show (if 1 < s.uint.1 then s.uint.2.wrong 4 else s.uint.2) = _
      rw [if_neg hu]
    rw [e] at h
    obtain ⟨bs, l, h1, h2, h3⟩ := uint_ok he h
    have hn := num_4 bs h1
    have h4 : s.bool = (s.uint.1 == 1, s.uint.2) := Prod.ext rfl e
    rw [h3] at hu
    refine ⟨bs, l, h1, h2, by rw [h4, h3], ?_⟩
    have : ¬ 1 < num bs := hu
    omega
theorem fixed_ok {s : RP} {n : Nat} (he : s.e = 0) (h : (s.fixed n).2.e = 0 ∨ (s.fixed n).2.e = 6) : ∃ x l, x.length = n ∧ s.l = fixB x ++ l ∧ s.fixed n = (x, ⟨l, 0⟩) := by
  by_cases hl : s.l.length < n
  · have e1 : s.fixed1 n = s.wrong 5 := by unfold RP.fixed1; rw [if_pos ⟨he, hl⟩]
    have e2 : (s.wrong 5).e = 5 := by unfold RP.wrong; simp [he]
    have e3 : (s.wrong 5).tk (n + padN n) = ([], false, s.wrong 5) := by unfold RP.tk; rw [if_neg (by rw [e2]; decide)]
    have e4 : s.fixed n = ([], s.wrong 5) := by unfold RP.fixed; rw [e1, e3]; simp
    rw [e4] at h
    simp only [e2] at h
    omega
  · have e1 : s.fixed1 n = s := by unfold RP.fixed1; rw [if_neg (fun hh => hl hh.2)]
    by_cases hp : s.l.length < n + padN n
    · have e3 : s.tk (n + padN n) = ([], false, s.wrong 5) := by unfold RP.tk; rw [if_pos he, if_pos hp]
      have e4 : s.fixed n = ([], s.wrong 5) := by unfold RP.fixed; rw [e1, e3]; simp
      rw [e4] at h
      exact absurd h (wrong_no _ _ (by decide) (by decide) (by omega))
    · have e3 : s.tk (n + padN n) = (s.l.take (n + padN n), true, ⟨s.l.drop (n + padN n), 0⟩) := by unfold RP.tk; rw [if_pos he, if_neg hp, he]
      by_cases hz : ((s.l.take (n + padN n)).drop n).all (· == 0) = true
      · have e4 : s.fixed n = ((s.l.take (n + padN n)).take n, ⟨s.l.drop (n + padN n), 0⟩) := by
          unfold RP.fixed; rw [e1, e3]; simp only [if_true]; rw [if_pos hz]
        refine ⟨(s.l.take (n + padN n)).take n, s.l.drop (n + padN n), by simp; omega, ?_, e4⟩
        have hx : ((s.l.take (n + padN n)).take n).length = n := by simp; omega
        have hr : (s.l.take (n + padN n)).drop n = List.replicate (padN n) 0 := by
          apply List.eq_replicate_iff.2
          refine ⟨by simp; omega, fun b hb => ?_⟩
          have := List.all_eq_true.1 hz b hb
          simpa using this
        rw [fixB, hx, ← hr, List.take_append_drop, List.take_append_drop]
      · have e4 : s.fixed n = ([], (⟨s.l.drop (n + padN n), 0⟩ : RP).wrong 4) := by
          unfold RP.fixed; rw [e1, e3]; simp only [if_true]; rw [if_neg hz]
        rw [e4] at h
        exact absurd h (wrong_no _ _ (by decide) (by decide) (by show (0 : Int) ≠ 6; decide))
theorem opq_ok {s : RP} {m : Int} (hm : 0 ≤ m) (he : s.e = 0) (h : (s.opq m).2.e = 0 ∨ (s.opq m).2.e = 6) : ∃ (x : List UInt8) (l : List UInt8), (x.length : Int) ≤ m ∧ s.l = be x.length 4 ++ fixB x ++ l ∧ s.opq m = (x, ⟨l, 0⟩) := by
  by_cases hu : max m 0 < s.uint.1
  · have e : s.opq m = ([], s.uint.2.wrong 2) := by unfold RP.opq; rw [if_pos hu]
    rw [e] at h
    exact absurd h (wrong_no _ _ (by decide) (by decide) (tk_e6 s 4 (by omega)))
  · have e : s.opq m = s.uint.2.fixed s.uint.1.toNat := by unfold RP.opq; rw [if_neg hu]
    rw [e] at h
    by_cases h0 : s.uint.2.e = 0
    · obtain ⟨bs, l, h1, h2, h3⟩ := uint_ok he (.inl h0)
      have hn := num_4 bs h1
      rw [h3] at h hu
      obtain ⟨x, l2, k1, k2, k3⟩ := fixed_ok (s := ⟨l, 0⟩) rfl h
      have k2' : l = fixB x ++ l2 := k2
      have k1' : x.length = (num bs).toNat := k1
      have hu' : ¬ max m 0 < num bs := hu
      refine ⟨x, l2, by omega, ?_, ?_⟩
      · have hx : (x.length : Int) = num bs := by omega
        rw [hx, hn.2.2, List.append_assoc, ← k2', h2]
      · rw [e, h3]; exact k3
    · exfalso
      have h6 : s.uint.2.e ≠ 6 := tk_e6 s 4 (by omega)
      have e1 : ∀ n, (s.uint.2.fixed n).2.e = s.uint.2.e := fun n => by
        have a1 : s.uint.2.fixed1 n = s.uint.2 := by unfold RP.fixed1; rw [if_neg (fun hh => h0 hh.1)]
        have a2 : s.uint.2.tk (n + padN n) = ([], false, s.uint.2) := by unfold RP.tk; rw [if_neg h0]
        unfold RP.fixed; rw [a1, a2]; simp
      rw [e1] at h
      omega

/-- what is laid out of just so many numbers and texts -/
def Lays (f : List Int → List ByteArray → LP → Option LP) (bs : List UInt8) (N2 : List Int) (T2 : List ByteArray) : Prop :=
  ∀ (N : List Int) (T : List ByteArray) (u : LP) (C : List Int) (D : List ByteArray), N.drop u.n = N2 ++ C → T.drop u.t = T2 ++ D → u.size + bs.length ≤ 65536 → f N T u = some ⟨u.out ++ bs, u.n + N2.length, u.t + T2.length, u.size + bs.length⟩
def Rt (g : TP → TR) (f : List Int → List ByteArray → LP → Option LP) : Prop :=
  ∀ s s' : TP, s.r.e = 0 → s.r.l.length ≤ 1000000000 → g s = .ok s' → s'.r.e = 0 ∧ ∃ bs N2 T2, s.r.l = bs ++ s'.r.l ∧ s'.N = s.N ++ N2 ∧ s'.T = s.T ++ T2 ∧ Lays f bs N2 T2

theorem drop_of {α : Type} {l a b : List α} {n : Nat} (h : l.drop n = a ++ b) : l.drop (n + a.length) = b := by
  rw [← List.drop_drop, h, List.drop_left]
theorem at_of {α : Type} {l b : List α} {x : α} {n : Nat} (h : l.drop n = x :: b) : l[n]? = some x := by
  have := congrArg (fun m => m[0]?) h
  simpa [List.getElem?_drop] using this
theorem Lays.then {f1 f2 : List Int → List ByteArray → LP → Option LP} {b1 b2 : List UInt8} {N1 N2 : List Int} {T1 T2 : List ByteArray} (h1 : Lays f1 b1 N1 T1) (h2 : Lays f2 b2 N2 T2) : Lays (fun N T u => (f1 N T u).bind (f2 N T)) (b1 ++ b2) (N1 ++ N2) (T1 ++ T2) := by
  intro N T u C D hN hT hs
  rw [List.append_assoc] at hN hT
  rw [List.length_append] at hs
  show (f1 N T u).bind (f2 N T) = _
  rw [h1 N T u _ _ hN hT (by omega), Option.bind_some, h2 N T _ C D (drop_of hN) (drop_of hT) (by show u.size + b1.length + b2.length ≤ _; omega)]
  simp only [List.length_append, List.append_assoc, Nat.add_assoc]
theorem Lays.nil : Lays (fun _ _ u => some u) [] [] [] := fun N T u C D _ _ _ => by simp
theorem put_in (s : LP) (bs : List UInt8) (k : Nat) (hk : bs.length = k) (h : s.size + k ≤ 65536) : s.put k bs = ⟨s.out ++ bs, s.n, s.t, s.size + bs.length⟩ := by
  unfold LP.put; rw [if_pos h, hk]
theorem Lays.num {F : Int → List Int → List ByteArray → LP → Option LP} {lo hi x : Int} {k : Nat} {bs b2 : List UInt8} {N2 : List Int} {T2 : List ByteArray} (hlo : lo ≤ x) (hhi : x ≤ hi) (hk : bs.length = k) (hb : be x k = bs) (h : Lays (F x) b2 N2 T2) :
    Lays (fun N T u => (u.num N lo hi).bind fun p => F p.1 N T (p.2.put k (be p.1 k))) (bs ++ b2) (x :: N2) T2 := by
  intro N T u C D hN hT hs
  rw [List.length_append] at hs
  have h1 : u.num N lo hi = some (x, { u with n := u.n + 1 }) := by
    unfold LP.num; rw [at_of (by simpa using hN), Option.bind_some, if_pos ⟨hlo, hhi⟩]
  show (u.num N lo hi).bind _ = _
  rw [h1, Option.bind_some]
  show F x N T (LP.put { u with n := u.n + 1 } k (be x k)) = _
  rw [hb, put_in _ _ _ hk (by show u.size + k ≤ _; omega)]
  have hN' : N.drop (u.n + 1) = N2 ++ C := drop_of (a := [x]) (by simpa using hN)
  show F x N T ⟨u.out ++ bs, u.n + 1, u.t, u.size + bs.length⟩ = _
  rw [h N T ⟨u.out ++ bs, u.n + 1, u.t, u.size + bs.length⟩ C D hN' hT (by show u.size + bs.length + b2.length ≤ _; omega)]
  simp only [List.length_append, List.append_assoc, Nat.add_assoc, List.length_cons, Nat.add_comm 1]
theorem Lays.txt {lo hi : Int} {x : ByteArray} {K : ByteArray → Nat} {G : ByteArray → List UInt8} {bs : List UInt8} (hlo : lo ≤ (x.size : Int)) (hhi : (x.size : Int) ≤ hi) (hG : G x = bs) (hK : bs.length = K x) :
    Lays (fun N T u => (u.txt T lo hi).map fun p => p.2.put (K p.1) (G p.1)) bs [] [x] := by
  intro N T u C D hN hT hs
  have h1 : u.txt T lo hi = some (x, { u with t := u.t + 1 }) := by
    unfold LP.txt; rw [at_of (by simpa using hT), Option.bind_some, if_pos ⟨hlo, hhi⟩]
  show (u.txt T lo hi).map _ = _
  rw [h1, Option.map_some, hG, put_in _ _ _ hK (by show u.size + K x ≤ _; omega)]
  simp
theorem Lays.map_num {lo hi x : Int} {k : Nat} {bs : List UInt8} (hlo : lo ≤ x) (hhi : x ≤ hi) (hk : bs.length = k) (hb : be x k = bs) : Lays (fun N T u => (u.num N lo hi).map fun p => p.2.put k (be p.1 k)) bs [x] [] := by
  have h := Lays.num (F := fun _ _ _ u => some u) hlo hhi hk hb Lays.nil
  rw [List.append_nil] at h
  intro N T u C D hN hT hs
  rw [← h N T u C D hN hT hs]
  show Option.map _ _ = Option.bind _ _
  rw [Option.map_eq_bind]; rfl

theorem star_rt {arms : List S84} (hR : Rt (tkFirst arms) (fun N T u => layFirst N T arms u)) (p : Nat) : ∀ (k : Nat) (s s' : TP) (c : Int), s.r.e = 0 → p < s.N.length → s.N.getD p 0 = c → 0 ≤ c → c + s.r.l.length ≤ 1000000000 → star (tkFirst arms) p k s = .ok s' →
    s'.r.e = 0 ∧ ∃ (m : Nat) (bs : List UInt8) (N2 : List Int) (T2 : List ByteArray), s.r.l = bs ++ be 0 4 ++ s'.r.l ∧ s'.N = s.N.set p (c + m) ++ N2 ∧ s'.T = s.T ++ T2 ∧ m ≤ bs.length ∧ Lays (fun N T u => iter (fun s => layFirst N T arms (s.put 4 (be 1 4))) m u) bs N2 T2
  | 0, s, s', c, _, _, _, _, _, h => by cases h
  | k + 1, s, s', c, he, hp, hc, hc0, hl, h => by
    rw [star] at h
    split at h
    · rename_i hb
      obtain ⟨s1, h1, h2⟩ := TR.then_some h
      have hbe : s.r.bool.2.e = 0 := by rw [(bool_true hb).2.2]
      obtain ⟨bs, l, b1, b2, b3, b4⟩ := bool_ok he (.inl hbe)
      have hn1 : num bs = 1 := by rw [b3] at hb; simpa using hb
      have hbs : be 1 4 = bs := by rw [← hn1]; exact (num_4 bs b1).2.2
      obtain ⟨r1, bs1, N1, T1, e1, e2, e3, e4⟩ := hR _ s1 hbe (Nat.le_trans (bool_le s.r) (by omega)) h1
      rw [b3] at e1
      have e1' : l = bs1 ++ s1.r.l := e1
      have e2' : s1.N = bump s.N p ++ N1 := e2
      have hw : wrap64 (c + 1) = c + 1 := by unfold wrap64; omega
      have e5 : bump s.N p = s.N.set p (c + 1) := by unfold bump; rw [hc, hw]
      have hg : s1.N.getD p 0 = c + 1 := by
        rw [e2', e5, List.getD_eq_getElem?_getD, List.getElem?_append_left (by simpa using hp), List.getElem?_set_self hp]; rfl
      have hll : s.r.l.length = 4 + bs1.length + s1.r.l.length := by rw [b2, e1', List.length_append, List.length_append, b1]; omega
      obtain ⟨r2, m, bs2, N2, T2, f1, f2, f3, f4, f5⟩ := star_rt hR p k s1 s' (c + 1) r1 (by rw [e2', e5, List.length_append, List.length_set]; omega) hg (by omega) (by omega) h2
      refine ⟨r2, m + 1, bs ++ (bs1 ++ bs2), N1 ++ N2, T1 ++ T2, ?_, ?_, ?_, by simp; omega, ?_⟩
      · rw [b2, e1', f1]; simp
      · rw [f2, e2', e5, List.set_append_left _ _ (by simpa using hp), List.set_set, List.append_assoc]
        congr 2
        omega
      · have e3' : s1.T = s.T ++ T1 := e3
        rw [f3, e3', List.append_assoc]
      · intro N T u C D hN hT hs
        simp only [List.length_append] at hs
        show (layFirst N T arms (u.put 4 (be 1 4))).bind (iter _ m) = _
        rw [put_in _ _ _ (be_length 1 4) (by omega)]
        have := (e4.then f5) N T ⟨u.out ++ be 1 4, u.n, u.t, u.size + (be 1 4).length⟩ C D hN hT (by simp only [List.length_append, be_length]; omega)
        refine this.trans ?_
        rw [hbs]
        simp only [List.length_append, List.append_assoc, Nat.add_assoc]
    · rename_i hb
      split at h
      · rename_i hbe
        injection h with h
        subst h
        obtain ⟨bs, l, b1, b2, b3, b4⟩ := bool_ok he hbe
        have hn0 : num bs = 0 := by
          rcases b4 with b4 | b4
          · exact b4
          · rw [b3, b4] at hb; exact absurd rfl hb
        have hbs : be 0 4 = bs := by rw [← hn0]; exact (num_4 bs b1).2.2
        refine ⟨by rw [b3], 0, [], [], [], ?_, ?_, ?_, Nat.le_refl _, ?_⟩
        · rw [hbs, b2, b3]; rfl
        · show s.N = s.N.set p (c + ((0 : Nat) : Int)) ++ []
          rw [List.append_nil, show c + ((0 : Nat) : Int) = c by omega, ← hc]
          apply List.ext_getElem?
          intro i
          by_cases e : p = i
          · subst e; rw [List.getElem?_set_self hp, List.getD_eq_getElem?_getD, List.getElem?_eq_getElem hp]; rfl
          · rw [List.getElem?_set_ne e]
        · show s.T = s.T ++ []
          rw [List.append_nil]
        · intro N T u C D hN hT hs
          show some u = _
          simp
      · cases h

mutual
theorem tkOne_rt : ∀ (x : S77), okS x = true → nokS x = true → Rt (tkOne x) (fun N T u => layOne N T x u)
  | .mk k n arms, hok, hno => by
    rw [okS] at hok
    simp only [Bool.and_eq_true] at hok
    obtain ⟨⟨⟨ok0, ok1⟩, ok2⟩, okA'⟩ := hok
    rw [nokS] at hno
    simp only [Bool.and_eq_true, decide_eq_true_eq] at hno
    obtain ⟨⟨no0, no1⟩, noA⟩ := hno
    have HA := tkFirst_rt arms okA' noA
    have HP := tkPick_rt arms okA' noA
    intro s s' he hbd h
    rw [tkOne] at h
    by_cases k1 : k = 117
    · rw [if_pos k1] at h
      obtain ⟨a, rfl⟩ := num_ok h
      obtain ⟨bs, l, b1, b2, b3⟩ := uint_ok he a
      have hn := num_4 bs b1
      refine ⟨by rw [b3], bs, [num bs], [], by rw [b3]; exact b2, by rw [b3], (List.append_nil _).symm, ?_⟩
      have := Lays.map_num hn.1 hn.2.1 b1 hn.2.2
      intro N T u C D hN hT hs
      show layOne N T (.mk k n arms) u = _
      rw [layOne, if_pos k1]; exact this N T u C D hN hT hs
    rw [if_neg k1] at h
    by_cases k2 : k = 113
    · rw [if_pos k2] at h
      obtain ⟨a, rfl⟩ := num_ok h
      obtain ⟨bs, l, b1, b2, b3⟩ := hyper_ok he a
      have hn := num_8 bs b1
      refine ⟨by rw [b3], bs, [num bs], [], by rw [b3]; exact b2, by rw [b3], (List.append_nil _).symm, ?_⟩
      have := Lays.map_num hn.1 hn.2.1 b1 hn.2.2
      intro N T u C D hN hT hs
      show layOne N T (.mk k n arms) u = _
      rw [layOne, if_neg k1, if_pos k2]; exact this N T u C D hN hT hs
    rw [if_neg k2] at h
    by_cases k3 : k = 98
    · rw [if_pos k3] at h
      obtain ⟨a, rfl⟩ := num_ok h
      obtain ⟨bs, l, b1, b2, b3, b4⟩ := bool_ok he a
      have hn := num_4 bs b1
      have hbit : bitI (num bs == 1) = num bs := by
        rcases b4 with b4 | b4 <;> rw [b4] <;> rfl
      refine ⟨by rw [b3], bs, [num bs], [], by rw [b3]; exact b2, by rw [b3]; show s.N ++ [bitI (num bs == 1)] = _; rw [hbit], (List.append_nil _).symm, ?_⟩
      have := Lays.map_num (lo := 0) (hi := 1) hn.1 (by omega) b1 hn.2.2
      intro N T u C D hN hT hs
      show layOne N T (.mk k n arms) u = _
      rw [layOne, if_neg k1, if_neg k2, if_pos k3]; exact this N T u C D hN hT hs
    rw [if_neg k3] at h
    by_cases k4 : k = 111
    · rw [if_pos k4] at h
      obtain ⟨a, rfl⟩ := txt_ok h
      obtain ⟨x, l, b1, b2, b3⟩ := opq_ok no0 he a
      have hx : (⟨x.toArray⟩ : ByteArray).size = x.length := by simp [ByteArray.size]
      refine ⟨by rw [b3], be x.length 4 ++ fixB x, [], [⟨x.toArray⟩], by rw [b3]; exact b2, (List.append_nil _).symm, by rw [b3], ?_⟩
      have := Lays.txt (lo := 0) (hi := n) (x := ⟨x.toArray⟩) (K := fun y => 4 + y.size + padN y.size) (G := fun y => be y.size 4 ++ fixB y.data.toList) (bs := be x.length 4 ++ fixB x) (by omega) (by rw [hx]; exact b1) (by show be ((⟨x.toArray⟩ : ByteArray).size : Int) 4 ++ _ = _; rw [hx]) (by show _ = 4 + (⟨x.toArray⟩ : ByteArray).size + padN (⟨x.toArray⟩ : ByteArray).size; rw [hx, List.length_append, be_length, fixB_length]; omega)
      intro N T u C D hN hT hs
      show layOne N T (.mk k n arms) u = _
      rw [layOne, if_neg k1, if_neg k2, if_neg k3, if_pos k4]; exact this N T u C D hN hT hs
    rw [if_neg k4] at h
    by_cases k5 : k = 102
    · rw [if_pos k5] at h
      obtain ⟨a, rfl⟩ := txt_ok h
      obtain ⟨x, l, b1, b2, b3⟩ := fixed_ok he a
      have hx : (⟨x.toArray⟩ : ByteArray).size = x.length := by simp [ByteArray.size]
      refine ⟨by rw [b3], fixB x, [], [⟨x.toArray⟩], by rw [b3]; exact b2, (List.append_nil _).symm, by rw [b3], ?_⟩
      have := Lays.txt (lo := n) (hi := n) (x := ⟨x.toArray⟩) (K := fun y => y.size + padN y.size) (G := fun y => fixB y.data.toList) (bs := fixB x) (by omega) (by omega) rfl (by show _ = (⟨x.toArray⟩ : ByteArray).size + padN (⟨x.toArray⟩ : ByteArray).size; rw [hx, fixB_length])
      intro N T u C D hN hT hs
      show layOne N T (.mk k n arms) u = _
      rw [layOne, if_neg k1, if_neg k2, if_neg k3, if_neg k4, if_pos k5]; exact this N T u C D hN hT hs
    rw [if_neg k5] at h
    by_cases k6 : k = 63
    · rw [if_pos k6] at h
      obtain ⟨s1, h1, h2⟩ := TR.then_some h
      obtain ⟨a, rfl⟩ := num_ok h1
      obtain ⟨bs, l, b1, b2, b3, b4⟩ := bool_ok he a
      have hn := num_4 bs b1
      have hbit : bitI (num bs == 1) = num bs := by
        rcases b4 with b4 | b4 <;> rw [b4] <;> rfl
      rw [b3] at h2
      have hlay : ∀ (y : Int) (N : List Int) (T : List ByteArray) (u : LP), layOne N T (.mk k n arms) u = (u.num N 0 1).bind fun p => (fun y N T u => if y = 1 then layFirst N T arms u else some u) p.1 N T (p.2.put 4 (be p.1 4)) := fun y N T u => by
        rw [layOne, if_neg k1, if_neg k2, if_neg k3, if_neg k4, if_neg k5, if_pos k6]
      rcases b4 with b4 | b4
      · rw [if_neg (by show ¬ ((num bs == 1) = true); rw [b4]; decide)] at h2
        injection h2 with h2
        subst h2
        refine ⟨rfl, bs, [num bs], [], b2, by show s.N ++ [bitI (num bs == 1)] = _; rw [hbit], (List.append_nil _).symm, ?_⟩
        have := Lays.num (F := fun y N T u => if y = 1 then layFirst N T arms u else some u) (lo := 0) (hi := 1) (b2 := []) (N2 := []) (T2 := []) hn.1 (by omega) b1 hn.2.2 (by intro N T u C D _ _ _; show (if num bs = 1 then _ else some u) = _; rw [if_neg (by omega)]; simp)
        rw [List.append_nil] at this
        intro N T u C D hN hT hs
        show layOne N T (.mk k n arms) u = _
        rw [hlay 0]; exact this N T u C D hN hT hs
      · rw [if_pos (by show (num bs == 1) = true; rw [b4]; decide)] at h2
        obtain ⟨r1, bs1, N1, T1, e1, e2, e3, e4⟩ := HA _ s' rfl (by show l.length ≤ _; rw [b2, List.length_append] at hbd; omega) h2
        have e1' : l = bs1 ++ s'.r.l := e1
        have e2' : s'.N = (s.N ++ [bitI (num bs == 1)]) ++ N1 := e2
        have e3' : s'.T = s.T ++ T1 := e3
        refine ⟨r1, bs ++ bs1, num bs :: N1, T1, by rw [b2, e1', List.append_assoc], by rw [e2', hbit]; simp, e3', ?_⟩
        have := Lays.num (F := fun y N T u => if y = 1 then layFirst N T arms u else some u) (lo := 0) (hi := 1) (b2 := bs1) (N2 := N1) (T2 := T1) hn.1 (by omega) b1 hn.2.2 (by intro N T u C D q1 q2 q3; show (if num bs = 1 then layFirst N T arms u else some u) = _; rw [if_pos b4]; exact e4 N T u C D q1 q2 q3)
        intro N T u C D hN hT hs
        show layOne N T (.mk k n arms) u = _
        rw [hlay 0]; exact this N T u C D hN hT hs
    rw [if_neg k6] at h
    by_cases k7 : k = 42
    · rw [if_pos k7] at h
      obtain ⟨s1, h1, h2⟩ := TR.then_some h
      obtain ⟨a, rfl⟩ := num_ok h1
      obtain ⟨r1, m, bs1, N1, T1, e1, e2, e3, e5, e4⟩ := star_rt HA s.N.length (s.r.l.length + 1) ⟨s.r, s.N ++ [0], s.T⟩ s' 0 he (by simp) (by simp) (by omega) (by show (0 : Int) + (s.r.l.length : Int) ≤ _; omega) h2
      have e1' : s.r.l = bs1 ++ be 0 4 ++ s'.r.l := e1
      have e2' : s'.N = (s.N ++ [0]).set s.N.length (0 + (m : Int)) ++ N1 := e2
      have e3' : s'.T = s.T ++ T1 := e3
      refine ⟨r1, bs1 ++ be 0 4, (m : Int) :: N1, T1, e1', ?_, e3', ?_⟩
      · rw [e2', List.set_append_right _ _ (Nat.le_refl _)]
        simp
      · intro N T u C D hN hT hs
        rw [List.length_append, be_length] at hs
        show layOne N T (.mk k n arms) u = _
        rw [layOne, if_neg k1, if_neg k2, if_neg k3, if_neg k4, if_neg k5, if_neg k6, if_pos k7]
        have g1 : u.num N 0 9223372036854775807 = some ((m : Int), { u with n := u.n + 1 }) := by
          unfold LP.num; rw [at_of (by simpa using hN), Option.bind_some, if_pos ⟨by omega, by omega⟩]
        rw [g1, Option.bind_some]
        show (iter _ ((m : Int).toNat) { u with n := u.n + 1 }).map _ = _
        have hN' : N.drop (u.n + 1) = N1 ++ C := drop_of (a := [(m : Int)]) (by simpa using hN)
        have g2 : iter (fun s => layFirst N T arms (s.put 4 (be 1 4))) m { u with n := u.n + 1 } = _ := e4 N T { u with n := u.n + 1 } C D hN' hT (by show u.size + bs1.length ≤ _; omega)
        rw [Int.toNat_natCast, g2, Option.map_some, put_in _ _ _ (be_length 0 4) (by show u.size + bs1.length + 4 ≤ _; omega)]
        simp only [List.length_append, List.append_assoc, Nat.add_assoc, List.length_cons, Nat.add_comm 1]
    rw [if_neg k7] at h
    by_cases k8 : k = 60
    · rw [if_pos k8] at h
      obtain ⟨s1, h1, h2⟩ := TR.then_some h
      obtain ⟨a, rfl⟩ := num_ok h1
      obtain ⟨bs, l, b1, b2, b3⟩ := uint_ok he a
      have hn := num_4 bs b1
      rw [b3] at h2
      obtain ⟨r1, bs1, N1, T1, e1, e2, e3, e4⟩ := HP (num bs) _ s' rfl (by show l.length ≤ _; rw [b2, List.length_append] at hbd; omega) h2
      have e1' : l = bs1 ++ s'.r.l := e1
      have e2' : s'.N = (s.N ++ [num bs]) ++ N1 := e2
      have e3' : s'.T = s.T ++ T1 := e3
      refine ⟨r1, bs ++ bs1, num bs :: N1, T1, by rw [b2, e1', List.append_assoc], by rw [e2']; simp, e3', ?_⟩
      have := Lays.num (F := fun y N T u => layPick N T arms y u) hn.1 hn.2.1 b1 hn.2.2 e4
      intro N T u C D hN hT hs
      show layOne N T (.mk k n arms) u = _
      rw [layOne, if_neg k1, if_neg k2, if_neg k3, if_neg k4, if_neg k5, if_neg k6, if_neg k7, if_pos k8]; exact this N T u C D hN hT hs
    rw [if_neg k8] at h
    injection h with h
    subst h
    refine ⟨he, [], [], [], rfl, (List.append_nil _).symm, (List.append_nil _).symm, ?_⟩
    intro N T u C D hN hT hs
    show layOne N T (.mk k n arms) u = _
    rw [layOne, if_neg k1, if_neg k2, if_neg k3, if_neg k4, if_neg k5, if_neg k6, if_neg k7, if_neg k8]; simp
theorem tkL_rt : ∀ (l : List S77), okL l = true → nokL l = true → Rt (tkL l) (fun N T u => layL N T l u)
  | [], _, _ => by
    intro s s' he hbd h
    rw [tkL] at h
    injection h with h
    subst h
    refine ⟨he, [], [], [], rfl, (List.append_nil _).symm, (List.append_nil _).symm, ?_⟩
    intro N T u C D hN hT hs
    show layL N T [] u = _
    rw [layL]; simp
  | x :: r, hok, hno => by
    replace hok := okL_cons hok
    rw [nokL, Bool.and_eq_true] at hno
    intro s s' he hbd h
    rw [tkL] at h
    obtain ⟨s1, h1, h2⟩ := TR.then_some h
    obtain ⟨r1, bs1, N1, T1, e1, e2, e3, e4⟩ := tkOne_rt x hok.1 hno.1 s s1 he hbd h1
    obtain ⟨r2, bs2, N2, T2, f1, f2, f3, f4⟩ := tkL_rt r hok.2 hno.2 s1 s' r1 (by rw [e1, List.length_append] at hbd; omega) h2
    refine ⟨r2, bs1 ++ bs2, N1 ++ N2, T1 ++ T2, by rw [e1, f1, List.append_assoc], by rw [f2, e2, List.append_assoc], by rw [f3, e3, List.append_assoc], ?_⟩
    have := e4.then f4
    intro N T u C D hN hT hs
    show layL N T (x :: r) u = _
    rw [layL]; exact this N T u C D hN hT hs
theorem tkFirst_rt : ∀ (l : List S84), okA l = true → nokA l = true → Rt (tkFirst l) (fun N T u => layFirst N T l u)
  | [], _, _ => by
    intro s s' he hbd h
    rw [tkFirst] at h
    cases h
  | .mk ka aa f :: r, hok, hno => by
    replace hok := okA_cons hok
    rw [nokA, Bool.and_eq_true] at hno
    intro s s' he hbd h
    rw [tkFirst] at h
    obtain ⟨r1, bs1, N1, T1, e1, e2, e3, e4⟩ := tkL_rt f hok.1 hno.1 s s' he hbd h
    refine ⟨r1, bs1, N1, T1, e1, e2, e3, ?_⟩
    intro N T u C D hN hT hs
    show layFirst N T (.mk ka aa f :: r) u = _
    rw [layFirst]; exact e4 N T u C D hN hT hs
theorem tkPick_rt : ∀ (l : List S84), okA l = true → nokA l = true → ∀ x : Int, Rt (tkPick l x) (fun N T u => layPick N T l x u)
  | [], _, _ => by
    intro x s s' he hbd h
    rw [tkPick] at h
    cases h
  | .mk ka aa f :: r, hok, hno => by
    replace hok := okA_cons hok
    rw [nokA, Bool.and_eq_true] at hno
    intro x s s' he hbd h
    rw [tkPick] at h
    by_cases hc : aa = true ∨ ka = x
    · rw [if_pos hc] at h
      obtain ⟨r1, bs1, N1, T1, e1, e2, e3, e4⟩ := tkL_rt f hok.1 hno.1 s s' he hbd h
      refine ⟨r1, bs1, N1, T1, e1, e2, e3, ?_⟩
      intro N T u C D hN hT hs
      show layPick N T (.mk ka aa f :: r) x u = _
      rw [layPick, if_pos hc]; exact e4 N T u C D hN hT hs
    · rw [if_neg hc] at h
      obtain ⟨r1, bs1, N1, T1, e1, e2, e3, e4⟩ := tkPick_rt r hok.2 hno.2 x s s' he hbd h
      refine ⟨r1, bs1, N1, T1, e1, e2, e3, ?_⟩
      intro N T u C D hN hT hs
      show layPick N T (.mk ka aa f :: r) x u = _
      rw [layPick, if_neg hc]; exact e4 N T u C D hN hT hs
end
end Go.Proofs.YtgfljlbecafipaaGreatDoor.Xw
