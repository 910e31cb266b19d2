/- An error with nothing to tell: its bytes, and its value, plainly. -/
import Derived.Test.YtgfljlbecafipaaGreatDoorMf
namespace Go.Proofs.YtgfljlbecafipaaGreatDoor.Xw
open Go.RowKit Go.Lib Go.Proofs.YtgfljlbecafipaaGreatDoor.PA Go.Proofs.YtgfljlbecafipaaGreatDoorW.PrintWords Go.Proofs.YtgfljlbecafipaaGreatDoorW.PrintLast Go.Proofs.YtgfljlbecafipaaGreatDoorW.PrintMore
set_option linter.unusedVariables false
set_option linter.unusedSimpArgs false

theorem num4_val (a b c d : UInt8) : num [a, b, c, d] = ((a.toNat * 256 + b.toNat) * 256 + c.toNat) * 256 + d.toNat := by
  have ha := a.toNat_lt
  have hb := b.toNat_lt
  have hc := c.toNat_lt
  have hd := d.toNat_lt
  have e : num [a, b, c, d] = stp (stp (stp (stp 0 a) b) c) d := by unfold num; exact fold4 stp 0 a b c d
  obtain ⟨x1, h1⟩ : ∃ x, x = stp 0 a := ⟨_, rfl⟩
  rw [← h1] at e
  rw [stp_small (by omega) (by omega)] at h1
  obtain ⟨x2, h2⟩ : ∃ x, x = stp x1 b := ⟨_, rfl⟩
  rw [← h2] at e
  rw [stp_small (by omega) (by omega)] at h2
  obtain ⟨x3, h3⟩ : ∃ x, x = stp x2 c := ⟨_, rfl⟩
  rw [← h3] at e
  rw [stp_small (by omega) (by omega)] at h3
  rw [stp_small (by omega) (by omega)] at e
  rw [e, h3, h2, h1]
  omega
theorem div_pow4 (y : Int) (k : Nat) : y / (256 : Int) ^ (k + 1) = y / (256 : Int) ^ k / 256 := by
  rw [Int.pow_succ, Int.ediv_ediv_of_nonneg (Int.le_of_lt (Int.pow_pos (by decide)))]
theorem be4 (y : Int) : be y 4 = [UInt8.ofNat (y / 256 / 256 / 256 % 256).toNat, UInt8.ofNat (y / 256 / 256 % 256).toNat, UInt8.ofNat (y / 256 % 256).toNat, UInt8.ofNat (y % 256).toNat] := by
  have q0 : y / (256 : Int) ^ 0 = y := by rw [Int.pow_zero, Int.ediv_one]
  have q1 := div_pow4 y 0
  rw [q0] at q1
  have q2 := div_pow4 y 1
  rw [q1] at q2
  have q3 := div_pow4 y 2
  rw [q2] at q3
  rw [be, be, be, be, be, q0, q1, q2, q3]
theorem byte_nat (x : Int) : ((UInt8.ofNat (x % 256).toNat).toNat : Int) = x % 256 := by
  rw [UInt8.toNat_ofNat']
  omega
theorem num_be (y : Int) (h0 : 0 ≤ y) (h1 : y < 4294967296) : num (be y 4) = y := by
  rw [be4, num4_val]
  have a := byte_nat (y / 256 / 256 / 256)
  have b := byte_nat (y / 256 / 256)
  have c := byte_nat (y / 256)
  have d := byte_nat y
  rw [a, b, c, d]
  omega

def qs (ws : List S77) : Bool := ws.all fun x => x.f0 == 63
theorem be0 : be 0 4 = List.replicate 4 0 := by decide
theorem zeros_add (m : Nat) : List.replicate 4 (0 : UInt8) ++ List.replicate (4 * m) 0 = List.replicate (4 * (m + 1)) 0 := by
  rw [List.replicate_append_replicate]; congr 1; omega
theorem lay_qs (N : List Int) (T : List ByteArray) : ∀ (ws : List S77) (u : LP) (k : Nat), qs ws = true → N.drop u.n = List.replicate k 0 → u.size + 4 * ws.length ≤ 65536 →
    layL N T ws u = if ws.length ≤ k then some ⟨u.out ++ List.replicate (4 * ws.length) 0, u.n + ws.length, u.t, u.size + 4 * ws.length⟩ else none
  | [], u, k, _, _, _ => by rw [layL, if_pos (show ([] : List S77).length ≤ k from Nat.zero_le _)]; simp
  | .mk kd n arms :: r, u, k, hq, hN, hs => by
    have hq' : (kd == 63) = true ∧ qs r = true := by
      unfold qs at hq ⊢
      rw [List.all_cons, Bool.and_eq_true] at hq
      exact hq
    have hk : kd = 63 := by simpa using hq'.1
    subst hk
    rw [List.length_cons] at hs ⊢
    cases k with
    | zero =>
      rw [if_neg (by omega)]
      have h0 : u.num N 0 1 = none := by
        unfold LP.num
        have : N[u.n]? = none := by
          have h := congrArg List.length hN
          simp at h
          exact List.getElem?_eq_none (by omega)
        rw [this]; rfl
      rw [layL, one_m_none h0]; rfl
    | succ k =>
      have h0 : u.num N 0 1 = some (0, { u with n := u.n + 1 }) := by
        unfold LP.num
        rw [at_of (b := List.replicate k 0) (x := 0) (by rw [hN]; rfl), Option.bind_some, if_pos ⟨by decide, by decide⟩]
      have hone : layOne N T (.mk 63 n arms) u = some (LP.put { u with n := u.n + 1 } 4 (be 0 4)) := by
        rw [layOne, if_neg (by decide), if_neg (by decide), if_neg (by decide), if_neg (by decide), if_neg (by decide), if_pos rfl, h0, Option.bind_some]
        show (if (0 : Int) = 1 then _ else _) = _
        rw [if_neg (by decide)]
      have hN' : N.drop (u.n + 1) = List.replicate k 0 := drop_of (a := [0]) (by rw [hN]; rfl)
      rw [layL, hone, Option.bind_some, put_in _ _ _ (be_length 0 4) (by show u.size + 4 ≤ _; omega)]
      rw [lay_qs N T r ⟨u.out ++ be 0 4, u.n + 1, u.t, u.size + (be 0 4).length⟩ k hq'.2 hN' (by rw [be_length]; show u.size + 4 + _ ≤ _; omega)]
      by_cases hr : r.length ≤ k
      · rw [if_pos hr, if_pos (by omega)]
        simp only [be_length, List.append_assoc]
        rw [be0, zeros_add]
        congr 2
        · omega
        · omega
      · rw [if_neg hr, if_neg (by omega)]

theorem bool_zero (l : List UInt8) : (⟨List.replicate 4 0 ++ l, 0⟩ : RP).bool = (false, ⟨l, 0⟩) := by
  have hn : num (List.replicate 4 0) = 0 := by rw [← be0]; exact num_be 0 (by decide) (by decide)
  have hu : (⟨List.replicate 4 0 ++ l, 0⟩ : RP).uint = (0, ⟨l, 0⟩) := by
    unfold RP.uint RP.tk
    rw [if_pos rfl, if_neg (by simp)]
    show (num ((List.replicate 4 0 ++ l).take 4), (⟨(List.replicate 4 0 ++ l).drop 4, 0⟩ : RP)) = _
    rw [show (List.replicate 4 (0 : UInt8) ++ l).take 4 = List.replicate 4 0 from rfl, hn]
    rfl
  unfold RP.bool
  rw [hu]
  rfl
theorem tk_qs : ∀ (ws : List S77) (s : TP) (l : List UInt8), qs ws = true → s.r = ⟨List.replicate (4 * ws.length) 0 ++ l, 0⟩ → tkL ws s = .ok ⟨⟨l, 0⟩, s.N ++ List.replicate ws.length 0, s.T⟩
  | [], s, l, _, hr => by
    rw [tkL]
    obtain ⟨r, N, T⟩ := s
    simp only at hr
    subst hr
    simp
  | .mk kd n arms :: r, s, l, hq, hr => by
    have hq' : (kd == 63) = true ∧ qs r = true := by
      unfold qs at hq ⊢
      rw [List.all_cons, Bool.and_eq_true] at hq
      exact hq
    have hk : kd = 63 := by simpa using hq'.1
    subst hk
    rw [List.length_cons, ← zeros_add, List.append_assoc] at hr
    have hb := bool_zero (List.replicate (4 * r.length) 0 ++ l)
    rw [← hr] at hb
    have hone : tkOne (.mk 63 n arms) s = .ok ⟨⟨List.replicate (4 * r.length) 0 ++ l, 0⟩, s.N ++ [0], s.T⟩ := by
      rw [tkOne, if_neg (by decide), if_neg (by decide), if_neg (by decide), if_neg (by decide), if_neg (by decide), if_pos rfl, hb]
      unfold TP.num
      rw [if_pos (.inl rfl), TR.then_ok, if_neg (by show ¬ ((false : Bool) = true); decide)]
      rfl
    rw [tkL, hone, TR.then_ok, tk_qs r _ l hq'.2 rfl]
    rw [List.length_cons, List.append_assoc, List.replicate_succ]
    rfl

/-- a form whose error tells but flags -/
structure ErrF (l : ByteArray) (m : Nat) where
  n : Int
  f0 : List S77
  k1 : Int
  ws : List S77
  parse : PA.schema_parse.f 200 l = some ([.mk 60 n [.mk 0 false f0, .mk k1 true ws]], 0)
  q : qs ws = true
  len : ws.length = m
  le : m ≤ 4
def errF (l : ByteArray) : Bool := match PA.schema_parse.f 200 l with
  | some ([.mk kd n [.mk k0 a0 f0, .mk k1 a1 ws]], r) => kd == 60 && k0 == 0 && !a0 && a1 && r == 0 && qs ws && decide (ws.length ≤ 4)
  | _ => false
theorem errF_of {l : ByteArray} (h : errF l = true) : ∃ m, Nonempty (ErrF l m) := by
  unfold errF at h
  split at h
  · rename_i kd n k0 a0 f0 k1 a1 ws r hr
    simp only [Bool.and_eq_true, decide_eq_true_eq, beq_iff_eq, Bool.not_eq_true'] at h
    obtain ⟨⟨⟨⟨⟨⟨rfl, rfl⟩, rfl⟩, rfl⟩, rfl⟩, h1⟩, h2⟩ := h
    exact ⟨ws.length, ⟨⟨n, f0, k1, ws, hr, h1, rfl, h2⟩⟩⟩
  · cases h
theorem errs_good (p : Int) (h1 : 1 ≤ p) (h2 : p < 22) : errF ⟨(Mo.ofF 100003 p).2.1.toArray⟩ = true := by
  obtain ⟨n, rfl⟩ : ∃ n : Nat, p = n := ⟨p.toNat, by omega⟩
  have hb := (List.all_eq_true.1 (show ((List.range 22).all fun n => decide (n = 0) || errF ⟨(Mo.ofF 100003 n).2.1.toArray⟩) = true by kernel_rfl)) n (List.mem_range.2 (by omega))
  have h0 : decide (n = 0) = false := decide_eq_false (by omega)
  rw [h0, Bool.false_or] at hb
  exact hb

abbrev errX (n : Int) (f0 : List S77) (k1 : Int) (ws : List S77) : List S77 := [.mk 60 n [.mk 0 false f0, .mk k1 true ws]]
theorem pick_err (f0 : List S77) (k1 : Int) (ws : List S77) (y : Int) (hy : y ≠ 0) : pickF [.mk 0 false f0, .mk k1 true ws] y = some ws := by
  rw [pickF, if_neg (by show ¬ (false = true ∨ (0 : Int) = y); simp; omega), pickF, if_pos (.inl rfl)]
theorem enc_err (n : Int) (f0 : List S77) (k1 : Int) (ws : List S77) (st : Int) (h1 : 1 ≤ st) (h2 : st < 4294967296) (hq : qs ws = true) (hl : ws.length ≤ 4) (i : Nat) (hi : i ≤ ws.length) :
    enc (st :: List.replicate i 0) [] (errX n f0 k1 ws) = if i = ws.length then (⟨(be st 4 ++ List.replicate (4 * ws.length) 0).toArray⟩, 0) else (⟨#[]⟩, 4) := by
  have h0 : lp0.num (st :: List.replicate i 0) 0 4294967295 = some (st, { lp0 with n := 1 }) := by
    unfold LP.num lp0
    show (some st).bind _ = _
    rw [Option.bind_some, if_pos ⟨by omega, by omega⟩]
  have hlay : layL (st :: List.replicate i 0) [] (errX n f0 k1 ws) lp0 = if ws.length ≤ i then some ⟨be st 4 ++ List.replicate (4 * ws.length) 0, 1 + ws.length, 0, 4 + 4 * ws.length⟩ else none := by
    rw [layL, one_p h0, pick_err f0 k1 ws st (by omega), Option.bind_some, put_in _ _ _ (be_length st 4) (by show 0 + 4 ≤ _; omega)]
    have := lay_qs (st :: List.replicate i 0) [] ws ⟨lp0.out ++ be st 4, 1, 0, 0 + (be st 4).length⟩ i hq rfl (by rw [be_length]; show 0 + 4 + _ ≤ _; omega)
    show (layL _ _ ws ⟨lp0.out ++ be st 4, 1, 0, 0 + (be st 4).length⟩).bind _ = _
    rw [this]
    split
    · rw [Option.bind_some, layL, be_length]; rfl
    · rfl
  unfold enc
  rw [hlay]
  by_cases he : i = ws.length
  · rw [if_pos (by omega), if_pos he]
    simp only [List.length_cons, List.length_replicate, List.length_nil]
    rw [if_neg (by omega), if_neg (by omega)]
  · rw [if_neg (by omega), if_neg he]
theorem dec_err (n : Int) (f0 : List S77) (k1 : Int) (ws : List S77) (st : Int) (h1 : 1 ≤ st) (h2 : st < 4294967296) (hq : qs ws = true) (hl : ws.length ≤ 4) :
    dec (errX n f0 k1 ws) (be st 4 ++ List.replicate (4 * ws.length) 0) = ((st :: List.replicate ws.length 0, []), 0) := by
  have hu : (⟨be st 4 ++ List.replicate (4 * ws.length) 0, 0⟩ : RP).uint = (st, ⟨List.replicate (4 * ws.length) 0, 0⟩) := by
    unfold RP.uint RP.tk
    rw [if_pos rfl, if_neg (by rw [List.length_append, be_length]; omega)]
    show (num ((be st 4 ++ List.replicate (4 * ws.length) 0).take 4), (⟨(be st 4 ++ List.replicate (4 * ws.length) 0).drop 4, 0⟩ : RP)) = _
    rw [List.take_left' (be_length st 4), List.drop_left' (be_length st 4), num_be st (by omega) h2]
  have ht : tkL (errX n f0 k1 ws) ⟨⟨be st 4 ++ List.replicate (4 * ws.length) 0, 0⟩, [], []⟩ = .ok ⟨⟨[], 0⟩, st :: List.replicate ws.length 0, []⟩ := by
    rw [tkL, tkOne, if_neg (by decide), if_neg (by decide), if_neg (by decide), if_neg (by decide), if_neg (by decide), if_neg (by decide), if_neg (by decide), if_pos rfl]
    show TR.then (TR.then (TP.num _ (RP.uint ⟨be st 4 ++ List.replicate (4 * ws.length) 0, 0⟩).1 (RP.uint ⟨be st 4 ++ List.replicate (4 * ws.length) 0, 0⟩).2) _) _ = _
    rw [hu]
    unfold TP.num
    rw [if_pos (.inl rfl), TR.then_ok]
    show TR.then (tkPick _ st _) _ = _
    rw [tkPick_is, pick_err f0 k1 ws st (by omega)]
    show TR.then (tkL ws _) _ = _
    rw [tk_qs ws _ [] hq (by rw [List.append_nil])]
    rw [TR.then_ok, tkL]
    rfl
  unfold dec
  rw [if_neg (by rw [List.length_append, be_length, List.length_replicate]; omega), ht]
  rfl
end Go.Proofs.YtgfljlbecafipaaGreatDoor.Xw
