/- The walk of the law AuditPace. -/
import Derived.Test.YtelfachmfcjpoaaEA
import Derived.Deep.QuietTactic
import Derived.BigQuiet
namespace Go.Proofs.Ytelfachmfcjpoaa.PA
open Go.RowKit Go.Proofs.YtelfachmfcjpoaaW.PrintWords Go.Proofs.YtelfachmfcjpoaaW.PrintLast Go.Proofs.YtelfachmfcjpoaaW.PrintMore
set_option linter.unusedVariables false
set_option linter.unusedSimpArgs false

def toA (x : S32) : S44 := ⟨x.f0, x.f1, x.f2, x.f3, x.f4, x.f5⟩
def toB (x : S32) : S46 := ⟨x.f0, x.f1, x.f2, x.f3, x.f4, x.f5, 0⟩

theorem rows_l0 (l : List S32) (hn : l.length ≤ 4194304) : ∀ (d k i : Nat) (x4 : List S44) (x5 : List S46), i + d = l.length → x4.length = i → x5.length = i → d < k →
    coraclelaw24_rows.l0 k l x4 x5 (i : Int) = some (x4 ++ (l.drop i).map toA, x5 ++ (l.drop i).map toB)
  | 0, k, i, x4, x5, h1, h2, h3, hk => by
    obtain ⟨k, rfl⟩ : ∃ m, k = m + 1 := ⟨k - 1, by omega⟩
    simp only [coraclelaw24_rows.l0]
    rw [if_neg (by omega), List.drop_eq_nil_of_le (by omega)]
    simp
  | d + 1, k, i, x4, x5, h1, h2, h3, hk => by
    obtain ⟨k, rfl⟩ : ∃ m, k = m + 1 := ⟨k - 1, by omega⟩
    have hlt : i < l.length := by omega
    simp only [coraclelaw24_rows.l0]
    rw [if_pos (by omega), if_pos (by omega), if_pos (by omega), if_pos (by omega)]
    have hw : wrap64 ((i : Int) + 1) = ((i + 1 : Nat) : Int) := by unfold wrap64; omega
    rw [hw, rows_l0 l hn d k (i + 1) _ _ (by omega) (by simp [h2]) (by simp [h3]) (by omega)]
    have hd : l.drop i = rd_T32 l i :: l.drop (i + 1) := drop_rd hlt
    rw [hd]
    simp [toA, toB]
theorem rows_eq (l : List S32) (hn : l.length ≤ 4194304) : coraclelaw24_rows.f (l.length + 1) l = some (l.map toA, l.map toB) := by
  unfold coraclelaw24_rows.f
  have := rows_l0 l hn l.length (l.length + 1) 0 [] [] (by omega) rfl rfl (by omega)
  simpa using this

theorem same_eq (b : Nat) (w : World) : Calls Try.prog 10 #[.float .f64 b, .float .f64 b] w fun e w' => e = .returned (.bool true) ∧ Below w.heap.size w w' := by
  have h1 := f64bits_run
  cases hb : Fl.nanB b with
  | true =>
    have hx : (FloatKind.f64.format.order b b != some .eq) = true := hb
    go_enter Try.func10, Try.ntmps10
    go_wp2
    go_ret
    exact ⟨rfl, Below.refl _ _⟩
  | false =>
    have hx : (FloatKind.f64.format.order b b != some .eq) = false := hb
    go_enter Try.func10, Try.ntmps10
    go_wp2
    go_ret
    exact ⟨rfl, Below.refl _ _⟩

def lastInt : Option Nat → Int
  | none => -1
  | some i => (i : Int)

/-- how the law's own sum stands to the gaps that are left -/
def PaceInv (c : Int) (R : List S44) (k : Nat) (m s j : Value) : Prop :=
  ∃ (L : List Nat) (last : Option Nat), m = .int .i64 L.length ∧ s = .float .f64 (Fl.sumF L) ∧ j = .int .i64 (lastInt last) ∧ (∀ i, last = some i → i < k) ∧
    L ++ gapsFrom c (last.map fun i => R.getD i z44) (R.drop k) = gapsFrom c none R

theorem auditPace_calls (A : Option Addr) (n : Nat) (c : Int) (l : List S32) (w : World) (hr : k32.C w A l.length l) (hc : l.length ≤ n) (hn : l.length ≤ 4194304)
    (h64 : ∀ r ∈ l, Ok64 r.f1) :
    Calls Try.prog 3 #[.slice A l.length n, .int .i64 c] w fun e w' => e = .returned (.bool true) ∧ Below w.heap.size w w' := by
  have H64 := Lib.hid h64
  have HR := Lib.hid hr
  have HROWS := Lib.hid (rows_eq l hn)
  have hu := Try.underlying32
  obtain ⟨R, hR⟩ : ∃ R, R = l.map toA := ⟨_, rfl⟩
  have hRl : R.length = l.length := by rw [hR]; simp
  have HRL := Lib.hid hRl
  have hR64 : ∀ r ∈ R, Ok64 r.f1 := by rw [hR]; intro r hr; obtain ⟨x, hx, rfl⟩ := List.mem_map.1 hr; exact h64 x hx
  have HR64 := Lib.hid hR64
  have HG := Lib.hid (gapsFrom_good c R none hR64 (fun x h => by cases h))
  have hGl := gapsFrom_length c R none
  have HGL := Lib.hid hGl
  have HRd := Lib.hid hR
  clear hR hRl hR64 hGl h64 hr
  go_enter Try.func3, Try.ntmps3
  go_wp2_with (first
    | (go_at_call 7; refine (coraclelaw24_speaks.calls true _ rfl).mono ?_; rintro e w1 ⟨rfl, hb⟩; have HB1 := Aside0.mk hb; clear hb)
    | (go_at_call 8; refine (coraclelaw24_rows.calls _ A n l _ _ w1 (Kd.C_below HR.out HB1.out) hc HROWS.out).mono ?_; rintro e w2 ⟨v0, v1, rfl, hr0, hr1, hb⟩; obtain ⟨A2, c2, rfl, hc2, hC2⟩ := Kd.R_reads hr0; rw [← HRd.out] at hc2 hC2; have HB2 := Aside0.mk (below_step HB1.out hb); have HC2 := Aside0.mk hC2; clear hb hr0 hr1 hC2)
    | (go_at_call 9; have HP := pace_calls A2 c2 c R w2 HC2.out hc2 (by rw [HRL.out]; omega) HR64.out; rw [HRL.out] at HP; refine HP.mono ?_; clear HP; rintro e w3 ⟨⟨b, rfl, hb⟩, hbel⟩; have HB3 := Aside0.mk (below_step HB2.out hbel); have HMB := Aside0.mk hb; clear hbel hb))
  clear HB1 HB2 HC2 HROWS hc2
  generalize hGG : gapsFrom c none R = G at *
  have HGG := Lib.hid hGG
  clear hGG
  go_loopw [9, 10, 11, 12] (fun s m j i W => ∃ k : Nat, k ≤ l.length ∧ i = .int .i64 k ∧ Aside0 (PaceInv c R k m s j) ∧ Aside0 (Below w.heap.size w W)) (fun _ _ _ i _ => l.length - (intOf i).toNat)
  case atStart => exact ⟨0, Nat.zero_le _, rfl, ⟨⟨[], none, rfl, rfl, rfl, (fun i h => by cases h), (by simp)⟩⟩, HB3⟩
  case round =>
    rename_i wr
    obtain ⟨k, hk, rfl, HI, HB⟩ := hrel
    obtain ⟨L, last, rfl, rfl, rfl, hlast, hinv⟩ := HI.out
    clear HI HB3
    have HLen : Aside0 (L.length ≤ l.length) := ⟨by have h := congrArg List.length hinv; have h2 := HGL.out; rw [HRL.out] at h2; rw [HGG.out] at h; simp at h; omega⟩
    by_cases hlt : k < l.length
    · obtain ⟨ad, rfl, hc0, hc1, -, -, -, -⟩ := at_T32 HR.out k (by omega) (by omega)
      simp only [Int.toNat_natCast] at hc0 hc1
      replace hc0 := (HB.out.cell (World.block_lt_of_cell? w _ hc0)).trans hc0
      replace hc1 := (HB.out.cell (World.block_lt_of_cell? w _ hc1)).trans hc1
      obtain ⟨r, hrd⟩ : ∃ r, r = rd_T32 l k := ⟨_, rfl⟩
      rw [← hrd] at hc0 hc1
      have hRk : R.drop k = toA r :: R.drop (k + 1) := by
        have h := drop_rd (l := R) (d := z44) (k := k) (by rw [HRL.out]; exact hlt)
        rw [h]
        congr 1
        rw [HRd.out, hrd]
        show (l.map toA).getD k _ = toA (l.getD k _)
        simp [List.getD_eq_getElem?_getD, List.getElem?_eq_getElem hlt]
      have hRg : R.getD k z44 = toA r := by
        have h := drop_rd (l := R) (d := z44) (k := k) (by rw [HRL.out]; exact hlt)
        rw [hRk] at h
        injection h with h _
        exact h.symm
      rw [hRk] at hinv
      have HRg := Lib.hid hRg
      have HRr := Lib.hid hrd
      clear hRk hRg hrd
      by_cases hcl : r.f0 = c
      · have hb0 : (r.f0 != c) = false := by simp [hcl]
        cases last with
        | none =>
          have HI2 : Aside0 (PaceInv c R (k + 1) (.int .i64 L.length) (.float .f64 (Fl.sumF L)) (.int .i64 k)) :=
            ⟨L, some k, rfl, rfl, rfl, (fun i h => by injection h with h; omega), by
              rw [← hinv]
              simp only [Option.map_some, Option.map_none, HRg.out]
              rw [gapsFrom_none (show (toA r).f0 = c from hcl)]⟩
          clear hcl hinv hlast
          have hneg : decide ((-1 : Int) ≥ 0) = false := by decide
          simp only [lastInt]
          go_wp2
          go_roundw
          case rel => exact ⟨k + 1, by omega, by go_num, HI2, HB⟩
          case measure => simp [intOf]; omega
        | some j =>
          have hj := hlast j rfl
          obtain ⟨ad', ead, -, hd1, -, -, -, -⟩ := at_T32 HR.out j (by omega) (by omega)
          obtain rfl : ad = ad' := by injection ead
          simp only [Int.toNat_natCast] at hd1
          replace hd1 := (HB.out.cell (World.block_lt_of_cell? w _ hd1)).trans hd1
          obtain ⟨x, hx⟩ : ∃ x, x = rd_T32 l j := ⟨_, rfl⟩
          rw [← hx] at hd1
          have hRj : R.getD j z44 = toA x := by
            rw [HRd.out, hx]
            show (l.map toA).getD j _ = toA (l.getD j _)
            simp [List.getD_eq_getElem?_getD, List.getElem?_eq_getElem (show j < l.length by omega)]
          have hrm := H64.out r (by rw [HRr.out]; exact rd_mem hlt)
          have hxm := H64.out x (by rw [hx]; exact rd_mem (show j < l.length by omega))
          have hg := Fl.gap_ok r.f1 x.f1 hrm.1 hrm.2 hxm.1 hxm.2
          have hinv2 : (L ++ [Fl.gap r.f1 x.f1]) ++ gapsFrom c (some (toA r)) (R.drop (k + 1)) = gapsFrom c none R := by
            rw [← hinv]
            simp only [Option.map_some, hRj]
            rw [gapsFrom_some (show (toA r).f0 = c from hcl)]
            simp [toA]
          have hsub := fSub_run 28 _ _ _ hg.1
          have hadd := fAdd_run 28 _ _ _ (Fl.sumF_add L (Fl.gap r.f1 x.f1) (fun y hy => HG.out y (by rw [← HGG.out, ← hinv]; simp [hy])) hg.2)
          have HI2 : Aside0 (PaceInv c R (k + 1) (.int .i64 ((L.length : Int) + 1)) (.float .f64 (Fl.sumF (L ++ [Fl.gap r.f1 x.f1]))) (.int .i64 k)) :=
            ⟨L ++ [Fl.gap r.f1 x.f1], some k, by simp, rfl, rfl, (fun i h => by injection h with h; omega), by
              simp only [Option.map_some, HRg.out]; exact hinv2⟩
          clear hg hinv hinv2 hrm hxm hx hRj hlast hcl ead
          generalize Fl.sumF (L ++ [Fl.gap r.f1 x.f1]) = S1 at *
          generalize Fl.gap r.f1 x.f1 = gp at *
          generalize Fl.sumF L = S0 at *
          have hpos : decide ((j : Int) ≥ 0) = true := by simp
          have hk1 : (0 : Int) ≤ (k : Int) := by omega
          have hk2 : (k : Int) < (l.length : Int) := by omega
          have hj1 : (0 : Int) ≤ (j : Int) := by omega
          have hj2 : (j : Int) < (l.length : Int) := by omega
          simp only [lastInt]
          go_wp2_with fail
          go_quiet (fail)
          have hLen := HLen.out
          go_wp2
          go_roundw
          case rel => exact ⟨k + 1, by omega, by go_num, HI2, ⟨pw_below_drewN HB.out _⟩⟩
          case measure => simp [intOf]; omega
      · have hb0 : (r.f0 != c) = true := by simp [hcl]
        have HI2 : Aside0 (PaceInv c R (k + 1) (.int .i64 L.length) (.float .f64 (Fl.sumF L)) (.int .i64 (lastInt last))) :=
          ⟨L, last, rfl, rfl, rfl, (fun i h => by have := hlast i h; omega), by rw [← hinv, gapsFrom_ne (show ¬ (toA r).f0 = c from hcl)]⟩
        clear hcl hinv hlast
        go_wp2
        go_roundw
        case rel => exact ⟨k + 1, by omega, by go_num, HI2, HB⟩
        case measure => simp [intOf]; omega
    · obtain rfl : k = l.length := by omega
      obtain rfl : L = G := by rw [← HGG.out, ← hinv, List.drop_eq_nil_of_le (by rw [HRL.out]; exact Nat.le_refl _)]; cases last <;> simp [gapsFrom]
      clear hinv hlast
      rcases HMB.out with ⟨h0, hb⟩ | ⟨h0, hb⟩
      · subst h0
        have hz : (((([] : List Nat).length : Nat) : Int) == 0) = true := by decide
        have hx : (FloatKind.f64.format.order b b != some .eq) = true := hb
        go_wp2
        go_ret
        exact ⟨rfl, HB.out⟩
      · have hz : (((L.length : Nat) : Int) == 0) = false := by
          cases L with
          | nil => exact absurd rfl h0
          | cons => simp; omega
        have hd := fDiv_run 28 _ _ _ (Fl.meanF_ok L HG.out h0 (by have := HLen.out; omega)).1
        rw [← hb] at hd
        clear hb
        go_wp2_with (go_at_call 10; refine (same_eq _ _).mono ?_; rintro e w4 ⟨rfl, hb4⟩; have HB4 := Aside0.mk (below_step HB.out hb4); clear hb4)
        go_ret
        exact ⟨rfl, HB4.out⟩
end Go.Proofs.Ytelfachmfcjpoaa.PA
