/- Walks over the functions on floats: IsNaN, IsInf, NaN, Mean. -/
import Derived.Test.YtnmkgmfpnepmmaaGreatDoorFl
import Derived.Test.YtnmkgmfpnepmmaaGreatDoorPAx0
import Derived.WalkLawsBesides
import Derived.WalkSpells
import Derived.Deep.DeepFit
import Derived.Outline
import Derived.Lib.Hide
import Derived.Laws.Externs
import Derived.Laws.BitsAllLaws
namespace Go.Proofs.YtnmkgmfpnepmmaaGreatDoor.PA
open Go.RowKit Go.Proofs.YtnmkgmfpnepmmaaGreatDoorW.PrintWords Go.Proofs.YtnmkgmfpnepmmaaGreatDoorW.PrintLast Go.Proofs.YtnmkgmfpnepmmaaGreatDoorW.PrintMore
set_option linter.unusedVariables false
set_option linter.unusedSimpArgs false

theorem isNaN_calls (b : Nat) (w : World) : Calls Tryz.prog 24 #[.float .f64 b] w fun e w' => e = .returned (.bool (Fl.nanB b)) ∧ w = w' := by
  go_enter Tryz.func24, Tryz.ntmps24
  go_wp2
  all_goals (go_ret; exact ⟨rfl, rfl⟩)

theorem f64bits_run (b : Nat) (w : World) : (callFunc 74 #[.float .f64 b]).run Tryz.prog w = .ok (.value (.int .u64 b)) w := by
  rw [run_callFunc_extern (e := Extern.MathFloatBits.float64bits) Tryz.func74 (by kernel_rfl) (by kernel_rfl) (by kernel_rfl) (by kernel_rfl)]
  rfl
theorem f64from_run (b : Int) (w : World) : (callFunc 47 #[.int .u64 b]).run Tryz.prog w = .ok (.value (.float .f64 b.toNat)) w := by
  rw [run_callFunc_extern (e := Extern.MathFloatBits.float64frombits) Tryz.func47 (by kernel_rfl) (by kernel_rfl) (by kernel_rfl) (by kernel_rfl)]
  rfl

theorem nan_calls (w : World) : Calls Tryz.prog 26 #[] w fun e w' => e = .returned (.float .f64 9221120237041090561) ∧ w = w' := by
  have h1 := f64from_run
  go_enter Tryz.func26, Tryz.ntmps26
  go_wp2
  all_goals (go_ret; exact ⟨rfl, rfl⟩)

/-- the sign's bit as a number behind a name -/
def signBit : Int := 9223372036854775808
theorem andNot_sign (b : Nat) (h : b < 18446744073709551616) : bits .andNot .u64 (b : Int) 9223372036854775808 = ((b % 9223372036854775808 : Nat) : Int) := by
  have := u64_andNot_nat b 9223372036854775808 h (by decide)
  rw [show ((9223372036854775808 : Nat) : Int) = 9223372036854775808 by rfl] at this
  rw [this]
  congr 1
  exact Nat.and_two_pow_sub_one_eq_mod b 63

theorem abs_calls (b : Nat) (h : b < 18446744073709551616) (w : World) : Calls Tryz.prog 46 #[.float .f64 b] w fun e w' => e = .returned (.float .f64 (b % 9223372036854775808)) ∧ w = w' := by
  have h1 := f64bits_run
  have h2 := f64from_run
  have ha := andNot_sign b h
  obtain ⟨c, hc⟩ : ∃ c : Nat, b % 9223372036854775808 = c := ⟨_, rfl⟩
  rw [hc] at ha ⊢
  clear hc h
  go_enter Tryz.func46, Tryz.ntmps46
  go_wp2
  go_ret
  exact ⟨rfl, rfl⟩

theorem isInf_calls (b : Nat) (h : b < 18446744073709551616) (hf : Fl.Fin b) (w : World) : Calls Tryz.prog 25 #[.float .f64 b, .int .i64 0] w fun e w' => e = .returned (.bool false) ∧ w = w' := by
  have hb := Fl.not_above b hf
  have habs := abs_calls b h
  obtain ⟨c, hc⟩ : ∃ c : Nat, b % 9223372036854775808 = c := ⟨_, rfl⟩
  rw [hc] at hb habs
  clear hc h hf
  have HA := Lib.hid habs
  clear habs
  have hb2 : (FloatKind.f64.format.order c 9218868437227405311 == some .gt) = false := hb
  clear hb
  go_enter Tryz.func25, Tryz.ntmps25
  go_wp2_with (go_at_call 46; refine (HA.out _).mono ?_; rintro e w' ⟨rfl, rfl⟩)
  all_goals (go_ret; exact ⟨rfl, rfl⟩)

/-- float64 as a kind of one cell -/
abbrev kF : Kd Nat := Kd.scalar (Value.float .f64) (fun _ => rfl)
theorem fAdd_run (t : TypeId) (x y r : Nat) (h : Fl.D.add x y = some r) (w : World) : (binOp .add t (.float .f64 x) (.float .f64 y)).run Tryz.prog w = .ok (.float .f64 r) w := run_float_arith w .add t .f64 x y r h
theorem fSub_run (t : TypeId) (x y r : Nat) (h : Fl.D.sub x y = some r) (w : World) : (binOp .sub t (.float .f64 x) (.float .f64 y)).run Tryz.prog w = .ok (.float .f64 r) w := run_float_arith w .sub t .f64 x y r h
theorem fDiv_run (t : TypeId) (x y r : Nat) (h : Fl.D.div x y = some r) (w : World) : (binOp .quo t (.float .f64 x) (.float .f64 y)).run Tryz.prog w = .ok (.float .f64 r) w := run_float_arith w .quo t .f64 x y r h

theorem scalar_at {α : Type} {enc : α → Value} {h1 : ∀ x, (enc x).oneCell' = true} {w : World} {A : Option Addr} {n : Nat} {xs : List α} (h : (Kd.scalar enc h1).C w A n xs) (d : α) (k : Nat) (hk : k < n) :
    ∃ ad, A = some ad ∧ w.cell? (ad.add k) = some (enc (xs.getD k d)) := by
  obtain ⟨ad, cs, e, hcl, hK, hcell⟩ := Kd.C_get h d (k : Int) (by omega) (by omega)
  refine ⟨ad, e, ?_⟩
  have h3 : cs = [enc (xs.getD k d)] := hK
  have h2 := hcell 0 (enc (xs.getD k d)) (by rw [h3]; rfl)
  have e2 : (k : Int).toNat * (Kd.scalar enc h1).sz + 0 = k := by show (k : Int).toNat * 1 + 0 = k; omega
  rwa [e2] at h2

def MeanAns (l : List Nat) (e : Ending) : Prop := ∃ b, e = .returned (.tuple #[.float .f64 b, .int .i64 l.length]) ∧ ((l = [] ∧ Fl.nanB b = true) ∨ (l ≠ [] ∧ b = Fl.meanF l))

theorem mean_calls (A : Option Addr) (c : Nat) (l : List Nat) (w : World) (hr : kF.C w A l.length l) (hc : l.length ≤ c) (hn : l.length ≤ 4398046511104)
    (hfin : ∀ x ∈ l, Fl.Good x) :
    Calls Tryz.prog 11 #[.slice A l.length c] w fun e w' => MeanAns l e ∧ w = w' := by
  have HF := Lib.hid hfin
  have HR := Lib.hid hr
  clear hfin hr
  go_enter Tryz.func11, Tryz.ntmps11
  go_wp2_with fail
  go_loop [4, 5, 10] (fun s n i => ∃ k : Nat, k ≤ l.length ∧ i = .int .i64 k ∧ n = .int .i64 k ∧ s = .float .f64 (Fl.sumF (l.take k))) (fun _ _ i => l.length - (intOf i).toNat)
  case atStart => exact ⟨0, Nat.zero_le _, rfl, rfl, rfl⟩
  case round =>
    obtain ⟨k, hk, rfl, rfl, rfl⟩ := hrel
    by_cases hlt : k < l.length
    · obtain ⟨ad, rfl, hcx⟩ := scalar_at HR.out 0 k hlt
      obtain ⟨x, hx⟩ : ∃ x, x = l.getD k 0 := ⟨_, rfl⟩
      rw [← hx] at hcx
      have hxm : x ∈ l := by rw [hx, List.getD_eq_getElem?_getD, List.getElem?_eq_getElem hlt]; exact List.getElem_mem hlt
      have hg := HF.out x hxm
      have hstep : Fl.D.add (Fl.sumF (l.take k)) x = some (Fl.sumF (l.take (k + 1))) := by
        rw [List.take_succ_eq_append_getElem hlt]
        have : l[k] = x := by rw [hx, List.getD_eq_getElem?_getD, List.getElem?_eq_getElem hlt]; rfl
        rw [this]
        exact Fl.sumF_add _ _ (fun y hy => HF.out y (List.mem_of_mem_take hy)) hg
      have hnan := Fl.nanB_fin x hg.1
      have HI := Lib.hid (isInf_calls x hg.2 hg.1)
      generalize hS1 : Fl.sumF (l.take (k + 1)) = S1 at *
      generalize hS : Fl.sumF (l.take k) = S0 at *
      have hadd := fAdd_run 30 S0 x S1 hstep
      have HS1 := Lib.hid hS1
      clear hx hxm hg hstep hS hS1
      go_wp2_with (first | (go_at_call 24; refine (isNaN_calls _ _).mono ?_; rintro e w' ⟨rfl, rfl⟩) | (go_at_call 25; refine (HI.out _).mono ?_; rintro e w' ⟨rfl, rfl⟩))
      go_round
      case rel => exact ⟨k + 1, by omega, by go_num, by go_num, by rw [HS1.out]⟩
      case measure => simp [intOf]; omega
    · obtain rfl : k = l.length := by omega
      rw [List.take_length]
      by_cases h0 : l = []
      · subst h0
        have hz : (((([] : List Nat).length : Nat) : Int) == 0) = true := by decide
        go_wp2_with (go_at_call 26; refine (nan_calls _).mono ?_; rintro e w' ⟨rfl, rfl⟩)
        go_ret2
        exact ⟨⟨_, rfl, .inl ⟨rfl, Fl.nan_of_rung (by decide)⟩⟩, rfl⟩
      · have hz : (((l.length : Nat) : Int) == 0) = false := by
          cases l with
          | nil => exact absurd rfl h0
          | cons => simp; omega
        have hd := fDiv_run 30 _ _ _ (Fl.meanF_ok l HF.out h0 (by omega)).1
        go_wp2
        go_ret2
        exact ⟨⟨_, rfl, .inr ⟨h0, rfl⟩⟩, rfl⟩
end Go.Proofs.YtnmkgmfpnepmmaaGreatDoor.PA
