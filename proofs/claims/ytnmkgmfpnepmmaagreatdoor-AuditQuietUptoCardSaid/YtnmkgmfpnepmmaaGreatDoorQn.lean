/- The walk of AuditQuiet. -/
import Derived.Test.YtnmkgmfpnepmmaaGreatDoorQp
import Derived.Test.YtnmkgmfpnepmmaaGreatDoorNs
import Derived.Deep.QuietTactic
import Derived.BigQuiet
namespace Go.Proofs.YtnmkgmfpnepmmaaGreatDoor.PA
open Go.RowKit Go.Proofs.YtnmkgmfpnepmmaaGreatDoorW.PrintWords Go.Proofs.YtnmkgmfpnepmmaaGreatDoorW.PrintLast Go.Proofs.YtnmkgmfpnepmmaaGreatDoorW.PrintMore
set_option linter.unusedVariables false
set_option linter.unusedSimpArgs false
set_option maxRecDepth 100000

def Lb.iOf : Value → Int
  | .int _ n => n
  | _ => 0

set_option maxHeartbeats 4000000 in
theorem quiet_calls (A0 : Option Addr) (c0 : Nat) (l : List S41) (a1 : Int) (w : World) (hr0 : Kd.C k41 w A0 l.length l) (hc0 : l.length ≤ c0) (hn : l.length ≤ 1048576) (h1 : Ok64 a1) :
    Calls Tryz.prog 3 #[.slice A0 l.length c0, .int .i64 a1] w fun e w' => e = .returned (.bool true) ∧ Below w.heap.size w w' := by
  have HR := Lib.hid hr0
  have HRF := Lib.hid (rows_eq l (by omega))
  have HS := Lib.hid (coraclelaw24_speaks.calls true w rfl)
  clear hr0
  go_enter Tryz.func3, Tryz.ntmps3
  go_wp2_with (first
    | (go_at_call 4; refine HS.out.mono ?_; rintro e w1 ⟨rfl, hb1⟩; have HB1 := Lib.hid hb1; clear hb1)
    | (go_at_call 5; refine (coraclelaw24_rows.calls _ A0 c0 l _ _ w1 (Kd.C_below HR.out HB1.out) hc0 HRF.out).mono ?_; rintro e w2 ⟨v0, v1, rfl, hq0, hq1, hb2⟩; obtain ⟨A, c, ev, hcA, hM⟩ := MAt.of_R hq0; rw [List.length_map] at ev hcA; subst ev; have HM := Aside0.mk (hM.lower HB1.out.size); have HC := Aside0.mk hcA; have HB := Aside0.mk (below_step HB1.out hb2); clear hb2 hq0 hq1 hM hcA))
  obtain ⟨L, hL⟩ : ∃ L, l.map toA = L := ⟨_, rfl⟩
  have hlen : L.length = l.length := by rw [← hL]; simp
  rw [hL] at HM
  clear hc0
  have HRF := 0
  clear HRF
  go_loopw [7] (fun i W => ∃ k : Nat, k ≤ l.length ∧ i = .int .i64 k ∧ Aside0 (MAt W w.heap.size A (marks k L)) ∧ Aside0 (Below w.heap.size w W)) (fun i _ => l.length - (Lb.iOf i).toNat)
  case atStart => exact ⟨0, Nat.zero_le _, rfl, ⟨by rw [marks_zero]; exact HM.out⟩, HB⟩
  case round =>
    rename_i wr
    clear HM HB
    obtain ⟨k, hk, rfl, HM, HB⟩ := hrel
    by_cases hlt : k < l.length
    · obtain ⟨x, hx⟩ : ∃ x, L[k]? = some x := ⟨_, List.getElem?_eq_getElem (by omega)⟩
      have hm := marks_at k L x hx
      obtain ⟨g, rfl, hg, hr⟩ : ∃ g, A = some ⟨g, 0, none⟩ ∧ w.heap.size ≤ g ∧ RAt wr g (marks k L) := by
        rcases HM.out with ⟨_, h⟩ | h
        · rw [h] at hm; cases hm
        · exact h
      obtain ⟨ad, had⟩ : ∃ ad : Addr, ad = ⟨g, 0, none⟩ := ⟨_, rfl⟩
      have z4 : wr.cell? ⟨(ad.add (k * 6)).block, (ad.add (k * 6)).off + 4, none⟩ = some (.int .i64 x.f4) := by rw [had, add_off]; exact hr.cell hm 4 (by omega)
      have z5 : wr.cell? ⟨(ad.add (k * 6)).block, (ad.add (k * 6)).off + 5, none⟩ = some (.bool x.f5) := by rw [had, add_off]; exact hr.cell hm 5 (by omega)
      have y5 : wr.frozen? ⟨(ad.add (k * 6)).block, (ad.add (k * 6)).off + 5, none⟩ = false := by rw [had, add_off]; exact hr.frozen _
      have HN : ∀ b, b = (x.f5 || decide (x.f4 = 0)) → MAt (wr.setCell ⟨(ad.add (k * 6)).block, (ad.add (k * 6)).off + 5, none⟩ (.bool b)) w.heap.size (some ad) (marks (k + 1) L) ∧ Below w.heap.size w (wr.setCell ⟨(ad.add (k * 6)).block, (ad.add (k * 6)).off + 5, none⟩ (.bool b)) := by
        rintro b rfl
        rw [had, add_off, marks_succ k L x hx]
        exact ⟨.inr ⟨g, rfl, hg, hr.set hm _⟩, below_set HB.out hg⟩
      have HN' := Lib.hid HN
      clear HN hm hx hr HM
      obtain ⟨f0, f1, f2, f3, f4, f5⟩ := x
      simp only at z4 z5 HN'
      rw [← had]
      clear hg
      have HAD := Lib.hid had
      clear had
      cases f5
      · go_wp2_with fail
        obtain ⟨q1, q2⟩ := HN'.out (f4 == 0) (by simp [BEq.beq])
        go_roundw
        case rel => exact ⟨k + 1, by omega, by go_num, ⟨q1⟩, ⟨q2⟩⟩
        case measure => simp [Lb.iOf]; omega
      · go_wp2_with fail
        obtain ⟨q1, q2⟩ := HN'.out true rfl
        go_roundw
        case rel => exact ⟨k + 1, by omega, by go_num, ⟨q1⟩, ⟨q2⟩⟩
        case measure => simp [Lb.iOf]; omega
    · obtain rfl : k = l.length := by omega
      have HM2 : Aside0 (MAt wr w.heap.size A (L.map mark)) := ⟨by rw [← marks_all, hlen]; exact HM.out⟩
      clear HM
      have hl2 : (L.map mark).length = l.length := by rw [List.length_map, hlen]
      have HT : ∀ W, MAt W w.heap.size A (L.map mark) → Calls Tryz.prog 7 #[.slice A l.length c, .int .i64 a1] W fun e w' => (∃ A' c', e = .returned (.slice A' 0 c')) ∧ Below W.heap.size W w' := by
        intro W hM
        rw [← hl2]
        refine (audit_Twice.calls A c (L.map mark) a1 [] W (hM.C (by omega)) (by rw [hl2]; exact HC.out) (by unfold audit_Twice.f; rw [if_pos ⟨by omega, h1⟩, twice_marked])).mono ?_
        rintro e w' ⟨v0, rfl, hv, hb⟩
        obtain ⟨A', c', rfl, _⟩ := Kd.R_reads hv
        exact ⟨⟨A', c', rfl⟩, hb⟩
      have HTT := Lib.hid HT
      clear HT hl2 hlen hL
      have HP := Lib.hid (pace_calls none 0 a1 [] wr ⟨rfl, by simp, fun h => absurd h (by simp)⟩ (Nat.le_refl _) (by simp) (by simp))
      go_wp2_with (first
        | (go_at_call 6; refine HP.out.mono ?_; rintro e w3 ⟨⟨b, rfl, hb⟩, hb3⟩; have hnan : (FloatKind.f64.format.order b b != some .eq) = true := (hb.elim (fun h => h.2) (fun h => absurd rfl h.1)); clear hb; have HM3 := Aside0.mk (HM2.out.below hb3); have HB3 := Aside0.mk (below_step HB.out hb3); clear hb3)
        | (go_at_call 7; refine (HTT.out _ HM3.out).mono ?_; rintro e w4 ⟨⟨A', c', rfl⟩, hb4⟩; have HB4 := Aside0.mk (below_step HB3.out hb4); clear hb4)
        | (go_at_call 8; refine (Mp.rows_nil _).mono ?_; rintro e w5 ⟨rfl, rfl⟩)
        | (go_at_call 9; refine (Mp.totals_nil _).mono ?_; rintro e w6 ⟨rfl, hb6⟩; have HB6 := Aside0.mk (below_step HB4.out hb6); clear hb6)
        | (go_at_call 10; refine (Mp.uses_nil _).mono ?_; rintro e w7 ⟨rfl, hb7⟩; have HB7 := Aside0.mk (below_step HB6.out hb7); clear hb7))
      go_ret
      exact ⟨rfl, HB7.out⟩
end Go.Proofs.YtnmkgmfpnepmmaaGreatDoor.PA
