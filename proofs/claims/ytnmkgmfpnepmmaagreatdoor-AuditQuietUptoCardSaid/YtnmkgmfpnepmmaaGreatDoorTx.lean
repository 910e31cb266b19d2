/- The walk of audit.Twice, whole. -/
import Derived.Test.YtnmkgmfpnepmmaaGreatDoorTw
namespace Go.Proofs.YtnmkgmfpnepmmaaGreatDoor.PA
open Go.RowKit Go.Proofs.YtnmkgmfpnepmmaaGreatDoorW.PrintWords Go.Proofs.YtnmkgmfpnepmmaaGreatDoorW.PrintLast Go.Proofs.YtnmkgmfpnepmmaaGreatDoorW.PrintMore
set_option linter.unusedVariables false
set_option linter.unusedSimpArgs false
set_option maxRecDepth 100000

theorem max_zero (ats : Array TypeId) (ty : TypeId) (x : Int) : Builtin.max_ ats ty #[.int .i64 x, .int .i64 0] = pure (.int .i64 (mx x 0)) := by
  rw [max_two, max2_int]; rfl
attribute [local go_sem high] max_zero

/-- where the window begins -/
def lowOf (win : Int) (n : Nat) : Int := mx ((n : Int) - mx win 0) 0
def twiceGo (win : Int) (i : Nat) (last : List SA) : List SA → List Int
  | [] => []
  | r :: rs => if chg r = true then (if (last.drop (lowOf win last.length).toNat).any (sameRow r) = true then [(i : Int)] else []) ++ twiceGo win (i + 1) (last ++ [r]) rs else twiceGo win (i + 1) last rs
theorem twiceGo_ne {win : Int} {i : Nat} {last : List SA} {r : SA} {rs : List SA} (h : chg r = false) : twiceGo win i last (r :: rs) = twiceGo win (i + 1) last rs := by simp [twiceGo, h]
theorem twiceGo_yes {win : Int} {i : Nat} {last : List SA} {r : SA} {rs : List SA} (h : chg r = true) (h2 : (last.drop (lowOf win last.length).toNat).any (sameRow r) = true) : twiceGo win i last (r :: rs) = (i : Int) :: twiceGo win (i + 1) (last ++ [r]) rs := by simp only [twiceGo, h, h2, if_true]; rfl
theorem twiceGo_no {win : Int} {i : Nat} {last : List SA} {r : SA} {rs : List SA} (h : chg r = true) (h2 : (last.drop (lowOf win last.length).toNat).any (sameRow r) = false) : twiceGo win i last (r :: rs) = twiceGo win (i + 1) (last ++ [r]) rs := by simp [twiceGo, h, h2]

instance (n : Int) : Decidable (Ok64 n) := inferInstanceAs (Decidable (_ ∧ _))
def audit_Twice.f (l : List SA) (win : Int) : Option (List Int) := if l.length ≤ 4194304 ∧ Ok64 win then some (twiceGo win 0 [] l) else none

theorem audit_Twice.calls (A0 : Option Addr) (c0 : Nat) (l : List SA) (a1 : Int) (r : List Int) (w : World) (hr0 : Kd.C k29 w A0 l.length l) (hc0 : l.length ≤ c0) (h : audit_Twice.f l a1 = some r) :
    Calls Tryz.prog 7 #[.slice A0 l.length c0, .int .i64 a1] w fun e w' => ∃ v0_ : Value, e = .returned (v0_) ∧ Kd.R (Kd.int .i64) 3 w' w.heap.size (fun _ => True) v0_ r ∧ Below w.heap.size w w' := by
  unfold audit_Twice.f at h
  split at h
  case isFalse => cases h
  rename_i hg
  obtain ⟨hn, hw1, hw2⟩ := hg
  injection h with h
  have HT := Lib.hid h
  have HR := Lib.hid hr0
  clear h hr0
  have hu := Tryz.underlying29
  have hmf : ∀ (fn : Fn) (first cap : Array Value) (w : World), (Instr.makeFunc fn first cap).run Tryz.prog w = .ok (.func fn first cap) w := fun _ _ _ _ => rfl
  have hm1 : 0 ≤ mx a1 0 := by unfold mx; split <;> omega
  have hm2 : mx a1 0 ≤ 9223372036854775807 := by unfold mx; split <;> omega
  go_enter Tryz.func7, Tryz.ntmps7
  go_wp2_with fail
  go_loopw [5, 6, 12] (fun v5 v6 i W => ∃ (k : Nat) (O : List Int) (L : List SA), k ≤ l.length ∧ i = .int .i64 k ∧ Aside0 ((Kd.int .i64).R 3 W w.heap.size (fun _ => True) v5 O) ∧ Aside0 (k29.R 29 W w.heap.size (fun _ => True) v6 L) ∧ Aside0 (Below w.heap.size w W) ∧
    Aside0 (O ++ twiceGo a1 k L (l.drop k) = r) ∧ Aside0 (O.length ≤ k ∧ L.length ≤ k)) (fun _ _ i _ => l.length - (intOf i).toNat)
  case atStart => exact ⟨0, [], [], Nat.zero_le _, rfl, ⟨Kd.R_nil _ _ _ _ _⟩, ⟨Kd.R_nil _ _ _ _ _⟩, ⟨Below.refl _ _⟩, ⟨HT.out⟩, ⟨by simp⟩⟩
  case round =>
    rename_i wr
    obtain ⟨k, O, L, hk, rfl, HO, HL, HB, HG, HN⟩ := hrel
    by_cases hlt : k < l.length
    · obtain ⟨ad, rfl, hc0, hc1, hc2, hc3, hc4, hc5⟩ := at_T29 HR.out k (by omega) (by omega)
      simp only [Int.toNat_natCast] at hc0 hc1 hc2 hc3 hc4 hc5
      replace hc0 := (HB.out.cell (World.block_lt_of_cell? w _ hc0)).trans hc0
      replace hc1 := (HB.out.cell (World.block_lt_of_cell? w _ hc1)).trans hc1
      replace hc2 := (HB.out.cell (World.block_lt_of_cell? w _ hc2)).trans hc2
      replace hc3 := (HB.out.cell (World.block_lt_of_cell? w _ hc3)).trans hc3
      replace hc4 := (HB.out.cell (World.block_lt_of_cell? w _ hc4)).trans hc4
      replace hc5 := (HB.out.cell (World.block_lt_of_cell? w _ hc5)).trans hc5
      obtain ⟨q, hrd⟩ : ∃ q, q = l.getD k z29 := ⟨_, rfl⟩
      have e0 : rd_T29 l k = q := by rw [hrd]; rfl
      rw [e0] at hc0 hc1 hc2 hc3 hc4 hc5
      have hdrop : l.drop k = q :: l.drop (k + 1) := by rw [hrd]; exact drop_rd hlt
      have HG' : Aside0 (O ++ twiceGo a1 k L (q :: l.drop (k + 1)) = r) := ⟨by rw [← hdrop]; exact HG.out⟩
      have HCH := Lib.hid (chg_eq q)
      clear e0 hrd hdrop HG
      cases hch : chg q with
      | false =>
        have HG2 : Aside0 (O ++ twiceGo a1 (k + 1) L (l.drop (k + 1)) = r) := ⟨by rw [← HG'.out, twiceGo_ne hch]⟩
        rw [hch] at HCH
        clear hch
        go_wp2_with (first
          | ((with_reducible refine gate_dst (N := 8) rfl ?_); refine box_event ?hg (N := 8) ?hd (cs := #[.int .i64 0, .int .i64 0, .int .i64 0, .int .i64 0, .int .i64 0, .bool false]) (t := 29) ?hr ?_; (case hd => rfl); (case hg => rfl); (case hr => first | (go_simp; done) | (go_simp; rfl)); intro gb hg w1 hbox hb; have HO1 := Aside0.mk (Kd.R_below HO.out hb); have HL1 := Aside0.mk (Kd.R_below HL.out hb); have HB1 := Aside0.mk (below_step HB.out hb); have HGB : Aside0 (w.heap.size ≤ gb) := ⟨by rw [hg]; exact HB.out.size⟩; have HNE : Aside0 (some gb ≠ u6.ownBlock) := ⟨fun e => by have := Kd.R_lt HL.out gb e.symm; omega⟩; have BX := Aside0.mk hbox; clear HO HL HB hc0 hc1 hc2 hc3 hc4 hc5; clear hb hbox hg)
          | ((with_reducible refine gate_store (t := 29) (p := 8) rfl ?_); refine Lb.store_whole rfl rfl 29 (.tmp 8) (.tmp 16) rfl (new := cellsOf q) rfl rfl BX.out rfl (by kernel_rfl) (cellsOf_one q) ?_; intro w2 hb2 hg2; have HO := Aside0.mk (Lb.R_grown HO1.out hg2 BX.out (by decide)); have HL := Aside0.mk (Kd.R_grown1 HL1.out rfl hg2 HNE.out); have HB := Aside0.mk (Lb.grown_below HB1.out hg2 HB1.out.size HGB.out); clear BX HO1 HL1 HB1; have BX := Aside0.mk hb2; clear hb2 hg2; have z0 : w2.cell? ⟨gb, 0, none⟩ = some (.int .i64 q.f0) := (blk_cell BX.out 0).trans rfl; have z1 : w2.cell? ⟨gb, 1, none⟩ = some (.int .i64 q.f1) := (blk_cell BX.out 1).trans rfl; have z2 : w2.cell? ⟨gb, 2, none⟩ = some (.int .i64 q.f2) := (blk_cell BX.out 2).trans rfl; have z3 : w2.cell? ⟨gb, 3, none⟩ = some (.int .i64 q.f3) := (blk_cell BX.out 3).trans rfl; have z4 : w2.cell? ⟨gb, 4, none⟩ = some (.int .i64 q.f4) := (blk_cell BX.out 4).trans rfl; have z5 : w2.cell? ⟨gb, 5, none⟩ = some (.bool q.f5) := (blk_cell BX.out 5).trans rfl)
          | (go_at_call 12; refine (audit_Row_changes.calls _ _ _ _ _ _ _ _ HCH.out).mono ?_; rintro e w3 ⟨rfl, hb3⟩; have HO1 := Aside0.mk (Kd.R_below HO.out hb3); have HL1 := Aside0.mk (Kd.R_below HL.out hb3); have HB1 := Aside0.mk (below_step HB.out hb3); have BX1 := Aside0.mk (Lb.blk_below BX.out hb3); clear HO HL HB BX z0 z1 z2 z3 z4 z5; have HO := HO1; have HL := HL1; have HB := HB1; have BX := BX1; clear HO1 HL1 HB1 BX1 hb3))
        go_roundw
        case rel => exact ⟨k + 1, O, L, by omega, by go_num, HO, HL, HB, HG2, ⟨by have := HN.out; omega⟩⟩
        case measure => simp [intOf]; omega
      | true =>
        rw [hch] at HCH
        obtain ⟨A6, c6, rfl, hc6, hC6⟩ := Kd.R_reads HL.out
        clear hC6
        have hlo1 : 0 ≤ mx ((L.length : Int) - mx a1 0) 0 := by unfold mx; split <;> omega
        have hlo2 : mx ((L.length : Int) - mx a1 0) 0 ≤ L.length := by unfold mx at hm1 ⊢; split <;> omega
        obtain ⟨i0, hi0, hz0, hz1, hz2⟩ := info_parts info29
        obtain ⟨lo, hlo⟩ : ∃ lo, mx ((L.length : Int) - mx a1 0) 0 = lo := ⟨_, rfl⟩
        have hlow : lowOf a1 L.length = lo := hlo
        rw [hlo] at hlo1 hlo2
        have hcut0 := cut_from (P := Tryz.prog) 24 29 .i64 Tryz.underlying24 hi0 6 hz1 A6 L.length c6 lo hlo1 hlo2
        obtain ⟨X, hX⟩ : ∃ X, (if c6 = lo.toNat then A6 else A6.map (·.add (lo.toNat * 6))) = X := ⟨_, rfl⟩
        have hcut : ∀ W : World, (Instr.slice 24 (.slice A6 L.length c6) (some (.int .i64 lo)) none none).run Tryz.prog W = .ok (.slice X (L.length - lo.toNat) (c6 - lo.toNat)) W := by rw [← hX]; exact hcut0
        have HX := Lib.hid hX
        have hn1 := HN.out.2
        have hn0 := HN.out.1
        clear hcut0 hX hi0 hz0 hz1 hz2
        cases hany : (L.drop lo.toNat).any (sameRow q) with
        | true =>
          have HG2 : Aside0 ((O ++ [(k : Int)]) ++ twiceGo a1 (k + 1) (L ++ [q]) (l.drop (k + 1)) = r) := ⟨by rw [← HG'.out, twiceGo_yes hch (by rw [hlow]; exact hany)]; simp⟩
          clear hch hlow
          have HANY := Lib.hid hany
          clear hany
          go_wp2_with (first
            | ((with_reducible refine gate_dst (N := 8) rfl ?_); refine box_event ?hg (N := 8) ?hd (cs := #[.int .i64 0, .int .i64 0, .int .i64 0, .int .i64 0, .int .i64 0, .bool false]) (t := 29) ?hr ?_; (case hd => rfl); (case hg => rfl); (case hr => first | (go_simp; done) | (go_simp; rfl)); intro gb hg w1 hbox hb; have HO1 := Aside0.mk (Kd.R_below HO.out hb); have HL1 := Aside0.mk (Kd.R_below HL.out hb); have HB1 := Aside0.mk (below_step HB.out hb); have HGB : Aside0 (w.heap.size ≤ gb) := ⟨by rw [hg]; exact HB.out.size⟩; have HNE : Aside0 (some gb ≠ (Value.slice A6 L.length c6).ownBlock) := ⟨fun e => by have := Kd.R_lt HL.out gb e.symm; omega⟩; have BX := Aside0.mk hbox; clear HO HL HB hc0 hc1 hc2 hc3 hc4 hc5; clear hb hbox hg)
            | ((with_reducible refine gate_store (t := 29) (p := 8) rfl ?_); refine Lb.store_whole rfl rfl 29 (.tmp 8) (.tmp 16) rfl (new := cellsOf q) rfl rfl BX.out rfl (by kernel_rfl) (cellsOf_one q) ?_; intro w2 hb2 hg2; have HO := Aside0.mk (Lb.R_grown HO1.out hg2 BX.out (by decide)); have HL := Aside0.mk (Kd.R_grown1 HL1.out rfl hg2 HNE.out); have HB := Aside0.mk (Lb.grown_below HB1.out hg2 HB1.out.size HGB.out); clear BX HO1 HL1 HB1; have BX := Aside0.mk hb2; clear hb2 hg2; have z0 : w2.cell? ⟨gb, 0, none⟩ = some (.int .i64 q.f0) := (blk_cell BX.out 0).trans rfl; have z1 : w2.cell? ⟨gb, 1, none⟩ = some (.int .i64 q.f1) := (blk_cell BX.out 1).trans rfl; have z2 : w2.cell? ⟨gb, 2, none⟩ = some (.int .i64 q.f2) := (blk_cell BX.out 2).trans rfl; have z3 : w2.cell? ⟨gb, 3, none⟩ = some (.int .i64 q.f3) := (blk_cell BX.out 3).trans rfl; have z4 : w2.cell? ⟨gb, 4, none⟩ = some (.int .i64 q.f4) := (blk_cell BX.out 4).trans rfl; have z5 : w2.cell? ⟨gb, 5, none⟩ = some (.bool q.f5) := (blk_cell BX.out 5).trans rfl)
            | (go_at_call 12; refine (audit_Row_changes.calls _ _ _ _ _ _ _ _ HCH.out).mono ?_; rintro e w3 ⟨rfl, hb3⟩; have HO1 := Aside0.mk (Kd.R_below HO.out hb3); have HL1 := Aside0.mk (Kd.R_below HL.out hb3); have HB1 := Aside0.mk (below_step HB.out hb3); have BX1 := Aside0.mk (Lb.blk_below BX.out hb3); clear HO HL HB BX z0 z1 z2 z3 z4 z5; have HO := HO1; have HL := HL1; have HB := HB1; have BX := BX1; clear HO1 HL1 HB1 BX1 hb3)
            | (go_at_call 14; have HCC : Aside0 (k29.C w3 X (L.length - lo.toNat) (L.drop lo.toNat)) := ⟨by have h := Kd.C_drop (m := lo.toNat) (c := c6) (Kd.R_reads' HL.out).2.2 (by omega) hc6; rw [List.length_drop] at h; rw [← HX.out]; exact h⟩; refine (contains_same q gb X (c6 - lo.toNat) (L.length - lo.toNat) (L.drop lo.toNat) _ (by simp) HCC.out (by omega) (by omega) BX.out).mono ?_; rw [HANY.out]; rintro e w4 ⟨rfl, hb4⟩; have HO1 := Aside0.mk (Kd.R_below HO.out hb4); have HL1 := Aside0.mk (Kd.R_below HL.out hb4); have HB1 := Aside0.mk (below_step HB.out hb4); have BX1 := Aside0.mk (Lb.blk_below BX.out hb4); clear HO HL HB BX HCC; have HO := HO1; have HL := HL1; have HB := HB1; have BX := BX1; clear HO1 HL1 HB1 BX1 hb4)
            | ((with_reducible refine gate_builtin (b := .append) (xs := #[.tmp 31, .tmp 33]) rfl ?_); at_builtin; refine Kd.R_append (Kd.int .i64) (w0 := w) w.heap.size rfl (.tmp 31) (.tmp 33) 33 3 (.int .i64 0) 8 rfl Tryz.underlying33 info3 rfl (by decide) (by omega) u5 O (k : Int) [.int .i64 (k : Int)] (fun _ => True) (fun _ => False) rfl rfl ?aP (fun _ hk => hk.elim) (fun _ _ => trivial) ?aO ?aB ?aS ?aL ?_; (case aP => exact rfl); (case aO => exact HO.out); (case aB => exact HB.out); (case aS => exact HB.out.size); (case aL => omega); intro v5 w5 hr5 hb5 hg5 _; have HO1 := Aside0.mk hr5; have HL1 := Aside0.mk (Kd.R_over HL.out HO.out (by decide) hg5); have BX1 := Aside0.mk (blk_grown BX.out hg5 (Kd.R_ne HO.out BX.out (by decide))); clear HO HL HB BX; have HO := HO1; have HL := HL1; have HB := Aside0.mk hb5; have BX := BX1; clear HO1 HL1 BX1 hr5 hb5 hg5; have z0 : w5.cell? ⟨gb, 0, none⟩ = some (.int .i64 q.f0) := (blk_cell BX.out 0).trans rfl; have z1 : w5.cell? ⟨gb, 1, none⟩ = some (.int .i64 q.f1) := (blk_cell BX.out 1).trans rfl; have z2 : w5.cell? ⟨gb, 2, none⟩ = some (.int .i64 q.f2) := (blk_cell BX.out 2).trans rfl; have z3 : w5.cell? ⟨gb, 3, none⟩ = some (.int .i64 q.f3) := (blk_cell BX.out 3).trans rfl; have z4 : w5.cell? ⟨gb, 4, none⟩ = some (.int .i64 q.f4) := (blk_cell BX.out 4).trans rfl; have z5 : w5.cell? ⟨gb, 5, none⟩ = some (.bool q.f5) := (blk_cell BX.out 5).trans rfl)
            | ((with_reducible refine gate_builtin (b := .append) (xs := #[.tmp 35, .tmp 37]) rfl ?_); at_builtin; refine Kd.R_append k29 (w0 := w) w.heap.size rfl (.tmp 35) (.tmp 37) 24 29 (.agg #[.int .i64 0, .int .i64 0, .int .i64 0, .int .i64 0, .int .i64 0, .bool false]) 48 rfl Tryz.underlying24 info29 rfl (by decide) (by omega) (.slice A6 L.length c6) L q (cellsOf q).toList (fun _ => True) (fun _ => False) rfl rfl ?bP (fun _ hk => hk.elim) (fun _ _ => trivial) ?bO ?bB ?bS ?bL ?_; (case bP => exact k29_mkM _ _ _ q); (case bO => exact HL.out); (case bB => exact HB.out); (case bS => exact HB.out.size); (case bL => omega); intro v6 w6 hr6 hb6 hg6 _; have HL1 := Aside0.mk hr6; have HO1 := Aside0.mk (Kd.R_over HO.out HL.out (by decide) hg6); clear HO HL HB; have HO := HO1; have HL := HL1; have HB := Aside0.mk hb6; clear HO1 HL1 hr6 hb6 hg6 z0 z1 z2 z3 z4 z5))
          go_roundw
          case rel => exact ⟨k + 1, O ++ [(k : Int)], L ++ [q], by omega, by go_num, HO, HL, HB, HG2, ⟨by simp; omega⟩⟩
          case measure => simp [intOf]; omega
        | false =>
          have HG2 : Aside0 (O ++ twiceGo a1 (k + 1) (L ++ [q]) (l.drop (k + 1)) = r) := ⟨by rw [← HG'.out, twiceGo_no hch (by rw [hlow]; exact hany)]⟩
          clear hch hlow
          have HANY := Lib.hid hany
          clear hany
          go_wp2_with (first
            | ((with_reducible refine gate_dst (N := 8) rfl ?_); refine box_event ?hg (N := 8) ?hd (cs := #[.int .i64 0, .int .i64 0, .int .i64 0, .int .i64 0, .int .i64 0, .bool false]) (t := 29) ?hr ?_; (case hd => rfl); (case hg => rfl); (case hr => first | (go_simp; done) | (go_simp; rfl)); intro gb hg w1 hbox hb; have HO1 := Aside0.mk (Kd.R_below HO.out hb); have HL1 := Aside0.mk (Kd.R_below HL.out hb); have HB1 := Aside0.mk (below_step HB.out hb); have HGB : Aside0 (w.heap.size ≤ gb) := ⟨by rw [hg]; exact HB.out.size⟩; have HNE : Aside0 (some gb ≠ (Value.slice A6 L.length c6).ownBlock) := ⟨fun e => by have := Kd.R_lt HL.out gb e.symm; omega⟩; have BX := Aside0.mk hbox; clear HO HL HB hc0 hc1 hc2 hc3 hc4 hc5; clear hb hbox hg)
            | ((with_reducible refine gate_store (t := 29) (p := 8) rfl ?_); refine Lb.store_whole rfl rfl 29 (.tmp 8) (.tmp 16) rfl (new := cellsOf q) rfl rfl BX.out rfl (by kernel_rfl) (cellsOf_one q) ?_; intro w2 hb2 hg2; have HO := Aside0.mk (Lb.R_grown HO1.out hg2 BX.out (by decide)); have HL := Aside0.mk (Kd.R_grown1 HL1.out rfl hg2 HNE.out); have HB := Aside0.mk (Lb.grown_below HB1.out hg2 HB1.out.size HGB.out); clear BX HO1 HL1 HB1; have BX := Aside0.mk hb2; clear hb2 hg2; have z0 : w2.cell? ⟨gb, 0, none⟩ = some (.int .i64 q.f0) := (blk_cell BX.out 0).trans rfl; have z1 : w2.cell? ⟨gb, 1, none⟩ = some (.int .i64 q.f1) := (blk_cell BX.out 1).trans rfl; have z2 : w2.cell? ⟨gb, 2, none⟩ = some (.int .i64 q.f2) := (blk_cell BX.out 2).trans rfl; have z3 : w2.cell? ⟨gb, 3, none⟩ = some (.int .i64 q.f3) := (blk_cell BX.out 3).trans rfl; have z4 : w2.cell? ⟨gb, 4, none⟩ = some (.int .i64 q.f4) := (blk_cell BX.out 4).trans rfl; have z5 : w2.cell? ⟨gb, 5, none⟩ = some (.bool q.f5) := (blk_cell BX.out 5).trans rfl)
            | (go_at_call 12; refine (audit_Row_changes.calls _ _ _ _ _ _ _ _ HCH.out).mono ?_; rintro e w3 ⟨rfl, hb3⟩; have HO1 := Aside0.mk (Kd.R_below HO.out hb3); have HL1 := Aside0.mk (Kd.R_below HL.out hb3); have HB1 := Aside0.mk (below_step HB.out hb3); have BX1 := Aside0.mk (Lb.blk_below BX.out hb3); clear HO HL HB BX z0 z1 z2 z3 z4 z5; have HO := HO1; have HL := HL1; have HB := HB1; have BX := BX1; clear HO1 HL1 HB1 BX1 hb3)
            | (go_at_call 14; have HCC : Aside0 (k29.C w3 X (L.length - lo.toNat) (L.drop lo.toNat)) := ⟨by have h := Kd.C_drop (m := lo.toNat) (c := c6) (Kd.R_reads' HL.out).2.2 (by omega) hc6; rw [List.length_drop] at h; rw [← HX.out]; exact h⟩; refine (contains_same q gb X (c6 - lo.toNat) (L.length - lo.toNat) (L.drop lo.toNat) _ (by simp) HCC.out (by omega) (by omega) BX.out).mono ?_; rw [HANY.out]; rintro e w4 ⟨rfl, hb4⟩; have HO1 := Aside0.mk (Kd.R_below HO.out hb4); have HL1 := Aside0.mk (Kd.R_below HL.out hb4); have HB1 := Aside0.mk (below_step HB.out hb4); have BX1 := Aside0.mk (Lb.blk_below BX.out hb4); clear HO HL HB BX HCC; have HO := HO1; have HL := HL1; have HB := HB1; have BX := BX1; clear HO1 HL1 HB1 BX1 hb4; have z0 : w4.cell? ⟨gb, 0, none⟩ = some (.int .i64 q.f0) := (blk_cell BX.out 0).trans rfl; have z1 : w4.cell? ⟨gb, 1, none⟩ = some (.int .i64 q.f1) := (blk_cell BX.out 1).trans rfl; have z2 : w4.cell? ⟨gb, 2, none⟩ = some (.int .i64 q.f2) := (blk_cell BX.out 2).trans rfl; have z3 : w4.cell? ⟨gb, 3, none⟩ = some (.int .i64 q.f3) := (blk_cell BX.out 3).trans rfl; have z4 : w4.cell? ⟨gb, 4, none⟩ = some (.int .i64 q.f4) := (blk_cell BX.out 4).trans rfl; have z5 : w4.cell? ⟨gb, 5, none⟩ = some (.bool q.f5) := (blk_cell BX.out 5).trans rfl)
            | ((with_reducible refine gate_builtin (b := .append) (xs := #[.tmp 35, .tmp 37]) rfl ?_); at_builtin; refine Kd.R_append k29 (w0 := w) w.heap.size rfl (.tmp 35) (.tmp 37) 24 29 (.agg #[.int .i64 0, .int .i64 0, .int .i64 0, .int .i64 0, .int .i64 0, .bool false]) 48 rfl Tryz.underlying24 info29 rfl (by decide) (by omega) (.slice A6 L.length c6) L q (cellsOf q).toList (fun _ => True) (fun _ => False) rfl rfl ?bP (fun _ hk => hk.elim) (fun _ _ => trivial) ?bO ?bB ?bS ?bL ?_; (case bP => exact k29_mkM _ _ _ q); (case bO => exact HL.out); (case bB => exact HB.out); (case bS => exact HB.out.size); (case bL => omega); intro v6 w6 hr6 hb6 hg6 _; have HL1 := Aside0.mk hr6; have HO1 := Aside0.mk (Kd.R_over HO.out HL.out (by decide) hg6); clear HO HL HB; have HO := HO1; have HL := HL1; have HB := Aside0.mk hb6; clear HO1 HL1 hr6 hb6 hg6 z0 z1 z2 z3 z4 z5))
          go_roundw
          case rel => exact ⟨k + 1, O, L ++ [q], by omega, by go_num, HO, HL, HB, HG2, ⟨by simp; omega⟩⟩
          case measure => simp [intOf]; omega
    · obtain rfl : k = l.length := by omega
      have hO : O = r := by have h := HG.out; rw [List.drop_length] at h; simpa [twiceGo] using h
      subst hO
      go_wp2
      go_ret
      exact ⟨_, rfl, HO.out, HB.out⟩
end Go.Proofs.YtnmkgmfpnepmmaaGreatDoor.PA
