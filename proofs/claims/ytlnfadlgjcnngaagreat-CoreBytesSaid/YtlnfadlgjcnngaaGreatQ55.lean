/- The walk of CoreBytes. -/
import Derived.Test.YtlnfadlgjcnngaaGreatQz
import Derived.Deep.CutBlock
namespace Go.Proofs.YtlnfadlgjcnngaaGreat.Co
open Go.RowKit Go.Maps Go.Lib Go.Proofs.YtlnfadlgjcnngaaGreat.Ap Go.Proofs.YtlnfadlgjcnngaaGreatW.PrintWords Go.Proofs.YtlnfadlgjcnngaaGreatW.PrintLast Go.Proofs.YtlnfadlgjcnngaaGreatW.PrintMore
set_option linter.unusedVariables false
set_option linter.unusedSimpArgs false

/-- a place that is written at -/
def offO (x : Int) : Nat := ((Int.tmod (Int.tmod x 3000 + 3000) 3000)).toNat
theorem offO_le (x : Int) : offO x ≤ 2999 := by unfold offO; have := Int.tmod_lt_of_pos (Int.tmod x 3000 + 3000) (show (0 : Int) < 3000 by decide); omega
theorem offO_eq (x : Int) : Int.tmod (Int.tmod x 3000 + 3000) 3000 = (offO x : Int) := by
  unfold offO
  have h1 : -3000 < Int.tmod x 3000 := Int.lt_tmod_of_pos x (by decide)
  have h2 : 0 ≤ Int.tmod (Int.tmod x 3000 + 3000) 3000 := Int.tmod_nonneg _ (by omega)
  omega
theorem int_at {w : World} {A : Option Addr} {l : List Int} (h : Kd.C (Kd.int .i64) w A l.length l) {i : Nat} {x : Int} (hx : l[i]? = some x) : ∃ ad, A = some ad ∧ w.cell? (ad.add i) = some (.int .i64 x) := by
  have hi := (List.getElem?_eq_some_iff.1 hx).1
  obtain ⟨ad, e, hc⟩ := h.2.2 (by omega)
  obtain ⟨cs, hl, hk1, hcc⟩ := hc i x hx
  have hk2 : cs = [.int .i64 x] := hk1
  subst hk2
  have e2 : i * (Kd.int .i64).sz + 0 = i := by show i * 1 + 0 = i; omega
  have := hcc 0 (.int .i64 x) rfl
  rw [e2] at this
  exact ⟨ad, e, this⟩
theorem str_at {w : World} {A : Option Addr} {l : List ByteArray} (h : Kd.C Kd.string w A l.length l) {i : Nat} {x : ByteArray} (hx : l[i]? = some x) : ∃ ad, A = some ad ∧ w.cell? (ad.add i) = some (.string x) := by
  have hi := (List.getElem?_eq_some_iff.1 hx).1
  obtain ⟨ad, e, hc⟩ := h.2.2 (by omega)
  obtain ⟨cs, hl, hk1, hcc⟩ := hc i x hx
  have hk2 : cs = [.string x] := hk1
  subst hk2
  have e2 : i * Kd.string.sz + 0 = i := by show i * 1 + 0 = i; omega
  have := hcc 0 (.string x) rfl
  rw [e2] at this
  exact ⟨ad, e, this⟩
set_option maxRecDepth 100000 in
set_option maxHeartbeats 8000000 in
theorem bytes_calls (A0 A1 : Option Addr) (c0 c1 : Nat) (l0 : List Int) (l1 : List ByteArray) (cut : Int) (w : World) (h0 : Kd.C (Kd.int .i64) w A0 l0.length l0) (h1 : Kd.C Kd.string w A1 l1.length l1) :
    Calls Tryz.prog 5 #[.slice A0 l0.length c0, .slice A1 l1.length c1, .int .i64 cut] w fun e w' => e = .returned (.bool true) ∧ Below w.heap.size w w' := by
  have HB := Aside0.mk (Below.refl w.heap.size w)
  have HA0 := Lib.hid h0
  have HA1 := Lib.hid h1
  clear h0 h1
  go_enter Tryz.func5, Tryz.ntmps5
  go_upto_region 5 with (first
    | (go_at_call 8; refine (speaks_calls _).mono ?_; rintro e w2 ⟨rfl, hb⟩; replace HB := Aside0.mk (below_step HB.out hb); clear hb)
    | (go_at_call 9; refine (new_calls 1 _).mono ?_; rintro e w3 ⟨g, bN, bM, b, d, rfl, hf, hn, hd, hl, hb⟩; have HF := Aside0.mk hf; have HN := Aside0.mk hn; have HD := Aside0.mk hd; have HL : Aside0 (w.heap.size ≤ g ∧ w.heap.size ≤ bN ∧ w.heap.size ≤ bM ∧ w.heap.size ≤ b ∧ w.heap.size ≤ d) := ⟨by have := HB.out.size; omega⟩; replace HB := Aside0.mk (below_step HB.out hb); clear hf hn hd hl hb)
    | ((with_reducible refine gate_dst (N := 8) rfl ?_); refine box_event ?hg (N := 8) ?hd (cs := callC 0) (t := 29) ?hr ?_; (case hd => rfl); (case hg => rfl); (case hr => first | (go_simp; done) | (go_simp; rfl)); intro g8 hgg8 w4 hx hb; have HE := Aside0.mk hx; have HBE := Aside0.mk hb; have HGE := Aside0.mk hgg8; clear hx hb hgg8)
    | ((with_reducible refine gate_store (t := 29) (p := 8) rfl ?_); refine Lb.store_whole rfl rfl 29 (.tmp 8) (.tmp 26) rfl (new := callC 2) rfl rfl HE.out rfl (by kernel_rfl) (by simp [Value.oneCell']) ?_; intro w5 hb3 hg3; have hbb := Lb.grown_below HBE.out hg3 HBE.out.size (by have := HGE.out; omega); replace HF := Aside0.mk (HF.out.step hbb); replace HN := Aside0.mk (Lb.blk_below HN.out hbb); replace HD := Aside0.mk (show DirE w5 d from Lb.blk_below HD.out hbb); replace HB := Aside0.mk (below_step HB.out hbb); have HX := Aside0.mk hb3; clear hb3 hg3 HE HBE HGE hbb))
  go_upto_region 8 with (first
    | ((with_reducible refine gate_dst (N := 29) rfl ?_); refine wpList_load_row rfl 29 (.tmp 8) rfl g8 rfl 29 (callC 2) (0, 0) _ HX.out Tryz.underlying29 rfl (by kernel_rfl) ?_)
    | (go_at_call 10; (refine (create_zero g bN bM 1 _ 2 b d (nd1 1 d) 2 1 ⟨#[102]⟩ ⟨#[]⟩ _ HF.out (by decide) (by decide) (by decide) ⟨by decide, by decide⟩ (show putF (fun _ => none) 1 b 1 = some b from rfl) HN.out HD.out rfl rfl (show InI 1 from ⟨by decide, by decide⟩) good_f).mono ?_); rintro e w6 ⟨rfl, b2, l2, r2, r3, r4, r5, r6⟩; have HY : Aside0 (BY w w6 g bN bM b2 g8 6 (putF (putF (fun _ => none) 1 b) 2 b2) ⟨#[]⟩ (.slice none 0 0) []) := ⟨⟨r2, ⟨_, r5, rfl, rfl, rfl⟩, r6.typ _ _ _ _ HX.out (by decide), RowB.nil _ _, HB.out.trans (r6.below (by have := HL.out; simp; omega) HB.out.size), ⟨HL.out.2.2.1, Nat.le_trans HB.out.size l2⟩⟩⟩; clear r2 r3 r4 r5 r6 l2 HF HN HD HX HB))
  go_upto_block 0 with fail
  go_cut [11] (fun s11 wx => ∃ (D : ByteArray) (m : Nat), m ≤ 100 ∧ D.size ≤ 3500 ∧ Aside0 (BY w wx g bN bM b2 g8 m (putF (putF (fun _ => none) 1 b) 2 b2) D s11 D.data.toList))
  case first =>
    go_wp2_with fail
    go_loopg [11, 12] 40 (fun gk s11 s12 wx => ∃ (i : Nat) (D : ByteArray) (m : Nat), i + gk = 40 ∧ m ≤ 6 + i ∧ D.size ≤ 3500 ∧ s12 = .int .i64 i ∧ Aside0 (BY w wx g bN bM b2 g8 m (putF (putF (fun _ => none) 1 b) 2 b2) D s11 D.data.toList))
    case atStart => exact ⟨0, ⟨#[]⟩, 6, rfl, by omega, by decide, rfl, ⟨HY.out⟩⟩
    case round =>
      clear HY
      obtain ⟨i, D, m, hi, hm, hD, rfl, HY⟩ := hrel
      obtain ⟨q, hq⟩ : ∃ q, decide (i < l0.length ∧ i < l1.length ∧ i < 40) = q := ⟨_, rfl⟩
      go_upto_region 10 with fail
      go_cut [49] (fun s49 wx => wr = wx ∧ s49 = .bool q)
      case first =>
        have d1 : decide ((i : Int) < (l0.length : Int)) = decide (i < l0.length) := by by_cases h : i < l0.length <;> simp [h] <;> omega
        have d2 : decide ((i : Int) < (l1.length : Int)) = decide (i < l1.length) := by by_cases h : i < l1.length <;> simp [h] <;> omega
        have d3 : decide ((i : Int) < 40) = decide (i < 40) := by by_cases h : i < 40 <;> simp [h] <;> omega
        by_cases e1 : i < l0.length
        · by_cases e2 : i < l1.length
          · by_cases e3 : i < 40
            · have f1 : (i : Int) < (l0.length : Int) := by omega
              have f2 : (i : Int) < (l1.length : Int) := by omega
              have f3 : (i : Int) < 40 := by omega
              go_wp2_with fail
              go_meet
              exact ⟨rfl, by rw [← hq]; simp [e1, e2, e3]⟩
            · have f1 : (i : Int) < (l0.length : Int) := by omega
              have f2 : (i : Int) < (l1.length : Int) := by omega
              have f3 : ¬ (i : Int) < 40 := by omega
              go_wp2_with fail
              go_meet
              exact ⟨rfl, by rw [← hq]; simp [e1, e2, e3]⟩
          · have f1 : (i : Int) < (l0.length : Int) := by omega
            have f2 : ¬ (i : Int) < (l1.length : Int) := by omega
            go_wp2_with fail
            go_meet
            exact ⟨rfl, by rw [← hq]; simp [e1, e2]⟩
        · have f1 : ¬ (i : Int) < (l0.length : Int) := by omega
          go_wp2_with fail
          go_meet
          exact ⟨rfl, by rw [← hq]; simp [e1]⟩
      case rest =>
        obtain ⟨rfl, rfl⟩ := hcut
        cases q
        · go_wp2_with fail
          go_meet
          exact ⟨D, m, by omega, hD, ⟨HY.out⟩⟩
        · have hq := of_decide_eq_true hq
          obtain ⟨e1, e2, e3⟩ := hq
          obtain ⟨gk0, rfl⟩ : ∃ g, gk = g + 1 := ⟨gk - 1, by omega⟩
          obtain ⟨x, hx⟩ : ∃ x, l0[i]? = some x := ⟨_, List.getElem?_eq_getElem e1⟩
          obtain ⟨t, ht⟩ : ∃ t, l1[i]? = some t := ⟨_, List.getElem?_eq_getElem e2⟩
          obtain ⟨ad0, hA0, z0⟩ := int_at (Kd.C_below HA0.out HY.out.bel) hx
          obtain ⟨ad1, hA1, z1⟩ := str_at (Kd.C_below HA1.out HY.out.bel) ht
          subst hA0 hA1
          obtain ⟨o, ho⟩ : ∃ o, offO x = o := ⟨_, rfl⟩
          have ho2 : o ≤ 2999 := by rw [← ho]; exact offO_le x
          have a0 : IntKind.i64.wrap (Int.tmod x 3000 + 3000) = Int.tmod x 3000 + 3000 := by
            have h1 : -3000 < Int.tmod x 3000 := Int.lt_tmod_of_pos x (by decide)
            have h2 : Int.tmod x 3000 < 3000 := Int.tmod_lt_of_pos x (by decide)
            rw [IntKind.wrap_i64]; omega
          have a1 : Int.tmod (Int.tmod x 3000 + 3000) 3000 = (o : Int) := by rw [offO_eq, ho]
          have b0 : (i : Int) < (l0.length : Int) := by omega
          have b1 : (i : Int) < (l1.length : Int) := by omega
          have b2' : (0 : Int) ≤ (i : Int) := by omega
          go_upto_region 13 with fail
          obtain ⟨L, hL⟩ : ∃ L : Nat, min t.size 500 = L := ⟨_, rfl⟩
          obtain ⟨s, hs⟩ : ∃ s, t.extract 0 L = s := ⟨_, rfl⟩
          have hsz : s.size = L := by rw [← hs, ByteArray.size_extract]; omega
          have hs5 : s.size ≤ 500 := by omega
          have m1 : min (t.size : Int) 500 = (L : Int) := by omega
          have m2 : (L : Int) ≤ (t.size : Int) := by omega
          have m3 : (0 : Int) ≤ (L : Int) := by omega
          have z1' : wr.drew.cell? (ad1.add i) = some (.string t) := z1
          go_cut [14] (fun s14 wx => wx = wr.drew ∧ s14 = .string s)
          case first =>
            go_region
            all_goals
              go_wp2_with fail
              go_meet
              exact ⟨rfl, rfl⟩
          case rest =>
            obtain ⟨rfl, rfl⟩ := hcut
            replace HY := Aside0.mk (HY.out.step (Lb.below_drew _))
            clear z0 z1 z1' a0 a1 b0 b1 m1 m2 m3 hx ht
            by_cases hs0 : s.size = 0
            · have hem : s.toList.isEmpty = true := by
                have : s.toList.length = 0 := by rw [toList_data, ← Lib.size_eq]; exact hs0
                simpa using this
              have hs0i : (s.size : Int) = 0 := by omega
              go_upto_block 2 with (first
                | ((with_reducible refine gate_dst (N := 71) rfl ?_); refine wpList_load_row rfl 29 (.tmp 8) rfl g8 rfl 29 (callC 2) (0, 0) _ HY.out.cl Tryz.underlying29 rfl (by kernel_rfl) ?_)
                | (go_at_call 13; obtain ⟨n, hn1, hn2, hn3, hn4⟩ := HY.out.nd; (refine (write_none g bN bM 2 _ m b2 o n 2 2 s _ HY.out.fs ⟨by decide, by decide⟩ (show putF (putF (fun _ => none) 1 b) 2 b2 2 = some b2 from rfl) hn1 hn2 (by omega) hs0).mono ?_); rintro e w8 ⟨rfl, hb⟩; have HY8 := Aside0.mk (HY.out.step hb); clear hb hn1 hn2 hn3 hn4 n HY))
              go_wp2_with fail
              go_loopg [11] 1 (fun gk s11 wx => s11 = u11 ∧ w8 = wx)
              case atStart => exact ⟨rfl, rfl⟩
              case round =>
                obtain ⟨rfl, rfl⟩ := hrel
                go_wp2_with fail
                go_loopg [15] 1 (fun gk s15 wx => s15 = .int .i64 0 ∧ w8 = wx)
                case atStart => exact ⟨rfl, rfl⟩
                case round =>
                  obtain ⟨rfl, rfl⟩ := hrel
                  have hs1 : ¬ ((0 : Int) < (s.size : Int)) := by omega
                  go_wp2_with fail
                  go_roundg gk0
                  case measure => omega
                  case rel => exact ⟨i + 1, D, m, by omega, by omega, hD, by go_num, ⟨HY8.out⟩⟩
            · have hem : s.toList.isEmpty = false := by
                have : s.toList.length ≠ 0 := by rw [toList_data, ← Lib.size_eq]; exact hs0
                cases h : s.toList with
                | nil => rw [h] at this; exact absurd rfl this
                | cons _ _ => rfl
              have hs1 : 0 < s.size := by omega
              obtain ⟨D', hD'⟩ : ∃ D', wrB D o s = D' := ⟨_, rfl⟩
              have hDz : D'.size = max D.size (o + s.size) := by rw [← hD', wrB_size]; rfl
              have HDD := Lib.hid (And.intro hD' hDz)
              have HSS := Lib.hid (And.intro hs1 hs5)
              go_upto_block 2 with (first
                | ((with_reducible refine gate_dst (N := 71) rfl ?_); refine wpList_load_row rfl 29 (.tmp 8) rfl g8 rfl 29 (callC 2) (0, 0) _ HY.out.cl Tryz.underlying29 rfl (by kernel_rfl) ?_)
                | (go_at_call 13; obtain ⟨n, hn1, hn2, hn3, hn4⟩ := HY.out.nd; (refine (write_some g bN bM 2 _ m b2 o n 2 2 s _ HY.out.fs (by omega) ⟨by decide, by decide⟩ (show putF (putF (fun _ => none) 1 b) 2 b2 2 = some b2 from rfl) hn1 hn2 hn4 (by rw [hn3]; omega) (by omega) HSS.out.1 HSS.out.2).mono ?_); rintro e w8 ⟨rfl, r1, r2, r3⟩; have HY8 : Aside0 (BY w w8 g bN bM b2 g8 (m + 1) (putF (putF (fun _ => none) 1 b) 2 b2) D' u11 D.data.toList) := ⟨HY.out.fsop r2 r1 hn2 (by rw [← HDD.out.1, ← hn3]; rfl) rfl r3⟩; clear r1 r2 r3 hn1 hn2 hn3 hn4 n HY))
              clear hD' hDz hs1
              have wq : IntKind.i64.wrap ((o : Int) + (s.size : Int)) = (o : Int) + (s.size : Int) := by rw [IntKind.wrap_i64]; omega
              go_wp2_with fail
              go_loopg [11] (o + s.size - D.size) (fun gk s11 wx => ∃ j : Nat, j + gk = o + s.size - D.size ∧ Aside0 (BY w wx g bN bM b2 g8 (m + 1) (putF (putF (fun _ => none) 1 b) 2 b2) D' s11 (D.data.toList ++ List.replicate j 0)))
              case atStart => exact ⟨0, by omega, ⟨by simpa using HY8.out⟩⟩
              case round =>
                clear HY8
                obtain ⟨j, hj, HY⟩ := hrel
                obtain ⟨A, cap, hv, _⟩ := own_slice HY.out.row
                have hN : (D.data.toList ++ List.replicate j (0 : UInt8)).length = D.size + j := by simp
                rw [hN] at hv
                subst hv
                have HJ := Lib.hid hj
                cases gk with
                | zero =>
                  have hc : ¬ ((D.size + j : Nat) : Int) < (o : Int) + (s.size : Int) := by omega
                  have hje : j = o + s.size - D.size := by omega
                  have hX1 : (D.data.toList ++ List.replicate j (0 : UInt8)).length = D.size + j := hN
                  obtain ⟨kb, cap', hv2, hge, hrow, -, -, -⟩ := RowB.cell HY.out.row (j := o) (by rw [hX1]; have := HSS.out; omega)
                  rw [hX1] at hv2
                  injection hv2 with v1 v2 v3
                  subst v1 v3
                  obtain ⟨ad, had⟩ : ∃ ad : Addr, ad = ⟨kb, 0, none⟩ := ⟨_, rfl⟩
                  have HAD := Lib.hid had
                  have HX1 := Lib.hid hX1
                  have HJE := Lib.hid hje
                  rw [← had]
                  clear hj hN hX1 hge hrow had hje
                  have hbd : ∀ k : Nat, k < s.size → ((o + k : Nat) : Int) < ((D.size + j : Nat) : Int) := fun k hk => by have := HJE.out; omega
                  go_wp2_with fail
                  go_loopg [15] s.size (fun gk s15 wx => ∃ k : Nat, k + gk = s.size ∧ s15 = .int .i64 k ∧ Aside0 (BY w wx g bN bM b2 g8 (m + 1) (putF (putF (fun _ => none) 1 b) 2 b2) D' (.slice (some ⟨kb, 0, none⟩) (D.size + j) cap) (ovL (D.data.toList ++ List.replicate j 0) o s.data.toList k)))
                  case atStart => exact ⟨0, by omega, rfl, ⟨by rw [ovL_zero]; exact HY.out⟩⟩
                  case round =>
                    clear HY
                    obtain ⟨k, hk, rfl, HY⟩ := hrel
                    cases gk with
                    | zero =>
                      have hkc : ¬ ((k : Int) < (s.size : Int)) := by omega
                      have hks : k = s.size := by omega
                      go_wp2_with fail
                      go_roundg gk0
                      case measure => omega
                      case rel => exact ⟨i + 1, D', m + 1, by omega, by omega, by have := HDD.out.2; omega, by go_num, ⟨by rw [HAD.out]; have h := HY.out; rw [hks, HJE.out, ← wr_list D s o HSS.out.1, HDD.out.1] at h; rw [HJE.out]; exact h⟩⟩
                    | succ gk =>
                      have hk1 : k < s.size := by omega
                      have hkc : ((k : Int) < (s.size : Int)) := by omega
                      have hk0 : (0 : Int) ≤ (k : Int) := by omega
                      obtain ⟨x, hx⟩ : ∃ x : UInt8, s[k]'hk1 = x := ⟨_, rfl⟩
                      have hxl : s.data.toList[k]? = some x := by rw [← hx]; exact Lib.data_getElem? s k hk1
                      have hlen : (ovL (D.data.toList ++ List.replicate j (0 : UInt8)) o s.data.toList k).length = D.size + j := by
                        have h1 := HX1.out
                        have h2 := hbd k hk1
                        have h3 : s.data.toList.length = s.size := by rw [← Lib.size_eq]
                        unfold ovL
                        rw [List.length_append, List.length_append, List.length_take, List.length_take, List.length_drop, h1, h3]
                        omega
                      obtain ⟨kb', cap2, hv3, hge, hrow, z1, z2, z3⟩ := RowB.cell HY.out.row (j := o + k) (by rw [hlen]; have := hbd k hk1; omega)
                      rw [hlen] at hv3
                      have v1 : kb = kb' := by
                        injection hv3 with v1 _ _
                        injection v1 with v1
                        injection v1
                      subst v1
                      clear hv3
                      obtain ⟨z, zz⟩ : ∃ z : Int, wr.cell? (ad.add (o + k)) = some (.int .u8 z) := ⟨_, by rw [HAD.out, add_off]; exact z1⟩
                      have zf : wr.frozen? (ad.add (o + k)) = false := by rw [HAD.out, add_off]; exact z2
                      have hyn := HY.out.put x (by rw [hlen]) hrow (z3 x)
                      rw [ovL_succ _ _ _ _ _ hxl (by rw [HX1.out]; have := hbd k hk1; omega)] at hyn
                      have HYN : Aside0 (BY w (wr.setCell (ad.add (o + k)) (.int .u8 (x.toNat : Int))) g bN bM b2 g8 (m + 1) (putF (putF (fun _ => none) 1 b) 2 b2) D' (.slice (some ⟨kb, 0, none⟩) (D.size + j) cap) (ovL (D.data.toList ++ List.replicate j 0) o s.data.toList (k + 1))) := ⟨by rw [HAD.out, add_off]; exact hyn⟩
                      have wq2 : IntKind.i64.wrap ((o : Int) + (k : Int)) = ((o + k : Nat) : Int) := by rw [IntKind.wrap_i64]; omega
                      have hb1 := hbd k hk1
                      have hb0 : (0 : Int) ≤ ((o + k : Nat) : Int) := by omega
                      have HK2 := Lib.hid hk
                      clear hyn z1 z2 z3 hlen hrow hge HY hxl hk
                      go_wp2_with fail
                      go_roundg gk
                      case measure => omega
                      case rel => exact ⟨k + 1, by have := HK2.out; omega, by go_num, ⟨HYN.out⟩⟩
                | succ gk =>
                  have hc : ((D.size + j : Nat) : Int) < (o : Int) + (s.size : Int) := by omega
                  clear hj hN
                  go_wp2_with (first
                    | ((with_reducible refine gate_dst (N := 89) rfl ?_); refine Lb.alloc_event ?hg (v := fun g => .slice (some ⟨g, 0, none⟩) 1 1) (cs := #[.int .u8 0]) (t := 5) (fr := (0, 0)) ?hr ?_; (case hg => rfl); (case hr => first | (go_simp; done) | (go_simp; rfl)); intro g89 hg89 w9 hx hb; have HZ := Aside0.mk hx; have HY9 := Aside0.mk (HY.out.step hb); clear hx hb hg89)
                    | (at_builtin; refine app_zero rfl (.tmp 88) (.tmp 89) rfl HY9.out (by simp; omega) rfl rfl HZ.out ?_; intro v' w10 hy; have HY10 := Aside0.mk hy; clear hy))
                  go_roundg gk
                  case measure => omega
                  case rel => exact ⟨j + 1, by have := HJ.out; omega, ⟨by rw [List.replicate_succ', ← List.append_assoc]; exact HY10.out⟩⟩
  case rest =>
    clear HY
    obtain ⟨D, m, hm, hD, HY⟩ := hcut
    obtain ⟨A, cap, hv, _⟩ := own_slice HY.out.row
    have hN0 : D.data.toList.length = D.size := by rw [← Lib.size_eq]
    rw [hN0] at hv
    subst hv
    apply_assumption
    refine wp_seq_k ?_
    intro K1 hK1
    go_cut [2] (fun s2 wx => wx = wc ∧ ∃ C : Nat, C ≤ 4000 ∧ s2 = .int .i64 C)
    case first =>
      by_cases h1 : cut < 0
      · go_wp2_with fail
        go_meet
        exact ⟨rfl, 100, by decide, rfl⟩
      · by_cases h2 : 4000 < cut
        · go_wp2_with fail
          go_meet
          exact ⟨rfl, 100, by decide, rfl⟩
        · obtain ⟨C, hC⟩ : ∃ C : Nat, cut = C := ⟨cut.toNat, by omega⟩
          subst hC
          go_wp2_with fail
          go_meet
          exact ⟨rfl, C, by omega, rfl⟩
    case rest =>
      obtain ⟨rfl, C, hC, rfl⟩ := hcut
      have HC := Lib.hid (And.intro hC (And.intro hm hD))
      have HN0 := Lib.hid hN0
      clear hC hm hD hN0
      go_upto_region 25 with (first
        | ((with_reducible refine gate_dst (N := 113) rfl ?_); refine wpList_load_row rfl 29 (.tmp 8) rfl g8 rfl 29 (callC 2) (0, 0) _ HY.out.cl Tryz.underlying29 rfl (by kernel_rfl) ?_)
        | (go_at_call 14; (refine (HY.out.read rfl (by have := HC.out; omega)).mono ?_); rintro e w8 ⟨rfl, hb⟩; have HY8 := Aside0.mk (HY.out.step hb); clear hb HY))
      have hcv : (convert 50 9 (.slice A D.size cap)).run Tryz.prog w8 = .ok (.string D) w8 := by
        have := HY8.out.row.conv
        rw [of_list rfl] at this
        exact this
      have HSA := Lib.hid (HY8.out.sized rfl (by have := HC.out; omega) (by have := HC.out; omega) C (C : Int) rfl (by have := HC.out; omega))
      have hsb : ∀ W, BY w W g bN bM b2 g8 (m + 1) (putF (putF (fun _ => none) 1 b) 2 b2) (cutB D C) (.slice A D.size cap) D.data.toList → Calls Tryz.prog 12 #[.pointer (some ⟨g, 0, none⟩), rootC 2, .int .i64 2, setV false true 0 4000, .slice none 0 0] W fun e w' => e = .returned (.int .i64 0) ∧ BY w w' g bN bM b2 g8 (m + 1 + 1) (putF (putF (fun _ => none) 1 b) 2 b2) (cutB (cutB D C) 4000) (.slice A D.size cap) D.data.toList := fun W h =>
        h.sized rfl (by have := HC.out; omega) (by rw [cutB_size]; have := HC.out; omega) 4000 4000 (by decide) (by decide)
      have HSB := Lib.hid hsb
      clear hsb
      obtain ⟨e0, e1, e2, e3⟩ := call_cells HY8.out.cl
      go_upto_region 27 with (first
        | (go_at_call 12; (with_reducible refine HSA.out.mono ?_); rintro e w9 ⟨rfl, hy⟩; have HY9 := Aside0.mk hy; clear hy e0 e1 e2 e3 hcv; obtain ⟨e0, e1, e2, e3⟩ := call_cells HY9.out.cl)
        | (go_at_call 12; (with_reducible refine (HSB.out _ HY9.out).mono ?_); rintro e w10 ⟨rfl, hy⟩; have HY10 := Aside0.mk hy; clear hy e0 e1 e2 e3))
      obtain ⟨D2, hD2⟩ : ∃ D2, cutB (cutB D C) 4000 = D2 := ⟨_, rfl⟩
      rw [hD2] at HY10
      have HD2 := Lib.hid hD2
      have HD2z : Aside0 (D2.size = 4000) := ⟨by rw [← hD2, cutB_size]⟩
      clear hD2
      go_upto_block 6 with (first
        | ((with_reducible refine gate_dst (N := 146) rfl ?_); refine wpList_load_row rfl 29 (.tmp 8) rfl g8 rfl 29 (callC 2) (0, 0) _ HY10.out.cl Tryz.underlying29 rfl (by kernel_rfl) ?_)
        | (go_at_call 14; (refine (HY10.out.read rfl (by rw [HD2z.out]; decide)).mono ?_); rintro e w11 ⟨rfl, hb⟩; have HY11 := Aside0.mk (HY10.out.step hb); clear hb HY8 HY9 HY10))
      go_wp2_with fail
      go_loopg [11] (4000 - D.size) (fun gk s11 wx => ∃ j : Nat, j + gk = 4000 - D.size ∧ Aside0 (BY w wx g bN bM b2 g8 (m + 1 + 1) (putF (putF (fun _ => none) 1 b) 2 b2) D2 s11 (D.data.toList ++ List.replicate j 0)))
      case atStart => exact ⟨0, by omega, ⟨by simpa using HY11.out⟩⟩
      case round =>
        clear HY11
        obtain ⟨j, hj, HY⟩ := hrel
        obtain ⟨A', cap2, hv, _⟩ := own_slice HY.out.row
        have hN : (D.data.toList ++ List.replicate j (0 : UInt8)).length = D.size + j := by simp
        rw [hN] at hv
        subst hv
        have HJ := Lib.hid hj
        cases gk with
        | succ gk =>
          have hc : ((D.size + j : Nat) : Int) < 4000 := by omega
          clear hj hN
          go_wp2_with (first
            | ((with_reducible refine gate_dst (N := 156) rfl ?_); refine Lb.alloc_event ?hg (v := fun g => .slice (some ⟨g, 0, none⟩) 1 1) (cs := #[.int .u8 0]) (t := 5) (fr := (0, 0)) ?hr ?_; (case hg => rfl); (case hr => first | (go_simp; done) | (go_simp; rfl)); intro g89 hg89 w9 hx hb; have HZ := Aside0.mk hx; have HY9 := Aside0.mk (HY.out.step hb); clear hx hb hg89)
            | (at_builtin; refine app_zero rfl (.tmp 155) (.tmp 156) rfl HY9.out (by have := HJ.out; simp; omega) rfl rfl HZ.out ?_; intro v' w10 hy; have HY10 := Aside0.mk hy; clear hy))
          go_roundg gk
          case measure => omega
          case rel => exact ⟨j + 1, by have := HJ.out; omega, ⟨by rw [List.replicate_succ', ← List.append_assoc]; exact HY10.out⟩⟩
        | zero =>
          have hje : j = 4000 - D.size := by omega
          have hjz : D.size + j = 4000 := by have := HC.out; omega
          have hc : ¬ ((D.size + j : Nat) : Int) < 4000 := by omega
          obtain ⟨kb, cap', hv2, hge, hrow, -, -, -⟩ := RowB.cell HY.out.row (j := 0) (by rw [hN]; omega)
          rw [hN] at hv2
          injection hv2 with v1 v2 v3
          subst v1 v3
          obtain ⟨ad, had⟩ : ∃ ad : Addr, ad = ⟨kb, 0, none⟩ := ⟨_, rfl⟩
          have HAD := Lib.hid had
          have HX1 := Lib.hid hN
          have HJE := Lib.hid (And.intro hje hjz)
          rw [← had]
          have hjz4 : ((D.size + j : Nat) : Int) = 4000 := by omega
          clear hj hN hge hrow had hje hjz
          go_wp2_with fail
          go_loopg [22] (4000 - C) (fun gk s22 wx => ∃ k : Nat, k + gk = 4000 - C ∧ s22 = .int .i64 ((C + k : Nat) : Int) ∧ Aside0 (BY w wx g bN bM b2 g8 (m + 1 + 1) (putF (putF (fun _ => none) 1 b) 2 b2) D2 (.slice (some ⟨kb, 0, none⟩) (D.size + j) cap2) (ovL (D.data.toList ++ List.replicate j 0) C (List.replicate 4000 0) k)))
          case atStart => exact ⟨0, by omega, rfl, ⟨by rw [ovL_zero]; exact HY.out⟩⟩
          case round =>
            clear HY
            obtain ⟨k, hk, rfl, HY⟩ := hrel
            cases gk with
            | zero =>
              have hkc : ¬ (((C + k : Nat) : Int) < 4000) := by have := HC.out; omega
              have hks : k = 4000 - C := by omega
              have hfin : (convert 50 9 (.slice (some ad) (D.size + j) cap2)).run Tryz.prog wr = .ok (.string D2) wr := by
                have h1 := HY.out.row.conv
                rw [of_list (D := D2) (by rw [hks, HJE.out.1, ← fin_list D C (by have := HC.out; omega) HC.out.1, HD2.out])] at h1
                rw [HAD.out]
                exact h1
              clear hk hks
              go_wp2_with fail
              go_ret
              exact ⟨rfl, HY.out.bel⟩
            | succ gk =>
              have hkk : C + k < 4000 := by omega
              have hkc : (((C + k : Nat) : Int) < 4000) := by omega
              have hk0 : (0 : Int) ≤ ((C + k : Nat) : Int) := by omega
              have hlen : (ovL (D.data.toList ++ List.replicate j (0 : UInt8)) C (List.replicate 4000 0) k).length = D.size + j := by
                have h1 := HX1.out
                have h2 := HJE.out.2
                unfold ovL
                rw [List.length_append, List.length_append, List.length_take, List.length_take, List.length_drop, h1, List.length_replicate]
                omega
              obtain ⟨kb', cap3, hv3, hge, hrow, z1, z2, z3⟩ := RowB.cell HY.out.row (j := C + k) (by rw [hlen]; have := HJE.out.2; omega)
              rw [hlen] at hv3
              have v1 : kb = kb' := by
                injection hv3 with v1 _ _
                injection v1 with v1
                injection v1
              subst v1
              clear hv3
              obtain ⟨z, zz⟩ : ∃ z : Int, wr.cell? (ad.add (C + k)) = some (.int .u8 z) := ⟨_, by rw [HAD.out, add_off]; exact z1⟩
              have zf : wr.frozen? (ad.add (C + k)) = false := by rw [HAD.out, add_off]; exact z2
              have hyn := HY.out.put 0 (by rw [hlen]) hrow (z3 0)
              rw [ovL_succ _ _ _ _ _ (by rw [List.getElem?_replicate, if_pos (by omega)]) (by rw [HX1.out]; have := HJE.out.2; omega)] at hyn
              have HYN : Aside0 (BY w (wr.setCell (ad.add (C + k)) (.int .u8 0)) g bN bM b2 g8 (m + 1 + 1) (putF (putF (fun _ => none) 1 b) 2 b2) D2 (.slice (some ⟨kb, 0, none⟩) (D.size + j) cap2) (ovL (D.data.toList ++ List.replicate j 0) C (List.replicate 4000 0) (k + 1))) := ⟨by rw [HAD.out, add_off]; exact hyn⟩
              have hb1 : ((C + k : Nat) : Int) < ((D.size + j : Nat) : Int) := by have := HJE.out.2; omega
              have wq2 : IntKind.i64.wrap (((C + k : Nat) : Int) + 1) = ((C + (k + 1) : Nat) : Int) := by rw [IntKind.wrap_i64]; omega
              have HK2 := Lib.hid hk
              clear hyn z1 z2 z3 hlen hrow hge HY hk
              go_wp2_with fail
              go_roundg gk
              case measure => omega
              case rel => exact ⟨k + 1, by have := HK2.out; omega, by go_num, ⟨HYN.out⟩⟩
end Go.Proofs.YtlnfadlgjcnngaaGreat.Co
