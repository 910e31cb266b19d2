/- The records behind a checkpoint: the walk. -/
import Derived.Test.YtfiocakhgpdlfaaDoorHf
import Derived.Deep.QuietTactic
import Derived.BigQuiet
namespace Go.Proofs.YtfiocakhgpdlfaaDoor.Sg
open Go.RowKit Go.Lib Go.Proofs.YtfiocakhgpdlfaaDoor.Ap Go.Proofs.YtfiocakhgpdlfaaDoorW.PrintWords Go.Proofs.YtfiocakhgpdlfaaDoorW.PrintLast Go.Proofs.YtfiocakhgpdlfaaDoorW.PrintMore
set_option linter.unusedVariables false
set_option linter.unusedSimpArgs false

theorem FU.cells {BD B : Nat} {w0 w : World} {gl gd : Nat} {d : Dk} {l : Lg} {k n cap m : Nat} {pre : List Seg} {id used seq : Nat} {v : Value} {out : List Rec} (h : FU BD B w0 w gl gd d l (.slice (some ⟨k, 0, none⟩) n cap) pre id used seq v out) (hm : m = pre.length) :
    w.cell? ⟨k, m * 2, none⟩ = some (.int .i64 id) ∧ w.cell? ⟨k, m * 2 + 1, none⟩ = some (.int .i64 used) ∧ w.cell? ⟨gl, 1, none⟩ = some (.int .i64 l.cp.boot) ∧ w.cell? ⟨gl, 2, none⟩ = some (.int .i64 seq) ∧ w.cell? ⟨gl, 4, none⟩ = some (.pointer (some ⟨gd, 0, none⟩)) := by
  subst hm
  obtain ⟨k', cap', e, _, q0, q1⟩ := h.log.segs.at pre.length (by simp)
  injection e with e1 e2 e3
  injection e1 with e1
  injection e1 with e1 _ _
  subst e1
  simp only [List.getElem_append_right (Nat.le_refl _), Nat.sub_self, List.getElem_cons_zero] at q0 q1
  obtain ⟨-, c1, c2, -, c4, -⟩ := h.log.cells
  exact ⟨q0, q1, c1, c2, c4⟩

theorem record_gen (BD B gl gd : Nat) (d : Dk) (id U : Nat) (S0 I0 N BT : Int) (X : ByteArray) {w0 : World} {l : Lg} {k n cap : Nat} {pre : List Seg} {used seq : Nat} {v : Value} {out : List Rec} (w : World) (h : FU BD B w0 w gl gd d l (.slice (some ⟨k, 0, none⟩) n cap) pre id used seq v out) (hoff : d.off = false) (ha : U ≤ 16) (hid : 2 + id * 16 + 16 ≤ d.now.length)
    (hv : recV (recOf (segOf d.now id) U 16) id = .tuple #[.agg #[.int .i64 S0, .int .i64 I0, .string X], .int .i64 N, .int .i64 BT, .int .i64 0]) :
    Calls Tryd.prog 61 #[.pointer (some ⟨gl, 0, none⟩), .int .i64 id, .int .i64 U, .int .i64 16] w fun e' w' => e' = .returned (.tuple #[.agg #[.int .i64 S0, .int .i64 I0, .string X], .int .i64 N, .int .i64 BT, .int .i64 0]) ∧ Below w.heap.size w w' := by
  have h := record_calls BD gl gd d id U 16 w h.dk hoff (h.cells rfl).2.2.2.2 (Nat.le_refl _) ha hid
  rw [hv] at h; exact h

set_option maxRecDepth 100000 in
set_option maxHeartbeats 8000000 in
theorem further_calls (BD B gl gd : Nat) (d : Dk) (l : Lg) (vS v : Value) (pre : List Seg) (id used : Nat) (out : List Rec) (R : Nat × Nat × List Rec) (w : World) (hl : LRaw B w gl gd l vS) (hsg : l.cp.segs = pre ++ [⟨id, used⟩]) (hn : pre.length ≤ 63)
    (hd : DAt BD w gd d) (hB : B ≤ w.heap.size) (hoff : d.off = false) (hid : 2 + id * 16 + 16 ≤ d.now.length) (hu : used ≤ 16) (hseq : l.cp.seq ≤ top) (hr : RecsAt B w v out) (ho : out.length ≤ 100000) (hR : further (segOf d.now id) l.cp.boot id 17 used l.cp.seq out = R) :
    Calls Tryd.prog 37 #[.pointer (some ⟨gl, 0, none⟩), v] w fun e w' => ∃ v', e = .returned (.tuple #[v', .int .i64 0]) ∧ RecsAt B w' v' R.2.2 ∧ LRaw B w' gl gd ⟨{ l.cp with seq := R.2.1, segs := pre ++ [⟨id, R.1⟩] }, l.place⟩ vS ∧ DAt BD w' gd d ∧ Below B w w' := by
  obtain ⟨⟨serial, boot, seq, segs⟩, place⟩ := l
  subst hsg
  simp only at hn hseq hR hl ⊢
  have HK : Aside0 (FU BD B w w gl gd d ⟨⟨serial, boot, seq, pre ++ [⟨id, used⟩]⟩, place⟩ vS pre id used seq v out) := ⟨⟨hl, hr, hd, Below.refl B w, hB⟩⟩
  obtain ⟨k, cap, rfl, hBk, q0, q1⟩ := hl.segs.at pre.length (by simp)
  obtain ⟨c0, c1, c2, c3, c4, -⟩ := hl.cells
  simp only [List.length_append, List.length_cons, List.length_nil, Nat.zero_add] at c3 HK hl
  simp only [List.getElem_append_right (Nat.le_refl _), Nat.sub_self, List.getElem_cons_zero] at q0 q1
  obtain ⟨m, hm⟩ : ∃ m, m = pre.length := ⟨_, rfl⟩
  have HM := Aside0.mk hm
  have HL2 : Aside0 (m + 1 = (pre ++ [(⟨id, used⟩ : Seg)]).length) := ⟨by rw [hm]; simp⟩
  have HOFF := Aside0.mk hoff
  have HR := Aside0.mk hR
  have HO := Aside0.mk ho
  have HID := Aside0.mk hid
  have HLS := Aside0.mk hl.segs
  rw [← hm] at c3 q0 q1 hn HK HLS
  clear hm hl hd hoff hid hr ho hR
  go_enter Tryd.func37, Tryd.ntmps37
  go_wp2_with (first
    | (go_at_call 42; (with_reducible refine (last_calls B _ _ _ k (m + 1) cap (pre ++ [⟨id, used⟩]) _ HLS.out (by rw [HM.out]; simp) (by omega) (by omega)).mono ?_); rintro e w1 ⟨rfl, hb⟩; replace HK := Aside0.mk (HK.out.step hb); clear hb c0 c1 c2 c3 c4 q0 q1))
  go_loopg [1] 18 (fun gk s1 wr => ∃ (f used' seq' : Nat) (out' : List Rec), f + 1 = gk ∧ Aside0 (FU BD B w wr gl gd d ⟨⟨serial, boot, seq, pre ++ [⟨id, used⟩]⟩, place⟩ (.slice (some ⟨k, 0, none⟩) (m + 1) cap) pre id used' seq' s1 out') ∧ Aside0 (further (segOf d.now id) boot id f used' seq' out' = R) ∧ Aside0 (used' ≤ 16 ∧ seq' ≤ top ∧ 17 ≤ used' + f ∧ out'.length ≤ 100000 + used'))
  case atStart => exact ⟨17, used, seq, out, rfl, HK, HR, ⟨hu, hseq, by omega, by have := HO.out; omega⟩⟩
  case round =>
    obtain ⟨f, U, S, O, hf, HK2, HR2, HB⟩ := hrel
    obtain ⟨hU, hS, hUf, hO⟩ := HB.out
    obtain ⟨f', rfl⟩ : ∃ f', f = f' + 1 := ⟨f - 1, by omega⟩
    subst hf
    obtain ⟨q0, q1, c1, c2, c4⟩ := HK2.out.cells HM.out
    by_cases hlt : S < top
    · have hlti : (S : Int) < 1152921504606846976 := by unfold top at hlt; omega
      have HF : Aside0 (further (segOf d.now id) boot id (f' + 1) U S O = R) := HR2
      obtain ⟨S0, I0, N, BT, X, hV⟩ : ∃ (S0 I0 N BT : Int) (X : ByteArray), recV (recOf (segOf d.now id) U 16) id = .tuple #[.agg #[.int .i64 S0, .int .i64 I0, .string X], .int .i64 N, .int .i64 BT, .int .i64 0] := by
        cases recOf (segOf d.now id) U 16 with
        | none => exact ⟨_, _, _, _, _, rfl⟩
        | some pb => exact ⟨_, _, _, _, _, rfl⟩
      have HV := Aside0.mk hV
      have HU := Aside0.mk hU
      clear hV
      go_wp2
      go_cut [7, 8, 9, 10] (fun s7 s8 s9 s10 wx => ∃ g7 : Nat, s7 = .pointer (some ⟨g7, 0, none⟩) ∧ s8 = .int .i64 N ∧ s9 = .int .i64 BT ∧ s10 = .int .i64 0 ∧ Aside0 (wx.heap[g7]? = some (.cells #[.int .i64 S0, .int .i64 I0, .string X] 34 (0, 0))) ∧ Aside0 (Below wr.heap.size wr wx))
      case first =>
        have HB3 := Aside0.mk (Lb.below_drew wr)
        have HKC : Aside0 (∀ w' : World, Below wr.heap.size wr w' → w'.cell? ⟨k, m * 2, none⟩ = some (.int .i64 id) ∧ w'.cell? ⟨k, m * 2 + 1, none⟩ = some (.int .i64 U)) := ⟨fun w' hb => ⟨((HK2.out.step hb).cells HM.out).1, ((HK2.out.step hb).cells HM.out).2.1⟩⟩
        obtain ⟨q0, q1⟩ := HKC.out _ HB3.out
        go_region_held3 (fun w' => w'.cell? ⟨k, m * 2, none⟩ = some (.int .i64 id) ∧ w'.cell? ⟨k, m * 2 + 1, none⟩ = some (.int .i64 U)) (first | exact HKC.out _ HB3.out | exact HKC.out _ (below_step HB3.out (below_alloc (Below.refl _ _) _)) | exact HKC.out _ (below_step (below_alloc (Below.refl _ wr) _) (Lb.below_drew _)) | exact HKC.out _ (Lb.grown_below HB3.out (put3 HP.out).2 HB3.out.size HGP.out)) (first
          | (go_at_call 61; (first
            | ((with_reducible refine (record_gen BD B gl gd d id U S0 I0 N BT X _ (HK2.out.step HB3.out) HOFF.out HU.out HID.out HV.out).mono ?_); rintro e w5 ⟨rfl, hb⟩; replace HB3 := Aside0.mk (below_step HB3.out hb); clear hb)
            | ((with_reducible refine (record_gen BD B gl gd d id U S0 I0 N BT X _ (HK2.out.step (below_step HB3.out (below_alloc (Below.refl _ _) (.cells #[.int .i64 0, .int .i64 0, .string ⟨#[]⟩] 34)))) HOFF.out HU.out HID.out HV.out).mono ?_); rintro e w5 ⟨rfl, hb⟩; have HP := Aside0.mk (Lb.blk_below (blk_new _ _) hb); have HGP := Aside0.mk HB3.out.size; replace HB3 := Aside0.mk (below_step (below_step HB3.out (below_alloc (Below.refl _ _) _)) hb); have p0 := (blk_cell HP.out 0).trans rfl; have p1 := (blk_cell HP.out 1).trans rfl; have p2 := (blk_cell HP.out 2).trans rfl; have f0 := blk_free HP.out 0; have f1 := blk_free HP.out 1; have f2 := blk_free HP.out 2; clear hb)
            | ((with_reducible refine (record_gen BD B gl gd d id U S0 I0 N BT X _ (HK2.out.step (below_step (below_alloc (Below.refl _ wr) (.cells #[.int .i64 0, .int .i64 0, .string ⟨#[]⟩] 34)) (Lb.below_drew _))) HOFF.out HU.out HID.out HV.out).mono ?_); rintro e w5 ⟨rfl, hb⟩; have HP := Aside0.mk (Lb.blk_below (Lb.blk_below (blk_new wr _) (Lb.below_drew _)) hb); have HGP := Aside0.mk (Nat.le_refl wr.heap.size); replace HB3 := Aside0.mk (below_step (below_step (below_alloc (Below.refl _ wr) _) (Lb.below_drew _)) hb); have p0 := (blk_cell HP.out 0).trans rfl; have p1 := (blk_cell HP.out 1).trans rfl; have p2 := (blk_cell HP.out 2).trans rfl; have f0 := blk_free HP.out 0; have f1 := blk_free HP.out 1; have f2 := blk_free HP.out 2; clear hb))))
        all_goals
          go_wp2_with fail
          go_meet
          first
            | exact ⟨_, rfl, rfl, rfl, rfl, ⟨(put3 HP.out).1⟩, ⟨Lb.grown_below HB3.out (put3 HP.out).2 HB3.out.size HGP.out⟩⟩
            | exact ⟨_, rfl, rfl, rfl, rfl, ⟨blk_new _ _⟩, ⟨below_step HB3.out (below_alloc (Below.refl _ _) _)⟩⟩
      case rest =>
        obtain ⟨g7, rfl, rfl, rfl, rfl, HX, HBX⟩ := hcut
        have hV := HV.out
        have e0 := (blk_cell HX.out 0).trans rfl
        obtain ⟨-, -, c1, c2, -⟩ := (HK2.out.step HBX.out).cells HM.out
        cases hrec : recOf (segOf d.now id) U 16 with
        | none =>
          rw [hrec] at hV
          simp only [recV, Value.tuple.injEq, Array.mk.injEq, List.cons.injEq, Value.agg.injEq, Value.int.injEq, Value.string.injEq, true_and, and_true] at hV
          have hHR := Aside0.mk hrec
          obtain ⟨⟨rfl, rfl, rfl⟩, rfl, rfl⟩ := hV
          clear hrec
          have HRR : Aside0 (R = (U, S, O)) := ⟨by have := HF.out; rw [further, if_neg (by omega), hHR.out] at this; exact this.symm⟩
          go_wp2
          go_quiet (fail)
          have HK3 := Aside0.mk (HK2.out.step (below_step HBX.out (bel_drewN _ nq)))
          clear e0
          go_wp2
          go_ret2
          rw [HRR.out]
          first
            | exact ⟨_, rfl, HK3.out.recs, HK3.out.log, HK3.out.dk, HK3.out.bel⟩
            | (rw [← HL2.out]; exact ⟨_, rfl, HK3.out.recs, HK3.out.log, HK3.out.dk, HK3.out.bel⟩)
        | some pb =>
          obtain ⟨⟨pboot, pseq, pn, pof, pbody⟩, b⟩ := pb
          obtain ⟨gr1, gr2, gr3, gr4⟩ := recOf_some hrec
          have gr5 := gr1.le.1
          simp only at gr1 gr2 gr3 gr4 gr5
          rw [hrec] at hV
          simp only [recV, Value.tuple.injEq, Array.mk.injEq, List.cons.injEq, Value.agg.injEq, Value.int.injEq, Value.string.injEq, true_and, and_true] at hV
          have hHR := Aside0.mk hrec
          obtain ⟨⟨rfl, rfl, rfl⟩, rfl, rfl⟩ := hV
          have g1 : ¬ ((pof : Int) = 0) := by omega
          have g1b : ((pof : Int) == 0) = false := by simpa using g1
          clear hrec gr1
          by_cases hb : pboot = boot
          · subst hb
            by_cases hs : pseq = S
            · subst hs
              have HFU : Aside0 (further (segOf d.now id) pboot id f' (U + pof) (pseq + 1) (O ++ [⟨pseq, id, b⟩]) = R) := ⟨by have := HF.out; rw [further, if_neg (by omega), hHR.out] at this; simpa using this⟩
              go_wp2
              go_quiet (fail)
              have HK3 := Aside0.mk (HK2.out.step (below_step HBX.out (bel_drewN _ nq)))
              have HX3 := Aside0.mk (Lb.blk_below HX.out (bel_drewN _ nq))
              have e0 := (blk_cell HX3.out 0).trans rfl
              have e1 := (blk_cell HX3.out 1).trans rfl
              have e2 := (blk_cell HX3.out 2).trans rfl
              have HLEN : Aside0 (O.length + 1 ≤ 1000000000) := ⟨by omega⟩
              have HB0 := Aside0.mk HB.out
              have HGR := Aside0.mk (And.intro gr2 gr5)
              have HLT := Aside0.mk hlt
              have hUi : (U : Int) + (pof : Int) ≤ 100 := by omega
              have hUi2 : (0 : Int) ≤ (U : Int) + (pof : Int) := by omega
              clear q0 q1 c1 c2 c4
              go_wp2_with (first
                | ((with_reducible refine gate_dst (N := 63) rfl ?_); refine Lb.alloc_event ?hg (v := fun g => .slice (some ⟨g, 0, none⟩) 1 1) (cs := #[.int .i64 pseq, .int .i64 id, .string (toB b)]) (t := 34) (fr := (0, 0)) ?hr ?_; (case hg => rfl); (case hr => first | (go_simp; done) | (go_simp; rfl)); intro g3 hg3 w3 hx hb; have HNB : Aside0 (NewBlk (wc.drewN nq) w3 g3 #[.int .i64 pseq, .int .i64 id, .string (toB b)] 34) := ⟨⟨hx, hb⟩⟩; clear hx hb hg3)
                | (at_builtin; refine app_event (w0 := wc.drewN nq) rfl (.tmp 61) (.tmp 63) 30 34 _ 3 32 rfl Tryd.underlying30 rec_info rfl (by decide) (by decide) (B := B) (n := _) (m := 1) (v := _) (xs := _) (news := [.int .i64 pseq, .int .i64 id, .string (toB b)]) rfl HK3.out.recs HNB.out rfl rfl (by simp [Value.oneCell']) HK3.out.le HLEN.out ?_; intro v' w4 ha; have HK4 := Aside0.mk (HK3.out.app (x := ⟨pseq, id, b⟩) ha); obtain ⟨-, q1, -, c2, -⟩ := HK4.out.cells HM.out; clear ha e0 e1 e2)
                | ((with_reducible refine gate_store (t := 3) (p := 72) rfl ?_); obtain ⟨row, r1, r2, -, -, -⟩ := HK4.out.log.segs.setUsed (u' := U + pof); rw [← HM.out] at r2; refine Lb.store_one rfl rfl 3 (.tmp 72) (.tmp 70) rfl (g := k) (off := m * 2 + 1) (u := .int .i64 ((U : Int) + (pof : Int))) rfl rfl rfl rfl r1 (by kernel_rfl) r2 ?_; intro w5 hb hg; rw [← Int.natCast_add, HM.out] at hb; have HK5 := Aside0.mk (HK4.out.used r1 hb hg); clear hb hg r1 r2 q1 c2 HK4; obtain ⟨-, -, -, c2, -⟩ := HK5.out.cells HM.out)
                | ((with_reducible refine gate_store (t := 3) (p := 81) rfl ?_); refine Lb.store_one rfl rfl 3 (.tmp 81) (.tmp 78) rfl (g := gl) (off := 2) (u := .int .i64 ((pseq : Int) + 1)) rfl rfl rfl rfl HK5.out.log.blk (by kernel_rfl) (show 2 < 6 by decide) ?_; intro w6 hb hg; have HK6 := Aside0.mk (HK5.out.seq (seq' := pseq + 1) hb hg); clear hb hg c2))
              go_roundg (f' + 1)
              case measure => omega
              case rel => exact ⟨f', U + pof, pseq + 1, _, rfl, HK6, HFU, ⟨by have := HGR.out; have := HB0.out; have := HLT.out; rw [List.length_append]; simp only [List.length_cons, List.length_nil]; omega⟩⟩
            · have hs1 : ¬ ((pseq : Int) = (S : Int)) := by omega
              have hs2 : ((pseq : Int) == (S : Int)) = false := by simpa using hs1
              have hs3 : (pseq == S) = false := by simpa using hs
              have hs4 : (pseq != S) = true := by simpa using hs
              have hs5 : ((pseq : Int) != (S : Int)) = true := by simpa using hs1
              have HRR : Aside0 (R = (U, S, O)) := ⟨by have := HF.out; rw [further, if_neg (by omega), hHR.out] at this; simp only [true_and] at this; rw [if_neg hs] at this; exact this.symm⟩
              go_wp2
              go_quiet (fail)
              have HK3 := Aside0.mk (HK2.out.step (below_step HBX.out (bel_drewN _ nq)))
              clear e0
              go_wp2
              go_ret2
              rw [HRR.out]
              first
                | exact ⟨_, rfl, HK3.out.recs, HK3.out.log, HK3.out.dk, HK3.out.bel⟩
                | (rw [← HL2.out]; exact ⟨_, rfl, HK3.out.recs, HK3.out.log, HK3.out.dk, HK3.out.bel⟩)
          · have hs1 : ¬ ((pboot : Int) = (boot : Int)) := by omega
            have hs2 : ((pboot : Int) == (boot : Int)) = false := by simpa using hs1
            have hs3 : (pboot == boot) = false := by simpa using hb
            have hs4 : (pboot != boot) = true := by simpa using hb
            have hs5 : ((pboot : Int) != (boot : Int)) = true := by simpa using hs1
            have HRR : Aside0 (R = (U, S, O)) := ⟨by have := HF.out; rw [further, if_neg (by omega), hHR.out] at this; simp only at this; rw [if_neg (fun h => hb h.1)] at this; exact this.symm⟩
            go_wp2
            go_quiet (fail)
            have HK3 := Aside0.mk (HK2.out.step (below_step HBX.out (bel_drewN _ nq)))
            clear e0
            go_wp2
            go_ret2
            rw [HRR.out]
            first
              | exact ⟨_, rfl, HK3.out.recs, HK3.out.log, HK3.out.dk, HK3.out.bel⟩
              | (rw [← HL2.out]; exact ⟨_, rfl, HK3.out.recs, HK3.out.log, HK3.out.dk, HK3.out.bel⟩)
    · have hlti : ¬ ((S : Int) < 1152921504606846976) := by unfold top at hlt; omega
      have hRR : R = (U, S, O) := by have := HR2.out; rw [further, if_pos (by omega)] at this; exact this.symm
      have HRR := Aside0.mk hRR
      clear hRR
      go_wp2
      go_ret2
      rw [HRR.out, ← HM.out]
      exact ⟨_, rfl, HK2.out.recs, HK2.out.log, HK2.out.dk, HK2.out.bel⟩
end Go.Proofs.YtfiocakhgpdlfaaDoor.Sg
