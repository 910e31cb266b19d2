/- Boot, Free, Fits. Format. Free and Fits of a log. Clone of segments. Segments of a log. Open, taken apart (plain). -/
import Derived.Test.YtfiocakhgpdlfaaDoorG27
import Derived.Deep.QuietTactic
import Derived.BigQuiet
import Derived.Deep.RegionHeld3
namespace Go.Proofs.YtfiocakhgpdlfaaDoor.Sg
open Go.RowKit Go.Lib Go.Proofs.YtfiocakhgpdlfaaDoor.Ap Go.Proofs.YtfiocakhgpdlfaaDoorW.PrintWords Go.Proofs.YtfiocakhgpdlfaaDoorW.PrintLast Go.Proofs.YtfiocakhgpdlfaaDoorW.PrintMore
set_option linter.unusedVariables false
set_option linter.unusedSimpArgs false

theorem boot_calls (B gl gd : Nat) (l : Lg) (vS : Value) (w : World) (hl : LRaw B w gl gd l vS) :
    Calls Tryd.prog 14 #[.pointer (some ⟨gl, 0, none⟩)] w fun e w' => e = .returned (.int .i64 l.cp.boot) ∧ w = w' := by
  obtain ⟨-, c1, -, -, -, -⟩ := hl.cells
  clear hl
  go_enter Tryd.func14, Tryd.ntmps14
  go_wp2
  go_ret
  exact ⟨rfl, rfl⟩
theorem boot_nil (w : World) :
    Calls Tryd.prog 14 #[.pointer none] w fun e w' => e = .returned (.int .i64 0) ∧ w = w' := by
  go_enter Tryd.func14, Tryd.ntmps14
  go_wp2
  go_ret
  exact ⟨rfl, rfl⟩
theorem free_nil (w : World) :
    Calls Tryd.prog 29 #[.pointer none] w fun e w' => e = .returned (.int .i64 0) ∧ w = w' := by
  go_enter Tryd.func29, Tryd.ntmps29
  go_wp2
  go_ret
  exact ⟨rfl, rfl⟩
theorem segments_nil (w : World) :
    Calls Tryd.prog 28 #[.pointer none] w fun e w' => e = .returned (.slice none 0 0) ∧ w = w' := by
  go_enter Tryd.func28, Tryd.ntmps28
  go_wp2
  go_ret
  exact ⟨rfl, rfl⟩
theorem drop_nil (id : Int) (w : World) :
    Calls Tryd.prog 17 #[.pointer none, .int .i64 id] w fun e w' => e = .returned (.int .i64 1) ∧ Below w.heap.size w w' := by
  go_enter Tryd.func17, Tryd.ntmps17
  go_wp2_with (first
    | ((with_reducible refine gate_dst (N := 3) rfl ?_); refine box_event ?hg (N := 3) ?hd (cs := #[.int .i64 id]) (t := 3) ?hr ?_; (case hd => rfl); (case hg => rfl); (case hr => first | (go_simp; done) | (go_simp; rfl)); intro g3 hg3 w1 hx hb; have HB1 := Aside0.mk hb; clear hx hb hg3))
  go_ret
  exact ⟨rfl, HB1.out⟩
set_option maxRecDepth 100000 in
theorem append_nil (s : ByteArray) (w : World) :
    Calls Tryd.prog 12 #[.pointer none, .string s] w fun e w' => e = .returned (.tuple #[.agg #[.int .i64 0, .int .i64 0, .string ⟨#[]⟩], .int .i64 1]) ∧ Below w.heap.size w w' := by
  go_enter Tryd.func12, Tryd.ntmps12
  go_wp2_with (first
    | ((with_reducible refine gate_dst (N := 4) rfl ?_); refine Lb.alloc_event ?hg (v := fun g => .pointer (some ⟨g, 0, none⟩)) (cs := #[.int .i64 0, .int .i64 0, .string ⟨#[]⟩]) (t := 34) (fr := (0, 0)) ?hr ?_; (case hg => rfl); (case hr => first | (go_simp; done) | (go_simp; rfl)); intro g4 hg4 w1 hx hb; have HX1 := Aside0.mk hx; have HB1 := Aside0.mk hb; have HG1 := Aside0.mk hg4; clear hx hb hg4)
    | ((with_reducible refine gate_store (t := 34) (p := 4) rfl ?_); refine Lb.store_whole rfl rfl 34 (.tmp 4) (.tmp 18) rfl (new := #[.int .i64 0, .int .i64 0, .string ⟨#[]⟩]) rfl rfl HX1.out rfl (by kernel_rfl) (by simp [Value.oneCell']) ?_; intro w2 hb hg; have HX2 := Aside0.mk hb; have HB2 := Aside0.mk (Lb.grown_below HB1.out hg HB1.out.size (by have := HG1.out; omega)); clear hb hg))
  have v0 := (blk_cell HX2.out 0).trans rfl
  have v1 := (blk_cell HX2.out 1).trans rfl
  have v2 := (blk_cell HX2.out 2).trans rfl
  exact bodyPost_ret (v := .tuple #[.agg #[.int .i64 0, .int .i64 0, .string ⟨#[]⟩], .int .i64 1]) (by simp [results, Tryd.results12, go_sem, v0, v1, v2]) rfl ⟨rfl, HB2.out⟩
theorem fits_nil (n : Int) (w : World) :
    Calls Tryd.prog 27 #[.pointer none, .int .i64 n] w fun e w' => e = .returned (.bool false) ∧ Below w.heap.size w w' := by
  go_enter Tryd.func27, Tryd.ntmps27
  go_wp2
  go_quiet (fail)
  go_wp2
  go_ret
  exact ⟨rfl, bel_drewN _ _⟩
end Go.Proofs.YtfiocakhgpdlfaaDoor.Sg

namespace Go.Proofs.YtfiocakhgpdlfaaDoor.Sg
open Go.RowKit Go.Lib Go.Proofs.YtfiocakhgpdlfaaDoor.Ap Go.Proofs.YtfiocakhgpdlfaaDoorW.PrintWords Go.Proofs.YtfiocakhgpdlfaaDoorW.PrintLast Go.Proofs.YtfiocakhgpdlfaaDoorW.PrintMore
set_option linter.unusedVariables false
set_option linter.unusedSimpArgs false

theorem write_ok_now (d : Dk) (n : Nat) (s : ByteArray) (h : (d.write n s).2 = 0) : (d.write n s).1.now.length = d.now.length := by
  unfold Dk.write at h ⊢
  split
  · rfl
  · split
    · rename_i h1 h2
      rw [if_neg h1, if_pos h2] at h
      cases h
    · simp [Dk.tick, Dk.put]
theorem bytes0_calls (B : Nat) (v : Value) (w : World) (h : SegsAt B w v [⟨0, 0⟩]) :
    Calls Tryd.prog 32 #[.agg #[.int .i64 1, .int .i64 0, .int .i64 0, v]] w fun e w' => e = .returned (.string (toB cp0.bytes)) ∧ Below w.heap.size w w' :=
  bytes_calls B cp0 v w h (by decide) (by decide) (by decide) (by decide) (by simp [cp0])
/-- what is known while a disk is formatted -/
structure FO (B : Nat) (w0 w : World) (g3 g10 gd : Nat) (d : Dk) : Prop where
  dk : DAt B w gd d
  blk : w.heap[g3]? = some (.cells #[.int .i64 1, .int .i64 0, .int .i64 0, .slice (some ⟨g10, 0, none⟩) 1 1] 78 (0, 0))
  segs : SegsAt B w (.slice (some ⟨g10, 0, none⟩) 1 1) [⟨0, 0⟩]
  bel : FrS B w0 w
theorem FO.step {B : Nat} {w0 w w' : World} {g3 g10 gd : Nat} {d : Dk} (h : FO B w0 w g3 g10 gd d) (hb : Below w.heap.size w w') : FO B w0 w' g3 g10 gd d :=
  ⟨h.dk.step hb, Lb.blk_below h.blk hb, h.segs.step hb, h.bel.trans (FrS.of hb h.dk.lt)⟩
theorem FO.disk {B : Nat} {w0 w w' : World} {g3 g10 gd : Nat} {d d' : Dk} (h : FO B w0 w g3 g10 gd d) (hd : DAt B w' gd d') (hf : FrS B w w') : FO B w0 w' g3 g10 gd d' :=
  ⟨hd, hf.frm _ _ _ _ h.blk (by decide) (by decide) (by decide), own_keep h.segs (fun k cs f hr => hf.frm _ _ _ _ hr (by decide) (by decide) (by decide)), h.bel.trans hf⟩
theorem FO.cells {B : Nat} {w0 w : World} {g3 g10 gd : Nat} {d : Dk} (h : FO B w0 w g3 g10 gd d) : w.cell? ⟨g3, 0, none⟩ = some (.int .i64 1) ∧ w.cell? ⟨g3, 1, none⟩ = some (.int .i64 0) ∧ w.cell? ⟨g3, 2, none⟩ = some (.int .i64 0) ∧ w.cell? ⟨g3, 3, none⟩ = some (.slice (some ⟨g10, 0, none⟩) 1 1) :=
  ⟨(blk_cell h.blk 0).trans rfl, (blk_cell h.blk 1).trans rfl, (blk_cell h.blk 2).trans rfl, (blk_cell h.blk 3).trans rfl⟩
theorem segs_one {B : Nat} {w : World} {g a b : Nat} (h : w.heap[g]? = some (.cells #[.int .i64 a, .int .i64 b] 71 (0, 0))) (hB : B ≤ g) : SegsAt B w (.slice (some ⟨g, 0, none⟩) 1 1) [⟨a, b⟩] :=
  ⟨rfl, .inr ⟨g, 1, _, rfl, hB, h, Nat.le_refl _, by decide, rfl, rfl⟩⟩

set_option maxRecDepth 100000 in
theorem format_calls (B gd : Nat) (d D1 D2 D3 : Dk) (r : Int) (w : World) (hd : DAt B w gd d) (h66 : 66 ≤ d.now.length) (hq : d.queue.length ≤ 10) (h1 : (d.write 1 ⟨#[]⟩).1 = D1) (r1 : (d.write 1 ⟨#[]⟩).2 = 0) (h2 : (D1.write 0 (toB cp0.bytes)).1 = D2) (r2 : (D1.write 0 (toB cp0.bytes)).2 = 0) (h3 : D2.flush.1 = D3) (r3 : D2.flush.2 = r) :
    Calls Tryd.prog 10 #[.pointer (some ⟨gd, 0, none⟩)] w fun e w' => e = .returned (.int .i64 r) ∧ DAt B w' gd D3 ∧ FrS B w w' := by
  have hsN : ¬ ((segsN d.now : Int) < 4) := by unfold segsN; omega
  have hsN2 : ¬ (segsN d.now < 4) := by omega
  have HD := Aside0.mk hd
  have q1 := write_len d 1 ⟨#[]⟩
  have q2 := write_len D1 0 (toB cp0.bytes)
  rw [h1] at q1
  rw [h2] at q2
  have HQ : Aside0 (d.queue.length ≤ 1000 ∧ D1.queue.length ≤ 1000 ∧ D2.queue.length ≤ 1000000) := ⟨by omega⟩
  have HL : Aside0 (1 < d.now.length ∧ 0 < D1.now.length) := ⟨by have := write_ok_now d 1 ⟨#[]⟩ r1; rw [h1] at this; omega⟩
  have H1 := Aside0.mk h1
  have R1 := Aside0.mk r1
  have H2 := Aside0.mk h2
  have R2 := Aside0.mk r2
  have H3 := Aside0.mk h3
  have R3 := Aside0.mk r3
  have H66 := Aside0.mk h66
  have HSZ : Aside0 ((toB cp0.bytes).size ≤ 256) := ⟨by decide⟩
  clear hd h66 hq h1 r1 h2 r2 h3 r3 q1 q2
  go_enter Tryd.func10, Tryd.ntmps10
  go_wp2_with (first
    | (go_at_call 30; (with_reducible refine (segments_calls B gd d _ HD.out (by have := H66.out; omega)).mono ?_); rintro e w' ⟨rfl, rfl⟩)
    | ((with_reducible refine gate_dst (N := 10) rfl ?_); refine Lb.alloc_event ?hg (v := fun g => .slice (some ⟨g, 0, none⟩) 1 1) (cs := #[.int .i64 0, .int .i64 0]) (t := 71) (fr := (0, 0)) ?hr ?_; (case hg => rfl); (case hr => first | (go_simp; done) | (go_simp; rfl)); intro g10 hg10 w1 hx hb; have HX1 := Aside0.mk hx; have HB1 := Aside0.mk hb; have HG1 := Aside0.mk hg10; clear hx hb hg10)
    | ((with_reducible refine gate_dst (N := 3) rfl ?_); refine Lb.alloc_event ?hg (v := fun g => .pointer (some ⟨g, 0, none⟩)) (cs := #[.int .i64 0, .int .i64 0, .int .i64 0, .slice none 0 0]) (t := 78) (fr := (0, 0)) ?hr ?_; (case hg => rfl); (case hr => first | (go_simp; done) | (go_simp; rfl)); intro g3 hg3 w2 hx hb; have HX2 := Aside0.mk hx; have HB2 := Aside0.mk hb; have HG2 := Aside0.mk hg3; clear hx hb hg3)
    | ((with_reducible refine gate_store (t := 78) (p := 3) rfl ?_); refine Lb.store_whole rfl rfl 78 (.tmp 3) (.tmp 11) rfl (new := #[.int .i64 1, .int .i64 0, .int .i64 0, .slice (some ⟨g10, 0, none⟩) 1 1]) rfl rfl HX2.out rfl (by kernel_rfl) (by simp [Value.oneCell']) ?_; intro w3 hb hg; have HX3 := Aside0.mk hb; have HB3 := Aside0.mk (Lb.grown_below HB2.out hg HB2.out.size (by have := HG2.out; omega)); have HK : Aside0 (FO B w w3 g3 g10 gd d) := ⟨⟨(HD.out.step HB1.out).step HB3.out, HX3.out, (segs_one HX1.out (by have := HG1.out; have := HD.out.lt; omega)).step HB3.out, (FrS.of HB1.out HD.out.lt).trans (FrS.of HB3.out (HD.out.step HB1.out).lt)⟩⟩; clear hb hg)
    | (go_at_call 32; (with_reducible refine (bytes0_calls B _ _ HK.out.segs).mono ?_); rintro e4 w4 ⟨rfl, hb⟩; replace HK := Aside0.mk (HK.out.step hb); clear hb)
    | (go_at_call 31; (with_reducible refine (write_any B gd 1 1 rfl _ d D1 0 H1.out R1.out _ HK.out.dk HL.out.1 (by decide) HQ.out.1).mono ?_); rintro e5 w5 ⟨rfl, hd5, hf5⟩; replace HK := Aside0.mk (HK.out.disk hd5 hf5); clear hd5 hf5; obtain ⟨b0, b1, b2, b3⟩ := HK.out.cells)
    | (go_at_call 31; (with_reducible refine (write_any B gd 0 0 rfl _ D1 D2 0 H2.out R2.out _ HK.out.dk HL.out.2 HSZ.out HQ.out.2.1).mono ?_); rintro e5 w6 ⟨rfl, hd5, hf5⟩; replace HK := Aside0.mk (HK.out.disk hd5 hf5); clear hd5 hf5 b0 b1 b2 b3)
    | (go_at_call 33; (with_reducible refine (flush_any B gd D2 D3 r H3.out R3.out _ HK.out.dk HQ.out.2.2).mono ?_); rintro e6 w7 ⟨rfl, hd6, hf6⟩; replace HK := Aside0.mk (HK.out.disk hd6 hf6); clear hd6 hf6))
  go_ret
  exact ⟨rfl, HK.out.dk, HK.out.bel⟩
end Go.Proofs.YtfiocakhgpdlfaaDoor.Sg

namespace Go.Proofs.YtfiocakhgpdlfaaDoor.Sg
open Go.RowKit Go.Lib Go.Proofs.YtfiocakhgpdlfaaDoor.Ap Go.Proofs.YtfiocakhgpdlfaaDoorW.PrintWords Go.Proofs.YtfiocakhgpdlfaaDoorW.PrintLast Go.Proofs.YtfiocakhgpdlfaaDoorW.PrintMore
set_option linter.unusedVariables false
set_option linter.unusedSimpArgs false

theorem free_calls (B gl gd : Nat) (d : Dk) (l : Lg) (vS : Value) (w : World) (hl : LRaw B w gl gd l vS) (hd : DAt B w gd d) (h2 : 2 ≤ d.now.length) (hn : l.cp.segs.length ≤ segsN d.now) :
    Calls Tryd.prog 29 #[.pointer (some ⟨gl, 0, none⟩)] w fun e w' => e = .returned (.int .i64 (segsN d.now - l.cp.segs.length : Nat)) ∧ Below w.heap.size w w' := by
  obtain ⟨A, cS, rfl, hcS⟩ := own_slice hl.segs
  obtain ⟨-, -, -, c3, c4, -⟩ := hl.cells
  have HD := Aside0.mk (hd.step (Lb.below_drew w))
  have H2 := Aside0.mk h2
  have hN : segsN d.now ≤ 64 := by unfold segsN; omega
  have HB := Aside0.mk (Lb.below_drew w)
  have HW : Aside0 (IntKind.i64.wrap ((segsN d.now : Int) - (l.cp.segs.length : Int)) = ((segsN d.now - l.cp.segs.length : Nat) : Int)) := ⟨by rw [IntKind.wrap_i64]; omega⟩
  clear hl hd h2
  go_enter Tryd.func29, Tryd.ntmps29
  go_wp2
  go_region_held3 (fun w' => w'.cell? ⟨gl, 4, none⟩ = some (.pointer (some ⟨gd, 0, none⟩)) ∧ w'.cell? ⟨gl, 3, none⟩ = some (.slice A l.cp.segs.length cS)) (exact ⟨c4, c3⟩) (first
    | (go_at_call 30; (with_reducible refine (segments_calls B gd d _ HD.out H2.out).mono ?_); rintro e w' ⟨rfl, rfl⟩))
  all_goals
    go_wp2
    go_ret
    exact ⟨by rw [← HW.out]; rfl, HB.out⟩

set_option maxRecDepth 100000 in
theorem lfits_calls (B gl gd n : Nat) (l : Lg) (vS : Value) (pre : List Seg) (id used : Nat) (w : World) (hl : LRaw B w gl gd l vS) (hsg : l.cp.segs = pre ++ [⟨id, used⟩]) (hn : pre.length ≤ 63) (hu : used ≤ 16) (hsz : n ≤ 1000000000) :
    Calls Tryd.prog 27 #[.pointer (some ⟨gl, 0, none⟩), .int .i64 n] w fun e w' => e = .returned (.bool (fits l n)) ∧ Below w.heap.size w w' := by
  obtain ⟨⟨serial, boot, seq, segs⟩, place⟩ := l
  subst hsg
  have hfit : fits ⟨⟨serial, boot, seq, pre ++ [⟨id, used⟩]⟩, place⟩ n = (decide (n ≤ 3728) && decide (used + partsN n ≤ 16)) := by
    unfold fits lastSeg; simp
  rw [hfit]
  have hn0 : (0 : Int) ≤ (n : Int) := by omega
  by_cases h37 : n ≤ 3728
  · have hp : partsN n ≤ 16 := by unfold partsN; omega
    have h37i : (n : Int) ≤ 3728 := by omega
    obtain ⟨k, cap, rfl, hBk, q0, q1⟩ := hl.segs.at pre.length (by simp)
    obtain ⟨c0, c1, c2, c3, -, -⟩ := hl.cells
    simp only [List.length_append, List.length_cons, List.length_nil, Nat.zero_add] at c3
    simp only [List.getElem_append_right (Nat.le_refl _), Nat.sub_self, List.getElem_cons_zero] at q0 q1
    obtain ⟨m, hm⟩ : ∃ m, m = pre.length := ⟨_, rfl⟩
    have HM := Aside0.mk hm
    have HL := Aside0.mk hl
    have HLS : Aside0 (SegsAt B w (.slice (some ⟨k, 0, none⟩) (m + 1) cap) (pre ++ [⟨id, used⟩])) := ⟨by have := hl.segs; simp only [List.length_append, List.length_cons, List.length_nil, Nat.zero_add] at this; rw [hm]; exact this⟩
    have HQ : Aside0 (∀ w', Below w.heap.size w w' → w'.cell? ⟨k, m * 2 + 1, none⟩ = some (.int .i64 used) ∧ w'.cell? ⟨gl, 0, none⟩ = some (.int .i64 serial) ∧ w'.cell? ⟨gl, 1, none⟩ = some (.int .i64 boot) ∧ w'.cell? ⟨gl, 2, none⟩ = some (.int .i64 seq) ∧ w'.cell? ⟨gl, 3, none⟩ = some (.slice (some ⟨k, 0, none⟩) (m + 1) cap)) := ⟨fun w' hb => by
      obtain ⟨k', cap', e, _, q0', q1'⟩ := (HLS.out.step hb).at pre.length (by simp)
      injection e with e1 e2 e3
      injection e1 with e1
      injection e1 with e1 _ _
      subst e1
      simp only [List.getElem_append_right (Nat.le_refl _), Nat.sub_self, List.getElem_cons_zero] at q1'
      obtain ⟨d0, d1, d2, d3, -, -⟩ := (HL.out.step hb).cells
      simp only [List.length_append, List.length_cons, List.length_nil, Nat.zero_add] at d3
      rw [HM.out]; exact ⟨q1', d0, d1, d2, d3⟩⟩
    have HLE : Aside0 (decide (n ≤ 3728) = true) := ⟨decide_eq_true h37⟩
    rw [← hm] at c3 q0 q1 hn
    clear hm hl hfit
    have HB := Aside0.mk (Lb.below_drew w)
    go_enter Tryd.func27, Tryd.ntmps27
    go_wp2
    have h37d : decide ((n : Int) ≤ 3728) = true := decide_eq_true h37i
    have hle : (used : Int) + (partsN n : Int) ≤ 100 := by omega
    have hle2 : (0 : Int) ≤ (used : Int) + (partsN n : Int) := by omega
    obtain ⟨d1, d2, d3, d4, d5⟩ := HQ.out _ HB.out
    clear c0 c1 c2 c3 q0 q1
    go_region_held3 (fun w' => w'.cell? ⟨k, m * 2 + 1, none⟩ = some (.int .i64 used) ∧ w'.cell? ⟨gl, 0, none⟩ = some (.int .i64 serial) ∧ w'.cell? ⟨gl, 1, none⟩ = some (.int .i64 boot) ∧ w'.cell? ⟨gl, 2, none⟩ = some (.int .i64 seq) ∧ w'.cell? ⟨gl, 3, none⟩ = some (.slice (some ⟨k, 0, none⟩) (m + 1) cap)) (exact HQ.out _ HB.out) (first
      | (go_at_call 42; (with_reducible refine (last_calls B _ _ _ k (m + 1) cap (pre ++ [⟨id, used⟩]) _ (HLS.out.step HB.out) (by rw [HM.out]; simp) (by omega) (by omega)).mono ?_); rintro e w1 ⟨rfl, hb⟩; replace HB := Aside0.mk (below_step HB.out hb); clear hb)
      | (go_at_call 40; (with_reducible refine (parts_calls n (by omega) _).mono ?_); rintro e w1 ⟨rfl, hb⟩; replace HB := Aside0.mk (below_step HB.out hb); clear hb))
    all_goals
      go_wp2
      go_ret
      refine ⟨?_, HB.out⟩
      rw [HLE.out]
      simp
      rw [IntKind.wrap_i64]
      omega
  · have h37i : ¬ ((n : Int) ≤ 3728) := by omega
    clear hl hfit
    go_enter Tryd.func27, Tryd.ntmps27
    go_wp2
    have h37d : decide ((n : Int) ≤ 3728) = false := decide_eq_false (by omega)
    go_quiet (fail)
    go_wp2
    go_ret
    exact ⟨by simp [h37], bel_drewN _ _⟩
end Go.Proofs.YtfiocakhgpdlfaaDoor.Sg

namespace Go.Proofs.YtfiocakhgpdlfaaDoor.Sg
open Go.RowKit Go.Lib Go.Proofs.YtfiocakhgpdlfaaDoor.Ap Go.Proofs.YtfiocakhgpdlfaaDoorW.PrintWords Go.Proofs.YtfiocakhgpdlfaaDoorW.PrintLast Go.Proofs.YtfiocakhgpdlfaaDoorW.PrintMore
set_option linter.unusedVariables false
set_option linter.unusedSimpArgs false

theorem segs_nil_eq (ad : Addr) (n c : Nat) (w : World) : (binOp .eql 67 (.slice (some ad) n c) (.slice none 0 0)).run Tryd.prog w = .ok (.bool false) w := by kernel_rfl
theorem add_off (k j : Nat) : (⟨k, 0, none⟩ : Addr).add j = ⟨k, j, none⟩ := by unfold Addr.add; split <;> simp_all
theorem flatS_one : ∀ l : List Seg, ∀ u ∈ flatS l, u.oneCell' = true
  | [], u, h => by cases h
  | x :: r, u, h => by
    simp only [flatS, List.mem_cons] at h
    rcases h with rfl | rfl | h
    · rfl
    · rfl
    · exact flatS_one r u h
set_option maxRecDepth 100000 in
theorem segclone_calls (B k n cap : Nat) (segs : List Seg) (w : World) (h : SegsAt B w (.slice (some ⟨k, 0, none⟩) n cap) segs) (hn : segs.length = n) (h1 : 1 ≤ n) (h2 : n ≤ 64) :
    Calls Tryd.prog 48 #[.slice (some ⟨k, 0, none⟩) n cap] w fun e w' => ∃ v', e = .returned v' ∧ SegsAt w.heap.size w' v' segs ∧ Below w.heap.size w w' := by
  have HLEN : Aside0 (n ≤ 100000000) := ⟨by omega⟩
  have HFL : Aside0 ((flatS segs).length = n * 2) := ⟨by rw [flatS_length, hn]⟩
  have HON := Aside0.mk (flatS_one segs)
  have HN := Aside0.mk hn
  have HCL : Aside0 (∀ w' : World, Below w.heap.size w w' → ∀ (j : Nat) u, (flatS segs)[j]? = some u → w'.cell? ((⟨k, 0, none⟩ : Addr).add j) = some u) := ⟨fun w' hb j u hj => by
    obtain ⟨k', cap', row, e, _, _, hr, hx⟩ := row_at (h.step hb) (by omega)
    injection e with e1 e2 e3
    injection e1 with e1
    injection e1 with e1 _ _
    subst e1
    rw [add_off]
    exact (blk_cell hr _).trans (hx _ _ hj)⟩
  have hq := segs_nil_eq ⟨k, 0, none⟩ n cap
  clear h hn
  go_enter Tryd.func48, Tryd.ntmps48
  go_wp2_with (first
    | ((with_reducible refine gate_dst (N := 5) rfl ?_); refine Lb.alloc_event ?hg (v := fun g => .slice (some ⟨g, 0, none⟩) 0 0) (cs := #[]) (t := 71) (fr := (0, 0)) ?hr ?_; (case hg => rfl); (case hr => first | (go_simp; done) | (go_simp; rfl)); intro g4 hg4 w4 hx4 hb4; have HX4 := Aside0.mk hx4; have HB4 := Aside0.mk hb4; have HG4 := Aside0.mk hg4; clear hx4 hb4 hg4 hq)
    | ((with_reducible refine gate_dst (N := 7) rfl ?_); obtain ⟨i, hi, hzz⟩ := Option.map_eq_some_iff.1 seg_info; simp only [Prod.mk.injEq] at hzz; refine wpList_append_own w4 rfl (.tmp 5) (.tmp 6) 67 rfl w.heap.size 71 i (.agg #[.int .i64 0, .int .i64 0]) 2 16 Tryd.underlying67 hi hzz.1 hzz.2.1 hzz.2.2 rfl (by decide) (.slice (some ⟨g4, 0, none⟩) 0 0) 0 [] rfl ⟨rfl, .inr ⟨g4, 0, #[], rfl, (by have := HG4.out; omega), HX4.out, Nat.le_refl _, (by decide), rfl, rfl⟩⟩ ⟨k, 0, none⟩ n cap (flatS segs) rfl HFL.out (HCL.out _ HB4.out) HON.out (by have := HLEN.out; unfold maxLen; omega) (by have := HLEN.out; omega) HB4.out.size ?_; intro v5 w5 ho5 hg5 _; have HO5 := Aside0.mk ho5; have HB5 : Aside0 (Below w.heap.size w w5) := ⟨HB4.out.grown hg5 HB4.out.size (fun k hk => by injection hk with hk; have := HG4.out; have e : g4 = k := hk; omega)⟩; clear ho5 hg5 hi hzz))
  go_ret
  have ho := HO5.out
  rw [Nat.zero_add, List.nil_append] at ho
  exact ⟨v5, rfl, by rw [← HN.out] at ho; exact ho, HB5.out⟩
end Go.Proofs.YtfiocakhgpdlfaaDoor.Sg

namespace Go.Proofs.YtfiocakhgpdlfaaDoor.Sg
open Go.RowKit Go.Lib Go.Proofs.YtfiocakhgpdlfaaDoor.Ap Go.Proofs.YtfiocakhgpdlfaaDoorW.PrintWords Go.Proofs.YtfiocakhgpdlfaaDoorW.PrintLast Go.Proofs.YtfiocakhgpdlfaaDoorW.PrintMore
set_option linter.unusedVariables false
set_option linter.unusedSimpArgs false

theorem segments_of_calls (B gl gd : Nat) (l : Lg) (vS : Value) (w : World) (hl : LRaw B w gl gd l vS) (h1 : 1 ≤ l.cp.segs.length) (h2 : l.cp.segs.length ≤ 64) :
    Calls Tryd.prog 28 #[.pointer (some ⟨gl, 0, none⟩)] w fun e w' => ∃ v', e = .returned v' ∧ SegsAt w.heap.size w' v' l.cp.segs ∧ Below w.heap.size w w' := by
  obtain ⟨k, cap, rfl, hBk, -, -⟩ := hl.segs.at 0 (by omega)
  obtain ⟨-, -, -, c3, -, -⟩ := hl.cells
  have HS := Aside0.mk hl.segs
  have H1 := Aside0.mk h1
  have H2 := Aside0.mk h2
  clear hl
  go_enter Tryd.func28, Tryd.ntmps28
  go_wp2_with (first
    | (go_at_call 48; (with_reducible refine (segclone_calls B k _ cap l.cp.segs _ HS.out rfl H1.out H2.out).mono ?_); rintro e w1 ⟨v', rfl, hs, hb⟩; have HS1 := Aside0.mk hs; have HB1 := Aside0.mk hb; clear hs hb))
  go_ret
  exact ⟨v', rfl, HS1.out, HB1.out⟩
end Go.Proofs.YtfiocakhgpdlfaaDoor.Sg

namespace Go.Proofs.YtfiocakhgpdlfaaDoor.Sg
set_option linter.unusedVariables false

theorem open_parts {d d' : Dk} {l : Lg} {out : List Rec} (h : openL d = .ok d' l out) :
    d.off = false ∧ ∃ (c : Cp) (place : Nat) (o1 : List Rec) (f : Nat × Nat × List Rec), pick d.now = some (c, place) ∧ known d.now c.seq c.segs [] = some o1 ∧ further (segOf d.now (lastSeg c).id) c.boot (lastSeg c).id 17 (lastSeg c).used c.seq o1 = f ∧ f.2.1 < top ∧
      save d ⟨setLast c f.1 f.2.1, place⟩ { nextC ⟨setLast c f.1 f.2.1, place⟩ (setLast c f.1 f.2.1).segs with boot := c.boot + 1 } = (d', l, 0) ∧ out = f.2.2 := by
  unfold openL at h
  split at h
  · cases h
  · rename_i hoff
    refine ⟨by simpa using hoff, ?_⟩
    cases hp : pick d.now with
    | none => rw [hp] at h; cases h
    | some cp =>
      obtain ⟨c, place⟩ := cp
      rw [hp] at h
      simp only at h
      cases hk : known d.now c.seq c.segs [] with
      | none => rw [hk] at h; cases h
      | some o1 =>
        rw [hk] at h
        simp only at h
        obtain ⟨f, hf⟩ : ∃ f, further (segOf d.now (lastSeg c).id) c.boot (lastSeg c).id 17 (lastSeg c).used c.seq o1 = f := ⟨_, rfl⟩
        rw [hf] at h
        refine ⟨c, place, o1, f, rfl, hk, hf, ?_⟩
        split at h
        · cases h
        · rename_i ht
          split at h
          · cases h
          · rename_i hs
            injection h with h1 h2 h3
            refine ⟨Nat.lt_of_not_le ht, ?_, h3.symm⟩
            have hs' := Decidable.of_not_not hs
            exact Prod.ext h1 (Prod.ext h2 hs')
end Go.Proofs.YtfiocakhgpdlfaaDoor.Sg
