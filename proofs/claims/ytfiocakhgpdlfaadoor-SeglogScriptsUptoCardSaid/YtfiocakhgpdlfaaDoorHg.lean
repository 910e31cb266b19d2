/- open: the free segment with the least number becomes the last one. Drop. -/
import Derived.Test.YtfiocakhgpdlfaaDoorG35
import Derived.Test.YtfiocakhgpdlfaaDoorHe
import Derived.Deep.RegionHeld3
namespace Go.Proofs.YtfiocakhgpdlfaaDoor.Sg
open Go.RowKit Go.Lib Go.Proofs.YtfiocakhgpdlfaaDoor.Ap Go.Proofs.YtfiocakhgpdlfaaDoorW.PrintWords Go.Proofs.YtfiocakhgpdlfaaDoorW.PrintLast Go.Proofs.YtfiocakhgpdlfaaDoorW.PrintMore
set_option linter.unusedVariables false
set_option linter.unusedSimpArgs false

theorem any_isId (segs : List Seg) (j : Nat) : (segs.any fun s => s.id == j) = segs.any (isId (j : Nat)) := by
  congr 1; funext s; unfold isId
  rw [Bool.eq_iff_iff]; simp; omega
theorem freeId_at {S i : Nat} {segs : List Seg} (hi : i < S) (h : ∀ j, j < i → segs.any (isId (j : Nat)) = true) (hn : segs.any (isId (i : Nat)) = false) : freeId S segs = some i := by
  unfold freeId
  rw [List.find?_range_eq_some]
  refine ⟨by rw [any_isId, hn]; rfl, by simpa using hi, fun j hj => by rw [any_isId, h j hj]; rfl⟩
theorem freeId_no {S : Nat} {segs : List Seg} (h : ∀ j, j < S → segs.any (isId (j : Nat)) = true) : freeId S segs = none := by
  unfold freeId
  rw [List.find?_eq_none]
  intro j hj
  rw [any_isId, h j (List.mem_range.1 hj)]; simp
theorem SegsOk.more {S i : Nat} {segs : List Seg} (h : SegsOk S segs) (hf : freeId S segs = some i) : SegsOk S (segs ++ [⟨i, 0⟩]) := by
  obtain ⟨h1, h2⟩ := freeId_some hf
  refine ⟨?_, fun s hs => ?_, fun s hs => ?_⟩
  · rw [List.map_append, List.nodup_append]
    refine ⟨h.nodup, by simp, fun a ha b hb => ?_⟩
    obtain ⟨s, hs, rfl⟩ := List.mem_map.1 ha
    simp at hb
    subst hb
    exact h2 s hs
  · rcases List.mem_append.1 hs with hs | hs
    · exact h.id s hs
    · simp at hs; subst hs; exact h1
  · rcases List.mem_append.1 hs with hs | hs
    · exact h.used s hs
    · simp at hs; subst hs; exact Nat.zero_le _
theorem App.segs {w0 w' : World} {B n : Nat} {v' : Value} {l : List Seg} {x : Seg} (hn : n = l.length) (ha : App w0 w' B 71 2 v' (n + 1) (flatS l ++ [.int .i64 x.id, .int .i64 x.used])) : SegsAt B w' v' (l ++ [x]) := by
  subst hn
  have h := ha.own
  have e : flatS (l ++ [x]) = flatS l ++ [.int .i64 x.id, .int .i64 x.used] := by rw [flatS_app]; rfl
  show w'.ownsRow B _ 2 v' (l ++ [x]).length (flatS (l ++ [x]))
  rw [e, List.length_append]
  exact h

set_option maxRecDepth 100000 in
set_option maxHeartbeats 8000000 in
theorem opens_calls (B gl gd : Nat) (d : Dk) (serial boot seq : Nat) (segs : List Seg) (place : Nat) (vS : Value) (d2 : Dk) (l2 : Lg) (r2 : Int) (w : World) (hl : LRaw B w gl gd ⟨⟨serial, boot, seq, segs⟩, place⟩ vS) (hd : DAt B w gd d) (hne : 1 ≤ segs.length) (hok : SegsOk (segsN d.now) segs)
    (hs1 : serial ≤ top) (hs2 : boot ≤ top) (hs3 : seq ≤ top) (hp : place ≤ 1) (hq : d.queue.length ≤ 100) (h2n : 2 ≤ d.now.length) (hr : openSeg d ⟨⟨serial, boot, seq, segs⟩, place⟩ = (d2, l2, r2)) :
    Calls Tryd.prog 41 #[.pointer (some ⟨gl, 0, none⟩)] w fun e w' => e = .returned (.int .i64 r2) ∧ DAt B w' gd d2 ∧ LAt B w' gl gd l2 ∧ FrL B w w' := by
  have HS64 : Aside0 (segsN d.now ≤ 64) := ⟨segsN_le _⟩
  have HTOP : Aside0 (top = 1152921504606846976) := ⟨rfl⟩
  have hlen := hok.len
  obtain ⟨k, cap, rfl, hBk, -, -⟩ := hl.segs.at 0 (by show 0 < segs.length; omega)
  obtain ⟨n, hn⟩ : ∃ n, n = segs.length := ⟨_, rfl⟩
  have HN := Aside0.mk hn
  have HNLE : Aside0 (1 ≤ n ∧ n ≤ 64) := ⟨by have := HS64.out; omega⟩
  have HL : Aside0 (LRaw B w gl gd ⟨⟨serial, boot, seq, segs⟩, place⟩ (.slice (some ⟨k, 0, none⟩) n cap)) := ⟨by rw [hn]; exact hl⟩
  have HSG : Aside0 (SegsAt B w (.slice (some ⟨k, 0, none⟩) n cap) segs) := ⟨HL.out.segs⟩
  have HD := Aside0.mk hd
  have HOK := Aside0.mk hok
  have HR := Aside0.mk hr
  have H2N := Aside0.mk h2n
  have HS9 : Aside0 (serial ≤ 9000000000000000000 ∧ serial + 1 ≤ 9000000000000000000 ∧ boot ≤ 9000000000000000000 ∧ seq ≤ 9000000000000000000) := ⟨by have := HTOP.out; omega⟩
  have HPQ : Aside0 (place ≤ 1 ∧ d.queue.length ≤ 100) := ⟨hp, hq⟩
  obtain ⟨x, hx⟩ : ∃ x : Int, x = ((serial + 1 : Nat) : Int) := ⟨_, rfl⟩
  have HX1 := Aside0.mk hx
  obtain ⟨y, hy⟩ : ∃ y : Int, y = (seq : Int) := ⟨_, rfl⟩
  have HY1 := Aside0.mk hy
  obtain ⟨z, hz⟩ : ∃ z : Int, z = (boot : Int) := ⟨_, rfl⟩
  have HZ1 := Aside0.mk hz
  have hN64 : segsN d.now ≤ 64 := HS64.out
  have c4 := hl.cells.2.2.2.2.1
  clear hl hd hok hr h2n hs1 hs2 hs3 hp hq hx hy hz hn hne hlen
  go_enter Tryd.func41, Tryd.ntmps41
  go_wp2_with (first
    | (go_at_call 30; (with_reducible refine (segments_calls B gd d _ HD.out H2N.out).mono ?_); rintro e w' ⟨rfl, rfl⟩))
  clear c4
  go_loopg [9] (segsN d.now) (fun gk s9 wr => ∃ i : Nat, i + gk = segsN d.now ∧ s9 = .int .i64 i ∧ Aside0 (∀ j, j < i → segs.any (isId (j : Nat)) = true) ∧ Aside0 (Below w.heap.size w wr))
  case atStart => exact ⟨0, by omega, rfl, ⟨fun j hj => absurd hj (by omega)⟩, ⟨Below.refl _ _⟩⟩
  case round =>
    obtain ⟨i, hi, rfl, HA, HB⟩ := hrel
    cases gk with
    | zero =>
      obtain rfl : i = segsN d.now := by omega
      have hii : ¬ ((segsN d.now : Int) < (segsN d.now : Int)) := by omega
      go_wp2
      go_ret
      have hfr := freeId_no HA.out
      have h := HR.out
      unfold openSeg at h
      rw [hfr] at h
      simp only [Prod.mk.injEq] at h
      obtain ⟨rfl, rfl, rfl⟩ := h
      exact ⟨rfl, HD.out.step HB.out, ⟨_, HL.out.step HB.out⟩, FrL.of HB.out HD.out.lt⟩
    | succ gk =>
      have hii : (i : Int) < (segsN d.now : Int) := by omega
      have hi64 : (i : Int) ≤ 64 := by omega
      have HI := Aside0.mk hi
      have hL3 := (HL.out.step HB.out).cells.2.2.2.1
      obtain ⟨r, hr⟩ : ∃ r, segs.any (isId (i : Nat)) = r := ⟨_, rfl⟩
      have HRR := Aside0.mk hr
      clear hr hi
      cases r with
      | true =>
        go_wp2_with (first
          | ((with_reducible refine gate_dst (N := 3) rfl ?_); refine Lb.alloc_event ?hg (v := fun g => .pointer (some ⟨g, 0, none⟩)) (cs := #[.int .i64 0]) (t := 3) (fr := (0, 0)) ?hr ?_; (case hg => rfl); (case hr => first | (go_simp; done) | (go_simp; rfl)); intro g3 hg3 wa hx hb; have HX := Aside0.mk hx; have HBa := Aside0.mk hb; have HG3 := Aside0.mk hg3; clear hx hb hg3)
          | ((with_reducible refine gate_store (t := 3) (p := 3) rfl ?_); refine Lb.store_whole rfl rfl 3 (.tmp 3) (.tmp 11) rfl (new := #[.int .i64 i]) rfl rfl HX.out rfl (by kernel_rfl) (by simp [Value.oneCell']) ?_; intro wb hb hg; have HXb := Aside0.mk hb; have HBb := Aside0.mk (below_step HB.out (Lb.grown_below HBa.out hg HBa.out.size (by have := HG3.out; omega))); clear hb hg hL3; have hL3 := (HL.out.step HBb.out).cells.2.2.2.1)
          | ((with_reducible refine gate_store (t := 3) (p := 3) rfl ?_); refine Lb.store_one rfl rfl 3 (.tmp 3) (.tmp 11) rfl (g := g3) (off := 0) (u := .int .i64 i) rfl rfl rfl rfl HX.out (by kernel_rfl) (by simp) ?_; intro wb hb hg; have HXb := Aside0.mk hb; have HBb := Aside0.mk (below_step HB.out (Lb.grown_below HBa.out hg HBa.out.size (by have := HG3.out; omega))); clear hb hg hL3; have hL3 := (HL.out.step HBb.out).cells.2.2.2.1)
          | (go_at_call 58; (with_reducible refine (contains_o_calls B _ segs i g3 true HRR.out _ (HSG.out.step HBb.out) ((blk_cell HXb.out 0).trans rfl) (by have := HN.out; have := HNLE.out; omega)).mono ?_); rintro e1 wc ⟨rfl, hb⟩; have HBc := Aside0.mk (below_step HBb.out hb); clear hb))
        go_roundg gk
        case measure => omega
        case rel => exact ⟨i + 1, by have := HI.out; omega, by go_num, ⟨fun j hj => by
          by_cases h : j = i
          · subst h; exact HRR.out
          · exact HA.out j (by omega)⟩, HBc⟩
      | false =>
        go_wp2_with (first
          | ((with_reducible refine gate_dst (N := 3) rfl ?_); refine Lb.alloc_event ?hg (v := fun g => .pointer (some ⟨g, 0, none⟩)) (cs := #[.int .i64 0]) (t := 3) (fr := (0, 0)) ?hr ?_; (case hg => rfl); (case hr => first | (go_simp; done) | (go_simp; rfl)); intro g3 hg3 wa hx hb; have HX := Aside0.mk hx; have HBa := Aside0.mk hb; have HG3 := Aside0.mk hg3; clear hx hb hg3)
          | ((with_reducible refine gate_store (t := 3) (p := 3) rfl ?_); refine Lb.store_whole rfl rfl 3 (.tmp 3) (.tmp 11) rfl (new := #[.int .i64 i]) rfl rfl HX.out rfl (by kernel_rfl) (by simp [Value.oneCell']) ?_; intro wb hb hg; have HXb := Aside0.mk hb; have HBb := Aside0.mk (below_step HB.out (Lb.grown_below HBa.out hg HBa.out.size (by have := HG3.out; omega))); clear hb hg hL3; have hL3 := (HL.out.step HBb.out).cells.2.2.2.1)
          | ((with_reducible refine gate_store (t := 3) (p := 3) rfl ?_); refine Lb.store_one rfl rfl 3 (.tmp 3) (.tmp 11) rfl (g := g3) (off := 0) (u := .int .i64 i) rfl rfl rfl rfl HX.out (by kernel_rfl) (by simp) ?_; intro wb hb hg; have HXb := Aside0.mk hb; have HBb := Aside0.mk (below_step HB.out (Lb.grown_below HBa.out hg HBa.out.size (by have := HG3.out; omega))); clear hb hg hL3; have hL3 := (HL.out.step HBb.out).cells.2.2.2.1)
          | (go_at_call 58; (with_reducible refine (contains_o_calls B _ segs i g3 false HRR.out _ (HSG.out.step HBb.out) ((blk_cell HXb.out 0).trans rfl) (by have := HN.out; have := HNLE.out; omega)).mono ?_); rintro e1 wc ⟨rfl, hb⟩; have HBc := Aside0.mk (below_step HBb.out hb); have HXc := Aside0.mk (Lb.blk_below HXb.out hb); clear hb hL3))
        have HFR := freeId_at (S := segsN d.now) (i := i) (by have := HI.out; omega) HA.out HRR.out
        have HSO := HOK.out.more HFR
        have HSL := HSO.len
        have HLE1 : Aside0 ((segs ++ [(⟨i, 0⟩ : Seg)]).length ≤ 64) := ⟨by omega⟩
        have HIDS : Aside0 (∀ s ∈ segs ++ [(⟨i, 0⟩ : Seg)], s.id ≤ 1000 ∧ s.used ≤ 1000) := ⟨fun s hs => by have h1 := HSO.id s hs; have h2 := HSO.used s hs; omega⟩
        have HSAVE : save d ⟨⟨serial, boot, seq, segs⟩, place⟩ ⟨serial + 1, boot, seq, segs ++ [⟨i, 0⟩]⟩ = (d2, l2, r2) := by
          have h := HR.out
          unfold openSeg at h
          rw [HFR] at h
          exact h
        have HSV : Aside0 (∀ W A m cp, m = (segs ++ [(⟨i, 0⟩ : Seg)]).length → LRaw B W gl gd ⟨⟨serial, boot, seq, segs⟩, place⟩ (.slice (some ⟨k, 0, none⟩) n cap) → DAt B W gd d → SegsAt B W (.slice A m cp) (segs ++ [⟨i, 0⟩]) → Calls Tryd.prog 39 #[.pointer (some ⟨gl, 0, none⟩), .agg #[.int .i64 x, .int .i64 boot, .int .i64 y, .slice A m cp]] W fun e w' => e = .returned (.int .i64 r2) ∧ DAt B w' gd d2 ∧ LAt B w' gl gd l2 ∧ FrL B W w') := ⟨fun W A m cp hm h1 h2 h3 => by
          have q := @save_any B gl gd d ⟨⟨serial, boot, seq, segs⟩, place⟩ (.slice (some ⟨k, 0, none⟩) n cap) ⟨serial + 1, boot, seq, segs ++ [⟨i, 0⟩]⟩ A m cp x (boot : Int) y HX1.out rfl HY1.out hm (d2, l2, r2)
          have q2 := q HSAVE W h1 h2 h3 HS9.out.2.1 HS9.out.2.2.1 HS9.out.2.2.2 HLE1.out HIDS.out HPQ.out.1 HPQ.out.2 H2N.out
          exact q2⟩
        have HNS : Aside0 (segs.length = n) := ⟨HN.out.symm⟩
        have HLN : Aside0 (segs.length + 1 ≤ 1000000000) := ⟨by have := HN.out; have := HNLE.out; omega⟩
        have HBw : Aside0 (B ≤ w.heap.size) := ⟨HD.out.lt⟩
        clear HFR HSO HSL HSAVE
        have HBD := Aside0.mk (below_step HBc.out (Lb.below_drew wc))
        have HXD := Aside0.mk (Lb.blk_below HXc.out (Lb.below_drew wc))
        have b0 : wc.drew.cell? ⟨g3, 0, none⟩ = some (.int .i64 i) := (blk_cell HXD.out 0).trans rfl
        have hL3 : wc.cell? ⟨gl, 3, none⟩ = some (.slice (some ⟨k, 0, none⟩) n cap) := (HL.out.step HBc.out).cells.2.2.2.1
        have hL4 : (wc.drew.alloc (.cells #[.int .i64 i, .int .i64 0] 71)).cell? ⟨gl, 3, none⟩ = some (.slice (some ⟨k, 0, none⟩) n cap) := (HL.out.step (below_step HBD.out (below_alloc (Below.refl _ _) _))).cells.2.2.2.1
        have hL5 : (wc.alloc (.cells #[.int .i64 i, .int .i64 0] 71)).cell? ⟨gl, 3, none⟩ = some (.slice (some ⟨k, 0, none⟩) n cap) := (HL.out.step (below_step HBc.out (below_alloc (Below.refl _ _) _))).cells.2.2.2.1
        have hL6 : (wc.alloc (.cells #[.int .i64 i, .int .i64 0] 71)).drew.cell? ⟨gl, 3, none⟩ = some (.slice (some ⟨k, 0, none⟩) n cap) := (HL.out.step (below_step (below_step HBc.out (below_alloc (Below.refl _ _) _)) (Lb.below_drew _))).cells.2.2.2.1
        have b9 : wc.cell? ⟨g3, 0, none⟩ = some (.int .i64 i) := (blk_cell HXc.out 0).trans rfl
        go_region_law (first
          | (go_simp; go_at_call 48; (first
            | ((with_reducible refine (segclone_calls B k n cap segs _ (HSG.out.step HBD.out) HNS.out HNLE.out.1 HNLE.out.2).mono ?_); rintro e1 w1 ⟨v1, rfl, hs, hb⟩; have HV : Aside0 (SegsAt w.heap.size w1 v1 segs) := ⟨own_less hs (HBD.out).size⟩; have HB1 := Aside0.mk (below_step HBD.out hb); have HX3 := Aside0.mk (Lb.blk_below HXD.out hb); have b8 := (blk_cell HX3.out 0).trans rfl; clear hs hb)
            | ((with_reducible refine (segclone_calls B k n cap segs _ (HSG.out.step (below_step HBD.out (below_alloc (Below.refl _ wc.drew) (.cells #[.int .i64 i, .int .i64 0] 71)))) HNS.out HNLE.out.1 HNLE.out.2).mono ?_); rintro e1 w1 ⟨v1, rfl, hs, hb⟩; have HV : Aside0 (SegsAt w.heap.size w1 v1 segs) := ⟨own_less hs ((below_step HBD.out (below_alloc (Below.refl _ wc.drew) (.cells #[.int .i64 i, .int .i64 0] 71)))).size⟩; have HB1 := Aside0.mk (below_step (below_step HBD.out (below_alloc (Below.refl _ wc.drew) (.cells #[.int .i64 i, .int .i64 0] 71))) hb); have HX3 := Aside0.mk (Lb.blk_below (Lb.blk_below HXD.out (below_alloc (Below.refl _ wc.drew) (.cells #[.int .i64 i, .int .i64 0] 71))) hb); have b8 := (blk_cell HX3.out 0).trans rfl; have HP := Aside0.mk (Lb.blk_below (blk_new wc.drew (.cells #[.int .i64 i, .int .i64 0] 71)) hb); clear hs hb)
            | ((with_reducible refine (segclone_calls B k n cap segs _ (HSG.out.step (below_step (below_step HBc.out (below_alloc (Below.refl _ wc) (.cells #[.int .i64 i, .int .i64 0] 71))) (Lb.below_drew _))) HNS.out HNLE.out.1 HNLE.out.2).mono ?_); rintro e1 w1 ⟨v1, rfl, hs, hb⟩; have HV : Aside0 (SegsAt w.heap.size w1 v1 segs) := ⟨own_less hs ((below_step (below_step HBc.out (below_alloc (Below.refl _ wc) (.cells #[.int .i64 i, .int .i64 0] 71))) (Lb.below_drew _))).size⟩; have HB1 := Aside0.mk (below_step (below_step (below_step HBc.out (below_alloc (Below.refl _ wc) (.cells #[.int .i64 i, .int .i64 0] 71))) (Lb.below_drew _)) hb); have HX3 := Aside0.mk (Lb.blk_below (Lb.blk_below (Lb.blk_below HXc.out (below_alloc (Below.refl _ wc) (.cells #[.int .i64 i, .int .i64 0] 71))) (Lb.below_drew _)) hb); have b8 := (blk_cell HX3.out 0).trans rfl; have HP := Aside0.mk (Lb.blk_below (Lb.blk_below (blk_new wc (.cells #[.int .i64 i, .int .i64 0] 71)) (Lb.below_drew _)) hb); clear hs hb)))
          | (refine app_step (w0 := w1) rfl (.tmp 27) (.tmp 30) 67 71 _ 2 16 rfl Tryd.underlying67 seg_info rfl (by decide) (by decide) (B := w.heap.size) (n := segs.length) (m := 1) (v := v1) (xs := flatS segs) (news := [.int .i64 i, .int .i64 0]) rfl HV.out (by first | exact ⟨HP.out, Below.refl _ _⟩ | exact ⟨blk_new _ _, below_alloc (Below.refl _ _) _⟩) rfl rfl (by simp [Value.oneCell']) HB1.out.size HLN.out ?_; intro v2 w2 ha; have HS2 : Aside0 (SegsAt w.heap.size w2 v2 (segs ++ [⟨i, 0⟩])) := ⟨App.segs (x := ⟨i, 0⟩) rfl ha⟩; have HB2 := Aside0.mk (HB1.out.trans ha.bel); have HX4 := Aside0.mk (ha.keep _ _ _ _ (by decide) HX3.out); obtain ⟨A2, m2, c2, rfl, hm2⟩ : ∃ A2 m2 c2, v2 = .slice A2 m2 c2 ∧ m2 = (segs ++ [(⟨i, 0⟩ : Seg)]).length := (by obtain ⟨A2, c2, e, _⟩ := own_slice HS2.out; exact ⟨A2, _, c2, e, rfl⟩); have HM2 := Aside0.mk hm2; clear ha hm2)
          | (go_simp; go_at_call 38; (with_reducible refine (next_any B gl gd ⟨⟨serial, boot, seq, segs⟩, place⟩ (.slice (some ⟨k, 0, none⟩) n cap) A2 m2 c2 x y HX1.out HY1.out _ (HL.out.step HB2.out) HS9.out.1).mono ?_); rintro e3 w3 ⟨rfl, hb⟩; have HS3 := Aside0.mk (HS2.out.step hb); have HB3 := Aside0.mk (below_step HB2.out hb); have HX9 := Aside0.mk (Lb.blk_below HX4.out hb); clear hb)
          | (go_simp; go_at_call 39; (with_reducible refine (HSV.out _ A2 m2 c2 HM2.out (HL.out.step HB3.out) (HD.out.step HB3.out) (own_less HS3.out HBw.out)).mono ?_); rintro e4 w4 ⟨rfl, hd4, hl4, hf4⟩; have HD4 := Aside0.mk hd4; have HL4 := Aside0.mk hl4; have HX9 := Aside0.mk (hf4.frm _ _ _ _ HX9.out (by decide) (by decide) (by decide) (by decide) (by decide)); have HF4 := Aside0.mk ((FrL.of HB3.out HBw.out).trans hf4); clear hd4 hl4 hf4))
        all_goals
          go_wp2_with fail
          go_ret
          exact ⟨rfl, HD4.out, HL4.out, HF4.out⟩
end Go.Proofs.YtfiocakhgpdlfaaDoor.Sg

namespace Go.Proofs.YtfiocakhgpdlfaaDoor.Sg
open Go.RowKit Go.Lib Go.Proofs.YtfiocakhgpdlfaaDoor.Ap Go.Proofs.YtfiocakhgpdlfaaDoorW.PrintWords Go.Proofs.YtfiocakhgpdlfaaDoorW.PrintLast Go.Proofs.YtfiocakhgpdlfaaDoorW.PrintMore
set_option linter.unusedVariables false
set_option linter.unusedSimpArgs false

theorem index_d_any (B : Nat) (v : Value) (l : List Seg) (id : Int) (a : Nat) (r : Int) (hr : idx (isId id) l 0 = r) (w : World) (hS : SegsAt B w v l) (h : w.cell? ⟨a, 0, none⟩ = some (.int .i64 id)) (hlen : l.length ≤ 1000000) :
    Calls Tryd.prog 45 #[v, .func (.func 46) #[] #[.pointer (some ⟨a, 0, none⟩)]] w fun e w' => e = .returned (.int .i64 r) ∧ Below w.heap.size w w' := by
  subst hr
  exact index_d_calls B v l id a w hS h hlen
theorem dropIx (segs : List Seg) (id : Int) : (segs.findIdx? (fun s => (s.id : Int) == id)) = segs.findIdx? (isId id) := rfl

set_option maxRecDepth 100000 in
set_option maxHeartbeats 8000000 in
theorem drop_calls (B gl gd : Nat) (d : Dk) (serial boot seq : Nat) (segs : List Seg) (place : Nat) (vS : Value) (id : Int) (d2 : Dk) (l2 : Lg) (r2 : Int) (w : World) (hl : LRaw B w gl gd ⟨⟨serial, boot, seq, segs⟩, place⟩ vS) (hd : DAt B w gd d) (hne : 1 ≤ segs.length) (hok : SegsOk (segsN d.now) segs)
    (hs1 : serial ≤ top) (hs2 : boot ≤ top) (hs3 : seq ≤ top) (hp : place ≤ 1) (hq : d.queue.length ≤ 100) (h2n : 2 ≤ d.now.length) (hr : drop d ⟨⟨serial, boot, seq, segs⟩, place⟩ id = (d2, l2, r2)) :
    Calls Tryd.prog 17 #[.pointer (some ⟨gl, 0, none⟩), .int .i64 id] w fun e w' => e = .returned (.int .i64 r2) ∧ DAt B w' gd d2 ∧ LAt B w' gl gd l2 ∧ FrL B w w' := by
  have HS64 : Aside0 (segsN d.now ≤ 64) := ⟨segsN_le _⟩
  have HTOP : Aside0 (top = 1152921504606846976) := ⟨rfl⟩
  have hlen := hok.len
  obtain ⟨k, cap, rfl, hBk, -, -⟩ := hl.segs.at 0 (by show 0 < segs.length; omega)
  obtain ⟨n, hn⟩ : ∃ n, n = segs.length := ⟨_, rfl⟩
  have HN := Aside0.mk hn
  have HNLE : Aside0 (1 ≤ n ∧ n ≤ 64) := ⟨by have := HS64.out; omega⟩
  have HL : Aside0 (LRaw B w gl gd ⟨⟨serial, boot, seq, segs⟩, place⟩ (.slice (some ⟨k, 0, none⟩) n cap)) := ⟨by rw [hn]; exact hl⟩
  have HSG : Aside0 (SegsAt B w (.slice (some ⟨k, 0, none⟩) n cap) segs) := ⟨HL.out.segs⟩
  have HD := Aside0.mk hd
  have HOK := Aside0.mk hok
  have HR := Aside0.mk hr
  have H2N := Aside0.mk h2n
  have HS9 : Aside0 (serial ≤ 9000000000000000000 ∧ serial + 1 ≤ 9000000000000000000 ∧ boot ≤ 9000000000000000000 ∧ seq ≤ 9000000000000000000) := ⟨by have := HTOP.out; omega⟩
  have HPQ : Aside0 (place ≤ 1 ∧ d.queue.length ≤ 100) := ⟨hp, hq⟩
  obtain ⟨x, hx⟩ : ∃ x : Int, x = ((serial + 1 : Nat) : Int) := ⟨_, rfl⟩
  have HX1 := Aside0.mk hx
  obtain ⟨y, hy⟩ : ∃ y : Int, y = (seq : Int) := ⟨_, rfl⟩
  have HY1 := Aside0.mk hy
  have c3 := HL.out.cells.2.2.2.1
  have hn1 : 1 ≤ n := HNLE.out.1
  have hn64 : n ≤ 64 := HNLE.out.2
  have HBw : Aside0 (B ≤ w.heap.size) := ⟨hd.lt⟩
  clear hl hd hok hr h2n hs1 hs2 hs3 hp hq hx hy hn hne hlen
  cases hf : segs.findIdx? (isId id) with
  | none =>
    have HIX : Aside0 (idx (isId id) segs 0 = -1) := ⟨by rw [idx_find, hf]⟩
    have h := HR.out
    unfold drop at h
    rw [dropIx, hf] at h
    simp only [Prod.mk.injEq] at h
    obtain ⟨rfl, rfl, rfl⟩ := h
    clear hf
    go_enter Tryd.func17, Tryd.ntmps17
    go_wp2_with (first
      | ((with_reducible refine gate_dst (N := 3) rfl ?_); refine box_event ?hg (N := 3) ?hd (cs := #[.int .i64 id]) (t := 3) ?hr ?_; (case hd => rfl); (case hg => rfl); (case hr => first | (go_simp; done) | (go_simp; rfl)); intro g3 hg3 w1 hx hb; have HX3 := Aside0.mk hx; have HB1 := Aside0.mk hb; clear c3; have c3 := (HL.out.step hb).cells.2.2.2.1; clear hx hb hg3)
      | (go_at_call 45; (with_reducible refine (index_d_any B _ segs id g3 (-1) HIX.out _ (HSG.out.step HB1.out) ((blk_cell HX3.out 0).trans rfl) (by have := HN.out; have := HNLE.out; omega)).mono ?_); rintro e1 wc ⟨rfl, hb⟩; have HBc := Aside0.mk (below_step HB1.out hb); clear hb))
    go_ret
    exact ⟨rfl, HD.out.step HBc.out, ⟨_, HL.out.step HBc.out⟩, FrL.of HBc.out HD.out.lt⟩
  | some i =>
    have HIX : Aside0 (idx (isId id) segs 0 = (i : Int)) := ⟨by rw [idx_find, hf]; simp⟩
    have hi : i < n := by
      rw [HN.out]
      exact (List.findIdx?_eq_some_iff_getElem.1 hf).1
    have h := HR.out
    unfold drop at h
    rw [dropIx, hf] at h
    simp only at h
    by_cases hlast : i + 1 = n
    · rw [if_pos (by rw [← HN.out]; exact hlast)] at h
      simp only [Prod.mk.injEq] at h
      obtain ⟨rfl, rfl, rfl⟩ := h
      clear hf
      have e1 : (i : Int) = (n : Int) - 1 := by omega
      have e2 : ((i : Int) == (n : Int) - 1) = true := by simpa using e1
      have HE1 := Aside0.mk e1
      clear e1
      go_enter Tryd.func17, Tryd.ntmps17
      go_wp2_with (first
        | ((with_reducible refine gate_dst (N := 3) rfl ?_); refine box_event ?hg (N := 3) ?hd (cs := #[.int .i64 id]) (t := 3) ?hr ?_; (case hd => rfl); (case hg => rfl); (case hr => first | (go_simp; done) | (go_simp; rfl)); intro g3 hg3 w1 hx hb; have HX3 := Aside0.mk hx; have HB1 := Aside0.mk hb; clear c3; have c3 := (HL.out.step hb).cells.2.2.2.1; clear hx hb hg3)
        | (go_at_call 45; (with_reducible refine (index_d_any B _ segs id g3 i HIX.out _ (HSG.out.step HB1.out) ((blk_cell HX3.out 0).trans rfl) (by have := HN.out; have := HNLE.out; omega)).mono ?_); rintro e1 wc ⟨rfl, hb⟩; have HBc := Aside0.mk (below_step HB1.out hb); clear hb c3; have c3 := (HL.out.step HBc.out).cells.2.2.2.1))
      go_ret
      exact ⟨rfl, HD.out.step HBc.out, ⟨_, HL.out.step HBc.out⟩, FrL.of HBc.out HD.out.lt⟩
    · rw [if_neg (by rw [← HN.out]; exact hlast)] at h
      have HSAVE := Aside0.mk h
      have hel : (segs.eraseIdx i).length = n - 1 := by rw [List.length_eraseIdx, if_pos (by rw [← HN.out]; exact hi), HN.out]
      have HLE1 : Aside0 ((segs.eraseIdx i).length ≤ 64) := ⟨by omega⟩
      have HIDS : Aside0 (∀ s ∈ segs.eraseIdx i, s.id ≤ 1000 ∧ s.used ≤ 1000) := ⟨fun s hs => by have hm := List.mem_of_mem_eraseIdx hs; have h1 := HOK.out.id s hm; have h2 := HOK.out.used s hm; have := HS64.out; omega⟩
      have HSV : Aside0 (∀ W A m cp, m = (segs.eraseIdx i).length → LRaw B W gl gd ⟨⟨serial, boot, seq, segs⟩, place⟩ (.slice (some ⟨k, 0, none⟩) n cap) → DAt B W gd d → SegsAt B W (.slice A m cp) (segs.eraseIdx i) → Calls Tryd.prog 39 #[.pointer (some ⟨gl, 0, none⟩), .agg #[.int .i64 x, .int .i64 boot, .int .i64 y, .slice A m cp]] W fun e w' => e = .returned (.int .i64 r2) ∧ DAt B w' gd d2 ∧ LAt B w' gl gd l2 ∧ FrL B W w') := ⟨fun W A m cp hm h1 h2 h3 => by
        have q := @save_any B gl gd d ⟨⟨serial, boot, seq, segs⟩, place⟩ (.slice (some ⟨k, 0, none⟩) n cap) ⟨serial + 1, boot, seq, segs.eraseIdx i⟩ A m cp x (boot : Int) y HX1.out rfl HY1.out hm (d2, l2, r2)
        have q2 := q HSAVE.out W h1 h2 h3 HS9.out.2.1 HS9.out.2.2.1 HS9.out.2.2.2 HLE1.out HIDS.out HPQ.out.1 HPQ.out.2 H2N.out
        exact q2⟩
      have HEL : Aside0 (n - 1 = (segs.eraseIdx i).length) := ⟨hel.symm⟩
      have HI1 : Aside0 (i + 1 < n) := ⟨by omega⟩
      have HNS : Aside0 (segs.length = n) := ⟨HN.out.symm⟩
      have e1 : ¬ ((i : Int) = (n : Int) - 1) := by omega
      have e2 : ((i : Int) == (n : Int) - 1) = false := by simpa using e1
      have hin : (i : Int) ≤ 64 := by omega
      clear h hf hel hlast hi
      go_enter Tryd.func17, Tryd.ntmps17
      go_wp2_with (first
        | ((with_reducible refine gate_dst (N := 3) rfl ?_); refine box_event ?hg (N := 3) ?hd (cs := #[.int .i64 id]) (t := 3) ?hr ?_; (case hd => rfl); (case hg => rfl); (case hr => first | (go_simp; done) | (go_simp; rfl)); intro g3 hg3 w1 hx hb; have HX3 := Aside0.mk hx; have HB1 := Aside0.mk hb; clear c3; have c3 := (HL.out.step hb).cells.2.2.2.1; clear hx hb hg3)
        | (go_at_call 45; (with_reducible refine (index_d_any B _ segs id g3 i HIX.out _ (HSG.out.step HB1.out) ((blk_cell HX3.out 0).trans rfl) (by have := HN.out; have := HNLE.out; omega)).mono ?_); rintro e1 wc ⟨rfl, hb⟩; have HBc := Aside0.mk (below_step HB1.out hb); clear hb c3; have c3 := (HL.out.step HBc.out).cells.2.2.2.1)
        | (go_at_call 48; (with_reducible refine (segclone_calls B k n cap segs _ (HSG.out.step HBc.out) HNS.out HNLE.out.1 HNLE.out.2).mono ?_); rintro e2 wd ⟨v1, rfl, hs, hb⟩; have HBd := Aside0.mk (below_step HBc.out hb); obtain ⟨k1, m1, c1, rfl, hm1, hk1⟩ : ∃ k1 m1 c1, v1 = .slice (some ⟨k1, 0, none⟩) m1 c1 ∧ m1 = n ∧ w.heap.size ≤ k1 := (by obtain ⟨k1, c1, e, hk, _, _⟩ := hs.at 0 (by have := HNS.out; have := HNLE.out; omega); exact ⟨k1, _, c1, e, HNS.out, Nat.le_trans HBc.out.size hk⟩); have HS1 : Aside0 (SegsAt w.heap.size wd (.slice (some ⟨k1, 0, none⟩) m1 c1) segs) := ⟨own_less hs HBc.out.size⟩; have HM1 := Aside0.mk hm1; have HK1 := Aside0.mk hk1; clear hs hb hm1 hk1 c3)
        | (go_at_call 47; (with_reducible refine (delete_calls w.heap.size k1 m1 c1 i segs _ rfl _ HS1.out (by have := HM1.out; have := HI1.out; omega) (by have := HM1.out; have := HNLE.out; omega)).mono ?_); rintro e3 we ⟨rfl, hs, hg⟩; have HS2 : Aside0 (SegsAt w.heap.size we (.slice (some ⟨k1, 0, none⟩) (m1 - 1) c1) (segs.eraseIdx i)) := ⟨hs⟩; have HBe := Aside0.mk (Lb.grown_below HBd.out hg HBd.out.size HK1.out); clear hs hg)
        | (go_at_call 38; (with_reducible refine (next_any B gl gd ⟨⟨serial, boot, seq, segs⟩, place⟩ (.slice (some ⟨k, 0, none⟩) n cap) _ _ c1 x y HX1.out HY1.out _ (HL.out.step HBe.out) HS9.out.1).mono ?_); rintro e4 wf ⟨rfl, hb⟩; have HS3 := Aside0.mk (HS2.out.step hb); have HB3 := Aside0.mk (below_step HBe.out hb); clear hb)
        | (go_at_call 39; (with_reducible refine (HSV.out _ _ (m1 - 1) c1 (by rw [HM1.out]; exact HEL.out) (HL.out.step HB3.out) (HD.out.step HB3.out) (own_less HS3.out HBw.out)).mono ?_); rintro e5 wg ⟨rfl, hd4, hl4, hf4⟩; have HD4 := Aside0.mk hd4; have HL4 := Aside0.mk hl4; have HF4 := Aside0.mk ((FrL.of HB3.out HBw.out).trans hf4); clear hd4 hl4 hf4))
      go_ret
      exact ⟨rfl, HD4.out, HL4.out, HF4.out⟩
end Go.Proofs.YtfiocakhgpdlfaaDoor.Sg
