/- Open: the walk. -/
import Derived.Test.YtfiocakhgpdlfaaDoorHe
import Derived.Deep.QuietTactic
import Derived.BigQuiet
namespace Go.Proofs.YtfiocakhgpdlfaaDoor.Sg
open Go.RowKit Go.Lib Go.Proofs.YtfiocakhgpdlfaaDoor.Ap Go.Proofs.YtfiocakhgpdlfaaDoorW.PrintWords Go.Proofs.YtfiocakhgpdlfaaDoorW.PrintLast Go.Proofs.YtfiocakhgpdlfaaDoorW.PrintMore
set_option linter.unusedVariables false
set_option linter.unusedSimpArgs false

set_option maxRecDepth 100000 in
set_option maxHeartbeats 8000000 in
theorem open_calls (B gd : Nat) (d : Dk) (serial boot seq : Nat) (pre : List Seg) (id used place : Nat) (o1 : List Rec) (U Q : Nat) (out : List Rec) (d2 : Dk) (l2 : Lg) (r2 : Int) (w : World) (hd : DAt B w gd d) (hoff : d.off = false) (hq : d.queue.length ≤ 100) (h66 : 66 ≤ d.now.length)
    (hp : pick d.now = some (⟨serial, boot, seq, pre ++ [⟨id, used⟩]⟩, place)) (hpl : place ≤ 1) (hs1 : serial ≤ top) (hs2 : boot ≤ top) (hs3 : seq ≤ top) (hpre : pre.length ≤ 63) (hid : ∀ s ∈ pre ++ [⟨id, used⟩], s.id < segsN d.now ∧ s.used ≤ 16)
    (hk : known d.now seq (pre ++ [⟨id, used⟩]) [] = some o1) (ho : o1.length ≤ 100000) (hf : further (segOf d.now id) boot id 17 used seq o1 = (U, Q, out)) (hU : U ≤ 16) (hQ : Q < top)
    (hr : save d ⟨⟨serial, boot, Q, pre ++ [⟨id, U⟩]⟩, place⟩ ⟨serial + 1, boot + 1, Q, pre ++ [⟨id, U⟩]⟩ = (d2, l2, r2)) :
    Calls Tryd.prog 11 #[.pointer (some ⟨gd, 0, none⟩)] w (OpenPost B gd w (d2, l2, r2) out) := by
  have hsN : ¬ ((segsN d.now : Int) < 4) := by unfold segsN; omega
  have hsN2 : ¬ (segsN d.now < 4) := by omega
  have HS64 : Aside0 (segsN d.now ≤ 64) := ⟨segsN_le _⟩
  have HSG : Aside0 (2 + segsN d.now * 16 ≤ d.now.length) := ⟨by unfold segsN; omega⟩
  have HD := Aside0.mk hd
  have HOFF := Aside0.mk hoff
  have H66 := Aside0.mk h66
  have HP := Aside0.mk hp
  have HID := Aside0.mk hid
  have HKN := Aside0.mk hk
  have HLS : Aside0 (id < segsN d.now ∧ used ≤ 16) := ⟨hid ⟨id, used⟩ (by simp)⟩
  have HF := Aside0.mk hf
  have HR := Aside0.mk hr
  have HTOP : Aside0 (top = 1152921504606846976) := ⟨rfl⟩
  have HSS : Aside0 (serial ≤ top ∧ boot ≤ top ∧ seq ≤ top ∧ Q < top) := ⟨hs1, hs2, hs3, hQ⟩
  have HS9 : Aside0 (serial ≤ 9000000000000000000 ∧ serial + 1 ≤ 9000000000000000000 ∧ boot + 1 ≤ 9000000000000000000 ∧ Q ≤ 9000000000000000000) := ⟨by have := HTOP.out; omega⟩
  have HUP : Aside0 (U ≤ 16 ∧ place ≤ 1 ∧ pre.length ≤ 63 ∧ o1.length ≤ 100000 ∧ d.queue.length ≤ 100) := ⟨hU, hpl, hpre, ho, hq⟩
  clear hd hoff hq h66 hp hpl hs1 hs2 hs3 hpre hid hk ho hf hU hQ hr
  go_enter Tryd.func11, Tryd.ntmps11
  go_wp2_with (first
    | (go_at_call 30; (with_reducible refine (segments_calls B gd d _ HD.out (by have := H66.out; omega)).mono ?_); rintro e w' ⟨rfl, rfl⟩))
  have HK : Aside0 (PB w (w.alloc (.cells #[.int .i64 0, .int .i64 0, .int .i64 0, .slice none 0 0, .pointer (some ⟨gd, 0, none⟩), .int .i64 0] 83)) w.heap.size gd none (.slice none 0 0)) := ⟨⟨blk_new _ _, (fun c p e => by cases e), below_alloc (Below.refl _ _) _, Nat.le_refl _⟩⟩
  generalize hgl : w.heap.size = gl at HK ⊢
  clear hgl
  go_loopg [7, 24] 2 (fun gk s7 s24 wr => ∃ (i : Nat) (vS : Value), i + gk = 2 ∧ s24 = .int .i64 i ∧ s7 = .bool (pickTo d.now i).isSome ∧ Aside0 (PB w wr gl gd (pickTo d.now i) vS))
  case atStart => exact ⟨0, .slice none 0 0, rfl, rfl, rfl, HK⟩
  case round =>
    clear HK
    obtain ⟨i, vS, hi, rfl, hs7, HK⟩ := hrel
    cases gk with
    | zero =>
      obtain rfl : i = 2 := by omega
      rw [pickTo_two, HP.out] at hs7 HK
      subst hs7
      have HL : Aside0 (LRaw w.heap.size wr gl gd ⟨⟨serial, boot, seq, pre ++ [⟨id, used⟩]⟩, place⟩ vS) := ⟨⟨HK.out.blk, HK.out.segs _ _ rfl, HK.out.ge⟩⟩
      have HD1 := Aside0.mk (HD.out.step HK.out.bel)
      have HB1 := Aside0.mk HK.out.bel
      obtain ⟨A, n, cap, hv, hn⟩ : ∃ A n cap, vS = .slice A n cap ∧ n = pre.length + 1 := by
        obtain ⟨A, cap, e, _⟩ := own_slice HL.out.segs
        exact ⟨A, _, cap, e, by simp⟩
      subst hv
      have HN := Aside0.mk hn
      have HNL : Aside0 (n = (pre ++ [(⟨id, U⟩ : Seg)]).length) := ⟨by rw [hn]; simp⟩
      have HNQ : Aside0 ((pre ++ [(⟨id, U⟩ : Seg)]).length ≤ 64) := ⟨by have := HUP.out; simp; omega⟩
      have HIDU : Aside0 (∀ s ∈ pre ++ [(⟨id, U⟩ : Seg)], s.id ≤ 1000 ∧ s.used ≤ 1000) := ⟨fun s hs => by
        rcases List.mem_append.1 hs with hs | hs
        · have := HID.out s (List.mem_append_left _ hs); have := HS64.out; omega
        · have := HLS.out; have := HS64.out; have := HUP.out; simp at hs; subst hs; show id ≤ 1000 ∧ U ≤ 1000; omega⟩
      have HBO : Aside0 ((boot : Int) + 1 = ((boot + 1 : Nat) : Int)) := ⟨by omega⟩
      obtain ⟨x, hx⟩ : ∃ x : Int, x = ((serial + 1 : Nat) : Int) := ⟨_, rfl⟩
      have HX1 := Aside0.mk hx
      obtain ⟨y, hy⟩ : ∃ y : Int, y = (Q : Int) := ⟨_, rfl⟩
      have HY1 := Aside0.mk hy
      have hbI : (boot : Int) ≤ 1152921504606846976 := by have := HSS.out; have := HTOP.out; omega
      have hQI : y < 1152921504606846976 := by have := HSS.out; have := HTOP.out; omega
      have hBw := HD.out.lt
      have HSV : Aside0 (∀ W, LRaw B W gl gd ⟨⟨serial, boot, Q, pre ++ [⟨id, U⟩]⟩, place⟩ (.slice A n cap) → DAt B W gd d → Calls Tryd.prog 39 #[.pointer (some ⟨gl, 0, none⟩), .agg #[.int .i64 x, .int .i64 ((boot : Int) + 1), .int .i64 y, .slice A n cap]] W fun e w' => e = .returned (.int .i64 r2) ∧ DAt B w' gd d2 ∧ LAt B w' gl gd l2 ∧ FrL B W w') := ⟨fun W h1 h2 =>
by
        have q := @save_any B gl gd d ⟨⟨serial, boot, Q, pre ++ [⟨id, U⟩]⟩, place⟩ (.slice A n cap) ⟨serial + 1, boot + 1, Q, pre ++ [⟨id, U⟩]⟩ A n cap x ((boot : Int) + 1) y HX1.out HBO.out HY1.out HNL.out (d2, l2, r2)
        have q2 := q HR.out W h1 h2 h1.segs HS9.out.2.1 HS9.out.2.2.1 HS9.out.2.2.2 HNQ.out HIDU.out HUP.out.2.1 HUP.out.2.2.2.2 (by have := H66.out; omega)
        exact q2⟩
      have HBw := Aside0.mk hBw
      clear HK hi hn hx hy hBw
      have hr0 : r2 = 0 ∨ r2 ≠ 0 := by by_cases h : r2 = 0 <;> simp [h]
      rcases hr0 with rfl | hr0
      · go_wp2_with (first
          | (go_at_call 36; (with_reducible refine (known_calls B gl gd d ⟨⟨serial, boot, seq, pre ++ [⟨id, used⟩]⟩, place⟩ _ o1 _ (HL.out.less HBw.out) HD1.out HOFF.out (by have := HUP.out; simp; omega) (fun s hs => by have := HID.out s hs; have := HSG.out; omega) HSS.out.2.2.1 HKN.out HUP.out.2.2.2.1).mono ?_); rintro e1 wa ⟨v1, rfl, hrec, hb⟩; have HR1 := Aside0.mk (own_less hrec HB1.out.size); have HL2 := Aside0.mk (HL.out.step hb); have HD2 := Aside0.mk (HD1.out.step hb); have HB2 := Aside0.mk (below_step HB1.out hb); clear hrec hb)
          | (go_at_call 37; (with_reducible refine (further_calls B w.heap.size gl gd d ⟨⟨serial, boot, seq, pre ++ [⟨id, used⟩]⟩, place⟩ _ v1 pre id used o1 (U, Q, out) _ HL2.out rfl HUP.out.2.2.1 HD2.out HB2.out.size HOFF.out (by have := HLS.out; have := HSG.out; omega) HLS.out.2 HSS.out.2.2.1 HR1.out HUP.out.2.2.2.1 HF.out).mono ?_); rintro e2 wb ⟨v2, rfl, hrec, hlg, hdk, hb⟩; have HR3 := Aside0.mk hrec; have HL3 : Aside0 (LRaw w.heap.size wb gl gd ⟨⟨serial, boot, Q, pre ++ [⟨id, U⟩]⟩, place⟩ (.slice A n cap)) := ⟨hlg⟩; have HD3 := Aside0.mk hdk; have HB3 := Aside0.mk (HB2.out.trans hb); obtain ⟨c0, c1, c2, c3, c4, c5⟩ := hlg.cells; clear hrec hlg hdk hb c0 c1 c2 c4 c5)
          | (go_at_call 38; (with_reducible refine (next_any w.heap.size gl gd ⟨⟨serial, boot, Q, pre ++ [⟨id, U⟩]⟩, place⟩ (.slice A n cap) A n cap x y HX1.out HY1.out _ HL3.out HS9.out.1).mono ?_); rintro e3 wc ⟨rfl, hb⟩; have HR4 := Aside0.mk (HR3.out.step hb); have HL4 := Aside0.mk (HL3.out.step hb); have HD4 := Aside0.mk (HD3.out.step hb); have HB4 := Aside0.mk (below_step HB3.out hb); clear hb c3)
          | ((with_reducible refine gate_dst (N := 15) rfl ?_); refine Lb.alloc_event ?hg (v := fun g => .pointer (some ⟨g, 0, none⟩)) (cs := #[.int .i64 0, .int .i64 0, .int .i64 0, .slice none 0 0]) (t := 78) (fr := (0, 0)) ?hr ?_; (case hg => rfl); (case hr => first | (go_simp; done) | (go_simp; rfl)); intro g15 hg15 wd hx hb; have HX15 := Aside0.mk hx; have HB15 := Aside0.mk hb; have HG15 := Aside0.mk hg15; clear hx hb hg15)
          | ((with_reducible refine gate_store (t := 78) (p := 15) rfl ?_); refine Lb.store_whole rfl rfl 78 (.tmp 15) (.tmp 90) rfl (new := #[.int .i64 x, .int .i64 boot, .int .i64 y, .slice A n cap]) rfl rfl HX15.out rfl (by kernel_rfl) (by simp [Value.oneCell']) ?_; intro we hb hg; have HX5 := Aside0.mk hb; have HBe := Aside0.mk (Lb.grown_below HB15.out hg HB15.out.size (by have := HG15.out; omega)); have b1 := (blk_cell hb 1).trans rfl; have f1 := blk_free hb 1; clear hb hg)
          | ((with_reducible refine gate_store (t := 3) (p := 94) rfl ?_); refine Lb.store_one rfl rfl 3 (.tmp 94) (.tmp 93) rfl (g := g15) (off := 1) (u := .int .i64 ((boot : Int) + 1)) rfl rfl rfl rfl HX5.out (by kernel_rfl) (by simp) ?_; intro wf hb hg; clear b1 f1; have HX6 := Aside0.mk hb; have HBf := Aside0.mk (Lb.grown_below HBe.out hg HBe.out.size (by have := HG15.out; omega)); have b0 := (blk_cell hb 0).trans rfl; have b1 := (blk_cell hb 1).trans rfl; have b2 := (blk_cell hb 2).trans rfl; have b3 := (blk_cell hb 3).trans rfl; clear hb hg)
          | (go_at_call 39; (with_reducible refine (HSV.out _ ((HL4.out.step HBf.out).less HBw.out) (HD4.out.step HBf.out)).mono ?_); rintro e7 wg ⟨rfl, hd9, hl9, hf9⟩; have HD9 := Aside0.mk hd9; have HL9 := Aside0.mk hl9; have HR9 := Aside0.mk (RecsAt.frL (own_less (HR4.out.step HBf.out) HBw.out) hf9); have HF9 := Aside0.mk ((FrL.of (below_step HB4.out HBf.out) HBw.out).trans hf9); clear hd9 hl9 hf9 b0 b1 b2 b3))
        exact bodyPost_ret (v := .tuple #[.pointer (some ⟨gl, 0, none⟩), v2, .int .i64 0]) (by simp [results, Tryd.results11, go_sem]) rfl ⟨HD9.out, HF9.out, .inl ⟨rfl, gl, v2, rfl, HL9.out, HR9.out⟩⟩
      · have hb1 : (r2 != 0) = true := by simpa using hr0
        have hb2 : (r2 == 0) = false := by simpa using hr0
        go_wp2_with (first
          | (go_at_call 36; (with_reducible refine (known_calls B gl gd d ⟨⟨serial, boot, seq, pre ++ [⟨id, used⟩]⟩, place⟩ _ o1 _ (HL.out.less HBw.out) HD1.out HOFF.out (by have := HUP.out; simp; omega) (fun s hs => by have := HID.out s hs; have := HSG.out; omega) HSS.out.2.2.1 HKN.out HUP.out.2.2.2.1).mono ?_); rintro e1 wa ⟨v1, rfl, hrec, hb⟩; have HR1 := Aside0.mk (own_less hrec HB1.out.size); have HL2 := Aside0.mk (HL.out.step hb); have HD2 := Aside0.mk (HD1.out.step hb); have HB2 := Aside0.mk (below_step HB1.out hb); clear hrec hb)
          | (go_at_call 37; (with_reducible refine (further_calls B w.heap.size gl gd d ⟨⟨serial, boot, seq, pre ++ [⟨id, used⟩]⟩, place⟩ _ v1 pre id used o1 (U, Q, out) _ HL2.out rfl HUP.out.2.2.1 HD2.out HB2.out.size HOFF.out (by have := HLS.out; have := HSG.out; omega) HLS.out.2 HSS.out.2.2.1 HR1.out HUP.out.2.2.2.1 HF.out).mono ?_); rintro e2 wb ⟨v2, rfl, hrec, hlg, hdk, hb⟩; have HR3 := Aside0.mk hrec; have HL3 : Aside0 (LRaw w.heap.size wb gl gd ⟨⟨serial, boot, Q, pre ++ [⟨id, U⟩]⟩, place⟩ (.slice A n cap)) := ⟨hlg⟩; have HD3 := Aside0.mk hdk; have HB3 := Aside0.mk (HB2.out.trans hb); obtain ⟨c0, c1, c2, c3, c4, c5⟩ := hlg.cells; clear hrec hlg hdk hb c0 c1 c2 c4 c5)
          | (go_at_call 38; (with_reducible refine (next_any w.heap.size gl gd ⟨⟨serial, boot, Q, pre ++ [⟨id, U⟩]⟩, place⟩ (.slice A n cap) A n cap x y HX1.out HY1.out _ HL3.out HS9.out.1).mono ?_); rintro e3 wc ⟨rfl, hb⟩; have HR4 := Aside0.mk (HR3.out.step hb); have HL4 := Aside0.mk (HL3.out.step hb); have HD4 := Aside0.mk (HD3.out.step hb); have HB4 := Aside0.mk (below_step HB3.out hb); clear hb c3)
          | ((with_reducible refine gate_dst (N := 15) rfl ?_); refine Lb.alloc_event ?hg (v := fun g => .pointer (some ⟨g, 0, none⟩)) (cs := #[.int .i64 0, .int .i64 0, .int .i64 0, .slice none 0 0]) (t := 78) (fr := (0, 0)) ?hr ?_; (case hg => rfl); (case hr => first | (go_simp; done) | (go_simp; rfl)); intro g15 hg15 wd hx hb; have HX15 := Aside0.mk hx; have HB15 := Aside0.mk hb; have HG15 := Aside0.mk hg15; clear hx hb hg15)
          | ((with_reducible refine gate_store (t := 78) (p := 15) rfl ?_); refine Lb.store_whole rfl rfl 78 (.tmp 15) (.tmp 90) rfl (new := #[.int .i64 x, .int .i64 boot, .int .i64 y, .slice A n cap]) rfl rfl HX15.out rfl (by kernel_rfl) (by simp [Value.oneCell']) ?_; intro we hb hg; have HX5 := Aside0.mk hb; have HBe := Aside0.mk (Lb.grown_below HB15.out hg HB15.out.size (by have := HG15.out; omega)); have b1 := (blk_cell hb 1).trans rfl; have f1 := blk_free hb 1; clear hb hg)
          | ((with_reducible refine gate_store (t := 3) (p := 94) rfl ?_); refine Lb.store_one rfl rfl 3 (.tmp 94) (.tmp 93) rfl (g := g15) (off := 1) (u := .int .i64 ((boot : Int) + 1)) rfl rfl rfl rfl HX5.out (by kernel_rfl) (by simp) ?_; intro wf hb hg; clear b1 f1; have HX6 := Aside0.mk hb; have HBf := Aside0.mk (Lb.grown_below HBe.out hg HBe.out.size (by have := HG15.out; omega)); have b0 := (blk_cell hb 0).trans rfl; have b1 := (blk_cell hb 1).trans rfl; have b2 := (blk_cell hb 2).trans rfl; have b3 := (blk_cell hb 3).trans rfl; clear hb hg)
          | (go_at_call 39; (with_reducible refine (HSV.out _ ((HL4.out.step HBf.out).less HBw.out) (HD4.out.step HBf.out)).mono ?_); rintro e7 wg ⟨rfl, hd9, hl9, hf9⟩; have HD9 := Aside0.mk hd9; have HL9 := Aside0.mk hl9; have HR9 := Aside0.mk (RecsAt.frL (own_less (HR4.out.step HBf.out) HBw.out) hf9); have HF9 := Aside0.mk ((FrL.of (below_step HB4.out HBf.out) HBw.out).trans hf9); clear hd9 hl9 hf9 b0 b1 b2 b3))
        exact bodyPost_ret (v := .tuple #[.pointer none, .slice none 0 0, .int .i64 r2]) (by simp [results, Tryd.results11, go_sem]) rfl ⟨HD9.out, HF9.out, .inr ⟨hr0, rfl⟩⟩
    | succ gk =>
      have hi2 : (i : Int) < 2 := by omega
      obtain ⟨pk, hpk⟩ : ∃ pk, pickTo d.now i = pk := ⟨_, rfl⟩
      rw [hpk] at hs7 HK
      obtain ⟨o, ho⟩ : ∃ o, cpOf (secOf d.now i) (segsN d.now) = o := ⟨_, rfl⟩
      have HST : Aside0 (pickTo d.now (i + 1) = stepP pk o i) := ⟨by rw [pickTo, hpk, ho]⟩
      have HO := Aside0.mk ho
      have HLEN : Aside0 ((secOf d.now i).length = 256) := ⟨secOf_len HD.out.ok i (by have := H66.out; omega)⟩
      have HIL : Aside0 (i < d.now.length) := ⟨by have := H66.out; omega⟩
      have HI := Aside0.mk hi
      clear hpk ho hi
      subst hs7
      cases o with
      | none =>
        go_wp2_with (first
          | (go_at_call 34; (with_reducible refine (read_calls B gd i d _ (HD.out.step HK.out.bel) HIL.out HOFF.out).mono ?_); rintro e1 wa ⟨rfl, hb⟩; have HKa := Aside0.mk (HK.out.step hb); clear hb)
          | (go_at_call 35; (with_reducible refine (cp_none _ HLEN.out _ HS64.out _ HO.out).mono ?_); rintro e2 wb ⟨rfl, hb⟩; have HKb := Aside0.mk (HKa.out.step hb); clear hb)
          | ((with_reducible refine gate_dst (N := 11) rfl ?_); refine Lb.alloc_event ?hg (v := fun g => .pointer (some ⟨g, 0, none⟩)) (cs := #[.int .i64 0, .int .i64 0, .int .i64 0, .slice none 0 0]) (t := 78) (fr := (0, 0)) ?hr ?_; (case hg => rfl); (case hr => first | (go_simp; done) | (go_simp; rfl)); intro g11 hg11 wc hx hb; have HX := Aside0.mk hx; have HKc := Aside0.mk (HKb.out.step hb); have HBc := Aside0.mk hb; have HGc := Aside0.mk hg11; clear hx hb hg11)
          | ((with_reducible refine gate_store (t := 78) (p := 11) rfl ?_); refine Lb.store_whole rfl rfl 78 (.tmp 11) (.tmp 40) rfl (new := #[.int .i64 0, .int .i64 0, .int .i64 0, .slice none 0 0]) rfl rfl HX.out rfl (by kernel_rfl) (by simp [Value.oneCell']) ?_; intro wd hb hg; have HXd := Aside0.mk hb; have HBd := Aside0.mk (Lb.grown_below HBc.out hg HBc.out.size (by have := HGc.out; omega)); have HKd := Aside0.mk (HKb.out.step HBd.out); clear hb hg))
        go_quiet (fail)
        have HKe := Aside0.mk (HKd.out.step (bel_drewN _ nq))
        go_wp2_with fail
        go_roundg gk
        case measure => omega
        case rel => exact ⟨i + 1, vS, by have := HI.out; omega, by go_num, by rw [HST.out]; rfl, ⟨by rw [HST.out]; exact HKe.out⟩⟩
      | some c =>
        obtain ⟨cs, cb, cq, cl⟩ := c
        obtain ⟨n, hn⟩ : ∃ n, n = cl.length := ⟨_, rfl⟩
        have HN := Aside0.mk hn
        clear hn
        cases pk with
        | none =>
          have HYES : Aside0 (stepP none (some ⟨cs, cb, cq, cl⟩) i = some (⟨cs, cb, cq, cl⟩, i)) := ⟨rfl⟩
          go_wp2_with (first
            | (go_at_call 34; (with_reducible refine (read_calls B gd i d _ (HD.out.step HK.out.bel) HIL.out HOFF.out).mono ?_); rintro e1 wa ⟨rfl, hb⟩; have HKa := Aside0.mk (HK.out.step hb); clear hb)
            | (go_at_call 35; (with_reducible refine (cp_some2 _ HLEN.out _ HS64.out _ cs cb cq cl n HN.out HO.out).mono ?_); rintro e2 wb ⟨A, cap, rfl, hsg, hb⟩; have HSG2 : Aside0 (SegsAt w.heap.size wb (.slice A n cap) cl) := ⟨own_less hsg HKa.out.bel.size⟩; have HKb := Aside0.mk (HKa.out.step hb); clear hb hsg)
            | ((with_reducible refine gate_dst (N := 11) rfl ?_); refine Lb.alloc_event ?hg (v := fun g => .pointer (some ⟨g, 0, none⟩)) (cs := #[.int .i64 0, .int .i64 0, .int .i64 0, .slice none 0 0]) (t := 78) (fr := (0, 0)) ?hr ?_; (case hg => rfl); (case hr => first | (go_simp; done) | (go_simp; rfl)); intro g11 hg11 wc hx hb; have HX := Aside0.mk hx; have HKc := Aside0.mk (HKb.out.step hb); have HBc := Aside0.mk hb; have HGc := Aside0.mk hg11; clear hx hb hg11)
            | ((with_reducible refine gate_store (t := 78) (p := 11) rfl ?_); refine Lb.store_whole rfl rfl 78 (.tmp 11) (.tmp 40) rfl (new := #[.int .i64 cs, .int .i64 cb, .int .i64 cq, .slice A n cap]) rfl rfl HX.out rfl (by kernel_rfl) (by simp [Value.oneCell']) ?_; intro wd hb hg; have HXd := Aside0.mk hb; have HBd := Aside0.mk (Lb.grown_below HBc.out hg HBc.out.size (by have := HGc.out; omega)); have HKd := Aside0.mk (HKb.out.step HBd.out); clear hb hg))
          have k0 := (blk_cell HXd.out 0).trans rfl
          skip
          go_quiet (fail)
          have HXe := Aside0.mk (Lb.blk_below HXd.out (bel_drewN _ nq))
          have HKe := Aside0.mk (HKd.out.step (bel_drewN _ nq))
          have HSe : Aside0 (SegsAt w.heap.size (wd.drewN nq) (.slice A n cap) cl) := ⟨(HSG2.out.step HBd.out).step (bel_drewN _ nq)⟩
          clear k0
          have k0 := (blk_cell HXe.out 0).trans rfl
          have k1 := (blk_cell HXe.out 1).trans rfl
          have k2 := (blk_cell HXe.out 2).trans rfl
          have k3 := (blk_cell HXe.out 3).trans rfl
          go_wp2_with (first
            | ((with_reducible refine gate_store (t := 78) (p := 62) rfl ?_); refine Lb.store_part rfl rfl 78 (.tmp 62) (.tmp 59) rfl (g := gl) (off := 0) (u := .agg #[.int .i64 cs, .int .i64 cb, .int .i64 cq, .slice A n cap]) [.int .i64 cs, .int .i64 cb, .int .i64 cq, .slice A n cap] rfl rfl rfl HKe.out.blk (by kernel_rfl) (by simp [lgCells]) (by simp [Value.oneCell']) ?_; intro wf cur' hb hcur hg; have hcur' : cur' = #[.int .i64 cs, .int .i64 cb, .int .i64 cq, .slice A n cap, .pointer (some ⟨gd, 0, none⟩), .int .i64 0] := (by apply Array.toList_inj.1; rw [hcur]; rfl); subst hcur'; have HXf := Aside0.mk hb; have HGf := Aside0.mk hg; clear hb hg hcur k0 k1 k2 k3)
            | ((with_reducible refine gate_store (t := 3) (p := 64) rfl ?_); refine Lb.store_one rfl rfl 3 (.tmp 64) (.tmp 60) rfl (g := gl) (off := 5) (u := .int .i64 (i : Int)) rfl rfl rfl rfl HXf.out (by kernel_rfl) (by simp) ?_; intro wh hb hg; have HXh := Aside0.mk hb; have HGh := Aside0.mk hg; clear hb hg))
          go_roundg gk
          case measure => omega
          case rel => exact ⟨i + 1, .slice A n cap, by have := HI.out; omega, by go_num, by rw [HST.out, HYES.out]; rfl, ⟨by rw [HST.out, HYES.out]; exact PB.put HKe.out HSe.out HGf.out HGh.out HXf.out HXh.out⟩⟩
        | some ap =>
          obtain ⟨⟨sa, ab, aq, al⟩, pp⟩ := ap
          by_cases hlt : sa < cs
          · have hltI : (sa : Int) < (cs : Int) := by omega
            have HYES : Aside0 (stepP (some (⟨sa, ab, aq, al⟩, pp)) (some ⟨cs, cb, cq, cl⟩) i = some (⟨cs, cb, cq, cl⟩, i)) := ⟨by show (if sa < cs then _ else _) = _; rw [if_pos hlt]⟩
            go_wp2_with (first
              | (go_at_call 34; (with_reducible refine (read_calls B gd i d _ (HD.out.step HK.out.bel) HIL.out HOFF.out).mono ?_); rintro e1 wa ⟨rfl, hb⟩; have HKa := Aside0.mk (HK.out.step hb); clear hb)
              | (go_at_call 35; (with_reducible refine (cp_some2 _ HLEN.out _ HS64.out _ cs cb cq cl n HN.out HO.out).mono ?_); rintro e2 wb ⟨A, cap, rfl, hsg, hb⟩; have HSG2 : Aside0 (SegsAt w.heap.size wb (.slice A n cap) cl) := ⟨own_less hsg HKa.out.bel.size⟩; have HKb := Aside0.mk (HKa.out.step hb); clear hb hsg)
              | ((with_reducible refine gate_dst (N := 11) rfl ?_); refine Lb.alloc_event ?hg (v := fun g => .pointer (some ⟨g, 0, none⟩)) (cs := #[.int .i64 0, .int .i64 0, .int .i64 0, .slice none 0 0]) (t := 78) (fr := (0, 0)) ?hr ?_; (case hg => rfl); (case hr => first | (go_simp; done) | (go_simp; rfl)); intro g11 hg11 wc hx hb; have HX := Aside0.mk hx; have HKc := Aside0.mk (HKb.out.step hb); have HBc := Aside0.mk hb; have HGc := Aside0.mk hg11; clear hx hb hg11)
              | ((with_reducible refine gate_store (t := 78) (p := 11) rfl ?_); refine Lb.store_whole rfl rfl 78 (.tmp 11) (.tmp 40) rfl (new := #[.int .i64 cs, .int .i64 cb, .int .i64 cq, .slice A n cap]) rfl rfl HX.out rfl (by kernel_rfl) (by simp [Value.oneCell']) ?_; intro wd hb hg; have HXd := Aside0.mk hb; have HBd := Aside0.mk (Lb.grown_below HBc.out hg HBc.out.size (by have := HGc.out; omega)); have HKd := Aside0.mk (HKb.out.step HBd.out); clear hb hg))
            have k0 := (blk_cell HXd.out 0).trans rfl
            have y0 : wd.cell? ⟨gl, 0, none⟩ = some (.int .i64 sa) := (blk_cell HKd.out.blk 0).trans rfl
            go_quiet (fail)
            have HXe := Aside0.mk (Lb.blk_below HXd.out (bel_drewN _ nq))
            have HKe := Aside0.mk (HKd.out.step (bel_drewN _ nq))
            have HSe : Aside0 (SegsAt w.heap.size (wd.drewN nq) (.slice A n cap) cl) := ⟨(HSG2.out.step HBd.out).step (bel_drewN _ nq)⟩
            clear k0
            have k0 := (blk_cell HXe.out 0).trans rfl
            have k1 := (blk_cell HXe.out 1).trans rfl
            have k2 := (blk_cell HXe.out 2).trans rfl
            have k3 := (blk_cell HXe.out 3).trans rfl
            go_wp2_with (first
              | ((with_reducible refine gate_store (t := 78) (p := 62) rfl ?_); refine Lb.store_part rfl rfl 78 (.tmp 62) (.tmp 59) rfl (g := gl) (off := 0) (u := .agg #[.int .i64 cs, .int .i64 cb, .int .i64 cq, .slice A n cap]) [.int .i64 cs, .int .i64 cb, .int .i64 cq, .slice A n cap] rfl rfl rfl HKe.out.blk (by kernel_rfl) (by simp [lgCells]) (by simp [Value.oneCell']) ?_; intro wf cur' hb hcur hg; have hcur' : cur' = #[.int .i64 cs, .int .i64 cb, .int .i64 cq, .slice A n cap, .pointer (some ⟨gd, 0, none⟩), .int .i64 (pp : Int)] := (by apply Array.toList_inj.1; rw [hcur]; rfl); subst hcur'; have HXf := Aside0.mk hb; have HGf := Aside0.mk hg; clear hb hg hcur k0 k1 k2 k3)
              | ((with_reducible refine gate_store (t := 3) (p := 64) rfl ?_); refine Lb.store_one rfl rfl 3 (.tmp 64) (.tmp 60) rfl (g := gl) (off := 5) (u := .int .i64 (i : Int)) rfl rfl rfl rfl HXf.out (by kernel_rfl) (by simp) ?_; intro wh hb hg; have HXh := Aside0.mk hb; have HGh := Aside0.mk hg; clear hb hg))
            go_roundg gk
            case measure => omega
            case rel => exact ⟨i + 1, .slice A n cap, by have := HI.out; omega, by go_num, by rw [HST.out, HYES.out]; rfl, ⟨by rw [HST.out, HYES.out]; exact PB.put HKe.out HSe.out HGf.out HGh.out HXf.out HXh.out⟩⟩
          · have hltI : ¬ ((sa : Int) < (cs : Int)) := by omega
            have HNO : Aside0 (stepP (some (⟨sa, ab, aq, al⟩, pp)) (some ⟨cs, cb, cq, cl⟩) i = some (⟨sa, ab, aq, al⟩, pp)) := ⟨by show (if sa < cs then _ else _) = _; rw [if_neg hlt]⟩
            go_wp2_with (first
              | (go_at_call 34; (with_reducible refine (read_calls B gd i d _ (HD.out.step HK.out.bel) HIL.out HOFF.out).mono ?_); rintro e1 wa ⟨rfl, hb⟩; have HKa := Aside0.mk (HK.out.step hb); clear hb)
              | (go_at_call 35; (with_reducible refine (cp_some2 _ HLEN.out _ HS64.out _ cs cb cq cl n HN.out HO.out).mono ?_); rintro e2 wb ⟨A, cap, rfl, hsg, hb⟩; have HSG2 : Aside0 (SegsAt w.heap.size wb (.slice A n cap) cl) := ⟨own_less hsg HKa.out.bel.size⟩; have HKb := Aside0.mk (HKa.out.step hb); clear hb hsg)
              | ((with_reducible refine gate_dst (N := 11) rfl ?_); refine Lb.alloc_event ?hg (v := fun g => .pointer (some ⟨g, 0, none⟩)) (cs := #[.int .i64 0, .int .i64 0, .int .i64 0, .slice none 0 0]) (t := 78) (fr := (0, 0)) ?hr ?_; (case hg => rfl); (case hr => first | (go_simp; done) | (go_simp; rfl)); intro g11 hg11 wc hx hb; have HX := Aside0.mk hx; have HKc := Aside0.mk (HKb.out.step hb); have HBc := Aside0.mk hb; have HGc := Aside0.mk hg11; clear hx hb hg11)
              | ((with_reducible refine gate_store (t := 78) (p := 11) rfl ?_); refine Lb.store_whole rfl rfl 78 (.tmp 11) (.tmp 40) rfl (new := #[.int .i64 cs, .int .i64 cb, .int .i64 cq, .slice A n cap]) rfl rfl HX.out rfl (by kernel_rfl) (by simp [Value.oneCell']) ?_; intro wd hb hg; have HXd := Aside0.mk hb; have HBd := Aside0.mk (Lb.grown_below HBc.out hg HBc.out.size (by have := HGc.out; omega)); have HKd := Aside0.mk (HKb.out.step HBd.out); clear hb hg))
            have k0 := (blk_cell HXd.out 0).trans rfl
            have y0 : wd.cell? ⟨gl, 0, none⟩ = some (.int .i64 sa) := (blk_cell HKd.out.blk 0).trans rfl
            go_quiet (fail)
            have HXe := Aside0.mk (Lb.blk_below HXd.out (bel_drewN _ nq))
            have HKe := Aside0.mk (HKd.out.step (bel_drewN _ nq))
            have HSe : Aside0 (SegsAt w.heap.size (wd.drewN nq) (.slice A n cap) cl) := ⟨(HSG2.out.step HBd.out).step (bel_drewN _ nq)⟩
            clear k0
            go_wp2_with fail
            go_roundg gk
            case measure => omega
            case rel => exact ⟨i + 1, vS, by have := HI.out; omega, by go_num, by rw [HST.out, HNO.out]; rfl, ⟨by rw [HST.out, HNO.out]; exact HKe.out⟩⟩
end Go.Proofs.YtfiocakhgpdlfaaDoor.Sg
