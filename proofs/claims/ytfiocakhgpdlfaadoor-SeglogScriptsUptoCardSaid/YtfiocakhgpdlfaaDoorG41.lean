/- Append: the walk. -/
import Derived.Test.YtfiocakhgpdlfaaDoorG39
import Derived.StillTailTactics
import Derived.Lib.MinMax
namespace Go.Proofs.YtfiocakhgpdlfaaDoor.Sg
open Go.RowKit Go.Lib Go.Proofs.YtfiocakhgpdlfaaDoor.Ap Go.Proofs.YtfiocakhgpdlfaaDoorW.PrintWords Go.Proofs.YtfiocakhgpdlfaaDoorW.PrintLast Go.Proofs.YtfiocakhgpdlfaaDoorW.PrintMore
set_option linter.unusedVariables false
set_option linter.unusedSimpArgs false
attribute [local go_sem] toB_size num_length

set_option maxRecDepth 100000 in
set_option maxHeartbeats 16000000 in
theorem append_b (B gl gd : Nat) (d : Dk) (serial boot seq : Nat) (pre : List Seg) (id used place : Nat) (vS : Value) (body : List UInt8) (R : Dk × Lg × Res) (w : World) (hl : LRaw B w gl gd ⟨⟨serial, boot, seq, pre ++ [⟨id, used⟩]⟩, place⟩ vS) (hd : DAt B w gd d) (hok : SegsOk (segsN d.now) (pre ++ [⟨id, used⟩]))
    (hs1 : serial ≤ top) (hs2 : boot ≤ top) (hs3 : seq ≤ top) (hp : place ≤ 1) (hq : d.queue.length ≤ 10) (h66 : 66 ≤ d.now.length) (hbl : body.length ≤ 1000000) (hR : append d ⟨⟨serial, boot, seq, pre ++ [⟨id, used⟩]⟩, place⟩ body = R) (h16 : ¬ 16 < partsN body.length) (htop : ¬ top ≤ seq) (hfit : fits ⟨⟨serial, boot, seq, pre ++ [⟨id, used⟩]⟩, place⟩ body.length = false) :
    Calls Tryd.prog 12 #[.pointer (some ⟨gl, 0, none⟩), .string (toB body)] w (APost B gl gd w R) := by
  have HS64 : Aside0 (segsN d.now ≤ 64) := ⟨segsN_le _⟩
  have HSG : Aside0 (2 + segsN d.now * 16 ≤ d.now.length) := ⟨by unfold segsN; omega⟩
  have HTOP : Aside0 (top = 1152921504606846976) := ⟨rfl⟩
  have hlen := hok.len
  rw [List.length_append, List.length_singleton] at hlen
  obtain ⟨k, cap, rfl, hBk, -, -⟩ := hl.segs.at 0 (by show 0 < (pre ++ [(⟨id, used⟩ : Seg)]).length; simp)
  obtain ⟨m, hm⟩ : ∃ m, m = pre.length := ⟨_, rfl⟩
  have HM := Aside0.mk hm
  have HP63 : Aside0 (pre.length ≤ 63) := ⟨by have := HS64.out; omega⟩
  have HL : Aside0 (LRaw B w gl gd ⟨⟨serial, boot, seq, pre ++ [⟨id, used⟩]⟩, place⟩ (.slice (some ⟨k, 0, none⟩) (m + 1) cap)) := ⟨by have h := hl; rw [hm]; simpa using h⟩
  have HD := Aside0.mk hd
  have HOK := Aside0.mk hok
  have HU16 : Aside0 (used ≤ 16) := ⟨hok.used ⟨id, used⟩ (by simp)⟩
  have HID : Aside0 (id < segsN d.now) := ⟨hok.id ⟨id, used⟩ (by simp)⟩
  have H66 := Aside0.mk h66
  have HSS : Aside0 (serial ≤ top ∧ boot ≤ top ∧ seq ≤ top) := ⟨hs1, hs2, hs3⟩
  have HPQ : Aside0 (place ≤ 1 ∧ d.queue.length ≤ 10) := ⟨hp, hq⟩
  have HBL : Aside0 (body.length ≤ 1000000000000000) := ⟨by omega⟩
  have HBL2 : Aside0 (body.length ≤ 1000000000) := ⟨by omega⟩
  have HBL3 := Aside0.mk hbl
  obtain ⟨of, hof⟩ : ∃ of, partsN body.length = of := ⟨_, rfl⟩
  have HOF := Aside0.mk hof
  have HOF1 : Aside0 (1 ≤ of ∧ body.length ≤ 233 * of) := ⟨by rw [← hof]; exact partsN_of _⟩
  have hof9 : of ≤ 1000000 := by rw [← hof]; unfold partsN; omega
  obtain ⟨y, hy⟩ : ∃ y : Int, y = (seq : Int) := ⟨_, rfl⟩
  have HY1 := Aside0.mk hy
  have hy0 : 0 ≤ y := by omega
  have HB9 : Aside0 (boot ≤ 9223372036854775807 ∧ seq ≤ 9223372036854775807) := ⟨by have := HTOP.out; omega⟩
  have HR := Aside0.mk hR
  have hm63 : m ≤ 63 := by have := HP63.out; omega
  have hblI : (body.length : Int) ≤ 1000000 := by omega
  clear hl hd hok hs1 hs2 hs3 hp hq h66 hbl hlen hof hR hm
  have c2w := HL.out.cells.2.2.1
  rw [← hy] at c2w
  clear hy
  rw [HOF.out] at h16
  have h16i : ¬ ((16 : Int) < (of : Int)) := by omega
  have hyt : y < 1152921504606846976 := by have := HTOP.out; have := HY1.out; omega
  have HSQ : Aside0 (seq < top) := ⟨by omega⟩
  have HOF16 : Aside0 (of ≤ 16) := ⟨by omega⟩

  have HFIT := Aside0.mk hfit
  obtain ⟨⟨d2, l2, r2⟩, hO⟩ : ∃ x, openSeg d ⟨⟨serial, boot, seq, pre ++ [⟨id, used⟩]⟩, place⟩ = x := ⟨_, rfl⟩
  have HRA : Aside0 (R = if r2 ≠ 0 then (d2, l2, .bad r2) else append2 d2 l2 body) := ⟨by rw [← HR.out]; unfold append; rw [if_neg (by rw [HOF.out]; exact h16), if_neg htop, if_neg (by rw [hfit]; simp), hO]⟩
  have HOPEN : Aside0 (∀ W, LRaw B W gl gd ⟨⟨serial, boot, seq, pre ++ [⟨id, used⟩]⟩, place⟩ (.slice (some ⟨k, 0, none⟩) (m + 1) cap) → DAt B W gd d → Calls Tryd.prog 41 #[.pointer (some ⟨gl, 0, none⟩)] W fun e w' => e = .returned (.int .i64 r2) ∧ DAt B w' gd d2 ∧ LAt B w' gl gd l2 ∧ FrL B W w') := ⟨fun W h1 h2 => opens_calls B gl gd d serial boot seq (pre ++ [⟨id, used⟩]) place _ d2 l2 r2 W h1 h2 (by simp) HOK.out HSS.out.1 HSS.out.2.1 HSS.out.2.2 HPQ.out.1 (by have := HPQ.out; omega) (by have := H66.out; omega) hO⟩
  have hr0 : r2 = 0 ∨ r2 ≠ 0 := by by_cases h : r2 = 0 <;> simp [h]
  rcases hr0 with rfl | hr0
  · obtain ⟨sr2, pr2, i2, us2, pl2, rfl, ho2, ho3, ho4, ho5, ho6, ho7⟩ := openSeg_zero hO HOK.out
    obtain ⟨m2, hm2⟩ : ∃ m2, m2 = pr2.length := ⟨_, rfl⟩
    have HM2 := Aside0.mk hm2
    have hm263 : m2 ≤ 63 := by omega
    have HUO : Aside0 (us2 + of ≤ 16) := ⟨by omega⟩
    have HAP2 : Aside0 (append2 d2 ⟨⟨sr2, boot, seq, pr2 ++ [⟨i2, us2⟩]⟩, pl2⟩ body = R) := ⟨by rw [HRA.out, if_neg (by simp)]⟩
    obtain ⟨DE, eE, hPE⟩ : ∃ DE eE, putParts ⟨sr2, boot, seq, pr2 ++ [⟨i2, us2⟩]⟩ of of 0 body d2 = (DE, eE) := ⟨_, _, rfl⟩
    have HPE2 := Aside0.mk hPE
    have HDQ : Aside0 (d2.queue.length ≤ 10 + 0) := ⟨by rw [ho5]; simp⟩
    have HIDS : Aside0 (i2 < segsN d2.now ∧ 2 + segsN d2.now * 16 ≤ d2.now.length) := ⟨by rw [ho7, ho6]; have := HSG.out; rw [ho7] at ho2; omega⟩
    have HI64 : Aside0 (segsN d2.now ≤ 64) := ⟨segsN_le _⟩
    have HYS : Aside0 (y + 1 = ((seq + 1 : Nat) : Int)) := ⟨by rw [HY1.out]; omega⟩
    clear c2w h16 htop hfit hO ho2 ho3 ho4 ho5 ho6 ho7 hm2
    go_enter Tryd.func12, Tryd.ntmps12
    go_upto_region 11 with (first
      | ((with_reducible refine gate_dst (N := 4) rfl ?_); refine Lb.alloc_event ?hg (v := fun g => .pointer (some ⟨g, 0, none⟩)) (cs := #[.int .i64 0, .int .i64 0, .string ⟨#[]⟩]) (t := 34) (fr := (0, 0)) ?hr ?_; (case hg => rfl); (case hr => first | (go_simp; done) | (go_simp; rfl)); intro g4 hg4 wa hx hb; have HK : Aside0 (AP B w wa g4 gl gd d serial boot seq pre id used place k (m + 1) cap) := ⟨⟨HL.out.step hb, HD.out.step hb, hx, FrL.of hb HD.out.lt, by omega, HD.out.lt⟩⟩; clear hx hb hg4)
      | (go_at_call 40; (with_reducible refine (parts_any body.length of HOF.out HBL.out _).mono ?_); rintro e1 wb ⟨rfl, hb⟩; replace HK := Aside0.mk (HK.out.step hb); clear hb; obtain ⟨-, -, c2, -, -, -, -⟩ := HK.out.cells HM.out HY1.out)
      | (go_at_call 27; (with_reducible refine (lfits_any B gl gd body.length serial boot seq place _ pre id used false HFIT.out _ HK.out.log HP63.out HU16.out HBL2.out).mono ?_); rintro e2 wc ⟨rfl, hb⟩; replace HK := Aside0.mk (HK.out.step hb); clear hb c2)
      | (go_at_call 41; (with_reducible refine (HOPEN.out _ HK.out.log HK.out.dk).mono ?_); rintro e9 w9 ⟨rfl, hd9, hl9, hf9⟩; obtain ⟨k2, cap2, hk2⟩ := HK.out.opened HM2.out hd9 hl9 hf9; replace HK := Aside0.mk hk2; clear hd9 hl9 hf9 hk2))
    have HPE : Aside0 (putParts ⟨sr2, boot, seq, pr2 ++ [⟨i2, us2⟩]⟩ of of 0 body d2 = (DE, eE)) := ⟨hPE⟩
    clear hPE
    obtain ⟨c0, c1, c2, c3, -, -, -⟩ := HK.out.cells HM2.out HY1.out
    go_wp2_with (first
      | (go_at_call 42; (with_reducible refine (last_calls B _ _ _ k2 (m2 + 1) cap2 (pr2 ++ [⟨i2, us2⟩]) _ HK.out.log.segs (by rw [HM2.out]; simp) (by omega) (by omega)).mono ?_); rintro e1 w1 ⟨rfl, hb⟩; replace HK := Aside0.mk (HK.out.step hb); clear hb c0 c1 c2 c3)
      | (go_at_call 40; (with_reducible refine (parts_any body.length of HOF.out HBL.out _).mono ?_); rintro e1 w2 ⟨rfl, hb⟩; replace HK := Aside0.mk (HK.out.step hb); clear hb))
    go_loopg [9, 54] of (fun gk s9 s54 wr => ∃ (i : Nat) (rest : List UInt8) (Di : Dk), i + gk = of ∧ s54 = .int .i64 i ∧ s9 = .string (toB rest) ∧ Aside0 (AP B w wr g4 gl gd Di sr2 boot seq pr2 i2 us2 pl2 k2 (m2 + 1) cap2) ∧ Aside0 (putParts ⟨sr2, boot, seq, pr2 ++ [⟨i2, us2⟩]⟩ of gk i rest Di = (DE, eE)) ∧ Aside0 (Di.queue.length ≤ 10 + i ∧ Di.now.length = d2.now.length ∧ rest.length ≤ 1000000))
    case atStart => exact ⟨0, body, d2, by omega, rfl, rfl, HK, HPE, ⟨HDQ.out, rfl, HBL3.out⟩⟩
    case round =>
      clear HK HPE
      obtain ⟨i, rest, Di, hi, rfl, rfl, HK, HPE, HDI⟩ := hrel
      cases gk with
      | zero =>
        obtain rfl : i = of := by omega
        have hii : ¬ ((i : Int) < (i : Int)) := by omega
        have hpe := HPE.out
        rw [putParts] at hpe
        simp only [Prod.mk.injEq] at hpe
        obtain ⟨rfl, rfl⟩ := hpe
        obtain ⟨Df, hDf⟩ : ∃ Df, Di.flush.1 = Df := ⟨_, rfl⟩
        have HDF := Aside0.mk hDf
        clear hDf HPE hi
        have HFQ : Aside0 (Di.queue.length ≤ 1000000) := ⟨by have := HDI.out; omega⟩
        obtain ⟨-, -, -, -, c4, -, -⟩ := HK.out.cells HM2.out HY1.out
        rcases flush_two Di with hf | hf
        · have HF0 := Aside0.mk hf
          have HRV : Aside0 (R = (Df, ⟨⟨sr2, boot, seq + 1, pr2 ++ [⟨i2, us2 + i⟩]⟩, pl2⟩, .ok ⟨seq, i2, body⟩)) := ⟨by
            have h := HAP2.out
            unfold append2 at h
            rw [HOF.out, HPE2.out] at h
            simp only [HF0.out, HDF.out, ne_eq, not_true_eq_false, if_false] at h
            rw [← h]
            simp [setLast, lastSeg]⟩
          have hUi : (us2 : Int) + (i : Int) ≤ 100 := by have := HUO.out; have := HOF16.out; omega
          have hUi2 : (0 : Int) ≤ (us2 : Int) + (i : Int) := by omega
          clear hf
          go_wp2_with (first
            | (go_at_call 33; (with_reducible refine (flush_any B gd Di Df 0 HDF.out HF0.out _ HK.out.dk HFQ.out).mono ?_); rintro e6 w6 ⟨rfl, hd6, hf6⟩; replace HK := Aside0.mk (HK.out.disk hd6 hf6); clear hd6 hf6 c4; obtain ⟨-, -, -, -, -, -, q1⟩ := HK.out.cells HM2.out HY1.out)
            | ((with_reducible refine gate_store (t := 3) (p := 130) rfl ?_); obtain ⟨row, r1, r2, -, -, -⟩ := HK.out.log.segs.setUsed (u' := us2 + i); rw [← HM2.out] at r2; refine Lb.store_one rfl rfl 3 (.tmp 130) (.tmp 128) rfl (g := k2) (off := m2 * 2 + 1) (u := .int .i64 ((us2 : Int) + (i : Int))) rfl rfl rfl rfl r1 (by kernel_rfl) r2 ?_; intro w7 hb hg; rw [← Int.natCast_add, HM2.out] at hb; have HK5 := Aside0.mk (HK.out.used r1 hb hg); clear hb hg r1 r2 q1 HK; obtain ⟨-, -, c2, -, -, -, -⟩ := HK5.out.cells HM2.out HY1.out)
            | ((with_reducible refine gate_store (t := 3) (p := 139) rfl ?_); refine Lb.store_one rfl rfl 3 (.tmp 139) (.tmp 136) rfl (g := gl) (off := 2) (u := .int .i64 (y + 1)) rfl rfl rfl rfl HK5.out.log.blk (by kernel_rfl) (show 2 < 6 by decide) ?_; intro w8 hb hg; have HK6 := Aside0.mk (HK5.out.seq (seq' := seq + 1) (by rw [← HYS.out]; exact hb) hg); clear hb hg c2))
          obtain ⟨-, -, c2, -, -, q0, -⟩ := HK6.out.cells HM2.out HYS.out
          have hsub : IntKind.i64.wrap y = y := by rw [IntKind.wrap_i64]; omega
          go_still_tail 12, (by kernel_rfl)
          change wpList _ _ _ _ _ w8.drew
          replace HK := Aside0.mk (HK6.out.step (Lb.below_drew w8))
          clear c2 q0 HK6
          generalize w8.drew = w9 at HK ⊢
          go_wp2_with (first
            | ((with_reducible refine gate_store (t := 34) (p := 4) rfl ?_); refine Lb.store_whole rfl rfl 34 (.tmp 4) (.tmp 151) rfl (new := #[.int .i64 y, .int .i64 i2, .string (toB body)]) rfl rfl HK.out.rcd rfl (by kernel_rfl) (by simp [Value.oneCell']) ?_; intro wz hb hg; have HZ := Aside0.mk (HK.out.shut hg); have v0 := (blk_cell hb 0).trans rfl; have v1 := (blk_cell hb 1).trans rfl; have v2 := (blk_cell hb 2).trans rfl; clear hb hg))
          exact bodyPost_ret (v := .tuple #[.agg #[.int .i64 y, .int .i64 i2, .string (toB body)], .int .i64 0]) (by simp [results, Tryd.results12, go_sem, v0, v1, v2]) rfl (by rw [HRV.out]; exact ⟨by rw [HY1.out]; rfl, HZ.out.1, HZ.out.2.1, HZ.out.2.2⟩)
        · have HF0 := Aside0.mk hf
          have HRV : Aside0 (R = (Df, ⟨⟨sr2, boot, seq, pr2 ++ [⟨i2, us2⟩]⟩, pl2⟩, .bad 20)) := ⟨by
            have h := HAP2.out
            unfold append2 at h
            rw [HOF.out, HPE2.out] at h
            simp only [HF0.out, HDF.out, ne_eq, not_true_eq_false, if_false] at h
            rw [← h]
            rfl⟩
          clear hf
          go_wp2_with (first
            | (go_at_call 33; (with_reducible refine (flush_any B gd Di Df 20 HDF.out HF0.out _ HK.out.dk HFQ.out).mono ?_); rintro e6 w6 ⟨rfl, hd6, hf6⟩; replace HK := Aside0.mk (HK.out.disk hd6 hf6); clear hd6 hf6 c4)
            | ((with_reducible refine gate_store (t := 34) (p := 4) rfl ?_); refine Lb.store_whole rfl rfl 34 (.tmp 4) (.tmp 121) rfl (new := #[.int .i64 0, .int .i64 0, .string ⟨#[]⟩]) rfl rfl HK.out.rcd rfl (by kernel_rfl) (by simp [Value.oneCell']) ?_; intro wz hb hg; have HZ := Aside0.mk (HK.out.shut hg); have v0 := (blk_cell hb 0).trans rfl; have v1 := (blk_cell hb 1).trans rfl; have v2 := (blk_cell hb 2).trans rfl; clear hb hg))
          exact bodyPost_ret (v := .tuple #[.agg #[.int .i64 0, .int .i64 0, .string ⟨#[]⟩], .int .i64 20]) (by simp [results, Tryd.results12, go_sem, v0, v1, v2]) rfl (by rw [HRV.out]; exact ⟨rfl, HZ.out.1, HZ.out.2.1, HZ.out.2.2⟩)
      | succ gk =>
        have hii : (i : Int) < (of : Int) := by omega
        have HI := Aside0.mk hi
        have hi16 : (i : Int) ≤ 16 := by have := HOF16.out; omega
        obtain ⟨nn, hnn⟩ : ∃ nn, nn = min rest.length 233 := ⟨_, rfl⟩
        have hmin : min (rest.length : Int) 233 = (nn : Int) := by omega
        have hn233 : (nn : Int) ≤ 233 := by omega
        have hnr : (nn : Int) ≤ (rest.length : Int) := by omega
        have hrl : (rest.length : Int) ≤ 1000000 := by have := HDI.out; omega
        have HNN := Aside0.mk hnn
        have hx9 : 23 + min nn rest.length ≤ 9223372036854775807 := by omega
        have hx8 : 23 + nn ≤ 9223372036854775807 := by omega
        have hx7 : (23 : Int) + (nn : Int) ≤ 9223372036854775807 := by omega
        have hx6 : ((toB rest).extract 0 nn).size = nn := by rw [ByteArray.size_extract, toB_size]; omega
        clear hnn hi
        have HTX : Aside0 (((⟨#[82]⟩ : ByteArray) ++ toB (num boot 8) ++ toB (num seq 8) ++ toB (num i 2) ++ toB (num of 2) ++ toB (num nn 2) ++ (toB rest).extract 0 nn) = toB (Part.bytes ⟨boot, seq, i, of, rest.take 233⟩)) := ⟨part_text boot seq i of nn rest HNN.out⟩
        have HRS : Aside0 ((toB rest).extract nn rest.length = toB (rest.drop 233)) := ⟨part_rest nn rest HNN.out⟩
        go_upto_region 18 with (fail)
        go_cut [12] (fun s12 wx => s12 = .string (toB (Part.bytes ⟨boot, seq, i, of, rest.take 233⟩)) ∧ Aside0 (AP B w wx g4 gl gd Di sr2 boot seq pr2 i2 us2 pl2 k2 (m2 + 1) cap2))
        case first =>
          replace HK := Aside0.mk (HK.out.step (Lb.below_drew _))
          obtain ⟨-, c1, c2, -, -, -, -⟩ := HK.out.cells HM2.out HY1.out
          go_region_with (first
            | (go_at_call 43; (with_reducible refine (number8_any boot _ rfl HB9.out.1 _).mono ?_); rintro e2 w2 ⟨rfl, hb⟩; replace HK := Aside0.mk (HK.out.step hb); clear hb c1 c2; obtain ⟨-, c1, c2, -, -, -, -⟩ := HK.out.cells HM2.out HY1.out)
            | (go_at_call 43; (with_reducible refine (number8_any seq y HY1.out HB9.out.2 _).mono ?_); rintro e2 w2 ⟨rfl, hb⟩; replace HK := Aside0.mk (HK.out.step hb); clear hb c1 c2; obtain ⟨-, c1, c2, -, -, -, -⟩ := HK.out.cells HM2.out HY1.out)
            | (go_at_call 43; (with_reducible refine (number2_any i _ rfl (by omega) _).mono ?_); rintro e2 w2 ⟨rfl, hb⟩; replace HK := Aside0.mk (HK.out.step hb); clear hb c1 c2; obtain ⟨-, c1, c2, -, -, -, -⟩ := HK.out.cells HM2.out HY1.out)
            | (go_at_call 43; (with_reducible refine (number2_any of _ rfl (by omega) _).mono ?_); rintro e2 w2 ⟨rfl, hb⟩; replace HK := Aside0.mk (HK.out.step hb); clear hb c1 c2; obtain ⟨-, c1, c2, -, -, -, -⟩ := HK.out.cells HM2.out HY1.out)
            | (go_at_call 43; (with_reducible refine (number2_any nn _ rfl (by omega) _).mono ?_); rintro e2 w2 ⟨rfl, hb⟩; replace HK := Aside0.mk (HK.out.step hb); clear hb c1 c2; obtain ⟨-, c1, c2, -, -, -, -⟩ := HK.out.cells HM2.out HY1.out))
          all_goals
            clear c1 c2
            go_wp2_with fail
            go_meet
            exact ⟨by rw [HTX.out], HK⟩
        case rest =>
          clear HK
          obtain ⟨rfl, HK⟩ := hcut
          obtain ⟨TX, hTX⟩ : ∃ TX, toB (Part.bytes ⟨boot, seq, i, of, rest.take 233⟩) = TX := ⟨_, rfl⟩
          have HTS : Aside0 (TX.size ≤ 256) := ⟨by rw [← hTX, toB_size, Part.bytes_length]; have : (rest.take 233).length ≤ 233 := List.length_take_le _ _; show 23 + (rest.take 233).length ≤ 256; omega⟩
          have HN : Aside0 (2 + i2 * 16 + us2 + i < Di.now.length) := ⟨by have := HDI.out; have := HIDS.out; have := HUO.out; have := HI.out; omega⟩
          obtain ⟨D1, hD1⟩ : ∃ D1, (Di.write (2 + i2 * 16 + us2 + i) TX).1 = D1 := ⟨_, rfl⟩
          have HD1 := Aside0.mk hD1
          have hpe := HPE.out
          rw [putParts, last_pre] at hpe
          simp only at hpe
          rw [hTX, hD1] at hpe
          have HQ3 : Aside0 (Di.queue.length ≤ 1000) := ⟨by have := HDI.out; have := HI.out; have := HOF16.out; omega⟩
          have HQ4 : Aside0 (D1.queue.length ≤ 10 + (i + 1)) := ⟨by rw [← hD1]; have := write_len Di (2 + i2 * 16 + us2 + i) TX; have := HDI.out; omega⟩
          have HDR : Aside0 ((rest.drop 233).length ≤ 1000000) := ⟨by rw [List.length_drop]; have := HDI.out; omega⟩
          rw [hTX]
          have hid64 : (i2 : Int) ≤ 100 := by have := HIDS.out; have := HI64.out; omega
          have hus16 : (us2 : Int) ≤ 16 := by have := HUO.out; omega
          have w98 : IntKind.i64.wrap ((i2 : Int) * 16) = (i2 : Int) * 16 := by rw [IntKind.wrap_i64]; omega
          have w99 : IntKind.i64.wrap (2 + (i2 : Int) * 16) = 2 + (i2 : Int) * 16 := by rw [IntKind.wrap_i64]; omega
          have w104 : IntKind.i64.wrap (2 + (i2 : Int) * 16 + (us2 : Int)) = 2 + (i2 : Int) * 16 + (us2 : Int) := by rw [IntKind.wrap_i64]; omega
          have w106 : IntKind.i64.wrap (2 + (i2 : Int) * 16 + (us2 : Int) + (i : Int)) = 2 + (i2 : Int) * 16 + (us2 : Int) + (i : Int) := by rw [IntKind.wrap_i64]; omega
          have HAD : Aside0 (2 + (i2 : Int) * 16 + (us2 : Int) + (i : Int) = ((2 + i2 * 16 + us2 + i : Nat) : Int)) := ⟨by omega⟩
          clear hTX hD1
          rcases write_two Di (2 + i2 * 16 + us2 + i) TX with hr1 | hr1
          · rw [if_neg (by rw [hr1]; simp)] at hpe
            have HW0 := Aside0.mk hr1
            have HPE2' := Aside0.mk hpe
            have HNL : Aside0 (D1.now.length = d2.now.length) := ⟨by rw [← HD1.out, write_ok_now _ _ _ hr1]; exact HDI.out.2.1⟩
            clear hr1 hpe
            go_wp2_with fail
            replace HK := Aside0.mk (HK.out.step (Lb.below_drew _))
            obtain ⟨-, -, -, -, c4, q0, q1⟩ := HK.out.cells HM2.out HY1.out
            go_region_held3 (fun w' => w'.cell? ⟨gl, 4, none⟩ = some (.pointer (some ⟨gd, 0, none⟩)) ∧ w'.cell? ⟨k2, m2 * 2, none⟩ = some (.int .i64 i2) ∧ w'.cell? ⟨k2, m2 * 2 + 1, none⟩ = some (.int .i64 us2)) (exact ⟨(HK.out.cells HM2.out HY1.out).2.2.2.2.1, (HK.out.cells HM2.out HY1.out).2.2.2.2.2.1, (HK.out.cells HM2.out HY1.out).2.2.2.2.2.2⟩) (first
              | (go_at_call 31; (with_reducible refine (write_any B gd (2 + i2 * 16 + us2 + i) _ HAD.out TX Di D1 0 HD1.out HW0.out _ HK.out.dk HN.out HTS.out HQ3.out).mono ?_); rintro e5 w5 ⟨rfl, hd5, hf5⟩; replace HK := Aside0.mk (HK.out.disk hd5 hf5); clear hd5 hf5))
            clear c4 q0 q1 w98 w99 w104 w106
            go_wp2_with fail
            go_roundg gk
            case measure => omega
            case rel => exact ⟨i + 1, rest.drop 233, D1, by have := HI.out; omega, by go_num, by rw [HRS.out], HK, HPE2', ⟨HQ4.out, HNL.out, HDR.out⟩⟩
          · rw [if_pos (by rw [hr1]; simp), hr1] at hpe
            have HW0 := Aside0.mk hr1
            simp only [Prod.mk.injEq] at hpe
            obtain ⟨rfl, rfl⟩ := hpe
            have HRV : Aside0 (R = (D1, ⟨⟨sr2, boot, seq, pr2 ++ [⟨i2, us2⟩]⟩, pl2⟩, .bad 20)) := ⟨by
              have h := HAP2.out
              unfold append2 at h
              rw [HOF.out, HPE2.out] at h
              rw [if_pos (by simp)] at h
              exact h.symm⟩
            clear hr1
            go_wp2_with fail
            replace HK := Aside0.mk (HK.out.step (Lb.below_drew _))
            obtain ⟨-, -, -, -, c4, q0, q1⟩ := HK.out.cells HM2.out HY1.out
            go_region_held3 (fun w' => w'.cell? ⟨gl, 4, none⟩ = some (.pointer (some ⟨gd, 0, none⟩)) ∧ w'.cell? ⟨k2, m2 * 2, none⟩ = some (.int .i64 i2) ∧ w'.cell? ⟨k2, m2 * 2 + 1, none⟩ = some (.int .i64 us2)) (exact ⟨(HK.out.cells HM2.out HY1.out).2.2.2.2.1, (HK.out.cells HM2.out HY1.out).2.2.2.2.2.1, (HK.out.cells HM2.out HY1.out).2.2.2.2.2.2⟩) (first
              | (go_at_call 31; (with_reducible refine (write_any B gd (2 + i2 * 16 + us2 + i) _ HAD.out TX Di D1 20 HD1.out HW0.out _ HK.out.dk HN.out HTS.out HQ3.out).mono ?_); rintro e5 w5 ⟨rfl, hd5, hf5⟩; replace HK := Aside0.mk (HK.out.disk hd5 hf5); clear hd5 hf5))
            clear c4 q0 q1 w98 w99 w104 w106
            go_wp2_with (first
              | ((with_reducible refine gate_store (t := 34) (p := 4) rfl ?_); refine Lb.store_whole rfl rfl 34 (.tmp 4) (.tmp 111) rfl (new := #[.int .i64 0, .int .i64 0, .string ⟨#[]⟩]) rfl rfl HK.out.rcd rfl (by kernel_rfl) (by simp [Value.oneCell']) ?_; intro wz hb hg; have HZ := Aside0.mk (HK.out.shut hg); have v0 := (blk_cell hb 0).trans rfl; have v1 := (blk_cell hb 1).trans rfl; have v2 := (blk_cell hb 2).trans rfl; clear hb hg))
            exact bodyPost_ret (v := .tuple #[.agg #[.int .i64 0, .int .i64 0, .string ⟨#[]⟩], .int .i64 20]) (by simp [results, Tryd.results12, go_sem, v0, v1, v2]) rfl (by rw [HRV.out]; exact ⟨rfl, HZ.out.1, HZ.out.2.1, HZ.out.2.2⟩)
  · have hb1 : (r2 != 0) = true := by simpa using hr0
    have hb2 : (r2 == 0) = false := by simpa using hr0
    have HRV : Aside0 (R = (d2, l2, .bad r2)) := ⟨by rw [HRA.out, if_pos hr0]⟩
    clear c2w h16 htop hfit hO
    go_enter Tryd.func12, Tryd.ntmps12
    go_wp2_with (first
      | ((with_reducible refine gate_dst (N := 4) rfl ?_); refine Lb.alloc_event ?hg (v := fun g => .pointer (some ⟨g, 0, none⟩)) (cs := #[.int .i64 0, .int .i64 0, .string ⟨#[]⟩]) (t := 34) (fr := (0, 0)) ?hr ?_; (case hg => rfl); (case hr => first | (go_simp; done) | (go_simp; rfl)); intro g4 hg4 wa hx hb; have HK : Aside0 (AP B w wa g4 gl gd d serial boot seq pre id used place k (m + 1) cap) := ⟨⟨HL.out.step hb, HD.out.step hb, hx, FrL.of hb HD.out.lt, by omega, HD.out.lt⟩⟩; clear hx hb hg4)
      | (go_at_call 40; (with_reducible refine (parts_any body.length of HOF.out HBL.out _).mono ?_); rintro e1 wb ⟨rfl, hb⟩; replace HK := Aside0.mk (HK.out.step hb); clear hb; obtain ⟨-, -, c2, -, -, -, -⟩ := HK.out.cells HM.out HY1.out)
      | (go_at_call 27; (with_reducible refine (lfits_any B gl gd body.length serial boot seq place _ pre id used false HFIT.out _ HK.out.log HP63.out HU16.out HBL2.out).mono ?_); rintro e2 wc ⟨rfl, hb⟩; replace HK := Aside0.mk (HK.out.step hb); clear hb c2)
      | (go_at_call 41; (with_reducible refine (HOPEN.out _ HK.out.log HK.out.dk).mono ?_); rintro e9 w9 ⟨rfl, hd9, hl9, hf9⟩; have HD9 := Aside0.mk hd9; have HL9 := Aside0.mk hl9; have HF9 := Aside0.mk hf9; have HRC := Aside0.mk (hf9.frm _ _ _ _ HK.out.rcd (by decide) (by decide) (by decide) (by decide) (by decide)); clear hd9 hl9 hf9)
      | ((with_reducible refine gate_store (t := 34) (p := 4) rfl ?_); refine Lb.store_whole rfl rfl 34 (.tmp 4) (.tmp 42) rfl (new := #[.int .i64 0, .int .i64 0, .string ⟨#[]⟩]) rfl rfl HRC.out rfl (by kernel_rfl) (by simp [Value.oneCell']) ?_; intro wz hb hg; have HZ := Aside0.mk (HK.out.bad HD9.out HL9.out HF9.out hg); have v0 := (blk_cell hb 0).trans rfl; have v1 := (blk_cell hb 1).trans rfl; have v2 := (blk_cell hb 2).trans rfl; clear hb hg))
    exact bodyPost_ret (v := .tuple #[.agg #[.int .i64 0, .int .i64 0, .string ⟨#[]⟩], .int .i64 r2]) (by simp [results, Tryd.results12, go_sem, v0, v1, v2]) rfl (by rw [HRV.out]; exact ⟨rfl, HZ.out.1, HZ.out.2.1, HZ.out.2.2⟩)
end Go.Proofs.YtfiocakhgpdlfaaDoor.Sg
