/- SeglogCrash: the walk. -/
import Derived.Test.YtfiocakhgpdlfaaDoorHi
import Derived.Deep.CutBlock
namespace Go.Proofs.YtfiocakhgpdlfaaDoor.Sg
open Go.RowKit Go.Lib Go.Proofs.YtfiocakhgpdlfaaDoor.Ap Go.Proofs.YtfiocakhgpdlfaaDoorW.PrintWords Go.Proofs.YtfiocakhgpdlfaaDoorW.PrintLast Go.Proofs.YtfiocakhgpdlfaaDoorW.PrintMore
set_option linter.unusedVariables false
set_option linter.unusedSimpArgs false

/-- all that is asked of the arguments -/
structure CArgs (w : World) (A1 : Option Addr) (acts : List ActR) (A2 : Option Addr) (cuts : List CutR) : Prop where
  a : kAct.C w A1 acts.length acts
  c : kCut.C w A2 cuts.length cuts
  la : acts.length ≤ 1048576
  lc : cuts.length ≤ 1048576
  ta : ∀ x ∈ acts, x.f2.size ≤ 1048576
  tc : ∀ x ∈ cuts, x.f0 ≤ 9223372036854775807 ∧ x.f1 ≤ 9223372036854775807
theorem cell_keep {w w' : World} (hb : Below w.heap.size w w') {a : Addr} {v : Value} (hc : w.cell? a = some v) : w'.cell? a = some v := Lib.Below.cellOf hb hc (Nat.le_refl _)

set_option maxRecDepth 100000 in
set_option maxHeartbeats 16000000 in
theorem crash_law (size : Int) (A1 : Option Addr) (c1 : Nat) (acts : List ActR) (A2 : Option Addr) (c2 : Nat) (cuts : List CutR) (w : World) (hA : CArgs w A1 acts A2 cuts) :
    Calls Tryd.prog 4 #[.int .i64 size, .slice A1 acts.length c1, .slice A2 cuts.length c2] w fun e w' => e = .returned (.bool true) ∧ Below w.heap.size w w' := by
  have HA := Aside0.mk hA
  have HC0 : Aside0 (cp0.serial < top ∧ cp0.boot < top ∧ cp0.seq < top ∧ ([] : List Rec).length ≤ 100000) := ⟨small_top 1 (by omega), small_top 0 (by omega), small_top 0 (by omega), by simp⟩
  obtain ⟨na, hna⟩ : ∃ na, na = acts.length := ⟨_, rfl⟩
  obtain ⟨nc, hnc⟩ : ∃ nc, nc = cuts.length := ⟨_, rfl⟩
  have HNA := Aside0.mk hna
  have HNC := Aside0.mk hnc
  have hla := hA.la
  have hlc := hA.lc
  rw [← hna, ← hnc]
  have hnaI : (na : Int) ≤ 1048576 := by omega
  have hncI : (nc : Int) ≤ 1048576 := by omega
  clear hA hna hnc hla hlc
  go_enter Tryd.func4, Tryd.ntmps4
  go_upto_region 7 with (first
    | (go_at_call 8; (with_reducible refine (speaks_calls w).mono ?_); rintro e0 w0 ⟨rfl, hb⟩; have HB0 := Aside0.mk hb; clear hb)
    | (go_at_call 15; (with_reducible refine (disk_calls size w0).mono ?_); rintro e1 w1 ⟨sz, gd, hs1, hs2, rfl, hd, hb⟩; have HSZ := Aside0.mk (And.intro hs1 hs2); have HD1 : Aside0 (DAt w.heap.size w1 gd (Dk.mk0 sz)) := ⟨hd.less HB0.out.size⟩; have HB1 := Aside0.mk (below_step HB0.out hb); clear hd hb hs1 hs2)
    | (go_at_call 10; (with_reducible refine (format_on w.heap.size gd sz w1 HSZ.out.1 HD1.out).mono ?_); rintro e2 w2 ⟨d2, rfl, hd, hb, h1, h2, h3, h4⟩; have HD2 := Aside0.mk hd; have HB2 := Aside0.mk (HB1.out.trans hb); have HP2 := Aside0.mk (And.intro h1 (And.intro h2 (And.intro h3 h4))); clear hd hb h1 h2 h3 h4)
    | (go_at_call 11; (with_reducible refine (open_on w.heap.size gd d2 cp0 0 [] w2 HD2.out HP2.out.1 HP2.out.2.1 HP2.out.2.2.2 HC0.out.1 HC0.out.2.1 HC0.out.2.2.1 HC0.out.2.2.2).mono ?_); rintro e3 w3 ⟨d3, gl, v3, rfl, hd, hl, hr, hf, hi, hl0, hln⟩; have HK : Aside0 (CW w.heap.size w w3 gl gd d3 ⟨booted cp0, 1 - 0⟩ [] (.slice none 0 0) 2 1 0) := ⟨⟨⟨hl, hd, hi, by rw [hln, HP2.out.2.2.1]; have := HSZ.out; omega, Nat.le_refl _, Nat.le_refl _, Nat.le_refl _⟩, ⟨rfl, .inl ⟨rfl, rfl⟩⟩, HB2.out.trans hf.bel⟩⟩; obtain ⟨A3, c3, rfl, -⟩ := own_slice hr; clear hd hl hr hf hi hl0 hln))
  go_wp2_with fail
  go_loopg [9, 12, 13, 14] na (fun gk s9 s12 s13 s14 wr => ∃ (i next gl : Nat) (va : Value) (d : Dk) (l : Lg) (all : List Rec), i + gk = na ∧ s14 = .int .i64 i ∧ s13 = .int .i64 next ∧ next ≤ nc ∧ s9 = .pointer (some ⟨gl, 0, none⟩) ∧ va = s12 ∧ Aside0 (CW w.heap.size w wr gl gd d l all va (2 + 2 * i + next) (1 + i + next) i))
  case atStart => exact ⟨0, 0, gl, .slice none 0 0, d3, _, [], by omega, rfl, rfl, by omega, rfl, rfl, HK⟩
  case round =>
    clear HK
    obtain ⟨i, next, gl, va, d, l, all, hi, rfl, rfl, hnx, rfl, rfl, HK⟩ := hrel
    have HI := Aside0.mk hi
    cases gk with
    | zero =>
      obtain rfl : i = na := by omega
      have hii : ¬ ((i : Int) < (i : Int)) := by omega
      go_wp2_with fail
      go_ret
      exact ⟨rfl, HK.out.bel⟩
    | succ gko =>
      have hii : (i : Int) < (na : Int) := by omega
      have hi0 : i < acts.length := by have := HNA.out; omega
      obtain ⟨⟨f0, f1, f2⟩, hx⟩ : ∃ x, acts[i]? = some x := ⟨_, List.getElem?_eq_getElem hi0⟩
      obtain ⟨ad, rfl, x0, x1, x2⟩ := at_act HA.out.a i _ hi0 hx
      have y0 := cell_keep HK.out.bel x0
      have y1 := cell_keep HK.out.bel x1
      have y2 := cell_keep HK.out.bel x2
      simp only at y0 y1 y2
      have HF2 : Aside0 (f2.size ≤ 1048576) := ⟨HA.out.ta _ (List.mem_of_getElem? hx)⟩
      have HX3 := Aside0.mk (And.intro x0 (And.intro x1 x2))
      clear x0 x1 x2 hx hi0 hi
      go_upto_region 13 with (first
        | ((with_reducible refine gate_dst (N := 15) rfl ?_); refine Lb.alloc_event ?hg (v := fun g => .pointer (some ⟨g, 0, none⟩)) (cs := #[.int .i64 0, .int .i64 0, .string ⟨#[]⟩]) (t := 45) (fr := (0, 0)) ?hr ?_; (case hg => rfl); (case hr => first | (go_simp; done) | (go_simp; rfl)); intro g15 hg15 wa hx hb; have HX := Aside0.mk hx; have HBa := Aside0.mk hb; have HG15 := Aside0.mk hg15; clear hx hb hg15)
        | ((with_reducible refine gate_store (t := 45) (p := 15) rfl ?_); refine Lb.store_whole rfl rfl 45 (.tmp 15) (.tmp 45) rfl (new := #[.int .i64 f0, .int .i64 f1, .string f2]) rfl rfl HX.out rfl (by kernel_rfl) (by simp [Value.oneCell']) ?_; intro wb hb hg; have HX15 := Aside0.mk hb; have HKb := Aside0.mk (HK.out.step (Lb.grown_below HBa.out hg HBa.out.size (by have := HG15.out; omega))); clear hb hg y0 y1 y2))
      clear HK
      obtain ⟨b, hb⟩ : ∃ b : Bool, b = true ↔ ∃ x, cuts[next]? = some x ∧ x.f0 ≤ (i : Int) := ⟨decide (∃ x, cuts[next]? = some x ∧ x.f0 ≤ (i : Int)), by simp⟩
      have HBC := Aside0.mk hb
      have hnx2 : (next : Int) ≤ (nc : Int) := by omega
      clear hb
      (try simp only [Act.put, List.setIfInBounds_toArray, List.set_cons_zero, List.set_cons_succ])
      go_cut [58] (fun s58 wx => wb = wx ∧ s58 = .bool b)
      case first =>
        as_aux_lemma =>
          by_cases h1 : next < nc
          · have h1c : next < cuts.length := by have := HNC.out; omega
            have h1I : (next : Int) < (nc : Int) := by omega
            obtain ⟨⟨g0, g1, g2⟩, hx⟩ : ∃ x, cuts[next]? = some x := ⟨_, List.getElem?_eq_getElem h1c⟩
            obtain ⟨ac, rfl, x0, x1, x2⟩ := at_cut HA.out.c next _ h1c hx
            have y0 := cell_keep HKb.out.bel x0
            simp only at y0
            by_cases h2 : g0 ≤ (i : Int)
            · have HE : Aside0 (b = true) := ⟨HBC.out.2 ⟨_, hx, h2⟩⟩
              clear h1 h1c hx x0 x1 x2
              go_wp2_with fail
              go_meet
              exact ⟨rfl, by rw [HE.out]⟩
            · have HE : Aside0 (b = false) := ⟨by
                cases b with
                | false => rfl
                | true =>
                  obtain ⟨x, e1, e2⟩ := HBC.out.1 rfl
                  rw [hx] at e1
                  injection e1 with e1
                  subst e1
                  exact absurd e2 h2⟩
              clear h1 h1c hx x0 x1 x2
              go_wp2_with fail
              go_meet
              exact ⟨rfl, by rw [HE.out]⟩
          · have h1I : ¬ ((next : Int) < (nc : Int)) := by omega
            have HE : Aside0 (b = false) := ⟨by
              cases b with
              | false => rfl
              | true =>
                obtain ⟨x, e1, e2⟩ := HBC.out.1 rfl
                have := (List.getElem?_eq_some_iff.1 e1).1
                have := HNC.out
                omega⟩
            clear h1
            go_wp2_with fail
            go_meet
            exact ⟨rfl, by rw [HE.out]⟩
      case rest =>
        as_aux_lemma =>
          obtain ⟨rfl, rfl⟩ := hcut
          go_upto_if 58 with fail
          go_cut [13] (fun s13 wx => ∃ (next' : Nat) (d' : Dk), next ≤ next' ∧ next' ≤ nc ∧ s13 = .int .i64 next' ∧ Aside0 (CW w.heap.size w wx gl gd d' l all va (2 + 2 * i + next) (1 + i + next) i) ∧ Aside0 (wx.heap[g15]? = some (.cells #[.int .i64 f0, .int .i64 f1, .string f2] 45 (0, 0))))
          case first =>
            as_aux_lemma =>
              have hbb := HBC.out
              cases b with
              | false =>
                clear hbb
                go_wp2_with fail
                go_meet
                exact ⟨next, d, Nat.le_refl _, hnx, rfl, HKb, HX15⟩
              | true =>
                obtain ⟨⟨g0, g1, g2⟩, hx, -⟩ := hbb.1 rfl
                have h1c : next < cuts.length := (List.getElem?_eq_some_iff.1 hx).1
                have h1I : (next : Int) < (nc : Int) := by have := HNC.out; omega
                obtain ⟨ac, rfl, x0, x1, x2⟩ := at_cut HA.out.c next _ h1c hx
                have HG1 : Aside0 (g1 ≤ 9223372036854775807) := ⟨(HA.out.tc _ (List.mem_of_getElem? hx)).2⟩
                have HKc := Aside0.mk (HKb.out.step (Lb.below_drew wb))
                have HX16 := Aside0.mk (Lb.blk_below HX15.out (Lb.below_drew wb))
                have HY := Aside0.mk (And.intro x1 x2)
                have y1 := cell_keep HKc.out.bel x1
                have y2 := cell_keep HKc.out.bel x2
                simp only at y1 y2
                clear hbb hx h1c x0 x1 x2
                go_wp2_with fail
                go_region_held3 (fun w' => w'.cell? ⟨(ac.add (next * 3)).block, (ac.add (next * 3)).off + 1, none⟩ = some (.int .i64 g1) ∧ w'.cell? ⟨(ac.add (next * 3)).block, (ac.add (next * 3)).off + 2, none⟩ = some (.int .i64 g2)) (exact ⟨cell_keep HKc.out.bel HY.out.1, cell_keep HKc.out.bel HY.out.2⟩) (first
                  | (go_at_call 16; (with_reducible refine (cut_calls w.heap.size gd d g1 g2 HG1.out _ HKc.out.on.dk).mono ?_); rintro e5 w5 ⟨rfl, hd, hf⟩; have HX17 := Aside0.mk (hf.frm _ _ _ _ HX16.out (by decide) (by decide) (by decide)); replace HKc := Aside0.mk (HKc.out.cut hd hf); clear hd hf))
                clear y1 y2
                go_wp2_with fail
                go_meet
                exact ⟨next + 1, _, by omega, by omega, by go_num, HKc, HX17⟩
          case rest =>
            as_aux_lemma =>
              clear HKb HX15
              obtain ⟨next', d', hn1, hn2, rfl, HK, HX15⟩ := hcut
              obtain ⟨t, ht⟩ : ∃ t, f0.tmod 6 = t := ⟨_, rfl⟩
              have ht1 : -5 ≤ t ∧ t ≤ 5 := by rw [← ht]; have h1 := Int.tmod_lt_of_pos f0 (show (0 : Int) < 6 by omega); have h2 := Int.lt_tmod_of_pos f0 (show (0 : Int) < 6 by omega); omega
              obtain ⟨ht2, ht3⟩ := ht1
              have z0 : wc.cell? ⟨g15, 0, none⟩ = some (.int .i64 f0) := (blk_cell HX15.out 0).trans rfl
              have z1 : wc.cell? ⟨g15, 1, none⟩ = some (.int .i64 f1) := (blk_cell HX15.out 1).trans rfl
              have z2 : wc.cell? ⟨g15, 2, none⟩ = some (.string f2) := (blk_cell HX15.out 2).trans rfl
              have HZ15 := HX15
              go_upto_block 2 with fail
              have ht6 : (t + 6) % 6 = t % 6 := by omega
              rw [ht6]
              clear ht6
              have HTP : Aside0 (2 + 2 * i + next < top ∧ 1 + i + next < top ∧ i < top) := ⟨by have := HI.out; have := HNA.out; have := HA.out.la; have := HNC.out; have := HA.out.lc; unfold top; omega⟩
              have HLA2 : Aside0 (all.length ≤ 2000) := ⟨HK.out.on.inv.c.few⟩
              have HIC : Aside0 (i < na ∧ next ≤ next' ∧ next' ≤ nc) := ⟨by omega⟩
              have hi2 : i ≤ 1048576 ∧ nc ≤ 1048576 := by have := HNA.out; have := HNC.out; have := HA.out.la; have := HA.out.lc; omega
              go_cut [11, 12, 16, 17] (fun s11 s12 s16 s17 wx => ∃ (r dr : Int) (more : List UInt8) (va' : Value), s11 = .int .i64 r ∧ va' = s12 ∧ s16 = .string (toB more) ∧ s17 = .int .i64 dr ∧ Aside0 (Stepped w.heap.size w gl gd all va (3 + 2 * i + next') (1 + i + next') (i + 1) r va' more dr wx))
              case first =>
                as_aux_lemma =>
                  have HLA : Aside0 (all.length ≤ 10000000) := ⟨by have := HK.out.on.inv.c.few; omega⟩
                  by_cases hk : (t + 6) % 6 = 4
                  · have hk2 : t % 6 = 4 := by omega
                    have hk3 : (t % 6 == 4) = true := by simpa using hk2
                    have hk4 : ((t + 6) % 6 == 4) = true := by simpa using hk
                    clear hk hk2
                    go_upto_region 25 with (first
                      | (go_at_call 17; (with_reducible refine (drop_st w.heap.size gl gd f1 HK.out.on HTP.out.1 HTP.out.2.1 HTP.out.2.2).mono ?_); rintro e5 w5 ⟨r, rfl, hst⟩; have HST := Aside0.mk hst; clear hst z0 z1 z2))
                    obtain ⟨hf, hc⟩ := HST.out
                    have HR5 := Aside0.mk (HK.out.frl hf)
                    have HZ5 := Aside0.mk (hf.frm _ _ _ _ HX15.out (by decide) (by decide) (by decide) (by decide) (by decide))
                    have z1 : w5.cell? ⟨g15, 1, none⟩ = some (.int .i64 f1) := (blk_cell HZ5.out 1).trans rfl
                    clear hf HST hk3 hk4
                    rcases hc with ⟨rfl, d5, l5, hon⟩ | ⟨hr0, d5, l5, hon⟩ | ⟨rfl, d5, all5, hid, hall, hoff⟩
                    · have HON := Aside0.mk hon
                      clear hon
                      go_wp2_with (first
                        | (go_at_call 18; (with_reducible refine (without_calls w.heap.size all va f1 w5 HR5.out.1 HLA.out).mono ?_); rintro e6 w6 ⟨v6, rfl, hr, hb⟩; have HR6 : Aside0 (RecsAt w.heap.size w6 v6 (withoutI all f1)) := ⟨own_less hr HR5.out.2.size⟩; have HB6 := Aside0.mk hb; clear hr z1; have z1 : w6.cell? ⟨g15, 1, none⟩ = some (.int .i64 f1) := (blk_cell (Lb.blk_below HZ5.out hb) 1).trans rfl; clear hb))
                      go_meet
                      exact ⟨0, f1, [], v6, rfl, rfl, rfl, rfl, ⟨.inl ⟨d5, l5, _, (HON.out.step HB6.out).mono (by have := HIC.out; omega) (by have := HIC.out; omega) (Nat.le_refl _), HR6.out, HR5.out.2.trans (HB6.out.mono HR5.out.2.size)⟩⟩⟩
                    · have HON := Aside0.mk hon
                      have hrb : (r == 0) = false := by simpa using hr0
                      clear hon
                      go_wp2_with fail
                      go_meet
                      exact ⟨r, f1, [], va, rfl, rfl, rfl, rfl, ⟨.inl ⟨d5, l5, _, HON.out.mono (by have := HIC.out; omega) (by have := HIC.out; omega) (Nat.le_refl _), HR5.out.1, HR5.out.2⟩⟩⟩
                    · have HOF := Aside0.mk (And.intro hid (And.intro hall hoff))
                      clear hid hall hoff
                      go_wp2_with fail
                      go_meet
                      refine ⟨20, f1, [], va, rfl, rfl, rfl, rfl, ⟨.inr ⟨d5, all5, rfl, rfl, ⟨HOF.out.2.2.mono (by have := HIC.out; omega) (by have := HIC.out; omega) (Nat.le_refl _), HR5.out.1, HR5.out.2⟩, ?_⟩⟩⟩
                      rcases HOF.out.2.1 with h | h
                      · exact .inl h
                      · exact .inr (.inl ⟨HOF.out.1, h⟩)
                  · have hk2 : ¬ (t % 6 = 4) := by omega
                    have hk3 : (t % 6 == 4) = false := by simpa using hk2
                    have hk4 : ((t + 6) % 6 == 4) = false := by simpa using hk
                    clear hk hk2
                    have HBS : Aside0 (f2.size ≤ 100000000) := ⟨by have := HF2.out; omega⟩
                    have HBL : Aside0 ((bodyOf f1 f2.data.toList).length ≤ 10485760) := ⟨by have h := bodyOf_len f1 f2.data.toList; have e : f2.data.toList.length = f2.size := rfl; have := HF2.out; omega⟩
                    obtain ⟨bd, hbd⟩ : ∃ bd, bodyOf f1 f2.data.toList = bd := ⟨_, rfl⟩
                    have HBD := Aside0.mk hbd
                    rw [hbd] at HBL
                    clear hbd
                    go_upto_region 21 with (first
                      | (go_at_call 19; (with_reducible refine (body_any f0 f1 f2 _ HBS.out).mono ?_); rw [HBD.out]; rintro e4 w4 ⟨rfl, hb⟩; have HK4 := Aside0.mk (HK.out.step hb); clear hb z0 z1 z2)
                      | ((with_reducible refine gate_dst (N := 18) rfl ?_); refine Lb.alloc_event ?hg (v := fun g => .pointer (some ⟨g, 0, none⟩)) (cs := #[.int .i64 0, .int .i64 0, .string ⟨#[]⟩]) (t := 34) (fr := (0, 0)) ?hr ?_; (case hg => rfl); (case hr => first | (go_simp; done) | (go_simp; rfl)); intro g18 hg18 wa hx hb; have HX18 := Aside0.mk hx; have HK5 := Aside0.mk (HK4.out.step hb); have HG18 := Aside0.mk (show w.heap.size ≤ g18 ∧ w4.heap.size ≤ g18 by have := HK4.out.bel.size; omega); clear hx hb hg18)
                      | (go_at_call 12; (with_reducible refine (append_st w.heap.size gl gd bd HK5.out.on HTP.out.1 HTP.out.2.1 HTP.out.2.2 HBL.out).mono ?_); rintro e5 w5 ⟨rx, ry, rz, r, rfl, hst⟩; have HST := Aside0.mk hst; have HX19 := Aside0.mk (hst.1.frm _ _ _ _ HX18.out (by decide) (by decide) (by decide) (by decide) (by decide)); clear hst)
                      | ((with_reducible refine gate_store (t := 34) (p := 18) rfl ?_); refine Lb.store_whole rfl rfl 34 (.tmp 18) (.tmp 84) rfl (new := #[.int .i64 rx, .int .i64 ry, .string rz]) rfl rfl HX19.out rfl (by kernel_rfl) (by simp [Value.oneCell']) ?_; intro w7 hb hg; have HX20 := Aside0.mk hb; have HG20 := Aside0.mk hg; clear hb hg))
                    obtain ⟨hf, hc⟩ := HST.out
                    have HR5 := Aside0.mk (HK5.out.frl hf)
                    clear hf HST hk3 hk4
                    have HB7 : Aside0 (Below w.heap.size w w7) := ⟨HR5.out.2.grown HG20.out HR5.out.2.size (fun q hq => by injection hq with hq; have := HG18.out; omega)⟩
                    have HO7 : Aside0 (RecsAt w.heap.size w7 va all) := ⟨own_new HK4.out.recs HR5.out.1 HG20.out HG18.out.2⟩
                    rcases hc with ⟨rfl, d5, l5, v, rfl, rfl, rfl, hvb, hon⟩ | ⟨hr0, d5, l5, hon⟩ | ⟨rfl, d5, all5, hall, hoff⟩
                    · have HON := Aside0.mk (hon.own HX19.out HG20.out)
                      have HLN : Aside0 (all.length + 1 ≤ 1000000000) := ⟨by have := HLA.out; omega⟩
                      have v0 := (blk_cell HX20.out 0).trans rfl
                      have v1 := (blk_cell HX20.out 1).trans rfl
                      have v2 := (blk_cell HX20.out 2).trans rfl
                      clear hon hvb
                      go_wp2_with (first
                        | ((with_reducible refine gate_dst (N := 90) rfl ?_); refine Lb.alloc_event ?hg (v := fun g => .slice (some ⟨g, 0, none⟩) 1 1) (cs := #[.int .i64 v.seq, .int .i64 v.seg, .string (toB v.body)]) (t := 34) (fr := (0, 0)) ?hr ?_; (case hg => rfl); (case hr => first | (go_simp; done) | (go_simp; rfl)); intro g3 hg3 w8 hx hb; have HNB : Aside0 (NewBlk w7 w8 g3 #[.int .i64 v.seq, .int .i64 v.seg, .string (toB v.body)] 34) := ⟨⟨hx, hb⟩⟩; clear hx hb hg3)
                        | (at_builtin; refine app_event (w0 := w7) rfl (.tmp 88) (.tmp 90) 30 34 _ 3 32 rfl Tryd.underlying30 rec_info rfl (by decide) (by decide) (B := w.heap.size) (n := _) (m := 1) (v := _) (xs := _) (news := [.int .i64 v.seq, .int .i64 v.seg, .string (toB v.body)]) rfl HO7.out HNB.out rfl rfl (by simp [Value.oneCell']) HB7.out.size HLN.out ?_; intro v' w9 ha; have HA9 := Aside0.mk ha; clear ha v0 v1 v2))
                      go_meet
                      exact ⟨0, -1, bd, v', rfl, rfl, rfl, rfl, ⟨.inl ⟨d5, l5, _, (HON.out.app HA9.out).mono (by have := HIC.out; omega) (by have := HIC.out; omega) (Nat.le_refl _), App.recs (x := v) HA9.out, HB7.out.trans HA9.out.bel⟩⟩⟩
                    · have HON := Aside0.mk (hon.own HX19.out HG20.out)
                      have hrb : (r == 0) = false := by simpa using hr0
                      clear hon
                      go_wp2_with fail
                      go_meet
                      exact ⟨r, -1, bd, va, rfl, rfl, rfl, rfl, ⟨.inl ⟨d5, l5, _, HON.out.mono (by have := HIC.out; omega) (by have := HIC.out; omega) (Nat.le_refl _), HO7.out, HB7.out⟩⟩⟩
                    · have HOF := Aside0.mk (And.intro hall (hoff.own HX19.out HG20.out))
                      clear hall hoff
                      go_wp2_with fail
                      go_meet
                      refine ⟨20, -1, bd, va, rfl, rfl, rfl, rfl, ⟨.inr ⟨d5, all5, rfl, rfl, ⟨HOF.out.2.mono (by have := HIC.out; omega) (by have := HIC.out; omega) (Nat.le_refl _), HO7.out, HB7.out⟩, ?_⟩⟩⟩
                      rcases HOF.out.1 with h | h
                      · exact .inl h
                      · exact .inr (.inr ⟨rfl, h⟩)
              case rest =>
                as_aux_lemma =>
                  clear HK HX15 HZ15 z0 z1 z2
                  obtain ⟨r, dr, more, va', rfl, rfl, rfl, rfl, HSTP⟩ := hcut
                  rcases HSTP.out with ⟨d6, l6, all6, hcw⟩ | ⟨d6, all2, rfl, rfl, hcf, hall⟩
                  · have HK6 := Aside0.mk hcw
                    have HOFF : Aside0 (d6.off = false) := ⟨hcw.on.inv.idle.off⟩
                    clear hcw HSTP
                    go_wp2_with (first
                      | (go_at_call 20; (with_reducible refine (off_any w.heap.size gd d6 false HOFF.out _ HK6.out.on.dk).mono ?_); rintro e8 w8 ⟨rfl, rfl⟩))
                    go_roundg gko
                    case measure => omega
                    case rel => exact ⟨i + 1, next', gl, va', d6, l6, all6, by have := HI.out; omega, by go_num, rfl, hn2, rfl, rfl, ⟨HK6.out.mono (by omega) (by omega) (Nat.le_refl _)⟩⟩
                  · have HF6 := Aside0.mk hcf
                    have HALL := Aside0.mk hall
                    have HOFF : Aside0 (d6.off = true) := ⟨hcf.off.dead.off⟩
                    clear hcf hall HSTP
                    go_upto_region 32 with (first
                      | (go_at_call 20; (with_reducible refine (off_any w.heap.size gd d6 true HOFF.out _ HF6.out.off.dk).mono ?_); rintro e8 w8 ⟨rfl, rfl⟩))
                    have HI2 := Aside0.mk hi2
                    go_loopg [9, 11, 13, 19] (nc + 1) (fun gk s9 s11 s13 s19 wr2 => ∃ (nx : Nat) (P V : Value) (r : Int), s13 = .int .i64 nx ∧ nx ≤ nc ∧ P = s9 ∧ s11 = .int .i64 r ∧ V = s19 ∧ Aside0 (Back w.heap.size w gd all2 all va' nc i nx gk P V r wr2))
                    case atStart => exact ⟨next', _, _, 20, rfl, hn2, rfl, rfl, rfl, ⟨.inl ⟨d6, HF6.out, by omega⟩⟩⟩
                    case round =>
                      obtain ⟨nx, P, V, r, rfl, hnx2, rfl, rfl, rfl, HBK⟩ := hrel
                      have hnxI : (nx : Int) ≤ (nc : Int) := by omega
                      rcases HBK.out with ⟨d7, hcf, hlt⟩ | ⟨d7, gl7, l7, rfl, rfl, hcw, hrec⟩
                      · have HF7 := Aside0.mk hcf
                        have HOFF7 : Aside0 (d7.off = true) := ⟨hcf.off.dead.off⟩
                        have HTP7 : Aside0 (3 + 2 * i + nx < top ∧ 1 + i + nx < top ∧ i + 1 < top) := ⟨by have := HI2.out; unfold top; omega⟩
                        clear hcf HBK
                        by_cases h1 : nx < nc
                        · have h1c : nx < cuts.length := by have := HNC.out; omega
                          have h1I : (nx : Int) < (nc : Int) := by omega
                          obtain ⟨⟨g0, g1, g2⟩, hx⟩ : ∃ x, cuts[nx]? = some x := ⟨_, List.getElem?_eq_getElem h1c⟩
                          obtain ⟨ac, rfl, x0, x1, x2⟩ := at_cut HA.out.c nx _ h1c hx
                          have HG1 : Aside0 (g1 ≤ 9223372036854775807) := ⟨(HA.out.tc _ (List.mem_of_getElem? hx)).2⟩
                          have HY := Aside0.mk (And.intro x1 x2)
                          clear hx h1c x0 x1 x2
                          cases gk with
                          | zero => omega
                          | succ gk =>
                            go_upto_region 35 with (first
                              | (go_at_call 20; (with_reducible refine (off_any w.heap.size gd d7 true HOFF7.out _ HF7.out.off.dk).mono ?_); rintro e8 w8 ⟨rfl, rfl⟩)
                              | (go_at_call 21; (with_reducible refine (on_calls w.heap.size gd d7 _ HF7.out.off.dk).mono ?_); rintro e9 w9 ⟨rfl, hd, hf⟩; have HC9 := Aside0.mk (HF7.out.on hd hf); clear hd hf))
                            replace HC9 := Aside0.mk (HC9.out.step (Lb.below_drew _))
                            have y1 := cell_keep HC9.out.bel HY.out.1
                            have y2 := cell_keep HC9.out.bel HY.out.2
                            (try simp only at y1 y2)
                            go_region_held3 (fun w' => w'.cell? ⟨(ac.add (nx * 3)).block, (ac.add (nx * 3)).off + 1, none⟩ = some (.int .i64 g1) ∧ w'.cell? ⟨(ac.add (nx * 3)).block, (ac.add (nx * 3)).off + 2, none⟩ = some (.int .i64 g2)) (exact ⟨cell_keep HC9.out.bel HY.out.1, cell_keep HC9.out.bel HY.out.2⟩) (first
                              | (go_at_call 16; (with_reducible refine (cut_calls w.heap.size gd _ g1 g2 HG1.out _ HC9.out.dk).mono ?_); rintro e10 w10 ⟨rfl, hd, hf⟩; replace HC9 := Aside0.mk (HC9.out.cut hd hf); clear hd hf))
                            clear y1 y2
                            go_wp2_with (first
                              | (go_at_call 11; (with_reducible refine (open_st w.heap.size gd _ all2 _ _ _ _ HC9.out.dk HC9.out.idle HC9.out.inv HTP7.out.1 HTP7.out.2.1 HTP7.out.2.2).mono ?_); rintro e11 w11 ⟨P, V, r, rfl, hst⟩; have HST := Aside0.mk hst; clear hst))
                            go_roundg gk
                            case measure => omega
                            case rel => exact ⟨nx + 1, P, V, r, by go_num, by omega, rfl, rfl, rfl, ⟨HC9.out.opened HST.out (fun _ => ⟨Nat.le_refl _, by omega⟩) (Nat.le_succ _)⟩⟩
                        · have h1I : ¬ ((nx : Int) < (nc : Int)) := by omega
                          have hnc' : nx = nc := by omega
                          have HNC' := Aside0.mk hnc'
                          clear hnc'
                          cases gk with
                          | zero => omega
                          | succ gk =>
                            go_wp2_with (first
                              | (go_at_call 20; (with_reducible refine (off_any w.heap.size gd d7 true HOFF7.out _ HF7.out.off.dk).mono ?_); rintro e8 w8 ⟨rfl, rfl⟩)
                              | (go_at_call 21; (with_reducible refine (on_calls w.heap.size gd d7 _ HF7.out.off.dk).mono ?_); rintro e9 w9 ⟨rfl, hd, hf⟩; have HC9 := Aside0.mk (HF7.out.on hd hf); clear hd hf)
                              | (go_at_call 11; (with_reducible refine (open_st w.heap.size gd _ all2 _ _ _ _ HC9.out.dk HC9.out.idle HC9.out.inv HTP7.out.1 HTP7.out.2.1 HTP7.out.2.2).mono ?_); rintro e11 w11 ⟨P, V, r, rfl, hst⟩; have HST := Aside0.mk hst; clear hst))
                            go_roundg gk
                            case measure => omega
                            case rel => exact ⟨nx, P, V, r, rfl, hnx2, rfl, rfl, rfl, ⟨HC9.out.opened HST.out (fun h => absurd rfl h) (Nat.le_refl _)⟩⟩
                      · have HK7 := Aside0.mk hcw
                        have HR7 := Aside0.mk hrec
                        have HOFF7 : Aside0 (d7.off = false) := ⟨hcw.on.inv.idle.off⟩
                        clear hcw hrec HBK
                        go_upto_region 38 with (first
                          | (go_at_call 20; (with_reducible refine (off_any w.heap.size gd d7 false HOFF7.out _ HK7.out.on.dk).mono ?_); rintro e8 w8 ⟨rfl, rfl⟩))
                        obtain ⟨Ab, nb, cb, hVb, hnb, hcb⟩ : ∃ A n c, V = .slice A n c ∧ all2.length = n ∧ n ≤ c := by
                          obtain ⟨A, c, e, h⟩ := own_slice HK7.out.recs
                          exact ⟨A, _, c, e, rfl, h⟩
                        obtain ⟨Aa, naa, ca, hVa, hnaa⟩ : ∃ A n c, va' = .slice A n c ∧ all.length = n := by
                          obtain ⟨A, c, e, _⟩ := own_slice HR7.out
                          exact ⟨A, _, c, e, rfl⟩
                        subst hVb hVa
                        have HNAA := Aside0.mk hnaa
                        have HL9 : Aside0 (all.length ≤ 1000000000 ∧ all.length ≤ 10000000) := ⟨by have := HLA2.out; omega⟩
                        have hna2 : (naa : Int) ≤ 2000 := by have := HLA2.out; omega
                        rcases HALL.out with hq | ⟨hd0, hq⟩ | ⟨rfl, x, hxb, hq⟩
                        · subst hq
                          have HT : Aside0 (alikeB all2 all2 = true) := ⟨alikeB_refl _⟩
                          clear hnb hcb hnaa
                          go_wp2_with (first
                            | (go_at_call 22; (with_reducible refine (alike_any w.heap.size all2 all2 true HT.out _ _ _ HK7.out.recs HR7.out HL9.out.1).mono ?_); rintro e12 w12 ⟨rfl, hb⟩; have HB12 := Aside0.mk (hb); clear hb))
                          go_roundg gko
                          case measure => omega
                          case rel => exact ⟨i + 1, nx, gl7, _, d7, l7, all2, by have := HI.out; omega, by go_num, rfl, hnx2, rfl, rfl, ⟨((HK7.out.step HB12.out).mono (by omega) (by omega) (Nat.le_refl _)).on, HR7.out.step HB12.out, (HK7.out.step HB12.out).bel⟩⟩
                        · obtain ⟨b2, hb2⟩ : ∃ b2, alikeB all2 all = b2 := ⟨_, rfl⟩
                          have HT := Aside0.mk hb2
                          have HQ := Aside0.mk hq
                          have HL92 : Aside0 (all2.length ≤ 1000000000) := ⟨by have := HK7.out.on.inv.c.few; omega⟩
                          cases b2 with
                          | true =>
                            have HE : Aside0 (all2 = all) := ⟨by rw [hq]; exact withoutI_same (by rw [← hq]; exact alikeB_length hb2)⟩
                            clear hnb hcb hnaa hb2 hq
                            go_wp2_with (first
                              | (go_at_call 22; (with_reducible refine (alike_any w.heap.size all2 all true HT.out _ _ _ HK7.out.recs HR7.out HL92.out).mono ?_); rintro e12 w12 ⟨rfl, hb⟩; have HB12 := Aside0.mk (hb); clear hb))
                            go_roundg gko
                            case measure => omega
                            case rel => exact ⟨i + 1, nx, gl7, _, d7, l7, all2, by have := HI.out; omega, by go_num, rfl, hnx2, rfl, rfl, ⟨((HK7.out.step HB12.out).mono (by omega) (by omega) (Nat.le_refl _)).on, by rw [HE.out]; exact HR7.out.step HB12.out, (HK7.out.step HB12.out).bel⟩⟩
                          | false =>
                            have HT2 : Aside0 (alikeB all2 (withoutI all dr) = true) := ⟨by rw [← hq]; exact alikeB_refl _⟩
                            clear hnb hcb hnaa hb2 hq
                            go_wp2_with (first
                              | (go_at_call 22; (with_reducible refine (alike_any w.heap.size all2 all false HT.out _ _ _ HK7.out.recs HR7.out HL92.out).mono ?_); rintro e12 w12 ⟨rfl, hb⟩; have HB12 := Aside0.mk (hb); clear hb)
                              | (go_at_call 18; (with_reducible refine (without_calls w.heap.size all _ dr w12 (HR7.out.step HB12.out) HL9.out.2).mono ?_); rintro e13 w13 ⟨v13, rfl, hr, hb⟩; have HR13 : Aside0 (RecsAt w.heap.size w13 v13 (withoutI all dr)) := ⟨own_less hr (HK7.out.step HB12.out).bel.size⟩; have HB13 := Aside0.mk (below_step HB12.out hb); clear hr hb)
                              | (go_at_call 22; (with_reducible refine (alike_any w.heap.size all2 (withoutI all dr) true HT2.out _ _ _ (HK7.out.step HB13.out).recs HR13.out HL92.out).mono ?_); rintro e14 w14 ⟨rfl, hb⟩; have HB14 := Aside0.mk (below_step HB13.out hb); clear hb))
                            go_roundg gko
                            case measure => omega
                            case rel => exact ⟨i + 1, nx, gl7, _, d7, l7, all2, by have := HI.out; omega, by go_num, rfl, hnx2, rfl, rfl, ⟨((HK7.out.step HB14.out).mono (by omega) (by omega) (Nat.le_refl _)).on, (HK7.out.step HB14.out).recs, (HK7.out.step HB14.out).bel⟩⟩
                        · subst hq
                          obtain rfl : nb = naa + 1 := by rw [← hnb, List.length_append, hnaa]; rfl
                          have HT : Aside0 (alikeB (all ++ [x]) all = false) := ⟨alikeB_len (by simp)⟩
                          have HT2 : Aside0 (alikeB all all = true) := ⟨alikeB_refl _⟩
                          have HL92 : Aside0 ((all ++ [x]).length ≤ 1000000000) := ⟨by rw [hnb]; have := HLA2.out; omega⟩
                          obtain ⟨k9, c9, hAb, -, -, -, z2⟩ := HK7.out.recs.at naa x (by rw [List.getElem?_append_right (by omega), hnaa, Nat.sub_self]; rfl)
                          injection hAb with hAb hq1 hq2
                          subst hAb
                          have HFR : Aside0 (RecsAt w.heap.size _ (.slice (some ⟨k9, 0, none⟩) naa cb) all) := ⟨by have h := HK7.out.recs.front; rw [hnaa] at h; exact h⟩
                          rw [hxb] at z2
                          have hcbI : (naa : Int) + 1 ≤ (cb : Int) := by omega
                          have HCZ : Aside0 (∀ w', Below _ _ w' → w'.cell? ⟨k9, naa * 3 + 2, none⟩ = some (.string (toB more))) := ⟨fun w' hb => cell_keep hb z2⟩
                          clear hnb hcb hnaa hxb hq1 hq2 z2
                          go_wp2_with (first
                            | (go_at_call 22; (with_reducible refine (alike_any w.heap.size (all ++ [x]) all false HT.out _ _ _ HK7.out.recs HR7.out HL92.out).mono ?_); rintro e12 w12 ⟨rfl, hb⟩; have HB12 := Aside0.mk (hb); have z2 := HCZ.out _ hb; clear hb)
                            | (go_at_call 22; (with_reducible refine (alike_any w.heap.size all all true HT2.out _ _ _ (HFR.out.step HB12.out) (HR7.out.step HB12.out) HL9.out.1).mono ?_); rintro e13 w13 ⟨rfl, hb⟩; have HB13 := Aside0.mk (below_step HB12.out hb); clear z2; have z2 := HCZ.out _ HB13.out; clear hb))
                          go_roundg gko
                          case measure => omega
                          case rel => exact ⟨i + 1, nx, gl7, _, d7, l7, (all ++ [x]), by have := HI.out; omega, by go_num, rfl, hnx2, rfl, rfl, ⟨((HK7.out.step HB13.out).mono (by omega) (by omega) (Nat.le_refl _)).on, (HK7.out.step HB13.out).recs, (HK7.out.step HB13.out).bel⟩⟩
end Go.Proofs.YtfiocakhgpdlfaaDoor.Sg
