/- mount: Do of procedures 3 and 4. -/
import Derived.Test.YthamffpieafkbaaGreatDoorMk
namespace Go.Proofs.YthamffpieafkbaaGreatDoor.Mt
open Go.RowKit Go.Lib Go.Proofs.YthamffpieafkbaaGreatDoor.PM Go.Proofs.YthamffpieafkbaaGreatDoorW.PrintWords Go.Proofs.YthamffpieafkbaaGreatDoorW.PrintLast Go.Proofs.YthamffpieafkbaaGreatDoorW.PrintMore
set_option linter.unusedVariables false
set_option linter.unusedSimpArgs false

theorem form3 : ∃ f1 f2, Mo.ofF 100005 3 = (f1, f2, true) ∧ PA.schema_parse.f 200 ⟨f1.toArray⟩ = some ([.mk 111 1024 []], 0) := ⟨(Mo.ofF 100005 3).1, (Mo.ofF 100005 3).2.1, by kernel_rfl, by kernel_rfl⟩
theorem form4 : ∃ f1 f2, Mo.ofF 100005 4 = (f1, f2, true) ∧ PA.schema_parse.f 200 ⟨f1.toArray⟩ = some ([], 0) := ⟨(Mo.ofF 100005 4).1, (Mo.ofF 100005 4).2.1, by kernel_rfl, by kernel_rfl⟩
theorem okL0 : Xw.okL [] = true := by kernel_rfl
theorem enc0 : (Xw.enc [] [] []).2 = 0 := by kernel_rfl
theorem rows_nil (w : World) : Xw.RowAt w none (([] : List ByteArray).map Value.string) := by
  intro i v hi
  simp at hi
theorem enc4_calls (f1 : List UInt8) (w : World) (hpa : PA.schema_parse.f 200 ⟨f1.toArray⟩ = some ([], 0)) :
    Calls Tryz.prog 15 #[.string ⟨f1.toArray⟩, .agg #[.slice none 0 0, .slice none 0 0]] w fun e w' => e = .returned (.tuple #[.string (Xw.enc [] [] []).1, .int .i64 0]) ∧ Below w.heap.size w w' := by
  have h := Xw.encode_calls 200 ⟨f1.toArray⟩ _ hpa okL0 none none 0 0 [] [] w (row_nil w) (rows_nil w) (by simp) (by simp) (by show 0 + 12 * (0 - 0) + 0 ≤ _; omega)
  rw [enc0] at h
  exact h

theorem del1_calls (B : Nat) (v : Value) (M : List Held) (host path : ByteArray) (gh ga kp : Nat) (w : World) (hB : B ≤ w.heap.size) (hown : w.ownsRow B 67 2 v M.length (flatM M)) (h1 : w.heap[gh]? = some (.cells #[.string host] 9 (0, 0))) (h2 : w.heap[ga]? = some (.cells #[.slice none 0 0, .slice (some ⟨kp, 0, none⟩) 1 1] 40 (0, 0))) (h3 : w.heap[kp]? = some (.cells #[.string path] 9 (0, 0))) (hlen : M.length ≤ 1000000) :
    Calls Tryz.prog 21 #[v, .func (.func 22) #[] #[.pointer (some ⟨gh, 0, none⟩), .pointer (some ⟨ga, 0, none⟩)]] w fun e w' => DelRes B w (M.filter (fun x => !(fun x : Held => (x.f0.toList == host.toList && x.f1.toList == path.toList)) x)) e w' := by
  rcases Row.of hown with ⟨rfl, rfl⟩ | ⟨k, cap, rfl, hBk, hrow⟩
  · exact del1_none B none 0 [] host path gh ga kp w hB hown (fun i x hx => by simp at hx) h1 h2 h3 hlen rfl
  · by_cases hix : idx (fun x : Held => (x.f0.toList == host.toList && x.f1.toList == path.toList)) M 0 = -1
    · exact del1_none B (some ⟨k, 0, none⟩) cap M host path gh ga kp w hB hown (fun i x hx => ⟨k, rfl, hrow⟩) h1 h2 h3 hlen hix
    · exact del1_some B k cap M host path gh ga kp w hB hBk hrow h1 h2 h3 hlen hix

theorem del2_calls (B : Nat) (v : Value) (M : List Held) (host : ByteArray) (gh : Nat) (w : World) (hB : B ≤ w.heap.size) (hown : w.ownsRow B 67 2 v M.length (flatM M)) (h1 : w.heap[gh]? = some (.cells #[.string host] 9 (0, 0))) (hlen : M.length ≤ 1000000) :
    Calls Tryz.prog 21 #[v, .func (.func 23) #[] #[.pointer (some ⟨gh, 0, none⟩)]] w fun e w' => DelRes B w (M.filter (fun x => !(fun x : Held => (x.f0.toList == host.toList)) x)) e w' := by
  rcases Row.of hown with ⟨rfl, rfl⟩ | ⟨k, cap, rfl, hBk, hrow⟩
  · exact del2_none B none 0 [] host gh w hB hown (fun i x hx => by simp at hx) h1 hlen rfl
  · by_cases hix : idx (fun x : Held => (x.f0.toList == host.toList)) M 0 = -1
    · exact del2_none B (some ⟨k, 0, none⟩) cap M host gh w hB hown (fun i x hx => ⟨k, rfl, hrow⟩) h1 hlen hix
    · exact del2_some B k cap M host gh w hB hBk hrow h1 hlen hix

set_option maxRecDepth 100000 in
set_option maxHeartbeats 4000000 in
theorem do3_calls (B g k : Nat) (E : List Exp) (M : List Held) (host path : ByteArray) (m : Int) (w : World) (h : MT B w g E M) (hm : w.cell? ⟨0, 0, none⟩ = some (.int .i64 m))
    (hk : w.heap[k]? = some (.cells #[.string path] 9 (0, 0))) (hh : host.size ≤ 255) (hp : path.size ≤ 1024) (hml : M.length ≤ 1000000) :
    Calls Tryz.prog 10 #[.pointer (some ⟨g, 0, none⟩), .string host, .int .i64 3, .agg #[.slice none 0 0, .slice (some ⟨k, 0, none⟩) 1 1]] w fun r w' => ValRes B w g E (M.filter (fun x => !(fun x : Held => (x.f0.toList == host.toList && x.f1.toList == path.toList)) x)) [] [] r w' := by
  obtain ⟨MF, hMF⟩ : ∃ MF, M.filter (fun x => !(fun x : Held => (x.f0.toList == host.toList && x.f1.toList == path.toList)) x) = MF := ⟨_, rfl⟩
  rw [hMF]
  have HMF := Aside0.mk hMF
  have HM := Aside0.mk h
  have HME := Aside0.mk hm
  have HLN := Aside0.mk hml
  have HK := Aside0.mk hk
  have HP := Aside0.mk hp
  obtain ⟨vE, vM, k1, k2, k3⟩ := h.ex
  have K1 := Aside0.mk k1
  have K2 := Aside0.mk k2
  have K3 := Aside0.mk k3
  obtain ⟨f1, f2, hof, hpa⟩ := form3
  have HOF := Aside0.mk hof
  have HPA := Aside0.mk hpa
  have y1 : decide ((255 : Int) < (host.size : Int)) = false := decide_eq_false (by omega)
  have y1n : decide (255 < host.size) = false := decide_eq_false (by omega)
  have hmf : ∀ (fn : Fn) (first cap : Array Value) (w : World), (Instr.makeFunc fn first cap).run Tryz.prog w = .ok (.func fn first cap) w := fun _ _ _ _ => rfl
  clear h hm hk hp hof hpa hh hml k1 k2 k3 hMF
  go_enter Tryz.func10, Tryz.ntmps10
  go_wp2_with (first
    | ((with_reducible refine gate_dst (N := 5) rfl ?_); refine box_event ?hg (N := 5) ?hd (cs := #[.string host]) (t := 9) ?hr ?_; (case hd => rfl); (case hg => rfl); (case hr => first | (go_simp; done) | (go_simp; rfl)); intro g5 hg5 w1 hx hb; have HX5 := Aside0.mk hx; have HB1 := Aside0.mk hb; clear hx hb hg5)
    | ((with_reducible refine gate_dst (N := 7) rfl ?_); refine box_event ?hg (N := 7) ?hd (cs := #[.slice none 0 0, .slice (some ⟨k, 0, none⟩) 1 1]) (t := 40) ?hr ?_; (case hd => rfl); (case hg => rfl); (case hr => first | (go_simp; done) | (go_simp; rfl)); intro g7 hg7 w2 hx hb; have HX7 := Aside0.mk hx; have HX52 := Aside0.mk (Lb.blk_below HX5.out hb); have HB2 := Aside0.mk (below_step HB1.out hb); clear hx hb hg7)
    | ((with_reducible refine gate_dst (N := 8) rfl ?_); refine box_event ?hg (N := 8) ?hd (cs := #[.slice none 0 0, .slice none 0 0]) (t := 40) ?hr ?_; (case hd => rfl); (case hg => rfl); (case hr => first | (go_simp; done) | (go_simp; rfl)); intro g8 hg8 w3 hx hb; have HX8 := Aside0.mk hx; have HX53 := Aside0.mk (Lb.blk_below HX52.out hb); have HX73 := Aside0.mk (Lb.blk_below HX7.out hb); have HB3 := Aside0.mk (below_step HB2.out hb); have HG8 := Aside0.mk (show w.heap.size ≤ g8 by have := HB2.out.size; omega); clear hx hb hg8)
    | (go_at_call 14; (with_reducible refine (Mo.of_calls 100005 3 m w3 (Lib.Below.cellOf HB3.out HME.out (Nat.le_refl _))).mono ?_); rw [HOF.out]; rintro e4 w4 ⟨rfl, hb⟩; have HX54 := Aside0.mk (Lb.blk_below HX53.out hb); have HX74 := Aside0.mk (Lb.blk_below HX73.out hb); have HX84 := Aside0.mk (Lb.blk_below HX8.out hb); have HB4 := Aside0.mk (below_step HB3.out hb); have d5 := (blk_cell HX54.out 0).trans rfl; have d70 := (blk_cell HX74.out 0).trans rfl; have d71 := (blk_cell HX74.out 1).trans rfl; clear hb)
    | (go_at_call 15; (with_reducible refine (enc1_calls f1 k path w4 HPA.out (Lb.blk_below HK.out HB4.out) HP.out).mono ?_); rintro e5 w5 ⟨rfl, hb⟩; have HX55 := Aside0.mk (Lb.blk_below HX54.out hb); have HX75 := Aside0.mk (Lb.blk_below HX74.out hb); have HX85 := Aside0.mk (Lb.blk_below HX84.out hb); have HB5 := Aside0.mk (below_step HB4.out hb); clear d5 d70 d71 hb)
    | ((with_reducible refine gate_dst (N := 14) rfl ?_); refine box_event ?hg (N := 14) ?hd (cs := #[.slice none 0 0, .slice none 0 0]) (t := 40) ?hr ?_; (case hd => rfl); (case hg => rfl); (case hr => first | (go_simp; done) | (go_simp; rfl)); intro g14 hg14 w6 hx hb; have HX14 := Aside0.mk hx; have HX56 := Aside0.mk (Lb.blk_below HX55.out hb); have HX76 := Aside0.mk (Lb.blk_below HX75.out hb); have HX86 := Aside0.mk (Lb.blk_below HX85.out hb); have HB6 := Aside0.mk (below_step HB5.out hb); have HBW := Aside0.mk (Nat.le_trans HM.out.lt HB6.out.size); have HN14 := Aside0.mk (show g14 ≠ g8 by have := blk_lt HX85.out; omega); have ct := (blk_cell (Lb.blk_below K1.out HB6.out) 1).trans rfl; clear hx hb hg14)
    | (go_at_call 21; (with_reducible refine (del1_calls B vM M host path g5 g7 k w6 HBW.out (own_keep K3.out (fun k cs f hr => Lb.blk_below hr HB6.out)) HX56.out HX76.out (Lb.blk_below HK.out HB6.out) HLN.out).mono ?_); rintro e7 w7 ⟨⟨v7, rfl, ho⟩, hfr⟩; rw [HMF.out] at ho; have HO7 := Aside0.mk ho; have HF7 := Aside0.mk hfr; have K17 := Aside0.mk (hfr.keep _ _ _ _ (by decide) (Lb.blk_below K1.out HB6.out)); have HX87 := Aside0.mk (hfr.keep _ _ _ _ (by decide) HX86.out); have HX147 := Aside0.mk (hfr.keep _ _ _ _ (by decide) HX14.out); have HV7 := Aside0.mk (own_cell1 ho); clear ho hfr ct)
    | ((with_reducible refine gate_store (t := 58) (p := 95) rfl ?_); refine Lb.store_one rfl rfl 58 (.tmp 95) (.tmp 93) rfl (g := g) (off := 1) (u := v7) rfl rfl HV7.out.1 HV7.out.2 K17.out (by kernel_rfl) (by simp) ?_; intro w8 hb hg; have K18 := Aside0.mk hb; have hk8 := types_blk K17.out hg; have HK8 := Aside0.mk hk8; have HG8B := Aside0.mk hg; have HX88 := Aside0.mk (hk8 _ _ _ _ (by decide) HX87.out); have d140 := (blk_cell (hk8 _ _ _ _ (by decide) HX147.out) 0).trans rfl; have d141 := (blk_cell (hk8 _ _ _ _ (by decide) HX147.out) 1).trans rfl; clear hb hg hk8)
    | ((with_reducible refine gate_store (t := 40) (p := 8) rfl ?_); refine Lb.store_whole rfl rfl 40 (.tmp 8) (.tmp 144) rfl (new := #[.slice none 0 0, .slice none 0 0]) rfl rfl HX88.out rfl (by kernel_rfl) (by simp [Value.oneCell']) ?_; intro w9 hb hg; have HXV := Aside0.mk hb; have HGV := Aside0.mk hg; clear hb hg))
  have v0 := (blk_cell HXV.out 0).trans rfl
  have v1 := (blk_cell HXV.out 1).trans rfl
  have hge := HM.out.ge
  have hlt := HM.out.lt
  have hs7 : B ≤ w7.heap.size := by have := blk_lt K17.out; omega
  have hMT8 : MT B w8 g E MF := ⟨⟨vE, v7, K18.out, (K2.out.keep (fun k cs t' f hr _ _ => Lb.blk_below hr HB6.out)).keep (fun k cs t' f hr h1 h2 => HK8.out _ _ _ _ h1 (HF7.out.keep _ _ _ _ h2 hr)), own_keep HO7.out (fun k cs f hr => HK8.out _ _ _ _ (by decide) hr)⟩, hge⟩
  have hF8 : FrM B w w8 := (FrM.of HB6.out hlt).trans ⟨Lb.grown_below HF7.out.bel HG8B.out hs7 hge, fun k cs t' f hr h1 h2 => HK8.out _ _ _ _ h1 (HF7.out.keep _ _ _ _ h2 hr)⟩
  have hs8 : B ≤ w8.heap.size := by have := blk_lt K18.out; omega
  have hfr : FrM B w w9 := ⟨Lb.grown_below hF8.bel HGV.out hs8 (Nat.le_trans hlt HG8.out), fun k cs t' f hr h1 h2 => Lb.blk_grown' (hF8.frm k cs t' f hr h1 h2) HGV.out (by have := blk_lt hr; have := HG8.out; omega)⟩
  exact bodyPost_ret (v := .agg #[.slice none 0 0, .slice none 0 0]) (by simp [results, Tryz.results10, go_sem, v0, v1]) rfl ⟨⟨_, _, rfl, ints_nil _, strs_nil _⟩, hMT8.other HX88.out HGV.out (by decide) (by decide) (by decide) (by decide), hfr⟩

set_option maxRecDepth 100000 in
set_option maxHeartbeats 4000000 in
theorem do4_calls (B g : Nat) (E : List Exp) (M : List Held) (host : ByteArray) (m : Int) (w : World) (h : MT B w g E M) (hm : w.cell? ⟨0, 0, none⟩ = some (.int .i64 m))
    (hh : host.size ≤ 255) (hml : M.length ≤ 1000000) :
    Calls Tryz.prog 10 #[.pointer (some ⟨g, 0, none⟩), .string host, .int .i64 4, .agg #[.slice none 0 0, .slice none 0 0]] w fun r w' => ValRes B w g E (M.filter (fun x => !(fun x : Held => (x.f0.toList == host.toList)) x)) [] [] r w' := by
  obtain ⟨MF, hMF⟩ : ∃ MF, M.filter (fun x => !(fun x : Held => (x.f0.toList == host.toList)) x) = MF := ⟨_, rfl⟩
  rw [hMF]
  have HMF := Aside0.mk hMF
  have HM := Aside0.mk h
  have HME := Aside0.mk hm
  have HLN := Aside0.mk hml

  obtain ⟨vE, vM, k1, k2, k3⟩ := h.ex
  have K1 := Aside0.mk k1
  have K2 := Aside0.mk k2
  have K3 := Aside0.mk k3
  obtain ⟨f1, f2, hof, hpa⟩ := form4
  have HOF := Aside0.mk hof
  have HPA := Aside0.mk hpa
  have y1 : decide ((255 : Int) < (host.size : Int)) = false := decide_eq_false (by omega)
  have y1n : decide (255 < host.size) = false := decide_eq_false (by omega)
  have hmf : ∀ (fn : Fn) (first cap : Array Value) (w : World), (Instr.makeFunc fn first cap).run Tryz.prog w = .ok (.func fn first cap) w := fun _ _ _ _ => rfl
  clear h hm hof hpa hh hml k1 k2 k3 hMF
  go_enter Tryz.func10, Tryz.ntmps10
  go_wp2_with (first
    | ((with_reducible refine gate_dst (N := 5) rfl ?_); refine box_event ?hg (N := 5) ?hd (cs := #[.string host]) (t := 9) ?hr ?_; (case hd => rfl); (case hg => rfl); (case hr => first | (go_simp; done) | (go_simp; rfl)); intro g5 hg5 w1 hx hb; have HX5 := Aside0.mk hx; have HB1 := Aside0.mk hb; clear hx hb hg5)
    | ((with_reducible refine gate_dst (N := 7) rfl ?_); refine box_event ?hg (N := 7) ?hd (cs := #[.slice none 0 0, .slice none 0 0]) (t := 40) ?hr ?_; (case hd => rfl); (case hg => rfl); (case hr => first | (go_simp; done) | (go_simp; rfl)); intro g7 hg7 w2 hx hb; have HX7 := Aside0.mk hx; have HX52 := Aside0.mk (Lb.blk_below HX5.out hb); have HB2 := Aside0.mk (below_step HB1.out hb); clear hx hb hg7)
    | ((with_reducible refine gate_dst (N := 8) rfl ?_); refine box_event ?hg (N := 8) ?hd (cs := #[.slice none 0 0, .slice none 0 0]) (t := 40) ?hr ?_; (case hd => rfl); (case hg => rfl); (case hr => first | (go_simp; done) | (go_simp; rfl)); intro g8 hg8 w3 hx hb; have HX8 := Aside0.mk hx; have HX53 := Aside0.mk (Lb.blk_below HX52.out hb); have HX73 := Aside0.mk (Lb.blk_below HX7.out hb); have HB3 := Aside0.mk (below_step HB2.out hb); have HG8 := Aside0.mk (show w.heap.size ≤ g8 by have := HB2.out.size; omega); clear hx hb hg8)
    | (go_at_call 14; (with_reducible refine (Mo.of_calls 100005 4 m w3 (Lib.Below.cellOf HB3.out HME.out (Nat.le_refl _))).mono ?_); rw [HOF.out]; rintro e4 w4 ⟨rfl, hb⟩; have HX54 := Aside0.mk (Lb.blk_below HX53.out hb); have HX74 := Aside0.mk (Lb.blk_below HX73.out hb); have HX84 := Aside0.mk (Lb.blk_below HX8.out hb); have HB4 := Aside0.mk (below_step HB3.out hb); have d5 := (blk_cell HX54.out 0).trans rfl; have d70 := (blk_cell HX74.out 0).trans rfl; have d71 := (blk_cell HX74.out 1).trans rfl; clear hb)
    | (go_at_call 15; (with_reducible refine (enc4_calls f1 w4 HPA.out).mono ?_); rintro e5 w5 ⟨rfl, hb⟩; have HX55 := Aside0.mk (Lb.blk_below HX54.out hb); have HX75 := Aside0.mk (Lb.blk_below HX74.out hb); have HX85 := Aside0.mk (Lb.blk_below HX84.out hb); have HB5 := Aside0.mk (below_step HB4.out hb); clear d5 d70 d71 hb)
    | ((with_reducible refine gate_dst (N := 14) rfl ?_); refine box_event ?hg (N := 14) ?hd (cs := #[.slice none 0 0, .slice none 0 0]) (t := 40) ?hr ?_; (case hd => rfl); (case hg => rfl); (case hr => first | (go_simp; done) | (go_simp; rfl)); intro g14 hg14 w6 hx hb; have HX14 := Aside0.mk hx; have HX56 := Aside0.mk (Lb.blk_below HX55.out hb); have HX76 := Aside0.mk (Lb.blk_below HX75.out hb); have HX86 := Aside0.mk (Lb.blk_below HX85.out hb); have HB6 := Aside0.mk (below_step HB5.out hb); have HBW := Aside0.mk (Nat.le_trans HM.out.lt HB6.out.size); have HN14 := Aside0.mk (show g14 ≠ g8 by have := blk_lt HX85.out; omega); have ct := (blk_cell (Lb.blk_below K1.out HB6.out) 1).trans rfl; clear hx hb hg14)
    | (go_at_call 21; (with_reducible refine (del2_calls B vM M host g5 w6 HBW.out (own_keep K3.out (fun k cs f hr => Lb.blk_below hr HB6.out)) HX56.out HLN.out).mono ?_); rintro e7 w7 ⟨⟨v7, rfl, ho⟩, hfr⟩; rw [HMF.out] at ho; have HO7 := Aside0.mk ho; have HF7 := Aside0.mk hfr; have K17 := Aside0.mk (hfr.keep _ _ _ _ (by decide) (Lb.blk_below K1.out HB6.out)); have HX87 := Aside0.mk (hfr.keep _ _ _ _ (by decide) HX86.out); have HX147 := Aside0.mk (hfr.keep _ _ _ _ (by decide) HX14.out); have HV7 := Aside0.mk (own_cell1 ho); clear ho hfr ct)
    | ((with_reducible refine gate_store (t := 58) (p := 106) rfl ?_); refine Lb.store_one rfl rfl 58 (.tmp 106) (.tmp 104) rfl (g := g) (off := 1) (u := v7) rfl rfl HV7.out.1 HV7.out.2 K17.out (by kernel_rfl) (by simp) ?_; intro w8 hb hg; have K18 := Aside0.mk hb; have hk8 := types_blk K17.out hg; have HK8 := Aside0.mk hk8; have HG8B := Aside0.mk hg; have HX88 := Aside0.mk (hk8 _ _ _ _ (by decide) HX87.out); have d140 := (blk_cell (hk8 _ _ _ _ (by decide) HX147.out) 0).trans rfl; have d141 := (blk_cell (hk8 _ _ _ _ (by decide) HX147.out) 1).trans rfl; clear hb hg hk8)
    | ((with_reducible refine gate_store (t := 40) (p := 8) rfl ?_); refine Lb.store_whole rfl rfl 40 (.tmp 8) (.tmp 144) rfl (new := #[.slice none 0 0, .slice none 0 0]) rfl rfl HX88.out rfl (by kernel_rfl) (by simp [Value.oneCell']) ?_; intro w9 hb hg; have HXV := Aside0.mk hb; have HGV := Aside0.mk hg; clear hb hg))
  have v0 := (blk_cell HXV.out 0).trans rfl
  have v1 := (blk_cell HXV.out 1).trans rfl
  have hge := HM.out.ge
  have hlt := HM.out.lt
  have hs7 : B ≤ w7.heap.size := by have := blk_lt K17.out; omega
  have hMT8 : MT B w8 g E MF := ⟨⟨vE, v7, K18.out, (K2.out.keep (fun k cs t' f hr _ _ => Lb.blk_below hr HB6.out)).keep (fun k cs t' f hr h1 h2 => HK8.out _ _ _ _ h1 (HF7.out.keep _ _ _ _ h2 hr)), own_keep HO7.out (fun k cs f hr => HK8.out _ _ _ _ (by decide) hr)⟩, hge⟩
  have hF8 : FrM B w w8 := (FrM.of HB6.out hlt).trans ⟨Lb.grown_below HF7.out.bel HG8B.out hs7 hge, fun k cs t' f hr h1 h2 => HK8.out _ _ _ _ h1 (HF7.out.keep _ _ _ _ h2 hr)⟩
  have hs8 : B ≤ w8.heap.size := by have := blk_lt K18.out; omega
  have hfr : FrM B w w9 := ⟨Lb.grown_below hF8.bel HGV.out hs8 (Nat.le_trans hlt HG8.out), fun k cs t' f hr h1 h2 => Lb.blk_grown' (hF8.frm k cs t' f hr h1 h2) HGV.out (by have := blk_lt hr; have := HG8.out; omega)⟩
  exact bodyPost_ret (v := .agg #[.slice none 0 0, .slice none 0 0]) (by simp [results, Tryz.results10, go_sem, v0, v1]) rfl ⟨⟨_, _, rfl, ints_nil _, strs_nil _⟩, hMT8.other HX88.out HGV.out (by decide) (by decide) (by decide) (by decide), hfr⟩
end Go.Proofs.YthamffpieafkbaaGreatDoor.Mt
