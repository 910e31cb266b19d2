/- mount: Do of procedure 1; Mounts. -/
import Derived.Test.YthamffpieafkbaaGreatDoorMe
import Derived.Test.YthamffpieafkbaaGreatDoorGg
import Derived.Test.YthamffpieafkbaaGreatDoorGc
namespace Go.Proofs.YthamffpieafkbaaGreatDoor.Mt
open Go.RowKit Go.Lib Go.Proofs.YthamffpieafkbaaGreatDoor.PM Go.Proofs.YthamffpieafkbaaGreatDoorW.PrintWords Go.Proofs.YthamffpieafkbaaGreatDoorW.PrintLast Go.Proofs.YthamffpieafkbaaGreatDoorW.PrintMore
set_option linter.unusedVariables false
set_option linter.unusedSimpArgs false

theorem form1 : ∃ f1 f2, Mo.ofF 100005 1 = (f1, f2, true) ∧ PA.schema_parse.f 200 ⟨f1.toArray⟩ = some ([.mk 111 1024 []], 0) := ⟨(Mo.ofF 100005 1).1, (Mo.ofF 100005 1).2.1, by kernel_rfl, by kernel_rfl⟩
theorem okL1 : Xw.okL [.mk 111 1024 []] = true := by kernel_rfl
theorem enc1 (path : ByteArray) (h : path.size ≤ 1024) : (Xw.enc [] [path] [.mk 111 1024 []]).2 = 0 := by
  have e : Xw.LP.txt [path] Xw.lp0 0 1024 = some (path, { Xw.lp0 with t := 1 }) := by
    unfold Xw.LP.txt
    show (some path).bind _ = _
    simp only [Option.bind_some]
    rw [if_pos ⟨by omega, by omega⟩]
    rfl
  have e2 : Xw.layL [] [path] [.mk 111 1024 []] Xw.lp0 = some (({ Xw.lp0 with t := 1 } : Xw.LP).put (4 + path.size + Xw.padN path.size) (Xw.be path.size 4 ++ Xw.fixB path.data.toList)) := by
    rw [Xw.layL, Xw.layOne]
    simp only [e]
    rfl
  have hp : Xw.padN path.size ≤ 3 := by unfold Xw.padN; omega
  obtain ⟨s, hs⟩ : ∃ s, (({ Xw.lp0 with t := 1 } : Xw.LP).put (4 + path.size + Xw.padN path.size) (Xw.be path.size 4 ++ Xw.fixB path.data.toList)) = s := ⟨_, rfl⟩
  have h1 : s.n = 0 := by rw [← hs]; rfl
  have h2 : s.t = 1 := by rw [← hs]; rfl
  have h3 : s.size = 0 + (4 + path.size + Xw.padN path.size) := by rw [← hs]; rfl
  rw [hs] at e2
  unfold Xw.enc
  rw [e2]
  show (if s.n < ([] : List Int).length ∨ s.t < [path].length then _ else if 65536 < s.size then _ else _ : ByteArray × Int).2 = 0
  rw [if_neg (by simp [h1, h2]), if_neg (by omega)]
theorem row_nil (w : World) : Xw.RowAt w none (([] : List Int).map (Value.int .i64)) := by
  intro i v hi
  simp at hi
theorem row_one {w : World} {k : Nat} {path : ByteArray} (h : w.heap[k]? = some (.cells #[.string path] 9 (0, 0))) : Xw.RowAt w (some ⟨k, 0, none⟩) ([path].map Value.string) := by
  intro i v hi
  cases i with
  | zero => simp at hi; subst hi; exact ⟨_, rfl, (blk_cell h 0).trans rfl⟩
  | succ i => simp at hi
theorem phi1 (path : ByteArray) (h : path.size ≤ 1024) : Xw.phi [] [path] Xw.lp0 ≤ 4000000000000000000 := by
  show 0 + 12 * (0 - 0) + (path.size + 12 + 0) ≤ _
  omega
theorem enc1_calls (f1 : List UInt8) (k : Nat) (path : ByteArray) (w : World) (hpa : PA.schema_parse.f 200 ⟨f1.toArray⟩ = some ([.mk 111 1024 []], 0)) (hk : w.heap[k]? = some (.cells #[.string path] 9 (0, 0))) (hp : path.size ≤ 1024) :
    Calls Tryz.prog 15 #[.string ⟨f1.toArray⟩, .agg #[.slice none 0 0, .slice (some ⟨k, 0, none⟩) 1 1]] w fun e w' => e = .returned (.tuple #[.string (Xw.enc [] [path] [.mk 111 1024 []]).1, .int .i64 0]) ∧ Below w.heap.size w w' := by
  have h := Xw.encode_calls 200 ⟨f1.toArray⟩ _ hpa okL1 none (some ⟨k, 0, none⟩) 0 1 [] [path] w (row_nil w) (row_one hk) (by simp) (by simp) (phi1 path hp)
  rw [enc1 path hp] at h
  exact h

set_option maxRecDepth 100000 in
set_option maxHeartbeats 4000000 in
theorem do1_calls (B g k : Nat) (E : List Exp) (M M' : List Held) (N : List Int) (T : List ByteArray) (host path : ByteArray) (m : Int) (w : World) (h : MT B w g E M) (hm : w.cell? ⟨0, 0, none⟩ = some (.int .i64 m))
    (hk : w.heap[k]? = some (.cells #[.string path] 9 (0, 0))) (hh : host.size ≤ 255) (hp : path.size ≤ 1024)
    (hmnt : ∀ w5, MT B w5 g E M → Calls Tryz.prog 20 #[.pointer (some ⟨g, 0, none⟩), .agg #[.string host, .string path]] w5 fun r w' => ValRes B w5 g E M' N T r w') :
    Calls Tryz.prog 10 #[.pointer (some ⟨g, 0, none⟩), .string host, .int .i64 1, .agg #[.slice none 0 0, .slice (some ⟨k, 0, none⟩) 1 1]] w fun r w' => ValRes B w g E M' N T r w' := by
  have HM := Aside0.mk h
  have HME := Aside0.mk hm
  have HK := Aside0.mk hk
  have HP := Aside0.mk hp
  have HMNT := Aside0.mk hmnt
  obtain ⟨f1, f2, hof, hpa⟩ := form1
  have HOF := Aside0.mk hof
  have HPA := Aside0.mk hpa
  have y1 : decide ((255 : Int) < (host.size : Int)) = false := decide_eq_false (by omega)
  have y1n : decide (255 < host.size) = false := decide_eq_false (by omega)
  clear h hm hk hp hmnt hof hpa hh
  go_enter Tryz.func10, Tryz.ntmps10
  go_wp2_with (first
    | ((with_reducible refine gate_dst (N := 5) rfl ?_); refine box_event ?hg (N := 5) ?hd (cs := #[.string host]) (t := 9) ?hr ?_; (case hd => rfl); (case hg => rfl); (case hr => first | (go_simp; done) | (go_simp; rfl)); intro g5 hg5 w1 hx hb; have HX5 := Aside0.mk hx; have HB1 := Aside0.mk hb; clear hx hb hg5)
    | ((with_reducible refine gate_dst (N := 7) rfl ?_); refine box_event ?hg (N := 7) ?hd (cs := #[.slice none 0 0, .slice (some ⟨k, 0, none⟩) 1 1]) (t := 40) ?hr ?_; (case hd => rfl); (case hg => rfl); (case hr => first | (go_simp; done) | (go_simp; rfl)); intro g7 hg7 w2 hx hb; have HX7 := Aside0.mk hx; have HX52 := Aside0.mk (Lb.blk_below HX5.out hb); have HB2 := Aside0.mk (below_step HB1.out hb); clear hx hb hg7)
    | ((with_reducible refine gate_dst (N := 8) rfl ?_); refine box_event ?hg (N := 8) ?hd (cs := #[.slice none 0 0, .slice none 0 0]) (t := 40) ?hr ?_; (case hd => rfl); (case hg => rfl); (case hr => first | (go_simp; done) | (go_simp; rfl)); intro g8 hg8 w3 hx hb; have HX8 := Aside0.mk hx; have HX53 := Aside0.mk (Lb.blk_below HX52.out hb); have HX73 := Aside0.mk (Lb.blk_below HX7.out hb); have HB3 := Aside0.mk (below_step HB2.out hb); have HG8 := Aside0.mk (show w.heap.size ≤ g8 by have := HB2.out.size; omega); clear hx hb hg8)
    | (go_at_call 14; (with_reducible refine (Mo.of_calls 100005 1 m w3 (Lib.Below.cellOf HB3.out HME.out (Nat.le_refl _))).mono ?_); rw [HOF.out]; rintro e4 w4 ⟨rfl, hb⟩; have HX54 := Aside0.mk (Lb.blk_below HX53.out hb); have HX74 := Aside0.mk (Lb.blk_below HX73.out hb); have HX84 := Aside0.mk (Lb.blk_below HX8.out hb); have HB4 := Aside0.mk (below_step HB3.out hb); have d5 := (blk_cell HX54.out 0).trans rfl; have d70 := (blk_cell HX74.out 0).trans rfl; have d71 := (blk_cell HX74.out 1).trans rfl; clear hb)
    | (go_at_call 15; (with_reducible refine (enc1_calls f1 k path w4 HPA.out (Lb.blk_below HK.out HB4.out) HP.out).mono ?_); rintro e5 w5 ⟨rfl, hb⟩; have HX55 := Aside0.mk (Lb.blk_below HX54.out hb); have HX75 := Aside0.mk (Lb.blk_below HX74.out hb); have HX85 := Aside0.mk (Lb.blk_below HX84.out hb); have HB5 := Aside0.mk (below_step HB4.out hb); clear d5 d70 d71 hb)
    | ((with_reducible refine gate_dst (N := 14) rfl ?_); refine box_event ?hg (N := 14) ?hd (cs := #[.slice none 0 0, .slice none 0 0]) (t := 40) ?hr ?_; (case hd => rfl); (case hg => rfl); (case hr => first | (go_simp; done) | (go_simp; rfl)); intro g14 hg14 w6 hx hb; have HX56 := Aside0.mk (Lb.blk_below HX55.out hb); have HX76 := Aside0.mk (Lb.blk_below HX75.out hb); have HX86 := Aside0.mk (Lb.blk_below HX85.out hb); have HB6 := Aside0.mk (below_step HB5.out hb); have d5 := (blk_cell HX56.out 0).trans rfl; have d71 := (blk_cell HX76.out 1).trans rfl; have dk := (blk_cell (Lb.blk_below HK.out HB6.out) 0).trans rfl; clear hx hb hg14))
  go_still_tail 7, (by kernel_rfl)
  change wpList _ _ _ _ _ w6.drew
  have HX87 := Aside0.mk (Lb.blk_below HX86.out (Lb.below_drew w6))
  have HB7 := Aside0.mk (below_step HB6.out (Lb.below_drew w6))
  clear d5 d71 dk
  generalize w6.drew = w7 at HX87 HB7 ⊢
  go_wp2_with (first
    | (go_at_call 20; (with_reducible refine (HMNT.out w7 (HM.out.step HB7.out)).mono ?_); rintro e8 w8 ⟨⟨vN, vT, rfl, hN, hT⟩, hmt, hfr⟩; have HN := Aside0.mk hN; have HT := Aside0.mk hT; have HMT := Aside0.mk hmt; have HFR := Aside0.mk hfr; obtain ⟨AN, cN, rfl, _⟩ := hN; obtain ⟨AT, cT, rfl, _⟩ := hT; have HX88 := Aside0.mk (hfr.frm _ _ _ _ HX87.out (by decide) (by decide)); clear hmt hfr)
    | ((with_reducible refine gate_store (t := 40) (p := 8) rfl ?_); refine Lb.store_whole rfl rfl 40 (.tmp 8) (.tmp 56) rfl (new := #[.slice AN N.length cN, .slice AT T.length cT]) rfl rfl HX88.out rfl (by kernel_rfl) (by simp [Value.oneCell']) ?_; intro w9 hb hg; have HXV := Aside0.mk hb; have HGV := Aside0.mk hg; clear hb hg))
  have v0 := (blk_cell HXV.out 0).trans rfl
  have v1 := (blk_cell HXV.out 1).trans rfl
  have hk9 := types_blk HX88.out HGV.out
  have hf7 : FrM B w _ := (FrM.of HB7.out HM.out.lt).trans HFR.out
  have hg8 : B ≤ g8 := Nat.le_trans HM.out.lt HG8.out
  have hfr : FrM B w w9 := ⟨Lb.grown_below hf7.bel HGV.out HMT.out.lt hg8, fun k cs t' f hr h1 h2 => Lb.blk_grown' (hf7.frm k cs t' f hr h1 h2) HGV.out (by have := blk_lt hr; have := HG8.out; omega)⟩
  exact bodyPost_ret (v := .agg #[.slice AN N.length cN, .slice AT T.length cT]) (by simp [results, Tryz.results10, go_sem, v0, v1]) rfl ⟨⟨_, _, rfl, HN.out.keep (fun k cs f hr => hk9 _ _ _ _ (by decide) hr), HT.out.keep (fun k cs f hr => hk9 _ _ _ _ (by decide) hr)⟩, HMT.out.other HX88.out HGV.out (by decide) (by decide) (by decide) (by decide), hfr⟩

set_option maxRecDepth 100000 in
theorem mounts_calls (B g : Nat) (E : List Exp) (M : List Held) (w : World) (h : MT B w g E M) (hl : M.length ≤ 1000000000) : Calls Tryz.prog 13 #[.pointer (some ⟨g, 0, none⟩)] w fun e w' => e = .returned (.int .i64 M.length) ∧ w' = w := by
  obtain ⟨vE, vM, k1, hE, k3⟩ := h.ex
  obtain ⟨AM, cM, rfl, hcM⟩ := own_slice k3
  have c1 := (blk_cell k1 1).trans rfl
  clear h hE k3 k1
  go_enter Tryz.func13, Tryz.ntmps13
  go_wp2
  go_ret
  exact ⟨rfl, rfl⟩
end Go.Proofs.YthamffpieafkbaaGreatDoor.Mt
