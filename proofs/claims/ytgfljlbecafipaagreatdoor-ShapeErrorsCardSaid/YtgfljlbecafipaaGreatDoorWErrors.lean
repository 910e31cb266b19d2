/- The walk of coraclelaw10.ShapeErrors. -/
import Derived.Test.YtgfljlbecafipaaGreatDoorEr
import Derived.Test.YtgfljlbecafipaaGreatDoorWBytes
namespace Go.Proofs.YtgfljlbecafipaaGreatDoor.Xw
open Go.RowKit Go.Lib Go.Proofs.YtgfljlbecafipaaGreatDoor.PA Go.Proofs.YtgfljlbecafipaaGreatDoorW.PrintWords Go.Proofs.YtgfljlbecafipaaGreatDoorW.PrintLast Go.Proofs.YtgfljlbecafipaaGreatDoorW.PrintMore
set_option linter.unusedVariables false
set_option linter.unusedSimpArgs false

theorem madeInts (k : Nat) : madeCells #[Value.int .i64 0] k = (List.replicate k (Value.int .i64 0)).toArray := by
  apply Array.ext
  · simp [madeCells]
  · intro i h1 h2
    simp [madeCells, Nat.mod_one]
theorem make_ints (k : Nat) (hk : k ≤ 10) (W : World) : (Instr.makeSlice 25 (.int .i64 (k : Int)) (.int .i64 (k : Int))).run Tryz.prog W = .ok (.slice (some ⟨W.heap.size, 0, none⟩) k k) (W.alloc (.cells (List.replicate k (Value.int .i64 0)).toArray 3)) := by
  obtain ⟨i, hi, hzz⟩ := Option.map_eq_some_iff.1 int_info
  simp only [Prod.mk.injEq] at hzz
  have h := run_make (P := Tryz.prog) W 25 3 i (.int .i64 0) Tryz.underlying25 hi hzz.1 .i64 .i64 k k (by omega) (Int.le_refl _) (by rw [hzz.2.2]; omega) (by omega)
  rw [hzz.2.1, Nat.mul_one, Int.toNat_natCast] at h
  rw [h]
  show Result.ok _ (W.alloc (.cells (madeCells #[Value.int .i64 0] k) 3)) = _
  rw [madeInts]

theorem row_of_blk {w : World} {g : Nat} {cur : Array Value} {t : TypeId} (h : w.heap[g]? = some (.cells cur t (0, 0))) : RowAt w (some ⟨g, 0, none⟩) cur.toList := fun i v hi => by
  refine ⟨_, rfl, ?_⟩
  have e2 : (⟨g, 0, none⟩ : Addr).add i = ⟨g, i, none⟩ := by unfold Addr.add; split <;> simp_all
  rw [e2, blk_cell h i]
  simpa using hi
theorem row_nil (w : World) : RowAt w none [] := fun i v hi => by simp at hi

theorem errs_row (i k : Nat) (y : Int) (hk : k = i + 1) : (((List.replicate k (Value.int .i64 0)).toArray).setIfInBounds 0 (.int .i64 y)).toList = ((y :: List.replicate i 0) : List Int).map (Value.int .i64) := by
  subst hk
  simp [List.replicate_succ]
theorem addr0 (a : Addr) : a.add 0 = a := by unfold Addr.add; split <;> simp_all

set_option maxRecDepth 100000 in
theorem errors_out (p st m : Int) (ok : Bool) (hok : p = 0 ∨ ok = false) (w : World) (hm : w.cell? ⟨0, 0, none⟩ = some (.int .i64 m)) (hk : (Mo.ofF 100003 p).2.2 = ok) :
    Calls Tryz.prog 4 #[.int .i64 p, .int .i64 st] w fun e w' => e = .returned (.bool true) ∧ Below w.heap.size w w' := by
  have hS := speaks_calls m w hm
  have hO : ∀ W : World, W.cell? ⟨0, 0, none⟩ = some (.int .i64 m) → _ := fun W hW => Mo.of_calls 100003 p m W hW
  rw [hk] at hO
  have HM := Aside0.mk hm
  clear hm hk
  generalize hA : (⟨(Mo.ofF 100003 p).1.toArray⟩ : ByteArray) = A at hO
  generalize hB : (⟨(Mo.ofF 100003 p).2.1.toArray⟩ : ByteArray) = B at hO
  clear hA hB
  have hcase : (ok = false) ∨ (p = 0 ∧ ok = true) := by
    rcases hok with h | h
    · cases ok
      · exact .inl rfl
      · exact .inr ⟨h, rfl⟩
    · exact .inl h
  clear hok
  rcases hcase with rfl | ⟨rfl, rfl⟩
  all_goals
    go_enter Tryz.func4, Tryz.ntmps4
    go_wp2_with (first
      | (go_at_call 5; refine hS.mono ?_; rintro e w1 ⟨rfl, hb⟩; have HB1 := Aside0.mk hb; clear hb hS)
      | (go_at_call 6; refine (hO _ (Lib.Below.cellOf HB1.out HM.out (Nat.le_refl _))).mono ?_; rintro e w2 ⟨rfl, hb⟩; have HB2 := Aside0.mk (below_step HB1.out hb); clear hb hO))
    go_ret
    exact ⟨rfl, HB2.out⟩

set_option maxRecDepth 100000 in
set_option maxHeartbeats 8000000 in
theorem errors_in (p st m : Int) (h1 : 1 ≤ p) (h2 : p < 22) (w : World) (hm : w.cell? ⟨0, 0, none⟩ = some (.int .i64 m)) :
    Calls Tryz.prog 4 #[.int .i64 p, .int .i64 st] w fun e w' => e = .returned (.bool true) ∧ Below w.heap.size w w' := by
  have hS := speaks_calls m w hm
  have hO : ∀ W : World, W.cell? ⟨0, 0, none⟩ = some (.int .i64 m) → _ := fun W hW => Mo.of_calls 100003 p m W hW
  have hG := errs_good p h1 h2
  have hF := (forms_good 100003 p).2
  have hk : (Mo.ofF 100003 p).2.2 = true := by
    rw [Mo.ofF, Mo.rawOf, if_pos ⟨rfl, h1, h2⟩]
  rw [hk] at hO
  have HM := Aside0.mk hm
  have hp0 : (p == 0) = false := by simp; omega
  clear hm hk h1 h2
  generalize hA : (⟨(Mo.ofF 100003 p).1.toArray⟩ : ByteArray) = A at hO
  generalize hB : (⟨(Mo.ofF 100003 p).2.1.toArray⟩ : ByteArray) = B at hO hG hF
  clear hA hB
  obtain ⟨M, ⟨hE⟩⟩ := errF_of hG
  obtain ⟨xs, hgood⟩ := good_of hF
  obtain ⟨n, f0, k1, ws, hparse, hq, hlen, hle⟩ := hE
  obtain rfl : xs = errX n f0 k1 ws := by
    have := hgood.parse.symm.trans hparse
    injection this with this
    injection this with this _
  subst hlen
  obtain ⟨y, hy, b1, b2⟩ : ∃ y : Int, y = (if st < 1 ∨ 4294967296 ≤ st then 5 else st) ∧ 1 ≤ y ∧ y < 4294967296 := by
    refine ⟨_, rfl, ?_, ?_⟩ <;> split <;> omega
  obtain ⟨L, hL⟩ : ∃ L : ByteArray, L = ⟨(be y 4 ++ List.replicate (4 * ws.length) 0).toArray⟩ := ⟨_, rfl⟩
  have hLs : L.size = 4 + 4 * ws.length := by
    rw [hL]
    show (be y 4 ++ List.replicate (4 * ws.length) (0 : UInt8)).toArray.size = _
    simp [be_length]
  have hENC : ∀ (i : Nat), i ≤ ws.length → ∀ (W : World) AN AT cN cT, RowAt W AN (((y :: List.replicate i 0) : List Int).map (Value.int .i64)) → RowAt W AT [] → Calls Tryz.prog 8 #[.string B, .agg #[.slice AN (i + 1) cN, .slice AT 0 cT]] W fun e w' => e = .returned (.tuple #[.string (if i = ws.length then L else ⟨#[]⟩), .int .i64 (if i = ws.length then 0 else 4)]) ∧ Below W.heap.size W w' := fun i hi W AN AT cN cT h1 h2 => by
    have := encode_calls 200 B (errX n f0 k1 ws) hgood.parse hgood.ok AN AT cN cT (y :: List.replicate i 0) [] W h1 h2 (by simp; omega) (by simp) (by show 0 + 12 * ((y :: List.replicate i 0).length - 0) + 0 ≤ _; simp; omega)
    rw [enc_err n f0 k1 ws y b1 b2 hq hle i hi, List.length_cons, List.length_replicate] at this
    refine this.mono ?_
    rintro e w' ⟨rfl, hb⟩
    refine ⟨?_, hb⟩
    by_cases he : i = ws.length
    · rw [if_pos he, if_pos he, if_pos he, hL]
    · rw [if_neg he, if_neg he, if_neg he]
  have hDEC : ∀ (W : World), Calls Tryz.prog 7 #[.string B, .string L] W fun e w' => DecRes W ((y :: List.replicate ws.length 0, []), 0) e w' := fun W => by
    have := decode_calls 200 1000 B (errX n f0 k1 ws) hgood.parse hgood.ok hgood.nok hgood.cnt (by omega) (be y 4 ++ List.replicate (4 * ws.length) 0) W
    rw [dec_err n f0 k1 ws y b1 b2 hq hle, ← hL] at this
    exact this
  have HENC := Aside0.mk hENC
  have HDEC := Aside0.mk hDEC
  have HLS := Aside0.mk hLs
  obtain ⟨q, hqq⟩ : ∃ q, q = ws.length := ⟨_, rfl⟩
  rw [← hqq] at hle HENC HDEC HLS
  have HY := Aside0.mk hy
  clear hENC hDEC hLs hL hgood hparse hq hqq hF hG
  have key : ∀ (w2 : World), Below w.heap.size w w2 → True := fun _ _ => trivial
  clear key
  have hyc : (st < 1 ∧ y = 5) ∨ (¬ st < 1 ∧ 4294967296 ≤ st ∧ y = 5) ∨ (¬ st < 1 ∧ ¬ 4294967296 ≤ st ∧ y = st) := by
    have := HY.out
    by_cases c1 : st < 1
    · rw [if_pos (.inl c1)] at this; exact .inl ⟨c1, this⟩
    · by_cases c2 : 4294967296 ≤ st
      · rw [if_pos (.inr c2)] at this; exact .inr (.inl ⟨c1, c2, this⟩)
      · rw [if_neg (by omega)] at this; exact .inr (.inr ⟨c1, c2, this⟩)
  clear hy HY
  have d5 : (q : Int) ≤ 4 := by omega
  rcases hyc with ⟨c1, rfl⟩ | ⟨c1, c2, rfl⟩ | ⟨c1, c2, rfl⟩
  · go_enter Tryz.func4, Tryz.ntmps4
    go_wp2_with (first
      | (go_at_call 5; refine hS.mono ?_; rintro e w1 ⟨rfl, hb⟩; have HB1 := Aside0.mk hb; clear hb hS)
      | (go_at_call 6; refine (hO _ (Lib.Below.cellOf HB1.out HM.out (Nat.le_refl _))).mono ?_; rintro e w2 ⟨rfl, hb⟩; have HB2 := Aside0.mk (below_step HB1.out hb); clear hb hO))
    go_loopg [8] 5 (fun gk s8 wr => ∃ i : Nat, i + gk = 5 ∧ s8 = .int .i64 i ∧ Aside0 (i ≤ q) ∧ Aside0 (Below w.heap.size w wr))
    case atStart => exact ⟨0, by omega, rfl, ⟨Nat.zero_le _⟩, HB2⟩
    case round =>
      clear HB1 HB2
      obtain ⟨i, hi, rfl, HIQ, HB⟩ := hrel
      have hiq := HIQ.out
      cases gk with
      | zero => omega
      | succ j =>
        have hlt : (i : Int) < 5 := by omega
        obtain ⟨k, hk⟩ : ∃ k : Nat, k = i + 1 := ⟨_, rfl⟩
        have hk1 : (1 : Int) + (i : Int) = (k : Int) := by omega
        have hk2 : (i : Int) + 1 = (k : Int) := by omega
        have hmk := make_ints k (by omega)
        have HK := Aside0.mk hk
        have hk0 : (0 : Int) < (k : Int) := by omega
        have hE1 := HENC.out i hiq
        rw [← hk] at hE1
        by_cases hiqe : i = q
        · subst hiqe
          have hE2 := Aside0.mk hE1
          simp only [if_true] at hE2
          have hl1 : ((L.size : Int) == (4 : Int) + 4 * (i : Int)) = true := by have := HLS.out; simp; omega
          have hl2 : (L.size : Int) = (4 : Int) + 4 * (i : Int) := by have := HLS.out; omega
          clear hE1 hiq hk
          go_wp2_with (first
            | ((with_reducible refine gate_dst (N := 40) rfl ?_); refine Lb.alloc_event ?hg (v := fun g => .slice (some ⟨g, 0, none⟩) k k) (cs := (List.replicate k (Value.int .i64 0)).toArray) (t := 3) (fr := (0, 0)) ?hr ?_; (case hg => rfl); (case hr => first | (go_simp; done) | (go_simp; rfl)); intro g3 hg3 w3 hx3 hb3; have HX3 := Aside0.mk hx3; have HB3 := Aside0.mk hb3; have HG3 := Aside0.mk (blk_lt hx3); have HGE := Aside0.mk (show wr.heap.size ≤ g3 by omega); clear hmk hx3 hb3 hg3)
            | ((with_reducible refine gate_dst (N := 9) rfl ?_); refine box_event ?hg (N := 9) ?hd (cs := #[.slice none 0 0, .slice none 0 0]) (t := 28) ?hr ?_; (case hd => rfl); (case hg => rfl); (case hr => first | (go_simp; done) | (go_simp; rfl)); intro g4 hg4 w4 hx4 hb4; have HX4 := Aside0.mk hx4; have HX34 := Aside0.mk (Lb.blk_below HX3.out hb4); have HB4 := Aside0.mk (HB3.out.trans (hb4.mono HB3.out.size)); have HG4 := Aside0.mk (show wr.heap.size ≤ g4 by have := HB3.out.size; omega); have HNE := Aside0.mk (show g3 ≠ g4 by have := HG3.out; omega); clear hx4 hb4 hg4)
            | ((with_reducible refine gate_store (t := 28) (p := 9) rfl ?_); refine Lb.store_whole rfl rfl 28 (.tmp 9) (.tmp 41) rfl (new := #[.slice (some ⟨g3, 0, none⟩) k k, .slice none 0 0]) rfl rfl HX4.out rfl (by kernel_rfl) (by simp [Value.oneCell']) ?_; intro w5 hb5 hg5; have HX5 := Aside0.mk hb5; have HX35 := Aside0.mk (Lb.blk_grown' HX34.out hg5 HNE.out); have HB5 := Aside0.mk (Lb.grown_below HB4.out hg5 HB4.out.size HG4.out); have d0 := (blk_cell hb5 0).trans rfl; clear hb5 hg5)
            | ((with_reducible refine gate_store (t := 3) (p := 45) rfl ?_); refine Lb.store_one rfl rfl 3 (.tmp 45) (.tmp 44) rfl (g := g3) (off := 0) (u := .int .i64 5) rfl rfl rfl rfl HX35.out (by kernel_rfl) (by simp; omega) ?_; intro w6 hb6 hg6; have HX36 := Aside0.mk hb6; have HX6 := Aside0.mk (Lb.blk_grown' HX5.out hg6 (fun e => HNE.out e.symm)); have HB6 := Aside0.mk (Lb.grown_below HB5.out hg6 HB5.out.size HGE.out); clear d0; have d0 := (blk_cell HX6.out 0).trans rfl; have d1 := (blk_cell HX6.out 1).trans rfl; clear hb6 hg6)
            | (go_at_call 8; (with_reducible refine (hE2.out w6 (some ⟨g3, 0, none⟩) none k 0 (by rw [← errs_row i k 5 HK.out]; exact row_of_blk HX36.out) (row_nil _)).mono ?_); rintro e w7 ⟨rfl, hb⟩; have HB7 := Aside0.mk (below_step (below_step HB.out HB6.out) hb); clear hb d0 d1)
            | (go_at_call 7; (with_reducible refine (HDEC.out _).mono ?_); rintro e w8 hres; obtain ⟨⟨vN, vT, he, hN, hT⟩, hbel⟩ := hres; obtain ⟨AN, cN, rfl, hrN⟩ := own_rowAt hN; obtain ⟨AT, cT, rfl, hrT⟩ := own_rowAt hT; obtain ⟨ax, rfl, hax⟩ := hrN 0 (.int .i64 5) rfl; rw [addr0] at hax; have hlen : (5 :: List.replicate i (0 : Int)).length = k := (by simp [HK.out]); subst he; simp only [hlen]; have HB8 := Aside0.mk (below_step HB7.out hbel); have HAX := Aside0.mk hax; clear hN hT hbel hrN hrT hax hlen)
            | ((with_reducible refine gate_dst (N := 12) rfl ?_); refine box_event ?hg (N := 12) ?hd (cs := #[.slice none 0 0, .slice none 0 0]) (t := 28) ?hr ?_; (case hd => rfl); (case hg => rfl); (case hr => first | (go_simp; done) | (go_simp; rfl)); intro g9 hg9 w9 hx9 hb9; have HX9 := Aside0.mk hx9; have HB9 := Aside0.mk hb9; have HG9 := Aside0.mk (show w8.heap.size ≤ g9 by omega); clear hx9 hb9 hg9)
            | ((with_reducible refine gate_store (t := 28) (p := 12) rfl ?_); refine Lb.store_whole rfl rfl 28 (.tmp 12) (.tmp 58) rfl (new := #[.slice (some ax) k cN, .slice AT 0 cT]) rfl rfl HX9.out rfl (by kernel_rfl) (by simp [Value.oneCell']) ?_; intro w10 hb10 hg10; have hb89 := Lb.grown_below HB9.out hg10 HB9.out.size HG9.out; have HB10 := Aside0.mk (below_step HB8.out hb89); have f0 := (blk_cell hb10 0).trans rfl; have fx := Lib.Below.cellOf hb89 HAX.out (Nat.le_refl _); clear hb10 hg10 hb89))
          go_ret
          exact ⟨rfl, HB10.out⟩
        · have hE2 := Aside0.mk hE1
          simp only [if_neg hiqe] at hE2
          have HLT : Aside0 (i + 1 ≤ q) := ⟨by omega⟩
          clear hE1 hiq hk hiqe
          go_wp2_with (first
            | ((with_reducible refine gate_dst (N := 40) rfl ?_); refine Lb.alloc_event ?hg (v := fun g => .slice (some ⟨g, 0, none⟩) k k) (cs := (List.replicate k (Value.int .i64 0)).toArray) (t := 3) (fr := (0, 0)) ?hr ?_; (case hg => rfl); (case hr => first | (go_simp; done) | (go_simp; rfl)); intro g3 hg3 w3 hx3 hb3; have HX3 := Aside0.mk hx3; have HB3 := Aside0.mk hb3; have HG3 := Aside0.mk (blk_lt hx3); have HGE := Aside0.mk (show wr.heap.size ≤ g3 by omega); clear hmk hx3 hb3 hg3)
            | ((with_reducible refine gate_dst (N := 9) rfl ?_); refine box_event ?hg (N := 9) ?hd (cs := #[.slice none 0 0, .slice none 0 0]) (t := 28) ?hr ?_; (case hd => rfl); (case hg => rfl); (case hr => first | (go_simp; done) | (go_simp; rfl)); intro g4 hg4 w4 hx4 hb4; have HX4 := Aside0.mk hx4; have HX34 := Aside0.mk (Lb.blk_below HX3.out hb4); have HB4 := Aside0.mk (HB3.out.trans (hb4.mono HB3.out.size)); have HG4 := Aside0.mk (show wr.heap.size ≤ g4 by have := HB3.out.size; omega); have HNE := Aside0.mk (show g3 ≠ g4 by have := HG3.out; omega); clear hx4 hb4 hg4)
            | ((with_reducible refine gate_store (t := 28) (p := 9) rfl ?_); refine Lb.store_whole rfl rfl 28 (.tmp 9) (.tmp 41) rfl (new := #[.slice (some ⟨g3, 0, none⟩) k k, .slice none 0 0]) rfl rfl HX4.out rfl (by kernel_rfl) (by simp [Value.oneCell']) ?_; intro w5 hb5 hg5; have HX5 := Aside0.mk hb5; have HX35 := Aside0.mk (Lb.blk_grown' HX34.out hg5 HNE.out); have HB5 := Aside0.mk (Lb.grown_below HB4.out hg5 HB4.out.size HG4.out); have d0 := (blk_cell hb5 0).trans rfl; clear hb5 hg5)
            | ((with_reducible refine gate_store (t := 3) (p := 45) rfl ?_); refine Lb.store_one rfl rfl 3 (.tmp 45) (.tmp 44) rfl (g := g3) (off := 0) (u := .int .i64 5) rfl rfl rfl rfl HX35.out (by kernel_rfl) (by simp; omega) ?_; intro w6 hb6 hg6; have HX36 := Aside0.mk hb6; have HX6 := Aside0.mk (Lb.blk_grown' HX5.out hg6 (fun e => HNE.out e.symm)); have HB6 := Aside0.mk (Lb.grown_below HB5.out hg6 HB5.out.size HGE.out); clear d0; have d0 := (blk_cell HX6.out 0).trans rfl; have d1 := (blk_cell HX6.out 1).trans rfl; clear hb6 hg6)
            | (go_at_call 8; (with_reducible refine (hE2.out w6 (some ⟨g3, 0, none⟩) none k 0 (by rw [← errs_row i k 5 HK.out]; exact row_of_blk HX36.out) (row_nil _)).mono ?_); rintro e w7 ⟨rfl, hb⟩; have HB7 := Aside0.mk (below_step (below_step HB.out HB6.out) hb); clear hb d0 d1))
          go_roundg j
          case measure => omega
          case rel => exact ⟨i + 1, by omega, by first | rfl | (congr 1; have := HK.out; omega), HLT, HB7⟩
  · go_enter Tryz.func4, Tryz.ntmps4
    go_wp2_with (first
      | (go_at_call 5; refine hS.mono ?_; rintro e w1 ⟨rfl, hb⟩; have HB1 := Aside0.mk hb; clear hb hS)
      | (go_at_call 6; refine (hO _ (Lib.Below.cellOf HB1.out HM.out (Nat.le_refl _))).mono ?_; rintro e w2 ⟨rfl, hb⟩; have HB2 := Aside0.mk (below_step HB1.out hb); clear hb hO))
    go_loopg [8] 5 (fun gk s8 wr => ∃ i : Nat, i + gk = 5 ∧ s8 = .int .i64 i ∧ Aside0 (i ≤ q) ∧ Aside0 (Below w.heap.size w wr))
    case atStart => exact ⟨0, by omega, rfl, ⟨Nat.zero_le _⟩, HB2⟩
    case round =>
      clear HB1 HB2
      obtain ⟨i, hi, rfl, HIQ, HB⟩ := hrel
      have hiq := HIQ.out
      cases gk with
      | zero => omega
      | succ j =>
        have hlt : (i : Int) < 5 := by omega
        obtain ⟨k, hk⟩ : ∃ k : Nat, k = i + 1 := ⟨_, rfl⟩
        have hk1 : (1 : Int) + (i : Int) = (k : Int) := by omega
        have hk2 : (i : Int) + 1 = (k : Int) := by omega
        have hmk := make_ints k (by omega)
        have HK := Aside0.mk hk
        have hk0 : (0 : Int) < (k : Int) := by omega
        have hE1 := HENC.out i hiq
        rw [← hk] at hE1
        by_cases hiqe : i = q
        · subst hiqe
          have hE2 := Aside0.mk hE1
          simp only [if_true] at hE2
          have hl1 : ((L.size : Int) == (4 : Int) + 4 * (i : Int)) = true := by have := HLS.out; simp; omega
          have hl2 : (L.size : Int) = (4 : Int) + 4 * (i : Int) := by have := HLS.out; omega
          clear hE1 hiq hk
          go_wp2_with (first
            | ((with_reducible refine gate_dst (N := 40) rfl ?_); refine Lb.alloc_event ?hg (v := fun g => .slice (some ⟨g, 0, none⟩) k k) (cs := (List.replicate k (Value.int .i64 0)).toArray) (t := 3) (fr := (0, 0)) ?hr ?_; (case hg => rfl); (case hr => first | (go_simp; done) | (go_simp; rfl)); intro g3 hg3 w3 hx3 hb3; have HX3 := Aside0.mk hx3; have HB3 := Aside0.mk hb3; have HG3 := Aside0.mk (blk_lt hx3); have HGE := Aside0.mk (show wr.heap.size ≤ g3 by omega); clear hmk hx3 hb3 hg3)
            | ((with_reducible refine gate_dst (N := 9) rfl ?_); refine box_event ?hg (N := 9) ?hd (cs := #[.slice none 0 0, .slice none 0 0]) (t := 28) ?hr ?_; (case hd => rfl); (case hg => rfl); (case hr => first | (go_simp; done) | (go_simp; rfl)); intro g4 hg4 w4 hx4 hb4; have HX4 := Aside0.mk hx4; have HX34 := Aside0.mk (Lb.blk_below HX3.out hb4); have HB4 := Aside0.mk (HB3.out.trans (hb4.mono HB3.out.size)); have HG4 := Aside0.mk (show wr.heap.size ≤ g4 by have := HB3.out.size; omega); have HNE := Aside0.mk (show g3 ≠ g4 by have := HG3.out; omega); clear hx4 hb4 hg4)
            | ((with_reducible refine gate_store (t := 28) (p := 9) rfl ?_); refine Lb.store_whole rfl rfl 28 (.tmp 9) (.tmp 41) rfl (new := #[.slice (some ⟨g3, 0, none⟩) k k, .slice none 0 0]) rfl rfl HX4.out rfl (by kernel_rfl) (by simp [Value.oneCell']) ?_; intro w5 hb5 hg5; have HX5 := Aside0.mk hb5; have HX35 := Aside0.mk (Lb.blk_grown' HX34.out hg5 HNE.out); have HB5 := Aside0.mk (Lb.grown_below HB4.out hg5 HB4.out.size HG4.out); have d0 := (blk_cell hb5 0).trans rfl; clear hb5 hg5)
            | ((with_reducible refine gate_store (t := 3) (p := 45) rfl ?_); refine Lb.store_one rfl rfl 3 (.tmp 45) (.tmp 44) rfl (g := g3) (off := 0) (u := .int .i64 5) rfl rfl rfl rfl HX35.out (by kernel_rfl) (by simp; omega) ?_; intro w6 hb6 hg6; have HX36 := Aside0.mk hb6; have HX6 := Aside0.mk (Lb.blk_grown' HX5.out hg6 (fun e => HNE.out e.symm)); have HB6 := Aside0.mk (Lb.grown_below HB5.out hg6 HB5.out.size HGE.out); clear d0; have d0 := (blk_cell HX6.out 0).trans rfl; have d1 := (blk_cell HX6.out 1).trans rfl; clear hb6 hg6)
            | (go_at_call 8; (with_reducible refine (hE2.out w6 (some ⟨g3, 0, none⟩) none k 0 (by rw [← errs_row i k 5 HK.out]; exact row_of_blk HX36.out) (row_nil _)).mono ?_); rintro e w7 ⟨rfl, hb⟩; have HB7 := Aside0.mk (below_step (below_step HB.out HB6.out) hb); clear hb d0 d1)
            | (go_at_call 7; (with_reducible refine (HDEC.out _).mono ?_); rintro e w8 hres; obtain ⟨⟨vN, vT, he, hN, hT⟩, hbel⟩ := hres; obtain ⟨AN, cN, rfl, hrN⟩ := own_rowAt hN; obtain ⟨AT, cT, rfl, hrT⟩ := own_rowAt hT; obtain ⟨ax, rfl, hax⟩ := hrN 0 (.int .i64 5) rfl; rw [addr0] at hax; have hlen : (5 :: List.replicate i (0 : Int)).length = k := (by simp [HK.out]); subst he; simp only [hlen]; have HB8 := Aside0.mk (below_step HB7.out hbel); have HAX := Aside0.mk hax; clear hN hT hbel hrN hrT hax hlen)
            | ((with_reducible refine gate_dst (N := 12) rfl ?_); refine box_event ?hg (N := 12) ?hd (cs := #[.slice none 0 0, .slice none 0 0]) (t := 28) ?hr ?_; (case hd => rfl); (case hg => rfl); (case hr => first | (go_simp; done) | (go_simp; rfl)); intro g9 hg9 w9 hx9 hb9; have HX9 := Aside0.mk hx9; have HB9 := Aside0.mk hb9; have HG9 := Aside0.mk (show w8.heap.size ≤ g9 by omega); clear hx9 hb9 hg9)
            | ((with_reducible refine gate_store (t := 28) (p := 12) rfl ?_); refine Lb.store_whole rfl rfl 28 (.tmp 12) (.tmp 58) rfl (new := #[.slice (some ax) k cN, .slice AT 0 cT]) rfl rfl HX9.out rfl (by kernel_rfl) (by simp [Value.oneCell']) ?_; intro w10 hb10 hg10; have hb89 := Lb.grown_below HB9.out hg10 HB9.out.size HG9.out; have HB10 := Aside0.mk (below_step HB8.out hb89); have f0 := (blk_cell hb10 0).trans rfl; have fx := Lib.Below.cellOf hb89 HAX.out (Nat.le_refl _); clear hb10 hg10 hb89))
          go_ret
          exact ⟨rfl, HB10.out⟩
        · have hE2 := Aside0.mk hE1
          simp only [if_neg hiqe] at hE2
          have HLT : Aside0 (i + 1 ≤ q) := ⟨by omega⟩
          clear hE1 hiq hk hiqe
          go_wp2_with (first
            | ((with_reducible refine gate_dst (N := 40) rfl ?_); refine Lb.alloc_event ?hg (v := fun g => .slice (some ⟨g, 0, none⟩) k k) (cs := (List.replicate k (Value.int .i64 0)).toArray) (t := 3) (fr := (0, 0)) ?hr ?_; (case hg => rfl); (case hr => first | (go_simp; done) | (go_simp; rfl)); intro g3 hg3 w3 hx3 hb3; have HX3 := Aside0.mk hx3; have HB3 := Aside0.mk hb3; have HG3 := Aside0.mk (blk_lt hx3); have HGE := Aside0.mk (show wr.heap.size ≤ g3 by omega); clear hmk hx3 hb3 hg3)
            | ((with_reducible refine gate_dst (N := 9) rfl ?_); refine box_event ?hg (N := 9) ?hd (cs := #[.slice none 0 0, .slice none 0 0]) (t := 28) ?hr ?_; (case hd => rfl); (case hg => rfl); (case hr => first | (go_simp; done) | (go_simp; rfl)); intro g4 hg4 w4 hx4 hb4; have HX4 := Aside0.mk hx4; have HX34 := Aside0.mk (Lb.blk_below HX3.out hb4); have HB4 := Aside0.mk (HB3.out.trans (hb4.mono HB3.out.size)); have HG4 := Aside0.mk (show wr.heap.size ≤ g4 by have := HB3.out.size; omega); have HNE := Aside0.mk (show g3 ≠ g4 by have := HG3.out; omega); clear hx4 hb4 hg4)
            | ((with_reducible refine gate_store (t := 28) (p := 9) rfl ?_); refine Lb.store_whole rfl rfl 28 (.tmp 9) (.tmp 41) rfl (new := #[.slice (some ⟨g3, 0, none⟩) k k, .slice none 0 0]) rfl rfl HX4.out rfl (by kernel_rfl) (by simp [Value.oneCell']) ?_; intro w5 hb5 hg5; have HX5 := Aside0.mk hb5; have HX35 := Aside0.mk (Lb.blk_grown' HX34.out hg5 HNE.out); have HB5 := Aside0.mk (Lb.grown_below HB4.out hg5 HB4.out.size HG4.out); have d0 := (blk_cell hb5 0).trans rfl; clear hb5 hg5)
            | ((with_reducible refine gate_store (t := 3) (p := 45) rfl ?_); refine Lb.store_one rfl rfl 3 (.tmp 45) (.tmp 44) rfl (g := g3) (off := 0) (u := .int .i64 5) rfl rfl rfl rfl HX35.out (by kernel_rfl) (by simp; omega) ?_; intro w6 hb6 hg6; have HX36 := Aside0.mk hb6; have HX6 := Aside0.mk (Lb.blk_grown' HX5.out hg6 (fun e => HNE.out e.symm)); have HB6 := Aside0.mk (Lb.grown_below HB5.out hg6 HB5.out.size HGE.out); clear d0; have d0 := (blk_cell HX6.out 0).trans rfl; have d1 := (blk_cell HX6.out 1).trans rfl; clear hb6 hg6)
            | (go_at_call 8; (with_reducible refine (hE2.out w6 (some ⟨g3, 0, none⟩) none k 0 (by rw [← errs_row i k 5 HK.out]; exact row_of_blk HX36.out) (row_nil _)).mono ?_); rintro e w7 ⟨rfl, hb⟩; have HB7 := Aside0.mk (below_step (below_step HB.out HB6.out) hb); clear hb d0 d1))
          go_roundg j
          case measure => omega
          case rel => exact ⟨i + 1, by omega, by first | rfl | (congr 1; have := HK.out; omega), HLT, HB7⟩
  · go_enter Tryz.func4, Tryz.ntmps4
    go_wp2_with (first
      | (go_at_call 5; refine hS.mono ?_; rintro e w1 ⟨rfl, hb⟩; have HB1 := Aside0.mk hb; clear hb hS)
      | (go_at_call 6; refine (hO _ (Lib.Below.cellOf HB1.out HM.out (Nat.le_refl _))).mono ?_; rintro e w2 ⟨rfl, hb⟩; have HB2 := Aside0.mk (below_step HB1.out hb); clear hb hO))
    go_loopg [8] 5 (fun gk s8 wr => ∃ i : Nat, i + gk = 5 ∧ s8 = .int .i64 i ∧ Aside0 (i ≤ q) ∧ Aside0 (Below w.heap.size w wr))
    case atStart => exact ⟨0, by omega, rfl, ⟨Nat.zero_le _⟩, HB2⟩
    case round =>
      clear HB1 HB2
      obtain ⟨i, hi, rfl, HIQ, HB⟩ := hrel
      have hiq := HIQ.out
      cases gk with
      | zero => omega
      | succ j =>
        have hlt : (i : Int) < 5 := by omega
        obtain ⟨k, hk⟩ : ∃ k : Nat, k = i + 1 := ⟨_, rfl⟩
        have hk1 : (1 : Int) + (i : Int) = (k : Int) := by omega
        have hk2 : (i : Int) + 1 = (k : Int) := by omega
        have hmk := make_ints k (by omega)
        have HK := Aside0.mk hk
        have hk0 : (0 : Int) < (k : Int) := by omega
        have hE1 := HENC.out i hiq
        rw [← hk] at hE1
        by_cases hiqe : i = q
        · subst hiqe
          have hE2 := Aside0.mk hE1
          simp only [if_true] at hE2
          have hl1 : ((L.size : Int) == (4 : Int) + 4 * (i : Int)) = true := by have := HLS.out; simp; omega
          have hl2 : (L.size : Int) = (4 : Int) + 4 * (i : Int) := by have := HLS.out; omega
          clear hE1 hiq hk
          go_wp2_with (first
            | ((with_reducible refine gate_dst (N := 40) rfl ?_); refine Lb.alloc_event ?hg (v := fun g => .slice (some ⟨g, 0, none⟩) k k) (cs := (List.replicate k (Value.int .i64 0)).toArray) (t := 3) (fr := (0, 0)) ?hr ?_; (case hg => rfl); (case hr => first | (go_simp; done) | (go_simp; rfl)); intro g3 hg3 w3 hx3 hb3; have HX3 := Aside0.mk hx3; have HB3 := Aside0.mk hb3; have HG3 := Aside0.mk (blk_lt hx3); have HGE := Aside0.mk (show wr.heap.size ≤ g3 by omega); clear hmk hx3 hb3 hg3)
            | ((with_reducible refine gate_dst (N := 9) rfl ?_); refine box_event ?hg (N := 9) ?hd (cs := #[.slice none 0 0, .slice none 0 0]) (t := 28) ?hr ?_; (case hd => rfl); (case hg => rfl); (case hr => first | (go_simp; done) | (go_simp; rfl)); intro g4 hg4 w4 hx4 hb4; have HX4 := Aside0.mk hx4; have HX34 := Aside0.mk (Lb.blk_below HX3.out hb4); have HB4 := Aside0.mk (HB3.out.trans (hb4.mono HB3.out.size)); have HG4 := Aside0.mk (show wr.heap.size ≤ g4 by have := HB3.out.size; omega); have HNE := Aside0.mk (show g3 ≠ g4 by have := HG3.out; omega); clear hx4 hb4 hg4)
            | ((with_reducible refine gate_store (t := 28) (p := 9) rfl ?_); refine Lb.store_whole rfl rfl 28 (.tmp 9) (.tmp 41) rfl (new := #[.slice (some ⟨g3, 0, none⟩) k k, .slice none 0 0]) rfl rfl HX4.out rfl (by kernel_rfl) (by simp [Value.oneCell']) ?_; intro w5 hb5 hg5; have HX5 := Aside0.mk hb5; have HX35 := Aside0.mk (Lb.blk_grown' HX34.out hg5 HNE.out); have HB5 := Aside0.mk (Lb.grown_below HB4.out hg5 HB4.out.size HG4.out); have d0 := (blk_cell hb5 0).trans rfl; clear hb5 hg5)
            | ((with_reducible refine gate_store (t := 3) (p := 45) rfl ?_); refine Lb.store_one rfl rfl 3 (.tmp 45) (.tmp 44) rfl (g := g3) (off := 0) (u := .int .i64 y) rfl rfl rfl rfl HX35.out (by kernel_rfl) (by simp; omega) ?_; intro w6 hb6 hg6; have HX36 := Aside0.mk hb6; have HX6 := Aside0.mk (Lb.blk_grown' HX5.out hg6 (fun e => HNE.out e.symm)); have HB6 := Aside0.mk (Lb.grown_below HB5.out hg6 HB5.out.size HGE.out); clear d0; have d0 := (blk_cell HX6.out 0).trans rfl; have d1 := (blk_cell HX6.out 1).trans rfl; clear hb6 hg6)
            | (go_at_call 8; (with_reducible refine (hE2.out w6 (some ⟨g3, 0, none⟩) none k 0 (by rw [← errs_row i k y HK.out]; exact row_of_blk HX36.out) (row_nil _)).mono ?_); rintro e w7 ⟨rfl, hb⟩; have HB7 := Aside0.mk (below_step (below_step HB.out HB6.out) hb); clear hb d0 d1)
            | (go_at_call 7; (with_reducible refine (HDEC.out _).mono ?_); rintro e w8 hres; obtain ⟨⟨vN, vT, he, hN, hT⟩, hbel⟩ := hres; obtain ⟨AN, cN, rfl, hrN⟩ := own_rowAt hN; obtain ⟨AT, cT, rfl, hrT⟩ := own_rowAt hT; obtain ⟨ax, rfl, hax⟩ := hrN 0 (.int .i64 y) rfl; rw [addr0] at hax; have hlen : (y :: List.replicate i (0 : Int)).length = k := (by simp [HK.out]); subst he; simp only [hlen]; have HB8 := Aside0.mk (below_step HB7.out hbel); have HAX := Aside0.mk hax; clear hN hT hbel hrN hrT hax hlen)
            | ((with_reducible refine gate_dst (N := 12) rfl ?_); refine box_event ?hg (N := 12) ?hd (cs := #[.slice none 0 0, .slice none 0 0]) (t := 28) ?hr ?_; (case hd => rfl); (case hg => rfl); (case hr => first | (go_simp; done) | (go_simp; rfl)); intro g9 hg9 w9 hx9 hb9; have HX9 := Aside0.mk hx9; have HB9 := Aside0.mk hb9; have HG9 := Aside0.mk (show w8.heap.size ≤ g9 by omega); clear hx9 hb9 hg9)
            | ((with_reducible refine gate_store (t := 28) (p := 12) rfl ?_); refine Lb.store_whole rfl rfl 28 (.tmp 12) (.tmp 58) rfl (new := #[.slice (some ax) k cN, .slice AT 0 cT]) rfl rfl HX9.out rfl (by kernel_rfl) (by simp [Value.oneCell']) ?_; intro w10 hb10 hg10; have hb89 := Lb.grown_below HB9.out hg10 HB9.out.size HG9.out; have HB10 := Aside0.mk (below_step HB8.out hb89); have f0 := (blk_cell hb10 0).trans rfl; have fx := Lib.Below.cellOf hb89 HAX.out (Nat.le_refl _); clear hb10 hg10 hb89))
          go_ret
          exact ⟨rfl, HB10.out⟩
        · have hE2 := Aside0.mk hE1
          simp only [if_neg hiqe] at hE2
          have HLT : Aside0 (i + 1 ≤ q) := ⟨by omega⟩
          clear hE1 hiq hk hiqe
          go_wp2_with (first
            | ((with_reducible refine gate_dst (N := 40) rfl ?_); refine Lb.alloc_event ?hg (v := fun g => .slice (some ⟨g, 0, none⟩) k k) (cs := (List.replicate k (Value.int .i64 0)).toArray) (t := 3) (fr := (0, 0)) ?hr ?_; (case hg => rfl); (case hr => first | (go_simp; done) | (go_simp; rfl)); intro g3 hg3 w3 hx3 hb3; have HX3 := Aside0.mk hx3; have HB3 := Aside0.mk hb3; have HG3 := Aside0.mk (blk_lt hx3); have HGE := Aside0.mk (show wr.heap.size ≤ g3 by omega); clear hmk hx3 hb3 hg3)
            | ((with_reducible refine gate_dst (N := 9) rfl ?_); refine box_event ?hg (N := 9) ?hd (cs := #[.slice none 0 0, .slice none 0 0]) (t := 28) ?hr ?_; (case hd => rfl); (case hg => rfl); (case hr => first | (go_simp; done) | (go_simp; rfl)); intro g4 hg4 w4 hx4 hb4; have HX4 := Aside0.mk hx4; have HX34 := Aside0.mk (Lb.blk_below HX3.out hb4); have HB4 := Aside0.mk (HB3.out.trans (hb4.mono HB3.out.size)); have HG4 := Aside0.mk (show wr.heap.size ≤ g4 by have := HB3.out.size; omega); have HNE := Aside0.mk (show g3 ≠ g4 by have := HG3.out; omega); clear hx4 hb4 hg4)
            | ((with_reducible refine gate_store (t := 28) (p := 9) rfl ?_); refine Lb.store_whole rfl rfl 28 (.tmp 9) (.tmp 41) rfl (new := #[.slice (some ⟨g3, 0, none⟩) k k, .slice none 0 0]) rfl rfl HX4.out rfl (by kernel_rfl) (by simp [Value.oneCell']) ?_; intro w5 hb5 hg5; have HX5 := Aside0.mk hb5; have HX35 := Aside0.mk (Lb.blk_grown' HX34.out hg5 HNE.out); have HB5 := Aside0.mk (Lb.grown_below HB4.out hg5 HB4.out.size HG4.out); have d0 := (blk_cell hb5 0).trans rfl; clear hb5 hg5)
            | ((with_reducible refine gate_store (t := 3) (p := 45) rfl ?_); refine Lb.store_one rfl rfl 3 (.tmp 45) (.tmp 44) rfl (g := g3) (off := 0) (u := .int .i64 y) rfl rfl rfl rfl HX35.out (by kernel_rfl) (by simp; omega) ?_; intro w6 hb6 hg6; have HX36 := Aside0.mk hb6; have HX6 := Aside0.mk (Lb.blk_grown' HX5.out hg6 (fun e => HNE.out e.symm)); have HB6 := Aside0.mk (Lb.grown_below HB5.out hg6 HB5.out.size HGE.out); clear d0; have d0 := (blk_cell HX6.out 0).trans rfl; have d1 := (blk_cell HX6.out 1).trans rfl; clear hb6 hg6)
            | (go_at_call 8; (with_reducible refine (hE2.out w6 (some ⟨g3, 0, none⟩) none k 0 (by rw [← errs_row i k y HK.out]; exact row_of_blk HX36.out) (row_nil _)).mono ?_); rintro e w7 ⟨rfl, hb⟩; have HB7 := Aside0.mk (below_step (below_step HB.out HB6.out) hb); clear hb d0 d1))
          go_roundg j
          case measure => omega
          case rel => exact ⟨i + 1, by omega, by first | rfl | (congr 1; have := HK.out; omega), HLT, HB7⟩

theorem walkErrors (p st m : Int) (w : World) (hm : w.cell? ⟨0, 0, none⟩ = some (.int .i64 m)) :
    Calls Tryz.prog 4 #[.int .i64 p, .int .i64 st] w fun e w' => e = .returned (.bool true) ∧ Below w.heap.size w w' := by
  by_cases h : 1 ≤ p ∧ p < 22
  · exact errors_in p st m h.1 h.2 w hm
  · refine errors_out p st m _ ?_ w hm rfl
    by_cases h0 : p = 0
    · exact .inl h0
    · refine .inr ?_
      rw [Mo.ofF, Mo.rawOf, if_neg (fun hh => h hh.2), if_neg (fun hh => absurd hh.1 (by decide))]
      exact decide_eq_false (fun hh => h0 hh.1)
end Go.Proofs.YtgfljlbecafipaaGreatDoor.Xw
