/- The walk of coraclelaw10.ShapeBytes. -/
import Derived.Test.YtgfljlbecafipaaGreatDoorMf
import Derived.Test.YtgfljlbecafipaaGreatDoorMj
namespace Go.Proofs.YtgfljlbecafipaaGreatDoor.Xw
open Go.RowKit Go.Lib Go.Proofs.YtgfljlbecafipaaGreatDoor.PA Go.Proofs.YtgfljlbecafipaaGreatDoorW.PrintWords Go.Proofs.YtgfljlbecafipaaGreatDoorW.PrintLast Go.Proofs.YtgfljlbecafipaaGreatDoorW.PrintMore
set_option linter.unusedVariables false
set_option linter.unusedSimpArgs false

theorem speaks_calls (m : Int) (w : World) (hm : w.cell? ⟨0, 0, none⟩ = some (.int .i64 m)) :
    Calls Tryz.prog 5 #[] w fun e w' => e = .returned (.bool true) ∧ Below w.heap.size w w' := by
  have hO := Mo.of_calls 100003 1 m w hm
  have e1 : (⟨(Mo.ofF 100003 1).1.toArray⟩ : ByteArray) = ⟨#[111, 54, 52]⟩ := by kernel_rfl
  have e2 : (⟨(Mo.ofF 100003 1).2.1.toArray⟩ : ByteArray) = ⟨#[60, 48, 58, 117, 117, 117, 117, 117, 113, 113, 117, 117, 113, 113, 117, 117, 117, 117, 117, 117, 44, 45, 58, 62]⟩ := by kernel_rfl
  have e3 : (Mo.ofF 100003 1).2.2 = true := by kernel_rfl
  rw [e1, e2, e3] at hO
  clear e1 e2 e3 hm
  go_enter Tryz.func5, Tryz.ntmps5
  go_wp2_with (first
    | (go_at_call 6; refine hO.mono ?_; rintro e w1 ⟨rfl, hb⟩; have HB := Aside0.mk hb; clear hb hO))
  go_ret
  exact ⟨rfl, HB.out⟩

theorem beq_self_str (s : ByteArray) : (s == s) = true := by
  cases s with | mk d =>
  show (d == d) = true
  simp

set_option maxRecDepth 100000 in
set_option maxHeartbeats 8000000 in
theorem walkBytes (g p m : Int) (l : List UInt8) (w : World) (hm : w.cell? ⟨0, 0, none⟩ = some (.int .i64 m)) :
    Calls Tryz.prog 3 #[.int .i64 g, .int .i64 p, .string ⟨l.toArray⟩] w fun e w' => e = .returned (.bool true) ∧ Below w.heap.size w w' := by
  have hS := speaks_calls m w hm
  have hO : ∀ W : World, W.cell? ⟨0, 0, none⟩ = some (.int .i64 m) → _ := fun W hW => Mo.of_calls g p m W hW
  have hG := forms_good g p
  have HM := Aside0.mk hm
  clear hm
  obtain ⟨S, hSl⟩ : ∃ S : ByteArray, S = ⟨l.toArray⟩ := ⟨_, rfl⟩
  rw [← hSl]
  have HSL := Aside0.mk hSl
  clear hSl
  generalize hA : (⟨(Mo.ofF g p).1.toArray⟩ : ByteArray) = A at hO hG
  generalize hB : (⟨(Mo.ofF g p).2.1.toArray⟩ : ByteArray) = B at hO hG
  generalize (Mo.ofF g p).2.2 = ok at hO
  clear hA hB
  obtain ⟨F, hF⟩ : ∃ F : Nat → ByteArray, F = fun i => if i = 0 then A else B := ⟨_, rfl⟩
  have HF0 : Aside0 (A = F 0) := ⟨by rw [hF]; rfl⟩
  have HF1 : Aside0 (∀ i, B = F (i + 1)) := ⟨fun i => by rw [hF]; rfl⟩
  have HG : Aside0 (∀ i, ∃ xs, Good (F i) xs) := ⟨fun i => by
    rw [hF]
    show ∃ xs, Good (if i = 0 then A else B) xs
    split
    · exact good_of hG.1
    · exact good_of hG.2⟩
  clear hF hG
  go_enter Tryz.func3, Tryz.ntmps3
  go_wp2_with (first
    | (go_at_call 5; refine hS.mono ?_; rintro e w1 ⟨rfl, hb⟩; have HB1 := Aside0.mk hb; clear hb hS)
    | (go_at_call 6; refine (hO _ (Lib.Below.cellOf HB1.out HM.out (Nat.le_refl _))).mono ?_; rintro e w2 ⟨rfl, hb⟩; have HB2 := Aside0.mk (below_step HB1.out hb); clear hb hO))
  go_loopg [7, 10] 2 (fun gk s7 s10 wr => ∃ i : Nat, i + gk = 2 ∧ s7 = .string (F i) ∧ s10 = .int .i64 i ∧ Aside0 (Below w.heap.size w wr))
  case atStart => exact ⟨0, by omega, by rw [← HF0.out], rfl, HB2⟩
  case round =>
    clear HB1 HB2
    obtain ⟨i, hi, rfl, rfl, HB⟩ := hrel
    cases gk with
    | zero =>
      have hi2 : i = 2 := by omega
      subst hi2
      go_wp2
      go_ret
      exact ⟨rfl, HB.out⟩
    | succ j =>
      have hlt : (i : Int) < 2 := by omega
      obtain ⟨xs, hgood⟩ := HG.out i
      have hnz : ∀ c, tkL xs ⟨⟨l, 0⟩, [], []⟩ = .no c → c ≠ 0 := fun c => tkL_no xs _ c hgood.ok
      have hDC : ∀ W, Calls Tryz.prog 7 #[.string (F i), .string S] W fun e w' => DecRes W (dec xs l) e w' := fun W => by rw [HSL.out]; exact decode_calls 200 1000 (F i) xs hgood.parse hgood.ok hgood.nok hgood.cnt (by omega) l W
      have HFN := Aside0.mk (HF1.out i)
      by_cases hz : (dec xs l).2 = 0
      · obtain ⟨N, T, hd⟩ : ∃ N T, dec xs l = ((N, T), 0) := ⟨(dec xs l).1.1, (dec xs l).1.2, by rw [← hz]⟩
        have hrt := (dec_rt hgood.ok hgood.nok hz).2
        rw [hd] at hrt hDC
        have hroom := dec_room hgood.nok hgood.cnt hd hnz
        have HEC : Aside0 (∀ (W : World) AN AT cN cT, RowAt W AN (N.map (Value.int .i64)) → RowAt W AT (T.map Value.string) → Calls Tryz.prog 8 #[.string (F i), .agg #[.slice AN N.length cN, .slice AT T.length cT]] W fun e w' => e = .returned (.tuple #[.string S, .int .i64 0]) ∧ Below W.heap.size W w') := ⟨fun W AN AT cN cT h1 h2 => by
          have := encode_calls 200 (F i) xs hgood.parse hgood.ok AN AT cN cT N T W h1 h2 (by omega) (by omega) hroom.2.2
          rw [hrt, ← HSL.out] at this
          exact this⟩
        have HDC := Aside0.mk hDC
        have hss : (S != S) = false := by simp [bne, beq_self_str]
        clear hrt hd hz hDC hnz hgood hroom
        go_wp2_with (first
          | (go_at_call 7; (with_reducible refine (HDC.out _).mono ?_); rintro e w3 hres; obtain ⟨⟨vN, vT, he, hN, hT⟩, hbel⟩ := hres; obtain ⟨AN, cN, rfl, hrN⟩ := own_rowAt hN; obtain ⟨AT, cT, rfl, hrT⟩ := own_rowAt hT; subst he; have HB3 := Aside0.mk (below_step HB.out hbel); have HRN := Aside0.mk hrN; have HRT := Aside0.mk hrT; clear hN hT hbel hrN hrT)
          | ((with_reducible refine gate_dst (N := 11) rfl ?_); refine box_event ?hg (N := 11) ?hd (cs := #[.slice none 0 0, .slice none 0 0]) (t := 28) ?hr ?_; (case hd => rfl); (case hg => rfl); (case hr => first | (go_simp; done) | (go_simp; rfl)); intro g4 hg4 w4 hx4 hb4; have HX4 := Aside0.mk hx4; have HB4 := Aside0.mk hb4; have HG4 := Aside0.mk (show w3.heap.size ≤ g4 by omega); clear hx4 hb4 hg4)
          | ((with_reducible refine gate_store (t := 28) (p := 11) rfl ?_); refine Lb.store_whole rfl rfl 28 (.tmp 11) (.tmp 32) rfl (new := #[.slice AN N.length cN, .slice AT T.length cT]) rfl rfl HX4.out rfl (by kernel_rfl) (by simp [Value.oneCell']) ?_; intro w5 hb5 hg5; have HX5 := Aside0.mk hb5; have HB35 := Aside0.mk (Lb.grown_below HB4.out hg5 HB4.out.size HG4.out); have HB5 := Aside0.mk (below_step HB3.out (Lb.grown_below HB4.out hg5 HB4.out.size HG4.out)); have d0 := (blk_cell hb5 0).trans rfl; have d1 := (blk_cell hb5 1).trans rfl; clear hb5 hg5)
          | (go_at_call 8; (with_reducible refine (HEC.out _ AN AT cN cT (HRN.out.step HB35.out) (HRT.out.step HB35.out)).mono ?_); rintro e w6 ⟨rfl, hb⟩; have HB6 := Aside0.mk (below_step HB5.out hb); clear hb d0 d1))
        go_roundg j
        case measure => omega
        case rel => exact ⟨i + 1, by omega, by rw [← HFN.out], by first | rfl | (congr 1; unfold wrap64; omega), HB6⟩
      · have hbad := dec_bad hgood.ok hz
        obtain ⟨y, hy⟩ : ∃ y, y = (dec xs l).2 := ⟨_, rfl⟩
        have hd : dec xs l = (([], []), y) := by rw [hy, ← hbad]
        rw [← hy] at hz
        rw [hd] at hDC
        have HDC := Aside0.mk hDC
        have hzb : (y == 0) = false := by simp [hz]
        clear hbad hy hd hDC hz hnz hgood
        go_wp2_with (first
          | (go_at_call 7; (with_reducible refine (HDC.out _).mono ?_); rintro e w3 hres; obtain ⟨⟨vN, vT, he, hN, hT⟩, hbel⟩ := hres; obtain ⟨AN, cN, rfl, hrN⟩ := own_rowAt hN; obtain ⟨AT, cT, rfl, hrT⟩ := own_rowAt hT; subst he; have HB3 := Aside0.mk (below_step HB.out hbel); clear hN hT hbel hrN hrT)
          | ((with_reducible refine gate_dst (N := 11) rfl ?_); refine box_event ?hg (N := 11) ?hd (cs := #[.slice none 0 0, .slice none 0 0]) (t := 28) ?hr ?_; (case hd => rfl); (case hg => rfl); (case hr => first | (go_simp; done) | (go_simp; rfl)); intro g4 hg4 w4 hx4 hb4; have HX4 := Aside0.mk hx4; have HB4 := Aside0.mk hb4; have HG4 := Aside0.mk (show w3.heap.size ≤ g4 by omega); clear hx4 hb4 hg4)
          | ((with_reducible refine gate_store (t := 28) (p := 11) rfl ?_); refine Lb.store_whole rfl rfl 28 (.tmp 11) (.tmp 32) rfl (new := #[.slice AN 0 cN, .slice AT 0 cT]) rfl rfl HX4.out rfl (by kernel_rfl) (by simp [Value.oneCell']) ?_; intro w5 hb5 hg5; have HX5 := Aside0.mk hb5; have HB5 := Aside0.mk (below_step HB3.out (Lb.grown_below HB4.out hg5 HB4.out.size HG4.out)); have d0 := (blk_cell hb5 0).trans rfl; have d1 := (blk_cell hb5 1).trans rfl; clear hb5 hg5))
        go_roundg j
        case measure => omega
        case rel => exact ⟨i + 1, by omega, by rw [← HFN.out], by first | rfl | (congr 1; unfold wrap64; omega), HB5⟩
end Go.Proofs.YtgfljlbecafipaaGreatDoor.Xw
