/- mount: MountFull. -/
import Derived.Test.YthamffpieafkbaaGreatDoorMg
import Derived.Lib.MinMax
namespace Go.Proofs.YthamffpieafkbaaGreatDoor.Mt
open Go.RowKit Go.Lib Go.Proofs.YthamffpieafkbaaGreatDoor.PM Go.Proofs.YthamffpieafkbaaGreatDoorW.PrintWords Go.Proofs.YthamffpieafkbaaGreatDoorW.PrintLast Go.Proofs.YthamffpieafkbaaGreatDoorW.PrintMore
set_option linter.unusedVariables false
set_option linter.unusedSimpArgs false

def hostOf (i : Nat) : ByteArray := ⟨[97, UInt8.ofNat i].toArray⟩
def HL (j : Nat) : List Held := (List.range j).map fun i => ⟨hostOf i, ⟨#[47]⟩⟩
theorem host_sz (i : Nat) : (hostOf i).size ≤ 255 := by unfold hostOf; simp [ByteArray.size]
theorem HL_len (j : Nat) : (HL j).length = j := by simp [HL]
theorem HL_succ (j : Nat) : HL j ++ [⟨hostOf j, ⟨#[47]⟩⟩] = HL (j + 1) := by simp [HL, List.range_succ]
theorem hasM_bf : ((List.range 100).all fun i => hasM (HL (min i 64)) (hostOf i) ⟨#[47]⟩ == false) = true := by kernel_rfl
theorem hasM_bf0 : ((List.range 65).all fun j => hasM (HL j) (hostOf 0) ⟨#[47]⟩ == decide (0 < j)) = true := by kernel_rfl
theorem hasM_no (i : Nat) (h : i < 100) : hasM (HL (min i 64)) (hostOf i) ⟨#[47]⟩ = false := by
  have := (List.all_eq_true.1 hasM_bf) i (List.mem_range.2 h)
  simpa using this
theorem hasM_0 (j : Nat) (h : j ≤ 64) : hasM (HL j) (hostOf 0) ⟨#[47]⟩ = decide (0 < j) := by
  have := (List.all_eq_true.1 hasM_bf0) j (List.mem_range.2 (by omega))
  simpa using this
theorem may_eR (h : ByteArray) : mayHost eR h = true := rfl
theorem mM_step (i : Nat) (h : i < 100) : mntM eR (hostOf i) ⟨#[47]⟩ (HL (min i 64)) = HL (min (i + 1) 64) := by
  unfold mntM
  rw [HL_len, hasM_no i h]
  by_cases hi : i < 64
  · rw [if_pos ⟨may_eR _, rfl, by omega⟩, show min i 64 = i by omega, show min (i + 1) 64 = i + 1 by omega, HL_succ]
  · rw [if_neg (fun h => hi (by have := h.2.2; omega)), show min i 64 = 64 by omega, show min (i + 1) 64 = 64 by omega]
theorem mN_step (i : Nat) (h : i < 100) : mntN eR (hostOf i) ⟨#[47]⟩ (HL (min i 64)) = if i < 64 then [0, 1, 1] else [13] := by
  unfold mntN
  rw [HL_len, hasM_no i h]
  by_cases hi : i < 64
  · rw [if_pos ⟨may_eR _, .inr (by omega)⟩, if_pos hi]
  · rw [if_neg (fun h => hi (by rcases h.2 with h | h; (cases h); omega)), if_neg hi]
theorem mM_end (n : Nat) : mntM eR (hostOf 0) ⟨#[47]⟩ (HL (min n 64)) = HL (min (max n 1) 64) := by
  unfold mntM
  rw [HL_len, hasM_0 _ (by omega)]
  by_cases hn : n = 0
  · subst hn; rfl
  · rw [decide_eq_true (show 0 < min n 64 by omega), if_neg (fun h => by simp at h), show max n 1 = n by omega]
theorem mN_end (n : Nat) : mntN eR (hostOf 0) ⟨#[47]⟩ (HL (min n 64)) = [0, 1, 1] := by
  unfold mntN
  rw [HL_len, hasM_0 _ (by omega)]
  by_cases hn : n = 0
  · subst hn; rfl
  · rw [decide_eq_true (show 0 < min n 64 by omega), if_pos ⟨may_eR _, .inl rfl⟩]
theorem two_back (w : World) (g : Nat) (i : Nat) (hi : i < 256) (h : w.heap[g]? = some (.cells #[.int .u8 97, .int .u8 (i : Int)] 5 (0, 0))) :
    (convert 56 9 (.slice (some ⟨g, 0, none⟩) 2 2)).run Tryz.prog w = .ok (.string (hostOf i)) w := by
  refine run_convert_bytes_back (P := Tryz.prog) w 56 9 5 ⟨g, 0, none⟩ 2 [97, UInt8.ofNat i] Tryz.underlying56 Tryz.underlying5 Tryz.underlying9 (fun j hj => ?_)
  have e : (⟨g, 0, none⟩ : Addr).add j = ⟨g, j, none⟩ := by unfold Addr.add; split <;> simp_all
  rw [e]
  have hn : ((UInt8.ofNat i).toNat : Int) = i := by rw [UInt8.toNat_ofNat']; omega
  match j, hj with
  | 0, _ => exact (blk_cell h 0).trans rfl
  | 1, _ =>
    show _ = some (Value.int .u8 ((UInt8.ofNat i).toNat : Int))
    rw [hn]
    exact (blk_cell h 1).trans rfl
  | n + 2, h => simp at h; omega

set_option maxRecDepth 100000 in
set_option maxHeartbeats 4000000 in
theorem full_out (n : Int) (m : Int) (w : World) (hm : w.cell? ⟨0, 0, none⟩ = some (.int .i64 m)) (h : n < 0) :
    Calls Tryz.prog 6 #[.int .i64 n] w fun e w' => e = .returned (.bool true) ∧ Below w.heap.size w w' := by
  have HME := Aside0.mk hm
  clear hm
  have y1 : decide (n < 0) = true := decide_eq_true h
  clear h
  go_enter Tryz.func6, Tryz.ntmps6
  go_wp2_with (first
    | (go_at_call 7; (with_reducible refine (speaks_calls m w HME.out).mono ?_); rintro e0 w0 ⟨rfl, hb⟩; have HB0 := Aside0.mk hb; clear hb)
    | ((with_reducible refine gate_dst (N := 16) rfl ?_); refine Lb.alloc_event ?hg (v := fun g => .slice (some ⟨g, 0, none⟩) 1 1) (cs := #[.string ⟨#[47]⟩, .string ⟨#[104]⟩, .slice none 0 0]) (t := 30) (fr := (0, 0)) ?hr ?_; (case hg => rfl); (case hr => first | (go_simp; done) | (go_simp; rfl)); intro g4 hg4 w1 hx hb; have HX4 := Aside0.mk hx; have HB1 := Aside0.mk (below_step HB0.out hb); clear hx hb hg4)
    | (go_at_call 8; (with_reducible refine (new_calls 0 _ [eR] w1 (exps_one _ _ HX4.out) (good1 _ _ (by decide) (by decide))).mono ?_); rintro e2 w2 ⟨⟨g, rfl, hmt⟩, hb⟩; have HMT := Aside0.mk hmt; have HB2 := Aside0.mk (below_step HB1.out hb); clear hmt hb))
  go_loopg [4] 66 (fun gk s4 wr => ∃ i : Nat, i + gk = 66 ∧ s4 = .int .i64 i ∧ Aside0 (MT w1.heap.size wr g [eR] (HL (min i 64))) ∧ Aside0 (Below w.heap.size w wr))
  case atStart => exact ⟨0, by omega, rfl, HMT, HB2⟩
  case round =>
    clear HMT HB2
    obtain ⟨i, hi, rfl, HMT, HB⟩ := hrel
    cases gk with
    | zero =>
      obtain rfl : 66 = i := by omega
      have hii : ¬ ((66 : Int) < (66 : Int)) := by omega
      have hmx : max (66 : Int) 1 = 66 := rfl
      have hmn : min (66 : Int) 64 = 64 := rfl
      go_wp2_with (first
        | ((with_reducible refine gate_dst (N := 46) rfl ?_); refine Lb.alloc_event ?hg (v := fun g => .slice (some ⟨g, 0, none⟩) 2 2) (cs := #[.int .u8 97, .int .u8 0]) (t := 5) (fr := (0, 0)) ?hr ?_; (case hg => rfl); (case hr => first | (go_simp; done) | (go_simp; rfl)); intro g26 hg26 w3 hx hb; have hcv := two_back _ g26 0 (by decide) hx; have HMT3 := Aside0.mk (HMT.out.step hb); have HB3 := Aside0.mk (below_step HB.out hb); clear hx hb hg26)
        | ((with_reducible refine gate_dst (N := 48) rfl ?_); refine Lb.alloc_event ?hg (v := fun g => .slice (some ⟨g, 0, none⟩) 1 1) (cs := #[.string ⟨#[47]⟩]) (t := 9) (fr := (0, 0)) ?hr ?_; (case hg => rfl); (case hr => first | (go_simp; done) | (go_simp; rfl)); intro g28 hg28 w4 hx hb; have HXT := Aside0.mk hx; have HMT4 := Aside0.mk (HMT3.out.step hb); have HB4 := Aside0.mk (below_step HB3.out hb); clear hcv; clear hx hb hg28)
        | (go_at_call 10; (with_reducible refine (do_some _ g g28 [eR] (HL (min 66 64)) (hostOf 0) ⟨#[47]⟩ m 0 eR w4 HMT4.out (Lib.Below.cellOf HB4.out HME.out (Nat.le_refl _)) HXT.out (host_sz _) (by decide) (by decide) (by rw [HL_len]; omega) (by decide) (by kernel_rfl) rfl).mono ?_); rw [mM_end 66, mN_end 66]; rintro e5 w5 ⟨⟨vN, vT, rfl, hN, hT⟩, hmt, hfr⟩; have HMT5 := Aside0.mk hmt; have HB5 := Aside0.mk (show Below w.heap.size w w5 from HB4.out.trans (hfr.bel.mono HB1.out.size)); obtain ⟨AN, cN, rfl, _⟩ := hN; obtain ⟨AT, cT, rfl, _⟩ := hT; clear hmt hfr)
        | ((with_reducible refine gate_dst (N := 6) rfl ?_); refine box_event ?hg (N := 6) ?hd (cs := #[.slice none 0 0, .slice none 0 0]) (t := 40) ?hr ?_; (case hd => rfl); (case hg => rfl); (case hr => first | (go_simp; done) | (go_simp; rfl)); intro g6 hg6 w6 hx hb; have HX6 := Aside0.mk hx; have HMT6 := Aside0.mk (HMT5.out.step hb); have HB6 := Aside0.mk (below_step HB5.out hb); have HG6 := Aside0.mk (show w.heap.size ≤ g6 by have := HB5.out.size; omega); clear hx hb hg6)
        | ((with_reducible refine gate_store (t := 40) (p := 6) rfl ?_); refine Lb.store_whole rfl rfl 40 (.tmp 6) (.tmp 50) rfl (new := #[.slice AN [0, 1, 1].length cN, .slice AT (mntT eR (hostOf 0) ⟨#[47]⟩ (HL (min 66 64))).length cT]) rfl rfl HX6.out rfl (by kernel_rfl) (by simp [Value.oneCell']) ?_; intro w7 hb hg; have HMT7 := Aside0.mk (HMT6.out.other HX6.out hg (by decide) (by decide) (by decide) (by decide)); have HB7 := Aside0.mk (Lb.grown_below HB6.out hg HB6.out.size HG6.out); have d0 := (blk_cell hb 0).trans rfl; have d1 := (blk_cell hb 1).trans rfl; clear hb hg)
        | (go_at_call 13; (with_reducible refine (mounts_calls _ g [eR] _ w7 HMT7.out (by rw [HL_len]; omega)).mono ?_); rw [HL_len, show min (max 66 1) 64 = 64 from rfl]; rintro e8 w8 ⟨rfl, rfl⟩))
      go_ret
      refine ⟨?_, HB7.out⟩
      rfl
    | succ gk =>
      have hii : (i : Int) < (66 : Int) := by omega
      have hu8 : IntKind.u8.wrap (i : Int) = i := by rw [IntKind.wrap_u8]; omega
      have hu8n : (i : Int) % 256 = i := by omega
      have HI := Aside0.mk (show i < 100 by omega)
      have HEQ := Aside0.mk hi
      clear hi
      by_cases h64 : i < 64
      · have y64 : decide ((i : Int) < 64) = true := decide_eq_true (by omega)
        have y64n : decide (i < 64) = true := decide_eq_true h64
        have HNN : Aside0 (mntN eR (hostOf i) ⟨#[47]⟩ (HL (min i 64)) = [0, 1, 1]) := ⟨by rw [mN_step i HI.out, if_pos h64]⟩
        clear h64
        go_wp2_with (first
            | ((with_reducible refine gate_dst (N := 26) rfl ?_); refine Lb.alloc_event ?hg (v := fun g => .slice (some ⟨g, 0, none⟩) 2 2) (cs := #[.int .u8 97, .int .u8 (i : Int)]) (t := 5) (fr := (0, 0)) ?hr ?_; (case hg => rfl); (case hr => first | (go_simp; done) | (go_simp; rfl)); intro g26 hg26 w3 hx hb; have hcv := two_back _ g26 i (by have := HI.out; omega) hx; have HMT3 := Aside0.mk (HMT.out.step hb); have HB3 := Aside0.mk (below_step HB.out hb); clear hx hb hg26)
            | ((with_reducible refine gate_dst (N := 28) rfl ?_); refine Lb.alloc_event ?hg (v := fun g => .slice (some ⟨g, 0, none⟩) 1 1) (cs := #[.string ⟨#[47]⟩]) (t := 9) (fr := (0, 0)) ?hr ?_; (case hg => rfl); (case hr => first | (go_simp; done) | (go_simp; rfl)); intro g28 hg28 w4 hx hb; have HXT := Aside0.mk hx; have HMT4 := Aside0.mk (HMT3.out.step hb); have HB4 := Aside0.mk (below_step HB3.out hb); clear hcv; clear hx hb hg28)
            | (go_at_call 10; (with_reducible refine (do_some _ g g28 [eR] (HL (min i 64)) (hostOf i) ⟨#[47]⟩ m 0 eR w4 HMT4.out (Lib.Below.cellOf HB4.out HME.out (Nat.le_refl _)) HXT.out (host_sz _) (by decide) (by decide) (by rw [HL_len]; omega) (by decide) (by kernel_rfl) rfl).mono ?_); rw [mM_step i HI.out, HNN.out]; rintro e5 w5 ⟨⟨vN, vT, rfl, hN, hT⟩, hmt, hfr⟩; have HNA := Aside0.mk hN; have HMT5 := Aside0.mk hmt; have HB5 := Aside0.mk (show Below w.heap.size w w5 from HB4.out.trans (hfr.bel.mono HB1.out.size)); obtain ⟨kN, cN, rfl, _⟩ := ints_at hN rfl; obtain ⟨AT, cT, rfl, _⟩ := hT; clear hmt hfr hN)
            | ((with_reducible refine gate_dst (N := 5) rfl ?_); refine box_event ?hg (N := 5) ?hd (cs := #[.slice none 0 0, .slice none 0 0]) (t := 40) ?hr ?_; (case hd => rfl); (case hg => rfl); (case hr => first | (go_simp; done) | (go_simp; rfl)); intro g5 hg5 w6 hx hb; have HX6 := Aside0.mk hx; have HMT6 := Aside0.mk (HMT5.out.step hb); have HNA6 := Aside0.mk (HNA.out.keep (fun k cs f hr => Lb.blk_below hr hb)); have HB6 := Aside0.mk (below_step HB5.out hb); have HG5 := Aside0.mk (show w.heap.size ≤ g5 by have := HB5.out.size; omega); clear hx hb hg5)
            | ((with_reducible refine gate_store (t := 40) (p := 5) rfl ?_); refine Lb.store_whole rfl rfl 40 (.tmp 5) (.tmp 30) rfl (new := #[.slice (some ⟨kN, 0, none⟩) [0, 1, 1].length cN, .slice AT (mntT eR (hostOf i) ⟨#[47]⟩ (HL (min i 64))).length cT]) rfl rfl HX6.out rfl (by kernel_rfl) (by simp [Value.oneCell']) ?_; intro w7 hb hg; have hk7 := types_blk HX6.out hg; have HMT7 := Aside0.mk (HMT6.out.other HX6.out hg (by decide) (by decide) (by decide) (by decide)); have HB7 := Aside0.mk (Lb.grown_below HB6.out hg HB6.out.size HG5.out); have d0 := (blk_cell hb 0).trans rfl; have d1 := (blk_cell hb 1).trans rfl; obtain ⟨_, _, e1, n0⟩ := ints_at (HNA6.out.keep (fun k cs f hr => hk7 _ _ _ _ (by decide) hr)) rfl; injection e1 with e1 _ _; injection e1 with e1; injection e1 with e1 _ _; subst e1; clear hk7; clear hb hg))
        go_roundg gk
        case measure => omega
        case rel => exact ⟨i + 1, by have := HEQ.out; omega, by first | rfl | (congr 1; have := HI.out; unfold wrap64; omega), HMT7, HB7⟩
      · have y64 : decide ((i : Int) < 64) = false := decide_eq_false (by omega)
        have y64n : decide (i < 64) = false := decide_eq_false h64
        have HNN : Aside0 (mntN eR (hostOf i) ⟨#[47]⟩ (HL (min i 64)) = [13]) := ⟨by rw [mN_step i HI.out, if_neg h64]⟩
        clear h64
        go_wp2_with (first
            | ((with_reducible refine gate_dst (N := 26) rfl ?_); refine Lb.alloc_event ?hg (v := fun g => .slice (some ⟨g, 0, none⟩) 2 2) (cs := #[.int .u8 97, .int .u8 (i : Int)]) (t := 5) (fr := (0, 0)) ?hr ?_; (case hg => rfl); (case hr => first | (go_simp; done) | (go_simp; rfl)); intro g26 hg26 w3 hx hb; have hcv := two_back _ g26 i (by have := HI.out; omega) hx; have HMT3 := Aside0.mk (HMT.out.step hb); have HB3 := Aside0.mk (below_step HB.out hb); clear hx hb hg26)
            | ((with_reducible refine gate_dst (N := 28) rfl ?_); refine Lb.alloc_event ?hg (v := fun g => .slice (some ⟨g, 0, none⟩) 1 1) (cs := #[.string ⟨#[47]⟩]) (t := 9) (fr := (0, 0)) ?hr ?_; (case hg => rfl); (case hr => first | (go_simp; done) | (go_simp; rfl)); intro g28 hg28 w4 hx hb; have HXT := Aside0.mk hx; have HMT4 := Aside0.mk (HMT3.out.step hb); have HB4 := Aside0.mk (below_step HB3.out hb); clear hcv; clear hx hb hg28)
            | (go_at_call 10; (with_reducible refine (do_some _ g g28 [eR] (HL (min i 64)) (hostOf i) ⟨#[47]⟩ m 0 eR w4 HMT4.out (Lib.Below.cellOf HB4.out HME.out (Nat.le_refl _)) HXT.out (host_sz _) (by decide) (by decide) (by rw [HL_len]; omega) (by decide) (by kernel_rfl) rfl).mono ?_); rw [mM_step i HI.out, HNN.out]; rintro e5 w5 ⟨⟨vN, vT, rfl, hN, hT⟩, hmt, hfr⟩; have HNA := Aside0.mk hN; have HMT5 := Aside0.mk hmt; have HB5 := Aside0.mk (show Below w.heap.size w w5 from HB4.out.trans (hfr.bel.mono HB1.out.size)); obtain ⟨kN, cN, rfl, _⟩ := ints_at hN rfl; obtain ⟨AT, cT, rfl, _⟩ := hT; clear hmt hfr hN)
            | ((with_reducible refine gate_dst (N := 5) rfl ?_); refine box_event ?hg (N := 5) ?hd (cs := #[.slice none 0 0, .slice none 0 0]) (t := 40) ?hr ?_; (case hd => rfl); (case hg => rfl); (case hr => first | (go_simp; done) | (go_simp; rfl)); intro g5 hg5 w6 hx hb; have HX6 := Aside0.mk hx; have HMT6 := Aside0.mk (HMT5.out.step hb); have HNA6 := Aside0.mk (HNA.out.keep (fun k cs f hr => Lb.blk_below hr hb)); have HB6 := Aside0.mk (below_step HB5.out hb); have HG5 := Aside0.mk (show w.heap.size ≤ g5 by have := HB5.out.size; omega); clear hx hb hg5)
            | ((with_reducible refine gate_store (t := 40) (p := 5) rfl ?_); refine Lb.store_whole rfl rfl 40 (.tmp 5) (.tmp 30) rfl (new := #[.slice (some ⟨kN, 0, none⟩) [13].length cN, .slice AT (mntT eR (hostOf i) ⟨#[47]⟩ (HL (min i 64))).length cT]) rfl rfl HX6.out rfl (by kernel_rfl) (by simp [Value.oneCell']) ?_; intro w7 hb hg; have hk7 := types_blk HX6.out hg; have HMT7 := Aside0.mk (HMT6.out.other HX6.out hg (by decide) (by decide) (by decide) (by decide)); have HB7 := Aside0.mk (Lb.grown_below HB6.out hg HB6.out.size HG5.out); have d0 := (blk_cell hb 0).trans rfl; have d1 := (blk_cell hb 1).trans rfl; obtain ⟨_, _, e1, n0⟩ := ints_at (HNA6.out.keep (fun k cs f hr => hk7 _ _ _ _ (by decide) hr)) rfl; injection e1 with e1 _ _; injection e1 with e1; injection e1 with e1 _ _; subst e1; clear hk7; clear hb hg))
        go_roundg gk
        case measure => omega
        case rel => exact ⟨i + 1, by have := HEQ.out; omega, by first | rfl | (congr 1; have := HI.out; unfold wrap64; omega), HMT7, HB7⟩

set_option maxRecDepth 100000 in
set_option maxHeartbeats 4000000 in
theorem full_over (n : Int) (m : Int) (w : World) (hm : w.cell? ⟨0, 0, none⟩ = some (.int .i64 m)) (h : ¬ n < 0) (h2 : 100 < n) :
    Calls Tryz.prog 6 #[.int .i64 n] w fun e w' => e = .returned (.bool true) ∧ Below w.heap.size w w' := by
  have HME := Aside0.mk hm
  clear hm
  have y1 : decide (n < 0) = false := decide_eq_false h
  have y2 : decide (100 < n) = true := decide_eq_true h2
  clear h h2
  go_enter Tryz.func6, Tryz.ntmps6
  go_wp2_with (first
    | (go_at_call 7; (with_reducible refine (speaks_calls m w HME.out).mono ?_); rintro e0 w0 ⟨rfl, hb⟩; have HB0 := Aside0.mk hb; clear hb)
    | ((with_reducible refine gate_dst (N := 16) rfl ?_); refine Lb.alloc_event ?hg (v := fun g => .slice (some ⟨g, 0, none⟩) 1 1) (cs := #[.string ⟨#[47]⟩, .string ⟨#[104]⟩, .slice none 0 0]) (t := 30) (fr := (0, 0)) ?hr ?_; (case hg => rfl); (case hr => first | (go_simp; done) | (go_simp; rfl)); intro g4 hg4 w1 hx hb; have HX4 := Aside0.mk hx; have HB1 := Aside0.mk (below_step HB0.out hb); clear hx hb hg4)
    | (go_at_call 8; (with_reducible refine (new_calls 0 _ [eR] w1 (exps_one _ _ HX4.out) (good1 _ _ (by decide) (by decide))).mono ?_); rintro e2 w2 ⟨⟨g, rfl, hmt⟩, hb⟩; have HMT := Aside0.mk hmt; have HB2 := Aside0.mk (below_step HB1.out hb); clear hmt hb))
  go_loopg [4] 66 (fun gk s4 wr => ∃ i : Nat, i + gk = 66 ∧ s4 = .int .i64 i ∧ Aside0 (MT w1.heap.size wr g [eR] (HL (min i 64))) ∧ Aside0 (Below w.heap.size w wr))
  case atStart => exact ⟨0, by omega, rfl, HMT, HB2⟩
  case round =>
    clear HMT HB2
    obtain ⟨i, hi, rfl, HMT, HB⟩ := hrel
    cases gk with
    | zero =>
      obtain rfl : 66 = i := by omega
      have hii : ¬ ((66 : Int) < (66 : Int)) := by omega
      have hmx : max (66 : Int) 1 = 66 := rfl
      have hmn : min (66 : Int) 64 = 64 := rfl
      go_wp2_with (first
        | ((with_reducible refine gate_dst (N := 46) rfl ?_); refine Lb.alloc_event ?hg (v := fun g => .slice (some ⟨g, 0, none⟩) 2 2) (cs := #[.int .u8 97, .int .u8 0]) (t := 5) (fr := (0, 0)) ?hr ?_; (case hg => rfl); (case hr => first | (go_simp; done) | (go_simp; rfl)); intro g26 hg26 w3 hx hb; have hcv := two_back _ g26 0 (by decide) hx; have HMT3 := Aside0.mk (HMT.out.step hb); have HB3 := Aside0.mk (below_step HB.out hb); clear hx hb hg26)
        | ((with_reducible refine gate_dst (N := 48) rfl ?_); refine Lb.alloc_event ?hg (v := fun g => .slice (some ⟨g, 0, none⟩) 1 1) (cs := #[.string ⟨#[47]⟩]) (t := 9) (fr := (0, 0)) ?hr ?_; (case hg => rfl); (case hr => first | (go_simp; done) | (go_simp; rfl)); intro g28 hg28 w4 hx hb; have HXT := Aside0.mk hx; have HMT4 := Aside0.mk (HMT3.out.step hb); have HB4 := Aside0.mk (below_step HB3.out hb); clear hcv; clear hx hb hg28)
        | (go_at_call 10; (with_reducible refine (do_some _ g g28 [eR] (HL (min 66 64)) (hostOf 0) ⟨#[47]⟩ m 0 eR w4 HMT4.out (Lib.Below.cellOf HB4.out HME.out (Nat.le_refl _)) HXT.out (host_sz _) (by decide) (by decide) (by rw [HL_len]; omega) (by decide) (by kernel_rfl) rfl).mono ?_); rw [mM_end 66, mN_end 66]; rintro e5 w5 ⟨⟨vN, vT, rfl, hN, hT⟩, hmt, hfr⟩; have HMT5 := Aside0.mk hmt; have HB5 := Aside0.mk (show Below w.heap.size w w5 from HB4.out.trans (hfr.bel.mono HB1.out.size)); obtain ⟨AN, cN, rfl, _⟩ := hN; obtain ⟨AT, cT, rfl, _⟩ := hT; clear hmt hfr)
        | ((with_reducible refine gate_dst (N := 6) rfl ?_); refine box_event ?hg (N := 6) ?hd (cs := #[.slice none 0 0, .slice none 0 0]) (t := 40) ?hr ?_; (case hd => rfl); (case hg => rfl); (case hr => first | (go_simp; done) | (go_simp; rfl)); intro g6 hg6 w6 hx hb; have HX6 := Aside0.mk hx; have HMT6 := Aside0.mk (HMT5.out.step hb); have HB6 := Aside0.mk (below_step HB5.out hb); have HG6 := Aside0.mk (show w.heap.size ≤ g6 by have := HB5.out.size; omega); clear hx hb hg6)
        | ((with_reducible refine gate_store (t := 40) (p := 6) rfl ?_); refine Lb.store_whole rfl rfl 40 (.tmp 6) (.tmp 50) rfl (new := #[.slice AN [0, 1, 1].length cN, .slice AT (mntT eR (hostOf 0) ⟨#[47]⟩ (HL (min 66 64))).length cT]) rfl rfl HX6.out rfl (by kernel_rfl) (by simp [Value.oneCell']) ?_; intro w7 hb hg; have HMT7 := Aside0.mk (HMT6.out.other HX6.out hg (by decide) (by decide) (by decide) (by decide)); have HB7 := Aside0.mk (Lb.grown_below HB6.out hg HB6.out.size HG6.out); have d0 := (blk_cell hb 0).trans rfl; have d1 := (blk_cell hb 1).trans rfl; clear hb hg)
        | (go_at_call 13; (with_reducible refine (mounts_calls _ g [eR] _ w7 HMT7.out (by rw [HL_len]; omega)).mono ?_); rw [HL_len, show min (max 66 1) 64 = 64 from rfl]; rintro e8 w8 ⟨rfl, rfl⟩))
      go_ret
      refine ⟨?_, HB7.out⟩
      rfl
    | succ gk =>
      have hii : (i : Int) < (66 : Int) := by omega
      have hu8 : IntKind.u8.wrap (i : Int) = i := by rw [IntKind.wrap_u8]; omega
      have hu8n : (i : Int) % 256 = i := by omega
      have HI := Aside0.mk (show i < 100 by omega)
      have HEQ := Aside0.mk hi
      clear hi
      by_cases h64 : i < 64
      · have y64 : decide ((i : Int) < 64) = true := decide_eq_true (by omega)
        have y64n : decide (i < 64) = true := decide_eq_true h64
        have HNN : Aside0 (mntN eR (hostOf i) ⟨#[47]⟩ (HL (min i 64)) = [0, 1, 1]) := ⟨by rw [mN_step i HI.out, if_pos h64]⟩
        clear h64
        go_wp2_with (first
            | ((with_reducible refine gate_dst (N := 26) rfl ?_); refine Lb.alloc_event ?hg (v := fun g => .slice (some ⟨g, 0, none⟩) 2 2) (cs := #[.int .u8 97, .int .u8 (i : Int)]) (t := 5) (fr := (0, 0)) ?hr ?_; (case hg => rfl); (case hr => first | (go_simp; done) | (go_simp; rfl)); intro g26 hg26 w3 hx hb; have hcv := two_back _ g26 i (by have := HI.out; omega) hx; have HMT3 := Aside0.mk (HMT.out.step hb); have HB3 := Aside0.mk (below_step HB.out hb); clear hx hb hg26)
            | ((with_reducible refine gate_dst (N := 28) rfl ?_); refine Lb.alloc_event ?hg (v := fun g => .slice (some ⟨g, 0, none⟩) 1 1) (cs := #[.string ⟨#[47]⟩]) (t := 9) (fr := (0, 0)) ?hr ?_; (case hg => rfl); (case hr => first | (go_simp; done) | (go_simp; rfl)); intro g28 hg28 w4 hx hb; have HXT := Aside0.mk hx; have HMT4 := Aside0.mk (HMT3.out.step hb); have HB4 := Aside0.mk (below_step HB3.out hb); clear hcv; clear hx hb hg28)
            | (go_at_call 10; (with_reducible refine (do_some _ g g28 [eR] (HL (min i 64)) (hostOf i) ⟨#[47]⟩ m 0 eR w4 HMT4.out (Lib.Below.cellOf HB4.out HME.out (Nat.le_refl _)) HXT.out (host_sz _) (by decide) (by decide) (by rw [HL_len]; omega) (by decide) (by kernel_rfl) rfl).mono ?_); rw [mM_step i HI.out, HNN.out]; rintro e5 w5 ⟨⟨vN, vT, rfl, hN, hT⟩, hmt, hfr⟩; have HNA := Aside0.mk hN; have HMT5 := Aside0.mk hmt; have HB5 := Aside0.mk (show Below w.heap.size w w5 from HB4.out.trans (hfr.bel.mono HB1.out.size)); obtain ⟨kN, cN, rfl, _⟩ := ints_at hN rfl; obtain ⟨AT, cT, rfl, _⟩ := hT; clear hmt hfr hN)
            | ((with_reducible refine gate_dst (N := 5) rfl ?_); refine box_event ?hg (N := 5) ?hd (cs := #[.slice none 0 0, .slice none 0 0]) (t := 40) ?hr ?_; (case hd => rfl); (case hg => rfl); (case hr => first | (go_simp; done) | (go_simp; rfl)); intro g5 hg5 w6 hx hb; have HX6 := Aside0.mk hx; have HMT6 := Aside0.mk (HMT5.out.step hb); have HNA6 := Aside0.mk (HNA.out.keep (fun k cs f hr => Lb.blk_below hr hb)); have HB6 := Aside0.mk (below_step HB5.out hb); have HG5 := Aside0.mk (show w.heap.size ≤ g5 by have := HB5.out.size; omega); clear hx hb hg5)
            | ((with_reducible refine gate_store (t := 40) (p := 5) rfl ?_); refine Lb.store_whole rfl rfl 40 (.tmp 5) (.tmp 30) rfl (new := #[.slice (some ⟨kN, 0, none⟩) [0, 1, 1].length cN, .slice AT (mntT eR (hostOf i) ⟨#[47]⟩ (HL (min i 64))).length cT]) rfl rfl HX6.out rfl (by kernel_rfl) (by simp [Value.oneCell']) ?_; intro w7 hb hg; have hk7 := types_blk HX6.out hg; have HMT7 := Aside0.mk (HMT6.out.other HX6.out hg (by decide) (by decide) (by decide) (by decide)); have HB7 := Aside0.mk (Lb.grown_below HB6.out hg HB6.out.size HG5.out); have d0 := (blk_cell hb 0).trans rfl; have d1 := (blk_cell hb 1).trans rfl; obtain ⟨_, _, e1, n0⟩ := ints_at (HNA6.out.keep (fun k cs f hr => hk7 _ _ _ _ (by decide) hr)) rfl; injection e1 with e1 _ _; injection e1 with e1; injection e1 with e1 _ _; subst e1; clear hk7; clear hb hg))
        go_roundg gk
        case measure => omega
        case rel => exact ⟨i + 1, by have := HEQ.out; omega, by first | rfl | (congr 1; have := HI.out; unfold wrap64; omega), HMT7, HB7⟩
      · have y64 : decide ((i : Int) < 64) = false := decide_eq_false (by omega)
        have y64n : decide (i < 64) = false := decide_eq_false h64
        have HNN : Aside0 (mntN eR (hostOf i) ⟨#[47]⟩ (HL (min i 64)) = [13]) := ⟨by rw [mN_step i HI.out, if_neg h64]⟩
        clear h64
        go_wp2_with (first
            | ((with_reducible refine gate_dst (N := 26) rfl ?_); refine Lb.alloc_event ?hg (v := fun g => .slice (some ⟨g, 0, none⟩) 2 2) (cs := #[.int .u8 97, .int .u8 (i : Int)]) (t := 5) (fr := (0, 0)) ?hr ?_; (case hg => rfl); (case hr => first | (go_simp; done) | (go_simp; rfl)); intro g26 hg26 w3 hx hb; have hcv := two_back _ g26 i (by have := HI.out; omega) hx; have HMT3 := Aside0.mk (HMT.out.step hb); have HB3 := Aside0.mk (below_step HB.out hb); clear hx hb hg26)
            | ((with_reducible refine gate_dst (N := 28) rfl ?_); refine Lb.alloc_event ?hg (v := fun g => .slice (some ⟨g, 0, none⟩) 1 1) (cs := #[.string ⟨#[47]⟩]) (t := 9) (fr := (0, 0)) ?hr ?_; (case hg => rfl); (case hr => first | (go_simp; done) | (go_simp; rfl)); intro g28 hg28 w4 hx hb; have HXT := Aside0.mk hx; have HMT4 := Aside0.mk (HMT3.out.step hb); have HB4 := Aside0.mk (below_step HB3.out hb); clear hcv; clear hx hb hg28)
            | (go_at_call 10; (with_reducible refine (do_some _ g g28 [eR] (HL (min i 64)) (hostOf i) ⟨#[47]⟩ m 0 eR w4 HMT4.out (Lib.Below.cellOf HB4.out HME.out (Nat.le_refl _)) HXT.out (host_sz _) (by decide) (by decide) (by rw [HL_len]; omega) (by decide) (by kernel_rfl) rfl).mono ?_); rw [mM_step i HI.out, HNN.out]; rintro e5 w5 ⟨⟨vN, vT, rfl, hN, hT⟩, hmt, hfr⟩; have HNA := Aside0.mk hN; have HMT5 := Aside0.mk hmt; have HB5 := Aside0.mk (show Below w.heap.size w w5 from HB4.out.trans (hfr.bel.mono HB1.out.size)); obtain ⟨kN, cN, rfl, _⟩ := ints_at hN rfl; obtain ⟨AT, cT, rfl, _⟩ := hT; clear hmt hfr hN)
            | ((with_reducible refine gate_dst (N := 5) rfl ?_); refine box_event ?hg (N := 5) ?hd (cs := #[.slice none 0 0, .slice none 0 0]) (t := 40) ?hr ?_; (case hd => rfl); (case hg => rfl); (case hr => first | (go_simp; done) | (go_simp; rfl)); intro g5 hg5 w6 hx hb; have HX6 := Aside0.mk hx; have HMT6 := Aside0.mk (HMT5.out.step hb); have HNA6 := Aside0.mk (HNA.out.keep (fun k cs f hr => Lb.blk_below hr hb)); have HB6 := Aside0.mk (below_step HB5.out hb); have HG5 := Aside0.mk (show w.heap.size ≤ g5 by have := HB5.out.size; omega); clear hx hb hg5)
            | ((with_reducible refine gate_store (t := 40) (p := 5) rfl ?_); refine Lb.store_whole rfl rfl 40 (.tmp 5) (.tmp 30) rfl (new := #[.slice (some ⟨kN, 0, none⟩) [13].length cN, .slice AT (mntT eR (hostOf i) ⟨#[47]⟩ (HL (min i 64))).length cT]) rfl rfl HX6.out rfl (by kernel_rfl) (by simp [Value.oneCell']) ?_; intro w7 hb hg; have hk7 := types_blk HX6.out hg; have HMT7 := Aside0.mk (HMT6.out.other HX6.out hg (by decide) (by decide) (by decide) (by decide)); have HB7 := Aside0.mk (Lb.grown_below HB6.out hg HB6.out.size HG5.out); have d0 := (blk_cell hb 0).trans rfl; have d1 := (blk_cell hb 1).trans rfl; obtain ⟨_, _, e1, n0⟩ := ints_at (HNA6.out.keep (fun k cs f hr => hk7 _ _ _ _ (by decide) hr)) rfl; injection e1 with e1 _ _; injection e1 with e1; injection e1 with e1 _ _; subst e1; clear hk7; clear hb hg))
        go_roundg gk
        case measure => omega
        case rel => exact ⟨i + 1, by have := HEQ.out; omega, by first | rfl | (congr 1; have := HI.out; unfold wrap64; omega), HMT7, HB7⟩

set_option maxRecDepth 100000 in
set_option maxHeartbeats 4000000 in
theorem full_in (N : Nat) (hNle : N ≤ 100) (m : Int) (w : World) (hm : w.cell? ⟨0, 0, none⟩ = some (.int .i64 m)) :
    Calls Tryz.prog 6 #[.int .i64 (N : Int)] w fun e w' => e = .returned (.bool true) ∧ Below w.heap.size w w' := by
  have HME := Aside0.mk hm
  clear hm
  have y1 : decide ((N : Int) < 0) = false := decide_eq_false (by omega)
  have y2 : decide ((100 : Int) < (N : Int)) = false := decide_eq_false (by omega)
  have y2n : decide (100 < N) = false := decide_eq_false (by omega)
  obtain ⟨L, hL⟩ : ∃ L, min (max N 1) 64 = L := ⟨_, rfl⟩
  have HLL := Aside0.mk hL
  clear hL
  go_enter Tryz.func6, Tryz.ntmps6
  go_wp2_with (first
    | (go_at_call 7; (with_reducible refine (speaks_calls m w HME.out).mono ?_); rintro e0 w0 ⟨rfl, hb⟩; have HB0 := Aside0.mk hb; clear hb)
    | ((with_reducible refine gate_dst (N := 16) rfl ?_); refine Lb.alloc_event ?hg (v := fun g => .slice (some ⟨g, 0, none⟩) 1 1) (cs := #[.string ⟨#[47]⟩, .string ⟨#[104]⟩, .slice none 0 0]) (t := 30) (fr := (0, 0)) ?hr ?_; (case hg => rfl); (case hr => first | (go_simp; done) | (go_simp; rfl)); intro g4 hg4 w1 hx hb; have HX4 := Aside0.mk hx; have HB1 := Aside0.mk (below_step HB0.out hb); clear hx hb hg4)
    | (go_at_call 8; (with_reducible refine (new_calls 0 _ [eR] w1 (exps_one _ _ HX4.out) (good1 _ _ (by decide) (by decide))).mono ?_); rintro e2 w2 ⟨⟨g, rfl, hmt⟩, hb⟩; have HMT := Aside0.mk hmt; have HB2 := Aside0.mk (below_step HB1.out hb); clear hmt hb))
  go_loopg [4] N (fun gk s4 wr => ∃ i : Nat, i + gk = N ∧ s4 = .int .i64 i ∧ Aside0 (MT w1.heap.size wr g [eR] (HL (min i 64))) ∧ Aside0 (Below w.heap.size w wr))
  case atStart => exact ⟨0, by omega, rfl, HMT, HB2⟩
  case round =>
    clear HMT HB2
    obtain ⟨i, hi, rfl, HMT, HB⟩ := hrel
    cases gk with
    | zero =>
      obtain rfl : N = i := by omega
      have hii : ¬ ((N : Int) < (N : Int)) := by omega
      have hmx : min (max (N : Int) 1) 64 = (L : Int) := by have := HLL.out; omega
      go_wp2_with (first
        | ((with_reducible refine gate_dst (N := 46) rfl ?_); refine Lb.alloc_event ?hg (v := fun g => .slice (some ⟨g, 0, none⟩) 2 2) (cs := #[.int .u8 97, .int .u8 0]) (t := 5) (fr := (0, 0)) ?hr ?_; (case hg => rfl); (case hr => first | (go_simp; done) | (go_simp; rfl)); intro g26 hg26 w3 hx hb; have hcv := two_back _ g26 0 (by decide) hx; have HMT3 := Aside0.mk (HMT.out.step hb); have HB3 := Aside0.mk (below_step HB.out hb); clear hx hb hg26)
        | ((with_reducible refine gate_dst (N := 48) rfl ?_); refine Lb.alloc_event ?hg (v := fun g => .slice (some ⟨g, 0, none⟩) 1 1) (cs := #[.string ⟨#[47]⟩]) (t := 9) (fr := (0, 0)) ?hr ?_; (case hg => rfl); (case hr => first | (go_simp; done) | (go_simp; rfl)); intro g28 hg28 w4 hx hb; have HXT := Aside0.mk hx; have HMT4 := Aside0.mk (HMT3.out.step hb); have HB4 := Aside0.mk (below_step HB3.out hb); clear hcv; clear hx hb hg28)
        | (go_at_call 10; (with_reducible refine (do_some _ g g28 [eR] (HL (min N 64)) (hostOf 0) ⟨#[47]⟩ m 0 eR w4 HMT4.out (Lib.Below.cellOf HB4.out HME.out (Nat.le_refl _)) HXT.out (host_sz _) (by decide) (by decide) (by rw [HL_len]; omega) (by decide) (by kernel_rfl) rfl).mono ?_); rw [mM_end N, mN_end N]; rintro e5 w5 ⟨⟨vN, vT, rfl, hN, hT⟩, hmt, hfr⟩; have HMT5 := Aside0.mk hmt; have HB5 := Aside0.mk (show Below w.heap.size w w5 from HB4.out.trans (hfr.bel.mono HB1.out.size)); obtain ⟨AN, cN, rfl, _⟩ := hN; obtain ⟨AT, cT, rfl, _⟩ := hT; clear hmt hfr)
        | ((with_reducible refine gate_dst (N := 6) rfl ?_); refine box_event ?hg (N := 6) ?hd (cs := #[.slice none 0 0, .slice none 0 0]) (t := 40) ?hr ?_; (case hd => rfl); (case hg => rfl); (case hr => first | (go_simp; done) | (go_simp; rfl)); intro g6 hg6 w6 hx hb; have HX6 := Aside0.mk hx; have HMT6 := Aside0.mk (HMT5.out.step hb); have HB6 := Aside0.mk (below_step HB5.out hb); have HG6 := Aside0.mk (show w.heap.size ≤ g6 by have := HB5.out.size; omega); clear hx hb hg6)
        | ((with_reducible refine gate_store (t := 40) (p := 6) rfl ?_); refine Lb.store_whole rfl rfl 40 (.tmp 6) (.tmp 50) rfl (new := #[.slice AN [0, 1, 1].length cN, .slice AT (mntT eR (hostOf 0) ⟨#[47]⟩ (HL (min N 64))).length cT]) rfl rfl HX6.out rfl (by kernel_rfl) (by simp [Value.oneCell']) ?_; intro w7 hb hg; have HMT7 := Aside0.mk (HMT6.out.other HX6.out hg (by decide) (by decide) (by decide) (by decide)); have HB7 := Aside0.mk (Lb.grown_below HB6.out hg HB6.out.size HG6.out); have d0 := (blk_cell hb 0).trans rfl; have d1 := (blk_cell hb 1).trans rfl; clear hb hg)
        | (go_at_call 13; (with_reducible refine (mounts_calls _ g [eR] _ w7 HMT7.out (by rw [HL_len]; omega)).mono ?_); rw [HL_len, HLL.out]; rintro e8 w8 ⟨rfl, rfl⟩))
      go_ret
      refine ⟨?_, HB7.out⟩
      rfl
    | succ gk =>
      have hii : (i : Int) < (N : Int) := by omega
      have hu8 : IntKind.u8.wrap (i : Int) = i := by rw [IntKind.wrap_u8]; omega
      have hu8n : (i : Int) % 256 = i := by omega
      have HI := Aside0.mk (show i < 100 by omega)
      have HEQ := Aside0.mk hi
      clear hi
      by_cases h64 : i < 64
      · have y64 : decide ((i : Int) < 64) = true := decide_eq_true (by omega)
        have y64n : decide (i < 64) = true := decide_eq_true h64
        have HNN : Aside0 (mntN eR (hostOf i) ⟨#[47]⟩ (HL (min i 64)) = [0, 1, 1]) := ⟨by rw [mN_step i HI.out, if_pos h64]⟩
        clear h64
        go_wp2_with (first
            | ((with_reducible refine gate_dst (N := 26) rfl ?_); refine Lb.alloc_event ?hg (v := fun g => .slice (some ⟨g, 0, none⟩) 2 2) (cs := #[.int .u8 97, .int .u8 (i : Int)]) (t := 5) (fr := (0, 0)) ?hr ?_; (case hg => rfl); (case hr => first | (go_simp; done) | (go_simp; rfl)); intro g26 hg26 w3 hx hb; have hcv := two_back _ g26 i (by have := HI.out; omega) hx; have HMT3 := Aside0.mk (HMT.out.step hb); have HB3 := Aside0.mk (below_step HB.out hb); clear hx hb hg26)
            | ((with_reducible refine gate_dst (N := 28) rfl ?_); refine Lb.alloc_event ?hg (v := fun g => .slice (some ⟨g, 0, none⟩) 1 1) (cs := #[.string ⟨#[47]⟩]) (t := 9) (fr := (0, 0)) ?hr ?_; (case hg => rfl); (case hr => first | (go_simp; done) | (go_simp; rfl)); intro g28 hg28 w4 hx hb; have HXT := Aside0.mk hx; have HMT4 := Aside0.mk (HMT3.out.step hb); have HB4 := Aside0.mk (below_step HB3.out hb); clear hcv; clear hx hb hg28)
            | (go_at_call 10; (with_reducible refine (do_some _ g g28 [eR] (HL (min i 64)) (hostOf i) ⟨#[47]⟩ m 0 eR w4 HMT4.out (Lib.Below.cellOf HB4.out HME.out (Nat.le_refl _)) HXT.out (host_sz _) (by decide) (by decide) (by rw [HL_len]; omega) (by decide) (by kernel_rfl) rfl).mono ?_); rw [mM_step i HI.out, HNN.out]; rintro e5 w5 ⟨⟨vN, vT, rfl, hN, hT⟩, hmt, hfr⟩; have HNA := Aside0.mk hN; have HMT5 := Aside0.mk hmt; have HB5 := Aside0.mk (show Below w.heap.size w w5 from HB4.out.trans (hfr.bel.mono HB1.out.size)); obtain ⟨kN, cN, rfl, _⟩ := ints_at hN rfl; obtain ⟨AT, cT, rfl, _⟩ := hT; clear hmt hfr hN)
            | ((with_reducible refine gate_dst (N := 5) rfl ?_); refine box_event ?hg (N := 5) ?hd (cs := #[.slice none 0 0, .slice none 0 0]) (t := 40) ?hr ?_; (case hd => rfl); (case hg => rfl); (case hr => first | (go_simp; done) | (go_simp; rfl)); intro g5 hg5 w6 hx hb; have HX6 := Aside0.mk hx; have HMT6 := Aside0.mk (HMT5.out.step hb); have HNA6 := Aside0.mk (HNA.out.keep (fun k cs f hr => Lb.blk_below hr hb)); have HB6 := Aside0.mk (below_step HB5.out hb); have HG5 := Aside0.mk (show w.heap.size ≤ g5 by have := HB5.out.size; omega); clear hx hb hg5)
            | ((with_reducible refine gate_store (t := 40) (p := 5) rfl ?_); refine Lb.store_whole rfl rfl 40 (.tmp 5) (.tmp 30) rfl (new := #[.slice (some ⟨kN, 0, none⟩) [0, 1, 1].length cN, .slice AT (mntT eR (hostOf i) ⟨#[47]⟩ (HL (min i 64))).length cT]) rfl rfl HX6.out rfl (by kernel_rfl) (by simp [Value.oneCell']) ?_; intro w7 hb hg; have hk7 := types_blk HX6.out hg; have HMT7 := Aside0.mk (HMT6.out.other HX6.out hg (by decide) (by decide) (by decide) (by decide)); have HB7 := Aside0.mk (Lb.grown_below HB6.out hg HB6.out.size HG5.out); have d0 := (blk_cell hb 0).trans rfl; have d1 := (blk_cell hb 1).trans rfl; obtain ⟨_, _, e1, n0⟩ := ints_at (HNA6.out.keep (fun k cs f hr => hk7 _ _ _ _ (by decide) hr)) rfl; injection e1 with e1 _ _; injection e1 with e1; injection e1 with e1 _ _; subst e1; clear hk7; clear hb hg))
        go_roundg gk
        case measure => omega
        case rel => exact ⟨i + 1, by have := HEQ.out; omega, by first | rfl | (congr 1; have := HI.out; unfold wrap64; omega), HMT7, HB7⟩
      · have y64 : decide ((i : Int) < 64) = false := decide_eq_false (by omega)
        have y64n : decide (i < 64) = false := decide_eq_false h64
        have HNN : Aside0 (mntN eR (hostOf i) ⟨#[47]⟩ (HL (min i 64)) = [13]) := ⟨by rw [mN_step i HI.out, if_neg h64]⟩
        clear h64
        go_wp2_with (first
            | ((with_reducible refine gate_dst (N := 26) rfl ?_); refine Lb.alloc_event ?hg (v := fun g => .slice (some ⟨g, 0, none⟩) 2 2) (cs := #[.int .u8 97, .int .u8 (i : Int)]) (t := 5) (fr := (0, 0)) ?hr ?_; (case hg => rfl); (case hr => first | (go_simp; done) | (go_simp; rfl)); intro g26 hg26 w3 hx hb; have hcv := two_back _ g26 i (by have := HI.out; omega) hx; have HMT3 := Aside0.mk (HMT.out.step hb); have HB3 := Aside0.mk (below_step HB.out hb); clear hx hb hg26)
            | ((with_reducible refine gate_dst (N := 28) rfl ?_); refine Lb.alloc_event ?hg (v := fun g => .slice (some ⟨g, 0, none⟩) 1 1) (cs := #[.string ⟨#[47]⟩]) (t := 9) (fr := (0, 0)) ?hr ?_; (case hg => rfl); (case hr => first | (go_simp; done) | (go_simp; rfl)); intro g28 hg28 w4 hx hb; have HXT := Aside0.mk hx; have HMT4 := Aside0.mk (HMT3.out.step hb); have HB4 := Aside0.mk (below_step HB3.out hb); clear hcv; clear hx hb hg28)
            | (go_at_call 10; (with_reducible refine (do_some _ g g28 [eR] (HL (min i 64)) (hostOf i) ⟨#[47]⟩ m 0 eR w4 HMT4.out (Lib.Below.cellOf HB4.out HME.out (Nat.le_refl _)) HXT.out (host_sz _) (by decide) (by decide) (by rw [HL_len]; omega) (by decide) (by kernel_rfl) rfl).mono ?_); rw [mM_step i HI.out, HNN.out]; rintro e5 w5 ⟨⟨vN, vT, rfl, hN, hT⟩, hmt, hfr⟩; have HNA := Aside0.mk hN; have HMT5 := Aside0.mk hmt; have HB5 := Aside0.mk (show Below w.heap.size w w5 from HB4.out.trans (hfr.bel.mono HB1.out.size)); obtain ⟨kN, cN, rfl, _⟩ := ints_at hN rfl; obtain ⟨AT, cT, rfl, _⟩ := hT; clear hmt hfr hN)
            | ((with_reducible refine gate_dst (N := 5) rfl ?_); refine box_event ?hg (N := 5) ?hd (cs := #[.slice none 0 0, .slice none 0 0]) (t := 40) ?hr ?_; (case hd => rfl); (case hg => rfl); (case hr => first | (go_simp; done) | (go_simp; rfl)); intro g5 hg5 w6 hx hb; have HX6 := Aside0.mk hx; have HMT6 := Aside0.mk (HMT5.out.step hb); have HNA6 := Aside0.mk (HNA.out.keep (fun k cs f hr => Lb.blk_below hr hb)); have HB6 := Aside0.mk (below_step HB5.out hb); have HG5 := Aside0.mk (show w.heap.size ≤ g5 by have := HB5.out.size; omega); clear hx hb hg5)
            | ((with_reducible refine gate_store (t := 40) (p := 5) rfl ?_); refine Lb.store_whole rfl rfl 40 (.tmp 5) (.tmp 30) rfl (new := #[.slice (some ⟨kN, 0, none⟩) [13].length cN, .slice AT (mntT eR (hostOf i) ⟨#[47]⟩ (HL (min i 64))).length cT]) rfl rfl HX6.out rfl (by kernel_rfl) (by simp [Value.oneCell']) ?_; intro w7 hb hg; have hk7 := types_blk HX6.out hg; have HMT7 := Aside0.mk (HMT6.out.other HX6.out hg (by decide) (by decide) (by decide) (by decide)); have HB7 := Aside0.mk (Lb.grown_below HB6.out hg HB6.out.size HG5.out); have d0 := (blk_cell hb 0).trans rfl; have d1 := (blk_cell hb 1).trans rfl; obtain ⟨_, _, e1, n0⟩ := ints_at (HNA6.out.keep (fun k cs f hr => hk7 _ _ _ _ (by decide) hr)) rfl; injection e1 with e1 _ _; injection e1 with e1; injection e1 with e1 _ _; subst e1; clear hk7; clear hb hg))
        go_roundg gk
        case measure => omega
        case rel => exact ⟨i + 1, by have := HEQ.out; omega, by first | rfl | (congr 1; have := HI.out; unfold wrap64; omega), HMT7, HB7⟩

theorem full_calls (n : Int) (m : Int) (w : World) (hm : w.cell? ⟨0, 0, none⟩ = some (.int .i64 m)) :
    Calls Tryz.prog 6 #[.int .i64 n] w fun e w' => e = .returned (.bool true) ∧ Below w.heap.size w w' := by
  by_cases h : n < 0
  · exact full_out n m w hm h
  · by_cases h2 : 100 < n
    · exact full_over n m w hm h h2
    · obtain ⟨N, rfl⟩ : ∃ N : Nat, n = N := ⟨n.toNat, by omega⟩
      exact full_in N (by omega) m w hm
end Go.Proofs.YthamffpieafkbaaGreatDoor.Mt
