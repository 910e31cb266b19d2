/- mount: slices.DeleteFunc of mounts. -/
import Derived.Test.YthamffpieafkbaaGreatDoorMj
namespace Go.Proofs.YthamffpieafkbaaGreatDoor.Mt
open Go.RowKit Go.Lib Go.Proofs.YthamffpieafkbaaGreatDoor.PM Go.Proofs.YthamffpieafkbaaGreatDoorW.PrintWords Go.Proofs.YthamffpieafkbaaGreatDoorW.PrintLast Go.Proofs.YthamffpieafkbaaGreatDoorW.PrintMore
set_option linter.unusedVariables false
set_option linter.unusedSimpArgs false

theorem held_zero (w : World) : (zeroValue 67).run Tryz.prog w = .ok (.agg #[.string ⟨#[]⟩, .string ⟨#[]⟩]) w := by kernel_rfl
/-- 'clear' of the end of a row of mounts -/
theorem clear_held (w : World) (k i n c : Nat) (hn : 0 < n) (row : Array Value) (hr : w.heap[k]? = some (.cells row 67 (0, 0))) (hfit : i * 2 + n * 2 ≤ row.size) :
    ∃ Z : List Value, Z.length = n * 2 ∧ ∀ ty, (Builtin.clear_ #[58] ty #[.slice (some ⟨k, i * 2, none⟩) n c]).run Tryz.prog w = .ok (.tuple #[]) (w.setCells k (i * 2) Z) := by
  refine ⟨(Builtin.zeroCells #[.string ⟨#[]⟩, .string ⟨#[]⟩] n).toList, by simp [Builtin.zeroCells], fun ty => ?_⟩
  have hst := run_storeCells_cells (P := Tryz.prog) k (i * 2) (Builtin.zeroCells #[.string ⟨#[]⟩, .string ⟨#[]⟩] n).toList 0 w (fun j hj => by
      have : j < n * 2 := by simpa [Builtin.zeroCells] using hj
      rw [blk_cell hr]
      simp only [Nat.add_zero]
      rw [Array.getElem?_eq_getElem (by omega)]
      rfl) (fun j hj => blk_frozen hr _) (fun v hv => by
      simp only [Builtin.zeroCells, Array.toList_map, List.mem_map] at hv
      obtain ⟨q, _, rfl⟩ := hv
      have hq : q % 2 < 2 := Nat.mod_lt _ (by decide)
      have : q % 2 = 0 ∨ q % 2 = 1 := by omega
      show (#[Value.string ⟨#[]⟩, .string ⟨#[]⟩][q % 2]!).oneCell' = true
      rcases this with h | h <;> rw [h] <;> rfl)
  simp only [Nat.add_zero] at hst
  obtain ⟨m, rfl⟩ : ∃ m, n = m + 1 := ⟨n - 1, by omega⟩
  simp [Builtin.clear_, run_underlying Tryz.underlying58, held_zero w, Value.cells, hst]

theorem Row.cut {w : World} {k : Nat} {M : List Held} {cap i : Nat} (h : Row w k M cap) (hi : i ≤ M.length) (Z : List Value) (hz : Z.length = (M.length - i) * 2) : Row (w.setCells k (i * 2) Z) k (M.take i) cap ∧ w.grownBy (w.setCells k (i * 2) Z) (some k) := by
  obtain ⟨row, h1, h2, h3, h4, h5⟩ := h.ex
  obtain ⟨cur', a1, a2, a3⟩ := setCells_row Z (i * 2) w row h1 (by omega)
  obtain ⟨s1, s2, s3, s4⟩ := setCells_same k Z (i * 2) w
  refine ⟨⟨cur', a1, by rw [List.length_take]; omega, h3, by omega, ?_⟩, ⟨s1, s2, s3, by rw [s4]; exact Nat.le_refl _, fun q _ hq => setCells_far Z (i * 2) q (fun e => hq (by rw [e]))⟩⟩
  have hs : row.toList.length = cap * 2 := by simpa using h4
  rw [a3, List.length_take, Nat.min_eq_left hi, List.append_assoc, List.take_append_of_le_length (by rw [List.length_take]; omega), List.take_take, Nat.min_self, ← flatM_take, ← h5, List.take_take, Nat.min_eq_left (by omega)]
structure DelRes (B : Nat) (w : World) (M' : List Held) (e : Ending) (w' : World) : Prop where
  ex : ∃ v', e = .returned v' ∧ w'.ownsRow B 67 2 v' M'.length (flatM M')
  fr : FrH B w w'

set_option maxRecDepth 100000 in
set_option maxHeartbeats 4000000 in
theorem del1_none (B : Nat) (A : Option Addr) (cap : Nat) (M : List Held) (host path : ByteArray) (gh ga kp : Nat) (w : World) (hB : B ≤ w.heap.size) (hown : w.ownsRow B 67 2 (.slice A M.length cap) M.length (flatM M)) (hA : ∀ (i : Nat) x, M[i]? = some x → ∃ k, A = some ⟨k, 0, none⟩ ∧ Row w k M cap) (h1 : w.heap[gh]? = some (.cells #[.string host] 9 (0, 0))) (h2 : w.heap[ga]? = some (.cells #[.slice none 0 0, .slice (some ⟨kp, 0, none⟩) 1 1] 40 (0, 0))) (h3 : w.heap[kp]? = some (.cells #[.string path] 9 (0, 0))) (hlen : M.length ≤ 1000000) (hix : idx (fun x : Held => (x.f0.toList == host.toList && x.f1.toList == path.toList)) M 0 = -1) :
    Calls Tryz.prog 21 #[.slice A M.length cap, .func (.func 22) #[] #[.pointer (some ⟨gh, 0, none⟩), .pointer (some ⟨ga, 0, none⟩)]] w fun e w' => DelRes B w (M.filter (fun x => !(fun x : Held => (x.f0.toList == host.toList && x.f1.toList == path.toList)) x)) e w' := by
  have HB0 := Aside0.mk hB
  have HO := Aside0.mk hown
  have HIX := Aside0.mk hix
  have HF := Aside0.mk (index1_calls A cap M host path gh ga kp w hA h1 h2 h3 hlen)
  clear hB hown hix hA hlen h1 h2 h3
  go_enter Tryz.func21, Tryz.ntmps21
  go_wp2_with (first
    | (go_at_call 39; (with_reducible refine HF.out.mono ?_); rw [HIX.out]; rintro e1 w1 ⟨rfl, hb⟩; have HB1 := Aside0.mk hb; clear hb))
  go_ret
  rw [idx_no _ M HIX.out]
  exact ⟨⟨_, rfl, own_keep HO.out (fun k cs f hr => Lb.blk_below hr HB1.out)⟩, FrH.of HB1.out HB0.out⟩

set_option maxRecDepth 100000 in
set_option maxHeartbeats 4000000 in
theorem del1_some (B k : Nat) (cap : Nat) (M : List Held) (host path : ByteArray) (gh ga kp : Nat) (w : World) (hB : B ≤ w.heap.size) (hBk : B ≤ k) (hrow : Row w k M cap) (h1 : w.heap[gh]? = some (.cells #[.string host] 9 (0, 0))) (h2 : w.heap[ga]? = some (.cells #[.slice none 0 0, .slice (some ⟨kp, 0, none⟩) 1 1] 40 (0, 0))) (h3 : w.heap[kp]? = some (.cells #[.string path] 9 (0, 0))) (hlen : M.length ≤ 1000000) (hix : idx (fun x : Held => (x.f0.toList == host.toList && x.f1.toList == path.toList)) M 0 ≠ -1) :
    Calls Tryz.prog 21 #[.slice (some ⟨k, 0, none⟩) M.length cap, .func (.func 22) #[] #[.pointer (some ⟨gh, 0, none⟩), .pointer (some ⟨ga, 0, none⟩)]] w fun e w' => DelRes B w (M.filter (fun x => !(fun x : Held => (x.f0.toList == host.toList && x.f1.toList == path.toList)) x)) e w' := by
  obtain ⟨MF, hMF⟩ : ∃ MF, M.filter (fun x => !(fun x : Held => (x.f0.toList == host.toList && x.f1.toList == path.toList)) x) = MF := ⟨_, rfl⟩
  rw [hMF]
  have HMF := Aside0.mk hMF
  clear hMF
  obtain ⟨i0, g1, g2, g3, g4⟩ := idx_spec (fun x : Held => (x.f0.toList == host.toList && x.f1.toList == path.toList)) M 0 (Int.le_refl _) hix
  rw [Int.zero_add] at g1
  have HB0 := Aside0.mk hB
  have HBK := Aside0.mk hBk
  have HR := Aside0.mk hrow
  have HLN := Aside0.mk hlen
  have H1 := Aside0.mk h1; have H2 := Aside0.mk h2; have H3 := Aside0.mk h3
  have HIX := Aside0.mk g1
  have HST := Aside0.mk (Del.start g2 g3)
  have HCAP : Aside0 (M.length ≤ cap ∧ cap ≤ maxLen) := ⟨by obtain ⟨row, _, a, b, _⟩ := hrow.ex; exact ⟨a, b⟩⟩
  have HF := Aside0.mk (index1_calls (some ⟨k, 0, none⟩) cap M host path gh ga kp w (fun i x hx => ⟨k, rfl, hrow⟩) h1 h2 h3 hlen)
  have y1 : decide ((i0 : Int) = -1) = false := decide_eq_false (by omega)
  have y2 : ((i0 : Int) == -1) = false := by rw [beq_eq_false_iff_ne]; omega
  have HI0 := Aside0.mk g2
  clear hB hBk hrow hix hlen g1 g2 g3 g4 h1 h2 h3
  go_enter Tryz.func21, Tryz.ntmps21
  go_wp2_with (first
    | (go_at_call 39; (with_reducible refine HF.out.mono ?_); rw [HIX.out]; rintro e1 w1 ⟨rfl, hb⟩; have HB1 := Aside0.mk (FrH.of hb HB0.out); have HR1 := Aside0.mk (HR.out.step hb); have HSZ := Aside0.mk hb.size; clear hb))
  go_loopg [5, 6] (M.length - (i0 + 1)) (fun gk s5 s6 wr => ∃ (i j : Nat) (cur : List Held), j + gk = M.length ∧ s5 = .int .i64 i ∧ s6 = .int .i64 j ∧ Aside0 (Del (fun x : Held => (x.f0.toList == host.toList && x.f1.toList == path.toList)) M cur i j) ∧ Aside0 (Row wr k cur cap) ∧ Aside0 (FrH B w wr) ∧ Aside0 (w.heap.size ≤ wr.heap.size))
  case atStart => exact ⟨i0, i0 + 1, M, by have := HI0.out; omega, rfl, by first | rfl | (congr 1; have := HI0.out; have := HLN.out; unfold wrap64; omega), HST, HR1, HB1, HSZ⟩
  case round =>
    clear HB1 HR1 HSZ HST y1 y2
    obtain ⟨i, j, cur, hj, rfl, rfl, HD, HR1, HB1, HSZ⟩ := hrel
    cases gk with
    | zero =>
      obtain rfl : M.length = j := by omega
      have hii : ¬ ((M.length : Int) < (M.length : Int)) := by omega
      have hi1 : i < M.length := HD.out.lt
      have hcl := HD.out.len
      have hcp := HCAP.out.1
      obtain ⟨row, r1, r2, r3, r4, r5⟩ := HR1.out.ex
      obtain ⟨Z, hz, hcr⟩ := clear_held wr k i (M.length - i) (cap - i) (by omega) row r1 (by omega)
      have HCUT := Aside0.mk (HR1.out.cut (i := i) (by omega) Z (by rw [hz, hcl]))
      have HRB : Aside0 (∃ cs f, wr.heap[k]? = some (.cells cs 67 f)) := ⟨row, (0, 0), r1⟩
      clear r1 r2 r3 r4 r5 hz hj
      go_wp2
      go_ret
      have hl : (cur.take i).length = i := by rw [List.length_take]; omega
      have hk := HD.out.kept
      rw [List.take_length] at hk
      have e : cur.take i = MF := hk.trans HMF.out
      have ho := HCUT.out.1.own HBK.out
      obtain ⟨cs, f, hr⟩ := HRB.out
      refine ⟨⟨_, rfl, ?_⟩, HB1.out.store hr HCUT.out.2 (Nat.le_trans HB0.out HSZ.out) HBK.out⟩
      rw [← e, hl]
      rw [hl] at ho
      exact ho
    | succ gk =>
      have hii : (j : Int) < (M.length : Int) := by omega
      have hlt : j < M.length := by omega
      obtain ⟨x, hx⟩ : ∃ x, x = M[j]'hlt := ⟨_, rfl⟩
      have hgx : M[j]? = some x := by rw [hx]; exact List.getElem?_eq_getElem hlt
      obtain ⟨c0, c1⟩ := HR1.out.at x (HD.out.at x hgx)
      have HGX := Aside0.mk hgx
      have HJ := Aside0.mk hj
      have HFC : Aside0 (∀ W, FrH B w W → Calls Tryz.prog 22 #[.agg #[.string x.f0, .string x.f1], .pointer (some ⟨gh, 0, none⟩), .pointer (some ⟨ga, 0, none⟩)] W fun e w' => e = .returned (.bool ((fun x : Held => (x.f0.toList == host.toList && x.f1.toList == path.toList)) x)) ∧ Below W.heap.size W w') := ⟨fun W hW => clo1_calls x.f0 x.f1 host path gh ga kp W (hW.keep _ _ _ _ (by decide) H1.out) (hW.keep _ _ _ _ (by decide) H2.out) (hW.keep _ _ _ _ (by decide) H3.out)⟩
      have hi1 : (i : Int) < (M.length : Int) := by have := HD.out.lt; omega
      have hi2 : i < M.length := by have := HD.out.lt; omega
      clear hx hgx hj hlt
      obtain ⟨bt, hbt⟩ : ∃ bt, (fun x : Held => (x.f0.toList == host.toList && x.f1.toList == path.toList)) x = bt := ⟨_, rfl⟩
      rw [hbt] at HFC
      have HBT := Aside0.mk hbt
      clear hbt
      cases bt with
      | true =>
        go_wp2_with (first
          | ((with_reducible refine gate_dst (N := 7) rfl ?_); refine box_event ?hg (N := 7) ?hd (cs := #[.string ⟨#[]⟩, .string ⟨#[]⟩]) (t := 67) ?hr ?_; (case hd => rfl); (case hg => rfl); (case hr => first | (go_simp; done) | (go_simp; rfl)); intro g7 hg7 w3 hx hb; have HX7 := Aside0.mk hx; have HR3 := Aside0.mk (HR1.out.step hb); have HB3 := Aside0.mk (HB1.out.trans (FrH.of hb (Nat.le_trans HB0.out HSZ.out))); have HN7 := Aside0.mk (show k ≠ g7 ∧ B ≤ g7 ∧ B ≤ w3.heap.size ∧ w.heap.size ≤ w3.heap.size by have := HB0.out; have := HSZ.out; have := hb.size; obtain ⟨row, r1, _⟩ := HR1.out.ex; have := blk_lt r1; omega); clear c0 c1; clear hx hb hg7)
          | ((with_reducible refine gate_store (t := 67) (p := 7) rfl ?_); refine Lb.store_whole rfl rfl 67 (.tmp 7) (.tmp 25) rfl (new := #[.string x.f0, .string x.f1]) rfl rfl HX7.out rfl (by kernel_rfl) (by simp [Value.oneCell']) ?_; intro w4 hb hg; have HX74 := Aside0.mk hb; have HB4 := Aside0.mk (HB3.out.store HX7.out hg HN7.out.2.2.1 HN7.out.2.1); have HR4 : Aside0 (Row w4 k cur cap) := ⟨by obtain ⟨row, r1, r2⟩ := HR3.out.ex; exact ⟨row, Lb.blk_grown' r1 hg HN7.out.1, r2⟩⟩; have HS4 := Aside0.mk (Nat.le_trans HN7.out.2.2.2 hg.size); have d0 := (blk_cell hb 0).trans rfl; have d1 := (blk_cell hb 1).trans rfl; clear hb hg)
          | (go_at_call 22; (with_reducible refine (HFC.out w4 HB4.out).mono ?_); rintro e5 w5 ⟨rfl, hb⟩; have HX75 := Aside0.mk (Lb.blk_below HX74.out hb); have HB5 := Aside0.mk (HB4.out.trans (FrH.of hb (Nat.le_trans HB0.out HS4.out))); have HR5 := Aside0.mk (HR4.out.step hb); have HS5 := Aside0.mk (Nat.le_trans HS4.out hb.size); clear hb d0 d1))
        go_roundg gk
        case measure => omega
        case rel => exact ⟨i, j + 1, cur, by have := HJ.out; omega, rfl, by first | rfl | (congr 1; have := HJ.out; have := HLN.out; unfold wrap64; omega), ⟨HD.out.skip x HGX.out HBT.out⟩, HR5, HB5, HS5⟩
      | false =>
        go_wp2_with (first
          | ((with_reducible refine gate_dst (N := 7) rfl ?_); refine box_event ?hg (N := 7) ?hd (cs := #[.string ⟨#[]⟩, .string ⟨#[]⟩]) (t := 67) ?hr ?_; (case hd => rfl); (case hg => rfl); (case hr => first | (go_simp; done) | (go_simp; rfl)); intro g7 hg7 w3 hx hb; have HX7 := Aside0.mk hx; have HR3 := Aside0.mk (HR1.out.step hb); have HB3 := Aside0.mk (HB1.out.trans (FrH.of hb (Nat.le_trans HB0.out HSZ.out))); have HN7 := Aside0.mk (show k ≠ g7 ∧ B ≤ g7 ∧ B ≤ w3.heap.size ∧ w.heap.size ≤ w3.heap.size by have := HB0.out; have := HSZ.out; have := hb.size; obtain ⟨row, r1, _⟩ := HR1.out.ex; have := blk_lt r1; omega); clear c0 c1; clear hx hb hg7)
          | ((with_reducible refine gate_store (t := 67) (p := 7) rfl ?_); refine Lb.store_whole rfl rfl 67 (.tmp 7) (.tmp 25) rfl (new := #[.string x.f0, .string x.f1]) rfl rfl HX7.out rfl (by kernel_rfl) (by simp [Value.oneCell']) ?_; intro w4 hb hg; have HX74 := Aside0.mk hb; have HB4 := Aside0.mk (HB3.out.store HX7.out hg HN7.out.2.2.1 HN7.out.2.1); have HR4 : Aside0 (Row w4 k cur cap) := ⟨by obtain ⟨row, r1, r2⟩ := HR3.out.ex; exact ⟨row, Lb.blk_grown' r1 hg HN7.out.1, r2⟩⟩; have HS4 := Aside0.mk (Nat.le_trans HN7.out.2.2.2 hg.size); have d0 := (blk_cell hb 0).trans rfl; have d1 := (blk_cell hb 1).trans rfl; clear hb hg)
          | (go_at_call 22; (with_reducible refine (HFC.out w4 HB4.out).mono ?_); rintro e5 w5 ⟨rfl, hb⟩; have HX75 := Aside0.mk (Lb.blk_below HX74.out hb); have HB5 := Aside0.mk (HB4.out.trans (FrH.of hb (Nat.le_trans HB0.out HS4.out))); have HR5 := Aside0.mk (HR4.out.step hb); have HS5 := Aside0.mk (Nat.le_trans HS4.out hb.size); clear hb d0 d1; have d0 := (blk_cell HX75.out 0).trans rfl; have d1 := (blk_cell HX75.out 1).trans rfl)
          | ((with_reducible refine gate_store (t := 67) (p := 33) rfl ?_); obtain ⟨row, r1, r2, r3, r4, r5⟩ := HR5.out.ex; refine Lb.store_part rfl rfl 67 (.tmp 33) (.tmp 32) rfl (g := k) (off := i * 2) (u := .agg #[.string x.f0, .string x.f1]) [.string x.f0, .string x.f1] rfl rfl rfl r1 (by kernel_rfl) (by have := HD.out.len; simp only [List.length_cons, List.length_nil]; omega) (by simp [Value.oneCell']) ?_; intro w6 cur' hb hl hg; have HR6 := Aside0.mk (Row.put (x := x) r2 r3 r4 r5 (by rw [HD.out.len]; exact hi2) hb hl); have HB6 := Aside0.mk (HB5.out.store r1 hg (Nat.le_trans HB0.out HS5.out) HBK.out); have HS6 := Aside0.mk (Nat.le_trans HS5.out hg.size); clear hb hl hg r1 r2 r3 r4 r5 d0 d1))
        go_roundg gk
        case measure => omega
        case rel => exact ⟨i + 1, j + 1, cur.set i x, by have := HJ.out; omega, by first | rfl | (congr 1; have := HLN.out; unfold wrap64; omega), by first | rfl | (congr 1; have := HJ.out; have := HLN.out; unfold wrap64; omega), ⟨HD.out.put x HGX.out HBT.out⟩, HR6, HB6, HS6⟩

set_option maxRecDepth 100000 in
set_option maxHeartbeats 4000000 in
theorem del2_none (B : Nat) (A : Option Addr) (cap : Nat) (M : List Held) (host : ByteArray) (gh : Nat) (w : World) (hB : B ≤ w.heap.size) (hown : w.ownsRow B 67 2 (.slice A M.length cap) M.length (flatM M)) (hA : ∀ (i : Nat) x, M[i]? = some x → ∃ k, A = some ⟨k, 0, none⟩ ∧ Row w k M cap) (h1 : w.heap[gh]? = some (.cells #[.string host] 9 (0, 0))) (hlen : M.length ≤ 1000000) (hix : idx (fun x : Held => (x.f0.toList == host.toList)) M 0 = -1) :
    Calls Tryz.prog 21 #[.slice A M.length cap, .func (.func 23) #[] #[.pointer (some ⟨gh, 0, none⟩)]] w fun e w' => DelRes B w (M.filter (fun x => !(fun x : Held => (x.f0.toList == host.toList)) x)) e w' := by
  have HB0 := Aside0.mk hB
  have HO := Aside0.mk hown
  have HIX := Aside0.mk hix
  have HF := Aside0.mk (index2_calls A cap M host gh w hA h1 hlen)
  clear hB hown hix hA hlen h1
  go_enter Tryz.func21, Tryz.ntmps21
  go_wp2_with (first
    | (go_at_call 39; (with_reducible refine HF.out.mono ?_); rw [HIX.out]; rintro e1 w1 ⟨rfl, hb⟩; have HB1 := Aside0.mk hb; clear hb))
  go_ret
  rw [idx_no _ M HIX.out]
  exact ⟨⟨_, rfl, own_keep HO.out (fun k cs f hr => Lb.blk_below hr HB1.out)⟩, FrH.of HB1.out HB0.out⟩

set_option maxRecDepth 100000 in
set_option maxHeartbeats 4000000 in
theorem del2_some (B k : Nat) (cap : Nat) (M : List Held) (host : ByteArray) (gh : Nat) (w : World) (hB : B ≤ w.heap.size) (hBk : B ≤ k) (hrow : Row w k M cap) (h1 : w.heap[gh]? = some (.cells #[.string host] 9 (0, 0))) (hlen : M.length ≤ 1000000) (hix : idx (fun x : Held => (x.f0.toList == host.toList)) M 0 ≠ -1) :
    Calls Tryz.prog 21 #[.slice (some ⟨k, 0, none⟩) M.length cap, .func (.func 23) #[] #[.pointer (some ⟨gh, 0, none⟩)]] w fun e w' => DelRes B w (M.filter (fun x => !(fun x : Held => (x.f0.toList == host.toList)) x)) e w' := by
  obtain ⟨MF, hMF⟩ : ∃ MF, M.filter (fun x => !(fun x : Held => (x.f0.toList == host.toList)) x) = MF := ⟨_, rfl⟩
  rw [hMF]
  have HMF := Aside0.mk hMF
  clear hMF
  obtain ⟨i0, g1, g2, g3, g4⟩ := idx_spec (fun x : Held => (x.f0.toList == host.toList)) M 0 (Int.le_refl _) hix
  rw [Int.zero_add] at g1
  have HB0 := Aside0.mk hB
  have HBK := Aside0.mk hBk
  have HR := Aside0.mk hrow
  have HLN := Aside0.mk hlen
  have H1 := Aside0.mk h1
  have HIX := Aside0.mk g1
  have HST := Aside0.mk (Del.start g2 g3)
  have HCAP : Aside0 (M.length ≤ cap ∧ cap ≤ maxLen) := ⟨by obtain ⟨row, _, a, b, _⟩ := hrow.ex; exact ⟨a, b⟩⟩
  have HF := Aside0.mk (index2_calls (some ⟨k, 0, none⟩) cap M host gh w (fun i x hx => ⟨k, rfl, hrow⟩) h1 hlen)
  have y1 : decide ((i0 : Int) = -1) = false := decide_eq_false (by omega)
  have y2 : ((i0 : Int) == -1) = false := by rw [beq_eq_false_iff_ne]; omega
  have HI0 := Aside0.mk g2
  clear hB hBk hrow hix hlen g1 g2 g3 g4 h1
  go_enter Tryz.func21, Tryz.ntmps21
  go_wp2_with (first
    | (go_at_call 39; (with_reducible refine HF.out.mono ?_); rw [HIX.out]; rintro e1 w1 ⟨rfl, hb⟩; have HB1 := Aside0.mk (FrH.of hb HB0.out); have HR1 := Aside0.mk (HR.out.step hb); have HSZ := Aside0.mk hb.size; clear hb))
  go_loopg [5, 6] (M.length - (i0 + 1)) (fun gk s5 s6 wr => ∃ (i j : Nat) (cur : List Held), j + gk = M.length ∧ s5 = .int .i64 i ∧ s6 = .int .i64 j ∧ Aside0 (Del (fun x : Held => (x.f0.toList == host.toList)) M cur i j) ∧ Aside0 (Row wr k cur cap) ∧ Aside0 (FrH B w wr) ∧ Aside0 (w.heap.size ≤ wr.heap.size))
  case atStart => exact ⟨i0, i0 + 1, M, by have := HI0.out; omega, rfl, by first | rfl | (congr 1; have := HI0.out; have := HLN.out; unfold wrap64; omega), HST, HR1, HB1, HSZ⟩
  case round =>
    clear HB1 HR1 HSZ HST y1 y2
    obtain ⟨i, j, cur, hj, rfl, rfl, HD, HR1, HB1, HSZ⟩ := hrel
    cases gk with
    | zero =>
      obtain rfl : M.length = j := by omega
      have hii : ¬ ((M.length : Int) < (M.length : Int)) := by omega
      have hi1 : i < M.length := HD.out.lt
      have hcl := HD.out.len
      have hcp := HCAP.out.1
      obtain ⟨row, r1, r2, r3, r4, r5⟩ := HR1.out.ex
      obtain ⟨Z, hz, hcr⟩ := clear_held wr k i (M.length - i) (cap - i) (by omega) row r1 (by omega)
      have HCUT := Aside0.mk (HR1.out.cut (i := i) (by omega) Z (by rw [hz, hcl]))
      have HRB : Aside0 (∃ cs f, wr.heap[k]? = some (.cells cs 67 f)) := ⟨row, (0, 0), r1⟩
      clear r1 r2 r3 r4 r5 hz hj
      go_wp2
      go_ret
      have hl : (cur.take i).length = i := by rw [List.length_take]; omega
      have hk := HD.out.kept
      rw [List.take_length] at hk
      have e : cur.take i = MF := hk.trans HMF.out
      have ho := HCUT.out.1.own HBK.out
      obtain ⟨cs, f, hr⟩ := HRB.out
      refine ⟨⟨_, rfl, ?_⟩, HB1.out.store hr HCUT.out.2 (Nat.le_trans HB0.out HSZ.out) HBK.out⟩
      rw [← e, hl]
      rw [hl] at ho
      exact ho
    | succ gk =>
      have hii : (j : Int) < (M.length : Int) := by omega
      have hlt : j < M.length := by omega
      obtain ⟨x, hx⟩ : ∃ x, x = M[j]'hlt := ⟨_, rfl⟩
      have hgx : M[j]? = some x := by rw [hx]; exact List.getElem?_eq_getElem hlt
      obtain ⟨c0, c1⟩ := HR1.out.at x (HD.out.at x hgx)
      have HGX := Aside0.mk hgx
      have HJ := Aside0.mk hj
      have HFC : Aside0 (∀ W, FrH B w W → Calls Tryz.prog 23 #[.agg #[.string x.f0, .string x.f1], .pointer (some ⟨gh, 0, none⟩)] W fun e w' => e = .returned (.bool ((fun x : Held => (x.f0.toList == host.toList)) x)) ∧ Below W.heap.size W w') := ⟨fun W hW => clo2_calls x.f0 x.f1 host gh W (hW.keep _ _ _ _ (by decide) H1.out)⟩
      have hi1 : (i : Int) < (M.length : Int) := by have := HD.out.lt; omega
      have hi2 : i < M.length := by have := HD.out.lt; omega
      clear hx hgx hj hlt
      obtain ⟨bt, hbt⟩ : ∃ bt, (fun x : Held => (x.f0.toList == host.toList)) x = bt := ⟨_, rfl⟩
      rw [hbt] at HFC
      have HBT := Aside0.mk hbt
      clear hbt
      cases bt with
      | true =>
        go_wp2_with (first
          | ((with_reducible refine gate_dst (N := 7) rfl ?_); refine box_event ?hg (N := 7) ?hd (cs := #[.string ⟨#[]⟩, .string ⟨#[]⟩]) (t := 67) ?hr ?_; (case hd => rfl); (case hg => rfl); (case hr => first | (go_simp; done) | (go_simp; rfl)); intro g7 hg7 w3 hx hb; have HX7 := Aside0.mk hx; have HR3 := Aside0.mk (HR1.out.step hb); have HB3 := Aside0.mk (HB1.out.trans (FrH.of hb (Nat.le_trans HB0.out HSZ.out))); have HN7 := Aside0.mk (show k ≠ g7 ∧ B ≤ g7 ∧ B ≤ w3.heap.size ∧ w.heap.size ≤ w3.heap.size by have := HB0.out; have := HSZ.out; have := hb.size; obtain ⟨row, r1, _⟩ := HR1.out.ex; have := blk_lt r1; omega); clear c0 c1; clear hx hb hg7)
          | ((with_reducible refine gate_store (t := 67) (p := 7) rfl ?_); refine Lb.store_whole rfl rfl 67 (.tmp 7) (.tmp 25) rfl (new := #[.string x.f0, .string x.f1]) rfl rfl HX7.out rfl (by kernel_rfl) (by simp [Value.oneCell']) ?_; intro w4 hb hg; have HX74 := Aside0.mk hb; have HB4 := Aside0.mk (HB3.out.store HX7.out hg HN7.out.2.2.1 HN7.out.2.1); have HR4 : Aside0 (Row w4 k cur cap) := ⟨by obtain ⟨row, r1, r2⟩ := HR3.out.ex; exact ⟨row, Lb.blk_grown' r1 hg HN7.out.1, r2⟩⟩; have HS4 := Aside0.mk (Nat.le_trans HN7.out.2.2.2 hg.size); have d0 := (blk_cell hb 0).trans rfl; have d1 := (blk_cell hb 1).trans rfl; clear hb hg)
          | (go_at_call 23; (with_reducible refine (HFC.out w4 HB4.out).mono ?_); rintro e5 w5 ⟨rfl, hb⟩; have HX75 := Aside0.mk (Lb.blk_below HX74.out hb); have HB5 := Aside0.mk (HB4.out.trans (FrH.of hb (Nat.le_trans HB0.out HS4.out))); have HR5 := Aside0.mk (HR4.out.step hb); have HS5 := Aside0.mk (Nat.le_trans HS4.out hb.size); clear hb d0 d1))
        go_roundg gk
        case measure => omega
        case rel => exact ⟨i, j + 1, cur, by have := HJ.out; omega, rfl, by first | rfl | (congr 1; have := HJ.out; have := HLN.out; unfold wrap64; omega), ⟨HD.out.skip x HGX.out HBT.out⟩, HR5, HB5, HS5⟩
      | false =>
        go_wp2_with (first
          | ((with_reducible refine gate_dst (N := 7) rfl ?_); refine box_event ?hg (N := 7) ?hd (cs := #[.string ⟨#[]⟩, .string ⟨#[]⟩]) (t := 67) ?hr ?_; (case hd => rfl); (case hg => rfl); (case hr => first | (go_simp; done) | (go_simp; rfl)); intro g7 hg7 w3 hx hb; have HX7 := Aside0.mk hx; have HR3 := Aside0.mk (HR1.out.step hb); have HB3 := Aside0.mk (HB1.out.trans (FrH.of hb (Nat.le_trans HB0.out HSZ.out))); have HN7 := Aside0.mk (show k ≠ g7 ∧ B ≤ g7 ∧ B ≤ w3.heap.size ∧ w.heap.size ≤ w3.heap.size by have := HB0.out; have := HSZ.out; have := hb.size; obtain ⟨row, r1, _⟩ := HR1.out.ex; have := blk_lt r1; omega); clear c0 c1; clear hx hb hg7)
          | ((with_reducible refine gate_store (t := 67) (p := 7) rfl ?_); refine Lb.store_whole rfl rfl 67 (.tmp 7) (.tmp 25) rfl (new := #[.string x.f0, .string x.f1]) rfl rfl HX7.out rfl (by kernel_rfl) (by simp [Value.oneCell']) ?_; intro w4 hb hg; have HX74 := Aside0.mk hb; have HB4 := Aside0.mk (HB3.out.store HX7.out hg HN7.out.2.2.1 HN7.out.2.1); have HR4 : Aside0 (Row w4 k cur cap) := ⟨by obtain ⟨row, r1, r2⟩ := HR3.out.ex; exact ⟨row, Lb.blk_grown' r1 hg HN7.out.1, r2⟩⟩; have HS4 := Aside0.mk (Nat.le_trans HN7.out.2.2.2 hg.size); have d0 := (blk_cell hb 0).trans rfl; have d1 := (blk_cell hb 1).trans rfl; clear hb hg)
          | (go_at_call 23; (with_reducible refine (HFC.out w4 HB4.out).mono ?_); rintro e5 w5 ⟨rfl, hb⟩; have HX75 := Aside0.mk (Lb.blk_below HX74.out hb); have HB5 := Aside0.mk (HB4.out.trans (FrH.of hb (Nat.le_trans HB0.out HS4.out))); have HR5 := Aside0.mk (HR4.out.step hb); have HS5 := Aside0.mk (Nat.le_trans HS4.out hb.size); clear hb d0 d1; have d0 := (blk_cell HX75.out 0).trans rfl; have d1 := (blk_cell HX75.out 1).trans rfl)
          | ((with_reducible refine gate_store (t := 67) (p := 33) rfl ?_); obtain ⟨row, r1, r2, r3, r4, r5⟩ := HR5.out.ex; refine Lb.store_part rfl rfl 67 (.tmp 33) (.tmp 32) rfl (g := k) (off := i * 2) (u := .agg #[.string x.f0, .string x.f1]) [.string x.f0, .string x.f1] rfl rfl rfl r1 (by kernel_rfl) (by have := HD.out.len; simp only [List.length_cons, List.length_nil]; omega) (by simp [Value.oneCell']) ?_; intro w6 cur' hb hl hg; have HR6 := Aside0.mk (Row.put (x := x) r2 r3 r4 r5 (by rw [HD.out.len]; exact hi2) hb hl); have HB6 := Aside0.mk (HB5.out.store r1 hg (Nat.le_trans HB0.out HS5.out) HBK.out); have HS6 := Aside0.mk (Nat.le_trans HS5.out hg.size); clear hb hl hg r1 r2 r3 r4 r5 d0 d1))
        go_roundg gk
        case measure => omega
        case rel => exact ⟨i + 1, j + 1, cur.set i x, by have := HJ.out; omega, by first | rfl | (congr 1; have := HLN.out; unfold wrap64; omega), by first | rfl | (congr 1; have := HJ.out; have := HLN.out; unfold wrap64; omega), ⟨HD.out.put x HGX.out HBT.out⟩, HR6, HB6, HS6⟩
end Go.Proofs.YthamffpieafkbaaGreatDoor.Mt
