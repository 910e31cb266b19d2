/- The document's Drop. The document's Drop: a segment is dropped. The document's log beside the log itself, plainly: what Append and Drop come to. The log's Append, Drop and Open where the power does not go off: what each comes to, by the checkpoint alone. The document's Append and Drop, by the checkpoint alone; what the two logs leave alone of each other. The log's readings beside the document's: same, records. The law's own list of records; records. -/
import Derived.Test.YtfiocakhgpdlfaaDoorG58
namespace Go.Proofs.YtfiocakhgpdlfaaDoor.Sg
open Go.RowKit Go.Lib Go.Proofs.YtfiocakhgpdlfaaDoor.Ap Go.Proofs.YtfiocakhgpdlfaaDoorW.PrintWords Go.Proofs.YtfiocakhgpdlfaaDoorW.PrintLast Go.Proofs.YtfiocakhgpdlfaaDoorW.PrintMore
set_option linter.unusedVariables false
set_option linter.unusedSimpArgs false

theorem own_lower {w : World} {B B' e n sz : Nat} {v : Value} {xs : List Value} (h : w.ownsRow B e sz v n xs) (hb : B' ≤ B) : w.ownsRow B' e sz v n xs := by
  obtain ⟨h1, h2⟩ := h
  refine ⟨h1, ?_⟩
  rcases h2 with h2 | ⟨k, cap, row, e2, hge, rest⟩
  · exact .inl h2
  · exact .inr ⟨k, cap, row, e2, Nat.le_trans hb hge, rest⟩
theorem IntsR.front {B : Nat} {w : World} {k n cap : Nat} {l : List Int} (h : IntsR B w (.slice (some ⟨k, 0, none⟩) n cap) l) (i : Nat) (hi : i ≤ l.length) (h9 : l.length ≤ 1000) : ReadsInt w .i64 (some ⟨k, 0, none⟩) i (l.take i) := by
  refine ⟨by rw [List.length_take]; omega, by omega, fun _ => ⟨_, rfl, fun j hj => ?_⟩⟩
  obtain ⟨k', cap', e, _, q⟩ := h.at j l[j] (List.getElem?_eq_getElem (by omega))
  injection e with e1 _ _
  injection e1 with e1
  injection e1 with e1 _ _
  subst e1
  have ha : (⟨k, 0, none⟩ : Addr).add j = ⟨k, j, none⟩ := by unfold Addr.add; split <;> simp_all
  rw [ha, q, List.getD_eq_getElem?_getD, List.getElem?_take, if_pos hj, List.getElem?_eq_getElem (by omega)]
  rfl
theorem IntsR.behind {B : Nat} {w : World} {k n cap : Nat} {l : List Int} (h : IntsR B w (.slice (some ⟨k, 0, none⟩) n cap) l) (i m : Nat) (hi : i + m = l.length) (h9 : l.length ≤ 1000) : ReadsInt w .i64 (some ⟨k, i, none⟩) m (l.drop i) := by
  refine ⟨by rw [List.length_drop]; omega, by omega, fun _ => ⟨_, rfl, fun j hj => ?_⟩⟩
  obtain ⟨k', cap', e, _, q⟩ := h.at (i + j) l[i + j] (List.getElem?_eq_getElem (by omega))
  injection e with e1 _ _
  injection e1 with e1
  injection e1 with e1 _ _
  subst e1
  have ha : (⟨k, i, none⟩ : Addr).add j = ⟨k, i + j, none⟩ := by unfold Addr.add; split <;> simp_all
  rw [ha, q, List.getD_eq_getElem?_getD, List.getElem?_drop, List.getElem?_eq_getElem (by omega)]
  rfl

set_option maxRecDepth 100000 in
/-- none of the segments but perhaps the last one -/
theorem rdrop_no (B g : Nat) (R : Rl) (VI VU : Value) (id : Int) (w : World) (hl : RRaw B w g R VI VU) (hn : R.ids.length ≤ 64) (h1 : 1 ≤ R.ids.length) (hno : ∀ i, i + 1 < R.ids.length → R.ids[i]? ≠ some id) :
    Calls Tryd.prog 24 #[.pointer (some ⟨g, 0, none⟩), .int .i64 id] w fun e w' => e = .returned (.int .i64 1) ∧ w = w' := by
  obtain ⟨S, ids, used, seq, boot, serial⟩ := R
  obtain ⟨A, cI, rfl, _⟩ := own_slice hl.ids
  obtain ⟨c0, c1, -, -, -, -⟩ := hl.cells
  simp only at c0 c1 hn h1 hno ⊢
  obtain ⟨n, hn'⟩ : ∃ n, n + 1 = ids.length := ⟨ids.length - 1, by omega⟩
  have HI : Aside0 (IntsR B w (.slice A ids.length cI) ids) := ⟨hl.ids⟩
  rw [← hn'] at c1
  have HN := Aside0.mk hn'
  have HNO := Aside0.mk hno
  have hnI : (n : Int) ≤ 64 := by omega
  clear hl hn hn' h1 hno
  go_enter Tryd.func24, Tryd.ntmps24
  go_wp2
  go_loopg [5] n (fun gk s5 wr => ∃ i : Nat, i + gk = n ∧ s5 = .int .i64 i ∧ w = wr)
  case atStart => exact ⟨0, by omega, rfl, rfl⟩
  case round =>
    obtain ⟨i, hi, rfl, rfl⟩ := hrel
    cases gk with
    | zero =>
      obtain rfl : i = n := by omega
      have hii : ¬ ((i : Int) < (i : Int)) := by omega
      go_wp2
      go_ret
      exact ⟨rfl, rfl⟩
    | succ gk =>
      have hii : (i : Int) < (n : Int) := by omega
      have hlt : i < ids.length := by have := HN.out; omega
      obtain ⟨x, hx⟩ : ∃ x, ids[i]? = some x := ⟨_, List.getElem?_eq_getElem hlt⟩
      have hxi : x ≠ id := fun e => HNO.out i (by have := HN.out; omega) (by rw [hx, e])
      have hxi0 : (x == id) = false := by simpa using hxi
      have h1i : (i : Int) < (n : Int) + 1 := by omega
      obtain ⟨k, c2, hA, _, p0⟩ := HI.out.at i x hx
      injection hA with hA1 _ _
      subst hA1
      have HJ := Aside0.mk hi
      clear hi hlt hx
      go_wp2
      go_roundg gk
      case measure => omega
      case rel => exact ⟨i + 1, by have := HJ.out; omega, by go_num, rfl⟩
end Go.Proofs.YtfiocakhgpdlfaaDoor.Sg

namespace Go.Proofs.YtfiocakhgpdlfaaDoor.Sg
open Go.RowKit Go.Lib Go.Proofs.YtfiocakhgpdlfaaDoor.Ap Go.Proofs.YtfiocakhgpdlfaaDoorW.PrintWords Go.Proofs.YtfiocakhgpdlfaaDoorW.PrintLast Go.Proofs.YtfiocakhgpdlfaaDoorW.PrintMore
set_option linter.unusedVariables false
set_option linter.unusedSimpArgs false

theorem own_nil (w : World) (B : Nat) : w.ownsRow B 3 1 (.slice none 0 0) ([] : List Int).length (nums .i64 []) := ⟨rfl, .inl ⟨rfl, rfl⟩⟩
/-- what is known behind the two fronts -/
structure RD (B : Nat) (w w2 : World) (g : Nat) (R : Rl) (VI VU v1 v2 : Value) (i : Nat) : Prop where
  log : RRaw B w g R VI VU
  bel : Below w.heap.size w w2
  a : w2.ownsRow w.heap.size 3 1 v1 (R.ids.take i).length (nums .i64 (R.ids.take i))
  b : w2.ownsRow w.heap.size 3 1 v2 (R.used.take i).length (nums .i64 (R.used.take i))
  ne : ∀ k, v1.ownBlock = some k → v2.ownBlock ≠ some k
  lt : ∀ k, v2.ownBlock = some k → k < w2.heap.size
variable {B g i : Nat} {w w1 w2 w3 w4 w5 w6 : World} {R : Rl} {VI VU v1 v2 v3 v4 : Value}
theorem RD.mk2 (hl : RRaw B w g R VI VU) (ha : w1.ownsRow w.heap.size 3 1 v1 ([] ++ R.ids.take i).length (nums .i64 ([] ++ R.ids.take i))) (hb1 : Below w.heap.size w w1)
    (hb : w2.ownsRow w.heap.size 3 1 v2 ([] ++ R.used.take i).length (nums .i64 ([] ++ R.used.take i))) (hb2 : Below w.heap.size w w2) (hg : w1.grownBy w2 (Value.slice none 0 0).ownBlock) (hat : v2.ownBlock = (Value.slice none 0 0).ownBlock ∨ ∃ b, v2.ownBlock = some b ∧ w1.heap.size ≤ b) : RD B w w2 g R VI VU v1 v2 i :=
  ⟨hl, hb2, own_far ha hg (fun k _ e => by cases e), hb, fun k h1 h2 => by
    have := (own_lt ha k h1).2
    rcases hat with h | ⟨b, h, hle⟩
    · rw [h] at h2; cases h2
    · rw [h] at h2; injection h2 with h2; omega, fun k hk => (own_lt hb k hk).2⟩
theorem RD.nil (hl : RRaw B w g R VI VU) : RD B w w g R VI VU (.slice none 0 0) (.slice none 0 0) 0 := ⟨hl, Below.refl _ _, own_nil _ _, own_nil _ _, fun k h => absurd h (fun h => nomatch h), fun k h => absurd h (fun h => nomatch h)⟩
/-- behind the third append and its store -/
structure RE (B : Nat) (w w4 : World) (g : Nat) (R : Rl) (ids' : List Int) (VU v3 v2 : Value) (i : Nat) : Prop where
  log : RRaw B w4 g { R with ids := ids' } v3 VU
  fr : FrR B w w4
  b : w4.ownsRow B 3 1 v2 (R.used.take i).length (nums .i64 (R.used.take i))
  ne : ∀ k, v3.ownBlock = some k → v2.ownBlock ≠ some k
  le : B ≤ w4.heap.size
theorem RD.third (h : RD B w w2 g R VI VU v1 v2 i) (hle : B ≤ w.heap.size) (ho : w3.ownsRow w.heap.size 3 1 v3 (R.ids.take i ++ R.ids.drop (i + 1)).length (nums .i64 (R.ids.take i ++ R.ids.drop (i + 1)))) (hb : Below w.heap.size w w3) (hg : w2.grownBy w3 v1.ownBlock)
    (hat : v3.ownBlock = v1.ownBlock ∨ ∃ b, v3.ownBlock = some b ∧ w2.heap.size ≤ b) : w3.heap[g]? = some (.cells #[.int .i64 R.segs, VI, VU, .int .i64 R.seq, .int .i64 R.boot, .int .i64 R.serial] 57 (0, 0)) ∧
    ∀ w4 : World, w4.heap[g]? = some (.cells #[.int .i64 R.segs, v3, VU, .int .i64 R.seq, .int .i64 R.boot, .int .i64 R.serial] 57 (0, 0)) → w3.grownBy w4 (some g) → RE B w w4 g R (R.ids.take i ++ R.ids.drop (i + 1)) VU v3 v2 i := by
  have hL := h.log.step hb
  refine ⟨hL.blk, fun w4 hw hs => ?_⟩
  have hk2 := types_blk hL.blk hs
  have hbb := own_far h.b hg (fun k hk e => h.ne k e hk)
  refine ⟨⟨hw, own_keep (own_lower ho hle) (fun k cs f hr => hk2 _ _ _ _ (by decide) hr), own_keep hL.used (fun k cs f hr => hk2 _ _ _ _ (by decide) hr), hL.ge, fun k hk e => ?_⟩, (FrR.of hb hle).trans (FrR.blk hL.blk hs hL.ge (.inr rfl)), own_keep (own_lower hbb hle) (fun k cs f hr => hk2 _ _ _ _ (by decide) hr), fun k hk e => ?_, ?_⟩
  · have h1 := (own_lt ho k hk).1
    have h2 := (own_lt h.log.used k e).2
    omega
  · rcases hat with hat | ⟨b, hb', hle'⟩
    · exact h.ne k (by rw [← hat]; exact hk) e
    · have := h.lt k e
      rw [hb'] at hk; injection hk with hk; omega
  · have := hb.size; have := hs.size; omega
theorem RE.last {ids' : List Int} (h : RE B w w4 g R ids' VU v3 v2 i) (ho : w5.ownsRow B 3 1 v4 (R.used.take i ++ R.used.drop (i + 1)).length (nums .i64 (R.used.take i ++ R.used.drop (i + 1)))) (hg : w4.grownBy w5 v2.ownBlock)
    (hat : v4.ownBlock = v2.ownBlock ∨ ∃ b, v4.ownBlock = some b ∧ w4.heap.size ≤ b) : w5.heap[g]? = some (.cells #[.int .i64 R.segs, v3, VU, .int .i64 R.seq, .int .i64 R.boot, .int .i64 R.serial] 57 (0, 0)) ∧
    ∀ w6 : World, w6.heap[g]? = some (.cells #[.int .i64 R.segs, v3, v4, .int .i64 R.seq, .int .i64 R.boot, .int .i64 R.serial] 57 (0, 0)) → w5.grownBy w6 (some g) → RRaw B w6 g { R with ids := ids', used := R.used.take i ++ R.used.drop (i + 1) } v3 v4 ∧ FrR B w w6 := by
  have hk1 := types_of_grown h.b hg
  have hb1 := hk1 _ _ _ _ (by decide) h.log.blk
  refine ⟨hb1, fun w6 hw hs => ?_⟩
  have hk2 := types_blk hb1 hs
  have hF1 : FrR B w4 w5 := ⟨below_of_grown h.b (Below.refl B w4) h.le hg, fun k cs t' f hk hne _ => hk1 k cs t' f hne hk⟩
  refine ⟨⟨hw, own_keep (own_far h.log.ids hg (fun k hk e => h.ne k hk e)) (fun k cs f hr => hk2 _ _ _ _ (by decide) hr), own_keep ho (fun k cs f hr => hk2 _ _ _ _ (by decide) hr), h.log.ge, fun k hk e => ?_⟩, h.fr.trans (hF1.trans (FrR.blk hb1 hs h.log.ge (.inr rfl)))⟩
  rcases hat with hat | ⟨b, hb', hle'⟩
  · exact h.ne k hk (by rw [← hat]; exact e)
  · have := (own_lt h.log.ids k hk).2
    rw [hb'] at e; injection e with e; omega

theorem int_info8 : ((Tryd.prog).info? 3).map (fun i => (i.zero, i.size, i.bytes)) = some (some (.int .i64 0), 1, 8) := by kernel_rfl

set_option maxRecDepth 100000 in
set_option maxHeartbeats 4000000 in
/-- the segment at i -/
theorem rdrop_yes (B g : Nat) (R : Rl) (VI VU : Value) (id : Int) (i0 : Nat) (w : World) (hl : RRaw B w g R VI VU) (hle : B ≤ w.heap.size) (hn : R.ids.length ≤ 64) (hu : R.used.length = R.ids.length) (h0 : i0 + 1 < R.ids.length) (hid : R.ids[i0]? = some id) (hno : ∀ i, i < i0 → R.ids[i]? ≠ some id) :
    Calls Tryd.prog 24 #[.pointer (some ⟨g, 0, none⟩), .int .i64 id] w fun e w' => e = .returned (.int .i64 0) ∧ ∃ VI' VU', RRaw B w' g { R with ids := R.ids.take i0 ++ R.ids.drop (i0 + 1), used := R.used.take i0 ++ R.used.drop (i0 + 1) } VI' VU' ∧ FrR B w w' := by
  obtain ⟨kI, cI, rfl, -, -⟩ := hl.ids.at 0 _ (List.getElem?_eq_getElem (show 0 < R.ids.length by omega))
  obtain ⟨kU, cU, rfl, -, -⟩ := hl.used.at 0 _ (List.getElem?_eq_getElem (show 0 < R.used.length by omega))
  have HL := Aside0.mk hl
  have hcI : R.ids.length ≤ cI := by obtain ⟨A, c, e, h⟩ := own_slice hl.ids; injection e with _ _ e; omega
  have hcU : R.ids.length ≤ cU := by obtain ⟨A, c, e, h⟩ := own_slice hl.used; injection e with _ _ e; omega
  obtain ⟨c0, c1, c2, -, -, -⟩ := hl.cells
  obtain ⟨n, hn'⟩ : ∃ n, n + 1 = R.ids.length := ⟨R.ids.length - 1, by omega⟩
  rw [hu, ← hn'] at c2
  rw [← hn'] at c1
  have HN := Aside0.mk hn'
  have HU := Aside0.mk hu
  have HNO := Aside0.mk hno
  have HID := Aside0.mk hid
  have HLE := Aside0.mk hle
  have HN64 : Aside0 (R.ids.length ≤ 64) := ⟨hn⟩
  have hnI : (n : Int) ≤ 64 := by omega
  have HIN : Aside0 (i0 < n) := ⟨by omega⟩
  have hcI2 : (n : Int) + 1 ≤ (cI : Int) := by omega
  have hcU2 : (n : Int) + 1 ≤ (cU : Int) := by omega
  clear hl hle hn hn' hu h0 hid hno hcI hcU
  go_enter Tryd.func24, Tryd.ntmps24
  go_wp2
  go_loopg [5] n (fun gk s5 wr => ∃ i : Nat, i + gk = n ∧ s5 = .int .i64 i ∧ w = wr ∧ Aside0 (i ≤ i0))
  case atStart => exact ⟨0, by omega, rfl, rfl, ⟨by omega⟩⟩
  case round =>
    obtain ⟨i, hi, rfl, rfl, HLT⟩ := hrel
    cases gk with
    | zero => exact absurd HLT.out (by have := HIN.out; omega)
    | succ gk =>
      have hii : (i : Int) < (n : Int) := by omega
      have h1i : (i : Int) < (n : Int) + 1 := by omega
      have hlt : i < R.ids.length := by have := HN.out; omega
      obtain ⟨x, hx⟩ : ∃ x, R.ids[i]? = some x := ⟨_, List.getElem?_eq_getElem hlt⟩
      obtain ⟨k, c3, hA, _, p0⟩ := HL.out.ids.at i x hx
      injection hA with hA1 _ _
      injection hA1 with hA1
      injection hA1 with hA1 _ _
      subst hA1
      have HJ := Aside0.mk hi
      by_cases he : i = i0
      · subst he
        have hxi0 : (x == id) = true := by have := HID.out; rw [hx] at this; injection this with this; simpa using this
        have hicI : (i : Int) ≤ (cI : Int) := by omega
        have hicU : (i : Int) ≤ (cU : Int) := by omega
        have hin1 : (i : Int) + 1 ≤ (n : Int) + 1 := by omega
        have hi64 : (i : Int) ≤ 64 := by omega
        have HII := HIN.out
        clear hi hlt hx
        rcases i with _ | j
        · have HJN : Aside0 (0 < n) := ⟨HII⟩
          have hj3 : (1 : Int) ≤ (n : Int) + 1 := by omega
          have hj4 : (0 : Int) + 1 ≤ (n : Int) + 1 := by omega
          have hj5 : (0 : Int) ≤ (n : Int) + 1 := by omega
          clear HII
          have HD : Aside0 (RD B w w g R (.slice (some ⟨kI, 0, none⟩) R.ids.length cI) (.slice (some ⟨kU, 0, none⟩) R.used.length cU) (.slice none 0 0) (.slice none 0 0) 0) := ⟨RD.nil HL.out⟩
          have HL2 := HL
          go_wp2_with (first
            | (at_builtin; refine print_append_row (w0 := w) w.heap.size rfl (.tmp 44) (.tmp 51) 55 3 .i64 8 rfl Tryd.underlying55 int_info8 (by decide) _ (R.ids.take 0) (R.ids.drop (0 + 1)) _ _ _ rfl rfl HD.out.a (HL2.out.ids.behind _ _ (by have := HN.out; have := HJN.out; have := HU.out; omega) (by have := HN64.out; have := HU.out; omega)) HD.out.bel HD.out.bel.size (by simp; omega) ?_; intro v3 w3 ho hb hg hat; have HO := Aside0.mk ho; have HT := Aside0.mk (HD.out.third HLE.out ho hb hg hat); clear ho hb hg hat c1 c2)
            | ((with_reducible refine gate_store (t := 55) (p := 54) rfl ?_); refine Lb.store_one rfl rfl 55 (.tmp 54) (.tmp 52) rfl (g := g) (off := 1) (u := v3) rfl rfl (own_cells HO.out).1 (own_cells HO.out).2 HT.out.1 (by kernel_rfl) (show 1 < 6 by decide) ?_; intro w4 hb hg; have HE := Aside0.mk (HT.out.2 w4 hb hg); clear hb hg HO HT; obtain ⟨-, -, c2, -, -, -⟩ := HE.out.log.cells; rw [HU.out, ← HN.out] at c2)
            | (at_builtin; refine print_append_row (w0 := w) B rfl (.tmp 56) (.tmp 63) 55 3 .i64 8 rfl Tryd.underlying55 int_info8 (by decide) _ (R.used.take 0) (R.used.drop (0 + 1)) _ _ _ rfl rfl HE.out.b (IntsR.behind (l := R.used) HE.out.log.used _ _ (by have := HN.out; have := HJN.out; have := HU.out; omega) (by have := HN64.out; have := HU.out; omega)) HE.out.fr.bel HE.out.le (by simp; omega) ?_; intro v4 w5 ho hb hg hat; have HO := Aside0.mk ho; have HT := Aside0.mk (HE.out.last ho hg hat); clear ho hb hg hat c2)
            | ((with_reducible refine gate_store (t := 55) (p := 66) rfl ?_); refine Lb.store_one rfl rfl 55 (.tmp 66) (.tmp 64) rfl (g := g) (off := 2) (u := v4) rfl rfl (own_cells HO.out).1 (own_cells HO.out).2 HT.out.1 (by kernel_rfl) (show 2 < 6 by decide) ?_; intro w6 hb hg; have HF := Aside0.mk (HT.out.2 w6 hb hg); clear hb hg))
          go_ret
          exact ⟨rfl, ⟨v3, v4, by simpa using HF.out.1⟩, HF.out.2⟩
        · have HJN : Aside0 (j + 1 < n) := ⟨HII⟩
          have hj64 : (j : Int) + 1 ≤ 64 := by omega
          have hj1 : (j : Int) + 1 ≤ (cI : Int) := by omega
          have hj2 : (j : Int) + 1 ≤ (cU : Int) := by omega
          have hj3 : (j : Int) + 1 + 1 ≤ (n : Int) + 1 := by omega
          clear HII
          go_wp2_with (first
            | (at_builtin; refine print_append_row (w0 := w) w.heap.size rfl (.tmp 27) (.tmp 33) 55 3 .i64 8 rfl Tryd.underlying55 int_info8 (by decide) _ [] (R.ids.take (j + 1)) _ _ _ rfl rfl (own_nil _ _) (HL.out.ids.front _ (by have := HN.out; have := HJN.out; have := HU.out; omega) (by have := HN64.out; have := HU.out; omega)) (Below.refl _ _) (Nat.le_refl _) (by simp; omega) ?_; intro v1 w1 ho hb hg hat; have HA := Aside0.mk (And.intro ho hb); have HL1 := Aside0.mk (HL.out.step hb); clear ho hb hg hat c1 c2 p0; obtain ⟨-, c1, c2, -, -, -⟩ := HL1.out.cells; rw [HU.out, ← HN.out] at c2; rw [← HN.out] at c1)
            | (at_builtin; refine print_append_row (w0 := w) w.heap.size rfl (.tmp 35) (.tmp 41) 55 3 .i64 8 rfl Tryd.underlying55 int_info8 (by decide) _ [] (R.used.take (j + 1)) _ _ _ rfl rfl (own_nil _ _) (HL1.out.used.front _ (by have := HN.out; have := HJN.out; have := HU.out; omega) (by have := HN64.out; have := HU.out; omega)) HA.out.2 HA.out.2.size (by simp; omega) ?_; intro v2 w2 ho hb hg hat; have HD := Aside0.mk (RD.mk2 HL.out HA.out.1 HA.out.2 ho hb hg hat); have HL2 := Aside0.mk (HL.out.step hb); clear ho hb hg hat c1 c2; obtain ⟨-, c1, c2, -, -, -⟩ := HL2.out.cells; rw [HU.out, ← HN.out] at c2; rw [← HN.out] at c1)
            | (at_builtin; refine print_append_row (w0 := w) w.heap.size rfl (.tmp 44) (.tmp 51) 55 3 .i64 8 rfl Tryd.underlying55 int_info8 (by decide) _ (R.ids.take (j + 1)) (R.ids.drop (j + 1 + 1)) _ _ _ rfl rfl HD.out.a (HL2.out.ids.behind _ _ (by have := HN.out; have := HJN.out; have := HU.out; omega) (by have := HN64.out; have := HU.out; omega)) HD.out.bel HD.out.bel.size (by simp; omega) ?_; intro v3 w3 ho hb hg hat; have HO := Aside0.mk ho; have HT := Aside0.mk (HD.out.third HLE.out ho hb hg hat); clear ho hb hg hat c1 c2)
            | ((with_reducible refine gate_store (t := 55) (p := 54) rfl ?_); refine Lb.store_one rfl rfl 55 (.tmp 54) (.tmp 52) rfl (g := g) (off := 1) (u := v3) rfl rfl (own_cells HO.out).1 (own_cells HO.out).2 HT.out.1 (by kernel_rfl) (show 1 < 6 by decide) ?_; intro w4 hb hg; have HE := Aside0.mk (HT.out.2 w4 hb hg); clear hb hg HO HT; obtain ⟨-, -, c2, -, -, -⟩ := HE.out.log.cells; rw [HU.out, ← HN.out] at c2)
            | (at_builtin; refine print_append_row (w0 := w) B rfl (.tmp 56) (.tmp 63) 55 3 .i64 8 rfl Tryd.underlying55 int_info8 (by decide) _ (R.used.take (j + 1)) (R.used.drop (j + 1 + 1)) _ _ _ rfl rfl HE.out.b (IntsR.behind (l := R.used) HE.out.log.used _ _ (by have := HN.out; have := HJN.out; have := HU.out; omega) (by have := HN64.out; have := HU.out; omega)) HE.out.fr.bel HE.out.le (by simp; omega) ?_; intro v4 w5 ho hb hg hat; have HO := Aside0.mk ho; have HT := Aside0.mk (HE.out.last ho hg hat); clear ho hb hg hat c2)
            | ((with_reducible refine gate_store (t := 55) (p := 66) rfl ?_); refine Lb.store_one rfl rfl 55 (.tmp 66) (.tmp 64) rfl (g := g) (off := 2) (u := v4) rfl rfl (own_cells HO.out).1 (own_cells HO.out).2 HT.out.1 (by kernel_rfl) (show 2 < 6 by decide) ?_; intro w6 hb hg; have HF := Aside0.mk (HT.out.2 w6 hb hg); clear hb hg))
          go_ret
          exact ⟨rfl, ⟨v3, v4, HF.out.1⟩, HF.out.2⟩
      · have hxi : x ≠ id := fun e => HNO.out i (by have := HLT.out; omega) (by rw [hx, e])
        have hxi0 : (x == id) = false := by simpa using hxi
        have HLT2 : Aside0 (i + 1 ≤ i0) := ⟨by have := HLT.out; omega⟩
        clear hi hlt hx he hxi
        go_wp2
        go_roundg gk
        case measure => omega
        case rel => exact ⟨i + 1, by have := HJ.out; omega, by go_num, rfl, HLT2⟩
end Go.Proofs.YtfiocakhgpdlfaaDoor.Sg

namespace Go.Proofs.YtfiocakhgpdlfaaDoor.Sg
open Go.RowKit Go.Lib Go.Proofs.YtfiocakhgpdlfaaDoor.Ap Go.Proofs.YtfiocakhgpdlfaaDoorW.PrintWords Go.Proofs.YtfiocakhgpdlfaaDoorW.PrintLast Go.Proofs.YtfiocakhgpdlfaaDoorW.PrintMore
set_option linter.unusedVariables false
set_option linter.unusedSimpArgs false

def idsOf (l : List Seg) : List Int := l.map fun s => (s.id : Int)
def usedOf (l : List Seg) : List Int := l.map fun s => (s.used : Int)
/-- the document's log of a checkpoint -/
def rlOf (S : Nat) (c : Cp) : Rl := ⟨S, idsOf c.segs, usedOf c.segs, c.seq, c.boot, 0⟩
theorem idsOf_len (l : List Seg) : (idsOf l).length = l.length := by simp [idsOf]
theorem usedOf_len (l : List Seg) : (usedOf l).length = l.length := by simp [usedOf]
theorem idsOf_app (a b : List Seg) : idsOf (a ++ b) = idsOf a ++ idsOf b := by simp [idsOf]
theorem usedOf_app (a b : List Seg) : usedOf (a ++ b) = usedOf a ++ usedOf b := by simp [usedOf]
theorem ids_contains (l : List Seg) (i : Nat) : (idsOf l).contains (i : Int) = l.any (fun s => s.id == i) := by
  induction l with
  | nil => rfl
  | cons a r ih =>
    have e : idsOf (a :: r) = (a.id : Int) :: idsOf r := rfl
    rw [e, List.contains_cons, List.any_cons, ih]
    congr 1
    rw [Bool.eq_iff_iff]
    simp
    omega
theorem leastF_eq (l : List Seg) : ∀ S, leastF (idsOf l) S = match freeId S l with | none => -1 | some i => (i : Int)
  | 0 => rfl
  | S + 1 => by
    have ih := leastF_eq l S
    unfold freeId at ih ⊢
    rw [leastF, ids_contains, List.range_succ, List.find?_append, ih]
    cases hf : (List.range S).find? (fun i => !l.any (fun s => s.id == i)) with
    | none =>
      cases hc : l.any (fun s => s.id == S) with
      | true => simp [hc]
      | false => simp [hc]
    | some j =>
      have hj : ¬ ((j : Int) < 0) := by omega
      cases hc : l.any (fun s => s.id == S) with
      | true => simp
      | false => simp [hj]
theorem count_lt (ids : List Int) (hn : ids.Nodup) (i : Nat) : ids.countP (fun x => decide (x < ((i + 1 : Nat) : Int))) = ids.countP (fun x => decide (x < (i : Int))) + (if ids.contains (i : Int) = true then 1 else 0) := by
  induction ids with
  | nil => simp
  | cons a r ih =>
    rw [List.countP_cons, List.countP_cons, ih (List.nodup_cons.1 hn).2, List.contains_cons]
    have hna := (List.nodup_cons.1 hn).1
    by_cases e : a = (i : Int)
    · subst e
      have h1 : r.contains (i : Int) = false := by
        rw [Bool.eq_false_iff]; intro h; exact hna (by simpa using h)
      have h2 : (i : Int) < ((i + 1 : Nat) : Int) := by omega
      have h3 : ¬ ((i : Int) < (i : Int)) := by omega
      have h4 : ¬ (i : Int) ∈ r := by intro h; exact hna h
      simp [h3, h4]
      omega
    · have e' : ((i : Int) == a) = false := by simpa using fun h => e h.symm
      rw [e', Bool.false_or]
      have h2 : decide (a < ((i + 1 : Nat) : Int)) = decide (a < (i : Int)) := by
        rw [decide_eq_decide]; omega
      rw [h2]
      omega
theorem cntF_eq (ids : List Int) (hn : ids.Nodup) (h0 : ∀ x ∈ ids, 0 ≤ x) : ∀ i : Nat, cntF ids i + ids.countP (fun x => decide (x < (i : Int))) = i
  | 0 => by
    have : ids.countP (fun x => decide (x < ((0 : Nat) : Int))) = 0 := by
      rw [List.countP_eq_zero]; intro x hx; have := h0 x hx; simp; omega
    rw [this]; rfl
  | i + 1 => by
    have ih := cntF_eq ids hn h0 i
    rw [cntF, count_lt ids hn i]
    split <;> omega
theorem cnt_ids {S : Nat} {l : List Seg} (h : SegsOk S l) : cntF (idsOf l) S = S - l.length := by
  have hn : (idsOf l).Nodup := by
    have := h.nodup
    unfold idsOf
    rw [List.nodup_iff_pairwise_ne, List.pairwise_map] at *
    exact this.imp (fun hne he => hne (Int.ofNat.inj he))
  have h0 : ∀ x ∈ idsOf l, 0 ≤ x := by
    intro x hx
    obtain ⟨s, _, rfl⟩ := List.mem_map.1 hx
    omega
  have hc := cntF_eq _ hn h0 S
  have ha : (idsOf l).countP (fun x => decide (x < (S : Int))) = l.length := by
    rw [← idsOf_len l, List.countP_eq_length]
    intro x hx
    obtain ⟨s, hs, rfl⟩ := List.mem_map.1 hx
    have := h.id s hs
    simp; omega
  omega

/-- what Append comes to: the number, the record, the checkpoint -/
def appE (S : Nat) (c : Cp) (body : List UInt8) : Int := if 16 < partsN body.length then 2 else match cpForN S c (partsN body.length) with | none => 21 | some _ => 0
def appR (S : Nat) (c : Cp) (body : List UInt8) : Rec := if 16 < partsN body.length then ⟨0, 0, []⟩ else match cpForN S c (partsN body.length) with | none => ⟨0, 0, []⟩ | some (k, _) => ⟨k.seq, (lastSeg k).id, body⟩
def appC (S : Nat) (c : Cp) (body : List UInt8) : Cp := if 16 < partsN body.length then c else match cpForN S c (partsN body.length) with | none => c | some (k, _) => setLast k ((lastSeg k).used + partsN body.length) (k.seq + 1)
/-- what Drop comes to -/
def drpE (c : Cp) (id : Int) : Int := match c.segs.findIdx? (fun s => (s.id : Int) == id) with | none => 1 | some i => if i + 1 = c.segs.length then 1 else 0
def drpC (c : Cp) (id : Int) : Cp := match c.segs.findIdx? (fun s => (s.id : Int) == id) with | none => c | some i => if i + 1 = c.segs.length then c else ⟨c.serial + 1, c.boot, c.seq, c.segs.eraseIdx i⟩
end Go.Proofs.YtfiocakhgpdlfaaDoor.Sg

namespace Go.Proofs.YtfiocakhgpdlfaaDoor.Sg
open Go.RowKit Go.Lib Go.Proofs.YtfiocakhgpdlfaaDoor.Ap Go.Proofs.YtfiocakhgpdlfaaDoorW.PrintWords Go.Proofs.YtfiocakhgpdlfaaDoorW.PrintLast Go.Proofs.YtfiocakhgpdlfaaDoorW.PrintMore
set_option linter.unusedVariables false
set_option linter.unusedSimpArgs false

/-- a log that works, the power on; k steps are behind it -/
structure On2 (B : Nat) (w : World) (gl gd S : Nat) (c : Cp) (all : List Rec) (k : Nat) : Prop where
  ex : ∃ d l, l.cp = c ∧ On1 B w gl gd d l all (2 + k) (1 + k) k ∧ d.left = 0 ∧ segsN d.now = S
theorem On2.step {B : Nat} {w w' : World} {gl gd S : Nat} {c : Cp} {all : List Rec} {k : Nat} (h : On2 B w gl gd S c all k) (hb : Below w.heap.size w w') : On2 B w' gl gd S c all k := by
  obtain ⟨d, l, h1, h2, h3, h4⟩ := h.ex
  exact ⟨d, l, h1, h2.step hb, h3, h4⟩
theorem On2.lt {B : Nat} {w : World} {gl gd S : Nat} {c : Cp} {all : List Rec} {k : Nat} (h : On2 B w gl gd S c all k) : B ≤ w.heap.size := by
  obtain ⟨d, l, h1, h2, h3, h4⟩ := h.ex
  exact h2.dk.lt
/-- what is known of its checkpoint -/
structure CpOk (S : Nat) (c : Cp) (k : Nat) : Prop where
  segs : SegsOk S c.segs
  ne : c.segs ≠ []
  s64 : S ≤ 64
  few : c.segs.length ≤ S
  seq : c.seq ≤ k
  boot : c.boot ≤ 1 + k
theorem On2.ok {B : Nat} {w : World} {gl gd S : Nat} {c : Cp} {all : List Rec} {k : Nat} (h : On2 B w gl gd S c all k) (hk : k ≤ 2000000) : CpOk S c k := by
  obtain ⟨d, l, rfl, h2, h3, rfl⟩ := h.ex
  have hq : l.cp.seq ≤ top := by have := h2.bnd.2.2; have := small_top 2000000; unfold top; omega
  have hok := h2.inv.c.cur.ok hq
  refine ⟨hok.segs, h2.inv.c.cur.ne, segsN_le _, ?_, h2.bnd.2.2, h2.bnd.2.1⟩
  have := nodup_le (segsN d.now) (l.cp.segs.map (·.id)) hok.segs.nodup (fun x hx => by obtain ⟨s, hs, rfl⟩ := List.mem_map.1 hx; exact hok.segs.id s hs)
  simpa using this

theorem append_o (B gl gd S : Nat) (c : Cp) (all : List Rec) (k : Nat) (body : List UInt8) (w : World) (h : On2 B w gl gd S c all k) (hk : k ≤ 2000000) (hbl : body.length ≤ 10485760) :
    Calls Tryd.prog 12 #[.pointer (some ⟨gl, 0, none⟩), .string (toB body)] w fun e w' => e = .returned (.tuple #[.agg #[.int .i64 (appR S c body).seq, .int .i64 (appR S c body).seg, .string (toB (appR S c body).body)], .int .i64 (appE S c body)]) ∧ FrL B w w' ∧ On2 B w' gl gd S (appC S c body) (if appE S c body = 0 then all ++ [appR S c body] else all) (k + 1) := by
  obtain ⟨d, l, rfl, h2, h3, rfl⟩ := h.ex
  obtain ⟨b1, b2, b3⟩ := h2.bnd
  have ht : 2000010 < top := by unfold top; omega
  have hsame : On2 B w gl gd (segsN d.now) l.cp all (k + 1) := ⟨d, l, rfl, h2.mono (by omega) (by omega) (by omega), h3, rfl⟩
  by_cases h16 : 16 < partsN body.length
  · have e1 : appE (segsN d.now) l.cp body = 2 := by rw [appE, if_pos h16]
    have e2 : appR (segsN d.now) l.cp body = ⟨0, 0, []⟩ := by rw [appR, if_pos h16]
    have e3 : appC (segsN d.now) l.cp body = l.cp := by rw [appC, if_pos h16]
    rw [e1, e2, e3, if_neg (by decide)]
    refine (append_long B gl gd d l body w h2.log h2.dk h16 (by omega)).mono fun e w' hp => ?_
    exact ⟨hp.1, FrL.of hp.2 h2.dk.lt, hsame.step hp.2⟩
  have hbl2 : body.length ≤ 3728 := by unfold partsN at h16; omega
  refine (append_at B gl gd d l all body w h2.log h2.dk h2.inv (by omega) (by omega) (by omega) (by omega)).mono fun e w' hp => ?_
  obtain ⟨g1, g2, g3, g4⟩ := hp
  rcases append_spec (body := body) h2.inv (by omega) (by omega) (by omega) with ⟨q, _⟩ | ⟨_, q⟩
  · exact absurd q h16
  · rcases q with ⟨q1, q2⟩ | ⟨c', o', q1, q2⟩
    · rw [cpFor_N] at q1
      rw [q2] at g1 g2 g3
      have e1 : appE (segsN d.now) l.cp body = 21 := by rw [appE, if_neg h16, q1]
      have e2 : appR (segsN d.now) l.cp body = ⟨0, 0, []⟩ := by rw [appR, if_neg h16, q1]
      have e3 : appC (segsN d.now) l.cp body = l.cp := by rw [appC, if_neg h16, q1]
      rw [e1, e2, e3, if_neg (by decide)]
      exact ⟨g1, g4, d, l, rfl, ⟨g3, g2, h2.inv, h2.len, by show Bnd _ _ _ _; exact ⟨by omega, by omega, by omega⟩⟩, h3, rfl⟩
    · have hbd := cpFor_bnd q1
      rw [cpFor_N] at q1
      rcases q2 with ⟨k1, k2, k3, k4, k5⟩ | ⟨_, _, k3, _⟩
      · have e1 : appE (segsN d.now) l.cp body = 0 := by rw [appE, if_neg h16, q1]
        have e2 : appR (segsN d.now) l.cp body = ⟨c'.seq, (lastSeg c').id, body⟩ := by rw [appR, if_neg h16, q1]
        have e3 : appC (segsN d.now) l.cp body = setLast c' ((lastSeg c').used + partsN body.length) (c'.seq + 1) := by rw [appC, if_neg h16, q1]
        rw [e1, e2, e3, if_pos rfl]
        refine ⟨by rw [g1, k1]; rfl, g4, _, _, k2, ⟨g3, g2, k3, by rw [k5]; exact h2.len, ?_⟩, by omega, segsN_len k5⟩
        rw [k2]
        exact ⟨by show c'.serial ≤ _; omega, by show c'.boot ≤ _; omega, by show c'.seq + 1 ≤ _; omega⟩
      · exact absurd h3 k3
theorem drop_o (B gl gd S : Nat) (c : Cp) (all : List Rec) (k : Nat) (id : Int) (w : World) (h : On2 B w gl gd S c all k) (hk : k ≤ 2000000) :
    Calls Tryd.prog 17 #[.pointer (some ⟨gl, 0, none⟩), .int .i64 id] w fun e w' => e = .returned (.int .i64 (drpE c id)) ∧ FrL B w w' ∧ On2 B w' gl gd S (drpC c id) (if drpE c id = 0 then withoutI all id else all) (k + 1) := by
  obtain ⟨d, l, rfl, h2, h3, rfl⟩ := h.ex
  obtain ⟨b1, b2, b3⟩ := h2.bnd
  have ht : 2000010 < top := by unfold top; omega
  refine (drop_at B gl gd d l all id w h2.log h2.dk h2.inv (by omega) (by omega) (by omega)).mono fun e w' hp => ?_
  obtain ⟨g1, g2, g3, g4⟩ := hp
  have hno : drop d l id = (d, l, 1) → drpE l.cp id = 1 → drpC l.cp id = l.cp → e = .returned (.int .i64 (drpE l.cp id)) ∧ FrL B w w' ∧ On2 B w' gl gd (segsN d.now) (drpC l.cp id) (if drpE l.cp id = 0 then withoutI all id else all) (k + 1) := by
    intro q1 q2 q3
    rw [q1] at g1 g2 g3
    rw [q2, q3, if_neg (by decide)]
    exact ⟨g1, g4, d, l, rfl, ⟨g3, g2, h2.inv, h2.len, ⟨by omega, by omega, by omega⟩⟩, h3, rfl⟩
  cases hf : l.cp.segs.findIdx? (fun s => (s.id : Int) == id) with
  | none => exact hno (by rw [drop, hf]) (by rw [drpE, hf]) (by rw [drpC, hf])
  | some i =>
    by_cases hlast : i + 1 = l.cp.segs.length
    · exact hno (by rw [drop, hf]; exact if_pos hlast) (by rw [drpE, hf]; exact if_pos hlast) (by rw [drpC, hf]; exact if_pos hlast)
    · have e1 : drpE l.cp id = 0 := by rw [drpE, hf]; exact if_neg hlast
      have e2 : drpC l.cp id = nextC l (l.cp.segs.eraseIdx i) := by rw [drpC, hf]; exact if_neg hlast
      rw [e1, e2, if_pos rfl]
      rcases drop_spec (id := id) h2.inv (by omega) (by omega) (by omega) with q1 | ⟨j, q1, ⟨sg, q2, q3⟩, q⟩
      · exfalso
        rw [drop, hf] at q1
        simp only [if_neg hlast] at q1
        have hs := save_spec (l := l) (c1 := nextC l (l.cp.segs.eraseIdx i)) h2.inv.idle (fits_of (by show l.cp.serial + 1 ≤ top; omega) (by show l.cp.boot ≤ top; omega) (by show l.cp.seq ≤ top; omega))
        rw [q1] at hs
        rcases hs with ⟨hs, _⟩ | ⟨hs, _⟩
        · exact absurd (show (1 : Int) = 0 from hs) (by decide)
        · exact absurd (show (1 : Int) = 20 from hs) (by decide)
      · obtain ⟨hi, hp, hmin⟩ := List.findIdx?_eq_some_iff_getElem.1 hf
        have hid : ((l.cp.segs[i]'hi).id : Int) = id := by simpa using hp
        have hij : i = j := by
          have hnd := (h2.inv.c.cur.ok (by omega)).segs.nodup
          have hj : j < (l.cp.segs.map (·.id)).length := by rw [List.length_map]; omega
          have hi' : i < (l.cp.segs.map (·.id)).length := by rw [List.length_map]; omega
          have he : (l.cp.segs.map (·.id))[i]'hi' = (l.cp.segs.map (·.id))[j]'hj := by
            rw [List.getElem_map, List.getElem_map]
            rw [List.getElem?_eq_getElem (by omega)] at q2
            injection q2 with q2
            rw [q2]
            omega
          exact (List.getElem_inj (h₀ := hi') (h₁ := hj) hnd).1 he
        subst hij
        rcases q with ⟨k1, k2, k3, k4, k5⟩ | ⟨_, _, k3, _⟩
        · have hidn : 0 ≤ id := by omega
          refine ⟨by rw [g1, k1], g4, _, _, by rw [k3], ⟨g3, g2, by rw [k3, withoutI_nat all id hidn]; exact k2, by rw [k5]; exact h2.len, ?_⟩, by omega, segsN_len k5⟩
          rw [k3]
          exact ⟨by show l.cp.serial + 1 ≤ _; omega, by show l.cp.boot ≤ _; omega, by show l.cp.seq ≤ _; omega⟩
        · exact absurd h3 k3
theorem open_o (B gl gd S : Nat) (c : Cp) (all : List Rec) (k : Nat) (w : World) (h : On2 B w gl gd S c all k) (hk : k ≤ 2000000) :
    Calls Tryd.prog 11 #[.pointer (some ⟨gd, 0, none⟩)] w fun e w' => ∃ gl' v, e = .returned (.tuple #[.pointer (some ⟨gl', 0, none⟩), v, .int .i64 0]) ∧ FrL B w w' ∧ RecsAt B w' v all ∧ On2 B w' gl' gd S (booted c) all (k + 1) := by
  obtain ⟨d, l, rfl, h2, h3, rfl⟩ := h.ex
  obtain ⟨b1, b2, b3⟩ := h2.bnd
  have ht : 2000010 < top := by unfold top; omega
  refine (open_on B gd d l.cp l.place all w h2.dk h2.inv.idle h3 h2.inv.c (by omega) (by omega) (by omega) (by have := h2.inv.c.few; omega)).mono fun e w' hp => ?_
  obtain ⟨d', gl', v, g1, g2, g3, g4, g5, g6, g7, g8⟩ := hp
  exact ⟨gl', v, g1, g5, g4, d', _, rfl, ⟨g3, g2, g6, by rw [g8]; exact h2.len, ⟨by show l.cp.serial + 1 ≤ _; omega, by show l.cp.boot + 1 ≤ _; omega, by show l.cp.seq ≤ _; omega⟩⟩, g7, segsN_len g8⟩
end Go.Proofs.YtfiocakhgpdlfaaDoor.Sg

namespace Go.Proofs.YtfiocakhgpdlfaaDoor.Sg
open Go.RowKit Go.Lib Go.Proofs.YtfiocakhgpdlfaaDoor.Ap Go.Proofs.YtfiocakhgpdlfaaDoorW.PrintWords Go.Proofs.YtfiocakhgpdlfaaDoorW.PrintLast Go.Proofs.YtfiocakhgpdlfaaDoorW.PrintMore
set_option linter.unusedVariables false
set_option linter.unusedSimpArgs false

theorem segs_split {c : Cp} (h : c.segs ≠ []) : ∃ pre id used, c.segs = pre ++ [⟨id, used⟩] ∧ lastSeg c = ⟨id, used⟩ := by
  have := last_split h
  exact ⟨_, (lastSeg c).id, (lastSeg c).used, this, rfl⟩
theorem rlOf_split {S : Nat} {c : Cp} {pre : List Seg} {id used : Nat} (h : c.segs = pre ++ [⟨id, used⟩]) : rlOf S c = ⟨S, idsOf pre ++ [(id : Int)], usedOf pre ++ [(used : Int)], c.seq, c.boot, 0⟩ := by
  rw [rlOf, h, idsOf_app, usedOf_app]; rfl
theorem RRaw.cast {B : Nat} {w : World} {g : Nat} {R R' : Rl} {vI vU : Value} (h : RRaw B w g R vI vU) (e : R = R') : RRaw B w g R' vI vU := e ▸ h

theorem rappend_o (B g S : Nat) (c : Cp) (k : Nat) (body : List UInt8) (VI VU : Value) (w : World) (hc : CpOk S c k) (hk : k ≤ 2000000) (hl : RRaw B w g (rlOf S c) VI VU) (hle : B ≤ w.heap.size) (hbl : body.length ≤ 10485760) :
    Calls Tryd.prog 23 #[.pointer (some ⟨g, 0, none⟩), .string (toB body)] w fun e w' => e = .returned (.tuple #[.agg #[.int .i64 (appR S c body).seq, .int .i64 (appR S c body).seg, .string (toB (appR S c body).body)], .int .i64 (appE S c body)]) ∧ ∃ VI' VU', RRaw B w' g (rlOf S (appC S c body)) VI' VU' ∧ FrR B w w' := by
  obtain ⟨pre, id, used, hs, hls⟩ := segs_split hc.ne
  have hlen := hc.few
  have h64 := hc.s64
  have hseq := hc.seq
  have hu16 : used ≤ 16 := hc.segs.used ⟨id, used⟩ (by rw [hs]; simp)
  have hpl : pre.length + 1 ≤ 64 := by have : c.segs.length = pre.length + 1 := by rw [hs]; simp
                                       omega
  by_cases h16 : 16 < partsN body.length
  · have e1 : appE S c body = 2 := by rw [appE, if_pos h16]
    have e2 : appR S c body = ⟨0, 0, []⟩ := by rw [appR, if_pos h16]
    have e3 : appC S c body = c := by rw [appC, if_pos h16]
    rw [e1, e2, e3]
    refine (rappend_long B g S _ _ _ _ _ VI VU body w (hl.cast rfl) hle (by unfold partsN at h16; omega) (by omega)).mono fun e w' hp => ?_
    exact ⟨hp.1, _, _, hp.2.1, hp.2.2⟩
  have hbl2 : body.length ≤ 3728 := by unfold partsN at h16; omega
  have hl' := hl.cast (rlOf_split hs)
  by_cases hf : used + partsN body.length ≤ 16
  · have hcp : cpForN S c (partsN body.length) = some (c, false) := by rw [cpForN, hls, if_pos hf]
    have e1 : appE S c body = 0 := by rw [appE, if_neg h16, hcp]
    have e2 : appR S c body = ⟨c.seq, id, body⟩ := by rw [appR, if_neg h16, hcp]; show (⟨c.seq, (lastSeg c).id, body⟩ : Rec) = _; rw [hls]
    have e3 : appC S c body = setLast c (used + partsN body.length) (c.seq + 1) := by rw [appC, if_neg h16, hcp]; show setLast c ((lastSeg c).used + _) _ = _; rw [hls]
    have e4 : (setLast c (used + partsN body.length) (c.seq + 1)).segs = pre ++ [⟨id, used + partsN body.length⟩] := by
      show c.segs.dropLast ++ [_] = _
      rw [hls, hs, List.dropLast_concat]
    rw [e1, e2, e3]
    refine (rappend_fits B g S (idsOf pre) (usedOf pre) id used c.seq c.boot 0 VI VU body _ rfl w hl' hle hbl2 (by rw [idsOf_len, usedOf_len]) (by rw [idsOf_len]; omega) (by omega) (by omega) (by omega) (by omega) (by omega)).mono fun e w' hp => ?_
    obtain ⟨g1, VI', VU', g2, g3⟩ := hp
    refine ⟨g1, VI', VU', g2.cast ?_, g3⟩
    rw [rlOf_split e4]
    show (⟨S, idsOf pre ++ [(id : Int)], usedOf pre ++ [(used : Int) + (partsN body.length : Nat)], (c.seq : Int) + 1, c.boot, 0⟩ : Rl) = ⟨S, idsOf pre ++ [(id : Int)], usedOf pre ++ [((used + partsN body.length : Nat) : Int)], ((c.seq + 1 : Nat) : Int), c.boot, 0⟩
    congr 1
  · have hlf := leastF_eq c.segs S
    have hids : idsOf c.segs = idsOf pre ++ [(id : Int)] := by rw [hs, idsOf_app]; rfl
    rw [hids] at hlf
    cases hfr : freeId S c.segs with
    | none =>
      have hcp : cpForN S c (partsN body.length) = none := by rw [cpForN, hls, if_neg hf, hfr]; rfl
      have e1 : appE S c body = 21 := by rw [appE, if_neg h16, hcp]
      have e2 : appR S c body = ⟨0, 0, []⟩ := by rw [appR, if_neg h16, hcp]
      have e3 : appC S c body = c := by rw [appC, if_neg h16, hcp]
      rw [hfr] at hlf
      rw [e1, e2, e3]
      refine (rappend_full B g S (idsOf pre) (usedOf pre) id used c.seq c.boot 0 VI VU body _ rfl w hl' hle hbl2 (by rw [idsOf_len, usedOf_len]) (by rw [idsOf_len]; omega) (by omega) (by omega) (by omega) (by omega) (by omega) h64 (by rw [hlf]; decide)).mono fun e w' hp => ?_
      obtain ⟨g1, VI', VU', g2, g3⟩ := hp
      exact ⟨g1, VI', VU', g2.cast (rlOf_split hs).symm, g3⟩
    | some i =>
      have hcp : cpForN S c (partsN body.length) = some (⟨c.serial + 1, c.boot, c.seq, c.segs ++ [⟨i, 0⟩]⟩, true) := by rw [cpForN, hls, if_neg hf, hfr]; rfl
      have hls2 : lastSeg ⟨c.serial + 1, c.boot, c.seq, c.segs ++ [⟨i, 0⟩]⟩ = ⟨i, 0⟩ := lastSeg_mk _ _ _ _ _
      have e1 : appE S c body = 0 := by rw [appE, if_neg h16, hcp]
      have e2 : appR S c body = ⟨c.seq, i, body⟩ := by rw [appR, if_neg h16, hcp]; show (⟨c.seq, (lastSeg ⟨c.serial + 1, c.boot, c.seq, c.segs ++ [⟨i, 0⟩]⟩).id, body⟩ : Rec) = _; rw [hls2]
      have e3 : appC S c body = ⟨c.serial + 1, c.boot, c.seq + 1, c.segs ++ [⟨i, partsN body.length⟩]⟩ := by
        rw [appC, if_neg h16, hcp]
        show setLast ⟨c.serial + 1, c.boot, c.seq, c.segs ++ [⟨i, 0⟩]⟩ ((lastSeg ⟨c.serial + 1, c.boot, c.seq, c.segs ++ [⟨i, 0⟩]⟩).used + partsN body.length) (c.seq + 1) = _
        rw [setLast, hls2, List.dropLast_concat, Nat.zero_add]
      rw [hfr] at hlf
      rw [e1, e2, e3]
      refine (rappend_open B g S (idsOf pre) (usedOf pre) id used c.seq c.boot 0 VI VU body _ rfl w hl' hle hbl2 (by rw [idsOf_len, usedOf_len]) (by rw [idsOf_len]; omega) (by omega) (by omega) (by omega) (by omega) (by omega) h64 (i : Int) hlf (by omega)).mono fun e w' hp => ?_
      obtain ⟨g1, VI', VU', g2, g3⟩ := hp
      refine ⟨g1, VI', VU', g2.cast ?_, g3⟩
      have e5 : c.segs ++ [(⟨i, partsN body.length⟩ : Seg)] = (pre ++ [⟨id, used⟩]) ++ [⟨i, partsN body.length⟩] := by rw [hs]
      have e6 := rlOf_split (S := S) (c := ⟨c.serial + 1, c.boot, c.seq + 1, c.segs ++ [(⟨i, partsN body.length⟩ : Seg)]⟩) (pre := pre ++ [⟨id, used⟩]) (id := i) (used := partsN body.length) e5
      refine Eq.trans ?_ e6.symm
      rw [idsOf_app, usedOf_app]
      rfl
theorem idsOf_get (l : List Seg) (i : Nat) (id : Int) : (idsOf l)[i]? = some id ↔ ∃ s, l[i]? = some s ∧ (s.id : Int) = id := by
  rw [idsOf, List.getElem?_map]
  cases l[i]? <;> simp
theorem rdrop_o (B g S : Nat) (c : Cp) (k : Nat) (id : Int) (VI VU : Value) (w : World) (hc : CpOk S c k) (hl : RRaw B w g (rlOf S c) VI VU) (hle : B ≤ w.heap.size) :
    Calls Tryd.prog 24 #[.pointer (some ⟨g, 0, none⟩), .int .i64 id] w fun e w' => e = .returned (.int .i64 (drpE c id)) ∧ ∃ VI' VU', RRaw B w' g (rlOf S (drpC c id)) VI' VU' ∧ FrR B w w' := by
  have hlen : (rlOf S c).ids.length = c.segs.length := idsOf_len _
  have hpos : 0 < c.segs.length := List.length_pos_iff.2 hc.ne
  have h64 : c.segs.length ≤ 64 := Nat.le_trans hc.few hc.s64
  have hno : (∀ i, i + 1 < c.segs.length → (idsOf c.segs)[i]? ≠ some id) → drpE c id = 1 → drpC c id = c → Calls Tryd.prog 24 #[.pointer (some ⟨g, 0, none⟩), .int .i64 id] w fun e w' => e = .returned (.int .i64 (drpE c id)) ∧ ∃ VI' VU', RRaw B w' g (rlOf S (drpC c id)) VI' VU' ∧ FrR B w w' := by
    intro q1 q2 q3
    rw [q2, q3]
    refine (rdrop_no B g (rlOf S c) VI VU id w hl (by omega) (by omega) (by rw [hlen]; exact q1)).mono fun e w' hp => ?_
    obtain ⟨h1, rfl⟩ := hp
    exact ⟨h1, _, _, hl, FrR.refl B w⟩
  cases hf : c.segs.findIdx? (fun s => (s.id : Int) == id) with
  | none =>
    refine hno (fun i hi he => ?_) (by rw [drpE, hf]) (by rw [drpC, hf])
    obtain ⟨s, hs, hid⟩ := (idsOf_get _ _ _).1 he
    have := List.findIdx?_eq_none_iff.1 hf s (List.mem_of_getElem? hs)
    simp [hid] at this
  | some i =>
    obtain ⟨hi, hp, hmin⟩ := List.findIdx?_eq_some_iff_getElem.1 hf
    have hmin' : ∀ j, j < i → (idsOf c.segs)[j]? ≠ some id := by
      intro j hj he
      obtain ⟨s, hs, hid⟩ := (idsOf_get _ _ _).1 he
      have := hmin j hj
      rw [List.getElem?_eq_getElem (by omega)] at hs
      injection hs with hs
      rw [hs] at this
      simp [hid] at this
    by_cases hlast : i + 1 = c.segs.length
    · exact hno (fun j hj => hmin' j (by omega)) (by rw [drpE, hf]; exact if_pos hlast) (by rw [drpC, hf]; exact if_pos hlast)
    · have e1 : drpE c id = 0 := by rw [drpE, hf]; exact if_neg hlast
      have e2 : drpC c id = ⟨c.serial + 1, c.boot, c.seq, c.segs.eraseIdx i⟩ := by rw [drpC, hf]; exact if_neg hlast
      rw [e1, e2]
      refine (rdrop_yes B g (rlOf S c) VI VU id i w hl hle (by omega) (by show (usedOf _).length = (idsOf _).length; rw [usedOf_len, idsOf_len]) (by rw [hlen]; omega) ((idsOf_get _ _ _).2 ⟨_, List.getElem?_eq_getElem hi, by simpa using hp⟩) hmin').mono fun e w' hp => ?_
      obtain ⟨g1, VI', VU', g2, g3⟩ := hp
      refine ⟨g1, VI', VU', g2.cast ?_, g3⟩
      show (⟨S, (idsOf c.segs).take i ++ (idsOf c.segs).drop (i + 1), (usedOf c.segs).take i ++ (usedOf c.segs).drop (i + 1), c.seq, c.boot, 0⟩ : Rl) = ⟨S, idsOf (c.segs.eraseIdx i), usedOf (c.segs.eraseIdx i), c.seq, c.boot, 0⟩
      rw [List.eraseIdx_eq_take_drop_succ, idsOf_app, usedOf_app]
      unfold idsOf usedOf
      rw [List.map_take, List.map_drop, List.map_take, List.map_drop]
theorem DAt.keepF {B : Nat} {w w' : World} {g : Nat} {d : Dk} (h : DAt B w g d) (hk : ∀ (k : Nat) (cs : Array Value) (t' : TypeId) (f : Nat × Nat), (t' ≠ 3 ∧ t' ≠ 57) → w.heap[k]? = some (.cells cs t' f) → w'.heap[k]? = some (.cells cs t' f)) : DAt B w' g d := by
  obtain ⟨kL, kN, vQ, wr, fl, hr⟩ := h
  exact ⟨kL, kN, vQ, wr, fl, hk _ _ _ _ (by decide) hr.blk, own_keep hr.own (fun k cs f hr => hk _ _ _ _ (by decide) hr), hk _ _ _ _ (by decide) hr.lst, hk _ _ _ _ (by decide) hr.nw, hr.hL, hr.hN, hr.ne, hr.ge, hr.ok⟩
/-- the document's functions leave the log alone -/
theorem On2.frR {B : Nat} {w w' : World} {gl gd S : Nat} {c : Cp} {all : List Rec} {k : Nat} (h : On2 B w gl gd S c all k) (hf : FrR B w w') : On2 B w' gl gd S c all k := by
  obtain ⟨d, l, h1, h2, h3, h4⟩ := h.ex
  obtain ⟨vS, hl⟩ := h2.log
  have hk : ∀ (k : Nat) (cs : Array Value) (t' : TypeId) (f : Nat × Nat), (t' ≠ 3 ∧ t' ≠ 57) → w.heap[k]? = some (.cells cs t' f) → w'.heap[k]? = some (.cells cs t' f) := fun k cs t' f hne hr => hf.frm k cs t' f hr hne.1 hne.2
  exact ⟨d, l, h1, ⟨⟨_, hk _ _ _ _ (by decide) hl.blk, own_keep hl.segs (fun k cs f hr => hk _ _ _ _ (by decide) hr), hl.ge⟩, h2.dk.keepF hk, h2.inv, h2.len, h2.bnd⟩, h3, h4⟩
/-- and the log's leave the document's alone -/
theorem RRaw.frL {B : Nat} {w w' : World} {g : Nat} {R : Rl} {vI vU : Value} (h : RRaw B w g R vI vU) (hf : FrL B w w') : RRaw B w' g R vI vU :=
  ⟨hf.frm _ _ _ _ h.blk (by decide) (by decide) (by decide) (by decide) (by decide), own_keep h.ids (fun k cs f hr => hf.frm _ _ _ _ hr (by decide) (by decide) (by decide) (by decide) (by decide)), own_keep h.used (fun k cs f hr => hf.frm _ _ _ _ hr (by decide) (by decide) (by decide) (by decide) (by decide)), h.ge, h.apart⟩
end Go.Proofs.YtfiocakhgpdlfaaDoor.Sg

namespace Go.Proofs.YtfiocakhgpdlfaaDoor.Sg
open Go.RowKit Go.Lib Go.Proofs.YtfiocakhgpdlfaaDoor.Ap Go.Proofs.YtfiocakhgpdlfaaDoorW.PrintWords Go.Proofs.YtfiocakhgpdlfaaDoorW.PrintLast Go.Proofs.YtfiocakhgpdlfaaDoorW.PrintMore
set_option linter.unusedVariables false
set_option linter.unusedSimpArgs false

theorem segs_o (B gl gd S : Nat) (c : Cp) (all : List Rec) (k n : Nat) (w : World) (h : On2 B w gl gd S c all k) (hk : k ≤ 2000000) (hn : n = c.segs.length) :
    Calls Tryd.prog 28 #[.pointer (some ⟨gl, 0, none⟩)] w fun e w' => ∃ A cS, e = .returned (.slice A n cS) ∧ SegsAt w.heap.size w' (.slice A n cS) c.segs ∧ Below w.heap.size w w' := by
  have hok := h.ok hk
  obtain ⟨d, l, rfl, h2, h3, h4⟩ := h.ex
  obtain ⟨vS, hl⟩ := h2.log
  have := List.length_pos_iff.2 hok.ne
  have := hok.few
  have := hok.s64
  subst hn
  refine (segments_of_calls B gl gd l vS w hl (by omega) (by omega)).mono fun e w' hp => ?_
  obtain ⟨v', h1, h2, h3⟩ := hp
  obtain ⟨A, cS, rfl, -⟩ := own_slice h2
  exact ⟨A, cS, h1, h2, h3⟩
theorem free_o (B gl gd S : Nat) (c : Cp) (all : List Rec) (k n : Nat) (w : World) (h : On2 B w gl gd S c all k) (hk : k ≤ 2000000) (hn : S - c.segs.length = n) :
    Calls Tryd.prog 29 #[.pointer (some ⟨gl, 0, none⟩)] w fun e w' => e = .returned (.int .i64 n) ∧ Below w.heap.size w w' := by
  have hok := h.ok hk
  obtain ⟨d, l, rfl, h2, h3, rfl⟩ := h.ex
  obtain ⟨vS, hl⟩ := h2.log
  subst hn
  have q1 := hok.few
  have q2 := List.length_pos_iff.2 hok.ne
  exact free_calls B gl gd d l vS w hl h2.dk (by unfold segsN at q1; omega) hok.few
theorem boot_o (B gl gd S : Nat) (c : Cp) (all : List Rec) (k : Nat) (w : World) (h : On2 B w gl gd S c all k) :
    Calls Tryd.prog 14 #[.pointer (some ⟨gl, 0, none⟩)] w fun e w' => e = .returned (.int .i64 c.boot) ∧ w = w' := by
  obtain ⟨d, l, rfl, h2, h3, h4⟩ := h.ex
  obtain ⟨vS, hl⟩ := h2.log
  exact boot_calls B gl gd l vS w hl
theorem fits_o (B gl gd S n : Nat) (b : Bool) (c : Cp) (all : List Rec) (k : Nat) (x : Int) (w : World) (h : On2 B w gl gd S c all k) (hk : k ≤ 2000000) (hn : n ≤ 1000000) (hx : x = (n : Int)) (hb : (decide (n ≤ 3728) && decide ((lastSeg c).used + partsN n ≤ 16)) = b) :
    Calls Tryd.prog 27 #[.pointer (some ⟨gl, 0, none⟩), .int .i64 x] w fun e w' => e = .returned (.bool b) ∧ Below w.heap.size w w' := by
  have hok := h.ok hk
  obtain ⟨pre, id, used, hs, hls⟩ := segs_split hok.ne
  obtain ⟨d, l, rfl, h2, h3, h4⟩ := h.ex
  obtain ⟨vS, hl⟩ := h2.log
  subst hb hx
  have h64 := hok.s64
  have hf := hok.few
  have hlen : l.cp.segs.length = pre.length + 1 := by rw [hs]; simp
  have hu : used ≤ 16 := hok.segs.used ⟨id, used⟩ (by rw [hs]; simp)
  refine (lfits_calls B gl gd n l vS pre id used w hl hs (by omega) hu (by omega)).mono fun e w' hp => ⟨?_, hp.2⟩
  rw [hp.1]
  unfold fits
  rfl
set_option maxRecDepth 100000 in
theorem fits_neg (gl : Nat) (w : World) : Calls Tryd.prog 27 #[.pointer (some ⟨gl, 0, none⟩), .int .i64 (-1)] w fun e w' => e = .returned (.bool false) ∧ Below w.heap.size w w' := by
  go_enter Tryd.func27, Tryd.ntmps27
  go_wp2
  go_quiet (fail)
  go_wp2
  go_ret
  exact ⟨by simp, bel_drewN _ _⟩

theorem room_is (u : Nat) (hu : u ≤ 16) : (decide ((0 : Nat) ≤ 3728) && decide (u + partsN 0 ≤ 16)) = decide (1 ≤ 16 - u) ∧ (decide (233 * (16 - u) ≤ 3728) && decide (u + partsN (233 * (16 - u)) ≤ 16)) = decide (1 ≤ 16 - u) ∧ (decide (233 * (16 - u) + 1 ≤ 3728) && decide (u + partsN (233 * (16 - u) + 1) ≤ 16)) = false := by
  have h : ∀ u, u ≤ 16 → (decide ((0 : Nat) ≤ 3728) && decide (u + partsN 0 ≤ 16)) = decide (1 ≤ 16 - u) ∧ (decide (233 * (16 - u) ≤ 3728) && decide (u + partsN (233 * (16 - u)) ≤ 16)) = decide (1 ≤ 16 - u) ∧ (decide (233 * (16 - u) + 1 ≤ 3728) && decide (u + partsN (233 * (16 - u) + 1) ≤ 16)) = false := by decide
  exact h u hu

theorem rfree_n (B g S n : Nat) (c : Cp) (k : Nat) (vI vU : Value) (w : World) (h : RRaw B w g (rlOf S c) vI vU) (hok : CpOk S c k) (hn : S - c.segs.length = n) :
    Calls Tryd.prog 50 #[.pointer (some ⟨g, 0, none⟩)] w fun e w' => (∃ L : Int, e = .returned (.tuple #[.int .i64 n, .int .i64 L])) ∧ w = w' := by
  have e : cntF (rlOf S c).ids (rlOf S c).segs = n := by show cntF (idsOf c.segs) S = n; rw [cnt_ids hok.segs, hn]
  have := hok.few
  have := hok.s64
  refine (rfree_calls B g (rlOf S c) vI vU w h hok.s64 (by show (idsOf c.segs).length ≤ 64; rw [idsOf_len]; omega)).mono fun e' w' hp => ⟨⟨leastF (rlOf S c).ids (rlOf S c).segs, ?_⟩, hp.2⟩
  rw [hp.1, e]
/-- the readings of the document's log -/
theorem rl_at {B : Nat} {w : World} {g S : Nat} {c : Cp} {AI AU : Option Addr} {nI nU cI cU : Nat} (h : RRaw B w g (rlOf S c) (.slice AI nI cI) (.slice AU nU cU)) (i : Nat) (s : Seg) (hs : c.segs[i]? = some s) :
    ∃ kI kU, AI = some ⟨kI, 0, none⟩ ∧ AU = some ⟨kU, 0, none⟩ ∧ w.cell? ⟨kI, i, none⟩ = some (.int .i64 s.id) ∧ w.cell? ⟨kU, i, none⟩ = some (.int .i64 s.used) := by
  obtain ⟨kI, cI', e1, -, q1⟩ := h.ids.at i (s.id : Int) (by show (idsOf c.segs)[i]? = _; rw [idsOf, List.getElem?_map, hs]; rfl)
  obtain ⟨kU, cU', e2, -, q2⟩ := h.used.at i (s.used : Int) (by show (usedOf c.segs)[i]? = _; rw [usedOf, List.getElem?_map, hs]; rfl)
  injection e1 with e1 _ _
  injection e2 with e2 _ _
  exact ⟨kI, kU, e1, e2, q1, q2⟩

/-- what is known while the two are compared -/
structure SM (B : Nat) (w0 w : World) (gl gd g S : Nat) (c : Cp) (all : List Rec) (k : Nat) (vI vU vS : Value) : Prop where
  bel : Below w0.heap.size w0 w
  on : On2 B w gl gd S c all k
  rl : RRaw B w g (rlOf S c) vI vU
  segs : SegsAt w0.heap.size w vS c.segs
theorem SM.step {B : Nat} {w0 w w' : World} {gl gd g S : Nat} {c : Cp} {all : List Rec} {k : Nat} {vI vU vS : Value} (h : SM B w0 w gl gd g S c all k vI vU vS) (hb : Below w.heap.size w w') : SM B w0 w' gl gd g S c all k vI vU vS :=
  ⟨below_step h.bel hb, h.on.step hb, h.rl.step hb, h.segs.step hb⟩
set_option maxRecDepth 100000 in
set_option maxHeartbeats 4000000 in
theorem same_calls (B gl gd g S : Nat) (c : Cp) (all : List Rec) (k : Nat) (VI VU : Value) (w : World) (h : On2 B w gl gd S c all k) (hk : k ≤ 2000000) (hr : RRaw B w g (rlOf S c) VI VU) :
    Calls Tryd.prog 26 #[.pointer (some ⟨gl, 0, none⟩), .pointer (some ⟨g, 0, none⟩)] w fun e w' => e = .returned (.bool true) ∧ Below w.heap.size w w' := by
  have hok := h.ok hk
  obtain ⟨pre, id, used, hs, hls⟩ := segs_split hok.ne
  obtain ⟨n, hn⟩ : ∃ n, n = c.segs.length := ⟨_, rfl⟩
  obtain ⟨fr, hfr⟩ : ∃ fr, S - c.segs.length = fr := ⟨_, rfl⟩
  obtain ⟨AI, cI, rfl, -⟩ := own_slice hr.ids
  obtain ⟨AU, cU, rfl, -⟩ := own_slice hr.used
  have hlI : (rlOf S c).ids.length = n := by rw [hn]; exact idsOf_len _
  have hlU : (rlOf S c).used.length = n := by rw [hn]; exact usedOf_len _
  rw [hlI, hlU] at hr
  have hu16 : used ≤ 16 := hok.segs.used ⟨id, used⟩ (by rw [hs]; simp)
  obtain ⟨m, hm⟩ : ∃ m, n = m + 1 := ⟨pre.length, by rw [hn, hs]; simp⟩
  subst hm
  have HLAST : Aside0 (c.segs[m]? = some ⟨id, used⟩) := ⟨by rw [hs, List.getElem?_append_right (by rw [hs] at hn; simp at hn; omega)]; rw [hs] at hn; simp at hn; subst hn; simp⟩
  have HN : Aside0 (m + 1 = c.segs.length) := ⟨hn⟩
  have hm64 : (m : Int) + 1 ≤ 64 := by have := hok.few; have := hok.s64; omega
  have hrm := room_is used hu16
  obtain ⟨la, hla⟩ : ∃ la, 16 - used = la := ⟨_, rfl⟩
  have hlaI : (16 : Int) - (used : Int) = (la : Int) := by omega
  have hla16 : (la : Int) ≤ 16 := by omega
  rw [hla] at hrm
  rw [← (show (lastSeg c).used = used by rw [hls])] at hrm
  obtain ⟨rm, hrm'⟩ : ∃ rm, decide (1 ≤ la) = rm := ⟨_, rfl⟩
  have hrI : decide ((1 : Int) ≤ (la : Int)) = rm := by rw [← hrm', decide_eq_decide]; omega
  have HR0 : Aside0 ((decide ((0 : Nat) ≤ 3728) && decide ((lastSeg c).used + partsN 0 ≤ 16)) = rm) := ⟨hrm.1.trans hrm'⟩
  have HR1 : Aside0 ((decide (233 * la ≤ 3728) && decide ((lastSeg c).used + partsN (233 * la) ≤ 16)) = rm) := ⟨hrm.2.1.trans hrm'⟩
  have HR2 : Aside0 ((decide (233 * la + 1 ≤ 3728) && decide ((lastSeg c).used + partsN (233 * la + 1) ≤ 16)) = false) := ⟨hrm.2.2⟩
  have HOK := Aside0.mk hok
  have HK := Aside0.mk hk
  have HO := Aside0.mk h
  have HR := Aside0.mk hr
  have HF := Aside0.mk hfr
  have HB := Aside0.mk (Below.refl w.heap.size w)
  have HLA : Aside0 (la ≤ 16) := ⟨by omega⟩
  clear hrm hok h hr hfr hk hs hls hlI hlU hn hu16 hrm'
  go_enter Tryd.func26, Tryd.ntmps26
  go_upto_region 3 with (first
    | (go_at_call 28; (with_reducible refine (segs_o B gl gd S c all k (m + 1) _ HO.out HK.out HN.out).mono ?_); rintro e1 w1 ⟨A1, cS, rfl, hS, hb⟩; have HS : Aside0 (SegsAt w.heap.size w1 (.slice A1 (m + 1) cS) c.segs) := ⟨hS⟩; replace HB := Aside0.mk (below_step HB.out hb); replace HO := Aside0.mk (HO.out.step hb); replace HR := Aside0.mk (HR.out.step hb); clear hS hb)
    | (go_at_call 50; (with_reducible refine (rfree_n B g S fr c k _ _ _ HR.out HOK.out HF.out).mono ?_); rintro e2 w2 ⟨⟨L, rfl⟩, rfl⟩))
  replace HR := Aside0.mk (HR.out.step (Lb.below_drew _))
  replace HO := Aside0.mk (HO.out.step (Lb.below_drew _))
  replace HS := Aside0.mk (HS.out.step (Lb.below_drew _))
  replace HB := Aside0.mk (below_step HB.out (Lb.below_drew _))
  obtain ⟨-, c1, -, -, c4, -⟩ := HR.out.cells
  go_region_held3 (fun w' => w'.cell? ⟨g, 1, none⟩ = some (.slice AI (m + 1) cI) ∧ w'.cell? ⟨g, 4, none⟩ = some (.int .i64 c.boot)) (exact ⟨HR.out.cells.2.1, HR.out.cells.2.2.2.2.1⟩) (first
    | (go_at_call 29; (with_reducible refine (free_o B gl gd S c all k fr _ HO.out HK.out HF.out).mono ?_); rintro e3 w3 ⟨rfl, hb⟩; replace HB := Aside0.mk (below_step HB.out hb); replace HO := Aside0.mk (HO.out.step hb); replace HR := Aside0.mk (HR.out.step hb); replace HS := Aside0.mk (HS.out.step hb); clear hb)
    | (go_at_call 14; (with_reducible refine (boot_o B gl gd S c all k _ HO.out).mono ?_); rintro e4 w4 ⟨rfl, rfl⟩))
  clear c1 c4
  have HM : Aside0 (SM B w w3 gl gd g S c all k (.slice AI (m + 1) cI) (.slice AU (m + 1) cU) (.slice A1 (m + 1) cS)) := ⟨⟨HB.out, HO.out, HR.out, HS.out⟩⟩
  clear HB HO HR HS
  go_wp2_with fail
  go_loopg [8] (m + 1) (fun gk s8 wr => ∃ i : Nat, i + gk = m + 1 ∧ s8 = .int .i64 i ∧ Aside0 (SM B w wr gl gd g S c all k (.slice AI (m + 1) cI) (.slice AU (m + 1) cU) (.slice A1 (m + 1) cS)))
  case atStart => exact ⟨0, by omega, rfl, HM⟩
  case round =>
    clear HM
    obtain ⟨i, hi, rfl, HM⟩ := hrel
    cases gk with
    | zero =>
      obtain rfl : i = m + 1 := by omega
      obtain ⟨kI, kU, rfl, rfl, -, q1⟩ := rl_at HM.out.rl m _ HLAST.out
      obtain ⟨-, -, c2, -, -, -⟩ := HM.out.rl.cells
      simp only at q1
      have hmm : ¬ ((m : Int) + 1 < (m : Int) + 1) := by omega
      have h1i : (m : Int) < (m : Int) + 1 := by omega
      go_wp2_with fail
      go_quiet (fail)
      replace HM := Aside0.mk (HM.out.step (bel_drewN _ nq))
      clear q1 c2
      cases rm
      all_goals
        go_wp2_with (first
          | (go_at_call 27; (with_reducible refine (fits_o B gl gd S 0 _ c all k 0 _ HM.out.on HK.out (by decide) rfl HR0.out).mono ?_); rintro e4 w4 ⟨rfl, hb⟩; replace HM := Aside0.mk (HM.out.step hb); clear hb)
          | (go_at_call 27; (with_reducible refine (fits_o B gl gd S (233 * la) _ c all k _ _ HM.out.on HK.out (by have := HLA.out; omega) (by omega) HR1.out).mono ?_); rintro e4 w5 ⟨rfl, hb⟩; replace HM := Aside0.mk (HM.out.step hb); clear hb)
          | (go_at_call 27; (with_reducible refine (fits_o B gl gd S (233 * la + 1) _ c all k _ _ HM.out.on HK.out (by have := HLA.out; omega) (by omega) HR2.out).mono ?_); rintro e4 w6 ⟨rfl, hb⟩; replace HM := Aside0.mk (HM.out.step hb); clear hb)
          | (go_at_call 27; (with_reducible refine (fits_neg gl _).mono ?_); rintro e4 w7 ⟨rfl, hb⟩; replace HM := Aside0.mk (HM.out.step hb); clear hb))
        go_ret
        exact ⟨rfl, HM.out.bel⟩
    | succ gk =>
      have hii : (i : Int) < (m : Int) + 1 := by omega
      have hlt : i < c.segs.length := by have := HN.out; omega
      obtain ⟨⟨sid, sus⟩, hx⟩ : ∃ x, c.segs[i]? = some x := ⟨_, List.getElem?_eq_getElem hlt⟩
      obtain ⟨kI, kU, rfl, rfl, q0, q1⟩ := rl_at HM.out.rl i _ hx
      obtain ⟨k1, cap1, hA, _, p0, p1⟩ := HM.out.segs.at i hlt
      rw [List.getElem?_eq_getElem hlt] at hx
      injection hx with hx
      rw [hx] at p0 p1
      injection hA with hA _ _
      subst hA
      obtain ⟨-, c1, c2, -, -, -⟩ := HM.out.rl.cells
      have HI := Aside0.mk hi
      simp only at q0 q1 p0 p1
      clear hi hx hlt
      go_wp2_with fail
      go_quiet (fail)
      go_wp2_with fail
      go_roundg gk
      case measure => omega
      case rel => exact ⟨i + 1, by have := HI.out; omega, by go_num, ⟨HM.out.step (bel_drewN _ _)⟩⟩
end Go.Proofs.YtfiocakhgpdlfaaDoor.Sg

namespace Go.Proofs.YtfiocakhgpdlfaaDoor.Sg
open Go.RowKit Go.Lib Go.Proofs.YtfiocakhgpdlfaaDoor.Ap Go.Proofs.YtfiocakhgpdlfaaDoorW.PrintWords Go.Proofs.YtfiocakhgpdlfaaDoorW.PrintLast Go.Proofs.YtfiocakhgpdlfaaDoorW.PrintMore
set_option linter.unusedVariables false
set_option linter.unusedSimpArgs false

abbrev RecsD (B : Nat) (w : World) (v : Value) (l : List Rec) : Prop := w.ownsRow B 59 3 v l.length (flatR l)
theorem RecsD.step {B : Nat} {w w' : World} {v : Value} {l : List Rec} (h : RecsD B w v l) (hb : Below w.heap.size w w') : RecsD B w' v l := own_keep h (fun k cs f hr => Lb.blk_below hr hb)
theorem RecsD.at {B : Nat} {w : World} {v : Value} {l : List Rec} (h : RecsD B w v l) (i : Nat) (x : Rec) (hx : l[i]? = some x) : ∃ k cap, v = .slice (some ⟨k, 0, none⟩) l.length cap ∧ B ≤ k ∧ w.cell? ⟨k, i * 3, none⟩ = some (.int .i64 x.seq) ∧ w.cell? ⟨k, i * 3 + 1, none⟩ = some (.int .i64 x.seg) ∧ w.cell? ⟨k, i * 3 + 2, none⟩ = some (.string (toB x.body)) := by
  have hi := (List.getElem?_eq_some_iff.1 hx).1
  obtain ⟨k, cap, row, e, _, hB, hr, hc⟩ := row_at h (by omega)
  obtain ⟨f1, f2, f3⟩ := flatR_at l i x hx
  exact ⟨k, cap, e, hB, (blk_cell hr _).trans (hc _ _ f1), (blk_cell hr _).trans (hc _ _ f2), (blk_cell hr _).trans (hc _ _ f3)⟩
theorem recD_info : ((Tryd.prog).info? 59).map (fun i => (i.zero, i.size, i.bytes)) = some (some (.agg #[.int .i64 0, .int .i64 0, .string ⟨#[]⟩]), 3, 32) := by kernel_rfl
theorem App.recsD {w0 w' : World} {B : Nat} {v' : Value} {out : List Rec} {x : Rec} (ha : App w0 w' B 59 3 v' (out.length + 1) (flatR out ++ [.int .i64 x.seq, .int .i64 x.seg, .string (toB x.body)])) : RecsD B w' v' (out ++ [x]) := by
  have h := ha.own
  have e : flatR (out ++ [x]) = flatR out ++ [.int .i64 x.seq, .int .i64 x.seg, .string (toB x.body)] := by rw [flatR_app]; rfl
  show w'.ownsRow B _ 3 v' (out ++ [x]).length (flatR (out ++ [x]))
  rw [e, List.length_append]
  exact h
theorem RecsD.frL {B : Nat} {w w' : World} {v : Value} {l : List Rec} (h : RecsD B w v l) (hf : FrL B w w') : RecsD B w' v l := own_keep h (fun k cs f hr => hf.frm _ _ _ _ hr (by decide) (by decide) (by decide) (by decide) (by decide))
theorem RecsD.frR {B : Nat} {w w' : World} {v : Value} {l : List Rec} (h : RecsD B w v l) (hf : FrR B w w') : RecsD B w' v l := own_keep h (fun k cs f hr => hf.frm _ _ _ _ hr (by decide) (by decide))

set_option maxRecDepth 100000 in
theorem records_calls (B : Nat) (a : List Rec) (va vb : Value) (w : World) (ha : RecsAt B w va a) (hb : RecsD B w vb a) (hla : a.length ≤ 1000000000) :
    Calls Tryd.prog 25 #[va, vb] w fun e w' => e = .returned (.bool true) ∧ Below w.heap.size w w' := by
  have HA := Aside0.mk ha
  have HB := Aside0.mk hb
  obtain ⟨Aa, ca, rfl, -⟩ := own_slice ha
  obtain ⟨Ab, cb, rfl, -⟩ := own_slice hb
  obtain ⟨na, hna⟩ : ∃ na, na = a.length := ⟨_, rfl⟩
  have HNA := Aside0.mk hna
  have hnaI : (na : Int) ≤ 1000000000 := by omega
  rw [← hna]
  clear ha hb hna hla
  go_enter Tryd.func25, Tryd.ntmps25
  go_wp2_with fail
  go_loopg [5] na (fun gk s5 wr => ∃ (i : Nat), i + gk = na ∧ s5 = .int .i64 i ∧ Aside0 (Below w.heap.size w wr))
  case atStart => exact ⟨0, by omega, rfl, ⟨Below.refl _ _⟩⟩
  case round =>
    obtain ⟨i, hi, rfl, HK⟩ := hrel
    cases gk with
    | zero =>
      obtain rfl : i = na := by omega
      have hii : ¬ ((i : Int) < (i : Int)) := by omega
      go_wp2
      go_ret
      exact ⟨rfl, HK.out⟩
    | succ gk =>
      have hii : (i : Int) < (na : Int) := by omega
      have hlt : i < a.length := by have := HNA.out; omega
      obtain ⟨⟨xs, xg, xb⟩, hx⟩ : ∃ x, a[i]? = some x := ⟨_, List.getElem?_eq_getElem hlt⟩
      obtain ⟨k, c1, hA, _, p0, p1, p2⟩ := (RecsAt.step HA.out HK.out).at i _ hx
      obtain ⟨k', c1', hA', _, q0, q1, q2⟩ := (RecsD.step HB.out HK.out).at i _ hx
      injection hA with hA1 hA2 hA3
      injection hA' with hA1' hA2' hA3'
      subst hA1 hA1'
      simp only at p0 p1 p2 q0 q1 q2
      have HI := Aside0.mk hi
      clear hi hx hlt hA2 hA3 hA2' hA3'
      go_wp2_with fail
      go_quiet (fail)
      go_wp2_with fail
      go_roundg gk
      case measure => omega
      case rel => exact ⟨i + 1, by have := HI.out; omega, by go_num, ⟨below_step HK.out (bel_drewN _ _)⟩⟩
end Go.Proofs.YtfiocakhgpdlfaaDoor.Sg
