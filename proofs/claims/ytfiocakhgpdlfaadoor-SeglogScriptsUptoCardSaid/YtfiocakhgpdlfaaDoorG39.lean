/- Append: the words of its walk. -/
import Derived.Test.YtfiocakhgpdlfaaDoorHg
namespace Go.Proofs.YtfiocakhgpdlfaaDoor.Sg
open Go.RowKit Go.Lib Go.Proofs.YtfiocakhgpdlfaaDoor.Ap Go.Proofs.YtfiocakhgpdlfaaDoorW.PrintWords Go.Proofs.YtfiocakhgpdlfaaDoorW.PrintLast Go.Proofs.YtfiocakhgpdlfaaDoorW.PrintMore
set_option linter.unusedVariables false
set_option linter.unusedSimpArgs false

theorem FrL.own {B : Nat} {w0 w w' : World} {g : Nat} (h : FrL B w0 w) (hg : w.grownBy w' (some g)) (hB : B ≤ w0.heap.size) (hge : w0.heap.size ≤ g) : FrL B w0 w' :=
  ⟨h.bel.grown hg (Nat.le_trans hB h.bel.size) (fun q hq => by injection hq with hq; omega), fun k cs t' f hk h1 h2 h3 h4 h5 => by
    have hlt : k < w0.heap.size := by
      rcases Nat.lt_or_ge k w0.heap.size with h | h
      · exact h
      · rw [Array.getElem?_eq_none h] at hk; cases hk
    rw [hg.block k (by have := h.bel.size; omega) (fun e => by injection e with e; omega)]
    exact h.frm k cs t' f hk h1 h2 h3 h4 h5⟩
/-- what is known while a record is appended -/
structure AP (B : Nat) (w0 w : World) (g4 gl gd : Nat) (d : Dk) (serial boot seq : Nat) (pre : List Seg) (id used place k n cap : Nat) : Prop where
  log : LRaw B w gl gd ⟨⟨serial, boot, seq, pre ++ [⟨id, used⟩]⟩, place⟩ (.slice (some ⟨k, 0, none⟩) n cap)
  dk : DAt B w gd d
  rcd : w.heap[g4]? = some (.cells #[.int .i64 0, .int .i64 0, .string ⟨#[]⟩] 34 (0, 0))
  frm : FrL B w0 w
  ge : w0.heap.size ≤ g4
  le : B ≤ w0.heap.size
theorem AP.step {B : Nat} {w0 w w' : World} {g4 gl gd : Nat} {d : Dk} {serial boot seq : Nat} {pre : List Seg} {id used place k n cap : Nat} (h : AP B w0 w g4 gl gd d serial boot seq pre id used place k n cap) (hb : Below w.heap.size w w') : AP B w0 w' g4 gl gd d serial boot seq pre id used place k n cap :=
  ⟨h.log.step hb, h.dk.step hb, Lb.blk_below h.rcd hb, h.frm.trans (FrL.of hb h.dk.lt), h.ge, h.le⟩
theorem AP.disk {B : Nat} {w0 w w' : World} {g4 gl gd : Nat} {d d' : Dk} {serial boot seq : Nat} {pre : List Seg} {id used place k n cap : Nat} (h : AP B w0 w g4 gl gd d serial boot seq pre id used place k n cap) (hd : DAt B w' gd d') (hf : FrS B w w') : AP B w0 w' g4 gl gd d' serial boot seq pre id used place k n cap :=
  ⟨h.log.frS hf, hd, hf.frm _ _ _ _ h.rcd (by decide) (by decide) (by decide), h.frm.trans hf.toL, h.ge, h.le⟩
theorem AP.cells {B : Nat} {w0 w : World} {g4 gl gd : Nat} {d : Dk} {serial boot seq : Nat} {pre : List Seg} {id used place k n cap m : Nat} {y : Int} (h : AP B w0 w g4 gl gd d serial boot seq pre id used place k n cap) (hm : m = pre.length) (hy : y = (seq : Int)) :
    w.cell? ⟨gl, 0, none⟩ = some (.int .i64 serial) ∧ w.cell? ⟨gl, 1, none⟩ = some (.int .i64 boot) ∧ w.cell? ⟨gl, 2, none⟩ = some (.int .i64 y) ∧ w.cell? ⟨gl, 3, none⟩ = some (.slice (some ⟨k, 0, none⟩) n cap) ∧ w.cell? ⟨gl, 4, none⟩ = some (.pointer (some ⟨gd, 0, none⟩)) ∧ w.cell? ⟨k, m * 2, none⟩ = some (.int .i64 id) ∧ w.cell? ⟨k, m * 2 + 1, none⟩ = some (.int .i64 used) := by
  subst hm hy
  obtain ⟨k', cap', e, _, q0, q1⟩ := h.log.segs.at pre.length (by simp)
  injection e with e1 e2 e3
  injection e1 with e1
  injection e1 with e1 _ _
  subst e1
  simp only [List.getElem_append_right (Nat.le_refl _), Nat.sub_self, List.getElem_cons_zero] at q0 q1
  obtain ⟨c0, c1, c2, c3, c4, -⟩ := h.log.cells
  exact ⟨c0, c1, c2, c3, c4, q0, q1⟩
theorem number8_any (n : Nat) (i : Int) (hi : i = (n : Int)) (hn : n ≤ 9223372036854775807) (w : World) : Calls Tryd.prog 43 #[.int .i64 i, .int .i64 8] w fun e w' => e = .returned (.string (toB (num n 8))) ∧ Below w.heap.size w w' := by
  subst hi; exact number8_calls n hn w
theorem number2_any (n : Nat) (i : Int) (hi : i = (n : Int)) (hn : n ≤ 9223372036854775807) (w : World) : Calls Tryd.prog 43 #[.int .i64 i, .int .i64 2] w fun e w' => e = .returned (.string (toB (num n 2))) ∧ Below w.heap.size w w' := by
  subst hi; exact number2_calls n hn w
theorem save_zero {d d' : Dk} {l l' : Lg} {c : Cp} (h : save d l c = (d', l', 0)) : l' = ⟨c, 1 - l.place⟩ ∧ d'.queue = [] ∧ d'.now.length = d.now.length := by
  unfold save at h
  split at h
  · simp at h
  · simp only at h
    split at h
    · rename_i h1
      simp only [Prod.mk.injEq] at h
      exact absurd h.2.2 h1
    · rename_i h1
      split at h
      · rename_i h2
        simp only [Prod.mk.injEq] at h
        exact absurd h.2.2 h2
      · rename_i h2
        simp only [Prod.mk.injEq] at h
        have h1' := Decidable.of_not_not h1
        have h2' := Decidable.of_not_not h2
        have e1 := write_ok_now _ _ _ h1'
        refine ⟨h.2.1.symm, ?_, ?_⟩
        · rw [← h.1]
          unfold Dk.flush at h2' ⊢
          split
          · rename_i h3; rw [if_pos h3] at h2'; cases h2'
          · split
            · rename_i h3 h4; rw [if_neg h3, if_pos h4] at h2'; cases h2'
            · rfl
        · rw [← h.1, ← e1]
          unfold Dk.flush at h2' ⊢
          split
          · rfl
          · split
            · rename_i h3 h4; rw [if_neg h3, if_pos h4] at h2'; cases h2'
            · rfl
theorem AP.used {B : Nat} {w0 w w' : World} {g4 gl gd : Nat} {d : Dk} {serial boot seq : Nat} {pre : List Seg} {id used used' place k n cap : Nat} {row : Array Value} (h : AP B w0 w g4 gl gd d serial boot seq pre id used place k n cap)
    (hr : w.heap[k]? = some (.cells row 71 (0, 0))) (hw : w'.heap[k]? = some (.cells (row.setIfInBounds (pre.length * 2 + 1) (.int .i64 used')) 71 (0, 0))) (hg : w.grownBy w' (some k)) : AP B w0 w' g4 gl gd d serial boot seq pre id used' place k n cap := by
  have hk := types_blk hr hg
  obtain ⟨row', e1, e2, e3, e4, e5⟩ := h.log.segs.setUsed (u' := used')
  rw [hr] at e1
  injection e1 with e1
  injection e1 with e1 _ _
  subst e1
  exact ⟨⟨hk _ _ _ _ (by decide) h.log.blk, e5 _ hw, h.log.ge⟩, h.dk.keepT hk (by decide) (by decide) (by decide), hk _ _ _ _ (by decide) h.rcd, h.frm.trans (FrL.blk hr hg e4 (.inr rfl)), h.ge, h.le⟩
theorem AP.seq {B : Nat} {w0 w w' : World} {g4 gl gd : Nat} {d : Dk} {serial boot seq seq' : Nat} {pre : List Seg} {id used place k n cap : Nat} (h : AP B w0 w g4 gl gd d serial boot seq pre id used place k n cap)
    (hw : w'.heap[gl]? = some (.cells #[.int .i64 serial, .int .i64 boot, .int .i64 seq', .slice (some ⟨k, 0, none⟩) n cap, .pointer (some ⟨gd, 0, none⟩), .int .i64 place] 83 (0, 0))) (hg : w.grownBy w' (some gl)) : AP B w0 w' g4 gl gd d serial boot seq' pre id used place k n cap := by
  have hk := types_blk h.log.blk hg
  exact ⟨⟨hw, own_keep h.log.segs (fun k cs f hr => hk _ _ _ _ (by decide) hr), h.log.ge⟩, h.dk.keepT hk (by decide) (by decide) (by decide), hk _ _ _ _ (by decide) h.rcd, h.frm.trans (FrL.blk h.log.blk hg h.log.ge (.inl rfl)), h.ge, h.le⟩
theorem AP.shut {B : Nat} {w0 w w' : World} {g4 gl gd : Nat} {d : Dk} {serial boot seq : Nat} {pre : List Seg} {id used place k n cap : Nat} (h : AP B w0 w g4 gl gd d serial boot seq pre id used place k n cap) (hg : w.grownBy w' (some g4)) :
    DAt B w' gd d ∧ LAt B w' gl gd ⟨⟨serial, boot, seq, pre ++ [⟨id, used⟩]⟩, place⟩ ∧ FrL B w0 w' := by
  have hk := types_blk h.rcd hg
  exact ⟨h.dk.keepT hk (by decide) (by decide) (by decide), ⟨_, hk _ _ _ _ (by decide) h.log.blk, own_keep h.log.segs (fun k cs f hr => hk _ _ _ _ (by decide) hr), h.log.ge⟩, h.frm.own hg h.le h.ge⟩
theorem AP.opened {B : Nat} {w0 w w' : World} {g4 gl gd : Nat} {d d2 : Dk} {serial boot seq : Nat} {pre : List Seg} {id used place k n cap : Nat} (h : AP B w0 w g4 gl gd d serial boot seq pre id used place k n cap) {sr2 : Nat} {pr2 : List Seg} {i2 us2 pl2 m2 : Nat} (hm : m2 = pr2.length)
    (hd : DAt B w' gd d2) (hl : LAt B w' gl gd ⟨⟨sr2, boot, seq, pr2 ++ [⟨i2, us2⟩]⟩, pl2⟩) (hf : FrL B w w') : ∃ k2 cap2, AP B w0 w' g4 gl gd d2 sr2 boot seq pr2 i2 us2 pl2 k2 (m2 + 1) cap2 := by
  obtain ⟨vS, hl⟩ := hl
  obtain ⟨k2, cap2, rfl, -, -, -⟩ := hl.segs.at 0 (by show 0 < (pr2 ++ [(⟨i2, us2⟩ : Seg)]).length; simp)
  refine ⟨k2, cap2, ⟨?_, hd, hf.frm _ _ _ _ h.rcd (by decide) (by decide) (by decide) (by decide) (by decide), h.frm.trans hf, h.ge, h.le⟩⟩
  rw [hm]; simpa using hl
theorem AP.bad {B : Nat} {w0 w w1 w' : World} {g4 gl gd : Nat} {d d2 : Dk} {serial boot seq : Nat} {pre : List Seg} {id used place k n cap : Nat} {l2 : Lg} (h : AP B w0 w g4 gl gd d serial boot seq pre id used place k n cap)
    (hd : DAt B w1 gd d2) (hl : LAt B w1 gl gd l2) (hf : FrL B w w1) (hg : w1.grownBy w' (some g4)) : DAt B w' gd d2 ∧ LAt B w' gl gd l2 ∧ FrL B w0 w' := by
  have hr := hf.frm _ _ _ _ h.rcd (by decide) (by decide) (by decide) (by decide) (by decide)
  have hk := types_blk hr hg
  obtain ⟨vS, hl⟩ := hl
  exact ⟨hd.keepT hk (by decide) (by decide) (by decide), ⟨_, hk _ _ _ _ (by decide) hl.blk, own_keep hl.segs (fun k cs f hr => hk _ _ _ _ (by decide) hr), hl.ge⟩, (h.frm.trans hf).own hg h.le h.ge⟩
/-- a log whose last segment is a new one -/
theorem openSeg_zero {d d2 : Dk} {serial boot seq : Nat} {segs : List Seg} {place : Nat} {l2 : Lg} (h : openSeg d ⟨⟨serial, boot, seq, segs⟩, place⟩ = (d2, l2, 0)) (hok : SegsOk (segsN d.now) segs) :
    ∃ sr2 pr2 i2 us2 pl2, l2 = ⟨⟨sr2, boot, seq, pr2 ++ [⟨i2, us2⟩]⟩, pl2⟩ ∧ i2 < segsN d2.now ∧ us2 = 0 ∧ pr2.length ≤ 63 ∧ d2.queue = [] ∧ d2.now.length = d.now.length ∧ segsN d2.now = segsN d.now := by
  unfold openSeg at h
  cases hf : freeId (segsN d.now) segs with
  | none => simp only [hf] at h; simp at h
  | some i =>
    simp only [hf] at h
    obtain ⟨h1, h2, h3⟩ := save_zero h
    have hm := (hok.more hf).len
    have h64 := segsN_le d.now
    rw [List.length_append, List.length_singleton] at hm
    have hsn : segsN d2.now = segsN d.now := by unfold segsN; rw [h3]
    exact ⟨serial + 1, segs, i, 0, 1 - place, h1, by rw [hsn]; exact (freeId_some hf).1, rfl, by omega, h2, h3, hsn⟩
theorem parts_any (n : Nat) (r : Nat) (hr : partsN n = r) (h : n ≤ 1000000000000000) (w : World) : Calls Tryd.prog 40 #[.int .i64 n] w fun e w' => e = .returned (.int .i64 r) ∧ Below w.heap.size w w' := by
  subst hr; exact parts_calls n h w
theorem lfits_any (B gl gd n : Nat) (serial boot seq place : Nat) (vS : Value) (pre : List Seg) (id used : Nat) (r : Bool) (hr : fits ⟨⟨serial, boot, seq, pre ++ [⟨id, used⟩]⟩, place⟩ n = r) (w : World) (hl : LRaw B w gl gd ⟨⟨serial, boot, seq, pre ++ [⟨id, used⟩]⟩, place⟩ vS) (hn : pre.length ≤ 63) (hu : used ≤ 16) (hsz : n ≤ 1000000000) :
    Calls Tryd.prog 27 #[.pointer (some ⟨gl, 0, none⟩), .int .i64 n] w fun e w' => e = .returned (.bool r) ∧ Below w.heap.size w w' := by
  subst hr; exact lfits_calls B gl gd n ⟨⟨serial, boot, seq, pre ++ [⟨id, used⟩]⟩, place⟩ vS pre id used w hl rfl hn hu hsz
theorem part_text (boot seq i of nn : Nat) (rest : List UInt8) (hnn : nn = min rest.length 233) :
    ((⟨#[82]⟩ : ByteArray) ++ toB (num boot 8) ++ toB (num seq 8) ++ toB (num i 2) ++ toB (num of 2) ++ toB (num nn 2) ++ (toB rest).extract 0 nn) = toB (Part.bytes ⟨boot, seq, i, of, rest.take 233⟩) := by
  have h1 : (⟨#[82]⟩ : ByteArray) = toB [82] := rfl
  have h2 : sub rest 0 (nn - 0) = rest.take 233 := by
    unfold sub
    rw [List.drop_zero, Nat.sub_zero, hnn]
    rcases Nat.le_total rest.length 233 with h | h
    · rw [Nat.min_eq_left h, List.take_length, List.take_of_length_le h]
    · rw [Nat.min_eq_right h]
  have h3 : (rest.take 233).length = nn := by rw [List.length_take, hnn, Nat.min_comm]
  rw [toB_extract, h2, h1]
  simp only [toB_add]
  unfold Part.bytes
  rw [h3]
  simp
theorem part_rest (nn : Nat) (rest : List UInt8) (hnn : nn = min rest.length 233) : (toB rest).extract nn rest.length = toB (rest.drop 233) := by
  rw [toB_extract]
  unfold sub
  rcases Nat.le_total rest.length 233 with h | h
  · rw [hnn, Nat.min_eq_left h, List.drop_of_length_le (Nat.le_refl _), List.drop_of_length_le h]; simp
  · rw [hnn, Nat.min_eq_right h, List.take_of_length_le (by simp)]
theorem last_pre (a b q : Nat) (l : List Seg) (s : Seg) : lastSeg ⟨a, b, q, l ++ [s]⟩ = s := lastSeg_mk a b q l s
/-- what Append answers -/
def resV : Res → Value
  | .bad e => .tuple #[.agg #[.int .i64 0, .int .i64 0, .string ⟨#[]⟩], .int .i64 e]
  | .ok r => .tuple #[.agg #[.int .i64 r.seq, .int .i64 r.seg, .string (toB r.body)], .int .i64 0]
def APost (B gl gd : Nat) (w : World) (r : Dk × Lg × Res) (e : Ending) (w' : World) : Prop := e = .returned (resV r.2.2) ∧ DAt B w' gd r.1 ∧ LAt B w' gl gd r.2.1 ∧ FrL B w w'
end Go.Proofs.YtfiocakhgpdlfaaDoor.Sg
