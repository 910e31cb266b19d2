/- A log in memory; its last segment, its next checkpoint, saving. Saving a checkpoint. -/
import Derived.Test.YtfiocakhgpdlfaaDoorG22
namespace Go.Proofs.YtfiocakhgpdlfaaDoor.Sg
open Go.RowKit Go.Lib Go.Proofs.YtfiocakhgpdlfaaDoor.Ap Go.Proofs.YtfiocakhgpdlfaaDoorW.PrintWords Go.Proofs.YtfiocakhgpdlfaaDoorW.PrintLast Go.Proofs.YtfiocakhgpdlfaaDoorW.PrintMore
set_option linter.unusedVariables false
set_option linter.unusedSimpArgs false

/-- a log in memory, on a disk -/
structure LRaw (B : Nat) (w : World) (gl gd : Nat) (l : Lg) (vS : Value) : Prop where
  blk : w.heap[gl]? = some (.cells #[.int .i64 l.cp.serial, .int .i64 l.cp.boot, .int .i64 l.cp.seq, vS, .pointer (some ⟨gd, 0, none⟩), .int .i64 l.place] 83 (0, 0))
  segs : SegsAt B w vS l.cp.segs
  ge : B ≤ gl
def LAt (B : Nat) (w : World) (gl gd : Nat) (l : Lg) : Prop := ∃ vS, LRaw B w gl gd l vS
theorem LRaw.cells {B : Nat} {w : World} {gl gd : Nat} {l : Lg} {vS : Value} (h : LRaw B w gl gd l vS) :
    w.cell? ⟨gl, 0, none⟩ = some (.int .i64 l.cp.serial) ∧ w.cell? ⟨gl, 1, none⟩ = some (.int .i64 l.cp.boot) ∧ w.cell? ⟨gl, 2, none⟩ = some (.int .i64 l.cp.seq) ∧ w.cell? ⟨gl, 3, none⟩ = some vS ∧ w.cell? ⟨gl, 4, none⟩ = some (.pointer (some ⟨gd, 0, none⟩)) ∧ w.cell? ⟨gl, 5, none⟩ = some (.int .i64 l.place) :=
  ⟨(blk_cell h.blk 0).trans rfl, (blk_cell h.blk 1).trans rfl, (blk_cell h.blk 2).trans rfl, (blk_cell h.blk 3).trans rfl, (blk_cell h.blk 4).trans rfl, (blk_cell h.blk 5).trans rfl⟩
theorem LRaw.step {B : Nat} {w w' : World} {gl gd : Nat} {l : Lg} {vS : Value} (h : LRaw B w gl gd l vS) (hb : Below w.heap.size w w') : LRaw B w' gl gd l vS := ⟨Lb.blk_below h.blk hb, h.segs.step hb, h.ge⟩
theorem LRaw.frS {B : Nat} {w w' : World} {gl gd : Nat} {l : Lg} {vS : Value} (h : LRaw B w gl gd l vS) (hf : FrS B w w') : LRaw B w' gl gd l vS :=
  ⟨hf.frm _ _ _ _ h.blk (by decide) (by decide) (by decide), own_keep h.segs (fun k cs f hr => hf.frm _ _ _ _ hr (by decide) (by decide) (by decide)), h.ge⟩
/-- what a log's functions leave alone -/
structure FrL (B : Nat) (w w' : World) : Prop where
  bel : Below B w w'
  frm : ∀ (k : Nat) (cs : Array Value) (t' : TypeId) (f : Nat × Nat), w.heap[k]? = some (.cells cs t' f) → t' ≠ 75 → t' ≠ 104 → t' ≠ 9 → t' ≠ 83 → t' ≠ 71 → w'.heap[k]? = some (.cells cs t' f)
theorem FrL.refl (B : Nat) (w : World) : FrL B w w := ⟨Below.refl B w, fun _ _ _ _ h _ _ _ _ _ => h⟩
theorem FrL.trans {B : Nat} {a b c : World} (h : FrL B a b) (k : FrL B b c) : FrL B a c := ⟨h.bel.trans k.bel, fun i cs t' f h1 h2 h3 h4 h5 h6 => k.frm i cs t' f (h.frm i cs t' f h1 h2 h3 h4 h5 h6) h2 h3 h4 h5 h6⟩
theorem FrL.of {B : Nat} {w w' : World} (h : Below w.heap.size w w') (hB : B ≤ w.heap.size) : FrL B w w' := ⟨h.mono hB, fun _ _ _ _ h1 _ _ _ _ _ => Lb.blk_below h1 h⟩
theorem FrS.toL {B : Nat} {w w' : World} (h : FrS B w w') : FrL B w w' := ⟨h.bel, fun k cs t' f h1 h2 h3 h4 _ _ => h.frm k cs t' f h1 h2 h3 h4⟩
theorem FrL.blk {B : Nat} {w w' : World} {g : Nat} {cs : Array Value} {t : TypeId} {f : Nat × Nat} (hb : w.heap[g]? = some (.cells cs t f)) (h : w.grownBy w' (some g)) (hB : B ≤ g) (ht : t = 83 ∨ t = 71) : FrL B w w' := by
  have hlt := blk_lt hb
  refine ⟨Lb.grown_below (Below.refl B w) h (by omega) hB, fun k cs' t' f' hk _ _ _ h4 h5 => types_blk hb h k cs' t' f' (fun e => ?_) hk⟩
  rcases ht with ht | ht
  · exact h4 (by rw [e, ht])
  · exact h5 (by rw [e, ht])

theorem last_calls (B : Nat) (a b c : Int) (k n cap : Nat) (segs : List Seg) (w : World) (h : SegsAt B w (.slice (some ⟨k, 0, none⟩) n cap) segs) (hn : segs.length = n) (h1 : 1 ≤ n) (h2 : n ≤ 1000) :
    Calls Tryd.prog 42 #[.agg #[.int .i64 a, .int .i64 b, .int .i64 c, .slice (some ⟨k, 0, none⟩) n cap]] w fun e w' => e = .returned (.pointer (some ⟨k, (n - 1) * 2, none⟩)) ∧ Below w.heap.size w w' := by
  obtain ⟨m, rfl⟩ : ∃ m, n = m + 1 := ⟨n - 1, by omega⟩
  have h1i : (m : Int) < ((m + 1 : Nat) : Int) := by omega
  clear h
  go_enter Tryd.func42, Tryd.ntmps42
  go_wp2_with (first
    | ((with_reducible refine gate_dst (N := 1) rfl ?_); refine box_event ?hg (N := 1) ?hd (cs := #[.int .i64 a, .int .i64 b, .int .i64 c, .slice (some ⟨k, 0, none⟩) (m + 1) cap]) (t := 78) ?hr ?_; (case hd => rfl); (case hg => rfl); (case hr => first | (go_simp; done) | (go_simp; rfl)); intro g1 hg1 w1 hx hb; have HB1 := Aside0.mk hb; have c3 : w1.cell? ⟨g1, 3, none⟩ = some (.slice (some ⟨k, 0, none⟩) (m + 1) cap) := (blk_cell hx 3).trans rfl; clear hx hb hg1))
  go_ret
  exact ⟨rfl, HB1.out⟩

set_option maxRecDepth 100000 in
theorem next_calls (B gl gd : Nat) (l : Lg) (vS : Value) (A : Option Addr) (n cap : Nat) (w : World) (h : LRaw B w gl gd l vS) (hs : l.cp.serial ≤ 9000000000000000000) :
    Calls Tryd.prog 38 #[.pointer (some ⟨gl, 0, none⟩), .slice A n cap] w fun e w' => e = .returned (.agg #[.int .i64 (l.cp.serial + 1 : Nat), .int .i64 l.cp.boot, .int .i64 l.cp.seq, .slice A n cap]) ∧ Below w.heap.size w w' := by
  have H := Aside0.mk h
  clear h
  go_enter Tryd.func38, Tryd.ntmps38
  go_wp2_with (first
    | ((with_reducible refine gate_dst (N := 4) rfl ?_); refine Lb.alloc_event ?hg (v := fun g => .pointer (some ⟨g, 0, none⟩)) (cs := #[.int .i64 0, .int .i64 0, .int .i64 0, .slice none 0 0]) (t := 78) (fr := (0, 0)) ?hr ?_; (case hg => rfl); (case hr => first | (go_simp; done) | (go_simp; rfl)); intro g4 hg4 w2 hx hb; have HX := Aside0.mk hx; have HB := Aside0.mk hb; have HG := Aside0.mk hg4; have HL := Aside0.mk (H.out.step hb); clear hx hb hg4))
  obtain ⟨c0, c1, c2, -, -, -⟩ := HL.out.cells
  have hw : IntKind.i64.wrap ((l.cp.serial : Int) + 1) = (l.cp.serial : Int) + 1 := by rw [IntKind.wrap_i64]; omega
  go_still_tail 18, (by kernel_rfl)
  change wpList _ _ _ _ _ w2.drew
  have HX3 := Aside0.mk (Lb.blk_below HX.out (Lb.below_drew w2))
  have HB3 := Aside0.mk (below_step HB.out (Lb.below_drew w2))
  clear c0 c1 c2
  generalize w2.drew = w3 at HX3 HB3 ⊢
  go_wp2_with (first
    | ((with_reducible refine gate_store (t := 78) (p := 4) rfl ?_); refine Lb.store_whole rfl rfl 78 (.tmp 4) (.tmp 22) rfl (new := #[.int .i64 (l.cp.serial + 1 : Nat), .int .i64 l.cp.boot, .int .i64 l.cp.seq, .slice A n cap]) rfl rfl HX3.out rfl (by kernel_rfl) (by simp [Value.oneCell']) ?_; intro w5 hb hg; have HX5 := Aside0.mk hb; have HB5 := Aside0.mk (Lb.grown_below HB3.out hg HB3.out.size (by have := HG.out; omega)); clear hb hg))
  have v0 := (blk_cell HX5.out 0).trans rfl
  have v1 := (blk_cell HX5.out 1).trans rfl
  have v2 := (blk_cell HX5.out 2).trans rfl
  have v3 := (blk_cell HX5.out 3).trans rfl
  exact bodyPost_ret (v := .agg #[.int .i64 (l.cp.serial + 1 : Nat), .int .i64 l.cp.boot, .int .i64 l.cp.seq, .slice A n cap]) (by simp [results, Tryd.results38, go_sem, v0, v1, v2, v3]) rfl ⟨rfl, HB5.out⟩
end Go.Proofs.YtfiocakhgpdlfaaDoor.Sg

namespace Go.Proofs.YtfiocakhgpdlfaaDoor.Sg
open Go.RowKit Go.Lib Go.Proofs.YtfiocakhgpdlfaaDoor.Ap Go.Proofs.YtfiocakhgpdlfaaDoorW.PrintWords Go.Proofs.YtfiocakhgpdlfaaDoorW.PrintLast Go.Proofs.YtfiocakhgpdlfaaDoorW.PrintMore
set_option linter.unusedVariables false
set_option linter.unusedSimpArgs false

theorem write_two (d : Dk) (n : Nat) (s : ByteArray) : (d.write n s).2 = 0 ∨ (d.write n s).2 = 20 := by
  unfold Dk.write; split
  · exact .inr rfl
  · split
    · exact .inr rfl
    · exact .inl rfl
theorem flush_two (d : Dk) : d.flush.2 = 0 ∨ d.flush.2 = 20 := by
  unfold Dk.flush; split
  · exact .inr rfl
  · split
    · exact .inr rfl
    · exact .inl rfl
theorem write_len (d : Dk) (n : Nat) (s : ByteArray) : (d.write n s).1.queue.length ≤ d.queue.length + 1 := by
  unfold Dk.write; split
  · simp
  · split
    · simp [Dk.gone, Dk.lose]
    · simp [Dk.tick, Dk.put]
theorem fitsI3 (c : Cp) : fitsI [(c.serial : Int), (c.boot : Int), (c.seq : Int)] = fitsC c := by
  unfold fitsI fitsC top
  rw [Bool.eq_iff_iff]
  simp
  omega
theorem cp_size (c : Cp) (h : c.segs.length ≤ 64) : (toB c.bytes).size ≤ 256 := by rw [toB_size, Cp.bytes_length]; omega

/-- the worlds in which a checkpoint is saved: the log and the box as they were -/
structure SV (B : Nat) (w0 w : World) (gl gd g3 : Nat) (l : Lg) (vS : Value) (d : Dk) (c : Cp) (A : Option Addr) (cap : Nat) : Prop where
  log : LRaw B w gl gd l vS
  dsk : DAt B w gd d
  box : w.heap[g3]? = some (.cells #[.int .i64 c.serial, .int .i64 c.boot, .int .i64 c.seq, .slice A c.segs.length cap] 78 (0, 0))
  segs : SegsAt B w (.slice A c.segs.length cap) c.segs
  frm : FrL B w0 w
theorem SV.step {B : Nat} {w0 w w' : World} {gl gd g3 : Nat} {l : Lg} {vS : Value} {d : Dk} {c : Cp} {A : Option Addr} {cap : Nat} (h : SV B w0 w gl gd g3 l vS d c A cap) (hb : Below w.heap.size w w') : SV B w0 w' gl gd g3 l vS d c A cap :=
  ⟨h.log.step hb, h.dsk.step hb, Lb.blk_below h.box hb, h.segs.step hb, h.frm.trans (FrL.of hb h.dsk.lt)⟩
theorem SV.disk {B : Nat} {w0 w w' : World} {gl gd g3 : Nat} {l : Lg} {vS : Value} {d d' : Dk} {c : Cp} {A : Option Addr} {cap : Nat} (h : SV B w0 w gl gd g3 l vS d c A cap) (hd : DAt B w' gd d') (hf : FrS B w w') : SV B w0 w' gl gd g3 l vS d' c A cap :=
  ⟨h.log.frS hf, hd, hf.frm _ _ _ _ h.box (by decide) (by decide) (by decide), own_keep h.segs (fun k cs f hr => hf.frm _ _ _ _ hr (by decide) (by decide) (by decide)), h.frm.trans hf.toL⟩
theorem SV.cells {B : Nat} {w0 w : World} {gl gd g3 : Nat} {l : Lg} {vS : Value} {d : Dk} {c : Cp} {A : Option Addr} {cap : Nat} (h : SV B w0 w gl gd g3 l vS d c A cap) :
    w.cell? ⟨gl, 4, none⟩ = some (.pointer (some ⟨gd, 0, none⟩)) ∧ w.cell? ⟨gl, 5, none⟩ = some (.int .i64 l.place) ∧ w.cell? ⟨g3, 0, none⟩ = some (.int .i64 c.serial) ∧ w.cell? ⟨g3, 1, none⟩ = some (.int .i64 c.boot) ∧ w.cell? ⟨g3, 2, none⟩ = some (.int .i64 c.seq) ∧ w.cell? ⟨g3, 3, none⟩ = some (.slice A c.segs.length cap) :=
  ⟨h.log.cells.2.2.2.2.1, h.log.cells.2.2.2.2.2, (blk_cell h.box 0).trans rfl, (blk_cell h.box 1).trans rfl, (blk_cell h.box 2).trans rfl, (blk_cell h.box 3).trans rfl⟩

theorem write_any (B g n : Nat) (i : Int) (hi : i = (n : Int)) (s : ByteArray) (d D : Dk) (r : Int) (hD : (d.write n s).1 = D) (hr : (d.write n s).2 = r) (w : World) (h : DAt B w g d) (hn : n < d.now.length) (hs : s.size ≤ 256) (hq : d.queue.length ≤ 1000) :
    Calls Tryd.prog 31 #[.pointer (some ⟨g, 0, none⟩), .int .i64 i, .string s] w fun e w' => e = .returned (.int .i64 r) ∧ DAt B w' g D ∧ FrS B w w' := by
  subst hi hD hr; exact write_calls B g n s d w h hn hs hq
theorem flush_any (B g : Nat) (d D : Dk) (r : Int) (hD : d.flush.1 = D) (hr : d.flush.2 = r) (w : World) (h : DAt B w g d) (hq : d.queue.length ≤ 1000000) :
    Calls Tryd.prog 33 #[.pointer (some ⟨g, 0, none⟩)] w fun e w' => e = .returned (.int .i64 r) ∧ DAt B w' g D ∧ FrS B w w' := by
  subst hD hr; exact flush_calls B g d w h hq
set_option maxRecDepth 100000 in
set_option maxHeartbeats 8000000 in
theorem save_calls (B gl gd : Nat) (d : Dk) (l : Lg) (vS : Value) (c : Cp) (A : Option Addr) (cap : Nat) (w : World) (hl : LRaw B w gl gd l vS) (hd : DAt B w gd d) (hs : SegsAt B w (.slice A c.segs.length cap) c.segs)
    (h1 : c.serial ≤ 9000000000000000000) (h2 : c.boot ≤ 9000000000000000000) (h3 : c.seq ≤ 9000000000000000000) (hn : c.segs.length ≤ 64) (hid : ∀ s ∈ c.segs, s.id ≤ 1000 ∧ s.used ≤ 1000) (hp : l.place ≤ 1) (hq : d.queue.length ≤ 100) (h2n : 2 ≤ d.now.length) :
    Calls Tryd.prog 39 #[.pointer (some ⟨gl, 0, none⟩), .agg #[.int .i64 c.serial, .int .i64 c.boot, .int .i64 c.seq, .slice A c.segs.length cap]] w fun e w' => e = .returned (.int .i64 (save d l c).2.2) ∧ DAt B w' gd (save d l c).1 ∧ LAt B w' gl gd (save d l c).2.1 ∧ FrL B w w' := by
  have HL := Aside0.mk hl
  have HD := Aside0.mk hd
  have HS := Aside0.mk hs
  have HID := Aside0.mk hid
  have HSZ := Aside0.mk (cp_size c hn)
  have hF3 := fitsI3 c
  have hp1 : (0 : Int) ≤ 1 - (l.place : Int) := by omega
  have hp2 : (1 : Int) - (l.place : Int) = ((1 - l.place : Nat) : Int) := by omega
  have HP2 := Aside0.mk hp2
  have HLT : Aside0 (1 - l.place < d.now.length) := ⟨by omega⟩
  clear hl hd hs hid hp2
  cases hfit : fitsC c with
  | false =>
    have HR : Aside0 (save d l c = (d, l, 21)) := ⟨by unfold save; rw [if_pos hfit]⟩
    rw [HR.out]
    have HFI := Aside0.mk (hF3.trans hfit)
    clear hF3 hfit
    go_enter Tryd.func39, Tryd.ntmps39
    go_wp2_with (first
      | ((with_reducible refine gate_dst (N := 3) rfl ?_); refine box_event ?hg (N := 3) ?hd (cs := #[.int .i64 c.serial, .int .i64 c.boot, .int .i64 c.seq, .slice A c.segs.length cap]) (t := 78) ?hr ?_; (case hd => rfl); (case hg => rfl); (case hr => first | (go_simp; done) | (go_simp; rfl)); intro g3 hg3 w1 hx hb; have HK : Aside0 (SV B w w1 gl gd g3 l vS d c A cap) := ⟨⟨HL.out.step hb, HD.out.step hb, hx, HS.out.step hb, FrL.of hb HD.out.lt⟩⟩; obtain ⟨-, -, b0, b1, b2, b3⟩ := HK.out.cells; clear hx hb hg3)
      | ((with_reducible refine gate_dst (N := 13) rfl ?_); refine Lb.alloc_event ?hg (v := fun g => .slice (some ⟨g, 0, none⟩) 3 3) (cs := #[.int .i64 c.serial, .int .i64 c.boot, .int .i64 c.seq]) (t := 3) (fr := (0, 0)) ?hr ?_; (case hg => rfl); (case hr => first | (go_simp; done) | (go_simp; rfl)); intro g13 hg13 w2 hx hb; have HX13 := Aside0.mk hx; replace HK := Aside0.mk (HK.out.step hb); clear hx hb hg13 b0 b1 b2 b3)
      | (go_at_call 57; (with_reducible refine (fits3_calls g13 _ _ _ _ HFI.out _ HX13.out).mono ?_); rintro e3 w3 ⟨rfl, hb⟩; replace HK := Aside0.mk (HK.out.step hb); clear hb))
    go_ret
    exact ⟨rfl, HK.out.dsk, ⟨vS, HK.out.log⟩, HK.out.frm⟩
  | true =>
    have HFI := Aside0.mk (hF3.trans hfit)
    have HFT := Aside0.mk hfit
    have HWI : Aside0 (IntKind.i64.wrap (1 - (l.place : Int)) = ((1 - l.place : Nat) : Int)) := ⟨by rw [IntKind.wrap_i64]; omega⟩
    have hq' : d.queue.length ≤ 1000 := by omega
    obtain ⟨D1, hD1⟩ : ∃ D1, (d.write (1 - l.place) (toB c.bytes)).1 = D1 := ⟨_, rfl⟩
    have hq1 : D1.queue.length ≤ 1000000 := by rw [← hD1]; have := write_len d (1 - l.place) (toB c.bytes); omega
    have HD1 := Aside0.mk hD1
    clear hF3 hfit hD1
    rcases write_two d (1 - l.place) (toB c.bytes) with hr1 | hr1
    · have HR1 := Aside0.mk hr1
      obtain ⟨D2, hD2⟩ : ∃ D2, D1.flush.1 = D2 := ⟨_, rfl⟩
      have HD2 := Aside0.mk hD2
      rcases flush_two D1 with hr2 | hr2
      · have HR2 := Aside0.mk hr2
        have HR : Aside0 (save d l c = (D2, ⟨c, 1 - l.place⟩, 0)) := ⟨by unfold save; rw [if_neg (by simp [HFT.out])]; simp only [hr1, HD1.out, hr2, hD2]; rfl⟩
        rw [HR.out]
        clear hr1 hr2 hD2
        go_enter Tryd.func39, Tryd.ntmps39
        go_wp2_with (first
          | ((with_reducible refine gate_dst (N := 3) rfl ?_); refine box_event ?hg (N := 3) ?hd (cs := #[.int .i64 c.serial, .int .i64 c.boot, .int .i64 c.seq, .slice A c.segs.length cap]) (t := 78) ?hr ?_; (case hd => rfl); (case hg => rfl); (case hr => first | (go_simp; done) | (go_simp; rfl)); intro g3 hg3 w1 hx hb; have HK : Aside0 (SV B w w1 gl gd g3 l vS d c A cap) := ⟨⟨HL.out.step hb, HD.out.step hb, hx, HS.out.step hb, FrL.of hb HD.out.lt⟩⟩; obtain ⟨-, -, b0, b1, b2, b3⟩ := HK.out.cells; clear hx hb hg3)
          | ((with_reducible refine gate_dst (N := 13) rfl ?_); refine Lb.alloc_event ?hg (v := fun g => .slice (some ⟨g, 0, none⟩) 3 3) (cs := #[.int .i64 c.serial, .int .i64 c.boot, .int .i64 c.seq]) (t := 3) (fr := (0, 0)) ?hr ?_; (case hg => rfl); (case hr => first | (go_simp; done) | (go_simp; rfl)); intro g13 hg13 w2 hx hb; have HX13 := Aside0.mk hx; replace HK := Aside0.mk (HK.out.step hb); clear hx hb hg13 b0 b1 b2 b3)
          | (go_at_call 57; (with_reducible refine (fits3_calls g13 _ _ _ _ HFI.out _ HX13.out).mono ?_); rintro e3 w3 ⟨rfl, hb⟩; replace HK := Aside0.mk (HK.out.step hb); clear hb))
        replace HK := Aside0.mk (HK.out.step (Lb.below_drew _))
        obtain ⟨b4, b5, b0, b1, b2, b3⟩ := HK.out.cells
        go_region_held3 (fun w' => w'.cell? ⟨gl, 4, none⟩ = some (.pointer (some ⟨gd, 0, none⟩)) ∧ w'.cell? ⟨gl, 5, none⟩ = some (.int .i64 l.place) ∧ w'.cell? ⟨g3, 0, none⟩ = some (.int .i64 c.serial) ∧ w'.cell? ⟨g3, 1, none⟩ = some (.int .i64 c.boot) ∧ w'.cell? ⟨g3, 2, none⟩ = some (.int .i64 c.seq) ∧ w'.cell? ⟨g3, 3, none⟩ = some (.slice A c.segs.length cap)) (exact HK.out.cells) (first
          | (go_at_call 32; (with_reducible refine (bytes_calls B c _ _ HK.out.segs h1 h2 h3 hn HID.out).mono ?_); rintro e4 w4 ⟨rfl, hb⟩; replace HK := Aside0.mk (HK.out.step hb); clear hb)
          | (go_at_call 31; (with_reducible refine (write_any B gd (1 - l.place) _ HWI.out _ d D1 0 HD1.out HR1.out _ HK.out.dsk HLT.out HSZ.out hq').mono ?_); rintro e5 w5 ⟨rfl, hd5, hf5⟩; replace HK := Aside0.mk (HK.out.disk hd5 hf5); clear hd5 hf5))
        clear b4 b5 b0 b1 b2 b3
        obtain ⟨b4, -, -, -, -, -⟩ := HK.out.cells
        go_wp2_with (first
          | (go_at_call 33; (with_reducible refine (flush_any B gd D1 D2 0 HD2.out HR2.out _ HK.out.dsk hq1).mono ?_); rintro e6 w6 ⟨rfl, hd6, hf6⟩; replace HK := Aside0.mk (HK.out.disk hd6 hf6); clear hd6 hf6 b4; obtain ⟨-, b5, b0, b1, b2, b3⟩ := HK.out.cells)
          | ((with_reducible refine gate_store (t := 78) (p := 42) rfl ?_); refine Lb.store_part rfl rfl 78 (.tmp 42) (.tmp 40) rfl (g := gl) (off := 0) (u := .agg #[.int .i64 c.serial, .int .i64 c.boot, .int .i64 c.seq, .slice A c.segs.length cap]) [.int .i64 c.serial, .int .i64 c.boot, .int .i64 c.seq, .slice A c.segs.length cap] rfl rfl rfl HK.out.log.blk (by kernel_rfl) (by simp) (by simp [Value.oneCell']) ?_; intro w7 cur' hb hcur hg; have hcur' : cur' = #[.int .i64 c.serial, .int .i64 c.boot, .int .i64 c.seq, .slice A c.segs.length cap, .pointer (some ⟨gd, 0, none⟩), .int .i64 l.place] := (by apply Array.toList_inj.1; rw [hcur]; rfl); subst hcur'; have HX7 := Aside0.mk hb; have HG7 := Aside0.mk hg; have b5' : w7.cell? ⟨gl, 5, none⟩ = some (.int .i64 l.place) := (blk_cell hb 5).trans rfl; clear hb hg hcur b5 b0 b1 b2 b3)
          | ((with_reducible refine gate_store (t := 3) (p := 50) rfl ?_); refine Lb.store_one rfl rfl 3 (.tmp 50) (.tmp 48) rfl (g := gl) (off := 5) (u := .int .i64 (1 - (l.place : Int))) rfl rfl rfl rfl HX7.out (by kernel_rfl) (by simp) ?_; intro w8 hb hg; rw [HP2.out] at hb; have HX8 := Aside0.mk hb; have HG8 := Aside0.mk hg; clear hb hg b5'))
        go_ret
        have k7 := types_blk HK.out.log.blk HG7.out
        have k8 := types_blk HX7.out HG8.out
        have hd8 := (HK.out.dsk.other HK.out.log.blk HG7.out (by decide) (by decide) (by decide)).other HX7.out HG8.out (by decide) (by decide) (by decide)
        have hf8 := (HK.out.frm.trans (FrL.blk HK.out.log.blk HG7.out HK.out.log.ge (.inl rfl))).trans (FrL.blk HX7.out HG8.out HK.out.log.ge (.inl rfl))
        have hs8 := own_keep (own_keep HK.out.segs (fun k cs f hr => k7 _ _ _ _ (by decide) hr)) (fun k cs f hr => k8 _ _ _ _ (by decide) hr)
        exact ⟨rfl, hd8, ⟨_, HX8.out, hs8, HK.out.log.ge⟩, hf8⟩
      · have HR2 := Aside0.mk hr2
        have HR : Aside0 (save d l c = (D2, l, 20)) := ⟨by unfold save; rw [if_neg (by simp [HFT.out])]; simp only [hr1, HD1.out, hr2, hD2]; rfl⟩
        rw [HR.out]
        clear hr1 hr2 hD2
        go_enter Tryd.func39, Tryd.ntmps39
        go_wp2_with (first
          | ((with_reducible refine gate_dst (N := 3) rfl ?_); refine box_event ?hg (N := 3) ?hd (cs := #[.int .i64 c.serial, .int .i64 c.boot, .int .i64 c.seq, .slice A c.segs.length cap]) (t := 78) ?hr ?_; (case hd => rfl); (case hg => rfl); (case hr => first | (go_simp; done) | (go_simp; rfl)); intro g3 hg3 w1 hx hb; have HK : Aside0 (SV B w w1 gl gd g3 l vS d c A cap) := ⟨⟨HL.out.step hb, HD.out.step hb, hx, HS.out.step hb, FrL.of hb HD.out.lt⟩⟩; obtain ⟨-, -, b0, b1, b2, b3⟩ := HK.out.cells; clear hx hb hg3)
          | ((with_reducible refine gate_dst (N := 13) rfl ?_); refine Lb.alloc_event ?hg (v := fun g => .slice (some ⟨g, 0, none⟩) 3 3) (cs := #[.int .i64 c.serial, .int .i64 c.boot, .int .i64 c.seq]) (t := 3) (fr := (0, 0)) ?hr ?_; (case hg => rfl); (case hr => first | (go_simp; done) | (go_simp; rfl)); intro g13 hg13 w2 hx hb; have HX13 := Aside0.mk hx; replace HK := Aside0.mk (HK.out.step hb); clear hx hb hg13 b0 b1 b2 b3)
          | (go_at_call 57; (with_reducible refine (fits3_calls g13 _ _ _ _ HFI.out _ HX13.out).mono ?_); rintro e3 w3 ⟨rfl, hb⟩; replace HK := Aside0.mk (HK.out.step hb); clear hb))
        replace HK := Aside0.mk (HK.out.step (Lb.below_drew _))
        obtain ⟨b4, b5, b0, b1, b2, b3⟩ := HK.out.cells
        go_region_held3 (fun w' => w'.cell? ⟨gl, 4, none⟩ = some (.pointer (some ⟨gd, 0, none⟩)) ∧ w'.cell? ⟨gl, 5, none⟩ = some (.int .i64 l.place) ∧ w'.cell? ⟨g3, 0, none⟩ = some (.int .i64 c.serial) ∧ w'.cell? ⟨g3, 1, none⟩ = some (.int .i64 c.boot) ∧ w'.cell? ⟨g3, 2, none⟩ = some (.int .i64 c.seq) ∧ w'.cell? ⟨g3, 3, none⟩ = some (.slice A c.segs.length cap)) (exact HK.out.cells) (first
          | (go_at_call 32; (with_reducible refine (bytes_calls B c _ _ HK.out.segs h1 h2 h3 hn HID.out).mono ?_); rintro e4 w4 ⟨rfl, hb⟩; replace HK := Aside0.mk (HK.out.step hb); clear hb)
          | (go_at_call 31; (with_reducible refine (write_any B gd (1 - l.place) _ HWI.out _ d D1 0 HD1.out HR1.out _ HK.out.dsk HLT.out HSZ.out hq').mono ?_); rintro e5 w5 ⟨rfl, hd5, hf5⟩; replace HK := Aside0.mk (HK.out.disk hd5 hf5); clear hd5 hf5))
        clear b4 b5 b0 b1 b2 b3
        obtain ⟨b4, -, -, -, -, -⟩ := HK.out.cells
        go_wp2_with (first
          | (go_at_call 33; (with_reducible refine (flush_any B gd D1 D2 20 HD2.out HR2.out _ HK.out.dsk hq1).mono ?_); rintro e6 w6 ⟨rfl, hd6, hf6⟩; replace HK := Aside0.mk (HK.out.disk hd6 hf6); clear hd6 hf6 b4))
        go_ret
        exact ⟨rfl, HK.out.dsk, ⟨vS, HK.out.log⟩, HK.out.frm⟩
    · have HR1 := Aside0.mk hr1
      have HR : Aside0 (save d l c = (D1, l, 20)) := ⟨by unfold save; rw [if_neg (by simp [HFT.out])]; simp only [hr1, HD1.out]; rfl⟩
      rw [HR.out]
      clear hr1
      go_enter Tryd.func39, Tryd.ntmps39
      go_wp2_with (first
        | ((with_reducible refine gate_dst (N := 3) rfl ?_); refine box_event ?hg (N := 3) ?hd (cs := #[.int .i64 c.serial, .int .i64 c.boot, .int .i64 c.seq, .slice A c.segs.length cap]) (t := 78) ?hr ?_; (case hd => rfl); (case hg => rfl); (case hr => first | (go_simp; done) | (go_simp; rfl)); intro g3 hg3 w1 hx hb; have HK : Aside0 (SV B w w1 gl gd g3 l vS d c A cap) := ⟨⟨HL.out.step hb, HD.out.step hb, hx, HS.out.step hb, FrL.of hb HD.out.lt⟩⟩; obtain ⟨-, -, b0, b1, b2, b3⟩ := HK.out.cells; clear hx hb hg3)
        | ((with_reducible refine gate_dst (N := 13) rfl ?_); refine Lb.alloc_event ?hg (v := fun g => .slice (some ⟨g, 0, none⟩) 3 3) (cs := #[.int .i64 c.serial, .int .i64 c.boot, .int .i64 c.seq]) (t := 3) (fr := (0, 0)) ?hr ?_; (case hg => rfl); (case hr => first | (go_simp; done) | (go_simp; rfl)); intro g13 hg13 w2 hx hb; have HX13 := Aside0.mk hx; replace HK := Aside0.mk (HK.out.step hb); clear hx hb hg13 b0 b1 b2 b3)
        | (go_at_call 57; (with_reducible refine (fits3_calls g13 _ _ _ _ HFI.out _ HX13.out).mono ?_); rintro e3 w3 ⟨rfl, hb⟩; replace HK := Aside0.mk (HK.out.step hb); clear hb))
      replace HK := Aside0.mk (HK.out.step (Lb.below_drew _))
      obtain ⟨b4, b5, b0, b1, b2, b3⟩ := HK.out.cells
      go_region_held3 (fun w' => w'.cell? ⟨gl, 4, none⟩ = some (.pointer (some ⟨gd, 0, none⟩)) ∧ w'.cell? ⟨gl, 5, none⟩ = some (.int .i64 l.place) ∧ w'.cell? ⟨g3, 0, none⟩ = some (.int .i64 c.serial) ∧ w'.cell? ⟨g3, 1, none⟩ = some (.int .i64 c.boot) ∧ w'.cell? ⟨g3, 2, none⟩ = some (.int .i64 c.seq) ∧ w'.cell? ⟨g3, 3, none⟩ = some (.slice A c.segs.length cap)) (exact HK.out.cells) (first
        | (go_at_call 32; (with_reducible refine (bytes_calls B c _ _ HK.out.segs h1 h2 h3 hn HID.out).mono ?_); rintro e4 w4 ⟨rfl, hb⟩; replace HK := Aside0.mk (HK.out.step hb); clear hb)
        | (go_at_call 31; (with_reducible refine (write_any B gd (1 - l.place) _ HWI.out _ d D1 20 HD1.out HR1.out _ HK.out.dsk HLT.out HSZ.out hq').mono ?_); rintro e5 w5 ⟨rfl, hd5, hf5⟩; replace HK := Aside0.mk (HK.out.disk hd5 hf5); clear hd5 hf5))
      clear b4 b5 b0 b1 b2 b3
      go_wp2
      go_ret
      exact ⟨rfl, HK.out.dsk, ⟨vS, HK.out.log⟩, HK.out.frm⟩
end Go.Proofs.YtfiocakhgpdlfaaDoor.Sg
