/- A checkpoint's bytes. -/
import Derived.Test.YtfiocakhgpdlfaaDoorHc
import Derived.Deep.RegionHeld3
import Derived.Deep.RegionWith
namespace Go.Proofs.YtfiocakhgpdlfaaDoor.Sg
open Go.RowKit Go.Lib Go.Proofs.YtfiocakhgpdlfaaDoor.Ap Go.Proofs.YtfiocakhgpdlfaaDoorW.PrintWords Go.Proofs.YtfiocakhgpdlfaaDoorW.PrintLast Go.Proofs.YtfiocakhgpdlfaaDoorW.PrintMore
set_option linter.unusedVariables false
set_option linter.unusedSimpArgs false

def flatS : List Seg → List Value
  | [] => []
  | x :: r => .int .i64 x.id :: .int .i64 x.used :: flatS r
theorem flatS_length : ∀ l : List Seg, (flatS l).length = l.length * 2
  | [] => rfl
  | x :: r => by simp only [flatS, List.length_cons, flatS_length r]; omega
theorem flatS_app (a b : List Seg) : flatS (a ++ b) = flatS a ++ flatS b := by
  induction a with
  | nil => rfl
  | cons x r ih => simp [flatS, ih]
theorem flatS_at : ∀ (l : List Seg) (i : Nat) (x : Seg), l[i]? = some x → (flatS l)[i * 2]? = some (.int .i64 x.id) ∧ (flatS l)[i * 2 + 1]? = some (.int .i64 x.used)
  | [], i, _, h => by simp at h
  | y :: r, 0, x, h => by
    simp at h
    subst h
    exact ⟨rfl, rfl⟩
  | y :: r, i + 1, x, h => by
    have ih := flatS_at r i x (by simpa using h)
    have e1 : (i + 1) * 2 = i * 2 + 1 + 1 := by omega
    rw [e1]
    exact ih
/-- a slice of segments, a row of the call's own -/
abbrev SegsAt (B : Nat) (w : World) (v : Value) (l : List Seg) : Prop := w.ownsRow B 71 2 v l.length (flatS l)
theorem SegsAt.at {B : Nat} {w : World} {v : Value} {l : List Seg} (h : SegsAt B w v l) (i : Nat) (hi : i < l.length) : ∃ k cap, v = .slice (some ⟨k, 0, none⟩) l.length cap ∧ B ≤ k ∧ w.cell? ⟨k, i * 2, none⟩ = some (.int .i64 (l[i]).id) ∧ w.cell? ⟨k, i * 2 + 1, none⟩ = some (.int .i64 (l[i]).used) := by
  obtain ⟨k, cap, row, e, _, hB, hr, hx⟩ := row_at h (by omega)
  obtain ⟨f1, f2⟩ := flatS_at l i l[i] (List.getElem?_eq_getElem hi)
  exact ⟨k, cap, e, hB, (blk_cell hr _).trans (hx _ _ f1), (blk_cell hr _).trans (hx _ _ f2)⟩
theorem SegsAt.step {B : Nat} {w w' : World} {v : Value} {l : List Seg} (h : SegsAt B w v l) (hb : Below w.heap.size w w') : SegsAt B w' v l := own_keep h (fun k cs f hr => Lb.blk_below hr hb)

/-- what is known while a checkpoint is laid out -/
structure BF (w0 w : World) (g b : Nat) (c : Cp) (A : Option Addr) (cS : Nat) (l : List UInt8) : Prop where
  blk : w.heap[g]? = some (.cells #[.int .i64 c.serial, .int .i64 c.boot, .int .i64 c.seq, .slice A c.segs.length cS] 78 (0, 0))
  bld : Bld b b l w
  bel : Below w0.heap.size w0 w
  ge : w0.heap.size ≤ g
  lt : g < b
  le : b ≤ w.heap.size
theorem BF.step {w0 w w' : World} {g b : Nat} {c : Cp} {A : Option Addr} {cS : Nat} {l : List UInt8} (h : BF w0 w g b c A cS l) (hb : Below w.heap.size w w') : BF w0 w' g b c A cS l :=
  ⟨Lb.blk_below h.blk hb, h.bld.step hb, below_step h.bel hb, h.ge, h.lt, Nat.le_trans h.le hb.size⟩
theorem BF.write {w0 w w' : World} {g b : Nat} {c : Cp} {A : Option Addr} {cS : Nat} {l l' : List UInt8} (h : BF w0 w g b c A cS l) (hb : Bld b b l' w') (hbel : Below b w w') : BF w0 w' g b c A cS l' :=
  ⟨(hbel.block g h.lt).trans h.blk, hb, h.bel.trans (hbel.mono (by have := h.ge; have := h.lt; omega)), h.ge, h.lt, Nat.le_trans h.le hbel.size⟩
theorem BF.cells {w0 w : World} {g b : Nat} {c : Cp} {A : Option Addr} {cS : Nat} {l : List UInt8} (h : BF w0 w g b c A cS l) :
    w.cell? ⟨g, 0, none⟩ = some (.int .i64 c.serial) ∧ w.cell? ⟨g, 1, none⟩ = some (.int .i64 c.boot) ∧ w.cell? ⟨g, 2, none⟩ = some (.int .i64 c.seq) ∧ w.cell? ⟨g, 3, none⟩ = some (.slice A c.segs.length cS) :=
  ⟨(blk_cell h.blk 0).trans rfl, (blk_cell h.blk 1).trans rfl, (blk_cell h.blk 2).trans rfl, (blk_cell h.blk 3).trans rfl⟩
theorem toB_add (a b : List UInt8) : toB a ++ toB b = toB (a ++ b) := by
  apply ByteArray.ext
  apply Array.toList_inj.1
  simp [toB]

theorem toB_size (l : List UInt8) : (toB l).size = l.length := by show l.toArray.size = _; simp
attribute [local go_sem] toB_size num_length
def headB (c : Cp) : List UInt8 := 67 :: (num c.serial 8 ++ num c.boot 8 ++ num c.seq 8 ++ num c.segs.length 1)
theorem segBytes_app (a b : List Seg) : segBytes (a ++ b) = segBytes a ++ segBytes b := by
  induction a with
  | nil => rfl
  | cons x r ih => simp [segBytes, ih]
set_option maxRecDepth 100000 in
set_option maxHeartbeats 8000000 in
theorem bytes_calls (B : Nat) (c : Cp) (v : Value) (w : World) (h : SegsAt B w v c.segs) (h1 : c.serial ≤ 9000000000000000000) (h2 : c.boot ≤ 9000000000000000000) (h3 : c.seq ≤ 9000000000000000000) (hl : c.segs.length ≤ 64) (hs : ∀ s ∈ c.segs, s.id ≤ 1000 ∧ s.used ≤ 1000) :
    Calls Tryd.prog 32 #[.agg #[.int .i64 c.serial, .int .i64 c.boot, .int .i64 c.seq, v]] w fun e w' => e = .returned (.string (toB c.bytes)) ∧ Below w.heap.size w w' := by
  obtain ⟨A, cS, rfl, hcS⟩ := own_slice h
  have H := Aside0.mk h
  have HS := Aside0.mk hs
  have HW : Aside0 ((⟨#[67]⟩ : ByteArray) ++ toB (num c.serial 8) ++ toB (num c.boot 8) ++ toB (num c.seq 8) ++ toB (num c.segs.length 1) = toB (headB c)) := ⟨by
    rw [show (⟨#[67]⟩ : ByteArray) = toB [67] from rfl, toB_add, toB_add, toB_add, toB_add]; simp [headB]⟩
  have HL : Aside0 ((headB c).length = 26) := ⟨by simp [headB, num_length]⟩
  clear h hs
  go_enter Tryd.func32, Tryd.ntmps32
  go_wp2_with (first
    | ((with_reducible refine gate_dst (N := 1) rfl ?_); refine box_event ?hg (N := 1) ?hd (cs := #[.int .i64 c.serial, .int .i64 c.boot, .int .i64 c.seq, .slice A c.segs.length cS]) (t := 78) ?hr ?_; (case hd => rfl); (case hg => rfl); (case hr => first | (go_simp; done) | (go_simp; rfl)); intro g1 hg1 w1 hx hb; have HX1 := Aside0.mk hx; have HB1 := Aside0.mk hb; have HG1 := Aside0.mk hg1; clear hx hb hg1)
    | ((with_reducible refine gate_dst (N := 3) rfl ?_); refine Lb.alloc_event ?hg (v := fun g => .pointer (some ⟨g, 0, none⟩)) (cs := #[.pointer none, .slice none 0 0]) (t := 107) (fr := (0, 0)) ?hr ?_; (case hg => rfl); (case hr => first | (go_simp; done) | (go_simp; rfl)); intro g3 hg3 w3 hx hb; have HK : Aside0 (BF w w3 g1 g3 c A cS []) := ⟨⟨Lb.blk_below HX1.out hb, bld_new hx (Nat.le_refl _), below_step HB1.out hb, by have := HG1.out; omega, by have := blk_lt HX1.out; omega, by have := blk_lt hx; omega⟩⟩; clear hx hb hg3))
  replace HK := Aside0.mk (HK.out.step (Lb.below_drew _))
  have k0 := HK.out.cells
  go_region_held3 (fun w' => w'.cell? ⟨g1, 0, none⟩ = some (.int .i64 c.serial) ∧ w'.cell? ⟨g1, 1, none⟩ = some (.int .i64 c.boot) ∧ w'.cell? ⟨g1, 2, none⟩ = some (.int .i64 c.seq) ∧ w'.cell? ⟨g1, 3, none⟩ = some (.slice A c.segs.length cS)) (exact HK.out.cells) (first
    | (go_at_call 43; (with_reducible refine (number8_calls _ (by omega) _).mono ?_); rintro e w5 ⟨rfl, hb⟩; replace HK := Aside0.mk (HK.out.step hb); clear hb)
    | (go_at_call 43; (with_reducible refine (number1_calls _ (by omega) _).mono ?_); rintro e w5 ⟨rfl, hb⟩; replace HK := Aside0.mk (HK.out.step hb); clear hb)
    | (go_at_call 53; (with_reducible refine (ws_any g3 g3 [] _ (headB c) HW.out _ HK.out.bld (by rw [HL.out]; decide) HK.out.le).mono ?_); rintro e w6 ⟨rfl, hb1, hb2⟩; replace HK := Aside0.mk (HK.out.write hb1 hb2); clear hb1 hb2))
  clear k0
  obtain ⟨-, -, -, k3⟩ := HK.out.cells
  go_wp2_with fail
  clear k3
  go_loopg [27] c.segs.length (fun gk s27 wr1 => ∃ i : Nat, i + gk = c.segs.length ∧ s27 = .int .i64 i ∧ Aside0 (BF w wr1 g1 g3 c A cS (headB c ++ segBytes (c.segs.take i))))
  case atStart => exact ⟨0, by omega, rfl, ⟨by simpa [segBytes] using HK.out⟩⟩
  case round =>
    obtain ⟨i, hi, rfl, HD⟩ := hrel
    cases gk with
    | zero =>
      obtain rfl : i = c.segs.length := by omega
      have hii : ¬ ((c.segs.length : Int) < (c.segs.length : Int)) := by omega
      go_wp2_with (first
        | (go_at_call 54; (with_reducible refine (bs_calls g3 g3 _ _ HD.out.bld HD.out.le).mono ?_); rintro e w6 ⟨rfl, hb⟩; have HB6 := Aside0.mk (HD.out.bel.trans (hb.mono (by have := HD.out.ge; have := HD.out.lt; omega))); clear hb))
      go_ret
      exact ⟨rfl, HB6.out⟩
    | succ gk =>
      have hii : (i : Int) < (c.segs.length : Int) := by omega
      have hlt : i < c.segs.length := by omega
      obtain ⟨k, cap, hA, hBk, q0, q1⟩ := (H.out.step HD.out.bel).at i hlt
      injection hA with hA1 hA2 hA3
      subst hA1
      obtain ⟨x, hx⟩ : ∃ x, x = c.segs[i]'hlt := ⟨_, rfl⟩
      have HTK : Aside0 (headB c ++ segBytes (c.segs.take (i + 1)) = (headB c ++ segBytes (c.segs.take i)) ++ (num x.id 1 ++ num x.used 1)) := ⟨by rw [List.take_succ_eq_append_getElem hlt, segBytes_app, ← hx]; simp [segBytes]⟩
      have HLT : Aside0 ((headB c ++ segBytes (c.segs.take i)).length ≤ 1000) := ⟨by rw [List.length_append, HL.out, segBytes_length, List.length_take]; omega⟩
      have HW2 : Aside0 (toB (num x.id 1) ++ toB (num x.used 1) = toB (num x.id 1 ++ num x.used 1)) := ⟨toB_add _ _⟩
      obtain ⟨x1, x2⟩ := HS.out x (by rw [hx]; exact List.getElem_mem hlt)
      rw [← hx] at q0 q1
      clear hx hA2 hA3
      go_wp2_with (first
        | ((with_reducible refine gate_dst (N := 5) rfl ?_); refine Lb.alloc_event ?hg (v := fun g => .pointer (some ⟨g, 0, none⟩)) (cs := #[.int .i64 0, .int .i64 0]) (t := 71) (fr := (0, 0)) ?hr ?_; (case hg => rfl); (case hr => first | (go_simp; done) | (go_simp; rfl)); intro g5 hg5 w7 hx hb; have HX := Aside0.mk hx; have HB7 := Aside0.mk hb; have HG5 := Aside0.mk hg5; clear hx hb hg5)
        | ((with_reducible refine gate_store (t := 71) (p := 5) rfl ?_); refine Lb.store_whole rfl rfl 71 (.tmp 5) (.tmp 30) rfl (new := #[.int .i64 x.id, .int .i64 x.used]) rfl rfl HX.out rfl (by kernel_rfl) (by simp [Value.oneCell']) ?_; intro w8 hb hg; have HX8 := Aside0.mk hb; have HB8 := Aside0.mk (Lb.grown_below HB7.out hg HB7.out.size (by have := HG5.out; omega)); clear hb hg))
      have HX9 := Aside0.mk (Lb.blk_below HX8.out (Lb.below_drew _))
      have HK := Aside0.mk ((HD.out.step HB8.out).step (Lb.below_drew _))
      have d0 := (blk_cell HX9.out 0).trans rfl
      have d1 := (blk_cell HX9.out 1).trans rfl
      have HN2 : Aside0 ((num x.id 1 ++ num x.used 1).length = 2) := ⟨by simp [num_length]⟩
      go_region_with (first
        | (go_at_call 43; (with_reducible refine (number1_calls _ (by omega) _).mono ?_); rintro e w5 ⟨rfl, hb⟩; replace HK := Aside0.mk (HK.out.step hb); replace HX9 := Aside0.mk (Lb.blk_below HX9.out hb); have d0 := (blk_cell HX9.out 0).trans rfl; have d1 := (blk_cell HX9.out 1).trans rfl; clear hb)
        | (go_at_call 53; (with_reducible refine (ws_any g3 g3 _ _ (num x.id 1 ++ num x.used 1) HW2.out _ HK.out.bld (by rw [HN2.out]; have := HLT.out; omega) HK.out.le).mono ?_); rintro e w6 ⟨rfl, hb1, hb2⟩; replace HK := Aside0.mk (HK.out.write hb1 hb2); clear hb1 hb2 d0 d1))
      all_goals
       go_wp2
       go_roundg gk
       case measure => omega
       case rel => exact ⟨i + 1, by omega, by first | rfl | (congr 1; unfold wrap64; omega), ⟨by rw [HTK.out]; exact HK.out⟩⟩
end Go.Proofs.YtfiocakhgpdlfaaDoor.Sg
