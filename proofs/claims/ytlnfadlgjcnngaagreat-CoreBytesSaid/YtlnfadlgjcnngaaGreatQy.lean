/- Bytes of a file: cut, fill, sizable, file, Read. Write. -/
import Derived.Test.YtlnfadlgjcnngaaGreatQ20
import Derived.Lib.MinMax
namespace Go.Proofs.YtlnfadlgjcnngaaGreat.Co
open Go.RowKit Go.Maps Go.Lib Go.Proofs.YtlnfadlgjcnngaaGreat.Ap Go.Proofs.YtlnfadlgjcnngaaGreatW.PrintWords Go.Proofs.YtlnfadlgjcnngaaGreatW.PrintLast Go.Proofs.YtlnfadlgjcnngaaGreatW.PrintMore
set_option linter.unusedVariables false
set_option linter.unusedSimpArgs false

/-- a text of so many bytes -/
def cutB (s : ByteArray) (n : Nat) : ByteArray := if n ≤ s.size then s.extract 0 n else s ++ ⟨(Lib.repeatL [0] (n - s.size)).toArray⟩
theorem rep_len (k : Nat) : (Lib.repeatL [0] k).length = k := by
  induction k with
  | zero => rfl
  | succ k ih => simp [Lib.repeatL, ih] <;> omega
theorem rep_eq (k : Nat) : Lib.repeatL [0] k = List.replicate k 0 := by
  induction k with
  | zero => rfl
  | succ k ih => simp [Lib.repeatL, ih, List.replicate_succ]
set_option maxRecDepth 100000 in
theorem cut_calls (s : ByteArray) (n : Nat) (w : World) (hs : s.size ≤ 100000) (hn : n ≤ 100000) :
    Calls Tryz.prog 40 #[.string s, .int .i64 n] w fun e w' => e = .returned (.string (cutB s n)) ∧ Below w.heap.size w w' := by
  by_cases h : n ≤ s.size
  · have h1 : (n : Int) ≤ (s.size : Int) := by omega
    have h0 : (0 : Int) ≤ (n : Int) := by omega
    have e : cutB s n = s.extract 0 n := by unfold cutB; rw [if_pos h]
    rw [e]
    clear h e
    go_enter Tryz.func40, Tryz.ntmps40
    go_wp2_with fail
    go_ret
    exact ⟨rfl, Below.refl _ _⟩
  · have h1 : ¬ (n : Int) ≤ (s.size : Int) := by omega
    have hq : (n : Int) - (s.size : Int) = ((n - s.size : Nat) : Int) := by omega
    have hw : wrap64 ((n : Int) - (s.size : Int)) = ((n - s.size : Nat) : Int) := by
      rw [hq]; unfold wrap64; omega
    have hw2 : IntKind.i64.wrap ((n : Int) - (s.size : Int)) = ((n - s.size : Nat) : Int) := by rw [IntKind.wrap_i64]; omega
    have e : cutB s n = s ++ ⟨(Lib.repeatL [0] (n - s.size)).toArray⟩ := by unfold cutB; rw [if_neg h]
    rw [e]
    have hcc : ¬ 9223372036854775807 < s.size + (Lib.repeatL [0] (n - s.size)).length := by rw [rep_len]; omega
    have hrp := fun w => Tryz.strings_Repeat ⟨#[0]⟩ (n - s.size) w (by omega) (by show 1 * (n - s.size) ≤ _; omega)
    clear h e hq
    go_enter Tryz.func40, Tryz.ntmps40
    go_wp2_with (go_at_call 87; (refine (hrp _).mono ?_); rintro e1 w1 ⟨rfl, hb⟩; have HB := Aside0.mk hb; clear hb)
    go_ret
    exact ⟨rfl, HB.out⟩
/-- a node with other bytes -/
def Nd.filled (n : Nd) (d : ByteArray) : Nd := { n with data := d, size := (d.size : Int), used := ((d.size : Int) + 127) / 128 * 128 }
set_option maxRecDepth 100000 in
theorem fill_calls (b : Nat) (n : Nd) (d : ByteArray) (w : World) (hn : NodeAt w b n) (hd : d.size ≤ 100000) :
    Calls Tryz.prog 41 #[.pointer (some ⟨b, 0, none⟩), .string d] w fun e w' => e = .returned (.tuple #[]) ∧ NodeAt w' b (n.filled d) ∧ Kp [b] w w' := by
  have HN := Aside0.mk hn
  have HKP := Aside0.mk (Kp.refl [b] w)
  have a1 : IntKind.i64.wrap ((d.size : Int) + 128) = (d.size : Int) + 128 := by rw [IntKind.wrap_i64]; omega
  have a2 : IntKind.i64.wrap ((d.size : Int) + 128 - 1) = ((d.size + 127 : Nat) : Int) := by rw [IntKind.wrap_i64]; omega
  have a3 : wrap64 ((d.size : Int) + 128 - 1) = ((d.size + 127 : Nat) : Int) := by unfold wrap64; omega
  have a4 : wrap64 ((d.size : Int) + 128) = (d.size : Int) + 128 := by unfold wrap64; omega
  clear hn
  go_enter Tryz.func41, Tryz.ntmps41
  go_wp2_with (first
    | ((with_reducible refine gate_store (t := 9) (p := 7) rfl ?_); refine Lb.store_one rfl rfl 9 (.tmp 7) (.tmp 5) rfl (g := b) (off := 17) (u := .string d) rfl rfl rfl rfl HN.out (by kernel_rfl) (show 17 < 21 by decide) ?_; intro w3 hb hg; have hk := Kp.blk HN.out (.inr (.inl rfl)) hg; replace HKP := Aside0.mk (HKP.out.trans hk); replace HN : Aside0 (NodeAt w3 b { n with data := d }) := ⟨hb⟩; clear hb hg hk)
    | ((with_reducible refine gate_store (t := 3) (p := 13) rfl ?_); refine Lb.store_one rfl rfl 3 (.tmp 13) (.tmp 10) rfl (g := b) (off := 5) (u := .int .i64 d.size) rfl rfl rfl rfl HN.out (by kernel_rfl) (show 5 < 21 by decide) ?_; intro w4 hb hg; have hk := Kp.blk HN.out (.inr (.inl rfl)) hg; replace HKP := Aside0.mk (HKP.out.trans hk); replace HN : Aside0 (NodeAt w4 b { n with data := d, size := (d.size : Int) }) := ⟨hb⟩; clear hb hg hk; have n5 : w4.cell? ⟨b, 5, none⟩ = some (.int .i64 d.size) := (blk_cell HN.out 5).trans rfl)
    | ((with_reducible refine gate_store (t := 3) (p := 26) rfl ?_); refine Lb.store_one rfl rfl 3 (.tmp 26) (.tmp 23) rfl (g := b) (off := 6) (u := .int .i64 (((d.size : Int) + 127) / 128 * 128)) rfl rfl rfl rfl HN.out (by kernel_rfl) (show 6 < 21 by decide) ?_; intro w5 hb hg; have hk := Kp.blk HN.out (.inr (.inl rfl)) hg; replace HKP := Aside0.mk (HKP.out.trans hk); replace HN : Aside0 (NodeAt w5 b (n.filled d)) := ⟨hb⟩; clear hb hg hk n5))
  go_end0
  exact ⟨rfl, HN.out, HKP.out⟩
set_option maxRecDepth 100000 in
theorem sizable_calls (b : Nat) (n : Nd) (size : Int) (w : World) (hn : NodeAt w b n) (hk : n.kind = 1) (h0 : 0 ≤ size) (h1 : size ≤ 8192) :
    Calls Tryz.prog 35 #[.pointer (some ⟨b, 0, none⟩), .int .i64 size] w fun e w' => e = .returned (.int .i64 0) ∧ w = w' := by
  have n0 := (NodeAt.cells hn).1
  rw [hk] at n0
  clear hn hk
  go_enter Tryz.func35, Tryz.ntmps35
  go_wp2
  go_ret
  exact ⟨rfl, rfl⟩
set_option maxRecDepth 100000 in
set_option maxHeartbeats 4000000 in
theorem file_calls (g bN bM : Nat) (last : Int) (F : Int → Option Nat) (m b : Nat) (n : Nd) (now i bits : Int) (w : World) (h : FsAt w g bN bM last F m) (hi : InI i) (hF : F i = some b) (hn : NodeAt w b n) (hk : n.kind = 1) :
    Calls Tryz.prog 39 #[.pointer (some ⟨g, 0, none⟩), rootC now, .int .i64 i, .int .i64 bits] w fun e w' => e = .returned (.tuple #[.pointer (some ⟨b, 0, none⟩), .int .i64 0]) ∧ Below w.heap.size w w' := by
  have H := Aside0.mk h
  have HI := Aside0.mk (And.intro hi hF)
  have HN := Aside0.mk hn
  have HK := Aside0.mk hk
  have HB := Aside0.mk (Below.refl w.heap.size w)
  clear h hi hF hn hk
  go_enter Tryz.func39, Tryz.ntmps39
  go_wp2_with (first
    | ((with_reducible refine gate_dst (N := 5) rfl ?_); refine Lb.alloc_event ?hg (v := fun g => .pointer (some ⟨g, 0, none⟩)) (cs := callC now) (t := 29) (fr := (0, 0)) ?hr ?_; (case hg => rfl); (case hr => first | (go_simp; done) | (go_simp; rfl)); intro g5 hg5 w1 hx hb; have HX := Aside0.mk hx; replace H := Aside0.mk (H.out.step hb); replace HN := Aside0.mk (Lb.blk_below HN.out hb); replace HB := Aside0.mk (below_step HB.out hb); have n0 := (NodeAt.cells HN.out).1; rw [HK.out] at n0; obtain ⟨e0, e1, e2, e3⟩ := call_cells HX.out; clear hx hb hg5)
    | (go_at_call 38; (with_reducible refine (get_calls g bN bM last F m b i _ H.out HI.out.1 HI.out.2).mono ?_); rintro e w3 ⟨rfl, rfl⟩)
    | (go_at_call 81; (with_reducible refine (may_calls b n now bits _ HN.out).mono ?_); rintro e5 w5 ⟨rfl, hb⟩; replace HB := Aside0.mk (below_step HB.out hb); clear hb))
  go_ret2
  exact ⟨rfl, HB.out⟩
set_option maxRecDepth 100000 in
set_option maxHeartbeats 4000000 in
/-- all bytes of a file -/
theorem read_calls (g bN bM : Nat) (last : Int) (F : Int → Option Nat) (m b : Nat) (n : Nd) (now i : Int) (w : World) (h : FsAt w g bN bM last F m) (hi : InI i) (hF : F i = some b) (hn : NodeAt w b n) (hk : n.kind = 1) (hz : n.size = n.data.size) (hl : n.data.size ≤ 9999) :
    Calls Tryz.prog 14 #[.pointer (some ⟨g, 0, none⟩), rootC now, .int .i64 i, .int .i64 0, .int .i64 9999] w fun e w' => e = .returned (.tuple #[.string n.data, .bool true, .int .i64 0]) ∧ Below w.heap.size w w' := by
  have H := Aside0.mk h
  have HI := Aside0.mk (And.intro hi hF)
  have HN := Aside0.mk hn
  have HK := Aside0.mk hk
  have HZ := Aside0.mk hz
  have HB := Aside0.mk (Below.refl w.heap.size w)
  have hx : n.data.extract 0 n.data.size = n.data := by simp
  have hmin : min (9999 : Int) (n.data.size : Int) = n.data.size := by omega
  have hpos : (0 : Int) ≤ n.data.size := by omega
  obtain ⟨D, hD⟩ : ∃ D, n.data = D := ⟨_, rfl⟩
  have HD := Aside0.mk hD
  rw [hD] at hx hmin hpos hl ⊢
  by_cases h0 : D.size = 0
  · have hle : D.size ≤ 0 := by omega
    have he : (⟨#[]⟩ : ByteArray) = D := by
      cases D with
      | mk a => 
        have : a = #[] := by simpa [ByteArray.size] using h0
        rw [this]
    have hq : ((D.size : Int) : Int) = 0 := by omega
    have HE := Lib.hid he
    clear h hi hF hn hk hz hx hmin hpos hD hle he h0
    go_enter Tryz.func14, Tryz.ntmps14
    go_wp2_with (first
      | ((with_reducible refine gate_dst (N := 6) rfl ?_); refine Lb.alloc_event ?hg (v := fun g => .pointer (some ⟨g, 0, none⟩)) (cs := callC now) (t := 29) (fr := (0, 0)) ?hr ?_; (case hg => rfl); (case hr => first | (go_simp; done) | (go_simp; rfl)); intro g5 hg5 w1 hx hb; have HX := Aside0.mk hx; replace H := Aside0.mk (H.out.step hb); replace HN := Aside0.mk (Lb.blk_below HN.out hb); replace HB := Aside0.mk (below_step HB.out hb); obtain ⟨e0, e1, e2, e3⟩ := call_cells HX.out; clear hx hb hg5)
      | (go_at_call 39; (with_reducible refine (file_calls g bN bM last F m b n now i 4 _ H.out HI.out.1 HI.out.2 HN.out HK.out).mono ?_); rintro e w3 ⟨rfl, hb⟩; replace HN := Aside0.mk (Lb.blk_below HN.out hb); replace HB := Aside0.mk (below_step HB.out hb); clear hb e0 e1 e2 e3; have n5 : w3.cell? ⟨b, 5, none⟩ = some (.int .i64 0) := ((blk_cell HN.out 5).trans (show (ndC n)[5]? = some (.int .i64 n.size) from rfl)).trans (by rw [HZ.out, HD.out, hq])))
    go_ret3
    exact ⟨by rw [← HE.out]; rfl, HB.out⟩
  · have hlt : ¬ ((D.size : Int) ≤ 0) := by omega
    have hlt0 : ¬ (D.size = 0) := h0
    have hlt1 : (0 : Int) < (D.size : Int) := by omega
    clear h hi hF hn hk hz hD h0
    go_enter Tryz.func14, Tryz.ntmps14
    go_wp2_with (first
      | ((with_reducible refine gate_dst (N := 6) rfl ?_); refine Lb.alloc_event ?hg (v := fun g => .pointer (some ⟨g, 0, none⟩)) (cs := callC now) (t := 29) (fr := (0, 0)) ?hr ?_; (case hg => rfl); (case hr => first | (go_simp; done) | (go_simp; rfl)); intro g5 hg5 w1 hx' hb; have HX := Aside0.mk hx'; replace H := Aside0.mk (H.out.step hb); replace HN := Aside0.mk (Lb.blk_below HN.out hb); replace HB := Aside0.mk (below_step HB.out hb); obtain ⟨e0, e1, e2, e3⟩ := call_cells HX.out; clear hx' hb hg5)
      | (go_at_call 39; (with_reducible refine (file_calls g bN bM last F m b n now i 4 _ H.out HI.out.1 HI.out.2 HN.out HK.out).mono ?_); rintro e w3 ⟨rfl, hb⟩; replace HN := Aside0.mk (Lb.blk_below HN.out hb); replace HB := Aside0.mk (below_step HB.out hb); clear hb e0 e1 e2 e3; have n5 : w3.cell? ⟨b, 5, none⟩ = some (.int .i64 D.size) := ((blk_cell HN.out 5).trans (show (ndC n)[5]? = some (.int .i64 n.size) from rfl)).trans (by rw [HZ.out, HD.out]); have n17 : w3.cell? ⟨b, 17, none⟩ = some (.string D) := ((blk_cell HN.out 17).trans (show (ndC n)[17]? = some (.string n.data) from rfl)).trans (by rw [HD.out])))
    have hdd : (D.size : Int) ≤ (D.size : Int) := Int.le_refl _
    have hzz : wrap64 (D.size : Int) = D.size := by unfold wrap64; omega
    have hzw : IntKind.i64.wrap (D.size : Int) = D.size := by rw [IntKind.wrap_i64]; omega
    go_region
    all_goals
      go_wp2_with fail
      go_ret3
      trace_state
      exact ⟨rfl, below_step HB.out (Lb.below_drew _)⟩
end Go.Proofs.YtlnfadlgjcnngaaGreat.Co

namespace Go.Proofs.YtlnfadlgjcnngaaGreat.Co
open Go.RowKit Go.Maps Go.Lib Go.Proofs.YtlnfadlgjcnngaaGreat.Ap Go.Proofs.YtlnfadlgjcnngaaGreatW.PrintWords Go.Proofs.YtlnfadlgjcnngaaGreatW.PrintLast Go.Proofs.YtlnfadlgjcnngaaGreatW.PrintMore
set_option linter.unusedVariables false
set_option linter.unusedSimpArgs false

theorem cutB_size (s : ByteArray) (n : Nat) : (cutB s n).size = n := by
  unfold cutB
  split
  · rename_i h
    rw [ByteArray.size_extract]; omega
  · rename_i h
    rw [ByteArray.size_append]
    show s.size + (Lib.repeatL [0] (n - s.size)).toArray.size = n
    rw [List.size_toArray, rep_len]
    omega
def topB (d : ByteArray) (o : Nat) (s : ByteArray) : Nat := max d.size (o + s.size)
/-- what is written into a text -/
def wrB (d : ByteArray) (o : Nat) (s : ByteArray) : ByteArray := (cutB d (topB d o s)).extract 0 o ++ s ++ (cutB d (topB d o s)).extract (o + s.size) (cutB d (topB d o s)).size
def Nd.written (n : Nd) (d : ByteArray) (now : Int) : Nd := { n.filled d with tm := now, nm := 0, tc := now, nc := 0 }
theorem wrB_size (d : ByteArray) (o : Nat) (s : ByteArray) : (wrB d o s).size = topB d o s := by
  unfold wrB
  simp only [ByteArray.size_append, ByteArray.size_extract, cutB_size]
  unfold topB
  omega
set_option maxRecDepth 100000 in
set_option maxHeartbeats 4000000 in
theorem write_none (g bN bM : Nat) (last : Int) (F : Int → Option Nat) (m b o : Nat) (n : Nd) (now i : Int) (s : ByteArray) (w : World) (h : FsAt w g bN bM last F m) (hi : InI i) (hF : F i = some b) (hn : NodeAt w b n) (hk : n.kind = 1) (ho : o ≤ 3000) (hs : s.size = 0) :
    Calls Tryz.prog 13 #[.pointer (some ⟨g, 0, none⟩), rootC now, .int .i64 i, .int .i64 o, .string s] w fun e w' => e = .returned (.int .i64 0) ∧ Below w.heap.size w w' := by
  have H := Aside0.mk h
  have HI := Aside0.mk (And.intro hi hF)
  have HN := Aside0.mk hn
  have HK := Aside0.mk hk
  have HB := Aside0.mk (Below.refl w.heap.size w)
  have hz : (s.size : Int) = 0 := by omega
  have hem : s.toList.isEmpty = true := by
    have : s.toList.length = 0 := by rw [toList_data, ← Lib.size_eq]; exact hs
    simpa using this
  have h8 : ¬ (8192 : Int) < (o : Int) := by omega
  have h8a : ¬ (8192 - (0 : Int)) < (o : Int) := by omega
  have h0 : ¬ ((o : Int) < 0) := by omega
  clear h hi hF hn hk hs ho
  go_enter Tryz.func13, Tryz.ntmps13
  go_wp2_with (first
    | ((with_reducible refine gate_dst (N := 6) rfl ?_); refine Lb.alloc_event ?hg (v := fun g => .pointer (some ⟨g, 0, none⟩)) (cs := callC now) (t := 29) (fr := (0, 0)) ?hr ?_; (case hg => rfl); (case hr => first | (go_simp; done) | (go_simp; rfl)); intro g5 hg5 w1 hx hb; have HX := Aside0.mk hx; replace H := Aside0.mk (H.out.step hb); replace HN := Aside0.mk (Lb.blk_below HN.out hb); replace HB := Aside0.mk (below_step HB.out hb); obtain ⟨e0, e1, e2, e3⟩ := call_cells HX.out; clear hx hb hg5)
    | (go_at_call 39; (with_reducible refine (file_calls g bN bM last F m b n now i 2 _ H.out HI.out.1 HI.out.2 HN.out HK.out).mono ?_); rintro e w3 ⟨rfl, hb⟩; replace HB := Aside0.mk (below_step HB.out hb); clear hb e0 e1 e2 e3))
  go_ret
  exact ⟨rfl, HB.out⟩
theorem dat_cells {w : World} {b : Nat} {n : Nd} (h : NodeAt w b n) (hz : n.size = n.data.size) : w.cell? ⟨b, 17, none⟩ = some (.string n.data) ∧ w.cell? ⟨b, 5, none⟩ = some (.int .i64 n.data.size) :=
  ⟨(blk_cell h 17).trans (show (ndC n)[17]? = some (.string n.data) from rfl), ((blk_cell h 5).trans (show (ndC n)[5]? = some (.int .i64 n.size) from rfl)).trans (by rw [hz])⟩
set_option maxRecDepth 100000 in
set_option maxHeartbeats 8000000 in
theorem write_some (g bN bM : Nat) (last : Int) (F : Int → Option Nat) (m b o : Nat) (n : Nd) (now i : Int) (s : ByteArray) (w : World) (h : FsAt w g bN bM last F m) (hm : m ≤ 800000) (hi : InI i) (hF : F i = some b) (hn : NodeAt w b n) (hk : n.kind = 1) (hsz : n.size = n.data.size) (hd : n.data.size ≤ 9000) (ho : o ≤ 3000) (hs : 0 < s.size) (hs2 : s.size ≤ 500) :
    Calls Tryz.prog 13 #[.pointer (some ⟨g, 0, none⟩), rootC now, .int .i64 i, .int .i64 o, .string s] w fun e w' => e = .returned (.int .i64 0) ∧ NodeAt w' b (n.written (wrB n.data o s) now) ∧ FsAt w' g bN bM last F (m + 1) ∧ Kp [bM, b] w w' := by
  have HM := Aside0.mk hm
  have H := Aside0.mk h
  have HI := Aside0.mk (And.intro hi hF)
  have HN := Aside0.mk hn
  have HK := Aside0.mk hk
  have HB := Aside0.mk (Below.refl w.heap.size w)
  have HSZ := Aside0.mk hsz
  have hem : s.toList.isEmpty = false := by
    have : s.toList.length ≠ 0 := by rw [toList_data, ← Lib.size_eq]; omega
    cases h : s.toList with
    | nil => rw [h] at this; exact absurd rfl this
    | cons _ _ => rfl
  have hw1 : IntKind.i64.wrap (8192 - (s.size : Int)) = 8192 - (s.size : Int) := by rw [IntKind.wrap_i64]; omega
  have hw2 : wrap64 (8192 - (s.size : Int)) = 8192 - (s.size : Int) := by unfold wrap64; omega
  have h8 : ¬ (8192 - (s.size : Int)) < (o : Int) := by omega
  have h0 : ¬ ((o : Int) < 0) := by omega
  have h0' : (0 : Int) ≤ (o : Int) := by omega
  obtain ⟨M, hM⟩ : ∃ M, M = topB n.data o s := ⟨_, rfl⟩
  have hMb : M ≤ 100000 := by rw [hM]; unfold topB; omega
  have hoM : o + s.size ≤ M := by rw [hM]; unfold topB; omega
  have hmax : max (n.data.size : Int) ((o : Int) + (s.size : Int)) = (M : Int) := by rw [hM]; unfold topB; omega
  have hw3 : IntKind.i64.wrap ((o : Int) + (s.size : Int)) = (o : Int) + (s.size : Int) := by rw [IntKind.wrap_i64]; omega
  have hw4 : wrap64 ((o : Int) + (s.size : Int)) = (o : Int) + (s.size : Int) := by unfold wrap64; omega
  have HMM := Lib.hid (And.intro hM (And.intro hMb hoM))
  have HD := Lib.hid hd
  clear h hi hF hn hk hsz hm hM hMb hoM hd
  go_enter Tryz.func13, Tryz.ntmps13
  go_upto_region 10 with (first
    | ((with_reducible refine gate_dst (N := 6) rfl ?_); refine Lb.alloc_event ?hg (v := fun g => .pointer (some ⟨g, 0, none⟩)) (cs := callC now) (t := 29) (fr := (0, 0)) ?hr ?_; (case hg => rfl); (case hr => first | (go_simp; done) | (go_simp; rfl)); intro g5 hg5 w1 hx hb; have HX := Aside0.mk hx; replace H := Aside0.mk (H.out.step hb); replace HN := Aside0.mk (Lb.blk_below HN.out hb); replace HB := Aside0.mk (below_step HB.out hb); obtain ⟨e0, e1, e2, e3⟩ := call_cells HX.out; clear hx hb hg5)
    | (go_at_call 39; (with_reducible refine (file_calls g bN bM last F m b n now i 2 _ H.out HI.out.1 HI.out.2 HN.out HK.out).mono ?_); rintro e w3 ⟨rfl, hb⟩; replace H := Aside0.mk (H.out.step hb); replace HN := Aside0.mk (Lb.blk_below HN.out hb); replace HX := Aside0.mk (Lb.blk_below HX.out hb); replace HB := Aside0.mk (below_step HB.out hb); clear hb e0 e1 e2 e3))
  replace H := Aside0.mk (H.out.step (Lb.below_drew _))
  replace HN := Aside0.mk (Lb.blk_below HN.out (Lb.below_drew _))
  replace HX := Aside0.mk (Lb.blk_below HX.out (Lb.below_drew _))
  replace HB := Aside0.mk (below_step HB.out (Lb.below_drew _))
  obtain ⟨n17, n5⟩ := dat_cells HN.out HSZ.out
  obtain ⟨old, hold⟩ : ∃ old, cutB n.data M = old := ⟨_, rfl⟩
  have hos : old.size = M := by rw [← hold, cutB_size]
  have HO := Lib.hid (And.intro hold hos)
  have hcut : ∀ w, Calls Tryz.prog 40 #[.string n.data, .int .i64 M] w fun e w' => e = .returned (.string old) ∧ Below w.heap.size w w' := fun w => by
    have := cut_calls n.data M w (by have := HD.out; omega) HMM.out.2.1
    rw [hold] at this
    exact this
  have HCU := Lib.hid hcut
  clear hold hos hcut
  go_region_held3 (fun w' => w'.cell? ⟨b, 17, none⟩ = some (.string n.data) ∧ w'.cell? ⟨b, 5, none⟩ = some (.int .i64 n.data.size)) (exact dat_cells HN.out HSZ.out) (first
    | (go_at_call 40; (with_reducible refine (HCU.out _).mono ?_); rintro e4 w4 ⟨rfl, hb⟩; replace H := Aside0.mk (H.out.step hb); replace HN := Aside0.mk (Lb.blk_below HN.out hb); replace HX := Aside0.mk (Lb.blk_below HX.out hb); replace HB := Aside0.mk (below_step HB.out hb); clear hb))
  clear n17 n5 h8 h0 hw1 hw2 hmax
  go_upto_region 11 with fail
  replace H := Aside0.mk (H.out.step (Lb.below_drew _))
  replace HN := Aside0.mk (Lb.blk_below HN.out (Lb.below_drew _))
  replace HX := Aside0.mk (Lb.blk_below HX.out (Lb.below_drew _))
  replace HB := Aside0.mk (below_step HB.out (Lb.below_drew _))
  have hos := HO.out.2
  have hMb := HMM.out.2.1
  have hoM := HMM.out.2.2
  have k1 : (o : Int) ≤ (old.size : Int) := by omega
  have k2 : (o : Int) + (s.size : Int) ≤ (old.size : Int) := by omega
  have k3 : (0 : Int) ≤ (o : Int) + (s.size : Int) := by omega
  have k4 : ((o : Int) + (s.size : Int)).toNat = o + s.size := by omega
  have k5 : ((o : Int)).toNat = o := by omega
  have c1 : ¬ 9223372036854775807 < (old.extract 0 o).size + s.size := by rw [ByteArray.size_extract]; omega
  have c2 : ¬ 9223372036854775807 < min o old.size + s.size := by omega
  have c3 : ¬ 9223372036854775807 < ((old.extract 0 o) ++ s).size + (old.extract (o + s.size) old.size).size := by rw [ByteArray.size_append, ByteArray.size_extract, ByteArray.size_extract]; omega
  have c4 : ¬ 9223372036854775807 < min o old.size + s.size + (old.size - (o + s.size)) := by omega
  clear hos hMb hoM
  obtain ⟨W, hW⟩ : ∃ W, old.extract 0 o ++ s ++ old.extract (o + s.size) old.size = W := ⟨_, rfl⟩
  have HWW : Aside0 (W = wrB n.data o s) := ⟨by rw [← hW, ← HO.out.1, HMM.out.1]; rfl⟩
  have HWS : Aside0 (W.size ≤ 100000) := ⟨by rw [HWW.out, wrB_size, ← HMM.out.1]; exact HMM.out.2.1⟩
  go_region_with (first
    | (go_at_call 41; ((with_reducible refine (fill_calls b n W _ HN.out HWS.out).mono ?_); rintro e5 w5 ⟨rfl, hn5, hk5⟩; have H5 := Aside0.mk (H.out.node hk5 HN.out); have HN5 := Aside0.mk hn5; have HX5 := Aside0.mk (hk5.typ _ _ _ _ HX.out (by decide)); have HK5 := Aside0.mk ((Kp.of (ks := [b]) HB.out).trans hk5); clear hn5 hk5)))
  all_goals
    clear hem hW k1 k2 k3 k4 k5 c1 c2 c3 c4 hw3 hw4 h0'
    go_upto_region 12 with fail
    replace H5 := Aside0.mk (H5.out.step (Lb.below_drew _))
    replace HN5 := Aside0.mk (Lb.blk_below HN5.out (Lb.below_drew _))
    replace HX5 := Aside0.mk (Lb.blk_below HX5.out (Lb.below_drew _))
    replace HK5 := Aside0.mk (HK5.out.trans (Kp.of (Lb.below_drew _)))
    have e0 := (blk_cell HX5.out 0).trans rfl
    have e1 := (blk_cell HX5.out 1).trans rfl
    have e2 := (blk_cell HX5.out 2).trans rfl
    have e3 := (blk_cell HX5.out 3).trans rfl
    go_region_with (first
      | (go_at_call 42; (with_reducible refine (time_calls now _).mono ?_); rintro e6 w6 ⟨rfl, hb⟩; replace H5 := Aside0.mk (H5.out.step hb); replace HN5 := Aside0.mk (Lb.blk_below HN5.out hb); replace HX5 := Aside0.mk (Lb.blk_below HX5.out hb); replace HK5 := Aside0.mk (HK5.out.trans (Kp.of hb)); clear hb e0 e1 e2 e3; (try clear a13 a14 a15 a16 f13 f14 f15 f16); have e0 := (blk_cell HX5.out 0).trans rfl; have e1 := (blk_cell HX5.out 1).trans rfl; have e2 := (blk_cell HX5.out 2).trans rfl; have e3 := (blk_cell HX5.out 3).trans rfl; obtain ⟨-, -, -, -, -, -, -, -, -, -, -, -, -, a13, a14, a15, a16, -, -, -, -⟩ := NodeAt.cells HN5.out; have f13 := blk_frozen HN5.out 13; have f14 := blk_frozen HN5.out 14; have f15 := blk_frozen HN5.out 15; have f16 := blk_frozen HN5.out 16))
    all_goals
      obtain ⟨h1, h2⟩ := set4 HN5.out now 0 now 0
      generalize (((w6.setCell ⟨b, 13, none⟩ (.int .i64 now)).setCell ⟨b, 14, none⟩ (.int .i64 0)).setCell ⟨b, 15, none⟩ (.int .i64 now)).setCell ⟨b, 16, none⟩ (.int .i64 0) = w7 at h1 h2 ⊢
      have hk := Kp.blk HN5.out (.inr (.inl rfl)) h2
      have H7 := Aside0.mk (H5.out.node hk HN5.out)
      have HK7 := Aside0.mk (HK5.out.trans hk)
      have HN7 : Aside0 (NodeAt w7 b (n.written W now)) := ⟨h1⟩
      clear h1 h2 hk
      (try clear a13 a14 a15 a16 f13 f14 f15 f16 e0 e1 e2 e3)
      go_wp2_with (first
        | (go_at_call 30; (with_reducible refine (touch_calls g bN bM last F m i ⟨#[]⟩ _ H7.out (by have := HM.out; omega) HI.out.1 (Nat.zero_le _)).mono ?_); rintro e8 w8 ⟨rfl, hf, hk⟩; have hx := H7.out.neN HN7.out; have HN8 := Aside0.mk (hk.keep _ _ HN7.out (by simpa using fun e : b = bM => hx.2 e.symm)); have HK8 : Aside0 (Kp [bM, b] w w8) := ⟨(HK7.out.mono (by simp)).trans (hk.mono (by simp))⟩; have HF8 := Aside0.mk hf; clear hf hk hx))
      go_ret
      exact ⟨rfl, by rw [← HWW.out]; exact HN8.out, HF8.out, HK8.out⟩
end Go.Proofs.YtlnfadlgjcnngaaGreat.Co
