/- seglog's small functions: numbers in bytes and back. seglog's small functions: bytes to numbers, bounds, parts, segments. A strings.Builder of the call's own; a checkpoint's bytes. -/
import Derived.Test.YtfiocakhgpdlfaaDoorHb
import Derived.Test.YtfiocakhgpdlfaaDoorPAx2
import Derived.Test.YtfiocakhgpdlfaaDoorSh
namespace Go.Proofs.YtfiocakhgpdlfaaDoor.Sg
open Go.RowKit Go.Lib Go.Proofs.YtfiocakhgpdlfaaDoor.Ap Go.Proofs.YtfiocakhgpdlfaaDoorW.PrintWords Go.Proofs.YtfiocakhgpdlfaaDoorW.PrintLast Go.Proofs.YtfiocakhgpdlfaaDoorW.PrintMore
set_option linter.unusedVariables false
set_option linter.unusedSimpArgs false

def byteV (b : UInt8) : Value := .int .u8 (b.toNat : Int)
/-- the bytes so far, noughts behind them -/
def rowN (l : List UInt8) : Array Value := ((l ++ List.replicate (8 - l.length) 0).map byteV).toArray
theorem rowN_snoc (l : List UInt8) (b : UInt8) (h : l.length < 8) : (rowN l).setIfInBounds l.length (byteV b) = rowN (l ++ [b]) := by
  apply Array.toList_inj.1
  have e : List.replicate (8 - l.length) (0 : UInt8) = 0 :: List.replicate (8 - (l ++ [b]).length) 0 := by
    rw [show 8 - l.length = (8 - (l ++ [b]).length) + 1 by simp; omega]; rfl
  simp only [rowN, e, Array.toList_setIfInBounds]
  rw [show l.length = (l.map byteV).length by simp]
  simp
theorem num_at (n : Nat) : ∀ (k i : Nat), i < k → (num n k)[i]? = some (UInt8.ofNat (n / 256 ^ (k - 1 - i)))
  | 0, i, h => by omega
  | k + 1, 0, _ => by simp [num]
  | k + 1, i + 1, h => by rw [num, List.getElem?_cons_succ, num_at n k i (by omega), show k + 1 - 1 - (i + 1) = k - 1 - i by omega]
theorem num_take (n k i : Nat) (h : i < k) : (num n k).take (i + 1) = (num n k).take i ++ [UInt8.ofNat (n / 256 ^ (k - 1 - i))] := by
  have h1 : i < (num n k).length := by rw [num_length]; exact h
  rw [List.take_succ_eq_append_getElem h1]
  have := num_at n k i h
  rw [List.getElem?_eq_getElem h1] at this
  injection this with this
  rw [this]

set_option maxRecDepth 100000 in
theorem number_calls (n k : Nat) (hn : n ≤ 9223372036854775807) (hk : k ≤ 8) (w : World) :
    Calls Tryd.prog 43 #[.int .i64 n, .int .i64 k] w fun e w' => e = .returned (.string (toB (num n k))) ∧ Below w.heap.size w w' := by
  go_enter Tryd.func43, Tryd.ntmps43
  go_wp2_with (first
    | ((with_reducible refine gate_dst (N := 5) rfl ?_); refine Lb.alloc_event ?hg (v := fun g => .pointer (some ⟨g, 0, none⟩)) (cs := #[.int .u8 0, .int .u8 0, .int .u8 0, .int .u8 0, .int .u8 0, .int .u8 0, .int .u8 0, .int .u8 0]) (t := 119) (fr := (0, 0)) ?hr ?_; (case hg => rfl); (case hr => first | (go_simp; done) | (go_simp; rfl)); intro g5 hg5 w2 hx hb; have HX := Aside0.mk hx; have HB2 := Aside0.mk hb; have HG5 := Aside0.mk hg5; clear hx hb hg5))
  go_loopg [8] k (fun gk s8 wr1 => ∃ i : Nat, i + gk = k ∧ s8 = .int .i64 i ∧ Aside0 (wr1.heap[g5]? = some (.cells (rowN ((num n k).take i)) 119 (0, 0))) ∧ Aside0 (Below w.heap.size w wr1))
  case atStart => exact ⟨0, by omega, rfl, ⟨HX.out⟩, HB2⟩
  case round =>
    obtain ⟨i, hi, rfl, HD, HF⟩ := hrel
    cases gk with
    | zero =>
      obtain rfl : i = k := by omega
      have hii : ¬ ((i : Int) < (i : Int)) := by omega
      have hl : (num n i).length = i := num_length n i
      have hback := run_convert_bytes_back (P := Tryd.prog) wr 69 9 5 ⟨g5, 0, none⟩ 8 (num n i) Tryd.underlying69 Tryd.underlying5 Tryd.underlying9 (fun j hj => by
        have e : (⟨g5, 0, none⟩ : Addr).add j = ⟨g5, j, none⟩ := by unfold Addr.add; split <;> simp_all
        rw [e, blk_cell HD.out j, List.take_of_length_le (by omega)]
        have hj' : j < i := by omega
        simp [rowN, byteV, List.getElem?_append, hj, hj'])
      rw [hl] at hback
      have hki : (i : Int) ≤ 8 := by omega
      clear hl
      go_wp2
      go_ret
      exact ⟨rfl, HF.out⟩
    | succ gk =>
      have hii : (i : Int) < (k : Int) := by omega
      have hlt : i < k := by omega
      have hi8 : (i : Int) < 8 := by omega
      have HTK := Aside0.mk (num_take n k i hlt)
      have hV : Aside0 ((Value.int .u8 ((n : Int) / 2 ^ (8 * (k - 1 - i)) % 256)) = byteV (UInt8.ofNat (n / 256 ^ (k - 1 - i)))) := ⟨by
        unfold byteV
        congr 1
        have e : (256 : Nat) ^ (k - 1 - i) = 2 ^ (8 * (k - 1 - i)) := by rw [Nat.pow_mul]
        rw [UInt8.toNat_ofNat', e]
        simp⟩
      have hL : Aside0 (((num n k).take i).length = i) := ⟨by rw [List.length_take, num_length]; omega⟩
      go_wp2_with (first
        | ((with_reducible refine gate_store (t := 5) (p := 20) rfl ?_); refine Lb.store_one rfl rfl 5 (.tmp 20) (.tmp 19) rfl (g := g5) (off := i) (u := .int .u8 ((n : Int) / 2 ^ (8 * (k - 1 - i)) % 256)) rfl rfl rfl rfl HD.out (by kernel_rfl) (by simp [rowN]; omega) ?_; intro w3 hb hg; have HX3 := Aside0.mk hb; have HG3 := Aside0.mk hg; clear hb hg))
      go_roundg gk
      case measure => omega
      case rel => exact ⟨i + 1, by omega, by first | rfl | (congr 1; unfold wrap64; omega), ⟨by rw [HTK.out, ← rowN_snoc _ _ (by rw [hL.out]; omega), hL.out, ← hV.out]; exact HX3.out⟩, ⟨Lb.grown_below HF.out HG3.out HF.out.size (by have := HG5.out; omega)⟩⟩
theorem number8_calls (n : Nat) (hn : n ≤ 9223372036854775807) (w : World) : Calls Tryd.prog 43 #[.int .i64 n, .int .i64 8] w fun e w' => e = .returned (.string (toB (num n 8))) ∧ Below w.heap.size w w' := number_calls n 8 hn (by omega) w
theorem number2_calls (n : Nat) (hn : n ≤ 9223372036854775807) (w : World) : Calls Tryd.prog 43 #[.int .i64 n, .int .i64 2] w fun e w' => e = .returned (.string (toB (num n 2))) ∧ Below w.heap.size w w' := number_calls n 2 hn (by omega) w
theorem number1_calls (n : Nat) (hn : n ≤ 9223372036854775807) (w : World) : Calls Tryd.prog 43 #[.int .i64 n, .int .i64 1] w fun e w' => e = .returned (.string (toB (num n 1))) ∧ Below w.heap.size w w' := number_calls n 1 hn (by omega) w
end Go.Proofs.YtfiocakhgpdlfaaDoor.Sg

namespace Go.Proofs.YtfiocakhgpdlfaaDoor.Sg
open Go.RowKit Go.Lib Go.Proofs.YtfiocakhgpdlfaaDoor.Ap Go.Proofs.YtfiocakhgpdlfaaDoor.PA Go.Proofs.YtfiocakhgpdlfaaDoorW.PrintWords Go.Proofs.YtfiocakhgpdlfaaDoorW.PrintLast Go.Proofs.YtfiocakhgpdlfaaDoorW.PrintMore
set_option linter.unusedVariables false
set_option linter.unusedSimpArgs false

def stp (n : Int) (b : UInt8) : Int := Go.bits .or .i64 (wrap64 (n * 256)) (wrap64 (b.toNat : Int))
/-- bytes as a number, as the code has it -/
def tk (l : List UInt8) : Int := l.foldl stp 0
theorem bits_or (n : Int) (b : UInt8) : bits .or .i64 (wrap64 (n * 256)) (wrap64 (b.toNat : Int)) = wrap64 (n * 256) + b.toNat := by
  have hb := b.toNat_lt
  have e1 : wrap64 (b.toNat : Int) = b.toNat := by unfold wrap64; omega
  rw [e1]
  simp only [bits, BitVec.toNat_or, BitVec.toNat_ofInt]
  have h4 : ((2 ^ IntKind.i64.bits : Nat) : Int) = 18446744073709551616 := by decide
  rw [h4, IntKind.wrap_i64]
  obtain ⟨z, hz⟩ : ∃ z : Nat, ((wrap64 (n * 256)) % 18446744073709551616).toNat = 2 ^ 8 * z := by
    refine ⟨(((wrap64 (n * 256)) % 18446744073709551616).toNat) / 256, ?_⟩
    unfold wrap64
    omega
  have hb2 : ((b.toNat : Int) % 18446744073709551616).toNat = b.toNat := by omega
  rw [hz, hb2, ← Nat.two_pow_add_eq_or_of_lt (by omega : b.toNat < 2 ^ 8)]
  have : (2 : Nat) ^ 8 = 256 := by decide
  rw [this] at hz ⊢
  unfold wrap64 at hz ⊢
  omega
theorem stp_wrap (N : Nat) (b : UInt8) : stp (wrap64 (N : Int)) b = wrap64 ((N * 256 + b.toNat : Nat) : Int) := by
  have hb := b.toNat_lt
  unfold stp
  rw [bits_or]
  generalize b.toNat = c at *
  unfold wrap64
  omega
theorem fold_wrap : ∀ (l : List UInt8) (N : Nat) (x : Int), x = wrap64 (N : Int) → ∀ y : Int, y = wrap64 ((l.foldl (fun n b => n * 256 + b.toNat) N : Nat) : Int) → l.foldl stp x = y
  | [], N, x, hx, y, hy => by rw [List.foldl_nil, hx, hy, List.foldl_nil]
  | b :: r, N, x, hx, y, hy => by
    rw [List.foldl_cons] at hy ⊢
    exact fold_wrap r (N * 256 + b.toNat) _ (by rw [hx, stp_wrap]) y hy
theorem tk_eq (l : List UInt8) : tk l = wrap64 (beN l : Int) := fold_wrap l 0 0 (by unfold wrap64; omega) _ rfl
theorem tk_small (l : List UInt8) (h : l.length ≤ 7) : tk l = beN l := by
  rw [tk_eq]
  have := beN_lt l
  have h2 : (256 : Nat) ^ l.length ≤ 256 ^ 7 := Nat.pow_le_pow_right (by decide) h
  have h3 : (256 : Nat) ^ 7 = 72057594037927936 := by decide
  unfold wrap64
  omega
theorem tk_fit (l : List UInt8) (h : l.length ≤ 8) : (0 ≤ tk l ∧ tk l ≤ 1152921504606846976 ↔ beN l ≤ top) ∧ (beN l ≤ top → tk l = beN l) ∧ -9223372036854775808 ≤ tk l ∧ tk l ≤ 9223372036854775807 := by
  rw [tk_eq]
  have := beN_lt l
  have h2 : (256 : Nat) ^ l.length ≤ 256 ^ 8 := Nat.pow_le_pow_right (by decide) h
  have h3 : (256 : Nat) ^ 8 = 18446744073709551616 := by decide
  unfold wrap64 top
  omega
theorem taken_l0 (l : List UInt8) (hl : l.length ≤ 1000000000000) : ∀ d j n, j + d = l.length → seglog_taken.l0 (d + 1) ⟨l.toArray⟩ n (l.length : Int) (j : Int) = some ((l.drop j).foldl stp n)
  | 0, j, n, h => by
    rw [seglog_taken.l0, if_neg (by omega)]
    rw [List.drop_of_length_le (by omega)]; rfl
  | d + 1, j, n, h => by
    rw [seglog_taken.l0, if_pos (by omega), if_pos (by omega), if_pos (by show (j : Int) < ((⟨l.toArray⟩ : ByteArray).size : Int); simp [ByteArray.size]; omega)]
    have hj : j < l.length := by omega
    have hw : wrap64 ((j : Int) + 1) = ((j + 1 : Nat) : Int) := by unfold wrap64; omega
    rw [hw]
    have hb : bt (⟨l.toArray⟩ : ByteArray) (j : Int) = ((l[j]'hj).toNat : Int) := by
      unfold bt
      rw [dif_pos (by show j < l.toArray.size; simpa using hj)]
      rfl
    rw [hb]
    rw [taken_l0 l hl d (j + 1) _ (by omega), List.drop_eq_getElem_cons hj]
    rfl
theorem taken_calls (l : List UInt8) (hl : l.length ≤ 1000000000000) (w : World) : Calls Tryd.prog 56 #[.string (toB l)] w fun e w' => e = .returned (.int .i64 (tk l)) ∧ Below w.heap.size w w' := by
  have h : seglog_taken.f (l.length + 1) ⟨l.toArray⟩ = some (tk l) := by
    have := taken_l0 l hl l.length 0 0 (by omega)
    simpa [seglog_taken.f, tk, ByteArray.size] using this
  exact (seglog_taken.calls _ _ _ w h).mono fun e w' ⟨h1, h2⟩ => ⟨h1, h2.below⟩

def fitsI (l : List Int) : Bool := l.all fun n => decide (0 ≤ n) && decide (n ≤ 1152921504606846976)
theorem fits_l0 (l : List Int) (hl : l.length ≤ 1000) : ∀ d j, j + d = l.length → seglog_fits.l0 (d + 1) l (l.length : Int) (j : Int) = some (fitsI (l.drop j))
  | 0, j, h => by
    rw [seglog_fits.l0, if_neg (by omega)]
    rw [List.drop_of_length_le (by omega)]; rfl
  | d + 1, j, h => by
    have hj : j < l.length := by omega
    have hw : wrap64 ((j : Int) + 1) = ((j + 1 : Nat) : Int) := by unfold wrap64; omega
    have hr : rd l (j : Int) = l[j] := by simp [rd, hj]
    rw [seglog_fits.l0, if_pos (by omega), if_pos (by omega), if_pos (by omega), hw, hr, fits_l0 l hl d (j + 1) (by omega), List.drop_eq_getElem_cons hj]
    unfold fitsI
    rw [List.all_cons]
    by_cases h1 : l[j] < 0
    · rw [if_pos h1, decide_eq_false (by omega)]; rfl
    · rw [if_neg h1]
      by_cases h2 : l[j] > 1152921504606846976
      · rw [if_pos h2, decide_eq_false (show ¬ l[j] ≤ 1152921504606846976 by omega), Bool.and_false, Bool.false_and]
      · rw [if_neg h2, decide_eq_true (by omega), decide_eq_true (by omega)]; rfl
theorem fits_calls (g : Nat) (l : List Int) (hl : l.length ≤ 1000) (w : World) (h : w.heap[g]? = some (.cells (l.map (Value.int .i64)).toArray 3 (0, 0))) :
    Calls Tryd.prog 57 #[.slice (some ⟨g, 0, none⟩) l.length l.length] w fun e w' => e = .returned (.bool (fitsI l)) ∧ Below w.heap.size w w' := by
  have hC : Kd.C (Kd.int .i64) w (some ⟨g, 0, none⟩) l.length l := by
    refine Kd.C_of_reads (d := (0 : Int)) (h1 := fun _ => rfl) ⟨rfl, by omega, fun _ => ⟨_, rfl, fun j hj => ?_⟩⟩
    have e2 : (⟨g, 0, none⟩ : Addr).add j = ⟨g, j, none⟩ := by unfold Addr.add; split <;> simp_all
    rw [e2, blk_cell h j]
    simp [List.getD_eq_getElem?_getD, hj]
  have hf : seglog_fits.f (l.length + 1) l = some (fitsI l) := by
    have := fits_l0 l hl l.length 0 (by omega)
    simpa [seglog_fits.f] using this
  exact (seglog_fits.calls _ _ _ _ _ w hC (Nat.le_refl _) hf).mono fun e w' ⟨h1, h2⟩ => ⟨h1, h2.below⟩

theorem fits2_calls (g : Nat) (x y : Int) (r : Bool) (hr : fitsI [x, y] = r) (w : World) (h : w.heap[g]? = some (.cells #[.int .i64 x, .int .i64 y] 3 (0, 0))) :
    Calls Tryd.prog 57 #[.slice (some ⟨g, 0, none⟩) 2 2] w fun e w' => e = .returned (.bool r) ∧ Below w.heap.size w w' := by
  subst hr; exact fits_calls g [x, y] (by simp) w h
theorem fits3_calls (g : Nat) (x y z : Int) (r : Bool) (hr : fitsI [x, y, z] = r) (w : World) (h : w.heap[g]? = some (.cells #[.int .i64 x, .int .i64 y, .int .i64 z] 3 (0, 0))) :
    Calls Tryd.prog 57 #[.slice (some ⟨g, 0, none⟩) 3 3] w fun e w' => e = .returned (.bool r) ∧ Below w.heap.size w w' := by
  subst hr; exact fits_calls g [x, y, z] (by simp) w h
theorem parts_calls (n : Nat) (h : n ≤ 1000000000000000) (w : World) : Calls Tryd.prog 40 #[.int .i64 n] w fun e w' => e = .returned (.int .i64 (partsN n)) ∧ Below w.heap.size w w' := by
  refine (seglog_parts.calls (n : Int) (partsN n) w ?_).mono fun e w' h => h
  unfold seglog_parts.f partsN
  have e1 : wrap64 ((n : Int) + 233) = ((n + 233 : Nat) : Int) := by unfold wrap64; omega
  have e2 : wrap64 (((n + 233 : Nat) : Int) - 1) = ((n + 232 : Nat) : Int) := by unfold wrap64; omega
  have e3 : Int.tdiv ((n + 232 : Nat) : Int) 233 = (((n + 232) / 233 : Nat) : Int) := rfl
  have e4 : wrap64 (((n + 232) / 233 : Nat) : Int) = (((n + 232) / 233 : Nat) : Int) := by unfold wrap64; omega
  rw [e1, e2, e3, e4]
  congr 1
  unfold mx
  split <;> omega
theorem segments_calls (B g : Nat) (d : Dk) (w : World) (h : DAt B w g d) (h2 : 2 ≤ d.now.length) : Calls Tryd.prog 30 #[.pointer (some ⟨g, 0, none⟩)] w fun e w' => e = .returned (.int .i64 (segsN d.now)) ∧ w = w' := by
  have HSZ := size_calls B g d w h
  have hle := h.ok.le
  have e1 : Aside0 (min (((d.now.length : Int) - 2) / 16) 64 = ((segsN d.now : Nat) : Int)) := ⟨by unfold segsN; omega⟩
  clear h
  go_enter Tryd.func30, Tryd.ntmps30
  go_wp2_with (first
    | (go_at_call 51; (with_reducible refine HSZ.mono ?_); rintro e1 w1 ⟨rfl, rfl⟩))
  go_ret
  exact ⟨by rw [← e1.out]; rfl, rfl⟩
end Go.Proofs.YtfiocakhgpdlfaaDoor.Sg

namespace Go.Proofs.YtfiocakhgpdlfaaDoor.Sg
open Go.RowKit Go.Lib Go.Proofs.YtfiocakhgpdlfaaDoor.Ap Go.Proofs.YtfiocakhgpdlfaaDoorW.PrintWords Go.Proofs.YtfiocakhgpdlfaaDoorW.PrintLast Go.Proofs.YtfiocakhgpdlfaaDoorW.PrintMore
set_option linter.unusedVariables false
set_option linter.unusedSimpArgs false

abbrev Bld (B b : Nat) (l : List UInt8) (w : World) : Prop := Lib.IsBuilder 107 5 B b (Lib.byteCells l) w
theorem ws_calls (B b : Nat) (l : List UInt8) (s : List UInt8) (w : World) (h : Bld B b l w) (hlen : l.length + s.length ≤ 1000000) (hBw : B ≤ w.heap.size) :
    Calls Tryd.prog 53 #[.pointer (some ⟨b, 0, none⟩), .string (toB s)] w fun e w' => e = .returned (.tuple #[.int .i64 s.length, .nilIface]) ∧ Bld B b (l ++ s) w' ∧ Below B w w' := by
  have hs : (toB s).size = s.length := by show s.toArray.size = _; simp
  have hb : (Lib.byteCells l).length = l.length := by simp [Lib.byteCells]
  refine (Any.Builder_WriteString Tryd.sub166 Tryd.Builder_Extra_105 B b (Lib.byteCells l) (toB s) w h (by rw [hb, hs]; omega) hBw).mono ?_
  rintro e w' ⟨rfl, h1, h2⟩
  refine ⟨by rw [hs], .inr ?_, h2⟩
  have e1 : Lib.byteCells l ++ Lib.strCells (toB s) = Lib.byteCells (l ++ s) := by
    simp [Lib.byteCells, Lib.strCells, toB]
  rw [← e1]
  exact h1
theorem ws_any (B b : Nat) (l : List UInt8) (s : ByteArray) (x : List UInt8) (hx : s = toB x) (w : World) (h : Bld B b l w) (hlen : l.length + x.length ≤ 1000000) (hBw : B ≤ w.heap.size) :
    Calls Tryd.prog 53 #[.pointer (some ⟨b, 0, none⟩), .string s] w fun e w' => e = .returned (.tuple #[.int .i64 x.length, .nilIface]) ∧ Bld B b (l ++ x) w' ∧ Below B w w' := by
  subst hx; exact ws_calls B b l x w h hlen hBw
theorem bs_calls (B b : Nat) (l : List UInt8) (w : World) (h : Bld B b l w) (hBw : B ≤ w.heap.size) :
    Calls Tryd.prog 54 #[.pointer (some ⟨b, 0, none⟩)] w fun e w' => e = .returned (.string (toB l)) ∧ Below B w w' := Tryd.Builder_String_any B b l w h hBw
theorem bld_new {w : World} {B b : Nat} (h : w.heap[b]? = some (.cells #[.pointer none, .slice none 0 0] 107 (0, 0))) (hB : B ≤ b) : Bld B b [] w :=
  .inl ⟨hB, .slice none 0 0, h, ⟨rfl, .inl ⟨rfl, rfl⟩⟩, fun e => by cases e⟩
theorem Bld.step {w w' : World} {B b : Nat} {l : List UInt8} (h : Bld B b l w) (hb : Below w.heap.size w w') : Bld B b l w' := by
  rcases h with ⟨h1, v, h2, h3, h4⟩ | ⟨h1, v, h2, h3, h4⟩
  · exact .inl ⟨h1, v, Lb.blk_below h2 hb, own_keep h3 (fun k cs f hr => Lb.blk_below hr hb), h4⟩
  · exact .inr ⟨h1, v, Lb.blk_below h2 hb, own_keep h3 (fun k cs f hr => Lb.blk_below hr hb), h4⟩
/-- another block of another type is stored into -/
theorem Bld.other {w w' : World} {B b g' : Nat} {l : List UInt8} {cs : Array Value} {t : TypeId} {f : Nat × Nat} (h : Bld B b l w) (hb : w.heap[g']? = some (.cells cs t f)) (hg : w.grownBy w' (some g')) (h1 : t ≠ 107) (h2 : t ≠ 5) : Bld B b l w' := by
  have hk := types_blk hb hg
  rcases h with ⟨k1, v, k2, k3, k4⟩ | ⟨k1, v, k2, k3, k4⟩
  · exact .inl ⟨k1, v, hk _ _ _ _ (fun e => h1 e.symm) k2, own_keep k3 (fun k cs f hr => hk _ _ _ _ (fun e => h2 e.symm) hr), k4⟩
  · exact .inr ⟨k1, v, hk _ _ _ _ (fun e => h1 e.symm) k2, own_keep k3 (fun k cs f hr => hk _ _ _ _ (fun e => h2 e.symm) hr), k4⟩
end Go.Proofs.YtfiocakhgpdlfaaDoor.Sg
