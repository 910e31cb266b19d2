/- (*schema.layer).lay: it lays out what the plain function does, or refuses. -/
import Derived.Test.YthamffpieafkbaaGreatDoorGb
namespace Go.Proofs.YthamffpieafkbaaGreatDoor.Xw
open Go.RowKit Go.Lib Go.Proofs.YthamffpieafkbaaGreatDoor.PA Go.Proofs.YthamffpieafkbaaGreatDoorW.PrintWords Go.Proofs.YthamffpieafkbaaGreatDoorW.PrintLast Go.Proofs.YthamffpieafkbaaGreatDoorW.PrintMore
set_option linter.unusedVariables false
set_option linter.unusedSimpArgs false

structure LayRes (B : Nat) (g : Nat) (vN vT : Value) (r : Option LP) (e : Ending) (w' : World) : Prop where
  ex : (∃ s', r = some s' ∧ e = .returned (.tuple #[]) ∧ LIs B w' g vN vT s') ∨ (r = none ∧ e = bad 4)

theorem LayRes.no {B g : Nat} {vN vT : Value} {r : Option LP} {e : Ending} {w' : World} (h : LayRes B g vN vT r e w') (hr : r = none) : e = bad 4 := by
  rcases h.ex with ⟨s', h1, _⟩ | ⟨_, h2⟩
  · rw [hr] at h1; cases h1
  · exact h2
theorem LayRes.yes {B g : Nat} {vN vT : Value} {r : Option LP} {e : Ending} {w' : World} (h : LayRes B g vN vT r e w') {s : LP} (hr : r = some s) : e = .returned (.tuple #[]) ∧ LIs B w' g vN vT s := by
  rcases h.ex with ⟨s', h1, h2, h3⟩ | ⟨h1, _⟩
  · rw [hr] at h1; injection h1 with h1; subst h1; exact ⟨h2, h3⟩
  · rw [hr] at h1; cases h1
theorem add_z (a : Addr) : a.add (Int.toNat 0 * 3) = a := by
  have e : Int.toNat 0 * 3 = 0 := by decide
  rw [e]
  unfold Addr.add; split <;> simp_all
theorem add_zero_add (a : Addr) (j : Nat) : (a.add (Int.toNat 0 * 3)).add j = a.add j := by
  have e : Int.toNat 0 * 3 = 0 := by decide
  rw [e]
  have e2 : a.add 0 = a := by unfold Addr.add; split <;> simp_all
  rw [e2]

/-- what stays true of the arguments and the form while a layer lays out -/
structure Env (B : Nat) (w0 : World) (AN AT : Option Addr) (N : List Int) (T : List ByteArray) : Prop where
  rn : RowAt w0 AN (N.map (Value.int .i64))
  rt : RowAt w0 AT (T.map Value.string)
  le : w0.heap.size ≤ B
  ln : N.length ≤ 1000000000000
  lt : T.length ≤ 1000000000000

theorem put_some {B : Nat} {w : World} {g : Nat} {vN vT : Value} {s : LP} {k : Nat} {bs : List UInt8} (hf : s.size + k ≤ 65536) (h : LIs B w g vN vT { s with size := s.size + k, out := s.out ++ bs }) : LIs B w g vN vT (s.put k bs) := by
  unfold LP.put; rw [if_pos hf]; exact h
theorem put_none {B : Nat} {w : World} {g : Nat} {vN vT : Value} {s : LP} {k : Nat} {bs : List UInt8} (hf : ¬ s.size + k ≤ 65536) (h : LIs B w g vN vT { s with size := s.size + k }) : LIs B w g vN vT (s.put k bs) := by
  unfold LP.put; rw [if_neg hf]; exact h
theorem t_le {T : List ByteArray} {s : LP} {lo hi : Int} {p : ByteArray × LP} (h : s.txt T lo hi = some p) (hl : T.length ≤ 1000000000000) : s.t ≤ 4611686018427387904 := by
  have := (List.getElem?_eq_some_iff.1 (txt_some h).1).1; omega
theorem n_le {N : List Int} {s : LP} {lo hi : Int} {p : Int × LP} (h : s.num N lo hi = some p) (hl : N.length ≤ 1000000000000) : s.n ≤ 4611686018427387904 := by
  have := (List.getElem?_eq_some_iff.1 (num_some h).1).1; omega
theorem layL_drop (N : List Int) (T : List ByteArray) (l : List S117) (i : Nat) (h : i < l.length) (s : LP) : layL N T (l.drop i) s = (layOne N T (l[i]'h) s).bind fun s => layL N T (l.drop (i + 1)) s := by
  rw [List.drop_eq_getElem_cons h, layL]
theorem okL_drop (l : List S117) : ∀ (i : Nat) (h : i < l.length), okL l = true → okS (l[i]'h) = true := by
  induction l with
  | nil => intro i h; simp at h
  | cons x r ih =>
    intro i h hok
    replace hok := okL_cons hok
    cases i with
    | zero => exact hok.1
    | succ i => exact ih i (by simpa using h) hok.2

theorem grow_yes (k : Nat) (B g : Nat) (vN vT : Value) (s : LP) (w : World) (h : LIs B w g vN vT s) (hk : s.size + k ≤ 4611686018427387904) (hf : s.size + k ≤ 65536) :
    Calls Tryz.prog 49 #[.pointer (some ⟨g, 0, none⟩), .int .i64 k] w fun e w' => e = .returned (.bool true) ∧ LIs B w' g vN vT { s with size := s.size + k } ∧ Fr 86 B w w' := by
  have := grow_calls k B g vN vT s w h hk
  rw [decide_eq_true hf] at this
  exact this
theorem grow_not (k : Nat) (B g : Nat) (vN vT : Value) (s : LP) (w : World) (h : LIs B w g vN vT s) (hk : s.size + k ≤ 4611686018427387904) (hf : ¬ s.size + k ≤ 65536) :
    Calls Tryz.prog 49 #[.pointer (some ⟨g, 0, none⟩), .int .i64 k] w fun e w' => e = .returned (.bool false) ∧ LIs B w' g vN vT { s with size := s.size + k } ∧ Fr 86 B w w' := by
  have := grow_calls k B g vN vT s w h hk
  rw [decide_eq_false hf] at this
  exact this

theorem grow_yes4 (B g : Nat) (vN vT : Value) (s : LP) (w : World) (h : LIs B w g vN vT s) (hk : s.size + 4 ≤ 4611686018427387904) (hf : s.size + 4 ≤ 65536) :
    Calls Tryz.prog 49 #[.pointer (some ⟨g, 0, none⟩), .int .i64 4] w fun e w' => e = .returned (.bool true) ∧ LIs B w' g vN vT { s with size := s.size + 4 } ∧ Fr 86 B w w' := grow_yes 4 B g vN vT s w h hk hf
theorem grow_not4 (B g : Nat) (vN vT : Value) (s : LP) (w : World) (h : LIs B w g vN vT s) (hk : s.size + 4 ≤ 4611686018427387904) (hf : ¬ s.size + 4 ≤ 65536) :
    Calls Tryz.prog 49 #[.pointer (some ⟨g, 0, none⟩), .int .i64 4] w fun e w' => e = .returned (.bool false) ∧ LIs B w' g vN vT { s with size := s.size + 4 } ∧ Fr 86 B w w' := grow_not 4 B g vN vT s w h hk hf
theorem grow_yes8 (B g : Nat) (vN vT : Value) (s : LP) (w : World) (h : LIs B w g vN vT s) (hk : s.size + 8 ≤ 4611686018427387904) (hf : s.size + 8 ≤ 65536) :
    Calls Tryz.prog 49 #[.pointer (some ⟨g, 0, none⟩), .int .i64 8] w fun e w' => e = .returned (.bool true) ∧ LIs B w' g vN vT { s with size := s.size + 8 } ∧ Fr 86 B w w' := grow_yes 8 B g vN vT s w h hk hf
theorem grow_not8 (B g : Nat) (vN vT : Value) (s : LP) (w : World) (h : LIs B w g vN vT s) (hk : s.size + 8 ≤ 4611686018427387904) (hf : ¬ s.size + 8 ≤ 65536) :
    Calls Tryz.prog 49 #[.pointer (some ⟨g, 0, none⟩), .int .i64 8] w fun e w' => e = .returned (.bool false) ∧ LIs B w' g vN vT { s with size := s.size + 8 } ∧ Fr 86 B w w' := grow_not 8 B g vN vT s w h hk hf

set_option maxRecDepth 100000 in
set_option maxHeartbeats 60000000 in
theorem lay_calls (B : Nat) (w0 : World) (AN AT : Option Addr) (cN cT : Nat) (N : List Int) (T : List ByteArray) (hE : Env B w0 AN AT N T) : ∀ (d : Nat) (xs : List S117) (hd : SizeOf.sizeOf xs ≤ d) (A : Option Addr) (c g : Nat) (s : LP) (w : World)
    (hC : Kd.C k117 w0 A xs.length xs) (hb : Below B w0 w) (hL : LIs B w g (.slice AN N.length cN) (.slice AT T.length cT) s) (hok : okL xs = true) (hph : phi N T s ≤ 4000000000000000000) (ho : outOK s),
    Calls Tryz.prog 32 #[.pointer (some ⟨g, 0, none⟩), .slice A xs.length c] w fun e w' => Fr 86 B w w' ∧ LayRes B g (.slice AN N.length cN) (.slice AT T.length cT) (layL N T xs s) e w' := by
  intro d
  induction d with
  | zero =>
    intro xs hd
    cases xs with
    | nil => simp at hd
    | cons x r => simp at hd
  | succ d ih =>
    intro xs hd A c g s w hC hb hL hok hph ho
    have hlen := okL_len xs hok
    have IH := Aside0.mk ih
    have HE := Aside0.mk hE
    have HC := Aside0.mk hC
    have HB0 := Aside0.mk hb
    have HL := Aside0.mk hL
    have HOK := Aside0.mk hok
    have HPH := Aside0.mk hph
    have HO := Aside0.mk ho
    have HD := Aside0.mk hd
    clear ih hE hC hb hL hok hph ho hd
    go_enter Tryz.func32, Tryz.ntmps32
    go_wp2_with fail
    go_loopg [17] xs.length (fun gk s17 wr => ∃ (i : Nat) (u : LP), i + gk = xs.length ∧ s17 = .int .i64 i ∧ Aside0 (layL N T (xs.drop i) u = layL N T xs s) ∧ Aside0 (LIs B wr g (.slice AN N.length cN) (.slice AT T.length cT) u) ∧ Aside0 (Fr 86 B w wr) ∧ Aside0 (phi N T u ≤ 4000000000000000000) ∧ Aside0 (outOK u))
    case atStart => exact ⟨0, s, by omega, rfl, ⟨rfl⟩, HL, ⟨Fr.refl _ _ _⟩, HPH, HO⟩
    case round =>
      clear HL HPH HO
      obtain ⟨i, u, hi, rfl, HR, HL, HB, HPH, HO⟩ := hrel
      cases gk with
      | zero =>
        obtain rfl : i = xs.length := by omega
        have hii : ¬ ((xs.length : Int) < (xs.length : Int)) := by omega
        go_wp2
        go_end0
        refine And.intro HB.out (LayRes.mk (.inl ⟨u, ?_, rfl, HL.out⟩))
        rw [← HR.out, List.drop_length, layL]
      | succ gk =>
        have hlt : i < xs.length := by omega
        have hii : (i : Int) < (xs.length : Int) := by omega
        obtain ⟨ad, A2, c2, rfl, h0, h1, h2, hl2, hC2⟩ := at_T117 HC.out i (by omega) (by omega)
        have e0 : rd_T117 xs i = xs[i] := by simp [rd_T117, List.getD_eq_getElem?_getD, List.getElem?_eq_getElem hlt]
        rw [e0] at h0 h1 h2 hl2 hC2
        have hdr := layL_drop N T xs i hlt u
        rw [HR.out] at hdr
        have hoky := okL_drop xs i hlt HOK.out
        have hmem : xs[i] ∈ xs := List.getElem_mem _
        have hsz := List.sizeOf_lt_of_mem hmem
        obtain ⟨y, hy⟩ : ∃ y, y = xs[i] := ⟨_, rfl⟩
        rw [← hy] at h0 h1 h2 hl2 hC2 hdr hoky hsz
        simp only [Int.toNat_natCast] at h0 h1 h2
        have hBW := HB0.out.trans HB.out.bel
        replace h0 := Lib.Below.cellOf hBW h0 HE.out.le
        replace h1 := Lib.Below.cellOf hBW h1 HE.out.le
        replace h2 := Lib.Below.cellOf hBW h2 HE.out.le
        have HBW := Aside0.mk hBW
        have HC2 := Aside0.mk hC2
        have HDR := Aside0.mk hdr
        have HOKY := Aside0.mk hoky
        have hkind := okS_kind y hoky
        obtain ⟨k, n, arms⟩ := y
        have hsz2 : SizeOf.sizeOf arms < d := by have := HD.out; simp only [S117.mk.sizeOf_spec] at hsz; omega
        have HSZ := Aside0.mk hsz2
        have HNA : Aside0 (Args B w0 wr AN (N.map (Value.int .i64))) := ⟨⟨HE.out.rn, HBW.out, HE.out.le⟩⟩
        have HTA : Aside0 (Args B w0 wr AT (T.map Value.string)) := ⟨⟨HE.out.rt, HBW.out, HE.out.le⟩⟩
        have huo : u.out.length ≤ 65536 := HO.out.2
        have hph := HPH.out
        have husz : u.size ≤ 4000000000000000000 := Nat.le_trans (by unfold phi; omega) HPH.out
        have HUS := Aside0.mk husz
        have HUO := Aside0.mk huo
        clear hdr hoky hsz hsz2 hmem hy e0 hBW hl2 hC2 hph husz huo
        rcases hkind with hk | hk | hk | hk | hk | hk | hk | hk
        · as_aux_lemma =>
          have hk' : k = 117 := hk
          subst hk'
          clear hk
          cases hnum : u.num N 0 4294967295 with
          | none =>
            have HONE : Aside0 (layOne N T (.mk 117 n arms) u = none) := ⟨by rw [layOne]; simp only [hnum]; rfl⟩
            have HNUM := Aside0.mk hnum
            clear hnum
            go_wp2_with (first
            | ((with_reducible refine gate_dst (N := 5) rfl ?_); refine box_event ?hg (N := 5) ?hd (cs := #[.int .u8 0, .int .i64 0, .slice none 0 0]) (t := 117) ?hr ?_; (case hd => rfl); (case hg => rfl); (case hr => first | (go_simp; done) | (go_simp; rfl)); intro g2 hg2 w2 hx2 hb2; have HB2 := Aside0.mk hb2; have HL2 := Aside0.mk (HL.out.step hb2); have HX2 := Aside0.mk hx2; have HG2 := Aside0.mk (show wr.heap.size ≤ g2 by omega); have HNE := Aside0.mk (show g ≠ g2 by obtain ⟨v, hv⟩ := HL.out.ex; have := blk_lt hv.blk; omega); clear hx2 hb2 hg2; clear h0 h1 h2)
            | ((with_reducible refine gate_store (t := 117) (p := 5) rfl ?_); refine Lb.store_whole rfl rfl 117 (.tmp 5) (.tmp 20) rfl (new := #[.int .u8 117, .int .i64 n, .slice A2 arms.length c2]) rfl rfl HX2.out rfl (by kernel_rfl) (by simp [Value.oneCell']) ?_; intro w3 hb3 hg3; have HX3 := Aside0.mk hb3; have HB3 : Aside0 (Fr 86 B wr w3) := ⟨Fr.of (Lb.grown_below HB2.out hg3 HB2.out.size HG2.out) HL.out.lt⟩; have HL3 := Aside0.mk (HL2.out.other hg3 HX2.out (by decide)); have d0 := (blk_cell hb3 0).trans rfl; have d1 := (blk_cell hb3 1).trans rfl; have d2 := (blk_cell hb3 2).trans rfl; clear hb3 hg3)
            | (go_at_call 48; (with_reducible refine (lnumber_bad 0 4294967295 B g AN cN N _ u w0 w3 HL3.out (HNA.out.step HB3.out.bel) HNUM.out).mono ?_); rintro e w4 ⟨he, hbb⟩; unfold bad at he; subst he; have HB4 := Aside0.mk (HB3.out.trans hbb); clear hbb))
            exact And.intro rfl (And.intro (HB.out.trans HB4.out) (LayRes.mk (.inr ⟨by rw [HDR.out, HONE.out]; rfl, rfl⟩)))
          | some p =>
            obtain ⟨hx, hlo, hhi, hp⟩ := num_some hnum
            obtain ⟨x, s1⟩ := p
            simp only at hx hlo hhi hp
            have hph1 := num_phi (T := T) hnum
            simp only at hph1
            have hs1 := hph1.2.1 HO.out
            have HONE : Aside0 (layOne N T (.mk 117 n arms) u = some (s1.put 4 (be x 4))) := ⟨by rw [layOne]; simp only [hnum]; rfl⟩
            have hput := put_phi N T s1 4 (be x 4)
            have HPH' : Aside0 (phi N T (s1.put 4 (be x 4)) ≤ 4000000000000000000) := ⟨by have := HPH.out; omega⟩
            have HO' : Aside0 (outOK (s1.put 4 (be x 4))) := ⟨put_out _ _ _ (by rw [be_length]; omega) hs1⟩
            have HS1 := Aside0.mk hp
            have HX := Aside0.mk hx
            have HLO := Aside0.mk hlo
            have HHI := Aside0.mk hhi
            have HUN := Aside0.mk (n_le hnum HE.out.ln)
            subst hp
            clear hnum hx hlo hhi hph1 hs1 hput
            by_cases hfit : u.size + 4 ≤ 65536
            · have HFIT := Aside0.mk hfit
              clear hfit
              go_wp2_with (first
            | ((with_reducible refine gate_dst (N := 5) rfl ?_); refine box_event ?hg (N := 5) ?hd (cs := #[.int .u8 0, .int .i64 0, .slice none 0 0]) (t := 117) ?hr ?_; (case hd => rfl); (case hg => rfl); (case hr => first | (go_simp; done) | (go_simp; rfl)); intro g2 hg2 w2 hx2 hb2; have HB2 := Aside0.mk hb2; have HL2 := Aside0.mk (HL.out.step hb2); have HX2 := Aside0.mk hx2; have HG2 := Aside0.mk (show wr.heap.size ≤ g2 by omega); have HNE := Aside0.mk (show g ≠ g2 by obtain ⟨v, hv⟩ := HL.out.ex; have := blk_lt hv.blk; omega); clear hx2 hb2 hg2; clear h0 h1 h2)
            | ((with_reducible refine gate_store (t := 117) (p := 5) rfl ?_); refine Lb.store_whole rfl rfl 117 (.tmp 5) (.tmp 20) rfl (new := #[.int .u8 117, .int .i64 n, .slice A2 arms.length c2]) rfl rfl HX2.out rfl (by kernel_rfl) (by simp [Value.oneCell']) ?_; intro w3 hb3 hg3; have HX3 := Aside0.mk hb3; have HB3 : Aside0 (Fr 86 B wr w3) := ⟨Fr.of (Lb.grown_below HB2.out hg3 HB2.out.size HG2.out) HL.out.lt⟩; have HL3 := Aside0.mk (HL2.out.other hg3 HX2.out (by decide)); have d0 := (blk_cell hb3 0).trans rfl; have d1 := (blk_cell hb3 1).trans rfl; have d2 := (blk_cell hb3 2).trans rfl; clear hb3 hg3)
            | (go_at_call 48; (with_reducible refine (lnumber_ok 0 4294967295 x B g AN cN N _ u w0 w3 HL3.out (HNA.out.step HB3.out.bel) HX.out HLO.out HHI.out HUN.out).mono ?_); rintro e w4 ⟨rfl, hl, hbb⟩; have HL4 := Aside0.mk hl; have HB4 := Aside0.mk (HB3.out.trans hbb); clear hl hbb)
            | (go_at_call 49; (with_reducible refine (grow_yes4 B g _ _ _ w4 HL4.out (by have := HUS.out; show u.size + 4 ≤ _; omega) HFIT.out).mono ?_); rintro e w5 ⟨rfl, hl, hbb⟩; have HL5 := Aside0.mk hl; have HB5 := Aside0.mk (HB4.out.trans hbb); clear hl hbb)
            | (go_at_call 50; (with_reducible refine (wuint_calls x B g _ _ _ w5 HL5.out (by have := HUO.out; show u.out.length ≤ _; omega)).mono ?_); rintro e w6 ⟨rfl, hl, hbb⟩; have HL6 := Aside0.mk (put_some (s := { u with n := u.n + 1 }) (k := 4) (bs := be x 4) HFIT.out hl); have HB6 := Aside0.mk (HB5.out.trans hbb); clear hl hbb))
              go_roundg gk
              case measure => omega
              case rel => exact ⟨i + 1, _, by omega, by first | rfl | (congr 1; unfold wrap64; omega), ⟨by rw [HDR.out, HONE.out]; rfl⟩, HL6, ⟨HB.out.trans HB6.out⟩, HPH', HO'⟩
            · have HFIT := Aside0.mk hfit
              clear hfit
              go_wp2_with (first
            | ((with_reducible refine gate_dst (N := 5) rfl ?_); refine box_event ?hg (N := 5) ?hd (cs := #[.int .u8 0, .int .i64 0, .slice none 0 0]) (t := 117) ?hr ?_; (case hd => rfl); (case hg => rfl); (case hr => first | (go_simp; done) | (go_simp; rfl)); intro g2 hg2 w2 hx2 hb2; have HB2 := Aside0.mk hb2; have HL2 := Aside0.mk (HL.out.step hb2); have HX2 := Aside0.mk hx2; have HG2 := Aside0.mk (show wr.heap.size ≤ g2 by omega); have HNE := Aside0.mk (show g ≠ g2 by obtain ⟨v, hv⟩ := HL.out.ex; have := blk_lt hv.blk; omega); clear hx2 hb2 hg2; clear h0 h1 h2)
            | ((with_reducible refine gate_store (t := 117) (p := 5) rfl ?_); refine Lb.store_whole rfl rfl 117 (.tmp 5) (.tmp 20) rfl (new := #[.int .u8 117, .int .i64 n, .slice A2 arms.length c2]) rfl rfl HX2.out rfl (by kernel_rfl) (by simp [Value.oneCell']) ?_; intro w3 hb3 hg3; have HX3 := Aside0.mk hb3; have HB3 : Aside0 (Fr 86 B wr w3) := ⟨Fr.of (Lb.grown_below HB2.out hg3 HB2.out.size HG2.out) HL.out.lt⟩; have HL3 := Aside0.mk (HL2.out.other hg3 HX2.out (by decide)); have d0 := (blk_cell hb3 0).trans rfl; have d1 := (blk_cell hb3 1).trans rfl; have d2 := (blk_cell hb3 2).trans rfl; clear hb3 hg3)
            | (go_at_call 48; (with_reducible refine (lnumber_ok 0 4294967295 x B g AN cN N _ u w0 w3 HL3.out (HNA.out.step HB3.out.bel) HX.out HLO.out HHI.out HUN.out).mono ?_); rintro e w4 ⟨rfl, hl, hbb⟩; have HL4 := Aside0.mk hl; have HB4 := Aside0.mk (HB3.out.trans hbb); clear hl hbb)
            | (go_at_call 49; (with_reducible refine (grow_not4 B g _ _ _ w4 HL4.out (by have := HUS.out; show u.size + 4 ≤ _; omega) HFIT.out).mono ?_); rintro e w5 ⟨rfl, hl, hbb⟩; have HL5 := Aside0.mk hl; have HB5 := Aside0.mk (HB4.out.trans hbb); clear hl hbb))
              go_roundg gk
              case measure => omega
              case rel => exact ⟨i + 1, _, by omega, by first | rfl | (congr 1; unfold wrap64; omega), ⟨by rw [HDR.out, HONE.out]; rfl⟩, ⟨put_none (s := { u with n := u.n + 1 }) (k := 4) (bs := be x 4) HFIT.out HL5.out⟩, ⟨HB.out.trans HB5.out⟩, HPH', HO'⟩
        · as_aux_lemma =>
          have hk' : k = 113 := hk
          subst hk'
          clear hk
          cases hnum : u.num N (-9223372036854775808) 9223372036854775807 with
          | none =>
            have HONE : Aside0 (layOne N T (.mk 113 n arms) u = none) := ⟨by rw [layOne]; simp only [hnum]; rfl⟩
            have HNUM := Aside0.mk hnum
            clear hnum
            go_wp2_with (first
            | ((with_reducible refine gate_dst (N := 5) rfl ?_); refine box_event ?hg (N := 5) ?hd (cs := #[.int .u8 0, .int .i64 0, .slice none 0 0]) (t := 117) ?hr ?_; (case hd => rfl); (case hg => rfl); (case hr => first | (go_simp; done) | (go_simp; rfl)); intro g2 hg2 w2 hx2 hb2; have HB2 := Aside0.mk hb2; have HL2 := Aside0.mk (HL.out.step hb2); have HX2 := Aside0.mk hx2; have HG2 := Aside0.mk (show wr.heap.size ≤ g2 by omega); have HNE := Aside0.mk (show g ≠ g2 by obtain ⟨v, hv⟩ := HL.out.ex; have := blk_lt hv.blk; omega); clear hx2 hb2 hg2; clear h0 h1 h2)
            | ((with_reducible refine gate_store (t := 117) (p := 5) rfl ?_); refine Lb.store_whole rfl rfl 117 (.tmp 5) (.tmp 20) rfl (new := #[.int .u8 113, .int .i64 n, .slice A2 arms.length c2]) rfl rfl HX2.out rfl (by kernel_rfl) (by simp [Value.oneCell']) ?_; intro w3 hb3 hg3; have HX3 := Aside0.mk hb3; have HB3 : Aside0 (Fr 86 B wr w3) := ⟨Fr.of (Lb.grown_below HB2.out hg3 HB2.out.size HG2.out) HL.out.lt⟩; have HL3 := Aside0.mk (HL2.out.other hg3 HX2.out (by decide)); have d0 := (blk_cell hb3 0).trans rfl; have d1 := (blk_cell hb3 1).trans rfl; have d2 := (blk_cell hb3 2).trans rfl; clear hb3 hg3)
            | (go_at_call 48; (with_reducible refine (lnumber_bad (-9223372036854775808) 9223372036854775807 B g AN cN N _ u w0 w3 HL3.out (HNA.out.step HB3.out.bel) HNUM.out).mono ?_); rintro e w4 ⟨he, hbb⟩; unfold bad at he; subst he; have HB4 := Aside0.mk (HB3.out.trans hbb); clear hbb))
            exact And.intro rfl (And.intro (HB.out.trans HB4.out) (LayRes.mk (.inr ⟨by rw [HDR.out, HONE.out]; rfl, rfl⟩)))
          | some p =>
            obtain ⟨hx, hlo, hhi, hp⟩ := num_some hnum
            obtain ⟨x, s1⟩ := p
            simp only at hx hlo hhi hp
            have hph1 := num_phi (T := T) hnum
            simp only at hph1
            have hs1 := hph1.2.1 HO.out
            have HONE : Aside0 (layOne N T (.mk 113 n arms) u = some (s1.put 8 (be x 8))) := ⟨by rw [layOne]; simp only [hnum]; rfl⟩
            have hput := put_phi N T s1 8 (be x 8)
            have HPH' : Aside0 (phi N T (s1.put 8 (be x 8)) ≤ 4000000000000000000) := ⟨by have := HPH.out; omega⟩
            have HO' : Aside0 (outOK (s1.put 8 (be x 8))) := ⟨put_out _ _ _ (by rw [be_length]; omega) hs1⟩
            have HS1 := Aside0.mk hp
            have HX := Aside0.mk hx
            have HLO := Aside0.mk hlo
            have HHI := Aside0.mk hhi
            have HUN := Aside0.mk (n_le hnum HE.out.ln)
            subst hp
            clear hnum hx hlo hhi hph1 hs1 hput
            by_cases hfit : u.size + 8 ≤ 65536
            · have HFIT := Aside0.mk hfit
              clear hfit
              go_wp2_with (first
            | ((with_reducible refine gate_dst (N := 5) rfl ?_); refine box_event ?hg (N := 5) ?hd (cs := #[.int .u8 0, .int .i64 0, .slice none 0 0]) (t := 117) ?hr ?_; (case hd => rfl); (case hg => rfl); (case hr => first | (go_simp; done) | (go_simp; rfl)); intro g2 hg2 w2 hx2 hb2; have HB2 := Aside0.mk hb2; have HL2 := Aside0.mk (HL.out.step hb2); have HX2 := Aside0.mk hx2; have HG2 := Aside0.mk (show wr.heap.size ≤ g2 by omega); have HNE := Aside0.mk (show g ≠ g2 by obtain ⟨v, hv⟩ := HL.out.ex; have := blk_lt hv.blk; omega); clear hx2 hb2 hg2; clear h0 h1 h2)
            | ((with_reducible refine gate_store (t := 117) (p := 5) rfl ?_); refine Lb.store_whole rfl rfl 117 (.tmp 5) (.tmp 20) rfl (new := #[.int .u8 113, .int .i64 n, .slice A2 arms.length c2]) rfl rfl HX2.out rfl (by kernel_rfl) (by simp [Value.oneCell']) ?_; intro w3 hb3 hg3; have HX3 := Aside0.mk hb3; have HB3 : Aside0 (Fr 86 B wr w3) := ⟨Fr.of (Lb.grown_below HB2.out hg3 HB2.out.size HG2.out) HL.out.lt⟩; have HL3 := Aside0.mk (HL2.out.other hg3 HX2.out (by decide)); have d0 := (blk_cell hb3 0).trans rfl; have d1 := (blk_cell hb3 1).trans rfl; have d2 := (blk_cell hb3 2).trans rfl; clear hb3 hg3)
            | (go_at_call 48; (with_reducible refine (lnumber_ok (-9223372036854775808) 9223372036854775807 x B g AN cN N _ u w0 w3 HL3.out (HNA.out.step HB3.out.bel) HX.out HLO.out HHI.out HUN.out).mono ?_); rintro e w4 ⟨rfl, hl, hbb⟩; have HL4 := Aside0.mk hl; have HB4 := Aside0.mk (HB3.out.trans hbb); clear hl hbb)
            | (go_at_call 49; (with_reducible refine (grow_yes8 B g _ _ _ w4 HL4.out (by have := HUS.out; show u.size + 8 ≤ _; omega) HFIT.out).mono ?_); rintro e w5 ⟨rfl, hl, hbb⟩; have HL5 := Aside0.mk hl; have HB5 := Aside0.mk (HB4.out.trans hbb); clear hl hbb)
            | (go_at_call 51; (with_reducible refine (whyper_calls x B g _ _ _ w5 HL5.out (by have := HUO.out; show u.out.length ≤ _; omega)).mono ?_); rintro e w6 ⟨rfl, hl, hbb⟩; have HL6 := Aside0.mk (put_some (s := { u with n := u.n + 1 }) (k := 8) (bs := be x 8) HFIT.out hl); have HB6 := Aside0.mk (HB5.out.trans hbb); clear hl hbb))
              go_roundg gk
              case measure => omega
              case rel => exact ⟨i + 1, _, by omega, by first | rfl | (congr 1; unfold wrap64; omega), ⟨by rw [HDR.out, HONE.out]; rfl⟩, HL6, ⟨HB.out.trans HB6.out⟩, HPH', HO'⟩
            · have HFIT := Aside0.mk hfit
              clear hfit
              go_wp2_with (first
            | ((with_reducible refine gate_dst (N := 5) rfl ?_); refine box_event ?hg (N := 5) ?hd (cs := #[.int .u8 0, .int .i64 0, .slice none 0 0]) (t := 117) ?hr ?_; (case hd => rfl); (case hg => rfl); (case hr => first | (go_simp; done) | (go_simp; rfl)); intro g2 hg2 w2 hx2 hb2; have HB2 := Aside0.mk hb2; have HL2 := Aside0.mk (HL.out.step hb2); have HX2 := Aside0.mk hx2; have HG2 := Aside0.mk (show wr.heap.size ≤ g2 by omega); have HNE := Aside0.mk (show g ≠ g2 by obtain ⟨v, hv⟩ := HL.out.ex; have := blk_lt hv.blk; omega); clear hx2 hb2 hg2; clear h0 h1 h2)
            | ((with_reducible refine gate_store (t := 117) (p := 5) rfl ?_); refine Lb.store_whole rfl rfl 117 (.tmp 5) (.tmp 20) rfl (new := #[.int .u8 113, .int .i64 n, .slice A2 arms.length c2]) rfl rfl HX2.out rfl (by kernel_rfl) (by simp [Value.oneCell']) ?_; intro w3 hb3 hg3; have HX3 := Aside0.mk hb3; have HB3 : Aside0 (Fr 86 B wr w3) := ⟨Fr.of (Lb.grown_below HB2.out hg3 HB2.out.size HG2.out) HL.out.lt⟩; have HL3 := Aside0.mk (HL2.out.other hg3 HX2.out (by decide)); have d0 := (blk_cell hb3 0).trans rfl; have d1 := (blk_cell hb3 1).trans rfl; have d2 := (blk_cell hb3 2).trans rfl; clear hb3 hg3)
            | (go_at_call 48; (with_reducible refine (lnumber_ok (-9223372036854775808) 9223372036854775807 x B g AN cN N _ u w0 w3 HL3.out (HNA.out.step HB3.out.bel) HX.out HLO.out HHI.out HUN.out).mono ?_); rintro e w4 ⟨rfl, hl, hbb⟩; have HL4 := Aside0.mk hl; have HB4 := Aside0.mk (HB3.out.trans hbb); clear hl hbb)
            | (go_at_call 49; (with_reducible refine (grow_not8 B g _ _ _ w4 HL4.out (by have := HUS.out; show u.size + 8 ≤ _; omega) HFIT.out).mono ?_); rintro e w5 ⟨rfl, hl, hbb⟩; have HL5 := Aside0.mk hl; have HB5 := Aside0.mk (HB4.out.trans hbb); clear hl hbb))
              go_roundg gk
              case measure => omega
              case rel => exact ⟨i + 1, _, by omega, by first | rfl | (congr 1; unfold wrap64; omega), ⟨by rw [HDR.out, HONE.out]; rfl⟩, ⟨put_none (s := { u with n := u.n + 1 }) (k := 8) (bs := be x 8) HFIT.out HL5.out⟩, ⟨HB.out.trans HB5.out⟩, HPH', HO'⟩
        · as_aux_lemma =>
          have hk' : k = 98 := hk
          subst hk'
          clear hk
          cases hnum : u.num N 0 1 with
          | none =>
            have HONE : Aside0 (layOne N T (.mk 98 n arms) u = none) := ⟨by rw [layOne]; simp only [hnum]; rfl⟩
            have HNUM := Aside0.mk hnum
            clear hnum
            go_wp2_with (first
            | ((with_reducible refine gate_dst (N := 5) rfl ?_); refine box_event ?hg (N := 5) ?hd (cs := #[.int .u8 0, .int .i64 0, .slice none 0 0]) (t := 117) ?hr ?_; (case hd => rfl); (case hg => rfl); (case hr => first | (go_simp; done) | (go_simp; rfl)); intro g2 hg2 w2 hx2 hb2; have HB2 := Aside0.mk hb2; have HL2 := Aside0.mk (HL.out.step hb2); have HX2 := Aside0.mk hx2; have HG2 := Aside0.mk (show wr.heap.size ≤ g2 by omega); have HNE := Aside0.mk (show g ≠ g2 by obtain ⟨v, hv⟩ := HL.out.ex; have := blk_lt hv.blk; omega); clear hx2 hb2 hg2; clear h0 h1 h2)
            | ((with_reducible refine gate_store (t := 117) (p := 5) rfl ?_); refine Lb.store_whole rfl rfl 117 (.tmp 5) (.tmp 20) rfl (new := #[.int .u8 98, .int .i64 n, .slice A2 arms.length c2]) rfl rfl HX2.out rfl (by kernel_rfl) (by simp [Value.oneCell']) ?_; intro w3 hb3 hg3; have HX3 := Aside0.mk hb3; have HB3 : Aside0 (Fr 86 B wr w3) := ⟨Fr.of (Lb.grown_below HB2.out hg3 HB2.out.size HG2.out) HL.out.lt⟩; have HL3 := Aside0.mk (HL2.out.other hg3 HX2.out (by decide)); have d0 := (blk_cell hb3 0).trans rfl; have d1 := (blk_cell hb3 1).trans rfl; have d2 := (blk_cell hb3 2).trans rfl; clear hb3 hg3)
            | (go_at_call 48; (with_reducible refine (lnumber_bad 0 1 B g AN cN N _ u w0 w3 HL3.out (HNA.out.step HB3.out.bel) HNUM.out).mono ?_); rintro e w4 ⟨he, hbb⟩; unfold bad at he; subst he; have HB4 := Aside0.mk (HB3.out.trans hbb); clear hbb))
            exact And.intro rfl (And.intro (HB.out.trans HB4.out) (LayRes.mk (.inr ⟨by rw [HDR.out, HONE.out]; rfl, rfl⟩)))
          | some p =>
            obtain ⟨hx, hlo, hhi, hp⟩ := num_some hnum
            obtain ⟨x, s1⟩ := p
            simp only at hx hlo hhi hp
            have hph1 := num_phi (T := T) hnum
            simp only at hph1
            have hs1 := hph1.2.1 HO.out
            have HONE : Aside0 (layOne N T (.mk 98 n arms) u = some (s1.put 4 (be x 4))) := ⟨by rw [layOne]; simp only [hnum]; rfl⟩
            have hput := put_phi N T s1 4 (be x 4)
            have HPH' : Aside0 (phi N T (s1.put 4 (be x 4)) ≤ 4000000000000000000) := ⟨by have := HPH.out; omega⟩
            have HO' : Aside0 (outOK (s1.put 4 (be x 4))) := ⟨put_out _ _ _ (by rw [be_length]; omega) hs1⟩
            have HS1 := Aside0.mk hp
            have HX := Aside0.mk hx
            have HLO := Aside0.mk hlo
            have HHI := Aside0.mk hhi
            have HUN := Aside0.mk (n_le hnum HE.out.ln)
            subst hp
            clear hnum hx hlo hhi hph1 hs1 hput
            by_cases hfit : u.size + 4 ≤ 65536
            · have HFIT := Aside0.mk hfit
              clear hfit
              go_wp2_with (first
            | ((with_reducible refine gate_dst (N := 5) rfl ?_); refine box_event ?hg (N := 5) ?hd (cs := #[.int .u8 0, .int .i64 0, .slice none 0 0]) (t := 117) ?hr ?_; (case hd => rfl); (case hg => rfl); (case hr => first | (go_simp; done) | (go_simp; rfl)); intro g2 hg2 w2 hx2 hb2; have HB2 := Aside0.mk hb2; have HL2 := Aside0.mk (HL.out.step hb2); have HX2 := Aside0.mk hx2; have HG2 := Aside0.mk (show wr.heap.size ≤ g2 by omega); have HNE := Aside0.mk (show g ≠ g2 by obtain ⟨v, hv⟩ := HL.out.ex; have := blk_lt hv.blk; omega); clear hx2 hb2 hg2; clear h0 h1 h2)
            | ((with_reducible refine gate_store (t := 117) (p := 5) rfl ?_); refine Lb.store_whole rfl rfl 117 (.tmp 5) (.tmp 20) rfl (new := #[.int .u8 98, .int .i64 n, .slice A2 arms.length c2]) rfl rfl HX2.out rfl (by kernel_rfl) (by simp [Value.oneCell']) ?_; intro w3 hb3 hg3; have HX3 := Aside0.mk hb3; have HB3 : Aside0 (Fr 86 B wr w3) := ⟨Fr.of (Lb.grown_below HB2.out hg3 HB2.out.size HG2.out) HL.out.lt⟩; have HL3 := Aside0.mk (HL2.out.other hg3 HX2.out (by decide)); have d0 := (blk_cell hb3 0).trans rfl; have d1 := (blk_cell hb3 1).trans rfl; have d2 := (blk_cell hb3 2).trans rfl; clear hb3 hg3)
            | (go_at_call 48; (with_reducible refine (lnumber_ok 0 1 x B g AN cN N _ u w0 w3 HL3.out (HNA.out.step HB3.out.bel) HX.out HLO.out HHI.out HUN.out).mono ?_); rintro e w4 ⟨rfl, hl, hbb⟩; have HL4 := Aside0.mk hl; have HB4 := Aside0.mk (HB3.out.trans hbb); clear hl hbb)
            | (go_at_call 49; (with_reducible refine (grow_yes4 B g _ _ _ w4 HL4.out (by have := HUS.out; show u.size + 4 ≤ _; omega) HFIT.out).mono ?_); rintro e w5 ⟨rfl, hl, hbb⟩; have HL5 := Aside0.mk hl; have HB5 := Aside0.mk (HB4.out.trans hbb); clear hl hbb)
            | (go_at_call 50; (with_reducible refine (wuint_calls x B g _ _ _ w5 HL5.out (by have := HUO.out; show u.out.length ≤ _; omega)).mono ?_); rintro e w6 ⟨rfl, hl, hbb⟩; have HL6 := Aside0.mk (put_some (s := { u with n := u.n + 1 }) (k := 4) (bs := be x 4) HFIT.out hl); have HB6 := Aside0.mk (HB5.out.trans hbb); clear hl hbb))
              go_roundg gk
              case measure => omega
              case rel => exact ⟨i + 1, _, by omega, by first | rfl | (congr 1; unfold wrap64; omega), ⟨by rw [HDR.out, HONE.out]; rfl⟩, HL6, ⟨HB.out.trans HB6.out⟩, HPH', HO'⟩
            · have HFIT := Aside0.mk hfit
              clear hfit
              go_wp2_with (first
            | ((with_reducible refine gate_dst (N := 5) rfl ?_); refine box_event ?hg (N := 5) ?hd (cs := #[.int .u8 0, .int .i64 0, .slice none 0 0]) (t := 117) ?hr ?_; (case hd => rfl); (case hg => rfl); (case hr => first | (go_simp; done) | (go_simp; rfl)); intro g2 hg2 w2 hx2 hb2; have HB2 := Aside0.mk hb2; have HL2 := Aside0.mk (HL.out.step hb2); have HX2 := Aside0.mk hx2; have HG2 := Aside0.mk (show wr.heap.size ≤ g2 by omega); have HNE := Aside0.mk (show g ≠ g2 by obtain ⟨v, hv⟩ := HL.out.ex; have := blk_lt hv.blk; omega); clear hx2 hb2 hg2; clear h0 h1 h2)
            | ((with_reducible refine gate_store (t := 117) (p := 5) rfl ?_); refine Lb.store_whole rfl rfl 117 (.tmp 5) (.tmp 20) rfl (new := #[.int .u8 98, .int .i64 n, .slice A2 arms.length c2]) rfl rfl HX2.out rfl (by kernel_rfl) (by simp [Value.oneCell']) ?_; intro w3 hb3 hg3; have HX3 := Aside0.mk hb3; have HB3 : Aside0 (Fr 86 B wr w3) := ⟨Fr.of (Lb.grown_below HB2.out hg3 HB2.out.size HG2.out) HL.out.lt⟩; have HL3 := Aside0.mk (HL2.out.other hg3 HX2.out (by decide)); have d0 := (blk_cell hb3 0).trans rfl; have d1 := (blk_cell hb3 1).trans rfl; have d2 := (blk_cell hb3 2).trans rfl; clear hb3 hg3)
            | (go_at_call 48; (with_reducible refine (lnumber_ok 0 1 x B g AN cN N _ u w0 w3 HL3.out (HNA.out.step HB3.out.bel) HX.out HLO.out HHI.out HUN.out).mono ?_); rintro e w4 ⟨rfl, hl, hbb⟩; have HL4 := Aside0.mk hl; have HB4 := Aside0.mk (HB3.out.trans hbb); clear hl hbb)
            | (go_at_call 49; (with_reducible refine (grow_not4 B g _ _ _ w4 HL4.out (by have := HUS.out; show u.size + 4 ≤ _; omega) HFIT.out).mono ?_); rintro e w5 ⟨rfl, hl, hbb⟩; have HL5 := Aside0.mk hl; have HB5 := Aside0.mk (HB4.out.trans hbb); clear hl hbb))
              go_roundg gk
              case measure => omega
              case rel => exact ⟨i + 1, _, by omega, by first | rfl | (congr 1; unfold wrap64; omega), ⟨by rw [HDR.out, HONE.out]; rfl⟩, ⟨put_none (s := { u with n := u.n + 1 }) (k := 4) (bs := be x 4) HFIT.out HL5.out⟩, ⟨HB.out.trans HB5.out⟩, HPH', HO'⟩
        · as_aux_lemma =>
          have hk' : k = 111 := hk
          subst hk'
          clear hk
          cases hnum : u.txt T 0 n with
          | none =>
            have HONE := Aside0.mk (one_o_none (N := N) (arms := arms) hnum)
            have HNUM := Aside0.mk hnum
            clear hnum
            go_wp2_with (first
            | ((with_reducible refine gate_dst (N := 5) rfl ?_); refine box_event ?hg (N := 5) ?hd (cs := #[.int .u8 0, .int .i64 0, .slice none 0 0]) (t := 117) ?hr ?_; (case hd => rfl); (case hg => rfl); (case hr => first | (go_simp; done) | (go_simp; rfl)); intro g2 hg2 w2 hx2 hb2; have HB2 := Aside0.mk hb2; have HL2 := Aside0.mk (HL.out.step hb2); have HX2 := Aside0.mk hx2; have HG2 := Aside0.mk (show wr.heap.size ≤ g2 by omega); have HNE := Aside0.mk (show g ≠ g2 by obtain ⟨v, hv⟩ := HL.out.ex; have := blk_lt hv.blk; omega); clear hx2 hb2 hg2; clear h0 h1 h2)
            | ((with_reducible refine gate_store (t := 117) (p := 5) rfl ?_); refine Lb.store_whole rfl rfl 117 (.tmp 5) (.tmp 20) rfl (new := #[.int .u8 111, .int .i64 n, .slice A2 arms.length c2]) rfl rfl HX2.out rfl (by kernel_rfl) (by simp [Value.oneCell']) ?_; intro w3 hb3 hg3; have HX3 := Aside0.mk hb3; have HB3 : Aside0 (Fr 86 B wr w3) := ⟨Fr.of (Lb.grown_below HB2.out hg3 HB2.out.size HG2.out) HL.out.lt⟩; have HL3 := Aside0.mk (HL2.out.other hg3 HX2.out (by decide)); have d0 := (blk_cell hb3 0).trans rfl; have d1 := (blk_cell hb3 1).trans rfl; have d2 := (blk_cell hb3 2).trans rfl; clear hb3 hg3)
            | (go_at_call 52; (with_reducible refine (ltext_bad 0 n B g AT cT T _ u w0 w3 HL3.out (HTA.out.step HB3.out.bel) HNUM.out).mono ?_); rintro e w4 ⟨he, hbb⟩; unfold bad at he; subst he; have HB4 := Aside0.mk (HB3.out.trans hbb); clear hbb))
            exact And.intro rfl (And.intro (HB.out.trans HB4.out) (LayRes.mk (.inr ⟨by rw [HDR.out, HONE.out]; rfl, rfl⟩)))
          | some p =>
            obtain ⟨x, s1⟩ := p
            obtain ⟨K, hK⟩ : ∃ K, K = 4 + x.size + padN x.size := ⟨_, rfl⟩
            have HONE := Aside0.mk (one_o (N := N) (arms := arms) hnum K hK)
            have HF := Aside0.mk (tf (N := N) (K := K) (bs := be x.size 4 ++ fixB x.data.toList) hnum HPH.out HO.out (by omega) (by omega) (by rw [blen_o, hK]; omega))
            have hKi : (4 : Int) + (x.size : Int) + (padN x.size : Int) = (K : Int) := by omega
            have HKI := Aside0.mk hKi
            have HPH' := Aside0.mk HF.out.ph
            have HO' := Aside0.mk HF.out.o
            have hsome := txt_some hnum
            have HX := Aside0.mk hsome.1
            have HLO := Aside0.mk hsome.2.1
            have HHI := Aside0.mk hsome.2.2.1
            have HUN := Aside0.mk (t_le hnum HE.out.lt)
            have hs1 : s1 = { u with t := u.t + 1 } := hsome.2.2.2
            subst hs1
            clear hnum hsome hK hKi
            by_cases hfit : u.size + K ≤ 65536
            · have HFIT := Aside0.mk hfit
              clear hfit
              go_wp2_with (first
            | ((with_reducible refine gate_dst (N := 5) rfl ?_); refine box_event ?hg (N := 5) ?hd (cs := #[.int .u8 0, .int .i64 0, .slice none 0 0]) (t := 117) ?hr ?_; (case hd => rfl); (case hg => rfl); (case hr => first | (go_simp; done) | (go_simp; rfl)); intro g2 hg2 w2 hx2 hb2; have HB2 := Aside0.mk hb2; have HL2 := Aside0.mk (HL.out.step hb2); have HX2 := Aside0.mk hx2; have HG2 := Aside0.mk (show wr.heap.size ≤ g2 by omega); have HNE := Aside0.mk (show g ≠ g2 by obtain ⟨v, hv⟩ := HL.out.ex; have := blk_lt hv.blk; omega); clear hx2 hb2 hg2; clear h0 h1 h2)
            | ((with_reducible refine gate_store (t := 117) (p := 5) rfl ?_); refine Lb.store_whole rfl rfl 117 (.tmp 5) (.tmp 20) rfl (new := #[.int .u8 111, .int .i64 n, .slice A2 arms.length c2]) rfl rfl HX2.out rfl (by kernel_rfl) (by simp [Value.oneCell']) ?_; intro w3 hb3 hg3; have HX3 := Aside0.mk hb3; have HB3 : Aside0 (Fr 86 B wr w3) := ⟨Fr.of (Lb.grown_below HB2.out hg3 HB2.out.size HG2.out) HL.out.lt⟩; have HL3 := Aside0.mk (HL2.out.other hg3 HX2.out (by decide)); have d0 := (blk_cell hb3 0).trans rfl; have d1 := (blk_cell hb3 1).trans rfl; have d2 := (blk_cell hb3 2).trans rfl; clear hb3 hg3)
            | (go_at_call 52; (with_reducible refine (ltext_ok 0 n x B g AT cT T _ u w0 w3 HL3.out (HTA.out.step HB3.out.bel) HX.out HLO.out HHI.out HUN.out).mono ?_); rintro e w4 ⟨rfl, hl, hbb⟩; have hbits := HF.out.bits; have hKi := HKI.out; have hw0 := HF.out.w0; have hw1 := HF.out.w1; have hw2 := HF.out.w2; have hw3 := HF.out.w3; have hw4 := HF.out.w4; have HL4 := Aside0.mk hl; have HB4 := Aside0.mk (HB3.out.trans hbb); clear hl hbb)
            | (go_at_call 49; (with_reducible refine (grow_yes K B g _ _ _ w4 HL4.out HF.out.us HFIT.out).mono ?_); rintro e w5 ⟨rfl, hl, hbb⟩; clear hbits hKi hw0 hw1 hw2 hw3 hw4; have HL5 := Aside0.mk hl; have HB5 := Aside0.mk (HB4.out.trans hbb); clear hl hbb)
            | (go_at_call 53; (with_reducible refine (wopaque_calls x B g _ _ _ w5 HL5.out (by have := HUO.out; have := HFIT.out; have := HF.out.kx; show u.out.length + x.size ≤ _; omega)).mono ?_); rintro e w6 ⟨rfl, hl, hbb⟩; have HL6 := Aside0.mk (put_some (s := { u with t := u.t + 1 }) (k := K) (bs := be x.size 4 ++ fixB x.data.toList) HFIT.out hl); have HB6 := Aside0.mk (HB5.out.trans hbb); clear hl hbb))
              go_roundg gk
              case measure => omega
              case rel => exact ⟨i + 1, _, by omega, by first | rfl | (congr 1; unfold wrap64; omega), ⟨by rw [HDR.out, HONE.out]; rfl⟩, HL6, ⟨HB.out.trans HB6.out⟩, HPH', HO'⟩
            · have HFIT := Aside0.mk hfit
              clear hfit
              go_wp2_with (first
            | ((with_reducible refine gate_dst (N := 5) rfl ?_); refine box_event ?hg (N := 5) ?hd (cs := #[.int .u8 0, .int .i64 0, .slice none 0 0]) (t := 117) ?hr ?_; (case hd => rfl); (case hg => rfl); (case hr => first | (go_simp; done) | (go_simp; rfl)); intro g2 hg2 w2 hx2 hb2; have HB2 := Aside0.mk hb2; have HL2 := Aside0.mk (HL.out.step hb2); have HX2 := Aside0.mk hx2; have HG2 := Aside0.mk (show wr.heap.size ≤ g2 by omega); have HNE := Aside0.mk (show g ≠ g2 by obtain ⟨v, hv⟩ := HL.out.ex; have := blk_lt hv.blk; omega); clear hx2 hb2 hg2; clear h0 h1 h2)
            | ((with_reducible refine gate_store (t := 117) (p := 5) rfl ?_); refine Lb.store_whole rfl rfl 117 (.tmp 5) (.tmp 20) rfl (new := #[.int .u8 111, .int .i64 n, .slice A2 arms.length c2]) rfl rfl HX2.out rfl (by kernel_rfl) (by simp [Value.oneCell']) ?_; intro w3 hb3 hg3; have HX3 := Aside0.mk hb3; have HB3 : Aside0 (Fr 86 B wr w3) := ⟨Fr.of (Lb.grown_below HB2.out hg3 HB2.out.size HG2.out) HL.out.lt⟩; have HL3 := Aside0.mk (HL2.out.other hg3 HX2.out (by decide)); have d0 := (blk_cell hb3 0).trans rfl; have d1 := (blk_cell hb3 1).trans rfl; have d2 := (blk_cell hb3 2).trans rfl; clear hb3 hg3)
            | (go_at_call 52; (with_reducible refine (ltext_ok 0 n x B g AT cT T _ u w0 w3 HL3.out (HTA.out.step HB3.out.bel) HX.out HLO.out HHI.out HUN.out).mono ?_); rintro e w4 ⟨rfl, hl, hbb⟩; have hbits := HF.out.bits; have hKi := HKI.out; have hw0 := HF.out.w0; have hw1 := HF.out.w1; have hw2 := HF.out.w2; have hw3 := HF.out.w3; have hw4 := HF.out.w4; have HL4 := Aside0.mk hl; have HB4 := Aside0.mk (HB3.out.trans hbb); clear hl hbb)
            | (go_at_call 49; (with_reducible refine (grow_not K B g _ _ _ w4 HL4.out HF.out.us HFIT.out).mono ?_); rintro e w5 ⟨rfl, hl, hbb⟩; clear hbits hKi hw0 hw1 hw2 hw3 hw4; have HL5 := Aside0.mk hl; have HB5 := Aside0.mk (HB4.out.trans hbb); clear hl hbb))
              go_roundg gk
              case measure => omega
              case rel => exact ⟨i + 1, _, by omega, by first | rfl | (congr 1; unfold wrap64; omega), ⟨by rw [HDR.out, HONE.out]; rfl⟩, ⟨put_none (s := { u with t := u.t + 1 }) (k := K) (bs := be x.size 4 ++ fixB x.data.toList) HFIT.out HL5.out⟩, ⟨HB.out.trans HB5.out⟩, HPH', HO'⟩
        · as_aux_lemma =>
          have hk' : k = 102 := hk
          subst hk'
          clear hk
          cases hnum : u.txt T n n with
          | none =>
            have HONE := Aside0.mk (one_f_none (N := N) (arms := arms) hnum)
            have HNUM := Aside0.mk hnum
            clear hnum
            go_wp2_with (first
            | ((with_reducible refine gate_dst (N := 5) rfl ?_); refine box_event ?hg (N := 5) ?hd (cs := #[.int .u8 0, .int .i64 0, .slice none 0 0]) (t := 117) ?hr ?_; (case hd => rfl); (case hg => rfl); (case hr => first | (go_simp; done) | (go_simp; rfl)); intro g2 hg2 w2 hx2 hb2; have HB2 := Aside0.mk hb2; have HL2 := Aside0.mk (HL.out.step hb2); have HX2 := Aside0.mk hx2; have HG2 := Aside0.mk (show wr.heap.size ≤ g2 by omega); have HNE := Aside0.mk (show g ≠ g2 by obtain ⟨v, hv⟩ := HL.out.ex; have := blk_lt hv.blk; omega); clear hx2 hb2 hg2; clear h0 h1 h2)
            | ((with_reducible refine gate_store (t := 117) (p := 5) rfl ?_); refine Lb.store_whole rfl rfl 117 (.tmp 5) (.tmp 20) rfl (new := #[.int .u8 102, .int .i64 n, .slice A2 arms.length c2]) rfl rfl HX2.out rfl (by kernel_rfl) (by simp [Value.oneCell']) ?_; intro w3 hb3 hg3; have HX3 := Aside0.mk hb3; have HB3 : Aside0 (Fr 86 B wr w3) := ⟨Fr.of (Lb.grown_below HB2.out hg3 HB2.out.size HG2.out) HL.out.lt⟩; have HL3 := Aside0.mk (HL2.out.other hg3 HX2.out (by decide)); have d0 := (blk_cell hb3 0).trans rfl; have d1 := (blk_cell hb3 1).trans rfl; have d2 := (blk_cell hb3 2).trans rfl; clear hb3 hg3)
            | (go_at_call 52; (with_reducible refine (ltext_bad n n B g AT cT T _ u w0 w3 HL3.out (HTA.out.step HB3.out.bel) HNUM.out).mono ?_); rintro e w4 ⟨he, hbb⟩; unfold bad at he; subst he; have HB4 := Aside0.mk (HB3.out.trans hbb); clear hbb))
            exact And.intro rfl (And.intro (HB.out.trans HB4.out) (LayRes.mk (.inr ⟨by rw [HDR.out, HONE.out]; rfl, rfl⟩)))
          | some p =>
            obtain ⟨x, s1⟩ := p
            obtain ⟨K, hK⟩ : ∃ K, K = x.size + padN x.size := ⟨_, rfl⟩
            have HONE := Aside0.mk (one_f (N := N) (arms := arms) hnum K hK)
            have HF := Aside0.mk (tf (N := N) (K := K) (bs := fixB x.data.toList) hnum HPH.out HO.out (by omega) (by omega) (by rw [blen_f, hK]; omega))
            have hKi : (x.size : Int) + (padN x.size : Int) = (K : Int) := by omega
            have HKI := Aside0.mk hKi
            have HPH' := Aside0.mk HF.out.ph
            have HO' := Aside0.mk HF.out.o
            have hsome := txt_some hnum
            have HX := Aside0.mk hsome.1
            have HLO := Aside0.mk hsome.2.1
            have HHI := Aside0.mk hsome.2.2.1
            have HUN := Aside0.mk (t_le hnum HE.out.lt)
            have hs1 : s1 = { u with t := u.t + 1 } := hsome.2.2.2
            subst hs1
            clear hnum hsome hK hKi
            by_cases hfit : u.size + K ≤ 65536
            · have HFIT := Aside0.mk hfit
              clear hfit
              go_wp2_with (first
            | ((with_reducible refine gate_dst (N := 5) rfl ?_); refine box_event ?hg (N := 5) ?hd (cs := #[.int .u8 0, .int .i64 0, .slice none 0 0]) (t := 117) ?hr ?_; (case hd => rfl); (case hg => rfl); (case hr => first | (go_simp; done) | (go_simp; rfl)); intro g2 hg2 w2 hx2 hb2; have HB2 := Aside0.mk hb2; have HL2 := Aside0.mk (HL.out.step hb2); have HX2 := Aside0.mk hx2; have HG2 := Aside0.mk (show wr.heap.size ≤ g2 by omega); have HNE := Aside0.mk (show g ≠ g2 by obtain ⟨v, hv⟩ := HL.out.ex; have := blk_lt hv.blk; omega); clear hx2 hb2 hg2; clear h0 h1 h2)
            | ((with_reducible refine gate_store (t := 117) (p := 5) rfl ?_); refine Lb.store_whole rfl rfl 117 (.tmp 5) (.tmp 20) rfl (new := #[.int .u8 102, .int .i64 n, .slice A2 arms.length c2]) rfl rfl HX2.out rfl (by kernel_rfl) (by simp [Value.oneCell']) ?_; intro w3 hb3 hg3; have HX3 := Aside0.mk hb3; have HB3 : Aside0 (Fr 86 B wr w3) := ⟨Fr.of (Lb.grown_below HB2.out hg3 HB2.out.size HG2.out) HL.out.lt⟩; have HL3 := Aside0.mk (HL2.out.other hg3 HX2.out (by decide)); have d0 := (blk_cell hb3 0).trans rfl; have d1 := (blk_cell hb3 1).trans rfl; have d2 := (blk_cell hb3 2).trans rfl; clear hb3 hg3)
            | (go_at_call 52; (with_reducible refine (ltext_ok n n x B g AT cT T _ u w0 w3 HL3.out (HTA.out.step HB3.out.bel) HX.out HLO.out HHI.out HUN.out).mono ?_); rintro e w4 ⟨rfl, hl, hbb⟩; have hbits := HF.out.bits; have hKi := HKI.out; have hw0 := HF.out.w0; have hw1 := HF.out.w1; have hw2 := HF.out.w2; have hw3 := HF.out.w3; have hw4 := HF.out.w4; have HL4 := Aside0.mk hl; have HB4 := Aside0.mk (HB3.out.trans hbb); clear hl hbb)
            | (go_at_call 49; (with_reducible refine (grow_yes K B g _ _ _ w4 HL4.out HF.out.us HFIT.out).mono ?_); rintro e w5 ⟨rfl, hl, hbb⟩; clear hbits hKi hw0 hw1 hw2 hw3 hw4; have HL5 := Aside0.mk hl; have HB5 := Aside0.mk (HB4.out.trans hbb); clear hl hbb)
            | (go_at_call 54; (with_reducible refine (wfixed_calls x B g _ _ _ w5 HL5.out (by have := HUO.out; have := HFIT.out; have := HF.out.kx; show u.out.length + x.size ≤ _; omega)).mono ?_); rintro e w6 ⟨rfl, hl, hbb⟩; have HL6 := Aside0.mk (put_some (s := { u with t := u.t + 1 }) (k := K) (bs := fixB x.data.toList) HFIT.out hl); have HB6 := Aside0.mk (HB5.out.trans hbb); clear hl hbb))
              go_roundg gk
              case measure => omega
              case rel => exact ⟨i + 1, _, by omega, by first | rfl | (congr 1; unfold wrap64; omega), ⟨by rw [HDR.out, HONE.out]; rfl⟩, HL6, ⟨HB.out.trans HB6.out⟩, HPH', HO'⟩
            · have HFIT := Aside0.mk hfit
              clear hfit
              go_wp2_with (first
            | ((with_reducible refine gate_dst (N := 5) rfl ?_); refine box_event ?hg (N := 5) ?hd (cs := #[.int .u8 0, .int .i64 0, .slice none 0 0]) (t := 117) ?hr ?_; (case hd => rfl); (case hg => rfl); (case hr => first | (go_simp; done) | (go_simp; rfl)); intro g2 hg2 w2 hx2 hb2; have HB2 := Aside0.mk hb2; have HL2 := Aside0.mk (HL.out.step hb2); have HX2 := Aside0.mk hx2; have HG2 := Aside0.mk (show wr.heap.size ≤ g2 by omega); have HNE := Aside0.mk (show g ≠ g2 by obtain ⟨v, hv⟩ := HL.out.ex; have := blk_lt hv.blk; omega); clear hx2 hb2 hg2; clear h0 h1 h2)
            | ((with_reducible refine gate_store (t := 117) (p := 5) rfl ?_); refine Lb.store_whole rfl rfl 117 (.tmp 5) (.tmp 20) rfl (new := #[.int .u8 102, .int .i64 n, .slice A2 arms.length c2]) rfl rfl HX2.out rfl (by kernel_rfl) (by simp [Value.oneCell']) ?_; intro w3 hb3 hg3; have HX3 := Aside0.mk hb3; have HB3 : Aside0 (Fr 86 B wr w3) := ⟨Fr.of (Lb.grown_below HB2.out hg3 HB2.out.size HG2.out) HL.out.lt⟩; have HL3 := Aside0.mk (HL2.out.other hg3 HX2.out (by decide)); have d0 := (blk_cell hb3 0).trans rfl; have d1 := (blk_cell hb3 1).trans rfl; have d2 := (blk_cell hb3 2).trans rfl; clear hb3 hg3)
            | (go_at_call 52; (with_reducible refine (ltext_ok n n x B g AT cT T _ u w0 w3 HL3.out (HTA.out.step HB3.out.bel) HX.out HLO.out HHI.out HUN.out).mono ?_); rintro e w4 ⟨rfl, hl, hbb⟩; have hbits := HF.out.bits; have hKi := HKI.out; have hw0 := HF.out.w0; have hw1 := HF.out.w1; have hw2 := HF.out.w2; have hw3 := HF.out.w3; have hw4 := HF.out.w4; have HL4 := Aside0.mk hl; have HB4 := Aside0.mk (HB3.out.trans hbb); clear hl hbb)
            | (go_at_call 49; (with_reducible refine (grow_not K B g _ _ _ w4 HL4.out HF.out.us HFIT.out).mono ?_); rintro e w5 ⟨rfl, hl, hbb⟩; clear hbits hKi hw0 hw1 hw2 hw3 hw4; have HL5 := Aside0.mk hl; have HB5 := Aside0.mk (HB4.out.trans hbb); clear hl hbb))
              go_roundg gk
              case measure => omega
              case rel => exact ⟨i + 1, _, by omega, by first | rfl | (congr 1; unfold wrap64; omega), ⟨by rw [HDR.out, HONE.out]; rfl⟩, ⟨put_none (s := { u with t := u.t + 1 }) (k := K) (bs := fixB x.data.toList) HFIT.out HL5.out⟩, ⟨HB.out.trans HB5.out⟩, HPH', HO'⟩
        · as_aux_lemma =>
          have hk' : k = 63 := hk
          subst hk'
          clear hk
          obtain ⟨a0, rest, harms⟩ : ∃ a0 rest, arms = a0 :: rest := by
            have := HOKY.out
            rw [okS] at this
            cases arms with
            | nil => simp at this
            | cons a r => exact ⟨a, r, rfl⟩
          subst harms
          obtain ⟨ad2, A3, c3, rfl, m0, m1, m2, hl3, hC3⟩ := at_T123 HC2.out 0 (by omega) (by simp)
          have e0 : rd_T123 (a0 :: rest) 0 = a0 := rfl
          rw [e0] at m0 m1 m2 hl3 hC3
          rw [add_z] at m2
          obtain ⟨ka, aa, form⟩ := a0
          have hfd : SizeOf.sizeOf form ≤ d := by have := HSZ.out; simp only [List.cons.sizeOf_spec, S123.mk.sizeOf_spec] at this; omega
          have hfok : okL form = true := by
            have := HOKY.out
            rw [okS] at this
            simp only [Bool.and_eq_true] at this
            exact (okA_cons this.2).1
          have HM2 := Aside0.mk m2
          have HC3 := Aside0.mk hC3
          have HFD := Aside0.mk hfd
          have HFOK := Aside0.mk hfok
          clear m0 m1 m2 hl3 hC3 hfd hfok e0
          cases hnum : u.num N 0 1 with
          | none =>
            have HONE := Aside0.mk (one_m_none (N := N) (T := T) (n := n) (arms := S123.mk ka aa form :: rest) hnum)
            have HNUM := Aside0.mk hnum
            clear hnum
            go_wp2_with (first
            | ((with_reducible refine gate_dst (N := 5) rfl ?_); refine box_event ?hg (N := 5) ?hd (cs := #[.int .u8 0, .int .i64 0, .slice none 0 0]) (t := 117) ?hr ?_; (case hd => rfl); (case hg => rfl); (case hr => first | (go_simp; done) | (go_simp; rfl)); intro g2 hg2 w2 hx2 hb2; have HB2 := Aside0.mk hb2; have HL2 := Aside0.mk (HL.out.step hb2); have HX2 := Aside0.mk hx2; have HG2 := Aside0.mk (show wr.heap.size ≤ g2 by omega); have HNE := Aside0.mk (show g ≠ g2 by obtain ⟨v, hv⟩ := HL.out.ex; have := blk_lt hv.blk; omega); clear hx2 hb2 hg2; clear h0 h1 h2)
            | ((with_reducible refine gate_store (t := 117) (p := 5) rfl ?_); refine Lb.store_whole rfl rfl 117 (.tmp 5) (.tmp 20) rfl (new := #[.int .u8 63, .int .i64 n, .slice (some ad2) (List.length (S123.mk ka aa form :: rest)) c2]) rfl rfl HX2.out rfl (by kernel_rfl) (by simp [Value.oneCell']) ?_; intro w3 hb3 hg3; have HX3 := Aside0.mk hb3; have HB3 : Aside0 (Fr 86 B wr w3) := ⟨Fr.of (Lb.grown_below HB2.out hg3 HB2.out.size HG2.out) HL.out.lt⟩; have HL3 := Aside0.mk (HL2.out.other hg3 HX2.out (by decide)); have d0 := (blk_cell hb3 0).trans rfl; have d1 := (blk_cell hb3 1).trans rfl; have d2 := (blk_cell hb3 2).trans rfl; clear hb3 hg3)
            | (go_at_call 48; (with_reducible refine (lnumber_bad 0 1 B g AN cN N _ u w0 w3 HL3.out (HNA.out.step HB3.out.bel) HNUM.out).mono ?_); rintro e w4 ⟨he, hbb⟩; unfold bad at he; subst he; have HB4 := Aside0.mk (HB3.out.trans hbb); clear hbb))
            exact And.intro rfl (And.intro (HB.out.trans HB4.out) (LayRes.mk (.inr ⟨by rw [HDR.out, HONE.out]; rfl, rfl⟩)))
          | some p =>
            obtain ⟨hx, hlo, hhi, hp⟩ := num_some hnum
            obtain ⟨x, s1⟩ := p
            simp only at hx hlo hhi hp
            have hph1 := num_phi (T := T) hnum
            simp only at hph1
            have hs1 := hph1.2.1 HO.out
            have hput := put_phi N T s1 4 (be x 4)
            have HPH' : Aside0 (phi N T (s1.put 4 (be x 4)) ≤ 4000000000000000000) := ⟨by have := HPH.out; omega⟩
            have HO' : Aside0 (outOK (s1.put 4 (be x 4))) := ⟨put_out _ _ _ (by rw [be_length]; omega) hs1⟩
            have HS1 := Aside0.mk hp
            have HX := Aside0.mk hx
            have HLO := Aside0.mk hlo
            have HHI := Aside0.mk hhi
            have HUN := Aside0.mk (n_le hnum HE.out.ln)
            have HONE := Aside0.mk (one_m (N := N) (T := T) (n := n) (ka := ka) (aa := aa) (form := form) (rest := rest) hnum)
            subst hp
            have hx01 : x = 0 ∨ x = 1 := by omega
            clear hnum hx hlo hhi hph1 hs1 hput
            rcases hx01 with rfl | rfl
            · by_cases hfit : u.size + 4 ≤ 65536
              · have HFIT := Aside0.mk hfit
                clear hfit
                go_wp2_with (first
            | ((with_reducible refine gate_dst (N := 5) rfl ?_); refine box_event ?hg (N := 5) ?hd (cs := #[.int .u8 0, .int .i64 0, .slice none 0 0]) (t := 117) ?hr ?_; (case hd => rfl); (case hg => rfl); (case hr => first | (go_simp; done) | (go_simp; rfl)); intro g2 hg2 w2 hx2 hb2; have HB2 := Aside0.mk hb2; have HL2 := Aside0.mk (HL.out.step hb2); have HX2 := Aside0.mk hx2; have HG2 := Aside0.mk (show wr.heap.size ≤ g2 by omega); have HNE := Aside0.mk (show g ≠ g2 by obtain ⟨v, hv⟩ := HL.out.ex; have := blk_lt hv.blk; omega); clear hx2 hb2 hg2; clear h0 h1 h2)
            | ((with_reducible refine gate_store (t := 117) (p := 5) rfl ?_); refine Lb.store_whole rfl rfl 117 (.tmp 5) (.tmp 20) rfl (new := #[.int .u8 63, .int .i64 n, .slice (some ad2) (List.length (S123.mk ka aa form :: rest)) c2]) rfl rfl HX2.out rfl (by kernel_rfl) (by simp [Value.oneCell']) ?_; intro w3 hb3 hg3; have HX3 := Aside0.mk hb3; have HB3 : Aside0 (Fr 86 B wr w3) := ⟨Fr.of (Lb.grown_below HB2.out hg3 HB2.out.size HG2.out) HL.out.lt⟩; have HL3 := Aside0.mk (HL2.out.other hg3 HX2.out (by decide)); have d0 := (blk_cell hb3 0).trans rfl; have d1 := (blk_cell hb3 1).trans rfl; have d2 := (blk_cell hb3 2).trans rfl; clear hb3 hg3)
            | (go_at_call 48; (with_reducible refine (lnumber_ok 0 1 0 B g AN cN N _ u w0 w3 HL3.out (HNA.out.step HB3.out.bel) HX.out HLO.out HHI.out HUN.out).mono ?_); rintro e w4 ⟨rfl, hl, hbb⟩; have HL4 := Aside0.mk hl; have HB4 := Aside0.mk (HB3.out.trans hbb); have HK4 := Aside0.mk hbb; clear hl hbb)
            | (go_at_call 49; (with_reducible refine (grow_yes4 B g _ _ _ w4 HL4.out (by have := HUS.out; show u.size + 4 ≤ _; omega) HFIT.out).mono ?_); rintro e w5 ⟨rfl, hl, hbb⟩; have HL5 := Aside0.mk hl; have HB5 := Aside0.mk (HB4.out.trans hbb); have HK5 := Aside0.mk (HK4.out.trans hbb); clear hl hbb)
            | (go_at_call 50; (with_reducible refine (wuint_calls 0 B g _ _ _ w5 HL5.out (by have := HUO.out; show u.out.length ≤ _; omega)).mono ?_); rintro e w6 ⟨rfl, hl, hbb⟩; have HL6 := Aside0.mk (put_some (s := { u with n := u.n + 1 }) (k := 4) (bs := be 0 4) HFIT.out hl); have HB6 := Aside0.mk (HB5.out.trans hbb); have HK6 := Aside0.mk (HK5.out.trans hbb); clear hl hbb; have e2 := (blk_cell (HK6.out.frm _ _ _ _ HX3.out (by decide) (by decide)) 2).trans rfl; have m2 := Lib.Below.cellOf (HB0.out.trans (HB.out.trans HB6.out).bel) HM2.out HE.out.le))
                go_roundg gk
                case measure => omega
                case rel => exact ⟨i + 1, _, by omega, by first | rfl | (congr 1; unfold wrap64; omega), ⟨by rw [HDR.out, HONE.out, if_neg (by decide)]; rfl⟩, HL6, ⟨HB.out.trans HB6.out⟩, HPH', HO'⟩
              · have HFIT := Aside0.mk hfit
                clear hfit
                go_wp2_with (first
            | ((with_reducible refine gate_dst (N := 5) rfl ?_); refine box_event ?hg (N := 5) ?hd (cs := #[.int .u8 0, .int .i64 0, .slice none 0 0]) (t := 117) ?hr ?_; (case hd => rfl); (case hg => rfl); (case hr => first | (go_simp; done) | (go_simp; rfl)); intro g2 hg2 w2 hx2 hb2; have HB2 := Aside0.mk hb2; have HL2 := Aside0.mk (HL.out.step hb2); have HX2 := Aside0.mk hx2; have HG2 := Aside0.mk (show wr.heap.size ≤ g2 by omega); have HNE := Aside0.mk (show g ≠ g2 by obtain ⟨v, hv⟩ := HL.out.ex; have := blk_lt hv.blk; omega); clear hx2 hb2 hg2; clear h0 h1 h2)
            | ((with_reducible refine gate_store (t := 117) (p := 5) rfl ?_); refine Lb.store_whole rfl rfl 117 (.tmp 5) (.tmp 20) rfl (new := #[.int .u8 63, .int .i64 n, .slice (some ad2) (List.length (S123.mk ka aa form :: rest)) c2]) rfl rfl HX2.out rfl (by kernel_rfl) (by simp [Value.oneCell']) ?_; intro w3 hb3 hg3; have HX3 := Aside0.mk hb3; have HB3 : Aside0 (Fr 86 B wr w3) := ⟨Fr.of (Lb.grown_below HB2.out hg3 HB2.out.size HG2.out) HL.out.lt⟩; have HL3 := Aside0.mk (HL2.out.other hg3 HX2.out (by decide)); have d0 := (blk_cell hb3 0).trans rfl; have d1 := (blk_cell hb3 1).trans rfl; have d2 := (blk_cell hb3 2).trans rfl; clear hb3 hg3)
            | (go_at_call 48; (with_reducible refine (lnumber_ok 0 1 0 B g AN cN N _ u w0 w3 HL3.out (HNA.out.step HB3.out.bel) HX.out HLO.out HHI.out HUN.out).mono ?_); rintro e w4 ⟨rfl, hl, hbb⟩; have HL4 := Aside0.mk hl; have HB4 := Aside0.mk (HB3.out.trans hbb); have HK4 := Aside0.mk hbb; clear hl hbb)
            | (go_at_call 49; (with_reducible refine (grow_not4 B g _ _ _ w4 HL4.out (by have := HUS.out; show u.size + 4 ≤ _; omega) HFIT.out).mono ?_); rintro e w5 ⟨rfl, hl, hbb⟩; have HL5 := Aside0.mk hl; have HB5 := Aside0.mk (HB4.out.trans hbb); have HK5 := Aside0.mk (HK4.out.trans hbb); clear hl hbb; have e2 := (blk_cell (HK5.out.frm _ _ _ _ HX3.out (by decide) (by decide)) 2).trans rfl; have m2 := Lib.Below.cellOf (HB0.out.trans (HB.out.trans HB5.out).bel) HM2.out HE.out.le))
                go_roundg gk
                case measure => omega
                case rel => exact ⟨i + 1, _, by omega, by first | rfl | (congr 1; unfold wrap64; omega), ⟨by rw [HDR.out, HONE.out, if_neg (by decide)]; rfl⟩, ⟨put_none (s := { u with n := u.n + 1 }) (k := 4) (bs := be 0 4) HFIT.out HL5.out⟩, ⟨HB.out.trans HB5.out⟩, HPH', HO'⟩
            · by_cases hfit : u.size + 4 ≤ 65536
              · have HFIT := Aside0.mk hfit
                clear hfit
                have HLX : Aside0 (∀ W, LIs B W g (.slice AN N.length cN) (.slice AT T.length cT) (LP.put { u with n := u.n + 1 } 4 (be 1 4)) → Below B w0 W → Calls Tryz.prog 32 #[.pointer (some ⟨g, 0, none⟩), .slice A3 form.length c3] W fun e w' => Fr 86 B W w' ∧ LayRes B g (.slice AN N.length cN) (.slice AT T.length cT) (layL N T form (LP.put { u with n := u.n + 1 } 4 (be 1 4))) e w') := ⟨fun W h1 h2 => IH.out form HFD.out A3 c3 g _ W HC3.out h2 h1 HFOK.out HPH'.out HO'.out⟩
                cases hrec : layL N T form (LP.put { u with n := u.n + 1 } 4 (be 1 4)) with
                | none =>
                  have HREC := Aside0.mk hrec
                  clear hrec
                  go_wp2_with (first
            | ((with_reducible refine gate_dst (N := 5) rfl ?_); refine box_event ?hg (N := 5) ?hd (cs := #[.int .u8 0, .int .i64 0, .slice none 0 0]) (t := 117) ?hr ?_; (case hd => rfl); (case hg => rfl); (case hr => first | (go_simp; done) | (go_simp; rfl)); intro g2 hg2 w2 hx2 hb2; have HB2 := Aside0.mk hb2; have HL2 := Aside0.mk (HL.out.step hb2); have HX2 := Aside0.mk hx2; have HG2 := Aside0.mk (show wr.heap.size ≤ g2 by omega); have HNE := Aside0.mk (show g ≠ g2 by obtain ⟨v, hv⟩ := HL.out.ex; have := blk_lt hv.blk; omega); clear hx2 hb2 hg2; clear h0 h1 h2)
            | ((with_reducible refine gate_store (t := 117) (p := 5) rfl ?_); refine Lb.store_whole rfl rfl 117 (.tmp 5) (.tmp 20) rfl (new := #[.int .u8 63, .int .i64 n, .slice (some ad2) (List.length (S123.mk ka aa form :: rest)) c2]) rfl rfl HX2.out rfl (by kernel_rfl) (by simp [Value.oneCell']) ?_; intro w3 hb3 hg3; have HX3 := Aside0.mk hb3; have HB3 : Aside0 (Fr 86 B wr w3) := ⟨Fr.of (Lb.grown_below HB2.out hg3 HB2.out.size HG2.out) HL.out.lt⟩; have HL3 := Aside0.mk (HL2.out.other hg3 HX2.out (by decide)); have d0 := (blk_cell hb3 0).trans rfl; have d1 := (blk_cell hb3 1).trans rfl; have d2 := (blk_cell hb3 2).trans rfl; clear hb3 hg3)
            | (go_at_call 48; (with_reducible refine (lnumber_ok 0 1 1 B g AN cN N _ u w0 w3 HL3.out (HNA.out.step HB3.out.bel) HX.out HLO.out HHI.out HUN.out).mono ?_); rintro e w4 ⟨rfl, hl, hbb⟩; have HL4 := Aside0.mk hl; have HB4 := Aside0.mk (HB3.out.trans hbb); have HK4 := Aside0.mk hbb; clear hl hbb)
            | (go_at_call 49; (with_reducible refine (grow_yes4 B g _ _ _ w4 HL4.out (by have := HUS.out; show u.size + 4 ≤ _; omega) HFIT.out).mono ?_); rintro e w5 ⟨rfl, hl, hbb⟩; have HL5 := Aside0.mk hl; have HB5 := Aside0.mk (HB4.out.trans hbb); have HK5 := Aside0.mk (HK4.out.trans hbb); clear hl hbb)
            | (go_at_call 50; (with_reducible refine (wuint_calls 1 B g _ _ _ w5 HL5.out (by have := HUO.out; show u.out.length ≤ _; omega)).mono ?_); rintro e w6 ⟨rfl, hl, hbb⟩; have HL6 := Aside0.mk (put_some (s := { u with n := u.n + 1 }) (k := 4) (bs := be 1 4) HFIT.out hl); have HB6 := Aside0.mk (HB5.out.trans hbb); have HK6 := Aside0.mk (HK5.out.trans hbb); clear hl hbb; have e2 := (blk_cell (HK6.out.frm _ _ _ _ HX3.out (by decide) (by decide)) 2).trans rfl; have m2 := Lib.Below.cellOf (HB0.out.trans (HB.out.trans HB6.out).bel) HM2.out HE.out.le)
            | (go_at_call 32; (with_reducible refine (HLX.out _ HL6.out (HB0.out.trans (HB.out.trans HB6.out).bel)).mono ?_); rintro e w7 ⟨hbb, hres⟩; have he := hres.no HREC.out; unfold bad at he; subst he; have HB7 := Aside0.mk (HB6.out.trans hbb); clear hbb hres))
                  exact And.intro rfl (And.intro (HB.out.trans HB7.out) (LayRes.mk (.inr ⟨by rw [HDR.out, HONE.out, if_pos (by first | trivial | rfl), HREC.out]; rfl, rfl⟩)))
                | some s2 =>
                  have HREC := Aside0.mk hrec
                  have hinv := layL_inv N T form _ _ HFOK.out hrec
                  have HPH2 : Aside0 (phi N T s2 ≤ 4000000000000000000) := ⟨Nat.le_trans hinv.1 HPH'.out⟩
                  have HO2 : Aside0 (outOK s2) := ⟨hinv.2 HO'.out⟩
                  clear hrec hinv
                  go_wp2_with (first
            | ((with_reducible refine gate_dst (N := 5) rfl ?_); refine box_event ?hg (N := 5) ?hd (cs := #[.int .u8 0, .int .i64 0, .slice none 0 0]) (t := 117) ?hr ?_; (case hd => rfl); (case hg => rfl); (case hr => first | (go_simp; done) | (go_simp; rfl)); intro g2 hg2 w2 hx2 hb2; have HB2 := Aside0.mk hb2; have HL2 := Aside0.mk (HL.out.step hb2); have HX2 := Aside0.mk hx2; have HG2 := Aside0.mk (show wr.heap.size ≤ g2 by omega); have HNE := Aside0.mk (show g ≠ g2 by obtain ⟨v, hv⟩ := HL.out.ex; have := blk_lt hv.blk; omega); clear hx2 hb2 hg2; clear h0 h1 h2)
            | ((with_reducible refine gate_store (t := 117) (p := 5) rfl ?_); refine Lb.store_whole rfl rfl 117 (.tmp 5) (.tmp 20) rfl (new := #[.int .u8 63, .int .i64 n, .slice (some ad2) (List.length (S123.mk ka aa form :: rest)) c2]) rfl rfl HX2.out rfl (by kernel_rfl) (by simp [Value.oneCell']) ?_; intro w3 hb3 hg3; have HX3 := Aside0.mk hb3; have HB3 : Aside0 (Fr 86 B wr w3) := ⟨Fr.of (Lb.grown_below HB2.out hg3 HB2.out.size HG2.out) HL.out.lt⟩; have HL3 := Aside0.mk (HL2.out.other hg3 HX2.out (by decide)); have d0 := (blk_cell hb3 0).trans rfl; have d1 := (blk_cell hb3 1).trans rfl; have d2 := (blk_cell hb3 2).trans rfl; clear hb3 hg3)
            | (go_at_call 48; (with_reducible refine (lnumber_ok 0 1 1 B g AN cN N _ u w0 w3 HL3.out (HNA.out.step HB3.out.bel) HX.out HLO.out HHI.out HUN.out).mono ?_); rintro e w4 ⟨rfl, hl, hbb⟩; have HL4 := Aside0.mk hl; have HB4 := Aside0.mk (HB3.out.trans hbb); have HK4 := Aside0.mk hbb; clear hl hbb)
            | (go_at_call 49; (with_reducible refine (grow_yes4 B g _ _ _ w4 HL4.out (by have := HUS.out; show u.size + 4 ≤ _; omega) HFIT.out).mono ?_); rintro e w5 ⟨rfl, hl, hbb⟩; have HL5 := Aside0.mk hl; have HB5 := Aside0.mk (HB4.out.trans hbb); have HK5 := Aside0.mk (HK4.out.trans hbb); clear hl hbb)
            | (go_at_call 50; (with_reducible refine (wuint_calls 1 B g _ _ _ w5 HL5.out (by have := HUO.out; show u.out.length ≤ _; omega)).mono ?_); rintro e w6 ⟨rfl, hl, hbb⟩; have HL6 := Aside0.mk (put_some (s := { u with n := u.n + 1 }) (k := 4) (bs := be 1 4) HFIT.out hl); have HB6 := Aside0.mk (HB5.out.trans hbb); have HK6 := Aside0.mk (HK5.out.trans hbb); clear hl hbb; have e2 := (blk_cell (HK6.out.frm _ _ _ _ HX3.out (by decide) (by decide)) 2).trans rfl; have m2 := Lib.Below.cellOf (HB0.out.trans (HB.out.trans HB6.out).bel) HM2.out HE.out.le)
            | (go_at_call 32; (with_reducible refine (HLX.out _ HL6.out (HB0.out.trans (HB.out.trans HB6.out).bel)).mono ?_); rintro e w7 ⟨hbb, hres⟩; obtain ⟨he, hl⟩ := hres.yes HREC.out; subst he; have HL7 := Aside0.mk hl; have HB7 := Aside0.mk (HB6.out.trans hbb); clear hbb hres hl))
                  go_roundg gk
                  case measure => omega
                  case rel => exact ⟨i + 1, s2, by omega, by first | rfl | (congr 1; unfold wrap64; omega), ⟨by rw [HDR.out, HONE.out, if_pos (by first | trivial | rfl), HREC.out]; rfl⟩, HL7, ⟨HB.out.trans HB7.out⟩, HPH2, HO2⟩
              · have HFIT := Aside0.mk hfit
                clear hfit
                have HLX : Aside0 (∀ W, LIs B W g (.slice AN N.length cN) (.slice AT T.length cT) (LP.put { u with n := u.n + 1 } 4 (be 1 4)) → Below B w0 W → Calls Tryz.prog 32 #[.pointer (some ⟨g, 0, none⟩), .slice A3 form.length c3] W fun e w' => Fr 86 B W w' ∧ LayRes B g (.slice AN N.length cN) (.slice AT T.length cT) (layL N T form (LP.put { u with n := u.n + 1 } 4 (be 1 4))) e w') := ⟨fun W h1 h2 => IH.out form HFD.out A3 c3 g _ W HC3.out h2 h1 HFOK.out HPH'.out HO'.out⟩
                cases hrec : layL N T form (LP.put { u with n := u.n + 1 } 4 (be 1 4)) with
                | none =>
                  have HREC := Aside0.mk hrec
                  clear hrec
                  go_wp2_with (first
            | ((with_reducible refine gate_dst (N := 5) rfl ?_); refine box_event ?hg (N := 5) ?hd (cs := #[.int .u8 0, .int .i64 0, .slice none 0 0]) (t := 117) ?hr ?_; (case hd => rfl); (case hg => rfl); (case hr => first | (go_simp; done) | (go_simp; rfl)); intro g2 hg2 w2 hx2 hb2; have HB2 := Aside0.mk hb2; have HL2 := Aside0.mk (HL.out.step hb2); have HX2 := Aside0.mk hx2; have HG2 := Aside0.mk (show wr.heap.size ≤ g2 by omega); have HNE := Aside0.mk (show g ≠ g2 by obtain ⟨v, hv⟩ := HL.out.ex; have := blk_lt hv.blk; omega); clear hx2 hb2 hg2; clear h0 h1 h2)
            | ((with_reducible refine gate_store (t := 117) (p := 5) rfl ?_); refine Lb.store_whole rfl rfl 117 (.tmp 5) (.tmp 20) rfl (new := #[.int .u8 63, .int .i64 n, .slice (some ad2) (List.length (S123.mk ka aa form :: rest)) c2]) rfl rfl HX2.out rfl (by kernel_rfl) (by simp [Value.oneCell']) ?_; intro w3 hb3 hg3; have HX3 := Aside0.mk hb3; have HB3 : Aside0 (Fr 86 B wr w3) := ⟨Fr.of (Lb.grown_below HB2.out hg3 HB2.out.size HG2.out) HL.out.lt⟩; have HL3 := Aside0.mk (HL2.out.other hg3 HX2.out (by decide)); have d0 := (blk_cell hb3 0).trans rfl; have d1 := (blk_cell hb3 1).trans rfl; have d2 := (blk_cell hb3 2).trans rfl; clear hb3 hg3)
            | (go_at_call 48; (with_reducible refine (lnumber_ok 0 1 1 B g AN cN N _ u w0 w3 HL3.out (HNA.out.step HB3.out.bel) HX.out HLO.out HHI.out HUN.out).mono ?_); rintro e w4 ⟨rfl, hl, hbb⟩; have HL4 := Aside0.mk hl; have HB4 := Aside0.mk (HB3.out.trans hbb); have HK4 := Aside0.mk hbb; clear hl hbb)
            | (go_at_call 49; (with_reducible refine (grow_not4 B g _ _ _ w4 HL4.out (by have := HUS.out; show u.size + 4 ≤ _; omega) HFIT.out).mono ?_); rintro e w5 ⟨rfl, hl, hbb⟩; have HL5 := Aside0.mk hl; have HB5 := Aside0.mk (HB4.out.trans hbb); have HK5 := Aside0.mk (HK4.out.trans hbb); clear hl hbb; have e2 := (blk_cell (HK5.out.frm _ _ _ _ HX3.out (by decide) (by decide)) 2).trans rfl; have m2 := Lib.Below.cellOf (HB0.out.trans (HB.out.trans HB5.out).bel) HM2.out HE.out.le)
            | (go_at_call 32; (with_reducible refine (HLX.out _ (put_none (s := { u with n := u.n + 1 }) (k := 4) (bs := be 1 4) HFIT.out HL5.out) (HB0.out.trans (HB.out.trans HB5.out).bel)).mono ?_); rintro e w7 ⟨hbb, hres⟩; have he := hres.no HREC.out; unfold bad at he; subst he; have HB7 := Aside0.mk (HB5.out.trans hbb); clear hbb hres))
                  exact And.intro rfl (And.intro (HB.out.trans HB7.out) (LayRes.mk (.inr ⟨by rw [HDR.out, HONE.out, if_pos (by first | trivial | rfl), HREC.out]; rfl, rfl⟩)))
                | some s2 =>
                  have HREC := Aside0.mk hrec
                  have hinv := layL_inv N T form _ _ HFOK.out hrec
                  have HPH2 : Aside0 (phi N T s2 ≤ 4000000000000000000) := ⟨Nat.le_trans hinv.1 HPH'.out⟩
                  have HO2 : Aside0 (outOK s2) := ⟨hinv.2 HO'.out⟩
                  clear hrec hinv
                  go_wp2_with (first
            | ((with_reducible refine gate_dst (N := 5) rfl ?_); refine box_event ?hg (N := 5) ?hd (cs := #[.int .u8 0, .int .i64 0, .slice none 0 0]) (t := 117) ?hr ?_; (case hd => rfl); (case hg => rfl); (case hr => first | (go_simp; done) | (go_simp; rfl)); intro g2 hg2 w2 hx2 hb2; have HB2 := Aside0.mk hb2; have HL2 := Aside0.mk (HL.out.step hb2); have HX2 := Aside0.mk hx2; have HG2 := Aside0.mk (show wr.heap.size ≤ g2 by omega); have HNE := Aside0.mk (show g ≠ g2 by obtain ⟨v, hv⟩ := HL.out.ex; have := blk_lt hv.blk; omega); clear hx2 hb2 hg2; clear h0 h1 h2)
            | ((with_reducible refine gate_store (t := 117) (p := 5) rfl ?_); refine Lb.store_whole rfl rfl 117 (.tmp 5) (.tmp 20) rfl (new := #[.int .u8 63, .int .i64 n, .slice (some ad2) (List.length (S123.mk ka aa form :: rest)) c2]) rfl rfl HX2.out rfl (by kernel_rfl) (by simp [Value.oneCell']) ?_; intro w3 hb3 hg3; have HX3 := Aside0.mk hb3; have HB3 : Aside0 (Fr 86 B wr w3) := ⟨Fr.of (Lb.grown_below HB2.out hg3 HB2.out.size HG2.out) HL.out.lt⟩; have HL3 := Aside0.mk (HL2.out.other hg3 HX2.out (by decide)); have d0 := (blk_cell hb3 0).trans rfl; have d1 := (blk_cell hb3 1).trans rfl; have d2 := (blk_cell hb3 2).trans rfl; clear hb3 hg3)
            | (go_at_call 48; (with_reducible refine (lnumber_ok 0 1 1 B g AN cN N _ u w0 w3 HL3.out (HNA.out.step HB3.out.bel) HX.out HLO.out HHI.out HUN.out).mono ?_); rintro e w4 ⟨rfl, hl, hbb⟩; have HL4 := Aside0.mk hl; have HB4 := Aside0.mk (HB3.out.trans hbb); have HK4 := Aside0.mk hbb; clear hl hbb)
            | (go_at_call 49; (with_reducible refine (grow_not4 B g _ _ _ w4 HL4.out (by have := HUS.out; show u.size + 4 ≤ _; omega) HFIT.out).mono ?_); rintro e w5 ⟨rfl, hl, hbb⟩; have HL5 := Aside0.mk hl; have HB5 := Aside0.mk (HB4.out.trans hbb); have HK5 := Aside0.mk (HK4.out.trans hbb); clear hl hbb; have e2 := (blk_cell (HK5.out.frm _ _ _ _ HX3.out (by decide) (by decide)) 2).trans rfl; have m2 := Lib.Below.cellOf (HB0.out.trans (HB.out.trans HB5.out).bel) HM2.out HE.out.le)
            | (go_at_call 32; (with_reducible refine (HLX.out _ (put_none (s := { u with n := u.n + 1 }) (k := 4) (bs := be 1 4) HFIT.out HL5.out) (HB0.out.trans (HB.out.trans HB5.out).bel)).mono ?_); rintro e w7 ⟨hbb, hres⟩; obtain ⟨he, hl⟩ := hres.yes HREC.out; subst he; have HL7 := Aside0.mk hl; have HB7 := Aside0.mk (HB5.out.trans hbb); clear hbb hres hl))
                  go_roundg gk
                  case measure => omega
                  case rel => exact ⟨i + 1, s2, by omega, by first | rfl | (congr 1; unfold wrap64; omega), ⟨by rw [HDR.out, HONE.out, if_pos (by first | trivial | rfl), HREC.out]; rfl⟩, HL7, ⟨HB.out.trans HB7.out⟩, HPH2, HO2⟩
        · as_aux_lemma =>
          have hk' : k = 42 := hk
          subst hk'
          clear hk
          obtain ⟨a0, rest, harms⟩ : ∃ a0 rest, arms = a0 :: rest := by
            have := HOKY.out
            rw [okS] at this
            cases arms with
            | nil => simp [okStar] at this
            | cons a r => exact ⟨a, r, rfl⟩
          subst harms
          obtain ⟨ad2, A3, c3, rfl, m0, m1, m2, hl3, hC3⟩ := at_T123 HC2.out 0 (by omega) (by simp)
          have e0 : rd_T123 (a0 :: rest) 0 = a0 := rfl
          rw [e0] at m0 m1 m2 hl3 hC3
          rw [add_z] at m2
          obtain ⟨ka, aa, form⟩ := a0
          have hfd : SizeOf.sizeOf form ≤ d := by have := HSZ.out; simp only [List.cons.sizeOf_spec, S123.mk.sizeOf_spec] at this; omega
          have hfok : okL form = true := by
            have := HOKY.out
            rw [okS] at this
            simp only [Bool.and_eq_true] at this
            exact (okA_cons this.2).1
          have HM2 := Aside0.mk m2
          have HC3 := Aside0.mk hC3
          have HFD := Aside0.mk hfd
          have HFOK := Aside0.mk hfok
          clear m0 m1 m2 hl3 hC3 hfd hfok e0
          have hstar : okStar (S123.mk ka aa form :: rest) = true := by
            have := HOKY.out
            rw [okS] at this
            simp only [Bool.and_eq_true] at this
            simpa using this.1.2
          have hokA : okA (S123.mk ka aa form :: rest) = true := by
            have := HOKY.out
            rw [okS] at this
            simp only [Bool.and_eq_true] at this
            exact this.2
          have HST := Aside0.mk hstar
          have HOA := Aside0.mk hokA
          clear hstar hokA
          cases hnum : u.num N 0 9223372036854775807 with
          | none =>
            have HONE := Aside0.mk (one_s_none (N := N) (T := T) (n := n) (arms := S123.mk ka aa form :: rest) hnum)
            have HNUM := Aside0.mk hnum
            clear hnum
            go_wp2_with (first
            | ((with_reducible refine gate_dst (N := 5) rfl ?_); refine box_event ?hg (N := 5) ?hd (cs := #[.int .u8 0, .int .i64 0, .slice none 0 0]) (t := 117) ?hr ?_; (case hd => rfl); (case hg => rfl); (case hr => first | (go_simp; done) | (go_simp; rfl)); intro g2 hg2 w2 hx2 hb2; have HB2 := Aside0.mk hb2; have HL2 := Aside0.mk (HL.out.step hb2); have HX2 := Aside0.mk hx2; have HG2 := Aside0.mk (show wr.heap.size ≤ g2 by omega); have HNE := Aside0.mk (show g ≠ g2 by obtain ⟨v, hv⟩ := HL.out.ex; have := blk_lt hv.blk; omega); clear hx2 hb2 hg2; clear h0 h1 h2)
            | ((with_reducible refine gate_store (t := 117) (p := 5) rfl ?_); refine Lb.store_whole rfl rfl 117 (.tmp 5) (.tmp 20) rfl (new := #[.int .u8 42, .int .i64 n, .slice (some ad2) (List.length (S123.mk ka aa form :: rest)) c2]) rfl rfl HX2.out rfl (by kernel_rfl) (by simp [Value.oneCell']) ?_; intro w3 hb3 hg3; have HX3 := Aside0.mk hb3; have HB3 : Aside0 (Fr 86 B wr w3) := ⟨Fr.of (Lb.grown_below HB2.out hg3 HB2.out.size HG2.out) HL.out.lt⟩; have HL3 := Aside0.mk (HL2.out.other hg3 HX2.out (by decide)); have d0 := (blk_cell hb3 0).trans rfl; have d1 := (blk_cell hb3 1).trans rfl; have d2 := (blk_cell hb3 2).trans rfl; clear hb3 hg3)
            | (go_at_call 48; (with_reducible refine (lnumber_bad 0 9223372036854775807 B g AN cN N _ u w0 w3 HL3.out (HNA.out.step HB3.out.bel) HNUM.out).mono ?_); rintro e w4 ⟨he, hbb⟩; unfold bad at he; subst he; have HB4 := Aside0.mk (HB3.out.trans hbb); clear hbb))
            exact And.intro rfl (And.intro (HB.out.trans HB4.out) (LayRes.mk (.inr ⟨by rw [HDR.out, HONE.out]; rfl, rfl⟩)))
          | some p =>
            obtain ⟨hx, hlo, hhi, hp⟩ := num_some hnum
            obtain ⟨x, s1⟩ := p
            simp only at hx hlo hhi hp
            have hph1 := num_phi (T := T) hnum
            simp only at hph1
            have hs1 := hph1.2.1 HO.out
            have HPH1 : Aside0 (phi N T s1 ≤ 4000000000000000000 - 12) := ⟨by have := HPH.out; omega⟩
            have HO1 := Aside0.mk hs1
            have HS1 := Aside0.mk hp
            have HX := Aside0.mk hx
            have HLO := Aside0.mk hlo
            have HHI := Aside0.mk hhi
            have HUN := Aside0.mk (n_le hnum HE.out.ln)
            have hone := one_s (N := N) (T := T) (n := n) (arms := S123.mk ka aa form :: rest) hnum
            obtain ⟨y, rfl⟩ : ∃ y : Nat, x = y := ⟨x.toNat, by omega⟩
            rw [Int.toNat_natCast] at hone
            obtain ⟨F, hF⟩ : ∃ F : LP → Option LP, F = fun s => layFirst N T (S123.mk ka aa form :: rest) (s.put 4 (be 1 4)) := ⟨_, rfl⟩
            rw [← hF] at hone
            have HF := Aside0.mk hF
            have HONE := Aside0.mk hone
            have hy63 : (y : Int) ≤ 9223372036854775807 := hhi
            subst hp
            clear hnum hx hlo hhi hph1 hs1 hone hF
            go_wp2_with (first
            | ((with_reducible refine gate_dst (N := 5) rfl ?_); refine box_event ?hg (N := 5) ?hd (cs := #[.int .u8 0, .int .i64 0, .slice none 0 0]) (t := 117) ?hr ?_; (case hd => rfl); (case hg => rfl); (case hr => first | (go_simp; done) | (go_simp; rfl)); intro g2 hg2 w2 hx2 hb2; have HB2 := Aside0.mk hb2; have HL2 := Aside0.mk (HL.out.step hb2); have HX2 := Aside0.mk hx2; have HG2 := Aside0.mk (show wr.heap.size ≤ g2 by omega); have HNE := Aside0.mk (show g ≠ g2 by obtain ⟨v, hv⟩ := HL.out.ex; have := blk_lt hv.blk; omega); clear hx2 hb2 hg2; clear h0 h1 h2)
            | ((with_reducible refine gate_store (t := 117) (p := 5) rfl ?_); refine Lb.store_whole rfl rfl 117 (.tmp 5) (.tmp 20) rfl (new := #[.int .u8 42, .int .i64 n, .slice (some ad2) (List.length (S123.mk ka aa form :: rest)) c2]) rfl rfl HX2.out rfl (by kernel_rfl) (by simp [Value.oneCell']) ?_; intro w3 hb3 hg3; have HX3 := Aside0.mk hb3; have HB3 : Aside0 (Fr 86 B wr w3) := ⟨Fr.of (Lb.grown_below HB2.out hg3 HB2.out.size HG2.out) HL.out.lt⟩; have HL3 := Aside0.mk (HL2.out.other hg3 HX2.out (by decide)); have d0 := (blk_cell hb3 0).trans rfl; have d1 := (blk_cell hb3 1).trans rfl; have d2 := (blk_cell hb3 2).trans rfl; clear hb3 hg3)
            | (go_at_call 48; (with_reducible refine (lnumber_ok 0 9223372036854775807 (y : Int) B g AN cN N _ u w0 w3 HL3.out (HNA.out.step HB3.out.bel) HX.out HLO.out HHI.out HUN.out).mono ?_); rintro e w4 ⟨rfl, hl, hbb⟩; have HL4 := Aside0.mk hl; have HB4 := Aside0.mk (HB3.out.trans hbb); have HK4 := Aside0.mk hbb; clear hl hbb))
            obtain ⟨gko, hgko⟩ : ∃ z, z = gk := ⟨_, rfl⟩
            subst hgko
            obtain ⟨wro, hwro⟩ : ∃ z, z = wr := ⟨_, rfl⟩
            subst hwro
            have HG3 := Aside0.mk (HK4.out.frm _ _ _ _ HX3.out (by decide) (by decide))
            go_loopg [123] y (fun gk2 s123 wq => ∃ (j : Nat) (q : LP), j + gk2 = y ∧ s123 = .int .i64 j ∧ Aside0 (iter F gk2 q = iter F y { u with n := u.n + 1 }) ∧ Aside0 (LIs B wq g (.slice AN N.length cN) (.slice AT T.length cT) q) ∧ Aside0 (Fr 86 B wro wq) ∧ Aside0 (wq.heap[g2]? = some (.cells #[.int .u8 42, .int .i64 n, .slice (some ad2) (List.length (S123.mk ka aa form :: rest)) c2] 117 (0, 0))) ∧ Aside0 (phi N T q ≤ 4000000000000000000 - 12) ∧ Aside0 (outOK q))
            case atStart => exact ⟨0, _, by omega, rfl, ⟨rfl⟩, HL4, HB4, HG3, HPH1, HO1⟩
            case round =>
              clear HL4 HG3 HPH1 HO1 HL3 HX3 HL2 HX2 HK4
              obtain ⟨j, q, hj, rfl, HI, HLQ, HBQ, HGQ, HPQ, HOQ⟩ := hrel
              have hqs : q.size ≤ 4000000000000000000 - 12 := Nat.le_trans (by unfold phi; omega) HPQ.out
              have HQS := Aside0.mk hqs
              have HQO := Aside0.mk HOQ.out.2
              clear hqs
              cases gk with
              | zero =>
                have hjy : ¬ ((j : Int) < (y : Int)) := by omega
                have hit : iter F y { u with n := u.n + 1 } = some q := HI.out.symm
                have hone2 := HONE.out
                rw [hit] at hone2
                have HONE2 : Aside0 (layOne N T (.mk 42 n (.mk ka aa form :: rest)) u = some (q.put 4 (be 0 4))) := ⟨hone2⟩
                have HPH2 : Aside0 (phi N T (q.put 4 (be 0 4)) ≤ 4000000000000000000) := ⟨by rw [put_phi]; have := HPQ.out; omega⟩
                have HO2 : Aside0 (outOK (q.put 4 (be 0 4))) := ⟨put_out _ _ _ (by rw [be_length]; omega) HOQ.out⟩
                clear hit hone2
                by_cases hfit : q.size + 4 ≤ 65536
                · have HFIT := Aside0.mk hfit
                  clear hfit
                  go_wp2_with (first
            | (go_at_call 49; (with_reducible refine (grow_yes4 B g _ _ _ wr HLQ.out (by have := HQS.out; show q.size + 4 ≤ _; omega) HFIT.out).mono ?_); rintro e w5 ⟨rfl, hl, hbb⟩; have HL5 := Aside0.mk hl; have HB5 := Aside0.mk (HBQ.out.trans hbb); have HK5 := Aside0.mk hbb; clear hl hbb)
            | (go_at_call 50; (with_reducible refine (wuint_calls 0 B g _ _ _ w5 HL5.out (by have := HQO.out; show q.out.length ≤ _; omega)).mono ?_); rintro e w6 ⟨rfl, hl, hbb⟩; have HL6 := Aside0.mk (put_some (s := q) (k := 4) (bs := be 0 4) HFIT.out hl); have HB6 := Aside0.mk (HB5.out.trans hbb); clear hl hbb))
                  go_roundg gko
                  case measure => omega
                  case rel => exact ⟨i + 1, _, by omega, by first | rfl | (congr 1; unfold wrap64; omega), ⟨by rw [HDR.out, HONE2.out]; rfl⟩, HL6, ⟨HB.out.trans HB6.out⟩, HPH2, HO2⟩
                · have HFIT := Aside0.mk hfit
                  clear hfit
                  go_wp2_with (first
            | (go_at_call 49; (with_reducible refine (grow_not4 B g _ _ _ wr HLQ.out (by have := HQS.out; show q.size + 4 ≤ _; omega) HFIT.out).mono ?_); rintro e w5 ⟨rfl, hl, hbb⟩; have HL5 := Aside0.mk hl; have HB5 := Aside0.mk (HBQ.out.trans hbb); have HK5 := Aside0.mk hbb; clear hl hbb))
                  go_roundg gko
                  case measure => omega
                  case rel => exact ⟨i + 1, _, by omega, by first | rfl | (congr 1; unfold wrap64; omega), ⟨by rw [HDR.out, HONE2.out]; rfl⟩, ⟨put_none (s := q) (k := 4) (bs := be 0 4) HFIT.out HL5.out⟩, ⟨HB.out.trans HB5.out⟩, HPH2, HO2⟩
              | succ gk2 =>
                have hjy : (j : Int) < (y : Int) := by omega
                have HPH' : Aside0 (phi N T (q.put 4 (be 1 4)) ≤ 4000000000000000000) := ⟨by rw [put_phi]; have := HPQ.out; omega⟩
                have HO' : Aside0 (outOK (q.put 4 (be 1 4))) := ⟨put_out _ _ _ (by rw [be_length]; omega) HOQ.out⟩
                have HLX : Aside0 (∀ W, LIs B W g (.slice AN N.length cN) (.slice AT T.length cT) (q.put 4 (be 1 4)) → Below B w0 W → Calls Tryz.prog 32 #[.pointer (some ⟨g, 0, none⟩), .slice A3 form.length c3] W fun e w' => Fr 86 B W w' ∧ LayRes B g (.slice AN N.length cN) (.slice AT T.length cT) (layL N T form (q.put 4 (be 1 4))) e w') := ⟨fun W h1 h2 => IH.out form HFD.out A3 c3 g _ W HC3.out h2 h1 HFOK.out HPH'.out HO'.out⟩
                have HFQ : Aside0 (F q = layL N T form (q.put 4 (be 1 4))) := ⟨by rw [HF.out]; show layFirst N T _ _ = _; rw [layFirst.eq_2]⟩
                have d2 := (blk_cell HGQ.out 2).trans rfl
                by_cases hfit : q.size + 4 ≤ 65536
                · have HFIT := Aside0.mk hfit
                  clear hfit
                  cases hrec : layL N T form (q.put 4 (be 1 4)) with
                  | none =>
                    have HREC := Aside0.mk hrec
                    clear hrec
                    go_wp2_with (first
            | (go_at_call 49; (with_reducible refine (grow_yes4 B g _ _ _ wr HLQ.out (by have := HQS.out; show q.size + 4 ≤ _; omega) HFIT.out).mono ?_); rintro e w5 ⟨rfl, hl, hbb⟩; have HL5 := Aside0.mk hl; have HB5 := Aside0.mk (HBQ.out.trans hbb); have HK5 := Aside0.mk hbb; clear hl hbb)
            | (go_at_call 50; (with_reducible refine (wuint_calls 1 B g _ _ _ w5 HL5.out (by have := HQO.out; show q.out.length ≤ _; omega)).mono ?_); rintro e w6 ⟨rfl, hl, hbb⟩; have HL6 := Aside0.mk (put_some (s := q) (k := 4) (bs := be 1 4) HFIT.out hl); have HB6 := Aside0.mk (HB5.out.trans hbb); have HK6 := Aside0.mk (HK5.out.trans hbb); clear hl hbb; have HGX := Aside0.mk (HK6.out.frm _ _ _ _ HGQ.out (by decide) (by decide)); have e2 := (blk_cell HGX.out 2).trans rfl; have m2 := Lib.Below.cellOf (HB0.out.trans (HB.out.trans HB6.out).bel) HM2.out HE.out.le)
            | (go_at_call 32; (with_reducible refine (HLX.out _ HL6.out (HB0.out.trans (HB.out.trans HB6.out).bel)).mono ?_); rintro e w7 ⟨hbb, hres⟩; have he := hres.no HREC.out; unfold bad at he; subst he; have HB7 := Aside0.mk (HB6.out.trans hbb); clear hbb hres))
                    have hit : iter F y { u with n := u.n + 1 } = none := by rw [← HI.out]; show (F q).bind _ = none; rw [HFQ.out, HREC.out]; rfl
                    exact And.intro rfl (And.intro (HB.out.trans HB7.out) (LayRes.mk (.inr ⟨by rw [HDR.out, HONE.out, hit]; rfl, rfl⟩)))
                  | some s2 =>
                    have HREC := Aside0.mk hrec
                    have hinv := layFirst_inv N T (S123.mk ka aa form :: rest) (q.put 4 (be 1 4)) s2 HOA.out (by rw [layFirst.eq_2]; exact hrec)
                    have hst2 := hinv.2 HST.out
                    rw [put_phi] at hst2
                    have HPQ2 : Aside0 (phi N T s2 ≤ 4000000000000000000 - 12) := ⟨by have := HPQ.out; omega⟩
                    have HOQ2 : Aside0 (outOK s2) := ⟨hinv.1.2 HO'.out⟩
                    clear hrec hinv hst2
                    go_wp2_with (first
            | (go_at_call 49; (with_reducible refine (grow_yes4 B g _ _ _ wr HLQ.out (by have := HQS.out; show q.size + 4 ≤ _; omega) HFIT.out).mono ?_); rintro e w5 ⟨rfl, hl, hbb⟩; have HL5 := Aside0.mk hl; have HB5 := Aside0.mk (HBQ.out.trans hbb); have HK5 := Aside0.mk hbb; clear hl hbb)
            | (go_at_call 50; (with_reducible refine (wuint_calls 1 B g _ _ _ w5 HL5.out (by have := HQO.out; show q.out.length ≤ _; omega)).mono ?_); rintro e w6 ⟨rfl, hl, hbb⟩; have HL6 := Aside0.mk (put_some (s := q) (k := 4) (bs := be 1 4) HFIT.out hl); have HB6 := Aside0.mk (HB5.out.trans hbb); have HK6 := Aside0.mk (HK5.out.trans hbb); clear hl hbb; have HGX := Aside0.mk (HK6.out.frm _ _ _ _ HGQ.out (by decide) (by decide)); have e2 := (blk_cell HGX.out 2).trans rfl; have m2 := Lib.Below.cellOf (HB0.out.trans (HB.out.trans HB6.out).bel) HM2.out HE.out.le)
            | (go_at_call 32; (with_reducible refine (HLX.out _ HL6.out (HB0.out.trans (HB.out.trans HB6.out).bel)).mono ?_); rintro e w7 ⟨hbb, hres⟩; obtain ⟨he, hl⟩ := hres.yes HREC.out; subst he; have HL7 := Aside0.mk hl; have HB7 := Aside0.mk (HB6.out.trans hbb); have HG7 := Aside0.mk (hbb.frm _ _ _ _ HGX.out (by decide) (by decide)); clear hbb hres hl))
                    go_roundg gk2
                    case measure => omega
                    case rel => exact ⟨j + 1, s2, by omega, by first | rfl | (congr 1; unfold wrap64; omega), ⟨by rw [← HI.out]; show _ = (F q).bind _; rw [HFQ.out, HREC.out]; rfl⟩, HL7, HB7, HG7, HPQ2, HOQ2⟩
                · have HFIT := Aside0.mk hfit
                  clear hfit
                  cases hrec : layL N T form (q.put 4 (be 1 4)) with
                  | none =>
                    have HREC := Aside0.mk hrec
                    clear hrec
                    go_wp2_with (first
            | (go_at_call 49; (with_reducible refine (grow_not4 B g _ _ _ wr HLQ.out (by have := HQS.out; show q.size + 4 ≤ _; omega) HFIT.out).mono ?_); rintro e w5 ⟨rfl, hl, hbb⟩; have HL5 := Aside0.mk hl; have HB5 := Aside0.mk (HBQ.out.trans hbb); have HK5 := Aside0.mk hbb; clear hl hbb; have HGX := Aside0.mk (HK5.out.frm _ _ _ _ HGQ.out (by decide) (by decide)); have e2 := (blk_cell HGX.out 2).trans rfl; have m2 := Lib.Below.cellOf (HB0.out.trans (HB.out.trans HB5.out).bel) HM2.out HE.out.le)
            | (go_at_call 32; (with_reducible refine (HLX.out _ (put_none (s := q) (k := 4) (bs := be 1 4) HFIT.out HL5.out) (HB0.out.trans (HB.out.trans HB5.out).bel)).mono ?_); rintro e w7 ⟨hbb, hres⟩; have he := hres.no HREC.out; unfold bad at he; subst he; have HB7 := Aside0.mk (HB5.out.trans hbb); clear hbb hres))
                    have hit : iter F y { u with n := u.n + 1 } = none := by rw [← HI.out]; show (F q).bind _ = none; rw [HFQ.out, HREC.out]; rfl
                    exact And.intro rfl (And.intro (HB.out.trans HB7.out) (LayRes.mk (.inr ⟨by rw [HDR.out, HONE.out, hit]; rfl, rfl⟩)))
                  | some s2 =>
                    have HREC := Aside0.mk hrec
                    have hinv := layFirst_inv N T (S123.mk ka aa form :: rest) (q.put 4 (be 1 4)) s2 HOA.out (by rw [layFirst.eq_2]; exact hrec)
                    have hst2 := hinv.2 HST.out
                    rw [put_phi] at hst2
                    have HPQ2 : Aside0 (phi N T s2 ≤ 4000000000000000000 - 12) := ⟨by have := HPQ.out; omega⟩
                    have HOQ2 : Aside0 (outOK s2) := ⟨hinv.1.2 HO'.out⟩
                    clear hrec hinv hst2
                    go_wp2_with (first
            | (go_at_call 49; (with_reducible refine (grow_not4 B g _ _ _ wr HLQ.out (by have := HQS.out; show q.size + 4 ≤ _; omega) HFIT.out).mono ?_); rintro e w5 ⟨rfl, hl, hbb⟩; have HL5 := Aside0.mk hl; have HB5 := Aside0.mk (HBQ.out.trans hbb); have HK5 := Aside0.mk hbb; clear hl hbb; have HGX := Aside0.mk (HK5.out.frm _ _ _ _ HGQ.out (by decide) (by decide)); have e2 := (blk_cell HGX.out 2).trans rfl; have m2 := Lib.Below.cellOf (HB0.out.trans (HB.out.trans HB5.out).bel) HM2.out HE.out.le)
            | (go_at_call 32; (with_reducible refine (HLX.out _ (put_none (s := q) (k := 4) (bs := be 1 4) HFIT.out HL5.out) (HB0.out.trans (HB.out.trans HB5.out).bel)).mono ?_); rintro e w7 ⟨hbb, hres⟩; obtain ⟨he, hl⟩ := hres.yes HREC.out; subst he; have HL7 := Aside0.mk hl; have HB7 := Aside0.mk (HB5.out.trans hbb); have HG7 := Aside0.mk (hbb.frm _ _ _ _ HGX.out (by decide) (by decide)); clear hbb hres hl))
                    go_roundg gk2
                    case measure => omega
                    case rel => exact ⟨j + 1, s2, by omega, by first | rfl | (congr 1; unfold wrap64; omega), ⟨by rw [← HI.out]; show _ = (F q).bind _; rw [HFQ.out, HREC.out]; rfl⟩, HL7, HB7, HG7, HPQ2, HOQ2⟩
        · as_aux_lemma =>
          have hk' : k = 60 := hk
          subst hk'
          clear hk
          have hoka : okA arms = true := by
            have := HOKY.out
            rw [okS] at this
            simp only [Bool.and_eq_true] at this
            exact this.2
          have HOKA := Aside0.mk hoka
          clear hoka
          cases hnum : u.num N 0 4294967295 with
          | none =>
            have HONE := Aside0.mk (one_p_none (N := N) (T := T) (n := n) (arms := arms) hnum)
            have HNUM := Aside0.mk hnum
            clear hnum
            go_wp2_with (first
            | ((with_reducible refine gate_dst (N := 5) rfl ?_); refine box_event ?hg (N := 5) ?hd (cs := #[.int .u8 0, .int .i64 0, .slice none 0 0]) (t := 117) ?hr ?_; (case hd => rfl); (case hg => rfl); (case hr => first | (go_simp; done) | (go_simp; rfl)); intro g2 hg2 w2 hx2 hb2; have HB2 := Aside0.mk hb2; have HL2 := Aside0.mk (HL.out.step hb2); have HX2 := Aside0.mk hx2; have HG2 := Aside0.mk (show wr.heap.size ≤ g2 by omega); have HNE := Aside0.mk (show g ≠ g2 by obtain ⟨v, hv⟩ := HL.out.ex; have := blk_lt hv.blk; omega); clear hx2 hb2 hg2; clear h0 h1 h2)
            | ((with_reducible refine gate_store (t := 117) (p := 5) rfl ?_); refine Lb.store_whole rfl rfl 117 (.tmp 5) (.tmp 20) rfl (new := #[.int .u8 60, .int .i64 n, .slice A2 arms.length c2]) rfl rfl HX2.out rfl (by kernel_rfl) (by simp [Value.oneCell']) ?_; intro w3 hb3 hg3; have HX3 := Aside0.mk hb3; have HB3 : Aside0 (Fr 86 B wr w3) := ⟨Fr.of (Lb.grown_below HB2.out hg3 HB2.out.size HG2.out) HL.out.lt⟩; have HL3 := Aside0.mk (HL2.out.other hg3 HX2.out (by decide)); have d0 := (blk_cell hb3 0).trans rfl; have d1 := (blk_cell hb3 1).trans rfl; have d2 := (blk_cell hb3 2).trans rfl; clear hb3 hg3)
            | (go_at_call 48; (with_reducible refine (lnumber_bad 0 4294967295 B g AN cN N _ u w0 w3 HL3.out (HNA.out.step HB3.out.bel) HNUM.out).mono ?_); rintro e w4 ⟨he, hbb⟩; unfold bad at he; subst he; have HB4 := Aside0.mk (HB3.out.trans hbb); clear hbb))
            exact And.intro rfl (And.intro (HB.out.trans HB4.out) (LayRes.mk (.inr ⟨by rw [HDR.out, HONE.out]; rfl, rfl⟩)))
          | some p =>
            obtain ⟨hx, hlo, hhi, hp⟩ := num_some hnum
            obtain ⟨x, s1⟩ := p
            simp only at hx hlo hhi hp
            have hph1 := num_phi (T := T) hnum
            simp only at hph1
            have hs1 := hph1.2.1 HO.out
            have hput := put_phi N T s1 4 (be x 4)
            have HPH' : Aside0 (phi N T (s1.put 4 (be x 4)) ≤ 4000000000000000000) := ⟨by have := HPH.out; omega⟩
            have HO' : Aside0 (outOK (s1.put 4 (be x 4))) := ⟨put_out _ _ _ (by rw [be_length]; omega) hs1⟩
            have HS1 := Aside0.mk hp
            have HX := Aside0.mk hx
            have HLO := Aside0.mk hlo
            have HHI := Aside0.mk hhi
            have HUN := Aside0.mk (n_le hnum HE.out.ln)
            have hone := one_p (N := N) (T := T) (n := n) (arms := arms) hnum
            subst hp
            have HPK : Aside0 (∀ W, Below w0.heap.size w0 W → Calls Tryz.prog 55 #[.agg #[.int .u8 60, .int .i64 n, .slice A2 arms.length c2], .int .i64 x] W fun e w' => Below W.heap.size W w' ∧ PickRes w0 arms x e) := ⟨fun W hW => pick_calls 60 n x A2 c2 arms w0 W HC2.out hW (okA_len _ HOKA.out)⟩
            clear hnum hx hlo hhi hph1 hs1 hput
            cases hpf : pickF arms x with
            | none =>
              rw [hpf] at hone
              have HONE : Aside0 (layOne N T (.mk 60 n arms) u = none) := ⟨hone⟩
              have HPF := Aside0.mk hpf
              clear hpf hone
              go_wp2_with (first
            | ((with_reducible refine gate_dst (N := 5) rfl ?_); refine box_event ?hg (N := 5) ?hd (cs := #[.int .u8 0, .int .i64 0, .slice none 0 0]) (t := 117) ?hr ?_; (case hd => rfl); (case hg => rfl); (case hr => first | (go_simp; done) | (go_simp; rfl)); intro g2 hg2 w2 hx2 hb2; have HB2 := Aside0.mk hb2; have HL2 := Aside0.mk (HL.out.step hb2); have HX2 := Aside0.mk hx2; have HG2 := Aside0.mk (show wr.heap.size ≤ g2 by omega); have HNE := Aside0.mk (show g ≠ g2 by obtain ⟨v, hv⟩ := HL.out.ex; have := blk_lt hv.blk; omega); clear hx2 hb2 hg2; clear h0 h1 h2)
            | ((with_reducible refine gate_store (t := 117) (p := 5) rfl ?_); refine Lb.store_whole rfl rfl 117 (.tmp 5) (.tmp 20) rfl (new := #[.int .u8 60, .int .i64 n, .slice A2 arms.length c2]) rfl rfl HX2.out rfl (by kernel_rfl) (by simp [Value.oneCell']) ?_; intro w3 hb3 hg3; have HX3 := Aside0.mk hb3; have HB3 : Aside0 (Fr 86 B wr w3) := ⟨Fr.of (Lb.grown_below HB2.out hg3 HB2.out.size HG2.out) HL.out.lt⟩; have HL3 := Aside0.mk (HL2.out.other hg3 HX2.out (by decide)); have d0 := (blk_cell hb3 0).trans rfl; have d1 := (blk_cell hb3 1).trans rfl; have d2 := (blk_cell hb3 2).trans rfl; clear hb3 hg3)
            | (go_at_call 48; (with_reducible refine (lnumber_ok 0 4294967295 x B g AN cN N _ u w0 w3 HL3.out (HNA.out.step HB3.out.bel) HX.out HLO.out HHI.out HUN.out).mono ?_); rintro e w4 ⟨rfl, hl, hbb⟩; have HL4 := Aside0.mk hl; have HB4 := Aside0.mk (HB3.out.trans hbb); have HK4 := Aside0.mk hbb; clear hl hbb; have e0 := (blk_cell (HK4.out.frm _ _ _ _ HX3.out (by decide) (by decide)) 0).trans rfl; have e1 := (blk_cell (HK4.out.frm _ _ _ _ HX3.out (by decide) (by decide)) 1).trans rfl; have e2 := (blk_cell (HK4.out.frm _ _ _ _ HX3.out (by decide) (by decide)) 2).trans rfl)
            | (go_at_call 55; (with_reducible refine (HPK.out _ ((HB0.out.trans (HB.out.trans HB4.out).bel).mono HE.out.le)).mono ?_); rintro e w5 ⟨hbb, hres⟩; have he := hres.no HPF.out; subst he; have HL5 := Aside0.mk (HL4.out.step hbb); have HB5 := Aside0.mk (HB4.out.trans (Fr.of hbb HL4.out.lt)); clear hbb hres; clear e0 e1 e2))
              exact And.intro rfl (And.intro (HB.out.trans HB5.out) (LayRes.mk (.inr ⟨by rw [HDR.out, HONE.out]; rfl, rfl⟩)))
            | some f =>
              rw [hpf, Option.bind_some] at hone
              have HONE := Aside0.mk hone
              have HPF := Aside0.mk hpf
              have hpo := pickF_ok arms x f HOKA.out hpf
              have HFOK := Aside0.mk hpo.1
              have HFD : Aside0 (SizeOf.sizeOf f ≤ d) := ⟨by have := HSZ.out; omega⟩
              clear hone hpf hpo
              have HLX : Aside0 (∀ A3 c3 W, Kd.C k117 w0 A3 f.length f → LIs B W g (.slice AN N.length cN) (.slice AT T.length cT) (LP.put { u with n := u.n + 1 } 4 (be x 4)) → Below B w0 W → Calls Tryz.prog 32 #[.pointer (some ⟨g, 0, none⟩), .slice A3 f.length c3] W fun e w' => Fr 86 B W w' ∧ LayRes B g (.slice AN N.length cN) (.slice AT T.length cT) (layL N T f (LP.put { u with n := u.n + 1 } 4 (be x 4))) e w') := ⟨fun A3 c3 W h0 h1 h2 => IH.out f HFD.out A3 c3 g _ W h0 h2 h1 HFOK.out HPH'.out HO'.out⟩
              by_cases hfit : u.size + 4 ≤ 65536
              · have HFIT := Aside0.mk hfit
                clear hfit
                cases hrec : layL N T f (LP.put { u with n := u.n + 1 } 4 (be x 4)) with
                | none =>
                  have HREC := Aside0.mk hrec
                  clear hrec
                  go_wp2_with (first
            | ((with_reducible refine gate_dst (N := 5) rfl ?_); refine box_event ?hg (N := 5) ?hd (cs := #[.int .u8 0, .int .i64 0, .slice none 0 0]) (t := 117) ?hr ?_; (case hd => rfl); (case hg => rfl); (case hr => first | (go_simp; done) | (go_simp; rfl)); intro g2 hg2 w2 hx2 hb2; have HB2 := Aside0.mk hb2; have HL2 := Aside0.mk (HL.out.step hb2); have HX2 := Aside0.mk hx2; have HG2 := Aside0.mk (show wr.heap.size ≤ g2 by omega); have HNE := Aside0.mk (show g ≠ g2 by obtain ⟨v, hv⟩ := HL.out.ex; have := blk_lt hv.blk; omega); clear hx2 hb2 hg2; clear h0 h1 h2)
            | ((with_reducible refine gate_store (t := 117) (p := 5) rfl ?_); refine Lb.store_whole rfl rfl 117 (.tmp 5) (.tmp 20) rfl (new := #[.int .u8 60, .int .i64 n, .slice A2 arms.length c2]) rfl rfl HX2.out rfl (by kernel_rfl) (by simp [Value.oneCell']) ?_; intro w3 hb3 hg3; have HX3 := Aside0.mk hb3; have HB3 : Aside0 (Fr 86 B wr w3) := ⟨Fr.of (Lb.grown_below HB2.out hg3 HB2.out.size HG2.out) HL.out.lt⟩; have HL3 := Aside0.mk (HL2.out.other hg3 HX2.out (by decide)); have d0 := (blk_cell hb3 0).trans rfl; have d1 := (blk_cell hb3 1).trans rfl; have d2 := (blk_cell hb3 2).trans rfl; clear hb3 hg3)
            | (go_at_call 48; (with_reducible refine (lnumber_ok 0 4294967295 x B g AN cN N _ u w0 w3 HL3.out (HNA.out.step HB3.out.bel) HX.out HLO.out HHI.out HUN.out).mono ?_); rintro e w4 ⟨rfl, hl, hbb⟩; have HL4 := Aside0.mk hl; have HB4 := Aside0.mk (HB3.out.trans hbb); have HK4 := Aside0.mk hbb; clear hl hbb; have e0 := (blk_cell (HK4.out.frm _ _ _ _ HX3.out (by decide) (by decide)) 0).trans rfl; have e1 := (blk_cell (HK4.out.frm _ _ _ _ HX3.out (by decide) (by decide)) 1).trans rfl; have e2 := (blk_cell (HK4.out.frm _ _ _ _ HX3.out (by decide) (by decide)) 2).trans rfl)
            | (go_at_call 55; (with_reducible refine (HPK.out _ ((HB0.out.trans (HB.out.trans HB4.out).bel).mono HE.out.le)).mono ?_); rintro e w5 ⟨hbb, hres⟩; obtain ⟨A3, c3, he, hC3⟩ := hres.yes HPF.out; subst he; have HC3 := Aside0.mk hC3; clear hC3; have HL5 := Aside0.mk (HL4.out.step hbb); have HB5 := Aside0.mk (HB4.out.trans (Fr.of hbb HL4.out.lt)); clear hbb hres; clear e0 e1 e2)
            | (go_at_call 49; (with_reducible refine (grow_yes4 B g _ _ _ w5 HL5.out (by have := HUS.out; show u.size + 4 ≤ _; omega) HFIT.out).mono ?_); rintro e w6 ⟨rfl, hl, hbb⟩; have HL6 := Aside0.mk hl; have HB6 := Aside0.mk (HB5.out.trans hbb); clear hl hbb)
            | (go_at_call 50; (with_reducible refine (wuint_calls x B g _ _ _ w6 HL6.out (by have := HUO.out; show u.out.length ≤ _; omega)).mono ?_); rintro e w7 ⟨rfl, hl, hbb⟩; have HL7 := Aside0.mk (put_some (s := { u with n := u.n + 1 }) (k := 4) (bs := be x 4) HFIT.out hl); have HB7 := Aside0.mk (HB6.out.trans hbb); clear hl hbb)
            | (go_at_call 32; (with_reducible refine (HLX.out _ _ _ HC3.out HL7.out (HB0.out.trans (HB.out.trans HB7.out).bel)).mono ?_); rintro e w8 ⟨hbb, hres⟩; have he := hres.no HREC.out; unfold bad at he; subst he; have HB8 := Aside0.mk (HB7.out.trans hbb); clear hbb hres))
                  exact And.intro rfl (And.intro (HB.out.trans HB8.out) (LayRes.mk (.inr ⟨by rw [HDR.out, HONE.out, HREC.out]; rfl, rfl⟩)))
                | some s2 =>
                  have HREC := Aside0.mk hrec
                  have hinv := layL_inv N T f _ _ HFOK.out hrec
                  have HPH2 : Aside0 (phi N T s2 ≤ 4000000000000000000) := ⟨Nat.le_trans hinv.1 HPH'.out⟩
                  have HO2 : Aside0 (outOK s2) := ⟨hinv.2 HO'.out⟩
                  clear hrec hinv
                  go_wp2_with (first
            | ((with_reducible refine gate_dst (N := 5) rfl ?_); refine box_event ?hg (N := 5) ?hd (cs := #[.int .u8 0, .int .i64 0, .slice none 0 0]) (t := 117) ?hr ?_; (case hd => rfl); (case hg => rfl); (case hr => first | (go_simp; done) | (go_simp; rfl)); intro g2 hg2 w2 hx2 hb2; have HB2 := Aside0.mk hb2; have HL2 := Aside0.mk (HL.out.step hb2); have HX2 := Aside0.mk hx2; have HG2 := Aside0.mk (show wr.heap.size ≤ g2 by omega); have HNE := Aside0.mk (show g ≠ g2 by obtain ⟨v, hv⟩ := HL.out.ex; have := blk_lt hv.blk; omega); clear hx2 hb2 hg2; clear h0 h1 h2)
            | ((with_reducible refine gate_store (t := 117) (p := 5) rfl ?_); refine Lb.store_whole rfl rfl 117 (.tmp 5) (.tmp 20) rfl (new := #[.int .u8 60, .int .i64 n, .slice A2 arms.length c2]) rfl rfl HX2.out rfl (by kernel_rfl) (by simp [Value.oneCell']) ?_; intro w3 hb3 hg3; have HX3 := Aside0.mk hb3; have HB3 : Aside0 (Fr 86 B wr w3) := ⟨Fr.of (Lb.grown_below HB2.out hg3 HB2.out.size HG2.out) HL.out.lt⟩; have HL3 := Aside0.mk (HL2.out.other hg3 HX2.out (by decide)); have d0 := (blk_cell hb3 0).trans rfl; have d1 := (blk_cell hb3 1).trans rfl; have d2 := (blk_cell hb3 2).trans rfl; clear hb3 hg3)
            | (go_at_call 48; (with_reducible refine (lnumber_ok 0 4294967295 x B g AN cN N _ u w0 w3 HL3.out (HNA.out.step HB3.out.bel) HX.out HLO.out HHI.out HUN.out).mono ?_); rintro e w4 ⟨rfl, hl, hbb⟩; have HL4 := Aside0.mk hl; have HB4 := Aside0.mk (HB3.out.trans hbb); have HK4 := Aside0.mk hbb; clear hl hbb; have e0 := (blk_cell (HK4.out.frm _ _ _ _ HX3.out (by decide) (by decide)) 0).trans rfl; have e1 := (blk_cell (HK4.out.frm _ _ _ _ HX3.out (by decide) (by decide)) 1).trans rfl; have e2 := (blk_cell (HK4.out.frm _ _ _ _ HX3.out (by decide) (by decide)) 2).trans rfl)
            | (go_at_call 55; (with_reducible refine (HPK.out _ ((HB0.out.trans (HB.out.trans HB4.out).bel).mono HE.out.le)).mono ?_); rintro e w5 ⟨hbb, hres⟩; obtain ⟨A3, c3, he, hC3⟩ := hres.yes HPF.out; subst he; have HC3 := Aside0.mk hC3; clear hC3; have HL5 := Aside0.mk (HL4.out.step hbb); have HB5 := Aside0.mk (HB4.out.trans (Fr.of hbb HL4.out.lt)); clear hbb hres; clear e0 e1 e2)
            | (go_at_call 49; (with_reducible refine (grow_yes4 B g _ _ _ w5 HL5.out (by have := HUS.out; show u.size + 4 ≤ _; omega) HFIT.out).mono ?_); rintro e w6 ⟨rfl, hl, hbb⟩; have HL6 := Aside0.mk hl; have HB6 := Aside0.mk (HB5.out.trans hbb); clear hl hbb)
            | (go_at_call 50; (with_reducible refine (wuint_calls x B g _ _ _ w6 HL6.out (by have := HUO.out; show u.out.length ≤ _; omega)).mono ?_); rintro e w7 ⟨rfl, hl, hbb⟩; have HL7 := Aside0.mk (put_some (s := { u with n := u.n + 1 }) (k := 4) (bs := be x 4) HFIT.out hl); have HB7 := Aside0.mk (HB6.out.trans hbb); clear hl hbb)
            | (go_at_call 32; (with_reducible refine (HLX.out _ _ _ HC3.out HL7.out (HB0.out.trans (HB.out.trans HB7.out).bel)).mono ?_); rintro e w8 ⟨hbb, hres⟩; obtain ⟨he, hl⟩ := hres.yes HREC.out; subst he; have HL8 := Aside0.mk hl; have HB8 := Aside0.mk (HB7.out.trans hbb); clear hbb hres hl))
                  go_roundg gk
                  case measure => omega
                  case rel => exact ⟨i + 1, s2, by omega, by first | rfl | (congr 1; unfold wrap64; omega), ⟨by rw [HDR.out, HONE.out, HREC.out]; rfl⟩, HL8, ⟨HB.out.trans HB8.out⟩, HPH2, HO2⟩
              · have HFIT := Aside0.mk hfit
                clear hfit
                cases hrec : layL N T f (LP.put { u with n := u.n + 1 } 4 (be x 4)) with
                | none =>
                  have HREC := Aside0.mk hrec
                  clear hrec
                  go_wp2_with (first
            | ((with_reducible refine gate_dst (N := 5) rfl ?_); refine box_event ?hg (N := 5) ?hd (cs := #[.int .u8 0, .int .i64 0, .slice none 0 0]) (t := 117) ?hr ?_; (case hd => rfl); (case hg => rfl); (case hr => first | (go_simp; done) | (go_simp; rfl)); intro g2 hg2 w2 hx2 hb2; have HB2 := Aside0.mk hb2; have HL2 := Aside0.mk (HL.out.step hb2); have HX2 := Aside0.mk hx2; have HG2 := Aside0.mk (show wr.heap.size ≤ g2 by omega); have HNE := Aside0.mk (show g ≠ g2 by obtain ⟨v, hv⟩ := HL.out.ex; have := blk_lt hv.blk; omega); clear hx2 hb2 hg2; clear h0 h1 h2)
            | ((with_reducible refine gate_store (t := 117) (p := 5) rfl ?_); refine Lb.store_whole rfl rfl 117 (.tmp 5) (.tmp 20) rfl (new := #[.int .u8 60, .int .i64 n, .slice A2 arms.length c2]) rfl rfl HX2.out rfl (by kernel_rfl) (by simp [Value.oneCell']) ?_; intro w3 hb3 hg3; have HX3 := Aside0.mk hb3; have HB3 : Aside0 (Fr 86 B wr w3) := ⟨Fr.of (Lb.grown_below HB2.out hg3 HB2.out.size HG2.out) HL.out.lt⟩; have HL3 := Aside0.mk (HL2.out.other hg3 HX2.out (by decide)); have d0 := (blk_cell hb3 0).trans rfl; have d1 := (blk_cell hb3 1).trans rfl; have d2 := (blk_cell hb3 2).trans rfl; clear hb3 hg3)
            | (go_at_call 48; (with_reducible refine (lnumber_ok 0 4294967295 x B g AN cN N _ u w0 w3 HL3.out (HNA.out.step HB3.out.bel) HX.out HLO.out HHI.out HUN.out).mono ?_); rintro e w4 ⟨rfl, hl, hbb⟩; have HL4 := Aside0.mk hl; have HB4 := Aside0.mk (HB3.out.trans hbb); have HK4 := Aside0.mk hbb; clear hl hbb; have e0 := (blk_cell (HK4.out.frm _ _ _ _ HX3.out (by decide) (by decide)) 0).trans rfl; have e1 := (blk_cell (HK4.out.frm _ _ _ _ HX3.out (by decide) (by decide)) 1).trans rfl; have e2 := (blk_cell (HK4.out.frm _ _ _ _ HX3.out (by decide) (by decide)) 2).trans rfl)
            | (go_at_call 55; (with_reducible refine (HPK.out _ ((HB0.out.trans (HB.out.trans HB4.out).bel).mono HE.out.le)).mono ?_); rintro e w5 ⟨hbb, hres⟩; obtain ⟨A3, c3, he, hC3⟩ := hres.yes HPF.out; subst he; have HC3 := Aside0.mk hC3; clear hC3; have HL5 := Aside0.mk (HL4.out.step hbb); have HB5 := Aside0.mk (HB4.out.trans (Fr.of hbb HL4.out.lt)); clear hbb hres; clear e0 e1 e2)
            | (go_at_call 49; (with_reducible refine (grow_not4 B g _ _ _ w5 HL5.out (by have := HUS.out; show u.size + 4 ≤ _; omega) HFIT.out).mono ?_); rintro e w6 ⟨rfl, hl, hbb⟩; have HL6 := Aside0.mk hl; have HB6 := Aside0.mk (HB5.out.trans hbb); clear hl hbb)
            | (go_at_call 32; (with_reducible refine (HLX.out _ _ _ HC3.out (put_none (s := { u with n := u.n + 1 }) (k := 4) (bs := be x 4) HFIT.out HL6.out) (HB0.out.trans (HB.out.trans HB6.out).bel)).mono ?_); rintro e w8 ⟨hbb, hres⟩; have he := hres.no HREC.out; unfold bad at he; subst he; have HB8 := Aside0.mk (HB6.out.trans hbb); clear hbb hres))
                  exact And.intro rfl (And.intro (HB.out.trans HB8.out) (LayRes.mk (.inr ⟨by rw [HDR.out, HONE.out, HREC.out]; rfl, rfl⟩)))
                | some s2 =>
                  have HREC := Aside0.mk hrec
                  have hinv := layL_inv N T f _ _ HFOK.out hrec
                  have HPH2 : Aside0 (phi N T s2 ≤ 4000000000000000000) := ⟨Nat.le_trans hinv.1 HPH'.out⟩
                  have HO2 : Aside0 (outOK s2) := ⟨hinv.2 HO'.out⟩
                  clear hrec hinv
                  go_wp2_with (first
            | ((with_reducible refine gate_dst (N := 5) rfl ?_); refine box_event ?hg (N := 5) ?hd (cs := #[.int .u8 0, .int .i64 0, .slice none 0 0]) (t := 117) ?hr ?_; (case hd => rfl); (case hg => rfl); (case hr => first | (go_simp; done) | (go_simp; rfl)); intro g2 hg2 w2 hx2 hb2; have HB2 := Aside0.mk hb2; have HL2 := Aside0.mk (HL.out.step hb2); have HX2 := Aside0.mk hx2; have HG2 := Aside0.mk (show wr.heap.size ≤ g2 by omega); have HNE := Aside0.mk (show g ≠ g2 by obtain ⟨v, hv⟩ := HL.out.ex; have := blk_lt hv.blk; omega); clear hx2 hb2 hg2; clear h0 h1 h2)
            | ((with_reducible refine gate_store (t := 117) (p := 5) rfl ?_); refine Lb.store_whole rfl rfl 117 (.tmp 5) (.tmp 20) rfl (new := #[.int .u8 60, .int .i64 n, .slice A2 arms.length c2]) rfl rfl HX2.out rfl (by kernel_rfl) (by simp [Value.oneCell']) ?_; intro w3 hb3 hg3; have HX3 := Aside0.mk hb3; have HB3 : Aside0 (Fr 86 B wr w3) := ⟨Fr.of (Lb.grown_below HB2.out hg3 HB2.out.size HG2.out) HL.out.lt⟩; have HL3 := Aside0.mk (HL2.out.other hg3 HX2.out (by decide)); have d0 := (blk_cell hb3 0).trans rfl; have d1 := (blk_cell hb3 1).trans rfl; have d2 := (blk_cell hb3 2).trans rfl; clear hb3 hg3)
            | (go_at_call 48; (with_reducible refine (lnumber_ok 0 4294967295 x B g AN cN N _ u w0 w3 HL3.out (HNA.out.step HB3.out.bel) HX.out HLO.out HHI.out HUN.out).mono ?_); rintro e w4 ⟨rfl, hl, hbb⟩; have HL4 := Aside0.mk hl; have HB4 := Aside0.mk (HB3.out.trans hbb); have HK4 := Aside0.mk hbb; clear hl hbb; have e0 := (blk_cell (HK4.out.frm _ _ _ _ HX3.out (by decide) (by decide)) 0).trans rfl; have e1 := (blk_cell (HK4.out.frm _ _ _ _ HX3.out (by decide) (by decide)) 1).trans rfl; have e2 := (blk_cell (HK4.out.frm _ _ _ _ HX3.out (by decide) (by decide)) 2).trans rfl)
            | (go_at_call 55; (with_reducible refine (HPK.out _ ((HB0.out.trans (HB.out.trans HB4.out).bel).mono HE.out.le)).mono ?_); rintro e w5 ⟨hbb, hres⟩; obtain ⟨A3, c3, he, hC3⟩ := hres.yes HPF.out; subst he; have HC3 := Aside0.mk hC3; clear hC3; have HL5 := Aside0.mk (HL4.out.step hbb); have HB5 := Aside0.mk (HB4.out.trans (Fr.of hbb HL4.out.lt)); clear hbb hres; clear e0 e1 e2)
            | (go_at_call 49; (with_reducible refine (grow_not4 B g _ _ _ w5 HL5.out (by have := HUS.out; show u.size + 4 ≤ _; omega) HFIT.out).mono ?_); rintro e w6 ⟨rfl, hl, hbb⟩; have HL6 := Aside0.mk hl; have HB6 := Aside0.mk (HB5.out.trans hbb); clear hl hbb)
            | (go_at_call 32; (with_reducible refine (HLX.out _ _ _ HC3.out (put_none (s := { u with n := u.n + 1 }) (k := 4) (bs := be x 4) HFIT.out HL6.out) (HB0.out.trans (HB.out.trans HB6.out).bel)).mono ?_); rintro e w8 ⟨hbb, hres⟩; obtain ⟨he, hl⟩ := hres.yes HREC.out; subst he; have HL8 := Aside0.mk hl; have HB8 := Aside0.mk (HB6.out.trans hbb); clear hbb hres hl))
                  go_roundg gk
                  case measure => omega
                  case rel => exact ⟨i + 1, s2, by omega, by first | rfl | (congr 1; unfold wrap64; omega), ⟨by rw [HDR.out, HONE.out, HREC.out]; rfl⟩, HL8, ⟨HB.out.trans HB8.out⟩, HPH2, HO2⟩
end Go.Proofs.YthamffpieafkbaaGreatDoor.Xw
