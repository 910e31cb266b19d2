/- xdr.Reader: what it takes off its bytes. -/
import Derived.Test.YtgfljlbecafipaaGreatDoorPRx1
import Derived.Test.YtgfljlbecafipaaGreatDoorMa
namespace Go.Proofs.YtgfljlbecafipaaGreatDoor.Xw
open Go.RowKit Go.Lib Go.Proofs.YtgfljlbecafipaaGreatDoor.PR Go.Proofs.YtgfljlbecafipaaGreatDoorW.PrintWords Go.Proofs.YtgfljlbecafipaaGreatDoorW.PrintLast Go.Proofs.YtgfljlbecafipaaGreatDoorW.PrintMore
set_option linter.unusedVariables false
set_option linter.unusedSimpArgs false

/-- what a reader has come to: what is left, and what went wrong first -/
structure RP where
  l : List UInt8
  e : Int
def RP.wrong (s : RP) (x : Int) : RP := ⟨[], if s.e = 0 then x else s.e⟩
def RP.tk (s : RP) (n : Nat) : List UInt8 × Bool × RP := if s.e = 0 then (if s.l.length < n then ([], false, s.wrong 5) else (s.l.take n, true, ⟨s.l.drop n, s.e⟩)) else ([], false, s)

def RS (w : World) (g : Nat) (s : RP) : Prop := w.heap[g]? = some (.cells #[.string ⟨s.l.toArray⟩, .int .i64 s.e] 72 (0, 0))

theorem rptr_eq (g : Nat) (w : World) : (binOp .eql 45 (.pointer (some ⟨g, 0, none⟩)) (.pointer none)).run Tryz.prog w = .ok (.bool false) w := by kernel_rfl
theorem rptr_ne (g : Nat) (w : World) : (binOp .neq 45 (.pointer (some ⟨g, 0, none⟩)) (.pointer none)).run Tryz.prog w = .ok (.bool true) w := by kernel_rfl
theorem grown_refl (w : World) (r : Option Nat) : w.grownBy w r := ⟨rfl, rfl, rfl, Nat.le_refl _, fun _ _ _ => rfl⟩

theorem ext_take (l : List UInt8) (n : Nat) : (⟨l.toArray⟩ : ByteArray).extract 0 n = ⟨(l.take n).toArray⟩ := by
  apply ByteArray.ext
  simp [ByteArray.data_extract]
theorem ext_drop (l : List UInt8) (n : Nat) : (⟨l.toArray⟩ : ByteArray).extract n l.length = ⟨(l.drop n).toArray⟩ := by
  apply ByteArray.ext
  simp [ByteArray.data_extract, List.take_of_length_le]

theorem RS.set0 {w : World} {g : Nat} {s : RP} (h : RS w g s) (l : List UInt8) : RS (w.setCell ⟨g, 0, none⟩ (.string ⟨l.toArray⟩)) g ⟨l, s.e⟩ ∧ w.grownBy (w.setCell ⟨g, 0, none⟩ (.string ⟨l.toArray⟩)) (some g) :=
  ⟨Lb.setCell_block w g 0 _ _ _ h, Lb.setCell_grown w g 0 _ _ _ h⟩
theorem RS.set1 {w : World} {g : Nat} {s : RP} (h : RS w g s) (e : Int) : RS (w.setCell ⟨g, 1, none⟩ (.int .i64 e)) g ⟨s.l, e⟩ ∧ w.grownBy (w.setCell ⟨g, 1, none⟩ (.int .i64 e)) (some g) :=
  ⟨Lb.setCell_block w g 1 _ _ _ h, Lb.setCell_grown w g 1 _ _ _ h⟩

theorem wrong_calls (x : Int) (g : Nat) (s : RP) (w : World) (h : RS w g s) :
    Calls Tryz.prog 50 #[.pointer (some ⟨g, 0, none⟩), .int .i64 x] w fun e w' => e = .returned (.tuple #[]) ∧ RS w' g (s.wrong x) ∧ w.grownBy w' (some g) := by
  have hc0 := (blk_cell h 0).trans rfl
  have hc1 := (blk_cell h 1).trans rfl
  have hf0 := blk_frozen h 0
  have hf1 := blk_frozen h 1
  have H := Aside0.mk h
  by_cases he : s.e = 0
  · obtain ⟨l, e⟩ := s
    simp only at he
    subst he
    clear h
    go_enter Tryz.func50, Tryz.ntmps50
    go_wp2
    go_end0
    have h1 := H.out.set1 x
    have h2 := h1.1.set0 []
    exact ⟨rfl, h2.1, Lb.grown_trans h1.2 h2.2⟩
  · have hb : (s.e == 0) = false := by simp [he]
    have HW : Aside0 (s.wrong x = ⟨[], s.e⟩) := ⟨by unfold RP.wrong; rw [if_neg he]⟩
    clear h
    go_enter Tryz.func50, Tryz.ntmps50
    go_wp2
    go_end0
    have h2 := H.out.set0 []
    rw [HW.out]
    exact ⟨rfl, h2.1, h2.2⟩

theorem take_calls (n : Nat) (g : Nat) (s : RP) (w : World) (h : RS w g s) (hn : n ≤ 1000000000000) :
    Calls Tryz.prog 48 #[.pointer (some ⟨g, 0, none⟩), .int .i64 n] w fun e w' => e = .returned (.tuple #[.string ⟨(s.tk n).1.toArray⟩, .bool (s.tk n).2.1]) ∧ RS w' g (s.tk n).2.2 ∧ w.grownBy w' (some g) := by
  have hc0 := (blk_cell h 0).trans rfl
  have hc1 := (blk_cell h 1).trans rfl
  have hf0 := blk_frozen h 0
  have hp := rptr_eq g
  have H := Aside0.mk h
  by_cases he : s.e = 0
  · by_cases hl : s.l.length < n
    · have HT : Aside0 (s.tk n = ([], false, s.wrong 5)) := ⟨by unfold RP.tk; rw [if_pos he, if_pos hl]⟩
      have hgt : decide (s.l.length < n) = true := decide_eq_true hl
      have hgi : decide ((s.l.length : Int) < (n : Int)) = true := decide_eq_true (by omega)
      obtain ⟨l, e⟩ := s
      simp only at he
      subst he
      clear h
      go_enter Tryz.func48, Tryz.ntmps48
      go_wp2_with (go_at_call 50; refine (wrong_calls 5 g _ _ H.out).mono ?_; rintro e w2 ⟨rfl, hr, hg⟩; have HR := Aside0.mk hr; have HG := Aside0.mk hg; clear hr hg)
      go_ret2
      rw [HT.out]
      exact ⟨rfl, HR.out, HG.out⟩
    · have HT : Aside0 (s.tk n = (s.l.take n, true, ⟨s.l.drop n, s.e⟩)) := ⟨by unfold RP.tk; rw [if_pos he, if_neg hl]⟩
      have hgt : decide (s.l.length < n) = false := decide_eq_false hl
      have hgi : decide ((s.l.length : Int) < (n : Int)) = false := decide_eq_false (by omega)
      have hle : n ≤ s.l.length := by omega
      have hli : (n : Int) ≤ (s.l.length : Int) := by omega
      obtain ⟨l, e⟩ := s
      simp only at he
      subst he
      clear h
      have h1 := ext_take l n
      have h2 := ext_drop l n
      go_enter Tryz.func48, Tryz.ntmps48
      go_wp2
      go_ret2
      rw [HT.out]
      have h2 := H.out.set0 (l.drop n)
      exact ⟨rfl, h2.1, h2.2⟩
  · have hb : (s.e != 0) = true := by simp [he]
    have HT : Aside0 (s.tk n = ([], false, s)) := ⟨by unfold RP.tk; rw [if_neg he]⟩
    clear h
    go_enter Tryz.func48, Tryz.ntmps48
    go_wp2
    go_ret2
    rw [HT.out]
    exact ⟨rfl, H.out, grown_refl _ _⟩

def stp (n : Int) (b : UInt8) : Int := Go.bits .or .i64 (wrap64 (n * 256)) (wrap64 (b.toNat : Int))
def num (l : List UInt8) : Int := l.foldl stp 0
theorem num_l0 (l : List UInt8) (hl : l.length ≤ 1000000000000) : ∀ d j n, j + d = l.length → xdr_number.l0 (d + 1) ⟨l.toArray⟩ n (l.length : Int) (j : Int) = some ((l.drop j).foldl stp n)
  | 0, j, n, h => by
    rw [xdr_number.l0, if_neg (by omega)]
    rw [List.drop_of_length_le (by omega)]; rfl
  | d + 1, j, n, h => by
    rw [xdr_number.l0, if_pos (by omega), if_pos (by omega), if_pos (by show (j : Int) < ((⟨l.toArray⟩ : ByteArray).size : Int); simp [ByteArray.size]; omega)]
    have hj : j < l.length := by omega
    have hw : wrap64 ((j : Int) + 1) = ((j + 1 : Nat) : Int) := by unfold wrap64; omega
    rw [hw]
    have hb : bt (⟨l.toArray⟩ : ByteArray) (j : Int) = ((l[j]'hj).toNat : Int) := by
      unfold bt
      rw [dif_pos (by show j < l.toArray.size; simpa using hj)]
      rfl
    rw [hb]
    rw [num_l0 l hl d (j + 1) _ (by omega), List.drop_eq_getElem_cons hj]
    rfl
theorem num_f (l : List UInt8) (hl : l.length ≤ 1000000000000) : xdr_number.f (l.length + 1) ⟨l.toArray⟩ = some (num l) := by
  have := num_l0 l hl l.length 0 0 (by omega)
  simpa [xdr_number.f, num, ByteArray.size] using this

def RP.uint (s : RP) : Int × RP := (num (s.tk 4).1, (s.tk 4).2.2)
def RP.hyper (s : RP) : Int × RP := (num (s.tk 8).1, (s.tk 8).2.2)
def RP.bool (s : RP) : Bool × RP := (s.uint.1 == 1, if 1 < s.uint.1 then s.uint.2.wrong 4 else s.uint.2)
def RP.fixed1 (s : RP) (n : Nat) : RP := if s.e = 0 ∧ s.l.length < n then s.wrong 5 else s
def RP.fixed (s : RP) (n : Nat) : List UInt8 × RP :=
  if ((s.fixed1 n).tk (n + padN n)).2.1 = true then
    (if (((s.fixed1 n).tk (n + padN n)).1.drop n).all (· == 0) = true then (((s.fixed1 n).tk (n + padN n)).1.take n, ((s.fixed1 n).tk (n + padN n)).2.2) else ([], ((s.fixed1 n).tk (n + padN n)).2.2.wrong 4))
  else ([], ((s.fixed1 n).tk (n + padN n)).2.2)
def RP.opq (s : RP) (m : Int) : List UInt8 × RP := if max m 0 < s.uint.1 then ([], s.uint.2.wrong 2) else s.uint.2.fixed s.uint.1.toNat

theorem tk_len (s : RP) (n : Nat) : (s.tk n).1.length ≤ n := by
  unfold RP.tk; split
  · split
    · simp
    · simp; omega
  · simp
theorem drawn_grown {w w' : World} (h : Drawn0 w w') (g : Nat) : w.grownBy w' (some g) := by
  obtain ⟨n, rfl⟩ := h.out
  have b := h.below
  exact ⟨b.os, b.tape, b.output, b.size, fun k hk _ => b.block k hk⟩
theorem RS.step {w w' : World} {g : Nat} {s : RP} (h : RS w g s) (hb : Below w.heap.size w w') : RS w' g s := Lb.blk_below h hb

theorem ruint_calls (g : Nat) (s : RP) (w : World) (h : RS w g s) :
    Calls Tryz.prog 25 #[.pointer (some ⟨g, 0, none⟩)] w fun e w' => e = .returned (.int .i64 s.uint.1) ∧ RS w' g s.uint.2 ∧ w.grownBy w' (some g) := by
  have ht := Aside0.mk (take_calls 4 g s w h (by omega))
  have hn := Aside0.mk (num_f (s.tk 4).1 (Nat.le_trans (tk_len s 4) (by omega)))
  clear h
  go_enter Tryz.func25, Tryz.ntmps25
  go_wp2_with (first | (go_at_call 48; refine ht.out.mono ?_; rintro e w1 ⟨rfl, hr, hg⟩; have HR := Aside0.mk hr; have HG := Aside0.mk hg; clear hr hg) | (go_at_call 49; refine (xdr_number.calls _ _ _ _ hn.out).mono ?_; rintro e w2 ⟨rfl, hd⟩; have HD := Aside0.mk hd; clear hd))
  go_ret
  exact ⟨rfl, HR.out.step HD.out.below, Lb.grown_trans HG.out (drawn_grown HD.out g)⟩
theorem rhyper_calls (g : Nat) (s : RP) (w : World) (h : RS w g s) :
    Calls Tryz.prog 26 #[.pointer (some ⟨g, 0, none⟩)] w fun e w' => e = .returned (.int .i64 s.hyper.1) ∧ RS w' g s.hyper.2 ∧ w.grownBy w' (some g) := by
  have ht := Aside0.mk (take_calls 8 g s w h (by omega))
  have hn := Aside0.mk (num_f (s.tk 8).1 (Nat.le_trans (tk_len s 8) (by omega)))
  clear h
  go_enter Tryz.func26, Tryz.ntmps26
  go_wp2_with (first | (go_at_call 48; refine ht.out.mono ?_; rintro e w1 ⟨rfl, hr, hg⟩; have HR := Aside0.mk hr; have HG := Aside0.mk hg; clear hr hg) | (go_at_call 49; refine (xdr_number.calls _ _ _ _ hn.out).mono ?_; rintro e w2 ⟨rfl, hd⟩; have HD := Aside0.mk hd; clear hd))
  go_ret
  exact ⟨rfl, HR.out.step HD.out.below, Lb.grown_trans HG.out (drawn_grown HD.out g)⟩
theorem rbool_calls (g : Nat) (s : RP) (w : World) (h : RS w g s) :
    Calls Tryz.prog 28 #[.pointer (some ⟨g, 0, none⟩)] w fun e w' => e = .returned (.bool s.bool.1) ∧ RS w' g s.bool.2 ∧ w.grownBy w' (some g) := by
  have ht := Aside0.mk (ruint_calls g s w h)
  clear h
  by_cases hu : 1 < s.uint.1
  · have HB : Aside0 (s.bool = (s.uint.1 == 1, s.uint.2.wrong 4)) := ⟨by unfold RP.bool; rw [if_pos hu]⟩
    go_enter Tryz.func28, Tryz.ntmps28
    go_wp2_with (first | (go_at_call 25; refine ht.out.mono ?_; rintro e w1 ⟨rfl, hr, hg⟩; have HR := Aside0.mk hr; have HG := Aside0.mk hg; clear hr hg) | (go_at_call 50; refine (wrong_calls 4 g _ _ HR.out).mono ?_; rintro e w2 ⟨rfl, hr, hg⟩; have HR2 := Aside0.mk hr; have HG2 := Aside0.mk hg; clear hr hg))
    go_ret
    rw [HB.out]
    exact ⟨rfl, HR2.out, Lb.grown_trans HG.out HG2.out⟩
  · have HB : Aside0 (s.bool = (s.uint.1 == 1, s.uint.2)) := ⟨by unfold RP.bool; rw [if_neg hu]⟩
    go_enter Tryz.func28, Tryz.ntmps28
    go_wp2_with (first | (go_at_call 25; refine ht.out.mono ?_; rintro e w1 ⟨rfl, hr, hg⟩; have HR := Aside0.mk hr; have HG := Aside0.mk hg; clear hr hg))
    go_ret
    rw [HB.out]
    exact ⟨rfl, HR.out, HG.out⟩
theorem end_calls (g : Nat) (s : RP) (w : World) (h : RS w g s) :
    Calls Tryz.prog 16 #[.pointer (some ⟨g, 0, none⟩)] w fun e w' => e = .returned (.int .i64 (if s.e = 0 ∧ s.l ≠ [] then 6 else s.e)) ∧ w' = w := by
  have hc0 := (blk_cell h 0).trans rfl
  have hc1 := (blk_cell h 1).trans rfl
  have hp := rptr_eq g
  by_cases he : s.e = 0
  · obtain ⟨l, e⟩ := s
    simp only at he
    subst he
    clear h
    cases l with
    | nil =>
      have hs : ((⟨#[]⟩ : ByteArray) != ⟨#[]⟩) = false := by decide
      go_enter Tryz.func16, Tryz.ntmps16
      go_wp2
      go_ret
      exact ⟨by simp, rfl⟩
    | cons x r =>
      have hs : ((⟨(x :: r).toArray⟩ : ByteArray) != ⟨#[]⟩) = true := rfl
      go_enter Tryz.func16, Tryz.ntmps16
      go_wp2
      go_ret
      exact ⟨by simp, rfl⟩
  · have hb : (s.e == 0) = false := by simp [he]
    have HX : Aside0 ((if s.e = 0 ∧ s.l ≠ [] then 6 else s.e) = s.e) := ⟨if_neg (fun hh => he hh.1)⟩
    clear h
    go_enter Tryz.func16, Tryz.ntmps16
    go_wp2
    go_ret
    exact ⟨HX.out.symm ▸ rfl, rfl⟩

theorem blk_cellF {w : World} {g : Nat} {cur : Array Value} {t : TypeId} {fr : Nat × Nat} (h : w.heap[g]? = some (.cells cur t fr)) (i : Nat) : w.cell? ⟨g, i, none⟩ = cur[i]? := by simp [World.cell?, h]
theorem all_take_succ (t : List UInt8) (i : Nat) (b : UInt8) (h : t[i]? = some b) : ((t.take (i + 1)).all (· == 0)) = ((t.take i).all (· == 0) && (b == 0)) := by
  obtain ⟨hl, he⟩ := List.getElem?_eq_some_iff.1 h
  rw [List.take_succ_eq_append_getElem hl, List.all_append, he]; simp
theorem all_not {t : List UInt8} {i : Nat} {b : UInt8} (h : t[i]? = some b) (hb : b ≠ 0) : ¬ (t.all (· == 0) = true) := fun hh => by
  have := List.all_eq_true.1 hh b (List.mem_of_getElem? h)
  exact hb (by simpa using this)

set_option maxRecDepth 100000 in
set_option maxHeartbeats 2000000 in
theorem rfixed_calls (n : Nat) (g : Nat) (s : RP) (w : World) (h : RS w g s) (hn : n ≤ 100000000000) :
    Calls Tryz.prog 31 #[.pointer (some ⟨g, 0, none⟩), .int .i64 n] w fun e w' => e = .returned (.string ⟨(s.fixed n).1.toArray⟩) ∧ RS w' g (s.fixed n).2 ∧ w.grownBy w' (some g) := by
  have hp := rptr_ne g
  have hc0 := (blk_cell h 0).trans rfl
  have hc1 := (blk_cell h 1).trans rfl
  have H := Aside0.mk h
  have hpn : padN n ≤ 3 := by unfold padN; omega
  obtain ⟨m, hm⟩ : ∃ m, m = n + padN n := ⟨_, rfl⟩
  have hpad : wrap64 ((n : Int) + (padN n : Int)) = (m : Int) := by unfold wrap64; omega
  have hpad' : (n : Int) + (padN n : Int) = (m : Int) := by omega
  have HM := Aside0.mk hm
  have hno : decide ((n : Int) < 0) = false := decide_eq_false (by omega)
  have hPC := pad_calls n (by omega)
  have hTK : ∀ W s1, RS W g s1 → _ := fun W s1 h1 => take_calls m g s1 W h1 (by omega)
  clear h
  by_cases hw : s.e = 0 ∧ s.l.length < n
  · have e1 : s.fixed1 n = s.wrong 5 := by unfold RP.fixed1; rw [if_pos hw]
    have e2 : (s.wrong 5).e = 5 := by unfold RP.wrong; simp [hw.1]
    have e3 : (s.wrong 5).tk m = ([], false, s.wrong 5) := by unfold RP.tk; rw [if_neg (by rw [e2]; decide)]
    have e4 : s.fixed n = ([], s.wrong 5) := by unfold RP.fixed; rw [← hm, e1, e3]; simp
    have E4 := Aside0.mk e4
    have E3 := Aside0.mk e3
    have hb : (s.e == 0) = true := by simp [hw.1]
    have hgt : decide ((s.l.length : Int) < (n : Int)) = true := decide_eq_true (by omega)
    have hgn : decide (s.l.length < n) = true := decide_eq_true hw.2
    clear e1 e2 e3 e4 hw hm
    go_enter Tryz.func31, Tryz.ntmps31
    go_wp2_with (first
      | (go_at_call 50; (with_reducible refine (wrong_calls 5 g s _ H.out).mono ?_); rintro e w1 ⟨rfl, hr, hg⟩; have HR := Aside0.mk hr; have HG := Aside0.mk hg; clear hr hg hc0 hc1)
      | (go_at_call 51; (with_reducible refine (hPC _).mono ?_); rintro e w2 ⟨rfl, rfl⟩; clear hPC)
      | (go_at_call 48; (with_reducible refine (hTK _ _ HR.out).mono ?_); rw [E3.out]; rintro e w3 ⟨rfl, hr, hg⟩; have HR3 := Aside0.mk hr; have HG3 := Aside0.mk hg; clear hr hg hTK))
    go_ret
    rw [E4.out]
    exact ⟨rfl, HR3.out, Lb.grown_trans HG.out HG3.out⟩
  · have e1 : s.fixed1 n = s := by unfold RP.fixed1; rw [if_neg hw]
    obtain ⟨b, hb⟩ : ∃ b, (s.e == 0) = b := ⟨_, rfl⟩
    obtain ⟨c, hgt⟩ : ∃ c, decide ((s.l.length : Int) < (n : Int)) = c := ⟨_, rfl⟩
    have hgn : decide (s.l.length < n) = c := by rw [← hgt]; exact decide_eq_decide.2 (by omega)
    have hbc : (b && c) = false := by
      cases b with
      | false => rfl
      | true =>
        cases c with
        | false => rfl
        | true => exact absurd ⟨by simpa using hb, of_decide_eq_true hgn⟩ hw
    obtain ⟨x, ok, s2, htk⟩ : ∃ x ok s2, s.tk m = (x, ok, s2) := ⟨_, _, _, rfl⟩
    have E3 := Aside0.mk htk
    cases ok with
    | false =>
      have E4 : Aside0 (s.fixed n = ([], s2)) := ⟨by unfold RP.fixed; rw [← hm, e1, htk]; simp⟩
      clear e1 htk hw hm
      cases b with
      | false =>
        go_enter Tryz.func31, Tryz.ntmps31
        go_wp2_with (first
          | (go_at_call 51; (with_reducible refine (hPC _).mono ?_); rintro e w2 ⟨rfl, rfl⟩; clear hPC)
          | (go_at_call 48; (with_reducible refine (hTK _ _ H.out).mono ?_); rw [E3.out]; rintro e w3 ⟨rfl, hr, hg⟩; have HR3 := Aside0.mk hr; have HG3 := Aside0.mk hg; clear hr hg hTK))
        go_ret
        rw [E4.out]
        exact ⟨rfl, HR3.out, HG3.out⟩
      | true =>
        have hcf : c = false := by simpa using hbc
        subst hcf
        go_enter Tryz.func31, Tryz.ntmps31
        go_wp2_with (first
          | (go_at_call 51; (with_reducible refine (hPC _).mono ?_); rintro e w2 ⟨rfl, rfl⟩; clear hPC)
          | (go_at_call 48; (with_reducible refine (hTK _ _ H.out).mono ?_); rw [E3.out]; rintro e w3 ⟨rfl, hr, hg⟩; have HR3 := Aside0.mk hr; have HG3 := Aside0.mk hg; clear hr hg hTK))
        go_ret
        rw [E4.out]
        exact ⟨rfl, HR3.out, HG3.out⟩
    | true =>
      have hbt : b = true := by
        cases b with
        | true => rfl
        | false =>
          have : ¬ s.e = 0 := by simpa using hb
          unfold RP.tk at htk; rw [if_neg this] at htk; cases htk
      subst hbt
      have hcf : c = false := by simpa using hbc
      subst hcf
      have hxl : x.length = n + padN n := by
        unfold RP.tk at htk
        rw [if_pos (by simpa using hb)] at htk
        split at htk
        · cases htk
        · injection htk with h1 h2; rw [← h1]; simp; omega
      have hE : Aside0 (s.fixed n = if (x.drop n).all (· == 0) = true then (x.take n, s2) else ([], s2.wrong 4)) := ⟨by unfold RP.fixed; rw [← hm, e1, htk]; simp only [if_true]⟩
      obtain ⟨t, ht⟩ : ∃ t, t = x.drop n := ⟨_, rfl⟩
      have h1 := ext_drop x n
      rw [← ht] at h1
      have h2 := ext_take x n
      have htl : t.length = padN n := by rw [ht]; simp; omega
      have hle : n ≤ x.length := by omega
      have hli : (n : Int) ≤ (x.length : Int) := by omega
      rw [← ht] at hE
      have HTL := Aside0.mk htl
      clear e1 htk hw ht htl hm hxl
      go_enter Tryz.func31, Tryz.ntmps31
      go_wp2_with (first
        | (go_at_call 51; (with_reducible refine (hPC _).mono ?_); rintro e w2 ⟨rfl, rfl⟩; clear hPC)
        | (go_at_call 48; (with_reducible refine (hTK _ _ H.out).mono ?_); rw [E3.out]; rintro e w3 ⟨rfl, hr, hg⟩; have HR3 := Aside0.mk hr; have HG3 := Aside0.mk hg; clear hr hg hTK hc0 hc1)
        | ((with_reducible refine gate_dst (N := 45) rfl ?_); refine Lb.bytes_event rfl 9 54 5 ⟨t.toArray⟩ (.tmp 44) rfl rfl Tryz.underlying9 Tryz.underlying54 Tryz.underlying5 ?_; intro gb cap row fr w4 hgb hx4 hrow hb4; have HX4 := Aside0.mk hx4; have HB4 := Aside0.mk hb4; have HRW := Aside0.mk hrow; have HR4 := Aside0.mk (HR3.out.step hb4); clear hx4 hb4 hrow hgb))
      obtain ⟨q, hq⟩ : ∃ q, q = t.length := ⟨_, rfl⟩
      have HQ := Aside0.mk hq
      have hq3 : q ≤ 3 := by have := HTL.out; omega
      have hsz : (⟨t.toArray⟩ : ByteArray).size = q := by rw [hq]; simp [ByteArray.size]
      try rw [← hq]
      try rw [hsz]
      obtain ⟨wo, hwo⟩ : ∃ wo, wo = w4 := ⟨_, rfl⟩
      have HWO := Aside0.mk hwo
      clear hsz hq hwo h1
      go_loopg [47] q (fun gk s47 wr => ∃ i, i + gk = q ∧ s47 = .int .i64 (i : Nat) ∧ Aside0 (wr = wo) ∧ Aside0 ((t.take i).all (· == 0) = true))
      case atStart => exact ⟨0, by omega, rfl, ⟨HWO.out.symm⟩, ⟨by simp⟩⟩
      case round =>
        obtain ⟨i, hi, rfl, HW, HA⟩ := hrel
        cases gk with
        | zero =>
          have hi' : i = q := by omega
          subst hi'
          have hlt' : ¬ ((i : Int) < (i : Int)) := by omega
          go_wp2
          go_ret
          have hall : t.all (· == 0) = true := by have := HA.out; rw [HQ.out, List.take_length] at this; exact this
          rw [hE.out, if_pos hall, HW.out, HWO.out]
          exact ⟨rfl, HR4.out, Lb.grown_trans HG3.out ⟨HB4.out.os, HB4.out.tape, HB4.out.output, HB4.out.size, fun k hk _ => HB4.out.block k hk⟩⟩
        | succ j =>
          have hiq : (i : Int) < (q : Int) := by omega
          obtain ⟨c, hc⟩ : ∃ c, t[i]? = some c := ⟨_, List.getElem?_eq_getElem (by have := HQ.out; omega)⟩
          have hcell : wr.cell? ⟨gb, i, none⟩ = some (.int .u8 (c.toNat : Int)) := by
            rw [HW.out, HWO.out]; exact (blk_cellF HX4.out i).trans (HRW.out i c hc)
          by_cases hz : c = 0
          · have hb0 : ((c.toNat : Int) != 0) = false := by rw [hz]; rfl
            have HA2 : Aside0 ((t.take (i + 1)).all (· == 0) = true) := ⟨by rw [all_take_succ t i c hc, HA.out, hz]; rfl⟩
            clear hc hz
            go_wp2
            go_roundg j
            case measure => omega
            case rel => exact ⟨i + 1, by omega, by first | rfl | (congr 1; unfold wrap64; omega), HW, HA2⟩
          · have hb0 : ((c.toNat : Int) != 0) = true := by
              have : c.toNat ≠ 0 := fun h => hz (UInt8.toNat_inj.1 (by simpa using h))
              simp; omega
            have HN := Aside0.mk (all_not hc hz)
            have HRW4 : Aside0 (RS wr g s2) := ⟨by rw [HW.out, HWO.out]; exact HR4.out⟩
            clear hc hz
            go_wp2_with (go_at_call 50; (with_reducible refine (wrong_calls 4 g s2 _ HRW4.out).mono ?_); rintro e w5 ⟨rfl, hr, hg⟩; have HR5 := Aside0.mk hr; have HG5 := Aside0.mk hg; clear hr hg)
            go_ret
            rw [hE.out, if_neg HN.out]
            refine ⟨rfl, HR5.out, ?_⟩
            have hg5 := HG5.out
            rw [HW.out, HWO.out] at hg5
            exact Lb.grown_trans (Lb.grown_trans HG3.out ⟨HB4.out.os, HB4.out.tape, HB4.out.output, HB4.out.size, fun k hk _ => HB4.out.block k hk⟩) hg5

theorem bits_or (n : Int) (b : UInt8) : bits .or .i64 (wrap64 (n * 256)) (wrap64 (b.toNat : Int)) = wrap64 (n * 256) + b.toNat := by
  have hb := b.toNat_lt
  have e1 : wrap64 (b.toNat : Int) = b.toNat := by unfold wrap64; omega
  rw [e1]
  simp only [bits, BitVec.toNat_or, BitVec.toNat_ofInt]
  have h4 : ((2 ^ IntKind.i64.bits : Nat) : Int) = 18446744073709551616 := by decide
  rw [h4, IntKind.wrap_i64]
  obtain ⟨z, hz⟩ : ∃ z : Nat, ((wrap64 (n * 256)) % 18446744073709551616).toNat = 2 ^ 8 * z := by
    refine ⟨(((wrap64 (n * 256)) % 18446744073709551616).toNat) / 256, ?_⟩
    unfold wrap64
    omega
  have hb2 : ((b.toNat : Int) % 18446744073709551616).toNat = b.toNat := by omega
  rw [hz, hb2, ← Nat.two_pow_add_eq_or_of_lt (by omega : b.toNat < 2 ^ 8)]
  have : (2 : Nat) ^ 8 = 256 := by decide
  rw [this] at hz ⊢
  unfold wrap64 at hz ⊢
  omega
theorem stp_small {n : Int} (h0 : 0 ≤ n) (h1 : n < 36028797018963968) (b : UInt8) : stp n b = n * 256 + b.toNat := by
  unfold stp
  rw [bits_or]
  have e : wrap64 (n * 256) = n * 256 := by unfold wrap64; omega
  rw [e]
theorem byte_eq {b : UInt8} {x : Int} (h : x % 256 = b.toNat) : UInt8.ofNat (x % 256).toNat = b := by
  apply UInt8.toNat_inj.1
  have := b.toNat_lt
  rw [h, UInt8.toNat_ofNat']
  omega
theorem fold4 {α β : Type} (f : α → β → α) (z : α) (a b c d : β) : [a, b, c, d].foldl f z = f (f (f (f z a) b) c) d := rfl
theorem num_4 (bs : List UInt8) (h : bs.length = 4) : 0 ≤ num bs ∧ num bs ≤ 4294967295 ∧ be (num bs) 4 = bs := by
  match bs, h with
  | [a, b, c, d], _ =>
    have ha := a.toNat_lt
    have hb := b.toNat_lt
    have hc := c.toNat_lt
    have hd := d.toNat_lt
    have e : num [a, b, c, d] = stp (stp (stp (stp 0 a) b) c) d := by unfold num; exact fold4 stp 0 a b c d
    obtain ⟨x1, h1⟩ : ∃ x, x = stp 0 a := ⟨_, rfl⟩
    rw [← h1] at e
    rw [stp_small (by omega) (by omega)] at h1
    obtain ⟨x2, h2⟩ : ∃ x, x = stp x1 b := ⟨_, rfl⟩
    rw [← h2] at e
    rw [stp_small (by omega) (by omega)] at h2
    obtain ⟨x3, h3⟩ : ∃ x, x = stp x2 c := ⟨_, rfl⟩
    rw [← h3] at e
    rw [stp_small (by omega) (by omega)] at h3
    rw [stp_small (by omega) (by omega)] at e
    obtain ⟨y, hy⟩ : ∃ y, y = num [a, b, c, d] := ⟨_, rfl⟩
    rw [← hy] at e ⊢
    clear hy
    refine ⟨by omega, by omega, ?_⟩
    have p3 : (256 : Int) ^ 3 = 16777216 := by decide
    have p2 : (256 : Int) ^ 2 = 65536 := by decide
    have p1 : (256 : Int) ^ 1 = 256 := by decide
    have p0 : (256 : Int) ^ 0 = 1 := by decide
    simp only [be, p3, p2, p1, p0]
    refine List.cons_eq_cons.2 ⟨byte_eq (by omega), List.cons_eq_cons.2 ⟨byte_eq (by omega), List.cons_eq_cons.2 ⟨byte_eq (by omega), List.cons_eq_cons.2 ⟨byte_eq (by omega), rfl⟩⟩⟩⟩
theorem uint_bd (s : RP) : 0 ≤ s.uint.1 ∧ s.uint.1 ≤ 4294967295 := by
  have h0 : ∀ x : RP, (x.tk 4).1 = [] → x.uint.1 = 0 := fun x hx => by unfold RP.uint; rw [hx]; rfl
  by_cases he : s.e = 0
  · by_cases hl : s.l.length < 4
    · have := h0 s (by unfold RP.tk; rw [if_pos he, if_pos hl]); omega
    · have h1 : (s.tk 4).1 = s.l.take 4 := by unfold RP.tk; rw [if_pos he, if_neg hl]
      have := num_4 (s.l.take 4) (by simp; omega)
      unfold RP.uint; rw [h1]; exact ⟨this.1, this.2.1⟩
  · have := h0 s (by unfold RP.tk; rw [if_neg he]); omega

set_option maxRecDepth 100000 in
theorem ropaque_calls (m : Int) (g : Nat) (s : RP) (w : World) (h : RS w g s) (hm : 0 ≤ m) :
    Calls Tryz.prog 30 #[.pointer (some ⟨g, 0, none⟩), .int .i64 m] w fun e w' => e = .returned (.string ⟨(s.opq m).1.toArray⟩) ∧ RS w' g (s.opq m).2 ∧ w.grownBy w' (some g) := by
  have hbd := uint_bd s
  obtain ⟨k, hk⟩ : ∃ k : Nat, s.uint.1 = (k : Int) := ⟨s.uint.1.toNat, by omega⟩
  have ht := Aside0.mk (ruint_calls g s w h)
  rw [hk] at ht hbd
  clear h
  by_cases hu : max m 0 < (k : Int)
  · have HB : Aside0 (s.opq m = ([], s.uint.2.wrong 2)) := ⟨by unfold RP.opq; rw [hk, if_pos hu]⟩
    have hd : decide (m < (k : Int)) = true := decide_eq_true (by omega)
    clear hu hk
    go_enter Tryz.func30, Tryz.ntmps30
    go_wp2_with (first | (go_at_call 25; refine ht.out.mono ?_; rintro e w1 ⟨rfl, hr, hg⟩; have HR := Aside0.mk hr; have HG := Aside0.mk hg; clear hr hg) | (go_at_call 50; refine (wrong_calls 2 g _ _ HR.out).mono ?_; rintro e w2 ⟨rfl, hr, hg⟩; have HR2 := Aside0.mk hr; have HG2 := Aside0.mk hg; clear hr hg))
    go_ret
    rw [HB.out]
    exact ⟨rfl, HR2.out, Lb.grown_trans HG.out HG2.out⟩
  · have HB : Aside0 (s.opq m = s.uint.2.fixed k) := ⟨by unfold RP.opq; rw [hk, if_neg hu]; simp⟩
    have hd : decide (m < (k : Int)) = false := decide_eq_false (by omega)
    clear hu hk
    go_enter Tryz.func30, Tryz.ntmps30
    go_wp2_with (first | (go_at_call 25; refine ht.out.mono ?_; rintro e w1 ⟨rfl, hr, hg⟩; have HR := Aside0.mk hr; have HG := Aside0.mk hg; clear hr hg) | (go_at_call 31; refine (rfixed_calls k g _ _ HR.out (by omega)).mono ?_; rintro e w2 ⟨rfl, hr, hg⟩; have HR2 := Aside0.mk hr; have HG2 := Aside0.mk hg; clear hr hg))
    go_ret
    rw [HB.out]
    exact ⟨rfl, HR2.out, Lb.grown_trans HG.out HG2.out⟩

theorem open_calls (l : List UInt8) (w : World) :
    Calls Tryz.prog 13 #[.string ⟨l.toArray⟩] w fun e w' => ∃ g, e = .returned (.pointer (some ⟨g, 0, none⟩)) ∧ w.heap.size ≤ g ∧ RS w' g ⟨l, 0⟩ ∧ Below w.heap.size w w' := by
  go_enter Tryz.func13, Tryz.ntmps13
  go_wp2_with (first
    | ((with_reducible refine gate_dst (N := 5) rfl ?_); refine box_event ?hg (N := 5) ?hd (cs := #[.string ⟨l.toArray⟩, .int .i64 0]) (t := 72) ?hr ?_; (case hd => rfl); (case hg => rfl); (case hr => first | (go_simp; done) | (go_simp; rfl)); intro gl hgl w4 hx4 hb4; have HL4 := Aside0.mk hx4; have HB4 := Aside0.mk hb4; have HG4 := Aside0.mk hgl; clear hx4 hb4 hgl))
  go_ret
  exact ⟨gl, rfl, Nat.le_of_eq HG4.out.symm, HL4.out, HB4.out⟩
end Go.Proofs.YtgfljlbecafipaaGreatDoor.Xw
