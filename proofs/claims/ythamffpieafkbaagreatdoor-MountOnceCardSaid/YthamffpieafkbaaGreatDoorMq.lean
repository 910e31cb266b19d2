/- mount: MountOnce. -/
import Derived.Test.YthamffpieafkbaaGreatDoorMn
import Derived.StillTailTactics
namespace Go.Proofs.YthamffpieafkbaaGreatDoor.Mt
open Go.RowKit Go.Lib Go.Proofs.YthamffpieafkbaaGreatDoor.PM Go.Proofs.YthamffpieafkbaaGreatDoorW.PrintWords Go.Proofs.YthamffpieafkbaaGreatDoorW.PrintLast Go.Proofs.YthamffpieafkbaaGreatDoorW.PrintMore
set_option linter.unusedVariables false
set_option linter.unusedSimpArgs false

theorem EO_len : EO.length ≤ 1000000 := by unfold EO; simp
theorem EO_0 : EO[0]? = some eR := rfl
theorem EO_1 : EO[1]? = some eO := rfl
theorem hixR : idx (pathIs ⟨#[47]⟩) EO 0 = ((0 : Nat) : Int) := by kernel_rfl
theorem hixO : idx (pathIs ⟨#[47, 97]⟩) EO 0 = ((1 : Nat) : Int) := by kernel_rfl
theorem goodO : GoodE EO := ⟨fun i e he => by
  match i, he with
  | 0, he => simp [EO] at he; subst he; exact ⟨by decide, by decide, rfl, rfl, by decide⟩
  | 1, he => simp [EO] at he; subst he; exact ⟨by decide, by decide, rfl, by show idx _ [eR] 0 = -1; kernel_rfl, by decide⟩
  | n + 2, he => simp [EO] at he, EO_len⟩
theorem exps_O {w : World} {k : Nat} (hb : w.heap[k]? = some (.cells #[.string ⟨#[47]⟩, .string ⟨#[104]⟩, .slice none 0 0, .string ⟨#[47, 97]⟩, .string ⟨#[97]⟩, .slice none 0 0] 30 (0, 0))) : ExpsAt w 0 (.slice (some ⟨k, 0, none⟩) 2 2) EO := by
  refine ⟨[.slice none 0 0, .slice none 0 0], rfl, ⟨rfl, .inr ⟨k, 2, _, rfl, Nat.zero_le _, hb, Nat.le_refl _, by decide, rfl, rfl⟩⟩, ?_⟩
  intro i e u he hu
  match i, he, hu with
  | 0, he, hu => simp [EO] at he hu; subst he hu; exact strs_nil w
  | 1, he, hu => simp [EO] at he hu; subst he hu; exact strs_nil w
  | n + 2, he, hu => simp [EO] at he
theorem rowO_none (w : World) : Xw.RowAt w none (([] : List ByteArray).map Value.string) := by
  intro i v hi
  simp at hi
theorem rowO_take (ss : List ByteArray) (len : Nat) (a : Addr) (w : World) (hl : len ≤ ss.length) (hc : ∀ i, i < ss.length → w.cell? (a.add i) = some (.string (ss.getD i ByteArray.empty))) : Xw.RowAt w (some a) ((ss.take len).map Value.string) := by
  intro i v hi
  rw [List.getElem?_map] at hi
  obtain ⟨s, hs1, rfl⟩ := Option.map_eq_some_iff.1 hi
  have hlt := (List.getElem?_eq_some_iff.1 hs1).1
  rw [List.length_take] at hlt
  rw [List.getElem?_take, if_pos (by omega)] at hs1
  refine ⟨a, rfl, (hc i (by omega)).trans ?_⟩
  rw [List.getD_eq_getElem?_getD, hs1]
  rfl
theorem rowO_cell {w : World} {A : Option Addr} {hs : List ByteArray} (h : Xw.RowAt w A (hs.map Value.string)) (i : Nat) (s : ByteArray) (hi : hs[i]? = some s) : ∃ ad, A = some ad ∧ w.cell? (ad.add i) = some (.string s) := h i _ (by rw [List.getElem?_map, hi]; rfl)
def had (b : Bool) : Int := if b = true then 1 else 0
/-- was it asked for before? -/
def kn (hs : List ByteArray) (s : ByteArray) (k : Nat) : Bool := (hs.take k).any fun x => x.toList == s.toList
theorem kn_step (hs : List ByteArray) (s : ByteArray) (k : Nat) (x : ByteArray) (h : hs[k]? = some x) : kn hs s (k + 1) = (kn hs s k || (x.toList == s.toList)) := by
  obtain ⟨hlt, rfl⟩ := List.getElem?_eq_some_iff.1 h
  unfold kn
  rw [List.take_succ_eq_append_getElem hlt, List.any_append]
  simp
theorem kn_has (hs : List ByteArray) (s : ByteArray) (k : Nat) : kn hs s k = hasM (dd (hs.take k)) s ⟨#[47]⟩ := by
  rw [Bool.eq_iff_iff, dd_has]
  unfold kn
  rw [List.any_eq_true]
  constructor
  · rintro ⟨x, hx, h2⟩
    rw [← ba_eq h2]; exact hx
  · intro h
    exact ⟨s, h, by simp⟩
theorem take_snoc {hs : List ByteArray} {i : Nat} {s : ByteArray} (h : hs[i]? = some s) : dd (hs.take (i + 1)) = addH (dd (hs.take i)) s := by
  obtain ⟨hlt, rfl⟩ := List.getElem?_eq_some_iff.1 h
  rw [List.take_succ_eq_append_getElem hlt, dd_snoc]
theorem dd_le (hs : List ByteArray) (i : Nat) : (dd (hs.take i)).length ≤ i := by
  have h1 := dd_len (hs.take i)
  rw [List.length_take] at h1
  omega

set_option maxRecDepth 100000 in
set_option maxHeartbeats 8000000 in
theorem once_few (A : Option Addr) (c : Nat) (hs : List ByteArray) (other : ByteArray) (m : Int) (w : World) (hm : w.cell? ⟨0, 0, none⟩ = some (.int .i64 m)) (hA : Xw.RowAt w A (hs.map Value.string)) (hl : hs.length ≤ 30) :
    Calls Tryz.prog 4 #[.slice A hs.length c, .string other] w fun e w' => e = .returned (.bool true) ∧ Below w.heap.size w w' := by
  have HME := Aside0.mk hm
  have HA := Aside0.mk hA
  have HL := Aside0.mk hl
  clear hm hA
  go_enter Tryz.func4, Tryz.ntmps4
  go_wp2_with (first
    | (go_at_call 7; (with_reducible refine (speaks_calls m w HME.out).mono ?_); rintro e0 w0 ⟨rfl, hb⟩; have HB0 := Aside0.mk hb; clear hb)
    | ((with_reducible refine gate_dst (N := 18) rfl ?_); refine Lb.alloc_event ?hg (v := fun g => .slice (some ⟨g, 0, none⟩) 2 2) (cs := #[.string ⟨#[47]⟩, .string ⟨#[104]⟩, .slice none 0 0, .string ⟨#[47, 97]⟩, .string ⟨#[97]⟩, .slice none 0 0]) (t := 30) (fr := (0, 0)) ?hr ?_; (case hg => rfl); (case hr => first | (go_simp; done) | (go_simp; rfl)); intro g4 hg4 w1 hx hb; have HX4 := Aside0.mk hx; have HB1 := Aside0.mk (below_step HB0.out hb); clear hx hb hg4)
    | (go_at_call 8; (with_reducible refine (new_calls 0 _ EO w1 (exps_O HX4.out) goodO).mono ?_); rintro e2 w2 ⟨⟨g, rfl, hmt⟩, hb⟩; have HMT := Aside0.mk hmt; have HB2 := Aside0.mk (below_step HB1.out hb); clear hmt hb))
  go_loopg [6, 7] hs.length (fun gk s6 s7 wr => ∃ i : Nat, i + gk = hs.length ∧ s6 = .int .i64 ((dd (hs.take i)).length : Nat) ∧ s7 = .int .i64 i ∧ Aside0 (MT w1.heap.size wr g EO (dd (hs.take i))) ∧ Aside0 (Below w.heap.size w wr))
  case atStart => exact ⟨0, by omega, rfl, rfl, HMT, HB2⟩
  case round =>
    clear HMT HB2
    obtain ⟨i, hi, rfl, rfl, HMT, HB⟩ := hrel
    cases gk with
    | zero =>
      obtain rfl : hs.length = i := by omega
      obtain ⟨D, hD⟩ : ∃ D, dd (hs.take hs.length) = D := ⟨_, rfl⟩
      have HDP : Aside0 (∀ x ∈ D, x.f1 = ⟨#[47]⟩) := ⟨by rw [← hD]; exact dd_path _⟩
      have HDN : Aside0 D.Nodup := ⟨by rw [← hD]; exact fold_nodup _ _ List.nodup_nil⟩
      have HDL : Aside0 (D.length ≤ 30) := ⟨by rw [← hD]; have := dd_le hs hs.length; omega⟩
      have HDH : Aside0 (∀ h, hasM D h ⟨#[47]⟩ = true ↔ h ∈ hs.take hs.length) := ⟨fun h => by rw [← hD]; exact dd_has _ h⟩
      have HDD := Aside0.mk hD
      rw [hD] at HMT
      rw [hD]
      clear hD hi
      have hii : ¬ ((hs.length : Int) < (hs.length : Int)) := by omega
      by_cases ho : other.size ≤ 255
      · have q1 : decide ((255 : Int) < (other.size : Int)) = false := decide_eq_false (by omega)
        have q1n : decide (255 < other.size) = false := decide_eq_false (by omega)
        have HO := Aside0.mk ho
        clear ho
        go_wp2_with (first
          | (go_at_call 13; (with_reducible refine (mounts_calls _ g EO _ wr HMT.out (by have := HDL.out; omega)).mono ?_); rintro e8 w8 ⟨rfl, rfl⟩)
          | ((with_reducible refine gate_dst (N := 87) rfl ?_); refine Lb.alloc_event ?hg (v := fun g => .slice (some ⟨g, 0, none⟩) 1 1) (cs := #[.string ⟨#[47, 97]⟩]) (t := 9) (fr := (0, 0)) ?hr ?_; (case hg => rfl); (case hr => first | (go_simp; done) | (go_simp; rfl)); intro g87 hg87 w3 hx hb; have HX3 := Aside0.mk hx; have HMT3 := Aside0.mk (HMT.out.step hb); have HB3 := Aside0.mk (below_step HB.out hb); clear hx hb hg87)
          | (go_at_call 10; (with_reducible refine (do_some _ g g87 EO D other ⟨#[47, 97]⟩ m 1 eO w3 HMT3.out (Lib.Below.cellOf HB3.out HME.out (Nat.le_refl _)) HX3.out HO.out (by decide) EO_len (Nat.le_trans HDL.out (by decide)) (by decide) hixO EO_1).mono ?_); rw [other_in D other HDP.out (by have := HDL.out; omega)]; rintro e4 w4 ⟨⟨vN, vT, rfl, hN, hT⟩, hmt, hfr⟩; have HMT4 := Aside0.mk hmt; have HB4 := Aside0.mk (show Below w.heap.size w w4 from HB3.out.trans (hfr.bel.mono HB1.out.size)); clear hmt hfr hN hT)
          | ((with_reducible refine gate_dst (N := 92) rfl ?_); refine Lb.alloc_event ?hg (v := fun g => .slice (some ⟨g, 0, none⟩) 1 1) (cs := #[.string ⟨#[47, 97]⟩]) (t := 9) (fr := (0, 0)) ?hr ?_; (case hg => rfl); (case hr => first | (go_simp; done) | (go_simp; rfl)); intro g92 hg92 w5 hx hb; have HX5 := Aside0.mk hx; have HMT5 := Aside0.mk (HMT4.out.step hb); have HB5 := Aside0.mk (below_step HB4.out hb); clear hx hb hg92)
          | (go_at_call 10; (with_reducible refine (do3_calls _ g g92 EO _ other ⟨#[47, 97]⟩ m w5 HMT5.out (Lib.Below.cellOf HB5.out HME.out (Nat.le_refl _)) HX5.out HO.out (by decide) (by have := HDL.out; simp; omega)).mono ?_); rw [filter_back D other HDP.out]; rintro e6 w6 ⟨⟨vN6, vT6, rfl, hN, hT⟩, hmt, hfr⟩; have HMT6 := Aside0.mk hmt; have HB6 := Aside0.mk (show Below w.heap.size w w6 from HB5.out.trans (hfr.bel.mono HB1.out.size)); clear hmt hfr hN hT)
          | (go_at_call 13; (with_reducible refine (mounts_calls _ g EO _ w6 HMT6.out (by have := HDL.out; omega)).mono ?_); rintro e8 w8 ⟨rfl, rfl⟩))
        go_loopg [12, 13] hs.length (fun gk s12 s13 wr3 => w8 = wr3 ∧ ∃ k : Nat, k + gk = hs.length ∧ s13 = .int .i64 k ∧ s12 = .int .i64 (had (kn hs other k)))
        case atStart => exact ⟨rfl, 0, by omega, rfl, rfl⟩
        case round =>
          obtain ⟨rfl, k, hk, rfl, hs12⟩ := hrel
          cases gk with
          | succ gk =>
            have hkl : k < hs.length := by omega
            have hkI : (k : Int) < (hs.length : Int) := by omega
            have hk30 : (k : Int) < 30 := by omega
            obtain ⟨x, hx1⟩ : ∃ x, hs[k]? = some x := ⟨_, List.getElem?_eq_getElem hkl⟩
            obtain ⟨ad, rfl, hcx⟩ := rowO_cell HA.out k x hx1
            have hc2 := Lib.Below.cellOf HB6.out hcx (Nat.le_refl _)
            have hst := kn_step hs other k x hx1
            have HK := Aside0.mk hk
            obtain ⟨b, hb⟩ : ∃ b, (x.toList == other.toList) = b := ⟨_, rfl⟩
            rw [hb] at hst
            have HST := Aside0.mk hst
            clear hk hkl hx1 hcx hst
            subst hs12
            cases b with
            | true =>
              go_wp2
              go_roundg gk
              case measure => omega
              case rel => exact ⟨rfl, k + 1, by have := HK.out; omega, rfl, by rw [HST.out]; simp [had]⟩
            | false =>
              go_wp2
              go_roundg gk
              case measure => omega
              case rel => exact ⟨rfl, k + 1, by have := HK.out; omega, rfl, by rw [HST.out]; simp⟩
          | zero =>
            obtain rfl : hs.length = k := by omega
            have hgl := gone_len D other HDN.out HDP.out
            have hkb : kn hs other hs.length = hasM D other ⟨#[47]⟩ := by
              rw [kn_has, HDD.out]
            rw [hkb] at hs12
            obtain ⟨b, hb⟩ : ∃ b, hasM D other ⟨#[47]⟩ = b := ⟨_, rfl⟩
            rw [hb] at hs12 hgl
            subst hs12
            have HGL : Aside0 (((D.filter fun x => !(x.f0.toList == other.toList)).length : Int) = wrap64 ((D.length : Int) - had b)) := ⟨by
              have := HDL.out
              cases b with
              | true => rw [if_pos rfl] at hgl; show _ = wrap64 ((D.length : Int) - 1); unfold wrap64; omega
              | false => rw [if_neg (by decide)] at hgl; show _ = wrap64 ((D.length : Int) - 0); unfold wrap64; omega⟩
            obtain ⟨MF, hMF⟩ : ∃ MF, (D.filter fun x => !(x.f0.toList == other.toList)) = MF := ⟨_, rfl⟩
            have HMFL : Aside0 (MF.length ≤ 30) := ⟨by rw [← hMF]; have := List.length_filter_le (fun x : Held => !(x.f0.toList == other.toList)) D; have := HDL.out; omega⟩
            rw [hMF] at HGL
            have HMF := Aside0.mk hMF
            have hsub : wrap64 ((D.length : Int) - had b) = (MF.length : Int) := HGL.out.symm
            clear hk hgl hkb hb hMF
            go_wp2_with (first
              | (go_at_call 10; (with_reducible refine (do4_calls _ g EO D other m w8 HMT6.out (Lib.Below.cellOf HB6.out HME.out (Nat.le_refl _)) HO.out (Nat.le_trans HDL.out (by decide))).mono ?_); rw [HMF.out]; rintro e9 w9 ⟨⟨vN, vT, rfl, hN, hT⟩, hmt, hfr⟩; have HMT9 := Aside0.mk hmt; have HB9 := Aside0.mk (show Below w.heap.size w w9 from HB6.out.trans (hfr.bel.mono HB1.out.size)); clear hmt hfr hN hT)
              | (go_at_call 13; (with_reducible refine (mounts_calls _ g EO _ w9 HMT9.out (by have := HMFL.out; omega)).mono ?_); rintro e10 w10 ⟨rfl, rfl⟩))
            go_ret
            exact ⟨rfl, HB9.out⟩
      · have q1 : decide ((255 : Int) < (other.size : Int)) = true := decide_eq_true (by omega)
        have q1n : decide (255 < other.size) = true := decide_eq_true (by omega)
        clear ho
        go_wp2_with (first
          | (go_at_call 13; (with_reducible refine (mounts_calls _ g EO _ wr HMT.out (by have := HDL.out; omega)).mono ?_); rintro e8 w8 ⟨rfl, rfl⟩))
        go_ret
        exact ⟨rfl, HB.out⟩
    | succ gk =>
      have hlt : i < hs.length := by omega
      have hii : (i : Int) < (hs.length : Int) := by omega
      have h30 : (i : Int) < 30 := by omega
      obtain ⟨s, hs1⟩ : ∃ s, hs[i]? = some s := ⟨_, List.getElem?_eq_getElem hlt⟩
      obtain ⟨ad, rfl, hcc⟩ := rowO_cell HA.out i s hs1
      have hc := Lib.Below.cellOf HB.out hcc (Nat.le_refl _)
      have HEQ := Aside0.mk hi
      have HS1 := Aside0.mk hs1
      have HCC := Aside0.mk hcc
      have HI := Aside0.mk (show i < 30 ∧ i < hs.length by omega)
      have HTS := Aside0.mk (take_snoc hs1)
      clear hi hcc hs1 hlt
      by_cases h255 : s.size ≤ 255
      · have q1 : decide ((255 : Int) < (s.size : Int)) = false := decide_eq_false (by omega)
        have q1n : decide (255 < s.size) = false := decide_eq_false (by omega)
        have Q := Aside0.mk h255
        clear h255
        obtain ⟨gko, hgko⟩ : ∃ q, q = gk := ⟨_, rfl⟩
        go_wp2
        go_loopg [8, 9] i (fun gk s8 s9 wr1 => Aside0 (Below wr.heap.size wr wr1) ∧ ∃ k : Nat, k + gk = i ∧ s9 = .int .i64 k ∧ s8 = .bool (kn hs s k))
        case atStart => exact ⟨⟨Below.refl _ _⟩, 0, by omega, rfl, rfl⟩
        case round =>
          obtain ⟨HW1, k, hk, rfl, hs8⟩ := hrel
          cases gk with
          | succ gk =>
            have hkk : (k : Int) < (i : Int) := by omega
            have hkl : k < hs.length := by have := HI.out.2; omega
            have hkI : (k : Int) < (hs.length : Int) := by omega
            obtain ⟨x, hx1⟩ : ∃ x, hs[k]? = some x := ⟨_, List.getElem?_eq_getElem hkl⟩
            obtain ⟨ad', e1, hcx⟩ := rowO_cell HA.out k x hx1
            injection e1 with e1
            subst e1
            replace hc := Lib.Below.cellOf HW1.out hc (Nat.le_refl _)
            have hc2 := Lib.Below.cellOf HW1.out (Lib.Below.cellOf HB.out hcx (Nat.le_refl _)) (Nat.le_refl _)
            have hst := kn_step hs s k x hx1
            obtain ⟨b, hb⟩ : ∃ b, kn hs s k = b := ⟨_, rfl⟩
            rw [hb] at hs8 hst
            have HST := Aside0.mk hst
            have HK := Aside0.mk hk
            clear hk hkl hx1 hcx hst hb
            subst hs8
            cases b with
            | true =>
              go_wp2
              go_quiet (fail)
              clear hc hc2
              go_wp2
              go_roundg gk
              case measure => omega
              case rel => exact ⟨⟨below_drewN HW1.out _⟩, k + 1, by have := HK.out; omega, rfl, by rw [HST.out]; rfl⟩
            | false =>
              go_wp2
              go_quiet (fail)
              clear hc hc2
              go_wp2
              go_roundg gk
              case measure => omega
              case rel => exact ⟨⟨below_drewN HW1.out _⟩, k + 1, by have := HK.out; omega, rfl, by rw [HST.out]; rfl⟩
          | zero =>
            obtain rfl : i = k := by omega
            have hkk : ¬ ((i : Int) < (i : Int)) := by omega
            replace hc := Lib.Below.cellOf HW1.out hc (Nat.le_refl _)
            obtain ⟨b, hb⟩ : ∃ b, kn hs s i = b := ⟨_, rfl⟩
            rw [hb] at hs8
            have HKN := Aside0.mk hb
            have HMT1 := Aside0.mk (HMT.out.step HW1.out)
            have HB1' := Aside0.mk (below_step HB.out HW1.out)
            subst hs8
            clear hk hb q1 q1n
            cases b with
            | true =>
              go_wp2
              have HLEN : Aside0 ((dd (hs.take (i + 1))).length = (dd (hs.take i)).length) := ⟨by have hk := HKN.out; rw [kn_has] at hk; rw [HTS.out, addH, hk]; simp⟩
              have HDL := Aside0.mk (dd_le hs i)
              have HDL1 := Aside0.mk (dd_le hs (i + 1))
              have HAD0 : Aside0 (addH (dd (hs.take (i + 1))) s = dd (hs.take (i + 1))) := ⟨by rw [HTS.out, addH_twice]⟩
              go_loopg [10] 2 (fun gk s10 wr2 => ∃ (q : Nat) (Mq : List Held), q + gk = 2 ∧ s10 = .int .i64 q ∧ Aside0 (MT w1.heap.size wr2 g EO Mq) ∧ Aside0 (q = 0 ∨ Mq = dd (hs.take (i + 1))) ∧ Aside0 (addH Mq s = dd (hs.take (i + 1))) ∧ Aside0 (Mq.length ≤ 30) ∧ Aside0 (Below w.heap.size w wr2))
              case atStart => exact ⟨0, dd (hs.take i), by omega, rfl, HMT1, ⟨.inl rfl⟩, ⟨HTS.out.symm⟩, ⟨by have := HDL.out; have := HI.out; omega⟩, HB1'⟩
              case round =>
                obtain ⟨q, Mq, hq, rfl, HMQ, HQ, HAD, HL30, HB2⟩ := hrel
                cases gk with
                | zero =>
                  have hqq : ¬ ((q : Int) < 2) := by omega
                  have hM : Mq = dd (hs.take (i + 1)) := by
                    rcases HQ.out with h | h
                    · omega
                    · exact h
                  subst hM
                  clear hc
                  go_wp2
                  go_roundg gko
                  case measure => omega
                  case rel => exact ⟨i + 1, by have := HEQ.out; omega, by first | rfl | (rw [HLEN.out]), by first | rfl | (congr 1; have := HI.out; unfold wrap64; omega), HMQ, HB2⟩
                | succ gk =>
                  have hqq : (q : Int) < 2 := by omega
                  have HML : Aside0 (Mq.length ≤ 1000000) := ⟨by have := HL30.out; omega⟩
                  have HM64 : Aside0 (Mq.length < 64) := ⟨by have := HL30.out; omega⟩
                  have HQE := Aside0.mk hq
                  replace hc := Lib.Below.cellOf HB2.out HCC.out (Nat.le_refl _)
                  clear hq
                  go_wp2_with (first
                      | ((with_reducible refine gate_dst (N := 66) rfl ?_); refine Lb.alloc_event ?hg (v := fun g => .slice (some ⟨g, 0, none⟩) 1 1) (cs := #[.string ⟨#[47]⟩]) (t := 9) (fr := (0, 0)) ?hr ?_; (case hg => rfl); (case hr => first | (go_simp; done) | (go_simp; rfl)); intro g66 hg66 w3 hx hb; have HXT := Aside0.mk hx; have HMT3 := Aside0.mk (HMQ.out.step hb); have HB3 := Aside0.mk (below_step HB2.out hb); clear hx hb hg66)
                      | (go_at_call 10; (with_reducible refine (do_some _ g g66 EO Mq s ⟨#[47]⟩ m 0 eR w3 HMT3.out (Lib.Below.cellOf HB3.out HME.out (Nat.le_refl _)) HXT.out Q.out (by decide) EO_len HML.out (by decide) hixR EO_0).mono ?_); rw [(new_once Mq s HM64.out).1, (new_once Mq s HM64.out).2, HAD.out]; rintro e4 w4 ⟨⟨vN, vT, rfl, hN, hT⟩, hmt, hfr⟩; have HMT4 := Aside0.mk hmt; have HB4 := Aside0.mk (show Below w.heap.size w w4 from HB3.out.trans (hfr.bel.mono HB1.out.size)); obtain ⟨AN, cN, rfl, _⟩ := hN; obtain ⟨AT, cT, rfl, _⟩ := hT; clear hmt hfr)
                      | ((with_reducible refine gate_dst (N := 11) rfl ?_); refine box_event ?hg (N := 11) ?hd (cs := #[.slice none 0 0, .slice none 0 0]) (t := 40) ?hr ?_; (case hd => rfl); (case hg => rfl); (case hr => first | (go_simp; done) | (go_simp; rfl)); intro g11 hg11 w5 hx hb; have HX5 := Aside0.mk hx; have HMT5 := Aside0.mk (HMT4.out.step hb); have HB5 := Aside0.mk (below_step HB4.out hb); have HG5 := Aside0.mk (show w.heap.size ≤ g11 by have := HB4.out.size; omega); clear hx hb hg11)
                      | ((with_reducible refine gate_store (t := 40) (p := 11) rfl ?_); refine Lb.store_whole rfl rfl 40 (.tmp 11) (.tmp 68) rfl (new := #[.slice AN [0, 1, 1].length cN, .slice AT (mntT eR s ⟨#[47]⟩ Mq).length cT]) rfl rfl HX5.out rfl (by kernel_rfl) (by simp [Value.oneCell']) ?_; intro w6 hb hg; have HMT6 := Aside0.mk (HMT5.out.other HX5.out hg (by decide) (by decide) (by decide) (by decide)); have HB6 := Aside0.mk (Lb.grown_below HB5.out hg HB5.out.size HG5.out); have d0 := (blk_cell hb 0).trans rfl; have d1 := (blk_cell hb 1).trans rfl; clear hb hg))
                  go_roundg gk
                  case measure => omega
                  case rel => exact ⟨q + 1, dd (hs.take (i + 1)), by have := HQE.out; omega, by first | rfl | (congr 1; have := HQE.out; unfold wrap64; omega), HMT6, ⟨.inr rfl⟩, HAD0, ⟨by have := HDL1.out; have := HI.out; omega⟩, HB6⟩
            | false =>
              go_wp2
              have HLEN : Aside0 ((dd (hs.take (i + 1))).length = (dd (hs.take i)).length + 1) := ⟨by have hk := HKN.out; rw [kn_has] at hk; rw [HTS.out, addH, hk]; simp⟩
              have HDL := Aside0.mk (dd_le hs i)
              have HDL1 := Aside0.mk (dd_le hs (i + 1))
              have HAD0 : Aside0 (addH (dd (hs.take (i + 1))) s = dd (hs.take (i + 1))) := ⟨by rw [HTS.out, addH_twice]⟩
              go_loopg [10] 2 (fun gk s10 wr2 => ∃ (q : Nat) (Mq : List Held), q + gk = 2 ∧ s10 = .int .i64 q ∧ Aside0 (MT w1.heap.size wr2 g EO Mq) ∧ Aside0 (q = 0 ∨ Mq = dd (hs.take (i + 1))) ∧ Aside0 (addH Mq s = dd (hs.take (i + 1))) ∧ Aside0 (Mq.length ≤ 30) ∧ Aside0 (Below w.heap.size w wr2))
              case atStart => exact ⟨0, dd (hs.take i), by omega, rfl, HMT1, ⟨.inl rfl⟩, ⟨HTS.out.symm⟩, ⟨by have := HDL.out; have := HI.out; omega⟩, HB1'⟩
              case round =>
                obtain ⟨q, Mq, hq, rfl, HMQ, HQ, HAD, HL30, HB2⟩ := hrel
                cases gk with
                | zero =>
                  have hqq : ¬ ((q : Int) < 2) := by omega
                  have hM : Mq = dd (hs.take (i + 1)) := by
                    rcases HQ.out with h | h
                    · omega
                    · exact h
                  subst hM
                  clear hc
                  go_wp2
                  go_roundg gko
                  case measure => omega
                  case rel => exact ⟨i + 1, by have := HEQ.out; omega, by first | rfl | (congr 1; have := HLEN.out; have := HI.out; have := HDL.out; unfold wrap64; omega), by first | rfl | (congr 1; have := HI.out; unfold wrap64; omega), HMQ, HB2⟩
                | succ gk =>
                  have hqq : (q : Int) < 2 := by omega
                  have HML : Aside0 (Mq.length ≤ 1000000) := ⟨by have := HL30.out; omega⟩
                  have HM64 : Aside0 (Mq.length < 64) := ⟨by have := HL30.out; omega⟩
                  have HQE := Aside0.mk hq
                  replace hc := Lib.Below.cellOf HB2.out HCC.out (Nat.le_refl _)
                  clear hq
                  go_wp2_with (first
                      | ((with_reducible refine gate_dst (N := 66) rfl ?_); refine Lb.alloc_event ?hg (v := fun g => .slice (some ⟨g, 0, none⟩) 1 1) (cs := #[.string ⟨#[47]⟩]) (t := 9) (fr := (0, 0)) ?hr ?_; (case hg => rfl); (case hr => first | (go_simp; done) | (go_simp; rfl)); intro g66 hg66 w3 hx hb; have HXT := Aside0.mk hx; have HMT3 := Aside0.mk (HMQ.out.step hb); have HB3 := Aside0.mk (below_step HB2.out hb); clear hx hb hg66)
                      | (go_at_call 10; (with_reducible refine (do_some _ g g66 EO Mq s ⟨#[47]⟩ m 0 eR w3 HMT3.out (Lib.Below.cellOf HB3.out HME.out (Nat.le_refl _)) HXT.out Q.out (by decide) EO_len HML.out (by decide) hixR EO_0).mono ?_); rw [(new_once Mq s HM64.out).1, (new_once Mq s HM64.out).2, HAD.out]; rintro e4 w4 ⟨⟨vN, vT, rfl, hN, hT⟩, hmt, hfr⟩; have HMT4 := Aside0.mk hmt; have HB4 := Aside0.mk (show Below w.heap.size w w4 from HB3.out.trans (hfr.bel.mono HB1.out.size)); obtain ⟨AN, cN, rfl, _⟩ := hN; obtain ⟨AT, cT, rfl, _⟩ := hT; clear hmt hfr)
                      | ((with_reducible refine gate_dst (N := 11) rfl ?_); refine box_event ?hg (N := 11) ?hd (cs := #[.slice none 0 0, .slice none 0 0]) (t := 40) ?hr ?_; (case hd => rfl); (case hg => rfl); (case hr => first | (go_simp; done) | (go_simp; rfl)); intro g11 hg11 w5 hx hb; have HX5 := Aside0.mk hx; have HMT5 := Aside0.mk (HMT4.out.step hb); have HB5 := Aside0.mk (below_step HB4.out hb); have HG5 := Aside0.mk (show w.heap.size ≤ g11 by have := HB4.out.size; omega); clear hx hb hg11)
                      | ((with_reducible refine gate_store (t := 40) (p := 11) rfl ?_); refine Lb.store_whole rfl rfl 40 (.tmp 11) (.tmp 68) rfl (new := #[.slice AN [0, 1, 1].length cN, .slice AT (mntT eR s ⟨#[47]⟩ Mq).length cT]) rfl rfl HX5.out rfl (by kernel_rfl) (by simp [Value.oneCell']) ?_; intro w6 hb hg; have HMT6 := Aside0.mk (HMT5.out.other HX5.out hg (by decide) (by decide) (by decide) (by decide)); have HB6 := Aside0.mk (Lb.grown_below HB5.out hg HB5.out.size HG5.out); have d0 := (blk_cell hb 0).trans rfl; have d1 := (blk_cell hb 1).trans rfl; clear hb hg))
                  go_roundg gk
                  case measure => omega
                  case rel => exact ⟨q + 1, dd (hs.take (i + 1)), by have := HQE.out; omega, by first | rfl | (congr 1; have := HQE.out; unfold wrap64; omega), HMT6, ⟨.inr rfl⟩, HAD0, ⟨by have := HDL1.out; have := HI.out; omega⟩, HB6⟩
      · have q1 : decide ((255 : Int) < (s.size : Int)) = true := decide_eq_true (by omega)
        have q1n : decide (255 < s.size) = true := decide_eq_true (by omega)
        clear h255
        go_wp2
        go_ret
        exact ⟨rfl, HB.out⟩

set_option maxRecDepth 100000 in
set_option maxHeartbeats 8000000 in
theorem once_many (A : Option Addr) (c : Nat) (hs : List ByteArray) (other : ByteArray) (m : Int) (w : World) (hm : w.cell? ⟨0, 0, none⟩ = some (.int .i64 m)) (hA : Xw.RowAt w A (hs.map Value.string)) (hl : 30 < hs.length) :
    Calls Tryz.prog 4 #[.slice A hs.length c, .string other] w fun e w' => e = .returned (.bool true) ∧ Below w.heap.size w w' := by
  have HME := Aside0.mk hm
  have HA := Aside0.mk hA
  have HL := Aside0.mk hl
  clear hm hA
  go_enter Tryz.func4, Tryz.ntmps4
  go_wp2_with (first
    | (go_at_call 7; (with_reducible refine (speaks_calls m w HME.out).mono ?_); rintro e0 w0 ⟨rfl, hb⟩; have HB0 := Aside0.mk hb; clear hb)
    | ((with_reducible refine gate_dst (N := 18) rfl ?_); refine Lb.alloc_event ?hg (v := fun g => .slice (some ⟨g, 0, none⟩) 2 2) (cs := #[.string ⟨#[47]⟩, .string ⟨#[104]⟩, .slice none 0 0, .string ⟨#[47, 97]⟩, .string ⟨#[97]⟩, .slice none 0 0]) (t := 30) (fr := (0, 0)) ?hr ?_; (case hg => rfl); (case hr => first | (go_simp; done) | (go_simp; rfl)); intro g4 hg4 w1 hx hb; have HX4 := Aside0.mk hx; have HB1 := Aside0.mk (below_step HB0.out hb); clear hx hb hg4)
    | (go_at_call 8; (with_reducible refine (new_calls 0 _ EO w1 (exps_O HX4.out) goodO).mono ?_); rintro e2 w2 ⟨⟨g, rfl, hmt⟩, hb⟩; have HMT := Aside0.mk hmt; have HB2 := Aside0.mk (below_step HB1.out hb); clear hmt hb))
  go_loopg [6, 7] 30 (fun gk s6 s7 wr => ∃ i : Nat, i + gk = 30 ∧ s6 = .int .i64 ((dd (hs.take i)).length : Nat) ∧ s7 = .int .i64 i ∧ Aside0 (MT w1.heap.size wr g EO (dd (hs.take i))) ∧ Aside0 (Below w.heap.size w wr))
  case atStart => exact ⟨0, by omega, rfl, rfl, HMT, HB2⟩
  case round =>
    clear HMT HB2
    obtain ⟨i, hi, rfl, rfl, HMT, HB⟩ := hrel
    cases gk with
    | zero =>
      obtain rfl : 30 = i := by omega
      obtain ⟨D, hD⟩ : ∃ D, dd (hs.take 30) = D := ⟨_, rfl⟩
      have HDP : Aside0 (∀ x ∈ D, x.f1 = ⟨#[47]⟩) := ⟨by rw [← hD]; exact dd_path _⟩
      have HDN : Aside0 D.Nodup := ⟨by rw [← hD]; exact fold_nodup _ _ List.nodup_nil⟩
      have HDL : Aside0 (D.length ≤ 30) := ⟨by rw [← hD]; have := dd_le hs 30; omega⟩
      have HDH : Aside0 (∀ h, hasM D h ⟨#[47]⟩ = true ↔ h ∈ hs.take 30) := ⟨fun h => by rw [← hD]; exact dd_has _ h⟩
      have HDD := Aside0.mk hD
      rw [hD] at HMT
      rw [hD]
      clear hD hi
      have hii : (30 : Int) < (hs.length : Int) := by omega
      by_cases ho : other.size ≤ 255
      · have q1 : decide ((255 : Int) < (other.size : Int)) = false := decide_eq_false (by omega)
        have q1n : decide (255 < other.size) = false := decide_eq_false (by omega)
        have HO := Aside0.mk ho
        clear ho
        go_wp2_with (first
          | (go_at_call 13; (with_reducible refine (mounts_calls _ g EO _ wr HMT.out (by have := HDL.out; omega)).mono ?_); rintro e8 w8 ⟨rfl, rfl⟩)
          | ((with_reducible refine gate_dst (N := 87) rfl ?_); refine Lb.alloc_event ?hg (v := fun g => .slice (some ⟨g, 0, none⟩) 1 1) (cs := #[.string ⟨#[47, 97]⟩]) (t := 9) (fr := (0, 0)) ?hr ?_; (case hg => rfl); (case hr => first | (go_simp; done) | (go_simp; rfl)); intro g87 hg87 w3 hx hb; have HX3 := Aside0.mk hx; have HMT3 := Aside0.mk (HMT.out.step hb); have HB3 := Aside0.mk (below_step HB.out hb); clear hx hb hg87)
          | (go_at_call 10; (with_reducible refine (do_some _ g g87 EO D other ⟨#[47, 97]⟩ m 1 eO w3 HMT3.out (Lib.Below.cellOf HB3.out HME.out (Nat.le_refl _)) HX3.out HO.out (by decide) EO_len (Nat.le_trans HDL.out (by decide)) (by decide) hixO EO_1).mono ?_); rw [other_in D other HDP.out (by have := HDL.out; omega)]; rintro e4 w4 ⟨⟨vN, vT, rfl, hN, hT⟩, hmt, hfr⟩; have HMT4 := Aside0.mk hmt; have HB4 := Aside0.mk (show Below w.heap.size w w4 from HB3.out.trans (hfr.bel.mono HB1.out.size)); clear hmt hfr hN hT)
          | ((with_reducible refine gate_dst (N := 92) rfl ?_); refine Lb.alloc_event ?hg (v := fun g => .slice (some ⟨g, 0, none⟩) 1 1) (cs := #[.string ⟨#[47, 97]⟩]) (t := 9) (fr := (0, 0)) ?hr ?_; (case hg => rfl); (case hr => first | (go_simp; done) | (go_simp; rfl)); intro g92 hg92 w5 hx hb; have HX5 := Aside0.mk hx; have HMT5 := Aside0.mk (HMT4.out.step hb); have HB5 := Aside0.mk (below_step HB4.out hb); clear hx hb hg92)
          | (go_at_call 10; (with_reducible refine (do3_calls _ g g92 EO _ other ⟨#[47, 97]⟩ m w5 HMT5.out (Lib.Below.cellOf HB5.out HME.out (Nat.le_refl _)) HX5.out HO.out (by decide) (by have := HDL.out; simp; omega)).mono ?_); rw [filter_back D other HDP.out]; rintro e6 w6 ⟨⟨vN6, vT6, rfl, hN, hT⟩, hmt, hfr⟩; have HMT6 := Aside0.mk hmt; have HB6 := Aside0.mk (show Below w.heap.size w w6 from HB5.out.trans (hfr.bel.mono HB1.out.size)); clear hmt hfr hN hT)
          | (go_at_call 13; (with_reducible refine (mounts_calls _ g EO _ w6 HMT6.out (by have := HDL.out; omega)).mono ?_); rintro e8 w8 ⟨rfl, rfl⟩))
        go_loopg [12, 13] 30 (fun gk s12 s13 wr3 => w8 = wr3 ∧ ∃ k : Nat, k + gk = 30 ∧ s13 = .int .i64 k ∧ s12 = .int .i64 (had (kn hs other k)))
        case atStart => exact ⟨rfl, 0, by omega, rfl, rfl⟩
        case round =>
          obtain ⟨rfl, k, hk, rfl, hs12⟩ := hrel
          cases gk with
          | succ gk =>
            have hkl : k < hs.length := by omega
            have hkI : (k : Int) < (hs.length : Int) := by omega
            have hk30 : (k : Int) < 30 := by omega
            obtain ⟨x, hx1⟩ : ∃ x, hs[k]? = some x := ⟨_, List.getElem?_eq_getElem hkl⟩
            obtain ⟨ad, rfl, hcx⟩ := rowO_cell HA.out k x hx1
            have hc2 := Lib.Below.cellOf HB6.out hcx (Nat.le_refl _)
            have hst := kn_step hs other k x hx1
            have HK := Aside0.mk hk
            obtain ⟨b, hb⟩ : ∃ b, (x.toList == other.toList) = b := ⟨_, rfl⟩
            rw [hb] at hst
            have HST := Aside0.mk hst
            clear hk hkl hx1 hcx hst
            subst hs12
            cases b with
            | true =>
              go_wp2
              go_roundg gk
              case measure => omega
              case rel => exact ⟨rfl, k + 1, by have := HK.out; omega, rfl, by rw [HST.out]; simp [had]⟩
            | false =>
              go_wp2
              go_roundg gk
              case measure => omega
              case rel => exact ⟨rfl, k + 1, by have := HK.out; omega, rfl, by rw [HST.out]; simp⟩
          | zero =>
            obtain rfl : 30 = k := by omega
            have hgl := gone_len D other HDN.out HDP.out
            have hkb : kn hs other 30 = hasM D other ⟨#[47]⟩ := by
              rw [kn_has, HDD.out]
            rw [hkb] at hs12
            obtain ⟨b, hb⟩ : ∃ b, hasM D other ⟨#[47]⟩ = b := ⟨_, rfl⟩
            rw [hb] at hs12 hgl
            subst hs12
            have HGL : Aside0 (((D.filter fun x => !(x.f0.toList == other.toList)).length : Int) = wrap64 ((D.length : Int) - had b)) := ⟨by
              have := HDL.out
              cases b with
              | true => rw [if_pos rfl] at hgl; show _ = wrap64 ((D.length : Int) - 1); unfold wrap64; omega
              | false => rw [if_neg (by decide)] at hgl; show _ = wrap64 ((D.length : Int) - 0); unfold wrap64; omega⟩
            obtain ⟨MF, hMF⟩ : ∃ MF, (D.filter fun x => !(x.f0.toList == other.toList)) = MF := ⟨_, rfl⟩
            have HMFL : Aside0 (MF.length ≤ 30) := ⟨by rw [← hMF]; have := List.length_filter_le (fun x : Held => !(x.f0.toList == other.toList)) D; have := HDL.out; omega⟩
            rw [hMF] at HGL
            have HMF := Aside0.mk hMF
            have hsub : wrap64 ((D.length : Int) - had b) = (MF.length : Int) := HGL.out.symm
            clear hk hgl hkb hb hMF
            go_wp2_with (first
              | (go_at_call 10; (with_reducible refine (do4_calls _ g EO D other m w8 HMT6.out (Lib.Below.cellOf HB6.out HME.out (Nat.le_refl _)) HO.out (Nat.le_trans HDL.out (by decide))).mono ?_); rw [HMF.out]; rintro e9 w9 ⟨⟨vN, vT, rfl, hN, hT⟩, hmt, hfr⟩; have HMT9 := Aside0.mk hmt; have HB9 := Aside0.mk (show Below w.heap.size w w9 from HB6.out.trans (hfr.bel.mono HB1.out.size)); clear hmt hfr hN hT)
              | (go_at_call 13; (with_reducible refine (mounts_calls _ g EO _ w9 HMT9.out (by have := HMFL.out; omega)).mono ?_); rintro e10 w10 ⟨rfl, rfl⟩))
            go_ret
            exact ⟨rfl, HB9.out⟩
      · have q1 : decide ((255 : Int) < (other.size : Int)) = true := decide_eq_true (by omega)
        have q1n : decide (255 < other.size) = true := decide_eq_true (by omega)
        clear ho
        go_wp2_with (first
          | (go_at_call 13; (with_reducible refine (mounts_calls _ g EO _ wr HMT.out (by have := HDL.out; omega)).mono ?_); rintro e8 w8 ⟨rfl, rfl⟩))
        go_ret
        exact ⟨rfl, HB.out⟩
    | succ gk =>
      have hlt : i < hs.length := by omega
      have hii : (i : Int) < (hs.length : Int) := by omega
      have h30 : (i : Int) < 30 := by omega
      obtain ⟨s, hs1⟩ : ∃ s, hs[i]? = some s := ⟨_, List.getElem?_eq_getElem hlt⟩
      obtain ⟨ad, rfl, hcc⟩ := rowO_cell HA.out i s hs1
      have hc := Lib.Below.cellOf HB.out hcc (Nat.le_refl _)
      have HEQ := Aside0.mk hi
      have HS1 := Aside0.mk hs1
      have HCC := Aside0.mk hcc
      have HI := Aside0.mk (show i < 30 ∧ i < hs.length by omega)
      have HTS := Aside0.mk (take_snoc hs1)
      clear hi hcc hs1 hlt
      by_cases h255 : s.size ≤ 255
      · have q1 : decide ((255 : Int) < (s.size : Int)) = false := decide_eq_false (by omega)
        have q1n : decide (255 < s.size) = false := decide_eq_false (by omega)
        have Q := Aside0.mk h255
        clear h255
        obtain ⟨gko, hgko⟩ : ∃ q, q = gk := ⟨_, rfl⟩
        go_wp2
        go_loopg [8, 9] i (fun gk s8 s9 wr1 => Aside0 (Below wr.heap.size wr wr1) ∧ ∃ k : Nat, k + gk = i ∧ s9 = .int .i64 k ∧ s8 = .bool (kn hs s k))
        case atStart => exact ⟨⟨Below.refl _ _⟩, 0, by omega, rfl, rfl⟩
        case round =>
          obtain ⟨HW1, k, hk, rfl, hs8⟩ := hrel
          cases gk with
          | succ gk =>
            have hkk : (k : Int) < (i : Int) := by omega
            have hkl : k < hs.length := by have := HI.out.2; omega
            have hkI : (k : Int) < (hs.length : Int) := by omega
            obtain ⟨x, hx1⟩ : ∃ x, hs[k]? = some x := ⟨_, List.getElem?_eq_getElem hkl⟩
            obtain ⟨ad', e1, hcx⟩ := rowO_cell HA.out k x hx1
            injection e1 with e1
            subst e1
            replace hc := Lib.Below.cellOf HW1.out hc (Nat.le_refl _)
            have hc2 := Lib.Below.cellOf HW1.out (Lib.Below.cellOf HB.out hcx (Nat.le_refl _)) (Nat.le_refl _)
            have hst := kn_step hs s k x hx1
            obtain ⟨b, hb⟩ : ∃ b, kn hs s k = b := ⟨_, rfl⟩
            rw [hb] at hs8 hst
            have HST := Aside0.mk hst
            have HK := Aside0.mk hk
            clear hk hkl hx1 hcx hst hb
            subst hs8
            cases b with
            | true =>
              go_wp2
              go_quiet (fail)
              clear hc hc2
              go_wp2
              go_roundg gk
              case measure => omega
              case rel => exact ⟨⟨below_drewN HW1.out _⟩, k + 1, by have := HK.out; omega, rfl, by rw [HST.out]; rfl⟩
            | false =>
              go_wp2
              go_quiet (fail)
              clear hc hc2
              go_wp2
              go_roundg gk
              case measure => omega
              case rel => exact ⟨⟨below_drewN HW1.out _⟩, k + 1, by have := HK.out; omega, rfl, by rw [HST.out]; rfl⟩
          | zero =>
            obtain rfl : i = k := by omega
            have hkk : ¬ ((i : Int) < (i : Int)) := by omega
            replace hc := Lib.Below.cellOf HW1.out hc (Nat.le_refl _)
            obtain ⟨b, hb⟩ : ∃ b, kn hs s i = b := ⟨_, rfl⟩
            rw [hb] at hs8
            have HKN := Aside0.mk hb
            have HMT1 := Aside0.mk (HMT.out.step HW1.out)
            have HB1' := Aside0.mk (below_step HB.out HW1.out)
            subst hs8
            clear hk hb q1 q1n
            cases b with
            | true =>
              go_wp2
              have HLEN : Aside0 ((dd (hs.take (i + 1))).length = (dd (hs.take i)).length) := ⟨by have hk := HKN.out; rw [kn_has] at hk; rw [HTS.out, addH, hk]; simp⟩
              have HDL := Aside0.mk (dd_le hs i)
              have HDL1 := Aside0.mk (dd_le hs (i + 1))
              have HAD0 : Aside0 (addH (dd (hs.take (i + 1))) s = dd (hs.take (i + 1))) := ⟨by rw [HTS.out, addH_twice]⟩
              go_loopg [10] 2 (fun gk s10 wr2 => ∃ (q : Nat) (Mq : List Held), q + gk = 2 ∧ s10 = .int .i64 q ∧ Aside0 (MT w1.heap.size wr2 g EO Mq) ∧ Aside0 (q = 0 ∨ Mq = dd (hs.take (i + 1))) ∧ Aside0 (addH Mq s = dd (hs.take (i + 1))) ∧ Aside0 (Mq.length ≤ 30) ∧ Aside0 (Below w.heap.size w wr2))
              case atStart => exact ⟨0, dd (hs.take i), by omega, rfl, HMT1, ⟨.inl rfl⟩, ⟨HTS.out.symm⟩, ⟨by have := HDL.out; have := HI.out; omega⟩, HB1'⟩
              case round =>
                obtain ⟨q, Mq, hq, rfl, HMQ, HQ, HAD, HL30, HB2⟩ := hrel
                cases gk with
                | zero =>
                  have hqq : ¬ ((q : Int) < 2) := by omega
                  have hM : Mq = dd (hs.take (i + 1)) := by
                    rcases HQ.out with h | h
                    · omega
                    · exact h
                  subst hM
                  clear hc
                  go_wp2
                  go_roundg gko
                  case measure => omega
                  case rel => exact ⟨i + 1, by have := HEQ.out; omega, by first | rfl | (rw [HLEN.out]), by first | rfl | (congr 1; have := HI.out; unfold wrap64; omega), HMQ, HB2⟩
                | succ gk =>
                  have hqq : (q : Int) < 2 := by omega
                  have HML : Aside0 (Mq.length ≤ 1000000) := ⟨by have := HL30.out; omega⟩
                  have HM64 : Aside0 (Mq.length < 64) := ⟨by have := HL30.out; omega⟩
                  have HQE := Aside0.mk hq
                  replace hc := Lib.Below.cellOf HB2.out HCC.out (Nat.le_refl _)
                  clear hq
                  go_wp2_with (first
                      | ((with_reducible refine gate_dst (N := 66) rfl ?_); refine Lb.alloc_event ?hg (v := fun g => .slice (some ⟨g, 0, none⟩) 1 1) (cs := #[.string ⟨#[47]⟩]) (t := 9) (fr := (0, 0)) ?hr ?_; (case hg => rfl); (case hr => first | (go_simp; done) | (go_simp; rfl)); intro g66 hg66 w3 hx hb; have HXT := Aside0.mk hx; have HMT3 := Aside0.mk (HMQ.out.step hb); have HB3 := Aside0.mk (below_step HB2.out hb); clear hx hb hg66)
                      | (go_at_call 10; (with_reducible refine (do_some _ g g66 EO Mq s ⟨#[47]⟩ m 0 eR w3 HMT3.out (Lib.Below.cellOf HB3.out HME.out (Nat.le_refl _)) HXT.out Q.out (by decide) EO_len HML.out (by decide) hixR EO_0).mono ?_); rw [(new_once Mq s HM64.out).1, (new_once Mq s HM64.out).2, HAD.out]; rintro e4 w4 ⟨⟨vN, vT, rfl, hN, hT⟩, hmt, hfr⟩; have HMT4 := Aside0.mk hmt; have HB4 := Aside0.mk (show Below w.heap.size w w4 from HB3.out.trans (hfr.bel.mono HB1.out.size)); obtain ⟨AN, cN, rfl, _⟩ := hN; obtain ⟨AT, cT, rfl, _⟩ := hT; clear hmt hfr)
                      | ((with_reducible refine gate_dst (N := 11) rfl ?_); refine box_event ?hg (N := 11) ?hd (cs := #[.slice none 0 0, .slice none 0 0]) (t := 40) ?hr ?_; (case hd => rfl); (case hg => rfl); (case hr => first | (go_simp; done) | (go_simp; rfl)); intro g11 hg11 w5 hx hb; have HX5 := Aside0.mk hx; have HMT5 := Aside0.mk (HMT4.out.step hb); have HB5 := Aside0.mk (below_step HB4.out hb); have HG5 := Aside0.mk (show w.heap.size ≤ g11 by have := HB4.out.size; omega); clear hx hb hg11)
                      | ((with_reducible refine gate_store (t := 40) (p := 11) rfl ?_); refine Lb.store_whole rfl rfl 40 (.tmp 11) (.tmp 68) rfl (new := #[.slice AN [0, 1, 1].length cN, .slice AT (mntT eR s ⟨#[47]⟩ Mq).length cT]) rfl rfl HX5.out rfl (by kernel_rfl) (by simp [Value.oneCell']) ?_; intro w6 hb hg; have HMT6 := Aside0.mk (HMT5.out.other HX5.out hg (by decide) (by decide) (by decide) (by decide)); have HB6 := Aside0.mk (Lb.grown_below HB5.out hg HB5.out.size HG5.out); have d0 := (blk_cell hb 0).trans rfl; have d1 := (blk_cell hb 1).trans rfl; clear hb hg))
                  go_roundg gk
                  case measure => omega
                  case rel => exact ⟨q + 1, dd (hs.take (i + 1)), by have := HQE.out; omega, by first | rfl | (congr 1; have := HQE.out; unfold wrap64; omega), HMT6, ⟨.inr rfl⟩, HAD0, ⟨by have := HDL1.out; have := HI.out; omega⟩, HB6⟩
            | false =>
              go_wp2
              have HLEN : Aside0 ((dd (hs.take (i + 1))).length = (dd (hs.take i)).length + 1) := ⟨by have hk := HKN.out; rw [kn_has] at hk; rw [HTS.out, addH, hk]; simp⟩
              have HDL := Aside0.mk (dd_le hs i)
              have HDL1 := Aside0.mk (dd_le hs (i + 1))
              have HAD0 : Aside0 (addH (dd (hs.take (i + 1))) s = dd (hs.take (i + 1))) := ⟨by rw [HTS.out, addH_twice]⟩
              go_loopg [10] 2 (fun gk s10 wr2 => ∃ (q : Nat) (Mq : List Held), q + gk = 2 ∧ s10 = .int .i64 q ∧ Aside0 (MT w1.heap.size wr2 g EO Mq) ∧ Aside0 (q = 0 ∨ Mq = dd (hs.take (i + 1))) ∧ Aside0 (addH Mq s = dd (hs.take (i + 1))) ∧ Aside0 (Mq.length ≤ 30) ∧ Aside0 (Below w.heap.size w wr2))
              case atStart => exact ⟨0, dd (hs.take i), by omega, rfl, HMT1, ⟨.inl rfl⟩, ⟨HTS.out.symm⟩, ⟨by have := HDL.out; have := HI.out; omega⟩, HB1'⟩
              case round =>
                obtain ⟨q, Mq, hq, rfl, HMQ, HQ, HAD, HL30, HB2⟩ := hrel
                cases gk with
                | zero =>
                  have hqq : ¬ ((q : Int) < 2) := by omega
                  have hM : Mq = dd (hs.take (i + 1)) := by
                    rcases HQ.out with h | h
                    · omega
                    · exact h
                  subst hM
                  clear hc
                  go_wp2
                  go_roundg gko
                  case measure => omega
                  case rel => exact ⟨i + 1, by have := HEQ.out; omega, by first | rfl | (congr 1; have := HLEN.out; have := HI.out; have := HDL.out; unfold wrap64; omega), by first | rfl | (congr 1; have := HI.out; unfold wrap64; omega), HMQ, HB2⟩
                | succ gk =>
                  have hqq : (q : Int) < 2 := by omega
                  have HML : Aside0 (Mq.length ≤ 1000000) := ⟨by have := HL30.out; omega⟩
                  have HM64 : Aside0 (Mq.length < 64) := ⟨by have := HL30.out; omega⟩
                  have HQE := Aside0.mk hq
                  replace hc := Lib.Below.cellOf HB2.out HCC.out (Nat.le_refl _)
                  clear hq
                  go_wp2_with (first
                      | ((with_reducible refine gate_dst (N := 66) rfl ?_); refine Lb.alloc_event ?hg (v := fun g => .slice (some ⟨g, 0, none⟩) 1 1) (cs := #[.string ⟨#[47]⟩]) (t := 9) (fr := (0, 0)) ?hr ?_; (case hg => rfl); (case hr => first | (go_simp; done) | (go_simp; rfl)); intro g66 hg66 w3 hx hb; have HXT := Aside0.mk hx; have HMT3 := Aside0.mk (HMQ.out.step hb); have HB3 := Aside0.mk (below_step HB2.out hb); clear hx hb hg66)
                      | (go_at_call 10; (with_reducible refine (do_some _ g g66 EO Mq s ⟨#[47]⟩ m 0 eR w3 HMT3.out (Lib.Below.cellOf HB3.out HME.out (Nat.le_refl _)) HXT.out Q.out (by decide) EO_len HML.out (by decide) hixR EO_0).mono ?_); rw [(new_once Mq s HM64.out).1, (new_once Mq s HM64.out).2, HAD.out]; rintro e4 w4 ⟨⟨vN, vT, rfl, hN, hT⟩, hmt, hfr⟩; have HMT4 := Aside0.mk hmt; have HB4 := Aside0.mk (show Below w.heap.size w w4 from HB3.out.trans (hfr.bel.mono HB1.out.size)); obtain ⟨AN, cN, rfl, _⟩ := hN; obtain ⟨AT, cT, rfl, _⟩ := hT; clear hmt hfr)
                      | ((with_reducible refine gate_dst (N := 11) rfl ?_); refine box_event ?hg (N := 11) ?hd (cs := #[.slice none 0 0, .slice none 0 0]) (t := 40) ?hr ?_; (case hd => rfl); (case hg => rfl); (case hr => first | (go_simp; done) | (go_simp; rfl)); intro g11 hg11 w5 hx hb; have HX5 := Aside0.mk hx; have HMT5 := Aside0.mk (HMT4.out.step hb); have HB5 := Aside0.mk (below_step HB4.out hb); have HG5 := Aside0.mk (show w.heap.size ≤ g11 by have := HB4.out.size; omega); clear hx hb hg11)
                      | ((with_reducible refine gate_store (t := 40) (p := 11) rfl ?_); refine Lb.store_whole rfl rfl 40 (.tmp 11) (.tmp 68) rfl (new := #[.slice AN [0, 1, 1].length cN, .slice AT (mntT eR s ⟨#[47]⟩ Mq).length cT]) rfl rfl HX5.out rfl (by kernel_rfl) (by simp [Value.oneCell']) ?_; intro w6 hb hg; have HMT6 := Aside0.mk (HMT5.out.other HX5.out hg (by decide) (by decide) (by decide) (by decide)); have HB6 := Aside0.mk (Lb.grown_below HB5.out hg HB5.out.size HG5.out); have d0 := (blk_cell hb 0).trans rfl; have d1 := (blk_cell hb 1).trans rfl; clear hb hg))
                  go_roundg gk
                  case measure => omega
                  case rel => exact ⟨q + 1, dd (hs.take (i + 1)), by have := HQE.out; omega, by first | rfl | (congr 1; have := HQE.out; unfold wrap64; omega), HMT6, ⟨.inr rfl⟩, HAD0, ⟨by have := HDL1.out; have := HI.out; omega⟩, HB6⟩
      · have q1 : decide ((255 : Int) < (s.size : Int)) = true := decide_eq_true (by omega)
        have q1n : decide (255 < s.size) = true := decide_eq_true (by omega)
        clear h255
        go_wp2
        go_ret
        exact ⟨rfl, HB.out⟩

theorem once_calls (A : Option Addr) (c : Nat) (hs : List ByteArray) (other : ByteArray) (m : Int) (w : World) (hm : w.cell? ⟨0, 0, none⟩ = some (.int .i64 m)) (hA : Xw.RowAt w A (hs.map Value.string)) :
    Calls Tryz.prog 4 #[.slice A hs.length c, .string other] w fun e w' => e = .returned (.bool true) ∧ Below w.heap.size w w' := by
  by_cases hl : hs.length ≤ 30
  · exact once_few A c hs other m w hm hA hl
  · exact once_many A c hs other m w hm hA (by omega)
end Go.Proofs.YthamffpieafkbaaGreatDoor.Mt
