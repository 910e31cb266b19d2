/- mount: MountAll. -/
import Derived.Test.YthamffpieafkbaaGreatDoorMg
namespace Go.Proofs.YthamffpieafkbaaGreatDoor.Mt
open Go.RowKit Go.Lib Go.Proofs.YthamffpieafkbaaGreatDoor.PM Go.Proofs.YthamffpieafkbaaGreatDoorW.PrintWords Go.Proofs.YthamffpieafkbaaGreatDoorW.PrintLast Go.Proofs.YthamffpieafkbaaGreatDoorW.PrintMore
set_option linter.unusedVariables false
set_option linter.unusedSimpArgs false

def eA : Exp := ⟨⟨#[47, 97]⟩, ⟨#[97]⟩, []⟩
def eB (hs : List ByteArray) : Exp := ⟨⟨#[47, 98]⟩, ⟨#[98]⟩, hs⟩
def E2 (hs : List ByteArray) : List Exp := [eA, eB hs]
theorem E2_len (hs : List ByteArray) : (E2 hs).length ≤ 1000000 := by unfold E2; simp
theorem E2_0 (hs : List ByteArray) : (E2 hs)[0]? = some eA := rfl
theorem E2_1 (hs : List ByteArray) : (E2 hs)[1]? = some (eB hs) := rfl
theorem hixA (hs : List ByteArray) : idx (pathIs ⟨#[47, 97]⟩) (E2 hs) 0 = ((0 : Nat) : Int) := by kernel_rfl
theorem hixB (hs : List ByteArray) : idx (pathIs ⟨#[47, 98]⟩) (E2 hs) 0 = ((1 : Nat) : Int) := by kernel_rfl
theorem good2 (hs : List ByteArray) (h : hs.any longS = false) (hl : hs.length ≤ 100) : GoodE (E2 hs) := ⟨fun i e he => by
  match i, he with
  | 0, he => simp [E2] at he; subst he; exact ⟨by decide, by decide, rfl, rfl, by decide⟩
  | 1, he => simp [E2] at he; subst he; exact ⟨show 2 ≤ 1024 by omega, show 1 ≤ 64 by omega, h, by show idx _ [eA] 0 = -1; kernel_rfl, by show hs.length ≤ _; omega⟩
  | n + 2, he => simp [E2] at he, by show 2 ≤ _; omega⟩
theorem exps_two {w : World} {k : Nat} {v : Value} (hs : List ByteArray) (hb : w.heap[k]? = some (.cells #[.string ⟨#[47, 97]⟩, .string ⟨#[97]⟩, .slice none 0 0, .string ⟨#[47, 98]⟩, .string ⟨#[98]⟩, v] 30 (0, 0))) (hv : StrsAt w v hs) : ExpsAt w 0 (.slice (some ⟨k, 0, none⟩) 2 2) (E2 hs) := by
  refine ⟨[.slice none 0 0, v], rfl, ⟨rfl, .inr ⟨k, 2, _, rfl, Nat.zero_le _, hb, Nat.le_refl _, by decide, rfl, rfl⟩⟩, ?_⟩
  intro i e u he hu
  match i, he, hu with
  | 0, he, hu => simp [E2] at he hu; subst he hu; exact strs_nil w
  | 1, he, hu => simp [E2] at he hu; subst he hu; exact hv
  | n + 2, he, hu => simp [E2] at he
theorem mA (host : ByteArray) : mntM eA host ⟨#[47, 97]⟩ [] = [⟨host, ⟨#[47, 97]⟩⟩] := rfl
theorem nA (host : ByteArray) : mntN eA host ⟨#[47, 97]⟩ [] = [0, 1, 1] := rfl
theorem hasAB (host : ByteArray) : hasM [⟨host, ⟨#[47, 97]⟩⟩] host ⟨#[47, 98]⟩ = false := by
  unfold hasM
  show (host.toList == host.toList && _ || false) = false
  rw [show ((⟨#[47, 98]⟩ : ByteArray).toList == (⟨#[47, 97]⟩ : ByteArray).toList) = false by kernel_rfl]
  simp
theorem nB (host : ByteArray) (hs : List ByteArray) : mntN (eB hs) host ⟨#[47, 98]⟩ [⟨host, ⟨#[47, 97]⟩⟩] = if mayHost (eB hs) host = true then [0, 1, 1] else [13] := by
  unfold mntN
  by_cases h : mayHost (eB hs) host = true
  · rw [if_pos ⟨h, .inr (show 1 < 64 by omega)⟩, if_pos h]
  · rw [if_neg (fun k => h k.1), if_neg h]
/-- may it, after so many hosts asked -/
def acc (hs : List ByteArray) (host : ByteArray) (i : Nat) : Bool := hs.isEmpty || (hs.take i).any fun x => x.toList == host.toList
theorem acc_step (hs : List ByteArray) (host : ByteArray) (i : Nat) (s : ByteArray) (h : hs[i]? = some s) : acc hs host (i + 1) = (acc hs host i || (s.toList == host.toList)) := by
  obtain ⟨hlt, rfl⟩ := List.getElem?_eq_some_iff.1 h
  unfold acc
  rw [List.take_succ_eq_append_getElem hlt, List.any_append]
  simp [Bool.or_assoc]
theorem acc_all (hs : List ByteArray) (host : ByteArray) : acc hs host hs.length = mayHost (eB hs) host := by
  unfold acc mayHost hasS
  rw [List.take_length]
  show _ = (hs.isEmpty || hs.any fun x => host.toList == x.toList)
  congr 2
  funext x
  exact BEq.comm
theorem any_long {hs : List ByteArray} (h : ∀ (j : Nat) s, j < hs.length → hs[j]? = some s → s.size ≤ 255) : hs.any longS = false := by
  rw [List.any_eq_false]
  intro s hm
  obtain ⟨j, hj⟩ := List.getElem?_of_mem hm
  have := h j s (List.getElem?_eq_some_iff.1 hj).1 hj
  unfold longS
  simp; omega
theorem strs_empty (w : World) (A : Option Addr) (c : Nat) (hs : List ByteArray) (h : hs = []) : StrsAt w (.slice A 0 c) hs := by
  subst h
  exact ⟨A, c, rfl, Nat.zero_le _, fun h => absurd rfl h⟩
theorem row_none (w : World) : Xw.RowAt w none (([] : List ByteArray).map Value.string) := by
  intro i v hi
  simp at hi
theorem row_take (ss : List ByteArray) (len : Nat) (a : Addr) (w : World) (hl : len ≤ ss.length) (hc : ∀ i, i < ss.length → w.cell? (a.add i) = some (.string (ss.getD i ByteArray.empty))) : Xw.RowAt w (some a) ((ss.take len).map Value.string) := by
  intro i v hi
  rw [List.getElem?_map] at hi
  obtain ⟨s, hs1, rfl⟩ := Option.map_eq_some_iff.1 hi
  have hlt := (List.getElem?_eq_some_iff.1 hs1).1
  rw [List.length_take] at hlt
  rw [List.getElem?_take, if_pos (by omega)] at hs1
  refine ⟨a, rfl, (hc i (by omega)).trans ?_⟩
  rw [List.getD_eq_getElem?_getD, hs1]
  rfl
theorem row_cell {w : World} {A : Option Addr} {hs : List ByteArray} (h : Xw.RowAt w A (hs.map Value.string)) (i : Nat) (s : ByteArray) (hi : hs[i]? = some s) : ∃ ad, A = some ad ∧ w.cell? (ad.add i) = some (.string s) := h i _ (by rw [List.getElem?_map, hi]; rfl)

set_option maxRecDepth 100000 in
theorem all_host (A : Option Addr) (c : Nat) (hs : List ByteArray) (host : ByteArray) (m : Int) (w : World) (hm : w.cell? ⟨0, 0, none⟩ = some (.int .i64 m)) (hh : 255 < host.size) :
    Calls Tryz.prog 5 #[.slice A hs.length c, .string host] w fun e w' => e = .returned (.bool true) ∧ Below w.heap.size w w' := by
  have HME := Aside0.mk hm
  clear hm
  have y1 : decide ((255 : Int) < (host.size : Int)) = true := decide_eq_true (by omega)
  have y1n : decide (255 < host.size) = true := decide_eq_true (by omega)
  go_enter Tryz.func5, Tryz.ntmps5
  go_wp2_with (first
    | (go_at_call 7; (with_reducible refine (speaks_calls m w HME.out).mono ?_); rintro e0 w0 ⟨rfl, hb⟩; have HB0 := Aside0.mk hb; clear hb))
  go_ret
  exact ⟨rfl, HB0.out⟩

set_option maxRecDepth 100000 in
theorem all_many (A : Option Addr) (c : Nat) (hs : List ByteArray) (host : ByteArray) (m : Int) (w : World) (hm : w.cell? ⟨0, 0, none⟩ = some (.int .i64 m)) (hh : host.size ≤ 255) (hl : 40 < hs.length) :
    Calls Tryz.prog 5 #[.slice A hs.length c, .string host] w fun e w' => e = .returned (.bool true) ∧ Below w.heap.size w w' := by
  have HME := Aside0.mk hm
  clear hm
  have y1 : decide ((255 : Int) < (host.size : Int)) = false := decide_eq_false (by omega)
  have y1n : decide (255 < host.size) = false := decide_eq_false (by omega)
  have y2 : decide ((40 : Int) < (hs.length : Int)) = true := decide_eq_true (by omega)
  have y2n : decide (40 < hs.length) = true := decide_eq_true (by omega)
  go_enter Tryz.func5, Tryz.ntmps5
  go_wp2_with (first
    | (go_at_call 7; (with_reducible refine (speaks_calls m w HME.out).mono ?_); rintro e0 w0 ⟨rfl, hb⟩; have HB0 := Aside0.mk hb; clear hb))
  go_ret
  exact ⟨rfl, HB0.out⟩

set_option maxRecDepth 100000 in
set_option maxHeartbeats 8000000 in
theorem all_in_true (A : Option Addr) (c : Nat) (hs : List ByteArray) (host : ByteArray) (m : Int) (w : World) (hm : w.cell? ⟨0, 0, none⟩ = some (.int .i64 m)) (hh : host.size ≤ 255) (hl : hs.length ≤ 40) (hA : Xw.RowAt w A (hs.map Value.string)) (ad : Addr) (hAn : A = some ad) (hb : mayHost (eB hs) host = true) :
    Calls Tryz.prog 5 #[.slice A hs.length c, .string host] w fun e w' => e = .returned (.bool true) ∧ Below w.heap.size w w' := by

  subst hAn
  have y1 : decide ((255 : Int) < (host.size : Int)) = false := decide_eq_false (by omega)
  have y1n : decide (255 < host.size) = false := decide_eq_false (by omega)
  have y2 : decide ((40 : Int) < (hs.length : Int)) = false := decide_eq_false (by omega)
  have y2n : decide (40 < hs.length) = false := decide_eq_false (by omega)
  obtain ⟨z0, hz⟩ : ∃ z, hs.isEmpty = z := ⟨_, rfl⟩
  have y3 : decide ((hs.length : Int) = 0) = z0 := by rw [← hz]; cases hs <;> simp; omega
  have y3b : ((hs.length : Int) == 0) = z0 := by
    rw [← hz]
    cases hs with
    | nil => rfl
    | cons x r =>
      show (((r.length + 1 : Nat) : Int) == 0) = false
      rw [beq_eq_false_iff_ne]
      omega
  have y3n : decide (hs.length = 0) = z0 := by rw [← hz]; cases hs <;> simp
  have y3l : decide (hs = []) = z0 := by rw [← hz]; cases hs <;> simp
  have HZ := Aside0.mk hz
  have HME := Aside0.mk hm
  have HH := Aside0.mk hh
  have HLL := Aside0.mk hl
  have HA := Aside0.mk hA
  have HBT := Aside0.mk hb
  have HNB : Aside0 (mntN (eB hs) host ⟨#[47, 98]⟩ [⟨host, ⟨#[47, 97]⟩⟩] = [0, 1, 1]) := ⟨by rw [nB, hb]; rfl⟩

  clear hm hh hl hA hb hz
  go_enter Tryz.func5, Tryz.ntmps5
  go_wp2_with (first
    | (go_at_call 7; (with_reducible refine (speaks_calls m w HME.out).mono ?_); rintro e0 w0 ⟨rfl, hb⟩; have HB0 := Aside0.mk hb; clear hb))
  go_loopg [5] hs.length (fun gk s5 wr => w0 = wr ∧ ∃ i : Nat, i + gk = hs.length ∧ s5 = .int .i64 i ∧ Aside0 (∀ (j : Nat) s, j < i → hs[j]? = some s → s.size ≤ 255))
  case atStart => exact ⟨rfl, 0, by omega, rfl, ⟨fun j s h => by omega⟩⟩
  case round =>
    obtain ⟨rfl, i, hi, rfl, HS⟩ := hrel
    cases gk with
    | succ gk =>
      have hii : (i : Int) < (hs.length : Int) := by omega
      have hlt : i < hs.length := by omega
      obtain ⟨s, hs1⟩ : ∃ s, hs[i]? = some s := ⟨_, List.getElem?_eq_getElem hlt⟩
      obtain ⟨ad', e1, hcc⟩ := row_cell HA.out i s hs1
      injection e1 with e1
      subst e1
      have hc := Lib.Below.cellOf HB0.out hcc (Nat.le_refl _)
      have HEQ := Aside0.mk hi
      have HS1 := Aside0.mk hs1
      clear hi hcc hs1 hlt
      by_cases h255 : s.size ≤ 255
      · have q1 : decide ((255 : Int) < (s.size : Int)) = false := decide_eq_false (by omega)
        have q1n : decide (255 < s.size) = false := decide_eq_false (by omega)
        have Q := Aside0.mk h255
        clear h255
        go_wp2
        go_roundg gk
        case measure => omega
        case rel => exact ⟨rfl, i + 1, by have := HEQ.out; omega, by first | rfl | (congr 1; have := HEQ.out; have := HLL.out; unfold wrap64; omega), ⟨fun j s' hj hs' => by
          rcases Nat.lt_or_ge j i with h | h
          · exact HS.out j s' h hs'
          · obtain rfl : j = i := by omega
            have e := HS1.out.symm.trans hs'
            injection e with e
            subst e
            exact Q.out⟩⟩
      · have q1 : decide ((255 : Int) < (s.size : Int)) = true := decide_eq_true (by omega)
        have q1n : decide (255 < s.size) = true := decide_eq_true (by omega)
        clear h255
        go_wp2
        go_ret
        exact ⟨rfl, HB0.out⟩
    | zero =>
      obtain rfl : hs.length = i := by omega
      have hii : ¬ ((hs.length : Int) < (hs.length : Int)) := by omega
      have HLG := Aside0.mk (any_long HS.out)
      clear hi HS
      go_wp2_with (first
        | ((with_reducible refine gate_dst (N := 34) rfl ?_); refine Lb.alloc_event ?hg (v := fun g => .slice (some ⟨g, 0, none⟩) 0 0) (cs := #[]) (t := 9) (fr := (0, 0)) ?hr ?_; (case hg => rfl); (case hr => first | (go_simp; done) | (go_simp; rfl)); intro g34 hg34 w1 hx hb; have HX34 := Aside0.mk hx; have HG34 := Aside0.mk hg34; have HB1 := Aside0.mk hb; have HC1 : Aside0 (∀ j u, (hs.map Value.string)[j]? = some u → w1.cell? (ad.add j) = some u) := ⟨fun j u hj => by obtain ⟨ad', e, hc⟩ := HA.out j u hj; injection e with e; subst e; exact Lib.Below.cellOf (below_step HB0.out hb) hc (Nat.le_refl _)⟩; clear hx hb hg34)
        | ((with_reducible refine gate_dst (N := 36) rfl ?_); obtain ⟨i, hi, hzz⟩ := Option.map_eq_some_iff.1 str_info; simp only [Prod.mk.injEq] at hzz; refine wpList_append_own w1 rfl (.tmp 34) (.tmp 35) 27 rfl w0.heap.size 9 i (.string ⟨#[]⟩) 1 16 Tryz.underlying27 hi hzz.1 hzz.2.1 hzz.2.2 rfl (by decide) (.slice (some ⟨g34, 0, none⟩) 0 0) 0 [] rfl ⟨rfl, .inr ⟨g34, 0, #[], rfl, (by have := HG34.out; omega), HX34.out, Nat.le_refl _, (by decide), rfl, rfl⟩⟩ ad hs.length c (hs.map Value.string) rfl (by simp) HC1.out (by simp [Value.oneCell']) (by have := HLL.out; unfold maxLen; omega) (by have := HLL.out; omega) HB1.out.size ?_; intro v5 w2 ho5 hg5 _; rw [Nat.zero_add, List.nil_append] at ho5; have HST := Aside0.mk (own_strs ho5); obtain ⟨AH, cH, rfl, _⟩ := own_slice ho5; have HB2 : Aside0 (Below w0.heap.size w0 w2) := ⟨HB1.out.grown hg5 HB1.out.size (fun k hk => by injection hk with hk; have := HG34.out; have e : g34 = k := hk; omega)⟩; clear ho5 hg5 hzz hi)
        | ((with_reducible refine gate_dst (N := 38) rfl ?_); refine Lb.alloc_event ?hg (v := fun g => .slice (some ⟨g, 0, none⟩) 2 2) (cs := #[.string ⟨#[47, 97]⟩, .string ⟨#[97]⟩, .slice none 0 0, .string ⟨#[47, 98]⟩, .string ⟨#[98]⟩, .slice AH hs.length cH]) (t := 30) (fr := (0, 0)) ?hr ?_; (case hg => rfl); (case hr => first | (go_simp; done) | (go_simp; rfl)); intro g38 hg38 w3 hx hb; have HX38 := Aside0.mk hx; have HST3 := Aside0.mk (HST.out.keep (fun k cs f hr => Lb.blk_below hr hb)); have HB3 := Aside0.mk (below_step HB2.out hb); clear hx hb hg38)
        | (go_at_call 8; (with_reducible refine (new_calls 0 _ (E2 hs) w3 (exps_two hs HX38.out HST3.out) (good2 hs HLG.out (by have := HLL.out; omega))).mono ?_); rintro e4 w4 ⟨⟨g, rfl, hmt⟩, hb⟩; have HMT := Aside0.mk hmt; have HB4 := Aside0.mk (below_step HB3.out hb); clear hmt hb)
        | ((with_reducible refine gate_dst (N := 42) rfl ?_); refine Lb.alloc_event ?hg (v := fun g => .slice (some ⟨g, 0, none⟩) 1 1) (cs := #[.string ⟨#[47, 97]⟩]) (t := 9) (fr := (0, 0)) ?hr ?_; (case hg => rfl); (case hr => first | (go_simp; done) | (go_simp; rfl)); intro g42 hg42 w5 hx hb; have HX42 := Aside0.mk hx; have HMT5 := Aside0.mk (HMT.out.step hb); have HB5 := Aside0.mk (below_step HB4.out hb); clear hx hb hg42)
        | (go_at_call 10; (with_reducible refine (do_some _ g g42 (E2 hs) [] host ⟨#[47, 97]⟩ m 0 eA w5 HMT5.out (Lib.Below.cellOf HB5.out (Lib.Below.cellOf HB0.out HME.out (Nat.le_refl _)) (Nat.le_refl _)) HX42.out HH.out (by decide) (E2_len hs) (by decide) (by decide) (hixA hs) (E2_0 hs)).mono ?_); rw [mA, nA]; rintro e6 w6 ⟨⟨vN, vT, rfl, hN, hT⟩, hmt, hfr⟩; have HNA := Aside0.mk hN; have HMT6 := Aside0.mk hmt; have HB6 := Aside0.mk (show Below w0.heap.size w0 w6 from HB5.out.trans (hfr.bel.mono HB3.out.size)); obtain ⟨kN, cN, rfl, _⟩ := ints_at hN rfl; obtain ⟨AT, cT, rfl, _⟩ := hT; clear hmt hfr hN)
        | ((with_reducible refine gate_dst (N := 7) rfl ?_); refine box_event ?hg (N := 7) ?hd (cs := #[.slice none 0 0, .slice none 0 0]) (t := 40) ?hr ?_; (case hd => rfl); (case hg => rfl); (case hr => first | (go_simp; done) | (go_simp; rfl)); intro g7 hg7 w7 hx hb; have HX7 := Aside0.mk hx; have HMT7 := Aside0.mk (HMT6.out.step hb); have HNA7 := Aside0.mk (HNA.out.keep (fun k cs f hr => Lb.blk_below hr hb)); have HB7 := Aside0.mk (below_step HB6.out hb); have HG7 := Aside0.mk (show w0.heap.size ≤ g7 by have := HB6.out.size; omega); clear hx hb hg7)
        | ((with_reducible refine gate_store (t := 40) (p := 7) rfl ?_); refine Lb.store_whole rfl rfl 40 (.tmp 7) (.tmp 44) rfl (new := #[.slice (some ⟨kN, 0, none⟩) [0, 1, 1].length cN, .slice AT (mntT eA host ⟨#[47, 97]⟩ []).length cT]) rfl rfl HX7.out rfl (by kernel_rfl) (by simp [Value.oneCell']) ?_; intro w8 hb hg; have HX8 := Aside0.mk hb; have hk8 := types_blk HX7.out hg; have HMT8 := Aside0.mk (HMT7.out.other HX7.out hg (by decide) (by decide) (by decide) (by decide)); have HNA8 := Aside0.mk (HNA7.out.keep (fun k cs f hr => hk8 _ _ _ _ (by decide) hr)); have HB8 := Aside0.mk (Lb.grown_below HB7.out hg HB7.out.size HG7.out); clear hk8; clear hb hg)
        | ((with_reducible refine gate_dst (N := 47) rfl ?_); refine Lb.alloc_event ?hg (v := fun g => .slice (some ⟨g, 0, none⟩) 1 1) (cs := #[.string ⟨#[47, 98]⟩]) (t := 9) (fr := (0, 0)) ?hr ?_; (case hg => rfl); (case hr => first | (go_simp; done) | (go_simp; rfl)); intro g47 hg47 w9 hx hb; have HX47 := Aside0.mk hx; have HX9 := Aside0.mk (Lb.blk_below HX8.out hb); have HMT9 := Aside0.mk (HMT8.out.step hb); have HNA9 := Aside0.mk (HNA8.out.keep (fun k cs f hr => Lb.blk_below hr hb)); have HB9 := Aside0.mk (below_step HB8.out hb); clear hx hb hg47)
        | (go_at_call 10; (with_reducible refine (do_some _ g g47 (E2 hs) [⟨host, ⟨#[47, 97]⟩⟩] host ⟨#[47, 98]⟩ m 1 (eB hs) w9 HMT9.out (Lib.Below.cellOf HB9.out (Lib.Below.cellOf HB0.out HME.out (Nat.le_refl _)) (Nat.le_refl _)) HX47.out HH.out (by decide) (E2_len hs) (by simp) (Nat.le_trans HLL.out (by decide)) (hixB hs) (E2_1 hs)).mono ?_); rw [HNB.out]; rintro e10 w10 ⟨⟨vN, vT, rfl, hN, hT⟩, hmt, hfr⟩; have HX10 := Aside0.mk (hfr.frm _ _ _ _ HX9.out (by decide) (by decide)); have HNA10 := Aside0.mk (HNA9.out.keep (fun k cs f hr => hfr.frm _ _ _ _ hr (by decide) (by decide))); have HNB10 := Aside0.mk hN; have HB10 := Aside0.mk (show Below w0.heap.size w0 w10 from HB9.out.trans (hfr.bel.mono HB3.out.size)); obtain ⟨kM, cM, rfl, _⟩ := ints_at hN rfl; obtain ⟨AT2, cT2, rfl, _⟩ := hT; clear hmt hfr hN)
        | ((with_reducible refine gate_dst (N := 8) rfl ?_); refine box_event ?hg (N := 8) ?hd (cs := #[.slice none 0 0, .slice none 0 0]) (t := 40) ?hr ?_; (case hd => rfl); (case hg => rfl); (case hr => first | (go_simp; done) | (go_simp; rfl)); intro g8 hg8 w11 hx hb; have HX118 := Aside0.mk hx; have HX11 := Aside0.mk (Lb.blk_below HX10.out hb); have HNA11 := Aside0.mk (HNA10.out.keep (fun k cs f hr => Lb.blk_below hr hb)); have HNB11 := Aside0.mk (HNB10.out.keep (fun k cs f hr => Lb.blk_below hr hb)); have HB11 := Aside0.mk (below_step HB10.out hb); have HG8 := Aside0.mk (show w0.heap.size ≤ g8 ∧ g7 ≠ g8 by have := HB10.out.size; have := blk_lt HX10.out; omega); clear hx hb hg8)
        | ((with_reducible refine gate_store (t := 40) (p := 8) rfl ?_); refine Lb.store_whole rfl rfl 40 (.tmp 8) (.tmp 49) rfl (new := #[.slice (some ⟨kM, 0, none⟩) [0, 1, 1].length cM, .slice AT2 (mntT (eB hs) host ⟨#[47, 98]⟩ [⟨host, ⟨#[47, 97]⟩⟩]).length cT2]) rfl rfl HX118.out rfl (by kernel_rfl) (by simp [Value.oneCell']) ?_; intro w12 hb hg; have d80 := (blk_cell hb 0).trans rfl; have d70 := (blk_cell (Lb.blk_grown' HX11.out hg HG8.out.2) 0).trans rfl; have hk12 := types_blk HX118.out hg; have HB12 := Aside0.mk (Lb.grown_below HB11.out hg HB11.out.size HG8.out.1); obtain ⟨_, _, e1, n0⟩ := ints_at (HNA11.out.keep (fun k cs f hr => hk12 _ _ _ _ (by decide) hr)) rfl; injection e1 with e1 _ _; injection e1 with e1; injection e1 with e1 _ _; subst e1; obtain ⟨_, _, e2, n1⟩ := ints_at (HNB11.out.keep (fun k cs f hr => hk12 _ _ _ _ (by decide) hr)) rfl; injection e2 with e2 _ _; injection e2 with e2; injection e2 with e2 _ _; subst e2; clear hk12; clear hb hg))
      go_loopg [9, 10] hs.length (fun gk s9 s10 wr => w12 = wr ∧ ∃ i : Nat, i + gk = hs.length ∧ s10 = .int .i64 i ∧ s9 = .bool (acc hs host i))
      case atStart => exact ⟨rfl, 0, by omega, rfl, by unfold acc; rw [HZ.out]; simp⟩
      case round =>
        obtain ⟨rfl, i, hi, rfl, hs9⟩ := hrel
        cases gk with
        | zero =>
          obtain rfl : hs.length = i := by omega
          rw [acc_all, HBT.out] at hs9
          subst hs9
          have hii : ¬ ((hs.length : Int) < (hs.length : Int)) := by omega
          clear hi
          go_wp2
          go_ret
          exact ⟨rfl, by have := HB0.out.trans (HB12.out.mono HB0.out.size); exact this⟩
        | succ gk =>
          have hii : (i : Int) < (hs.length : Int) := by omega
          have hlt : i < hs.length := by omega
          obtain ⟨s, hs1⟩ : ∃ s, hs[i]? = some s := ⟨_, List.getElem?_eq_getElem hlt⟩
          obtain ⟨ad', e1, hcc⟩ := row_cell HA.out i s hs1
          injection e1 with e1
          subst e1
          have hc := Lib.Below.cellOf HB12.out (Lib.Below.cellOf HB0.out hcc (Nat.le_refl _)) (Nat.le_refl _)
          have HEQ := Aside0.mk hi
          have hst := acc_step hs host i s hs1
          obtain ⟨b, hb⟩ : ∃ b, acc hs host i = b := ⟨_, rfl⟩
          rw [hb] at hs9 hst
          have HST := Aside0.mk hst
          clear hi hcc hs1 hlt hst hb d70 d80 n0 n1
          subst hs9
          cases b with
          | true =>
            go_wp2
            go_roundg gk
            case measure => omega
            case rel => exact ⟨rfl, i + 1, by have := HEQ.out; omega, by first | rfl | (congr 1; have := HEQ.out; have := HLL.out; unfold wrap64; omega), by rw [HST.out]; rfl⟩
          | false =>
            go_wp2
            go_roundg gk
            case measure => omega
            case rel => exact ⟨rfl, i + 1, by have := HEQ.out; omega, by first | rfl | (congr 1; have := HEQ.out; have := HLL.out; unfold wrap64; omega), by rw [HST.out]; rfl⟩

set_option maxRecDepth 100000 in
set_option maxHeartbeats 8000000 in
theorem all_in_false (A : Option Addr) (c : Nat) (hs : List ByteArray) (host : ByteArray) (m : Int) (w : World) (hm : w.cell? ⟨0, 0, none⟩ = some (.int .i64 m)) (hh : host.size ≤ 255) (hl : hs.length ≤ 40) (hA : Xw.RowAt w A (hs.map Value.string)) (ad : Addr) (hAn : A = some ad) (hb : mayHost (eB hs) host = false) :
    Calls Tryz.prog 5 #[.slice A hs.length c, .string host] w fun e w' => e = .returned (.bool true) ∧ Below w.heap.size w w' := by

  subst hAn
  have y1 : decide ((255 : Int) < (host.size : Int)) = false := decide_eq_false (by omega)
  have y1n : decide (255 < host.size) = false := decide_eq_false (by omega)
  have y2 : decide ((40 : Int) < (hs.length : Int)) = false := decide_eq_false (by omega)
  have y2n : decide (40 < hs.length) = false := decide_eq_false (by omega)
  obtain ⟨z0, hz⟩ : ∃ z, hs.isEmpty = z := ⟨_, rfl⟩
  have y3 : decide ((hs.length : Int) = 0) = z0 := by rw [← hz]; cases hs <;> simp; omega
  have y3b : ((hs.length : Int) == 0) = z0 := by
    rw [← hz]
    cases hs with
    | nil => rfl
    | cons x r =>
      show (((r.length + 1 : Nat) : Int) == 0) = false
      rw [beq_eq_false_iff_ne]
      omega
  have y3n : decide (hs.length = 0) = z0 := by rw [← hz]; cases hs <;> simp
  have y3l : decide (hs = []) = z0 := by rw [← hz]; cases hs <;> simp
  have HZ := Aside0.mk hz
  have HME := Aside0.mk hm
  have HH := Aside0.mk hh
  have HLL := Aside0.mk hl
  have HA := Aside0.mk hA
  have HBT := Aside0.mk hb
  have HNB : Aside0 (mntN (eB hs) host ⟨#[47, 98]⟩ [⟨host, ⟨#[47, 97]⟩⟩] = [13]) := ⟨by rw [nB, hb]; rfl⟩

  clear hm hh hl hA hb hz
  go_enter Tryz.func5, Tryz.ntmps5
  go_wp2_with (first
    | (go_at_call 7; (with_reducible refine (speaks_calls m w HME.out).mono ?_); rintro e0 w0 ⟨rfl, hb⟩; have HB0 := Aside0.mk hb; clear hb))
  go_loopg [5] hs.length (fun gk s5 wr => w0 = wr ∧ ∃ i : Nat, i + gk = hs.length ∧ s5 = .int .i64 i ∧ Aside0 (∀ (j : Nat) s, j < i → hs[j]? = some s → s.size ≤ 255))
  case atStart => exact ⟨rfl, 0, by omega, rfl, ⟨fun j s h => by omega⟩⟩
  case round =>
    obtain ⟨rfl, i, hi, rfl, HS⟩ := hrel
    cases gk with
    | succ gk =>
      have hii : (i : Int) < (hs.length : Int) := by omega
      have hlt : i < hs.length := by omega
      obtain ⟨s, hs1⟩ : ∃ s, hs[i]? = some s := ⟨_, List.getElem?_eq_getElem hlt⟩
      obtain ⟨ad', e1, hcc⟩ := row_cell HA.out i s hs1
      injection e1 with e1
      subst e1
      have hc := Lib.Below.cellOf HB0.out hcc (Nat.le_refl _)
      have HEQ := Aside0.mk hi
      have HS1 := Aside0.mk hs1
      clear hi hcc hs1 hlt
      by_cases h255 : s.size ≤ 255
      · have q1 : decide ((255 : Int) < (s.size : Int)) = false := decide_eq_false (by omega)
        have q1n : decide (255 < s.size) = false := decide_eq_false (by omega)
        have Q := Aside0.mk h255
        clear h255
        go_wp2
        go_roundg gk
        case measure => omega
        case rel => exact ⟨rfl, i + 1, by have := HEQ.out; omega, by first | rfl | (congr 1; have := HEQ.out; have := HLL.out; unfold wrap64; omega), ⟨fun j s' hj hs' => by
          rcases Nat.lt_or_ge j i with h | h
          · exact HS.out j s' h hs'
          · obtain rfl : j = i := by omega
            have e := HS1.out.symm.trans hs'
            injection e with e
            subst e
            exact Q.out⟩⟩
      · have q1 : decide ((255 : Int) < (s.size : Int)) = true := decide_eq_true (by omega)
        have q1n : decide (255 < s.size) = true := decide_eq_true (by omega)
        clear h255
        go_wp2
        go_ret
        exact ⟨rfl, HB0.out⟩
    | zero =>
      obtain rfl : hs.length = i := by omega
      have hii : ¬ ((hs.length : Int) < (hs.length : Int)) := by omega
      have HLG := Aside0.mk (any_long HS.out)
      clear hi HS
      go_wp2_with (first
        | ((with_reducible refine gate_dst (N := 34) rfl ?_); refine Lb.alloc_event ?hg (v := fun g => .slice (some ⟨g, 0, none⟩) 0 0) (cs := #[]) (t := 9) (fr := (0, 0)) ?hr ?_; (case hg => rfl); (case hr => first | (go_simp; done) | (go_simp; rfl)); intro g34 hg34 w1 hx hb; have HX34 := Aside0.mk hx; have HG34 := Aside0.mk hg34; have HB1 := Aside0.mk hb; have HC1 : Aside0 (∀ j u, (hs.map Value.string)[j]? = some u → w1.cell? (ad.add j) = some u) := ⟨fun j u hj => by obtain ⟨ad', e, hc⟩ := HA.out j u hj; injection e with e; subst e; exact Lib.Below.cellOf (below_step HB0.out hb) hc (Nat.le_refl _)⟩; clear hx hb hg34)
        | ((with_reducible refine gate_dst (N := 36) rfl ?_); obtain ⟨i, hi, hzz⟩ := Option.map_eq_some_iff.1 str_info; simp only [Prod.mk.injEq] at hzz; refine wpList_append_own w1 rfl (.tmp 34) (.tmp 35) 27 rfl w0.heap.size 9 i (.string ⟨#[]⟩) 1 16 Tryz.underlying27 hi hzz.1 hzz.2.1 hzz.2.2 rfl (by decide) (.slice (some ⟨g34, 0, none⟩) 0 0) 0 [] rfl ⟨rfl, .inr ⟨g34, 0, #[], rfl, (by have := HG34.out; omega), HX34.out, Nat.le_refl _, (by decide), rfl, rfl⟩⟩ ad hs.length c (hs.map Value.string) rfl (by simp) HC1.out (by simp [Value.oneCell']) (by have := HLL.out; unfold maxLen; omega) (by have := HLL.out; omega) HB1.out.size ?_; intro v5 w2 ho5 hg5 _; rw [Nat.zero_add, List.nil_append] at ho5; have HST := Aside0.mk (own_strs ho5); obtain ⟨AH, cH, rfl, _⟩ := own_slice ho5; have HB2 : Aside0 (Below w0.heap.size w0 w2) := ⟨HB1.out.grown hg5 HB1.out.size (fun k hk => by injection hk with hk; have := HG34.out; have e : g34 = k := hk; omega)⟩; clear ho5 hg5 hzz hi)
        | ((with_reducible refine gate_dst (N := 38) rfl ?_); refine Lb.alloc_event ?hg (v := fun g => .slice (some ⟨g, 0, none⟩) 2 2) (cs := #[.string ⟨#[47, 97]⟩, .string ⟨#[97]⟩, .slice none 0 0, .string ⟨#[47, 98]⟩, .string ⟨#[98]⟩, .slice AH hs.length cH]) (t := 30) (fr := (0, 0)) ?hr ?_; (case hg => rfl); (case hr => first | (go_simp; done) | (go_simp; rfl)); intro g38 hg38 w3 hx hb; have HX38 := Aside0.mk hx; have HST3 := Aside0.mk (HST.out.keep (fun k cs f hr => Lb.blk_below hr hb)); have HB3 := Aside0.mk (below_step HB2.out hb); clear hx hb hg38)
        | (go_at_call 8; (with_reducible refine (new_calls 0 _ (E2 hs) w3 (exps_two hs HX38.out HST3.out) (good2 hs HLG.out (by have := HLL.out; omega))).mono ?_); rintro e4 w4 ⟨⟨g, rfl, hmt⟩, hb⟩; have HMT := Aside0.mk hmt; have HB4 := Aside0.mk (below_step HB3.out hb); clear hmt hb)
        | ((with_reducible refine gate_dst (N := 42) rfl ?_); refine Lb.alloc_event ?hg (v := fun g => .slice (some ⟨g, 0, none⟩) 1 1) (cs := #[.string ⟨#[47, 97]⟩]) (t := 9) (fr := (0, 0)) ?hr ?_; (case hg => rfl); (case hr => first | (go_simp; done) | (go_simp; rfl)); intro g42 hg42 w5 hx hb; have HX42 := Aside0.mk hx; have HMT5 := Aside0.mk (HMT.out.step hb); have HB5 := Aside0.mk (below_step HB4.out hb); clear hx hb hg42)
        | (go_at_call 10; (with_reducible refine (do_some _ g g42 (E2 hs) [] host ⟨#[47, 97]⟩ m 0 eA w5 HMT5.out (Lib.Below.cellOf HB5.out (Lib.Below.cellOf HB0.out HME.out (Nat.le_refl _)) (Nat.le_refl _)) HX42.out HH.out (by decide) (E2_len hs) (by decide) (by decide) (hixA hs) (E2_0 hs)).mono ?_); rw [mA, nA]; rintro e6 w6 ⟨⟨vN, vT, rfl, hN, hT⟩, hmt, hfr⟩; have HNA := Aside0.mk hN; have HMT6 := Aside0.mk hmt; have HB6 := Aside0.mk (show Below w0.heap.size w0 w6 from HB5.out.trans (hfr.bel.mono HB3.out.size)); obtain ⟨kN, cN, rfl, _⟩ := ints_at hN rfl; obtain ⟨AT, cT, rfl, _⟩ := hT; clear hmt hfr hN)
        | ((with_reducible refine gate_dst (N := 7) rfl ?_); refine box_event ?hg (N := 7) ?hd (cs := #[.slice none 0 0, .slice none 0 0]) (t := 40) ?hr ?_; (case hd => rfl); (case hg => rfl); (case hr => first | (go_simp; done) | (go_simp; rfl)); intro g7 hg7 w7 hx hb; have HX7 := Aside0.mk hx; have HMT7 := Aside0.mk (HMT6.out.step hb); have HNA7 := Aside0.mk (HNA.out.keep (fun k cs f hr => Lb.blk_below hr hb)); have HB7 := Aside0.mk (below_step HB6.out hb); have HG7 := Aside0.mk (show w0.heap.size ≤ g7 by have := HB6.out.size; omega); clear hx hb hg7)
        | ((with_reducible refine gate_store (t := 40) (p := 7) rfl ?_); refine Lb.store_whole rfl rfl 40 (.tmp 7) (.tmp 44) rfl (new := #[.slice (some ⟨kN, 0, none⟩) [0, 1, 1].length cN, .slice AT (mntT eA host ⟨#[47, 97]⟩ []).length cT]) rfl rfl HX7.out rfl (by kernel_rfl) (by simp [Value.oneCell']) ?_; intro w8 hb hg; have HX8 := Aside0.mk hb; have hk8 := types_blk HX7.out hg; have HMT8 := Aside0.mk (HMT7.out.other HX7.out hg (by decide) (by decide) (by decide) (by decide)); have HNA8 := Aside0.mk (HNA7.out.keep (fun k cs f hr => hk8 _ _ _ _ (by decide) hr)); have HB8 := Aside0.mk (Lb.grown_below HB7.out hg HB7.out.size HG7.out); clear hk8; clear hb hg)
        | ((with_reducible refine gate_dst (N := 47) rfl ?_); refine Lb.alloc_event ?hg (v := fun g => .slice (some ⟨g, 0, none⟩) 1 1) (cs := #[.string ⟨#[47, 98]⟩]) (t := 9) (fr := (0, 0)) ?hr ?_; (case hg => rfl); (case hr => first | (go_simp; done) | (go_simp; rfl)); intro g47 hg47 w9 hx hb; have HX47 := Aside0.mk hx; have HX9 := Aside0.mk (Lb.blk_below HX8.out hb); have HMT9 := Aside0.mk (HMT8.out.step hb); have HNA9 := Aside0.mk (HNA8.out.keep (fun k cs f hr => Lb.blk_below hr hb)); have HB9 := Aside0.mk (below_step HB8.out hb); clear hx hb hg47)
        | (go_at_call 10; (with_reducible refine (do_some _ g g47 (E2 hs) [⟨host, ⟨#[47, 97]⟩⟩] host ⟨#[47, 98]⟩ m 1 (eB hs) w9 HMT9.out (Lib.Below.cellOf HB9.out (Lib.Below.cellOf HB0.out HME.out (Nat.le_refl _)) (Nat.le_refl _)) HX47.out HH.out (by decide) (E2_len hs) (by simp) (Nat.le_trans HLL.out (by decide)) (hixB hs) (E2_1 hs)).mono ?_); rw [HNB.out]; rintro e10 w10 ⟨⟨vN, vT, rfl, hN, hT⟩, hmt, hfr⟩; have HX10 := Aside0.mk (hfr.frm _ _ _ _ HX9.out (by decide) (by decide)); have HNA10 := Aside0.mk (HNA9.out.keep (fun k cs f hr => hfr.frm _ _ _ _ hr (by decide) (by decide))); have HNB10 := Aside0.mk hN; have HB10 := Aside0.mk (show Below w0.heap.size w0 w10 from HB9.out.trans (hfr.bel.mono HB3.out.size)); obtain ⟨kM, cM, rfl, _⟩ := ints_at hN rfl; obtain ⟨AT2, cT2, rfl, _⟩ := hT; clear hmt hfr hN)
        | ((with_reducible refine gate_dst (N := 8) rfl ?_); refine box_event ?hg (N := 8) ?hd (cs := #[.slice none 0 0, .slice none 0 0]) (t := 40) ?hr ?_; (case hd => rfl); (case hg => rfl); (case hr => first | (go_simp; done) | (go_simp; rfl)); intro g8 hg8 w11 hx hb; have HX118 := Aside0.mk hx; have HX11 := Aside0.mk (Lb.blk_below HX10.out hb); have HNA11 := Aside0.mk (HNA10.out.keep (fun k cs f hr => Lb.blk_below hr hb)); have HNB11 := Aside0.mk (HNB10.out.keep (fun k cs f hr => Lb.blk_below hr hb)); have HB11 := Aside0.mk (below_step HB10.out hb); have HG8 := Aside0.mk (show w0.heap.size ≤ g8 ∧ g7 ≠ g8 by have := HB10.out.size; have := blk_lt HX10.out; omega); clear hx hb hg8)
        | ((with_reducible refine gate_store (t := 40) (p := 8) rfl ?_); refine Lb.store_whole rfl rfl 40 (.tmp 8) (.tmp 49) rfl (new := #[.slice (some ⟨kM, 0, none⟩) [13].length cM, .slice AT2 (mntT (eB hs) host ⟨#[47, 98]⟩ [⟨host, ⟨#[47, 97]⟩⟩]).length cT2]) rfl rfl HX118.out rfl (by kernel_rfl) (by simp [Value.oneCell']) ?_; intro w12 hb hg; have d80 := (blk_cell hb 0).trans rfl; have d70 := (blk_cell (Lb.blk_grown' HX11.out hg HG8.out.2) 0).trans rfl; have hk12 := types_blk HX118.out hg; have HB12 := Aside0.mk (Lb.grown_below HB11.out hg HB11.out.size HG8.out.1); obtain ⟨_, _, e1, n0⟩ := ints_at (HNA11.out.keep (fun k cs f hr => hk12 _ _ _ _ (by decide) hr)) rfl; injection e1 with e1 _ _; injection e1 with e1; injection e1 with e1 _ _; subst e1; obtain ⟨_, _, e2, n1⟩ := ints_at (HNB11.out.keep (fun k cs f hr => hk12 _ _ _ _ (by decide) hr)) rfl; injection e2 with e2 _ _; injection e2 with e2; injection e2 with e2 _ _; subst e2; clear hk12; clear hb hg))
      go_loopg [9, 10] hs.length (fun gk s9 s10 wr => w12 = wr ∧ ∃ i : Nat, i + gk = hs.length ∧ s10 = .int .i64 i ∧ s9 = .bool (acc hs host i))
      case atStart => exact ⟨rfl, 0, by omega, rfl, by unfold acc; rw [HZ.out]; simp⟩
      case round =>
        obtain ⟨rfl, i, hi, rfl, hs9⟩ := hrel
        cases gk with
        | zero =>
          obtain rfl : hs.length = i := by omega
          rw [acc_all, HBT.out] at hs9
          subst hs9
          have hii : ¬ ((hs.length : Int) < (hs.length : Int)) := by omega
          clear hi
          go_wp2
          go_ret
          exact ⟨rfl, by have := HB0.out.trans (HB12.out.mono HB0.out.size); exact this⟩
        | succ gk =>
          have hii : (i : Int) < (hs.length : Int) := by omega
          have hlt : i < hs.length := by omega
          obtain ⟨s, hs1⟩ : ∃ s, hs[i]? = some s := ⟨_, List.getElem?_eq_getElem hlt⟩
          obtain ⟨ad', e1, hcc⟩ := row_cell HA.out i s hs1
          injection e1 with e1
          subst e1
          have hc := Lib.Below.cellOf HB12.out (Lib.Below.cellOf HB0.out hcc (Nat.le_refl _)) (Nat.le_refl _)
          have HEQ := Aside0.mk hi
          have hst := acc_step hs host i s hs1
          obtain ⟨b, hb⟩ : ∃ b, acc hs host i = b := ⟨_, rfl⟩
          rw [hb] at hs9 hst
          have HST := Aside0.mk hst
          clear hi hcc hs1 hlt hst hb d70 d80 n0 n1
          subst hs9
          cases b with
          | true =>
            go_wp2
            go_roundg gk
            case measure => omega
            case rel => exact ⟨rfl, i + 1, by have := HEQ.out; omega, by first | rfl | (congr 1; have := HEQ.out; have := HLL.out; unfold wrap64; omega), by rw [HST.out]; rfl⟩
          | false =>
            go_wp2
            go_roundg gk
            case measure => omega
            case rel => exact ⟨rfl, i + 1, by have := HEQ.out; omega, by first | rfl | (congr 1; have := HEQ.out; have := HLL.out; unfold wrap64; omega), by rw [HST.out]; rfl⟩

set_option maxRecDepth 100000 in
set_option maxHeartbeats 8000000 in
theorem all_nil (host : ByteArray) (m : Int) (w : World) (hm : w.cell? ⟨0, 0, none⟩ = some (.int .i64 m)) (hh : host.size ≤ 255) :
    Calls Tryz.prog 5 #[.slice none 0 0, .string host] w fun e w' => e = .returned (.bool true) ∧ Below w.heap.size w w' := by
  have y1 : decide ((255 : Int) < (host.size : Int)) = false := decide_eq_false (by omega)
  have y1n : decide (255 < host.size) = false := decide_eq_false (by omega)
  have HME := Aside0.mk hm
  have HH := Aside0.mk hh
  have HA := Aside0.mk (row_none w)
  have HNB : Aside0 (mntN (eB []) host ⟨#[47, 98]⟩ [⟨host, ⟨#[47, 97]⟩⟩] = [0, 1, 1]) := ⟨by rw [nB]; rfl⟩
  clear hm hh
  go_enter Tryz.func5, Tryz.ntmps5
  go_wp2_with (first
    | (go_at_call 7; (with_reducible refine (speaks_calls m w HME.out).mono ?_); rintro e0 w0 ⟨rfl, hb⟩; have HB0 := Aside0.mk hb; clear hb))
  go_loopg [5] 0 (fun gk s5 wr => w0 = wr ∧ ∃ i : Nat, i + gk = 0 ∧ s5 = .int .i64 i ∧ Aside0 (∀ (j : Nat) s, j < i → ([] : List ByteArray)[j]? = some s → s.size ≤ 255))
  case atStart => exact ⟨rfl, 0, by omega, rfl, ⟨fun j s h => by omega⟩⟩
  case round =>
    obtain ⟨rfl, i, hi, rfl, HS⟩ := hrel
    cases gk with
    | succ gk =>
      have hii : (i : Int) < (0 : Int) := by omega
      have hlt : i < 0 := by omega
      obtain ⟨s, hs1⟩ : ∃ s, ([] : List ByteArray)[i]? = some s := ⟨_, List.getElem?_eq_getElem hlt⟩
      obtain ⟨ad', e1, hcc⟩ := row_cell HA.out i s hs1
      cases e1
    | zero =>
      obtain rfl : i = 0 := by omega
      have hii : ¬ ((0 : Int) < (0 : Int)) := by omega
      have HLG := Aside0.mk (show ([] : List ByteArray).any longS = false from rfl)
      clear hi HS
      go_wp2_with (first
        | ((with_reducible refine gate_dst (N := 34) rfl ?_); refine Lb.alloc_event ?hg (v := fun g => .slice (some ⟨g, 0, none⟩) 0 0) (cs := #[]) (t := 9) (fr := (0, 0)) ?hr ?_; (case hg => rfl); (case hr => first | (go_simp; done) | (go_simp; rfl)); intro g34 hg34 w1 hx hb; have HX34 := Aside0.mk hx; have HG34 := Aside0.mk hg34; have HB1 := Aside0.mk hb; have HC1 : Aside0 (∀ j u, (([] : List ByteArray).map Value.string)[j]? = some u → w1.cell? ((⟨0, 0, none⟩ : Addr).add j) = some u) := ⟨fun j u hj => by obtain ⟨ad', e, hc⟩ := HA.out j u hj; cases e⟩; clear hx hb hg34)
        | ((with_reducible refine gate_dst (N := 38) rfl ?_); refine Lb.alloc_event ?hg (v := fun g => .slice (some ⟨g, 0, none⟩) 2 2) (cs := #[.string ⟨#[47, 97]⟩, .string ⟨#[97]⟩, .slice none 0 0, .string ⟨#[47, 98]⟩, .string ⟨#[98]⟩, .slice (some ⟨g34, 0, none⟩) 0 0]) (t := 30) (fr := (0, 0)) ?hr ?_; (case hg => rfl); (case hr => first | (go_simp; done) | (go_simp; rfl)); intro g38 hg38 w3 hx hb; have HB2 := HB1; have HST := Aside0.mk (strs_empty w1 (some ⟨g34, 0, none⟩) 0 ([] : List ByteArray) rfl); have HX38 := Aside0.mk hx; have HST3 := Aside0.mk (HST.out.keep (fun k cs f hr => Lb.blk_below hr hb)); have HB3 := Aside0.mk (below_step HB2.out hb); clear hx hb hg38)
        | (go_at_call 8; (with_reducible refine (new_calls 0 _ (E2 ([] : List ByteArray)) w3 (exps_two ([] : List ByteArray) HX38.out HST3.out) (good2 ([] : List ByteArray) HLG.out (by decide))).mono ?_); rintro e4 w4 ⟨⟨g, rfl, hmt⟩, hb⟩; have HMT := Aside0.mk hmt; have HB4 := Aside0.mk (below_step HB3.out hb); clear hmt hb)
        | ((with_reducible refine gate_dst (N := 42) rfl ?_); refine Lb.alloc_event ?hg (v := fun g => .slice (some ⟨g, 0, none⟩) 1 1) (cs := #[.string ⟨#[47, 97]⟩]) (t := 9) (fr := (0, 0)) ?hr ?_; (case hg => rfl); (case hr => first | (go_simp; done) | (go_simp; rfl)); intro g42 hg42 w5 hx hb; have HX42 := Aside0.mk hx; have HMT5 := Aside0.mk (HMT.out.step hb); have HB5 := Aside0.mk (below_step HB4.out hb); clear hx hb hg42)
        | (go_at_call 10; (with_reducible refine (do_some _ g g42 (E2 ([] : List ByteArray)) [] host ⟨#[47, 97]⟩ m 0 eA w5 HMT5.out (Lib.Below.cellOf HB5.out (Lib.Below.cellOf HB0.out HME.out (Nat.le_refl _)) (Nat.le_refl _)) HX42.out HH.out (by decide) (E2_len ([] : List ByteArray)) (by decide) (by decide) (hixA ([] : List ByteArray)) (E2_0 ([] : List ByteArray))).mono ?_); rw [mA, nA]; rintro e6 w6 ⟨⟨vN, vT, rfl, hN, hT⟩, hmt, hfr⟩; have HNA := Aside0.mk hN; have HMT6 := Aside0.mk hmt; have HB6 := Aside0.mk (show Below w0.heap.size w0 w6 from HB5.out.trans (hfr.bel.mono HB3.out.size)); obtain ⟨kN, cN, rfl, _⟩ := ints_at hN rfl; obtain ⟨AT, cT, rfl, _⟩ := hT; clear hmt hfr hN)
        | ((with_reducible refine gate_dst (N := 7) rfl ?_); refine box_event ?hg (N := 7) ?hd (cs := #[.slice none 0 0, .slice none 0 0]) (t := 40) ?hr ?_; (case hd => rfl); (case hg => rfl); (case hr => first | (go_simp; done) | (go_simp; rfl)); intro g7 hg7 w7 hx hb; have HX7 := Aside0.mk hx; have HMT7 := Aside0.mk (HMT6.out.step hb); have HNA7 := Aside0.mk (HNA.out.keep (fun k cs f hr => Lb.blk_below hr hb)); have HB7 := Aside0.mk (below_step HB6.out hb); have HG7 := Aside0.mk (show w0.heap.size ≤ g7 by have := HB6.out.size; omega); clear hx hb hg7)
        | ((with_reducible refine gate_store (t := 40) (p := 7) rfl ?_); refine Lb.store_whole rfl rfl 40 (.tmp 7) (.tmp 44) rfl (new := #[.slice (some ⟨kN, 0, none⟩) [0, 1, 1].length cN, .slice AT (mntT eA host ⟨#[47, 97]⟩ []).length cT]) rfl rfl HX7.out rfl (by kernel_rfl) (by simp [Value.oneCell']) ?_; intro w8 hb hg; have HX8 := Aside0.mk hb; have hk8 := types_blk HX7.out hg; have HMT8 := Aside0.mk (HMT7.out.other HX7.out hg (by decide) (by decide) (by decide) (by decide)); have HNA8 := Aside0.mk (HNA7.out.keep (fun k cs f hr => hk8 _ _ _ _ (by decide) hr)); have HB8 := Aside0.mk (Lb.grown_below HB7.out hg HB7.out.size HG7.out); clear hk8; clear hb hg)
        | ((with_reducible refine gate_dst (N := 47) rfl ?_); refine Lb.alloc_event ?hg (v := fun g => .slice (some ⟨g, 0, none⟩) 1 1) (cs := #[.string ⟨#[47, 98]⟩]) (t := 9) (fr := (0, 0)) ?hr ?_; (case hg => rfl); (case hr => first | (go_simp; done) | (go_simp; rfl)); intro g47 hg47 w9 hx hb; have HX47 := Aside0.mk hx; have HX9 := Aside0.mk (Lb.blk_below HX8.out hb); have HMT9 := Aside0.mk (HMT8.out.step hb); have HNA9 := Aside0.mk (HNA8.out.keep (fun k cs f hr => Lb.blk_below hr hb)); have HB9 := Aside0.mk (below_step HB8.out hb); clear hx hb hg47)
        | (go_at_call 10; (with_reducible refine (do_some _ g g47 (E2 ([] : List ByteArray)) [⟨host, ⟨#[47, 97]⟩⟩] host ⟨#[47, 98]⟩ m 1 (eB ([] : List ByteArray)) w9 HMT9.out (Lib.Below.cellOf HB9.out (Lib.Below.cellOf HB0.out HME.out (Nat.le_refl _)) (Nat.le_refl _)) HX47.out HH.out (by decide) (E2_len ([] : List ByteArray)) (by simp) (by decide) (hixB ([] : List ByteArray)) (E2_1 ([] : List ByteArray))).mono ?_); rw [HNB.out]; rintro e10 w10 ⟨⟨vN, vT, rfl, hN, hT⟩, hmt, hfr⟩; have HX10 := Aside0.mk (hfr.frm _ _ _ _ HX9.out (by decide) (by decide)); have HNA10 := Aside0.mk (HNA9.out.keep (fun k cs f hr => hfr.frm _ _ _ _ hr (by decide) (by decide))); have HNB10 := Aside0.mk hN; have HB10 := Aside0.mk (show Below w0.heap.size w0 w10 from HB9.out.trans (hfr.bel.mono HB3.out.size)); obtain ⟨kM, cM, rfl, _⟩ := ints_at hN rfl; obtain ⟨AT2, cT2, rfl, _⟩ := hT; clear hmt hfr hN)
        | ((with_reducible refine gate_dst (N := 8) rfl ?_); refine box_event ?hg (N := 8) ?hd (cs := #[.slice none 0 0, .slice none 0 0]) (t := 40) ?hr ?_; (case hd => rfl); (case hg => rfl); (case hr => first | (go_simp; done) | (go_simp; rfl)); intro g8 hg8 w11 hx hb; have HX118 := Aside0.mk hx; have HX11 := Aside0.mk (Lb.blk_below HX10.out hb); have HNA11 := Aside0.mk (HNA10.out.keep (fun k cs f hr => Lb.blk_below hr hb)); have HNB11 := Aside0.mk (HNB10.out.keep (fun k cs f hr => Lb.blk_below hr hb)); have HB11 := Aside0.mk (below_step HB10.out hb); have HG8 := Aside0.mk (show w0.heap.size ≤ g8 ∧ g7 ≠ g8 by have := HB10.out.size; have := blk_lt HX10.out; omega); clear hx hb hg8)
        | ((with_reducible refine gate_store (t := 40) (p := 8) rfl ?_); refine Lb.store_whole rfl rfl 40 (.tmp 8) (.tmp 49) rfl (new := #[.slice (some ⟨kM, 0, none⟩) [0, 1, 1].length cM, .slice AT2 (mntT (eB ([] : List ByteArray)) host ⟨#[47, 98]⟩ [⟨host, ⟨#[47, 97]⟩⟩]).length cT2]) rfl rfl HX118.out rfl (by kernel_rfl) (by simp [Value.oneCell']) ?_; intro w12 hb hg; have d80 := (blk_cell hb 0).trans rfl; have d70 := (blk_cell (Lb.blk_grown' HX11.out hg HG8.out.2) 0).trans rfl; have hk12 := types_blk HX118.out hg; have HB12 := Aside0.mk (Lb.grown_below HB11.out hg HB11.out.size HG8.out.1); obtain ⟨_, _, e1, n0⟩ := ints_at (HNA11.out.keep (fun k cs f hr => hk12 _ _ _ _ (by decide) hr)) rfl; injection e1 with e1 _ _; injection e1 with e1; injection e1 with e1 _ _; subst e1; obtain ⟨_, _, e2, n1⟩ := ints_at (HNB11.out.keep (fun k cs f hr => hk12 _ _ _ _ (by decide) hr)) rfl; injection e2 with e2 _ _; injection e2 with e2; injection e2 with e2 _ _; subst e2; clear hk12; clear hb hg))
      go_loopg [9, 10] 0 (fun gk s9 s10 wr => w12 = wr ∧ ∃ i : Nat, i + gk = 0 ∧ s10 = .int .i64 i ∧ s9 = .bool (acc ([] : List ByteArray) host i))
      case atStart => exact ⟨rfl, 0, by omega, rfl, rfl⟩
      case round =>
        obtain ⟨rfl, i, hi, rfl, hs9⟩ := hrel
        cases gk with
        | zero =>
          obtain rfl : i = 0 := by omega
          rw [show acc [] host 0 = true from rfl] at hs9
          subst hs9
          have hii : ¬ ((0 : Int) < (0 : Int)) := by omega
          clear hi
          go_wp2
          go_ret
          exact ⟨rfl, by have := HB0.out.trans (HB12.out.mono HB0.out.size); exact this⟩
        | succ gk =>
          have hii : (i : Int) < (0 : Int) := by omega
          have hlt : i < 0 := by omega
          obtain ⟨s, hs1⟩ : ∃ s, ([] : List ByteArray)[i]? = some s := ⟨_, List.getElem?_eq_getElem hlt⟩
          obtain ⟨ad', e1, hcc⟩ := row_cell HA.out i s hs1
          cases e1

theorem all_calls (A : Option Addr) (c : Nat) (hs : List ByteArray) (host : ByteArray) (m : Int) (w : World) (hm : w.cell? ⟨0, 0, none⟩ = some (.int .i64 m)) (hA : Xw.RowAt w A (hs.map Value.string)) (hc : A = none → c = 0) :
    Calls Tryz.prog 5 #[.slice A hs.length c, .string host] w fun e w' => e = .returned (.bool true) ∧ Below w.heap.size w w' := by
  by_cases h1 : 255 < host.size
  · exact all_host A c hs host m w hm h1
  · by_cases h2 : 40 < hs.length
    · exact all_many A c hs host m w hm (by omega) h2
    · cases A with
      | none =>
        have he : hs = [] := by
          cases hs with
          | nil => rfl
          | cons x r => obtain ⟨ad, e, _⟩ := row_cell hA 0 x rfl; cases e
        subst he
        rw [hc rfl]
        exact all_nil host m w hm (by omega)
      | some ad =>
        cases hb : mayHost (eB hs) host with
        | true => exact all_in_true (some ad) c hs host m w hm (by omega) (by omega) hA ad rfl hb
        | false => exact all_in_false (some ad) c hs host m w hm (by omega) (by omega) hA ad rfl hb
end Go.Proofs.YthamffpieafkbaaGreatDoor.Mt
