/- A checkpoint, out of a sector. -/
import Derived.Test.YtfiocakhgpdlfaaDoorG20
import Derived.Deep.RegionWith
namespace Go.Proofs.YtfiocakhgpdlfaaDoor.Sg
open Go.RowKit Go.Lib Go.Proofs.YtfiocakhgpdlfaaDoor.Ap Go.Proofs.YtfiocakhgpdlfaaDoorW.PrintWords Go.Proofs.YtfiocakhgpdlfaaDoorW.PrintLast Go.Proofs.YtfiocakhgpdlfaaDoorW.PrintMore
set_option linter.unusedVariables false
set_option linter.unusedSimpArgs false

theorem dropWhile_nil {p : UInt8 → Bool} : ∀ l : List UInt8, (∀ x ∈ l.dropWhile p, p x = true) → l.dropWhile p = []
  | [], _ => rfl
  | x :: r, h => by
    rw [List.dropWhile_cons] at h ⊢
    by_cases hx : p x = true
    · rw [if_pos hx] at h ⊢; exact dropWhile_nil r h
    · rw [if_neg hx] at h; exact absurd (h x (by simp)) hx
theorem dropWhile_iff {p : UInt8 → Bool} : ∀ l : List UInt8, l.dropWhile p = [] ↔ ∀ x ∈ l, p x = true
  | [] => by simp
  | x :: r => by
    rw [List.dropWhile_cons]
    by_cases hx : p x = true
    · rw [if_pos hx, dropWhile_iff r]; simp [hx]
    · rw [if_neg hx]; simp [hx]
theorem trim_iff (l : List UInt8) (c : UInt8) : Lib.trimB l c = [] ↔ l.all (· == c) = true := by
  unfold Lib.trimB Lib.trimLeftB Lib.trimRightB
  constructor
  · intro h
    have h1 : ∀ x ∈ l.reverse.dropWhile (· == c), (x == c) = true := by
      intro x hx
      rw [dropWhile_iff] at h
      exact h x (by simpa using hx)
    have h2 := dropWhile_nil _ h1
    rw [dropWhile_iff] at h2
    rw [List.all_eq_true]
    intro x hx
    exact h2 x (by simpa using hx)
  · intro h
    rw [List.all_eq_true] at h
    have h2 : l.reverse.dropWhile (· == c) = [] := by
      rw [dropWhile_iff]
      intro x hx
      exact h x (by simpa using hx)
    rw [h2]; rfl
theorem sub_one (l : List UInt8) (k : Nat) (hk : k < l.length) : sub l k 1 = [l[k]] := by
  unfold sub; rw [List.drop_eq_getElem_cons hk]; rfl
theorem beN_one (l : List UInt8) (k : Nat) (hk : k < l.length) : beN (sub l k 1) = (l[k]).toNat := by
  rw [sub_one l k hk]; simp [beN]
theorem beN_byte (l : List UInt8) (k : Nat) : beN (sub l k 1) ≤ 255 := by
  have h1 := beN_lt (sub l k 1)
  have h2 : (sub l k 1).length ≤ 1 := List.length_take_le _ _
  have h3 : (256 : Nat) ^ (sub l k 1).length ≤ 256 ^ 1 := Nat.pow_le_pow_right (by decide) h2
  omega
theorem index_at (l : List UInt8) (k : Nat) (i : Int) (hi : i = (k : Int)) (hk : k < l.length) (w : World) :
    (Instr.index 9 (.string (toB l)) (.int .i64 i)).run Tryd.prog w = .ok (.int .u8 ((beN (sub l k 1) : Nat) : Int)) w := by
  subst hi
  have hs := toB_size l
  have h := Go.run_index_string (P := Tryd.prog) w 9 (toB l) .i64 (k : Int) Tryd.underlying9
  rw [dif_pos (by omega)] at h
  rw [h, beN_one l k hk]
  have e : ((toB l)[(k : Int).toNat]'(by omega)) = l[k] := rfl
  rw [e]
theorem segsOf_step (l : List UInt8) (S i m : Nat) (acc : List Seg) (h : 27 + 2 * i < l.length) : segsOf S (m + 1) (l.drop (26 + 2 * i)) acc =
    if S ≤ beN (sub l (26 + 2 * i) 1) ∨ 16 < beN (sub l (27 + 2 * i) 1) ∨ acc.any (isId (beN (sub l (26 + 2 * i) 1) : Nat)) = true then none else segsOf S m (l.drop (26 + 2 * (i + 1))) (acc ++ [⟨beN (sub l (26 + 2 * i) 1), beN (sub l (27 + 2 * i) 1)⟩]) := by
  have e1 : l.drop (26 + 2 * i) = l[26 + 2 * i] :: l[27 + 2 * i] :: l.drop (26 + 2 * (i + 1)) := by
    rw [List.drop_eq_getElem_cons (by omega), List.drop_eq_getElem_cons (show 26 + 2 * i + 1 < l.length by omega)]
    have : 26 + 2 * i + 1 = 27 + 2 * i := by omega
    simp only [this]
    rw [show 27 + 2 * i + 1 = 26 + 2 * (i + 1) by omega]
  rw [e1, segsOf, beN_one l _ (by omega), beN_one l _ (by omega)]
  have e2 : acc.any (fun y => y.id == (l[26 + 2 * i]).toNat) = acc.any (isId (((l[26 + 2 * i]).toNat : Nat) : Int)) := by
    congr 1; funext y; unfold isId; rw [Bool.eq_iff_iff]; simp; omega
  rw [e2]
theorem put4 {w : World} {g : Nat} {x0 x1 x2 x3 a b c d : Value} {t : TypeId} (h : w.heap[g]? = some (.cells #[x0, x1, x2, x3] t (0, 0))) :
    ((((w.setCell ⟨g, 0, none⟩ a).setCell ⟨g, 1, none⟩ b).setCell ⟨g, 2, none⟩ c).setCell ⟨g, 3, none⟩ d).heap[g]? = some (.cells #[a, b, c, d] t (0, 0)) ∧
    w.grownBy ((((w.setCell ⟨g, 0, none⟩ a).setCell ⟨g, 1, none⟩ b).setCell ⟨g, 2, none⟩ c).setCell ⟨g, 3, none⟩ d) (some g) := by
  have h0 := Lb.setCell_block w g 0 _ t a h
  have h1 := Lb.setCell_block _ g 1 _ t b h0
  have h2 := Lb.setCell_block _ g 2 _ t c h1
  have h3 := Lb.setCell_block _ g 3 _ t d h2
  exact ⟨h3, Lb.grown_trans (Lb.grown_trans (Lb.grown_trans (Lb.setCell_grown w g 0 _ t a h) (Lb.setCell_grown _ g 1 _ t b h0)) (Lb.setCell_grown _ g 2 _ t c h1)) (Lb.setCell_grown _ g 3 _ t d h2)⟩
theorem fits3_false (a b c : List UInt8) (ha : a.length ≤ 8) (hb : b.length ≤ 8) (hc : c.length ≤ 8) (h : fitsI [tk a, tk b, tk c] = false) : top < beN a ∨ top < beN b ∨ top < beN c := by
  have h1 := (tk_fit a ha).1
  have h2 := (tk_fit b hb).1
  have h3 := (tk_fit c hc).1
  refine Classical.byContradiction fun hn => ?_
  have h4 := h1.2 (by omega)
  have h5 := h2.2 (by omega)
  have h6 := h3.2 (by omega)
  simp [fitsI] at h
  omega
theorem fits3_true (a b c : List UInt8) (ha : a.length ≤ 8) (hb : b.length ≤ 8) (hc : c.length ≤ 8) (h : fitsI [tk a, tk b, tk c] = true) : beN a ≤ top ∧ beN b ≤ top ∧ beN c ≤ top := by
  simp [fitsI] at h
  exact ⟨(tk_fit a ha).1.1 h.1, (tk_fit b hb).1.1 h.2.1, (tk_fit c hc).1.1 h.2.2⟩
theorem head67_iff (l : List UInt8) (h : 0 < (toB l).size) : l.head? = some 67 ↔ (((toB l)[0]'h).toNat : Int) = 67 := by
  cases l with
  | nil => simp [toB, ByteArray.size] at h
  | cons a r =>
    have e : ((toB (a :: r))[0]'h) = a := rfl
    rw [e, List.head?_cons, Option.some.injEq]
    constructor
    · intro h; rw [h]; rfl
    · intro h; apply UInt8.toNat_inj.1; have : a.toNat = 67 := by omega
      rw [this]; rfl
theorem toB_list (l : List UInt8) : (toB l).toList = l := by rw [ByteArray.toList_eq]; simp [toB]
theorem seg_info : ((Tryd.prog).info? 71).map (fun i => (i.zero, i.size, i.bytes)) = some (some (.agg #[.int .i64 0, .int .i64 0]), 2, 16) := by kernel_rfl
theorem trim_calls (m : List UInt8) (hm : m.length ≤ 1000) (w : World) : Calls Tryd.prog 60 #[.string (toB m), .string ⟨#[0]⟩] w fun e w' => e = .returned (.string (toB (Lib.trimB m 0))) ∧ Below w.heap.size w w' := by
  refine (Tryd.strings_Trim_one (toB m) 0 (by decide) w (by rw [toB_size]; omega)).mono ?_
  rintro e w' ⟨rfl, h⟩
  refine ⟨rfl, ?_⟩
  rcases h with rfl | rfl
  · exact Below.refl _ _
  · exact Lb.below_drew w
/-- what a checkpoint that was read answers -/
def CpPost (o : Option Cp) (w : World) (e : Ending) (w' : World) : Prop :=
  match o with
  | none => e = .returned (.tuple #[.agg #[.int .i64 0, .int .i64 0, .int .i64 0, .slice none 0 0], .bool false]) ∧ Below w.heap.size w w'
  | some c => ∃ v, e = .returned (.tuple #[.agg #[.int .i64 c.serial, .int .i64 c.boot, .int .i64 c.seq, v], .bool true]) ∧ SegsAt w.heap.size w' v c.segs ∧ Below w.heap.size w w'
theorem CpPost.none {o : Option Cp} {w w' : World} (h : o = Option.none) (hb : Below w.heap.size w w') : CpPost o w (.returned (.tuple #[.agg #[.int .i64 0, .int .i64 0, .int .i64 0, .slice none 0 0], .bool false])) w' := by
  subst h; exact ⟨rfl, hb⟩
theorem CpPost.some {o : Option Cp} {c : Cp} {v : Value} {w w' : World} (h : o = Option.some c) (hs : SegsAt w.heap.size w' v c.segs) (hb : Below w.heap.size w w') : CpPost o w (.returned (.tuple #[.agg #[.int .i64 c.serial, .int .i64 c.boot, .int .i64 c.seq, v], .bool true])) w' := by
  subst h; exact ⟨v, rfl, hs, hb⟩
theorem cp_bad {l : List UInt8} {S : Nat} (h : l.head? ≠ some 67 ∨ top < beN (sub l 1 8) ∨ top < beN (sub l 9 8) ∨ top < beN (sub l 17 8) ∨ beN (sub l 25 1) < 1 ∨ S < beN (sub l 25 1)) : cpOf l S = none := by
  unfold cpOf; rw [if_pos h]
theorem cp_good {l : List UInt8} {S : Nat} (h : ¬ (l.head? ≠ some 67 ∨ top < beN (sub l 1 8) ∨ top < beN (sub l 9 8) ∨ top < beN (sub l 17 8) ∨ beN (sub l 25 1) < 1 ∨ S < beN (sub l 25 1))) :
    cpOf l S = match segsOf S (beN (sub l 25 1)) (l.drop 26) [] with
      | none => none
      | some segs => if (l.drop (26 + 2 * beN (sub l 25 1))).all (· == 0) then some ⟨beN (sub l 1 8), beN (sub l 9 8), beN (sub l 17 8), segs⟩ else none := by
  unfold cpOf; rw [if_neg h]; rfl

set_option maxRecDepth 100000 in
set_option maxHeartbeats 8000000 in
theorem cpOf_calls (l : List UInt8) (hl : l.length = 256) (S : Nat) (hS : S ≤ 64) (w : World) :
    Calls Tryd.prog 35 #[.string (toB l), .int .i64 S] w (CpPost (cpOf l S) w) := by
  have hsz : (toB l).size = 256 := by rw [toB_size, hl]
  have E1 := Aside0.mk (toB_extract l 1 9)
  have E2 := Aside0.mk (toB_extract l 9 17)
  have E3 := Aside0.mk (toB_extract l 17 25)
  have L1 : Aside0 ((sub l 1 (9 - 1)).length ≤ 8) := ⟨by rw [sub_length _ _ _ (by omega)]; omega⟩
  have L2 : Aside0 ((sub l 9 (17 - 9)).length ≤ 8) := ⟨by rw [sub_length _ _ _ (by omega)]; omega⟩
  have L3 : Aside0 ((sub l 17 (25 - 17)).length ≤ 8) := ⟨by rw [sub_length _ _ _ (by omega)]; omega⟩
  have HLN := Aside0.mk hl
  have hn255 := beN_byte l 25
  have hix := index_at l 25 25 rfl (by omega)
  go_enter Tryd.func35, Tryd.ntmps35
  go_upto_region 1 with (first
    | ((with_reducible refine gate_dst (N := 4) rfl ?_); refine Lb.alloc_event ?hg (v := fun g => .pointer (some ⟨g, 0, none⟩)) (cs := #[.int .i64 0, .int .i64 0, .int .i64 0, .slice none 0 0]) (t := 78) (fr := (0, 0)) ?hr ?_; (case hg => rfl); (case hr => first | (go_simp; done) | (go_simp; rfl)); intro g2 hg2 w2 hx hb; have HX2 := Aside0.mk hx; have HB2 := Aside0.mk hb; have HG2 := Aside0.mk hg2; clear hx hb hg2))
  go_cut [6] (fun s6 wx => ∃ g6 : Nat, s6 = .pointer (some ⟨g6, 0, none⟩) ∧ Aside0 (wx.heap[g6]? = some (.cells #[.int .i64 (tk (sub l 1 8)), .int .i64 (tk (sub l 9 8)), .int .i64 (tk (sub l 17 8)), .slice none 0 0] 78 (0, 0))) ∧ Aside0 (Below w2.heap.size w2 wx) ∧ Aside0 (w2.heap.size ≤ g6))
  case first =>
    have HK := Aside0.mk (Lb.below_drew w2)
    go_region_with (first
      | (go_at_call 56; (with_reducible refine (taken_any _ _ E1.out L1.out _).mono ?_); rintro e w5 ⟨rfl, hb⟩; (first | (replace HK := Aside0.mk (below_step HK.out hb); try (replace HP := Aside0.mk (Lb.blk_below HP.out hb))) | (have HP := Aside0.mk (Lb.blk_below (blk_new _ _) hb); have HGP := Aside0.mk HK.out.size; replace HK := Aside0.mk (below_step (below_step HK.out (below_alloc (Below.refl _ _) _)) hb)) | (have HP := Aside0.mk (Lb.blk_below (Lb.blk_below (blk_new w2 _) (Lb.below_drew _)) hb); have HGP := Aside0.mk (Nat.le_refl w2.heap.size); replace HK := Aside0.mk (below_step (below_step (below_alloc (Below.refl _ w2) _) (Lb.below_drew _)) hb))); try (have p0 := (blk_cell HP.out 0).trans rfl; have p1 := (blk_cell HP.out 1).trans rfl; have p2 := (blk_cell HP.out 2).trans rfl; have p3 := (blk_cell HP.out 3).trans rfl; have f0 := blk_free HP.out 0; have f1 := blk_free HP.out 1; have f2 := blk_free HP.out 2; have f3 := blk_free HP.out 3); clear hb)
      | (go_at_call 56; (with_reducible refine (taken_any _ _ E2.out L2.out _).mono ?_); rintro e w5 ⟨rfl, hb⟩; (first | (replace HK := Aside0.mk (below_step HK.out hb); try (replace HP := Aside0.mk (Lb.blk_below HP.out hb))) | (have HP := Aside0.mk (Lb.blk_below (blk_new _ _) hb); have HGP := Aside0.mk HK.out.size; replace HK := Aside0.mk (below_step (below_step HK.out (below_alloc (Below.refl _ _) _)) hb)) | (have HP := Aside0.mk (Lb.blk_below (Lb.blk_below (blk_new w2 _) (Lb.below_drew _)) hb); have HGP := Aside0.mk (Nat.le_refl w2.heap.size); replace HK := Aside0.mk (below_step (below_step (below_alloc (Below.refl _ w2) _) (Lb.below_drew _)) hb))); try (have p0 := (blk_cell HP.out 0).trans rfl; have p1 := (blk_cell HP.out 1).trans rfl; have p2 := (blk_cell HP.out 2).trans rfl; have p3 := (blk_cell HP.out 3).trans rfl; have f0 := blk_free HP.out 0; have f1 := blk_free HP.out 1; have f2 := blk_free HP.out 2; have f3 := blk_free HP.out 3); clear hb)
      | (go_at_call 56; (with_reducible refine (taken_any _ _ E3.out L3.out _).mono ?_); rintro e w5 ⟨rfl, hb⟩; (first | (replace HK := Aside0.mk (below_step HK.out hb); try (replace HP := Aside0.mk (Lb.blk_below HP.out hb))) | (have HP := Aside0.mk (Lb.blk_below (blk_new _ _) hb); have HGP := Aside0.mk HK.out.size; replace HK := Aside0.mk (below_step (below_step HK.out (below_alloc (Below.refl _ _) _)) hb)) | (have HP := Aside0.mk (Lb.blk_below (Lb.blk_below (blk_new w2 _) (Lb.below_drew _)) hb); have HGP := Aside0.mk (Nat.le_refl w2.heap.size); replace HK := Aside0.mk (below_step (below_step (below_alloc (Below.refl _ w2) _) (Lb.below_drew _)) hb))); try (have p0 := (blk_cell HP.out 0).trans rfl; have p1 := (blk_cell HP.out 1).trans rfl; have p2 := (blk_cell HP.out 2).trans rfl; have p3 := (blk_cell HP.out 3).trans rfl; have f0 := blk_free HP.out 0; have f1 := blk_free HP.out 1; have f2 := blk_free HP.out 2; have f3 := blk_free HP.out 3); clear hb))
    all_goals
      go_wp2_with fail
      go_meet
      first
        | exact ⟨_, rfl, ⟨(put4 HP.out).1⟩, ⟨Lb.grown_below HK.out (put4 HP.out).2 HK.out.size HGP.out⟩, HGP⟩
        | exact ⟨_, rfl, ⟨blk_new _ _⟩, ⟨below_step HK.out (below_alloc (Below.refl _ _) _)⟩, ⟨HK.out.size⟩⟩
  case rest =>
    obtain ⟨g6, rfl, HX6', HB6', HG6⟩ := hcut
    obtain ⟨w6, hw6⟩ : ∃ w6, w6 = wc := ⟨_, rfl⟩
    subst hw6
    have HX6 := HX6'
    have HB6 := HB6'
    clear HX6' HB6'
    have hlt : 0 < (toB l).size := by omega
    have H0 := Aside0.mk (head67_iff l hlt)
    have HNN := Aside0.mk hn255
    go_upto_region 3 with fail
    have HB7 := Aside0.mk (Below.refl w6.heap.size w6)
    go_cut [45] (fun s45 wx => s45 = .bool (decide (l.head? ≠ some 67 ∨ top < beN (sub l 1 8) ∨ top < beN (sub l 9 8) ∨ top < beN (sub l 17 8) ∨ beN (sub l 25 1) < 1 ∨ S < beN (sub l 25 1))) ∧ Aside0 (Below w6.heap.size w6 wx))
    case first =>
      have c0 := (blk_cell HX6.out 0).trans rfl
      have c1 := (blk_cell HX6.out 1).trans rfl
      have c2 := (blk_cell HX6.out 2).trans rfl
      by_cases k0 : (((toB l)[0]'hlt).toNat : Int) = 67
      · cases hF : fitsI [tk (sub l 1 8), tk (sub l 9 8), tk (sub l 17 8)] with
        | false =>
          have HFI := Aside0.mk hF
          have HBAD : Aside0 (decide (l.head? ≠ some 67 ∨ top < beN (sub l 1 8) ∨ top < beN (sub l 9 8) ∨ top < beN (sub l 17 8) ∨ beN (sub l 25 1) < 1 ∨ S < beN (sub l 25 1)) = true) := ⟨decide_eq_true (by
            rcases fits3_false _ _ _ L1.out L2.out L3.out hF with h | h | h
            · exact .inr (.inl h)
            · exact .inr (.inr (.inl h))
            · exact .inr (.inr (.inr (.inl h))))⟩
          clear hF
          go_wp2_with (first
          | (go_at_call 57; (with_reducible refine (fits3_calls _ _ _ _ _ HFI.out _ (blk_new w6 _)).mono ?_); rintro e w8 ⟨rfl, hb⟩; replace HB7 := Aside0.mk (below_step (below_step HB7.out (below_alloc (Below.refl _ _) _)) hb); clear hb))
          go_meet
          exact ⟨by rw [HBAD.out], HB7⟩
        | true =>
          have HFI := Aside0.mk hF
          clear hF
          have HREST : Aside0 (decide (l.head? ≠ some 67 ∨ top < beN (sub l 1 8) ∨ top < beN (sub l 9 8) ∨ top < beN (sub l 17 8) ∨ beN (sub l 25 1) < 1 ∨ S < beN (sub l 25 1)) = decide (beN (sub l 25 1) < 1 ∨ S < beN (sub l 25 1))) := ⟨by
            obtain ⟨f1, f2, f3⟩ := fits3_true _ _ _ L1.out L2.out L3.out HFI.out
            have f1' : ¬ top < beN (sub l 1 8) := by have : beN (sub l 1 8) ≤ top := f1; omega
            have f2' : ¬ top < beN (sub l 9 8) := by have : beN (sub l 9 8) ≤ top := f2; omega
            have f3' : ¬ top < beN (sub l 17 8) := by have : beN (sub l 17 8) ≤ top := f3; omega
            apply decide_eq_decide.2
            constructor
            · intro h
              rcases h with h | h | h | h | h
              · exact absurd (H0.out.2 k0) h
              · exact absurd h f1'
              · exact absurd h f2'
              · exact absurd h f3'
              · exact h
            · intro h
              exact .inr (.inr (.inr (.inr h)))⟩
          by_cases k1 : beN (sub l 25 1) < 1
          · have k1i : ((beN (sub l 25 1) : Nat) : Int) < 1 := by omega
            have HBAD : Aside0 (decide (beN (sub l 25 1) < 1 ∨ S < beN (sub l 25 1)) = true) := ⟨decide_eq_true (.inl k1)⟩
            go_wp2_with (first
          | (go_at_call 57; (with_reducible refine (fits3_calls _ _ _ _ _ HFI.out _ (blk_new w6 _)).mono ?_); rintro e w8 ⟨rfl, hb⟩; replace HB7 := Aside0.mk (below_step (below_step HB7.out (below_alloc (Below.refl _ _) _)) hb); clear hb))
            go_meet
            exact ⟨by rw [HREST.out, HBAD.out], HB7⟩
          · have k1i : ¬ ((beN (sub l 25 1) : Nat) : Int) < 1 := by omega
            by_cases k2 : S < beN (sub l 25 1)
            · have HBAD : Aside0 (decide (beN (sub l 25 1) < 1 ∨ S < beN (sub l 25 1)) = true) := ⟨decide_eq_true (.inr k2)⟩
              have k2i : (S : Int) < ((beN (sub l 25 1) : Nat) : Int) := by omega
              go_wp2_with (first
          | (go_at_call 57; (with_reducible refine (fits3_calls _ _ _ _ _ HFI.out _ (blk_new w6 _)).mono ?_); rintro e w8 ⟨rfl, hb⟩; replace HB7 := Aside0.mk (below_step (below_step HB7.out (below_alloc (Below.refl _ _) _)) hb); clear hb))
              go_meet
              exact ⟨by rw [HREST.out, HBAD.out], HB7⟩
            · have HBAD : Aside0 (decide (beN (sub l 25 1) < 1 ∨ S < beN (sub l 25 1)) = false) := ⟨decide_eq_false (by omega)⟩
              have k2i : ¬ (S : Int) < ((beN (sub l 25 1) : Nat) : Int) := by omega
              go_wp2_with (first
          | (go_at_call 57; (with_reducible refine (fits3_calls _ _ _ _ _ HFI.out _ (blk_new w6 _)).mono ?_); rintro e w8 ⟨rfl, hb⟩; replace HB7 := Aside0.mk (below_step (below_step HB7.out (below_alloc (Below.refl _ _) _)) hb); clear hb))
              go_meet
              exact ⟨by rw [HREST.out, HBAD.out]; first | rfl | (rw [decide_eq_false (show ¬ ((beN (sub l 25 1) : Nat) : Int) < 1 by omega)]; done) | (congr 1; rw [Bool.or_eq_false_iff]; exact ⟨decide_eq_false (by omega), decide_eq_false (by omega)⟩) | (rw [decide_eq_false (show ¬ ((beN (sub l 25 1) : Nat) : Int) < 1 by omega), decide_eq_false (show ¬ S < beN (sub l 25 1) by omega)]; rfl), HB7⟩
      · have HBAD : Aside0 (decide (l.head? ≠ some 67 ∨ top < beN (sub l 1 8) ∨ top < beN (sub l 9 8) ∨ top < beN (sub l 17 8) ∨ beN (sub l 25 1) < 1 ∨ S < beN (sub l 25 1)) = true) := ⟨decide_eq_true (.inl (fun h => k0 (H0.out.1 h)))⟩
        go_wp2_with (first
          | (go_at_call 57; (with_reducible refine (fits3_calls _ _ _ _ _ HFI.out _ (blk_new w6 _)).mono ?_); rintro e w8 ⟨rfl, hb⟩; replace HB7 := Aside0.mk (below_step (below_step HB7.out (below_alloc (Below.refl _ _) _)) hb); clear hb))
        go_meet
        exact ⟨by rw [HBAD.out], HB7⟩
    case rest =>
      obtain ⟨rfl, HBC⟩ := hcut
      have HX := Aside0.mk (Lb.blk_below (Lb.blk_below HX2.out HB6.out) HBC.out)
      have HX6c := Aside0.mk (Lb.blk_below HX6.out HBC.out)
      have HBW := Aside0.mk (below_step (below_step HB2.out HB6.out) HBC.out)
      have HNE : Aside0 (g2 ≠ g6) := ⟨by have := blk_lt HX2.out; have := HG6.out; omega⟩
      by_cases hbad : l.head? ≠ some 67 ∨ top < beN (sub l 1 8) ∨ top < beN (sub l 9 8) ∨ top < beN (sub l 17 8) ∨ beN (sub l 25 1) < 1 ∨ S < beN (sub l 25 1)
      · have hdec : decide (l.head? ≠ some 67 ∨ top < beN (sub l 1 8) ∨ top < beN (sub l 9 8) ∨ top < beN (sub l 17 8) ∨ beN (sub l 25 1) < 1 ∨ S < beN (sub l 25 1)) = true := decide_eq_true hbad
        have HNO := Aside0.mk (cp_bad hbad)
        rw [hdec]
        clear hdec hbad
        go_wp2_with (first
          | ((with_reducible refine gate_store (t := 78) (p := 4) rfl ?_); refine Lb.store_whole rfl rfl 78 (.tmp 4) (.tmp 46) rfl (new := #[.int .i64 0, .int .i64 0, .int .i64 0, .slice none 0 0]) rfl rfl HX.out rfl (by kernel_rfl) (by simp [Value.oneCell']) ?_; intro w9 hb hg; have HX9 := Aside0.mk hb; have HB9 := Aside0.mk (Lb.grown_below HBW.out hg HBW.out.size (by have := HG2.out; omega)); clear hb hg))
        have v0 := (blk_cell HX9.out 0).trans rfl
        have v1 := (blk_cell HX9.out 1).trans rfl
        have v2 := (blk_cell HX9.out 2).trans rfl
        have v3 := (blk_cell HX9.out 3).trans rfl
        exact bodyPost_ret (v := .tuple #[.agg #[.int .i64 0, .int .i64 0, .int .i64 0, .slice none 0 0], .bool false]) (by simp [results, Tryd.results35, go_sem, v0, v1, v2, v3]) rfl (CpPost.none HNO.out HB9.out)
      · have hdec : decide (l.head? ≠ some 67 ∨ top < beN (sub l 1 8) ∨ top < beN (sub l 9 8) ∨ top < beN (sub l 17 8) ∨ beN (sub l 25 1) < 1 ∨ S < beN (sub l 25 1)) = false := decide_eq_false hbad
        have HCP := Aside0.mk (cp_good hbad)
        rw [hdec]
        clear hdec
        have hN1 : 1 ≤ beN (sub l 25 1) ∧ beN (sub l 25 1) ≤ 64 := by
          have h1 : ¬ beN (sub l 25 1) < 1 := fun h => hbad (.inr (.inr (.inr (.inr (.inl h)))))
          have h2 : ¬ S < beN (sub l 25 1) := fun h => hbad (.inr (.inr (.inr (.inr (.inr h)))))
          omega
        have HTOP : Aside0 (beN (sub l 1 8) ≤ top ∧ beN (sub l 9 8) ≤ top ∧ beN (sub l 17 8) ≤ top) := ⟨by
          have h1 : ¬ top < beN (sub l 1 8) := fun h => hbad (.inr (.inl h))
          have h2 : ¬ top < beN (sub l 9 8) := fun h => hbad (.inr (.inr (.inl h)))
          have h3 : ¬ top < beN (sub l 17 8) := fun h => hbad (.inr (.inr (.inr (.inl h))))
          omega⟩
        clear hbad
        obtain ⟨n, hn⟩ : ∃ n, n = beN (sub l 25 1) := ⟨_, rfl⟩
        rw [← hn] at hN1 HCP
        have HN1 := Aside0.mk hN1
        have HNE2 := Aside0.mk hn
        go_wp2_with fail
        rw [← hn]
        clear hn
        go_loopg [48] n (fun gk s48 wr => ∃ (i : Nat) (vS : Value) (acc : List Seg), i + gk = n ∧ s48 = .int .i64 i ∧ Aside0 (wr.heap[g6]? = some (.cells #[.int .i64 (tk (sub l 1 8)), .int .i64 (tk (sub l 9 8)), .int .i64 (tk (sub l 17 8)), vS] 78 (0, 0))) ∧
          Aside0 (wr.heap[g2]? = some (.cells #[.int .i64 0, .int .i64 0, .int .i64 0, .slice none 0 0] 78 (0, 0))) ∧ Aside0 (SegsAt w.heap.size wr vS acc) ∧ Aside0 (acc.length = i) ∧ Aside0 (segsOf S gk (l.drop (26 + 2 * i)) acc = segsOf S n (l.drop 26) []) ∧ Aside0 (Below w.heap.size w wr))
        case atStart => exact ⟨0, .slice none 0 0, [], by omega, rfl, HX6c, HX, ⟨⟨rfl, .inl ⟨rfl, rfl⟩⟩⟩, ⟨rfl⟩, ⟨rfl⟩, HBW⟩
        case round =>
          obtain ⟨i, vS, acc, hi, rfl, HC6, HC2, HSG, HAL, HSO, HBR⟩ := hrel
          have hl256 := HLN.out
          have hN1' := HN1.out
          have hsz' : (toB l).size = 256 := hsz
          cases gk with
          | zero =>
            obtain rfl : i = n := by omega
            have hii : ¬ ((i : Int) < (i : Int)) := by omega
            have hsl : ∀ w : World, (Instr.slice 9 (.string (toB l)) (some (.int .i64 (26 + 2 * (i : Int)))) none none).run Tryd.prog w = .ok (.string (toB (l.drop (26 + 2 * i)))) w := fun w => by
              have h1 := Go.run_slice_string_l (P := Tryd.prog) w 9 (toB l) Tryd.underlying9 .i64 (26 + 2 * (i : Int)) (by omega) (by omega)
              refine h1.trans ?_
              have e1 : (26 + 2 * (i : Int)).toNat = 26 + 2 * i := by omega
              rw [e1, toB_extract]
              congr 3
              unfold sub
              rw [List.take_of_length_le (by rw [List.length_drop]; omega)]
            have HT := trim_calls (l.drop (26 + 2 * i)) (by rw [List.length_drop]; omega)
            have HSE : Aside0 (segsOf S i (l.drop 26) [] = some acc) := ⟨by rw [← HSO.out]; rfl⟩
            cases ht : (l.drop (26 + 2 * i)).all (· == 0) with
            | false =>
              have HNO : Aside0 (cpOf l S = none) := ⟨by rw [HCP.out, HSE.out]; simp only [ht]; rfl⟩
              have hne : Lib.trimB (l.drop (26 + 2 * i)) 0 ≠ [] := fun h => by rw [(trim_iff _ _).1 h] at ht; cases ht
              obtain ⟨y, r, hyr⟩ := List.exists_cons_of_ne_nil hne
              rw [hyr] at HT
              have hs1 : (!(toB (y :: r)).toList.isEmpty) = true := by rw [toB_list]; rfl
              have hs2 : ¬ (toB (y :: r)).toList = [] := by rw [toB_list]; simp
              clear ht hne hyr
              have HT' : ∀ w : World, Calls Tryd.prog 60 #[.string (toB (l.drop (26 + 2 * i))), .string ⟨#[0]⟩] w fun e w' => e = .returned (.string (toB (y :: r))) ∧ Below w.heap.size w w' := HT
              clear HT
              go_wp2_with (first
                | (go_at_call 60; (with_reducible refine (HT' _).mono ?_); rintro e w8 ⟨rfl, hb⟩; have HX := Aside0.mk (Lb.blk_below HC2.out hb); have HBW := Aside0.mk (below_step HBR.out hb); clear hb HT')
                | ((with_reducible refine gate_store (t := 78) (p := 4) rfl ?_); refine Lb.store_whole rfl rfl 78 (.tmp 4) (.tmp 94) rfl (new := #[.int .i64 0, .int .i64 0, .int .i64 0, .slice none 0 0]) rfl rfl HX.out rfl (by kernel_rfl) (by simp [Value.oneCell']) ?_; intro w9 hb hg; have HX9 := Aside0.mk hb; have HB9 := Aside0.mk (Lb.grown_below HBW.out hg HBW.out.size (by have := HG2.out; omega)); clear hb hg))
              have v0 := (blk_cell HX9.out 0).trans rfl
              have v1 := (blk_cell HX9.out 1).trans rfl
              have v2 := (blk_cell HX9.out 2).trans rfl
              have v3 := (blk_cell HX9.out 3).trans rfl
              exact bodyPost_ret (v := .tuple #[.agg #[.int .i64 0, .int .i64 0, .int .i64 0, .slice none 0 0], .bool false]) (by simp [results, Tryd.results35, go_sem, v0, v1, v2, v3]) rfl (CpPost.none HNO.out HB9.out)
            | true =>
              have HYES : Aside0 (cpOf l S = some ⟨beN (sub l 1 8), beN (sub l 9 8), beN (sub l 17 8), acc⟩) := ⟨by rw [HCP.out, HSE.out]; simp only [ht]; rfl⟩
              rw [(trim_iff _ _).2 ht] at HT
              have HT' : ∀ w : World, Calls Tryd.prog 60 #[.string (toB (l.drop (26 + 2 * i))), .string ⟨#[0]⟩] w fun e w' => e = .returned (.string ⟨#[]⟩) ∧ Below w.heap.size w w' := HT
              clear ht HT hii
              have hii : ¬ ((i : Int) < (i : Int)) := by omega
              go_wp2_with (first
                | (go_at_call 60; (with_reducible refine (HT' _).mono ?_); rintro e w8 ⟨rfl, hb⟩; have HC68 := Aside0.mk (Lb.blk_below HC6.out hb); have HC28 := Aside0.mk (Lb.blk_below HC2.out hb); have HS8 := Aside0.mk (HSG.out.step hb); have HB8 := Aside0.mk (below_step HBR.out hb); have y0 := (blk_cell HC68.out 0).trans rfl; have y1 := (blk_cell HC68.out 1).trans rfl; have y2 := (blk_cell HC68.out 2).trans rfl; have y3 := (blk_cell HC68.out 3).trans rfl; clear hb HT')
                | ((with_reducible refine gate_store (t := 78) (p := 4) rfl ?_); refine Lb.store_whole rfl rfl 78 (.tmp 4) (.tmp 95) rfl (new := #[.int .i64 (tk (sub l 1 8)), .int .i64 (tk (sub l 9 8)), .int .i64 (tk (sub l 17 8)), vS]) rfl rfl HC28.out rfl (by kernel_rfl) (by intro q hq; simp only [List.mem_cons, List.not_mem_nil, or_false] at hq; rcases hq with rfl | rfl | rfl | rfl; rfl; rfl; rfl; exact (own_cells HSG.out).2) ?_; intro w9 hb hg; have HX9 := Aside0.mk hb; have HG9 := Aside0.mk hg; clear hb hg))
              have v0 := (blk_cell HX9.out 0).trans rfl
              have v1 := (blk_cell HX9.out 1).trans rfl
              have v2 := (blk_cell HX9.out 2).trans rfl
              have v3 := (blk_cell HX9.out 3).trans rfl
              have hk9 := types_blk HC28.out HG9.out
              have T1 := (tk_fit _ L1.out).2.1 HTOP.out.1
              have T2 := (tk_fit _ L2.out).2.1 HTOP.out.2.1
              have T3 := (tk_fit _ L3.out).2.1 HTOP.out.2.2
              exact bodyPost_ret (v := .tuple #[.agg #[.int .i64 (tk (sub l 1 8)), .int .i64 (tk (sub l 9 8)), .int .i64 (tk (sub l 17 8)), vS], .bool true]) (by simp [results, Tryd.results35, go_sem, v0, v1, v2, v3]) rfl
                (by
                  rw [show tk (sub l 1 8) = (beN (sub l 1 8) : Int) from T1, show tk (sub l 9 8) = (beN (sub l 9 8) : Int) from T2, show tk (sub l 17 8) = (beN (sub l 17 8) : Int) from T3]
                  exact CpPost.some HYES.out (own_keep HS8.out (fun k cs f hr => hk9 _ _ _ _ (by decide) hr)) (Lb.grown_below HB8.out HG9.out HB8.out.size (by have := HG2.out; omega)))
          | succ gk =>
            have hii : (i : Int) < (n : Int) := by omega
            have hi64 : (i : Int) ≤ 64 := by omega
            have hi64n : i ≤ 64 := by omega
            have hixa := index_at l (26 + 2 * i) (26 + 2 * (i : Int)) (by omega) (by omega)
            have hixb := index_at l (27 + 2 * i) (27 + 2 * (i : Int)) (by omega) (by omega)
            have HST := Aside0.mk (segsOf_step l S i gk acc (by omega))
            obtain ⟨xa, hxa⟩ : ∃ xa, xa = beN (sub l (26 + 2 * i) 1) := ⟨_, rfl⟩
            obtain ⟨xb, hxb⟩ : ∃ xb, xb = beN (sub l (27 + 2 * i) 1) := ⟨_, rfl⟩
            have hxa' := beN_byte l (26 + 2 * i)
            have hxb' := beN_byte l (27 + 2 * i)
            rw [← hxa] at hixa HST hxa'
            rw [← hxb] at hixb HST hxb'
            clear hxa hxb
            go_upto_region 8 with fail
            go_cut [9] from 49 to 86 (fun s9 wx => ∃ g9 : Nat, s9 = .pointer (some ⟨g9, 0, none⟩) ∧ Aside0 (wx.heap[g9]? = some (.cells #[.int .i64 xa, .int .i64 xb] 71 (0, 0))) ∧ Aside0 (Below wr.heap.size wr wx) ∧ Aside0 (wr.heap.size ≤ g9))
            case first =>
              go_region
              all_goals
                go_wp2_with fail
                go_meet
                exact ⟨_, rfl, ⟨Lb.blk_below (blk_new wr _) (Lb.below_drew _)⟩, ⟨below_step (below_alloc (Below.refl _ _) _) (Lb.below_drew _)⟩, ⟨Nat.le_refl _⟩⟩
            case rest =>
              obtain ⟨g9, rfl, HX9, HB9, HG9⟩ := hcut
              obtain ⟨wd, hwd⟩ : ∃ wd, wd = wc := ⟨_, rfl⟩
              subst hwd
              have HX := Aside0.mk (Lb.blk_below HC2.out HB9.out)
              have HC6d := Aside0.mk (Lb.blk_below HC6.out HB9.out)
              have HSd := Aside0.mk (HSG.out.step HB9.out)
              have HBW := Aside0.mk (below_step HBR.out HB9.out)
              have x0 : wd.cell? ⟨g9, 0, none⟩ = some (.int .i64 xa) := (blk_cell HX9.out 0).trans rfl
              have x1 : wd.cell? ⟨g9, 1, none⟩ = some (.int .i64 xb) := (blk_cell HX9.out 1).trans rfl
              have z3 := (blk_cell HC6d.out 3).trans rfl
              have hmf : ∀ (fn : Fn) (first cap : Array Value) (w : World), (Instr.makeFunc fn first cap).run Tryd.prog w = .ok (.func fn first cap) w := fun _ _ _ _ => rfl
              by_cases kA : S ≤ xa
              · have HNO : Aside0 (cpOf l S = none) := ⟨by rw [HCP.out, ← HSO.out, HST.out, if_pos (.inl kA)]⟩
                have kAi : (S : Int) ≤ (xa : Int) := by omega
                go_wp2_with (first
                  | ((with_reducible refine gate_store (t := 78) (p := 4) rfl ?_); refine Lb.store_whole rfl rfl 78 (.tmp 4) (.tmp 79) rfl (new := #[.int .i64 0, .int .i64 0, .int .i64 0, .slice none 0 0]) rfl rfl HX.out rfl (by kernel_rfl) (by simp [Value.oneCell']) ?_; intro w9 hb hg; have HX9 := Aside0.mk hb; have HB9 := Aside0.mk (Lb.grown_below HBW.out hg HBW.out.size (by have := HG2.out; omega)); clear hb hg))
                have v0 := (blk_cell HX9.out 0).trans rfl
                have v1 := (blk_cell HX9.out 1).trans rfl
                have v2 := (blk_cell HX9.out 2).trans rfl
                have v3 := (blk_cell HX9.out 3).trans rfl
                exact bodyPost_ret (v := .tuple #[.agg #[.int .i64 0, .int .i64 0, .int .i64 0, .slice none 0 0], .bool false]) (by simp [results, Tryd.results35, go_sem, v0, v1, v2, v3]) rfl (CpPost.none HNO.out HB9.out)
              · have kAi : ¬ (S : Int) ≤ (xa : Int) := by omega
                by_cases kB : 16 < xb
                · have HNO : Aside0 (cpOf l S = none) := ⟨by rw [HCP.out, ← HSO.out, HST.out, if_pos (.inr (.inl kB))]⟩
                  have kBi : (16 : Int) < (xb : Int) := by omega
                  go_wp2_with (first
                    | ((with_reducible refine gate_store (t := 78) (p := 4) rfl ?_); refine Lb.store_whole rfl rfl 78 (.tmp 4) (.tmp 79) rfl (new := #[.int .i64 0, .int .i64 0, .int .i64 0, .slice none 0 0]) rfl rfl HX.out rfl (by kernel_rfl) (by simp [Value.oneCell']) ?_; intro w9 hb hg; have HX9 := Aside0.mk hb; have HB9 := Aside0.mk (Lb.grown_below HBW.out hg HBW.out.size (by have := HG2.out; omega)); clear hb hg))
                  have v0 := (blk_cell HX9.out 0).trans rfl
                  have v1 := (blk_cell HX9.out 1).trans rfl
                  have v2 := (blk_cell HX9.out 2).trans rfl
                  have v3 := (blk_cell HX9.out 3).trans rfl
                  exact bodyPost_ret (v := .tuple #[.agg #[.int .i64 0, .int .i64 0, .int .i64 0, .slice none 0 0], .bool false]) (by simp [results, Tryd.results35, go_sem, v0, v1, v2, v3]) rfl (CpPost.none HNO.out HB9.out)
                · have kBi : ¬ (16 : Int) < (xb : Int) := by omega
                  have hal : acc.length ≤ 1000000 := by have := HAL.out; omega
                  cases kC : acc.any (isId (xa : Int)) with
                  | true =>
                    have HNO : Aside0 (cpOf l S = none) := ⟨by rw [HCP.out, ← HSO.out, HST.out, if_pos (.inr (.inr kC))]⟩
                    have KC := Aside0.mk kC
                    clear kC
                    go_wp2_with (first
                      | (go_at_call 58; (with_reducible refine (contains_c_calls w.heap.size vS acc xa g9 true KC.out wd HSd.out x0 hal).mono ?_); rintro e w8 ⟨rfl, hb⟩; replace HX := Aside0.mk (Lb.blk_below HX.out hb); replace HBW := Aside0.mk (below_step HBW.out hb); clear hb x0 x1 z3)
                      | ((with_reducible refine gate_store (t := 78) (p := 4) rfl ?_); refine Lb.store_whole rfl rfl 78 (.tmp 4) (.tmp 79) rfl (new := #[.int .i64 0, .int .i64 0, .int .i64 0, .slice none 0 0]) rfl rfl HX.out rfl (by kernel_rfl) (by simp [Value.oneCell']) ?_; intro w9 hb hg; have HX9 := Aside0.mk hb; have HB9 := Aside0.mk (Lb.grown_below HBW.out hg HBW.out.size (by have := HG2.out; omega)); clear hb hg))
                    have v0 := (blk_cell HX9.out 0).trans rfl
                    have v1 := (blk_cell HX9.out 1).trans rfl
                    have v2 := (blk_cell HX9.out 2).trans rfl
                    have v3 := (blk_cell HX9.out 3).trans rfl
                    exact bodyPost_ret (v := .tuple #[.agg #[.int .i64 0, .int .i64 0, .int .i64 0, .slice none 0 0], .bool false]) (by simp [results, Tryd.results35, go_sem, v0, v1, v2, v3]) rfl (CpPost.none HNO.out HB9.out)
                  | false =>
                    have HSN : Aside0 (segsOf S gk (l.drop (26 + 2 * (i + 1))) (acc ++ [⟨xa, xb⟩]) = segsOf S n (l.drop 26) []) := ⟨by rw [← HSO.out, HST.out, if_neg (by rintro (h | h | h); exact kA h; exact kB h; rw [kC] at h; cases h)]⟩
                    have KC := Aside0.mk kC
                    clear kC
                    have hlen : Aside0 (acc.length + 1 ≤ 1000000000) := ⟨by omega⟩
                    go_wp2_with (first
                      | (go_at_call 58; (with_reducible refine (contains_c_calls w.heap.size vS acc xa g9 false KC.out wd HSd.out x0 hal).mono ?_); rintro e w8 ⟨rfl, hb⟩; have HX8 := Aside0.mk (Lb.blk_below HX.out hb); have HC68 := Aside0.mk (Lb.blk_below HC6d.out hb); have HS8 := Aside0.mk (HSd.out.step hb); have HB8 := Aside0.mk (below_step HBW.out hb); have HX98 := Aside0.mk (Lb.blk_below HX9.out hb); have x0' := (blk_cell HX98.out 0).trans rfl; have x1' := (blk_cell HX98.out 1).trans rfl; have z3' := (blk_cell HC68.out 3).trans rfl; clear hb x0 x1 z3)
                      | ((with_reducible refine gate_dst (N := 83) rfl ?_); refine Lb.alloc_event ?hg (v := fun g => .slice (some ⟨g, 0, none⟩) 1 1) (cs := #[.int .i64 xa, .int .i64 xb]) (t := 71) (fr := (0, 0)) ?hr ?_; (case hg => rfl); (case hr => first | (go_simp; done) | (go_simp; rfl)); intro g3 hg3 w3 hx hb; have HNB : Aside0 (NewBlk w8 w3 g3 #[.int .i64 xa, .int .i64 xb] 71) := ⟨⟨hx, hb⟩⟩; clear hx hb hg3)
                      | (at_builtin; refine app_event (w0 := w8) rfl (.tmp 81) (.tmp 83) 67 71 _ 2 16 rfl Tryd.underlying67 seg_info rfl (by decide) (by decide) (B := w.heap.size) (n := acc.length) (m := 1) (v := vS) (xs := flatS acc) (news := [.int .i64 xa, .int .i64 xb]) rfl HS8.out HNB.out rfl rfl (by simp [Value.oneCell']) HB8.out.size hlen.out ?_; intro v' w4 ha; have HA := Aside0.mk ha; clear ha x0' x1' z3')
                      | ((with_reducible refine gate_store (t := 67) (p := 85) rfl ?_); refine Lb.store_one rfl rfl 67 (.tmp 85) (.tmp 84) rfl (g := g6) (off := 3) (u := v') rfl rfl (own_cells HA.out.own).1 (own_cells HA.out.own).2 (HA.out.keep _ _ _ _ (by decide) HC68.out) (by kernel_rfl) (by simp) ?_; intro w5 hb hg; have HC65 := Aside0.mk hb; have HG5 := Aside0.mk hg; clear hb hg))
                    go_roundg gk
                    case measure => omega
                    case rel =>
                      have k6 := HA.out.keep _ _ _ _ (by decide) HC68.out
                      have hk5 := types_blk k6 HG5.out
                      refine ⟨i + 1, v', acc ++ [⟨xa, xb⟩], by omega, by first | rfl | (congr 1; unfold wrap64; omega), ⟨HC65.out⟩, ⟨Lb.blk_grown' (HA.out.keep _ _ _ _ (by decide) HX8.out) HG5.out HNE.out⟩, ⟨?_⟩, ⟨by rw [List.length_append, HAL.out]; rfl⟩, HSN, ⟨Lb.grown_below (HB8.out.trans HA.out.bel) HG5.out (Nat.le_trans HB8.out.size HA.out.size) (by have := HG6.out; have := HB2.out.size; omega)⟩⟩
                      have ho := own_keep HA.out.own (fun k cs f hr => hk5 _ _ _ _ (by decide) hr)
                      show w5.ownsRow _ _ _ _ _ _
                      rw [flatS_app, List.length_append]
                      exact ho
end Go.Proofs.YtfiocakhgpdlfaaDoor.Sg
