/- A part of a record, out of a sector. -/
import Derived.Test.YtfiocakhgpdlfaaDoorG18
import Derived.Deep.DeepCutAuto
import Derived.Deep.CutRange
import Derived.Deep.RegionWith
namespace Go.Proofs.YtfiocakhgpdlfaaDoor.Sg
open Go.RowKit Go.Lib Go.Proofs.YtfiocakhgpdlfaaDoor.Ap Go.Proofs.YtfiocakhgpdlfaaDoorW.PrintWords Go.Proofs.YtfiocakhgpdlfaaDoorW.PrintLast Go.Proofs.YtfiocakhgpdlfaaDoorW.PrintMore
set_option linter.unusedVariables false
set_option linter.unusedSimpArgs false

theorem taken_any (s : ByteArray) (x : List UInt8) (hx : s = toB x) (hl : x.length ≤ 8) (w : World) : Calls Tryd.prog 56 #[.string s] w fun e w' => e = .returned (.int .i64 (tk x)) ∧ Below w.heap.size w w' := by
  subst hx; exact taken_calls x (by omega) w
theorem taken2_any (s : ByteArray) (x : List UInt8) (hx : s = toB x) (hl : x.length ≤ 2) (w : World) : Calls Tryd.prog 56 #[.string s] w fun e w' => e = .returned (.int .i64 (beN x)) ∧ Below w.heap.size w w' := by
  subst hx
  have := taken_calls x (by omega) w
  rw [tk_small x (by omega)] at this
  exact this
theorem toB_extract (l : List UInt8) (a b : Nat) : (toB l).extract a b = toB (sub l a (b - a)) := by
  apply ByteArray.ext
  apply Array.toList_inj.1
  simp [toB, sub]
theorem sub_length (l : List UInt8) (a n : Nat) (h : a + n ≤ l.length) : (sub l a n).length = n := by simp [sub]; omega

def partV : Option Part → Value
  | none => .agg #[.int .i64 0, .int .i64 0, .int .i64 0, .int .i64 0, .string ⟨#[]⟩]
  | some p => .agg #[.int .i64 p.boot, .int .i64 p.seq, .int .i64 p.n, .int .i64 p.of, .string (toB p.body)]

theorem head_iff (l : List UInt8) (h : 0 < (toB l).size) : l.head? = some 82 ↔ (((toB l)[0]'h).toNat : Int) = 82 := by
  cases l with
  | nil => simp [toB, ByteArray.size] at h
  | cons a r =>
    have e : ((toB (a :: r))[0]'h) = a := rfl
    rw [e, List.head?_cons, Option.some.injEq]
    constructor
    · intro h; rw [h]; rfl
    · intro h; apply UInt8.toNat_inj.1; have : a.toNat = 82 := by omega
      rw [this]; rfl
theorem fits2_false (a b : List UInt8) (ha : a.length ≤ 8) (hb : b.length ≤ 8) (h : fitsI [tk a, tk b] = false) : top < beN a ∨ top < beN b := by
  have h1 := (tk_fit a ha).1
  have h2 := (tk_fit b hb).1
  refine Classical.byContradiction fun hn => ?_
  have h3 := h1.2 (by omega)
  have h4 := h2.2 (by omega)
  simp [fitsI] at h
  omega
theorem fits2_true (a b : List UInt8) (ha : a.length ≤ 8) (hb : b.length ≤ 8) (h : fitsI [tk a, tk b] = true) : beN a ≤ top ∧ beN b ≤ top := by
  simp [fitsI] at h
  exact ⟨(tk_fit a ha).1.1 h.1, (tk_fit b hb).1.1 h.2⟩
theorem partOf_eq {l : List UInt8} {p : Part} (h : partOf l = some p) : p = ⟨beN (sub l 1 8), beN (sub l 9 8), beN (sub l 17 2), beN (sub l 19 2), sub l 23 (beN (sub l 21 2))⟩ ∧ beN (sub l 21 2) ≤ 233 ∧ beN (sub l 1 8) ≤ top ∧ beN (sub l 9 8) ≤ top := by
  unfold partOf at h
  split at h
  · cases h
  · rename_i hn
    injection h with h
    simp only [not_or, Nat.not_lt, Nat.not_le] at hn
    exact ⟨h.symm, hn.2.2.2.2.2.2, hn.2.1, hn.2.2.1⟩
theorem put5 {w : World} {g : Nat} {x0 x1 x2 x3 x4 a b c d e : Value} {t : TypeId} (h : w.heap[g]? = some (.cells #[x0, x1, x2, x3, x4] t (0, 0))) :
    (((((w.setCell ⟨g, 0, none⟩ a).setCell ⟨g, 1, none⟩ b).setCell ⟨g, 2, none⟩ c).setCell ⟨g, 3, none⟩ d).setCell ⟨g, 4, none⟩ e).heap[g]? = some (.cells #[a, b, c, d, e] t (0, 0)) ∧
    w.grownBy (((((w.setCell ⟨g, 0, none⟩ a).setCell ⟨g, 1, none⟩ b).setCell ⟨g, 2, none⟩ c).setCell ⟨g, 3, none⟩ d).setCell ⟨g, 4, none⟩ e) (some g) := by
  have h0 := Lb.setCell_block w g 0 _ t a h
  have h1 := Lb.setCell_block _ g 1 _ t b h0
  have h2 := Lb.setCell_block _ g 2 _ t c h1
  have h3 := Lb.setCell_block _ g 3 _ t d h2
  have h4 := Lb.setCell_block _ g 4 _ t e h3
  exact ⟨h4, Lb.grown_trans (Lb.grown_trans (Lb.grown_trans (Lb.grown_trans (Lb.setCell_grown w g 0 _ t a h) (Lb.setCell_grown _ g 1 _ t b h0)) (Lb.setCell_grown _ g 2 _ t c h1)) (Lb.setCell_grown _ g 3 _ t d h2)) (Lb.setCell_grown _ g 4 _ t e h3)⟩
theorem blk_free {w : World} {g : Nat} {cs : Array Value} {t : TypeId} (h : w.heap[g]? = some (.cells cs t (0, 0))) (i : Nat) : w.frozen? ⟨g, i, none⟩ = false := by simp [World.frozen?, h]
set_option maxRecDepth 100000 in
set_option maxHeartbeats 4000000 in
theorem partOf_calls (l : List UInt8) (hl : l.length = 256) (w : World) :
    Calls Tryd.prog 75 #[.string (toB l)] w fun e w' => e = .returned (.tuple #[partV (partOf l), .bool (partOf l).isSome]) ∧ Below w.heap.size w w' := by
  have hsz : (toB l).size = 256 := by rw [toB_size, hl]
  have E1 := Aside0.mk (toB_extract l 1 9)
  have E2 := Aside0.mk (toB_extract l 9 17)
  have E3 := Aside0.mk (toB_extract l 17 19)
  have E4 := Aside0.mk (toB_extract l 19 21)
  have E5 := Aside0.mk (toB_extract l 21 23)
  have L1 : Aside0 ((sub l 1 (9 - 1)).length ≤ 8) := ⟨by rw [sub_length _ _ _ (by omega)]; omega⟩
  have L2 : Aside0 ((sub l 9 (17 - 9)).length ≤ 8) := ⟨by rw [sub_length _ _ _ (by omega)]; omega⟩
  have L3 : Aside0 ((sub l 17 (19 - 17)).length ≤ 2) := ⟨by rw [sub_length _ _ _ (by omega)]; omega⟩
  have L4 : Aside0 ((sub l 19 (21 - 19)).length ≤ 2) := ⟨by rw [sub_length _ _ _ (by omega)]; omega⟩
  have L5 : Aside0 ((sub l 21 (23 - 21)).length ≤ 2) := ⟨by rw [sub_length _ _ _ (by omega)]; omega⟩
  have HB0 := Aside0.mk (Below.refl w.heap.size w)
  go_enter Tryd.func75, Tryd.ntmps75
  go_upto_region 1 with (first
    | ((with_reducible refine gate_dst (N := 2) rfl ?_); refine Lb.alloc_event ?hg (v := fun g => .pointer (some ⟨g, 0, none⟩)) (cs := #[.int .i64 0, .int .i64 0, .int .i64 0, .int .i64 0, .string ⟨#[]⟩]) (t := 134) (fr := (0, 0)) ?hr ?_; (case hg => rfl); (case hr => first | (go_simp; done) | (go_simp; rfl)); intro g2 hg2 w2 hx hb; have HX2 := Aside0.mk hx; have HB2 := Aside0.mk hb; have HG2 := Aside0.mk hg2; clear hx hb hg2))
  go_cut [4] (fun s4 wx => ∃ g4 : Nat, s4 = .pointer (some ⟨g4, 0, none⟩) ∧ Aside0 (wx.heap[g4]? = some (.cells #[.int .i64 (tk (sub l 1 8)), .int .i64 (tk (sub l 9 8)), .int .i64 (beN (sub l 17 2)), .int .i64 (beN (sub l 19 2)), .string ⟨#[]⟩] 134 (0, 0))) ∧ Aside0 (Below w2.heap.size w2 wx) ∧ Aside0 (w2.heap.size ≤ g4))
  case first =>
    have HK := Aside0.mk (Lb.below_drew w2)
    go_region_with (first
      | (go_at_call 56; (with_reducible refine (taken_any _ _ E1.out L1.out _).mono ?_); rintro e w5 ⟨rfl, hb⟩; (first | (replace HK := Aside0.mk (below_step HK.out hb); try (replace HP := Aside0.mk (Lb.blk_below HP.out hb))) | (have HP := Aside0.mk (Lb.blk_below (blk_new _ _) hb); have HGP := Aside0.mk HK.out.size; replace HK := Aside0.mk (below_step (below_step HK.out (below_alloc (Below.refl _ _) _)) hb)) | (have HP := Aside0.mk (Lb.blk_below (Lb.blk_below (blk_new w2 _) (Lb.below_drew _)) hb); have HGP := Aside0.mk (Nat.le_refl w2.heap.size); replace HK := Aside0.mk (below_step (below_step (below_alloc (Below.refl _ w2) _) (Lb.below_drew _)) hb))); try (have p0 := (blk_cell HP.out 0).trans rfl; have p1 := (blk_cell HP.out 1).trans rfl; have p2 := (blk_cell HP.out 2).trans rfl; have p3 := (blk_cell HP.out 3).trans rfl; have p4 := (blk_cell HP.out 4).trans rfl; have f0 := blk_free HP.out 0; have f1 := blk_free HP.out 1; have f2 := blk_free HP.out 2; have f3 := blk_free HP.out 3; have f4 := blk_free HP.out 4); clear hb)
      | (go_at_call 56; (with_reducible refine (taken_any _ _ E2.out L2.out _).mono ?_); rintro e w5 ⟨rfl, hb⟩; (first | (replace HK := Aside0.mk (below_step HK.out hb); try (replace HP := Aside0.mk (Lb.blk_below HP.out hb))) | (have HP := Aside0.mk (Lb.blk_below (blk_new _ _) hb); have HGP := Aside0.mk HK.out.size; replace HK := Aside0.mk (below_step (below_step HK.out (below_alloc (Below.refl _ _) _)) hb)) | (have HP := Aside0.mk (Lb.blk_below (Lb.blk_below (blk_new w2 _) (Lb.below_drew _)) hb); have HGP := Aside0.mk (Nat.le_refl w2.heap.size); replace HK := Aside0.mk (below_step (below_step (below_alloc (Below.refl _ w2) _) (Lb.below_drew _)) hb))); try (have p0 := (blk_cell HP.out 0).trans rfl; have p1 := (blk_cell HP.out 1).trans rfl; have p2 := (blk_cell HP.out 2).trans rfl; have p3 := (blk_cell HP.out 3).trans rfl; have p4 := (blk_cell HP.out 4).trans rfl; have f0 := blk_free HP.out 0; have f1 := blk_free HP.out 1; have f2 := blk_free HP.out 2; have f3 := blk_free HP.out 3; have f4 := blk_free HP.out 4); clear hb)
      | (go_at_call 56; (with_reducible refine (taken2_any _ _ E3.out L3.out _).mono ?_); rintro e w5 ⟨rfl, hb⟩; (first | (replace HK := Aside0.mk (below_step HK.out hb); try (replace HP := Aside0.mk (Lb.blk_below HP.out hb))) | (have HP := Aside0.mk (Lb.blk_below (blk_new _ _) hb); have HGP := Aside0.mk HK.out.size; replace HK := Aside0.mk (below_step (below_step HK.out (below_alloc (Below.refl _ _) _)) hb)) | (have HP := Aside0.mk (Lb.blk_below (Lb.blk_below (blk_new w2 _) (Lb.below_drew _)) hb); have HGP := Aside0.mk (Nat.le_refl w2.heap.size); replace HK := Aside0.mk (below_step (below_step (below_alloc (Below.refl _ w2) _) (Lb.below_drew _)) hb))); try (have p0 := (blk_cell HP.out 0).trans rfl; have p1 := (blk_cell HP.out 1).trans rfl; have p2 := (blk_cell HP.out 2).trans rfl; have p3 := (blk_cell HP.out 3).trans rfl; have p4 := (blk_cell HP.out 4).trans rfl; have f0 := blk_free HP.out 0; have f1 := blk_free HP.out 1; have f2 := blk_free HP.out 2; have f3 := blk_free HP.out 3; have f4 := blk_free HP.out 4); clear hb)
      | (go_at_call 56; (with_reducible refine (taken2_any _ _ E4.out L4.out _).mono ?_); rintro e w5 ⟨rfl, hb⟩; (first | (replace HK := Aside0.mk (below_step HK.out hb); try (replace HP := Aside0.mk (Lb.blk_below HP.out hb))) | (have HP := Aside0.mk (Lb.blk_below (blk_new _ _) hb); have HGP := Aside0.mk HK.out.size; replace HK := Aside0.mk (below_step (below_step HK.out (below_alloc (Below.refl _ _) _)) hb)) | (have HP := Aside0.mk (Lb.blk_below (Lb.blk_below (blk_new w2 _) (Lb.below_drew _)) hb); have HGP := Aside0.mk (Nat.le_refl w2.heap.size); replace HK := Aside0.mk (below_step (below_step (below_alloc (Below.refl _ w2) _) (Lb.below_drew _)) hb))); try (have p0 := (blk_cell HP.out 0).trans rfl; have p1 := (blk_cell HP.out 1).trans rfl; have p2 := (blk_cell HP.out 2).trans rfl; have p3 := (blk_cell HP.out 3).trans rfl; have p4 := (blk_cell HP.out 4).trans rfl; have f0 := blk_free HP.out 0; have f1 := blk_free HP.out 1; have f2 := blk_free HP.out 2; have f3 := blk_free HP.out 3; have f4 := blk_free HP.out 4); clear hb))
    all_goals
      go_wp2_with fail
      go_meet
      first
        | exact ⟨_, rfl, ⟨(put5 HP.out).1⟩, ⟨Lb.grown_below HK.out (put5 HP.out).2 HK.out.size HGP.out⟩, HGP⟩
        | exact ⟨_, rfl, ⟨blk_new _ _⟩, ⟨below_step HK.out (below_alloc (Below.refl _ _) _)⟩, ⟨HK.out.size⟩⟩
  case rest =>
    obtain ⟨g4, rfl, HX4, HB4, HG4⟩ := hcut
    go_upto_region 3 with (first
      | (go_at_call 56; (with_reducible refine (taken2_any _ _ E5.out L5.out _).mono ?_); rintro e w6 ⟨rfl, hb⟩; have HX6 := Aside0.mk (Lb.blk_below HX4.out hb); have HB6 := Aside0.mk (below_step HB4.out hb); clear hb))
    have HB7 := Aside0.mk (Below.refl w6.heap.size w6)
    have hlt : 0 < (toB l).size := by omega
    have H0 : Aside0 (l.head? = some 82 ↔ (((toB l)[0]'hlt).toNat : Int) = 82) := ⟨head_iff l hlt⟩
    go_cut [54] (fun s54 wx => s54 = .bool (!(partOf l).isSome) ∧ Aside0 (Below w6.heap.size w6 wx))
    case first =>
      have c0 := (blk_cell HX6.out 0).trans rfl
      have c1 := (blk_cell HX6.out 1).trans rfl
      have c2 := (blk_cell HX6.out 2).trans rfl
      have c3 := (blk_cell HX6.out 3).trans rfl
      by_cases k0 : (((toB l)[0]'hlt).toNat : Int) = 82
      · cases hF : fitsI [tk (sub l 1 8), tk (sub l 9 8)] with
        | false =>
          have HFI := Aside0.mk hF
          have HP : Aside0 (partOf l = none) := ⟨by
            unfold partOf
            have := fits2_false _ _ L1.out L2.out hF
            rw [if_pos (by rcases this with h | h; exact .inr (.inl h); exact .inr (.inr (.inl h)))]⟩
          clear hF
          go_wp2_with (first
          | (go_at_call 57; (with_reducible refine (fits2_calls _ _ _ _ HFI.out _ (blk_new w6 _)).mono ?_); rintro e w8 ⟨rfl, hb⟩; replace HB7 := Aside0.mk (below_step (below_step HB7.out (below_alloc (Below.refl _ _) _)) hb); have c2 := (blk_cell (Lb.blk_below (Lb.blk_below HX6.out (below_alloc (Below.refl _ _) _)) hb) 2).trans rfl; have c3 := (blk_cell (Lb.blk_below (Lb.blk_below HX6.out (below_alloc (Below.refl _ _) _)) hb) 3).trans rfl; clear hb))
          go_meet
          exact ⟨by rw [HP.out]; rfl, HB7⟩
        | true =>
          have HFI := Aside0.mk hF
          clear hF
          by_cases k1 : beN (sub l 19 2) < 1
          · have HP : Aside0 (partOf l = none) := ⟨by unfold partOf; rw [if_pos (.inr (.inr (.inr (.inl k1))))]⟩
            have k1i : ((beN (sub l 19 2) : Nat) : Int) < 1 := by omega
            go_wp2_with (first
          | (go_at_call 57; (with_reducible refine (fits2_calls _ _ _ _ HFI.out _ (blk_new w6 _)).mono ?_); rintro e w8 ⟨rfl, hb⟩; replace HB7 := Aside0.mk (below_step (below_step HB7.out (below_alloc (Below.refl _ _) _)) hb); have c2 := (blk_cell (Lb.blk_below (Lb.blk_below HX6.out (below_alloc (Below.refl _ _) _)) hb) 2).trans rfl; have c3 := (blk_cell (Lb.blk_below (Lb.blk_below HX6.out (below_alloc (Below.refl _ _) _)) hb) 3).trans rfl; clear hb))
            go_meet
            exact ⟨by rw [HP.out]; rfl, HB7⟩
          · have k1i : ¬ ((beN (sub l 19 2) : Nat) : Int) < 1 := by omega
            by_cases k2 : 16 < beN (sub l 19 2)
            · have HP : Aside0 (partOf l = none) := ⟨by unfold partOf; rw [if_pos (.inr (.inr (.inr (.inr (.inl k2)))))]⟩
              have k2i : (16 : Int) < ((beN (sub l 19 2) : Nat) : Int) := by omega
              go_wp2_with (first
          | (go_at_call 57; (with_reducible refine (fits2_calls _ _ _ _ HFI.out _ (blk_new w6 _)).mono ?_); rintro e w8 ⟨rfl, hb⟩; replace HB7 := Aside0.mk (below_step (below_step HB7.out (below_alloc (Below.refl _ _) _)) hb); have c2 := (blk_cell (Lb.blk_below (Lb.blk_below HX6.out (below_alloc (Below.refl _ _) _)) hb) 2).trans rfl; have c3 := (blk_cell (Lb.blk_below (Lb.blk_below HX6.out (below_alloc (Below.refl _ _) _)) hb) 3).trans rfl; clear hb))
              go_meet
              exact ⟨by rw [HP.out]; rfl, HB7⟩
            · have k2i : ¬ (16 : Int) < ((beN (sub l 19 2) : Nat) : Int) := by omega
              by_cases k3 : beN (sub l 19 2) ≤ beN (sub l 17 2)
              · have HP : Aside0 (partOf l = none) := ⟨by unfold partOf; rw [if_pos (.inr (.inr (.inr (.inr (.inr (.inl k3))))))]⟩
                have k3i : ((beN (sub l 19 2) : Nat) : Int) ≤ ((beN (sub l 17 2) : Nat) : Int) := by omega
                go_wp2_with (first
          | (go_at_call 57; (with_reducible refine (fits2_calls _ _ _ _ HFI.out _ (blk_new w6 _)).mono ?_); rintro e w8 ⟨rfl, hb⟩; replace HB7 := Aside0.mk (below_step (below_step HB7.out (below_alloc (Below.refl _ _) _)) hb); have c2 := (blk_cell (Lb.blk_below (Lb.blk_below HX6.out (below_alloc (Below.refl _ _) _)) hb) 2).trans rfl; have c3 := (blk_cell (Lb.blk_below (Lb.blk_below HX6.out (below_alloc (Below.refl _ _) _)) hb) 3).trans rfl; clear hb))
                go_meet
                exact ⟨by rw [HP.out]; rfl, HB7⟩
              · have k3i : ¬ ((beN (sub l 19 2) : Nat) : Int) ≤ ((beN (sub l 17 2) : Nat) : Int) := by omega
                by_cases k4 : 233 < beN (sub l 21 2)
                · have HP : Aside0 (partOf l = none) := ⟨by unfold partOf; rw [if_pos (.inr (.inr (.inr (.inr (.inr (.inr k4))))))]⟩
                  have k4i : (233 : Int) < ((beN (sub l 21 2) : Nat) : Int) := by omega
                  go_wp2_with (first
          | (go_at_call 57; (with_reducible refine (fits2_calls _ _ _ _ HFI.out _ (blk_new w6 _)).mono ?_); rintro e w8 ⟨rfl, hb⟩; replace HB7 := Aside0.mk (below_step (below_step HB7.out (below_alloc (Below.refl _ _) _)) hb); have c2 := (blk_cell (Lb.blk_below (Lb.blk_below HX6.out (below_alloc (Below.refl _ _) _)) hb) 2).trans rfl; have c3 := (blk_cell (Lb.blk_below (Lb.blk_below HX6.out (below_alloc (Below.refl _ _) _)) hb) 3).trans rfl; clear hb))
                  go_meet
                  exact ⟨by rw [HP.out]; rfl, HB7⟩
                · have k4i : ¬ (233 : Int) < ((beN (sub l 21 2) : Nat) : Int) := by omega
                  have HP : Aside0 ((partOf l).isSome = true) := ⟨by
                    obtain ⟨f1, f2⟩ := fits2_true _ _ L1.out L2.out HFI.out
                    have f1' : ¬ top < beN (sub l 1 8) := by have : beN (sub l 1 8) ≤ top := f1; omega
                    have f2' : ¬ top < beN (sub l 9 8) := by have : beN (sub l 9 8) ≤ top := f2; omega
                    unfold partOf
                    rw [if_neg (by
                      intro h
                      rcases h with h | h | h | h | h | h | h
                      · exact h (H0.out.2 k0)
                      · exact f1' h
                      · exact f2' h
                      · exact k1 h
                      · exact k2 h
                      · exact k3 h
                      · exact k4 h)]
                    rfl⟩
                  go_wp2_with (first
          | (go_at_call 57; (with_reducible refine (fits2_calls _ _ _ _ HFI.out _ (blk_new w6 _)).mono ?_); rintro e w8 ⟨rfl, hb⟩; replace HB7 := Aside0.mk (below_step (below_step HB7.out (below_alloc (Below.refl _ _) _)) hb); have c2 := (blk_cell (Lb.blk_below (Lb.blk_below HX6.out (below_alloc (Below.refl _ _) _)) hb) 2).trans rfl; have c3 := (blk_cell (Lb.blk_below (Lb.blk_below HX6.out (below_alloc (Below.refl _ _) _)) hb) 3).trans rfl; clear hb))
                  go_meet
                  exact ⟨by rw [HP.out, decide_eq_false (show ¬ ((beN (sub l 19 2) : Nat) : Int) < 1 by omega), decide_eq_false (show ¬ (16 : Int) < ((beN (sub l 19 2) : Nat) : Int) by omega), decide_eq_false (show ¬ (233 : Int) < ((beN (sub l 21 2) : Nat) : Int) by omega)]; rfl, HB7⟩
      · have HP : Aside0 (partOf l = none) := ⟨by unfold partOf; rw [if_pos (.inl (fun h => k0 (H0.out.1 h)))]⟩
        go_wp2_with (first
          | (go_at_call 57; (with_reducible refine (fits2_calls _ _ _ _ HFI.out _ (blk_new w6 _)).mono ?_); rintro e w8 ⟨rfl, hb⟩; replace HB7 := Aside0.mk (below_step (below_step HB7.out (below_alloc (Below.refl _ _) _)) hb); have c2 := (blk_cell (Lb.blk_below (Lb.blk_below HX6.out (below_alloc (Below.refl _ _) _)) hb) 2).trans rfl; have c3 := (blk_cell (Lb.blk_below (Lb.blk_below HX6.out (below_alloc (Below.refl _ _) _)) hb) 3).trans rfl; clear hb))
        go_meet
        exact ⟨by rw [HP.out]; rfl, HB7⟩
    case rest =>
      obtain ⟨rfl, HBC⟩ := hcut
      have HX2c := Aside0.mk (Lb.blk_below (Lb.blk_below HX2.out HB6.out) HBC.out)
      have HX4c := Aside0.mk (Lb.blk_below HX6.out HBC.out)
      have HBW := Aside0.mk (below_step (below_step HB2.out HB6.out) HBC.out)
      cases hP : partOf l with
      | none =>
        go_wp2_with (first
          | ((with_reducible refine gate_store (t := 134) (p := 2) rfl ?_); refine Lb.store_whole rfl rfl 134 (.tmp 2) (.tmp 55) rfl (new := #[.int .i64 0, .int .i64 0, .int .i64 0, .int .i64 0, .string ⟨#[]⟩]) rfl rfl HX2c.out rfl (by kernel_rfl) (by simp [Value.oneCell']) ?_; intro w9 hb hg; have HX9 := Aside0.mk hb; have HG9 := Aside0.mk hg; clear hb hg))
        have v0 := (blk_cell HX9.out 0).trans rfl
        have v1 := (blk_cell HX9.out 1).trans rfl
        have v2 := (blk_cell HX9.out 2).trans rfl
        have v3 := (blk_cell HX9.out 3).trans rfl
        have v4 := (blk_cell HX9.out 4).trans rfl
        exact bodyPost_ret (v := .tuple #[.agg #[.int .i64 0, .int .i64 0, .int .i64 0, .int .i64 0, .string ⟨#[]⟩], .bool false]) (by simp [results, Tryd.results75, go_sem, v0, v1, v2, v3, v4]) rfl ⟨by rw [hP]; rfl, Lb.grown_below HBW.out HG9.out HBW.out.size (by have := HG2.out; omega)⟩
      | some p =>
        obtain ⟨p1, p2, p3, p4⟩ := partOf_eq hP
        have HPE := Aside0.mk p1
        have hu : ((beN (sub l 21 2) : Nat) : Int) ≤ 233 := by omega
        have hsl : ∀ w : World, (Instr.slice 9 (.string (toB l)) (some (.int .i64 23)) (some (.int .i64 (23 + ((beN (sub l 21 2) : Nat) : Int)))) none).run Tryd.prog w = .ok (.string ((toB l).extract 23 (23 + beN (sub l 21 2)))) w := fun w => by
          have h1 := Go.run_slice_string (P := Tryd.prog) w 9 (toB l) .i64 .i64 23 (23 + ((beN (sub l 21 2) : Nat) : Int)) Tryd.underlying9 (by omega) (by omega) (by rw [hsz]; omega)
          exact h1
        have E6 : Aside0 ((toB l).extract 23 (23 + beN (sub l 21 2)) = toB (sub l 23 (beN (sub l 21 2)))) := ⟨by rw [toB_extract]; congr 2; omega⟩
        have T1 := Aside0.mk ((tk_fit _ L1.out).2.1 p3)
        have T2 := Aside0.mk ((tk_fit _ L2.out).2.1 p4)
        clear p1 p2 p3 p4
        have HPP := Aside0.mk hP
        clear hP
        go_wp2_with (first
          | ((with_reducible refine gate_store (t := 9) (p := 60) rfl ?_); refine Lb.store_one rfl rfl 9 (.tmp 60) (.tmp 59) rfl (g := g4) (off := 4) (u := .string ((toB l).extract 23 (23 + beN (sub l 21 2)))) rfl rfl rfl rfl HX4c.out (by kernel_rfl) (by simp) ?_; intro w9 hb hg; rw [E6.out] at hb; have HX9 := Aside0.mk hb; have HB9 := Aside0.mk (Lb.grown_below HBW.out hg HBW.out.size (by have := HB2.out.size; have := HG4.out; omega)); have HX29 := Aside0.mk (Lb.blk_grown' HX2c.out hg (by have := blk_lt HX2.out; have := HG4.out; omega)); have y0 := (blk_cell hb 0).trans rfl; have y1 := (blk_cell hb 1).trans rfl; have y2 := (blk_cell hb 2).trans rfl; have y3 := (blk_cell hb 3).trans rfl; have y4 := (blk_cell hb 4).trans rfl; clear hb hg)
          | ((with_reducible refine gate_store (t := 134) (p := 2) rfl ?_); refine Lb.store_whole rfl rfl 134 (.tmp 2) (.tmp 61) rfl (new := #[.int .i64 (tk (sub l 1 8)), .int .i64 (tk (sub l 9 8)), .int .i64 (beN (sub l 17 2)), .int .i64 (beN (sub l 19 2)), .string (toB (sub l 23 (beN (sub l 21 2))))]) rfl rfl HX29.out rfl (by kernel_rfl) (by simp [Value.oneCell']) ?_; intro w10 hb hg; have HX10 := Aside0.mk hb; have HB10 := Aside0.mk (Lb.grown_below HB9.out hg HB9.out.size (by have := HG2.out; omega)); clear hb hg y0 y1 y2 y3 y4))
        have v0 := (blk_cell HX10.out 0).trans rfl
        have v1 := (blk_cell HX10.out 1).trans rfl
        have v2 := (blk_cell HX10.out 2).trans rfl
        have v3 := (blk_cell HX10.out 3).trans rfl
        have v4 := (blk_cell HX10.out 4).trans rfl
        exact bodyPost_ret (v := .tuple #[.agg #[.int .i64 (tk (sub l 1 8)), .int .i64 (tk (sub l 9 8)), .int .i64 (beN (sub l 17 2)), .int .i64 (beN (sub l 19 2)), .string (toB (sub l 23 (beN (sub l 21 2))))], .bool true]) (by simp [results, Tryd.results75, go_sem, v0, v1, v2, v3, v4]) rfl ⟨by rw [HPP.out, HPE.out, T1.out, T2.out]; rfl, HB10.out⟩
end Go.Proofs.YtfiocakhgpdlfaaDoor.Sg
