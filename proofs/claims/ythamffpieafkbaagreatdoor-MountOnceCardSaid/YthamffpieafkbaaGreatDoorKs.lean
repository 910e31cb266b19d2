/- The kinds of schema's signs and arms, which are nested in each other: their types in Lean, what their cells say, read and made. -/
import Derived.Test.YthamffpieafkbaaGreatDoorProg
import Derived.Test.YthamffpieafkbaaGreatDoorWWords
import Derived.Test.YthamffpieafkbaaGreatDoorWFoot
import Derived.Test.YthamffpieafkbaaGreatDoorWN
import Derived.Test.YthamffpieafkbaaGreatDoorWMore
import Derived.Test.YthamffpieafkbaaGreatDoorWLast
namespace Go.Proofs.YthamffpieafkbaaGreatDoor.PA
open Go.RowKit Go.Proofs.YthamffpieafkbaaGreatDoorW.PrintWords Go.Proofs.YthamffpieafkbaaGreatDoorW.PrintLast Go.Proofs.YthamffpieafkbaaGreatDoorW.PrintMore
set_option linter.unusedVariables false

mutual
inductive S117 where
  | mk (f0 : Int) (f1 : Int) (f2 : List S123)
inductive S123 where
  | mk (f0 : Int) (f1 : Bool) (f2 : List S117)
end
@[reducible] def S117.f0 : S117 → Int | .mk a _ _ => a
@[reducible] def S117.f1 : S117 → Int | .mk _ a _ => a
@[reducible] def S117.f2 : S117 → List S123 | .mk _ _ a => a
@[reducible] def S123.f0 : S123 → Int | .mk a _ _ => a
@[reducible] def S123.f1 : S123 → Bool | .mk _ a _ => a
@[reducible] def S123.f2 : S123 → List S117 | .mk _ _ a => a
def z117 : S117 := ⟨0, 0, []⟩
def z123 : S123 := ⟨0, false, []⟩
/-- a sign, over what is said of arms -/
def G117 (d : Kd S123) : Kd S117 := Kd.iso (Kd.pair (Kd.int .u8) (Kd.pair (Kd.int .i64) (Kd.slice 123 d))) (fun x : S117 => (x.f0, x.f1, x.f2))
theorem gmono : Kd.Mono G117 := Kd.mono_iso _ (Kd.mono_pair (Kd.mono_const _) (Kd.mono_pair (Kd.mono_const _) (Kd.mono_slice 123 Kd.mono_id)))
theorem gsub : Kd.Sub G117 [117, 123] := Kd.sub_iso _ (Kd.sub_pair (Kd.sub_const _ (by decide)) (Kd.sub_pair (Kd.sub_const _ (by decide)) (Kd.sub_slice 123 (by decide) Kd.sub_id)))
def F123 (d : Kd S123) : Kd S123 := Kd.iso (Kd.pair (Kd.int .i64) (Kd.pair Kd.bool (Kd.slice 117 (G117 d)))) (fun x : S123 => (x.f0, x.f1, x.f2))
theorem mono123 : Kd.Mono F123 := Kd.mono_iso _ (Kd.mono_pair (Kd.mono_const _) (Kd.mono_pair (Kd.mono_const _) (Kd.mono_slice 117 gmono)))
theorem sub123 : Kd.Sub F123 [117, 123] := Kd.sub_iso _ (Kd.sub_pair (Kd.sub_const _ (by decide)) (Kd.sub_pair (Kd.sub_const _ (by decide)) (Kd.sub_slice 117 (by decide) gsub)))
theorem sz123 : ∀ n, (Kd.upto F123 3 [117, 123] n).sz = 3 := Kd.upto_sz (fun _ => rfl)
def k123 : Kd S123 := Kd.fix F123 3 [117, 123] sz123 (Kd.upto_E sub123)
def k117 : Kd S117 := G117 k123
theorem k123_heap : Kd.Heap k123 := Kd.heap_fix (fun _ h_ => Kd.heap_iso _ (Kd.heap_pair (Kd.heap_int .i64) (Kd.heap_pair Kd.heap_bool (Kd.heap_slice 117 (Kd.heap_iso _ (Kd.heap_pair (Kd.heap_int .u8) (Kd.heap_pair (Kd.heap_int .i64) (Kd.heap_slice 123 h_))))))))
theorem k117_heap : Kd.Heap k117 := Kd.heap_iso _ (Kd.heap_pair (Kd.heap_int .u8) (Kd.heap_pair (Kd.heap_int .i64) (Kd.heap_slice 123 k123_heap)))

abbrev U (n : Nat) := Kd.upto F123 3 [117, 123] n
theorem gK {n : Nat} {w : World} {x : S117} {c : List Value} (h : (G117 (U n)).K w x c) : k117.K w x c := gmono.K (U n) k123 (sz123 n) (fun w x cs hp => (⟨n, hp⟩ : ∃ n, (U n).K w x cs)) w x c h
theorem gM {n : Nat} {w : World} {base : Nat} {ok : Nat → Prop} {x : S117} {c : List Value} (h : (G117 (U n)).M w base ok x c) : k117.M w base ok x c := gmono.M (U n) k123 (sz123 n) (fun w base ok x cs hp => (⟨n, hp⟩ : ∃ n, (U n).M w base ok x cs)) w base ok x c h
theorem gK_le {n m : Nat} (hnm : n ≤ m) {w : World} {x : S117} {c : List Value} (h : (G117 (U n)).K w x c) : (G117 (U m)).K w x c := gmono.K (U n) (U m) (by rw [sz123 n, sz123 m]) (fun _ _ _ hp => Kd.upto_K_le mono123 sz123 hnm hp) w x c h
theorem gM_le {n m : Nat} (hnm : n ≤ m) {w : World} {base : Nat} {ok : Nat → Prop} {x : S117} {c : List Value} (h : (G117 (U n)).M w base ok x c) : (G117 (U m)).M w base ok x c := gmono.M (U n) (U m) (by rw [sz123 n, sz123 m]) (fun _ _ _ _ _ hp => Kd.upto_M_le mono123 sz123 hnm hp) w base ok x c h
theorem gC {n : Nat} {w : World} {A : Option Addr} {m : Nat} {xs : List S117} (h : (G117 (U n)).C w A m xs) : k117.C w A m xs := Kd.C_imp (d := G117 (U n)) (d' := k117) rfl (fun _ _ _ hp => gK hp) h
theorem gR {n : Nat} {e : Nat} {w : World} {base : Nat} {ok : Nat → Prop} {v : Value} {xs : List S117} (h : (G117 (U n)).R e w base ok v xs) : k117.R e w base ok v xs := Kd.R_imp (d := G117 (U n)) (d' := k117) rfl (fun _ _ _ _ _ hp => gM hp) h
theorem gK_back {w : World} {x : S117} {c : List Value} (h : k117.K w x c) : ∃ n, (G117 (U n)).K w x c := by
  obtain ⟨_, _, rfl, h0, ⟨_, _, rfl, h1, ⟨A2, c2, rfl, l2, g2⟩⟩⟩ := h
  obtain ⟨n, q⟩ := Kd.fix_C_back mono123 g2
  exact ⟨n, _, _, rfl, h0, _, _, rfl, h1, A2, c2, rfl, l2, q⟩
theorem gM_back {w : World} {base : Nat} {ok : Nat → Prop} {x : S117} {c : List Value} (h : k117.M w base ok x c) : ∃ n, (G117 (U n)).M w base ok x c := by
  obtain ⟨_, _, rfl, h0, ⟨_, _, rfl, h1, ⟨v2, rfl, g2⟩⟩⟩ := h
  obtain ⟨n, q⟩ := Kd.fix_R_back mono123 g2
  exact ⟨n, _, _, rfl, h0, _, _, rfl, h1, v2, rfl, q⟩
theorem gC_back {w : World} {A : Option Addr} {m : Nat} {xs : List S117} (h : k117.C w A m xs) : ∃ n, (G117 (U n)).C w A m xs := by
  rcases Nat.eq_zero_or_pos m with hz | hpos
  · subst hz
    exact ⟨0, h.1, h.2.1, fun hp => absurd hp (Nat.lt_irrefl 0)⟩
  · obtain ⟨ad, e, hc⟩ := h.2.2 hpos
    obtain ⟨N, hN⟩ := Kd.bounded (P := fun n j => ∀ p, xs[j]? = some p → ∃ c, c.length = 3 ∧ (G117 (U n)).K w p c ∧ ∀ i u, c[i]? = some u → w.cell? (ad.add (j * 3 + i)) = some u)
      (fun n n' j hnm hp p hj => by
        obtain ⟨c, h1, h2, h3⟩ := hp p hj
        exact ⟨c, h1, gK_le hnm h2, h3⟩) xs.length
      (fun j hj => by
        obtain ⟨c, h1, h2, h3⟩ := hc j _ (List.getElem?_eq_getElem hj)
        obtain ⟨n, h2⟩ := gK_back h2
        refine ⟨n, fun p hp => ?_⟩
        rw [List.getElem?_eq_getElem hj] at hp
        injection hp with hp
        rw [← hp]
        exact ⟨c, h1, h2, h3⟩)
    exact ⟨N, h.1, h.2.1, fun _ => ⟨ad, e, fun j p hj => hN j (List.getElem?_eq_some_iff.1 hj).1 p hj⟩⟩
theorem gR_back {e : Nat} {w : World} {base : Nat} {ok : Nat → Prop} {v : Value} {xs : List S117} (h : k117.R e w base ok v xs) : ∃ n, (G117 (U n)).R e w base ok v xs := by
  obtain ⟨h0, inner, ho, hr⟩ := h
  obtain ⟨N, hN⟩ := Kd.reps_bounded (R := fun n p c => (G117 (U n)).M w base (fun k => ok k ∧ some k ≠ v.ownBlock) p c) (fun n m p c hnm hp => gM_le hnm hp) (hr.imp_ (fun _ _ hp => gM_back hp))
  exact ⟨N, h0, inner, ho, hN⟩

theorem k123_open {w : World} {x : S123} {cs : List Value} (h : k123.K w x cs) : ∃ A2 c2, cs = [.int .i64 x.f0, .bool x.f1, .slice A2 x.f2.length c2] ∧ x.f2.length ≤ c2 ∧ k117.C w A2 x.f2.length x.f2 := by
  obtain ⟨n, h⟩ := h
  cases n with
  | zero => exact h.elim
  | succ n =>
    obtain ⟨_, _, rfl, rfl, ⟨_, _, rfl, rfl, ⟨A2, c2, rfl, l2, g2⟩⟩⟩ := h
    exact ⟨A2, c2, rfl, l2, gC g2⟩
theorem k123_openM {w : World} {base : Nat} {ok : Nat → Prop} {x : S123} {cs : List Value} (h : k123.M w base ok x cs) : ∃ v2, cs = [.int .i64 x.f0, .bool x.f1, v2] ∧ k117.R 117 w base ok v2 x.f2 := by
  obtain ⟨n, h⟩ := h
  cases n with
  | zero => exact h.elim
  | succ n =>
    obtain ⟨_, _, rfl, rfl, ⟨_, _, rfl, rfl, ⟨v2, rfl, g2⟩⟩⟩ := h
    exact ⟨v2, rfl, gR g2⟩
theorem k123_mk (w : World) (x : S123) {A2 : Option Addr} {c2 : Nat} (l2 : x.f2.length ≤ c2) (g2 : k117.C w A2 x.f2.length x.f2) : k123.K w x [.int .i64 x.f0, .bool x.f1, .slice A2 x.f2.length c2] := by
  obtain ⟨n, q⟩ := gC_back g2
  exact ⟨n + 1, [.int .i64 x.f0], [.bool x.f1, .slice A2 x.f2.length c2], rfl, rfl, ⟨[.bool x.f1], [.slice A2 x.f2.length c2], rfl, rfl, ⟨A2, c2, rfl, l2, q⟩⟩⟩
theorem k123_mkM (w : World) (base : Nat) (ok : Nat → Prop) (x : S123) {v2 : Value} (g2 : k117.R 117 w base ok v2 x.f2) : k123.M w base ok x [.int .i64 x.f0, .bool x.f1, v2] := by
  obtain ⟨n, q⟩ := gR_back g2
  exact ⟨n + 1, [.int .i64 x.f0], [.bool x.f1, v2], rfl, rfl, ⟨[.bool x.f1], [v2], rfl, rfl, ⟨v2, rfl, q⟩⟩⟩
theorem k117_open {w : World} {x : S117} {cs : List Value} (h : k117.K w x cs) : ∃ A2 c2, cs = [.int .u8 x.f0, .int .i64 x.f1, .slice A2 x.f2.length c2] ∧ x.f2.length ≤ c2 ∧ k123.C w A2 x.f2.length x.f2 := by
  obtain ⟨_, _, rfl, rfl, ⟨_, _, rfl, rfl, ⟨A2, c2, rfl, l2, g2⟩⟩⟩ := h
  exact ⟨A2, c2, rfl, l2, g2⟩
theorem k117_openM {w : World} {base : Nat} {ok : Nat → Prop} {x : S117} {cs : List Value} (h : k117.M w base ok x cs) : ∃ v2, cs = [.int .u8 x.f0, .int .i64 x.f1, v2] ∧ k123.R 123 w base ok v2 x.f2 := by
  obtain ⟨_, _, rfl, rfl, ⟨_, _, rfl, rfl, ⟨v2, rfl, g2⟩⟩⟩ := h
  exact ⟨v2, rfl, g2⟩
theorem k117_mk (w : World) (x : S117) {A2 : Option Addr} {c2 : Nat} (l2 : x.f2.length ≤ c2) (g2 : k123.C w A2 x.f2.length x.f2) : k117.K w x [.int .u8 x.f0, .int .i64 x.f1, .slice A2 x.f2.length c2] := ⟨[.int .u8 x.f0], [.int .i64 x.f1, .slice A2 x.f2.length c2], rfl, rfl, ⟨[.int .i64 x.f1], [.slice A2 x.f2.length c2], rfl, rfl, ⟨A2, c2, rfl, l2, g2⟩⟩⟩
theorem k117_mkM (w : World) (base : Nat) (ok : Nat → Prop) (x : S117) {v2 : Value} (g2 : k123.R 123 w base ok v2 x.f2) : k117.M w base ok x [.int .u8 x.f0, .int .i64 x.f1, v2] := ⟨[.int .u8 x.f0], [.int .i64 x.f1, v2], rfl, rfl, ⟨[.int .i64 x.f1], [v2], rfl, rfl, ⟨v2, rfl, g2⟩⟩⟩
theorem k117_openF {W : World} {ok : Nat → Prop} {x : S117} {cs : List Value} (h : Kd.FK k117 W ok x cs) : ∃ A2 c2, cs = [.int .u8 x.f0, .int .i64 x.f1, .slice A2 x.f2.length c2] ∧ x.f2.length ≤ c2 ∧ Kd.F k123 W ok A2 x.f2.length x.f2 := by
  obtain ⟨A2, c2, rfl, l2, _⟩ := k117_open (Kd.FK_now h)
  exact ⟨A2, c2, rfl, l2, (fun W' hW => by obtain ⟨A2_, c2_, he, l2_, g2_⟩ := k117_open (h W' hW); injection (Option.some.inj (show some (Value.slice A2 x.f2.length c2) = some (Value.slice A2_ x.f2.length c2_) from congrArg (fun l => l[2]?) he)) with ha_ _ _; rw [ha_]; exact g2_)⟩
theorem k117_mkF (W : World) (ok : Nat → Prop) (x : S117) {A2 : Option Addr} {c2 : Nat} (l2 : x.f2.length ≤ c2) (g2 : Kd.F k123 W ok A2 x.f2.length x.f2) : Kd.FK k117 W ok x [.int .u8 x.f0, .int .i64 x.f1, .slice A2 x.f2.length c2] := fun W2 hW => k117_mk W2 x l2 (g2 W2 hW)
theorem k123_openF {W : World} {ok : Nat → Prop} {x : S123} {cs : List Value} (h : Kd.FK k123 W ok x cs) : ∃ A2 c2, cs = [.int .i64 x.f0, .bool x.f1, .slice A2 x.f2.length c2] ∧ x.f2.length ≤ c2 ∧ Kd.F k117 W ok A2 x.f2.length x.f2 := by
  obtain ⟨A2, c2, rfl, l2, _⟩ := k123_open (Kd.FK_now h)
  exact ⟨A2, c2, rfl, l2, (fun W' hW => by obtain ⟨A2_, c2_, he, l2_, g2_⟩ := k123_open (h W' hW); injection (Option.some.inj (show some (Value.slice A2 x.f2.length c2) = some (Value.slice A2_ x.f2.length c2_) from congrArg (fun l => l[2]?) he)) with ha_ _ _; rw [ha_]; exact g2_)⟩
theorem k123_mkF (W : World) (ok : Nat → Prop) (x : S123) {A2 : Option Addr} {c2 : Nat} (l2 : x.f2.length ≤ c2) (g2 : Kd.F k117 W ok A2 x.f2.length x.f2) : Kd.FK k123 W ok x [.int .i64 x.f0, .bool x.f1, .slice A2 x.f2.length c2] := fun W2 hW => k123_mk W2 x l2 (g2 W2 hW)
def rd_T117 (xs : List S117) (i : Int) : S117 := xs.getD i.toNat z117
theorem at_T117 {w : World} {A : Option Addr} {n : Nat} {xs : List S117} (h : Kd.C k117 w A n xs) (i : Int) (h0 : 0 ≤ i) (h1 : i < n) : ∃ ad A2 c2, A = some ad ∧ w.cell? (ad.add (i.toNat * 3)) = some (.int .u8 (rd_T117 xs i).f0) ∧ w.cell? ⟨(ad.add (i.toNat * 3)).block, (ad.add (i.toNat * 3)).off + 1, none⟩ = some (.int .i64 (rd_T117 xs i).f1) ∧ w.cell? ⟨(ad.add (i.toNat * 3)).block, (ad.add (i.toNat * 3)).off + 2, none⟩ = some (.slice A2 (rd_T117 xs i).f2.length c2) ∧ (rd_T117 xs i).f2.length ≤ c2 ∧ k123.C w A2 (rd_T117 xs i).f2.length (rd_T117 xs i).f2 := by
  obtain ⟨ad, c, e, _, hK, hc0⟩ := Kd.C_get h z117 i h0 h1
  have hc : ∀ j u, c[j]? = some u → w.cell? (ad.add (i.toNat * 3 + j)) = some u := hc0
  obtain ⟨A2, c2, rfl, l2, g2⟩ := k117_open hK
  exact ⟨ad, A2, c2, e, hc 0 _ rfl, by rw [← add_field _ _ 1 (by omega)]; exact hc 1 _ rfl, by rw [← add_field _ _ 2 (by omega)]; exact hc 2 _ rfl, l2, g2⟩
def rd_T123 (xs : List S123) (i : Int) : S123 := xs.getD i.toNat z123
theorem at_T123 {w : World} {A : Option Addr} {n : Nat} {xs : List S123} (h : Kd.C k123 w A n xs) (i : Int) (h0 : 0 ≤ i) (h1 : i < n) : ∃ ad A2 c2, A = some ad ∧ w.cell? (ad.add (i.toNat * 3)) = some (.int .i64 (rd_T123 xs i).f0) ∧ w.cell? ⟨(ad.add (i.toNat * 3)).block, (ad.add (i.toNat * 3)).off + 1, none⟩ = some (.bool (rd_T123 xs i).f1) ∧ w.cell? ⟨(ad.add (i.toNat * 3)).block, (ad.add (i.toNat * 3)).off + 2, none⟩ = some (.slice A2 (rd_T123 xs i).f2.length c2) ∧ (rd_T123 xs i).f2.length ≤ c2 ∧ k117.C w A2 (rd_T123 xs i).f2.length (rd_T123 xs i).f2 := by
  obtain ⟨ad, c, e, _, hK, hc0⟩ := Kd.C_get h z123 i h0 h1
  have hc : ∀ j u, c[j]? = some u → w.cell? (ad.add (i.toNat * 3 + j)) = some u := hc0
  obtain ⟨A2, c2, rfl, l2, g2⟩ := k123_open hK
  exact ⟨ad, A2, c2, e, hc 0 _ rfl, by rw [← add_field _ _ 1 (by omega)]; exact hc 1 _ rfl, by rw [← add_field _ _ 2 (by omega)]; exact hc 2 _ rfl, l2, g2⟩
end Go.Proofs.YthamffpieafkbaaGreatDoor.PA
