/- The kinds of schema's signs and arms, which are nested in each other: their types in Lean, what their cells say, read and made. -/
import Derived.Test.YtgfljlbecafipaaGreatDoorProg
import Derived.Test.YtgfljlbecafipaaGreatDoorWWords
import Derived.Test.YtgfljlbecafipaaGreatDoorWFoot
import Derived.Test.YtgfljlbecafipaaGreatDoorWN
import Derived.Test.YtgfljlbecafipaaGreatDoorWMore
import Derived.Test.YtgfljlbecafipaaGreatDoorWLast
namespace Go.Proofs.YtgfljlbecafipaaGreatDoor.PA
open Go.RowKit Go.Proofs.YtgfljlbecafipaaGreatDoorW.PrintWords Go.Proofs.YtgfljlbecafipaaGreatDoorW.PrintLast Go.Proofs.YtgfljlbecafipaaGreatDoorW.PrintMore
set_option linter.unusedVariables false

mutual
inductive S77 where
  | mk (f0 : Int) (f1 : Int) (f2 : List S84)
inductive S84 where
  | mk (f0 : Int) (f1 : Bool) (f2 : List S77)
end
@[reducible] def S77.f0 : S77 → Int | .mk a _ _ => a
@[reducible] def S77.f1 : S77 → Int | .mk _ a _ => a
@[reducible] def S77.f2 : S77 → List S84 | .mk _ _ a => a
@[reducible] def S84.f0 : S84 → Int | .mk a _ _ => a
@[reducible] def S84.f1 : S84 → Bool | .mk _ a _ => a
@[reducible] def S84.f2 : S84 → List S77 | .mk _ _ a => a
def z77 : S77 := ⟨0, 0, []⟩
def z84 : S84 := ⟨0, false, []⟩
/-- a sign, over what is said of arms -/
def G77 (d : Kd S84) : Kd S77 := Kd.iso (Kd.pair (Kd.int .u8) (Kd.pair (Kd.int .i64) (Kd.slice 84 d))) (fun x : S77 => (x.f0, x.f1, x.f2))
theorem gmono : Kd.Mono G77 := Kd.mono_iso _ (Kd.mono_pair (Kd.mono_const _) (Kd.mono_pair (Kd.mono_const _) (Kd.mono_slice 84 Kd.mono_id)))
theorem gsub : Kd.Sub G77 [77, 84] := Kd.sub_iso _ (Kd.sub_pair (Kd.sub_const _ (by decide)) (Kd.sub_pair (Kd.sub_const _ (by decide)) (Kd.sub_slice 84 (by decide) Kd.sub_id)))
def F84 (d : Kd S84) : Kd S84 := Kd.iso (Kd.pair (Kd.int .i64) (Kd.pair Kd.bool (Kd.slice 77 (G77 d)))) (fun x : S84 => (x.f0, x.f1, x.f2))
theorem mono84 : Kd.Mono F84 := Kd.mono_iso _ (Kd.mono_pair (Kd.mono_const _) (Kd.mono_pair (Kd.mono_const _) (Kd.mono_slice 77 gmono)))
theorem sub84 : Kd.Sub F84 [77, 84] := Kd.sub_iso _ (Kd.sub_pair (Kd.sub_const _ (by decide)) (Kd.sub_pair (Kd.sub_const _ (by decide)) (Kd.sub_slice 77 (by decide) gsub)))
theorem sz84 : ∀ n, (Kd.upto F84 3 [77, 84] n).sz = 3 := Kd.upto_sz (fun _ => rfl)
def k84 : Kd S84 := Kd.fix F84 3 [77, 84] sz84 (Kd.upto_E sub84)
def k77 : Kd S77 := G77 k84
theorem k84_heap : Kd.Heap k84 := Kd.heap_fix (fun _ h_ => Kd.heap_iso _ (Kd.heap_pair (Kd.heap_int .i64) (Kd.heap_pair Kd.heap_bool (Kd.heap_slice 77 (Kd.heap_iso _ (Kd.heap_pair (Kd.heap_int .u8) (Kd.heap_pair (Kd.heap_int .i64) (Kd.heap_slice 84 h_))))))))
theorem k77_heap : Kd.Heap k77 := Kd.heap_iso _ (Kd.heap_pair (Kd.heap_int .u8) (Kd.heap_pair (Kd.heap_int .i64) (Kd.heap_slice 84 k84_heap)))

abbrev U (n : Nat) := Kd.upto F84 3 [77, 84] n
theorem gK {n : Nat} {w : World} {x : S77} {c : List Value} (h : (G77 (U n)).K w x c) : k77.K w x c := gmono.K (U n) k84 (sz84 n) (fun w x cs hp => (⟨n, hp⟩ : ∃ n, (U n).K w x cs)) w x c h
theorem gM {n : Nat} {w : World} {base : Nat} {ok : Nat → Prop} {x : S77} {c : List Value} (h : (G77 (U n)).M w base ok x c) : k77.M w base ok x c := gmono.M (U n) k84 (sz84 n) (fun w base ok x cs hp => (⟨n, hp⟩ : ∃ n, (U n).M w base ok x cs)) w base ok x c h
theorem gK_le {n m : Nat} (hnm : n ≤ m) {w : World} {x : S77} {c : List Value} (h : (G77 (U n)).K w x c) : (G77 (U m)).K w x c := gmono.K (U n) (U m) (by rw [sz84 n, sz84 m]) (fun _ _ _ hp => Kd.upto_K_le mono84 sz84 hnm hp) w x c h
theorem gM_le {n m : Nat} (hnm : n ≤ m) {w : World} {base : Nat} {ok : Nat → Prop} {x : S77} {c : List Value} (h : (G77 (U n)).M w base ok x c) : (G77 (U m)).M w base ok x c := gmono.M (U n) (U m) (by rw [sz84 n, sz84 m]) (fun _ _ _ _ _ hp => Kd.upto_M_le mono84 sz84 hnm hp) w base ok x c h
theorem gC {n : Nat} {w : World} {A : Option Addr} {m : Nat} {xs : List S77} (h : (G77 (U n)).C w A m xs) : k77.C w A m xs := Kd.C_imp (d := G77 (U n)) (d' := k77) rfl (fun _ _ _ hp => gK hp) h
theorem gR {n : Nat} {e : Nat} {w : World} {base : Nat} {ok : Nat → Prop} {v : Value} {xs : List S77} (h : (G77 (U n)).R e w base ok v xs) : k77.R e w base ok v xs := Kd.R_imp (d := G77 (U n)) (d' := k77) rfl (fun _ _ _ _ _ hp => gM hp) h
theorem gK_back {w : World} {x : S77} {c : List Value} (h : k77.K w x c) : ∃ n, (G77 (U n)).K w x c := by
  obtain ⟨_, _, rfl, h0, ⟨_, _, rfl, h1, ⟨A2, c2, rfl, l2, g2⟩⟩⟩ := h
  obtain ⟨n, q⟩ := Kd.fix_C_back mono84 g2
  exact ⟨n, _, _, rfl, h0, _, _, rfl, h1, A2, c2, rfl, l2, q⟩
theorem gM_back {w : World} {base : Nat} {ok : Nat → Prop} {x : S77} {c : List Value} (h : k77.M w base ok x c) : ∃ n, (G77 (U n)).M w base ok x c := by
  obtain ⟨_, _, rfl, h0, ⟨_, _, rfl, h1, ⟨v2, rfl, g2⟩⟩⟩ := h
  obtain ⟨n, q⟩ := Kd.fix_R_back mono84 g2
  exact ⟨n, _, _, rfl, h0, _, _, rfl, h1, v2, rfl, q⟩
theorem gC_back {w : World} {A : Option Addr} {m : Nat} {xs : List S77} (h : k77.C w A m xs) : ∃ n, (G77 (U n)).C w A m xs := by
  rcases Nat.eq_zero_or_pos m with hz | hpos
  · subst hz
    exact ⟨0, h.1, h.2.1, fun hp => absurd hp (Nat.lt_irrefl 0)⟩
  · obtain ⟨ad, e, hc⟩ := h.2.2 hpos
    obtain ⟨N, hN⟩ := Kd.bounded (P := fun n j => ∀ p, xs[j]? = some p → ∃ c, c.length = 3 ∧ (G77 (U n)).K w p c ∧ ∀ i u, c[i]? = some u → w.cell? (ad.add (j * 3 + i)) = some u)
      (fun n n' j hnm hp p hj => by
        obtain ⟨c, h1, h2, h3⟩ := hp p hj
        exact ⟨c, h1, gK_le hnm h2, h3⟩) xs.length
      (fun j hj => by
        obtain ⟨c, h1, h2, h3⟩ := hc j _ (List.getElem?_eq_getElem hj)
        obtain ⟨n, h2⟩ := gK_back h2
        refine ⟨n, fun p hp => ?_⟩
        rw [List.getElem?_eq_getElem hj] at hp
        injection hp with hp
        rw [← hp]
        exact ⟨c, h1, h2, h3⟩)
    exact ⟨N, h.1, h.2.1, fun _ => ⟨ad, e, fun j p hj => hN j (List.getElem?_eq_some_iff.1 hj).1 p hj⟩⟩
theorem gR_back {e : Nat} {w : World} {base : Nat} {ok : Nat → Prop} {v : Value} {xs : List S77} (h : k77.R e w base ok v xs) : ∃ n, (G77 (U n)).R e w base ok v xs := by
  obtain ⟨h0, inner, ho, hr⟩ := h
  obtain ⟨N, hN⟩ := Kd.reps_bounded (R := fun n p c => (G77 (U n)).M w base (fun k => ok k ∧ some k ≠ v.ownBlock) p c) (fun n m p c hnm hp => gM_le hnm hp) (hr.imp_ (fun _ _ hp => gM_back hp))
  exact ⟨N, h0, inner, ho, hN⟩

theorem k84_open {w : World} {x : S84} {cs : List Value} (h : k84.K w x cs) : ∃ A2 c2, cs = [.int .i64 x.f0, .bool x.f1, .slice A2 x.f2.length c2] ∧ x.f2.length ≤ c2 ∧ k77.C w A2 x.f2.length x.f2 := by
  obtain ⟨n, h⟩ := h
  cases n with
  | zero => exact h.elim
  | succ n =>
    obtain ⟨_, _, rfl, rfl, ⟨_, _, rfl, rfl, ⟨A2, c2, rfl, l2, g2⟩⟩⟩ := h
    exact ⟨A2, c2, rfl, l2, gC g2⟩
theorem k84_openM {w : World} {base : Nat} {ok : Nat → Prop} {x : S84} {cs : List Value} (h : k84.M w base ok x cs) : ∃ v2, cs = [.int .i64 x.f0, .bool x.f1, v2] ∧ k77.R 77 w base ok v2 x.f2 := by
  obtain ⟨n, h⟩ := h
  cases n with
  | zero => exact h.elim
  | succ n =>
    obtain ⟨_, _, rfl, rfl, ⟨_, _, rfl, rfl, ⟨v2, rfl, g2⟩⟩⟩ := h
    exact ⟨v2, rfl, gR g2⟩
theorem k84_mk (w : World) (x : S84) {A2 : Option Addr} {c2 : Nat} (l2 : x.f2.length ≤ c2) (g2 : k77.C w A2 x.f2.length x.f2) : k84.K w x [.int .i64 x.f0, .bool x.f1, .slice A2 x.f2.length c2] := by
  obtain ⟨n, q⟩ := gC_back g2
  exact ⟨n + 1, [.int .i64 x.f0], [.bool x.f1, .slice A2 x.f2.length c2], rfl, rfl, ⟨[.bool x.f1], [.slice A2 x.f2.length c2], rfl, rfl, ⟨A2, c2, rfl, l2, q⟩⟩⟩
theorem k84_mkM (w : World) (base : Nat) (ok : Nat → Prop) (x : S84) {v2 : Value} (g2 : k77.R 77 w base ok v2 x.f2) : k84.M w base ok x [.int .i64 x.f0, .bool x.f1, v2] := by
  obtain ⟨n, q⟩ := gR_back g2
  exact ⟨n + 1, [.int .i64 x.f0], [.bool x.f1, v2], rfl, rfl, ⟨[.bool x.f1], [v2], rfl, rfl, ⟨v2, rfl, q⟩⟩⟩
theorem k77_open {w : World} {x : S77} {cs : List Value} (h : k77.K w x cs) : ∃ A2 c2, cs = [.int .u8 x.f0, .int .i64 x.f1, .slice A2 x.f2.length c2] ∧ x.f2.length ≤ c2 ∧ k84.C w A2 x.f2.length x.f2 := by
  obtain ⟨_, _, rfl, rfl, ⟨_, _, rfl, rfl, ⟨A2, c2, rfl, l2, g2⟩⟩⟩ := h
  exact ⟨A2, c2, rfl, l2, g2⟩
theorem k77_openM {w : World} {base : Nat} {ok : Nat → Prop} {x : S77} {cs : List Value} (h : k77.M w base ok x cs) : ∃ v2, cs = [.int .u8 x.f0, .int .i64 x.f1, v2] ∧ k84.R 84 w base ok v2 x.f2 := by
  obtain ⟨_, _, rfl, rfl, ⟨_, _, rfl, rfl, ⟨v2, rfl, g2⟩⟩⟩ := h
  exact ⟨v2, rfl, g2⟩
theorem k77_mk (w : World) (x : S77) {A2 : Option Addr} {c2 : Nat} (l2 : x.f2.length ≤ c2) (g2 : k84.C w A2 x.f2.length x.f2) : k77.K w x [.int .u8 x.f0, .int .i64 x.f1, .slice A2 x.f2.length c2] := ⟨[.int .u8 x.f0], [.int .i64 x.f1, .slice A2 x.f2.length c2], rfl, rfl, ⟨[.int .i64 x.f1], [.slice A2 x.f2.length c2], rfl, rfl, ⟨A2, c2, rfl, l2, g2⟩⟩⟩
theorem k77_mkM (w : World) (base : Nat) (ok : Nat → Prop) (x : S77) {v2 : Value} (g2 : k84.R 84 w base ok v2 x.f2) : k77.M w base ok x [.int .u8 x.f0, .int .i64 x.f1, v2] := ⟨[.int .u8 x.f0], [.int .i64 x.f1, v2], rfl, rfl, ⟨[.int .i64 x.f1], [v2], rfl, rfl, ⟨v2, rfl, g2⟩⟩⟩
theorem k77_openF {W : World} {ok : Nat → Prop} {x : S77} {cs : List Value} (h : Kd.FK k77 W ok x cs) : ∃ A2 c2, cs = [.int .u8 x.f0, .int .i64 x.f1, .slice A2 x.f2.length c2] ∧ x.f2.length ≤ c2 ∧ Kd.F k84 W ok A2 x.f2.length x.f2 := by
  obtain ⟨A2, c2, rfl, l2, _⟩ := k77_open (Kd.FK_now h)
  exact ⟨A2, c2, rfl, l2, (fun W' hW => by obtain ⟨A2_, c2_, he, l2_, g2_⟩ := k77_open (h W' hW); injection (Option.some.inj (show some (Value.slice A2 x.f2.length c2) = some (Value.slice A2_ x.f2.length c2_) from congrArg (fun l => l[2]?) he)) with ha_ _ _; rw [ha_]; exact g2_)⟩
theorem k77_mkF (W : World) (ok : Nat → Prop) (x : S77) {A2 : Option Addr} {c2 : Nat} (l2 : x.f2.length ≤ c2) (g2 : Kd.F k84 W ok A2 x.f2.length x.f2) : Kd.FK k77 W ok x [.int .u8 x.f0, .int .i64 x.f1, .slice A2 x.f2.length c2] := fun W2 hW => k77_mk W2 x l2 (g2 W2 hW)
theorem k84_openF {W : World} {ok : Nat → Prop} {x : S84} {cs : List Value} (h : Kd.FK k84 W ok x cs) : ∃ A2 c2, cs = [.int .i64 x.f0, .bool x.f1, .slice A2 x.f2.length c2] ∧ x.f2.length ≤ c2 ∧ Kd.F k77 W ok A2 x.f2.length x.f2 := by
  obtain ⟨A2, c2, rfl, l2, _⟩ := k84_open (Kd.FK_now h)
  exact ⟨A2, c2, rfl, l2, (fun W' hW => by obtain ⟨A2_, c2_, he, l2_, g2_⟩ := k84_open (h W' hW); injection (Option.some.inj (show some (Value.slice A2 x.f2.length c2) = some (Value.slice A2_ x.f2.length c2_) from congrArg (fun l => l[2]?) he)) with ha_ _ _; rw [ha_]; exact g2_)⟩
theorem k84_mkF (W : World) (ok : Nat → Prop) (x : S84) {A2 : Option Addr} {c2 : Nat} (l2 : x.f2.length ≤ c2) (g2 : Kd.F k77 W ok A2 x.f2.length x.f2) : Kd.FK k84 W ok x [.int .i64 x.f0, .bool x.f1, .slice A2 x.f2.length c2] := fun W2 hW => k84_mk W2 x l2 (g2 W2 hW)
def rd_T77 (xs : List S77) (i : Int) : S77 := xs.getD i.toNat z77
theorem at_T77 {w : World} {A : Option Addr} {n : Nat} {xs : List S77} (h : Kd.C k77 w A n xs) (i : Int) (h0 : 0 ≤ i) (h1 : i < n) : ∃ ad A2 c2, A = some ad ∧ w.cell? (ad.add (i.toNat * 3)) = some (.int .u8 (rd_T77 xs i).f0) ∧ w.cell? ⟨(ad.add (i.toNat * 3)).block, (ad.add (i.toNat * 3)).off + 1, none⟩ = some (.int .i64 (rd_T77 xs i).f1) ∧ w.cell? ⟨(ad.add (i.toNat * 3)).block, (ad.add (i.toNat * 3)).off + 2, none⟩ = some (.slice A2 (rd_T77 xs i).f2.length c2) ∧ (rd_T77 xs i).f2.length ≤ c2 ∧ k84.C w A2 (rd_T77 xs i).f2.length (rd_T77 xs i).f2 := by
  obtain ⟨ad, c, e, _, hK, hc0⟩ := Kd.C_get h z77 i h0 h1
  have hc : ∀ j u, c[j]? = some u → w.cell? (ad.add (i.toNat * 3 + j)) = some u := hc0
  obtain ⟨A2, c2, rfl, l2, g2⟩ := k77_open hK
  exact ⟨ad, A2, c2, e, hc 0 _ rfl, by rw [← add_field _ _ 1 (by omega)]; exact hc 1 _ rfl, by rw [← add_field _ _ 2 (by omega)]; exact hc 2 _ rfl, l2, g2⟩
def rd_T84 (xs : List S84) (i : Int) : S84 := xs.getD i.toNat z84
theorem at_T84 {w : World} {A : Option Addr} {n : Nat} {xs : List S84} (h : Kd.C k84 w A n xs) (i : Int) (h0 : 0 ≤ i) (h1 : i < n) : ∃ ad A2 c2, A = some ad ∧ w.cell? (ad.add (i.toNat * 3)) = some (.int .i64 (rd_T84 xs i).f0) ∧ w.cell? ⟨(ad.add (i.toNat * 3)).block, (ad.add (i.toNat * 3)).off + 1, none⟩ = some (.bool (rd_T84 xs i).f1) ∧ w.cell? ⟨(ad.add (i.toNat * 3)).block, (ad.add (i.toNat * 3)).off + 2, none⟩ = some (.slice A2 (rd_T84 xs i).f2.length c2) ∧ (rd_T84 xs i).f2.length ≤ c2 ∧ k77.C w A2 (rd_T84 xs i).f2.length (rd_T84 xs i).f2 := by
  obtain ⟨ad, c, e, _, hK, hc0⟩ := Kd.C_get h z84 i h0 h1
  have hc : ∀ j u, c[j]? = some u → w.cell? (ad.add (i.toNat * 3 + j)) = some u := hc0
  obtain ⟨A2, c2, rfl, l2, g2⟩ := k84_open hK
  exact ⟨ad, A2, c2, e, hc 0 _ rfl, by rw [← add_field _ _ 1 (by omega)]; exact hc 1 _ rfl, by rw [← add_field _ _ 2 (by omega)]; exact hc 2 _ rfl, l2, g2⟩
end Go.Proofs.YtgfljlbecafipaaGreatDoor.PA
