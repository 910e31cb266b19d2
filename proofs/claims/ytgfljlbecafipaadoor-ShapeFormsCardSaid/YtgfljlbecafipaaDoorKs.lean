/- The kinds of schema's signs and arms, which are nested in each other: their types in Lean, what their cells say, read and made. -/
import Derived.Test.YtgfljlbecafipaaDoorProg
import Derived.Test.YtgfljlbecafipaaDoorWWords
import Derived.Test.YtgfljlbecafipaaDoorWFoot
import Derived.Test.YtgfljlbecafipaaDoorWN
import Derived.Test.YtgfljlbecafipaaDoorWMore
import Derived.Test.YtgfljlbecafipaaDoorWLast
namespace Go.Proofs.YtgfljlbecafipaaDoor.PA
open Go.RowKit Go.Proofs.YtgfljlbecafipaaDoorW.PrintWords Go.Proofs.YtgfljlbecafipaaDoorW.PrintLast Go.Proofs.YtgfljlbecafipaaDoorW.PrintMore
set_option linter.unusedVariables false

mutual
inductive S75 where
  | mk (f0 : Int) (f1 : Int) (f2 : List S79)
inductive S79 where
  | mk (f0 : Int) (f1 : Bool) (f2 : List S75)
end
@[reducible] def S75.f0 : S75 → Int | .mk a _ _ => a
@[reducible] def S75.f1 : S75 → Int | .mk _ a _ => a
@[reducible] def S75.f2 : S75 → List S79 | .mk _ _ a => a
@[reducible] def S79.f0 : S79 → Int | .mk a _ _ => a
@[reducible] def S79.f1 : S79 → Bool | .mk _ a _ => a
@[reducible] def S79.f2 : S79 → List S75 | .mk _ _ a => a
def z75 : S75 := ⟨0, 0, []⟩
def z79 : S79 := ⟨0, false, []⟩
/-- a sign, over what is said of arms -/
def G75 (d : Kd S79) : Kd S75 := Kd.iso (Kd.pair (Kd.int .u8) (Kd.pair (Kd.int .i64) (Kd.slice 79 d))) (fun x : S75 => (x.f0, x.f1, x.f2))
theorem gmono : Kd.Mono G75 := Kd.mono_iso _ (Kd.mono_pair (Kd.mono_const _) (Kd.mono_pair (Kd.mono_const _) (Kd.mono_slice 79 Kd.mono_id)))
theorem gsub : Kd.Sub G75 [75, 79] := Kd.sub_iso _ (Kd.sub_pair (Kd.sub_const _ (by decide)) (Kd.sub_pair (Kd.sub_const _ (by decide)) (Kd.sub_slice 79 (by decide) Kd.sub_id)))
def F79 (d : Kd S79) : Kd S79 := Kd.iso (Kd.pair (Kd.int .i64) (Kd.pair Kd.bool (Kd.slice 75 (G75 d)))) (fun x : S79 => (x.f0, x.f1, x.f2))
theorem mono79 : Kd.Mono F79 := Kd.mono_iso _ (Kd.mono_pair (Kd.mono_const _) (Kd.mono_pair (Kd.mono_const _) (Kd.mono_slice 75 gmono)))
theorem sub79 : Kd.Sub F79 [75, 79] := Kd.sub_iso _ (Kd.sub_pair (Kd.sub_const _ (by decide)) (Kd.sub_pair (Kd.sub_const _ (by decide)) (Kd.sub_slice 75 (by decide) gsub)))
theorem sz79 : ∀ n, (Kd.upto F79 3 [75, 79] n).sz = 3 := Kd.upto_sz (fun _ => rfl)
def k79 : Kd S79 := Kd.fix F79 3 [75, 79] sz79 (Kd.upto_E sub79)
def k75 : Kd S75 := G75 k79
theorem k79_heap : Kd.Heap k79 := Kd.heap_fix (fun _ h_ => Kd.heap_iso _ (Kd.heap_pair (Kd.heap_int .i64) (Kd.heap_pair Kd.heap_bool (Kd.heap_slice 75 (Kd.heap_iso _ (Kd.heap_pair (Kd.heap_int .u8) (Kd.heap_pair (Kd.heap_int .i64) (Kd.heap_slice 79 h_))))))))
theorem k75_heap : Kd.Heap k75 := Kd.heap_iso _ (Kd.heap_pair (Kd.heap_int .u8) (Kd.heap_pair (Kd.heap_int .i64) (Kd.heap_slice 79 k79_heap)))

abbrev U (n : Nat) := Kd.upto F79 3 [75, 79] n
theorem gK {n : Nat} {w : World} {x : S75} {c : List Value} (h : (G75 (U n)).K w x c) : k75.K w x c := gmono.K (U n) k79 (sz79 n) (fun w x cs hp => (⟨n, hp⟩ : ∃ n, (U n).K w x cs)) w x c h
theorem gM {n : Nat} {w : World} {base : Nat} {ok : Nat → Prop} {x : S75} {c : List Value} (h : (G75 (U n)).M w base ok x c) : k75.M w base ok x c := gmono.M (U n) k79 (sz79 n) (fun w base ok x cs hp => (⟨n, hp⟩ : ∃ n, (U n).M w base ok x cs)) w base ok x c h
theorem gK_le {n m : Nat} (hnm : n ≤ m) {w : World} {x : S75} {c : List Value} (h : (G75 (U n)).K w x c) : (G75 (U m)).K w x c := gmono.K (U n) (U m) (by rw [sz79 n, sz79 m]) (fun _ _ _ hp => Kd.upto_K_le mono79 sz79 hnm hp) w x c h
theorem gM_le {n m : Nat} (hnm : n ≤ m) {w : World} {base : Nat} {ok : Nat → Prop} {x : S75} {c : List Value} (h : (G75 (U n)).M w base ok x c) : (G75 (U m)).M w base ok x c := gmono.M (U n) (U m) (by rw [sz79 n, sz79 m]) (fun _ _ _ _ _ hp => Kd.upto_M_le mono79 sz79 hnm hp) w base ok x c h
theorem gC {n : Nat} {w : World} {A : Option Addr} {m : Nat} {xs : List S75} (h : (G75 (U n)).C w A m xs) : k75.C w A m xs := Kd.C_imp (d := G75 (U n)) (d' := k75) rfl (fun _ _ _ hp => gK hp) h
theorem gR {n : Nat} {e : Nat} {w : World} {base : Nat} {ok : Nat → Prop} {v : Value} {xs : List S75} (h : (G75 (U n)).R e w base ok v xs) : k75.R e w base ok v xs := Kd.R_imp (d := G75 (U n)) (d' := k75) rfl (fun _ _ _ _ _ hp => gM hp) h
theorem gK_back {w : World} {x : S75} {c : List Value} (h : k75.K w x c) : ∃ n, (G75 (U n)).K w x c := by
  obtain ⟨_, _, rfl, h0, ⟨_, _, rfl, h1, ⟨A2, c2, rfl, l2, g2⟩⟩⟩ := h
  obtain ⟨n, q⟩ := Kd.fix_C_back mono79 g2
  exact ⟨n, _, _, rfl, h0, _, _, rfl, h1, A2, c2, rfl, l2, q⟩
theorem gM_back {w : World} {base : Nat} {ok : Nat → Prop} {x : S75} {c : List Value} (h : k75.M w base ok x c) : ∃ n, (G75 (U n)).M w base ok x c := by
  obtain ⟨_, _, rfl, h0, ⟨_, _, rfl, h1, ⟨v2, rfl, g2⟩⟩⟩ := h
  obtain ⟨n, q⟩ := Kd.fix_R_back mono79 g2
  exact ⟨n, _, _, rfl, h0, _, _, rfl, h1, v2, rfl, q⟩
theorem gC_back {w : World} {A : Option Addr} {m : Nat} {xs : List S75} (h : k75.C w A m xs) : ∃ n, (G75 (U n)).C w A m xs := by
  rcases Nat.eq_zero_or_pos m with hz | hpos
  · subst hz
    exact ⟨0, h.1, h.2.1, fun hp => absurd hp (Nat.lt_irrefl 0)⟩
  · obtain ⟨ad, e, hc⟩ := h.2.2 hpos
    obtain ⟨N, hN⟩ := Kd.bounded (P := fun n j => ∀ p, xs[j]? = some p → ∃ c, c.length = 3 ∧ (G75 (U n)).K w p c ∧ ∀ i u, c[i]? = some u → w.cell? (ad.add (j * 3 + i)) = some u)
      (fun n n' j hnm hp p hj => by
        obtain ⟨c, h1, h2, h3⟩ := hp p hj
        exact ⟨c, h1, gK_le hnm h2, h3⟩) xs.length
      (fun j hj => by
        obtain ⟨c, h1, h2, h3⟩ := hc j _ (List.getElem?_eq_getElem hj)
        obtain ⟨n, h2⟩ := gK_back h2
        refine ⟨n, fun p hp => ?_⟩
        rw [List.getElem?_eq_getElem hj] at hp
        injection hp with hp
        rw [← hp]
        exact ⟨c, h1, h2, h3⟩)
    exact ⟨N, h.1, h.2.1, fun _ => ⟨ad, e, fun j p hj => hN j (List.getElem?_eq_some_iff.1 hj).1 p hj⟩⟩
theorem gR_back {e : Nat} {w : World} {base : Nat} {ok : Nat → Prop} {v : Value} {xs : List S75} (h : k75.R e w base ok v xs) : ∃ n, (G75 (U n)).R e w base ok v xs := by
  obtain ⟨h0, inner, ho, hr⟩ := h
  obtain ⟨N, hN⟩ := Kd.reps_bounded (R := fun n p c => (G75 (U n)).M w base (fun k => ok k ∧ some k ≠ v.ownBlock) p c) (fun n m p c hnm hp => gM_le hnm hp) (hr.imp_ (fun _ _ hp => gM_back hp))
  exact ⟨N, h0, inner, ho, hN⟩

theorem k79_open {w : World} {x : S79} {cs : List Value} (h : k79.K w x cs) : ∃ A2 c2, cs = [.int .i64 x.f0, .bool x.f1, .slice A2 x.f2.length c2] ∧ x.f2.length ≤ c2 ∧ k75.C w A2 x.f2.length x.f2 := by
  obtain ⟨n, h⟩ := h
  cases n with
  | zero => exact h.elim
  | succ n =>
    obtain ⟨_, _, rfl, rfl, ⟨_, _, rfl, rfl, ⟨A2, c2, rfl, l2, g2⟩⟩⟩ := h
    exact ⟨A2, c2, rfl, l2, gC g2⟩
theorem k79_openM {w : World} {base : Nat} {ok : Nat → Prop} {x : S79} {cs : List Value} (h : k79.M w base ok x cs) : ∃ v2, cs = [.int .i64 x.f0, .bool x.f1, v2] ∧ k75.R 75 w base ok v2 x.f2 := by
  obtain ⟨n, h⟩ := h
  cases n with
  | zero => exact h.elim
  | succ n =>
    obtain ⟨_, _, rfl, rfl, ⟨_, _, rfl, rfl, ⟨v2, rfl, g2⟩⟩⟩ := h
    exact ⟨v2, rfl, gR g2⟩
theorem k79_mk (w : World) (x : S79) {A2 : Option Addr} {c2 : Nat} (l2 : x.f2.length ≤ c2) (g2 : k75.C w A2 x.f2.length x.f2) : k79.K w x [.int .i64 x.f0, .bool x.f1, .slice A2 x.f2.length c2] := by
  obtain ⟨n, q⟩ := gC_back g2
  exact ⟨n + 1, [.int .i64 x.f0], [.bool x.f1, .slice A2 x.f2.length c2], rfl, rfl, ⟨[.bool x.f1], [.slice A2 x.f2.length c2], rfl, rfl, ⟨A2, c2, rfl, l2, q⟩⟩⟩
theorem k79_mkM (w : World) (base : Nat) (ok : Nat → Prop) (x : S79) {v2 : Value} (g2 : k75.R 75 w base ok v2 x.f2) : k79.M w base ok x [.int .i64 x.f0, .bool x.f1, v2] := by
  obtain ⟨n, q⟩ := gR_back g2
  exact ⟨n + 1, [.int .i64 x.f0], [.bool x.f1, v2], rfl, rfl, ⟨[.bool x.f1], [v2], rfl, rfl, ⟨v2, rfl, q⟩⟩⟩
theorem k75_open {w : World} {x : S75} {cs : List Value} (h : k75.K w x cs) : ∃ A2 c2, cs = [.int .u8 x.f0, .int .i64 x.f1, .slice A2 x.f2.length c2] ∧ x.f2.length ≤ c2 ∧ k79.C w A2 x.f2.length x.f2 := by
  obtain ⟨_, _, rfl, rfl, ⟨_, _, rfl, rfl, ⟨A2, c2, rfl, l2, g2⟩⟩⟩ := h
  exact ⟨A2, c2, rfl, l2, g2⟩
theorem k75_openM {w : World} {base : Nat} {ok : Nat → Prop} {x : S75} {cs : List Value} (h : k75.M w base ok x cs) : ∃ v2, cs = [.int .u8 x.f0, .int .i64 x.f1, v2] ∧ k79.R 79 w base ok v2 x.f2 := by
  obtain ⟨_, _, rfl, rfl, ⟨_, _, rfl, rfl, ⟨v2, rfl, g2⟩⟩⟩ := h
  exact ⟨v2, rfl, g2⟩
theorem k75_mk (w : World) (x : S75) {A2 : Option Addr} {c2 : Nat} (l2 : x.f2.length ≤ c2) (g2 : k79.C w A2 x.f2.length x.f2) : k75.K w x [.int .u8 x.f0, .int .i64 x.f1, .slice A2 x.f2.length c2] := ⟨[.int .u8 x.f0], [.int .i64 x.f1, .slice A2 x.f2.length c2], rfl, rfl, ⟨[.int .i64 x.f1], [.slice A2 x.f2.length c2], rfl, rfl, ⟨A2, c2, rfl, l2, g2⟩⟩⟩
theorem k75_mkM (w : World) (base : Nat) (ok : Nat → Prop) (x : S75) {v2 : Value} (g2 : k79.R 79 w base ok v2 x.f2) : k75.M w base ok x [.int .u8 x.f0, .int .i64 x.f1, v2] := ⟨[.int .u8 x.f0], [.int .i64 x.f1, v2], rfl, rfl, ⟨[.int .i64 x.f1], [v2], rfl, rfl, ⟨v2, rfl, g2⟩⟩⟩
theorem k75_openF {W : World} {ok : Nat → Prop} {x : S75} {cs : List Value} (h : Kd.FK k75 W ok x cs) : ∃ A2 c2, cs = [.int .u8 x.f0, .int .i64 x.f1, .slice A2 x.f2.length c2] ∧ x.f2.length ≤ c2 ∧ Kd.F k79 W ok A2 x.f2.length x.f2 := by
  obtain ⟨A2, c2, rfl, l2, _⟩ := k75_open (Kd.FK_now h)
  exact ⟨A2, c2, rfl, l2, (fun W' hW => by obtain ⟨A2_, c2_, he, l2_, g2_⟩ := k75_open (h W' hW); injection (Option.some.inj (show some (Value.slice A2 x.f2.length c2) = some (Value.slice A2_ x.f2.length c2_) from congrArg (fun l => l[2]?) he)) with ha_ _ _; rw [ha_]; exact g2_)⟩
theorem k75_mkF (W : World) (ok : Nat → Prop) (x : S75) {A2 : Option Addr} {c2 : Nat} (l2 : x.f2.length ≤ c2) (g2 : Kd.F k79 W ok A2 x.f2.length x.f2) : Kd.FK k75 W ok x [.int .u8 x.f0, .int .i64 x.f1, .slice A2 x.f2.length c2] := fun W2 hW => k75_mk W2 x l2 (g2 W2 hW)
theorem k79_openF {W : World} {ok : Nat → Prop} {x : S79} {cs : List Value} (h : Kd.FK k79 W ok x cs) : ∃ A2 c2, cs = [.int .i64 x.f0, .bool x.f1, .slice A2 x.f2.length c2] ∧ x.f2.length ≤ c2 ∧ Kd.F k75 W ok A2 x.f2.length x.f2 := by
  obtain ⟨A2, c2, rfl, l2, _⟩ := k79_open (Kd.FK_now h)
  exact ⟨A2, c2, rfl, l2, (fun W' hW => by obtain ⟨A2_, c2_, he, l2_, g2_⟩ := k79_open (h W' hW); injection (Option.some.inj (show some (Value.slice A2 x.f2.length c2) = some (Value.slice A2_ x.f2.length c2_) from congrArg (fun l => l[2]?) he)) with ha_ _ _; rw [ha_]; exact g2_)⟩
theorem k79_mkF (W : World) (ok : Nat → Prop) (x : S79) {A2 : Option Addr} {c2 : Nat} (l2 : x.f2.length ≤ c2) (g2 : Kd.F k75 W ok A2 x.f2.length x.f2) : Kd.FK k79 W ok x [.int .i64 x.f0, .bool x.f1, .slice A2 x.f2.length c2] := fun W2 hW => k79_mk W2 x l2 (g2 W2 hW)
def rd_T75 (xs : List S75) (i : Int) : S75 := xs.getD i.toNat z75
theorem at_T75 {w : World} {A : Option Addr} {n : Nat} {xs : List S75} (h : Kd.C k75 w A n xs) (i : Int) (h0 : 0 ≤ i) (h1 : i < n) : ∃ ad A2 c2, A = some ad ∧ w.cell? (ad.add (i.toNat * 3)) = some (.int .u8 (rd_T75 xs i).f0) ∧ w.cell? ⟨(ad.add (i.toNat * 3)).block, (ad.add (i.toNat * 3)).off + 1, none⟩ = some (.int .i64 (rd_T75 xs i).f1) ∧ w.cell? ⟨(ad.add (i.toNat * 3)).block, (ad.add (i.toNat * 3)).off + 2, none⟩ = some (.slice A2 (rd_T75 xs i).f2.length c2) ∧ (rd_T75 xs i).f2.length ≤ c2 ∧ k79.C w A2 (rd_T75 xs i).f2.length (rd_T75 xs i).f2 := by
  obtain ⟨ad, c, e, _, hK, hc0⟩ := Kd.C_get h z75 i h0 h1
  have hc : ∀ j u, c[j]? = some u → w.cell? (ad.add (i.toNat * 3 + j)) = some u := hc0
  obtain ⟨A2, c2, rfl, l2, g2⟩ := k75_open hK
  exact ⟨ad, A2, c2, e, hc 0 _ rfl, by rw [← add_field _ _ 1 (by omega)]; exact hc 1 _ rfl, by rw [← add_field _ _ 2 (by omega)]; exact hc 2 _ rfl, l2, g2⟩
def rd_T79 (xs : List S79) (i : Int) : S79 := xs.getD i.toNat z79
theorem at_T79 {w : World} {A : Option Addr} {n : Nat} {xs : List S79} (h : Kd.C k79 w A n xs) (i : Int) (h0 : 0 ≤ i) (h1 : i < n) : ∃ ad A2 c2, A = some ad ∧ w.cell? (ad.add (i.toNat * 3)) = some (.int .i64 (rd_T79 xs i).f0) ∧ w.cell? ⟨(ad.add (i.toNat * 3)).block, (ad.add (i.toNat * 3)).off + 1, none⟩ = some (.bool (rd_T79 xs i).f1) ∧ w.cell? ⟨(ad.add (i.toNat * 3)).block, (ad.add (i.toNat * 3)).off + 2, none⟩ = some (.slice A2 (rd_T79 xs i).f2.length c2) ∧ (rd_T79 xs i).f2.length ≤ c2 ∧ k75.C w A2 (rd_T79 xs i).f2.length (rd_T79 xs i).f2 := by
  obtain ⟨ad, c, e, _, hK, hc0⟩ := Kd.C_get h z79 i h0 h1
  have hc : ∀ j u, c[j]? = some u → w.cell? (ad.add (i.toNat * 3 + j)) = some u := hc0
  obtain ⟨A2, c2, rfl, l2, g2⟩ := k79_open hK
  exact ⟨ad, A2, c2, e, hc 0 _ rfl, by rw [← add_field _ _ 1 (by omega)]; exact hc 1 _ rfl, by rw [← add_field _ _ 2 (by omega)]; exact hc 2 _ rfl, l2, g2⟩
end Go.Proofs.YtgfljlbecafipaaDoor.PA
