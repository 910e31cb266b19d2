/- schema.taker: what it holds in memory; its check, number, text. (*schema.taker).take: it takes what the plain function does, or refuses. -/
import Derived.Test.YtgfljlbecafipaaGreatDoorMc
import Derived.Test.YtgfljlbecafipaaGreatDoorLa
import Derived.StillTailTactics
import Derived.Deep.RegionHeld3
import Derived.BigRegion
import Derived.BigGuard
namespace Go.Proofs.YtgfljlbecafipaaGreatDoor.Xw
open Go.RowKit Go.Lib Go.Proofs.YtgfljlbecafipaaGreatDoor.PA Go.Proofs.YtgfljlbecafipaaGreatDoorW.PrintWords Go.Proofs.YtgfljlbecafipaaGreatDoorW.PrintLast Go.Proofs.YtgfljlbecafipaaGreatDoorW.PrintMore
set_option linter.unusedVariables false
set_option linter.unusedSimpArgs false

section
variable {ops : Array Oper} {rest : List Oper} {o : Oper} {a : Act} {Q : Exit → Act → World → Prop}
/-- 'x.f = append(x.f, c)', one cell: the append -/
theorem one_event {W : World} (hgd : o.guard = none) (s x : Operand) (ts e : TypeId) (z : Value) (nb : Nat) (ho : o.op = .call { callee := .builtin .append, args := #[s, x], argTypes := #[ts, ts] })
    (hu : Tryz.prog.underlying ts = some (.slice e)) (hinfo : ((Tryz.prog).info? e).map (fun i => (i.zero, i.size, i.bytes)) = some (some z, 1, nb)) (hz : z.cells.size = 1) (hnb : nb ≤ 16) {B : Nat} {v : Value} {xs : List Value}
    (hs : a.eval s = v) (hown : W.ownsRow B e 1 v xs.length xs) {ad : Addr} {c : Value} (hx : a.eval x = .slice (some ad) 1 1) (hc : W.cell? ad = some c) (h1 : c.oneCell' = true) (hB : B ≤ W.heap.size) (hlen : xs.length ≤ 8000000000000)
    (h : ∀ v' w', w'.ownsRow B e 1 v' (xs ++ [c]).length (xs ++ [c]) → W.grownBy w' v.ownBlock → wpList Tryz.prog ops Q rest (a.put o.dst v') w') : wpList Tryz.prog ops Q (o :: rest) a W := by
  obtain ⟨i, hi, hzz⟩ := Option.map_eq_some_iff.1 hinfo
  simp only [Prod.mk.injEq] at hzz
  refine wpList_append_own W hgd s x ts ho B e i z 1 nb hu hi hzz.1 hzz.2.1 hzz.2.2 hz (by decide) v xs.length xs hs hown ad 1 1 [c] hx rfl ?_ ?_ (by unfold maxLen; omega) (Nat.le_trans (Nat.mul_le_mul (Nat.le_refl _) hnb) (by omega)) hB ?_
  · intro j u hj
    match j, hj with
    | 0, hj =>
      simp at hj; subst hj
      have e2 : ad.add 0 = ad := by unfold Addr.add; split <;> simp_all
      rw [e2]; exact hc
    | (j + 1), hj => simp at hj
  · intro u hu; simp at hu; subst hu; exact h1
  · intro v' w' ho' hg _
    exact h v' w' (by rw [List.length_append]; exact ho') hg
end
theorem int_info : ((Tryz.prog).info? 3).map (fun i => (i.zero, i.size, i.bytes)) = some (some (.int .i64 0), 1, 8) := by kernel_rfl
theorem str_info : ((Tryz.prog).info? 9).map (fun i => (i.zero, i.size, i.bytes)) = some (some (.string ⟨#[]⟩), 1, 16) := by kernel_rfl

/-- rows of another type stay -/
theorem ownT {w w' : World} {B e n : Nat} {v : Value} {xs : List Value} (ho : w.ownsRow B e 1 v n xs) (hk : ∀ (k : Nat) (cur : Array Value), w.heap[k]? = some (Obj.cells cur e (0, 0)) → w'.heap[k]? = some (Obj.cells cur e (0, 0))) : w'.ownsRow B e 1 v n xs := by
  obtain ⟨h1, h2⟩ := ho
  refine ⟨h1, ?_⟩
  rcases h2 with h2 | ⟨k, cap, row, e2, hge, hr, rest⟩
  · exact .inl h2
  · exact .inr ⟨k, cap, row, e2, hge, hk _ _ hr, rest⟩
theorem types_grown {w w' : World} {g : Nat} {cur : Array Value} {t : TypeId} {fr : Nat × Nat} (hb : w.heap[g]? = some (.cells cur t fr)) (h : w.grownBy w' (some g)) : ∀ (k : Nat) (cs : Array Value) (t' : TypeId) (f : Nat × Nat), t' ≠ t → w.heap[k]? = some (.cells cs t' f) → w'.heap[k]? = some (.cells cs t' f) := fun k cs t' f hne hk => by
  refine Lb.blk_grown' hk h (fun e => ?_)
  rw [e, hb] at hk
  injection hk with hk
  injection hk with _ e2 _
  exact hne e2.symm
theorem types_own {w w' : World} {B n e : Nat} {v : Value} {xs : List Value} (ho : w.ownsRow B e 1 v n xs) (h : w.grownBy w' v.ownBlock) : ∀ (k : Nat) (cs : Array Value) (t' : TypeId) (f : Nat × Nat), t' ≠ e → w.heap[k]? = some (.cells cs t' f) → w'.heap[k]? = some (.cells cs t' f) := fun k cs t' f hne hk => by
  refine blk_grown hk h (fun e3 => ?_)
  obtain ⟨_, h2⟩ := ho
  rcases h2 with ⟨h2, _⟩ | ⟨q, cap, row, e2, hq, hr, _⟩
  · rw [h2] at e3; cases e3
  · rw [e2] at e3
    injection e3 with e3
    have e' : k = q := e3
    rw [← e', hk] at hr
    injection hr with hr
    injection hr with _ e4 _
    exact hne e4

/-- what lies below B, and blocks of other types than a taker's, stay -/
structure FrT (B : Nat) (w w' : World) : Prop where
  bel : Below B w w'
  frm : ∀ (k : Nat) (cs : Array Value) (t' : TypeId) (f : Nat × Nat), w.heap[k]? = some (.cells cs t' f) → t' ≠ 48 → t' ≠ 72 → t' ≠ 3 → t' ≠ 9 → w'.heap[k]? = some (.cells cs t' f)
theorem FrT.refl (B : Nat) (w : World) : FrT B w w := ⟨Below.refl B w, fun _ _ _ _ h _ _ _ _ => h⟩
theorem FrT.trans {B : Nat} {a b c : World} (h : FrT B a b) (k : FrT B b c) : FrT B a c := ⟨h.bel.trans k.bel, fun i cs t' f h1 h2 h3 h4 h5 => k.frm i cs t' f (h.frm i cs t' f h1 h2 h3 h4 h5) h2 h3 h4 h5⟩
theorem FrT.of {B : Nat} {w w' : World} (h : Below w.heap.size w w') (hB : B ≤ w.heap.size) : FrT B w w' := ⟨h.mono hB, fun _ _ _ _ h1 _ _ _ _ => Lb.blk_below h1 h⟩

structure TIs (B : Nat) (w : World) (g gr : Nat) (s : TP) : Prop where
  ex : ∃ vN vT, w.heap[g]? = some (.cells #[.pointer (some ⟨gr, 0, none⟩), vN, vT] 48 (0, 0)) ∧ w.ownsRow B 3 1 vN s.N.length (s.N.map (Value.int .i64)) ∧ w.ownsRow B 9 1 vT s.T.length (s.T.map Value.string)
  rd : RS w gr s.r
  ge : B ≤ g
  ger : B ≤ gr
theorem TIs.lt {B : Nat} {w : World} {g gr : Nat} {s : TP} (h : TIs B w g gr s) : B ≤ w.heap.size := by
  have := blk_lt h.rd; have := h.ger; omega
theorem TIs.step {B : Nat} {w w' : World} {g gr : Nat} {s : TP} (h : TIs B w g gr s) (hb : Below w.heap.size w w') : TIs B w' g gr s := by
  obtain ⟨vN, vT, h1, h2, h3⟩ := h.ex
  exact ⟨⟨vN, vT, Lb.blk_below h1 hb, ownT h2 (fun k cur hk => Lb.blk_below hk hb), ownT h3 (fun k cur hk => Lb.blk_below hk hb)⟩, Lb.blk_below h.rd hb, h.ge, h.ger⟩
/-- a block of another type is written -/
theorem TIs.other {B : Nat} {w w' : World} {g gr : Nat} {s : TP} (h : TIs B w g gr s) {g' : Nat} (hg : w.grownBy w' (some g')) {cs : Array Value} {t : TypeId} {fr : Nat × Nat} (hx : w.heap[g']? = some (.cells cs t fr)) (h1 : 48 ≠ t) (h2 : 72 ≠ t) (h3 : 3 ≠ t) (h4 : 9 ≠ t) : TIs B w' g gr s := by
  obtain ⟨vN, vT, k1, k2, k3⟩ := h.ex
  have ht := types_grown hx hg
  exact ⟨⟨vN, vT, ht _ _ _ _ h1 k1, ownT k2 (fun k cur hk => ht _ _ _ _ h3 hk), ownT k3 (fun k cur hk => ht _ _ _ _ h4 hk)⟩, ht _ _ _ _ h2 h.rd, h.ge, h.ger⟩
/-- its reader goes on -/
theorem TIs.read {B : Nat} {w w' : World} {g gr : Nat} {s : TP} (h : TIs B w g gr s) {r : RP} (hr : RS w' gr r) (hg : w.grownBy w' (some gr)) : TIs B w' g gr ⟨r, s.N, s.T⟩ ∧ FrT B w w' := by
  obtain ⟨vN, vT, k1, k2, k3⟩ := h.ex
  have ht := types_grown h.rd hg
  exact ⟨⟨⟨vN, vT, ht _ _ _ _ (by decide) k1, ownT k2 (fun k cur hk => ht _ _ _ _ (by decide) hk), ownT k3 (fun k cur hk => ht _ _ _ _ (by decide) hk)⟩, hr, h.ge, h.ger⟩,
    ⟨Lb.grown_below (Below.refl B w) hg h.lt h.ger, fun k cs t' f a1 _ a3 _ _ => ht _ _ _ _ a3 a1⟩⟩
theorem TIs.c0 {B : Nat} {w : World} {g gr : Nat} {s : TP} (h : TIs B w g gr s) : w.cell? ⟨g, 0, none⟩ = some (.pointer (some ⟨gr, 0, none⟩)) := by
  obtain ⟨vN, vT, k1, k2, k3⟩ := h.ex
  exact (blk_cell k1 0).trans rfl

theorem panic_refuse (c : Int) : True := trivial

set_option maxRecDepth 100000 in
theorem tcheck_ok (B g gr : Nat) (s : TP) (w : World) (h : TIs B w g gr s) (he : s.r.e = 0 ∨ s.r.e = 6) :
    Calls Tryz.prog 32 #[.pointer (some ⟨g, 0, none⟩)] w fun e w' => e = .returned (.tuple #[]) ∧ w' = w := by
  have hc0 := h.c0
  have hE := end_calls gr s.r w h.rd
  obtain ⟨y, hy⟩ : ∃ y, y = (if s.r.e = 0 ∧ s.r.l ≠ [] then 6 else s.r.e) := ⟨_, rfl⟩
  rw [← hy] at hE
  have hy2 : y = 0 ∨ y = 6 := by
    rw [hy]; split
    · exact .inr rfl
    · exact he
  clear h hy he
  rcases hy2 with rfl | rfl
  all_goals
    go_enter Tryz.func32, Tryz.ntmps32
    go_wp2_with (go_at_call 16; refine hE.mono ?_; rintro e w1 ⟨rfl, rfl⟩; clear hE)
    go_end0
    exact ⟨rfl, rfl⟩
set_option maxRecDepth 100000 in
theorem tcheck_bad (B g gr : Nat) (s : TP) (w : World) (h : TIs B w g gr s) (he : ¬ (s.r.e = 0 ∨ s.r.e = 6)) :
    Calls Tryz.prog 32 #[.pointer (some ⟨g, 0, none⟩)] w fun e w' => e = bad s.r.e ∧ w' = w := by
  have hc0 := h.c0
  have hE := end_calls gr s.r w h.rd
  rw [if_neg (fun hh => he (.inl hh.1))] at hE
  obtain ⟨y, hy⟩ : ∃ y, y = s.r.e := ⟨_, rfl⟩
  rw [← hy] at hE he ⊢
  have n0 : (y != 0) = true := by simp; omega
  have n6 : (y != 6) = true := by simp; omega
  clear h hy he
  go_enter Tryz.func32, Tryz.ntmps32
  go_wp2_with (go_at_call 16; refine hE.mono ?_; rintro e w1 ⟨rfl, rfl⟩; clear hE)
  exact And.intro rfl (And.intro rfl rfl)
theorem tbit_calls (b : Bool) (w : World) : Calls Tryz.prog 27 #[.bool b] w fun e w' => e = .returned (.int .i64 (bitI b)) ∧ w' = w := by
  cases b
  all_goals
    go_enter Tryz.func27, Tryz.ntmps27
    go_wp2
    go_ret
    exact ⟨rfl, rfl⟩

set_option maxRecDepth 100000 in
set_option maxHeartbeats 1000000 in
theorem tnumber_ok (n : Int) (B g gr : Nat) (s : TP) (w : World) (h : TIs B w g gr s) (he : s.r.e = 0 ∨ s.r.e = 6) (hlen : s.N.length ≤ 8000000000000) :
    Calls Tryz.prog 24 #[.pointer (some ⟨g, 0, none⟩), .int .i64 n] w fun e w' => e = .returned (.int .i64 n) ∧ TIs B w' g gr ⟨s.r, s.N ++ [n], s.T⟩ ∧ FrT B w w' := by
  have hK := tcheck_ok B g gr s w h he
  obtain ⟨vN, vT, k1, k2, k3⟩ := h.ex
  have hc1 := (blk_cell k1 1).trans rfl
  have H := Aside0.mk h
  have K1 := Aside0.mk k1
  have K2 := Aside0.mk k2
  have K3 := Aside0.mk k3
  have HLEN : Aside0 ((s.N.map (Value.int .i64)).length ≤ 8000000000000) := ⟨by rw [List.length_map]; exact hlen⟩
  have k2' := k2
  rw [show s.N.length = (s.N.map (Value.int .i64)).length by simp] at k2'
  have K2' := Aside0.mk k2'
  clear h k1 k2 k3 he hlen k2'
  go_enter Tryz.func24, Tryz.ntmps24
  go_wp2_with (first
    | (go_at_call 32; refine hK.mono ?_; rintro e w1 ⟨rfl, rfl⟩; clear hK)
    | ((with_reducible refine gate_dst (N := 14) rfl ?_); refine Lb.alloc_event ?hg (v := fun g => .slice (some ⟨g, 0, none⟩) 1 1) (cs := #[.int .i64 n]) (t := 3) (fr := (0, 0)) ?hr ?_; (case hg => rfl); (case hr => first | (go_simp; done) | (go_simp; rfl)); intro gb hgb w4 hx4 hb4; have HX4 := Aside0.mk hx4; have HB4 := Aside0.mk hb4; clear hx4 hb4 hgb hc1)
    | ((with_reducible refine gate_dst (N := 15) rfl ?_); refine one_event rfl (.tmp 12) (.tmp 14) 25 3 (.int .i64 0) 8 rfl Tryz.underlying25 int_info rfl (by decide) (B := B) (v := vN) (xs := s.N.map (Value.int .i64)) (c := .int .i64 n) rfl (ownT K2'.out (fun k cur hk => Lb.blk_below hk HB4.out)) rfl ((blk_cell HX4.out 0).trans rfl) rfl (Nat.le_trans H.out.lt HB4.out.size) HLEN.out ?_; intro v5 w5 ho5 hg5; have HO5 := Aside0.mk ho5; have HG5 := Aside0.mk hg5; have hT5 := types_own (ownT K2.out (fun k cur hk => Lb.blk_below hk HB4.out)) hg5; have HX5 := Aside0.mk (hT5 _ _ _ _ (by decide) (Lb.blk_below K1.out HB4.out)); have HT5 := Aside0.mk hT5; clear ho5 hg5 hT5)
    | ((with_reducible refine gate_store (t := 25) (p := 18) rfl ?_); refine Lb.store_one rfl rfl 25 (.tmp 18) (.tmp 15) rfl (u := v5) rfl rfl ?u ?u1 HX5.out (by kernel_rfl) (by simp) ?_; (case u => exact own_cells HO5.out); (case u1 => exact own_one HO5.out); intro w6 hb6 hg6; have HX6 := Aside0.mk hb6; have HG6 := Aside0.mk hg6; have HT6 := Aside0.mk (types_grown HX5.out hg6); clear hb6 hg6))
  go_ret
  refine ⟨rfl, ⟨⟨v5, vT, HX6.out, ?_, ?_⟩, HT6.out _ _ _ _ (by decide) (HT5.out _ _ _ _ (by decide) (Lb.blk_below H.out.rd HB4.out)), H.out.ge, H.out.ger⟩, ⟨?_, ?_⟩⟩
  · have := ownT HO5.out (fun k cur hk => HT6.out _ _ _ _ (by decide) hk)
    rw [show (s.N.map (Value.int .i64) ++ [Value.int .i64 n]) = (s.N ++ [n]).map (Value.int .i64) by simp, List.length_map] at this
    exact this
  · exact ownT (ownT (ownT K3.out (fun k cur hk => Lb.blk_below hk HB4.out)) (fun k cur hk => HT5.out _ _ _ _ (by decide) hk)) (fun k cur hk => HT6.out _ _ _ _ (by decide) hk)
  · exact Lb.grown_below (own_below (ownT K2.out (fun k cur hk => Lb.blk_below hk HB4.out)) (HB4.out.mono H.out.lt) (Nat.le_trans H.out.lt HB4.out.size) HG5.out) HG6.out (Nat.le_trans (Nat.le_trans H.out.lt HB4.out.size) HG5.out.size) H.out.ge
  · exact fun k cs t' f a1 a2 a3 a4 a5 => HT6.out _ _ _ _ a2 (HT5.out _ _ _ _ a4 (Lb.blk_below a1 HB4.out))
set_option maxRecDepth 100000 in
theorem tnumber_bad (n : Int) (B g gr : Nat) (s : TP) (w : World) (h : TIs B w g gr s) (he : ¬ (s.r.e = 0 ∨ s.r.e = 6)) :
    Calls Tryz.prog 24 #[.pointer (some ⟨g, 0, none⟩), .int .i64 n] w fun e w' => e = bad s.r.e ∧ w' = w := by
  have hK := tcheck_bad B g gr s w h he
  obtain ⟨y, hy⟩ : ∃ y, y = s.r.e := ⟨_, rfl⟩
  rw [← hy] at hK ⊢
  clear h he hy
  go_enter Tryz.func24, Tryz.ntmps24
  go_wp2_with (go_at_call 32; refine hK.mono ?_; rintro e w1 ⟨he, rfl⟩; unfold bad at he; subst he; clear hK)
  exact And.intro rfl (And.intro rfl rfl)

set_option maxRecDepth 100000 in
set_option maxHeartbeats 1000000 in
theorem ttext_ok (x : ByteArray) (B g gr : Nat) (s : TP) (w : World) (h : TIs B w g gr s) (he : s.r.e = 0 ∨ s.r.e = 6) (hlen : s.T.length ≤ 8000000000000) :
    Calls Tryz.prog 29 #[.pointer (some ⟨g, 0, none⟩), .string x] w fun e w' => e = .returned (.tuple #[]) ∧ TIs B w' g gr ⟨s.r, s.N, s.T ++ [x]⟩ ∧ FrT B w w' := by
  have hK := tcheck_ok B g gr s w h he
  obtain ⟨vN, vT, k1, k2, k3⟩ := h.ex
  have hc2 := (blk_cell k1 2).trans rfl
  have H := Aside0.mk h
  have K1 := Aside0.mk k1
  have K2 := Aside0.mk k2
  have K3 := Aside0.mk k3
  have HLEN : Aside0 ((s.T.map Value.string).length ≤ 8000000000000) := ⟨by rw [List.length_map]; exact hlen⟩
  have k3' := k3
  rw [show s.T.length = (s.T.map Value.string).length by simp] at k3'
  have K3' := Aside0.mk k3'
  clear h k1 k2 k3 he hlen k3'
  go_enter Tryz.func29, Tryz.ntmps29
  go_wp2_with (first
    | (go_at_call 32; refine hK.mono ?_; rintro e w1 ⟨rfl, rfl⟩; clear hK)
    | ((with_reducible refine gate_dst (N := 13) rfl ?_); refine Lb.alloc_event ?hg (v := fun g => .slice (some ⟨g, 0, none⟩) 1 1) (cs := #[.string x]) (t := 9) (fr := (0, 0)) ?hr ?_; (case hg => rfl); (case hr => first | (go_simp; done) | (go_simp; rfl)); intro gb hgb w4 hx4 hb4; have HX4 := Aside0.mk hx4; have HB4 := Aside0.mk hb4; clear hx4 hb4 hgb hc2)
    | ((with_reducible refine gate_dst (N := 14) rfl ?_); refine one_event rfl (.tmp 11) (.tmp 13) 26 9 (.string ⟨#[]⟩) 16 rfl Tryz.underlying26 str_info rfl (by decide) (B := B) (v := vT) (xs := s.T.map Value.string) (c := .string x) rfl (ownT K3'.out (fun k cur hk => Lb.blk_below hk HB4.out)) rfl ((blk_cell HX4.out 0).trans rfl) rfl (Nat.le_trans H.out.lt HB4.out.size) HLEN.out ?_; intro v5 w5 ho5 hg5; have HO5 := Aside0.mk ho5; have HG5 := Aside0.mk hg5; have hT5 := types_own (ownT K3.out (fun k cur hk => Lb.blk_below hk HB4.out)) hg5; have HX5 := Aside0.mk (hT5 _ _ _ _ (by decide) (Lb.blk_below K1.out HB4.out)); have HT5 := Aside0.mk hT5; clear ho5 hg5 hT5)
    | ((with_reducible refine gate_store (t := 26) (p := 17) rfl ?_); refine Lb.store_one rfl rfl 26 (.tmp 17) (.tmp 14) rfl (u := v5) rfl rfl ?u ?u1 HX5.out (by kernel_rfl) (by simp) ?_; (case u => exact own_cells HO5.out); (case u1 => exact own_one HO5.out); intro w6 hb6 hg6; have HX6 := Aside0.mk hb6; have HG6 := Aside0.mk hg6; have HT6 := Aside0.mk (types_grown HX5.out hg6); clear hb6 hg6))
  go_end0
  refine ⟨rfl, ⟨⟨vN, v5, HX6.out, ?_, ?_⟩, HT6.out _ _ _ _ (by decide) (HT5.out _ _ _ _ (by decide) (Lb.blk_below H.out.rd HB4.out)), H.out.ge, H.out.ger⟩, ⟨?_, ?_⟩⟩
  · exact ownT (ownT (ownT K2.out (fun k cur hk => Lb.blk_below hk HB4.out)) (fun k cur hk => HT5.out _ _ _ _ (by decide) hk)) (fun k cur hk => HT6.out _ _ _ _ (by decide) hk)
  · have := ownT HO5.out (fun k cur hk => HT6.out _ _ _ _ (by decide) hk)
    rw [show (s.T.map Value.string ++ [Value.string x]) = (s.T ++ [x]).map Value.string by simp, List.length_map] at this
    exact this
  · exact Lb.grown_below (own_below (ownT K3.out (fun k cur hk => Lb.blk_below hk HB4.out)) (HB4.out.mono H.out.lt) (Nat.le_trans H.out.lt HB4.out.size) HG5.out) HG6.out (Nat.le_trans (Nat.le_trans H.out.lt HB4.out.size) HG5.out.size) H.out.ge
  · exact fun k cs t' f a1 a2 a3 a4 a5 => HT6.out _ _ _ _ a2 (HT5.out _ _ _ _ a5 (Lb.blk_below a1 HB4.out))
set_option maxRecDepth 100000 in
theorem ttext_bad (x : ByteArray) (B g gr : Nat) (s : TP) (w : World) (h : TIs B w g gr s) (he : ¬ (s.r.e = 0 ∨ s.r.e = 6)) :
    Calls Tryz.prog 29 #[.pointer (some ⟨g, 0, none⟩), .string x] w fun e w' => e = bad s.r.e ∧ w' = w := by
  have hK := tcheck_bad B g gr s w h he
  obtain ⟨y, hy⟩ : ∃ y, y = s.r.e := ⟨_, rfl⟩
  rw [← hy] at hK ⊢
  clear h he hy
  go_enter Tryz.func29, Tryz.ntmps29
  go_wp2_with (go_at_call 32; refine hK.mono ?_; rintro e w1 ⟨he, rfl⟩; unfold bad at he; subst he; clear hK)
  exact And.intro rfl (And.intro rfl rfl)
end Go.Proofs.YtgfljlbecafipaaGreatDoor.Xw

namespace Go.Proofs.YtgfljlbecafipaaGreatDoor.Xw
open Go.RowKit Go.Lib Go.Proofs.YtgfljlbecafipaaGreatDoor.PA Go.Proofs.YtgfljlbecafipaaGreatDoorW.PrintWords Go.Proofs.YtgfljlbecafipaaGreatDoorW.PrintLast Go.Proofs.YtgfljlbecafipaaGreatDoorW.PrintMore
set_option linter.unusedVariables false
set_option linter.unusedSimpArgs false

/-- a post that says R of a panic, whatever the frame -/
def PanicOr (R : List PanicEntry → World → Prop) (Q : Exit → Act → World → Prop) : Exit → Act → World → Prop
  | .panic c, _, w => R c w
  | e, a, w => Q e a w
theorem PanicOr.imp {R : List PanicEntry → World → Prop} {Q : Exit → Act → World → Prop} (h : ∀ c a w, R c w → Q (.panic c) a w) : ∀ (e : Exit) (a : Act) (w : World), PanicOr R Q e a w → Q e a w := fun e a w hh => by
  cases e <;> first | exact hh | exact h _ _ _ hh

structure TakeRes (B g gr : Nat) (r : TR) (e : Ending) (w' : World) : Prop where
  ex : (∃ s', r = .ok s' ∧ e = .returned (.tuple #[]) ∧ TIs B w' g gr s') ∨ (∃ c, r = .no c ∧ e = bad c)
theorem TakeRes.no {B g gr : Nat} {r : TR} {e : Ending} {w' : World} (h : TakeRes B g gr r e w') {c : Int} (hr : r = .no c) : e = bad c := by
  rcases h.ex with ⟨s', h1, _⟩ | ⟨c', h1, h2⟩
  · rw [hr] at h1; cases h1
  · rw [hr] at h1; injection h1 with h1; subst h1; exact h2
theorem TakeRes.yes {B g gr : Nat} {r : TR} {e : Ending} {w' : World} (h : TakeRes B g gr r e w') {s : TP} (hr : r = .ok s) : e = .returned (.tuple #[]) ∧ TIs B w' g gr s := by
  rcases h.ex with ⟨s', h1, h2, h3⟩ | ⟨c', h1, _⟩
  · rw [hr] at h1; injection h1 with h1; subst h1; exact ⟨h2, h3⟩
  · rw [hr] at h1; cases h1

theorem tkL_drop (l : List S77) (i : Nat) (h : i < l.length) (s : TP) : tkL (l.drop i) s = (tkOne (l[i]'h) s).then fun s => tkL (l.drop (i + 1)) s := by
  rw [List.drop_eq_getElem_cons h, tkL]
theorem nokL_drop (l : List S77) : ∀ (i : Nat) (h : i < l.length), nokL l = true → nokS (l[i]'h) = true := by
  induction l with
  | nil => intro i h; simp at h
  | cons x r ih =>
    intro i h hok
    rw [nokL, Bool.and_eq_true] at hok
    cases i with
    | zero => exact hok.1
    | succ i => exact ih i (by simpa using h) hok.2
theorem cntL_drop (l : List S77) (i : Nat) (h : i < l.length) : cntL (l.drop i) = cntS (l[i]'h) + cntL (l.drop (i + 1)) := by
  rw [List.drop_eq_getElem_cons h, cntL]
theorem cntL_at (l : List S77) : ∀ (i : Nat) (h : i < l.length), cntS (l[i]'h) ≤ cntL l := by
  induction l with
  | nil => intro i h; simp at h
  | cons x r ih =>
    intro i h
    rw [cntL]
    cases i with
    | zero => exact Nat.le_add_right _ _
    | succ i => exact Nat.le_trans (ih i (by simpa using h)) (Nat.le_add_left _ _)

theorem own_open {w : World} {B e n : Nat} {v : Value} {xs : List Value} (h : w.ownsRow B e 1 v n xs) : ∃ A cap, v = .slice A n cap := by
  obtain ⟨_, h2⟩ := h
  rcases h2 with ⟨h2, h3⟩ | ⟨k, cap, row, e2, _⟩
  · exact ⟨none, 0, by rw [h2, h3]⟩
  · exact ⟨_, cap, e2⟩
theorem TIs.lenN {B : Nat} {w : World} {g gr : Nat} {s : TP} (h : TIs B w g gr s) : ∃ A cap, w.cell? ⟨g, 1, none⟩ = some (.slice A s.N.length cap) := by
  obtain ⟨vN, vT, k1, k2, k3⟩ := h.ex
  obtain ⟨A, cap, rfl⟩ := own_open k2
  exact ⟨A, cap, (blk_cell k1 1).trans rfl⟩
/-- an element of the numbers: read, and put anew -/
theorem TIs.openN {B : Nat} {w : World} {g gr : Nat} {s : TP} (h : TIs B w g gr s) (p : Nat) (hp : p < s.N.length) : ∃ k cap row, w.cell? ⟨g, 1, none⟩ = some (.slice (some ⟨k, 0, none⟩) s.N.length cap) ∧ w.heap[k]? = some (.cells row 3 (0, 0)) ∧ p < row.size ∧ row[p]? = some (.int .i64 (s.N.getD p 0)) ∧
    ∀ (w' : World) (x : Int), w'.heap[k]? = some (.cells (row.setIfInBounds p (.int .i64 x)) 3 (0, 0)) → w.grownBy w' (some k) → TIs B w' g gr ⟨s.r, s.N.set p x, s.T⟩ ∧ FrT B w w' := by
  obtain ⟨vN, vT, k1, k2, k3⟩ := h.ex
  obtain ⟨hl, h2⟩ := k2
  rcases h2 with ⟨_, h2⟩ | ⟨k, cap, row, rfl, hk, hr, hn, hm, hs, ht⟩
  · omega
  · have hrow : ∀ i, i < s.N.length → row[i]? = (s.N.map (Value.int .i64))[i]? := fun i hi => by
      have := congrArg (fun l => l[i]?) ht
      simp only [Nat.mul_one] at this
      rw [List.getElem?_take, if_pos hi, Array.getElem?_toList] at this
      exact this
    have hpr : p < row.size := by omega
    refine ⟨k, cap, row, (blk_cell k1 1).trans rfl, hr, hpr, ?_, ?_⟩
    · rw [hrow p hp, List.getElem?_map, List.getElem?_eq_getElem hp, List.getD_eq_getElem?_getD, List.getElem?_eq_getElem hp]; rfl
    · intro w' x hw hg
      have htt := types_grown hr hg
      refine ⟨⟨⟨_, vT, htt _ _ _ _ (by decide) k1, ⟨by simp, .inr ⟨k, cap, _, by simp, hk, hw, by simpa using hn, hm, by simpa using hs, ?_⟩⟩, ownT k3 (fun k cur hk => htt _ _ _ _ (by decide) hk)⟩, htt _ _ _ _ (by decide) h.rd, h.ge, h.ger⟩, ⟨Lb.grown_below (Below.refl B w) hg h.lt hk, fun k cs t' f a1 _ _ a4 _ => htt _ _ _ _ a4 a1⟩⟩
      apply List.ext_getElem?
      intro i
      rw [Array.toList_setIfInBounds, List.map_set, Nat.mul_one, List.take_set, ← ht, Nat.mul_one]
      show ((List.take (s.N.set p x).length row.toList).set p (Value.int IntKind.i64 x))[i]? = _
      rw [List.length_set]

theorem pickF_no : ∀ (l : List S84) (y : Int) (f : List S77), nokA l = true → pickF l y = some f → nokL f = true ∧ cntL f ≤ cntA l
  | [], _, _, _, h => by cases h
  | .mk a b g :: r, y, f, hok, h => by
    rw [pickF] at h
    rw [nokA, Bool.and_eq_true] at hok
    rw [cntA]
    split at h
    · injection h with h
      subst h
      exact ⟨hok.1, Nat.le_add_right _ _⟩
    · have := pickF_no r y f hok.2 h
      exact ⟨this.1, by omega⟩
theorem tbit_t (w : World) : Calls Tryz.prog 27 #[.bool true] w fun e w' => e = .returned (.int .i64 1) ∧ w' = w := tbit_calls true w
theorem tbit_f (w : World) : Calls Tryz.prog 27 #[.bool false] w fun e w' => e = .returned (.int .i64 0) ∧ w' = w := tbit_calls false w

set_option maxRecDepth 100000 in
set_option maxHeartbeats 60000000 in
theorem ttake_calls (B : Nat) (w0 : World) (M : Nat) (hle : w0.heap.size ≤ B) : ∀ (d : Nat) (xs : List S77) (hd : SizeOf.sizeOf xs ≤ d) (A : Option Addr) (c g gr : Nat) (s : TP) (w : World)
    (hC : Kd.C k77 w0 A xs.length xs) (hb : Below B w0 w) (hL : TIs B w g gr s) (hok : okL xs = true) (hno : nokL xs = true) (hM : cntL xs ≤ M) (hps : psi M s + cntL xs ≤ 8000000000000) (hl : s.r.l.length ≤ 1000000000),
    Calls Tryz.prog 15 #[.pointer (some ⟨g, 0, none⟩), .slice A xs.length c] w fun e w' => FrT B w w' ∧ TakeRes B g gr (tkL xs s) e w' := by
  intro d
  induction d with
  | zero =>
    intro xs hd
    cases xs with
    | nil => simp at hd
    | cons x r => simp at hd
  | succ d ih =>
    intro xs hd A c g gr s w hC hb hL hok hno hM hps hl
    have hlen := okL_len xs hok
    have IH := Aside0.mk ih
    have HLE := Aside0.mk hle
    have HC := Aside0.mk hC
    have HB0 := Aside0.mk hb
    have HL := Aside0.mk hL
    have HOK := Aside0.mk hok
    have HNO := Aside0.mk hno
    have HM := Aside0.mk hM
    have HPS := Aside0.mk hps
    have HLL := Aside0.mk hl
    have HD := Aside0.mk hd
    clear ih hC hb hL hok hno hM hps hl hd hle
    go_enter Tryz.func15, Tryz.ntmps15
    go_wp2_with fail
    go_loopg [11] xs.length (fun gk s11 wr => ∃ (i : Nat) (u : TP), i + gk = xs.length ∧ s11 = .int .i64 i ∧ Aside0 (tkL (xs.drop i) u = tkL xs s) ∧ Aside0 (TIs B wr g gr u) ∧ Aside0 (FrT B w wr) ∧ Aside0 (psi M u + cntL (xs.drop i) ≤ 8000000000000) ∧ Aside0 (u.r.l.length ≤ 1000000000))
    case atStart => exact ⟨0, s, by omega, rfl, ⟨rfl⟩, HL, ⟨FrT.refl _ _⟩, HPS, HLL⟩
    case round =>
      clear HL HPS HLL
      obtain ⟨i, u, hi, rfl, HR, HL, HB, HPS, HLL⟩ := hrel
      cases gk with
      | zero =>
        obtain rfl : i = xs.length := by omega
        have hii : ¬ ((xs.length : Int) < (xs.length : Int)) := by omega
        go_wp2
        go_end0
        refine And.intro HB.out (TakeRes.mk (.inl ⟨u, ?_, rfl, HL.out⟩))
        rw [← HR.out, List.drop_length, tkL]
      | succ gk =>
        have hlt : i < xs.length := by omega
        have hii : (i : Int) < (xs.length : Int) := by omega
        obtain ⟨ad, A2, c2, rfl, h0, h1, h2, hl2, hC2⟩ := at_T77 HC.out i (by omega) (by omega)
        have e0 : rd_T77 xs i = xs[i] := by simp [rd_T77, List.getD_eq_getElem?_getD, List.getElem?_eq_getElem hlt]
        rw [e0] at h0 h1 h2 hl2 hC2
        have hdr := tkL_drop xs i hlt u
        rw [HR.out] at hdr
        have hoky := okL_drop xs i hlt HOK.out
        have hnoy := nokL_drop xs i hlt HNO.out
        have hcd := cntL_drop xs i hlt
        have hca := cntL_at xs i hlt
        have hmem : xs[i] ∈ xs := List.getElem_mem _
        have hsz := List.sizeOf_lt_of_mem hmem
        have hps := HPS.out
        rw [hcd] at hps
        obtain ⟨y, hy⟩ : ∃ y, y = xs[i] := ⟨_, rfl⟩
        rw [← hy] at h0 h1 h2 hl2 hC2 hdr hoky hsz hnoy hps hca
        simp only [Int.toNat_natCast] at h0 h1 h2
        have hBW := HB0.out.trans HB.out.bel
        replace h0 := Lib.Below.cellOf hBW h0 HLE.out
        replace h1 := Lib.Below.cellOf hBW h1 HLE.out
        replace h2 := Lib.Below.cellOf hBW h2 HLE.out
        have HBW := Aside0.mk hBW
        have HC2 := Aside0.mk hC2
        have HDR := Aside0.mk hdr
        have HOKY := Aside0.mk hoky
        have HNOY := Aside0.mk hnoy
        have HPY := Aside0.mk hps
        have HMY : Aside0 (cntS y ≤ M) := ⟨Nat.le_trans hca HM.out⟩
        have HNX : Aside0 (∀ u', tkOne y u = .ok u' → psi M u' + cntL (xs.drop (i + 1)) ≤ 8000000000000 ∧ u'.r.l.length ≤ 1000000000) := ⟨fun u' hu => by
          have q := tkOne_psi M y u u' HMY.out hu
          have := HPY.out; have := HLL.out
          exact ⟨by omega, by omega⟩⟩
        have HNL : Aside0 (u.N.length ≤ 8000000000000 ∧ u.T.length ≤ 8000000000000) := ⟨by have := HPY.out; unfold psi at this; omega⟩
        have hkind := okS_kind y hoky
        obtain ⟨k, n, arms⟩ := y
        have hsz2 : SizeOf.sizeOf arms < d := by have := HD.out; simp only [S77.mk.sizeOf_spec] at hsz; omega
        have HSZ := Aside0.mk hsz2
        clear hdr hoky hsz hsz2 hmem hy e0 hBW hl2 hC2 hnoy hcd hca hps
        rcases hkind with hk | hk | hk | hk | hk | hk | hk | hk
        · have hk' : k = 117 := hk
          subst hk'
          clear hk
          by_cases he : u.r.uint.2.e = 0 ∨ u.r.uint.2.e = 6
          · have HE := Aside0.mk he
            have HONE : Aside0 (tkOne (.mk 117 n arms) u = .ok ⟨u.r.uint.2, u.N ++ [u.r.uint.1], u.T⟩) := ⟨by rw [tkOne, if_pos rfl]; unfold TP.num; rw [if_pos he]⟩
            clear he
            go_wp2_with (first
            | ((with_reducible refine gate_dst (N := 5) rfl ?_); refine box_event ?hg (N := 5) ?hd (cs := #[.int .u8 0, .int .i64 0, .slice none 0 0]) (t := 77) ?hr ?_; (case hd => rfl); (case hg => rfl); (case hr => first | (go_simp; done) | (go_simp; rfl)); intro g2 hg2 w2 hx2 hb2; have HB2 := Aside0.mk hb2; have HL2 := Aside0.mk (HL.out.step hb2); have HX2 := Aside0.mk hx2; have HG2 := Aside0.mk (show wr.heap.size ≤ g2 by omega); clear hx2 hb2 hg2; clear h0 h1 h2)
            | ((with_reducible refine gate_store (t := 77) (p := 5) rfl ?_); refine Lb.store_whole rfl rfl 77 (.tmp 5) (.tmp 14) rfl (new := #[.int .u8 117, .int .i64 n, .slice A2 arms.length c2]) rfl rfl HX2.out rfl (by kernel_rfl) (by simp [Value.oneCell']) ?_; intro w3 hb3 hg3; have HX3 := Aside0.mk hb3; have HB3 : Aside0 (FrT B wr w3) := ⟨FrT.of (Lb.grown_below HB2.out hg3 HB2.out.size HG2.out) HL.out.lt⟩; have HL3 := Aside0.mk (HL2.out.other hg3 HX2.out (by decide) (by decide) (by decide) (by decide)); have c0 := HL3.out.c0; have d0 := (blk_cell hb3 0).trans rfl; have d1 := (blk_cell hb3 1).trans rfl; have d2 := (blk_cell hb3 2).trans rfl; clear hb3 hg3)
            | (go_at_call 25; (with_reducible refine (ruint_calls gr u.r w3 HL3.out.rd).mono ?_); rintro e w4 ⟨rfl, hr, hg⟩; have hx := HL3.out.read hr hg; have HL4 := Aside0.mk hx.1; have HK4 := Aside0.mk hx.2; have HB4 := Aside0.mk (HB3.out.trans hx.2); clear hr hg hx c0)
            | (go_at_call 24; (with_reducible refine (tnumber_ok u.r.uint.1 B g gr _ _ HL4.out HE.out HNL.out.1).mono ?_); rintro e w5 ⟨rfl, hl5, hbb⟩; have HL5 := Aside0.mk hl5; have HK5 := Aside0.mk (HK4.out.trans hbb); have HB5 := Aside0.mk (HB4.out.trans hbb); clear hl5 hbb)
)
            go_roundg gk
            case measure => omega
            case rel => exact ⟨i + 1, _, by omega, by first | rfl | (congr 1; unfold wrap64; omega), ⟨by rw [HDR.out, HONE.out]; rfl⟩, HL5, ⟨HB.out.trans HB5.out⟩, ⟨(HNX.out _ HONE.out).1⟩, ⟨(HNX.out _ HONE.out).2⟩⟩
          · have HE := Aside0.mk he
            have HONE : Aside0 (tkOne (.mk 117 n arms) u = .no u.r.uint.2.e) := ⟨by rw [tkOne, if_pos rfl]; unfold TP.num; rw [if_neg he]⟩
            clear he
            go_wp2_with (first
            | ((with_reducible refine gate_dst (N := 5) rfl ?_); refine box_event ?hg (N := 5) ?hd (cs := #[.int .u8 0, .int .i64 0, .slice none 0 0]) (t := 77) ?hr ?_; (case hd => rfl); (case hg => rfl); (case hr => first | (go_simp; done) | (go_simp; rfl)); intro g2 hg2 w2 hx2 hb2; have HB2 := Aside0.mk hb2; have HL2 := Aside0.mk (HL.out.step hb2); have HX2 := Aside0.mk hx2; have HG2 := Aside0.mk (show wr.heap.size ≤ g2 by omega); clear hx2 hb2 hg2; clear h0 h1 h2)
            | ((with_reducible refine gate_store (t := 77) (p := 5) rfl ?_); refine Lb.store_whole rfl rfl 77 (.tmp 5) (.tmp 14) rfl (new := #[.int .u8 117, .int .i64 n, .slice A2 arms.length c2]) rfl rfl HX2.out rfl (by kernel_rfl) (by simp [Value.oneCell']) ?_; intro w3 hb3 hg3; have HX3 := Aside0.mk hb3; have HB3 : Aside0 (FrT B wr w3) := ⟨FrT.of (Lb.grown_below HB2.out hg3 HB2.out.size HG2.out) HL.out.lt⟩; have HL3 := Aside0.mk (HL2.out.other hg3 HX2.out (by decide) (by decide) (by decide) (by decide)); have c0 := HL3.out.c0; have d0 := (blk_cell hb3 0).trans rfl; have d1 := (blk_cell hb3 1).trans rfl; have d2 := (blk_cell hb3 2).trans rfl; clear hb3 hg3)
            | (go_at_call 25; (with_reducible refine (ruint_calls gr u.r w3 HL3.out.rd).mono ?_); rintro e w4 ⟨rfl, hr, hg⟩; have hx := HL3.out.read hr hg; have HL4 := Aside0.mk hx.1; have HK4 := Aside0.mk hx.2; have HB4 := Aside0.mk (HB3.out.trans hx.2); clear hr hg hx c0)
            | (go_at_call 24; (with_reducible refine (tnumber_bad u.r.uint.1 B g gr _ _ HL4.out HE.out).mono ?_); rintro e w5 ⟨he, rfl⟩; unfold bad at he; subst he)
)
            exact And.intro rfl (And.intro (HB.out.trans HB4.out) (TakeRes.mk (.inr ⟨_, by rw [HDR.out, HONE.out]; rfl, rfl⟩)))
        · have hk' : k = 113 := hk
          subst hk'
          clear hk
          by_cases he : u.r.hyper.2.e = 0 ∨ u.r.hyper.2.e = 6
          · have HE := Aside0.mk he
            have HONE : Aside0 (tkOne (.mk 113 n arms) u = .ok ⟨u.r.hyper.2, u.N ++ [u.r.hyper.1], u.T⟩) := ⟨by rw [tkOne, if_neg (by decide), if_pos rfl]; unfold TP.num; rw [if_pos he]⟩
            clear he
            go_wp2_with (first
            | ((with_reducible refine gate_dst (N := 5) rfl ?_); refine box_event ?hg (N := 5) ?hd (cs := #[.int .u8 0, .int .i64 0, .slice none 0 0]) (t := 77) ?hr ?_; (case hd => rfl); (case hg => rfl); (case hr => first | (go_simp; done) | (go_simp; rfl)); intro g2 hg2 w2 hx2 hb2; have HB2 := Aside0.mk hb2; have HL2 := Aside0.mk (HL.out.step hb2); have HX2 := Aside0.mk hx2; have HG2 := Aside0.mk (show wr.heap.size ≤ g2 by omega); clear hx2 hb2 hg2; clear h0 h1 h2)
            | ((with_reducible refine gate_store (t := 77) (p := 5) rfl ?_); refine Lb.store_whole rfl rfl 77 (.tmp 5) (.tmp 14) rfl (new := #[.int .u8 113, .int .i64 n, .slice A2 arms.length c2]) rfl rfl HX2.out rfl (by kernel_rfl) (by simp [Value.oneCell']) ?_; intro w3 hb3 hg3; have HX3 := Aside0.mk hb3; have HB3 : Aside0 (FrT B wr w3) := ⟨FrT.of (Lb.grown_below HB2.out hg3 HB2.out.size HG2.out) HL.out.lt⟩; have HL3 := Aside0.mk (HL2.out.other hg3 HX2.out (by decide) (by decide) (by decide) (by decide)); have c0 := HL3.out.c0; have d0 := (blk_cell hb3 0).trans rfl; have d1 := (blk_cell hb3 1).trans rfl; have d2 := (blk_cell hb3 2).trans rfl; clear hb3 hg3)
            | (go_at_call 26; (with_reducible refine (rhyper_calls gr u.r w3 HL3.out.rd).mono ?_); rintro e w4 ⟨rfl, hr, hg⟩; have hx := HL3.out.read hr hg; have HL4 := Aside0.mk hx.1; have HK4 := Aside0.mk hx.2; have HB4 := Aside0.mk (HB3.out.trans hx.2); clear hr hg hx c0)
            | (go_at_call 24; (with_reducible refine (tnumber_ok u.r.hyper.1 B g gr _ _ HL4.out HE.out HNL.out.1).mono ?_); rintro e w5 ⟨rfl, hl5, hbb⟩; have HL5 := Aside0.mk hl5; have HK5 := Aside0.mk (HK4.out.trans hbb); have HB5 := Aside0.mk (HB4.out.trans hbb); clear hl5 hbb)
)
            go_roundg gk
            case measure => omega
            case rel => exact ⟨i + 1, _, by omega, by first | rfl | (congr 1; unfold wrap64; omega), ⟨by rw [HDR.out, HONE.out]; rfl⟩, HL5, ⟨HB.out.trans HB5.out⟩, ⟨(HNX.out _ HONE.out).1⟩, ⟨(HNX.out _ HONE.out).2⟩⟩
          · have HE := Aside0.mk he
            have HONE : Aside0 (tkOne (.mk 113 n arms) u = .no u.r.hyper.2.e) := ⟨by rw [tkOne, if_neg (by decide), if_pos rfl]; unfold TP.num; rw [if_neg he]⟩
            clear he
            go_wp2_with (first
            | ((with_reducible refine gate_dst (N := 5) rfl ?_); refine box_event ?hg (N := 5) ?hd (cs := #[.int .u8 0, .int .i64 0, .slice none 0 0]) (t := 77) ?hr ?_; (case hd => rfl); (case hg => rfl); (case hr => first | (go_simp; done) | (go_simp; rfl)); intro g2 hg2 w2 hx2 hb2; have HB2 := Aside0.mk hb2; have HL2 := Aside0.mk (HL.out.step hb2); have HX2 := Aside0.mk hx2; have HG2 := Aside0.mk (show wr.heap.size ≤ g2 by omega); clear hx2 hb2 hg2; clear h0 h1 h2)
            | ((with_reducible refine gate_store (t := 77) (p := 5) rfl ?_); refine Lb.store_whole rfl rfl 77 (.tmp 5) (.tmp 14) rfl (new := #[.int .u8 113, .int .i64 n, .slice A2 arms.length c2]) rfl rfl HX2.out rfl (by kernel_rfl) (by simp [Value.oneCell']) ?_; intro w3 hb3 hg3; have HX3 := Aside0.mk hb3; have HB3 : Aside0 (FrT B wr w3) := ⟨FrT.of (Lb.grown_below HB2.out hg3 HB2.out.size HG2.out) HL.out.lt⟩; have HL3 := Aside0.mk (HL2.out.other hg3 HX2.out (by decide) (by decide) (by decide) (by decide)); have c0 := HL3.out.c0; have d0 := (blk_cell hb3 0).trans rfl; have d1 := (blk_cell hb3 1).trans rfl; have d2 := (blk_cell hb3 2).trans rfl; clear hb3 hg3)
            | (go_at_call 26; (with_reducible refine (rhyper_calls gr u.r w3 HL3.out.rd).mono ?_); rintro e w4 ⟨rfl, hr, hg⟩; have hx := HL3.out.read hr hg; have HL4 := Aside0.mk hx.1; have HK4 := Aside0.mk hx.2; have HB4 := Aside0.mk (HB3.out.trans hx.2); clear hr hg hx c0)
            | (go_at_call 24; (with_reducible refine (tnumber_bad u.r.hyper.1 B g gr _ _ HL4.out HE.out).mono ?_); rintro e w5 ⟨he, rfl⟩; unfold bad at he; subst he)
)
            exact And.intro rfl (And.intro (HB.out.trans HB4.out) (TakeRes.mk (.inr ⟨_, by rw [HDR.out, HONE.out]; rfl, rfl⟩)))
        · have hk' : k = 98 := hk
          subst hk'
          clear hk
          by_cases he : u.r.bool.2.e = 0 ∨ u.r.bool.2.e = 6
          · have HE := Aside0.mk he
            have HONE : Aside0 (tkOne (.mk 98 n arms) u = .ok ⟨u.r.bool.2, u.N ++ [bitI u.r.bool.1], u.T⟩) := ⟨by rw [tkOne, if_neg (by decide), if_neg (by decide), if_pos rfl]; unfold TP.num; rw [if_pos he]⟩
            clear he
            go_wp2_with (first
            | ((with_reducible refine gate_dst (N := 5) rfl ?_); refine box_event ?hg (N := 5) ?hd (cs := #[.int .u8 0, .int .i64 0, .slice none 0 0]) (t := 77) ?hr ?_; (case hd => rfl); (case hg => rfl); (case hr => first | (go_simp; done) | (go_simp; rfl)); intro g2 hg2 w2 hx2 hb2; have HB2 := Aside0.mk hb2; have HL2 := Aside0.mk (HL.out.step hb2); have HX2 := Aside0.mk hx2; have HG2 := Aside0.mk (show wr.heap.size ≤ g2 by omega); clear hx2 hb2 hg2; clear h0 h1 h2)
            | ((with_reducible refine gate_store (t := 77) (p := 5) rfl ?_); refine Lb.store_whole rfl rfl 77 (.tmp 5) (.tmp 14) rfl (new := #[.int .u8 98, .int .i64 n, .slice A2 arms.length c2]) rfl rfl HX2.out rfl (by kernel_rfl) (by simp [Value.oneCell']) ?_; intro w3 hb3 hg3; have HX3 := Aside0.mk hb3; have HB3 : Aside0 (FrT B wr w3) := ⟨FrT.of (Lb.grown_below HB2.out hg3 HB2.out.size HG2.out) HL.out.lt⟩; have HL3 := Aside0.mk (HL2.out.other hg3 HX2.out (by decide) (by decide) (by decide) (by decide)); have c0 := HL3.out.c0; have d0 := (blk_cell hb3 0).trans rfl; have d1 := (blk_cell hb3 1).trans rfl; have d2 := (blk_cell hb3 2).trans rfl; clear hb3 hg3)
            | (go_at_call 28; (with_reducible refine (rbool_calls gr u.r w3 HL3.out.rd).mono ?_); rintro e w4 ⟨rfl, hr, hg⟩; have hx := HL3.out.read hr hg; have HL4 := Aside0.mk hx.1; have HK4 := Aside0.mk hx.2; have HB4 := Aside0.mk (HB3.out.trans hx.2); clear hr hg hx c0)
            | (go_at_call 27; (with_reducible refine (tbit_calls _ _).mono ?_); rintro e w41 ⟨rfl, rfl⟩)
            | (go_at_call 24; (with_reducible refine (tnumber_ok (bitI u.r.bool.1) B g gr _ _ HL4.out HE.out HNL.out.1).mono ?_); rintro e w5 ⟨rfl, hl5, hbb⟩; have HL5 := Aside0.mk hl5; have HK5 := Aside0.mk (HK4.out.trans hbb); have HB5 := Aside0.mk (HB4.out.trans hbb); clear hl5 hbb)
)
            go_roundg gk
            case measure => omega
            case rel => exact ⟨i + 1, _, by omega, by first | rfl | (congr 1; unfold wrap64; omega), ⟨by rw [HDR.out, HONE.out]; rfl⟩, HL5, ⟨HB.out.trans HB5.out⟩, ⟨(HNX.out _ HONE.out).1⟩, ⟨(HNX.out _ HONE.out).2⟩⟩
          · have HE := Aside0.mk he
            have HONE : Aside0 (tkOne (.mk 98 n arms) u = .no u.r.bool.2.e) := ⟨by rw [tkOne, if_neg (by decide), if_neg (by decide), if_pos rfl]; unfold TP.num; rw [if_neg he]⟩
            clear he
            go_wp2_with (first
            | ((with_reducible refine gate_dst (N := 5) rfl ?_); refine box_event ?hg (N := 5) ?hd (cs := #[.int .u8 0, .int .i64 0, .slice none 0 0]) (t := 77) ?hr ?_; (case hd => rfl); (case hg => rfl); (case hr => first | (go_simp; done) | (go_simp; rfl)); intro g2 hg2 w2 hx2 hb2; have HB2 := Aside0.mk hb2; have HL2 := Aside0.mk (HL.out.step hb2); have HX2 := Aside0.mk hx2; have HG2 := Aside0.mk (show wr.heap.size ≤ g2 by omega); clear hx2 hb2 hg2; clear h0 h1 h2)
            | ((with_reducible refine gate_store (t := 77) (p := 5) rfl ?_); refine Lb.store_whole rfl rfl 77 (.tmp 5) (.tmp 14) rfl (new := #[.int .u8 98, .int .i64 n, .slice A2 arms.length c2]) rfl rfl HX2.out rfl (by kernel_rfl) (by simp [Value.oneCell']) ?_; intro w3 hb3 hg3; have HX3 := Aside0.mk hb3; have HB3 : Aside0 (FrT B wr w3) := ⟨FrT.of (Lb.grown_below HB2.out hg3 HB2.out.size HG2.out) HL.out.lt⟩; have HL3 := Aside0.mk (HL2.out.other hg3 HX2.out (by decide) (by decide) (by decide) (by decide)); have c0 := HL3.out.c0; have d0 := (blk_cell hb3 0).trans rfl; have d1 := (blk_cell hb3 1).trans rfl; have d2 := (blk_cell hb3 2).trans rfl; clear hb3 hg3)
            | (go_at_call 28; (with_reducible refine (rbool_calls gr u.r w3 HL3.out.rd).mono ?_); rintro e w4 ⟨rfl, hr, hg⟩; have hx := HL3.out.read hr hg; have HL4 := Aside0.mk hx.1; have HK4 := Aside0.mk hx.2; have HB4 := Aside0.mk (HB3.out.trans hx.2); clear hr hg hx c0)
            | (go_at_call 27; (with_reducible refine (tbit_calls _ _).mono ?_); rintro e w41 ⟨rfl, rfl⟩)
            | (go_at_call 24; (with_reducible refine (tnumber_bad (bitI u.r.bool.1) B g gr _ _ HL4.out HE.out).mono ?_); rintro e w5 ⟨he, rfl⟩; unfold bad at he; subst he)
)
            exact And.intro rfl (And.intro (HB.out.trans HB4.out) (TakeRes.mk (.inr ⟨_, by rw [HDR.out, HONE.out]; rfl, rfl⟩)))
        · have hk' : k = 111 := hk
          subst hk'
          clear hk
          have hn0 : 0 ≤ n ∧ n ≤ 100000 := by
            have := HNOY.out
            rw [nokS] at this
            simp only [Bool.and_eq_true, decide_eq_true_eq] at this
            exact this.1
          by_cases he : (u.r.opq n).2.e = 0 ∨ (u.r.opq n).2.e = 6
          · have HE := Aside0.mk he
            have HONE : Aside0 (tkOne (.mk 111 n arms) u = .ok ⟨(u.r.opq n).2, u.N, u.T ++ [⟨(u.r.opq n).1.toArray⟩]⟩) := ⟨by rw [tkOne, if_neg (by decide), if_neg (by decide), if_neg (by decide), if_pos rfl]; unfold TP.txt; rw [if_pos he]⟩
            clear he
            go_wp2_with (first
            | ((with_reducible refine gate_dst (N := 5) rfl ?_); refine box_event ?hg (N := 5) ?hd (cs := #[.int .u8 0, .int .i64 0, .slice none 0 0]) (t := 77) ?hr ?_; (case hd => rfl); (case hg => rfl); (case hr => first | (go_simp; done) | (go_simp; rfl)); intro g2 hg2 w2 hx2 hb2; have HB2 := Aside0.mk hb2; have HL2 := Aside0.mk (HL.out.step hb2); have HX2 := Aside0.mk hx2; have HG2 := Aside0.mk (show wr.heap.size ≤ g2 by omega); clear hx2 hb2 hg2; clear h0 h1 h2)
            | ((with_reducible refine gate_store (t := 77) (p := 5) rfl ?_); refine Lb.store_whole rfl rfl 77 (.tmp 5) (.tmp 14) rfl (new := #[.int .u8 111, .int .i64 n, .slice A2 arms.length c2]) rfl rfl HX2.out rfl (by kernel_rfl) (by simp [Value.oneCell']) ?_; intro w3 hb3 hg3; have HX3 := Aside0.mk hb3; have HB3 : Aside0 (FrT B wr w3) := ⟨FrT.of (Lb.grown_below HB2.out hg3 HB2.out.size HG2.out) HL.out.lt⟩; have HL3 := Aside0.mk (HL2.out.other hg3 HX2.out (by decide) (by decide) (by decide) (by decide)); have c0 := HL3.out.c0; have d0 := (blk_cell hb3 0).trans rfl; have d1 := (blk_cell hb3 1).trans rfl; have d2 := (blk_cell hb3 2).trans rfl; clear hb3 hg3))
            have HLD : Aside0 (TIs B w3.drew g gr u) := ⟨HL3.out.step (Lb.below_drew _)⟩
            have HXD := Aside0.mk (Lb.blk_below HX3.out (Lb.below_drew w3))
            have HBD : Aside0 (FrT B wr w3.drew) := ⟨HB3.out.trans (FrT.of (Lb.below_drew _) HL3.out.lt)⟩
            go_region_held3 (fun w' => w'.cell? ⟨g, 0, none⟩ = some (.pointer (some ⟨gr, 0, none⟩)) ∧ w'.cell? ⟨g2, 1, none⟩ = some (.int .i64 n)) (first | exact ⟨c0, d1⟩ | exact ⟨c05, d15⟩ | exact ⟨c06, d16⟩) (first
            | (go_at_call 30; (with_reducible refine (ropaque_calls n gr u.r _ HLD.out.rd (by omega)).mono ?_); rintro e w5 ⟨rfl, hr, hg⟩; have hx := HLD.out.read hr hg; have c05 := hx.1.c0; have d15 := (blk_cell (hx.2.frm _ _ _ _ HXD.out (by decide) (by decide) (by decide) (by decide)) 1).trans rfl; have HB5k := Aside0.mk (hx.2.frm _ _ _ _ HXD.out (by decide) (by decide) (by decide) (by decide)); have HL5 := Aside0.mk hx.1; have HB5 := Aside0.mk (HBD.out.trans hx.2); clear hr hg hx)
            | (go_at_call 29; (with_reducible refine (ttext_ok ⟨(u.r.opq n).1.toArray⟩ B g gr _ w5 HL5.out HE.out HNL.out.2).mono ?_); rintro e w6 ⟨rfl, hl6, hbb⟩; have c06 := hl6.c0; have d16 := (blk_cell (hbb.frm _ _ _ _ ((HB5k).out) (by decide) (by decide) (by decide) (by decide)) 1).trans rfl; have HL6 := Aside0.mk hl6; have HB6 := Aside0.mk (HB5.out.trans hbb); clear hl6 hbb))
            go_wp2
            go_roundg gk
            case measure => omega
            case rel => exact ⟨i + 1, _, by omega, by first | rfl | (congr 1; unfold wrap64; omega), ⟨by rw [HDR.out, HONE.out]; rfl⟩, HL6, ⟨HB.out.trans HB6.out⟩, ⟨(HNX.out _ HONE.out).1⟩, ⟨(HNX.out _ HONE.out).2⟩⟩
          · have HE := Aside0.mk he
            have HONE : Aside0 (tkOne (.mk 111 n arms) u = .no (u.r.opq n).2.e) := ⟨by rw [tkOne, if_neg (by decide), if_neg (by decide), if_neg (by decide), if_pos rfl]; unfold TP.txt; rw [if_neg he]⟩
            clear he
            go_wp2_with (first
            | ((with_reducible refine gate_dst (N := 5) rfl ?_); refine box_event ?hg (N := 5) ?hd (cs := #[.int .u8 0, .int .i64 0, .slice none 0 0]) (t := 77) ?hr ?_; (case hd => rfl); (case hg => rfl); (case hr => first | (go_simp; done) | (go_simp; rfl)); intro g2 hg2 w2 hx2 hb2; have HB2 := Aside0.mk hb2; have HL2 := Aside0.mk (HL.out.step hb2); have HX2 := Aside0.mk hx2; have HG2 := Aside0.mk (show wr.heap.size ≤ g2 by omega); clear hx2 hb2 hg2; clear h0 h1 h2)
            | ((with_reducible refine gate_store (t := 77) (p := 5) rfl ?_); refine Lb.store_whole rfl rfl 77 (.tmp 5) (.tmp 14) rfl (new := #[.int .u8 111, .int .i64 n, .slice A2 arms.length c2]) rfl rfl HX2.out rfl (by kernel_rfl) (by simp [Value.oneCell']) ?_; intro w3 hb3 hg3; have HX3 := Aside0.mk hb3; have HB3 : Aside0 (FrT B wr w3) := ⟨FrT.of (Lb.grown_below HB2.out hg3 HB2.out.size HG2.out) HL.out.lt⟩; have HL3 := Aside0.mk (HL2.out.other hg3 HX2.out (by decide) (by decide) (by decide) (by decide)); have c0 := HL3.out.c0; have d0 := (blk_cell hb3 0).trans rfl; have d1 := (blk_cell hb3 1).trans rfl; have d2 := (blk_cell hb3 2).trans rfl; clear hb3 hg3))
            have HLD : Aside0 (TIs B w3.drew g gr u) := ⟨HL3.out.step (Lb.below_drew _)⟩
            have HXD := Aside0.mk (Lb.blk_below HX3.out (Lb.below_drew w3))
            have HBD : Aside0 (FrT B wr w3.drew) := ⟨HB3.out.trans (FrT.of (Lb.below_drew _) HL3.out.lt)⟩
            refine wp_region_any (by kernel_rfl) ?_
            try (change wpAny _ _ _ _ _ _ _ (World.drew _))
            refine wpAny_take (i := 0) (v := ?v1x0) rfl (by kernel_rfl) (by kernel_rfl) (by kernel_rfl) (fun _ _ _ h => h) (Or.inl ⟨by rfl, ?y1x0⟩) ?_
            case y1x0 => intro wq; first | (go_simp; done) | (go_simp; with_reducible rfl)
            refine wpAny_take (i := 1) (v := ?v1x1) rfl (by kernel_rfl) (by kernel_rfl) (by kernel_rfl) (fun _ _ _ h => h) (Or.inl ⟨by rfl, ?y1x1⟩) ?_
            case y1x1 => intro wq; first | (go_simp; done) | (go_simp; with_reducible rfl)
            refine wpAny_take (i := 2) (v := ?v1x2) rfl (by kernel_rfl) (by kernel_rfl) (by kernel_rfl) (fun _ _ _ h => h) (Or.inl ⟨by rfl, ?y1x2⟩) ?_
            case y1x2 => intro wq; first | (go_simp; done) | (go_simp; with_reducible rfl)
            refine wpAny_take (i := 3) (v := ?v1x3) rfl (by kernel_rfl) (by kernel_rfl) (by kernel_rfl) (fun _ _ _ h => h) (Or.inl ⟨by rfl, ?y1x3⟩) ?_
            case y1x3 => intro wq; first | (go_simp; done) | (go_simp; with_reducible rfl)
            refine wpAny_take (i := 5) (v := ?v1x5) rfl (by kernel_rfl) (by kernel_rfl) (by kernel_rfl) (fun _ _ _ h => h) (Or.inl ⟨by rfl, ?y1x5⟩) ?_
            case y1x5 => intro wq; first | (go_simp; done) | (go_simp; with_reducible rfl)
            refine wpAny_ready (rs := [4, 6]) (by kernel_rfl) (by simp) ?_
            refine AllReady.cons rfl (fun K hK => ?_) (AllReady.cons rfl (fun K hK => ?_) (AllReady.nil))
            · (go_simp; refine hK _ _ ?_; clear hK K)
              refine wpAny_ready (rs := [6]) (by kernel_rfl) (by simp) ?_
              refine AllReady.cons rfl (fun K hK => ?_) (AllReady.nil)
              (go_simp; refine hK _ _ ?_; clear hK K)
              refine wpAny_ready (rs := [7]) (by kernel_rfl) (by simp) ?_
              refine AllReady.cons rfl (fun K hK => ?_) (AllReady.nil)
              go_simp
              go_wp2_with (first
            | (go_at_call 30; (with_reducible refine (ropaque_calls n gr u.r _ HLD.out.rd (by omega)).mono ?_); rintro e w5 ⟨rfl, hr, hg⟩; have hx := HLD.out.read hr hg; have c05 := hx.1.c0; have d15 := (blk_cell (hx.2.frm _ _ _ _ HXD.out (by decide) (by decide) (by decide) (by decide)) 1).trans rfl; have HB5k := Aside0.mk (hx.2.frm _ _ _ _ HXD.out (by decide) (by decide) (by decide) (by decide)); have HL5 := Aside0.mk hx.1; have HB5 := Aside0.mk (HBD.out.trans hx.2); clear hr hg hx))
              try refine hK _ _ ?_
              try clear hK K
              refine wpAny_ready (rs := [8]) (by kernel_rfl) (by simp) ?_
              refine AllReady.cons rfl (fun K hK => ?_) (AllReady.nil)
              go_simp
              go_wp2_with (first
            | (go_at_call 29; (with_reducible refine (ttext_bad ⟨(u.r.opq n).1.toArray⟩ B g gr _ w5 HL5.out HE.out).mono ?_); rintro e w6 ⟨he, rfl⟩; unfold bad at he; subst he))
              exact And.intro rfl (And.intro (HB.out.trans HB5.out) (TakeRes.mk (.inr ⟨_, by rw [HDR.out, HONE.out]; rfl, rfl⟩)))
            · (go_simp; refine hK _ _ ?_; clear hK K)
              refine wpAny_ready (rs := [4]) (by kernel_rfl) (by simp) ?_
              refine AllReady.cons rfl (fun K hK => ?_) (AllReady.nil)
              (go_simp; refine hK _ _ ?_; clear hK K)
              refine wpAny_ready (rs := [7]) (by kernel_rfl) (by simp) ?_
              refine AllReady.cons rfl (fun K hK => ?_) (AllReady.nil)
              go_simp
              go_wp2_with (first
            | (go_at_call 30; (with_reducible refine (ropaque_calls n gr u.r _ HLD.out.rd (by omega)).mono ?_); rintro e w5 ⟨rfl, hr, hg⟩; have hx := HLD.out.read hr hg; have c05 := hx.1.c0; have d15 := (blk_cell (hx.2.frm _ _ _ _ HXD.out (by decide) (by decide) (by decide) (by decide)) 1).trans rfl; have HB5k := Aside0.mk (hx.2.frm _ _ _ _ HXD.out (by decide) (by decide) (by decide) (by decide)); have HL5 := Aside0.mk hx.1; have HB5 := Aside0.mk (HBD.out.trans hx.2); clear hr hg hx))
              try refine hK _ _ ?_
              try clear hK K
              refine wpAny_ready (rs := [8]) (by kernel_rfl) (by simp) ?_
              refine AllReady.cons rfl (fun K hK => ?_) (AllReady.nil)
              go_simp
              go_wp2_with (first
            | (go_at_call 29; (with_reducible refine (ttext_bad ⟨(u.r.opq n).1.toArray⟩ B g gr _ w5 HL5.out HE.out).mono ?_); rintro e w6 ⟨he, rfl⟩; unfold bad at he; subst he))
              exact And.intro rfl (And.intro (HB.out.trans HB5.out) (TakeRes.mk (.inr ⟨_, by rw [HDR.out, HONE.out]; rfl, rfl⟩)))
        · have hk' : k = 102 := hk
          subst hk'
          clear hk
          have hn0 : 0 ≤ n ∧ n ≤ 100000 := by
            have := HNOY.out
            rw [nokS] at this
            simp only [Bool.and_eq_true, decide_eq_true_eq] at this
            exact this.1
          obtain ⟨m, rfl⟩ : ∃ m : Nat, n = m := ⟨n.toNat, by omega⟩
          by_cases he : (u.r.fixed m).2.e = 0 ∨ (u.r.fixed m).2.e = 6
          · have HE := Aside0.mk he
            have HONE : Aside0 (tkOne (.mk 102 (m : Int) arms) u = .ok ⟨(u.r.fixed m).2, u.N, u.T ++ [⟨(u.r.fixed m).1.toArray⟩]⟩) := ⟨by rw [tkOne, if_neg (by decide), if_neg (by decide), if_neg (by decide), if_neg (by decide), if_pos rfl]; simp only [Int.toNat_natCast]; unfold TP.txt; rw [if_pos he]⟩
            clear he
            go_wp2_with (first
            | ((with_reducible refine gate_dst (N := 5) rfl ?_); refine box_event ?hg (N := 5) ?hd (cs := #[.int .u8 0, .int .i64 0, .slice none 0 0]) (t := 77) ?hr ?_; (case hd => rfl); (case hg => rfl); (case hr => first | (go_simp; done) | (go_simp; rfl)); intro g2 hg2 w2 hx2 hb2; have HB2 := Aside0.mk hb2; have HL2 := Aside0.mk (HL.out.step hb2); have HX2 := Aside0.mk hx2; have HG2 := Aside0.mk (show wr.heap.size ≤ g2 by omega); clear hx2 hb2 hg2; clear h0 h1 h2)
            | ((with_reducible refine gate_store (t := 77) (p := 5) rfl ?_); refine Lb.store_whole rfl rfl 77 (.tmp 5) (.tmp 14) rfl (new := #[.int .u8 102, .int .i64 (m : Int), .slice A2 arms.length c2]) rfl rfl HX2.out rfl (by kernel_rfl) (by simp [Value.oneCell']) ?_; intro w3 hb3 hg3; have HX3 := Aside0.mk hb3; have HB3 : Aside0 (FrT B wr w3) := ⟨FrT.of (Lb.grown_below HB2.out hg3 HB2.out.size HG2.out) HL.out.lt⟩; have HL3 := Aside0.mk (HL2.out.other hg3 HX2.out (by decide) (by decide) (by decide) (by decide)); have c0 := HL3.out.c0; have d0 := (blk_cell hb3 0).trans rfl; have d1 := (blk_cell hb3 1).trans rfl; have d2 := (blk_cell hb3 2).trans rfl; clear hb3 hg3))
            have HLD : Aside0 (TIs B w3.drew g gr u) := ⟨HL3.out.step (Lb.below_drew _)⟩
            have HXD := Aside0.mk (Lb.blk_below HX3.out (Lb.below_drew w3))
            have HBD : Aside0 (FrT B wr w3.drew) := ⟨HB3.out.trans (FrT.of (Lb.below_drew _) HL3.out.lt)⟩
            go_region_held3 (fun w' => w'.cell? ⟨g, 0, none⟩ = some (.pointer (some ⟨gr, 0, none⟩)) ∧ w'.cell? ⟨g2, 1, none⟩ = some (.int .i64 (m : Int))) (first | exact ⟨c0, d1⟩ | exact ⟨c05, d15⟩ | exact ⟨c06, d16⟩) (first
            | (go_at_call 31; (with_reducible refine (rfixed_calls m gr u.r _ HLD.out.rd (by omega)).mono ?_); rintro e w5 ⟨rfl, hr, hg⟩; have hx := HLD.out.read hr hg; have c05 := hx.1.c0; have d15 := (blk_cell (hx.2.frm _ _ _ _ HXD.out (by decide) (by decide) (by decide) (by decide)) 1).trans rfl; have HB5k := Aside0.mk (hx.2.frm _ _ _ _ HXD.out (by decide) (by decide) (by decide) (by decide)); have HL5 := Aside0.mk hx.1; have HB5 := Aside0.mk (HBD.out.trans hx.2); clear hr hg hx)
            | (go_at_call 29; (with_reducible refine (ttext_ok ⟨(u.r.fixed m).1.toArray⟩ B g gr _ w5 HL5.out HE.out HNL.out.2).mono ?_); rintro e w6 ⟨rfl, hl6, hbb⟩; have c06 := hl6.c0; have d16 := (blk_cell (hbb.frm _ _ _ _ ((HB5k).out) (by decide) (by decide) (by decide) (by decide)) 1).trans rfl; have HL6 := Aside0.mk hl6; have HB6 := Aside0.mk (HB5.out.trans hbb); clear hl6 hbb))
            go_wp2
            go_roundg gk
            case measure => omega
            case rel => exact ⟨i + 1, _, by omega, by first | rfl | (congr 1; unfold wrap64; omega), ⟨by rw [HDR.out, HONE.out]; rfl⟩, HL6, ⟨HB.out.trans HB6.out⟩, ⟨(HNX.out _ HONE.out).1⟩, ⟨(HNX.out _ HONE.out).2⟩⟩
          · have HE := Aside0.mk he
            have HONE : Aside0 (tkOne (.mk 102 (m : Int) arms) u = .no (u.r.fixed m).2.e) := ⟨by rw [tkOne, if_neg (by decide), if_neg (by decide), if_neg (by decide), if_neg (by decide), if_pos rfl]; simp only [Int.toNat_natCast]; unfold TP.txt; rw [if_neg he]⟩
            clear he
            go_wp2_with (first
            | ((with_reducible refine gate_dst (N := 5) rfl ?_); refine box_event ?hg (N := 5) ?hd (cs := #[.int .u8 0, .int .i64 0, .slice none 0 0]) (t := 77) ?hr ?_; (case hd => rfl); (case hg => rfl); (case hr => first | (go_simp; done) | (go_simp; rfl)); intro g2 hg2 w2 hx2 hb2; have HB2 := Aside0.mk hb2; have HL2 := Aside0.mk (HL.out.step hb2); have HX2 := Aside0.mk hx2; have HG2 := Aside0.mk (show wr.heap.size ≤ g2 by omega); clear hx2 hb2 hg2; clear h0 h1 h2)
            | ((with_reducible refine gate_store (t := 77) (p := 5) rfl ?_); refine Lb.store_whole rfl rfl 77 (.tmp 5) (.tmp 14) rfl (new := #[.int .u8 102, .int .i64 (m : Int), .slice A2 arms.length c2]) rfl rfl HX2.out rfl (by kernel_rfl) (by simp [Value.oneCell']) ?_; intro w3 hb3 hg3; have HX3 := Aside0.mk hb3; have HB3 : Aside0 (FrT B wr w3) := ⟨FrT.of (Lb.grown_below HB2.out hg3 HB2.out.size HG2.out) HL.out.lt⟩; have HL3 := Aside0.mk (HL2.out.other hg3 HX2.out (by decide) (by decide) (by decide) (by decide)); have c0 := HL3.out.c0; have d0 := (blk_cell hb3 0).trans rfl; have d1 := (blk_cell hb3 1).trans rfl; have d2 := (blk_cell hb3 2).trans rfl; clear hb3 hg3))
            have HLD : Aside0 (TIs B w3.drew g gr u) := ⟨HL3.out.step (Lb.below_drew _)⟩
            have HXD := Aside0.mk (Lb.blk_below HX3.out (Lb.below_drew w3))
            have HBD : Aside0 (FrT B wr w3.drew) := ⟨HB3.out.trans (FrT.of (Lb.below_drew _) HL3.out.lt)⟩
            refine wp_region_any (by kernel_rfl) ?_
            try (change wpAny _ _ _ _ _ _ _ (World.drew _))
            refine wpAny_take (i := 0) (v := ?v2x0) rfl (by kernel_rfl) (by kernel_rfl) (by kernel_rfl) (fun _ _ _ h => h) (Or.inl ⟨by rfl, ?y2x0⟩) ?_
            case y2x0 => intro wq; first | (go_simp; done) | (go_simp; with_reducible rfl)
            refine wpAny_take (i := 1) (v := ?v2x1) rfl (by kernel_rfl) (by kernel_rfl) (by kernel_rfl) (fun _ _ _ h => h) (Or.inl ⟨by rfl, ?y2x1⟩) ?_
            case y2x1 => intro wq; first | (go_simp; done) | (go_simp; with_reducible rfl)
            refine wpAny_take (i := 2) (v := ?v2x2) rfl (by kernel_rfl) (by kernel_rfl) (by kernel_rfl) (fun _ _ _ h => h) (Or.inl ⟨by rfl, ?y2x2⟩) ?_
            case y2x2 => intro wq; first | (go_simp; done) | (go_simp; with_reducible rfl)
            refine wpAny_take (i := 3) (v := ?v2x3) rfl (by kernel_rfl) (by kernel_rfl) (by kernel_rfl) (fun _ _ _ h => h) (Or.inl ⟨by rfl, ?y2x3⟩) ?_
            case y2x3 => intro wq; first | (go_simp; done) | (go_simp; with_reducible rfl)
            refine wpAny_take (i := 5) (v := ?v2x5) rfl (by kernel_rfl) (by kernel_rfl) (by kernel_rfl) (fun _ _ _ h => h) (Or.inl ⟨by rfl, ?y2x5⟩) ?_
            case y2x5 => intro wq; first | (go_simp; done) | (go_simp; with_reducible rfl)
            refine wpAny_ready (rs := [4, 6]) (by kernel_rfl) (by simp) ?_
            refine AllReady.cons rfl (fun K hK => ?_) (AllReady.cons rfl (fun K hK => ?_) (AllReady.nil))
            · (go_simp; refine hK _ _ ?_; clear hK K)
              refine wpAny_ready (rs := [6]) (by kernel_rfl) (by simp) ?_
              refine AllReady.cons rfl (fun K hK => ?_) (AllReady.nil)
              (go_simp; refine hK _ _ ?_; clear hK K)
              refine wpAny_ready (rs := [7]) (by kernel_rfl) (by simp) ?_
              refine AllReady.cons rfl (fun K hK => ?_) (AllReady.nil)
              go_simp
              go_wp2_with (first
            | (go_at_call 31; (with_reducible refine (rfixed_calls m gr u.r _ HLD.out.rd (by omega)).mono ?_); rintro e w5 ⟨rfl, hr, hg⟩; have hx := HLD.out.read hr hg; have c05 := hx.1.c0; have d15 := (blk_cell (hx.2.frm _ _ _ _ HXD.out (by decide) (by decide) (by decide) (by decide)) 1).trans rfl; have HB5k := Aside0.mk (hx.2.frm _ _ _ _ HXD.out (by decide) (by decide) (by decide) (by decide)); have HL5 := Aside0.mk hx.1; have HB5 := Aside0.mk (HBD.out.trans hx.2); clear hr hg hx))
              try refine hK _ _ ?_
              try clear hK K
              refine wpAny_ready (rs := [8]) (by kernel_rfl) (by simp) ?_
              refine AllReady.cons rfl (fun K hK => ?_) (AllReady.nil)
              go_simp
              go_wp2_with (first
            | (go_at_call 29; (with_reducible refine (ttext_bad ⟨(u.r.fixed m).1.toArray⟩ B g gr _ w5 HL5.out HE.out).mono ?_); rintro e w6 ⟨he, rfl⟩; unfold bad at he; subst he))
              exact And.intro rfl (And.intro (HB.out.trans HB5.out) (TakeRes.mk (.inr ⟨_, by rw [HDR.out, HONE.out]; rfl, rfl⟩)))
            · (go_simp; refine hK _ _ ?_; clear hK K)
              refine wpAny_ready (rs := [4]) (by kernel_rfl) (by simp) ?_
              refine AllReady.cons rfl (fun K hK => ?_) (AllReady.nil)
              (go_simp; refine hK _ _ ?_; clear hK K)
              refine wpAny_ready (rs := [7]) (by kernel_rfl) (by simp) ?_
              refine AllReady.cons rfl (fun K hK => ?_) (AllReady.nil)
              go_simp
              go_wp2_with (first
            | (go_at_call 31; (with_reducible refine (rfixed_calls m gr u.r _ HLD.out.rd (by omega)).mono ?_); rintro e w5 ⟨rfl, hr, hg⟩; have hx := HLD.out.read hr hg; have c05 := hx.1.c0; have d15 := (blk_cell (hx.2.frm _ _ _ _ HXD.out (by decide) (by decide) (by decide) (by decide)) 1).trans rfl; have HB5k := Aside0.mk (hx.2.frm _ _ _ _ HXD.out (by decide) (by decide) (by decide) (by decide)); have HL5 := Aside0.mk hx.1; have HB5 := Aside0.mk (HBD.out.trans hx.2); clear hr hg hx))
              try refine hK _ _ ?_
              try clear hK K
              refine wpAny_ready (rs := [8]) (by kernel_rfl) (by simp) ?_
              refine AllReady.cons rfl (fun K hK => ?_) (AllReady.nil)
              go_simp
              go_wp2_with (first
            | (go_at_call 29; (with_reducible refine (ttext_bad ⟨(u.r.fixed m).1.toArray⟩ B g gr _ w5 HL5.out HE.out).mono ?_); rintro e w6 ⟨he, rfl⟩; unfold bad at he; subst he))
              exact And.intro rfl (And.intro (HB.out.trans HB5.out) (TakeRes.mk (.inr ⟨_, by rw [HDR.out, HONE.out]; rfl, rfl⟩)))
        · have hk' : k = 63 := hk
          subst hk'
          clear hk
          obtain ⟨a0, rest, harms⟩ : ∃ a0 rest, arms = a0 :: rest := by
            have := HOKY.out
            rw [okS] at this
            cases arms with
            | nil => simp at this
            | cons a r => exact ⟨a, r, rfl⟩
          subst harms
          obtain ⟨ad2, A3, c3, rfl, m0, m1, m2, hl3, hC3⟩ := at_T84 HC2.out 0 (by omega) (by simp)
          have e0 : rd_T84 (a0 :: rest) 0 = a0 := rfl
          rw [e0] at m0 m1 m2 hl3 hC3
          rw [add_z] at m2
          obtain ⟨ka, aa, form⟩ := a0
          have hfd : SizeOf.sizeOf form ≤ d := by have := HSZ.out; simp only [List.cons.sizeOf_spec, S84.mk.sizeOf_spec] at this; omega
          have hfok : okL form = true := by
            have := HOKY.out
            rw [okS] at this
            simp only [Bool.and_eq_true] at this
            exact (okA_cons this.2).1
          have hfno : nokL form = true := by
            have := HNOY.out
            rw [nokS, nokA] at this
            simp only [Bool.and_eq_true] at this
            exact this.2.1
          have hfm : cntS (.mk 63 n (.mk ka aa form :: rest)) = 1 + (cntL form + cntA rest) := by rw [cntS, cntA]
          have HFM := Aside0.mk hfm
          have HM2 := Aside0.mk m2
          have HC3 := Aside0.mk hC3
          have HFD := Aside0.mk hfd
          have HFOK := Aside0.mk hfok
          have HFNO := Aside0.mk hfno
          clear m0 m1 m2 hl3 hC3 hfd hfok hfno hfm e0
          by_cases he : u.r.bool.2.e = 0 ∨ u.r.bool.2.e = 6
          · have HE := Aside0.mk he
            cases hbv : u.r.bool.1 with
            | false =>
              have HRB : Aside0 (∀ W, RS W gr u.r → Calls Tryz.prog 28 #[.pointer (some ⟨gr, 0, none⟩)] W fun e w' => e = .returned (.bool false) ∧ RS w' gr u.r.bool.2 ∧ W.grownBy w' (some gr)) := ⟨fun W hW => by have := rbool_calls gr u.r W hW; rw [hbv] at this; exact this⟩
              have HONE : Aside0 (tkOne (.mk 63 n (.mk ka aa form :: rest)) u = .ok ⟨u.r.bool.2, u.N ++ [0], u.T⟩) := ⟨by rw [tkOne, if_neg (by decide), if_neg (by decide), if_neg (by decide), if_neg (by decide), if_neg (by decide), if_pos rfl]; unfold TP.num; rw [if_pos he, TR.then_ok, hbv, if_neg (by decide)]; rfl⟩
              clear he hbv
              go_wp2_with (first
            | ((with_reducible refine gate_dst (N := 5) rfl ?_); refine box_event ?hg (N := 5) ?hd (cs := #[.int .u8 0, .int .i64 0, .slice none 0 0]) (t := 77) ?hr ?_; (case hd => rfl); (case hg => rfl); (case hr => first | (go_simp; done) | (go_simp; rfl)); intro g2 hg2 w2 hx2 hb2; have HB2 := Aside0.mk hb2; have HL2 := Aside0.mk (HL.out.step hb2); have HX2 := Aside0.mk hx2; have HG2 := Aside0.mk (show wr.heap.size ≤ g2 by omega); clear hx2 hb2 hg2; clear h0 h1 h2)
            | ((with_reducible refine gate_store (t := 77) (p := 5) rfl ?_); refine Lb.store_whole rfl rfl 77 (.tmp 5) (.tmp 14) rfl (new := #[.int .u8 63, .int .i64 n, .slice (some ad2) (List.length (S84.mk ka aa form :: rest)) c2]) rfl rfl HX2.out rfl (by kernel_rfl) (by simp [Value.oneCell']) ?_; intro w3 hb3 hg3; have HX3 := Aside0.mk hb3; have HB3 : Aside0 (FrT B wr w3) := ⟨FrT.of (Lb.grown_below HB2.out hg3 HB2.out.size HG2.out) HL.out.lt⟩; have HL3 := Aside0.mk (HL2.out.other hg3 HX2.out (by decide) (by decide) (by decide) (by decide)); have c0 := HL3.out.c0; have d0 := (blk_cell hb3 0).trans rfl; have d1 := (blk_cell hb3 1).trans rfl; have d2 := (blk_cell hb3 2).trans rfl; clear hb3 hg3)
            | (go_at_call 28; (with_reducible refine ((HRB.out w3 HL3.out.rd)).mono ?_); rintro e w4 ⟨rfl, hr, hg⟩; have hx := HL3.out.read hr hg; have HL4 := Aside0.mk hx.1; have HK4 := Aside0.mk hx.2; have HB4 := Aside0.mk (HB3.out.trans hx.2); clear hr hg hx c0)
            | (go_at_call 27; (with_reducible refine (tbit_f _).mono ?_); rintro e w41 ⟨rfl, rfl⟩)
            | (go_at_call 24; (with_reducible refine (tnumber_ok 0 B g gr _ _ HL4.out HE.out HNL.out.1).mono ?_); rintro e w5 ⟨rfl, hl5, hbb⟩; have HL5 := Aside0.mk hl5; have HK5 := Aside0.mk (HK4.out.trans hbb); have HB5 := Aside0.mk (HB4.out.trans hbb); clear hl5 hbb)
)
              go_roundg gk
              case measure => omega
              case rel => exact ⟨i + 1, _, by omega, by first | rfl | (congr 1; unfold wrap64; omega), ⟨by rw [HDR.out, HONE.out]; rfl⟩, HL5, ⟨HB.out.trans HB5.out⟩, ⟨(HNX.out _ HONE.out).1⟩, ⟨(HNX.out _ HONE.out).2⟩⟩
            | true =>
              have HRB : Aside0 (∀ W, RS W gr u.r → Calls Tryz.prog 28 #[.pointer (some ⟨gr, 0, none⟩)] W fun e w' => e = .returned (.bool true) ∧ RS w' gr u.r.bool.2 ∧ W.grownBy w' (some gr)) := ⟨fun W hW => by have := rbool_calls gr u.r W hW; rw [hbv] at this; exact this⟩
              have HONE1 : Aside0 (tkOne (.mk 63 n (.mk ka aa form :: rest)) u = tkL form ⟨u.r.bool.2, u.N ++ [1], u.T⟩) := ⟨by rw [tkOne, if_neg (by decide), if_neg (by decide), if_neg (by decide), if_neg (by decide), if_neg (by decide), if_pos rfl]; unfold TP.num; rw [if_pos he, TR.then_ok, hbv, if_pos rfl, tkFirst]; rfl⟩
              have hp1 : psi M ⟨u.r.bool.2, u.N ++ [1], u.T⟩ ≤ psi M u + 1 ∧ u.r.bool.2.l.length ≤ u.r.l.length := num_psi (s := u) (x := 1) (r := u.r.bool.2) (by unfold TP.num; rw [if_pos he]) (bool_le _)
              have HPF : Aside0 (cntL form ≤ M ∧ psi M ⟨u.r.bool.2, u.N ++ [1], u.T⟩ + cntL form ≤ 8000000000000 ∧ u.r.bool.2.l.length ≤ 1000000000) := ⟨by have := HFM.out; have := HMY.out; have := HPY.out; have := HLL.out; exact ⟨by omega, by omega, by omega⟩⟩
              clear he hbv hp1
              have HLX : Aside0 (∀ W, TIs B W g gr ⟨u.r.bool.2, u.N ++ [1], u.T⟩ → Below B w0 W → Calls Tryz.prog 15 #[.pointer (some ⟨g, 0, none⟩), .slice A3 form.length c3] W fun e w' => FrT B W w' ∧ TakeRes B g gr (tkL form ⟨u.r.bool.2, u.N ++ [1], u.T⟩) e w') := ⟨fun W h1 h2 => IH.out form HFD.out A3 c3 g gr _ W HC3.out h2 h1 HFOK.out HFNO.out HPF.out.1 HPF.out.2.1 HPF.out.2.2⟩
              cases hrec : tkL form ⟨u.r.bool.2, u.N ++ [1], u.T⟩ with
              | no c7 =>
                have HREC := Aside0.mk hrec
                have HONE : Aside0 (tkOne (.mk 63 n (.mk ka aa form :: rest)) u = .no c7) := ⟨HONE1.out.trans hrec⟩
                clear hrec
                go_wp2_with (first
            | ((with_reducible refine gate_dst (N := 5) rfl ?_); refine box_event ?hg (N := 5) ?hd (cs := #[.int .u8 0, .int .i64 0, .slice none 0 0]) (t := 77) ?hr ?_; (case hd => rfl); (case hg => rfl); (case hr => first | (go_simp; done) | (go_simp; rfl)); intro g2 hg2 w2 hx2 hb2; have HB2 := Aside0.mk hb2; have HL2 := Aside0.mk (HL.out.step hb2); have HX2 := Aside0.mk hx2; have HG2 := Aside0.mk (show wr.heap.size ≤ g2 by omega); clear hx2 hb2 hg2; clear h0 h1 h2)
            | ((with_reducible refine gate_store (t := 77) (p := 5) rfl ?_); refine Lb.store_whole rfl rfl 77 (.tmp 5) (.tmp 14) rfl (new := #[.int .u8 63, .int .i64 n, .slice (some ad2) (List.length (S84.mk ka aa form :: rest)) c2]) rfl rfl HX2.out rfl (by kernel_rfl) (by simp [Value.oneCell']) ?_; intro w3 hb3 hg3; have HX3 := Aside0.mk hb3; have HB3 : Aside0 (FrT B wr w3) := ⟨FrT.of (Lb.grown_below HB2.out hg3 HB2.out.size HG2.out) HL.out.lt⟩; have HL3 := Aside0.mk (HL2.out.other hg3 HX2.out (by decide) (by decide) (by decide) (by decide)); have c0 := HL3.out.c0; have d0 := (blk_cell hb3 0).trans rfl; have d1 := (blk_cell hb3 1).trans rfl; have d2 := (blk_cell hb3 2).trans rfl; clear hb3 hg3)
            | (go_at_call 28; (with_reducible refine ((HRB.out w3 HL3.out.rd)).mono ?_); rintro e w4 ⟨rfl, hr, hg⟩; have hx := HL3.out.read hr hg; have HL4 := Aside0.mk hx.1; have HK4 := Aside0.mk hx.2; have HB4 := Aside0.mk (HB3.out.trans hx.2); clear hr hg hx c0)
            | (go_at_call 27; (with_reducible refine (tbit_t _).mono ?_); rintro e w41 ⟨rfl, rfl⟩)
            | (go_at_call 24; (with_reducible refine (tnumber_ok 1 B g gr _ _ HL4.out HE.out HNL.out.1).mono ?_); rintro e w5 ⟨rfl, hl5, hbb⟩; have HL5 := Aside0.mk hl5; have HK5 := Aside0.mk (HK4.out.trans hbb); have HB5 := Aside0.mk (HB4.out.trans hbb); clear hl5 hbb; have e2 := (blk_cell (HK5.out.frm _ _ _ _ HX3.out (by decide) (by decide) (by decide) (by decide)) 2).trans rfl; have m2 := Lib.Below.cellOf (HB0.out.trans (HB.out.trans HB5.out).bel) HM2.out HLE.out)
            | (go_at_call 15; (with_reducible refine (HLX.out _ HL5.out (HB0.out.trans (HB.out.trans HB5.out).bel)).mono ?_); rintro e w7 ⟨hbb, hres⟩; have he := hres.no HREC.out; unfold bad at he; subst he; have HB7 := Aside0.mk (HB5.out.trans hbb); clear hbb hres))
                exact And.intro rfl (And.intro (HB.out.trans HB7.out) (TakeRes.mk (.inr ⟨_, by rw [HDR.out, HONE.out]; rfl, rfl⟩)))
              | ok s2 =>
                have HREC := Aside0.mk hrec
                have HONE : Aside0 (tkOne (.mk 63 n (.mk ka aa form :: rest)) u = .ok s2) := ⟨HONE1.out.trans hrec⟩
                clear hrec
                go_wp2_with (first
            | ((with_reducible refine gate_dst (N := 5) rfl ?_); refine box_event ?hg (N := 5) ?hd (cs := #[.int .u8 0, .int .i64 0, .slice none 0 0]) (t := 77) ?hr ?_; (case hd => rfl); (case hg => rfl); (case hr => first | (go_simp; done) | (go_simp; rfl)); intro g2 hg2 w2 hx2 hb2; have HB2 := Aside0.mk hb2; have HL2 := Aside0.mk (HL.out.step hb2); have HX2 := Aside0.mk hx2; have HG2 := Aside0.mk (show wr.heap.size ≤ g2 by omega); clear hx2 hb2 hg2; clear h0 h1 h2)
            | ((with_reducible refine gate_store (t := 77) (p := 5) rfl ?_); refine Lb.store_whole rfl rfl 77 (.tmp 5) (.tmp 14) rfl (new := #[.int .u8 63, .int .i64 n, .slice (some ad2) (List.length (S84.mk ka aa form :: rest)) c2]) rfl rfl HX2.out rfl (by kernel_rfl) (by simp [Value.oneCell']) ?_; intro w3 hb3 hg3; have HX3 := Aside0.mk hb3; have HB3 : Aside0 (FrT B wr w3) := ⟨FrT.of (Lb.grown_below HB2.out hg3 HB2.out.size HG2.out) HL.out.lt⟩; have HL3 := Aside0.mk (HL2.out.other hg3 HX2.out (by decide) (by decide) (by decide) (by decide)); have c0 := HL3.out.c0; have d0 := (blk_cell hb3 0).trans rfl; have d1 := (blk_cell hb3 1).trans rfl; have d2 := (blk_cell hb3 2).trans rfl; clear hb3 hg3)
            | (go_at_call 28; (with_reducible refine ((HRB.out w3 HL3.out.rd)).mono ?_); rintro e w4 ⟨rfl, hr, hg⟩; have hx := HL3.out.read hr hg; have HL4 := Aside0.mk hx.1; have HK4 := Aside0.mk hx.2; have HB4 := Aside0.mk (HB3.out.trans hx.2); clear hr hg hx c0)
            | (go_at_call 27; (with_reducible refine (tbit_t _).mono ?_); rintro e w41 ⟨rfl, rfl⟩)
            | (go_at_call 24; (with_reducible refine (tnumber_ok 1 B g gr _ _ HL4.out HE.out HNL.out.1).mono ?_); rintro e w5 ⟨rfl, hl5, hbb⟩; have HL5 := Aside0.mk hl5; have HK5 := Aside0.mk (HK4.out.trans hbb); have HB5 := Aside0.mk (HB4.out.trans hbb); clear hl5 hbb; have e2 := (blk_cell (HK5.out.frm _ _ _ _ HX3.out (by decide) (by decide) (by decide) (by decide)) 2).trans rfl; have m2 := Lib.Below.cellOf (HB0.out.trans (HB.out.trans HB5.out).bel) HM2.out HLE.out)
            | (go_at_call 15; (with_reducible refine (HLX.out _ HL5.out (HB0.out.trans (HB.out.trans HB5.out).bel)).mono ?_); rintro e w7 ⟨hbb, hres⟩; obtain ⟨he, hl7⟩ := hres.yes HREC.out; subst he; have HL7 := Aside0.mk hl7; have HB7 := Aside0.mk (HB5.out.trans hbb); clear hbb hres hl7))
                go_roundg gk
                case measure => omega
                case rel => exact ⟨i + 1, s2, by omega, by first | rfl | (congr 1; unfold wrap64; omega), ⟨by rw [HDR.out, HONE.out]; rfl⟩, HL7, ⟨HB.out.trans HB7.out⟩, ⟨(HNX.out _ HONE.out).1⟩, ⟨(HNX.out _ HONE.out).2⟩⟩
          · have HE := Aside0.mk he
            have HONE : Aside0 (tkOne (.mk 63 n (.mk ka aa form :: rest)) u = .no u.r.bool.2.e) := ⟨by rw [tkOne, if_neg (by decide), if_neg (by decide), if_neg (by decide), if_neg (by decide), if_neg (by decide), if_pos rfl]; unfold TP.num; rw [if_neg he]; rfl⟩
            clear he
            go_wp2_with (first
            | ((with_reducible refine gate_dst (N := 5) rfl ?_); refine box_event ?hg (N := 5) ?hd (cs := #[.int .u8 0, .int .i64 0, .slice none 0 0]) (t := 77) ?hr ?_; (case hd => rfl); (case hg => rfl); (case hr => first | (go_simp; done) | (go_simp; rfl)); intro g2 hg2 w2 hx2 hb2; have HB2 := Aside0.mk hb2; have HL2 := Aside0.mk (HL.out.step hb2); have HX2 := Aside0.mk hx2; have HG2 := Aside0.mk (show wr.heap.size ≤ g2 by omega); clear hx2 hb2 hg2; clear h0 h1 h2)
            | ((with_reducible refine gate_store (t := 77) (p := 5) rfl ?_); refine Lb.store_whole rfl rfl 77 (.tmp 5) (.tmp 14) rfl (new := #[.int .u8 63, .int .i64 n, .slice (some ad2) (List.length (S84.mk ka aa form :: rest)) c2]) rfl rfl HX2.out rfl (by kernel_rfl) (by simp [Value.oneCell']) ?_; intro w3 hb3 hg3; have HX3 := Aside0.mk hb3; have HB3 : Aside0 (FrT B wr w3) := ⟨FrT.of (Lb.grown_below HB2.out hg3 HB2.out.size HG2.out) HL.out.lt⟩; have HL3 := Aside0.mk (HL2.out.other hg3 HX2.out (by decide) (by decide) (by decide) (by decide)); have c0 := HL3.out.c0; have d0 := (blk_cell hb3 0).trans rfl; have d1 := (blk_cell hb3 1).trans rfl; have d2 := (blk_cell hb3 2).trans rfl; clear hb3 hg3)
            | (go_at_call 28; (with_reducible refine (rbool_calls gr u.r w3 HL3.out.rd).mono ?_); rintro e w4 ⟨rfl, hr, hg⟩; have hx := HL3.out.read hr hg; have HL4 := Aside0.mk hx.1; have HK4 := Aside0.mk hx.2; have HB4 := Aside0.mk (HB3.out.trans hx.2); clear hr hg hx c0)
            | (go_at_call 27; (with_reducible refine (tbit_calls _ _).mono ?_); rintro e w41 ⟨rfl, rfl⟩)
            | (go_at_call 24; (with_reducible refine (tnumber_bad (bitI u.r.bool.1) B g gr _ _ HL4.out HE.out).mono ?_); rintro e w5 ⟨he, rfl⟩; unfold bad at he; subst he)
)
            exact And.intro rfl (And.intro (HB.out.trans HB4.out) (TakeRes.mk (.inr ⟨_, by rw [HDR.out, HONE.out]; rfl, rfl⟩)))
        · have hk' : k = 42 := hk
          subst hk'
          clear hk
          obtain ⟨a0, rest, harms⟩ : ∃ a0 rest, arms = a0 :: rest := by
            have := HOKY.out
            rw [okS] at this
            cases arms with
            | nil => simp [okStar] at this
            | cons a r => exact ⟨a, r, rfl⟩
          subst harms
          obtain ⟨ad2, A3, c3, rfl, m0, m1, m2, hl3, hC3⟩ := at_T84 HC2.out 0 (by omega) (by simp)
          have e0 : rd_T84 (a0 :: rest) 0 = a0 := rfl
          rw [e0] at m0 m1 m2 hl3 hC3
          rw [add_z] at m2
          obtain ⟨ka, aa, form⟩ := a0
          have hfd : SizeOf.sizeOf form ≤ d := by have := HSZ.out; simp only [List.cons.sizeOf_spec, S84.mk.sizeOf_spec] at this; omega
          have hfok : okL form = true := by
            have := HOKY.out
            rw [okS] at this
            simp only [Bool.and_eq_true] at this
            exact (okA_cons this.2).1
          have hfno : nokL form = true := by
            have := HNOY.out
            rw [nokS, nokA] at this
            simp only [Bool.and_eq_true] at this
            exact this.2.1
          have hfm : cntS (.mk 42 n (.mk ka aa form :: rest)) = 1 + (cntL form + cntA rest) := by rw [cntS, cntA]
          have HFM := Aside0.mk hfm
          have HM2 := Aside0.mk m2
          have HC3 := Aside0.mk hC3
          have HFD := Aside0.mk hfd
          have HFOK := Aside0.mk hfok
          have HFNO := Aside0.mk hfno
          clear m0 m1 m2 hl3 hC3 hfd hfok hfno hfm e0
          by_cases he : u.r.e = 0 ∨ u.r.e = 6
          · have HE := Aside0.mk he
            obtain ⟨F, hF⟩ : ∃ F : TP → TR, F = tkFirst (.mk ka aa form :: rest) := ⟨_, rfl⟩
            have HF : Aside0 (∀ q, F q = tkL form q) := ⟨fun q => by rw [hF, tkFirst]⟩
            obtain ⟨u1, hu1⟩ : ∃ u1 : TP, u1 = ⟨u.r, u.N ++ [0], u.T⟩ := ⟨_, rfl⟩
            have HU1 := Aside0.mk hu1
            have HONE1 : Aside0 (tkOne (.mk 42 n (.mk ka aa form :: rest)) u = star F u.N.length (u1.r.l.length + 1) u1) := ⟨by rw [tkOne, if_neg (by decide), if_neg (by decide), if_neg (by decide), if_neg (by decide), if_neg (by decide), if_neg (by decide), if_pos rfl]; unfold TP.num; rw [if_pos he, TR.then_ok, hF, hu1]⟩
            have HP1 : Aside0 (psi M u1 ≤ psi M u + 1 ∧ u1.r.l.length = u.r.l.length ∧ u.N.length < u1.N.length) := ⟨by rw [hu1]; refine ⟨(num_psi (s := u) (x := 0) (r := u.r) (by unfold TP.num; rw [if_pos he]) (Nat.le_refl _)).1, rfl, by simp⟩⟩
            have HPF : Aside0 (cntL form ≤ M ∧ psi M u + 1 + M ≤ 8000000000001 + M) := ⟨by have := HFM.out; have := HMY.out; have := HPY.out; exact ⟨by omega, by omega⟩⟩
            have hLN := HL.out
            clear he hF hu1 hLN
            go_wp2_with (first
            | ((with_reducible refine gate_dst (N := 5) rfl ?_); refine box_event ?hg (N := 5) ?hd (cs := #[.int .u8 0, .int .i64 0, .slice none 0 0]) (t := 77) ?hr ?_; (case hd => rfl); (case hg => rfl); (case hr => first | (go_simp; done) | (go_simp; rfl)); intro g2 hg2 w2 hx2 hb2; have HB2 := Aside0.mk hb2; have HL2 := Aside0.mk (HL.out.step hb2); have HX2 := Aside0.mk hx2; have HG2 := Aside0.mk (show wr.heap.size ≤ g2 by omega); clear hx2 hb2 hg2; clear h0 h1 h2)
            | ((with_reducible refine gate_store (t := 77) (p := 5) rfl ?_); refine Lb.store_whole rfl rfl 77 (.tmp 5) (.tmp 14) rfl (new := #[.int .u8 42, .int .i64 n, .slice (some ad2) (List.length (S84.mk ka aa form :: rest)) c2]) rfl rfl HX2.out rfl (by kernel_rfl) (by simp [Value.oneCell']) ?_; intro w3 hb3 hg3; have HX3 := Aside0.mk hb3; have HB3 : Aside0 (FrT B wr w3) := ⟨FrT.of (Lb.grown_below HB2.out hg3 HB2.out.size HG2.out) HL.out.lt⟩; have HL3 := Aside0.mk (HL2.out.other hg3 HX2.out (by decide) (by decide) (by decide) (by decide)); have c0 := HL3.out.c0; have d0 := (blk_cell hb3 0).trans rfl; have d1 := (blk_cell hb3 1).trans rfl; have d2 := (blk_cell hb3 2).trans rfl; obtain ⟨AN3, cN3, cn3⟩ := HL3.out.lenN; clear hb3 hg3)
            | (go_at_call 24; (with_reducible refine (tnumber_ok 0 B g gr _ _ HL3.out HE.out HNL.out.1).mono ?_); rintro e w5 ⟨rfl, hl5, hbb⟩; have HL5 : Aside0 (TIs B w5 g gr u1) := ⟨by rw [HU1.out]; exact hl5⟩; have HK5 := Aside0.mk hbb; have HB5 := Aside0.mk (HB3.out.trans hbb); clear hl5 hbb)
)
            have HG5 := Aside0.mk (HK5.out.frm _ _ _ _ HX3.out (by decide) (by decide) (by decide) (by decide))
            have HLL1 : Aside0 (u1.r.l.length ≤ 1000000000) := ⟨by rw [HP1.out.2.1]; exact HLL.out⟩
            have HPS1 : Aside0 (psi M u1 ≤ psi M u + 1) := ⟨HP1.out.1⟩
            obtain ⟨gko, hgko⟩ : ∃ z, z = gk := ⟨_, rfl⟩
            subst hgko
            obtain ⟨wro, hwro⟩ : ∃ z, z = wr := ⟨_, rfl⟩
            subst hwro
            obtain ⟨p, hp⟩ : ∃ p, p = u.N.length := ⟨_, rfl⟩
            rw [← hp]
            have HPP := Aside0.mk hp
            clear hp
            obtain ⟨K0, hK0⟩ : ∃ K0, K0 = u1.r.l.length + 1 := ⟨_, rfl⟩
            have HK0 := Aside0.mk hK0
            clear hK0
            go_loopg [] K0 (fun gk2 wq => ∃ (q : TP), Aside0 (star F p gk2 q = star F p K0 u1) ∧ Aside0 (q.r.l.length < gk2) ∧ Aside0 (TIs B wq g gr q) ∧ Aside0 (FrT B wro wq) ∧ Aside0 (wq.heap[g2]? = some (.cells #[.int .u8 42, .int .i64 n, .slice (some ad2) (List.length (S84.mk ka aa form :: rest)) c2] 77 (0, 0))) ∧ Aside0 (psi M q ≤ psi M u + 1) ∧ Aside0 (p < q.N.length) ∧ Aside0 (q.r.l.length ≤ 1000000000))
            case atStart => exact ⟨u1, ⟨rfl⟩, ⟨by have := HK0.out; omega⟩, HL5, HB5, HG5, HPS1, ⟨by have := HP1.out; have := HPP.out; omega⟩, HLL1⟩
            case round =>
              clear HL5 HB5 HG5 HPS1 HLL1 HL3 HX3 HL2 HX2 HK5
              obtain ⟨q, HI, HFU, HLQ, HBQ, HGQ, HPQ, HPL, HQL⟩ := hrel
              cases gk with
              | zero => exact absurd HFU.out (Nat.not_lt_zero _)
              | succ gk2 =>
                have c0 := HLQ.out.c0
                cases hbv : q.r.bool.1 with
                | false =>
                  have HRB : Aside0 (∀ W, RS W gr q.r → Calls Tryz.prog 28 #[.pointer (some ⟨gr, 0, none⟩)] W fun e w' => e = .returned (.bool false) ∧ RS w' gr q.r.bool.2 ∧ W.grownBy w' (some gr)) := ⟨fun W hW => by have := rbool_calls gr q.r W hW; rw [hbv] at this; exact this⟩
                  by_cases he : q.r.bool.2.e = 0 ∨ q.r.bool.2.e = 6
                  · have HE := Aside0.mk he
                    have hit : star F p K0 u1 = .ok ⟨q.r.bool.2, q.N, q.T⟩ := by rw [← HI.out, star, if_neg (by rw [hbv]; decide), if_pos he]
                    have HONE : Aside0 (tkOne (.mk 42 n (.mk ka aa form :: rest)) u = .ok ⟨q.r.bool.2, q.N, q.T⟩) := ⟨by rw [HONE1.out, ← HPP.out, ← HK0.out]; exact hit⟩
                    clear he hbv hit
                    go_wp2_with (first
                      | (go_at_call 28; (with_reducible refine (HRB.out _ HLQ.out.rd).mono ?_); rintro e w4 ⟨rfl, hr, hg⟩; have hx := HLQ.out.read hr hg; have HL4 := Aside0.mk hx.1; have HB4 := Aside0.mk (HBQ.out.trans hx.2); clear hr hg hx c0)
                      | (go_at_call 32; (with_reducible refine (tcheck_ok B g gr _ _ HL4.out HE.out).mono ?_); rintro e w5 ⟨rfl, rfl⟩))
                    go_roundg gko
                    case measure => omega
                    case rel => exact ⟨i + 1, _, by omega, by first | rfl | (congr 1; unfold wrap64; omega), ⟨by rw [HDR.out, HONE.out]; rfl⟩, HL4, ⟨HB.out.trans HB4.out⟩, ⟨(HNX.out _ HONE.out).1⟩, ⟨(HNX.out _ HONE.out).2⟩⟩
                  · have HE := Aside0.mk he
                    have hit : star F p K0 u1 = .no q.r.bool.2.e := by rw [← HI.out, star, if_neg (by rw [hbv]; decide), if_neg he]
                    have HONE : Aside0 (tkOne (.mk 42 n (.mk ka aa form :: rest)) u = .no q.r.bool.2.e) := ⟨by rw [HONE1.out, ← HPP.out, ← HK0.out]; exact hit⟩
                    clear he hbv hit
                    go_wp2_with (first
                      | (go_at_call 28; (with_reducible refine (HRB.out _ HLQ.out.rd).mono ?_); rintro e w4 ⟨rfl, hr, hg⟩; have hx := HLQ.out.read hr hg; have HL4 := Aside0.mk hx.1; have HB4 := Aside0.mk (HBQ.out.trans hx.2); clear hr hg hx c0)
                      | (go_at_call 32; (with_reducible refine (tcheck_bad B g gr _ _ HL4.out HE.out).mono ?_); rintro e w5 ⟨he, rfl⟩; unfold bad at he; subst he))
                    exact And.intro rfl (And.intro (HB.out.trans HB4.out) (TakeRes.mk (.inr ⟨_, by rw [HDR.out, HONE.out]; rfl, rfl⟩)))
                | true =>
                  have HRB : Aside0 (∀ W, RS W gr q.r → Calls Tryz.prog 28 #[.pointer (some ⟨gr, 0, none⟩)] W fun e w' => e = .returned (.bool true) ∧ RS w' gr q.r.bool.2 ∧ W.grownBy w' (some gr)) := ⟨fun W hW => by have := rbool_calls gr q.r W hW; rw [hbv] at this; exact this⟩
                  obtain ⟨q1, hq1⟩ : ∃ q1 : TP, q1 = ⟨q.r.bool.2, bump q.N p, q.T⟩ := ⟨_, rfl⟩
                  have hrp := round_psi (M := M) (p := p) hbv
                  have hql : q1.r.l.length + 4 = q.r.l.length := by rw [hq1]; exact hrp.2
                  have hqe : q1.r.e = 0 := by rw [hq1]; exact (congrArg RP.e (bool_true hbv).2.2)
                  have hqn : q1.N.length = q.N.length := by rw [hq1]; exact bump_length _ _
                  have hqp : psi M q1 + 4 * M = psi M q := by rw [hq1]; exact hrp.1
                  have HQ1 := Aside0.mk hq1
                  have HPF1 : Aside0 (psi M q1 + cntL form ≤ 8000000000000 ∧ q1.r.l.length ≤ 1000000000 ∧ q1.r.l.length < gk2) := ⟨by
                    have h1 := HPQ.out; have h2 := HPF.out; have h3 := HPY.out; have h4 := HFM.out; have h5 := HQL.out; have h6 := HFU.out
                    exact ⟨by omega, by omega, by omega⟩⟩
                  have HQE := Aside0.mk hqe
                  have HQN := Aside0.mk hqn
                  have HQP := Aside0.mk hqp
                  have hstep : star F p (gk2 + 1) q = (tkL form q1).then (star F p gk2) := by rw [star, if_pos hbv, ← hq1, HF.out]
                  rw [HI.out] at hstep
                  have HSTEP := Aside0.mk hstep
                  have HLX : Aside0 (∀ W, TIs B W g gr q1 → Below B w0 W → Calls Tryz.prog 15 #[.pointer (some ⟨g, 0, none⟩), .slice A3 form.length c3] W fun e w' => FrT B W w' ∧ TakeRes B g gr (tkL form q1) e w') := ⟨fun W h1 h2 => IH.out form HFD.out A3 c3 g gr _ W HC3.out h2 h1 HFOK.out HFNO.out HPF.out.1 HPF1.out.1 HPF1.out.2.1⟩
                  obtain ⟨xv, hxv⟩ : ∃ xv, xv = q.N.getD p 0 := ⟨_, rfl⟩
                  have HXV := Aside0.mk hxv
                  have hpi : (p : Int) < (q.N.length : Int) := by have := HPL.out; omega
                  clear hrp hql hqe hqn hqp hq1 hstep hbv hxv
                  cases hrec : tkL form q1 with
                  | no c7 =>
                    have HREC := Aside0.mk hrec
                    have HONE : Aside0 (tkOne (.mk 42 n (.mk ka aa form :: rest)) u = .no c7) := ⟨by rw [HONE1.out, ← HPP.out, ← HK0.out, HSTEP.out, hrec]; rfl⟩
                    clear hrec
                    go_wp2_with (first
            | (go_at_call 28; (with_reducible refine (HRB.out _ HLQ.out.rd).mono ?_); rintro e w4 ⟨rfl, hr, hg⟩; have hx := HLQ.out.read hr hg; obtain ⟨kN, cap, row, cN0, hkr, hps, hrp, hupd⟩ := hx.1.openN p HPL.out; have cN : w4.cell? ⟨g, 1, none⟩ = some (.slice (some ⟨kN, 0, none⟩) q.N.length cap) := cN0; have cE : w4.cell? ⟨kN, p, none⟩ = some (.int .i64 xv) := (blk_cell hkr p).trans (by rw [HXV.out]; exact hrp); have HKR := Aside0.mk hkr; have HUP := Aside0.mk hupd; have HPSZ := Aside0.mk hps; have HG4 := Aside0.mk (hx.2.frm _ _ _ _ HGQ.out (by decide) (by decide) (by decide) (by decide)); have HB4 := Aside0.mk (HBQ.out.trans hx.2); clear hr hg hx c0 cN0 hkr hps hrp hupd)
            | ((with_reducible refine gate_store (t := 3) (p := 109) rfl ?_); refine Lb.store_one rfl rfl 3 (.tmp 109) (.tmp 108) rfl (g := kN) (off := p) (u := .int .i64 (wrap64 (xv + 1))) rfl rfl rfl rfl HKR.out (by kernel_rfl) HPSZ.out ?_; intro w5 hb5 hg5; have hy := HUP.out w5 _ hb5 hg5; have HL5 : Aside0 (TIs B w5 g gr q1) := ⟨by rw [HQ1.out]; unfold bump; rw [← HXV.out]; exact hy.1⟩; have HB5 := Aside0.mk (HB4.out.trans hy.2); have HG5 := Aside0.mk (hy.2.frm _ _ _ _ HG4.out (by decide) (by decide) (by decide) (by decide)); have e2 := (blk_cell HG5.out 2).trans rfl; have m2 := Lib.Below.cellOf (HB0.out.trans (HB.out.trans HB5.out).bel) HM2.out HLE.out; clear hb5 hg5 hy cN cE)
            | (go_at_call 15; (with_reducible refine (HLX.out _ HL5.out (HB0.out.trans (HB.out.trans HB5.out).bel)).mono ?_); rintro e w7 ⟨hbb, hres⟩; have he := hres.no HREC.out; unfold bad at he; subst he; have HB7 := Aside0.mk (HB5.out.trans hbb); clear hbb hres))
                    exact And.intro rfl (And.intro (HB.out.trans HB7.out) (TakeRes.mk (.inr ⟨_, by rw [HDR.out, HONE.out]; rfl, rfl⟩)))
                  | ok s2 =>
                    have HREC := Aside0.mk hrec
                    have hps2 := tkL_psi M form q1 s2 HPF.out.1 hrec
                    have hrt := tkL_rt form HFOK.out HFNO.out q1 s2 HQE.out HPF1.out.2.1 hrec
                    have HNXT : Aside0 (s2.r.l.length < gk2 ∧ psi M s2 ≤ psi M u + 1 ∧ p < s2.N.length ∧ s2.r.l.length ≤ 1000000000) := ⟨by
                      obtain ⟨_, bs, N2, T2, _, hN, _⟩ := hrt
                      have h1 := HPF1.out; have h2 := HPF.out; have h3 := HQP.out; have h4 := HPQ.out; have h5 := HPL.out; have h6 := HQN.out
                      have h7 : s2.N.length = q1.N.length + N2.length := by rw [hN, List.length_append]
                      exact ⟨by omega, by omega, by omega, by omega⟩⟩
                    clear hrec hps2 hrt
                    go_wp2_with (first
            | (go_at_call 28; (with_reducible refine (HRB.out _ HLQ.out.rd).mono ?_); rintro e w4 ⟨rfl, hr, hg⟩; have hx := HLQ.out.read hr hg; obtain ⟨kN, cap, row, cN0, hkr, hps, hrp, hupd⟩ := hx.1.openN p HPL.out; have cN : w4.cell? ⟨g, 1, none⟩ = some (.slice (some ⟨kN, 0, none⟩) q.N.length cap) := cN0; have cE : w4.cell? ⟨kN, p, none⟩ = some (.int .i64 xv) := (blk_cell hkr p).trans (by rw [HXV.out]; exact hrp); have HKR := Aside0.mk hkr; have HUP := Aside0.mk hupd; have HPSZ := Aside0.mk hps; have HG4 := Aside0.mk (hx.2.frm _ _ _ _ HGQ.out (by decide) (by decide) (by decide) (by decide)); have HB4 := Aside0.mk (HBQ.out.trans hx.2); clear hr hg hx c0 cN0 hkr hps hrp hupd)
            | ((with_reducible refine gate_store (t := 3) (p := 109) rfl ?_); refine Lb.store_one rfl rfl 3 (.tmp 109) (.tmp 108) rfl (g := kN) (off := p) (u := .int .i64 (wrap64 (xv + 1))) rfl rfl rfl rfl HKR.out (by kernel_rfl) HPSZ.out ?_; intro w5 hb5 hg5; have hy := HUP.out w5 _ hb5 hg5; have HL5 : Aside0 (TIs B w5 g gr q1) := ⟨by rw [HQ1.out]; unfold bump; rw [← HXV.out]; exact hy.1⟩; have HB5 := Aside0.mk (HB4.out.trans hy.2); have HG5 := Aside0.mk (hy.2.frm _ _ _ _ HG4.out (by decide) (by decide) (by decide) (by decide)); have e2 := (blk_cell HG5.out 2).trans rfl; have m2 := Lib.Below.cellOf (HB0.out.trans (HB.out.trans HB5.out).bel) HM2.out HLE.out; clear hb5 hg5 hy cN cE)
            | (go_at_call 15; (with_reducible refine (HLX.out _ HL5.out (HB0.out.trans (HB.out.trans HB5.out).bel)).mono ?_); rintro e w7 ⟨hbb, hres⟩; obtain ⟨he, hl7⟩ := hres.yes HREC.out; subst he; have HL7 := Aside0.mk hl7; have HB7 := Aside0.mk (HB5.out.trans hbb); have HG7 := Aside0.mk (hbb.frm _ _ _ _ HG5.out (by decide) (by decide) (by decide) (by decide)); clear hbb hres hl7))
                    go_roundg gk2
                    case measure => omega
                    case rel => exact ⟨s2, ⟨by rw [HSTEP.out, HREC.out]; rfl⟩, ⟨HNXT.out.1⟩, HL7, HB7, HG7, ⟨HNXT.out.2.1⟩, ⟨HNXT.out.2.2.1⟩, ⟨HNXT.out.2.2.2⟩⟩
          · have HE := Aside0.mk he
            have HONE : Aside0 (tkOne (.mk 42 n (.mk ka aa form :: rest)) u = .no u.r.e) := ⟨by rw [tkOne, if_neg (by decide), if_neg (by decide), if_neg (by decide), if_neg (by decide), if_neg (by decide), if_neg (by decide), if_pos rfl]; unfold TP.num; rw [if_neg he]; rfl⟩
            clear he
            go_wp2_with (first
            | ((with_reducible refine gate_dst (N := 5) rfl ?_); refine box_event ?hg (N := 5) ?hd (cs := #[.int .u8 0, .int .i64 0, .slice none 0 0]) (t := 77) ?hr ?_; (case hd => rfl); (case hg => rfl); (case hr => first | (go_simp; done) | (go_simp; rfl)); intro g2 hg2 w2 hx2 hb2; have HB2 := Aside0.mk hb2; have HL2 := Aside0.mk (HL.out.step hb2); have HX2 := Aside0.mk hx2; have HG2 := Aside0.mk (show wr.heap.size ≤ g2 by omega); clear hx2 hb2 hg2; clear h0 h1 h2)
            | ((with_reducible refine gate_store (t := 77) (p := 5) rfl ?_); refine Lb.store_whole rfl rfl 77 (.tmp 5) (.tmp 14) rfl (new := #[.int .u8 42, .int .i64 n, .slice (some ad2) (List.length (S84.mk ka aa form :: rest)) c2]) rfl rfl HX2.out rfl (by kernel_rfl) (by simp [Value.oneCell']) ?_; intro w3 hb3 hg3; have HX3 := Aside0.mk hb3; have HB3 : Aside0 (FrT B wr w3) := ⟨FrT.of (Lb.grown_below HB2.out hg3 HB2.out.size HG2.out) HL.out.lt⟩; have HL3 := Aside0.mk (HL2.out.other hg3 HX2.out (by decide) (by decide) (by decide) (by decide)); have c0 := HL3.out.c0; have d0 := (blk_cell hb3 0).trans rfl; have d1 := (blk_cell hb3 1).trans rfl; have d2 := (blk_cell hb3 2).trans rfl; obtain ⟨AN3, cN3, cn3⟩ := HL3.out.lenN; clear hb3 hg3)
            | (go_at_call 24; (with_reducible refine (tnumber_bad 0 B g gr _ w3 HL3.out HE.out).mono ?_); rintro e w5 ⟨he, rfl⟩; unfold bad at he; subst he)
)
            exact And.intro rfl (And.intro (HB.out.trans HB3.out) (TakeRes.mk (.inr ⟨_, by rw [HDR.out, HONE.out]; rfl, rfl⟩)))
        · have hk' : k = 60 := hk
          subst hk'
          clear hk
          have hoka : okA arms = true := by
            have := HOKY.out
            rw [okS] at this
            simp only [Bool.and_eq_true] at this
            exact this.2
          have HOKA := Aside0.mk hoka
          have hnoa : nokA arms = true := by
            have := HNOY.out
            rw [nokS] at this
            simp only [Bool.and_eq_true] at this
            exact this.2
          have HNOA := Aside0.mk hnoa
          have HCA : Aside0 (cntS (.mk 60 n arms) = 1 + cntA arms) := ⟨by rw [cntS]⟩
          clear hoka hnoa
          by_cases he : u.r.uint.2.e = 0 ∨ u.r.uint.2.e = 6
          · have HE := Aside0.mk he
            obtain ⟨u1, hu1⟩ : ∃ u1 : TP, u1 = ⟨u.r.uint.2, u.N ++ [u.r.uint.1], u.T⟩ := ⟨_, rfl⟩
            have HU1 := Aside0.mk hu1
            have hone : tkOne (.mk 60 n arms) u = tkPick arms u.r.uint.1 u1 := by rw [tkOne, if_neg (by decide), if_neg (by decide), if_neg (by decide), if_neg (by decide), if_neg (by decide), if_neg (by decide), if_neg (by decide), if_pos rfl]; unfold TP.num; rw [if_pos he, TR.then_ok, hu1]
            rw [tkPick_is] at hone
            have HP1 : Aside0 (psi M u1 ≤ psi M u + 1 ∧ u1.r.l.length ≤ u.r.l.length) := ⟨by rw [hu1]; exact num_psi (s := u) (x := u.r.uint.1) (r := u.r.uint.2) (by unfold TP.num; rw [if_pos he]) (uint_le _)⟩
            have HONE1 := Aside0.mk hone
            have HPK : Aside0 (∀ W, Below w0.heap.size w0 W → Calls Tryz.prog 33 #[.agg #[.int .u8 60, .int .i64 n, .slice A2 arms.length c2], .int .i64 u.r.uint.1] W fun e w' => Below W.heap.size W w' ∧ PickRes w0 arms u.r.uint.1 e) := ⟨fun W hW => pick_calls 60 n u.r.uint.1 A2 c2 arms w0 W HC2.out hW (okA_len _ HOKA.out)⟩
            clear he hu1 hone
            cases hpf : pickF arms u.r.uint.1 with
            | none =>
              have HPF := Aside0.mk hpf
              have HONE : Aside0 (tkOne (.mk 60 n arms) u = .no 4) := ⟨by rw [HONE1.out, hpf]⟩
              clear hpf
              go_wp2_with (first
            | ((with_reducible refine gate_dst (N := 5) rfl ?_); refine box_event ?hg (N := 5) ?hd (cs := #[.int .u8 0, .int .i64 0, .slice none 0 0]) (t := 77) ?hr ?_; (case hd => rfl); (case hg => rfl); (case hr => first | (go_simp; done) | (go_simp; rfl)); intro g2 hg2 w2 hx2 hb2; have HB2 := Aside0.mk hb2; have HL2 := Aside0.mk (HL.out.step hb2); have HX2 := Aside0.mk hx2; have HG2 := Aside0.mk (show wr.heap.size ≤ g2 by omega); clear hx2 hb2 hg2; clear h0 h1 h2)
            | ((with_reducible refine gate_store (t := 77) (p := 5) rfl ?_); refine Lb.store_whole rfl rfl 77 (.tmp 5) (.tmp 14) rfl (new := #[.int .u8 60, .int .i64 n, .slice A2 arms.length c2]) rfl rfl HX2.out rfl (by kernel_rfl) (by simp [Value.oneCell']) ?_; intro w3 hb3 hg3; have HX3 := Aside0.mk hb3; have HB3 : Aside0 (FrT B wr w3) := ⟨FrT.of (Lb.grown_below HB2.out hg3 HB2.out.size HG2.out) HL.out.lt⟩; have HL3 := Aside0.mk (HL2.out.other hg3 HX2.out (by decide) (by decide) (by decide) (by decide)); have c0 := HL3.out.c0; have d0 := (blk_cell hb3 0).trans rfl; have d1 := (blk_cell hb3 1).trans rfl; have d2 := (blk_cell hb3 2).trans rfl; clear hb3 hg3))
              have HLD : Aside0 (TIs B w3.drew g gr u) := ⟨HL3.out.step (Lb.below_drew _)⟩
              have HXD := Aside0.mk (Lb.blk_below HX3.out (Lb.below_drew w3))
              have HBD : Aside0 (FrT B wr w3.drew) := ⟨HB3.out.trans (FrT.of (Lb.below_drew _) HL3.out.lt)⟩
              go_region_held3 (fun w' => w'.cell? ⟨g, 0, none⟩ = some (.pointer (some ⟨gr, 0, none⟩)) ∧ w'.cell? ⟨g2, 0, none⟩ = some (.int .u8 60) ∧ w'.cell? ⟨g2, 1, none⟩ = some (.int .i64 n) ∧ w'.cell? ⟨g2, 2, none⟩ = some (.slice A2 arms.length c2)) (first | exact ⟨c0, d0, d1, d2⟩ | exact ⟨c04, d04, d14, d24⟩ | exact ⟨c05, d05, d15, d25⟩ | exact ⟨c06, d06, d16, d26⟩) (first
            | (go_at_call 25; (with_reducible refine (ruint_calls gr u.r _ HLD.out.rd).mono ?_); rintro e w4 ⟨rfl, hr, hg⟩; have hx := HLD.out.read hr hg; have c04 := hx.1.c0; have hxk := hx.2.frm _ _ _ _ HXD.out (by decide) (by decide) (by decide) (by decide); have d04 := (blk_cell hxk 0).trans rfl; have d14 := (blk_cell hxk 1).trans rfl; have d24 := (blk_cell hxk 2).trans rfl; have HX4 := Aside0.mk hxk; have HL4 := Aside0.mk hx.1; have HB4 := Aside0.mk (HBD.out.trans hx.2); clear hr hg hx hxk)
            | (go_at_call 24; (with_reducible refine (tnumber_ok u.r.uint.1 B g gr _ _ HL4.out HE.out HNL.out.1).mono ?_); rintro e w5 ⟨rfl, hl5, hbb⟩; have c05 := hl5.c0; have hxk := hbb.frm _ _ _ _ HX4.out (by decide) (by decide) (by decide) (by decide); have d05 := (blk_cell hxk 0).trans rfl; have d15 := (blk_cell hxk 1).trans rfl; have d25 := (blk_cell hxk 2).trans rfl; have HX5 := Aside0.mk hxk; have HL5 := Aside0.mk hl5; have HB5 := Aside0.mk (HB4.out.trans hbb); clear hl5 hbb hxk)
            | (go_at_call 33; (with_reducible refine (HPK.out _ ((HB0.out.trans (HB.out.trans HB5.out).bel).mono HLE.out)).mono ?_); rintro e w6 ⟨hbb, hres⟩; have he := hres.no HPF.out; subst he; have hl6 := HL5.out.step hbb; have c06 := hl6.c0; have hxk := Lb.blk_below HX5.out hbb; have d06 := (blk_cell hxk 0).trans rfl; have d16 := (blk_cell hxk 1).trans rfl; have d26 := (blk_cell hxk 2).trans rfl; have HL6 := Aside0.mk hl6; have HB6 := Aside0.mk (HB5.out.trans (FrT.of hbb HL5.out.lt)); clear hbb hres hl6 hxk))
              go_wp2
              exact And.intro rfl (And.intro (HB.out.trans HB6.out) (TakeRes.mk (.inr ⟨_, by rw [HDR.out, HONE.out]; rfl, rfl⟩)))
            | some f =>
              have HPF := Aside0.mk hpf
              have hpo := pickF_ok arms _ f HOKA.out hpf
              have hpn := pickF_no arms _ f HNOA.out hpf
              have HFOK := Aside0.mk hpo.1
              have HFNO := Aside0.mk hpn.1
              have HFD : Aside0 (SizeOf.sizeOf f ≤ d) := ⟨by have := HSZ.out; omega⟩
              have HONE2 : Aside0 (tkOne (.mk 60 n arms) u = tkL f u1) := ⟨by rw [HONE1.out, hpf]⟩
              have HPF1 : Aside0 (cntL f ≤ M ∧ psi M u1 + cntL f ≤ 8000000000000 ∧ u1.r.l.length ≤ 1000000000) := ⟨by
                have h1 := HP1.out; have h2 := HCA.out; have h3 := HMY.out; have h4 := HPY.out; have h5 := HLL.out; have h6 := hpn.2
                exact ⟨by omega, by omega, by omega⟩⟩
              clear hpf hpo hpn
              have HLX : Aside0 (∀ A3 c3 W, Kd.C k77 w0 A3 f.length f → TIs B W g gr u1 → Below B w0 W → Calls Tryz.prog 15 #[.pointer (some ⟨g, 0, none⟩), .slice A3 f.length c3] W fun e w' => FrT B W w' ∧ TakeRes B g gr (tkL f u1) e w') := ⟨fun A3 c3 W h0 h1 h2 => IH.out f HFD.out A3 c3 g gr _ W h0 h2 h1 HFOK.out HFNO.out HPF1.out.1 HPF1.out.2.1 HPF1.out.2.2⟩
              cases hrec : tkL f u1 with
              | no c7 =>
                have HREC := Aside0.mk hrec
                have HONE : Aside0 (tkOne (.mk 60 n arms) u = .no c7) := ⟨by rw [HONE2.out, hrec]⟩
                clear hrec
                go_wp2_with (first
            | ((with_reducible refine gate_dst (N := 5) rfl ?_); refine box_event ?hg (N := 5) ?hd (cs := #[.int .u8 0, .int .i64 0, .slice none 0 0]) (t := 77) ?hr ?_; (case hd => rfl); (case hg => rfl); (case hr => first | (go_simp; done) | (go_simp; rfl)); intro g2 hg2 w2 hx2 hb2; have HB2 := Aside0.mk hb2; have HL2 := Aside0.mk (HL.out.step hb2); have HX2 := Aside0.mk hx2; have HG2 := Aside0.mk (show wr.heap.size ≤ g2 by omega); clear hx2 hb2 hg2; clear h0 h1 h2)
            | ((with_reducible refine gate_store (t := 77) (p := 5) rfl ?_); refine Lb.store_whole rfl rfl 77 (.tmp 5) (.tmp 14) rfl (new := #[.int .u8 60, .int .i64 n, .slice A2 arms.length c2]) rfl rfl HX2.out rfl (by kernel_rfl) (by simp [Value.oneCell']) ?_; intro w3 hb3 hg3; have HX3 := Aside0.mk hb3; have HB3 : Aside0 (FrT B wr w3) := ⟨FrT.of (Lb.grown_below HB2.out hg3 HB2.out.size HG2.out) HL.out.lt⟩; have HL3 := Aside0.mk (HL2.out.other hg3 HX2.out (by decide) (by decide) (by decide) (by decide)); have c0 := HL3.out.c0; have d0 := (blk_cell hb3 0).trans rfl; have d1 := (blk_cell hb3 1).trans rfl; have d2 := (blk_cell hb3 2).trans rfl; clear hb3 hg3))
                have HLD : Aside0 (TIs B w3.drew g gr u) := ⟨HL3.out.step (Lb.below_drew _)⟩
                have HXD := Aside0.mk (Lb.blk_below HX3.out (Lb.below_drew w3))
                have HBD : Aside0 (FrT B wr w3.drew) := ⟨HB3.out.trans (FrT.of (Lb.below_drew _) HL3.out.lt)⟩
                go_region_held3 (fun w' => w'.cell? ⟨g, 0, none⟩ = some (.pointer (some ⟨gr, 0, none⟩)) ∧ w'.cell? ⟨g2, 0, none⟩ = some (.int .u8 60) ∧ w'.cell? ⟨g2, 1, none⟩ = some (.int .i64 n) ∧ w'.cell? ⟨g2, 2, none⟩ = some (.slice A2 arms.length c2)) (first | exact ⟨c0, d0, d1, d2⟩ | exact ⟨c04, d04, d14, d24⟩ | exact ⟨c05, d05, d15, d25⟩ | exact ⟨c06, d06, d16, d26⟩) (first
            | (go_at_call 25; (with_reducible refine (ruint_calls gr u.r _ HLD.out.rd).mono ?_); rintro e w4 ⟨rfl, hr, hg⟩; have hx := HLD.out.read hr hg; have c04 := hx.1.c0; have hxk := hx.2.frm _ _ _ _ HXD.out (by decide) (by decide) (by decide) (by decide); have d04 := (blk_cell hxk 0).trans rfl; have d14 := (blk_cell hxk 1).trans rfl; have d24 := (blk_cell hxk 2).trans rfl; have HX4 := Aside0.mk hxk; have HL4 := Aside0.mk hx.1; have HB4 := Aside0.mk (HBD.out.trans hx.2); clear hr hg hx hxk)
            | (go_at_call 24; (with_reducible refine (tnumber_ok u.r.uint.1 B g gr _ _ HL4.out HE.out HNL.out.1).mono ?_); rintro e w5 ⟨rfl, hl5, hbb⟩; have c05 := hl5.c0; have hxk := hbb.frm _ _ _ _ HX4.out (by decide) (by decide) (by decide) (by decide); have d05 := (blk_cell hxk 0).trans rfl; have d15 := (blk_cell hxk 1).trans rfl; have d25 := (blk_cell hxk 2).trans rfl; have HX5 := Aside0.mk hxk; have HL5 := Aside0.mk hl5; have HB5 := Aside0.mk (HB4.out.trans hbb); clear hl5 hbb hxk)
            | (go_at_call 33; (with_reducible refine (HPK.out _ ((HB0.out.trans (HB.out.trans HB5.out).bel).mono HLE.out)).mono ?_); rintro e w6 ⟨hbb, hres⟩; obtain ⟨A3, c3, he, hC3⟩ := hres.yes HPF.out; subst he; have HC3 := Aside0.mk hC3; clear hC3; have hl6 := HL5.out.step hbb; have c06 := hl6.c0; have hxk := Lb.blk_below HX5.out hbb; have d06 := (blk_cell hxk 0).trans rfl; have d16 := (blk_cell hxk 1).trans rfl; have d26 := (blk_cell hxk 2).trans rfl; have HL6 := Aside0.mk hl6; have HB6 := Aside0.mk (HB5.out.trans (FrT.of hbb HL5.out.lt)); clear hbb hres hl6 hxk))
                have HL6' : Aside0 (TIs B w6 g gr u1) := ⟨by rw [HU1.out]; exact HL6.out⟩
                go_wp2_with (first
            | (go_at_call 15; (with_reducible refine (HLX.out _ _ _ HC3.out HL6'.out (HB0.out.trans (HB.out.trans HB6.out).bel)).mono ?_); rintro e w7 ⟨hbb, hres⟩; have he := hres.no HREC.out; unfold bad at he; subst he; have HB7 := Aside0.mk (HB6.out.trans hbb); clear hbb hres))
                exact And.intro rfl (And.intro (HB.out.trans HB7.out) (TakeRes.mk (.inr ⟨_, by rw [HDR.out, HONE.out]; rfl, rfl⟩)))
              | ok s2 =>
                have HREC := Aside0.mk hrec
                have HONE : Aside0 (tkOne (.mk 60 n arms) u = .ok s2) := ⟨by rw [HONE2.out, hrec]⟩
                clear hrec
                go_wp2_with (first
            | ((with_reducible refine gate_dst (N := 5) rfl ?_); refine box_event ?hg (N := 5) ?hd (cs := #[.int .u8 0, .int .i64 0, .slice none 0 0]) (t := 77) ?hr ?_; (case hd => rfl); (case hg => rfl); (case hr => first | (go_simp; done) | (go_simp; rfl)); intro g2 hg2 w2 hx2 hb2; have HB2 := Aside0.mk hb2; have HL2 := Aside0.mk (HL.out.step hb2); have HX2 := Aside0.mk hx2; have HG2 := Aside0.mk (show wr.heap.size ≤ g2 by omega); clear hx2 hb2 hg2; clear h0 h1 h2)
            | ((with_reducible refine gate_store (t := 77) (p := 5) rfl ?_); refine Lb.store_whole rfl rfl 77 (.tmp 5) (.tmp 14) rfl (new := #[.int .u8 60, .int .i64 n, .slice A2 arms.length c2]) rfl rfl HX2.out rfl (by kernel_rfl) (by simp [Value.oneCell']) ?_; intro w3 hb3 hg3; have HX3 := Aside0.mk hb3; have HB3 : Aside0 (FrT B wr w3) := ⟨FrT.of (Lb.grown_below HB2.out hg3 HB2.out.size HG2.out) HL.out.lt⟩; have HL3 := Aside0.mk (HL2.out.other hg3 HX2.out (by decide) (by decide) (by decide) (by decide)); have c0 := HL3.out.c0; have d0 := (blk_cell hb3 0).trans rfl; have d1 := (blk_cell hb3 1).trans rfl; have d2 := (blk_cell hb3 2).trans rfl; clear hb3 hg3))
                have HLD : Aside0 (TIs B w3.drew g gr u) := ⟨HL3.out.step (Lb.below_drew _)⟩
                have HXD := Aside0.mk (Lb.blk_below HX3.out (Lb.below_drew w3))
                have HBD : Aside0 (FrT B wr w3.drew) := ⟨HB3.out.trans (FrT.of (Lb.below_drew _) HL3.out.lt)⟩
                go_region_held3 (fun w' => w'.cell? ⟨g, 0, none⟩ = some (.pointer (some ⟨gr, 0, none⟩)) ∧ w'.cell? ⟨g2, 0, none⟩ = some (.int .u8 60) ∧ w'.cell? ⟨g2, 1, none⟩ = some (.int .i64 n) ∧ w'.cell? ⟨g2, 2, none⟩ = some (.slice A2 arms.length c2)) (first | exact ⟨c0, d0, d1, d2⟩ | exact ⟨c04, d04, d14, d24⟩ | exact ⟨c05, d05, d15, d25⟩ | exact ⟨c06, d06, d16, d26⟩) (first
            | (go_at_call 25; (with_reducible refine (ruint_calls gr u.r _ HLD.out.rd).mono ?_); rintro e w4 ⟨rfl, hr, hg⟩; have hx := HLD.out.read hr hg; have c04 := hx.1.c0; have hxk := hx.2.frm _ _ _ _ HXD.out (by decide) (by decide) (by decide) (by decide); have d04 := (blk_cell hxk 0).trans rfl; have d14 := (blk_cell hxk 1).trans rfl; have d24 := (blk_cell hxk 2).trans rfl; have HX4 := Aside0.mk hxk; have HL4 := Aside0.mk hx.1; have HB4 := Aside0.mk (HBD.out.trans hx.2); clear hr hg hx hxk)
            | (go_at_call 24; (with_reducible refine (tnumber_ok u.r.uint.1 B g gr _ _ HL4.out HE.out HNL.out.1).mono ?_); rintro e w5 ⟨rfl, hl5, hbb⟩; have c05 := hl5.c0; have hxk := hbb.frm _ _ _ _ HX4.out (by decide) (by decide) (by decide) (by decide); have d05 := (blk_cell hxk 0).trans rfl; have d15 := (blk_cell hxk 1).trans rfl; have d25 := (blk_cell hxk 2).trans rfl; have HX5 := Aside0.mk hxk; have HL5 := Aside0.mk hl5; have HB5 := Aside0.mk (HB4.out.trans hbb); clear hl5 hbb hxk)
            | (go_at_call 33; (with_reducible refine (HPK.out _ ((HB0.out.trans (HB.out.trans HB5.out).bel).mono HLE.out)).mono ?_); rintro e w6 ⟨hbb, hres⟩; obtain ⟨A3, c3, he, hC3⟩ := hres.yes HPF.out; subst he; have HC3 := Aside0.mk hC3; clear hC3; have hl6 := HL5.out.step hbb; have c06 := hl6.c0; have hxk := Lb.blk_below HX5.out hbb; have d06 := (blk_cell hxk 0).trans rfl; have d16 := (blk_cell hxk 1).trans rfl; have d26 := (blk_cell hxk 2).trans rfl; have HL6 := Aside0.mk hl6; have HB6 := Aside0.mk (HB5.out.trans (FrT.of hbb HL5.out.lt)); clear hbb hres hl6 hxk))
                have HL6' : Aside0 (TIs B w6 g gr u1) := ⟨by rw [HU1.out]; exact HL6.out⟩
                go_wp2_with (first
            | (go_at_call 15; (with_reducible refine (HLX.out _ _ _ HC3.out HL6'.out (HB0.out.trans (HB.out.trans HB6.out).bel)).mono ?_); rintro e w7 ⟨hbb, hres⟩; obtain ⟨he, hl7⟩ := hres.yes HREC.out; subst he; have HL7 := Aside0.mk hl7; have HB7 := Aside0.mk (HB6.out.trans hbb); clear hbb hres hl7))
                go_roundg gk
                case measure => omega
                case rel => exact ⟨i + 1, s2, by omega, by first | rfl | (congr 1; unfold wrap64; omega), ⟨by rw [HDR.out, HONE.out]; rfl⟩, HL7, ⟨HB.out.trans HB7.out⟩, ⟨(HNX.out _ HONE.out).1⟩, ⟨(HNX.out _ HONE.out).2⟩⟩
          · have HE := Aside0.mk he
            have HONE : Aside0 (tkOne (.mk 60 n arms) u = .no u.r.uint.2.e) := ⟨by rw [tkOne, if_neg (by decide), if_neg (by decide), if_neg (by decide), if_neg (by decide), if_neg (by decide), if_neg (by decide), if_neg (by decide), if_pos rfl]; unfold TP.num; rw [if_neg he]; rfl⟩
            clear he
            go_wp2_with (first
            | ((with_reducible refine gate_dst (N := 5) rfl ?_); refine box_event ?hg (N := 5) ?hd (cs := #[.int .u8 0, .int .i64 0, .slice none 0 0]) (t := 77) ?hr ?_; (case hd => rfl); (case hg => rfl); (case hr => first | (go_simp; done) | (go_simp; rfl)); intro g2 hg2 w2 hx2 hb2; have HB2 := Aside0.mk hb2; have HL2 := Aside0.mk (HL.out.step hb2); have HX2 := Aside0.mk hx2; have HG2 := Aside0.mk (show wr.heap.size ≤ g2 by omega); clear hx2 hb2 hg2; clear h0 h1 h2)
            | ((with_reducible refine gate_store (t := 77) (p := 5) rfl ?_); refine Lb.store_whole rfl rfl 77 (.tmp 5) (.tmp 14) rfl (new := #[.int .u8 60, .int .i64 n, .slice A2 arms.length c2]) rfl rfl HX2.out rfl (by kernel_rfl) (by simp [Value.oneCell']) ?_; intro w3 hb3 hg3; have HX3 := Aside0.mk hb3; have HB3 : Aside0 (FrT B wr w3) := ⟨FrT.of (Lb.grown_below HB2.out hg3 HB2.out.size HG2.out) HL.out.lt⟩; have HL3 := Aside0.mk (HL2.out.other hg3 HX2.out (by decide) (by decide) (by decide) (by decide)); have c0 := HL3.out.c0; have d0 := (blk_cell hb3 0).trans rfl; have d1 := (blk_cell hb3 1).trans rfl; have d2 := (blk_cell hb3 2).trans rfl; clear hb3 hg3))
            have HLD : Aside0 (TIs B w3.drew g gr u) := ⟨HL3.out.step (Lb.below_drew _)⟩
            have HXD := Aside0.mk (Lb.blk_below HX3.out (Lb.below_drew w3))
            have HBD : Aside0 (FrT B wr w3.drew) := ⟨HB3.out.trans (FrT.of (Lb.below_drew _) HL3.out.lt)⟩
            refine wp_region_any (by kernel_rfl) ?_
            try (change wpAny _ _ _ _ _ _ _ (World.drew _))
            refine wpAny_take (i := 1) (v := ?v3x1) rfl (by kernel_rfl) (by kernel_rfl) (by kernel_rfl) (fun _ _ _ h => h) (Or.inl ⟨by rfl, ?y3x1⟩) ?_
            case y3x1 => intro wq; first | (go_simp; done) | (go_simp; with_reducible rfl)
            refine wpAny_take (i := 2) (v := ?v3x2) rfl (by kernel_rfl) (by kernel_rfl) (by kernel_rfl) (fun _ _ _ h => h) (Or.inl ⟨by rfl, ?y3x2⟩) ?_
            case y3x2 => intro wq; first | (go_simp; done) | (go_simp; with_reducible rfl)
            refine wpAny_take (i := 3) (v := ?v3x3) rfl (by kernel_rfl) (by kernel_rfl) (by kernel_rfl) (fun _ _ _ h => h) (Or.inl ⟨by rfl, ?y3x3⟩) ?_
            case y3x3 => intro wq; first | (go_simp; done) | (go_simp; with_reducible rfl)
            refine wpAny_take (i := 4) (v := ?v3x4) rfl (by kernel_rfl) (by kernel_rfl) (by kernel_rfl) (fun _ _ _ h => h) (Or.inl ⟨by rfl, ?y3x4⟩) ?_
            case y3x4 => intro wq; first | (go_simp; done) | (go_simp; with_reducible rfl)
            refine wpAny_ready (rs := [0, 5]) (by kernel_rfl) (by simp) ?_
            refine AllReady.cons rfl (fun K hK => ?_) (AllReady.cons rfl (fun K hK => ?_) (AllReady.nil))
            · (go_simp; refine hK _ _ ?_; clear hK K)
              refine wpAny_ready (rs := [5]) (by kernel_rfl) (by simp) ?_
              refine AllReady.cons rfl (fun K hK => ?_) (AllReady.nil)
              (go_simp; refine hK _ _ ?_; clear hK K)
              refine wpAny_ready (rs := [6]) (by kernel_rfl) (by simp) ?_
              refine AllReady.cons rfl (fun K hK => ?_) (AllReady.nil)
              go_simp
              go_wp2_with (first
            | (go_at_call 25; (with_reducible refine (ruint_calls gr u.r _ HLD.out.rd).mono ?_); rintro e w4 ⟨rfl, hr, hg⟩; have hx := HLD.out.read hr hg; have c04 := hx.1.c0; have hxk := hx.2.frm _ _ _ _ HXD.out (by decide) (by decide) (by decide) (by decide); have d04 := (blk_cell hxk 0).trans rfl; have d14 := (blk_cell hxk 1).trans rfl; have d24 := (blk_cell hxk 2).trans rfl; have HX4 := Aside0.mk hxk; have HL4 := Aside0.mk hx.1; have HB4 := Aside0.mk (HBD.out.trans hx.2); clear hr hg hx hxk))
              try refine hK _ _ ?_
              try clear hK K
              refine wpAny_ready (rs := [7]) (by kernel_rfl) (by simp) ?_
              refine AllReady.cons rfl (fun K hK => ?_) (AllReady.nil)
              go_simp
              go_wp2_with (first
            | (go_at_call 24; (with_reducible refine (tnumber_bad u.r.uint.1 B g gr _ _ HL4.out HE.out).mono ?_); rintro e w5 ⟨he, rfl⟩; unfold bad at he; subst he))
              exact And.intro rfl (And.intro (HB.out.trans HB4.out) (TakeRes.mk (.inr ⟨_, by rw [HDR.out, HONE.out]; rfl, rfl⟩)))
            · (go_simp; refine hK _ _ ?_; clear hK K)
              refine wpAny_ready (rs := [0, 6]) (by kernel_rfl) (by simp) ?_
              refine AllReady.cons rfl (fun K hK => ?_) (AllReady.cons rfl (fun K hK => ?_) (AllReady.nil))
              · (go_simp; refine hK _ _ ?_; clear hK K)
                refine wpAny_ready (rs := [6]) (by kernel_rfl) (by simp) ?_
                refine AllReady.cons rfl (fun K hK => ?_) (AllReady.nil)
                go_simp
                go_wp2_with (first
            | (go_at_call 25; (with_reducible refine (ruint_calls gr u.r _ HLD.out.rd).mono ?_); rintro e w4 ⟨rfl, hr, hg⟩; have hx := HLD.out.read hr hg; have c04 := hx.1.c0; have hxk := hx.2.frm _ _ _ _ HXD.out (by decide) (by decide) (by decide) (by decide); have d04 := (blk_cell hxk 0).trans rfl; have d14 := (blk_cell hxk 1).trans rfl; have d24 := (blk_cell hxk 2).trans rfl; have HX4 := Aside0.mk hxk; have HL4 := Aside0.mk hx.1; have HB4 := Aside0.mk (HBD.out.trans hx.2); clear hr hg hx hxk))
                try refine hK _ _ ?_
                try clear hK K
                refine wpAny_ready (rs := [7]) (by kernel_rfl) (by simp) ?_
                refine AllReady.cons rfl (fun K hK => ?_) (AllReady.nil)
                go_simp
                go_wp2_with (first
            | (go_at_call 24; (with_reducible refine (tnumber_bad u.r.uint.1 B g gr _ _ HL4.out HE.out).mono ?_); rintro e w5 ⟨he, rfl⟩; unfold bad at he; subst he))
                exact And.intro rfl (And.intro (HB.out.trans HB4.out) (TakeRes.mk (.inr ⟨_, by rw [HDR.out, HONE.out]; rfl, rfl⟩)))
              · go_simp
                go_wp2_with (first
            | (go_at_call 25; (with_reducible refine (ruint_calls gr u.r _ HLD.out.rd).mono ?_); rintro e w4 ⟨rfl, hr, hg⟩; have hx := HLD.out.read hr hg; have c04 := hx.1.c0; have hxk := hx.2.frm _ _ _ _ HXD.out (by decide) (by decide) (by decide) (by decide); have d04 := (blk_cell hxk 0).trans rfl; have d14 := (blk_cell hxk 1).trans rfl; have d24 := (blk_cell hxk 2).trans rfl; have HX4 := Aside0.mk hxk; have HL4 := Aside0.mk hx.1; have HB4 := Aside0.mk (HBD.out.trans hx.2); clear hr hg hx hxk))
                try refine hK _ _ ?_
                try clear hK K
                refine wpAny_ready (rs := [0, 7]) (by kernel_rfl) (by simp) ?_
                refine AllReady.cons rfl (fun K hK => ?_) (AllReady.cons rfl (fun K hK => ?_) (AllReady.nil))
                · (go_simp; refine hK _ _ ?_; clear hK K)
                  refine wpAny_ready (rs := [7]) (by kernel_rfl) (by simp) ?_
                  refine AllReady.cons rfl (fun K hK => ?_) (AllReady.nil)
                  go_simp
                  go_wp2_with (first
            | (go_at_call 24; (with_reducible refine (tnumber_bad u.r.uint.1 B g gr _ _ HL4.out HE.out).mono ?_); rintro e w5 ⟨he, rfl⟩; unfold bad at he; subst he))
                  exact And.intro rfl (And.intro (HB.out.trans HB4.out) (TakeRes.mk (.inr ⟨_, by rw [HDR.out, HONE.out]; rfl, rfl⟩)))
                · go_simp
                  go_wp2_with (first
            | (go_at_call 24; (with_reducible refine (tnumber_bad u.r.uint.1 B g gr _ _ HL4.out HE.out).mono ?_); rintro e w5 ⟨he, rfl⟩; unfold bad at he; subst he))
                  exact And.intro rfl (And.intro (HB.out.trans HB4.out) (TakeRes.mk (.inr ⟨_, by rw [HDR.out, HONE.out]; rfl, rfl⟩)))
end Go.Proofs.YtgfljlbecafipaaGreatDoor.Xw
