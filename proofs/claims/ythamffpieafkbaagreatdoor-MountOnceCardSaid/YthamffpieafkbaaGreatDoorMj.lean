/- mount: letting go: the closures, slices.IndexFunc and slices.DeleteFunc of mounts. -/
import Derived.Test.YthamffpieafkbaaGreatDoorMg
import Derived.StillTailTactics
namespace Go.Proofs.YthamffpieafkbaaGreatDoor.Mt
open Go.RowKit Go.Lib Go.Proofs.YthamffpieafkbaaGreatDoor.PM Go.Proofs.YthamffpieafkbaaGreatDoorW.PrintWords Go.Proofs.YthamffpieafkbaaGreatDoorW.PrintLast Go.Proofs.YthamffpieafkbaaGreatDoorW.PrintMore
set_option linter.unusedVariables false
set_option linter.unusedSimpArgs false

/-- blocks of other types than mounts stay -/
structure FrH (B : Nat) (w w' : World) : Prop where
  bel : Below B w w'
  keep : ∀ (k : Nat) (cs : Array Value) (t' : TypeId) (f : Nat × Nat), t' ≠ 67 → w.heap[k]? = some (.cells cs t' f) → w'.heap[k]? = some (.cells cs t' f)
theorem FrH.trans {B : Nat} {a b c : World} (h : FrH B a b) (k : FrH B b c) : FrH B a c := ⟨h.bel.trans k.bel, fun i cs t' f h1 h2 => k.keep i cs t' f h1 (h.keep i cs t' f h1 h2)⟩
theorem FrH.of {B : Nat} {w w' : World} (h : Below w.heap.size w w') (hB : B ≤ w.heap.size) : FrH B w w' := ⟨h.mono hB, fun _ _ _ _ _ h1 => Lb.blk_below h1 h⟩

theorem idx_spec {α : Type} (p : α → Bool) : ∀ (l : List α) (k : Int), 0 ≤ k → idx p l k ≠ -1 → ∃ i : Nat, idx p l k = k + i ∧ i < l.length ∧ (l.take (i + 1)).filter (fun x => !p x) = l.take i ∧ (∀ x, l[i]? = some x → p x = true)
  | [], k, _, h => absurd rfl h
  | a :: r, k, hk, h => by
    rw [idx] at h ⊢
    by_cases hp : p a = true
    · rw [if_pos hp]
      exact ⟨0, by omega, by simp, by simp [hp], fun x hx => by simp at hx; rw [← hx]; exact hp⟩
    · rw [if_neg hp] at h ⊢
      obtain ⟨i, h1, h2, h3, h4⟩ := idx_spec p r (k + 1) (by omega) h
      have hp' : p a = false := by simpa using hp
      exact ⟨i + 1, by rw [h1]; omega, by simp; omega, by rw [List.take_succ_cons, List.filter_cons, List.take_succ_cons]; simp [hp', h3], fun x hx => h4 x (by simpa using hx)⟩
theorem idx_no {α : Type} (p : α → Bool) (l : List α) (h : idx p l 0 = -1) : l.filter (fun x => !p x) = l := by
  have h2 := (idx_none p l 0 (Int.le_refl _)).2 h
  rw [List.filter_eq_self]
  intro a ha
  rw [List.any_eq_false] at h2
  have := h2 a ha
  simpa using this

/-- some mounts taken out so far: j looked at, i kept -/
structure Del (p : Held → Bool) (M cur : List Held) (i j : Nat) : Prop where
  len : cur.length = M.length
  lt : i < j
  le : j ≤ M.length
  kept : cur.take i = (M.take j).filter (fun x => !p x)
  rest : cur.drop j = M.drop j
theorem Del.start {p : Held → Bool} {M : List Held} {i : Nat} (h1 : i < M.length) (h2 : (M.take (i + 1)).filter (fun x => !p x) = M.take i) : Del p M M i (i + 1) := ⟨rfl, by omega, by omega, h2.symm, rfl⟩
theorem Del.at {p : Held → Bool} {M cur : List Held} {i j : Nat} (h : Del p M cur i j) (x : Held) (hx : M[j]? = some x) : cur[j]? = some x := by
  have h1 : (cur.drop j)[0]? = some x := by rw [h.rest, List.getElem?_drop, Nat.add_zero]; exact hx
  rwa [List.getElem?_drop, Nat.add_zero] at h1
theorem take_one {M : List Held} {j : Nat} {x : Held} (hx : M[j]? = some x) : M.take (j + 1) = M.take j ++ [x] := by
  obtain ⟨h, rfl⟩ := List.getElem?_eq_some_iff.1 hx
  exact List.take_succ_eq_append_getElem h
theorem drop_one {l k : List Held} {j : Nat} (h : l.drop j = k.drop j) : l.drop (j + 1) = k.drop (j + 1) := by
  rw [← List.drop_drop, ← List.drop_drop, h]
theorem Del.skip {p : Held → Bool} {M cur : List Held} {i j : Nat} (h : Del p M cur i j) (x : Held) (hx : M[j]? = some x) (hp : p x = true) : Del p M cur i (j + 1) := by
  have hlt := (List.getElem?_eq_some_iff.1 hx).1
  exact ⟨h.len, by have := h.lt; omega, by omega, by rw [h.kept, take_one hx, List.filter_append]; simp [hp], drop_one h.rest⟩
theorem Del.put {p : Held → Bool} {M cur : List Held} {i j : Nat} (h : Del p M cur i j) (x : Held) (hx : M[j]? = some x) (hp : p x = false) : Del p M (cur.set i x) (i + 1) (j + 1) := by
  have hlt := (List.getElem?_eq_some_iff.1 hx).1
  have h1 := h.lt
  have h2 := h.len
  refine ⟨by rw [List.length_set]; exact h.len, by omega, by omega, ?_, ?_⟩
  · rw [take_one hx, List.filter_append, ← h.kept, List.take_succ_eq_append_getElem (by rw [List.length_set]; omega), List.take_set_of_le (Nat.le_refl _)]
    simp [hp]
  · rw [List.drop_set_of_lt (by omega)]
    exact drop_one h.rest
theorem flatM_set : ∀ (M : List Held) (i : Nat) (x : Held), i < M.length → ((flatM M).set (i * 2) (.string x.f0)).set (i * 2 + 1) (.string x.f1) = flatM (M.set i x)
  | [], i, x, h => by simp at h
  | a :: r, 0, x, h => by simp [flatM]
  | a :: r, i + 1, x, h => by
    have := flatM_set r i x (by simpa using h)
    rw [List.set_cons_succ]
    show (Value.string a.f0 :: Value.string a.f1 :: flatM r |>.set ((i + 1) * 2) _ |>.set ((i + 1) * 2 + 1) _) = Value.string a.f0 :: Value.string a.f1 :: flatM (r.set i x)
    rw [← this, show (i + 1) * 2 = i * 2 + 1 + 1 by omega]
    rfl
theorem flatM_take : ∀ (M : List Held) (i : Nat), (flatM M).take (i * 2) = flatM (M.take i)
  | [], i => by simp [flatM]
  | a :: r, 0 => by simp [flatM]
  | a :: r, i + 1 => by
    rw [show (i + 1) * 2 = i * 2 + 1 + 1 by omega]
    show Value.string a.f0 :: Value.string a.f1 :: (flatM r).take (i * 2) = Value.string a.f0 :: Value.string a.f1 :: flatM (r.take i)
    rw [flatM_take r i]
theorem set_two : ∀ (l : List Value) (i : Nat) (x y : Value), i + 2 ≤ l.length → l.take i ++ [x, y] ++ l.drop (i + 2) = (l.set i x).set (i + 1) y
  | [], i, x, y, h => by simp at h
  | [a], i, x, y, h => by simp at h
  | a :: b :: r, 0, x, y, h => by simp
  | a :: b :: r, i + 1, x, y, h => by
    have := set_two (b :: r) i x y (by simp only [List.length_cons] at h ⊢; omega)
    rw [show i + 1 + 2 = (i + 2) + 1 by omega, List.take_succ_cons, List.drop_succ_cons, List.set_cons_succ, List.set_cons_succ, ← this]
    simp

/-- the row of a table's mounts, its block known -/
structure Row (w : World) (k : Nat) (M : List Held) (cap : Nat) : Prop where
  ex : ∃ row, w.heap[k]? = some (.cells row 67 (0, 0)) ∧ M.length ≤ cap ∧ cap ≤ maxLen ∧ row.size = cap * 2 ∧ row.toList.take (M.length * 2) = flatM M
theorem Row.step {w w' : World} {k : Nat} {M : List Held} {cap : Nat} (h : Row w k M cap) (hb : Below w.heap.size w w') : Row w' k M cap := by
  obtain ⟨row, h1, h2⟩ := h.ex
  exact ⟨row, Lb.blk_below h1 hb, h2⟩
theorem Row.at {w : World} {k : Nat} {M : List Held} {cap i : Nat} (h : Row w k M cap) (x : Held) (hx : M[i]? = some x) : w.cell? ⟨k, i * 2, none⟩ = some (.string x.f0) ∧ w.cell? ⟨k, i * 2 + 1, none⟩ = some (.string x.f1) := by
  obtain ⟨row, h1, h2, h3, h4, h5⟩ := h.ex
  obtain ⟨a1, a2⟩ := flatM_at M i x hx
  have hlt := (List.getElem?_eq_some_iff.1 hx).1
  have q : ∀ (n : Nat) v, n < M.length * 2 → (flatM M)[n]? = some v → row[n]? = some v := fun n v hn hv => by
    rw [← h5, List.getElem?_take, if_pos hn, Array.getElem?_toList] at hv
    exact hv
  exact ⟨(blk_cell h1 _).trans (q _ _ (by omega) a1), (blk_cell h1 _).trans (q _ _ (by omega) a2)⟩

set_option maxRecDepth 100000 in
theorem clo1_calls (a b host path : ByteArray) (gh ga k : Nat) (w : World) (h1 : w.heap[gh]? = some (.cells #[.string host] 9 (0, 0))) (h2 : w.heap[ga]? = some (.cells #[.slice none 0 0, .slice (some ⟨k, 0, none⟩) 1 1] 40 (0, 0))) (h3 : w.heap[k]? = some (.cells #[.string path] 9 (0, 0))) :
    Calls Tryz.prog 22 #[.agg #[.string a, .string b], .pointer (some ⟨gh, 0, none⟩), .pointer (some ⟨ga, 0, none⟩)] w fun e w' => e = .returned (.bool (a.toList == host.toList && b.toList == path.toList)) ∧ Below w.heap.size w w' := by
  have H1 := Aside0.mk h1
  have H2 := Aside0.mk h2
  have H3 := Aside0.mk h3
  have heq := eqA67
  clear h1 h2 h3
  go_enter Tryz.func22, Tryz.ntmps22
  go_wp2_with (first
    | ((with_reducible refine gate_dst (N := 3) rfl ?_); refine box_event ?hg (N := 3) ?hd (cs := #[.string a, .string b]) (t := 67) ?hr ?_; (case hd => rfl); (case hg => rfl); (case hr => first | (go_simp; done) | (go_simp; rfl)); intro g3 hg3 w1 hx hb; have HB1 := Aside0.mk hb; have c0 := (blk_cell hx 0).trans rfl; have c1 := (blk_cell hx 1).trans rfl; have d1 := (blk_cell (Lb.blk_below H1.out hb) 0).trans rfl; have d2 := (blk_cell (Lb.blk_below H2.out hb) 1).trans rfl; have d3 := (blk_cell (Lb.blk_below H3.out hb) 0).trans rfl; clear hx hb hg3))
  go_still (by kernel_rfl)
  change Exit.then _ _ _ _ w1.drew
  have HB2 := Aside0.mk (below_step HB1.out (Lb.below_drew w1))
  clear c0 c1 d1 d2 d3
  generalize w1.drew = w2 at HB2 ⊢
  go_wp2
  go_ret
  exact ⟨rfl, HB2.out⟩
set_option maxRecDepth 100000 in
theorem clo2_calls (a b host : ByteArray) (gh : Nat) (w : World) (h1 : w.heap[gh]? = some (.cells #[.string host] 9 (0, 0))) :
    Calls Tryz.prog 23 #[.agg #[.string a, .string b], .pointer (some ⟨gh, 0, none⟩)] w fun e w' => e = .returned (.bool (a.toList == host.toList)) ∧ Below w.heap.size w w' := by
  have H1 := Aside0.mk h1
  clear h1
  go_enter Tryz.func23, Tryz.ntmps23
  go_wp2_with (first
    | ((with_reducible refine gate_dst (N := 2) rfl ?_); refine box_event ?hg (N := 2) ?hd (cs := #[.string a, .string b]) (t := 67) ?hr ?_; (case hd => rfl); (case hg => rfl); (case hr => first | (go_simp; done) | (go_simp; rfl)); intro g3 hg3 w1 hx hb; have HB1 := Aside0.mk hb; have c0 := (blk_cell hx 0).trans rfl; have c1 := (blk_cell hx 1).trans rfl; have d1 := (blk_cell (Lb.blk_below H1.out hb) 0).trans rfl; clear hx hb hg3))
  go_ret
  exact ⟨rfl, HB1.out⟩

theorem Row.put {w1 : World} {k : Nat} {M : List Held} {cap i : Nat} {row cur' : Array Value} {x : Held} (h1 : M.length ≤ cap) (h2 : cap ≤ maxLen) (h3 : row.size = cap * 2) (h4 : row.toList.take (M.length * 2) = flatM M) (hi : i < M.length)
    (hb : w1.heap[k]? = some (.cells cur' 67 (0, 0))) (hl : cur'.toList = row.toList.take (i * 2) ++ [.string x.f0, .string x.f1] ++ row.toList.drop (i * 2 + 2)) : Row w1 k (M.set i x) cap := by
  have hs : row.toList.length = cap * 2 := by simpa using h3
  rw [set_two _ _ _ _ (by omega)] at hl
  refine ⟨cur', hb, by rw [List.length_set]; exact h1, h2, ?_, ?_⟩
  · rw [← Array.length_toList, hl]; simp [hs]
  · rw [hl, List.length_set, List.take_set, List.take_set, h4]
    exact flatM_set M i x hi
theorem Row.own {w : World} {B k : Nat} {M : List Held} {cap : Nat} (h : Row w k M cap) (hB : B ≤ k) : w.ownsRow B 67 2 (.slice (some ⟨k, 0, none⟩) M.length cap) M.length (flatM M) := by
  obtain ⟨row, h1, h2, h3, h4, h5⟩ := h.ex
  exact ⟨flatM_length M, .inr ⟨k, cap, row, rfl, hB, h1, h2, h3, h4, h5⟩⟩
theorem Row.of {w : World} {B : Nat} {v : Value} {M : List Held} (h : w.ownsRow B 67 2 v M.length (flatM M)) : (v = .slice none 0 0 ∧ M = []) ∨ ∃ k cap, v = .slice (some ⟨k, 0, none⟩) M.length cap ∧ B ≤ k ∧ Row w k M cap := by
  obtain ⟨h1, h2⟩ := h
  rcases h2 with ⟨rfl, h3⟩ | ⟨k, cap, row, rfl, hk, hr, hn, hm, hs, ht⟩
  · exact .inl ⟨rfl, List.eq_nil_of_length_eq_zero h3⟩
  · exact .inr ⟨k, cap, rfl, hk, ⟨row, hr, hn, hm, hs, ht⟩⟩
theorem FrH.store {B : Nat} {w w1 w2 : World} {g : Nat} {cur : Array Value} {f : Nat × Nat} (h : FrH B w w1) (hb : w1.heap[g]? = some (.cells cur 67 f)) (hg : w1.grownBy w2 (some g)) (hB : B ≤ w1.heap.size) (hBg : B ≤ g) : FrH B w w2 :=
  h.trans ⟨Lb.grown_below (Below.refl B w1) hg hB hBg, fun k cs t' f h1 h2 => types_blk hb hg _ _ _ _ h1 h2⟩

set_option maxRecDepth 100000 in
set_option maxHeartbeats 2000000 in
theorem index1_calls (A : Option Addr) (cap : Nat) (M : List Held) (host path : ByteArray) (gh ga kp : Nat) (w : World) (hA : ∀ (i : Nat) x, M[i]? = some x → ∃ k, A = some ⟨k, 0, none⟩ ∧ Row w k M cap) (h1 : w.heap[gh]? = some (.cells #[.string host] 9 (0, 0))) (h2 : w.heap[ga]? = some (.cells #[.slice none 0 0, .slice (some ⟨kp, 0, none⟩) 1 1] 40 (0, 0))) (h3 : w.heap[kp]? = some (.cells #[.string path] 9 (0, 0))) (hlen : M.length ≤ 1000000) :
    Calls Tryz.prog 39 #[.slice A M.length cap, .func (.func 22) #[] #[.pointer (some ⟨gh, 0, none⟩), .pointer (some ⟨ga, 0, none⟩)]] w fun e w' => e = .returned (.int .i64 (idx (fun x : Held => (x.f0.toList == host.toList && x.f1.toList == path.toList)) M 0)) ∧ Below w.heap.size w w' := by
  have HA := Aside0.mk hA
  have H1 := Aside0.mk h1; have H2 := Aside0.mk h2; have H3 := Aside0.mk h3
  clear hA h1 h2 h3
  go_enter Tryz.func39, Tryz.ntmps39
  go_wp2_with fail
  go_loopg [8] M.length (fun gk s8 wr => ∃ i : Nat, i + gk = M.length ∧ s8 = .int .i64 i ∧ Aside0 (idx (fun x : Held => (x.f0.toList == host.toList && x.f1.toList == path.toList)) (M.drop i) i = idx (fun x : Held => (x.f0.toList == host.toList && x.f1.toList == path.toList)) M 0) ∧ Aside0 (Below w.heap.size w wr))
  case atStart => exact ⟨0, by omega, rfl, ⟨rfl⟩, ⟨Below.refl _ _⟩⟩
  case round =>
    obtain ⟨i, hi, rfl, HI, HB⟩ := hrel
    cases gk with
    | zero =>
      obtain rfl : i = M.length := by omega
      have hii : ¬ ((M.length : Int) < (M.length : Int)) := by omega
      go_wp2
      go_ret
      have := HI.out
      rw [List.drop_length, idx] at this
      exact ⟨by rw [← this]; rfl, HB.out⟩
    | succ gk =>
      have hii : (i : Int) < (M.length : Int) := by omega
      have hlt : i < M.length := by omega
      obtain ⟨x, hx⟩ : ∃ x, x = M[i]'hlt := ⟨_, rfl⟩
      have hgx : M[i]? = some x := by rw [hx]; exact List.getElem?_eq_getElem hlt
      obtain ⟨k, rfl, hrow⟩ := HA.out i x hgx
      obtain ⟨c0, c1⟩ := hrow.at x hgx
      replace c0 := Lib.Below.cellOf HB.out c0 (Nat.le_refl _)
      replace c1 := Lib.Below.cellOf HB.out c1 (Nat.le_refl _)
      have hdr := idx_drop (fun x : Held => (x.f0.toList == host.toList && x.f1.toList == path.toList)) M i hlt i
      rw [← hx] at hdr
      have hF := clo1_calls x.f0 x.f1 host path gh ga kp wr (Lb.blk_below H1.out HB.out) (Lb.blk_below H2.out HB.out) (Lb.blk_below H3.out HB.out)
      have HDR := Aside0.mk hdr
      clear hdr hx hgx hrow
      cases hb : (x.f0.toList == host.toList && x.f1.toList == path.toList) with
      | true =>
        rw [hb] at hF
        have HBT := Aside0.mk hb
        clear hb
        go_wp2_with (go_at_call 22; refine hF.mono ?_; rintro e5 w5 ⟨rfl, hb5⟩; have HB5 := Aside0.mk (below_step HB.out hb5); clear hb5 hF)
        go_ret
        exact ⟨by rw [← HI.out, HDR.out]; show _ = Ending.returned (Value.int .i64 (if (x.f0.toList == host.toList && x.f1.toList == path.toList) = true then (i : Int) else _)); rw [HBT.out]; rfl, HB5.out⟩
      | false =>
        rw [hb] at hF
        have HBT := Aside0.mk hb
        clear hb
        go_wp2_with (go_at_call 22; refine hF.mono ?_; rintro e5 w5 ⟨rfl, hb5⟩; have HB5 := Aside0.mk (below_step HB.out hb5); clear hb5 hF)
        go_roundg gk
        case measure => omega
        case rel => exact ⟨i + 1, by omega, by first | rfl | (congr 1; unfold wrap64; omega), ⟨by rw [← HI.out, HDR.out]; show _ = (if (x.f0.toList == host.toList && x.f1.toList == path.toList) = true then (i : Int) else _); rw [HBT.out]; rfl⟩, HB5⟩

set_option maxRecDepth 100000 in
set_option maxHeartbeats 2000000 in
theorem index2_calls (A : Option Addr) (cap : Nat) (M : List Held) (host : ByteArray) (gh : Nat) (w : World) (hA : ∀ (i : Nat) x, M[i]? = some x → ∃ k, A = some ⟨k, 0, none⟩ ∧ Row w k M cap) (h1 : w.heap[gh]? = some (.cells #[.string host] 9 (0, 0))) (hlen : M.length ≤ 1000000) :
    Calls Tryz.prog 39 #[.slice A M.length cap, .func (.func 23) #[] #[.pointer (some ⟨gh, 0, none⟩)]] w fun e w' => e = .returned (.int .i64 (idx (fun x : Held => (x.f0.toList == host.toList)) M 0)) ∧ Below w.heap.size w w' := by
  have HA := Aside0.mk hA
  have H1 := Aside0.mk h1
  clear hA h1
  go_enter Tryz.func39, Tryz.ntmps39
  go_wp2_with fail
  go_loopg [8] M.length (fun gk s8 wr => ∃ i : Nat, i + gk = M.length ∧ s8 = .int .i64 i ∧ Aside0 (idx (fun x : Held => (x.f0.toList == host.toList)) (M.drop i) i = idx (fun x : Held => (x.f0.toList == host.toList)) M 0) ∧ Aside0 (Below w.heap.size w wr))
  case atStart => exact ⟨0, by omega, rfl, ⟨rfl⟩, ⟨Below.refl _ _⟩⟩
  case round =>
    obtain ⟨i, hi, rfl, HI, HB⟩ := hrel
    cases gk with
    | zero =>
      obtain rfl : i = M.length := by omega
      have hii : ¬ ((M.length : Int) < (M.length : Int)) := by omega
      go_wp2
      go_ret
      have := HI.out
      rw [List.drop_length, idx] at this
      exact ⟨by rw [← this]; rfl, HB.out⟩
    | succ gk =>
      have hii : (i : Int) < (M.length : Int) := by omega
      have hlt : i < M.length := by omega
      obtain ⟨x, hx⟩ : ∃ x, x = M[i]'hlt := ⟨_, rfl⟩
      have hgx : M[i]? = some x := by rw [hx]; exact List.getElem?_eq_getElem hlt
      obtain ⟨k, rfl, hrow⟩ := HA.out i x hgx
      obtain ⟨c0, c1⟩ := hrow.at x hgx
      replace c0 := Lib.Below.cellOf HB.out c0 (Nat.le_refl _)
      replace c1 := Lib.Below.cellOf HB.out c1 (Nat.le_refl _)
      have hdr := idx_drop (fun x : Held => (x.f0.toList == host.toList)) M i hlt i
      rw [← hx] at hdr
      have hF := clo2_calls x.f0 x.f1 host gh wr (Lb.blk_below H1.out HB.out)
      have HDR := Aside0.mk hdr
      clear hdr hx hgx hrow
      cases hb : (x.f0.toList == host.toList) with
      | true =>
        rw [hb] at hF
        have HBT := Aside0.mk hb
        clear hb
        go_wp2_with (go_at_call 23; refine hF.mono ?_; rintro e5 w5 ⟨rfl, hb5⟩; have HB5 := Aside0.mk (below_step HB.out hb5); clear hb5 hF)
        go_ret
        exact ⟨by rw [← HI.out, HDR.out]; show _ = Ending.returned (Value.int .i64 (if (x.f0.toList == host.toList) = true then (i : Int) else _)); rw [HBT.out]; rfl, HB5.out⟩
      | false =>
        rw [hb] at hF
        have HBT := Aside0.mk hb
        clear hb
        go_wp2_with (go_at_call 23; refine hF.mono ?_; rintro e5 w5 ⟨rfl, hb5⟩; have HB5 := Aside0.mk (below_step HB.out hb5); clear hb5 hF)
        go_roundg gk
        case measure => omega
        case rel => exact ⟨i + 1, by omega, by first | rfl | (congr 1; unfold wrap64; omega), ⟨by rw [← HI.out, HDR.out]; show _ = (if (x.f0.toList == host.toList) = true then (i : Int) else _); rw [HBT.out]; rfl⟩, HB5⟩
end Go.Proofs.YthamffpieafkbaaGreatDoor.Mt
