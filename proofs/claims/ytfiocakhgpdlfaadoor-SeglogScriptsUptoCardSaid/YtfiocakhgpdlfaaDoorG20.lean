/- The library's searches among segments, with seglog's closures. -/
import Derived.Test.YtfiocakhgpdlfaaDoorG19
import Derived.FnLit
namespace Go.Proofs.YtfiocakhgpdlfaaDoor.Sg
open Go.RowKit Go.Lib Go.Proofs.YtfiocakhgpdlfaaDoor.Ap Go.Proofs.YtfiocakhgpdlfaaDoorW.PrintWords Go.Proofs.YtfiocakhgpdlfaaDoorW.PrintLast Go.Proofs.YtfiocakhgpdlfaaDoorW.PrintMore
set_option linter.unusedVariables false
set_option linter.unusedSimpArgs false

/-- the place of the first that a test takes -/
def idx {α : Type} (p : α → Bool) : List α → Int → Int
  | [], _ => -1
  | x :: r, i => if p x = true then i else idx p r (i + 1)
theorem idx_drop {α : Type} (p : α → Bool) (l : List α) (i : Nat) (h : i < l.length) (k : Int) : idx p (l.drop i) k = if p (l[i]'h) = true then k else idx p (l.drop (i + 1)) (k + 1) := by
  rw [List.drop_eq_getElem_cons h, idx]
theorem idx_any {α : Type} (p : α → Bool) : ∀ (l : List α) (k : Int), 0 ≤ k → (idx p l k = -1 ∧ l.any p = false) ∨ (k ≤ idx p l k ∧ l.any p = true)
  | [], k, h => .inl ⟨rfl, rfl⟩
  | x :: r, k, h => by
    rw [idx, List.any_cons]
    split
    · rename_i hx; rw [hx]; exact .inr ⟨Int.le_refl _, rfl⟩
    · rename_i hx
      have : p x = false := by simpa using hx
      rw [this, Bool.false_or]
      rcases idx_any p r (k + 1) (by omega) with h | h
      · exact .inl h
      · exact .inr ⟨by omega, h.2⟩
theorem idx_find {α : Type} (p : α → Bool) : ∀ (l : List α) (k : Int), idx p l k = match l.findIdx? p with
    | none => -1
    | some i => k + i
  | [], k => by rw [idx, List.findIdx?_nil]
  | x :: r, k => by
    rw [idx, List.findIdx?_cons]
    by_cases hx : p x = true
    · rw [if_pos hx, hx]; simp
    · rw [if_neg hx, idx_find p r (k + 1)]
      have : p x = false := by simpa using hx
      rw [this]
      cases r.findIdx? p with
      | none => rfl
      | some i => show k + 1 + (i : Int) = k + ((i + 1 : Nat) : Int); omega
def isId (id : Int) : Seg → Bool := fun s => (s.id : Int) == id

theorem clo_c_calls (s : Seg) (id : Int) (a : Nat) (w : World) (h : w.cell? ⟨a, 0, none⟩ = some (.int .i64 id)) :
    Calls Tryd.prog 59 #[.agg #[.int .i64 s.id, .int .i64 s.used], .pointer (some ⟨a, 0, none⟩)] w fun e w' => e = .returned (.bool (isId id s)) ∧ Below w.heap.size w w' := by
  have H := Aside0.mk h
  clear h
  go_enter Tryd.func59, Tryd.ntmps59
  go_wp2_with (first
    | ((with_reducible refine gate_dst (N := 2) rfl ?_); refine box_event ?hg (N := 2) ?hd (cs := #[.int .i64 s.id, .int .i64 s.used]) (t := 71) ?hr ?_; (case hd => rfl); (case hg => rfl); (case hr => first | (go_simp; done) | (go_simp; rfl)); intro g1 hg1 w1 hx1 hb1; have HB1 := Aside0.mk hb1; have c0 := (blk_cell hx1 0).trans rfl; have hp1 := Lib.Below.cellOf hb1 H.out (Nat.le_refl _); clear hx1 hb1 hg1))
  go_ret
  exact ⟨rfl, HB1.out⟩

set_option maxRecDepth 100000 in
theorem index_c_calls (B : Nat) (v : Value) (l : List Seg) (id : Int) (a : Nat) (w : World) (hS : SegsAt B w v l) (h : w.cell? ⟨a, 0, none⟩ = some (.int .i64 id)) (hlen : l.length ≤ 1000000) :
    Calls Tryd.prog 45 #[v, .func (.func 59) #[] #[.pointer (some ⟨a, 0, none⟩)]] w fun e w' => e = .returned (.int .i64 (idx (isId id) l 0)) ∧ Below w.heap.size w w' := by
  have HS := Aside0.mk hS
  have H := Aside0.mk h
  obtain ⟨A, c, rfl, _⟩ := own_slice hS
  clear hS h
  go_enter Tryd.func45, Tryd.ntmps45
  go_wp2_with fail
  go_loopg [8] l.length (fun gk s8 wr => ∃ i : Nat, i + gk = l.length ∧ s8 = .int .i64 i ∧ Aside0 (idx (isId id) (l.drop i) i = idx (isId id) l 0) ∧ Aside0 (Below w.heap.size w wr))
  case atStart => exact ⟨0, by omega, rfl, ⟨rfl⟩, ⟨Below.refl _ _⟩⟩
  case round =>
    obtain ⟨i, hi, rfl, HI, HB⟩ := hrel
    cases gk with
    | zero =>
      obtain rfl : i = l.length := by omega
      have hii : ¬ ((l.length : Int) < (l.length : Int)) := by omega
      go_wp2
      go_ret
      have := HI.out
      rw [List.drop_length, idx] at this
      exact ⟨by rw [← this]; rfl, HB.out⟩
    | succ gk =>
      have hii : (i : Int) < (l.length : Int) := by omega
      have hlt : i < l.length := by omega
      obtain ⟨s, hs⟩ : ∃ s, s = l[i]'hlt := ⟨_, rfl⟩
      obtain ⟨k, cap, hA, hBk, c0, c1⟩ := (HS.out.step HB.out).at i hlt
      injection hA with hA1 hA2 hA3
      subst hA1
      rw [← hs] at c0 c1
      have hdr := idx_drop (isId id) l i hlt i
      rw [← hs] at hdr
      have hF := clo_c_calls s id a wr (Lib.Below.cellOf HB.out H.out (Nat.le_refl _))
      have HDR := Aside0.mk hdr
      clear hdr hs hA2 hA3
      cases hb : isId id s with
      | true =>
        rw [hb] at hF
        have HBT := Aside0.mk hb
        clear hb
        go_wp2_with (go_at_call 59; refine hF.mono ?_; rintro e5 w5 ⟨rfl, hb5⟩; have HB5 := Aside0.mk (below_step HB.out hb5); clear hb5 hF)
        go_ret
        exact ⟨by rw [← HI.out, HDR.out]; show _ = Ending.returned (Value.int .i64 (if isId id s = true then (i : Int) else _)); rw [HBT.out]; rfl, HB5.out⟩
      | false =>
        rw [hb] at hF
        have HBT := Aside0.mk hb
        clear hb
        go_wp2_with (go_at_call 59; refine hF.mono ?_; rintro e5 w5 ⟨rfl, hb5⟩; have HB5 := Aside0.mk (below_step HB.out hb5); clear hb5 hF)
        go_roundg gk
        case measure => omega
        case rel => exact ⟨i + 1, by omega, by first | rfl | (congr 1; unfold wrap64; omega), ⟨by rw [← HI.out, HDR.out]; show _ = (if isId id s = true then (i : Int) else _); rw [HBT.out]; rfl⟩, HB5⟩

theorem contains_c_calls (B : Nat) (v : Value) (l : List Seg) (id : Int) (a : Nat) (r : Bool) (hr : l.any (isId id) = r) (w : World) (hS : SegsAt B w v l) (h : w.cell? ⟨a, 0, none⟩ = some (.int .i64 id)) (hlen : l.length ≤ 1000000) :
    Calls Tryd.prog 58 #[v, .func (.func 59) #[] #[.pointer (some ⟨a, 0, none⟩)]] w fun e w' => e = .returned (.bool r) ∧ Below w.heap.size w w' := by
  have HI := index_c_calls B v l id a w hS h hlen
  have HC := Aside0.mk (idx_any (isId id) l 0 (Int.le_refl _))
  obtain ⟨x, hx⟩ : ∃ x, x = idx (isId id) l 0 := ⟨_, rfl⟩
  rw [← hx] at HI HC
  rw [hr] at HC
  obtain ⟨A, c, rfl, _⟩ := own_slice hS
  clear hS h hx hr
  cases r with
  | false =>
    have hx : x = -1 := by rcases HC.out with h | h; exact h.1; exact absurd h.2 (by simp)
    subst hx
    go_enter Tryd.func58, Tryd.ntmps58
    go_wp2_with (first
      | (go_at_call 45; (with_reducible refine HI.mono ?_); rintro e5 w5 ⟨rfl, hb5⟩; have HB5 := Aside0.mk hb5; clear hb5))
    go_ret
    exact ⟨rfl, HB5.out⟩
  | true =>
    have hx : 0 ≤ x := by rcases HC.out with h | h; exact absurd h.2 (by simp); exact h.1
    go_enter Tryd.func58, Tryd.ntmps58
    go_wp2_with (first
      | (go_at_call 45; (with_reducible refine HI.mono ?_); rintro e5 w5 ⟨rfl, hb5⟩; have HB5 := Aside0.mk hb5; clear hb5))
    go_ret
    exact ⟨rfl, HB5.out⟩

theorem clo_d_calls (s : Seg) (id : Int) (a : Nat) (w : World) (h : w.cell? ⟨a, 0, none⟩ = some (.int .i64 id)) :
    Calls Tryd.prog 46 #[.agg #[.int .i64 s.id, .int .i64 s.used], .pointer (some ⟨a, 0, none⟩)] w fun e w' => e = .returned (.bool (isId id s)) ∧ Below w.heap.size w w' := by
  have H := Aside0.mk h
  clear h
  go_enter Tryd.func46, Tryd.ntmps46
  go_wp2_with (first
    | ((with_reducible refine gate_dst (N := 2) rfl ?_); refine box_event ?hg (N := 2) ?hd (cs := #[.int .i64 s.id, .int .i64 s.used]) (t := 71) ?hr ?_; (case hd => rfl); (case hg => rfl); (case hr => first | (go_simp; done) | (go_simp; rfl)); intro g1 hg1 w1 hx1 hb1; have HB1 := Aside0.mk hb1; have c0 := (blk_cell hx1 0).trans rfl; have hp1 := Lib.Below.cellOf hb1 H.out (Nat.le_refl _); clear hx1 hb1 hg1))
  go_ret
  exact ⟨rfl, HB1.out⟩

set_option maxRecDepth 100000 in
theorem index_d_calls (B : Nat) (v : Value) (l : List Seg) (id : Int) (a : Nat) (w : World) (hS : SegsAt B w v l) (h : w.cell? ⟨a, 0, none⟩ = some (.int .i64 id)) (hlen : l.length ≤ 1000000) :
    Calls Tryd.prog 45 #[v, .func (.func 46) #[] #[.pointer (some ⟨a, 0, none⟩)]] w fun e w' => e = .returned (.int .i64 (idx (isId id) l 0)) ∧ Below w.heap.size w w' := by
  have HS := Aside0.mk hS
  have H := Aside0.mk h
  obtain ⟨A, c, rfl, _⟩ := own_slice hS
  clear hS h
  go_enter Tryd.func45, Tryd.ntmps45
  go_wp2_with fail
  go_loopg [8] l.length (fun gk s8 wr => ∃ i : Nat, i + gk = l.length ∧ s8 = .int .i64 i ∧ Aside0 (idx (isId id) (l.drop i) i = idx (isId id) l 0) ∧ Aside0 (Below w.heap.size w wr))
  case atStart => exact ⟨0, by omega, rfl, ⟨rfl⟩, ⟨Below.refl _ _⟩⟩
  case round =>
    obtain ⟨i, hi, rfl, HI, HB⟩ := hrel
    cases gk with
    | zero =>
      obtain rfl : i = l.length := by omega
      have hii : ¬ ((l.length : Int) < (l.length : Int)) := by omega
      go_wp2
      go_ret
      have := HI.out
      rw [List.drop_length, idx] at this
      exact ⟨by rw [← this]; rfl, HB.out⟩
    | succ gk =>
      have hii : (i : Int) < (l.length : Int) := by omega
      have hlt : i < l.length := by omega
      obtain ⟨s, hs⟩ : ∃ s, s = l[i]'hlt := ⟨_, rfl⟩
      obtain ⟨k, cap, hA, hBk, c0, c1⟩ := (HS.out.step HB.out).at i hlt
      injection hA with hA1 hA2 hA3
      subst hA1
      rw [← hs] at c0 c1
      have hdr := idx_drop (isId id) l i hlt i
      rw [← hs] at hdr
      have hF := clo_d_calls s id a wr (Lib.Below.cellOf HB.out H.out (Nat.le_refl _))
      have HDR := Aside0.mk hdr
      clear hdr hs hA2 hA3
      cases hb : isId id s with
      | true =>
        rw [hb] at hF
        have HBT := Aside0.mk hb
        clear hb
        go_wp2_with (go_at_call 46; refine hF.mono ?_; rintro e5 w5 ⟨rfl, hb5⟩; have HB5 := Aside0.mk (below_step HB.out hb5); clear hb5 hF)
        go_ret
        exact ⟨by rw [← HI.out, HDR.out]; show _ = Ending.returned (Value.int .i64 (if isId id s = true then (i : Int) else _)); rw [HBT.out]; rfl, HB5.out⟩
      | false =>
        rw [hb] at hF
        have HBT := Aside0.mk hb
        clear hb
        go_wp2_with (go_at_call 46; refine hF.mono ?_; rintro e5 w5 ⟨rfl, hb5⟩; have HB5 := Aside0.mk (below_step HB.out hb5); clear hb5 hF)
        go_roundg gk
        case measure => omega
        case rel => exact ⟨i + 1, by omega, by first | rfl | (congr 1; unfold wrap64; omega), ⟨by rw [← HI.out, HDR.out]; show _ = (if isId id s = true then (i : Int) else _); rw [HBT.out]; rfl⟩, HB5⟩

theorem clo_o_calls (s : Seg) (id : Int) (a : Nat) (w : World) (h : w.cell? ⟨a, 0, none⟩ = some (.int .i64 id)) :
    Calls Tryd.prog 62 #[.agg #[.int .i64 s.id, .int .i64 s.used], .pointer (some ⟨a, 0, none⟩)] w fun e w' => e = .returned (.bool (isId id s)) ∧ Below w.heap.size w w' := by
  have H := Aside0.mk h
  clear h
  go_enter Tryd.func62, Tryd.ntmps62
  go_wp2_with (first
    | ((with_reducible refine gate_dst (N := 2) rfl ?_); refine box_event ?hg (N := 2) ?hd (cs := #[.int .i64 s.id, .int .i64 s.used]) (t := 71) ?hr ?_; (case hd => rfl); (case hg => rfl); (case hr => first | (go_simp; done) | (go_simp; rfl)); intro g1 hg1 w1 hx1 hb1; have HB1 := Aside0.mk hb1; have c0 := (blk_cell hx1 0).trans rfl; have hp1 := Lib.Below.cellOf hb1 H.out (Nat.le_refl _); clear hx1 hb1 hg1))
  go_ret
  exact ⟨rfl, HB1.out⟩

set_option maxRecDepth 100000 in
theorem index_o_calls (B : Nat) (v : Value) (l : List Seg) (id : Int) (a : Nat) (w : World) (hS : SegsAt B w v l) (h : w.cell? ⟨a, 0, none⟩ = some (.int .i64 id)) (hlen : l.length ≤ 1000000) :
    Calls Tryd.prog 45 #[v, .func (.func 62) #[] #[.pointer (some ⟨a, 0, none⟩)]] w fun e w' => e = .returned (.int .i64 (idx (isId id) l 0)) ∧ Below w.heap.size w w' := by
  have HS := Aside0.mk hS
  have H := Aside0.mk h
  obtain ⟨A, c, rfl, _⟩ := own_slice hS
  clear hS h
  go_enter Tryd.func45, Tryd.ntmps45
  go_wp2_with fail
  go_loopg [8] l.length (fun gk s8 wr => ∃ i : Nat, i + gk = l.length ∧ s8 = .int .i64 i ∧ Aside0 (idx (isId id) (l.drop i) i = idx (isId id) l 0) ∧ Aside0 (Below w.heap.size w wr))
  case atStart => exact ⟨0, by omega, rfl, ⟨rfl⟩, ⟨Below.refl _ _⟩⟩
  case round =>
    obtain ⟨i, hi, rfl, HI, HB⟩ := hrel
    cases gk with
    | zero =>
      obtain rfl : i = l.length := by omega
      have hii : ¬ ((l.length : Int) < (l.length : Int)) := by omega
      go_wp2
      go_ret
      have := HI.out
      rw [List.drop_length, idx] at this
      exact ⟨by rw [← this]; rfl, HB.out⟩
    | succ gk =>
      have hii : (i : Int) < (l.length : Int) := by omega
      have hlt : i < l.length := by omega
      obtain ⟨s, hs⟩ : ∃ s, s = l[i]'hlt := ⟨_, rfl⟩
      obtain ⟨k, cap, hA, hBk, c0, c1⟩ := (HS.out.step HB.out).at i hlt
      injection hA with hA1 hA2 hA3
      subst hA1
      rw [← hs] at c0 c1
      have hdr := idx_drop (isId id) l i hlt i
      rw [← hs] at hdr
      have hF := clo_o_calls s id a wr (Lib.Below.cellOf HB.out H.out (Nat.le_refl _))
      have HDR := Aside0.mk hdr
      clear hdr hs hA2 hA3
      cases hb : isId id s with
      | true =>
        rw [hb] at hF
        have HBT := Aside0.mk hb
        clear hb
        go_wp2_with (go_at_call 62; refine hF.mono ?_; rintro e5 w5 ⟨rfl, hb5⟩; have HB5 := Aside0.mk (below_step HB.out hb5); clear hb5 hF)
        go_ret
        exact ⟨by rw [← HI.out, HDR.out]; show _ = Ending.returned (Value.int .i64 (if isId id s = true then (i : Int) else _)); rw [HBT.out]; rfl, HB5.out⟩
      | false =>
        rw [hb] at hF
        have HBT := Aside0.mk hb
        clear hb
        go_wp2_with (go_at_call 62; refine hF.mono ?_; rintro e5 w5 ⟨rfl, hb5⟩; have HB5 := Aside0.mk (below_step HB.out hb5); clear hb5 hF)
        go_roundg gk
        case measure => omega
        case rel => exact ⟨i + 1, by omega, by first | rfl | (congr 1; unfold wrap64; omega), ⟨by rw [← HI.out, HDR.out]; show _ = (if isId id s = true then (i : Int) else _); rw [HBT.out]; rfl⟩, HB5⟩

theorem contains_o_calls (B : Nat) (v : Value) (l : List Seg) (id : Int) (a : Nat) (r : Bool) (hr : l.any (isId id) = r) (w : World) (hS : SegsAt B w v l) (h : w.cell? ⟨a, 0, none⟩ = some (.int .i64 id)) (hlen : l.length ≤ 1000000) :
    Calls Tryd.prog 58 #[v, .func (.func 62) #[] #[.pointer (some ⟨a, 0, none⟩)]] w fun e w' => e = .returned (.bool r) ∧ Below w.heap.size w w' := by
  have HI := index_o_calls B v l id a w hS h hlen
  have HC := Aside0.mk (idx_any (isId id) l 0 (Int.le_refl _))
  obtain ⟨x, hx⟩ : ∃ x, x = idx (isId id) l 0 := ⟨_, rfl⟩
  rw [← hx] at HI HC
  rw [hr] at HC
  obtain ⟨A, c, rfl, _⟩ := own_slice hS
  clear hS h hx hr
  cases r with
  | false =>
    have hx : x = -1 := by rcases HC.out with h | h; exact h.1; exact absurd h.2 (by simp)
    subst hx
    go_enter Tryd.func58, Tryd.ntmps58
    go_wp2_with (first
      | (go_at_call 45; (with_reducible refine HI.mono ?_); rintro e5 w5 ⟨rfl, hb5⟩; have HB5 := Aside0.mk hb5; clear hb5))
    go_ret
    exact ⟨rfl, HB5.out⟩
  | true =>
    have hx : 0 ≤ x := by rcases HC.out with h | h; exact absurd h.2 (by simp); exact h.1
    go_enter Tryd.func58, Tryd.ntmps58
    go_wp2_with (first
      | (go_at_call 45; (with_reducible refine HI.mono ?_); rintro e5 w5 ⟨rfl, hb5⟩; have HB5 := Aside0.mk hb5; clear hb5))
    go_ret
    exact ⟨rfl, HB5.out⟩
end Go.Proofs.YtfiocakhgpdlfaaDoor.Sg
