/- mount: its tables in memory; the library's searches with its closures. mount: the library's other helpers at strings; appends; mount.New of good exports. mount.New of good exports. -/
import Derived.Test.YthamffpieafkbaaGreatDoorGa
import Derived.Test.YthamffpieafkbaaGreatDoorPMx2
import Derived.RegionTactic
import Derived.KernelRfl
import Derived.FnLit
import Derived.Laws.StructEq
import Derived.Lib.Hide
import Derived.Lib.SlBuf
import Derived.Laws.AppendOwn
import Derived.Deep.RegionLaw
import Derived.BigRegion
import Derived.BigGuard
namespace Go.Proofs.YthamffpieafkbaaGreatDoor.Mt
open Go.RowKit Go.Lib Go.Proofs.YthamffpieafkbaaGreatDoor.PM Go.Proofs.YthamffpieafkbaaGreatDoorW.PrintWords Go.Proofs.YthamffpieafkbaaGreatDoorW.PrintLast Go.Proofs.YthamffpieafkbaaGreatDoorW.PrintMore
set_option linter.unusedVariables false
set_option linter.unusedSimpArgs false

/-- an export -/
structure Exp where
  path : ByteArray
  handle : ByteArray
  hosts : List ByteArray
abbrev Held := S67
/-- the place of the first that a test takes -/
def idx {α : Type} (p : α → Bool) : List α → Int → Int
  | [], _ => -1
  | x :: r, i => if p x = true then i else idx p r (i + 1)
theorem idx_drop {α : Type} (p : α → Bool) (l : List α) (i : Nat) (h : i < l.length) (k : Int) : idx p (l.drop i) k = if p (l[i]'h) = true then k else idx p (l.drop (i + 1)) (k + 1) := by
  rw [List.drop_eq_getElem_cons h, idx]
theorem idx_bd {α : Type} (p : α → Bool) : ∀ (l : List α) (k : Int), 0 ≤ k → idx p l k = -1 ∨ (k ≤ idx p l k ∧ idx p l k < k + l.length)
  | [], k, h => .inl rfl
  | x :: r, k, h => by
    rw [idx, List.length_cons]
    split
    · exact .inr ⟨Int.le_refl _, by omega⟩
    · have := idx_bd p r (k + 1) (by omega)
      rcases this with h | h
      · exact .inl h
      · exact .inr ⟨by omega, by omega⟩
theorem idx_none {α : Type} (p : α → Bool) : ∀ (l : List α) (k : Int), 0 ≤ k → (l.any p = false ↔ idx p l k = -1)
  | [], k, h => by simp [idx]
  | x :: r, k, h => by
    rw [idx, List.any_cons]
    split
    · rename_i hx; rw [hx]; simp; omega
    · rename_i hx
      have : p x = false := by simpa using hx
      rw [this, Bool.false_or]; exact idx_none p r (k + 1) (by omega)

/-- a slice of strings that reads as a list, its block known -/
def StrsAt (w : World) (v : Value) (hs : List ByteArray) : Prop :=
  ∃ A c, v = .slice A hs.length c ∧ hs.length ≤ c ∧ (hs ≠ [] → ∃ k off fr row, A = some ⟨k, off, none⟩ ∧ w.heap[k]? = some (.cells row 9 fr) ∧ ∀ i s, hs[i]? = some s → row[off + i]? = some (.string s))
def flatE : List Exp → List Value → List Value
  | [], _ => []
  | _ :: _, [] => []
  | e :: r, v :: vs => .string e.path :: .string e.handle :: v :: flatE r vs
def flatM : List Held → List Value
  | [] => []
  | h :: r => .string h.f0 :: .string h.f1 :: flatM r
theorem flatE_length : ∀ (E : List Exp) (vs : List Value), vs.length = E.length → (flatE E vs).length = E.length * 3
  | [], _, _ => rfl
  | _ :: _, [], h => by simp at h
  | e :: r, v :: vs, h => by
    have := flatE_length r vs (by simpa using h)
    simp only [flatE, List.length_cons, this]; omega
theorem flatM_length : ∀ (M : List Held), (flatM M).length = M.length * 2
  | [] => rfl
  | h :: r => by simp only [flatM, List.length_cons, flatM_length r]; omega
theorem flatE_at : ∀ (E : List Exp) (vs : List Value) (i : Nat) (e : Exp) (v : Value), E[i]? = some e → vs[i]? = some v → (flatE E vs)[i * 3]? = some (.string e.path) ∧ (flatE E vs)[i * 3 + 1]? = some (.string e.handle) ∧ (flatE E vs)[i * 3 + 2]? = some v
  | [], _, i, _, _, h, _ => by simp at h
  | _ :: _, [], i, _, _, _, h => by simp at h
  | x :: r, y :: vs, 0, e, v, h, hv => by
    simp at h hv
    subst h; subst hv
    exact ⟨rfl, rfl, rfl⟩
  | x :: r, y :: vs, i + 1, e, v, h, hv => by
    have ih := flatE_at r vs i e v (by simpa using h) (by simpa using hv)
    have e1 : (i + 1) * 3 = i * 3 + 1 + 1 + 1 := by omega
    rw [e1]
    exact ih
theorem flatM_at : ∀ (M : List Held) (i : Nat) (h : Held), M[i]? = some h → (flatM M)[i * 2]? = some (.string h.f0) ∧ (flatM M)[i * 2 + 1]? = some (.string h.f1)
  | [], i, _, h => by simp at h
  | x :: r, 0, e, h => by
    simp at h
    subst h
    exact ⟨rfl, rfl⟩
  | x :: r, i + 1, e, h => by
    have ih := flatM_at r i e (by simpa using h)
    have e1 : (i + 1) * 2 = i * 2 + 1 + 1 := by omega
    rw [e1]
    exact ih
theorem flatM_app (M K : List Held) : flatM (M ++ K) = flatM M ++ flatM K := by
  induction M with
  | nil => rfl
  | cons x r ih => simp [flatM, ih]
theorem flatE_app : ∀ (E : List Exp) (vs : List Value) (e : Exp) (v : Value), vs.length = E.length → flatE (E ++ [e]) (vs ++ [v]) = flatE E vs ++ [.string e.path, .string e.handle, v]
  | [], [], e, v, _ => rfl
  | [], _ :: _, _, _, h => by simp at h
  | _ :: _, [], _, _, h => by simp at h
  | x :: r, y :: vs, e, v, h => by
    have := flatE_app r vs e v (by simpa using h)
    simp [flatE, this]

/-- the exports of a table -/
def ExpsAt (w : World) (B : Nat) (vE : Value) (E : List Exp) : Prop :=
  ∃ vs : List Value, vs.length = E.length ∧ w.ownsRow B 30 3 vE E.length (flatE E vs) ∧ ∀ (i : Nat) e v, E[i]? = some e → vs[i]? = some v → StrsAt w v e.hosts

theorem row_at {w : World} {B e n sz : Nat} {v : Value} {xs : List Value} (h : w.ownsRow B e sz v n xs) (hpos : 0 < n) : ∃ k cap row, v = .slice (some ⟨k, 0, none⟩) n cap ∧ n ≤ cap ∧ B ≤ k ∧ w.heap[k]? = some (.cells row e (0, 0)) ∧ ∀ (i : Nat) (x : Value), xs[i]? = some x → row[i]? = some x := by
  obtain ⟨h1, h2⟩ := h
  rcases h2 with ⟨_, h3⟩ | ⟨k, cap, row, rfl, hk, hr, hn, hm, hs, ht⟩
  · omega
  · refine ⟨k, cap, row, rfl, hn, hk, hr, fun i x hx => ?_⟩
    have hi : i < xs.length := (List.getElem?_eq_some_iff.1 hx).1
    rw [← ht, List.getElem?_take, if_pos (by omega), Array.getElem?_toList] at hx
    exact hx
theorem own_slice {w : World} {B e n sz : Nat} {v : Value} {xs : List Value} (h : w.ownsRow B e sz v n xs) : ∃ A cap, v = .slice A n cap ∧ n ≤ cap := by
  obtain ⟨_, h2⟩ := h
  rcases h2 with ⟨h2, h3⟩ | ⟨k, cap, row, e2, _, _, hn, _⟩
  · exact ⟨none, 0, by rw [h2, h3], by omega⟩
  · exact ⟨_, cap, e2, hn⟩
theorem ExpsAt.at {w : World} {B : Nat} {vE : Value} {E : List Exp} (h : ExpsAt w B vE E) (i : Nat) (e : Exp) (he : E[i]? = some e) : ∃ k cap v, vE = .slice (some ⟨k, 0, none⟩) E.length cap ∧ w.cell? ⟨k, i * 3, none⟩ = some (.string e.path) ∧ w.cell? ⟨k, i * 3 + 1, none⟩ = some (.string e.handle) ∧ w.cell? ⟨k, i * 3 + 2, none⟩ = some v ∧ StrsAt w v e.hosts := by
  obtain ⟨vs, h1, h2, h3⟩ := h
  have hi : i < E.length := (List.getElem?_eq_some_iff.1 he).1
  obtain ⟨k, cap, row, rfl, hn, hB, hr, hx⟩ := row_at h2 (by omega)
  have hv := List.getElem?_eq_getElem (l := vs) (i := i) (by omega)
  obtain ⟨a1, a2, a3⟩ := flatE_at E vs i e _ he hv
  exact ⟨k, cap, _, rfl, (blk_cell hr _).trans (hx _ _ a1), (blk_cell hr _).trans (hx _ _ a2), (blk_cell hr _).trans (hx _ _ a3), h3 i e _ he hv⟩

/-- all blocks stay but those of tables and mounts; and what lies below B -/
structure FrM (B : Nat) (w w' : World) : Prop where
  bel : Below B w w'
  frm : ∀ (k : Nat) (cs : Array Value) (t' : TypeId) (f : Nat × Nat), w.heap[k]? = some (.cells cs t' f) → t' ≠ 60 → t' ≠ 67 → w'.heap[k]? = some (.cells cs t' f)
theorem FrM.refl (B : Nat) (w : World) : FrM B w w := ⟨Below.refl B w, fun _ _ _ _ h _ _ => h⟩
theorem FrM.trans {B : Nat} {a b c : World} (h : FrM B a b) (k : FrM B b c) : FrM B a c := ⟨h.bel.trans k.bel, fun i cs t' f h1 h2 h3 => k.frm i cs t' f (h.frm i cs t' f h1 h2 h3) h2 h3⟩
theorem FrM.of {B : Nat} {w w' : World} (h : Below w.heap.size w w') (hB : B ≤ w.heap.size) : FrM B w w' := ⟨h.mono hB, fun _ _ _ _ h1 _ _ => Lb.blk_below h1 h⟩

theorem StrsAt.keep {w w' : World} {v : Value} {hs : List ByteArray} (h : StrsAt w v hs) (hk : ∀ (k : Nat) (cs : Array Value) (f : Nat × Nat), w.heap[k]? = some (.cells cs 9 f) → w'.heap[k]? = some (.cells cs 9 f)) : StrsAt w' v hs := by
  obtain ⟨A, c, e, hc, h2⟩ := h
  refine ⟨A, c, e, hc, fun hne => ?_⟩
  obtain ⟨k, off, fr, row, e2, hr, hx⟩ := h2 hne
  exact ⟨k, off, fr, row, e2, hk _ _ _ hr, hx⟩
theorem own_keep {w w' : World} {B e n sz : Nat} {v : Value} {xs : List Value} (ho : w.ownsRow B e sz v n xs) (hk : ∀ (k : Nat) (cs : Array Value) (f : Nat × Nat), w.heap[k]? = some (.cells cs e f) → w'.heap[k]? = some (.cells cs e f)) : w'.ownsRow B e sz v n xs := by
  obtain ⟨h1, h2⟩ := ho
  refine ⟨h1, ?_⟩
  rcases h2 with h2 | ⟨k, cap, row, e2, hge, hr, rest⟩
  · exact .inl h2
  · exact .inr ⟨k, cap, row, e2, hge, hk _ _ _ hr, rest⟩
theorem ExpsAt.keep {w w' : World} {B : Nat} {vE : Value} {E : List Exp} (h : ExpsAt w B vE E) (hk : ∀ (k : Nat) (cs : Array Value) (t' : TypeId) (f : Nat × Nat), w.heap[k]? = some (.cells cs t' f) → t' ≠ 60 → t' ≠ 67 → w'.heap[k]? = some (.cells cs t' f)) : ExpsAt w' B vE E := by
  obtain ⟨vs, h1, h2, h3⟩ := h
  exact ⟨vs, h1, own_keep h2 (fun k cs f hr => hk k cs _ f hr (by decide) (by decide)), fun i e v he hv => (h3 i e v he hv).keep (fun k cs f hr => hk k cs _ f hr (by decide) (by decide))⟩

/-- a table -/
structure MT (B : Nat) (w : World) (g : Nat) (E : List Exp) (M : List Held) : Prop where
  ex : ∃ vE vM, w.heap[g]? = some (.cells #[vE, vM] 60 (0, 0)) ∧ ExpsAt w B vE E ∧ w.ownsRow B 67 2 vM M.length (flatM M)
  ge : B ≤ g
theorem MT.step {B : Nat} {w w' : World} {g : Nat} {E : List Exp} {M : List Held} (h : MT B w g E M) (hb : Below w.heap.size w w') : MT B w' g E M := by
  obtain ⟨vE, vM, h1, h2, h3⟩ := h.ex
  exact ⟨⟨vE, vM, Lb.blk_below h1 hb, h2.keep (fun k cs t' f hr _ _ => Lb.blk_below hr hb), own_keep h3 (fun k cs f hr => Lb.blk_below hr hb)⟩, h.ge⟩
theorem MT.lt {B : Nat} {w : World} {g : Nat} {E : List Exp} {M : List Held} (h : MT B w g E M) : B ≤ w.heap.size := by
  obtain ⟨vE, vM, h1, h2, h3⟩ := h.ex
  have := blk_lt h1; have := h.ge; omega

theorem long_calls (s : ByteArray) (w : World) : Calls Tryz.prog 16 #[.string s] w fun e w' => e = .returned (.bool (decide (255 < s.size))) ∧ w' = w := by
  have hd : decide ((255 : Int) < (s.size : Int)) = decide (255 < s.size) := decide_eq_decide.2 (by omega)
  go_enter Tryz.func16, Tryz.ntmps16
  go_wp2
  go_ret
  exact ⟨rfl, rfl⟩

theorem find1_calls (p h : ByteArray) (v : Value) (path : ByteArray) (a : Nat) (w : World) (hp : w.cell? ⟨a, 0, none⟩ = some (.string path)) :
    Calls Tryz.prog 36 #[.agg #[.string p, .string h, v], .pointer (some ⟨a, 0, none⟩)] w fun e w' => e = .returned (.bool (p.toList == path.toList)) ∧ Below w.heap.size w w' := by
  have HP := Aside0.mk hp
  clear hp
  go_enter Tryz.func36, Tryz.ntmps36
  go_wp2_with (first
    | ((with_reducible refine gate_dst (N := 2) rfl ?_); refine box_event ?hg (N := 2) ?hd (cs := #[.string p, .string h, v]) (t := 30) ?hr ?_; (case hd => rfl); (case hg => rfl); (case hr => first | (go_simp; done) | (go_simp; rfl)); intro g1 hg1 w1 hx1 hb1; have HB1 := Aside0.mk hb1; have c0 := (blk_cell hx1 0).trans rfl; have hp1 := Lib.Below.cellOf hb1 HP.out (Nat.le_refl _); clear hx1 hb1 hg1))
  go_ret
  exact ⟨rfl, HB1.out⟩

theorem indexE_calls (B : Nat) (vE : Value) (E : List Exp) (path : ByteArray) (a : Nat) (w : World) (hE : ExpsAt w B vE E) (hp : w.cell? ⟨a, 0, none⟩ = some (.string path)) (hlen : E.length ≤ 1000000) :
    Calls Tryz.prog 35 #[vE, .func (.func 36) #[] #[.pointer (some ⟨a, 0, none⟩)]] w fun e w' => e = .returned (.int .i64 (idx (fun x : Exp => x.path.toList == path.toList) E 0)) ∧ Below w.heap.size w w' := by
  have HE := Aside0.mk hE
  have HP := Aside0.mk hp
  obtain ⟨A, c, rfl, _⟩ : ∃ A c, vE = .slice A E.length c ∧ E.length ≤ c := by
    obtain ⟨vs, h1, h2, h3⟩ := hE
    exact own_slice h2
  clear hE hp
  go_enter Tryz.func35, Tryz.ntmps35
  go_wp2_with fail
  go_loopg [8] E.length (fun gk s8 wr => ∃ i : Nat, i + gk = E.length ∧ s8 = .int .i64 i ∧ Aside0 (idx (fun x : Exp => x.path.toList == path.toList) (E.drop i) i = idx (fun x : Exp => x.path.toList == path.toList) E 0) ∧ Aside0 (Below w.heap.size w wr))
  case atStart => exact ⟨0, by omega, rfl, ⟨rfl⟩, ⟨Below.refl _ _⟩⟩
  case round =>
    obtain ⟨i, hi, rfl, HI, HB⟩ := hrel
    cases gk with
    | zero =>
      obtain rfl : i = E.length := by omega
      have hii : ¬ ((E.length : Int) < (E.length : Int)) := by omega
      go_wp2
      go_ret
      have := HI.out
      rw [List.drop_length, idx] at this
      exact ⟨by rw [← this]; rfl, HB.out⟩
    | succ gk =>
      have hii : (i : Int) < (E.length : Int) := by omega
      have hlt : i < E.length := by omega
      obtain ⟨e, he⟩ : ∃ e, e = E[i]'hlt := ⟨_, rfl⟩
      obtain ⟨k, cap, v, hA, c0, c1, c2, hst⟩ := HE.out.at i e (by rw [he]; exact List.getElem?_eq_getElem hlt)
      injection hA with hA1 hA2 hA3
      subst hA1
      replace c0 := Lib.Below.cellOf HB.out c0 (Nat.le_refl _)
      replace c1 := Lib.Below.cellOf HB.out c1 (Nat.le_refl _)
      replace c2 := Lib.Below.cellOf HB.out c2 (Nat.le_refl _)
      have hdr := idx_drop (fun x : Exp => x.path.toList == path.toList) E i hlt i
      rw [← he] at hdr
      have hF := find1_calls e.path e.handle v path a wr (Lib.Below.cellOf HB.out HP.out (Nat.le_refl _))
      have HDR := Aside0.mk hdr
      clear hdr hst he hA2 hA3
      cases hb : (e.path.toList == path.toList) with
      | true =>
        rw [hb] at hF
        have HBT := Aside0.mk hb
        clear hb
        go_wp2_with (go_at_call 36; refine hF.mono ?_; rintro e5 w5 ⟨rfl, hb5⟩; have HB5 := Aside0.mk (below_step HB.out hb5); clear hb5 hF)
        go_ret
        exact ⟨by rw [← HI.out, HDR.out]; show _ = Ending.returned (Value.int .i64 (if (e.path.toList == path.toList) = true then (i : Int) else _)); rw [HBT.out]; rfl, HB5.out⟩
      | false =>
        rw [hb] at hF
        have HBT := Aside0.mk hb
        clear hb
        go_wp2_with (go_at_call 36; refine hF.mono ?_; rintro e5 w5 ⟨rfl, hb5⟩; have HB5 := Aside0.mk (below_step HB.out hb5); clear hb5 hF)
        go_roundg gk
        case measure => omega
        case rel => exact ⟨i + 1, by omega, by first | rfl | (congr 1; unfold wrap64; omega), ⟨by rw [← HI.out, HDR.out]; show _ = (if (e.path.toList == path.toList) = true then (i : Int) else _); rw [HBT.out]; rfl⟩, HB5⟩

theorem find_calls (B g : Nat) (E : List Exp) (M : List Held) (path : ByteArray) (w : World) (h : MT B w g E M) (hlen : E.length ≤ 1000000) :
    Calls Tryz.prog 18 #[.pointer (some ⟨g, 0, none⟩), .string path] w fun e w' => e = .returned (.int .i64 (idx (fun x : Exp => x.path.toList == path.toList) E 0)) ∧ Below w.heap.size w w' := by
  obtain ⟨vE, vM, k1, k2, k3⟩ := h.ex
  have K1 := Aside0.mk k1
  have K2 := Aside0.mk k2
  have hmf : ∀ (fn : Fn) (first cap : Array Value) (w : World), (Instr.makeFunc fn first cap).run Tryz.prog w = .ok (.func fn first cap) w := fun _ _ _ _ => rfl
  clear k1 k2 k3 h
  go_enter Tryz.func18, Tryz.ntmps18
  go_wp2_with (first
    | ((with_reducible refine gate_dst (N := 3) rfl ?_); refine box_event ?hg (N := 3) ?hd (cs := #[.string path]) (t := 9) ?hr ?_; (case hd => rfl); (case hg => rfl); (case hr => first | (go_simp; done) | (go_simp; rfl)); intro g1 hg1 w1 hx1 hb1; have HB1 := Aside0.mk hb1; have c0 := (blk_cell (Lb.blk_below K1.out hb1) 0).trans rfl; have HX1 := Aside0.mk ((blk_cell hx1 0).trans rfl); have HE1 := Aside0.mk (K2.out.keep (fun k cs t' f hr _ _ => Lb.blk_below hr hb1)); clear hx1 hb1 hg1)
    | (go_at_call 35; refine (indexE_calls B vE E path g1 w1 HE1.out HX1.out hlen).mono ?_; rintro e w2 ⟨rfl, hb⟩; have HB2 := Aside0.mk (below_step HB1.out hb); clear hb c0))
  go_ret
  exact ⟨rfl, HB2.out⟩
end Go.Proofs.YthamffpieafkbaaGreatDoor.Mt

namespace Go.Proofs.YthamffpieafkbaaGreatDoor.Mt
open Go.RowKit Go.Lib Go.Proofs.YthamffpieafkbaaGreatDoor.PM Go.Proofs.YthamffpieafkbaaGreatDoorW.PrintWords Go.Proofs.YthamffpieafkbaaGreatDoorW.PrintLast Go.Proofs.YthamffpieafkbaaGreatDoorW.PrintMore
set_option linter.unusedVariables false
set_option linter.unusedSimpArgs false

/-- a world with one block more -/
structure NewBlk (w W : World) (g : Nat) (cs : Array Value) (t : TypeId) : Prop where
  blk : W.heap[g]? = some (.cells cs t (0, 0))
  bel : Below w.heap.size w W
theorem draw1 (w : World) (cs : Array Value) (t : TypeId) : NewBlk w (w.drew.alloc (.cells cs t)) w.heap.size cs t := ⟨blk_new w.drew _, Lb.drew_below (below_alloc (Below.refl _ _) _)⟩
theorem draw2 (w : World) (cs : Array Value) (t : TypeId) : NewBlk w ((w.alloc (.cells cs t)).drew) w.heap.size cs t := ⟨blk_new w _, ⟨rfl, rfl, rfl, by simp, fun k hk => heap_alloc_old w _ hk⟩⟩

theorem types_of_grown {w w' : World} {B n e sz : Nat} {v : Value} {xs : List Value} (ho : w.ownsRow B e sz v n xs) (h : w.grownBy w' v.ownBlock) : ∀ (k : Nat) (cs : Array Value) (t' : TypeId) (f : Nat × Nat), t' ≠ e → w.heap[k]? = some (.cells cs t' f) → w'.heap[k]? = some (.cells cs t' f) := fun k cs t' f hne hk => by
  refine blk_grown hk h (fun e3 => ?_)
  obtain ⟨_, h2⟩ := ho
  rcases h2 with ⟨h2, _⟩ | ⟨q, cap, row, e2, hq, hr, _⟩
  · rw [h2] at e3; cases e3
  · rw [e2] at e3
    injection e3 with e3
    have e' : k = q := e3
    rw [← e', hk] at hr
    injection hr with hr
    injection hr with _ e4 _
    exact hne e4
theorem below_of_grown {B : Nat} {w0 w w' : World} {e n sz : Nat} {v : Value} {xs : List Value} (ho : w.ownsRow B e sz v n xs) (hb : Below B w0 w) (hB : B ≤ w.heap.size) (hg : w.grownBy w' v.ownBlock) : Below B w0 w' := by
  refine hb.grown hg hB (fun k hk => ?_)
  obtain ⟨_, h2⟩ := ho
  rcases h2 with ⟨h2, _⟩ | ⟨g, cap, row, e2, hge, _⟩
  · rw [h2] at hk; cases hk
  · rw [e2] at hk; injection hk with hk; have : g = k := hk; omega
theorem types_blk {w w' : World} {g : Nat} {cur : Array Value} {t : TypeId} {fr : Nat × Nat} (hb : w.heap[g]? = some (.cells cur t fr)) (h : w.grownBy w' (some g)) : ∀ (k : Nat) (cs : Array Value) (t' : TypeId) (f : Nat × Nat), t' ≠ t → w.heap[k]? = some (.cells cs t' f) → w'.heap[k]? = some (.cells cs t' f) := fun k cs t' f hne hk => by
  refine Lb.blk_grown' hk h (fun e => ?_)
  rw [e, hb] at hk
  injection hk with hk
  injection hk with _ e2 _
  exact hne e2.symm

/-- what an append of a row's cells to a slice of the call's own leaves -/
structure App (w0 w' : World) (B e sz : Nat) (v' : Value) (n : Nat) (xs : List Value) : Prop where
  own : w'.ownsRow B e sz v' n xs
  keep : ∀ (k : Nat) (cs : Array Value) (t' : TypeId) (f : Nat × Nat), t' ≠ e → w0.heap[k]? = some (.cells cs t' f) → w'.heap[k]? = some (.cells cs t' f)
  bel : Below B w0 w'
  size : w0.heap.size ≤ w'.heap.size

section
variable {ops : Array Oper} {rest : List Oper} {o : Oper} {a : Act} {Q : Exit → Act → World → Prop} {K : Act → World → Prop} {E' : Prop}
theorem app_of {w0 W w' : World} {g0 B e sz n m : Nat} {cs : Array Value} {te : TypeId} {v v' : Value} {xs ys : List Value} (hNB : NewBlk w0 W g0 cs te) (hown : w0.ownsRow B e sz v n xs) (hB : B ≤ w0.heap.size)
    (ho : W.ownsRow B e sz v n xs → (w'.ownsRow B e sz v' m ys ∧ W.grownBy w' v.ownBlock)) : App w0 w' B e sz v' m ys := by
  have hW := own_keep hown (fun k cs f hr => Lb.blk_below hr hNB.bel)
  obtain ⟨h1, h2⟩ := ho hW
  exact ⟨h1, fun k cs t' f hne hk => types_of_grown hW h2 k cs t' f hne (Lb.blk_below hk hNB.bel), below_of_grown hW (hNB.bel.mono hB) (Nat.le_trans hB hNB.bel.size) h2, Nat.le_trans hNB.bel.size h2.size⟩
/-- append of the cells of a block just made, m elements -/
theorem app_event {w0 W : World} {g0 : Nat} (hgd : o.guard = none) (s x : Operand) (ts e : TypeId) (z : Value) (sz nb : Nat) (ho : o.op = .call { callee := .builtin .append, args := #[s, x], argTypes := #[ts, ts] })
    (hu : Tryz.prog.underlying ts = some (.slice e)) (hinfo : ((Tryz.prog).info? e).map (fun i => (i.zero, i.size, i.bytes)) = some (some z, sz, nb)) (hz : z.cells.size = sz) (hsz : 0 < sz) (hnb : nb ≤ 64) {B n m : Nat} {v : Value} {xs news : List Value}
    (hs : a.eval s = v) (hown : w0.ownsRow B e sz v n xs) (hNB : NewBlk w0 W g0 news.toArray e) (hx : a.eval x = .slice (some ⟨g0, 0, none⟩) m m) (hl : news.length = m * sz) (h1 : ∀ u ∈ news, u.oneCell' = true) (hB : B ≤ w0.heap.size) (hlen : n + m ≤ 1000000000)
    (h : ∀ v' w', App w0 w' B e sz v' (n + m) (xs ++ news) → wpList Tryz.prog ops Q rest (a.put o.dst v') w') : wpList Tryz.prog ops Q (o :: rest) a W := by
  obtain ⟨i, hi, hzz⟩ := Option.map_eq_some_iff.1 hinfo
  simp only [Prod.mk.injEq] at hzz
  have hW := own_keep hown (fun k cs f hr => Lb.blk_below hr hNB.bel)
  refine wpList_append_own W hgd s x ts ho B e i z sz nb hu hi hzz.1 hzz.2.1 hzz.2.2 hz hsz v n xs hs hW ⟨g0, 0, none⟩ m m news hx hl ?_ h1 (by unfold maxLen; omega) (Nat.le_trans (Nat.mul_le_mul hlen hnb) (by omega)) (Nat.le_trans hB hNB.bel.size) ?_
  · intro j u hj
    have e2 : (⟨g0, 0, none⟩ : Addr).add j = ⟨g0, j, none⟩ := by unfold Addr.add; split <;> simp_all
    rw [e2, blk_cell hNB.blk j]
    simpa using hj
  · intro v' w' ho' hg _
    exact h v' w' (app_of hNB hown hB (fun _ => ⟨ho', hg⟩))
/-- the same as a step of a region that draws -/
theorem app_step {w0 W : World} {g0 : Nat} (hgd : o.guard = none) (s x : Operand) (ts e : TypeId) (z : Value) (sz nb : Nat) (ho : o.op = .call { callee := .builtin .append, args := #[s, x], argTypes := #[ts, ts] })
    (hu : Tryz.prog.underlying ts = some (.slice e)) (hinfo : ((Tryz.prog).info? e).map (fun i => (i.zero, i.size, i.bytes)) = some (some z, sz, nb)) (hz : z.cells.size = sz) (hsz : 0 < sz) (hnb : nb ≤ 64) {B n m : Nat} {v : Value} {xs news : List Value}
    (hs : a.eval s = v) (hown : w0.ownsRow B e sz v n xs) (hNB : NewBlk w0 W g0 news.toArray e) (hx : a.eval x = .slice (some ⟨g0, 0, none⟩) m m) (hl : news.length = m * sz) (h1 : ∀ u ∈ news, u.oneCell' = true) (hB : B ≤ w0.heap.size) (hlen : n + m ≤ 1000000000)
    (h : ∀ v' w', App w0 w' B e sz v' (n + m) (xs ++ news) → K (a.put o.dst v') w') : if Region.wanted o (yielded ops a.tmps) = true then Oper.wp Tryz.prog o a W K Q else E' := by
  rw [if_pos (show Region.wanted o (yielded ops a.tmps) = true by simp [Region.wanted, hgd])]
  obtain ⟨i, hi, hzz⟩ := Option.map_eq_some_iff.1 hinfo
  simp only [Prod.mk.injEq] at hzz
  have hW := own_keep hown (fun k cs f hr => Lb.blk_below hr hNB.bel)
  refine wp_append_own W s x ts ho B e i z sz nb hu hi hzz.1 hzz.2.1 hzz.2.2 hz hsz v n xs hs hW ⟨g0, 0, none⟩ m m news hx hl ?_ h1 (by unfold maxLen; omega) (Nat.le_trans (Nat.mul_le_mul hlen hnb) (by omega)) (Nat.le_trans hB hNB.bel.size) ?_
  · intro j u hj
    have e2 : (⟨g0, 0, none⟩ : Addr).add j = ⟨g0, j, none⟩ := by unfold Addr.add; split <;> simp_all
    rw [e2, blk_cell hNB.blk j]
    simpa using hj
  · intro v' w' ho' hg _
    exact h v' w' (app_of hNB hown hB (fun _ => ⟨ho', hg⟩))
end
theorem exp_info : ((Tryz.prog).info? 30).map (fun i => (i.zero, i.size, i.bytes)) = some (some (.agg #[.string ⟨#[]⟩, .string ⟨#[]⟩, .slice none 0 0]), 3, 56) := by kernel_rfl
theorem held_info : ((Tryz.prog).info? 67).map (fun i => (i.zero, i.size, i.bytes)) = some (some (.agg #[.string ⟨#[]⟩, .string ⟨#[]⟩]), 2, 32) := by kernel_rfl
theorem str_info : ((Tryz.prog).info? 9).map (fun i => (i.zero, i.size, i.bytes)) = some (some (.string ⟨#[]⟩), 1, 16) := by kernel_rfl

def longS (s : ByteArray) : Bool := decide (255 < s.size)
theorem indexS_calls (v : Value) (hs : List ByteArray) (w : World) (hS : StrsAt w v hs) (hlen : hs.length ≤ 100000000000) :
    Calls Tryz.prog 34 #[v, .func (.func 16) #[] #[]] w fun e w' => e = .returned (.int .i64 (idx longS hs 0)) ∧ Below w.heap.size w w' := by
  have HS := Aside0.mk hS
  obtain ⟨A, c, rfl, hc, hrow⟩ := hS
  have HR := Aside0.mk hrow
  clear hrow
  go_enter Tryz.func34, Tryz.ntmps34
  go_wp2_with fail
  go_loopg [8] hs.length (fun gk s8 wr => ∃ i : Nat, i + gk = hs.length ∧ s8 = .int .i64 i ∧ Aside0 (idx longS (hs.drop i) i = idx longS hs 0) ∧ Aside0 (Below w.heap.size w wr))
  case atStart => exact ⟨0, by omega, rfl, ⟨rfl⟩, ⟨Below.refl _ _⟩⟩
  case round =>
    obtain ⟨i, hi, rfl, HI, HB⟩ := hrel
    cases gk with
    | zero =>
      obtain rfl : i = hs.length := by omega
      have hii : ¬ ((hs.length : Int) < (hs.length : Int)) := by omega
      go_wp2
      go_ret
      have := HI.out
      rw [List.drop_length, idx] at this
      exact ⟨by rw [← this]; rfl, HB.out⟩
    | succ gk =>
      have hii : (i : Int) < (hs.length : Int) := by omega
      have hlt : i < hs.length := by omega
      obtain ⟨x, hx⟩ : ∃ x, x = hs[i]'hlt := ⟨_, rfl⟩
      obtain ⟨k, off, fr, row, rfl, hr, hxs⟩ := HR.out (by intro e; rw [e] at hlt; simp at hlt)
      have c0 : wr.cell? ⟨k, off + i, none⟩ = some (.string x) := by
        refine Lib.Below.cellOf HB.out ?_ (Nat.le_refl _)
        have := hxs i x (by rw [hx]; exact List.getElem?_eq_getElem hlt)
        simp [World.cell?, hr, this]
      have hdr := idx_drop longS hs i hlt i
      rw [← hx] at hdr
      have hF := long_calls x wr
      have HDR := Aside0.mk hdr
      clear hdr hx hxs hr
      cases hb : longS x with
      | true =>
        have hb' : decide (255 < x.size) = true := hb
        rw [hb'] at hF
        have HBT := Aside0.mk hb
        clear hb hb'
        go_wp2_with (go_at_call 16; refine hF.mono ?_; rintro e5 w5 ⟨rfl, rfl⟩; clear hF)
        go_ret
        exact ⟨by rw [← HI.out, HDR.out, HBT.out]; rfl, HB.out⟩
      | false =>
        have hb' : decide (255 < x.size) = false := hb
        rw [hb'] at hF
        have HBT := Aside0.mk hb
        clear hb hb'
        go_wp2_with (go_at_call 16; refine hF.mono ?_; rintro e5 w5 ⟨rfl, rfl⟩; clear hF)
        go_roundg gk
        case measure => omega
        case rel => exact ⟨i + 1, by omega, by first | rfl | (congr 1; unfold wrap64; omega), ⟨by rw [← HI.out, HDR.out, HBT.out]; rfl⟩, HB⟩

theorem short_calls (v : Value) (hs : List ByteArray) (w : World) (hS : StrsAt w v hs) (hlen : hs.length ≤ 100000000000) (hg : hs.any longS = false) :
    Calls Tryz.prog 17 #[v, .func (.func 16) #[] #[]] w fun e w' => e = .returned (.bool false) ∧ Below w.heap.size w w' := by
  have hI := indexS_calls v hs w hS hlen
  rw [(idx_none longS hs 0 (by omega)).1 hg] at hI
  clear hg hS
  go_enter Tryz.func17, Tryz.ntmps17
  go_wp2_with (go_at_call 34; refine hI.mono ?_; rintro e5 w5 ⟨rfl, hb⟩; have HB := Aside0.mk hb; clear hI hb)
  go_ret
  exact ⟨rfl, HB.out⟩

structure CloneRes (w : World) (hs : List ByteArray) (e : Ending) (w' : World) : Prop where
  ex : ∃ v', e = .returned v' ∧ v'.cells = #[v'] ∧ v'.oneCell' = true ∧ StrsAt w' v' hs
  bel : Below w.heap.size w w'
theorem nil_eq1 (c : Nat) (w : World) : (binOp .eql 27 (.slice none 0 c) (.slice none 0 0)).run Tryz.prog w = .ok (.bool true) w := by kernel_rfl
theorem nil_eq2 (ad : Addr) (n c : Nat) (w : World) : (binOp .eql 27 (.slice (some ad) n c) (.slice none 0 0)).run Tryz.prog w = .ok (.bool false) w := by kernel_rfl
theorem own_strs {w : World} {B : Nat} {v : Value} {hs : List ByteArray} (h : w.ownsRow B 9 1 v hs.length (hs.map Value.string)) : StrsAt w v hs := by
  obtain ⟨h1, h2⟩ := h
  rcases h2 with ⟨h2, h3⟩ | ⟨k, cap, row, rfl, hk, hr, hn, hm, hs', ht⟩
  · refine ⟨none, 0, by rw [h2, h3], by omega, fun hne => absurd (List.eq_nil_of_length_eq_zero h3) hne⟩
  · refine ⟨_, cap, rfl, hn, fun _ => ⟨k, 0, (0, 0), row, rfl, hr, fun i s hi => ?_⟩⟩
    have hlt : i < hs.length := (List.getElem?_eq_some_iff.1 hi).1
    have h3 : (row.toList.take (hs.length * 1))[i]? = (hs.map Value.string)[i]? := by rw [ht]
    rw [List.getElem?_take, if_pos (by omega), List.getElem?_map, hi, Array.getElem?_toList] at h3
    rw [Nat.zero_add]; exact h3
theorem own_cell1 {w : World} {B e n sz : Nat} {v : Value} {xs : List Value} (h : w.ownsRow B e sz v n xs) : v.cells = #[v] ∧ v.oneCell' = true := by
  obtain ⟨_, h2⟩ := h
  rcases h2 with ⟨rfl, _⟩ | ⟨k, cap, row, rfl, _⟩
  · exact ⟨rfl, rfl⟩
  · exact ⟨rfl, rfl⟩

theorem strs_cells {w w' : World} {hs : List ByteArray} {ad : Addr} (hb : Below w.heap.size w w') (h : hs ≠ [] → ∃ k off fr row, some ad = some ⟨k, off, none⟩ ∧ w.heap[k]? = some (.cells row 9 fr) ∧ ∀ (i : Nat) s, hs[i]? = some s → row[off + i]? = some (.string s)) : ∀ (j : Nat) u, (hs.map Value.string)[j]? = some u → w'.cell? (ad.add j) = some u := fun j u hj => by
  rw [List.getElem?_map] at hj
  obtain ⟨s, hs1, rfl⟩ := Option.map_eq_some_iff.1 hj
  obtain ⟨k, off, fr, row, e, hr, hx⟩ := h (by intro e; rw [e] at hs1; simp at hs1)
  injection e with e
  subst e
  refine Lib.Below.cellOf hb ?_ (Nat.le_refl _)
  have e2 : (⟨k, off, none⟩ : Addr).add j = ⟨k, off + j, none⟩ := by unfold Addr.add; split <;> simp_all
  rw [e2]
  simp [World.cell?, hr, hx j s hs1]

set_option maxRecDepth 100000 in
theorem clone_calls (v : Value) (hs : List ByteArray) (w : World) (hS : StrsAt w v hs) (hlen : hs.length ≤ 100000000) :
    Calls Tryz.prog 19 #[v] w fun e w' => CloneRes w hs e w' := by
  obtain ⟨A, c, rfl, hc, hrow⟩ := hS
  have HR := Aside0.mk hrow
  have HLEN := Aside0.mk hlen
  have HC := Aside0.mk hc
  clear hrow hlen hc
  cases A with
  | none =>
    have hnil : hs = [] := by
      by_cases h : hs = []
      · exact h
      · obtain ⟨k, off, fr, row, e, _⟩ := HR.out h
        cases e
    subst hnil
    have hq := nil_eq1 c
    go_enter Tryz.func19, Tryz.ntmps19
    go_wp2
    go_ret
    exact ⟨⟨_, rfl, rfl, rfl, ⟨none, 0, rfl, Nat.le_refl _, fun h => absurd rfl h⟩⟩, Below.refl _ _⟩
  | some ad =>
    have hq := nil_eq2 ad hs.length c
    go_enter Tryz.func19, Tryz.ntmps19
    go_wp2_with (first
      | ((with_reducible refine gate_dst (N := 5) rfl ?_); refine Lb.alloc_event ?hg (v := fun g => .slice (some ⟨g, 0, none⟩) 0 0) (cs := #[]) (t := 9) (fr := (0, 0)) ?hr ?_; (case hg => rfl); (case hr => first | (go_simp; done) | (go_simp; rfl)); intro g4 hg4 w4 hx4 hb4; have HX4 := Aside0.mk hx4; have HB4 := Aside0.mk hb4; have HG4 := Aside0.mk hg4; clear hx4 hb4 hg4 hq)
      | ((with_reducible refine gate_dst (N := 7) rfl ?_); obtain ⟨i, hi, hzz⟩ := Option.map_eq_some_iff.1 str_info; simp only [Prod.mk.injEq] at hzz; refine wpList_append_own w4 rfl (.tmp 5) (.tmp 6) 27 rfl w.heap.size 9 i (.string ⟨#[]⟩) 1 16 Tryz.underlying27 hi hzz.1 hzz.2.1 hzz.2.2 rfl (by decide) (.slice (some ⟨g4, 0, none⟩) 0 0) 0 [] rfl ⟨rfl, .inr ⟨g4, 0, #[], rfl, (by have := HG4.out; omega), HX4.out, Nat.le_refl _, (by decide), rfl, rfl⟩⟩ ad hs.length c (hs.map Value.string) rfl (by simp) (strs_cells HB4.out HR.out) (by simp [Value.oneCell']) (by have := HLEN.out; unfold maxLen; omega) (by have := HLEN.out; omega) HB4.out.size ?_; intro v5 w5 ho5 hg5 _; have HO5 := Aside0.mk ho5; have HB5 : Aside0 (Below w.heap.size w w5) := ⟨HB4.out.grown hg5 HB4.out.size (fun k hk => by injection hk with hk; have := HG4.out; have e : g4 = k := hk; omega)⟩; clear ho5 hg5 hi hzz))
    go_ret
    have ho := HO5.out
    rw [Nat.zero_add, List.nil_append] at ho
    exact ⟨⟨v5, rfl, (own_cell1 ho).1, (own_cell1 ho).2, own_strs ho⟩, HB5.out⟩
end Go.Proofs.YthamffpieafkbaaGreatDoor.Mt

namespace Go.Proofs.YthamffpieafkbaaGreatDoor.Mt
open Go.RowKit Go.Lib Go.Proofs.YthamffpieafkbaaGreatDoor.PM Go.Proofs.YthamffpieafkbaaGreatDoorW.PrintWords Go.Proofs.YthamffpieafkbaaGreatDoorW.PrintLast Go.Proofs.YthamffpieafkbaaGreatDoorW.PrintMore
set_option linter.unusedVariables false
set_option linter.unusedSimpArgs false

def pathIs (p : ByteArray) (x : Exp) : Bool := x.path.toList == p.toList
/-- exports that a table takes, each -/
structure GoodE (E : List Exp) : Prop where
  at' : ∀ (i : Nat) e, E[i]? = some e → e.path.size ≤ 1024 ∧ e.handle.size ≤ 64 ∧ e.hosts.any longS = false ∧ idx (pathIs e.path) (E.take i) 0 = -1 ∧ e.hosts.length ≤ 100000000
  len : E.length ≤ 1000000

theorem push_exp {B : Nat} {w7 w8 w9 : World} {g : Nat} {E : List Exp} {M : List Held} {e : Exp} {v' vE vM v8 : Value} {vs : List Value} (hg : w7.heap[g]? = some (.cells #[vE, vM] 60 (0, 0))) (hvs : vs.length = E.length)
    (hst : ∀ (i : Nat) e v, E[i]? = some e → vs[i]? = some v → StrsAt w7 v e.hosts) (hM : w7.ownsRow B 67 2 vM M.length (flatM M)) (hv' : StrsAt w7 v' e.hosts) (hge : B ≤ g)
    (hA : App w7 w8 B 30 3 v8 (E.length + 1) (flatE E vs ++ [.string e.path, .string e.handle, v'])) (hb9 : w9.heap[g]? = some (.cells #[v8, vM] 60 (0, 0))) (hg9 : w8.grownBy w9 (some g)) : MT B w9 g (E ++ [e]) M := by
  have hb8 := hA.keep g _ _ _ (by decide) hg
  have hk9 := types_blk hb8 hg9
  have hs : ∀ (k : Nat) (cs : Array Value) (f : Nat × Nat), w7.heap[k]? = some (.cells cs 9 f) → w9.heap[k]? = some (.cells cs 9 f) := fun k cs f h => hk9 _ _ _ _ (by decide) (hA.keep _ _ _ _ (by decide) h)
  refine ⟨⟨v8, vM, hb9, ⟨vs ++ [v'], by simp [hvs], ?_, ?_⟩, own_keep (own_keep hM (fun k cs f h => hA.keep _ _ _ _ (by decide) h)) (fun k cs f h => hk9 _ _ _ _ (by decide) h)⟩, hge⟩
  · rw [flatE_app E vs e v' hvs, List.length_append, List.length_singleton]
    exact own_keep hA.own (fun k cs f h => hk9 _ _ _ _ (by decide) h)
  · intro i x v hx hv
    by_cases hi : i < E.length
    · rw [List.getElem?_append_left hi] at hx
      rw [List.getElem?_append_left (by omega)] at hv
      exact (hst i x v hx hv).keep hs
    · have hi2 : i = E.length := by
        have := (List.getElem?_eq_some_iff.1 hx).1
        rw [List.length_append, List.length_singleton] at this
        omega
      subst hi2
      rw [List.getElem?_append_right (Nat.le_refl _), Nat.sub_self] at hx
      rw [List.getElem?_append_right (by omega), hvs, Nat.sub_self] at hv
      simp at hx hv
      subst hx; subst hv
      exact hv'.keep hs

structure NewRes (w : World) (E : List Exp) (e : Ending) (w' : World) : Prop where
  ex : ∃ g, e = .returned (.pointer (some ⟨g, 0, none⟩)) ∧ MT w.heap.size w' g E []
  bel : Below w.heap.size w w'

set_option maxRecDepth 100000 in
set_option maxHeartbeats 4000000 in
theorem new_calls (B0 : Nat) (vX : Value) (E : List Exp) (w : World) (hX : ExpsAt w B0 vX E) (hgood : GoodE E) :
    Calls Tryz.prog 8 #[vX] w fun e w' => NewRes w E e w' := by
  have HX := Aside0.mk hX
  have HG := Aside0.mk hgood
  obtain ⟨A, c, rfl, _⟩ : ∃ A c, vX = .slice A E.length c ∧ E.length ≤ c := by
    obtain ⟨vs, h1, h2, h3⟩ := hX
    exact own_slice h2
  clear hX hgood
  go_enter Tryz.func8, Tryz.ntmps8
  go_wp2_with (first
    | ((with_reducible refine gate_dst (N := 8) rfl ?_); refine box_event ?hg (N := 8) ?hd (cs := #[.slice none 0 0, .slice none 0 0]) (t := 60) ?hr ?_; (case hd => rfl); (case hg => rfl); (case hr => first | (go_simp; done) | (go_simp; rfl)); intro g hg1 w1 hx1 hb1; have HM1 : Aside0 (MT w.heap.size w1 g [] []) := ⟨⟨⟨_, _, hx1, ⟨[], rfl, ⟨rfl, .inl ⟨rfl, rfl⟩⟩, fun i e v h => by simp at h⟩, ⟨rfl, .inl ⟨rfl, rfl⟩⟩⟩, by omega⟩⟩; have HB1 := Aside0.mk hb1; clear hx1 hb1 hg1))
  go_loopg [11] E.length (fun gk s11 wr => ∃ i : Nat, i + gk = E.length ∧ s11 = .int .i64 i ∧ Aside0 (MT w.heap.size wr g (E.take i) []) ∧ Aside0 (Below w.heap.size w wr))
  case atStart => exact ⟨0, by omega, rfl, ⟨by rw [List.take_zero]; exact HM1.out⟩, HB1⟩
  case round =>
    clear HM1 HB1
    obtain ⟨i, hi, rfl, HM, HB⟩ := hrel
    cases gk with
    | zero =>
      obtain rfl : i = E.length := by omega
      have hii : ¬ ((E.length : Int) < (E.length : Int)) := by omega
      go_wp2
      go_ret
      have := HM.out
      rw [List.take_length] at this
      exact ⟨⟨g, rfl, this⟩, HB.out⟩
    | succ gk =>
      have hii : (i : Int) < (E.length : Int) := by omega
      have hlt : i < E.length := by omega
      obtain ⟨e, he⟩ : ∃ e, e = E[i]'hlt := ⟨_, rfl⟩
      have hge : E[i]? = some e := by rw [he]; exact List.getElem?_eq_getElem hlt
      obtain ⟨k, cap, v, hA, c0, c1, c2, hst⟩ := HX.out.at i e hge
      injection hA with hA1 hA2 hA3
      subst hA1
      replace c0 := Lib.Below.cellOf HB.out c0 (Nat.le_refl _)
      replace c1 := Lib.Below.cellOf HB.out c1 (Nat.le_refl _)
      replace c2 := Lib.Below.cellOf HB.out c2 (Nat.le_refl _)
      obtain ⟨q1, q2, q3, q4, q5⟩ := HG.out.at' i e hge
      have hd1 : decide ((1024 : Int) < (e.path.size : Int)) = false := decide_eq_false (by omega)
      have hd2 : decide ((64 : Int) < (e.handle.size : Int)) = false := decide_eq_false (by omega)
      have hd1n : decide (1024 < e.path.size) = false := decide_eq_false (by omega)
      have hd2n : decide (64 < e.handle.size) = false := decide_eq_false (by omega)
      have hST := Aside0.mk (StrsAt.keep hst (fun k cs f h => (HB.out.block k (blk_lt h)).trans h))
      have Q3 := Aside0.mk q3
      have Q4 : Aside0 (idx (fun x : Exp => x.path.toList == e.path.toList) (E.take i) 0 = -1) := ⟨q4⟩
      have Q5 := Aside0.mk q5
      have HEL : Aside0 ((E.take i).length = i ∧ i ≤ 1000000 ∧ E.take (i + 1) = E.take i ++ [e]) := ⟨by rw [List.length_take]; omega, by have := HG.out.len; omega, by rw [List.take_succ_eq_append_getElem hlt, he]⟩
      clear hA2 hA3 hge he hst q1 q2 q3 q4 q5
      go_wp2_with (first
        | ((with_reducible refine gate_dst (N := 5) rfl ?_); refine box_event ?hg (N := 5) ?hd (cs := #[.string ⟨#[]⟩, .string ⟨#[]⟩, .slice none 0 0]) (t := 30) ?hr ?_; (case hd => rfl); (case hg => rfl); (case hr => first | (go_simp; done) | (go_simp; rfl)); intro g5 hg5 w2 hx2 hb2; have HX2 := Aside0.mk hx2; have HB2 := Aside0.mk hb2; have HG5 := Aside0.mk (show wr.heap.size ≤ g5 by omega); clear hx2 hb2 hg5; clear c0 c1 c2)
        | ((with_reducible refine gate_store (t := 30) (p := 5) rfl ?_); refine Lb.store_whole rfl rfl 30 (.tmp 5) (.tmp 14) rfl (new := #[.string e.path, .string e.handle, v]) rfl rfl HX2.out rfl (by kernel_rfl) (by obtain ⟨A_, c_, rfl, _⟩ := hST.out; simp [Value.oneCell']) ?_; intro w3 hb3 hg3; have HX3 := Aside0.mk hb3; have HB3 := Aside0.mk (Lb.grown_below HB2.out hg3 HB2.out.size HG5.out); have d0 := (blk_cell hb3 0).trans rfl; have d1 := (blk_cell hb3 1).trans rfl; have d2 := (blk_cell hb3 2).trans rfl; clear hb3 hg3)
        | (go_at_call 17; (with_reducible refine (short_calls v e.hosts w3 (hST.out.keep (fun k cs f h => (HB3.out.block k (blk_lt h)).trans h)) (by have := Q5.out; omega) Q3.out).mono ?_); rintro e4 w4 ⟨rfl, hb⟩; have HX4 := Aside0.mk (Lb.blk_below HX3.out hb); have HB4 := Aside0.mk (below_step HB3.out hb); clear d0 d1 d2; have d0 := (blk_cell HX4.out 0).trans rfl; have d1 := (blk_cell HX4.out 1).trans rfl; have d2 := (blk_cell HX4.out 2).trans rfl; clear hb)
        | (go_at_call 18; (with_reducible refine (find_calls w.heap.size g (E.take i) [] e.path w4 (HM.out.step HB4.out) (by have := HEL.out; omega)).mono ?_); rw [Q4.out]; rintro e5 w5 ⟨rfl, hb⟩; have HX5 := Aside0.mk (Lb.blk_below HX4.out hb); have HB5 := Aside0.mk (below_step HB4.out hb); clear d0 d1 d2; have d0 := (blk_cell HX5.out 0).trans rfl; have d1 := (blk_cell HX5.out 1).trans rfl; have d2 := (blk_cell HX5.out 2).trans rfl; clear hb)
        | (go_at_call 19; (with_reducible refine (clone_calls v e.hosts w5 (hST.out.keep (fun k cs f h => (HB5.out.block k (blk_lt h)).trans h)) Q5.out).mono ?_); rintro e6 w6 hres; obtain ⟨⟨v6, rfl, hv1, hv2, hst6⟩, hb⟩ := hres; have HX6 := Aside0.mk (Lb.blk_below HX5.out hb); have HB6 := Aside0.mk (below_step HB5.out hb); have HS6 := Aside0.mk hst6; have HV6 := Aside0.mk (And.intro hv1 hv2); clear d0 d1 d2 hb hst6 hv1 hv2)
        | ((with_reducible refine gate_store (t := 27) (p := 41) rfl ?_); refine Lb.store_one rfl rfl 27 (.tmp 41) (.tmp 40) rfl (g := g5) (off := 2) (u := v6) rfl rfl HV6.out.1 HV6.out.2 HX6.out (by kernel_rfl) (by simp) ?_; intro w7 hb7 hg7; have HX7 := Aside0.mk hb7; have HB7 := Aside0.mk (Lb.grown_below HB6.out hg7 HB6.out.size HG5.out); have HS7 := Aside0.mk (HS6.out.keep (fun k cs f h => types_blk HX6.out hg7 _ _ _ _ (by decide) h)); have d0 := (blk_cell hb7 0).trans rfl; have d1 := (blk_cell hb7 1).trans rfl; have d2 : w7.cell? ⟨g5, 2, none⟩ = some v6 := (blk_cell hb7 2).trans rfl; clear hb7 hg7))
      obtain ⟨vE, vM, k1, ⟨vs, kv, ko, ks⟩, k3⟩ := (HM.out.step HB7.out).ex
      have hcE := (blk_cell k1 0).trans rfl
      have hcE' : ∀ (cs : Array Value) (t : TypeId), (w7.alloc (.cells cs t)).cell? ⟨g, 0, none⟩ = some vE := fun cs t => (blk_cell (blk_alloc k1 _) 0).trans rfl
      have hn : (E.take i).length = i := HEL.out.1
      rw [hn] at ko
      have K1 := Aside0.mk k1
      have KV := Aside0.mk kv
      have KO := Aside0.mk ko
      have KS := Aside0.mk ks
      have K3 := Aside0.mk k3
      have HBW := Aside0.mk (show w.heap.size ≤ w7.heap.size from Nat.le_trans HB.out.size HB7.out.size)
      have HON : Aside0 (∀ u ∈ ([.string e.path, .string e.handle, v6] : List Value), u.oneCell' = true) := ⟨by intro u hu; simp at hu; rcases hu with rfl | rfl | rfl <;> first | rfl | exact HV6.out.2⟩
      clear k1 kv ko ks k3 hn
      go_region_law (refine app_step (w0 := w7) rfl (.tmp 46) (.tmp 48) 25 30 _ 3 56 rfl Tryz.underlying25 exp_info rfl (by decide) (by decide) (B := w.heap.size) (n := i) (m := 1) (v := vE) (news := [.string e.path, .string e.handle, v6]) rfl KO.out (by first | exact draw1 _ _ _ | exact draw2 _ _ _) rfl rfl HON.out HBW.out (by have := HEL.out; omega) ?_; intro v8 w8 hA; obtain ⟨k8, cap8, row8, rfl, _, _, _, _⟩ := row_at hA.own (by omega); have HA8 := Aside0.mk hA; have hb8 := hA.keep g _ _ _ (by decide) K1.out; have hc8 := (blk_cell hb8 0).trans rfl; have hf8 := blk_frozen hb8 0; have HB8 := Aside0.mk hb8; clear hA hb8)
      all_goals
        have hb9 := Lb.setCell_block w8 g 0 _ _ (.slice (some ⟨k8, 0, none⟩) (i + 1) cap8) HB8.out
        have hg9 := Lb.setCell_grown w8 g 0 _ _ (.slice (some ⟨k8, 0, none⟩) (i + 1) cap8) HB8.out
        have hAA := HA8.out
        have hMT : MT w.heap.size (w8.setCell ⟨g, 0, none⟩ (.slice (some ⟨k8, 0, none⟩) (i + 1) cap8)) g (E.take (i + 1)) [] := by
          rw [HEL.out.2.2]
          exact push_exp K1.out KV.out KS.out K3.out HS7.out HM.out.ge (by rw [HEL.out.1]; exact hAA) hb9 hg9
        have HM9 := Aside0.mk hMT
        have HB9 := Aside0.mk (Lb.grown_below ((HB.out.trans (HB7.out.mono HB.out.size)).trans hAA.bel) hg9 (Nat.le_trans HBW.out hAA.size) HM.out.ge)
        clear hb9 hg9 hAA hMT
        go_wp2
        go_roundg gk
        case measure => omega
        case rel => exact ⟨i + 1, by omega, by first | rfl | (congr 1; have := HEL.out.2.1; unfold wrap64; omega), HM9, HB9⟩
end Go.Proofs.YthamffpieafkbaaGreatDoor.Mt
