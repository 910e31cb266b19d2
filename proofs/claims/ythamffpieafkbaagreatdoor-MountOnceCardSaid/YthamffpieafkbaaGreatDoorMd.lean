/- mount: what the library's searches of texts and mounts answer, plainly; slices that they read. -/
import Derived.Test.YthamffpieafkbaaGreatDoorGh
namespace Go.Proofs.YthamffpieafkbaaGreatDoor.Mt
open Go.RowKit Go.Lib Go.Proofs.YthamffpieafkbaaGreatDoor.PM Go.Proofs.YthamffpieafkbaaGreatDoorW.PrintWords Go.Proofs.YthamffpieafkbaaGreatDoorW.PrintLast Go.Proofs.YthamffpieafkbaaGreatDoorW.PrintMore
set_option linter.unusedVariables false
set_option linter.unusedSimpArgs false

def hasS (l : List ByteArray) (a : ByteArray) : Bool := l.any fun x => a.toList == x.toList
def hasM (l : List Held) (h p : ByteArray) : Bool := l.any fun x => h.toList == x.f0.toList && p.toList == x.f1.toList
theorem idx_any {α : Type} (p : α → Bool) (l : List α) : decide (idx p l 0 ≥ 0) = l.any p := by
  cases h : l.any p with
  | false => rw [(idx_none p l 0 (by omega)).1 h]; rfl
  | true =>
    rcases idx_bd p l 0 (by omega) with h1 | h1
    · rw [(idx_none p l 0 (by omega)).2 h1] at h; cases h
    · exact decide_eq_true (by omega)

theorem indexS_l0 (l : List ByteArray) (a : ByteArray) (hl : l.length ≤ 1000000000) : ∀ d i, i + d = l.length → slices_Index_string_string.l0 (d + 1) l a (l.length : Int) (i : Int) = some (idx (fun x => a.toList == x.toList) (l.drop i) i)
  | 0, i, h => by
    rw [slices_Index_string_string.l0, if_neg (by omega), List.drop_of_length_le (by omega)]; rfl
  | d + 1, i, h => by
    have hlt : i < l.length := by omega
    rw [slices_Index_string_string.l0, if_pos (by omega), if_pos (by omega), if_pos (by omega), idx_drop _ l i hlt]
    have hr : rdOf ByteArray.empty l (i : Int) = l[i]'hlt := by simp [rdOf, List.getD_eq_getElem?_getD, List.getElem?_eq_getElem hlt]
    have hw : wrap64 ((i : Int) + 1) = ((i + 1 : Nat) : Int) := by unfold wrap64; omega
    rw [hr, hw]
    by_cases hc : a.toList = (l[i]'hlt).toList
    · rw [if_pos hc, if_pos (by simp [hc])]
    · rw [if_neg hc, if_neg (by simp [hc]), indexS_l0 l a hl d (i + 1) (by omega)]
      rfl
theorem containsS_f (l : List ByteArray) (a : ByteArray) (hl : l.length ≤ 1000000000) : slices_Contains_string_string.f (l.length + 1) l a = some (hasS l a) := by
  have := indexS_l0 l a hl l.length 0 (by omega)
  unfold slices_Contains_string_string.f slices_Index_string_string.f
  rw [show ((0 : Nat) : Int) = 0 from rfl] at this
  rw [this, Option.bind_some, List.drop_zero, idx_any]
  rfl
theorem indexM_l0 (l : List Held) (a b : ByteArray) (hl : l.length ≤ 1000000000) : ∀ d i, i + d = l.length → mount_held_56.l0 (d + 1) l (l.length : Int) (i : Int) a b = some (idx (fun x : Held => a.toList == x.f0.toList && b.toList == x.f1.toList) (l.drop i) i)
  | 0, i, h => by
    rw [mount_held_56.l0, if_neg (by omega), List.drop_of_length_le (by omega)]; rfl
  | d + 1, i, h => by
    have hlt : i < l.length := by omega
    rw [mount_held_56.l0, if_pos (by omega), if_pos (by omega), if_pos (by omega), idx_drop _ l i hlt]
    have hr : rd_T67 l (i : Int) = l[i]'hlt := by simp [rd_T67, List.getD_eq_getElem?_getD, List.getElem?_eq_getElem hlt]
    have hw : wrap64 ((i : Int) + 1) = ((i + 1 : Nat) : Int) := by unfold wrap64; omega
    rw [hr, hw]
    by_cases hc : (a.toList == (l[i]'hlt).f0.toList && b.toList == (l[i]'hlt).f1.toList) = true
    · rw [if_pos hc, if_pos hc]
    · rw [if_neg hc, if_neg hc, indexM_l0 l a b hl d (i + 1) (by omega)]
      rfl
theorem containsM_f (l : List Held) (a b : ByteArray) (hl : l.length ≤ 1000000000) : mount_held_37.f (l.length + 1) l a b = some (hasM l a b) := by
  have := indexM_l0 l a b hl l.length 0 (by omega)
  unfold mount_held_37.f mount_held_56.f
  rw [show ((0 : Nat) : Int) = 0 from rfl] at this
  rw [this, Option.bind_some, List.drop_zero, idx_any]
  rfl

theorem strs_C {w : World} {v : Value} {hs : List ByteArray} (h : StrsAt w v hs) (hl : hs.length ≤ 1000000000) : ∃ A c, v = .slice A hs.length c ∧ hs.length ≤ c ∧ Kd.C Kd.string w A hs.length hs := by
  obtain ⟨A, c, rfl, hc, hr⟩ := h
  refine ⟨A, c, rfl, hc, rfl, by omega, fun hpos => ?_⟩
  obtain ⟨k, off, fr, row, rfl, hb, hx⟩ := hr (by intro e; rw [e] at hpos; simp at hpos)
  refine ⟨_, rfl, fun j p hj => ⟨[.string p], rfl, rfl, fun i u hu => ?_⟩⟩
  have hi : i = 0 := by have := (List.getElem?_eq_some_iff.1 hu).1; simpa using this
  subst hi
  simp at hu
  subst hu
  have e2 : (⟨k, off, none⟩ : Addr).add (j * 1 + 0) = ⟨k, off + j, none⟩ := by unfold Addr.add; simp
  show w.cell? ((⟨k, off, none⟩ : Addr).add (j * 1 + 0)) = _
  rw [e2]
  simp [World.cell?, hb, hx j p hj]
theorem held_C {w : World} {B : Nat} {v : Value} {M : List Held} (h : w.ownsRow B 67 2 v M.length (flatM M)) (hl : M.length ≤ 1000000000) : ∃ A c, v = .slice A M.length c ∧ M.length ≤ c ∧ Kd.C k67 w A M.length M := by
  obtain ⟨A, c, hv, hc⟩ := own_slice h
  refine ⟨A, c, hv, hc, rfl, by omega, fun hpos => ?_⟩
  obtain ⟨k, cap, row, hv2, _, _, hb, hx⟩ := row_at h hpos
  rw [hv] at hv2
  injection hv2 with e1 _ _
  refine ⟨_, e1, fun j p hj => ⟨[.string p.f0, .string p.f1], rfl, k67_mk w p, fun i u hu => ?_⟩⟩
  obtain ⟨a1, a2⟩ := flatM_at M j p hj
  have e2 : (⟨k, 0, none⟩ : Addr).add (j * 2 + i) = ⟨k, j * 2 + i, none⟩ := by unfold Addr.add; split <;> simp_all
  show w.cell? ((⟨k, 0, none⟩ : Addr).add (j * 2 + i)) = _
  rw [e2, blk_cell hb]
  have hi : i < 2 := (List.getElem?_eq_some_iff.1 hu).1
  rcases (show i = 0 ∨ i = 1 by omega) with rfl | rfl
  · simp at hu; subst hu; exact hx _ _ a1
  · simp at hu; subst hu; exact hx _ _ a2
/-- a slice of numbers that reads as a list, its block known -/
def IntsAt (w : World) (v : Value) (l : List Int) : Prop :=
  ∃ A c, v = .slice A l.length c ∧ l.length ≤ c ∧ (l ≠ [] → ∃ k fr row, A = some ⟨k, 0, none⟩ ∧ w.heap[k]? = some (.cells row 3 fr) ∧ ∀ (i : Nat) n, l[i]? = some n → row[i]? = some (Value.int .i64 n))
theorem IntsAt.keep {w w' : World} {v : Value} {l : List Int} (h : IntsAt w v l) (hk : ∀ (k : Nat) (cs : Array Value) (f : Nat × Nat), w.heap[k]? = some (.cells cs 3 f) → w'.heap[k]? = some (.cells cs 3 f)) : IntsAt w' v l := by
  obtain ⟨A, c, e, hc, h2⟩ := h
  refine ⟨A, c, e, hc, fun hne => ?_⟩
  obtain ⟨k, fr, row, e2, hr, hx⟩ := h2 hne
  exact ⟨k, fr, row, e2, hk _ _ _ hr, hx⟩
theorem ints_blk {w : World} {g : Nat} (l : List Int) (h : w.heap[g]? = some (.cells (l.map (Value.int .i64)).toArray 3 (0, 0))) : IntsAt w (.slice (some ⟨g, 0, none⟩) l.length l.length) l :=
  ⟨_, _, rfl, Nat.le_refl _, fun _ => ⟨g, (0, 0), _, rfl, h, fun i n hi => by simp [hi]⟩⟩
theorem strs_blk {w : World} {g : Nat} (l : List ByteArray) (h : w.heap[g]? = some (.cells (l.map Value.string).toArray 9 (0, 0))) : StrsAt w (.slice (some ⟨g, 0, none⟩) l.length l.length) l :=
  ⟨_, _, rfl, Nat.le_refl _, fun _ => ⟨g, 0, (0, 0), _, rfl, h, fun i n hi => by simp [hi]⟩⟩
theorem ints_nil (w : World) : IntsAt w (.slice none 0 0) [] := ⟨none, 0, rfl, Nat.le_refl _, fun h => absurd rfl h⟩
theorem strs_nil (w : World) : StrsAt w (.slice none 0 0) [] := ⟨none, 0, rfl, Nat.le_refl _, fun h => absurd rfl h⟩
end Go.Proofs.YthamffpieafkbaaGreatDoor.Mt
