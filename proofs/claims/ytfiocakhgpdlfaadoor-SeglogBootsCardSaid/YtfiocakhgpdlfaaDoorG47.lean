/- What SeglogBoots comes to (plain). -/
import Derived.Test.YtfiocakhgpdlfaaDoorHa
namespace Go.Proofs.YtfiocakhgpdlfaaDoor.Sg
set_option linter.unusedVariables false

theorem cover_len : ∀ (N : Nat) (l : List Nat), (∀ i, i < N → i ∈ l) → N ≤ l.length
  | 0, _, _ => Nat.zero_le _
  | N + 1, l, h => by
    have hm := h N (by omega)
    have ih := cover_len N (l.erase N) (fun i hi => (List.mem_erase_of_ne (by omega)).2 (h i (by omega)))
    rw [List.length_erase_of_mem hm] at ih
    have := List.length_pos_of_mem hm
    omega
theorem freeId_full {N : Nat} {segs : List Seg} (h : freeId N segs = none) : N ≤ segs.length := by
  have hc := cover_len N (segs.map (·.id)) fun i hi => by
    unfold freeId at h
    have := List.find?_eq_none.1 h i (List.mem_range.2 hi)
    simp only [Bool.not_eq_true', Bool.not_eq_false, List.any_eq_true, beq_iff_eq] at this
    obtain ⟨s, hs, e⟩ := this
    exact List.mem_map.2 ⟨s, hs, e⟩
  simpa using hc
theorem cpFor_room {S : List ByteArray} {c : Cp} {n : Nat} (h : c.segs.length < segsN S) : ∃ c' o, cpFor S c n = some (c', o) ∧ c'.segs.length ≤ c.segs.length + 1 ∧ c'.boot = c.boot ∧ c'.seq = c.seq ∧ c'.serial ≤ c.serial + 1 := by
  unfold cpFor
  split
  · exact ⟨c, false, rfl, by omega, rfl, rfl, by omega⟩
  · cases hf : freeId (segsN S) c.segs with
    | none => exact absurd (freeId_full hf) (by omega)
    | some i => exact ⟨_, true, rfl, by simp, rfl, rfl, Nat.le_refl _⟩
theorem setLast_len (c : Cp) (e q : Nat) (h : c.segs ≠ []) : (setLast c e q).segs.length = c.segs.length := by
  unfold setLast
  simp only [List.length_append, List.length_dropLast, List.length_singleton]
  have := List.length_pos_iff.2 h
  omega
/-- a text's first 500 bytes -/
def cutB (s : ByteArray) : List UInt8 := s.data.toList.take 500
theorem cutB_len (s : ByteArray) : (cutB s).length ≤ 500 := List.length_take_le _ _
theorem cutB_extract (s : ByteArray) (m : Nat) (hm : m = min s.size 500) : s.extract 0 m = toB (cutB s) := by
  apply ByteArray.ext
  rw [ByteArray.data_extract]
  apply Array.toList_inj.1
  show (s.data.extract 0 m).toList = (s.data.toList.take 500)
  have h1 : s.data.toList.length = s.size := rfl
  rw [Array.toList_extract]
  unfold List.extract
  rw [List.drop_zero, Nat.sub_zero, hm]
  rcases Nat.le_total s.size 500 with h | h
  · rw [Nat.min_eq_left h, List.take_of_length_le (by omega), List.take_of_length_le (by omega)]
  · rw [Nat.min_eq_right h]
/-- the records are the texts, in order -/
def Told (hs : List ByteArray) (n : Nat) (all : List Rec) : Prop := all.length = n ∧ ∀ (i : Nat) (x : Rec), all[i]? = some x → x.seq = i ∧ ∃ s, hs[i]? = some s ∧ x.body = cutB s
theorem Told.snoc {hs : List ByteArray} {n g : Nat} {all : List Rec} {s : ByteArray} (h : Told hs n all) (hs' : hs[n]? = some s) : Told hs (n + 1) (all ++ [⟨n, g, cutB s⟩]) := by
  refine ⟨by rw [List.length_append, h.1]; rfl, fun i x hx => ?_⟩
  rw [List.getElem?_append] at hx
  split at hx
  · exact h.2 i x hx
  · rename_i hlt
    have e : i = n := by
      have := (List.getElem?_eq_some_iff.1 hx).1
      have h1 := h.1
      simp at this
      omega
    subst e
    rw [h.1, Nat.sub_self] at hx
    simp at hx
    subst hx
    exact ⟨rfl, s, hs', rfl⟩
end Go.Proofs.YtfiocakhgpdlfaaDoor.Sg
