/- mount: MountOnce, the plain law. -/
import Derived.Test.YthamffpieafkbaaGreatDoorMl
import Derived.WideShapes
import Derived.Lib.Strings
namespace Go.Proofs.YthamffpieafkbaaGreatDoor.Mt
open Go.RowKit Go.Lib Go.Proofs.YthamffpieafkbaaGreatDoor.PM Go.Proofs.YthamffpieafkbaaGreatDoorW.PrintWords Go.Proofs.YthamffpieafkbaaGreatDoorW.PrintLast Go.Proofs.YthamffpieafkbaaGreatDoorW.PrintMore
set_option linter.unusedVariables false
set_option linter.unusedSimpArgs false

def rt : ByteArray := ⟨#[47]⟩
def pa : ByteArray := ⟨#[47, 97]⟩
def eO : Exp := ⟨⟨#[47, 97]⟩, ⟨#[97]⟩, []⟩
def EO : List Exp := [eR, eO]
/-- each host once -/
def addH (M : List Held) (h : ByteArray) : List Held := if hasM M h ⟨#[47]⟩ = true then M else M ++ [⟨h, ⟨#[47]⟩⟩]
def dd (hs : List ByteArray) : List Held := hs.foldl addH []
theorem dd_snoc (hs : List ByteArray) (h : ByteArray) : dd (hs ++ [h]) = addH (dd hs) h := by simp [dd, List.foldl_append]
theorem ba_eq {a b : ByteArray} (h : (a.toList == b.toList) = true) : a = b := by
  have h1 : a.toList = b.toList := by simpa using h
  rw [Lib.toList_data, Lib.toList_data] at h1
  exact Go.WideShapes.bytes_inj h1
theorem hasM_iff (M : List Held) (h p : ByteArray) : hasM M h p = true ↔ (⟨h, p⟩ : Held) ∈ M := by
  unfold hasM
  rw [List.any_eq_true]
  constructor
  · rintro ⟨x, hx, h2⟩
    rw [Bool.and_eq_true] at h2
    rw [ba_eq h2.1, ba_eq h2.2]
    exact hx
  · intro hx
    exact ⟨_, hx, by simp⟩
theorem addH_path (M : List Held) (h : ByteArray) (hM : ∀ x ∈ M, x.f1 = ⟨#[47]⟩) : ∀ x ∈ addH M h, x.f1 = ⟨#[47]⟩ := by
  unfold addH
  split
  · exact hM
  · intro x hx
    rcases List.mem_append.1 hx with h1 | h1
    · exact hM x h1
    · simp at h1; rw [h1]
theorem addH_len (M : List Held) (h : ByteArray) : (addH M h).length ≤ M.length + 1 := by
  unfold addH
  split <;> simp
theorem dd_mem : ∀ (hs : List ByteArray) (M : List Held) (x : Held), (∀ x ∈ M, x.f1 = ⟨#[47]⟩) → (x ∈ hs.foldl addH M ↔ x ∈ M ∨ (x.f1 = ⟨#[47]⟩ ∧ x.f0 ∈ hs))
  | [], M, x, hM => by simp
  | a :: r, M, x, hM => by
    rw [List.foldl_cons, dd_mem r (addH M a) x (addH_path M a hM)]
    have ha : x ∈ addH M a ↔ x ∈ M ∨ x = ⟨a, ⟨#[47]⟩⟩ := by
      unfold addH
      by_cases hh : hasM M a ⟨#[47]⟩ = true
      · rw [if_pos hh]
        have := (hasM_iff M a ⟨#[47]⟩).1 hh
        constructor
        · exact .inl
        · rintro (h | h)
          · exact h
          · rw [h]; exact this
      · rw [if_neg hh]; simp
    rw [ha]
    constructor
    · rintro ((h | h) | h)
      · exact .inl h
      · exact .inr (by rw [h]; simp)
      · exact .inr ⟨h.1, by simp [h.2]⟩
    · rintro (h | ⟨h1, h2⟩)
      · exact .inl (.inl h)
      · rcases List.mem_cons.1 h2 with h3 | h3
        · exact .inl (.inr (by cases x; simp at h1 h3; rw [h1, h3]))
        · exact .inr ⟨h1, h3⟩
theorem dd_path (hs : List ByteArray) : ∀ x ∈ dd hs, x.f1 = ⟨#[47]⟩ := by
  intro x hx
  rcases (dd_mem hs [] x (fun _ h => by simp at h)).1 hx with h | h
  · simp at h
  · exact h.1
theorem dd_has (hs : List ByteArray) (h : ByteArray) : hasM (dd hs) h ⟨#[47]⟩ = true ↔ h ∈ hs := by
  rw [hasM_iff]
  unfold dd
  rw [dd_mem hs [] _ (fun _ h => by simp at h)]
  simp
theorem fold_len : ∀ (hs : List ByteArray) (M : List Held), (hs.foldl addH M).length ≤ M.length + hs.length
  | [], M => by simp
  | a :: r, M => by
    rw [List.foldl_cons]
    have h1 := fold_len r (addH M a)
    have h2 := addH_len M a
    simp only [List.length_cons]
    omega
theorem dd_len (hs : List ByteArray) : (dd hs).length ≤ hs.length := by
  have := fold_len hs []
  simpa [dd] using this
/-- no host twice -/
theorem fold_nodup : ∀ (hs : List ByteArray) (M : List Held), M.Nodup → (hs.foldl addH M).Nodup
  | [], M, h => h
  | a :: r, M, h => by
    rw [List.foldl_cons]
    refine fold_nodup r _ ?_
    unfold addH
    by_cases hh : hasM M a ⟨#[47]⟩ = true
    · rw [if_pos hh]; exact h
    · rw [if_neg hh]
      rw [List.nodup_append]
      refine ⟨h, by simp, fun x hx y hy e => ?_⟩
      simp at hy
      subst hy
      subst e
      exact hh ((hasM_iff M a _).2 hx)
theorem beq_false {a b : ByteArray} (h : a ≠ b) : (a.toList == b.toList) = false := by
  cases hq : (a.toList == b.toList) with
  | false => rfl
  | true => exact absurd (ba_eq hq) h
/-- a host let go: one mount fewer if it had one -/
theorem gone_len : ∀ (M : List Held) (o : ByteArray), M.Nodup → (∀ x ∈ M, x.f1 = ⟨#[47]⟩) → (M.filter fun x => !(x.f0.toList == o.toList)).length + (if hasM M o ⟨#[47]⟩ = true then 1 else 0) = M.length
  | [], o, _, _ => rfl
  | a :: r, o, hn, hp => by
    have hr := gone_len r o (List.nodup_cons.1 hn).2 (fun x hx => hp x (by simp [hx]))
    have hna := (List.nodup_cons.1 hn).1
    have hpa := hp a (by simp)
    by_cases h : a.f0 = o
    · have hno : ¬ hasM r o ⟨#[47]⟩ = true := fun hh => hna (by
        have := (hasM_iff r o _).1 hh
        have e : a = ⟨o, ⟨#[47]⟩⟩ := by cases a; simp at h hpa; rw [h, hpa]
        rw [e]; exact this)
      have hyes : hasM (a :: r) o ⟨#[47]⟩ = true := (hasM_iff _ _ _).2 (by
        have e : a = ⟨o, ⟨#[47]⟩⟩ := by cases a; simp at h hpa; rw [h, hpa]
        rw [e]; simp)
      rw [if_neg hno] at hr
      rw [if_pos hyes, List.filter_cons, if_neg (by rw [h]; simp), List.length_cons]
      omega
    · have hsame : hasM (a :: r) o ⟨#[47]⟩ = hasM r o ⟨#[47]⟩ := by
        unfold hasM
        rw [List.any_cons, beq_false (fun e => h e.symm)]
        simp
      rw [hsame, List.filter_cons, if_pos (by rw [beq_false h]; rfl), List.length_cons, List.length_cons]
      omega
theorem filter_back (M : List Held) (o : ByteArray) (hp : ∀ x ∈ M, x.f1 = ⟨#[47]⟩) : (M ++ [(⟨o, ⟨#[47, 97]⟩⟩ : Held)]).filter (fun x => !(x.f0.toList == o.toList && x.f1.toList == (⟨#[47, 97]⟩ : ByteArray).toList)) = M := by
  rw [List.filter_append, List.filter_eq_self.2 (fun x hx => by
    rw [hp x hx, show ((⟨#[47]⟩ : ByteArray).toList == (⟨#[47, 97]⟩ : ByteArray).toList) = false by kernel_rfl]
    simp)]
  simp
theorem new_once (M : List Held) (h : ByteArray) (hl : M.length < 64) : mntM eR h ⟨#[47]⟩ M = addH M h ∧ mntN eR h ⟨#[47]⟩ M = [0, 1, 1] := by
  unfold mntM mntN addH
  cases hh : hasM M h ⟨#[47]⟩ with
  | true => exact ⟨by simp, by rw [if_pos ⟨rfl, .inl rfl⟩]⟩
  | false => exact ⟨by rw [if_pos ⟨rfl, rfl, hl⟩, if_neg (by simp)], by rw [if_pos ⟨rfl, .inr hl⟩]⟩
theorem addH_twice (M : List Held) (h : ByteArray) : addH (addH M h) h = addH M h := by
  have : hasM (addH M h) h ⟨#[47]⟩ = true := by
    rw [hasM_iff]
    unfold addH
    by_cases hh : hasM M h ⟨#[47]⟩ = true
    · rw [if_pos hh]; exact (hasM_iff _ _ _).1 hh
    · rw [if_neg hh]; simp
  rw [addH, if_pos this]
theorem other_in (M : List Held) (o : ByteArray) (hp : ∀ x ∈ M, x.f1 = ⟨#[47]⟩) (hl : M.length < 64) : mntM eO o ⟨#[47, 97]⟩ M = M ++ [⟨o, ⟨#[47, 97]⟩⟩] := by
  have : hasM M o ⟨#[47, 97]⟩ = false := by
    cases hh : hasM M o ⟨#[47, 97]⟩ with
    | false => rfl
    | true =>
      have h1 := hp _ ((hasM_iff _ _ _).1 hh)
      exact absurd h1 (show ¬ (⟨#[47, 97]⟩ : ByteArray) = ⟨#[47]⟩ by decide)
  unfold mntM
  rw [this, if_pos ⟨rfl, rfl, hl⟩]
end Go.Proofs.YthamffpieafkbaaGreatDoor.Mt
