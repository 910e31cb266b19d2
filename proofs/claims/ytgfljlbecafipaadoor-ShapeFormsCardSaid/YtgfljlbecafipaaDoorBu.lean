/- (*strings.Replacer).build where each old is one byte, all are different, and not every new is one byte: the table of a byteStringReplacer. -/
import Derived.Test.YtgfljlbecafipaaDoorEv
import Derived.Test.YtgfljlbecafipaaDoorRb
namespace Go.Proofs.YtgfljlbecafipaaDoor.Rb
open Go.RowKit Go.Lib Go.Proofs.YtgfljlbecafipaaDoorW.PrintWords Go.Proofs.YtgfljlbecafipaaDoorW.PrintLast Go.Proofs.YtgfljlbecafipaaDoorW.PrintMore
set_option linter.unusedVariables false
set_option linter.unusedSimpArgs false

def tabOf : List (UInt8 × ByteArray) → Nat → Option (List UInt8)
  | [], _ => none
  | p :: r, c => if c = p.1.toNat then some p.2.data.toList else tabOf r c

theorem tabOf_none : ∀ (L : List (UInt8 × ByteArray)) (x : UInt8), x ∉ L.map (·.1) → tabOf L x.toNat = none
  | [], _, _ => rfl
  | p :: r, x, h => by
    simp only [List.map_cons, List.mem_cons, not_or] at h
    have hne : ¬ x.toNat = p.1.toNat := fun e => h.1 (UInt8.toNat_inj.1 e)
    rw [tabOf, if_neg hne]
    exact tabOf_none r x h.2

def allOne (L : List (UInt8 × ByteArray)) : Bool := L.all fun p => p.2.size == 1

structure BI (B : Nat) (wr : World) (rb tb k n : Nat) (T : Nat → Option (List UInt8)) (cur : Array Value) : Prop where
  hr : wr.heap[rb]? = some (.cells cur 112 (0, 0))
  hsize : cur.size = 257
  hlast : cur[256]? = some (.slice (some ⟨tb, 0, none⟩) k n)
  no : ∀ c, c < 256 → T c = none → cur[c]? = some (.slice none 0 0)
  yes : ∀ c bs, c < 256 → T c = some bs → ∃ ab cap, cur[c]? = some (.slice (some ⟨ab, 0, none⟩) bs.length cap) ∧ B ≤ ab ∧ ab ≠ rb ∧ ab ≠ tb ∧ ∃ row t fr, wr.heap[ab]? = some (.cells row t fr) ∧ ∀ (j : Nat) x, bs[j]? = some x → row[j]? = some (.int .u8 (x.toNat : Int))
  ht : ∃ tcur tt, wr.heap[tb]? = some (.cells tcur tt (0, 0)) ∧ tcur.size = n
  ne : tb ≠ rb
  geR : B ≤ rb
  geT : B ≤ tb

theorem BI.step {B : Nat} {wr w1 : World} {rb tb k n : Nat} {T : Nat → Option (List UInt8)} {cur : Array Value} (h : BI B wr rb tb k n T cur) (hb : Below wr.heap.size wr w1) : BI B w1 rb tb k n T cur where
  hr := Lb.blk_below h.hr hb
  hsize := h.hsize
  hlast := h.hlast
  no := h.no
  yes := fun c bs hc hT => by
    obtain ⟨ab, cap, h1, h2, h3, h4, row, t, fr, h5, h6⟩ := h.yes c bs hc hT
    exact ⟨ab, cap, h1, h2, h3, h4, row, t, fr, Lb.blk_below h5 hb, h6⟩
  ht := by obtain ⟨tcur, tt, h1, h2⟩ := h.ht; exact ⟨tcur, tt, Lb.blk_below h1 hb, h2⟩
  ne := h.ne
  geR := h.geR
  geT := h.geT

theorem BI.appended {B : Nat} {wr w1 : World} {rb tb k n : Nat} {T : Nat → Option (List UInt8)} {cur tcur : Array Value} {tt : TypeId} (h : BI B wr rb tb k n T cur) (hs : tcur.size = n) (hb : w1.heap[tb]? = some (.cells tcur tt (0, 0))) (hg : wr.grownBy w1 (some tb)) : BI B w1 rb tb k n T cur where
  hr := Lb.blk_grown' h.hr hg (fun e => h.ne e.symm)
  hsize := h.hsize
  hlast := h.hlast
  no := h.no
  yes := fun c bs hc hT => by
    obtain ⟨ab, cap, h1, h2, h3, h4, row, t, fr, h5, h6⟩ := h.yes c bs hc hT
    exact ⟨ab, cap, h1, h2, h3, h4, row, t, fr, Lb.blk_grown' h5 hg h4, h6⟩
  ht := ⟨tcur, tt, hb, hs⟩
  ne := h.ne
  geR := h.geR
  geT := h.geT

theorem BI.counted {B : Nat} {wr w1 : World} {rb tb k k' n : Nat} {T : Nat → Option (List UInt8)} {cur : Array Value} (h : BI B wr rb tb k n T cur) (hb : w1.heap[rb]? = some (.cells (cur.setIfInBounds 256 (.slice (some ⟨tb, 0, none⟩) k' n)) 112 (0, 0))) (hg : wr.grownBy w1 (some rb)) :
    BI B w1 rb tb k' n T (cur.setIfInBounds 256 (.slice (some ⟨tb, 0, none⟩) k' n)) where
  hr := hb
  hsize := by simpa using h.hsize
  hlast := by rw [Array.getElem?_setIfInBounds, if_pos rfl, if_pos (by rw [h.hsize]; omega)]
  no := fun c hc hT => by rw [Array.getElem?_setIfInBounds, if_neg (by omega)]; exact h.no c hc hT
  yes := fun c bs hc hT => by
    obtain ⟨ab, cap, h1, h2, h3, h4, row, t, fr, h5, h6⟩ := h.yes c bs hc hT
    exact ⟨ab, cap, by rw [Array.getElem?_setIfInBounds, if_neg (by omega)]; exact h1, h2, h3, h4, row, t, fr, Lb.blk_grown' h5 hg h3, h6⟩
  ht := by obtain ⟨tcur, tt, h1, h2⟩ := h.ht; exact ⟨tcur, tt, Lb.blk_grown' h1 hg h.ne, h2⟩
  ne := h.ne
  geR := h.geR
  geT := h.geT

theorem BI.stored {B : Nat} {wr w1 : World} {rb tb k n : Nat} {T : Nat → Option (List UInt8)} {cur : Array Value} (h : BI B wr rb tb k n T cur) (x cap ab ℓ : Nat) (hx : x < 256) (bs : List UInt8) (hℓ : ℓ = bs.length) (row : Array Value) (t : TypeId) (fr : Nat × Nat)
    (hab : wr.heap[ab]? = some (.cells row t fr)) (hrow : ∀ (j : Nat) x, bs[j]? = some x → row[j]? = some (.int .u8 (x.toNat : Int))) (hB : B ≤ ab) (hnr : ab ≠ rb) (hnt : ab ≠ tb)
    (hb : w1.heap[rb]? = some (.cells (cur.setIfInBounds x (.slice (some ⟨ab, 0, none⟩) ℓ cap)) 112 (0, 0))) (hg : wr.grownBy w1 (some rb)) :
    BI B w1 rb tb k n (fun c => if c = x then some bs else T c) (cur.setIfInBounds x (.slice (some ⟨ab, 0, none⟩) ℓ cap)) where
  hr := hb
  hsize := by simpa using h.hsize
  hlast := by rw [Array.getElem?_setIfInBounds, if_neg (by omega)]; exact h.hlast
  no := fun c hc hT => by
    by_cases hcx : c = x
    · rw [if_pos hcx] at hT; cases hT
    · rw [if_neg hcx] at hT
      rw [Array.getElem?_setIfInBounds, if_neg (by omega)]; exact h.no c hc hT
  yes := fun c bs' hc hT => by
    by_cases hcx : c = x
    · rw [if_pos hcx] at hT
      injection hT with e
      subst e
      exact ⟨ab, cap, by rw [Array.getElem?_setIfInBounds, if_pos hcx.symm, if_pos (by rw [h.hsize]; omega), hℓ], hB, hnr, hnt, row, t, fr, Lb.blk_grown' hab hg hnr, hrow⟩
    · rw [if_neg hcx] at hT
      obtain ⟨ab', cap', h1, h2, h3, h4, row', t', fr', h5, h6⟩ := h.yes c bs' hc hT
      exact ⟨ab', cap', by rw [Array.getElem?_setIfInBounds, if_neg (by omega)]; exact h1, h2, h3, h4, row', t', fr', Lb.blk_grown' h5 hg h3, h6⟩
  ht := by obtain ⟨tcur, tt, h1, h2⟩ := h.ht; exact ⟨tcur, tt, Lb.blk_grown' h1 hg h.ne, h2⟩
  ne := h.ne
  geR := h.geR
  geT := h.geT

theorem BI.tab {B : Nat} {wr : World} {rb tb k n : Nat} {T : Nat → Option (List UInt8)} {cur : Array Value} (h : BI B wr rb tb k n T cur) : Tab wr rb T where
  no := fun c hc hT => (blk_cell h.hr c).trans (h.no c hc hT)
  yes := fun c bs hc hT => by
    obtain ⟨ab, cap, h1, h2, h3, h4, row, t, fr, h5, h6⟩ := h.yes c bs hc hT
    refine ⟨⟨ab, 0, none⟩, cap, (blk_cell h.hr c).trans h1, fun i x hx => ?_⟩
    have e : (⟨ab, 0, none⟩ : Addr).add i = ⟨ab, i, none⟩ := by unfold Addr.add; split <;> simp_all
    rw [e]
    have := h6 i x hx
    simp [World.cell?, h5, this]

/-- blocks from B on are as they were -/
theorem BI.kept {B : Nat} {w w' : World} {rb tb k n : Nat} {T : Nat → Option (List UInt8)} {cur : Array Value} (h : BI B w rb tb k n T cur) (hk : ∀ j, B ≤ j → j < w.heap.size → w'.heap[j]? = w.heap[j]?) : BI B w' rb tb k n T cur where
  hr := (hk rb h.geR (blk_lt h.hr)).trans h.hr
  hsize := h.hsize
  hlast := h.hlast
  no := h.no
  yes := fun c bs hc hT => by
    obtain ⟨ab, cap, h1, h2, h3, h4, row, t, fr, h5, h6⟩ := h.yes c bs hc hT
    exact ⟨ab, cap, h1, h2, h3, h4, row, t, fr, (hk ab h2 (blk_lt h5)).trans h5, h6⟩
  ht := by obtain ⟨tcur, tt, h1, h2⟩ := h.ht; exact ⟨tcur, tt, (hk tb h.geT (blk_lt h1)).trans h1, h2⟩
  ne := h.ne
  geR := h.geR
  geT := h.geT
end Go.Proofs.YtgfljlbecafipaaDoor.Rb
