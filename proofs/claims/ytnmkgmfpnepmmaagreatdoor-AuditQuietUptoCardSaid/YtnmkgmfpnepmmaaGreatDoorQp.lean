/- AuditQuiet: what rows computes; the rows that are marked; a row of rows in a block. -/
import Derived.Test.YtnmkgmfpnepmmaaGreatDoorEA
import Derived.Test.YtnmkgmfpnepmmaaGreatDoorTx
namespace Go.Proofs.YtnmkgmfpnepmmaaGreatDoor.PA
open Go.RowKit Go.Proofs.YtnmkgmfpnepmmaaGreatDoorW.PrintWords Go.Proofs.YtnmkgmfpnepmmaaGreatDoorW.PrintLast Go.Proofs.YtnmkgmfpnepmmaaGreatDoorW.PrintMore
set_option linter.unusedVariables false
set_option linter.unusedSimpArgs false
set_option maxRecDepth 100000

def toA (x : S41) : S29 := ⟨x.f0, x.f1, x.f2, x.f3, x.f4, x.f5⟩
def toB (x : S41) : S43 := ⟨x.f0, x.f1, x.f2, x.f3, x.f4, x.f5, 0⟩

theorem rows_l0 (l : List S41) (hn : l.length ≤ 4194304) : ∀ (d k i : Nat) (x4 : List S29) (x5 : List S43), i + d = l.length → x4.length = i → x5.length = i → d < k →
    coraclelaw24_rows.l0 k l x4 x5 (i : Int) = some (x4 ++ (l.drop i).map toA, x5 ++ (l.drop i).map toB)
  | 0, k, i, x4, x5, h1, h2, h3, hk => by
    obtain ⟨k, rfl⟩ : ∃ m, k = m + 1 := ⟨k - 1, by omega⟩
    simp only [coraclelaw24_rows.l0]
    rw [if_neg (by omega), List.drop_eq_nil_of_le (by omega)]
    simp
  | d + 1, k, i, x4, x5, h1, h2, h3, hk => by
    obtain ⟨k, rfl⟩ : ∃ m, k = m + 1 := ⟨k - 1, by omega⟩
    have hlt : i < l.length := by omega
    simp only [coraclelaw24_rows.l0]
    rw [if_pos (by omega), if_pos (by omega), if_pos (by omega), if_pos (by omega)]
    have hw : wrap64 ((i : Int) + 1) = ((i + 1 : Nat) : Int) := by unfold wrap64; omega
    rw [hw, rows_l0 l hn d k (i + 1) _ _ (by omega) (by simp [h2]) (by simp [h3]) (by omega)]
    have hd : l.drop i = rd_T41 l i :: l.drop (i + 1) := drop_rd hlt
    rw [hd]
    simp [toA, toB]
theorem rows_eq (l : List S41) (hn : l.length ≤ 4194304) : coraclelaw24_rows.f (l.length + 1) l = some (l.map toA, l.map toB) := by
  unfold coraclelaw24_rows.f
  have := rows_l0 l hn l.length (l.length + 1) 0 [] [] (by omega) rfl rfl (by omega)
  simpa using this


/-- a row that is marked: it was done already, or it changed something -/
def mark (x : SA) : SA := ⟨x.f0, x.f1, x.f2, x.f3, x.f4, x.f5 || decide (x.f4 = 0)⟩
def marks (k : Nat) (l : List SA) : List SA := (l.take k).map mark ++ l.drop k
theorem marks_zero (l : List SA) : marks 0 l = l := by simp [marks]
theorem marks_all (l : List SA) : marks l.length l = l.map mark := by simp [marks]
theorem marks_length (k : Nat) (l : List SA) (h : k ≤ l.length) : (marks k l).length = l.length := by simp [marks]; omega
theorem marks_at (k : Nat) (l : List SA) (x : SA) (h : l[k]? = some x) : (marks k l)[k]? = some x := by
  have hk : k < l.length := (List.getElem?_eq_some_iff.1 h).1
  unfold marks
  rw [List.getElem?_append_right (by simp; omega), List.getElem?_drop]
  have e : k + (k - ((l.take k).map mark).length) = k := by simp; omega
  rw [e]
  exact h
theorem marks_succ (k : Nat) (l : List SA) (x : SA) (h : l[k]? = some x) : marks (k + 1) l = (marks k l).set k (mark x) := by
  have hk : k < l.length := (List.getElem?_eq_some_iff.1 h).1
  have hx : l[k] = x := (List.getElem?_eq_some_iff.1 h).2
  unfold marks
  rw [List.take_succ_eq_append_getElem hk, hx, List.set_append_right _ _ (by simp; omega), List.drop_eq_getElem_cons hk, hx]
  have e : k - ((l.take k).map mark).length = 0 := by simp; omega
  rw [e]
  simp only [List.map_append, List.map_cons, List.map_nil, List.append_assoc, List.cons_append, List.nil_append, List.set_cons_zero]
theorem chg_mark (x : SA) : chg (mark x) = false := by
  unfold chg mark
  by_cases h : x.f4 = 0 <;> simp [h]
theorem twice_marked (win : Int) : ∀ (l : List SA) (i : Nat) (L : List SA), twiceGo win i L (l.map mark) = []
  | [], _, _ => rfl
  | x :: l, i, L => by rw [List.map_cons, twiceGo_ne (chg_mark x), twice_marked win l]

/-- a block that begins with these rows -/
def RAt (w : World) (g : Nat) (L : List SA) : Prop :=
  ∃ cur : Array Value, w.heap[g]? = some (.cells cur 29 (0, 0)) ∧ ∀ (j : Nat) (x : SA), L[j]? = some x → ∀ i, i < 6 → cur[j * 6 + i]? = (cellsOf x)[i]?
theorem RAt.cell {w : World} {g : Nat} {L : List SA} (h : RAt w g L) {j : Nat} {x : SA} (hx : L[j]? = some x) (i : Nat) (hi : i < 6) : w.cell? ⟨g, j * 6 + i, none⟩ = (cellsOf x)[i]? := by
  obtain ⟨cur, hb, hc⟩ := h
  exact (blk_cell hb _).trans (hc j x hx i hi)
theorem RAt.frozen {w : World} {g : Nat} {L : List SA} (h : RAt w g L) (i : Nat) : w.frozen? ⟨g, i, none⟩ = false := by
  obtain ⟨cur, hb, _⟩ := h
  exact blk_frozen hb _
theorem add_off (g n : Nat) : (⟨g, 0, none⟩ : Addr).add n = ⟨g, n, none⟩ := by
  unfold Addr.add
  split
  · rename_i h0; have : n = 0 := by simpa using h0
    rw [this]
  · simp
theorem RAt.C {w : World} {g : Nat} {L : List SA} (h : RAt w g L) (hn : L.length ≤ 4194304) : k29.C w (some ⟨g, 0, none⟩) L.length L := by
  refine ⟨rfl, by omega, fun _ => ⟨_, rfl, fun j x hx => ⟨(cellsOf x).toList, rfl, k29_mk w x, fun i u hu => ?_⟩⟩⟩
  have hi : i < 6 := by have := (List.getElem?_eq_some_iff.1 hu).1; simpa [cellsOf] using this
  have h1 := h.cell hx i hi
  have h2 : (cellsOf x)[i]? = some u := by rw [← Array.getElem?_toList]; exact hu
  rw [h2] at h1
  have esz : k29.sz = 6 := rfl
  rw [esz]
  rw [add_off]
  exact h1
theorem RAt.set {w : World} {g : Nat} {L : List SA} (h : RAt w g L) {k : Nat} {x : SA} (hx : L[k]? = some x) (b : Bool) : RAt (w.setCell ⟨g, k * 6 + 5, none⟩ (.bool b)) g (L.set k ⟨x.f0, x.f1, x.f2, x.f3, x.f4, b⟩) := by
  obtain ⟨cur, hb, hc⟩ := h
  refine ⟨cur.setIfInBounds (k * 6 + 5) (.bool b), blk_set hb _ _, fun j y hy i hi => ?_⟩
  have hlt : k * 6 + 5 < cur.size := by
    have h5 := hc k x hx 5 (by omega)
    have e : (cellsOf x)[5]? = some (.bool x.f5) := rfl
    rw [e] at h5
    exact (Array.getElem?_eq_some_iff.1 h5).1
  rw [Array.getElem?_setIfInBounds]
  by_cases hj : j = k
  · subst hj
    have hjl : j < L.length := (List.getElem?_eq_some_iff.1 hx).1
    rw [List.getElem?_set_self hjl] at hy
    obtain rfl := Option.some.inj hy
    by_cases h5 : i = 5
    · subst h5
      rw [if_pos rfl, if_pos hlt]
      rfl
    · rw [if_neg (by omega), hc j x hx i hi]
      have h01 : i = 0 ∨ i = 1 ∨ i = 2 ∨ i = 3 ∨ i = 4 := by omega
      rcases h01 with rfl | rfl | rfl | rfl | rfl <;> rfl
  · rw [List.getElem?_set_ne (fun e => hj e.symm)] at hy
    rw [if_neg (by omega)]
    exact hc j y hy i hi
theorem RAt.of_R {w : World} {base : Nat} {v : Value} {L : List SA} (h : Kd.R k29 29 w base (fun _ => True) v L) : (v = .slice none 0 0 ∧ L = []) ∨ ∃ g c, v = .slice (some ⟨g, 0, none⟩) L.length c ∧ base ≤ g ∧ L.length ≤ c ∧ RAt w g L := by
  obtain ⟨_, inner, ho, hr⟩ := h
  rcases ho.2 with ⟨rfl, h0⟩ | ⟨g, cap, cur, rfl, hg, hh, h1, h2, h3, h4⟩
  · exact .inl ⟨rfl, List.length_eq_zero_iff.1 h0⟩
  · refine .inr ⟨g, cap, rfl, hg, h1, cur, hh, fun j x hx i hi => ?_⟩
    have hK := k29_openM (hr.2 j x hx)
    have hj : j < L.length := (List.getElem?_eq_some_iff.1 hx).1
    have esz : k29.sz = 6 := rfl
    rw [esz] at hK h4
    have e1 : (cellsOf x).toList = [.int .i64 x.f0, .int .i64 x.f1, .int .i64 x.f2, .int .i64 x.f3, .int .i64 x.f4, .bool x.f5] := rfl
    rw [← Array.getElem?_toList, ← Array.getElem?_toList, e1, ← hK, ← h4, List.getElem?_take, if_pos hi, List.getElem?_drop]
    show cur.toList[j * 6 + i]? = (cur.toList.take (L.length * 6))[j * 6 + i]?
    rw [List.getElem?_take, if_pos (by omega)]
/-- the rows' slice, whole: nil, or a block of one's own -/
def MAt (w : World) (base : Nat) (A : Option Addr) (L : List SA) : Prop := (A = none ∧ L = []) ∨ ∃ g, A = some ⟨g, 0, none⟩ ∧ base ≤ g ∧ RAt w g L
theorem MAt.C {w : World} {base : Nat} {A : Option Addr} {L : List SA} (h : MAt w base A L) (hn : L.length ≤ 4194304) : k29.C w A L.length L := by
  rcases h with ⟨rfl, rfl⟩ | ⟨g, rfl, _, h⟩
  · exact ⟨rfl, by simp, fun h => absurd h (by simp)⟩
  · exact h.C hn
theorem MAt.of_R {w : World} {base : Nat} {v : Value} {L : List SA} (h : Kd.R k29 29 w base (fun _ => True) v L) : ∃ A c, v = .slice A L.length c ∧ L.length ≤ c ∧ MAt w base A L := by
  rcases RAt.of_R h with ⟨rfl, rfl⟩ | ⟨g, c, rfl, hg, hc, hr⟩
  · exact ⟨none, 0, rfl, Nat.le_refl _, .inl ⟨rfl, rfl⟩⟩
  · exact ⟨_, c, rfl, hc, .inr ⟨g, rfl, hg, hr⟩⟩
theorem MAt.lower {w : World} {base base' : Nat} {A : Option Addr} {L : List SA} (h : MAt w base A L) (hb : base' ≤ base) : MAt w base' A L := by
  rcases h with h | ⟨g, hA, hg, h⟩
  · exact .inl h
  · exact .inr ⟨g, hA, Nat.le_trans hb hg, h⟩
theorem MAt.below {w w1 : World} {base : Nat} {A : Option Addr} {L : List SA} (h : MAt w base A L) (hb : Below w.heap.size w w1) : MAt w1 base A L := by
  rcases h with h | ⟨g, hA, hg, cur, h1, h2⟩
  · exact .inl h
  · exact .inr ⟨g, hA, hg, cur, Lb.blk_below h1 hb, h2⟩
end Go.Proofs.YtnmkgmfpnepmmaaGreatDoor.PA
