/- CoreBytes: what is known while the bytes are written; texts as lists. CoreBytes: reading and cutting; the last text. -/
import Derived.Test.YtlnfadlgjcnngaaGreatQ53
import Derived.Lib.BufferRead
import Derived.Laws.IdiomStrings
namespace Go.Proofs.YtlnfadlgjcnngaaGreat.Co
open Go.RowKit Go.Maps Go.Lib Go.Proofs.YtlnfadlgjcnngaaGreat.Ap Go.Proofs.YtlnfadlgjcnngaaGreatW.PrintWords Go.Proofs.YtlnfadlgjcnngaaGreatW.PrintLast Go.Proofs.YtlnfadlgjcnngaaGreatW.PrintMore
set_option linter.unusedVariables false
set_option linter.unusedSimpArgs false

/-- a text's bytes as a row holds them -/
def byV (X : List UInt8) : List Value := X.map fun x => Value.int .u8 (x.toNat : Int)
theorem byV_append (X Y : List UInt8) : byV (X ++ Y) = byV X ++ byV Y := by simp [byV]
theorem byV_length (X : List UInt8) : (byV X).length = X.length := by simp [byV]
theorem byV_one (X : List UInt8) : ∀ u ∈ byV X, u.oneCell' = true := by
  intro u hu
  obtain ⟨x, _, rfl⟩ := List.mem_map.1 hu
  rfl
theorem u8_info : ((Tryz.prog).info? 5).map (fun i => (i.zero, i.size, i.bytes)) = some (some (.int .u8 0), 1, 1) := by kernel_rfl
/-- a row of bytes of one's own, and the text that it is -/
abbrev RowB (w : World) (B : Nat) (v : Value) (X : List UInt8) : Prop := w.ownsRow B 5 1 v X.length (byV X)
theorem RowB.nil (w : World) (B : Nat) : RowB w B (.slice none 0 0) [] := ⟨rfl, .inl ⟨rfl, rfl⟩⟩
theorem RowB.conv {w : World} {B : Nat} {v : Value} {X : List UInt8} (h : RowB w B v X) : (convert 50 9 v).run Tryz.prog w = .ok (.string ⟨X.toArray⟩) w := by
  obtain ⟨h1, h2⟩ := h
  rcases h2 with ⟨rfl, h3⟩ | ⟨k, cap, row, rfl, _, hr, hn, hm, hs, ht⟩
  · obtain rfl : X = [] := List.eq_nil_of_length_eq_zero h3
    exact run_convert_nil_bytes w 50 9 5 0 Tryz.underlying50 Tryz.underlying5 Tryz.underlying9
  · refine run_convert_bytes_back w 50 9 5 ⟨k, 0, none⟩ cap X Tryz.underlying50 Tryz.underlying5 Tryz.underlying9 (fun j hj => ?_)
    rw [add_off, blk_cell hr j]
    have e1 : (byV X)[j]? = some (.int .u8 (X[j].toNat : Int)) := by simp [byV, List.getElem?_eq_getElem hj]
    rw [← ht, List.getElem?_take, if_pos (by omega)] at e1
    simpa using e1
theorem RowB.cell {w : World} {B : Nat} {v : Value} {X : List UInt8} (h : RowB w B v X) {j : Nat} (hj : j < X.length) : ∃ k cap, v = .slice (some ⟨k, 0, none⟩) X.length cap ∧ B ≤ k ∧ (∃ row, w.heap[k]? = some (.cells row 5 (0, 0))) ∧ w.cell? ⟨k, j, none⟩ = some (.int .u8 (X[j].toNat : Int)) ∧ w.frozen? ⟨k, j, none⟩ = false ∧
    ∀ x : UInt8, RowB (w.setCell ⟨k, j, none⟩ (.int .u8 (x.toNat : Int))) B v (X.set j x) := by
  obtain ⟨h1, h2⟩ := h
  rcases h2 with ⟨rfl, h3⟩ | ⟨k, cap, row, rfl, hB, hr, hn, hm, hs, ht⟩
  · omega
  · refine ⟨k, cap, rfl, hB, ⟨row, hr⟩, ?_, blk_frozen hr j, fun x => ?_⟩
    · rw [blk_cell hr j]
      have e1 : (byV X)[j]? = some (.int .u8 (X[j].toNat : Int)) := by simp [byV, List.getElem?_eq_getElem hj]
      rw [← ht, List.getElem?_take, if_pos (by omega)] at e1
      simpa using e1
    · have hb := Lb.setCell_block w k j row 5 (.int .u8 (x.toNat : Int)) hr
      refine ⟨by simp [byV], .inr ⟨k, cap, _, by simp, hB, hb, by simpa using hn, hm, by simpa using hs, ?_⟩⟩
      rw [Array.toList_setIfInBounds, List.take_set, List.length_set, ht]
      simp [byV, List.map_set]

structure BY (w0 w : World) (g bN bM b g8 m : Nat) (F : Int → Option Nat) (D : ByteArray) (v : Value) (X : List UInt8) : Prop where
  fs : FsAt w g bN bM 2 F m
  nd : ∃ n, NodeAt w b n ∧ n.kind = 1 ∧ n.data = D ∧ n.size = n.data.size
  cl : w.heap[g8]? = some (.cells (callC 2) 29 (0, 0))
  row : RowB w w0.heap.size v X
  bel : Below w0.heap.size w0 w
  ge : w0.heap.size ≤ bM ∧ w0.heap.size ≤ b
section
variable {w0 w w' : World} {g bN bM b g8 m : Nat} {F : Int → Option Nat} {D : ByteArray} {v v' : Value} {X X' : List UInt8}
theorem BY.step (h : BY w0 w g bN bM b g8 m F D v X) (hb : Below w.heap.size w w') : BY w0 w' g bN bM b g8 m F D v X := by
  obtain ⟨n, h1, h2⟩ := h.nd
  exact ⟨h.fs.step hb, ⟨n, Lb.blk_below h1 hb, h2⟩, Lb.blk_below h.cl hb, own_step h.row hb, below_step h.bel hb, h.ge⟩
theorem BY.fsop (h : BY w0 w g bN bM b g8 m F D v X) {m' : Nat} {n' : Nd} {D' : ByteArray} (hf : FsAt w' g bN bM 2 F m') (hn : NodeAt w' b n') (hk : n'.kind = 1) (hd : n'.data = D') (hz : n'.size = n'.data.size) (hp : Kp [bM, b] w w') : BY w0 w' g bN bM b g8 m' F D' v X :=
  ⟨hf, ⟨n', hn, hk, hd, hz⟩, hp.typ _ _ _ _ h.cl (by decide), hp.own h.row (by decide), h.bel.trans (hp.below (by have := h.ge; simp; omega) h.bel.size), h.ge⟩
/-- the row's own block is no other's -/
theorem row_ne {B : Nat} (h : RowB w B v X) {k : Nat} {o : Obj} (hk : w.heap[k]? = some o) (ho : ∀ cs f, o ≠ .cells cs 5 f) : v.ownBlock ≠ some k := by
  obtain ⟨_, h2⟩ := h
  rcases h2 with ⟨rfl, _⟩ | ⟨q, cap, row, rfl, _, hr, _⟩
  · intro e; cases e
  · intro e
    have e : q = k := by injection e
    subst e
    rw [hk] at hr
    injection hr with hr
    exact ho _ _ hr
theorem BY.grow (h : BY w0 w g bN bM b g8 m F D v X) (hg : w.grownBy w' v.ownBlock) (hr : RowB w' w0.heap.size v' X') : BY w0 w' g bN bM b g8 m F D v' X' := by
  obtain ⟨n, h1, h2⟩ := h.nd
  have hm : ∀ (k : Nat) (o : Obj), w.heap[k]? = some o → (∀ cs f, o ≠ .cells cs 5 f) → w'.heap[k]? = some o := fun k o hk ho => blk_grown hk hg (fun e => row_ne h.row hk ho e.symm)
  have hc : ∀ (k : Nat) (cs : Array Value) (t : TypeId) (f : Nat × Nat), w.heap[k]? = some (.cells cs t f) → t ≠ 5 → w'.heap[k]? = some (.cells cs t f) := fun k cs t f hk ht => hm k _ hk (fun cs f e => by injection e with _ e _; exact ht e)
  refine ⟨?_, ⟨n, hc _ _ _ _ h1 (by decide), h2⟩, hc _ _ _ _ h.cl (by decide), hr, below_of_grown h.row h.bel h.bel.size hg, h.ge⟩
  obtain ⟨D1, ⟨es, cl, hb, hM⟩, hF⟩ := h.fs.nodes
  obtain ⟨D2, ⟨es2, cl2, hb2, hM2⟩⟩ := h.fs.met
  exact ⟨hc _ _ _ _ h.fs.blk (by decide), ⟨D1, ⟨es, cl, hm _ _ hb (fun _ _ e => by cases e), hM⟩, hF⟩, ⟨D2, ⟨es2, cl2, hm _ _ hb2 (fun _ _ e => by cases e), hM2⟩⟩, h.fs.ne⟩
theorem BY.put (h : BY w0 w g bN bM b g8 m F D v X) {j k cap : Nat} (x : UInt8) (hv : v = .slice (some ⟨k, 0, none⟩) X.length cap) (hr : ∃ row, w.heap[k]? = some (.cells row 5 (0, 0))) (hs : RowB (w.setCell ⟨k, j, none⟩ (.int .u8 (x.toNat : Int))) w0.heap.size v (X.set j x)) : BY w0 (w.setCell ⟨k, j, none⟩ (.int .u8 (x.toNat : Int))) g bN bM b g8 m F D v (X.set j x) := by
  obtain ⟨row, hr⟩ := hr
  refine h.grow ?_ hs
  rw [hv]
  exact Lb.setCell_grown w k j row 5 _ hr
end
/-- a nought is appended -/
theorem app_zero {ops : Array Oper} {rest : List Oper} {oo : Oper} {a : Act} {Q : Exit → Act → World → Prop} {w0 W : World} {g bN bM b g8 m gz : Nat} {F : Int → Option Nat} {D : ByteArray} {v : Value} {X : List UInt8} (hgd : oo.guard = none) (s x : Operand) (ho : oo.op = .call { callee := .builtin .append, args := #[s, x], argTypes := #[50, 50] })
    (hy : BY w0 W g bN bM b g8 m F D v X) (hX : X.length ≤ 100000) (hs : a.eval s = v) (hx : a.eval x = .slice (some ⟨gz, 0, none⟩) 1 1) (hz : W.heap[gz]? = some (.cells #[.int .u8 0] 5 (0, 0)))
    (h : ∀ v' w', BY w0 w' g bN bM b g8 m F D v' (X ++ [0]) → wpList Tryz.prog ops Q rest (a.put oo.dst v') w') : wpList Tryz.prog ops Q (oo :: rest) a W := by
  obtain ⟨i, hi, hzz⟩ := Option.map_eq_some_iff.1 u8_info
  simp only [Prod.mk.injEq] at hzz
  refine wpList_append_own W hgd s x 50 ho w0.heap.size 5 i (.int .u8 0) 1 1 Tryz.underlying50 hi hzz.1 hzz.2.1 hzz.2.2 rfl (by decide) v X.length (byV X) hs hy.row ⟨gz, 0, none⟩ 1 1 [.int .u8 0] hx rfl ?_ (by simp [Value.oneCell']) (by unfold maxLen; omega) (by omega) hy.bel.size ?_
  · intro j u hj
    rw [add_off, blk_cell hz j]
    simpa using hj
  · intro v' w' h1 h2 _
    refine h v' w' (hy.grow h2 ?_)
    have e : byV (X ++ [0]) = byV X ++ [.int .u8 0] := by simp [byV]
    show w'.ownsRow _ _ _ _ (X ++ [0]).length (byV (X ++ [0]))
    rw [e, List.length_append]
    exact h1
/-- what stands in the row while a text is laid over it -/
def ovL (X : List UInt8) (o : Nat) (s : List UInt8) (k : Nat) : List UInt8 := X.take o ++ s.take k ++ X.drop (o + k)
theorem ovL_zero (X : List UInt8) (o : Nat) (s : List UInt8) : ovL X o s 0 = X := by simp [ovL]
theorem ovL_succ (X : List UInt8) (o : Nat) (s : List UInt8) (k : Nat) (x : UInt8) (hx : s[k]? = some x) (hl : o + k < X.length) : (ovL X o s k).set (o + k) x = ovL X o s (k + 1) := by
  have hk : k < s.length := (List.getElem?_eq_some_iff.1 hx).1
  have hxx : s[k] = x := (List.getElem?_eq_some_iff.1 hx).2
  apply List.ext_getElem?
  intro i
  rw [List.getElem?_set]
  unfold ovL
  have l1 : (X.take o).length = o := by rw [List.length_take]; omega
  have l2 : (s.take k).length = k := by rw [List.length_take]; omega
  have l3 : (s.take (k + 1)).length = k + 1 := by rw [List.length_take]; omega
  simp only [List.getElem?_append, List.length_append, l1, l2, l3, List.getElem?_take, List.getElem?_drop, List.length_drop]
  by_cases h1 : i < o
  · simp [h1, show i < o + k by omega, show i < o + (k + 1) by omega, show ¬ o + k = i by omega]
  · by_cases h2 : i < o + k
    · simp [h1, h2, show i < o + (k + 1) by omega, show ¬ o + k = i by omega, show i - o < k by omega, show i - o < k + 1 by omega]
    · by_cases h3 : o + k = i
      · subst h3
        simp [show ¬ o + k < o by omega, show o + k < o + (k + 1) by omega, hx, show o + k - o = k by omega]
        omega
      · simp [h1, h2, h3, show ¬ i < o + (k + 1) by omega]
        congr 1
        omega
theorem wr_list (D s : ByteArray) (o : Nat) (hs : 0 < s.size) : (wrB D o s).data.toList = ovL (D.data.toList ++ List.replicate (o + s.size - D.size) 0) o s.data.toList s.size := by
  have hl : D.data.toList.length = D.size := by rw [← Lib.size_eq]
  have hsl : s.data.toList.length = s.size := by rw [← Lib.size_eq]
  have hc : (cutB D (topB D o s)).data.toList = D.data.toList ++ List.replicate (o + s.size - D.size) 0 := by
    unfold cutB topB
    split
    · rename_i h
      have : o + s.size - D.size = 0 := by omega
      rw [this]
      have e : max D.size (o + s.size) = D.size := by omega
      rw [e]
      simp
    · rename_i h
      have e : max D.size (o + s.size) - D.size = o + s.size - D.size := by omega
      simp [rep_eq, e]
  have hz := cutB_size D (topB D o s)
  unfold wrB ovL
  simp only [ByteArray.data_append, Array.toList_append, ByteArray.data_extract, Array.toList_extract, hz]
  rw [hc]
  have e1 : s.data.toList.take s.size = s.data.toList := List.take_of_length_le (by omega)
  rw [e1]
  have e2 : topB D o s = (D.data.toList ++ List.replicate (o + s.size - D.size) (0 : UInt8)).length := by simp [topB]; omega
  simp only [List.extract_eq_take_drop, List.drop_zero, Nat.sub_zero]
  congr 1
  rw [List.take_of_length_le]
  rw [List.length_drop, ← e2]
  exact Nat.le_refl _
end Go.Proofs.YtlnfadlgjcnngaaGreat.Co

namespace Go.Proofs.YtlnfadlgjcnngaaGreat.Co
open Go.RowKit Go.Maps Go.Lib Go.Proofs.YtlnfadlgjcnngaaGreat.Ap Go.Proofs.YtlnfadlgjcnngaaGreatW.PrintWords Go.Proofs.YtlnfadlgjcnngaaGreatW.PrintLast Go.Proofs.YtlnfadlgjcnngaaGreatW.PrintMore
set_option linter.unusedVariables false
set_option linter.unusedSimpArgs false

section
variable {w0 w w' : World} {g bN bM b g8 m : Nat} {F : Int → Option Nat} {D : ByteArray} {v v' : Value} {X X' : List UInt8}
theorem BY.read (h : BY w0 w g bN bM b g8 m F D v X) (hF : F 2 = some b) (hD : D.size ≤ 9999) :
    Calls Tryz.prog 14 #[.pointer (some ⟨g, 0, none⟩), rootC 2, .int .i64 2, .int .i64 0, .int .i64 9999] w fun e w' => e = .returned (.tuple #[.string D, .bool true, .int .i64 0]) ∧ Below w.heap.size w w' := by
  obtain ⟨n, h1, h2, h3, h4⟩ := h.nd
  have := read_calls g bN bM 2 F m b n 2 2 w h.fs ⟨by decide, by decide⟩ hF h1 h2 h4 (by rw [h3]; exact hD)
  rw [h3] at this
  exact this
theorem BY.sized (h : BY w0 w g bN bM b g8 m F D v X) (hF : F 2 = some b) (hm : m ≤ 800000) (hD : D.size ≤ 8000) (C : Nat) (size : Int) (hs : size = C) (hC : C ≤ 8000) :
    Calls Tryz.prog 12 #[.pointer (some ⟨g, 0, none⟩), rootC 2, .int .i64 2, setV false true 0 size, .slice none 0 0] w fun e w' => e = .returned (.int .i64 0) ∧ BY w0 w' g bN bM b g8 (m + 1) F (cutB D C) v X := by
  subst hs
  obtain ⟨n, h1, h2, h3, h4⟩ := h.nd
  refine (setattr_size g bN bM 2 F m b n 2 2 C w h.fs hm ⟨by decide, by decide⟩ hF h1 h2 h4 (by rw [h3]; exact hD) hC).mono ?_
  rintro e w' ⟨e1, ⟨n', q1, q2⟩, q3, q4⟩
  exact ⟨e1, h.fsop q3 q1 (by rw [q2.kind, h2]) (by rw [q2.data, h3]) q2.size q4⟩
end
theorem cut_list (d : ByteArray) (n : Nat) : (cutB d n).data.toList = (d.data.toList ++ List.replicate (n - d.size) 0).take n := by
  have hl : d.data.toList.length = d.size := by rw [← Lib.size_eq]
  unfold cutB
  split
  · rename_i h
    have e : n - d.size = 0 := by omega
    rw [e]
    simp
  · rename_i h
    rw [List.take_of_length_le (by rw [List.length_append, List.length_replicate, hl]; omega)]
    simp [rep_eq]
theorem fin_list (D : ByteArray) (C : Nat) (hD : D.size ≤ 4000) (hC : C ≤ 4000) : (cutB (cutB D C) 4000).data.toList = ovL (D.data.toList ++ List.replicate (4000 - D.size) 0) C (List.replicate 4000 0) (4000 - C) := by
  have hl : D.data.toList.length = D.size := by rw [← Lib.size_eq]
  rw [cut_list, cutB_size, cut_list]
  have h1 : ((D.data.toList ++ List.replicate (C - D.size) (0 : UInt8)).take C).length = C := by rw [List.length_take, List.length_append, List.length_replicate, hl]; omega
  rw [List.take_of_length_le (by rw [List.length_append, h1, List.length_replicate]; omega)]
  unfold ovL
  have h2 : (D.data.toList ++ List.replicate (4000 - D.size) (0 : UInt8)).drop (C + (4000 - C)) = [] := by
    apply List.drop_of_length_le
    rw [List.length_append, List.length_replicate, hl]; omega
  rw [h2, List.append_nil]
  congr 1
  · rw [List.take_append, List.take_append, List.take_replicate, List.take_replicate, hl]
    congr 2
    omega
  · rw [List.take_replicate]
    congr 1
    omega
theorem of_list {D : ByteArray} {X : List UInt8} (h : D.data.toList = X) : (⟨X.toArray⟩ : ByteArray) = D := by
  subst h
  cases D
  simp
end Go.Proofs.YtlnfadlgjcnngaaGreat.Co
