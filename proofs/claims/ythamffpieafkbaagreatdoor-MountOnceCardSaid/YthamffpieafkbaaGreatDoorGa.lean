/- Events for walks by hand: a whole block made, a block stored into; the world behind is a letter of which the block, and that nothing else has turned, are known. Events for walks by hand: a new block for any value; append where there is room. xdr.Writer: what each of its functions puts behind what is there. -/
import Derived.Test.YthamffpieafkbaaGreatDoorWMore
import Derived.Lib.Hide
import Derived.ArgAppend
import Derived.Laws.IdiomStrings
import Derived.Test.YthamffpieafkbaaGreatDoorProg
import Derived.Lib.AppendStr
import Derived.Laws.MathBits
import Derived.Lib.UnsafeStr
import Derived.Deep.RegionLaw
import Derived.Laws.AppendOwn
import Derived.Laws.Pointers
import Derived.RegionTactic
import Derived.RegionCalls
import Derived.KernelRfl
namespace Go.Proofs.YthamffpieafkbaaGreatDoor.Lb
open Go.RowKit Go.Proofs.YthamffpieafkbaaGreatDoorW.PrintWords Go.Proofs.YthamffpieafkbaaGreatDoorW.PrintLast Go.Proofs.YthamffpieafkbaaGreatDoorW.PrintMore

section
variable {P : Program} {ops : Array Oper} {rest : List Oper} {o : Oper} {a : Act} {Q : Exit → Act → World → Prop}
/-- a store into a block that is known whole: some of its cells from off on -/
theorem store_part {W : World} (hgd : o.guard = none) (hN : o.dst = none) (t : TypeId) (p x : Operand) (ho : o.op = .store t p x) {g off : Nat} {e : TypeId} {cur : Array Value} {u : Value} (seg : List Value)
    (haddr : a.eval p = .pointer (some ⟨g, off, none⟩)) (hx : a.eval x = u) (hu : u.cells.toList = seg) (hh : W.heap[g]? = some (.cells cur e (0, 0))) (ht : (P.info? t).map (·.size) = some seg.length)
    (hfit : off + seg.length ≤ cur.size) (h1 : ∀ q ∈ seg, q.oneCell' = true)
    (h : ∀ w1 cur', w1.heap[g]? = some (.cells cur' e (0, 0)) → cur'.toList = cur.toList.take off ++ seg ++ cur.toList.drop (off + seg.length) → W.grownBy w1 (some g) → wpList P ops Q rest a w1) : wpList P ops Q (o :: rest) a W := by
  obtain ⟨cur', h3, h4, h5⟩ := setCells_row seg off W cur hh hfit
  obtain ⟨s1, s2, s3, s4⟩ := setCells_same g seg off W
  refine wpList_plain hgd fun K hK => ?_
  have hrun : (Instr.storeAt t (.pointer (some ⟨g, off, none⟩)) u).run P W = .ok () (W.setCells g off seg) := run_store_run t u seg hh hu ht hfit h1
  unfold Oper.wp execOp
  simp only [ho, haddr, hx, Sem.run_bind, Sem.run_pure, Result.andThen_ok, hrun]
  show K (a.put o.dst undef) _
  rw [hN]
  exact hK a _ (h _ cur' h3 h5 ⟨s1, s2, s3, by rw [s4]; exact Nat.le_refl _, fun k _ hk => setCells_far seg off k (fun e => hk (by rw [e]))⟩)

/-- a store of one cell -/
theorem store_one {W : World} (hgd : o.guard = none) (hN : o.dst = none) (t : TypeId) (p x : Operand) (ho : o.op = .store t p x) {g off : Nat} {e : TypeId} {cur : Array Value} {u : Value}
    (haddr : a.eval p = .pointer (some ⟨g, off, none⟩)) (hx : a.eval x = u) (hu : u.cells = #[u]) (h1 : u.oneCell' = true) (hh : W.heap[g]? = some (.cells cur e (0, 0))) (ht : (P.info? t).map (·.size) = some 1)
    (hfit : off < cur.size) (h : ∀ w1, w1.heap[g]? = some (.cells (cur.setIfInBounds off u) e (0, 0)) → W.grownBy w1 (some g) → wpList P ops Q rest a w1) : wpList P ops Q (o :: rest) a W := by
  refine store_part hgd hN t p x ho (u := u) [u] haddr hx (by rw [hu]) hh (by rw [ht]; rfl) (by simp only [List.length_cons, List.length_nil]; omega) (by simpa using h1) fun w1 cur' hb hl hg => h w1 ?_ hg
  have e1 : cur' = cur.setIfInBounds off u := by
    apply Array.toList_inj.1
    rw [hl, Array.toList_setIfInBounds, List.set_eq_take_append_cons_drop, if_pos (by simpa using hfit)]
    simp
  rw [← e1]
  exact hb

/-- a store of a whole block -/
theorem store_whole {W : World} (hgd : o.guard = none) (hN : o.dst = none) (t : TypeId) (p x : Operand) (ho : o.op = .store t p x) {g : Nat} {e : TypeId} {cur new : Array Value}
    (haddr : a.eval p = .pointer (some ⟨g, 0, none⟩)) (hx : a.eval x = .agg new) (hh : W.heap[g]? = some (.cells cur e (0, 0))) (hs : new.size = cur.size) (ht : (P.info? t).map (·.size) = some new.size)
    (h1 : ∀ q ∈ new.toList, q.oneCell' = true)
    (h : ∀ w1, w1.heap[g]? = some (.cells new e (0, 0)) → W.grownBy w1 (some g) → wpList P ops Q rest a w1) : wpList P ops Q (o :: rest) a W := by
  refine store_part hgd hN t p x ho (u := .agg new) new.toList haddr hx rfl hh (by rw [ht]; simp) (by simp [hs]) h1 fun w1 cur' hb hl hg => h w1 ?_ hg
  have e1 : cur' = new := by
    apply Array.toList_inj.1
    rw [hl]
    have : cur.toList.drop (0 + new.toList.length) = [] := List.drop_eq_nil_of_le (by simp [hs])
    rw [this]
    simp
  rw [← e1]
  exact hb
end

theorem grown_below {B : Nat} {w0 W w1 : World} {g : Nat} (h : Below B w0 W) (hg : W.grownBy w1 (some g)) (hB : B ≤ W.heap.size) (hBg : B ≤ g) : Below B w0 w1 :=
  h.grown hg hB fun k hk => by injection hk with e; omega

theorem blk_grown' {w w1 : World} {g g' : Nat} {o : Obj} (h : w.heap[g]? = some o) (hg : w.grownBy w1 (some g')) (hne : g ≠ g') : w1.heap[g]? = some o := blk_grown h hg (fun e => hne (by injection e))
theorem blk_below {w w1 : World} {g : Nat} {o : Obj} (h : w.heap[g]? = some o) (hb : Below w.heap.size w w1) : w1.heap[g]? = some o := (hb.block g (blk_lt h)).trans h
theorem R_grown {α : Type} {d : Kd α} {e : Nat} {w w1 : World} {base : Nat} {ok : Nat → Prop} {v : Value} {xs : List α} {g t : Nat} {cells : Array Value} (h : d.R e w base ok v xs) (hg : w.grownBy w1 (some g))
    (hb : w.heap[g]? = some (.cells cells t (0, 0))) (ht : ∀ q, q ∈ e :: d.E → q ≠ t) : d.R e w1 base ok v xs :=
  Kd.R_mono (Kd.R_grown (Kd.R_types h hb ht) hg (fun _ hk e => hk.2 (by injection e))) (fun _ hk => hk.1)
end Go.Proofs.YthamffpieafkbaaGreatDoor.Lb

namespace Go.Proofs.YthamffpieafkbaaGreatDoor.Lb
open Go.RowKit Go.Proofs.YthamffpieafkbaaGreatDoorW.PrintWords Go.Proofs.YthamffpieafkbaaGreatDoorW.PrintLast Go.Proofs.YthamffpieafkbaaGreatDoorW.PrintMore

section
variable {P : Program} {ops : Array Oper} {rest : List Oper} {o : Oper} {a : Act} {Q : Exit → Act → World → Prop}
theorem alloc_event {W : World} (hgd : o.guard = none) {v : Nat → Value} {cs : Array Value} {t : TypeId} {fr : Nat × Nat}
    (hrun : (execOp a.eval o).run P W = .ok (.value (v W.heap.size)) (W.alloc (.cells cs t fr)))
    (h : ∀ g, g = W.heap.size → ∀ w1, w1.heap[g]? = some (.cells cs t fr) → Below W.heap.size W w1 → wpList P ops Q rest (a.put o.dst (v g)) w1) : wpList P ops Q (o :: rest) a W :=
  Kd.event_run hgd hrun (h _ rfl _ (blk_new W _) (below_alloc (Below.refl _ _) _))

theorem drew_alloc_event {W : World} (hgd : o.guard = none) {v : Nat → Value} {cs : Array Value} {t : TypeId} {fr : Nat × Nat}
    (hrun : (execOp a.eval o).run P W = .ok (.value (v W.heap.size)) (W.drew.alloc (.cells cs t fr)))
    (h : ∀ g, g = W.heap.size → ∀ w1, w1.heap[g]? = some (.cells cs t fr) → Below W.heap.size W w1 → wpList P ops Q rest (a.put o.dst (v g)) w1) : wpList P ops Q (o :: rest) a W :=
  Kd.event_run hgd hrun (h _ rfl _ (blk_new W.drew _) ⟨rfl, rfl, rfl, by simp, fun k hk => heap_alloc_old W.drew _ hk⟩)

/-- '[]byte(s)' -/
theorem bytes_event {W : World} (hgd : o.guard = none) (src dst e : TypeId) (s : ByteArray) (x : Operand) (ho : o.op = .convert src dst x) (hx : a.eval x = .string s)
    (hs : P.underlying src = some .string) (hd : P.underlying dst = some (.slice e)) (he : P.underlying e = some (.int .u8))
    (h : ∀ g cap row fr w1, g = W.heap.size → w1.heap[g]? = some (.cells row e fr) → (∀ (j : Nat) x, s.data.toList[j]? = some x → row[j]? = some (.int .u8 (x.toNat : Int))) → Below W.heap.size W w1 → wpList P ops Q rest (a.put o.dst (.slice (some ⟨g, 0, none⟩) s.size cap)) w1) :
    wpList P ops Q (o :: rest) a W := by
  refine wpList_plain hgd fun K hK => ?_
  have hrun := run_bytes_of_string (P := P) W src dst e s hs hd he
  unfold Oper.wp
  simp only [execOp, ho, hx, Sem.run_bind, hrun, Result.andThen_ok, Sem.run_pure]
  refine hK _ _ (h _ _ _ _ _ rfl (blk_new W.drew _) (fun j x hj => ?_) ⟨rfl, rfl, rfl, by simp, fun k hk => heap_alloc_old W.drew _ hk⟩)
  have hj' : j < s.data.size := by have := (List.getElem?_eq_some_iff.1 hj).1; simpa using this
  rw [bytesRow_at s _ j hj']
  have := (List.getElem?_eq_some_iff.1 hj).2
  rw [← this]
  simp

/-- append of one cell where there is room -/
theorem append_one_room {W : World} (hgd : o.guard = none) (s x : Operand) (t : TypeId) (ho : o.op = .call { callee := .builtin .append, args := #[s, x], argTypes := #[t, t] })
    (e : TypeId) (h1 : P.underlying t = some (.slice e)) (hsz : (P.info? e).map (·.size) = some 1)
    {b n cap : Nat} (hs : a.eval s = .slice (some ⟨b, 0, none⟩) n cap) {ad : Addr} {c : Nat} {u : Value} (hx : a.eval x = .slice (some ad) 1 c) (hc : W.cell? ad = some u) (h1c : u.oneCell' = true)
    (hroom : n + 1 ≤ cap) {cur : Array Value} {te : TypeId} (hb : W.heap[b]? = some (.cells cur te (0, 0))) (hcur : n < cur.size)
    (h : ∀ w1, w1.heap[b]? = some (.cells (cur.setIfInBounds n u) te (0, 0)) → W.grownBy w1 (some b) → wpList P ops Q rest (a.put o.dst (.slice (some ⟨b, 0, none⟩) (n + 1) cap)) w1) : wpList P ops Q (o :: rest) a W := by
  obtain ⟨i, hi, hz⟩ := Option.map_eq_some_iff.1 hsz
  have hz' : i.size = 1 := hz
  have hrun := run_append_room_cells (P := P) W t o.type e i h1 hi b 0 n cap ad 1 c [u] (by rw [hz']; rfl) (fun j v hj => by
      have e0 : j = 0 := by have := (List.getElem?_eq_some_iff.1 hj).1; simpa using this
      subst e0
      simp at hj
      subst hj
      have e2 : ad.add 0 = ad := by unfold Addr.add; split <;> simp_all
      rw [e2]; exact hc) (fun v hv => by simp at hv; subst hv; exact h1c) hroom
    (fun j hj => by have e0 : j = 0 := by simpa using hj
                    subst e0; rw [hz']; simp [World.cell?, hb]; omega) (fun j hj => by have e0 : j = 0 := by simpa using hj
                                                                                       subst e0; rw [hz']; simp [World.frozen?, hb])
  rw [hz'] at hrun
  simp only [Nat.mul_one, Nat.zero_add] at hrun
  obtain ⟨cur', h3, h4, h5⟩ := setCells_row [u] n W cur hb (by simp; omega)
  obtain ⟨s1, s2, s3, s4⟩ := setCells_same b [u] n W
  have e1 : cur' = cur.setIfInBounds n u := by
    apply Array.toList_inj.1
    rw [h5, Array.toList_setIfInBounds, List.set_eq_take_append_cons_drop, if_pos (by simpa using hcur)]
    simp
  refine wpList_plain hgd fun K hK => ?_
  unfold Oper.wp
  simp only [execOp, ho, resolve, invoke, builtin, Sem.run_bind, Sem.run_pure, Result.andThen_ok, List.map_toArray, List.map_cons, List.map_nil, hs, hx, hrun]
  exact hK _ _ (h _ (by rw [← e1]; exact h3) ⟨s1, s2, s3, by rw [s4]; exact Nat.le_refl _, fun k _ hk => setCells_far [u] n k (fun e => hk (by rw [e]))⟩)
end
theorem setCell_block (w : World) (g i : Nat) (cur : Array Value) (t : TypeId) (v : Value) (h : w.heap[g]? = some (.cells cur t (0, 0))) : (w.setCell ⟨g, i, none⟩ v).heap[g]? = some (.cells (cur.setIfInBounds i v) t (0, 0)) := by
  rw [setCell_eq_setRow w g i cur t (0, 0) v h]
  exact setRow_heap w g cur _ t (0, 0) h

theorem setCell_grown (w : World) (g i : Nat) (cur : Array Value) (t : TypeId) (v : Value) (h : w.heap[g]? = some (.cells cur t (0, 0))) : w.grownBy (w.setCell ⟨g, i, none⟩ v) (some g) := by
  rw [setCell_eq_setRow w g i cur t (0, 0) v h]
  exact ⟨rfl, rfl, rfl, by simp [World.setRow], fun k _ hk => setRow_other w g k _ (fun e => hk (by rw [e]))⟩

theorem grown_trans {a b c : World} {r : Option Nat} (h : a.grownBy b r) (k : b.grownBy c r) : a.grownBy c r :=
  ⟨k.os.trans h.os, k.tape.trans h.tape, k.output.trans h.output, Nat.le_trans h.size k.size, fun i hi hn => (k.block i (Nat.lt_of_lt_of_le hi h.size) hn).trans (h.block i hi hn)⟩
theorem below_drew (w : World) : Below w.heap.size w w.drew := ⟨rfl, rfl, rfl, Nat.le_refl _, fun _ _ => rfl⟩
theorem drew_below {W w4 : World} (h : Below W.drew.heap.size W.drew w4) : Below W.heap.size W w4 := ⟨h.os, h.tape, h.output, h.size, fun k hk => h.block k hk⟩

theorem own_some {w : World} {B e n : Nat} {v : Value} {xs : List Value} (h : w.ownsRow B e 1 v n xs) (hn : 0 < n) : ∃ k cap, v = .slice (some ⟨k, 0, none⟩) n cap := by
  obtain ⟨_, h2⟩ := h
  rcases h2 with ⟨_, h2⟩ | ⟨k, cap, row, e, _⟩
  · omega
  · exact ⟨k, cap, e⟩
end Go.Proofs.YthamffpieafkbaaGreatDoor.Lb

namespace Go.Proofs.YthamffpieafkbaaGreatDoor.Xw
open Go.RowKit Go.Lib Go.Proofs.YthamffpieafkbaaGreatDoorW.PrintWords Go.Proofs.YthamffpieafkbaaGreatDoorW.PrintLast Go.Proofs.YthamffpieafkbaaGreatDoorW.PrintMore
set_option linter.unusedVariables false
set_option linter.unusedSimpArgs false

/-- the lowest bytes of a number, the highest first -/
def be (n : Int) : Nat → List UInt8
  | 0 => []
  | k + 1 => UInt8.ofNat ((n / 256 ^ k) % 256).toNat :: be n k
theorem be_length (n : Int) : ∀ k, (be n k).length = k
  | 0 => rfl
  | k + 1 => by rw [be, List.length_cons, be_length n k]

theorem set_same {cur : Array Value} {v : Value} (h : cur[0]? = some v) : cur.setIfInBounds 0 v = cur := by
  apply Array.ext_getElem?
  intro i
  rw [Array.getElem?_setIfInBounds]
  split
  · rename_i e; subst e; split
    · exact h.symm
    · rename_i hn; exact absurd (Array.getElem?_eq_some_iff.1 h).1 hn
  · rfl

theorem set_set (cur : Array Value) (a b : Value) : (cur.setIfInBounds 0 a).setIfInBounds 0 b = cur.setIfInBounds 0 b := by simp

/-- blocks of other types than t and uint8 stay -/
def Frame (t : TypeId) (w w' : World) : Prop := ∀ (k : Nat) (cs : Array Value) (t' : TypeId) (fr : Nat × Nat), w.heap[k]? = some (.cells cs t' fr) → t' ≠ t → t' ≠ 5 → w'.heap[k]? = some (.cells cs t' fr)
theorem Frame.trans {t : TypeId} {a b c : World} (h : Frame t a b) (k : Frame t b c) : Frame t a c := fun i cs t' fr h1 h2 h3 => k i cs t' fr (h i cs t' fr h1 h2 h3) h2 h3
theorem frame_below {t : TypeId} {w w' : World} (h : Below w.heap.size w w') : Frame t w w' := fun i cs t' fr h1 _ _ => Lb.blk_below h1 h
theorem frame_blk {t : TypeId} {w w' : World} {g : Nat} {cur : Array Value} {fr0 : Nat × Nat} (hb : w.heap[g]? = some (.cells cur t fr0)) (h : w.grownBy w' (some g)) : Frame t w w' := fun i cs t' fr h1 h2 _ => by
  refine Lb.blk_grown' h1 h (fun e => ?_)
  rw [e, hb] at h1
  injection h1 with h1
  injection h1 with _ e2 _
  exact h2 e2.symm
theorem frame_own {t : TypeId} {w w' : World} {B n : Nat} {v : Value} {xs : List Value} (ho : w.ownsRow B 5 1 v n xs) (h : w.grownBy w' v.ownBlock) : Frame t w w' := fun i cs t' fr h1 _ h3 => by
  refine blk_grown h1 h (fun e => ?_)
  obtain ⟨_, h2⟩ := ho
  rcases h2 with ⟨h2, _⟩ | ⟨k, cap, row, e2, hk, hr, _⟩
  · rw [h2] at e; cases e
  · rw [e2] at e
    injection e with e
    have e' : i = k := e
    rw [← e', h1] at hr
    injection hr with hr
    injection hr with _ e3 _
    exact h3 e3
/-- what lies below B, and blocks of other types, stay -/
structure Fr (t : TypeId) (B : Nat) (w w' : World) : Prop where
  bel : Below B w w'
  frm : Frame t w w'
theorem Fr.refl (t : TypeId) (B : Nat) (w : World) : Fr t B w w := ⟨Below.refl B w, fun _ _ _ _ h _ _ => h⟩
theorem Fr.trans {t : TypeId} {B : Nat} {a b c : World} (h : Fr t B a b) (k : Fr t B b c) : Fr t B a c := ⟨h.bel.trans k.bel, h.frm.trans k.frm⟩
theorem Fr.of {t : TypeId} {B : Nat} {w w' : World} (h : Below w.heap.size w w') (hB : B ≤ w.heap.size) : Fr t B w w' := ⟨h.mono hB, frame_below h⟩

/-- a block whose first cell is a writer's bytes -/
structure WS (B : Nat) (w : World) (g : Nat) (cur : Array Value) (t : TypeId) (v : Value) (out : List UInt8) : Prop where
  blk : w.heap[g]? = some (.cells cur t (0, 0))
  at0 : cur[0]? = some v
  own : w.ownsRow B 5 1 v out.length (byteCells out)
  ge : B ≤ g
  ne : t ≠ 5

theorem WS.lt {B : Nat} {w : World} {g : Nat} {cur : Array Value} {t : TypeId} {v : Value} {out : List UInt8} (h : WS B w g cur t v out) : B ≤ w.heap.size := by have := blk_lt h.blk; have := h.ge; omega
theorem WS.pos {B : Nat} {w : World} {g : Nat} {cur : Array Value} {t : TypeId} {v : Value} {out : List UInt8} (h : WS B w g cur t v out) : 0 < cur.size := by
  have := (Array.getElem?_eq_some_iff.1 h.at0).1; exact this
theorem WS.cell {B : Nat} {w : World} {g : Nat} {cur : Array Value} {t : TypeId} {v : Value} {out : List UInt8} (h : WS B w g cur t v out) : w.cell? ⟨g, 0, none⟩ = some v := (blk_cell h.blk 0).trans h.at0

theorem WS.step {B : Nat} {w w' : World} {g : Nat} {cur : Array Value} {t : TypeId} {v : Value} {out : List UInt8} (h : WS B w g cur t v out) (hb : Below w.heap.size w w') : WS B w' g cur t v out where
  blk := Lb.blk_below h.blk hb
  at0 := h.at0
  own := by
    obtain ⟨h1, h2⟩ := h.own
    refine ⟨h1, ?_⟩
    rcases h2 with h2 | ⟨k, cap, row, e, hk, hr, rest⟩
    · exact .inl h2
    · exact .inr ⟨k, cap, row, e, hk, Lb.blk_below hr hb, rest⟩
  ge := h.ge
  ne := h.ne

theorem WS.appended {B : Nat} {w w' : World} {g : Nat} {cur : Array Value} {t : TypeId} {v : Value} {out : List UInt8} (h : WS B w g cur t v out) (hg : w.grownBy w' v.ownBlock) : w'.heap[g]? = some (.cells cur t (0, 0)) := by
  refine blk_grown h.blk hg (fun e => ?_)
  obtain ⟨h1, h2⟩ := h.own
  rcases h2 with ⟨h2, _⟩ | ⟨k, cap, row, e2, hk, hr, rest⟩
  · rw [h2] at e; cases e
  · rw [e2] at e
    injection e with e
    have hr' := hr
    rw [show k = g from e.symm] at hr'
    have := h.blk.symm.trans hr'
    injection this with this
    injection this with _ ht _
    exact h.ne ht

/-- what is put into the first cell behind an append -/
theorem WS.stored {B : Nat} {w w1 w2 : World} {g : Nat} {cur : Array Value} {t : TypeId} {v v' : Value} {out out' : List UInt8} (h : WS B w g cur t v out) {m : Nat} (ho : w1.ownsRow B 5 1 v' m (byteCells out')) (hm : m = out'.length) (hg1 : w.grownBy w1 v.ownBlock)
    (hb : w2.heap[g]? = some (.cells (cur.setIfInBounds 0 v') t (0, 0))) (hg2 : w1.grownBy w2 (some g)) : WS B w2 g (cur.setIfInBounds 0 v') t v' out' where
  blk := hb
  at0 := by rw [Array.getElem?_setIfInBounds, if_pos rfl, if_pos h.pos]
  own := by
    subst hm
    obtain ⟨h1, h2⟩ := ho
    refine ⟨h1, ?_⟩
    rcases h2 with h2 | ⟨k, cap, row, e, hk, hr, rest⟩
    · exact .inl h2
    · refine .inr ⟨k, cap, row, e, hk, Lb.blk_grown' hr hg2 (fun e => ?_), rest⟩
      have hx := h.appended hg1
      rw [← e] at hx
      have := hx.symm.trans hr
      injection this with this
      injection this with _ ht _
      exact h.ne ht
  ge := h.ge
  ne := h.ne

theorem own_cells {w : World} {B e n : Nat} {v : Value} {xs : List Value} (h : w.ownsRow B e 1 v n xs) : v.cells = #[v] := by
  obtain ⟨_, h2⟩ := h
  rcases h2 with ⟨rfl, _⟩ | ⟨k, cap, row, rfl, _⟩
  · rfl
  · rfl
theorem own_one {w : World} {B e n : Nat} {v : Value} {xs : List Value} (h : w.ownsRow B e 1 v n xs) : v.oneCell' = true := by
  obtain ⟨_, h2⟩ := h
  rcases h2 with ⟨rfl, _⟩ | ⟨k, cap, row, rfl, _⟩
  · rfl
  · rfl

theorem own_back {w : World} {B : Nat} {v : Value} {l : List UInt8} (h : w.ownsRow B 5 1 v l.length (byteCells l)) : (convert 56 9 v).run Tryz.prog w = .ok (.string ⟨l.toArray⟩) w := by
  obtain ⟨h1, h2⟩ := h
  rcases h2 with ⟨rfl, h0⟩ | ⟨k, cap, row, rfl, hk, hr, hn, hm, hs, ht⟩
  · obtain rfl : l = [] := List.eq_nil_of_length_eq_zero h0
    kernel_rfl
  · refine run_convert_bytes_back (P := Tryz.prog) w 56 9 5 ⟨k, 0, none⟩ cap l Tryz.underlying56 Tryz.underlying5 Tryz.underlying9 (fun j hj => ?_)
    have e : (⟨k, 0, none⟩ : Addr).add j = ⟨k, j, none⟩ := by unfold Addr.add; split <;> simp_all
    rw [e, blk_cell hr j, ← Array.getElem?_toList]
    have h3 : (row.toList.take (l.length * 1))[j]? = (byteCells l)[j]? := by rw [ht]
    rw [List.getElem?_take, if_pos (by omega)] at h3
    rw [h3]
    simp [byteCells, hj]

theorem own_below {B : Nat} {w0 w w' : World} {e : TypeId} {v : Value} {n : Nat} {xs : List Value} (ho : w.ownsRow B e 1 v n xs) (hb : Below B w0 w) (hB : B ≤ w.heap.size) (hg : w.grownBy w' v.ownBlock) : Below B w0 w' := by
  refine hb.grown hg hB (fun k hk => ?_)
  obtain ⟨_, h2⟩ := ho
  rcases h2 with ⟨h2, _⟩ | ⟨g, cap, row, e2, hge, _⟩
  · rw [h2] at hk; cases hk
  · rw [e2] at hk; injection hk with hk; have : g = k := hk; omega

theorem uint8_info : ((Tryz.prog).info? 5).map (fun i => (i.zero, i.size, i.bytes)) = some (some (.int .u8 0), 1, 1) := by kernel_rfl

section
variable {ops : Array Oper} {rest : List Oper} {o : Oper} {a : Act} {Q : Exit → Act → World → Prop}
/-- 'w.out = append(w.out, c)': the append -/
theorem byte_event {W : World} (hgd : o.guard = none) (s x : Operand) (ho : o.op = .call { callee := .builtin .append, args := #[s, x], argTypes := #[56, 56] }) {B : Nat} {v : Value} {out : List UInt8}
    (hs : a.eval s = v) (hown : W.ownsRow B 5 1 v out.length (byteCells out)) {ad : Addr} {c : UInt8} (hx : a.eval x = .slice (some ad) 1 1) (hc : W.cell? ad = some (.int .u8 (c.toNat : Int))) (hB : B ≤ W.heap.size) (hlen : out.length ≤ 1000000000)
    (h : ∀ v' w', w'.ownsRow B 5 1 v' (out ++ [c]).length (byteCells (out ++ [c])) → W.grownBy w' v.ownBlock → wpList Tryz.prog ops Q rest (a.put o.dst v') w') : wpList Tryz.prog ops Q (o :: rest) a W := by
  obtain ⟨i, hi, hz⟩ := Option.map_eq_some_iff.1 uint8_info
  simp only [Prod.mk.injEq] at hz
  refine wpList_append_own W hgd s x 56 ho B 5 i (.int .u8 0) 1 1 Tryz.underlying56 hi hz.1 hz.2.1 hz.2.2 rfl (by decide) v out.length (byteCells out) hs hown ad 1 1 [.int .u8 (c.toNat : Int)] hx rfl ?_ ?_ (by unfold maxLen; omega) (by omega) hB ?_
  · intro j u hj
    match j, hj with
    | 0, hj =>
      simp at hj; subst hj
      have e2 : ad.add 0 = ad := by unfold Addr.add; split <;> simp_all
      rw [e2]; exact hc
    | (j + 1), hj => simp at hj
  · intro u hu; simp at hu; subst hu; rfl
  · intro v' w' ho' hg _
    exact h v' w' (by rw [List.length_append, byteCells_append]; exact ho') hg

/-- 'w.out = append(w.out, s...)': the append -/
theorem text_event {W : World} (hgd : o.guard = none) (s x : Operand) (ho : o.op = .call { callee := .builtin .append, args := #[s, x], argTypes := #[56, 9] }) {B : Nat} {v : Value} {out : List UInt8}
    (hs : a.eval s = v) (hown : W.ownsRow B 5 1 v out.length (byteCells out)) {u : ByteArray} (hx : a.eval x = .string u) (hB : B ≤ W.heap.size) (hlen : out.length + u.size ≤ 1000000000)
    (h : ∀ v' w', w'.ownsRow B 5 1 v' (out ++ u.data.toList).length (byteCells (out ++ u.data.toList)) → W.grownBy w' v.ownBlock → wpList Tryz.prog ops Q rest (a.put o.dst v') w') : wpList Tryz.prog ops Q (o :: rest) a W := by
  obtain ⟨i, hi, hz⟩ := Option.map_eq_some_iff.1 uint8_info
  simp only [Prod.mk.injEq] at hz
  refine wpList_append_own_string W hgd s x 56 9 ho B 5 i Tryz.underlying56 Tryz.underlying9 hi hz.1 hz.2.1 hz.2.2 v out.length (byteCells out) hs hown u hx (by unfold maxLen; omega) (by omega) hB ?_
  intro v' w' ho' hg _
  exact h v' w' (by rw [List.length_append, byteCells_append, show u.data.toList.length = u.size from (by simp : u.data.toList.length = u.data.size)]; exact ho') hg
end

theorem WS.drew {B : Nat} {w : World} {g : Nat} {cur : Array Value} {t : TypeId} {v : Value} {out : List UInt8} (h : WS B w g cur t v out) : WS B w.drew g cur t v out := h.step ⟨rfl, rfl, rfl, Nat.le_refl _, fun _ _ => rfl⟩
theorem WS.alloc {B : Nat} {w : World} {g : Nat} {cur : Array Value} {t : TypeId} {v : Value} {out : List UInt8} (h : WS B w g cur t v out) (o : Obj) : WS B (w.alloc o) g cur t v out := h.step (below_alloc (Below.refl _ _) _)

section
variable {ops : Array Oper} {o : Oper} {a : Act} {K : Act → World → Prop} {Q : Exit → Act → World → Prop} {E : Prop}
/-- the append as a step of a region that draws -/
theorem byte_step {W : World} (hgd : o.guard = none) (s x : Operand) (ho : o.op = .call { callee := .builtin .append, args := #[s, x], argTypes := #[56, 56] }) {B : Nat} {v : Value} {out : List UInt8}
    (hs : a.eval s = v) (hown : W.ownsRow B 5 1 v out.length (byteCells out)) {ad : Addr} {c : UInt8} (hx : a.eval x = .slice (some ad) 1 1) (hc : W.cell? ad = some (.int .u8 (c.toNat : Int))) (hB : B ≤ W.heap.size) (hlen : out.length ≤ 1000000000)
    (h : ∀ v' w', w'.ownsRow B 5 1 v' (out ++ [c]).length (byteCells (out ++ [c])) → W.grownBy w' v.ownBlock → K (a.put o.dst v') w') : if Region.wanted o (yielded ops a.tmps) = true then Oper.wp Tryz.prog o a W K Q else E := by
  rw [if_pos (show Region.wanted o (yielded ops a.tmps) = true by simp [Region.wanted, hgd])]
  obtain ⟨i, hi, hz⟩ := Option.map_eq_some_iff.1 uint8_info
  simp only [Prod.mk.injEq] at hz
  refine wp_append_own W s x 56 ho B 5 i (.int .u8 0) 1 1 Tryz.underlying56 hi hz.1 hz.2.1 hz.2.2 rfl (by decide) v out.length (byteCells out) hs hown ad 1 1 [.int .u8 (c.toNat : Int)] hx rfl ?_ ?_ (by unfold maxLen; omega) (by omega) hB ?_
  · intro j u hj
    match j, hj with
    | 0, hj =>
      simp at hj; subst hj
      have e2 : ad.add 0 = ad := by unfold Addr.add; split <;> simp_all
      rw [e2]; exact hc
    | (j + 1), hj => simp at hj
  · intro u hu; simp at hu; subst hu; rfl
  · intro v' w' ho' hg _
    exact h v' w' (by rw [List.length_append, byteCells_append]; exact ho') hg
end

theorem new_cell (w : World) (x : Value) (t : TypeId) : (w.drew.alloc (.cells #[x] t)).cell? ⟨w.heap.size, 0, none⟩ = some x := by
  have := World.cell?_alloc_mark w.drew #[x] t (0, 0) 0
  exact this
theorem new_cell' (w : World) (x : Value) (t : TypeId) : ((w.alloc (.cells #[x] t)).drew).cell? ⟨w.heap.size, 0, none⟩ = some x := by
  rw [World.cell?_drew]
  have := World.cell?_alloc_mark w #[x] t (0, 0) 0
  exact this

set_option maxRecDepth 100000 in
set_option maxHeartbeats 4000000 in
theorem number_calls (n : Int) (k B g : Nat) (cur : Array Value) (t : TypeId) (v : Value) (out : List UInt8) (w : World) (h : WS B w g cur t v out) (hk : k ≤ 8) (hlen : out.length ≤ 1000000) :
    Calls Tryz.prog 75 #[.pointer (some ⟨g, 0, none⟩), .int .i64 n, .int .i64 k] w fun e w' => e = .returned (.tuple #[]) ∧ ∃ v', WS B w' g (cur.setIfInBounds 0 v') t v' (out ++ be n k) ∧ Fr t B w w' := by
  go_enter Tryz.func75, Tryz.ntmps75
  go_wp2_with fail
  go_loopg [6] k (fun gk s6 wr => s6 = .int .i64 ((gk : Int) - 1) ∧ ∃ (acc : List UInt8) (v' : Value), Aside0 (acc ++ be n gk = out ++ be n k) ∧ gk ≤ k ∧ acc.length + gk ≤ 1000000 + k ∧ Aside0 (WS B wr g (cur.setIfInBounds 0 v') t v' acc) ∧ Aside0 (Fr t B w wr))
  case atStart => exact ⟨by first | rfl | (congr 1; unfold wrap64; omega), out, v, ⟨rfl⟩, Nat.le_refl _, by omega, ⟨by rw [show cur.setIfInBounds 0 v = cur from set_same h.at0]; exact h⟩, ⟨Fr.refl _ _ _⟩⟩
  case round =>
    obtain ⟨rfl, acc, v', HA, hgk, hal, HS, HB⟩ := hrel
    cases gk with
    | zero =>
      have hout := HA.out
      rw [be, List.append_nil] at hout
      subst hout
      go_wp2
      go_end0
      exact ⟨rfl, v', HS.out, HB.out⟩
    | succ j =>
      have e1 : (((j + 1 : Nat) : Int) - 1) = (j : Int) := by omega
      rw [e1]
      obtain ⟨y, hy⟩ : ∃ y : Nat, y = 8 * j := ⟨_, rfl⟩
      obtain ⟨c, hc⟩ : ∃ c : UInt8, c = UInt8.ofNat ((n / 256 ^ j) % 256).toNat := ⟨_, rfl⟩
      have hcv : IntKind.u8.wrap (n / 2 ^ y) = (c.toNat : Int) := by
        rw [IntKind.wrap_u8]
        rw [hc, hy, Int.pow_mul, show ((2 : Int) ^ 8) = 256 by decide]
        have h1 := Int.emod_nonneg (n / 256 ^ j) (show (256 : Int) ≠ 0 by decide)
        have h2 := Int.emod_lt_of_pos (n / 256 ^ j) (show (0 : Int) < 256 by decide)
        rw [UInt8.toNat_ofNat']
        omega
      have hbe : acc ++ be n (j + 1) = (acc ++ [c]) ++ be n j := by rw [be, ← hc]; simp
      have hym : 8 * (j : Int) = (y : Int) := by omega
      have hy64 : (y : Int) ≤ 64 := by omega
      have hy0 : (0 : Int) ≤ (y : Int) := by omega
      have hwy : IntKind.i64.wrap (y : Int) = (y : Int) := by rw [IntKind.wrap_i64]; omega
      have HBE := Aside0.mk hbe
      have hc0 := HS.out.cell
      have hc0' : ∀ o, (wr.alloc o).cell? ⟨g, 0, none⟩ = some v' := fun o => (HS.out.alloc o).cell
      clear hy hc hbe e1
      go_wp2_with fail
      go_region_law (refine byte_step rfl (.tmp 17) (.tmp 23) rfl (B := B) (v := v') (out := acc) (c := c) rfl ?own rfl ?cel ?lt ?len ?_; (case own => first | exact (HS.out.drew.alloc _).own | exact (HS.out.alloc _).drew.own); (case cel => first | exact new_cell _ _ _ | exact new_cell' _ _ _); (case lt => first | exact (HS.out.drew.alloc _).lt | exact (HS.out.alloc _).drew.lt); (case len => omega); intro v2 w2 ho2 hg2; rw [show (acc ++ [c]).length = acc.length + 1 by simp] at ho2; obtain ⟨k2, cap2, rfl⟩ := Lb.own_some ho2 (by omega); have hST : Aside0 (∃ W1, WS B W1 g (cur.setIfInBounds 0 v') t v' acc ∧ W1.grownBy w2 v'.ownBlock ∧ Below wr.heap.size wr W1) := ⟨⟨_, (by first | exact HS.out.drew.alloc _ | exact (HS.out.alloc _).drew), hg2, (by first | exact Lb.drew_below (below_alloc (Below.refl _ _) _) | exact below_alloc (Below.refl _ _) _ | exact ⟨rfl, rfl, rfl, by simp, fun k hk => heap_alloc_old wr _ hk⟩)⟩⟩; have HO2 := Aside0.mk ho2; obtain ⟨W1, hW1, hgg, hbb⟩ := hST.out; have hb2 := hW1.appended hgg; have hc2 := (blk_cell hb2 0).trans hW1.at0; have hf2 := blk_frozen hb2 0; have HB2 := Aside0.mk hb2; clear ho2 hg2 hb2 hW1 hgg hbb)
      all_goals
        obtain ⟨W1, hW1, hgg, hbb⟩ := hST.out
        have hs := hW1.stored HO2.out (by simp) hgg (Lb.setCell_block w2 g 0 _ t _ HB2.out) (Lb.setCell_grown w2 g 0 _ t _ HB2.out)
        rw [set_set] at hs
        have HS2 := Aside0.mk hs
        have hbl2 := Lb.grown_below (own_below hW1.own (HB.out.bel.trans (hbb.mono HS.out.lt)) hW1.lt hgg) (Lb.setCell_grown w2 g 0 _ t (.slice (some ⟨k2, 0, none⟩) (acc.length + 1) cap2) HB2.out) (by have := hW1.lt; have := hgg.size; omega) h.ge
        have HBL2 : Aside0 (Fr t B w _) := ⟨⟨hbl2, ((HB.out.frm.trans (frame_below hbb)).trans (frame_own hW1.own hgg)).trans (frame_blk HB2.out (Lb.setCell_grown w2 g 0 _ t (.slice (some ⟨k2, 0, none⟩) (acc.length + 1) cap2) HB2.out))⟩⟩
        clear hbl2
        clear hW1 hgg hbb hs
        go_wp2
        go_roundg j
        case measure => omega
        case rel => exact ⟨by first | rfl | (congr 1; unfold wrap64; omega), acc ++ [c], _, ⟨HBE.out.symm.trans HA.out⟩, by omega, by simp; omega, HS2, HBL2⟩

theorem ptr_ne (g : Nat) (w : World) : (binOp .neq 126 (.pointer (some ⟨g, 0, none⟩)) (.pointer none)).run Tryz.prog w = .ok (.bool true) w := by kernel_rfl
theorem ptr_eq (g : Nat) (w : World) : (binOp .eql 126 (.pointer (some ⟨g, 0, none⟩)) (.pointer none)).run Tryz.prog w = .ok (.bool false) w := by kernel_rfl

set_option maxRecDepth 100000 in
theorem uint_calls (n : Int) (B g : Nat) (cur : Array Value) (t : TypeId) (v : Value) (out : List UInt8) (w : World) (h : WS B w g cur t v out) (hlen : out.length ≤ 1000000) :
    Calls Tryz.prog 50 #[.pointer (some ⟨g, 0, none⟩), .int .i64 n] w fun e w' => e = .returned (.tuple #[]) ∧ ∃ v', WS B w' g (cur.setIfInBounds 0 v') t v' (out ++ be n 4) ∧ Fr t B w w' := by
  have hn := number_calls n 4 B g cur t v out w h (by decide) hlen
  have hp := ptr_ne g
  clear h
  go_enter Tryz.func50, Tryz.ntmps50
  go_wp2_with (first | (go_at_call 75; refine hn.mono ?_; rintro e w1 ⟨rfl, hw⟩; have HW := Aside0.mk hw; clear hw hn))
  go_end0
  exact ⟨rfl, HW.out⟩

set_option maxRecDepth 100000 in
theorem hyper_calls (n : Int) (B g : Nat) (cur : Array Value) (t : TypeId) (v : Value) (out : List UInt8) (w : World) (h : WS B w g cur t v out) (hlen : out.length ≤ 1000000) :
    Calls Tryz.prog 51 #[.pointer (some ⟨g, 0, none⟩), .int .i64 n] w fun e w' => e = .returned (.tuple #[]) ∧ ∃ v', WS B w' g (cur.setIfInBounds 0 v') t v' (out ++ be n 8) ∧ Fr t B w w' := by
  have hn := number_calls n 8 B g cur t v out w h (by decide) hlen
  have hp := ptr_ne g
  clear h
  go_enter Tryz.func51, Tryz.ntmps51
  go_wp2_with (first | (go_at_call 75; refine hn.mono ?_; rintro e w1 ⟨rfl, hw⟩; have HW := Aside0.mk hw; clear hw hn))
  go_end0
  exact ⟨rfl, HW.out⟩

/-- how many noughts stand behind so many bytes -/
def padN (n : Nat) : Nat := (4 - n % 4) % 4
def fixB (s : List UInt8) : List UInt8 := s ++ List.replicate (padN s.length) 0

theorem bits_pad (n : Nat) (hn : n ≤ 9223372036854775807) : bits .and .i64 (-(n : Int)) 3 = (padN n : Int) := by
  have e : bits .and .i64 (-(n : Int)) 3 = (-(n : Int)) % 4 := by
    simp only [bits, BitVec.toNat_and, BitVec.toNat_ofInt]
    have h3 : (((3 : Int) % ((2 ^ IntKind.i64.bits : Nat) : Int)).toNat) = 2 ^ 2 - 1 := by decide
    rw [h3, Nat.and_two_pow_sub_one_eq_mod, IntKind.wrap_i64]
    have h4 : ((2 ^ IntKind.i64.bits : Nat) : Int) = 18446744073709551616 := by decide
    rw [h4]
    omega
  rw [e]
  unfold padN
  omega

set_option maxRecDepth 100000 in
theorem pad_calls (n : Nat) (hn : n ≤ 9223372036854775807) (w : World) : Calls Tryz.prog 76 #[.int .i64 n] w fun e w' => e = .returned (.int .i64 (padN n)) ∧ w' = w := by
  go_enter Tryz.func76, Tryz.ntmps76
  go_wp2
  go_ret
  have e : bits .and .i64 (-(n : Int)) 3 = (-(n : Int)) % 4 := by
    simp only [bits, BitVec.toNat_and, BitVec.toNat_ofInt]
    have h3 : (((3 : Int) % ((2 ^ IntKind.i64.bits : Nat) : Int)).toNat) = 2 ^ 2 - 1 := by decide
    rw [h3, Nat.and_two_pow_sub_one_eq_mod, IntKind.wrap_i64]
    have h4 : ((2 ^ IntKind.i64.bits : Nat) : Int) = 18446744073709551616 := by decide
    rw [h4]
    omega
  refine ⟨?_, rfl⟩
  show Ending.returned (Value.int .i64 (bits .and .i64 (-(n : Int)) 3)) = _
  rw [e]
  congr 2
  unfold padN
  omega

set_option maxRecDepth 100000 in
set_option maxHeartbeats 4000000 in
theorem fixed_calls (s : ByteArray) (B g : Nat) (cur : Array Value) (t : TypeId) (v : Value) (out : List UInt8) (w : World) (h : WS B w g cur t v out) (hlen : out.length + s.size ≤ 1000000) :
    Calls Tryz.prog 54 #[.pointer (some ⟨g, 0, none⟩), .string s] w fun e w' => e = .returned (.tuple #[]) ∧ ∃ v', WS B w' g (cur.setIfInBounds 0 v') t v' (out ++ fixB s.data.toList) ∧ Fr t B w w' := by
  have hp := ptr_eq g
  have hpad := pad_calls s.size (by omega)
  have H := Aside0.mk h
  have hc0 := h.cell
  clear h
  go_enter Tryz.func54, Tryz.ntmps54
  go_wp2_with (first
    | ((with_reducible refine gate_dst (N := 12) rfl ?_); refine text_event rfl (.tmp 10) (.tmp 11) rfl (B := B) (v := v) (out := out) rfl H.out.own rfl H.out.lt (by omega) ?_; intro v1 w1 ho1 hg1; have HO1 := Aside0.mk ho1; have HG1 := Aside0.mk hg1; have hx1 := H.out.appended hg1; have HX1 := Aside0.mk hx1; clear ho1 hg1 hx1 hc0)
    | ((with_reducible refine gate_store (t := 56) (p := 14) rfl ?_); refine Lb.store_one rfl rfl 56 (.tmp 14) (.tmp 12) rfl (u := v1) rfl rfl ?u ?u1 HX1.out (by kernel_rfl) H.out.pos ?_; (case u => exact own_cells HO1.out); (case u1 => exact own_one HO1.out); intro w2 hb2 hg2; have HS2 := Aside0.mk (H.out.stored HO1.out rfl HG1.out hb2 hg2); have HB2 : Aside0 (Fr t B w w2) := ⟨⟨Lb.grown_below (own_below H.out.own (Below.refl B w) H.out.lt HG1.out) hg2 (Nat.le_trans H.out.lt HG1.out.size) H.out.ge, (frame_own H.out.own HG1.out).trans (frame_blk HX1.out hg2)⟩⟩; clear hb2 hg2)
    | (go_at_call 76; refine (hpad _).mono ?_; rintro e w3 ⟨rfl, rfl⟩; clear hpad))
  have hlx : (out ++ s.data.toList).length = out.length + s.size := by rw [List.length_append, show s.data.toList.length = s.size from (by simp : s.data.toList.length = s.data.size)]
  have hlt : padN s.size < 4 := by unfold padN; omega
  obtain ⟨p, hpd⟩ : ∃ p, p = padN s.size := ⟨_, rfl⟩
  rw [← hpd] at hlt ⊢
  have HP := Aside0.mk hpd
  obtain ⟨o1, ho1⟩ : ∃ o1, o1 = out ++ s.data.toList := ⟨_, rfl⟩
  rw [← ho1] at hlx HS2
  have HO := Aside0.mk ho1
  clear hpd ho1 HG1 HX1 HO1
  go_loopg [18] p (fun gk s18 wr => ∃ i v', i + gk = p ∧ s18 = .int .i64 (i : Nat) ∧ Aside0 (WS B wr g (cur.setIfInBounds 0 v') t v' (o1 ++ List.replicate i 0)) ∧ Aside0 (Fr t B w wr))
  case atStart => exact ⟨0, v1, by omega, rfl, ⟨by rw [List.replicate_zero, List.append_nil]; exact HS2.out⟩, HB2⟩
  case round =>
    clear HS2 HB2
    obtain ⟨i, v', hi, rfl, HS, HB⟩ := hrel
    cases gk with
    | zero =>
      have hi' : i = p := by omega
      subst hi'
      have hlt' : ¬ ((i : Int) < (i : Int)) := by omega
      go_wp2
      go_end0
      refine ⟨rfl, ⟨v', ?_⟩, HB.out⟩
      have := HS.out
      rw [HO.out, List.append_assoc] at this
      rw [fixB, show s.data.toList.length = s.size from (by simp : s.data.toList.length = s.data.size), ← HP.out]
      exact this
    | succ j =>
      have hip : (i : Int) < (p : Int) := by omega
      have hc0 := HS.out.cell
      have hle : (o1 ++ List.replicate i (0 : UInt8)).length = out.length + s.size + i := by rw [List.length_append, hlx, List.length_replicate]
      have HLE := Aside0.mk hle
      clear hle
      go_wp2_with (first
        | ((with_reducible refine gate_dst (N := 25) rfl ?_); refine Lb.alloc_event ?hg (v := fun g => .slice (some ⟨g, 0, none⟩) 1 1) (cs := #[.int .u8 0]) (t := 5) (fr := (0, 0)) ?hr ?_; (case hg => rfl); (case hr => first | (go_simp; done) | (go_simp; rfl)); intro gb hgb w4 hx4 hb4; have HX4 := Aside0.mk hx4; have HB4 := Aside0.mk hb4; have HS4 := Aside0.mk (HS.out.step hb4); clear hx4 hb4 hgb hc0)
        | ((with_reducible refine gate_dst (N := 26) rfl ?_); refine byte_event rfl (.tmp 24) (.tmp 25) rfl (B := B) (v := v') (out := o1 ++ List.replicate i 0) (c := 0) rfl HS4.out.own rfl ((blk_cell HX4.out 0).trans rfl) HS4.out.lt (by have := HLE.out; omega) ?_; intro v5 w5 ho5 hg5; have HO5 := Aside0.mk ho5; have HG5 := Aside0.mk hg5; have HX5 := Aside0.mk (HS4.out.appended hg5); clear ho5 hg5)
        | ((with_reducible refine gate_store (t := 56) (p := 28) rfl ?_); refine Lb.store_one rfl rfl 56 (.tmp 28) (.tmp 26) rfl (u := v5) rfl rfl ?u ?u1 HX5.out (by kernel_rfl) HS4.out.pos ?_; (case u => exact own_cells HO5.out); (case u1 => exact own_one HO5.out); intro w6 hb6 hg6; have HS6 := Aside0.mk (HS4.out.stored HO5.out rfl HG5.out hb6 hg6); have HB6 : Aside0 (Fr t B w w6) := ⟨⟨Lb.grown_below (own_below HS4.out.own (HB.out.bel.trans (HB4.out.mono HS.out.lt)) HS4.out.lt HG5.out) hg6 (Nat.le_trans HS4.out.lt HG5.out.size) HS4.out.ge, ((HB.out.frm.trans (frame_below HB4.out)).trans (frame_own HS4.out.own HG5.out)).trans (frame_blk HX5.out hg6)⟩⟩; clear hb6 hg6))
      go_roundg j
      case measure => omega
      case rel => exact ⟨i + 1, v5, by omega, by first | rfl | (congr 1; unfold wrap64; omega), ⟨by have := HS6.out; rw [set_set, List.append_assoc, ← List.replicate_succ'] at this; exact this⟩, HB6⟩

set_option maxRecDepth 100000 in
theorem opaque_calls (s : ByteArray) (B g : Nat) (cur : Array Value) (t : TypeId) (v : Value) (out : List UInt8) (w : World) (h : WS B w g cur t v out) (hlen : out.length + s.size ≤ 999000) :
    Calls Tryz.prog 53 #[.pointer (some ⟨g, 0, none⟩), .string s] w fun e w' => e = .returned (.tuple #[]) ∧ ∃ v', WS B w' g (cur.setIfInBounds 0 v') t v' (out ++ (be s.size 4 ++ fixB s.data.toList)) ∧ Fr t B w w' := by
  have h1 := uint_calls s.size B g cur t v out w h (by omega)
  have hlt := Aside0.mk h.lt
  clear h
  go_enter Tryz.func53, Tryz.ntmps53
  go_wp2_with (first
    | (go_at_call 50; refine h1.mono ?_; rintro e w1 ⟨rfl, v1, hs, hb⟩; have HS := Aside0.mk hs; have HB := Aside0.mk hb; clear h1 hs hb)
    | (go_at_call 54; refine (fixed_calls s B g _ t v1 _ w1 HS.out (by rw [List.length_append, be_length]; omega)).mono ?_; rintro e w2 ⟨rfl, v2, hs, hb⟩; have HS2 := Aside0.mk hs; have HB2 := Aside0.mk hb; clear hs hb))
  go_end0
  refine ⟨rfl, v2, ?_, HB.out.trans HB2.out⟩
  have := HS2.out
  rw [set_set, List.append_assoc] at this
  exact this

set_option maxRecDepth 100000 in
theorem bytes_calls (B g : Nat) (cur : Array Value) (t : TypeId) (v : Value) (out : List UInt8) (w : World) (h : WS B w g cur t v out) :
    Calls Tryz.prog 33 #[.pointer (some ⟨g, 0, none⟩)] w fun e w' => e = .returned (.string ⟨out.toArray⟩) ∧ w' = w := by
  have hp := ptr_eq g
  have hc0 := h.cell
  have hcv := own_back h.own
  clear h
  go_enter Tryz.func33, Tryz.ntmps33
  go_wp2
  go_ret
  exact ⟨rfl, rfl⟩
end Go.Proofs.YthamffpieafkbaaGreatDoor.Xw
