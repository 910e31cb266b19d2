/- The file system in memory, plainly: what may change, nodes, the two maps; time, touch, get. -/
import Derived.Test.YtlnfadlgjcnngaaGreatPAx1
import Derived.Test.YtlnfadlgjcnngaaGreatAp
import Derived.Test.YtlnfadlgjcnngaaGreatSh
import Derived.Maps.OwnOps
import Derived.Maps.OwnSet
import Derived.Maps.Ext
import Derived.Maps.Views
import Derived.DeepKeys4
namespace Go.Proofs.YtlnfadlgjcnngaaGreat.Co
open Go.RowKit Go.Maps Go.Lib Go.Proofs.YtlnfadlgjcnngaaGreat.Ap Go.Proofs.YtlnfadlgjcnngaaGreatW.PrintWords Go.Proofs.YtlnfadlgjcnngaaGreatW.PrintLast Go.Proofs.YtlnfadlgjcnngaaGreatW.PrintMore
set_option linter.unusedVariables false
set_option linter.unusedSimpArgs false

/-- the types of which old blocks may be written -/
abbrev Soft (t : TypeId) : Prop := t = 94 ∨ t = 43 ∨ t = 103
/-- only these blocks have changed, of those that were there; and they are of these types, or maps -/
structure Kp (ks : List Nat) (w w' : World) : Prop where
  bel : Below 0 w w'
  keep : ∀ (k : Nat) (o : Obj), w.heap[k]? = some o → k ∉ ks → w'.heap[k]? = some o
  typ : ∀ (k : Nat) (cs : Array Value) (t : TypeId) (f : Nat × Nat), w.heap[k]? = some (.cells cs t f) → ¬ Soft t → w'.heap[k]? = some (.cells cs t f)
theorem Kp.refl (ks : List Nat) (w : World) : Kp ks w w := ⟨Below.refl _ _, fun _ _ h _ => h, fun _ _ _ _ h _ => h⟩
theorem Kp.trans {ks : List Nat} {a b c : World} (h : Kp ks a b) (k : Kp ks b c) : Kp ks a c := ⟨h.bel.trans k.bel, fun i o hi hn => k.keep i o (h.keep i o hi hn) hn, fun i cs t f hi hn => k.typ i cs t f (h.typ i cs t f hi hn) hn⟩
theorem Kp.of {ks : List Nat} {w w' : World} (h : Below w.heap.size w w') : Kp ks w w' := ⟨h.mono (Nat.zero_le _), fun k o hk _ => Lb.blk_below hk h, fun k cs t f hk _ => Lb.blk_below hk h⟩
theorem Kp.blk {w w' : World} {g : Nat} {cs : Array Value} {t : TypeId} {f : Nat × Nat} (hb : w.heap[g]? = some (.cells cs t f)) (ht : Soft t) (h : w.grownBy w' (some g)) : Kp [g] w w' :=
  ⟨Lb.grown_below (Below.refl 0 w) h (Nat.zero_le _) (Nat.zero_le _), fun k o hk hn => Lb.blk_grown' hk h (by simpa using hn), fun k cs' t' f' hk hn => Lb.blk_grown' hk h (fun e => by
    subst e
    rw [hb] at hk
    injection hk with hk
    injection hk with _ hk _
    subst hk
    exact hn ht)⟩
theorem Kp.map {w w' : World} {g : Nat} {es : Array MapEntry} {cl : Nat} (hb : w.heap[g]? = some (.map es cl)) (h : w.grownBy w' (some g)) : Kp [g] w w' :=
  ⟨Lb.grown_below (Below.refl 0 w) h (Nat.zero_le _) (Nat.zero_le _), fun k o hk hn => Lb.blk_grown' hk h (by simpa using hn), fun k cs' t' f' hk hn => Lb.blk_grown' hk h (fun e => by
    subst e
    rw [hb] at hk
    injection hk with hk
    cases hk)⟩
theorem Kp.mono {ks ks' : List Nat} {w w' : World} (h : Kp ks w w') (hs : ∀ k ∈ ks, k ∈ ks') : Kp ks' w w' := ⟨h.bel, fun k o hk hn => h.keep k o hk (fun hm => hn (hs k hm)), h.typ⟩
/-- what has changed since is among these, or new -/
theorem Kp.then {ks ks' : List Nat} {a b c : World} (h : Kp ks a b) (k : Kp ks' b c) (hs : ∀ i ∈ ks', i ∈ ks ∨ a.heap.size ≤ i) : Kp ks a c :=
  ⟨h.bel.trans k.bel, fun i o hi hn => k.keep i o (h.keep i o hi hn) (fun hm => by
    rcases hs i hm with h1 | h1
    · exact hn h1
    · have := blk_lt hi; omega), fun i cs t f hi hn => k.typ i cs t f (h.typ i cs t f hi hn) hn⟩
/-- a store into a block that is new -/
theorem Kp.new {ks : List Nat} {a b c : World} {g : Nat} (h : Kp ks a b) (hg : b.grownBy c (some g)) (hn : a.heap.size ≤ g) : Kp ks a c :=
  ⟨Lb.grown_below h.bel hg (Nat.zero_le _) (Nat.zero_le _), fun i o hi hm => Lb.blk_grown' (h.keep i o hi hm) hg (fun e => by have := blk_lt hi; omega), fun i cs t f hi hm => Lb.blk_grown' (h.typ i cs t f hi hm) hg (fun e => by have := blk_lt hi; omega)⟩
theorem Kp.size {ks : List Nat} {w w' : World} (h : Kp ks w w') : w.heap.size ≤ w'.heap.size := h.bel.size
theorem Kp.below {ks : List Nat} {B : Nat} {w w' : World} (h : Kp ks w w') (hs : ∀ k ∈ ks, B ≤ k) (hB : B ≤ w.heap.size) : Below B w w' :=
  ⟨h.bel.os, h.bel.tape, h.bel.output, h.bel.size, fun k hk => by
    obtain ⟨o, ho⟩ : ∃ o, w.heap[k]? = some o := ⟨_, Array.getElem?_eq_getElem (by omega)⟩
    rw [ho]
    exact h.keep k o ho (fun hm => by have := hs k hm; omega)⟩
/-- rows of other types stay -/
theorem Kp.own {ks : List Nat} {w w' : World} {B e n sz : Nat} {v : Value} {xs : List Value} (h : Kp ks w w') (ho : w.ownsRow B e sz v n xs) (he : ¬ Soft e) : w'.ownsRow B e sz v n xs := by
  obtain ⟨h1, h2⟩ := ho
  refine ⟨h1, ?_⟩
  rcases h2 with h2 | ⟨k, cap, row, e2, hge, hr, rest⟩
  · exact .inl h2
  · exact .inr ⟨k, cap, row, e2, hge, h.typ _ _ _ _ hr he, rest⟩
/-- two blocks of different types are two -/
theorem ne_type {w : World} {a b : Nat} {x y : Array Value} {t t' : TypeId} {f f' : Nat × Nat} (h : w.heap[a]? = some (.cells x t f)) (k : w.heap[b]? = some (.cells y t' f')) (hne : t ≠ t') : a ≠ b := by
  rintro rfl
  rw [h] at k
  injection k with k
  injection k with _ k _
  exact hne k

/-- a node's numbers and texts -/
structure Nd where
  kind : Int
  mode : Int
  links : Int
  uid : Int
  gid : Int
  size : Int
  used : Int
  major : Int
  minor : Int
  fsid : Int
  id : Int
  ta : Int
  na : Int
  tm : Int
  nm : Int
  tc : Int
  nc : Int
  data : ByteArray
  verf : ByteArray
  parent : Int
  names : Value
def ndC (n : Nd) : Array Value := #[.int .i64 n.kind, .int .i64 n.mode, .int .i64 n.links, .int .i64 n.uid, .int .i64 n.gid, .int .i64 n.size, .int .i64 n.used, .int .i64 n.major, .int .i64 n.minor, .int .i64 n.fsid, .int .i64 n.id, .int .i64 n.ta, .int .i64 n.na, .int .i64 n.tm, .int .i64 n.nm, .int .i64 n.tc, .int .i64 n.nc, .string n.data, .string n.verf, .int .i64 n.parent, n.names]
abbrev NodeAt (w : World) (b : Nat) (n : Nd) : Prop := w.heap[b]? = some (.cells (ndC n) 43 (0, 0))
def ptrR : Value → Option (DataW Unit × List MemPlace)
  | .pointer none => some (.nil, [])
  | .pointer (some ⟨g, 0, none⟩) => some (.lit (.int .i64 g), [])
  | _ => none
def ptrD : Option Nat → DataW Unit
  | none => .nil
  | some g => .lit (.int .i64 g)
def ptrV : Option Nat → Value
  | none => .pointer none
  | some g => .pointer (some ⟨g, 0, none⟩)
theorem ptrR_inv {v : Value} {o : Option Nat} {ps : List MemPlace} (h : ptrR v = some (ptrD o, ps)) : v = ptrV o := by
  unfold ptrR at h
  split at h
  · cases o with
    | none => rfl
    | some g => simp [ptrD] at h
  · cases o with
    | none => simp [ptrD] at h
    | some g =>
      simp only [ptrD, Option.some.injEq, Prod.mk.injEq, DataW.lit.injEq, Lit.int.injEq] at h
      have : g = _ := (Int.ofNat_inj.1 h.1.2).symm
      subst this
      rfl
  · cases h
theorem laidOut : laidOutB Tryz.prog = true := by kernel_rfl
theorem int_law : Keyed Tryz.prog 3 := int_keyed Tryz.underlying3
theorem int_key {p : Int} (h : -9223372036854775808 ≤ p ∧ p ≤ 9223372036854775807) : keyOf Tryz.prog 3 (.int .i64 p) = some (.int .i64 p) :=
  keyOf_int_mk Tryz.underlying3 (by simpa [Lit.wf, IntKind.min, IntKind.max, IntKind.signed, IntKind.bits] using h)
theorem met_law : Keyed Tryz.prog 83 := Keyed.of_law (deep_law_laid laidOut (m := 4) (by omega) (of_decide_eq_true (by kernel_rfl)) (by kernel_rfl) (by rw [Tryz.underlying83]))
theorem met_key {p : Int} {s : ByteArray} (h : -9223372036854775808 ≤ p ∧ p ≤ 9223372036854775807) (hs : s.size ≤ maxLen) : ∃ l, keyOf Tryz.prog 83 (.agg #[.int .i64 p, .string s]) = some l := by
  have hw : (Lit.int .i64 p).wf = true := by simpa [Lit.wf, IntKind.min, IntKind.max, IntKind.signed, IntKind.bits] using h
  have hk : Tryz.prog.keyType 83 = true := by kernel_rfl
  have hf : (Value.agg #[.int .i64 p, .string s]).formed Tryz.prog 83 = true := by simp [Value.formed, Tryz.underlying83, show Tryz.prog.cellsOf 83 = 2 by kernel_rfl]
  obtain ⟨n, hn⟩ : ∃ n, Tryz.prog.types.size + 1 = n + 2 := ⟨Tryz.prog.types.size - 1, by have : 1 ≤ Tryz.prog.types.size := of_decide_eq_true (by kernel_rfl); omega⟩
  have hl : ∃ ls, Tryz.prog.keyLits (Tryz.prog.types.size + 1) 83 [.int .i64 p, .string s] = some ls := by
    rw [hn]
    refine ⟨[.int .i64 p, .string s.data.toList], ?_⟩
    simp [Program.keyLits, Tryz.underlying83, Tryz.underlying3, Tryz.underlying9, show Tryz.prog.cellsOf 83 = 2 by kernel_rfl, show Tryz.prog.cellsOf 3 = 1 by kernel_rfl, show Tryz.prog.cellsOf 9 = 1 by kernel_rfl, hw, hs]
  obtain ⟨ls, hl⟩ := hl
  refine ⟨.string (keyBytes ls), ?_⟩
  simp only [keyOf, Tryz.underlying83, hk, hf, Bool.and_self, if_true]
  have hc : (Value.agg #[.int .i64 p, .string s]).cells.toList = [.int .i64 p, .string s] := rfl
  rw [hc, hl]
  rfl
end Go.Proofs.YtlnfadlgjcnngaaGreat.Co
