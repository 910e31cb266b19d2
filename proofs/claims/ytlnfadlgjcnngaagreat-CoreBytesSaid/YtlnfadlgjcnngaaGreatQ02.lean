/- The file system: touch, get, may, dir. -/
import Derived.Test.YtlnfadlgjcnngaaGreatQ01
namespace Go.Proofs.YtlnfadlgjcnngaaGreat.Co
open Go.RowKit Go.Maps Go.Lib Go.Proofs.YtlnfadlgjcnngaaGreat.Ap Go.Proofs.YtlnfadlgjcnngaaGreatW.PrintWords Go.Proofs.YtlnfadlgjcnngaaGreatW.PrintLast Go.Proofs.YtlnfadlgjcnngaaGreatW.PrintMore
set_option linter.unusedVariables false
set_option linter.unusedSimpArgs false

def anyR : Value → Option (DataW Unit × List MemPlace) := fun _ => some (.nil, [])
abbrev InI (i : Int) : Prop := -9223372036854775808 ≤ i ∧ i ≤ 9223372036854775807
/-- a file system in memory: its block, its two maps; F: the block of each number's node -/
structure FsAt (w : World) (g bN bM : Nat) (last : Int) (F : Int → Option Nat) (m : Nat) : Prop where
  blk : w.heap[g]? = some (.cells #[.map (some bN), .int .i64 last, .map (some bM)] 94 (0, 0))
  nodes : ∃ D, w.ownsMap Tryz.prog 3 ptrR bN m D ∧ ∀ i, InI i → D.atKey (.int .i64 i) .nil = ptrD (F i)
  met : ∃ D, w.ownsMap Tryz.prog 83 anyR bM m D
  ne : bN ≠ bM
theorem ownsMap_kp {w w' : World} {ks : List Nat} {k : TypeId} {R : Value → Option (DataW Unit × List MemPlace)} {b n : Nat} {D : DataW Unit} (h : w.ownsMap Tryz.prog k R b n D) (hk : Kp ks w w') (hb : b ∉ ks) : w'.ownsMap Tryz.prog k R b n D := by
  obtain ⟨es, clock, hb', F, hs, hD⟩ := h
  exact ⟨es, clock, hk.keep _ _ hb' hb, F, hs, hD⟩
theorem FsAt.keep {w w' : World} {ks : List Nat} {g bN bM : Nat} {last : Int} {F : Int → Option Nat} {m : Nat} (h : FsAt w g bN bM last F m) (hk : Kp ks w w') (h1 : g ∉ ks) (h2 : bN ∉ ks) (h3 : bM ∉ ks) : FsAt w' g bN bM last F m := by
  obtain ⟨D, hD, hF⟩ := h.nodes
  obtain ⟨D', hD'⟩ := h.met
  exact ⟨hk.keep _ _ h.blk h1, ⟨D, ownsMap_kp hD hk h2, hF⟩, ⟨D', ownsMap_kp hD' hk h3⟩, h.ne⟩
theorem FsAt.step {w w' : World} {g bN bM : Nat} {last : Int} {F : Int → Option Nat} {m : Nat} (h : FsAt w g bN bM last F m) (hb : Below w.heap.size w w') : FsAt w' g bN bM last F m :=
  h.keep (ks := []) (Kp.of hb) (by simp) (by simp) (by simp)
theorem FsAt.mono {w : World} {g bN bM : Nat} {last : Int} {F : Int → Option Nat} {m m' : Nat} (h : FsAt w g bN bM last F m) (hm : m ≤ m') : FsAt w g bN bM last F m' := by
  obtain ⟨D, hD, hF⟩ := h.nodes
  obtain ⟨D', hD'⟩ := h.met
  exact ⟨h.blk, ⟨D, hD.mono hm, hF⟩, ⟨D', hD'.mono hm⟩, h.ne⟩
theorem FsAt.cells {w : World} {g bN bM : Nat} {last : Int} {F : Int → Option Nat} {m : Nat} (h : FsAt w g bN bM last F m) : w.cell? ⟨g, 0, none⟩ = some (.map (some bN)) ∧ w.cell? ⟨g, 1, none⟩ = some (.int .i64 last) ∧ w.cell? ⟨g, 2, none⟩ = some (.map (some bM)) :=
  ⟨(blk_cell h.blk 0).trans rfl, (blk_cell h.blk 1).trans rfl, (blk_cell h.blk 2).trans rfl⟩
theorem zeroP (w : World) : (zeroValue 95).run Tryz.prog w = .ok (.pointer none) w := by kernel_rfl

theorem FsAt.mets {w w' : World} {g bN bM : Nat} {last : Int} {F : Int → Option Nat} {m : Nat} {D : DataW Unit} (h : FsAt w g bN bM last F m) (ho : w'.ownsMap Tryz.prog 83 anyR bM (m + 1) D) (hg : w.grownBy w' (some bM)) : FsAt w' g bN bM last F (m + 1) ∧ Kp [bM] w w' := by
  have hk : Kp [bM] w w' := by
    obtain ⟨D', es, clock, hb, _⟩ := h.met
    exact Kp.map hb hg
  have h1 : g ≠ bM := by
    rintro rfl
    obtain ⟨D', es, clock, hb, _⟩ := h.met
    have := h.blk
    rw [hb] at this
    injection this with this
    cases this
  obtain ⟨D0, hD, hF⟩ := h.nodes
  exact ⟨⟨hk.keep _ _ h.blk (by simpa using h1), ⟨D0, (ownsMap_kp hD hk (by simpa using h.ne)).mono (Nat.le_succ _), hF⟩, ⟨_, ho⟩, h.ne⟩, hk⟩
set_option maxRecDepth 100000 in
theorem touch_calls (g bN bM : Nat) (last : Int) (F : Int → Option Nat) (m : Nat) (id : Int) (s : ByteArray) (w : World) (h : FsAt w g bN bM last F m) (hm : m ≤ 1000000) (hid : InI id) (hs : s.size ≤ maxLen) :
    Calls Tryz.prog 30 #[.pointer (some ⟨g, 0, none⟩), .int .i64 id, .string s] w fun e w' => e = .returned (.tuple #[]) ∧ FsAt w' g bN bM last F (m + 1) ∧ Kp [bM] w w' := by
  obtain ⟨-, -, c2⟩ := h.cells
  obtain ⟨D, hD⟩ := h.met
  obtain ⟨l, hl⟩ := met_key hid hs
  have H := Aside0.mk h
  have HD := Aside0.mk hD
  have HL := Aside0.mk hl
  have HM := Aside0.mk hm
  clear h hD hl hm hid hs
  go_enter Tryz.func30, Tryz.ntmps30
  go_wp2_with (first
    | (at_mapUpdate; refine wpList_mapUpdate_own _ rfl (.tmp 9) (.tmp 12) (.const (.int .i64 1)) 92 rfl 83 3 met_law Tryz.underlying92 anyR bM m D rfl HD.out (by have := HM.out; unfold maxLen; omega) _ _ _ rfl rfl HL.out .nil [] rfl ?_; intro w1 ho hg; have HO := Aside0.mk (H.out.mets ho hg); clear ho hg))
  go_end0
  exact ⟨rfl, HO.out⟩

theorem FsAt.look {w : World} {g bN bM : Nat} {last : Int} {F : Int → Option Nat} {m : Nat} (h : FsAt w g bN bM last F m) {i : Int} (hi : InI i) (q : Option Nat) (hq : F i = q) : (Instr.lookup 91 (.map (some bN)) (.int .i64 i) false).run Tryz.prog w = .ok (ptrV q) w := by
  obtain ⟨D, hD, hF⟩ := h.nodes
  obtain ⟨v, ps, hrun, hR⟩ := hD.lookup int_law Tryz.underlying91 (zeroP w) (zd := .nil) (zp := []) rfl (int_key hi)
  rw [hF i hi, hq] at hR
  obtain rfl := ptrR_inv hR
  exact hrun
theorem FsAt.ptr {w : World} {g bN bM : Nat} {last : Int} {F : Int → Option Nat} {m : Nat} (h : FsAt w g bN bM last F m) {i : Int} (hi : InI i) (b : Nat) (hq : F i = some b) : (Instr.lookup 91 (.map (some bN)) (.int .i64 i) false).run Tryz.prog w = .ok (.pointer (some ⟨b, 0, none⟩)) w := h.look hi (some b) hq

set_option maxRecDepth 100000 in
theorem get_calls (g bN bM : Nat) (last : Int) (F : Int → Option Nat) (m b : Nat) (i : Int) (w : World) (h : FsAt w g bN bM last F m) (hi : InI i) (hF : F i = some b) :
    Calls Tryz.prog 38 #[.pointer (some ⟨g, 0, none⟩), .int .i64 i] w fun e w' => e = .returned (.tuple #[.pointer (some ⟨b, 0, none⟩), .int .i64 0]) ∧ w = w' := by
  obtain ⟨c0, -, -⟩ := h.cells
  have hrun := h.ptr hi b hF
  clear h hi hF
  go_enter Tryz.func38, Tryz.ntmps38
  go_wp2
  go_ret2
  exact ⟨rfl, rfl⟩
theorem NodeAt.cells {w : World} {b : Nat} {n : Nd} (h : NodeAt w b n) : w.cell? ⟨b, 0, none⟩ = some (.int .i64 n.kind) ∧ w.cell? ⟨b, 1, none⟩ = some (.int .i64 n.mode) ∧ w.cell? ⟨b, 2, none⟩ = some (.int .i64 n.links) ∧ w.cell? ⟨b, 3, none⟩ = some (.int .i64 n.uid) ∧ w.cell? ⟨b, 4, none⟩ = some (.int .i64 n.gid) ∧ w.cell? ⟨b, 5, none⟩ = some (.int .i64 n.size) ∧
    w.cell? ⟨b, 6, none⟩ = some (.int .i64 n.used) ∧ w.cell? ⟨b, 7, none⟩ = some (.int .i64 n.major) ∧ w.cell? ⟨b, 8, none⟩ = some (.int .i64 n.minor) ∧ w.cell? ⟨b, 9, none⟩ = some (.int .i64 n.fsid) ∧ w.cell? ⟨b, 10, none⟩ = some (.int .i64 n.id) ∧ w.cell? ⟨b, 11, none⟩ = some (.int .i64 n.ta) ∧ w.cell? ⟨b, 12, none⟩ = some (.int .i64 n.na) ∧
    w.cell? ⟨b, 13, none⟩ = some (.int .i64 n.tm) ∧ w.cell? ⟨b, 14, none⟩ = some (.int .i64 n.nm) ∧ w.cell? ⟨b, 15, none⟩ = some (.int .i64 n.tc) ∧ w.cell? ⟨b, 16, none⟩ = some (.int .i64 n.nc) ∧ w.cell? ⟨b, 17, none⟩ = some (.string n.data) ∧ w.cell? ⟨b, 18, none⟩ = some (.string n.verf) ∧ w.cell? ⟨b, 19, none⟩ = some (.int .i64 n.parent) ∧ w.cell? ⟨b, 20, none⟩ = some n.names :=
  ⟨(blk_cell h 0).trans rfl, (blk_cell h 1).trans rfl, (blk_cell h 2).trans rfl, (blk_cell h 3).trans rfl, (blk_cell h 4).trans rfl, (blk_cell h 5).trans rfl, (blk_cell h 6).trans rfl, (blk_cell h 7).trans rfl, (blk_cell h 8).trans rfl, (blk_cell h 9).trans rfl, (blk_cell h 10).trans rfl,
   (blk_cell h 11).trans rfl, (blk_cell h 12).trans rfl, (blk_cell h 13).trans rfl, (blk_cell h 14).trans rfl, (blk_cell h 15).trans rfl, (blk_cell h 16).trans rfl, (blk_cell h 17).trans rfl, (blk_cell h 18).trans rfl, (blk_cell h 19).trans rfl, (blk_cell h 20).trans rfl⟩
/-- a caller that may all -/
abbrev rootC (now : Int) : Value := .agg #[.int .i64 0, .int .i64 0, .slice none 0 0, .int .i64 now]
theorem May_root (n : Nd) (bits : Int) (w : World) : Calls Tryz.prog 121 #[.agg #[.int .i64 n.kind, .int .i64 n.mode, .int .i64 n.links, .int .i64 n.uid, .int .i64 n.gid, .int .i64 n.size, .int .i64 n.used, .int .i64 n.major, .int .i64 n.minor, .int .i64 n.fsid, .int .i64 n.id, .int .i64 n.ta, .int .i64 n.na, .int .i64 n.tm, .int .i64 n.nm, .int .i64 n.tc, .int .i64 n.nc], .int .i64 0, .int .i64 0, .slice none 0 0, .int .i64 bits] w fun e w' => e = .returned (.bool true) ∧ Below w.heap.size w w' := by
  refine PA.attr_May.calls 1 n.kind n.mode n.links n.uid n.gid n.size n.used n.major n.minor n.fsid n.id n.ta n.na n.tm n.nm n.tc n.nc 0 0 none 0 [] bits true w ?_ (Nat.le_refl _) ?_
  · exact Kd.C_nil _ _
  · unfold PA.attr_May.f
    rw [if_pos rfl]
theorem may_S {w' : World} {b g3 : Nat} {n : Nd} {now : Int} (H : NodeAt w' b n) (HX : w'.heap[g3]? = some (.cells #[.int .i64 0, .int .i64 0, .slice none 0 0, .int .i64 now] 29 (0, 0))) : w'.cell? ⟨b, 0, none⟩ = some (.int .i64 n.kind) ∧ w'.cell? ⟨b, 1, none⟩ = some (.int .i64 n.mode) ∧ w'.cell? ⟨b, 2, none⟩ = some (.int .i64 n.links) ∧ w'.cell? ⟨b, 3, none⟩ = some (.int .i64 n.uid) ∧ w'.cell? ⟨b, 4, none⟩ = some (.int .i64 n.gid) ∧ w'.cell? ⟨b, 5, none⟩ = some (.int .i64 n.size) ∧ w'.cell? ⟨b, 6, none⟩ = some (.int .i64 n.used) ∧ w'.cell? ⟨b, 7, none⟩ = some (.int .i64 n.major) ∧ w'.cell? ⟨b, 8, none⟩ = some (.int .i64 n.minor) ∧ w'.cell? ⟨b, 9, none⟩ = some (.int .i64 n.fsid) ∧ w'.cell? ⟨b, 10, none⟩ = some (.int .i64 n.id) ∧ w'.cell? ⟨b, 11, none⟩ = some (.int .i64 n.ta) ∧ w'.cell? ⟨b, 12, none⟩ = some (.int .i64 n.na) ∧ w'.cell? ⟨b, 13, none⟩ = some (.int .i64 n.tm) ∧ w'.cell? ⟨b, 14, none⟩ = some (.int .i64 n.nm) ∧ w'.cell? ⟨b, 15, none⟩ = some (.int .i64 n.tc) ∧ w'.cell? ⟨b, 16, none⟩ = some (.int .i64 n.nc) ∧ w'.cell? ⟨g3, 0, none⟩ = some (.int .i64 0) ∧ w'.cell? ⟨g3, 1, none⟩ = some (.int .i64 0) ∧ w'.cell? ⟨g3, 2, none⟩ = some (.slice none 0 0) := by
  obtain ⟨d0, d1, d2, d3, d4, d5, d6, d7, d8, d9, d10, d11, d12, d13, d14, d15, d16, -, -, -, -⟩ := NodeAt.cells H
  exact ⟨d0, d1, d2, d3, d4, d5, d6, d7, d8, d9, d10, d11, d12, d13, d14, d15, d16, (blk_cell HX 0).trans rfl, (blk_cell HX 1).trans rfl, (blk_cell HX 2).trans rfl⟩
set_option maxRecDepth 100000 in
theorem may_calls (b : Nat) (n : Nd) (now bits : Int) (w : World) (h : NodeAt w b n) :
    Calls Tryz.prog 81 #[rootC now, .pointer (some ⟨b, 0, none⟩), .int .i64 bits] w fun e w' => e = .returned (.bool true) ∧ Below w.heap.size w w' := by
  have H := Aside0.mk h
  have HB := Aside0.mk (Below.refl w.heap.size w)
  clear h

  go_enter Tryz.func81, Tryz.ntmps81
  go_wp2_with (first
    | ((with_reducible refine gate_dst (N := 3) rfl ?_); refine Lb.alloc_event ?hg (v := fun g => .pointer (some ⟨g, 0, none⟩)) (cs := #[.int .i64 0, .int .i64 0, .slice none 0 0, .int .i64 now]) (t := 29) (fr := (0, 0)) ?hr ?_; (case hg => rfl); (case hr => first | (go_simp; done) | (go_simp; rfl)); intro g3 hg3 w1 hx hb; have HX := Aside0.mk hx; replace H := Aside0.mk (Lb.blk_below H.out hb); replace HB := Aside0.mk (below_step HB.out hb); clear hx hb hg3))
  replace H := Aside0.mk (Lb.blk_below H.out (Lb.below_drew _))
  replace HX := Aside0.mk (Lb.blk_below HX.out (Lb.below_drew _))
  replace HB := Aside0.mk (below_step HB.out (Lb.below_drew _))
  obtain ⟨d0, d1, d2, d3, d4, d5, d6, d7, d8, d9, d10, d11, d12, d13, d14, d15, d16, e0, e1, e2⟩ := may_S H.out HX.out
  go_region_held3 (fun w' => w'.cell? ⟨b, 0, none⟩ = some (.int .i64 n.kind) ∧ w'.cell? ⟨b, 1, none⟩ = some (.int .i64 n.mode) ∧ w'.cell? ⟨b, 2, none⟩ = some (.int .i64 n.links) ∧ w'.cell? ⟨b, 3, none⟩ = some (.int .i64 n.uid) ∧ w'.cell? ⟨b, 4, none⟩ = some (.int .i64 n.gid) ∧ w'.cell? ⟨b, 5, none⟩ = some (.int .i64 n.size) ∧ w'.cell? ⟨b, 6, none⟩ = some (.int .i64 n.used) ∧ w'.cell? ⟨b, 7, none⟩ = some (.int .i64 n.major) ∧ w'.cell? ⟨b, 8, none⟩ = some (.int .i64 n.minor) ∧ w'.cell? ⟨b, 9, none⟩ = some (.int .i64 n.fsid) ∧ w'.cell? ⟨b, 10, none⟩ = some (.int .i64 n.id) ∧ w'.cell? ⟨b, 11, none⟩ = some (.int .i64 n.ta) ∧ w'.cell? ⟨b, 12, none⟩ = some (.int .i64 n.na) ∧ w'.cell? ⟨b, 13, none⟩ = some (.int .i64 n.tm) ∧ w'.cell? ⟨b, 14, none⟩ = some (.int .i64 n.nm) ∧ w'.cell? ⟨b, 15, none⟩ = some (.int .i64 n.tc) ∧ w'.cell? ⟨b, 16, none⟩ = some (.int .i64 n.nc) ∧ w'.cell? ⟨g3, 0, none⟩ = some (.int .i64 0) ∧ w'.cell? ⟨g3, 1, none⟩ = some (.int .i64 0) ∧ w'.cell? ⟨g3, 2, none⟩ = some (.slice none 0 0)) (exact may_S H.out HX.out) (first
    | (go_at_call 121; (with_reducible refine (May_root n bits _).mono ?_); rintro e4 w4 ⟨rfl, hb⟩; replace HB := Aside0.mk (below_step HB.out hb); replace H := Aside0.mk (Lb.blk_below H.out hb); replace HX := Aside0.mk (Lb.blk_below HX.out hb); clear hb))
  all_goals
    go_wp2
    go_ret
    exact ⟨rfl, HB.out⟩
end Go.Proofs.YtlnfadlgjcnngaaGreat.Co
