/- An empty directory: a first name is put into its trees. -/
import Derived.Test.YtlnfadlgjcnngaaGreatQ04
import Derived.Test.YtlnfadlgjcnngaaGreatPBx1
namespace Go.Proofs.YtlnfadlgjcnngaaGreat.Co
open Go.RowKit Go.Maps Go.Lib Go.Proofs.YtlnfadlgjcnngaaGreat.Ap Go.Proofs.YtlnfadlgjcnngaaGreatW.PrintWords Go.Proofs.YtlnfadlgjcnngaaGreatW.PrintLast Go.Proofs.YtlnfadlgjcnngaaGreatW.PrintMore
set_option linter.unusedVariables false
set_option linter.unusedSimpArgs false

section
variable {ops : Array Oper} {rest : List Oper} {o : Oper} {a : Act} {Q : Exit → Act → World → Prop}
/-- one element is appended to nothing -/
theorem app_nil {W : World} {g0 : Nat} (hgd : o.guard = none) (s x : Operand) (ts e : TypeId) (z : Value) (sz nb : Nat) (ho : o.op = .call { callee := .builtin .append, args := #[s, x], argTypes := #[ts, ts] })
    (hu : Tryz.prog.underlying ts = some (.slice e)) (hinfo : ((Tryz.prog).info? e).map (fun i => (i.zero, i.size, i.bytes)) = some (some z, sz, nb)) (hz : z.cells.size = sz) (hsz : 0 < sz) (hnb : nb ≤ 64) {news : List Value}
    (hs : a.eval s = .slice none 0 0) (hx : a.eval x = .slice (some ⟨g0, 0, none⟩) 1 1) (hl : news.length = sz) (hc : W.heap[g0]? = some (.cells news.toArray e (0, 0))) (h1 : ∀ u ∈ news, u.oneCell' = true)
    (h : ∀ v' w', w'.ownsRow W.heap.size e sz v' 1 news → Below W.heap.size W w' → wpList Tryz.prog ops Q rest (a.put o.dst v') w') : wpList Tryz.prog ops Q (o :: rest) a W := by
  obtain ⟨i, hi, hzz⟩ := Option.map_eq_some_iff.1 hinfo
  simp only [Prod.mk.injEq] at hzz
  refine wpList_append_own W hgd s x ts ho W.heap.size e i z sz nb hu hi hzz.1 hzz.2.1 hzz.2.2 hz hsz (.slice none 0 0) 0 [] hs ⟨by simp, .inl ⟨rfl, rfl⟩⟩ ⟨g0, 0, none⟩ 1 1 news hx (by omega) ?_ h1 (by unfold maxLen; omega) (by omega) (Nat.le_refl _) ?_
  · intro j u hj
    have ha : (⟨g0, 0, none⟩ : Addr).add j = ⟨g0, j, none⟩ := by unfold Addr.add; split <;> simp_all
    rw [ha]
    rw [blk_cell hc j]
    simpa using hj
  · intro v' w' hown hg _
    refine h v' w' (by simpa using hown) ?_
    exact (Below.refl _ W).grown hg (Nat.le_refl _) (fun k hk => by cases hk)
end
theorem str_info : ((Tryz.prog).info? 9).map (fun i => (i.zero, i.size, i.bytes)) = some (some (.string ⟨#[]⟩), 1, 16) := by kernel_rfl
theorem int_info : ((Tryz.prog).info? 3).map (fun i => (i.zero, i.size, i.bytes)) = some (some (.int .i64 0), 1, 8) := by kernel_rfl
theorem ent_info : ((Tryz.prog).info? 108).map (fun i => (i.zero, i.size, i.bytes)) = some (some (.agg #[.string ⟨#[]⟩, .int .i64 0, .int .i64 0]), 3, 32) := by kernel_rfl

set_option maxRecDepth 100000 in
theorem ins_str (g0 : Nat) (s : ByteArray) (w : World) (h : w.heap[g0]? = some (.cells #[.string s] 9 (0, 0))) :
    Calls Tryz.prog 192 #[.slice none 0 0, .int .i64 0, .slice (some ⟨g0, 0, none⟩) 1 1] w fun e w' => ∃ v, e = .returned v ∧ w'.ownsRow w.heap.size 9 1 v 1 [.string s] ∧ Below w.heap.size w w' := by
  have H := Aside0.mk h
  clear h
  go_enter Tryz.func192, Tryz.ntmps192
  go_wp2_with (first
    | (at_builtin; refine app_nil (W := w) (g0 := g0) rfl (.tmp 23) (.tmp 24) 49 9 (.string ⟨#[]⟩) 1 16 rfl Tryz.underlying49 str_info rfl (by decide) (by decide) (news := [.string s]) rfl rfl rfl H.out (by simp [Value.oneCell']) ?_; intro v' w' ho hb; have HO := Aside0.mk (And.intro ho hb); clear ho hb))
  go_ret
  exact ⟨_, rfl, HO.out⟩
set_option maxRecDepth 100000 in
theorem ins_ent (g0 : Nat) (s : ByteArray) (i c : Int) (w : World) (h : w.heap[g0]? = some (.cells #[.string s, .int .i64 i, .int .i64 c] 108 (0, 0))) :
    Calls Tryz.prog 193 #[.slice none 0 0, .int .i64 0, .slice (some ⟨g0, 0, none⟩) 1 1] w fun e w' => ∃ v, e = .returned v ∧ w'.ownsRow w.heap.size 108 3 v 1 [.string s, .int .i64 i, .int .i64 c] ∧ Below w.heap.size w w' := by
  have H := Aside0.mk h
  clear h
  go_enter Tryz.func193, Tryz.ntmps193
  go_wp2_with (first
    | (at_builtin; refine app_nil (W := w) (g0 := g0) rfl (.tmp 23) (.tmp 24) 69 108 (.agg #[.string ⟨#[]⟩, .int .i64 0, .int .i64 0]) 3 32 rfl Tryz.underlying69 ent_info rfl (by decide) (by decide) (news := [.string s, .int .i64 i, .int .i64 c]) rfl rfl rfl H.out (by simp [Value.oneCell']) ?_; intro v' w' ho hb; have HO := Aside0.mk (And.intro ho hb); clear ho hb))
  go_ret
  exact ⟨_, rfl, HO.out⟩
set_option maxRecDepth 100000 in
theorem ins_int (g0 : Nat) (x : Int) (w : World) (h : w.heap[g0]? = some (.cells #[.int .i64 x] 3 (0, 0))) :
    Calls Tryz.prog 196 #[.slice none 0 0, .int .i64 0, .slice (some ⟨g0, 0, none⟩) 1 1] w fun e w' => ∃ v, e = .returned v ∧ w'.ownsRow w.heap.size 3 1 v 1 [.int .i64 x] ∧ Below w.heap.size w w' := by
  have H := Aside0.mk h
  clear h
  go_enter Tryz.func196, Tryz.ntmps196
  go_wp2_with (first
    | (at_builtin; refine app_nil (W := w) (g0 := g0) rfl (.tmp 23) (.tmp 24) 25 3 (.int .i64 0) 1 8 rfl Tryz.underlying25 int_info rfl (by decide) (by decide) (news := [.int .i64 x]) rfl rfl rfl H.out (by simp [Value.oneCell']) ?_; intro v' w' ho hb; have HO := Aside0.mk (And.intro ho hb); clear ho hb))
  go_ret
  exact ⟨_, rfl, HO.out⟩
end Go.Proofs.YtlnfadlgjcnngaaGreat.Co
