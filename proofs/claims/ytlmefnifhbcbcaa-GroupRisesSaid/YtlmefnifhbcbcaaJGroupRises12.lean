/- Joined texts of the claim GroupRises (part 12): contracts of functions and plain laws. -/
import Derived.Test.YtlmefnifhbcbcaaJGroupRises0
import Derived.Maps.OwnSet
import Derived.Maps.Views
import Derived.Maps.Keyed
import Derived.Test.YtlmefnifhbcbcaaJGroupRises2
section
/- A map of bools that the call has made: what it says of a key. -/
namespace Go.Proofs.Ytlmefnifhbcbcaa
open Go.RowKit Go.WideMaps Go.Maps Go.Proofs.YtlmefnifhbcbcaaW.PrintWords
set_option linter.unusedVariables false
theorem zeroBoolM (w : World) : (zeroValue 4).run Try.prog w = .ok (.bool false) w := by kernel_rfl
/-- Block b is a map of at most n entries that says S of the keys; no entry is false. -/
def BoolMap {κ : Type} (kl : κ → Lit) (kt : TypeId) (w : World) (b n : Nat) (S : κ → Bool) : Prop :=
  ∃ D : DataW Nat, w.ownsMap Try.prog kt (plainElem Try.prog 4) b n D ∧ ∀ x, D.atKey (kl x) (.lit (.bool false)) = .lit (.bool (S x))
section
variable {κ : Type} {kl : κ → Lit} {kt : TypeId} {w : World} {b n : Nat} {S : κ → Bool}
theorem BoolMap.lt (h : BoolMap kl kt w b n S) : b < w.heap.size := by
  obtain ⟨D, h1, _⟩ := h
  exact h1.lt
theorem BoolMap.below {q : Nat} {w' : World} (h : BoolMap kl kt w b n S) (hb : Below q w w') (hlt : b < q) : BoolMap kl kt w' b n S := by
  obtain ⟨D, ⟨es, clock, h1, h2⟩, h3⟩ := h
  exact ⟨D, ⟨es, clock, (hb.block b hlt).trans h1, h2⟩, h3⟩
theorem BoolMap.kept {w' : World} (h : BoolMap kl kt w b n S) (hb : Below w.heap.size w w') : BoolMap kl kt w' b n S := h.below hb h.lt
theorem BoolMap.grown {w' : World} {row : Option Nat} (h : BoolMap kl kt w b n S) (hb : w.grownBy w' row) (hne : some b ≠ row) : BoolMap kl kt w' b n S := by
  have hlt := h.lt
  obtain ⟨D, ⟨es, clock, h1, h2⟩, h3⟩ := h
  exact ⟨D, ⟨es, clock, (hb.block b hlt hne).trans h1, h2⟩, h3⟩
theorem boolElem_inv {P : Program} {e : TypeId} (he : P.underlying e = some .bool) {v : Value} {z : DataW Nat × List MemPlace} (h : plainElem P e v = some z) : ∃ x, v = .bool x ∧ z.1 = .lit (.bool x) := by
  unfold plainElem at h
  rw [he] at h
  cases v <;> simp at h
  exact ⟨_, rfl, by rw [← h]⟩
theorem BoolMap.lookup (h : BoolMap kl kt w b n S) (K : Keyed Try.prog kt) {mt : TypeId} (ht : Try.prog.underlying mt = some (.map kt 4)) {key : Value} {x : κ} (hkey : keyOf Try.prog kt key = some (kl x)) :
    (Instr.lookup mt (.map (some b)) key false).run Try.prog w = .ok (.bool (S x)) w := by
  obtain ⟨D, h1, h2⟩ := h
  obtain ⟨v, ps, h3, h4⟩ := h1.lookup K ht (zeroBoolM w) (plainElem_bool Try.underlying4 false) hkey
  obtain ⟨y, rfl, hy⟩ := boolElem_inv Try.underlying4 h4
  rw [h3]
  dsimp only at hy
  rw [h2 x] at hy
  cases hy
  rfl
theorem BoolMap.made {w' : World} (kl : κ → Lit) (kt : TypeId) (h : w'.ownsMap Try.prog kt (plainElem Try.prog 4) b n (.map [] : DataW Nat)) : BoolMap kl kt w' b n (fun _ => false) := ⟨.map [], h, fun _ => rfl⟩
end
section
variable {κ : Type} [DecidableEq κ] {kl : κ → Lit} {kt : TypeId} {b n : Nat} {S : κ → Bool}
theorem wpList_put_bool (w : World) {ops : Array Oper} {rest : List Oper} {o : Oper} {a : Act} {Q : Exit → Act → World → Prop} (hg : o.guard = none) (m x v : Operand) (mt : TypeId) (hop : o.op = Op.mapUpdate mt m x v)
    (K : Keyed Try.prog kt) (ht : Try.prog.underlying mt = some (.map kt 4)) (hinj : ∀ x y, kl x = kl y → x = y) (hlit : ∀ x, WideAt.IsKeyLit (kl x)) (hm : a.eval m = .map (some b)) (h : BoolMap kl kt w b n S) (hn : n < maxLen) (key : Value) (y : κ) (t : Bool) (hx : a.eval x = key) (hv : a.eval v = .bool t) (hkey : keyOf Try.prog kt key = some (kl y))
    (hK : ∀ w', BoolMap kl kt w' b (n + 1) (fun z => if z = y then t else S z) → w.grownBy w' (some b) → wpList Try.prog ops Q rest (a.put o.dst undef) w') : wpList Try.prog ops Q (o :: rest) a w := by
  obtain ⟨D, h1, h2⟩ := h
  refine wpList_mapUpdate_own w hg m x v mt hop kt 4 K ht _ b n D hm h1 hn key (.bool t) (kl y) hx hv hkey (.lit (.bool t)) [] (plainElem_bool Try.underlying4 t) (fun w' h3 h4 => hK w' ⟨_, h3, fun z => ?_⟩ h4)
  dsimp only
  by_cases e : z = y
  · subst e
    rw [if_pos rfl, atKey_put_same h1.isMap (hlit z)]
  · rw [if_neg e, atKey_put_other (fun e2 => e (hinj _ _ e2)), h2]
theorem wpList_del_bool (w : World) {ops : Array Oper} {rest : List Oper} {o : Oper} {a : Act} {Q : Exit → Act → World → Prop} (hg : o.guard = none) (m x : Operand) (mt : TypeId) (hop : o.op = Op.call { callee := Callee.builtin Builtin.delete, args := #[m, x], argTypes := #[mt, kt] })
    (K : Keyed Try.prog kt) (ht : Try.prog.underlying mt = some (.map kt 4)) (hinj : ∀ x y, kl x = kl y → x = y) (hm : a.eval m = .map (some b)) (h : BoolMap kl kt w b n S) (key : Value) (y : κ) (hx : a.eval x = key) (hkey : keyOf Try.prog kt key = some (kl y))
    (hK : ∀ w', BoolMap kl kt w' b n (fun z => if z = y then false else S z) → w.grownBy w' (some b) → wpList Try.prog ops Q rest (a.put o.dst (.tuple #[])) w') : wpList Try.prog ops Q (o :: rest) a w := by
  obtain ⟨D, h1, h2⟩ := h
  refine wpList_delete_own w hg m x mt kt hop 4 K ht _ b n D hm h1 key (kl y) hx hkey (fun w' h3 h4 => hK w' ⟨_, h3, fun z => ?_⟩ h4.grown)
  dsimp only
  by_cases e : z = y
  · subst e
    rw [if_pos rfl, atKey_del_same]
  · rw [if_neg e, atKey_del_other (fun e2 => e (hinj _ _ e2)), h2]
end
end Go.Proofs.Ytlmefnifhbcbcaa
end
section
-- Printed by this session's pr.sh (the kit's print.py, several laws in one namespace). Not trusted: Lean checks it.
namespace Go.Proofs.Ytlmefnifhbcbcaa.PAll
open Go.RowKit Go.Proofs.YtlmefnifhbcbcaaW.PrintWords Go.Proofs.YtlmefnifhbcbcaaW.PrintLast Go.Proofs.YtlmefnifhbcbcaaW.PrintMore
attribute [local go_sem] max2_int min2_int max_two min_two max_three min_three max_four min_four   -- for this text's walks alone
set_option linter.unusedVariables false
set_option linter.unusedSimpArgs false

/-! ### group_Need: function 39 -/
def group_Need.f (l0_0 : List Int) (l0_1 : List Int) : Option (Int) := some (wrap64 ((wrap64 ((l0_0.length : Int) / 2)) + 1))
set_option maxHeartbeats 8000000 in
set_option maxRecDepth 100000 in
theorem group_Need.calls (A0_0 : Option Addr) (c0_0 : Nat) (l0_0 : List Int) (A0_1 : Option Addr) (c0_1 : Nat) (l0_1 : List Int) (r : Int) (w : World) (hr0_0 : Kd.C (Kd.int .u64) w A0_0 l0_0.length l0_0) (hc0_0 : l0_0.length ≤ c0_0) (hr0_1 : Kd.C (Kd.int .u64) w A0_1 l0_1.length l0_1) (hc0_1 : l0_1.length ≤ c0_1) (h : group_Need.f l0_0 l0_1 = some r) :
    Calls Try.prog 39 #[.agg #[.slice A0_0 l0_0.length c0_0, .slice A0_1 l0_1.length c0_1]] w fun e w' => e = .returned (.int .i64 r) ∧ Below w.heap.size w w' := by
  have hu28 := Try.underlying28
  have HR0_0 := Aside0.mk hr0_0
  have HC0_0 := Aside0.mk hc0_0
  clear hr0_0 hc0_0
  have HR0_1 := Aside0.mk hr0_1
  have HC0_1 := Aside0.mk hc0_1
  clear hr0_1 hc0_1
  have HB := Aside0.mk (Below.refl w.heap.size w)
  have H : (some (wrap64 ((wrap64 ((l0_0.length : Int) / 2)) + 1))) = some r := h
  clear h
  obtain rfl := Option.some.inj H
  go_enter Try.func39, Try.ntmps39
  go_wp2_with (first | ((with_reducible refine gate_dst (N := 1) rfl ?_); refine box_event ?hg (N := 1) ?hd (cs := #[.slice A0_0 l0_0.length c0_0, .slice A0_1 l0_1.length c0_1]) (t := 28) ?hr ?_; (case hd => rfl); (case hg => rfl); (case hr => first | (go_simp; done) | (go_simp; rfl)); intro gb104 hg w2 hbox hb; have n0_ := Aside0.mk (below_step (by repeat (first | (with_reducible first | exact HB.out | apply below_alloc | apply pw_below_drewN | apply below_drew1) | exact HB.out)) hb); have n1_ := Aside0.mk (hbox); have n2_ := Aside0.mk ((by rw [hg]; exact (below_size (by repeat (first | (with_reducible first | exact HB.out | apply below_alloc | apply pw_below_drewN | apply below_drew1) | exact HB.out))) : w.heap.size ≤ gb104)); have n3_ := Aside0.mk ((by rw [hg]; exact (below_size (by repeat (first | (with_reducible first | exact HB.out | apply below_alloc | apply pw_below_drewN | apply below_drew1) | exact HB.out))) : w.heap.size ≤ gb104)); clear HB; have HB := n0_; have BK104 := n1_; have GW104 := n2_; have GE104 := n3_; clear n0_ n1_ n2_ n3_; clear hb hbox hg; have hcz3_0 : w2.cell? ⟨gb104, 0, none⟩ = some (.slice A0_0 l0_0.length c0_0) := (blk_cell BK104.out 0).trans rfl; have hcz3_1 : w2.cell? ⟨gb104, 1, none⟩ = some (.slice A0_1 l0_1.length c0_1) := (blk_cell BK104.out 1).trans rfl; have hfz3_0 := blk_frozen BK104.out 0; have hfz3_1 := blk_frozen BK104.out 1))
  go_ret
  exact ⟨by first | rfl | (simp [errW_none, errW_some] <;> rfl) | (simp [*, errW_none, errW_some] <;> rfl), by repeat (first | (with_reducible first | exact HB.out | apply below_alloc | apply pw_below_drewN | apply below_drew1 | refine below_set ?_ GE104.out) | exact HB.out)⟩

end Go.Proofs.Ytlmefnifhbcbcaa.PAll
end
