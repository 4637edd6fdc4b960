/- Joined texts of the claim ShardRight (part 37): contracts of functions and plain laws. -/
import Derived.Deep.AppendLies
import Derived.Test.YtmcgcdpiceikeaaJShardRight36
section
/- shard.finishes: tools. -/
namespace Go.Proofs.Ytmcgcdpiceikeaa.PAll
open Go.RowKit Go.Proofs.YtmcgcdpiceikeaaW.PrintWords Go.Proofs.YtmcgcdpiceikeaaW.PrintMore Go.Proofs.Ytmcgcdpiceikeaa
set_option linter.unusedVariables false
theorem step_own_append {P : Program} {k e t : Nat} {z : Value} {bytes base : Nat} {w : World} {v : Value} {css : List (List Value)} {c : List Value} {ops : Array Oper} {o : Oper} {a : Act} {K : Act → World → Prop} {Q : Exit → Act → World → Prop} {E : Prop} (hgd : o.guard = none) (s x : Operand)
    (ho : o.op = .call { callee := .builtin .append, args := #[s, x], argTypes := #[t, t] }) (ht : P.underlying t = some (.slice e)) (hinfo : (P.info? e).map (fun i => (i.zero, i.size, i.bytes)) = some (some z, k, bytes)) (hz : z.cells.size = k) (hs0 : 0 < k)
    (hs : a.eval s = v) (ad : Addr) (hx : a.eval x = .slice (some ad) 1 1) (hc : c.length = k ∧ ∀ u ∈ c, u.oneCell' = true) (hnews : ∀ j u, c[j]? = some u → w.cell? (ad.add j) = some u) (HO : Own k e w base v css) (hbase : base ≤ w.heap.size) (hl : (css.length + 1) * bytes ≤ 140737488355328) (h63 : css.length + 1 ≤ maxLen)
    (h : ∀ v1 w1, Own k e w1 base v1 (css ++ [c]) → w.grownBy w1 v.ownBlock → K (a.put o.dst v1) w1) :
    if Region.wanted o (yielded ops a.tmps) = true then Oper.wp P o a w K Q else E := by
  cases hi : P.info? e with
  | none => rw [hi] at hinfo; cases hinfo
  | some i =>
    rw [hi] at hinfo
    simp only [Option.map_some, Option.some.injEq, Prod.mk.injEq] at hinfo
    obtain ⟨h1, h2, h3⟩ := hinfo
    refine step_append_lies w hgd s x t ho base e i z k bytes ht hi h1 h2 h3 hz hs0 v css.length css.flatten hs HO.2 ad 1 1 c hx (by rw [hc.1]; omega) hnews hc.2 (by omega) h63 hl hbase _ rfl (fun g cap w' ho hg _ _ => h _ w' ⟨fun y hy => ?_, ?_⟩ hg)
    · rcases List.mem_append.1 hy with hy | hy
      · exact HO.1 y hy
      · rw [List.mem_singleton.1 hy]; exact hc
    · rw [List.length_append, List.flatten_append, List.length_singleton, List.flatten_cons, List.flatten_nil, List.append_nil]
      exact ho
theorem finDelete {n base : Nat} {W w : World} {v : Value} {css : List (List Value)} {os : List S48} {kind : Int} {key : ByteArray} {A4 : Option Addr} {n4 c4 : Nat} {cm : Bool} {A5 : Option Addr} {n5 c5 : Nat} (t : S30)
    (hO : W.heap[n + 1]? = some (.cells #[.int .i64 kind, .int .u64 t.f0, .int .u64 t.f1, .string key, .slice A4 n4 c4, .bool cm, .slice A5 n5 c5] 34 (0, 0)))
    (hv : Own 5 48 W base v css) (hbase : base ≤ W.heap.size) (hrow : OpenRow w os css) (hn : n + 1 < base) :
    Calls Try.prog 63 #[v, .func (.func 64) #[] #[.pointer (some ⟨n + 1, 0, none⟩)]] W fun e w' => ∃ v', e = .returned v' ∧ Own 5 48 w' base v' (css.filter (fun c => !isTxC t c)) ∧ W.grownBy w' v.ownBlock := by
  obtain ⟨_, o1, o2, _⟩ := cells_7 hO
  refine DeleteFuncOpen (isTxC t) 64 #[.pointer (some ⟨n + 1, 0, none⟩)] (enters_of Try.func64 (by kernel_rfl) rfl) v css base W hv hbase (fun W' c hg hc => ?_)
  obtain ⟨j, hj, rfl⟩ := List.mem_iff_getElem.1 hc
  obtain ⟨B, m, he, _, _⟩ := hrow.cells j (by rw [← hrow.1]; exact hj)
  rw [getElem!_pos css j hj] at he
  rw [he]
  have hne : some (n + 1) ≠ v.ownBlock := fun e => by have := hv.base _ e.symm; omega
  exact shardFinishes1 (n + 1) t _ _ _ _ _ B _ m rfl W' (cell_grown_u o1 hg hne) (cell_grown_u o2 hg hne)
theorem allCalls (A : Option Addr) (c : Nat) (rs : List S50) (B : Option Addr) (pc : Nat) (ps : List S54) (ver : Int) (rl : List S50) (er : Int) (w : World) (hr : Kd.C k50 w A rs.length rs) (hc : rs.length ≤ c) (hr' : Kd.C k54 w B ps.length ps) (hc' : ps.length ≤ pc) (hl : rs.length ≤ 2000000000000) (h : allV rs ps ver = (rl, er)) :
    Calls Try.prog 61 #[.slice A rs.length c, .slice B ps.length pc, .int .u64 ver] w fun e w' => ∃ (Al : Option Addr) (cl : Nat), e = .returned (.tuple #[.slice Al rl.length cl, .int .i64 er]) ∧ Own 3 50 w' w.heap.size (.slice Al rl.length cl) (rl.map enc50) ∧ Below w.heap.size w w' := by
  obtain ⟨k, hk⟩ := (All_ev rs ps ver (by omega)).rounds
  refine (rows_All.calls k A c rs B pc ps ver rl er w hr hc hr' hc' (by rw [← h]; exact hk)).mono ?_
  rintro e w' ⟨v, rfl, hR, hb⟩
  have ho := flat50.own hR
  obtain ⟨Al, cl, hv, _⟩ := own_sl2 ho
  rw [List.length_map] at hv
  subst hv
  exact ⟨Al, cl, rfl, ho, hb⟩
theorem infoDone : (Try.prog.info? 68).map (fun i => (i.zero, i.size, i.bytes)) = some (some (.agg #[.int .u64 0, .int .u64 0, .bool false]), 3, 24) := by kernel_rfl
theorem cells_new {w : World} {c : List Value} {t : TypeId} : ∀ j u, c[j]? = some u → (w.alloc (.cells c.toArray t)).cell? (Addr.add ⟨w.heap.size, 0, none⟩ j) = some u := fun j u hu => by
  rw [Addr.add_lit, Nat.zero_add, cell_row (heap_alloc_new w (.cells c.toArray t))]
  exact hu
theorem cells_blk {w : World} {b : Nat} {c : List Value} {t : TypeId} (h : w.heap[b]? = some (.cells c.toArray t (0, 0))) : ∀ j u, c[j]? = some u → w.cell? (Addr.add ⟨b, 0, none⟩ j) = some u := fun j u hu => by
  rw [Addr.add_lit, Nat.zero_add, cell_row h]
  exact hu
theorem doneCells_ok (a b : Int) (c : Bool) : ([.int .u64 a, .int .u64 b, .bool c] : List Value).length = 3 ∧ ∀ u ∈ ([.int .u64 a, .int .u64 b, .bool c] : List Value), u.oneCell' = true := ⟨rfl, by simp [Value.oneCell']⟩
end Go.Proofs.Ytmcgcdpiceikeaa.PAll
end
