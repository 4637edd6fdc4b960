/- Joined texts of the claim ShardFirm (part 33): contracts of functions and plain laws. -/
import Derived.Test.YtmcgcdpiceikeaaJShardFirm31
section
/- shard.prepares$1. -/
namespace Go.Proofs.Ytmcgcdpiceikeaa.PAll
open Go.RowKit Go.Proofs.YtmcgcdpiceikeaaW.PrintWords Go.Proofs.YtmcgcdpiceikeaaW.PrintMore Go.Proofs.Ytmcgcdpiceikeaa
set_option linter.unusedVariables false
set_option maxHeartbeats 1000000 in
theorem shardPrepares1 (Bs Bo : Nat) (A : Option Addr) (c : Nat) (hs : List S75) (t : S30) (x : S54) (W : World) (h1 : W.cell? ⟨Bs, 1, none⟩ = some (.slice A hs.length c)) (hr : Kd.C k75 W A hs.length hs) (hc : hs.length ≤ c) (h2 : W.cell? ⟨Bo, 1, none⟩ = some (.int .u64 t.f0)) (h3 : W.cell? ⟨Bo, 2, none⟩ = some (.int .u64 t.f1)) :
    Calls Try.prog 59 #[.agg (enc54 x).toArray, .pointer (some ⟨Bs, 0, none⟩), .pointer (some ⟨Bo, 0, none⟩)] W fun e W' => e = .returned (.bool (!hasV hs t x.f0 true)) ∧ Below W.heap.size W W' := by
  obtain ⟨xk, xv, xg⟩ := x
  unfold enc54
  dsimp only
  have hb := (Below.refl W.heap.size W).alloc (Nat.le_refl _) (.cells #[.string xk, .string xv, .bool xg] 54)
  have c1 := cellOld (o := .cells #[.string xk, .string xv, .bool xg] 54) h1
  have c2 := cellOld (o := .cells #[.string xk, .string xv, .bool xg] 54) h2
  have c3 := cellOld (o := .cells #[.string xk, .string xv, .bool xg] 54) h3
  have HH := Aside0.mk (lockHas_sl (.slice A hs.length c) hs t xk true _ ⟨A, c, rfl, hc, Kd.C_below hr hb⟩)
  have HB := Aside0.mk hb
  clear hb h1 h2 h3 hr hc
  obtain ⟨ta, ti⟩ := t
  dsimp only at *
  go_enter Try.func59, Try.ntmps59
  go_wp2_with (go_at_call 41; refine HH.out.mono ?_; rintro e w2 ⟨rfl, hb2⟩; have HB2 := Aside0.mk hb2; clear hb2)
  go_ret
  exact ⟨rfl, HB.out.trans (HB2.out.mono HB.out.size)⟩
end Go.Proofs.Ytmcgcdpiceikeaa.PAll
end
