/- Joined texts of the claim ShardOnce (part 51): contracts of functions and plain laws. -/
import Derived.Test.YtmcgcdpiceikeaaJShardOnce50
import Derived.Test.YtmcgcdpiceikeaaJShardOnce24
section
/- What a transaction came to is never told otherwise: plain. -/
namespace Go.Proofs.Ytmcgcdpiceikeaa.PAll
open Go.RowKit Go.Proofs.YtmcgcdpiceikeaaW.PrintWords Go.Proofs.YtmcgcdpiceikeaaW.PrintMore Go.Proofs.Ytmcgcdpiceikeaa
set_option linter.unusedVariables false
set_option linter.unusedSimpArgs false
/-- A transaction came to cm. -/
def overIs (s : Shd) (t : S30) (cm : Bool) : Prop := 0 ≤ findI (isDoneT t) s.dones ∧ (overV s.dones t).f1 = cm
theorem findI_append {α : Type} {p : α → Bool} {l : List α} (e : List α) (h : 0 ≤ findI p l) : findI p (l ++ e) = findI p l := by
  have h1 : l.findIdx p < l.length := by
    unfold findI at h
    by_cases c : l.findIdx p < l.length
    · exact c
    · rw [if_neg c] at h; omega
  unfold findI
  have h2 : (l ++ e).findIdx p = l.findIdx p := by rw [List.findIdx_append, if_pos h1]
  rw [h2, if_pos h1, if_pos (by rw [List.length_append]; omega)]
theorem overIs_append {s : Shd} {t : S30} {cm : Bool} (h : overIs s t cm) (e : List S68) (s' : Shd) (hd : s'.dones = s.dones ++ e) : overIs s' t cm := by
  obtain ⟨h1, h2⟩ := h
  unfold overIs overV at *
  rw [hd, findI_append e h1]
  refine ⟨h1, ?_⟩
  rw [if_pos h1] at h2 ⊢
  obtain ⟨i, hi, hf⟩ := findI_range0 _ _ h1
  rw [hf, Int.toNat_natCast] at h2 ⊢
  rw [getElem!_pos s.dones i hi] at h2
  rw [getElem!_pos (s.dones ++ e) i (by rw [List.length_append]; omega), List.getElem_append_left hi]
  exact h2
theorem doS_dones (s : Shd) (kind : Int) (u : S30) (k : ByteArray) (ps : List S54) (cm : Bool) : ∃ e, (doS s kind u k ps cm).1.dones = s.dones ++ e := by
  unfold doS
  split
  · rcases asks_cases s kind u k with ⟨e, _⟩ | ⟨_, _, _, _, _, rh, rw_, _, e⟩
    · rw [e]; exact ⟨[], by simp⟩
    · rw [e]; exact ⟨[], by simp [asked]⟩
  split
  · rcases preps_cases s u ps with e | ⟨_, i, _, _, _, _, _, _, _, e⟩
    · rw [e]; exact ⟨[], by simp⟩
    · rw [e]; exact ⟨[], by simp [prepared]⟩
  split
  · rcases fins_cases s u cm with e | ⟨_, _, rows, ver, e, _⟩
    · rw [e]; exact ⟨[], by simp⟩
    · rw [e]; exact ⟨_, rfl⟩
  · exact ⟨[], by simp⟩
theorem overIs_stays {s : Shd} {t : S30} {c : Bool} (h : overIs s t c) (kind : Int) (u : S30) (k : ByteArray) (ps : List S54) (cm : Bool) : overIs (doS s kind u k ps cm).1 t c := by
  obtain ⟨e, he⟩ := doS_dones s kind u k ps cm
  exact overIs_append h e _ he
/-- A finish of a transaction that is over. -/
theorem once_again {s : Shd} {t : S30} {c : Bool} (h : overIs s t c) (k : ByteArray) (ps : List S54) (cm : Bool) : doS s 4 t k ps cm = (s, ⟨if c = cm then 0 else 13, ⟨#[]⟩, 0, false, c⟩) := by
  have e : doS s 4 t k ps cm = finsV s t cm := rfl
  rw [e]
  unfold finsV
  rw [if_pos h.1, h.2]
/-- Whatever else is asked of a transaction that is over. -/
theorem once_else {s : Shd} {t : S30} {c : Bool} (h : overIs s t c) (kind : Int) (h1 : 1 ≤ kind) (h3 : kind ≤ 3) (k : ByteArray) (ps : List S54) (cm : Bool) : (doS s kind t k ps cm).2 = ⟨13, ⟨#[]⟩, 0, false, c⟩ := by
  unfold doS
  split
  · unfold asksV
    rw [if_pos h.1, h.2]
  · rw [if_pos (by omega)]
    unfold prepsV
    rw [if_pos h.1, h.2]
/-- A finish that is told OK. -/
theorem once_first {s : Shd} {t : S30} (k : ByteArray) (ps : List S54) (cm : Bool) (he : (doS s 4 t k ps cm).2.err = 0) : (doS s 4 t k ps cm).2.commit = cm ∧ overIs (doS s 4 t k ps cm).1 t cm := by
  have e : doS s 4 t k ps cm = finsV s t cm := rfl
  rw [e] at he ⊢
  by_cases hd : 0 ≤ findI (isDoneT t) s.dones
  · have e2 : finsV s t cm = (s, ⟨if (overV s.dones t).f1 = cm then 0 else 13, ⟨#[]⟩, 0, false, (overV s.dones t).f1⟩) := by unfold finsV; rw [if_pos hd]
    rw [e2] at he ⊢
    dsimp only at he ⊢
    by_cases c : (overV s.dones t).f1 = cm
    · exact ⟨c, hd, c⟩
    · rw [if_neg c] at he; cases he
  · have hfin : ∀ rows ver, (finS s t cm rows ver).2.commit = cm ∧ overIs (finS s t cm rows ver).1 t cm := fun rows ver => by
      refine ⟨rfl, ?_⟩
      have hn := findI_all hd
      have hf : findI (isDoneT t) (s.dones ++ [(⟨t, cm⟩ : S68)]) = (s.dones.length : Int) := by
        have h2 : (s.dones ++ [(⟨t, cm⟩ : S68)]).findIdx (isDoneT t) = s.dones.length := by
          rw [List.findIdx_append, if_neg (fun h => by
            obtain ⟨x, hx, hp⟩ := List.findIdx_lt_length.1 h
            rw [hn x hx] at hp; cases hp)]
          have h3 : isDoneT t (⟨t, cm⟩ : S68) = true := same_iff.2 rfl
          simp [List.findIdx_cons, h3]
        unfold findI
        rw [h2, if_pos (by rw [List.length_append]; simp)]
      unfold overIs overV finS
      dsimp only
      rw [hf]
      refine ⟨by omega, ?_⟩
      rw [if_pos (by omega), Int.toNat_natCast, getElem!_pos _ _ (by simp), List.getElem_append_right (Nat.le_refl _)]
      simp
    rcases fins_cases s t cm with e3 | ⟨_, _, rows, ver, e3, _⟩
    · exfalso
      unfold finsV at he
      rw [if_neg hd] at he
      unfold finsV at e3
      rw [if_neg hd] at e3
      split at he
      · rename_i ho
        rw [if_pos ho] at e3
        split at he
        · cases he
        · rename_i hc
          rw [if_neg hc] at e3
          split at he
          · cases he
          · rename_i h6
            rw [if_neg h6] at e3
            have := congrArg (fun x : Shd => x.dones.length) e3
            simp [finS] at this
      · rename_i ho
        rw [if_neg ho] at e3
        split at he
        · cases he
        · rename_i h1
          rw [if_neg h1] at e3
          split at he
          · rename_i h3
            rw [if_pos h3] at e3
            split at he
            · rename_i hx; exact hx he
            · rename_i hx
              rw [if_neg hx] at e3
              have := congrArg (fun x : Shd => x.dones.length) e3
              simp [finS] at this
          · rename_i h3
            rw [if_neg h3] at e3
            have := congrArg (fun x : Shd => x.dones.length) e3
            simp [finS] at this
    · rw [e3]
      exact hfin rows ver
end Go.Proofs.Ytmcgcdpiceikeaa.PAll
end
section
/- The boxes of shard and order, and one open's row, behind a call. -/
namespace Go.Proofs.Ytmcgcdpiceikeaa.PAll
open Go.RowKit Go.Proofs.YtmcgcdpiceikeaaW.PrintWords Go.Proofs.YtmcgcdpiceikeaaW.PrintMore Go.Proofs.Ytmcgcdpiceikeaa
set_option linter.unusedVariables false
theorem keepOne {q w1 : World} {a : Addr} {v : Value} (e : q.cell? a = some v) (hb : Below q.heap.size q w1) : w1.cell? a = some v := (hb.cell (World.block_lt_of_cell? _ _ e)).trans e
end Go.Proofs.Ytmcgcdpiceikeaa.PAll
end
section
/- Two boxes that a drawn region makes beside a call: what lies in them. -/
namespace Go.Proofs.Ytmcgcdpiceikeaa.PAll
open Go.RowKit Go.Proofs.YtmcgcdpiceikeaaW.PrintWords Go.Proofs.YtmcgcdpiceikeaaW.PrintMore Go.Proofs.Ytmcgcdpiceikeaa
set_option linter.unusedVariables false
theorem ShdAt.other {w W : World} {q g : Nat} {s : Shd} (h : ShdAt w q s) (hq : NoRow w g) (hg : w.grownBy W (some g)) (hne : q ≠ g) : ShdAt W q s := by
  have hl := h.lt
  obtain ⟨A0, c0, A1, c1, A2, c2, A3, c3, h, ⟨a, a'⟩, ⟨b, b'⟩, ⟨c, c'⟩, ⟨d, d'⟩⟩ := h
  have hv : ShdV w (.agg #[.slice A0 s.rows.length c0, .slice A1 s.holds.length c1, .slice A2 s.opens.length c2, .slice A3 s.dones.length c3, .int .u64 s.ver]) s := ⟨_, _, _, _, rfl, ⟨A0, c0, rfl, a', a⟩, ⟨A1, c1, rfl, b', b⟩, ⟨A2, c2, rfl, c', c⟩, ⟨A3, c3, rfl, d', d⟩⟩
  exact ShdAt.of ((hg.block q hl (fun e => hne (Option.some.inj e))).trans h) (hv.grown hq hg)
theorem onceEnd {w : World} {bu ba : Nat} {s : Shd} {A0 A1 A2 A3 : Option Addr} {n0 c0 n1 c1 n2 c2 n3 c3 : Nat} {e v : Int} {st : ByteArray} {f g : Bool} (FU : w.heap[bu]? = some (.cells #[.slice none 0 0, .slice none 0 0, .slice none 0 0, .slice none 0 0, .int .u64 0] 28 (0, 0))) (FA : w.heap[ba]? = some (.cells #[.int .i64 0, .string ⟨#[]⟩, .int .u64 0, .bool false, .bool false] 38 (0, 0))) (hne : bu ≠ ba)
    (hv : ShdV w (.agg #[.slice A0 n0 c0, .slice A1 n1 c1, .slice A2 n2 c2, .slice A3 n3 c3, .int .u64 s.ver]) s) :
    ShdAt (put5 (put5 w bu (.slice A0 n0 c0) (.slice A1 n1 c1) (.slice A2 n2 c2) (.slice A3 n3 c3) (.int .u64 s.ver)) ba (.int .i64 e) (.string st) (.int .u64 v) (.bool f) (.bool g)) bu s ∧
    (put5 (put5 w bu (.slice A0 n0 c0) (.slice A1 n1 c1) (.slice A2 n2 c2) (.slice A3 n3 c3) (.int .u64 s.ver)) ba (.int .i64 e) (.string st) (.int .u64 v) (.bool f) (.bool g)).heap[ba]? = some (.cells #[.int .i64 e, .string st, .int .u64 v, .bool f, .bool g] 38 (0, 0)) := by
  have h1 := ShdAt.put FU hv
  have h2 := put5_other (Ne.symm hne) FA (.slice A0 n0 c0) (.slice A1 n1 c1) (.slice A2 n2 c2) (.slice A3 n3 c3) (.int .u64 s.ver)
  exact ⟨h1.other (noRow_a h2) (put5_grown _ _ _ _ _ _ _) hne, put5_at h2 _ _ _ _ _⟩
theorem keepO {wr w1 : World} {a0 a1 a2 a3 a4 b0 b1 b2 b3 b4 b5 b6 : Addr} {v0 v1 v2 v3 v4 u0 u1 u2 u3 u4 u5 u6 : Value} (h : wr.cell? a0 = some v0 ∧ wr.cell? a1 = some v1 ∧ wr.cell? a2 = some v2 ∧ wr.cell? a3 = some v3 ∧ wr.cell? a4 = some v4 ∧ wr.cell? b0 = some u0 ∧ wr.cell? b1 = some u1 ∧ wr.cell? b2 = some u2 ∧ wr.cell? b3 = some u3 ∧ wr.cell? b4 = some u4 ∧ wr.cell? b5 = some u5 ∧ wr.cell? b6 = some u6) (hb : Below wr.heap.size wr w1) :
    w1.cell? a0 = some v0 ∧ w1.cell? a1 = some v1 ∧ w1.cell? a2 = some v2 ∧ w1.cell? a3 = some v3 ∧ w1.cell? a4 = some v4 ∧ w1.cell? b0 = some u0 ∧ w1.cell? b1 = some u1 ∧ w1.cell? b2 = some u2 ∧ w1.cell? b3 = some u3 ∧ w1.cell? b4 = some u4 ∧ w1.cell? b5 = some u5 ∧ w1.cell? b6 = some u6 := by
  obtain ⟨c0, c1, c2, c3, c4, d0, d1, d2, d3, d4, d5, d6⟩ := h
  exact ⟨keepOne c0 hb, keepOne c1 hb, keepOne c2 hb, keepOne c3 hb, keepOne c4 hb, keepOne d0 hb, keepOne d1 hb, keepOne d2 hb, keepOne d3 hb, keepOne d4 hb, keepOne d5 hb, keepOne d6 hb⟩
/-- A shard is copied from one box into another. -/
theorem copy_at {w : World} {q bu : Nat} {s s' : Shd} (hq : ShdAt w q s') (hu : ShdAt w bu s) : ∃ (A0 : Option Addr) (n0 c0 : Nat) (A1 : Option Addr) (n1 c1 : Nat) (A2 : Option Addr) (n2 c2 : Nat) (A3 : Option Addr) (n3 c3 : Nat) (B0 : Option Addr) (m0 d0 : Nat) (B1 : Option Addr) (m1 d1 : Nat) (B2 : Option Addr) (m2 d2 : Nat) (B3 : Option Addr) (m3 d3 : Nat),
    w.heap[bu]? = some (.cells #[.slice A0 n0 c0, .slice A1 n1 c1, .slice A2 n2 c2, .slice A3 n3 c3, .int .u64 s.ver] 28 (0, 0)) ∧ w.heap[q]? = some (.cells #[.slice B0 m0 d0, .slice B1 m1 d1, .slice B2 m2 d2, .slice B3 m3 d3, .int .u64 s'.ver] 28 (0, 0)) ∧
    ShdAt (put5 w q (.slice A0 n0 c0) (.slice A1 n1 c1) (.slice A2 n2 c2) (.slice A3 n3 c3) (.int .u64 s.ver)) q s := by
  obtain ⟨B0, d0, B1, d1, B2, d2, B3, d3, h2, _⟩ := hq
  obtain ⟨A0, c0, A1, c1, A2, c2, A3, c3, h, ⟨a, a'⟩, ⟨b, b'⟩, ⟨c, c'⟩, ⟨d, d'⟩⟩ := hu
  exact ⟨A0, _, c0, A1, _, c1, A2, _, c2, A3, _, c3, B0, _, d0, B1, _, d1, B2, _, d2, B3, _, d3, h, h2, ShdAt.put h2 ⟨_, _, _, _, rfl, ⟨A0, c0, rfl, a', a⟩, ⟨A1, c1, rfl, b', b⟩, ⟨A2, c2, rfl, c', c⟩, ⟨A3, c3, rfl, d', d⟩⟩⟩
end Go.Proofs.Ytmcgcdpiceikeaa.PAll
end
