/- Joined texts of the claim ShardFirm (part 32): contracts of functions and plain laws. -/
import Derived.Test.YtmcgcdpiceikeaaJShardFirm12
import Derived.Test.YtmcgcdpiceikeaaJShardFirm31
import Derived.Test.YtmcgcdpiceikeaaJShardFirm21
import Derived.Test.YtmcgcdpiceikeaaJShardFirm28
import Derived.BigRegion
section
-- Printed by this session's pr.sh (the kit's print.py, several laws in one namespace). Not trusted: Lean checks it.
namespace Go.Proofs.Ytmcgcdpiceikeaa.PAll
open Go.RowKit Go.Proofs.YtmcgcdpiceikeaaW.PrintWords Go.Proofs.YtmcgcdpiceikeaaW.PrintLast Go.Proofs.YtmcgcdpiceikeaaW.PrintMore
attribute [local go_sem] max2_int min2_int max_two min_two max_three min_three max_four min_four   -- for this text's walks alone
set_option linter.unusedVariables false
set_option linter.unusedSimpArgs false

attribute [local go_sem high] eqA54
/-! ### api_Put_46: function 46 -/
def api_Put_46.l0 : Nat → List (S54) → List (S54) → Int → Int → Option (Bool)
  | 0, _, _, _, _ => none
  | k + 1, x0, x1, x12, x13 => if x13 < x12 then (if 0 ≤ x13 then (if x13 < (x0.length : Int) then (if x13 < (x1.length : Int) then (if (!((((rd_T54 x0 x13).f0).toList) == (((rd_T54 x1 x13).f0).toList)) || (!((((rd_T54 x0 x13).f1).toList) == (((rd_T54 x1 x13).f1).toList)) || (!(((rd_T54 x0 x13).f2) == ((rd_T54 x1 x13).f2))))) = true then (some false) else (api_Put_46.l0 k x0 x1 x12 (wrap64 (x13 + 1)))) else (none)) else (none)) else (none)) else (some true)
def api_Put_46.f (k : Nat) (l0 : List (S54)) (l1 : List (S54)) : Option (Bool) := if (l0.length : Int) = (l1.length : Int) then (api_Put_46.l0 k l0 l1 (l0.length : Int) 0) else (some false)
set_option maxHeartbeats 8000000 in
set_option maxRecDepth 100000 in
theorem api_Put_46.calls (k : Nat) (A0 : Option Addr) (c0 : Nat) (l0 : List (S54)) (A1 : Option Addr) (c1 : Nat) (l1 : List (S54)) (r : Bool) (w : World) (hr0 : Kd.C k54 w A0 l0.length l0) (hc0 : l0.length ≤ c0) (hr1 : Kd.C k54 w A1 l1.length l1) (hc1 : l1.length ≤ c1) (h : api_Put_46.f k l0 l1 = some r) :
    Calls Try.prog 46 #[.slice A0 l0.length c0, .slice A1 l1.length c1] w fun e w' => e = .returned (.bool r) ∧ Drawn0 w w' := by
  have hu54 := Try.underlying54
  have HR0 := Aside0.mk hr0
  have HC0 := Aside0.mk hc0
  clear hr0 hc0
  have HR1 := Aside0.mk hr1
  have HC1 := Aside0.mk hc1
  clear hr1 hc1
  have H : (if (l0.length : Int) = (l1.length : Int) then (api_Put_46.l0 k l0 l1 (l0.length : Int) 0) else (some false)) = some r := h
  clear h
  by_cases c3 : (l0.length : Int) = (l1.length : Int)
  · rw [if_pos c3] at H
    have c3b0 : ((l0.length : Int) == (l1.length : Int)) = true := beq_iff_eq.mpr c3
    have c3b1 : ((l0.length : Int) != (l1.length : Int)) = false := bne_eq_false_iff_eq.mpr c3
    have c3b2 : (l0.length == l1.length) = true := by first | simpa using c3 | (simp at c3 ⊢; omega)
    clear c3
    have H' := Aside0.mk H
    clear H
    go_enter Try.func46, Try.ntmps46
    go_wp2
    repeat (go_quiet (fail); try go_wp2)
    go_loopg [13] k (fun kq v13 w' => ∃ (x13_1 : Int), v13 = .int .i64 x13_1 ∧ Aside0 (api_Put_46.l0 kq l0 l1 (l0.length : Int) x13_1 = some r) ∧ Aside0 (kq ≤ k) ∧ Drawn0 w w')
    case atStart => exact ⟨(0), (by first | rfl | (simp; done) | (simp [*]; done)), H', ⟨Nat.le_refl _⟩, by repeat (first | exact Drawn0.refl _ | apply Drawn0.step)⟩
    case round =>
      clear H'
      try clear c1
      try clear p2
      try clear c3
      try clear c3b0
      try clear c3b1
      try clear c3b2
      obtain ⟨x13_1, rfl, HA, HK1, ⟨m1, rfl⟩⟩ := hrel
      cases gk with
      | zero => exact absurd HA.out (by simp [api_Put_46.l0])
      | succ k1 =>
        have H := HA.out
        clear HA
        simp only [api_Put_46.l0] at H
        by_cases c4 : x13_1 < (l0.length : Int)
        · rw [if_pos c4] at H
          have c4b0 : decide (x13_1 < (l0.length : Int)) = true := decide_eq_true c4
          clear c4
          by_cases c5 : 0 ≤ x13_1
          · rw [if_pos c5] at H
            have c5b0 : decide (0 ≤ x13_1) = true := decide_eq_true c5
            clear c5
            by_cases c6 : x13_1 < (l0.length : Int)
            · rw [if_pos c6] at H
              have c6b0 : decide (x13_1 < (l0.length : Int)) = true := decide_eq_true c6
              clear c6
              by_cases c7 : x13_1 < (l1.length : Int)
              · rw [if_pos c7] at H
                have c7b0 : decide (x13_1 < (l1.length : Int)) = true := decide_eq_true c7
                clear c7
                by_cases c8 : (!((((rd_T54 l0 x13_1).f0).toList) == (((rd_T54 l1 x13_1).f0).toList)) || (!((((rd_T54 l0 x13_1).f1).toList) == (((rd_T54 l1 x13_1).f1).toList)) || (!(((rd_T54 l0 x13_1).f2) == ((rd_T54 l1 x13_1).f2))))) = true
                · rw [if_pos c8] at H
                  have c8b0 : (!((((rd_T54 l0 x13_1).f0).toList) == (((rd_T54 l1 x13_1).f0).toList)) || (!((((rd_T54 l0 x13_1).f1).toList) == (((rd_T54 l1 x13_1).f1).toList)) || (!(((rd_T54 l0 x13_1).f2) == ((rd_T54 l1 x13_1).f2))))) = true := c8
                  clear c8
                  obtain rfl := Option.some.inj H
                  have p134 : 0 ≤ (x13_1 : Int) := of_decide_eq_true (by first | (with_reducible assumption) | assumption)
                  have q134 : x13_1 < (l0.length : Int) := of_decide_eq_true (by first | (with_reducible assumption) | assumption)
                  obtain ⟨ad134, e134, hx134_0, hx134_1, hx134_2⟩ := at_T54 HR0.out x13_1 p134 q134
                  cases e134
                  replace p134 := eq_true p134
                  replace q134 := eq_true q134
                  have p135 : 0 ≤ (x13_1 : Int) := of_decide_eq_true (by first | (with_reducible assumption) | assumption)
                  have q135 : x13_1 < (l1.length : Int) := of_decide_eq_true (by first | (with_reducible assumption) | assumption)
                  obtain ⟨ad135, e135, hx135_0, hx135_1, hx135_2⟩ := at_T54 HR1.out x13_1 p135 q135
                  cases e135
                  replace p135 := eq_true p135
                  replace q135 := eq_true q135
                  go_wp2
                  repeat (go_quiet (fail); try go_wp2)
                  go_ret
                  exact ⟨by first | rfl | (simp; done) | (simp [*]; done), by repeat (first | exact Drawn0.refl _ | apply Drawn0.step)⟩
                · rw [if_neg c8] at H
                  have c8b0 : (!((((rd_T54 l0 x13_1).f0).toList) == (((rd_T54 l1 x13_1).f0).toList)) || (!((((rd_T54 l0 x13_1).f1).toList) == (((rd_T54 l1 x13_1).f1).toList)) || (!(((rd_T54 l0 x13_1).f2) == ((rd_T54 l1 x13_1).f2))))) = false := by simpa using c8
                  clear c8
                  have H' := Aside0.mk H
                  clear H
                  have p134 : 0 ≤ (x13_1 : Int) := of_decide_eq_true (by first | (with_reducible assumption) | assumption)
                  have q134 : x13_1 < (l0.length : Int) := of_decide_eq_true (by first | (with_reducible assumption) | assumption)
                  obtain ⟨ad134, e134, hx134_0, hx134_1, hx134_2⟩ := at_T54 HR0.out x13_1 p134 q134
                  cases e134
                  replace p134 := eq_true p134
                  replace q134 := eq_true q134
                  have p135 : 0 ≤ (x13_1 : Int) := of_decide_eq_true (by first | (with_reducible assumption) | assumption)
                  have q135 : x13_1 < (l1.length : Int) := of_decide_eq_true (by first | (with_reducible assumption) | assumption)
                  obtain ⟨ad135, e135, hx135_0, hx135_1, hx135_2⟩ := at_T54 HR1.out x13_1 p135 q135
                  cases e135
                  replace p135 := eq_true p135
                  replace q135 := eq_true q135
                  go_wp2
                  repeat (go_quiet (fail); try go_wp2)
                  go_roundg k1
                  case measure => have := HK1.out; omega
                  case rel => exact ⟨(wrap64 (x13_1 + 1)), (by first | rfl | (simp; done) | (simp [*]; done)), H', ⟨by have := HK1.out; omega⟩, by repeat (first | exact Drawn0.refl _ | apply Drawn0.step)⟩
              · rw [if_neg c7] at H
                exact absurd H (by simp)
            · rw [if_neg c6] at H
              exact absurd H (by simp)
          · rw [if_neg c5] at H
            exact absurd H (by simp)
        · rw [if_neg c4] at H
          have c4b0 : decide (x13_1 < (l0.length : Int)) = false := decide_eq_false c4
          clear c4
          obtain rfl := Option.some.inj H
          go_wp2
          repeat (go_quiet (fail); try go_wp2)
          go_ret
          exact ⟨by first | rfl | (simp; done) | (simp [*]; done), by repeat (first | exact Drawn0.refl _ | apply Drawn0.step)⟩
  · rw [if_neg c3] at H
    have c3b0 : ((l0.length : Int) == (l1.length : Int)) = false := beq_eq_false_iff_ne.mpr c3
    have c3b1 : ((l0.length : Int) != (l1.length : Int)) = true := bne_iff_ne.mpr c3
    have c3b2 : (l0.length == l1.length) = false := by first | simpa using c3 | (simp at c3 ⊢; omega)
    obtain rfl := Option.some.inj H
    go_enter Try.func46, Try.ntmps46
    go_wp2
    repeat (go_quiet (fail); try go_wp2)
    go_ret
    exact ⟨by first | rfl | (simp; done) | (simp [*]; done), by repeat (first | exact Drawn0.refl _ | apply Drawn0.step)⟩

end Go.Proofs.Ytmcgcdpiceikeaa.PAll
end
section
/- Equality of lists of puts: slices.Equal, ferruleref13.SamePuts. -/
namespace Go.Proofs.Ytmcgcdpiceikeaa.PAll
open Go.RowKit Go.Proofs.YtmcgcdpiceikeaaW.PrintWords Go.Proofs.YtmcgcdpiceikeaaW.PrintMore Go.Proofs.Ytmcgcdpiceikeaa
set_option linter.unusedVariables false
def neP (x y : S54) : Bool := !(x.f0.toList == y.f0.toList) || (!(x.f1.toList == y.f1.toList) || !(x.f2 == y.f2))
def eqGo : List S54 → List S54 → Bool
  | x :: a, y :: b => if neP x y = true then false else eqGo a b
  | _, _ => true
def samePutsV (a b : List S54) : Bool := decide (a.length = b.length) && eqGo a b
theorem eqPut_l0 (a b : List S54) (he : a.length = b.length) (hl : a.length ≤ 9223372036854775807) : ∀ (d j : Nat), d = a.length - j → j ≤ a.length → Ev (fun q => api_Put_46.l0 q a b (a.length : Int) (j : Int)) (eqGo (a.drop j) (b.drop j)) := by
  intro d
  induction d with
  | zero =>
    intro j hd hj
    obtain rfl : j = a.length := by omega
    rw [List.drop_length]
    exact Ev.step (fun q => by simp only [api_Put_46.l0]; exact if_neg (by omega)) (Ev.now true)
  | succ d ih =>
    intro j hd hj
    have hlt : j < a.length := by omega
    have hlt2 : j < b.length := by omega
    rw [dropBang a j hlt, dropBang b j hlt2]
    unfold eqGo
    refine Ev.step (fun q => by simp only [api_Put_46.l0]; rw [if_pos (by omega), if_pos (by omega), if_pos (by omega), if_pos (by omega), rd_put a j hlt, rd_put b j hlt2, wrapInc j (by omega)]) ?_
    have hn : (!((a[j]!).f0.toList == (b[j]!).f0.toList) || (!((a[j]!).f1.toList == (b[j]!).f1.toList) || (!((a[j]!).f2 == (b[j]!).f2)))) = neP (a[j]!) (b[j]!) := rfl
    rw [hn]
    cases c : neP (a[j]!) (b[j]!) with
    | true => exact Ev.congr (fun _ => if_pos rfl) (Ev.now false)
    | false =>
      refine Ev.congr (fun _ => if_neg (by decide)) ?_
      exact ih (j + 1) (by omega) (by omega)
theorem eqPut_calls (A B : Option Addr) (c c' : Nat) (a b : List S54) (w : World) (hr : Kd.C k54 w A a.length a) (hc : a.length ≤ c) (hr' : Kd.C k54 w B b.length b) (hc' : b.length ≤ c') : Calls Try.prog 46 #[.slice A a.length c, .slice B b.length c'] w fun e w' => e = .returned (.bool (samePutsV a b)) ∧ Drawn0 w w' := by
  have h : Ev (fun q => api_Put_46.f q a b) (samePutsV a b) := by
    unfold samePutsV
    by_cases e : a.length = b.length
    · rw [decide_eq_true e, Bool.true_and]
      exact Ev.congr (fun _ => if_pos (by omega)) (eqPut_l0 a b e hr.2.1 a.length 0 (by omega) (by omega))
    · rw [decide_eq_false e, Bool.false_and]
      exact Ev.congr (fun _ => if_neg (by omega)) (Ev.now false)
  obtain ⟨k, hk⟩ := h.rounds
  exact api_Put_46.calls k A c a B c' b _ w hr hc hr' hc' hk
end Go.Proofs.Ytmcgcdpiceikeaa.PAll
end
section
/- shard.prepares, of one that is firm already. -/
namespace Go.Proofs.Ytmcgcdpiceikeaa.PAll
open Go.RowKit Go.Proofs.YtmcgcdpiceikeaaW.PrintWords Go.Proofs.YtmcgcdpiceikeaaW.PrintMore Go.Proofs.Ytmcgcdpiceikeaa
set_option linter.unusedVariables false
theorem keepS2 {w0 : World} {n : Nat} {a b : Addr} {v0 v1 v2 v3 v4 u0 u1 u2 u3 u4 u5 u6 x y : Value} {q w1 : World} (h : q.cell? a = some x ∧ q.cell? b = some y ∧ q.cell? ⟨n, 0, none⟩ = some v0 ∧ q.cell? ⟨n, 1, none⟩ = some v1 ∧ q.cell? ⟨n, 2, none⟩ = some v2 ∧ q.cell? ⟨n, 3, none⟩ = some v3 ∧ q.cell? ⟨n, 4, none⟩ = some v4 ∧ q.cell? ⟨n + 1, 0, none⟩ = some u0 ∧ q.cell? ⟨n + 1, 1, none⟩ = some u1 ∧ q.cell? ⟨n + 1, 2, none⟩ = some u2 ∧ q.cell? ⟨n + 1, 3, none⟩ = some u3 ∧ q.cell? ⟨n + 1, 4, none⟩ = some u4 ∧ q.cell? ⟨n + 1, 5, none⟩ = some u5 ∧ q.cell? ⟨n + 1, 6, none⟩ = some u6 ∧ Below w0.heap.size w0 q) (hb : Below q.heap.size q w1) :
    w1.cell? a = some x ∧ w1.cell? b = some y ∧ w1.cell? ⟨n, 0, none⟩ = some v0 ∧ w1.cell? ⟨n, 1, none⟩ = some v1 ∧ w1.cell? ⟨n, 2, none⟩ = some v2 ∧ w1.cell? ⟨n, 3, none⟩ = some v3 ∧ w1.cell? ⟨n, 4, none⟩ = some v4 ∧ w1.cell? ⟨n + 1, 0, none⟩ = some u0 ∧ w1.cell? ⟨n + 1, 1, none⟩ = some u1 ∧ w1.cell? ⟨n + 1, 2, none⟩ = some u2 ∧ w1.cell? ⟨n + 1, 3, none⟩ = some u3 ∧ w1.cell? ⟨n + 1, 4, none⟩ = some u4 ∧ w1.cell? ⟨n + 1, 5, none⟩ = some u5 ∧ w1.cell? ⟨n + 1, 6, none⟩ = some u6 ∧ Below w0.heap.size w0 w1 := by
  obtain ⟨ha, hb', h⟩ := h
  have c {a : Addr} {v : Value} (e : q.cell? a = some v) : w1.cell? a = some v := (hb.cell (World.block_lt_of_cell? _ _ e)).trans e
  exact ⟨c ha, c hb', keepS h hb⟩
set_option maxRecDepth 100000 in
set_option maxHeartbeats 8000000 in
theorem prep_again (kind : Int) (t : S30) (key : ByteArray) (A4 : Option Addr) (n4 c4 : Nat) (cm : Bool) (A5 : Option Addr) (n5 c5 : Nat) (A0 : Option Addr) (c0 : Nat) (A1 : Option Addr) (c1 : Nat) (A2 : Option Addr) (c2 : Nat) (A3 : Option Addr) (c3 : Nat) (rs : List S50) (hs : List S75) (os : List S48) (ds : List S68) (ver : Int) (w : World) (hr0 : Kd.C k50 w A0 rs.length rs) (hc0 : rs.length ≤ c0) (hr1 : Kd.C k75 w A1 hs.length hs) (hc1 : hs.length ≤ c1) (hr2 : Kd.C k48 w A2 os.length os) (hc2 : os.length ≤ c2) (hr3 : Kd.C k68 w A3 ds.length ds) (hc3 : ds.length ≤ c3) (hd : ¬ 0 ≤ findI (isDoneT t) ds) (ii : Nat) (hii : ii < os.length) (hfi : findI (isOpenT t) os = (ii : Int)) (hf1 : (os[ii]!).f1 = true) (hf2 : (os[ii]!).f2 = false) (ps : List S54) (hn4 : n4 = ps.length) (hr4 : Kd.C k54 w A4 ps.length ps) (hc4 : ps.length ≤ c4) (hsame : samePutsV (os[ii]!).f3 ps = true) :
    Calls Try.prog 22 #[.agg (shv A0 rs.length c0 A1 hs.length c1 A2 os.length c2 A3 ds.length c3 ver), .agg #[.int .i64 kind, .int .u64 t.f0, .int .u64 t.f1, .string key, .slice A4 n4 c4, .bool cm, .slice A5 n5 c5]] w (DoPost w (⟨rs, hs, os, ds, ver⟩, errA 0)) := by
  obtain ⟨bS, bO, bZ, bA⟩ := alloc4 w (.cells #[.slice A0 rs.length c0, .slice A1 hs.length c1, .slice A2 os.length c2, .slice A3 ds.length c3, .int .u64 ver] 28) (.cells #[.int .i64 kind, .int .u64 t.f0, .int .u64 t.f1, .string key, .slice A4 n4 c4, .bool cm, .slice A5 n5 c5] 34) (.cells #[.slice none 0 0, .slice none 0 0, .slice none 0 0, .slice none 0 0, .int .u64 0] 28) (.cells #[.int .i64 0, .string ⟨#[]⟩, .int .u64 0, .bool false, .bool false] 38)
  have hb4 : Below w.heap.size w ((((w.alloc (.cells #[.slice A0 rs.length c0, .slice A1 hs.length c1, .slice A2 os.length c2, .slice A3 ds.length c3, .int .u64 ver] 28)).alloc (.cells #[.int .i64 kind, .int .u64 t.f0, .int .u64 t.f1, .string key, .slice A4 n4 c4, .bool cm, .slice A5 n5 c5] 34)).alloc (.cells #[.slice none 0 0, .slice none 0 0, .slice none 0 0, .slice none 0 0, .int .u64 0] 28)).alloc (.cells #[.int .i64 0, .string ⟨#[]⟩, .int .u64 0, .bool false, .bool false] 38)) := ((((Below.refl w.heap.size w).alloc (Nat.le_refl _) _).alloc (by simp) _).alloc (by simp; omega) _).alloc (by simp; omega) _
  have HW4 : Aside0 (((((w.alloc (.cells #[.slice A0 rs.length c0, .slice A1 hs.length c1, .slice A2 os.length c2, .slice A3 ds.length c3, .int .u64 ver] 28)).alloc (.cells #[.int .i64 kind, .int .u64 t.f0, .int .u64 t.f1, .string key, .slice A4 n4 c4, .bool cm, .slice A5 n5 c5] 34)).alloc (.cells #[.slice none 0 0, .slice none 0 0, .slice none 0 0, .slice none 0 0, .int .u64 0] 28)).alloc (.cells #[.int .i64 0, .string ⟨#[]⟩, .int .u64 0, .bool false, .bool false] 38)).heap.size = w.heap.size + 1 + 1 + 1 + 1) := ⟨by simp⟩
  have BS := Aside0.mk bS
  have BO := Aside0.mk bO
  have BZ := Aside0.mk bZ
  have BA := Aside0.mk bA
  have HB4 := Aside0.mk hb4
  have HOV := Aside0.mk (fun (W : World) (h : Below w.heap.size w W) => shardOver_sl A0 rs.length c0 A1 hs.length c1 A2 os.length c2 A3 c3 ver ds t W (Kd.C_below hr3 h) hc3)
  have HKN := Aside0.mk (fun (W : World) (h : Below w.heap.size w W) => shardKnown_sl A0 rs.length c0 A1 hs.length c1 A2 c2 A3 ds.length c3 ver os t W (Kd.C_below hr2 h) hc2)
  have HR0 := Aside0.mk hr0
  have HR1 := Aside0.mk hr1
  have HR2 := Aside0.mk hr2
  have HR3 := Aside0.mk hr3
  have HC0 := Aside0.mk hc0
  have HC1 := Aside0.mk hc1
  have HC2 := Aside0.mk hc2
  have HC3 := Aside0.mk hc3
  clear hr0 hc0 hr1 hc1 hr2 hc2 hr3 hc3 bS bO bZ bA hb4
  subst hn4
  rw [decide_eq_false hd] at HOV
  clear hd
  generalize overV ds t = dv at *
  obtain ⟨⟨dA, dI⟩, dC⟩ := dv
  have HNO := Aside0.mk (fun (W : World) (e0 : Int) => shardNo2 A0 rs.length c0 A1 hs.length c1 A2 os.length c2 A3 ds.length c3 ver e0 W)
  rw [hfi] at HKN
  obtain ⟨ob, oo, hA, pB, pc, hpl, hpr, _, _, hp2, hp3, hp4⟩ := openRow HR2.out ii hii
  have hiz : (0 : Int) ≤ (ii : Int) := by omega
  have hiz2 : (ii : Int) < (os.length : Int) := by omega
  rw [hf1] at hp2
  rw [hf2] at hp3
  have HP2 := Aside0.mk hp2
  have HP3 := Aside0.mk hp3
  have HP4 := Aside0.mk hp4
  have HEQ := Aside0.mk (fun (W : World) (h : Below w.heap.size w W) => eqPut_calls pB A4 pc c4 (os[ii]!).f3 ps W (Kd.C_below hpr h) hpl (Kd.C_below hr4 h) hc4)
  rw [hsame] at HEQ
  generalize (os[ii]!).f3.length = pn at *
  have HR4 := Aside0.mk hr4
  subst hA
  clear hp2 hp3 hp4 hf1 hf2 hfi hii hpl hpr hr4 hc4 hsame
  obtain ⟨ta, ti⟩ := t
  unfold shv at *
  dsimp only at *
  go_enter Try.func22, Try.ntmps22
  go_wp2_with (first
    | (go_at_call 51; refine (HOV.out _ HB4.out).mono ?_; rintro e w5 ⟨rfl, hb5⟩; have HW5 := Aside0.mk hb5.size; have SB5 := Aside0.mk (stay hb5 BS.out (by rw [HW4.out]; omega)); have OB5 := Aside0.mk (stay hb5 BO.out (by rw [HW4.out]; omega)); have ZB5 := Aside0.mk (stay hb5 BZ.out (by rw [HW4.out]; omega)); have AB5 := Aside0.mk (stay hb5 BA.out (by rw [HW4.out]; omega)); obtain ⟨hs0, hs1, hs2, hs3, hs4⟩ := cells_5 (stayA SB5.out (.cells #[.int .u64 dA, .int .u64 dI, .bool dC] 68)); obtain ⟨ho0, ho1, ho2, ho3, ho4, ho5, ho6⟩ := cells_7 (stayA OB5.out (.cells #[.int .u64 dA, .int .u64 dI, .bool dC] 68)); have HB5 := Aside0.mk (HB4.out.trans (hb5.mono HB4.out.size)); clear hb5)
    | (go_at_call 52; refine (HKN.out _ (HB5.out.alloc HB5.out.size (.cells #[.int .u64 dA, .int .u64 dI, .bool dC] 68))).mono ?_; rintro e w6 ⟨rfl, hb6⟩; clear hs0 hs1 hs2 hs3 hs4 ho0 ho1 ho2 ho3 ho4 ho5 ho6; have SB6 := Aside0.mk (stay hb6 (stayA SB5.out (.cells #[.int .u64 dA, .int .u64 dI, .bool dC] 68)) (by have := HW4.out; have := HW5.out; simp; omega)); have OB6 := Aside0.mk (stay hb6 (stayA OB5.out (.cells #[.int .u64 dA, .int .u64 dI, .bool dC] 68)) (by have := HW4.out; have := HW5.out; simp; omega)); have ZB6 := Aside0.mk (stay hb6 (stayA ZB5.out (.cells #[.int .u64 dA, .int .u64 dI, .bool dC] 68)) (by have := HW4.out; have := HW5.out; simp; omega)); have AB6 := Aside0.mk (stay hb6 (stayA AB5.out (.cells #[.int .u64 dA, .int .u64 dI, .bool dC] 68)) (by have := HW4.out; have := HW5.out; simp; omega)); have DB6 := Aside0.mk (stay hb6 (heap_alloc_new w5 (.cells #[.int .u64 dA, .int .u64 dI, .bool dC] 68)) (by simp)); obtain ⟨hs0, hs1, hs2, hs3, hs4⟩ := cells_5 SB6.out; obtain ⟨ho0, ho1, ho2, ho3, ho4, ho5, ho6⟩ := cells_7 OB6.out; obtain ⟨hd0, hd1, hd2⟩ := cells_3 DB6.out; have HB6 := Aside0.mk ((HB5.out.alloc HB5.out.size (.cells #[.int .u64 dA, .int .u64 dI, .bool dC] 68)).trans (hb6.mono (HB5.out.alloc HB5.out.size (.cells #[.int .u64 dA, .int .u64 dI, .bool dC] 68)).size)); have HW6 : Aside0 (w.heap.size + 1 + 1 + 1 + 1 ≤ w6.heap.size) := ⟨by have := HW4.out; have := HW5.out; have := hb6.size; simp at this; omega⟩; clear hb6; have hq2 := (HB6.out.cell (World.block_lt_of_cell? _ _ HP2.out)).trans HP2.out; have hq3 := (HB6.out.cell (World.block_lt_of_cell? _ _ HP3.out)).trans HP3.out; have hq4 := (HB6.out.cell (World.block_lt_of_cell? _ _ HP4.out)).trans HP4.out))
  clear hd0 hd1 hd2
  have hS0 := keepS2 (w0 := w6) ⟨hq2, hq4, hs0, hs1, hs2, hs3, hs4, ho0, ho1, ho2, ho3, ho4, ho5, ho6, Below.refl _ _⟩ ((Below.refl _ _).drew)
  clear hs0 hs1 hs2 hs3 hs4 ho0 ho1 ho2 ho3 ho4 ho5 ho6 hq2 hq3 hq4
  go_region_held3 (fun w' => w'.cell? ⟨ob, oo + ii * 5 + 2, none⟩ = some (.bool true) ∧ w'.cell? ⟨ob, oo + ii * 5 + 4, none⟩ = some (.slice pB pn pc) ∧ w'.cell? ⟨w.heap.size, 0, none⟩ = some (.slice A0 rs.length c0) ∧ w'.cell? ⟨w.heap.size, 1, none⟩ = some (.slice A1 hs.length c1) ∧ w'.cell? ⟨w.heap.size, 2, none⟩ = some (.slice (some ⟨ob, oo, none⟩) os.length c2) ∧ w'.cell? ⟨w.heap.size, 3, none⟩ = some (.slice A3 ds.length c3) ∧ w'.cell? ⟨w.heap.size, 4, none⟩ = some (.int .u64 ver) ∧ w'.cell? ⟨w.heap.size + 1, 0, none⟩ = some (.int .i64 kind) ∧ w'.cell? ⟨w.heap.size + 1, 1, none⟩ = some (.int .u64 ta) ∧ w'.cell? ⟨w.heap.size + 1, 2, none⟩ = some (.int .u64 ti) ∧ w'.cell? ⟨w.heap.size + 1, 3, none⟩ = some (.string key) ∧ w'.cell? ⟨w.heap.size + 1, 4, none⟩ = some (.slice A4 ps.length c4) ∧ w'.cell? ⟨w.heap.size + 1, 5, none⟩ = some (.bool cm) ∧ w'.cell? ⟨w.heap.size + 1, 6, none⟩ = some (.slice A5 n5 c5) ∧ Below w6.heap.size w6 w') (first | exact hS0 | exact keepS2 (by assumption) (by assumption)) ((go_at_call 46; with_reducible refine (HEQ.out _ HB6.out.drew).mono ?_; rintro e w10 ⟨rfl, hd10⟩; have hb10x := hd10.below))
  obtain ⟨hq2, hq4, hs0, hs1, hs2, hs3, hs4, ho0, ho1, ho2, ho3, ho4, ho5, ho6, hb10⟩ := (show w10.cell? ⟨ob, oo + ii * 5 + 2, none⟩ = some (.bool true) ∧ w10.cell? ⟨ob, oo + ii * 5 + 4, none⟩ = some (.slice pB pn pc) ∧ w10.cell? ⟨w.heap.size, 0, none⟩ = some (.slice A0 rs.length c0) ∧ w10.cell? ⟨w.heap.size, 1, none⟩ = some (.slice A1 hs.length c1) ∧ w10.cell? ⟨w.heap.size, 2, none⟩ = some (.slice (some ⟨ob, oo, none⟩) os.length c2) ∧ w10.cell? ⟨w.heap.size, 3, none⟩ = some (.slice A3 ds.length c3) ∧ w10.cell? ⟨w.heap.size, 4, none⟩ = some (.int .u64 ver) ∧ w10.cell? ⟨w.heap.size + 1, 0, none⟩ = some (.int .i64 kind) ∧ w10.cell? ⟨w.heap.size + 1, 1, none⟩ = some (.int .u64 ta) ∧ w10.cell? ⟨w.heap.size + 1, 2, none⟩ = some (.int .u64 ti) ∧ w10.cell? ⟨w.heap.size + 1, 3, none⟩ = some (.string key) ∧ w10.cell? ⟨w.heap.size + 1, 4, none⟩ = some (.slice A4 ps.length c4) ∧ w10.cell? ⟨w.heap.size + 1, 5, none⟩ = some (.bool cm) ∧ w10.cell? ⟨w.heap.size + 1, 6, none⟩ = some (.slice A5 n5 c5) ∧ Below w6.heap.size w6 w10 from by assumption)
  have HW10 : Aside0 (w.heap.size + 1 + 1 + 1 + 1 ≤ w10.heap.size) := ⟨Nat.le_trans HW6.out hb10.size⟩
  have ZB10 := Aside0.mk (stay hb10 ZB6.out (by have := HW6.out; omega))
  have AB10 := Aside0.mk (stay hb10 AB6.out (by have := HW6.out; omega))
  have HB10 := Aside0.mk (HB6.out.trans (hb10.mono HB6.out.size))
  clear hb10 hq4
  go_wp2_with (go_at_call 24; refine (HNO.out _ _).mono ?_; rintro e w7 ⟨rfl, hb7⟩; clear hs0 hs1 hs2 hs3 hs4 ho0 ho1 ho2 ho3 ho4 ho5 ho6; have ZB7 := Aside0.mk (stay hb7 ZB10.out (by have := HW10.out; omega)); have AB7 := Aside0.mk (stay hb7 AB10.out (by have := HW10.out; omega)); obtain ⟨hz0, hz1, hz2, hz3, hz4⟩ := cells_5 ZB7.out; obtain ⟨ha0, ha1, ha2, ha3, ha4⟩ := cells_5 AB7.out; obtain ⟨hy0, hy1, hy2, hy3, hy4⟩ := froz_5 ZB7.out; obtain ⟨hx0, hx1, hx2, hx3, hx4⟩ := froz_5 AB7.out; have HB7 := Aside0.mk (HB10.out.trans (hb7.mono HB10.out.size)); clear hb7)
  refine twoBoxes rfl rfl rfl rfl ZB7.out AB7.out (by omega) ?_
  exact DoPost_same HR0.out HC0.out HR1.out HC1.out HR2.out HC2.out HR3.out HC3.out (put5_below (put5_below HB7.out (show w.heap.size ≤ w.heap.size + 1 + 1 by omega) _ _ _ _ _) (show w.heap.size ≤ w.heap.size + 1 + 1 + 1 by omega) _ _ _ _ _) _ _ _ _ _
set_option maxRecDepth 100000 in
set_option maxHeartbeats 8000000 in
theorem prep_firm (kind : Int) (t : S30) (key : ByteArray) (A4 : Option Addr) (n4 c4 : Nat) (cm : Bool) (A5 : Option Addr) (n5 c5 : Nat) (A0 : Option Addr) (c0 : Nat) (A1 : Option Addr) (c1 : Nat) (A2 : Option Addr) (c2 : Nat) (A3 : Option Addr) (c3 : Nat) (rs : List S50) (hs : List S75) (os : List S48) (ds : List S68) (ver : Int) (w : World) (hr0 : Kd.C k50 w A0 rs.length rs) (hc0 : rs.length ≤ c0) (hr1 : Kd.C k75 w A1 hs.length hs) (hc1 : hs.length ≤ c1) (hr2 : Kd.C k48 w A2 os.length os) (hc2 : os.length ≤ c2) (hr3 : Kd.C k68 w A3 ds.length ds) (hc3 : ds.length ≤ c3) (hd : ¬ 0 ≤ findI (isDoneT t) ds) (ii : Nat) (hii : ii < os.length) (hfi : findI (isOpenT t) os = (ii : Int)) (hf1 : (os[ii]!).f1 = true) (hf2 : (os[ii]!).f2 = false) (ps : List S54) (hn4 : n4 = ps.length) (hr4 : Kd.C k54 w A4 ps.length ps) (hc4 : ps.length ≤ c4) (hsame : samePutsV (os[ii]!).f3 ps = false) :
    Calls Try.prog 22 #[.agg (shv A0 rs.length c0 A1 hs.length c1 A2 os.length c2 A3 ds.length c3 ver), .agg #[.int .i64 kind, .int .u64 t.f0, .int .u64 t.f1, .string key, .slice A4 n4 c4, .bool cm, .slice A5 n5 c5]] w (DoPost w (⟨rs, hs, os, ds, ver⟩, errA 9)) := by
  obtain ⟨bS, bO, bZ, bA⟩ := alloc4 w (.cells #[.slice A0 rs.length c0, .slice A1 hs.length c1, .slice A2 os.length c2, .slice A3 ds.length c3, .int .u64 ver] 28) (.cells #[.int .i64 kind, .int .u64 t.f0, .int .u64 t.f1, .string key, .slice A4 n4 c4, .bool cm, .slice A5 n5 c5] 34) (.cells #[.slice none 0 0, .slice none 0 0, .slice none 0 0, .slice none 0 0, .int .u64 0] 28) (.cells #[.int .i64 0, .string ⟨#[]⟩, .int .u64 0, .bool false, .bool false] 38)
  have hb4 : Below w.heap.size w ((((w.alloc (.cells #[.slice A0 rs.length c0, .slice A1 hs.length c1, .slice A2 os.length c2, .slice A3 ds.length c3, .int .u64 ver] 28)).alloc (.cells #[.int .i64 kind, .int .u64 t.f0, .int .u64 t.f1, .string key, .slice A4 n4 c4, .bool cm, .slice A5 n5 c5] 34)).alloc (.cells #[.slice none 0 0, .slice none 0 0, .slice none 0 0, .slice none 0 0, .int .u64 0] 28)).alloc (.cells #[.int .i64 0, .string ⟨#[]⟩, .int .u64 0, .bool false, .bool false] 38)) := ((((Below.refl w.heap.size w).alloc (Nat.le_refl _) _).alloc (by simp) _).alloc (by simp; omega) _).alloc (by simp; omega) _
  have HW4 : Aside0 (((((w.alloc (.cells #[.slice A0 rs.length c0, .slice A1 hs.length c1, .slice A2 os.length c2, .slice A3 ds.length c3, .int .u64 ver] 28)).alloc (.cells #[.int .i64 kind, .int .u64 t.f0, .int .u64 t.f1, .string key, .slice A4 n4 c4, .bool cm, .slice A5 n5 c5] 34)).alloc (.cells #[.slice none 0 0, .slice none 0 0, .slice none 0 0, .slice none 0 0, .int .u64 0] 28)).alloc (.cells #[.int .i64 0, .string ⟨#[]⟩, .int .u64 0, .bool false, .bool false] 38)).heap.size = w.heap.size + 1 + 1 + 1 + 1) := ⟨by simp⟩
  have BS := Aside0.mk bS
  have BO := Aside0.mk bO
  have BZ := Aside0.mk bZ
  have BA := Aside0.mk bA
  have HB4 := Aside0.mk hb4
  have HOV := Aside0.mk (fun (W : World) (h : Below w.heap.size w W) => shardOver_sl A0 rs.length c0 A1 hs.length c1 A2 os.length c2 A3 c3 ver ds t W (Kd.C_below hr3 h) hc3)
  have HKN := Aside0.mk (fun (W : World) (h : Below w.heap.size w W) => shardKnown_sl A0 rs.length c0 A1 hs.length c1 A2 c2 A3 ds.length c3 ver os t W (Kd.C_below hr2 h) hc2)
  have HR0 := Aside0.mk hr0
  have HR1 := Aside0.mk hr1
  have HR2 := Aside0.mk hr2
  have HR3 := Aside0.mk hr3
  have HC0 := Aside0.mk hc0
  have HC1 := Aside0.mk hc1
  have HC2 := Aside0.mk hc2
  have HC3 := Aside0.mk hc3
  clear hr0 hc0 hr1 hc1 hr2 hc2 hr3 hc3 bS bO bZ bA hb4
  subst hn4
  rw [decide_eq_false hd] at HOV
  clear hd
  generalize overV ds t = dv at *
  obtain ⟨⟨dA, dI⟩, dC⟩ := dv
  have HNO := Aside0.mk (fun (W : World) (e0 : Int) => shardNo2 A0 rs.length c0 A1 hs.length c1 A2 os.length c2 A3 ds.length c3 ver e0 W)
  rw [hfi] at HKN
  obtain ⟨ob, oo, hA, pB, pc, hpl, hpr, _, _, hp2, hp3, hp4⟩ := openRow HR2.out ii hii
  have hiz : (0 : Int) ≤ (ii : Int) := by omega
  have hiz2 : (ii : Int) < (os.length : Int) := by omega
  rw [hf1] at hp2
  rw [hf2] at hp3
  have HP2 := Aside0.mk hp2
  have HP3 := Aside0.mk hp3
  have HP4 := Aside0.mk hp4
  have HEQ := Aside0.mk (fun (W : World) (h : Below w.heap.size w W) => eqPut_calls pB A4 pc c4 (os[ii]!).f3 ps W (Kd.C_below hpr h) hpl (Kd.C_below hr4 h) hc4)
  rw [hsame] at HEQ
  generalize (os[ii]!).f3.length = pn at *
  have HR4 := Aside0.mk hr4
  subst hA
  clear hp2 hp3 hp4 hf1 hf2 hfi hii hpl hpr hr4 hc4 hsame
  obtain ⟨ta, ti⟩ := t
  unfold shv at *
  dsimp only at *
  go_enter Try.func22, Try.ntmps22
  go_wp2_with (first
    | (go_at_call 51; refine (HOV.out _ HB4.out).mono ?_; rintro e w5 ⟨rfl, hb5⟩; have HW5 := Aside0.mk hb5.size; have SB5 := Aside0.mk (stay hb5 BS.out (by rw [HW4.out]; omega)); have OB5 := Aside0.mk (stay hb5 BO.out (by rw [HW4.out]; omega)); have ZB5 := Aside0.mk (stay hb5 BZ.out (by rw [HW4.out]; omega)); have AB5 := Aside0.mk (stay hb5 BA.out (by rw [HW4.out]; omega)); obtain ⟨hs0, hs1, hs2, hs3, hs4⟩ := cells_5 (stayA SB5.out (.cells #[.int .u64 dA, .int .u64 dI, .bool dC] 68)); obtain ⟨ho0, ho1, ho2, ho3, ho4, ho5, ho6⟩ := cells_7 (stayA OB5.out (.cells #[.int .u64 dA, .int .u64 dI, .bool dC] 68)); have HB5 := Aside0.mk (HB4.out.trans (hb5.mono HB4.out.size)); clear hb5)
    | (go_at_call 52; refine (HKN.out _ (HB5.out.alloc HB5.out.size (.cells #[.int .u64 dA, .int .u64 dI, .bool dC] 68))).mono ?_; rintro e w6 ⟨rfl, hb6⟩; clear hs0 hs1 hs2 hs3 hs4 ho0 ho1 ho2 ho3 ho4 ho5 ho6; have SB6 := Aside0.mk (stay hb6 (stayA SB5.out (.cells #[.int .u64 dA, .int .u64 dI, .bool dC] 68)) (by have := HW4.out; have := HW5.out; simp; omega)); have OB6 := Aside0.mk (stay hb6 (stayA OB5.out (.cells #[.int .u64 dA, .int .u64 dI, .bool dC] 68)) (by have := HW4.out; have := HW5.out; simp; omega)); have ZB6 := Aside0.mk (stay hb6 (stayA ZB5.out (.cells #[.int .u64 dA, .int .u64 dI, .bool dC] 68)) (by have := HW4.out; have := HW5.out; simp; omega)); have AB6 := Aside0.mk (stay hb6 (stayA AB5.out (.cells #[.int .u64 dA, .int .u64 dI, .bool dC] 68)) (by have := HW4.out; have := HW5.out; simp; omega)); have DB6 := Aside0.mk (stay hb6 (heap_alloc_new w5 (.cells #[.int .u64 dA, .int .u64 dI, .bool dC] 68)) (by simp)); obtain ⟨hs0, hs1, hs2, hs3, hs4⟩ := cells_5 SB6.out; obtain ⟨ho0, ho1, ho2, ho3, ho4, ho5, ho6⟩ := cells_7 OB6.out; obtain ⟨hd0, hd1, hd2⟩ := cells_3 DB6.out; have HB6 := Aside0.mk ((HB5.out.alloc HB5.out.size (.cells #[.int .u64 dA, .int .u64 dI, .bool dC] 68)).trans (hb6.mono (HB5.out.alloc HB5.out.size (.cells #[.int .u64 dA, .int .u64 dI, .bool dC] 68)).size)); have HW6 : Aside0 (w.heap.size + 1 + 1 + 1 + 1 ≤ w6.heap.size) := ⟨by have := HW4.out; have := HW5.out; have := hb6.size; simp at this; omega⟩; clear hb6; have hq2 := (HB6.out.cell (World.block_lt_of_cell? _ _ HP2.out)).trans HP2.out; have hq3 := (HB6.out.cell (World.block_lt_of_cell? _ _ HP3.out)).trans HP3.out; have hq4 := (HB6.out.cell (World.block_lt_of_cell? _ _ HP4.out)).trans HP4.out))
  clear hd0 hd1 hd2
  have hS0 := keepS2 (w0 := w6) ⟨hq2, hq4, hs0, hs1, hs2, hs3, hs4, ho0, ho1, ho2, ho3, ho4, ho5, ho6, Below.refl _ _⟩ ((Below.refl _ _).drew)
  clear hs0 hs1 hs2 hs3 hs4 ho0 ho1 ho2 ho3 ho4 ho5 ho6 hq2 hq3 hq4
  go_region_held3 (fun w' => w'.cell? ⟨ob, oo + ii * 5 + 2, none⟩ = some (.bool true) ∧ w'.cell? ⟨ob, oo + ii * 5 + 4, none⟩ = some (.slice pB pn pc) ∧ w'.cell? ⟨w.heap.size, 0, none⟩ = some (.slice A0 rs.length c0) ∧ w'.cell? ⟨w.heap.size, 1, none⟩ = some (.slice A1 hs.length c1) ∧ w'.cell? ⟨w.heap.size, 2, none⟩ = some (.slice (some ⟨ob, oo, none⟩) os.length c2) ∧ w'.cell? ⟨w.heap.size, 3, none⟩ = some (.slice A3 ds.length c3) ∧ w'.cell? ⟨w.heap.size, 4, none⟩ = some (.int .u64 ver) ∧ w'.cell? ⟨w.heap.size + 1, 0, none⟩ = some (.int .i64 kind) ∧ w'.cell? ⟨w.heap.size + 1, 1, none⟩ = some (.int .u64 ta) ∧ w'.cell? ⟨w.heap.size + 1, 2, none⟩ = some (.int .u64 ti) ∧ w'.cell? ⟨w.heap.size + 1, 3, none⟩ = some (.string key) ∧ w'.cell? ⟨w.heap.size + 1, 4, none⟩ = some (.slice A4 ps.length c4) ∧ w'.cell? ⟨w.heap.size + 1, 5, none⟩ = some (.bool cm) ∧ w'.cell? ⟨w.heap.size + 1, 6, none⟩ = some (.slice A5 n5 c5) ∧ Below w6.heap.size w6 w') (first | exact hS0 | exact keepS2 (by assumption) (by assumption)) ((go_at_call 46; with_reducible refine (HEQ.out _ HB6.out.drew).mono ?_; rintro e w10 ⟨rfl, hd10⟩; have hb10x := hd10.below))
  obtain ⟨hq2, hq4, hs0, hs1, hs2, hs3, hs4, ho0, ho1, ho2, ho3, ho4, ho5, ho6, hb10⟩ := (show w10.cell? ⟨ob, oo + ii * 5 + 2, none⟩ = some (.bool true) ∧ w10.cell? ⟨ob, oo + ii * 5 + 4, none⟩ = some (.slice pB pn pc) ∧ w10.cell? ⟨w.heap.size, 0, none⟩ = some (.slice A0 rs.length c0) ∧ w10.cell? ⟨w.heap.size, 1, none⟩ = some (.slice A1 hs.length c1) ∧ w10.cell? ⟨w.heap.size, 2, none⟩ = some (.slice (some ⟨ob, oo, none⟩) os.length c2) ∧ w10.cell? ⟨w.heap.size, 3, none⟩ = some (.slice A3 ds.length c3) ∧ w10.cell? ⟨w.heap.size, 4, none⟩ = some (.int .u64 ver) ∧ w10.cell? ⟨w.heap.size + 1, 0, none⟩ = some (.int .i64 kind) ∧ w10.cell? ⟨w.heap.size + 1, 1, none⟩ = some (.int .u64 ta) ∧ w10.cell? ⟨w.heap.size + 1, 2, none⟩ = some (.int .u64 ti) ∧ w10.cell? ⟨w.heap.size + 1, 3, none⟩ = some (.string key) ∧ w10.cell? ⟨w.heap.size + 1, 4, none⟩ = some (.slice A4 ps.length c4) ∧ w10.cell? ⟨w.heap.size + 1, 5, none⟩ = some (.bool cm) ∧ w10.cell? ⟨w.heap.size + 1, 6, none⟩ = some (.slice A5 n5 c5) ∧ Below w6.heap.size w6 w10 from by assumption)
  have HW10 : Aside0 (w.heap.size + 1 + 1 + 1 + 1 ≤ w10.heap.size) := ⟨Nat.le_trans HW6.out hb10.size⟩
  have ZB10 := Aside0.mk (stay hb10 ZB6.out (by have := HW6.out; omega))
  have AB10 := Aside0.mk (stay hb10 AB6.out (by have := HW6.out; omega))
  have HB10 := Aside0.mk (HB6.out.trans (hb10.mono HB6.out.size))
  clear hb10 hq4
  go_wp2_with (go_at_call 24; refine (HNO.out _ _).mono ?_; rintro e w7 ⟨rfl, hb7⟩; clear hs0 hs1 hs2 hs3 hs4 ho0 ho1 ho2 ho3 ho4 ho5 ho6; have ZB7 := Aside0.mk (stay hb7 ZB10.out (by have := HW10.out; omega)); have AB7 := Aside0.mk (stay hb7 AB10.out (by have := HW10.out; omega)); obtain ⟨hz0, hz1, hz2, hz3, hz4⟩ := cells_5 ZB7.out; obtain ⟨ha0, ha1, ha2, ha3, ha4⟩ := cells_5 AB7.out; obtain ⟨hy0, hy1, hy2, hy3, hy4⟩ := froz_5 ZB7.out; obtain ⟨hx0, hx1, hx2, hx3, hx4⟩ := froz_5 AB7.out; have HB7 := Aside0.mk (HB10.out.trans (hb7.mono HB10.out.size)); clear hb7)
  refine twoBoxes rfl rfl rfl rfl ZB7.out AB7.out (by omega) ?_
  exact DoPost_same HR0.out HC0.out HR1.out HC1.out HR2.out HC2.out HR3.out HC3.out (put5_below (put5_below HB7.out (show w.heap.size ≤ w.heap.size + 1 + 1 by omega) _ _ _ _ _) (show w.heap.size ≤ w.heap.size + 1 + 1 + 1 by omega) _ _ _ _ _) _ _ _ _ _
end Go.Proofs.Ytmcgcdpiceikeaa.PAll
end
