/- Joined texts of the claim ShardOnce (part 15): contracts of functions and plain laws. -/
import Derived.BigQuiet
import Derived.Deep.QuietTactic
import Derived.Outline
import Derived.Test.YtmcgcdpiceikeaaJShardOnce12
import Derived.Test.YtmcgcdpiceikeaaJShardOnce13
import Derived.Test.YtmcgcdpiceikeaaJShardOnce14
import Derived.WalkLawsBesides
section
/- lock: its closures, of, Has, Drop. -/
namespace Go.Proofs.Ytmcgcdpiceikeaa.PAll
open Go.RowKit Go.Proofs.YtmcgcdpiceikeaaW.PrintWords Go.Proofs.YtmcgcdpiceikeaaW.PrintMore Go.Proofs.Ytmcgcdpiceikeaa
set_option linter.unusedVariables false
def sameTx (a b : S30) : Bool := a.f0 == b.f0 && a.f1 == b.f1
def isHK (t : S30) (key : ByteArray) (x : S75) : Bool := sameTx x.f1 t && (x.f0.toList == key.toList)
theorem txEq {a b : Int} : (a == a && b == b) = true := by simp
theorem txNe1 {a b c d : Int} (h : ¬ a = c) : (a == c && b == d) = false := by simp [h]
theorem txNe2 {a b c d : Int} (h : ¬ b = d) : (a == c && b == d) = false := by simp [h]
set_option maxHeartbeats 1000000 in
theorem lockOf1 (Bt Bk : Nat) (t : S30) (key : ByteArray) (x : S75) (W : World) (h0 : W.cell? ⟨Bt, 0, none⟩ = some (.int .u64 t.f0)) (h1 : W.cell? ⟨Bt, 1, none⟩ = some (.int .u64 t.f1)) (hk : W.cell? ⟨Bk, 0, none⟩ = some (.string key)) :
    Calls Try.prog 97 #[.agg (enc75 x).toArray, .pointer (some ⟨Bt, 0, none⟩), .pointer (some ⟨Bk, 0, none⟩)] W fun e W' => e = .returned (.bool (isHK t key x)) ∧ Below W.heap.size W W' := by
  obtain ⟨xk, ⟨xa, xi⟩, xw⟩ := x
  obtain ⟨ta, ti⟩ := t
  unfold enc75 isHK sameTx
  dsimp only at *
  have hb := (Below.refl W.heap.size W).alloc (Nat.le_refl _) (.cells #[.string xk, .int .u64 xa, .int .u64 xi, .bool xw] 75)
  have c0 := (hb.cell (World.block_lt_of_cell? W _ h0)).trans h0
  have c1 := (hb.cell (World.block_lt_of_cell? W _ h1)).trans h1
  have ck := (hb.cell (World.block_lt_of_cell? W _ hk)).trans hk
  have HB := Aside0.mk hb
  clear hb h0 h1 hk
  by_cases e1 : xa = ta
  · subst e1
    by_cases e2 : xi = ti
    · subst e2
      rw [txEq, Bool.true_and]
      go_enter Try.func97, Try.ntmps97
      go_wp2
      go_ret
      exact ⟨rfl, HB.out⟩
    · rw [txNe2 e2, Bool.false_and]
      go_enter Try.func97, Try.ntmps97
      go_wp2
      go_ret
      exact ⟨rfl, HB.out⟩
  · rw [txNe1 e1, Bool.false_and]
    go_enter Try.func97, Try.ntmps97
    go_wp2
    go_ret
    exact ⟨rfl, HB.out⟩
set_option maxHeartbeats 1000000 in
theorem lockDrop1 (Bt : Nat) (t : S30) (x : S75) (W : World) (h0 : W.cell? ⟨Bt, 0, none⟩ = some (.int .u64 t.f0)) (h1 : W.cell? ⟨Bt, 1, none⟩ = some (.int .u64 t.f1)) :
    Calls Try.prog 93 #[.agg (enc75 x).toArray, .pointer (some ⟨Bt, 0, none⟩)] W fun e W' => e = .returned (.bool (sameTx x.f1 t)) ∧ Below W.heap.size W W' := by
  obtain ⟨xk, ⟨xa, xi⟩, xw⟩ := x
  obtain ⟨ta, ti⟩ := t
  unfold enc75 sameTx
  dsimp only at *
  have hb := (Below.refl W.heap.size W).alloc (Nat.le_refl _) (.cells #[.string xk, .int .u64 xa, .int .u64 xi, .bool xw] 75)
  have c0 := (hb.cell (World.block_lt_of_cell? W _ h0)).trans h0
  have c1 := (hb.cell (World.block_lt_of_cell? W _ h1)).trans h1
  have HB := Aside0.mk hb
  clear hb h0 h1
  by_cases e1 : xa = ta
  · subst e1
    by_cases e2 : xi = ti
    · subst e2
      rw [txEq]
      go_enter Try.func93, Try.ntmps93
      go_wp2
      go_ret
      exact ⟨rfl, HB.out⟩
    · rw [txNe2 e2]
      go_enter Try.func93, Try.ntmps93
      go_wp2
      go_ret
      exact ⟨rfl, HB.out⟩
  · rw [txNe1 e1]
    go_enter Try.func93, Try.ntmps93
    go_wp2
    go_ret
    exact ⟨rfl, HB.out⟩
set_option maxHeartbeats 1000000 in
theorem shardOver1 (Bt : Nat) (t : S30) (x : S68) (W : World) (h0 : W.cell? ⟨Bt, 0, none⟩ = some (.int .u64 t.f0)) (h1 : W.cell? ⟨Bt, 1, none⟩ = some (.int .u64 t.f1)) :
    Calls Try.prog 81 #[.agg (enc68 x).toArray, .pointer (some ⟨Bt, 0, none⟩)] W fun e W' => e = .returned (.bool (sameTx x.f0 t)) ∧ Below W.heap.size W W' := by
  obtain ⟨⟨xa, xi⟩, xc⟩ := x
  obtain ⟨ta, ti⟩ := t
  unfold enc68 sameTx
  dsimp only at *
  have hb := (Below.refl W.heap.size W).alloc (Nat.le_refl _) (.cells #[.int .u64 xa, .int .u64 xi, .bool xc] 68)
  have c0 := (hb.cell (World.block_lt_of_cell? W _ h0)).trans h0
  have c1 := (hb.cell (World.block_lt_of_cell? W _ h1)).trans h1
  have HB := Aside0.mk hb
  clear hb h0 h1
  by_cases e1 : xa = ta
  · subst e1
    by_cases e2 : xi = ti
    · subst e2
      rw [txEq]
      go_enter Try.func81, Try.ntmps81
      go_wp2
      go_ret
      exact ⟨rfl, HB.out⟩
    · rw [txNe2 e2]
      go_enter Try.func81, Try.ntmps81
      go_wp2
      go_ret
      exact ⟨rfl, HB.out⟩
  · rw [txNe1 e1]
    go_enter Try.func81, Try.ntmps81
    go_wp2
    go_ret
    exact ⟨rfl, HB.out⟩
set_option maxHeartbeats 1000000 in
theorem shardKnown1 (Bt : Nat) (t : S30) (xa xi : Int) (xf xw : Bool) (pv : Value) (A : Option Addr) (n c : Nat) (hpv : pv = .slice A n c) (W : World) (h0 : W.cell? ⟨Bt, 0, none⟩ = some (.int .u64 t.f0)) (h1 : W.cell? ⟨Bt, 1, none⟩ = some (.int .u64 t.f1)) :
    Calls Try.prog 83 #[.agg #[.int .u64 xa, .int .u64 xi, .bool xf, .bool xw, pv], .pointer (some ⟨Bt, 0, none⟩)] W fun e W' => e = .returned (.bool (sameTx ⟨xa, xi⟩ t)) ∧ Below W.heap.size W W' := by
  subst hpv
  obtain ⟨ta, ti⟩ := t
  unfold sameTx
  dsimp only at *
  have hb := (Below.refl W.heap.size W).alloc (Nat.le_refl _) (.cells #[.int .u64 xa, .int .u64 xi, .bool xf, .bool xw, .slice A n c] 48)
  have c0 := (hb.cell (World.block_lt_of_cell? W _ h0)).trans h0
  have c1 := (hb.cell (World.block_lt_of_cell? W _ h1)).trans h1
  have HB := Aside0.mk hb
  clear hb h0 h1
  by_cases e1 : xa = ta
  · subst e1
    by_cases e2 : xi = ti
    · subst e2
      rw [txEq]
      go_enter Try.func83, Try.ntmps83
      go_wp2
      go_ret
      exact ⟨rfl, HB.out⟩
    · rw [txNe2 e2]
      go_enter Try.func83, Try.ntmps83
      go_wp2
      go_ret
      exact ⟨rfl, HB.out⟩
  · rw [txNe1 e1]
    go_enter Try.func83, Try.ntmps83
    go_wp2
    go_ret
    exact ⟨rfl, HB.out⟩
set_option maxHeartbeats 1000000 in
theorem shardFinishes1 (Bt : Nat) (t : S30) (xa xi : Int) (xf xw : Bool) (pv : Value) (A : Option Addr) (n c : Nat) (hpv : pv = .slice A n c) (W : World) (h0 : W.cell? ⟨Bt, 1, none⟩ = some (.int .u64 t.f0)) (h1 : W.cell? ⟨Bt, 2, none⟩ = some (.int .u64 t.f1)) :
    Calls Try.prog 64 #[.agg #[.int .u64 xa, .int .u64 xi, .bool xf, .bool xw, pv], .pointer (some ⟨Bt, 0, none⟩)] W fun e W' => e = .returned (.bool (sameTx ⟨xa, xi⟩ t)) ∧ Below W.heap.size W W' := by
  subst hpv
  obtain ⟨ta, ti⟩ := t
  unfold sameTx
  dsimp only at *
  have hb := (Below.refl W.heap.size W).alloc (Nat.le_refl _) (.cells #[.int .u64 xa, .int .u64 xi, .bool xf, .bool xw, .slice A n c] 48)
  have c0 := (hb.cell (World.block_lt_of_cell? W _ h0)).trans h0
  have c1 := (hb.cell (World.block_lt_of_cell? W _ h1)).trans h1
  have HB := Aside0.mk hb
  clear hb h0 h1
  by_cases e1 : xa = ta
  · subst e1
    by_cases e2 : xi = ti
    · subst e2
      rw [txEq]
      go_enter Try.func64, Try.ntmps64
      go_wp2
      go_ret
      exact ⟨rfl, HB.out⟩
    · rw [txNe2 e2]
      go_enter Try.func64, Try.ntmps64
      go_wp2
      go_ret
      exact ⟨rfl, HB.out⟩
  · rw [txNe1 e1]
    go_enter Try.func64, Try.ntmps64
    go_wp2
    go_ret
    exact ⟨rfl, HB.out⟩
/-- Has a hold what is asked for? -/
def okHas (t : S30) (key : ByteArray) (wr : Bool) (x : S75) : Bool := isHK t key x && (x.f2 || !wr)
set_option maxHeartbeats 2000000 in
theorem lockHas1 (Bt Bk Bw : Nat) (t : S30) (key : ByteArray) (wr : Bool) (x : S75) (W : World) (h0 : W.cell? ⟨Bt, 0, none⟩ = some (.int .u64 t.f0)) (h1 : W.cell? ⟨Bt, 1, none⟩ = some (.int .u64 t.f1)) (hk : W.cell? ⟨Bk, 0, none⟩ = some (.string key)) (hw : W.cell? ⟨Bw, 0, none⟩ = some (.bool wr)) :
    Calls Try.prog 77 #[.agg (enc75 x).toArray, .pointer (some ⟨Bt, 0, none⟩), .pointer (some ⟨Bk, 0, none⟩), .pointer (some ⟨Bw, 0, none⟩)] W fun e W' => e = .returned (.bool (okHas t key wr x)) ∧ Below W.heap.size W W' := by
  obtain ⟨xk, ⟨xa, xi⟩, xw⟩ := x
  obtain ⟨ta, ti⟩ := t
  unfold enc75 okHas isHK sameTx
  dsimp only at *
  have hb := (Below.refl W.heap.size W).alloc (Nat.le_refl _) (.cells #[.string xk, .int .u64 xa, .int .u64 xi, .bool xw] 75)
  have c0 := (hb.cell (World.block_lt_of_cell? W _ h0)).trans h0
  have c1 := (hb.cell (World.block_lt_of_cell? W _ h1)).trans h1
  have ck := (hb.cell (World.block_lt_of_cell? W _ hk)).trans hk
  have cw := (hb.cell (World.block_lt_of_cell? W _ hw)).trans hw
  have HB := Aside0.mk hb
  clear hb h0 h1 hk hw
  by_cases e1 : xa = ta
  · subst e1
    by_cases e2 : xi = ti
    · subst e2
      rw [txEq, Bool.true_and]
      cases e3 : (xk.toList == key.toList) with
      | false =>
        go_enter Try.func77, Try.ntmps77
        go_wp2
        go_ret
        exact ⟨rfl, HB.out⟩
      | true =>
        cases xw
        all_goals
          go_enter Try.func77, Try.ntmps77
          go_wp2
          go_ret
          exact ⟨rfl, HB.out⟩
    · rw [txNe2 e2, Bool.false_and, Bool.false_and]
      go_enter Try.func77, Try.ntmps77
      go_wp2
      go_ret
      exact ⟨rfl, HB.out⟩
  · rw [txNe1 e1, Bool.false_and, Bool.false_and]
    go_enter Try.func77, Try.ntmps77
    go_wp2
    go_ret
    exact ⟨rfl, HB.out⟩
end Go.Proofs.Ytmcgcdpiceikeaa.PAll
end
section
/- lock: of, Has, Drop. -/
namespace Go.Proofs.Ytmcgcdpiceikeaa.PAll
open Go.RowKit Go.Proofs.YtmcgcdpiceikeaaW.PrintWords Go.Proofs.YtmcgcdpiceikeaaW.PrintMore Go.Proofs.Ytmcgcdpiceikeaa
set_option linter.unusedVariables false
theorem cells2 {w : World} {a b : Value} {e : TypeId} (o2 : Obj) : ((w.alloc (.cells #[a, b] e)).alloc o2).cell? ⟨w.heap.size, 0, none⟩ = some a ∧ ((w.alloc (.cells #[a, b] e)).alloc o2).cell? ⟨w.heap.size, 1, none⟩ = some b := by
  have hB := (Below.refl (w.alloc (.cells #[a, b] e)).heap.size (w.alloc (.cells #[a, b] e))).alloc (Nat.le_refl _) o2
  have h := (hB.block w.heap.size (by simp)).trans (heap_alloc_new w (.cells #[a, b] e))
  exact ⟨cell_row (cs := [a, b]) h 0, cell_row (cs := [a, b]) h 1⟩
theorem lockOf_sl (v : Value) (l : List S75) (t : S30) (key : ByteArray) (w : World) (hv : Sl k75 w v l) :
    Calls Try.prog 84 #[v, .agg #[.int .u64 t.f0, .int .u64 t.f1], .string key] w fun e w' => e = .returned (.int .i64 (findI (isHK t key) l)) ∧ Below w.heap.size w w' := by
  have HV := Aside0.mk hv
  clear hv
  have HB0 := Aside0.mk (((Below.refl w.heap.size w).alloc (Nat.le_refl _) (.cells #[.int .u64 t.f0, .int .u64 t.f1] 30)).alloc (by simp) (.cells #[.string key] 9))
  have hc := cells2 (w := w) (a := .int .u64 t.f0) (b := .int .u64 t.f1) (e := 30) (.cells #[.string key] 9)
  have hk : ((w.alloc (.cells #[.int .u64 t.f0, .int .u64 t.f1] 30)).alloc (.cells #[.string key] 9)).cell? ⟨w.heap.size + 1, 0, none⟩ = some (.string key) := by
    have := cell_row (cs := [.string key]) (heap_alloc_new (w.alloc (.cells #[.int .u64 t.f0, .int .u64 t.f1] 30)) (.cells #[.string key] 9)) 0
    rwa [World.size_alloc] at this
  have HP := Aside0.mk (show Pred Try.prog 97 #[.pointer (some ⟨w.heap.size, 0, none⟩), .pointer (some ⟨w.heap.size + 1, 0, none⟩)] (fun cs => .agg cs.toArray) k75 ((w.alloc (.cells #[.int .u64 t.f0, .int .u64 t.f1] 30)).alloc (.cells #[.string key] 9)) l (isHK t key) from fun W x cs hb _ hK => by
    obtain rfl := flat75.openK _ _ _ hK
    exact lockOf1 w.heap.size (w.heap.size + 1) t key x W ((hb.cell (World.block_lt_of_cell? _ _ hc.1)).trans hc.1) ((hb.cell (World.block_lt_of_cell? _ _ hc.2)).trans hc.2) ((hb.cell (World.block_lt_of_cell? _ _ hk)).trans hk))
  clear hc hk
  go_enter Try.func84, Try.ntmps84
  go_wp2_with (go_at_call 96; refine (IndexFuncHold k75 rfl (isHK t key) 97 #[.pointer (some ⟨w.heap.size, 0, none⟩), .pointer (some ⟨w.heap.size + 1, 0, none⟩)] (enters_of Try.func97 (by kernel_rfl) rfl) v l _ (HV.out.below HB0.out) HP.out).mono ?_; rintro e w2 ⟨rfl, hb2⟩)
  go_ret
  exact ⟨rfl, HB0.out.trans (hb2.mono HB0.out.size)⟩
theorem cells3 {w : World} {a b c d : Value} {e e2 e3 : TypeId} : (((w.alloc (.cells #[a, b] e)).alloc (.cells #[c] e2)).alloc (.cells #[d] e3)).cell? ⟨w.heap.size, 0, none⟩ = some a ∧ (((w.alloc (.cells #[a, b] e)).alloc (.cells #[c] e2)).alloc (.cells #[d] e3)).cell? ⟨w.heap.size, 1, none⟩ = some b ∧ (((w.alloc (.cells #[a, b] e)).alloc (.cells #[c] e2)).alloc (.cells #[d] e3)).cell? ⟨w.heap.size + 1, 0, none⟩ = some c ∧ (((w.alloc (.cells #[a, b] e)).alloc (.cells #[c] e2)).alloc (.cells #[d] e3)).cell? ⟨w.heap.size + 1 + 1, 0, none⟩ = some d := by
  have hc := cells2 (w := w) (a := a) (b := b) (e := e) (.cells #[c] e2)
  have hk : ((w.alloc (.cells #[a, b] e)).alloc (.cells #[c] e2)).cell? ⟨w.heap.size + 1, 0, none⟩ = some c := by
    have := cell_row (cs := [c]) (heap_alloc_new (w.alloc (.cells #[a, b] e)) (.cells #[c] e2)) 0
    rwa [World.size_alloc] at this
  have hB := (Below.refl ((w.alloc (.cells #[a, b] e)).alloc (.cells #[c] e2)).heap.size ((w.alloc (.cells #[a, b] e)).alloc (.cells #[c] e2))).alloc (Nat.le_refl _) (.cells #[d] e3)
  have hd := cell_row (cs := [d]) (heap_alloc_new ((w.alloc (.cells #[a, b] e)).alloc (.cells #[c] e2)) (.cells #[d] e3)) 0
  rw [World.size_alloc, World.size_alloc] at hd
  exact ⟨(hB.cell (World.block_lt_of_cell? _ _ hc.1)).trans hc.1, (hB.cell (World.block_lt_of_cell? _ _ hc.2)).trans hc.2, (hB.cell (World.block_lt_of_cell? _ _ hk)).trans hk, hd⟩
def hasV (l : List S75) (t : S30) (key : ByteArray) (wr : Bool) : Bool := l.any (okHas t key wr)
theorem lockHas_sl (v : Value) (l : List S75) (t : S30) (key : ByteArray) (wr : Bool) (w : World) (hv : Sl k75 w v l) :
    Calls Try.prog 41 #[v, .agg #[.int .u64 t.f0, .int .u64 t.f1], .string key, .bool wr] w fun e w' => e = .returned (.bool (hasV l t key wr)) ∧ Below w.heap.size w w' := by
  have HV := Aside0.mk hv
  clear hv
  have HB0 := Aside0.mk ((((Below.refl w.heap.size w).alloc (Nat.le_refl _) (.cells #[.int .u64 t.f0, .int .u64 t.f1] 30)).alloc (by simp) (.cells #[.string key] 9)).alloc (by simp; omega) (.cells #[.bool wr] 4))
  obtain ⟨h0, h1, h2, h3⟩ := cells3 (w := w) (a := .int .u64 t.f0) (b := .int .u64 t.f1) (c := .string key) (d := .bool wr) (e := 30) (e2 := 9) (e3 := 4)
  have HP := Aside0.mk (show Pred Try.prog 77 #[.pointer (some ⟨w.heap.size, 0, none⟩), .pointer (some ⟨w.heap.size + 1, 0, none⟩), .pointer (some ⟨w.heap.size + 1 + 1, 0, none⟩)] (fun cs => .agg cs.toArray) k75 (((w.alloc (.cells #[.int .u64 t.f0, .int .u64 t.f1] 30)).alloc (.cells #[.string key] 9)).alloc (.cells #[.bool wr] 4)) l (okHas t key wr) from fun W x cs hb _ hK => by
    obtain rfl := flat75.openK _ _ _ hK
    exact lockHas1 w.heap.size (w.heap.size + 1) (w.heap.size + 1 + 1) t key wr x W ((hb.cell (World.block_lt_of_cell? _ _ h0)).trans h0) ((hb.cell (World.block_lt_of_cell? _ _ h1)).trans h1) ((hb.cell (World.block_lt_of_cell? _ _ h2)).trans h2) ((hb.cell (World.block_lt_of_cell? _ _ h3)).trans h3))
  clear h0 h1 h2 h3
  go_enter Try.func41, Try.ntmps41
  go_wp2_with (go_at_call 74; refine (ContainsFuncHold k75 rfl (okHas t key wr) 77 #[.pointer (some ⟨w.heap.size, 0, none⟩), .pointer (some ⟨w.heap.size + 1, 0, none⟩), .pointer (some ⟨w.heap.size + 1 + 1, 0, none⟩)] (enters_of Try.func77 (by kernel_rfl) rfl) v l _ (HV.out.below HB0.out) HP.out).mono ?_; rintro e w2 ⟨rfl, hb2⟩)
  go_ret
  exact ⟨rfl, HB0.out.trans (hb2.mono HB0.out.size)⟩
/-- Is a hold, cell by cell, a transaction's? -/
def isT (t : S30) : List Value → Bool
  | [_, .int _ a, .int _ b, _] => a == t.f0 && b == t.f1
  | _ => false
theorem raw_filterT (t : S30) (l : List S75) : (l.map enc75).filter (fun c => !isT t c) = (l.filter (fun x => !sameTx x.f1 t)).map enc75 := by
  rw [List.filter_map]; rfl
def dropV (l : List S75) (t : S30) : List S75 := l.filter (fun x => !sameTx x.f1 t)
set_option maxHeartbeats 1000000 in
theorem lockDrop_sl (v : Value) (l : List S75) (t : S30) (w : World) (hv : Sl k75 w v l) (hl : l.length * 40 ≤ 140737488355328) :
    Calls Try.prog 62 #[v, .agg #[.int .u64 t.f0, .int .u64 t.f1]] w fun e w' => ∃ v', e = .returned v' ∧ Own 4 75 w' w.heap.size v' ((dropV l t).map enc75) ∧ Below w.heap.size w w' := by
  have HB0 := Aside0.mk ((Below.refl w.heap.size w).alloc (Nat.le_refl _) (.cells #[.int .u64 t.f0, .int .u64 t.f1] 30))
  have hx := heap_alloc_new w (.cells #[.int .u64 t.f0, .int .u64 t.f1] 30)
  have HX := Aside0.mk hx
  have HV := Aside0.mk (flat75.sl (hv.below HB0.out))
  have HL := Aside0.mk hl
  have HSZ := Aside0.mk HB0.out.size
  clear hv hx hl
  go_enter Try.func62, Try.ntmps62
  go_wp2_with (go_at_call 85; refine (CloneHold v (l.map enc75) _ HV.out (by rw [List.length_map]; exact HL.out)).mono ?_; rintro e w2 ⟨v2, rfl, ho2, hb2⟩; have HO2 := Aside0.mk ho2; have HB2 := Aside0.mk hb2; clear ho2 hb2)
  refine (DeleteFuncHold (isT t) 93 #[.pointer (some ⟨w.heap.size, 0, none⟩)] (enters_of Try.func93 (by kernel_rfl) rfl) v2 (l.map enc75) _ w2 HO2.out HB2.out.size (fun W c hg hc => by
    obtain ⟨x, _, rfl⟩ := List.mem_map.1 hc
    have hne : some w.heap.size ≠ v2.ownBlock := fun e => by
      have := HO2.out.base w.heap.size e.symm
      simp at this
      omega
    have hb3 := (hg.block w.heap.size (by have := HB2.out.size; simp at this; omega) hne).trans ((HB2.out.block w.heap.size (by simp)).trans HX.out)
    exact lockDrop1 w.heap.size t x W (cell_row (cs := [.int .u64 t.f0, .int .u64 t.f1]) hb3 0) (cell_row (cs := [.int .u64 t.f0, .int .u64 t.f1]) hb3 1))).mono ?_
  rintro e w3 ⟨v', rfl, ho3, hg3⟩
  rw [raw_filterT] at ho3
  have HO3 := Aside0.mk ho3
  have HG3 := Aside0.mk hg3
  clear ho3 hg3
  go_wp2
  go_ret
  exact ⟨v', rfl, HO3.out.lower (by simp), (HB0.out.trans (HB2.out.mono HSZ.out)).grown HG3.out (by have := HB2.out.size; have := HSZ.out; omega) (fun k e => by have := HO2.out.base k e; have := HSZ.out; omega)⟩
end Go.Proofs.Ytmcgcdpiceikeaa.PAll
end
section
-- Printed by this session's pr.sh (the kit's print.py, several laws in one namespace). Not trusted: Lean checks it.
namespace Go.Proofs.Ytmcgcdpiceikeaa.PAll
open Go.RowKit Go.Proofs.YtmcgcdpiceikeaaW.PrintWords Go.Proofs.YtmcgcdpiceikeaaW.PrintLast Go.Proofs.YtmcgcdpiceikeaaW.PrintMore
attribute [local go_sem] max2_int min2_int max_two min_two max_three min_three max_four min_four   -- for this text's walks alone
set_option linter.unusedVariables false
set_option linter.unusedSimpArgs false

/-! ### shard_full: function 53 -/
def shard_full.f (l0_0 : List (S50)) (l0_1 : List (S75)) (l0_2 : List (S48)) (l0_3 : List (S68)) (a0_4 : Int) : Option (Bool) := some (decide ((wrap64 ((l0_2.length : Int) + (l0_3.length : Int))) ≥ 64))
set_option maxHeartbeats 8000000 in
set_option maxRecDepth 100000 in
theorem shard_full.calls (A0_0 : Option Addr) (c0_0 : Nat) (l0_0 : List (S50)) (A0_1 : Option Addr) (c0_1 : Nat) (l0_1 : List (S75)) (A0_2 : Option Addr) (c0_2 : Nat) (l0_2 : List (S48)) (A0_3 : Option Addr) (c0_3 : Nat) (l0_3 : List (S68)) (a0_4 : Int) (r : Bool) (w : World) (hr0_0 : Kd.C k50 w A0_0 l0_0.length l0_0) (hc0_0 : l0_0.length ≤ c0_0) (hr0_1 : Kd.C k75 w A0_1 l0_1.length l0_1) (hc0_1 : l0_1.length ≤ c0_1) (hr0_2 : Kd.C k48 w A0_2 l0_2.length l0_2) (hc0_2 : l0_2.length ≤ c0_2) (hr0_3 : Kd.C k68 w A0_3 l0_3.length l0_3) (hc0_3 : l0_3.length ≤ c0_3) (h : shard_full.f l0_0 l0_1 l0_2 l0_3 a0_4 = some r) :
    Calls Try.prog 53 #[.agg #[.slice A0_0 l0_0.length c0_0, .slice A0_1 l0_1.length c0_1, .slice A0_2 l0_2.length c0_2, .slice A0_3 l0_3.length c0_3, .int .u64 a0_4]] w fun e w' => e = .returned (.bool r) ∧ Below w.heap.size w w' := by
  have hu28 := Try.underlying28
  have HR0_0 := Aside0.mk hr0_0
  have HC0_0 := Aside0.mk hc0_0
  clear hr0_0 hc0_0
  have HR0_1 := Aside0.mk hr0_1
  have HC0_1 := Aside0.mk hc0_1
  clear hr0_1 hc0_1
  have HR0_2 := Aside0.mk hr0_2
  have HC0_2 := Aside0.mk hc0_2
  clear hr0_2 hc0_2
  have HR0_3 := Aside0.mk hr0_3
  have HC0_3 := Aside0.mk hc0_3
  clear hr0_3 hc0_3
  have HB := Aside0.mk (Below.refl w.heap.size w)
  have H : (some (decide ((wrap64 ((l0_2.length : Int) + (l0_3.length : Int))) ≥ 64))) = some r := h
  clear h
  obtain rfl := Option.some.inj H
  go_enter Try.func53, Try.ntmps53
  go_wp2_with (first | ((with_reducible refine gate_dst (N := 1) rfl ?_); refine box_event ?hg (N := 1) ?hd (cs := #[.slice A0_0 l0_0.length c0_0, .slice A0_1 l0_1.length c0_1, .slice A0_2 l0_2.length c0_2, .slice A0_3 l0_3.length c0_3, .int .u64 a0_4]) (t := 28) ?hr ?_; (case hd => rfl); (case hg => rfl); (case hr => first | (go_simp; done) | (go_simp; rfl)); intro gb109 hg w2 hbox hb; have n0_ := Aside0.mk (below_step (by repeat (first | (with_reducible first | exact HB.out | apply below_alloc | apply pw_below_drewN | apply below_drew1) | exact HB.out)) hb); have n1_ := Aside0.mk (hbox); have n2_ := Aside0.mk ((by rw [hg]; exact (below_size (by repeat (first | (with_reducible first | exact HB.out | apply below_alloc | apply pw_below_drewN | apply below_drew1) | exact HB.out))) : w.heap.size ≤ gb109)); have n3_ := Aside0.mk ((by rw [hg]; exact (below_size (by repeat (first | (with_reducible first | exact HB.out | apply below_alloc | apply pw_below_drewN | apply below_drew1) | exact HB.out))) : w.heap.size ≤ gb109)); clear HB; have HB := n0_; have BK109 := n1_; have GW109 := n2_; have GE109 := n3_; clear n0_ n1_ n2_ n3_; clear hb hbox hg; have hcz3_0 : w2.cell? ⟨gb109, 0, none⟩ = some (.slice A0_0 l0_0.length c0_0) := (blk_cell BK109.out 0).trans rfl; have hcz3_1 : w2.cell? ⟨gb109, 1, none⟩ = some (.slice A0_1 l0_1.length c0_1) := (blk_cell BK109.out 1).trans rfl; have hcz3_2 : w2.cell? ⟨gb109, 2, none⟩ = some (.slice A0_2 l0_2.length c0_2) := (blk_cell BK109.out 2).trans rfl; have hcz3_3 : w2.cell? ⟨gb109, 3, none⟩ = some (.slice A0_3 l0_3.length c0_3) := (blk_cell BK109.out 3).trans rfl; have hcz3_4 : w2.cell? ⟨gb109, 4, none⟩ = some (.int .u64 a0_4) := (blk_cell BK109.out 4).trans rfl; have hfz3_0 := blk_frozen BK109.out 0; have hfz3_1 := blk_frozen BK109.out 1; have hfz3_2 := blk_frozen BK109.out 2; have hfz3_3 := blk_frozen BK109.out 3; have hfz3_4 := blk_frozen BK109.out 4))
  go_ret
  exact ⟨by first | rfl | (simp [errW_none, errW_some] <;> rfl) | (simp [*, errW_none, errW_some] <;> rfl), by repeat (first | (with_reducible first | exact HB.out | apply below_alloc | apply pw_below_drewN | apply below_drew1 | refine below_set ?_ GE109.out) | exact HB.out)⟩

end Go.Proofs.Ytmcgcdpiceikeaa.PAll
end
