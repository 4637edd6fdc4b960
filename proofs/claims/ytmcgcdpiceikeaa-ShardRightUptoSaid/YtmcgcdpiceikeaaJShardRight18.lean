/- Joined texts of the claim ShardRight (part 18): contracts of functions and plain laws. -/
import Derived.BigQuiet
import Derived.Deep.QuietTactic
import Derived.Outline
import Derived.Test.YtmcgcdpiceikeaaJShardRight14
import Derived.Test.YtmcgcdpiceikeaaJShardRight16
import Derived.Test.YtmcgcdpiceikeaaJShardRight17
import Derived.WalkLawsBesides
section
/- lock: its closures, of, Has, Drop. -/
namespace Go.Proofs.Ytmcgcdpiceikeaa.PAll
open Go.RowKit Go.Proofs.YtmcgcdpiceikeaaW.PrintWords Go.Proofs.YtmcgcdpiceikeaaW.PrintMore Go.Proofs.Ytmcgcdpiceikeaa
set_option linter.unusedVariables false
def sameTx (a b : S30) : Bool := a.f0 == b.f0 && a.f1 == b.f1
def isHK (t : S30) (key : ByteArray) (x : S75) : Bool := sameTx x.f1 t && (x.f0.toList == key.toList)
theorem txEq {a b : Int} : (a == a && b == b) = true := by simp
theorem txNe1 {a b c d : Int} (h : ¬ a = c) : (a == c && b == d) = false := by simp [h]
theorem txNe2 {a b c d : Int} (h : ¬ b = d) : (a == c && b == d) = false := by simp [h]
set_option maxHeartbeats 1000000 in
theorem lockOf1 (Bt Bk : Nat) (t : S30) (key : ByteArray) (x : S75) (W : World) (h0 : W.cell? ⟨Bt, 0, none⟩ = some (.int .u64 t.f0)) (h1 : W.cell? ⟨Bt, 1, none⟩ = some (.int .u64 t.f1)) (hk : W.cell? ⟨Bk, 0, none⟩ = some (.string key)) :
    Calls Try.prog 97 #[.agg (enc75 x).toArray, .pointer (some ⟨Bt, 0, none⟩), .pointer (some ⟨Bk, 0, none⟩)] W fun e W' => e = .returned (.bool (isHK t key x)) ∧ Below W.heap.size W W' := by
  obtain ⟨xk, ⟨xa, xi⟩, xw⟩ := x
  obtain ⟨ta, ti⟩ := t
  unfold enc75 isHK sameTx
  dsimp only at *
  have hb := (Below.refl W.heap.size W).alloc (Nat.le_refl _) (.cells #[.string xk, .int .u64 xa, .int .u64 xi, .bool xw] 75)
  have c0 := (hb.cell (World.block_lt_of_cell? W _ h0)).trans h0
  have c1 := (hb.cell (World.block_lt_of_cell? W _ h1)).trans h1
  have ck := (hb.cell (World.block_lt_of_cell? W _ hk)).trans hk
  have HB := Aside0.mk hb
  clear hb h0 h1 hk
  by_cases e1 : xa = ta
  · subst e1
    by_cases e2 : xi = ti
    · subst e2
      rw [txEq, Bool.true_and]
      go_enter Try.func97, Try.ntmps97
      go_wp2
      go_ret
      exact ⟨rfl, HB.out⟩
    · rw [txNe2 e2, Bool.false_and]
      go_enter Try.func97, Try.ntmps97
      go_wp2
      go_ret
      exact ⟨rfl, HB.out⟩
  · rw [txNe1 e1, Bool.false_and]
    go_enter Try.func97, Try.ntmps97
    go_wp2
    go_ret
    exact ⟨rfl, HB.out⟩
set_option maxHeartbeats 1000000 in
theorem lockDrop1 (Bt : Nat) (t : S30) (x : S75) (W : World) (h0 : W.cell? ⟨Bt, 0, none⟩ = some (.int .u64 t.f0)) (h1 : W.cell? ⟨Bt, 1, none⟩ = some (.int .u64 t.f1)) :
    Calls Try.prog 93 #[.agg (enc75 x).toArray, .pointer (some ⟨Bt, 0, none⟩)] W fun e W' => e = .returned (.bool (sameTx x.f1 t)) ∧ Below W.heap.size W W' := by
  obtain ⟨xk, ⟨xa, xi⟩, xw⟩ := x
  obtain ⟨ta, ti⟩ := t
  unfold enc75 sameTx
  dsimp only at *
  have hb := (Below.refl W.heap.size W).alloc (Nat.le_refl _) (.cells #[.string xk, .int .u64 xa, .int .u64 xi, .bool xw] 75)
  have c0 := (hb.cell (World.block_lt_of_cell? W _ h0)).trans h0
  have c1 := (hb.cell (World.block_lt_of_cell? W _ h1)).trans h1
  have HB := Aside0.mk hb
  clear hb h0 h1
  by_cases e1 : xa = ta
  · subst e1
    by_cases e2 : xi = ti
    · subst e2
      rw [txEq]
      go_enter Try.func93, Try.ntmps93
      go_wp2
      go_ret
      exact ⟨rfl, HB.out⟩
    · rw [txNe2 e2]
      go_enter Try.func93, Try.ntmps93
      go_wp2
      go_ret
      exact ⟨rfl, HB.out⟩
  · rw [txNe1 e1]
    go_enter Try.func93, Try.ntmps93
    go_wp2
    go_ret
    exact ⟨rfl, HB.out⟩
set_option maxHeartbeats 1000000 in
theorem shardOver1 (Bt : Nat) (t : S30) (x : S68) (W : World) (h0 : W.cell? ⟨Bt, 0, none⟩ = some (.int .u64 t.f0)) (h1 : W.cell? ⟨Bt, 1, none⟩ = some (.int .u64 t.f1)) :
    Calls Try.prog 81 #[.agg (enc68 x).toArray, .pointer (some ⟨Bt, 0, none⟩)] W fun e W' => e = .returned (.bool (sameTx x.f0 t)) ∧ Below W.heap.size W W' := by
  obtain ⟨⟨xa, xi⟩, xc⟩ := x
  obtain ⟨ta, ti⟩ := t
  unfold enc68 sameTx
  dsimp only at *
  have hb := (Below.refl W.heap.size W).alloc (Nat.le_refl _) (.cells #[.int .u64 xa, .int .u64 xi, .bool xc] 68)
  have c0 := (hb.cell (World.block_lt_of_cell? W _ h0)).trans h0
  have c1 := (hb.cell (World.block_lt_of_cell? W _ h1)).trans h1
  have HB := Aside0.mk hb
  clear hb h0 h1
  by_cases e1 : xa = ta
  · subst e1
    by_cases e2 : xi = ti
    · subst e2
      rw [txEq]
      go_enter Try.func81, Try.ntmps81
      go_wp2
      go_ret
      exact ⟨rfl, HB.out⟩
    · rw [txNe2 e2]
      go_enter Try.func81, Try.ntmps81
      go_wp2
      go_ret
      exact ⟨rfl, HB.out⟩
  · rw [txNe1 e1]
    go_enter Try.func81, Try.ntmps81
    go_wp2
    go_ret
    exact ⟨rfl, HB.out⟩
set_option maxHeartbeats 1000000 in
theorem shardKnown1 (Bt : Nat) (t : S30) (xa xi : Int) (xf xw : Bool) (pv : Value) (A : Option Addr) (n c : Nat) (hpv : pv = .slice A n c) (W : World) (h0 : W.cell? ⟨Bt, 0, none⟩ = some (.int .u64 t.f0)) (h1 : W.cell? ⟨Bt, 1, none⟩ = some (.int .u64 t.f1)) :
    Calls Try.prog 83 #[.agg #[.int .u64 xa, .int .u64 xi, .bool xf, .bool xw, pv], .pointer (some ⟨Bt, 0, none⟩)] W fun e W' => e = .returned (.bool (sameTx ⟨xa, xi⟩ t)) ∧ Below W.heap.size W W' := by
  subst hpv
  obtain ⟨ta, ti⟩ := t
  unfold sameTx
  dsimp only at *
  have hb := (Below.refl W.heap.size W).alloc (Nat.le_refl _) (.cells #[.int .u64 xa, .int .u64 xi, .bool xf, .bool xw, .slice A n c] 48)
  have c0 := (hb.cell (World.block_lt_of_cell? W _ h0)).trans h0
  have c1 := (hb.cell (World.block_lt_of_cell? W _ h1)).trans h1
  have HB := Aside0.mk hb
  clear hb h0 h1
  by_cases e1 : xa = ta
  · subst e1
    by_cases e2 : xi = ti
    · subst e2
      rw [txEq]
      go_enter Try.func83, Try.ntmps83
      go_wp2
      go_ret
      exact ⟨rfl, HB.out⟩
    · rw [txNe2 e2]
      go_enter Try.func83, Try.ntmps83
      go_wp2
      go_ret
      exact ⟨rfl, HB.out⟩
  · rw [txNe1 e1]
    go_enter Try.func83, Try.ntmps83
    go_wp2
    go_ret
    exact ⟨rfl, HB.out⟩
set_option maxHeartbeats 1000000 in
theorem shardFinishes1 (Bt : Nat) (t : S30) (xa xi : Int) (xf xw : Bool) (pv : Value) (A : Option Addr) (n c : Nat) (hpv : pv = .slice A n c) (W : World) (h0 : W.cell? ⟨Bt, 1, none⟩ = some (.int .u64 t.f0)) (h1 : W.cell? ⟨Bt, 2, none⟩ = some (.int .u64 t.f1)) :
    Calls Try.prog 64 #[.agg #[.int .u64 xa, .int .u64 xi, .bool xf, .bool xw, pv], .pointer (some ⟨Bt, 0, none⟩)] W fun e W' => e = .returned (.bool (sameTx ⟨xa, xi⟩ t)) ∧ Below W.heap.size W W' := by
  subst hpv
  obtain ⟨ta, ti⟩ := t
  unfold sameTx
  dsimp only at *
  have hb := (Below.refl W.heap.size W).alloc (Nat.le_refl _) (.cells #[.int .u64 xa, .int .u64 xi, .bool xf, .bool xw, .slice A n c] 48)
  have c0 := (hb.cell (World.block_lt_of_cell? W _ h0)).trans h0
  have c1 := (hb.cell (World.block_lt_of_cell? W _ h1)).trans h1
  have HB := Aside0.mk hb
  clear hb h0 h1
  by_cases e1 : xa = ta
  · subst e1
    by_cases e2 : xi = ti
    · subst e2
      rw [txEq]
      go_enter Try.func64, Try.ntmps64
      go_wp2
      go_ret
      exact ⟨rfl, HB.out⟩
    · rw [txNe2 e2]
      go_enter Try.func64, Try.ntmps64
      go_wp2
      go_ret
      exact ⟨rfl, HB.out⟩
  · rw [txNe1 e1]
    go_enter Try.func64, Try.ntmps64
    go_wp2
    go_ret
    exact ⟨rfl, HB.out⟩
/-- Has a hold what is asked for? -/
def okHas (t : S30) (key : ByteArray) (wr : Bool) (x : S75) : Bool := isHK t key x && (x.f2 || !wr)
set_option maxHeartbeats 2000000 in
theorem lockHas1 (Bt Bk Bw : Nat) (t : S30) (key : ByteArray) (wr : Bool) (x : S75) (W : World) (h0 : W.cell? ⟨Bt, 0, none⟩ = some (.int .u64 t.f0)) (h1 : W.cell? ⟨Bt, 1, none⟩ = some (.int .u64 t.f1)) (hk : W.cell? ⟨Bk, 0, none⟩ = some (.string key)) (hw : W.cell? ⟨Bw, 0, none⟩ = some (.bool wr)) :
    Calls Try.prog 77 #[.agg (enc75 x).toArray, .pointer (some ⟨Bt, 0, none⟩), .pointer (some ⟨Bk, 0, none⟩), .pointer (some ⟨Bw, 0, none⟩)] W fun e W' => e = .returned (.bool (okHas t key wr x)) ∧ Below W.heap.size W W' := by
  obtain ⟨xk, ⟨xa, xi⟩, xw⟩ := x
  obtain ⟨ta, ti⟩ := t
  unfold enc75 okHas isHK sameTx
  dsimp only at *
  have hb := (Below.refl W.heap.size W).alloc (Nat.le_refl _) (.cells #[.string xk, .int .u64 xa, .int .u64 xi, .bool xw] 75)
  have c0 := (hb.cell (World.block_lt_of_cell? W _ h0)).trans h0
  have c1 := (hb.cell (World.block_lt_of_cell? W _ h1)).trans h1
  have ck := (hb.cell (World.block_lt_of_cell? W _ hk)).trans hk
  have cw := (hb.cell (World.block_lt_of_cell? W _ hw)).trans hw
  have HB := Aside0.mk hb
  clear hb h0 h1 hk hw
  by_cases e1 : xa = ta
  · subst e1
    by_cases e2 : xi = ti
    · subst e2
      rw [txEq, Bool.true_and]
      cases e3 : (xk.toList == key.toList) with
      | false =>
        go_enter Try.func77, Try.ntmps77
        go_wp2
        go_ret
        exact ⟨rfl, HB.out⟩
      | true =>
        cases xw
        all_goals
          go_enter Try.func77, Try.ntmps77
          go_wp2
          go_ret
          exact ⟨rfl, HB.out⟩
    · rw [txNe2 e2, Bool.false_and, Bool.false_and]
      go_enter Try.func77, Try.ntmps77
      go_wp2
      go_ret
      exact ⟨rfl, HB.out⟩
  · rw [txNe1 e1, Bool.false_and, Bool.false_and]
    go_enter Try.func77, Try.ntmps77
    go_wp2
    go_ret
    exact ⟨rfl, HB.out⟩
end Go.Proofs.Ytmcgcdpiceikeaa.PAll
end
section
/- lock: of, Has, Drop. -/
namespace Go.Proofs.Ytmcgcdpiceikeaa.PAll
open Go.RowKit Go.Proofs.YtmcgcdpiceikeaaW.PrintWords Go.Proofs.YtmcgcdpiceikeaaW.PrintMore Go.Proofs.Ytmcgcdpiceikeaa
set_option linter.unusedVariables false
theorem cells2 {w : World} {a b : Value} {e : TypeId} (o2 : Obj) : ((w.alloc (.cells #[a, b] e)).alloc o2).cell? ⟨w.heap.size, 0, none⟩ = some a ∧ ((w.alloc (.cells #[a, b] e)).alloc o2).cell? ⟨w.heap.size, 1, none⟩ = some b := by
  have hB := (Below.refl (w.alloc (.cells #[a, b] e)).heap.size (w.alloc (.cells #[a, b] e))).alloc (Nat.le_refl _) o2
  have h := (hB.block w.heap.size (by simp)).trans (heap_alloc_new w (.cells #[a, b] e))
  exact ⟨cell_row (cs := [a, b]) h 0, cell_row (cs := [a, b]) h 1⟩
theorem lockOf_sl (v : Value) (l : List S75) (t : S30) (key : ByteArray) (w : World) (hv : Sl k75 w v l) :
    Calls Try.prog 84 #[v, .agg #[.int .u64 t.f0, .int .u64 t.f1], .string key] w fun e w' => e = .returned (.int .i64 (findI (isHK t key) l)) ∧ Below w.heap.size w w' := by
  have HV := Aside0.mk hv
  clear hv
  have HB0 := Aside0.mk (((Below.refl w.heap.size w).alloc (Nat.le_refl _) (.cells #[.int .u64 t.f0, .int .u64 t.f1] 30)).alloc (by simp) (.cells #[.string key] 9))
  have hc := cells2 (w := w) (a := .int .u64 t.f0) (b := .int .u64 t.f1) (e := 30) (.cells #[.string key] 9)
  have hk : ((w.alloc (.cells #[.int .u64 t.f0, .int .u64 t.f1] 30)).alloc (.cells #[.string key] 9)).cell? ⟨w.heap.size + 1, 0, none⟩ = some (.string key) := by
    have := cell_row (cs := [.string key]) (heap_alloc_new (w.alloc (.cells #[.int .u64 t.f0, .int .u64 t.f1] 30)) (.cells #[.string key] 9)) 0
    rwa [World.size_alloc] at this
  have HP := Aside0.mk (show Pred Try.prog 97 #[.pointer (some ⟨w.heap.size, 0, none⟩), .pointer (some ⟨w.heap.size + 1, 0, none⟩)] (fun cs => .agg cs.toArray) k75 ((w.alloc (.cells #[.int .u64 t.f0, .int .u64 t.f1] 30)).alloc (.cells #[.string key] 9)) l (isHK t key) from fun W x cs hb _ hK => by
    obtain rfl := flat75.openK _ _ _ hK
    exact lockOf1 w.heap.size (w.heap.size + 1) t key x W ((hb.cell (World.block_lt_of_cell? _ _ hc.1)).trans hc.1) ((hb.cell (World.block_lt_of_cell? _ _ hc.2)).trans hc.2) ((hb.cell (World.block_lt_of_cell? _ _ hk)).trans hk))
  clear hc hk
  go_enter Try.func84, Try.ntmps84
  go_wp2_with (go_at_call 96; refine (IndexFuncHold k75 rfl (isHK t key) 97 #[.pointer (some ⟨w.heap.size, 0, none⟩), .pointer (some ⟨w.heap.size + 1, 0, none⟩)] (enters_of Try.func97 (by kernel_rfl) rfl) v l _ (HV.out.below HB0.out) HP.out).mono ?_; rintro e w2 ⟨rfl, hb2⟩)
  go_ret
  exact ⟨rfl, HB0.out.trans (hb2.mono HB0.out.size)⟩
theorem cells3 {w : World} {a b c d : Value} {e e2 e3 : TypeId} : (((w.alloc (.cells #[a, b] e)).alloc (.cells #[c] e2)).alloc (.cells #[d] e3)).cell? ⟨w.heap.size, 0, none⟩ = some a ∧ (((w.alloc (.cells #[a, b] e)).alloc (.cells #[c] e2)).alloc (.cells #[d] e3)).cell? ⟨w.heap.size, 1, none⟩ = some b ∧ (((w.alloc (.cells #[a, b] e)).alloc (.cells #[c] e2)).alloc (.cells #[d] e3)).cell? ⟨w.heap.size + 1, 0, none⟩ = some c ∧ (((w.alloc (.cells #[a, b] e)).alloc (.cells #[c] e2)).alloc (.cells #[d] e3)).cell? ⟨w.heap.size + 1 + 1, 0, none⟩ = some d := by
  have hc := cells2 (w := w) (a := a) (b := b) (e := e) (.cells #[c] e2)
  have hk : ((w.alloc (.cells #[a, b] e)).alloc (.cells #[c] e2)).cell? ⟨w.heap.size + 1, 0, none⟩ = some c := by
    have := cell_row (cs := [c]) (heap_alloc_new (w.alloc (.cells #[a, b] e)) (.cells #[c] e2)) 0
    rwa [World.size_alloc] at this
  have hB := (Below.refl ((w.alloc (.cells #[a, b] e)).alloc (.cells #[c] e2)).heap.size ((w.alloc (.cells #[a, b] e)).alloc (.cells #[c] e2))).alloc (Nat.le_refl _) (.cells #[d] e3)
  have hd := cell_row (cs := [d]) (heap_alloc_new ((w.alloc (.cells #[a, b] e)).alloc (.cells #[c] e2)) (.cells #[d] e3)) 0
  rw [World.size_alloc, World.size_alloc] at hd
  exact ⟨(hB.cell (World.block_lt_of_cell? _ _ hc.1)).trans hc.1, (hB.cell (World.block_lt_of_cell? _ _ hc.2)).trans hc.2, (hB.cell (World.block_lt_of_cell? _ _ hk)).trans hk, hd⟩
def hasV (l : List S75) (t : S30) (key : ByteArray) (wr : Bool) : Bool := l.any (okHas t key wr)
theorem lockHas_sl (v : Value) (l : List S75) (t : S30) (key : ByteArray) (wr : Bool) (w : World) (hv : Sl k75 w v l) :
    Calls Try.prog 41 #[v, .agg #[.int .u64 t.f0, .int .u64 t.f1], .string key, .bool wr] w fun e w' => e = .returned (.bool (hasV l t key wr)) ∧ Below w.heap.size w w' := by
  have HV := Aside0.mk hv
  clear hv
  have HB0 := Aside0.mk ((((Below.refl w.heap.size w).alloc (Nat.le_refl _) (.cells #[.int .u64 t.f0, .int .u64 t.f1] 30)).alloc (by simp) (.cells #[.string key] 9)).alloc (by simp; omega) (.cells #[.bool wr] 4))
  obtain ⟨h0, h1, h2, h3⟩ := cells3 (w := w) (a := .int .u64 t.f0) (b := .int .u64 t.f1) (c := .string key) (d := .bool wr) (e := 30) (e2 := 9) (e3 := 4)
  have HP := Aside0.mk (show Pred Try.prog 77 #[.pointer (some ⟨w.heap.size, 0, none⟩), .pointer (some ⟨w.heap.size + 1, 0, none⟩), .pointer (some ⟨w.heap.size + 1 + 1, 0, none⟩)] (fun cs => .agg cs.toArray) k75 (((w.alloc (.cells #[.int .u64 t.f0, .int .u64 t.f1] 30)).alloc (.cells #[.string key] 9)).alloc (.cells #[.bool wr] 4)) l (okHas t key wr) from fun W x cs hb _ hK => by
    obtain rfl := flat75.openK _ _ _ hK
    exact lockHas1 w.heap.size (w.heap.size + 1) (w.heap.size + 1 + 1) t key wr x W ((hb.cell (World.block_lt_of_cell? _ _ h0)).trans h0) ((hb.cell (World.block_lt_of_cell? _ _ h1)).trans h1) ((hb.cell (World.block_lt_of_cell? _ _ h2)).trans h2) ((hb.cell (World.block_lt_of_cell? _ _ h3)).trans h3))
  clear h0 h1 h2 h3
  go_enter Try.func41, Try.ntmps41
  go_wp2_with (go_at_call 74; refine (ContainsFuncHold k75 rfl (okHas t key wr) 77 #[.pointer (some ⟨w.heap.size, 0, none⟩), .pointer (some ⟨w.heap.size + 1, 0, none⟩), .pointer (some ⟨w.heap.size + 1 + 1, 0, none⟩)] (enters_of Try.func77 (by kernel_rfl) rfl) v l _ (HV.out.below HB0.out) HP.out).mono ?_; rintro e w2 ⟨rfl, hb2⟩)
  go_ret
  exact ⟨rfl, HB0.out.trans (hb2.mono HB0.out.size)⟩
/-- Is a hold, cell by cell, a transaction's? -/
def isT (t : S30) : List Value → Bool
  | [_, .int _ a, .int _ b, _] => a == t.f0 && b == t.f1
  | _ => false
theorem raw_filterT (t : S30) (l : List S75) : (l.map enc75).filter (fun c => !isT t c) = (l.filter (fun x => !sameTx x.f1 t)).map enc75 := by
  rw [List.filter_map]; rfl
def dropV (l : List S75) (t : S30) : List S75 := l.filter (fun x => !sameTx x.f1 t)
set_option maxHeartbeats 1000000 in
theorem lockDrop_sl (v : Value) (l : List S75) (t : S30) (w : World) (hv : Sl k75 w v l) (hl : l.length * 40 ≤ 140737488355328) :
    Calls Try.prog 62 #[v, .agg #[.int .u64 t.f0, .int .u64 t.f1]] w fun e w' => ∃ v', e = .returned v' ∧ Own 4 75 w' w.heap.size v' ((dropV l t).map enc75) ∧ Below w.heap.size w w' := by
  have HB0 := Aside0.mk ((Below.refl w.heap.size w).alloc (Nat.le_refl _) (.cells #[.int .u64 t.f0, .int .u64 t.f1] 30))
  have hx := heap_alloc_new w (.cells #[.int .u64 t.f0, .int .u64 t.f1] 30)
  have HX := Aside0.mk hx
  have HV := Aside0.mk (flat75.sl (hv.below HB0.out))
  have HL := Aside0.mk hl
  have HSZ := Aside0.mk HB0.out.size
  clear hv hx hl
  go_enter Try.func62, Try.ntmps62
  go_wp2_with (go_at_call 85; refine (CloneHold v (l.map enc75) _ HV.out (by rw [List.length_map]; exact HL.out)).mono ?_; rintro e w2 ⟨v2, rfl, ho2, hb2⟩; have HO2 := Aside0.mk ho2; have HB2 := Aside0.mk hb2; clear ho2 hb2)
  refine (DeleteFuncHold (isT t) 93 #[.pointer (some ⟨w.heap.size, 0, none⟩)] (enters_of Try.func93 (by kernel_rfl) rfl) v2 (l.map enc75) _ w2 HO2.out HB2.out.size (fun W c hg hc => by
    obtain ⟨x, _, rfl⟩ := List.mem_map.1 hc
    have hne : some w.heap.size ≠ v2.ownBlock := fun e => by
      have := HO2.out.base w.heap.size e.symm
      simp at this
      omega
    have hb3 := (hg.block w.heap.size (by have := HB2.out.size; simp at this; omega) hne).trans ((HB2.out.block w.heap.size (by simp)).trans HX.out)
    exact lockDrop1 w.heap.size t x W (cell_row (cs := [.int .u64 t.f0, .int .u64 t.f1]) hb3 0) (cell_row (cs := [.int .u64 t.f0, .int .u64 t.f1]) hb3 1))).mono ?_
  rintro e w3 ⟨v', rfl, ho3, hg3⟩
  rw [raw_filterT] at ho3
  have HO3 := Aside0.mk ho3
  have HG3 := Aside0.mk hg3
  clear ho3 hg3
  go_wp2
  go_ret
  exact ⟨v', rfl, HO3.out.lower (by simp), (HB0.out.trans (HB2.out.mono HSZ.out)).grown HG3.out (by have := HB2.out.size; have := HSZ.out; omega) (fun k e => by have := HO2.out.base k e; have := HSZ.out; omega)⟩
end Go.Proofs.Ytmcgcdpiceikeaa.PAll
end
section
-- Printed by this session's pr.sh (the kit's print.py, several laws in one namespace). Not trusted: Lean checks it.
namespace Go.Proofs.Ytmcgcdpiceikeaa.PAll
open Go.RowKit Go.Proofs.YtmcgcdpiceikeaaW.PrintWords Go.Proofs.YtmcgcdpiceikeaaW.PrintLast Go.Proofs.YtmcgcdpiceikeaaW.PrintMore
attribute [local go_sem] max2_int min2_int max_two min_two max_three min_three max_four min_four   -- for this text's walks alone
set_option linter.unusedVariables false
set_option linter.unusedSimpArgs false

/-! ### shard_full: function 53 -/
def shard_full.f (l0_0 : List (S50)) (l0_1 : List (S75)) (l0_2 : List (S48)) (l0_3 : List (S68)) (a0_4 : Int) : Option (Bool) := some (decide ((wrap64 ((l0_2.length : Int) + (l0_3.length : Int))) ≥ 64))
set_option maxHeartbeats 8000000 in
set_option maxRecDepth 100000 in
theorem shard_full.calls (A0_0 : Option Addr) (c0_0 : Nat) (l0_0 : List (S50)) (A0_1 : Option Addr) (c0_1 : Nat) (l0_1 : List (S75)) (A0_2 : Option Addr) (c0_2 : Nat) (l0_2 : List (S48)) (A0_3 : Option Addr) (c0_3 : Nat) (l0_3 : List (S68)) (a0_4 : Int) (r : Bool) (w : World) (hr0_0 : Kd.C k50 w A0_0 l0_0.length l0_0) (hc0_0 : l0_0.length ≤ c0_0) (hr0_1 : Kd.C k75 w A0_1 l0_1.length l0_1) (hc0_1 : l0_1.length ≤ c0_1) (hr0_2 : Kd.C k48 w A0_2 l0_2.length l0_2) (hc0_2 : l0_2.length ≤ c0_2) (hr0_3 : Kd.C k68 w A0_3 l0_3.length l0_3) (hc0_3 : l0_3.length ≤ c0_3) (h : shard_full.f l0_0 l0_1 l0_2 l0_3 a0_4 = some r) :
    Calls Try.prog 53 #[.agg #[.slice A0_0 l0_0.length c0_0, .slice A0_1 l0_1.length c0_1, .slice A0_2 l0_2.length c0_2, .slice A0_3 l0_3.length c0_3, .int .u64 a0_4]] w fun e w' => e = .returned (.bool r) ∧ Below w.heap.size w w' := by
  have hu28 := Try.underlying28
  have HR0_0 := Aside0.mk hr0_0
  have HC0_0 := Aside0.mk hc0_0
  clear hr0_0 hc0_0
  have HR0_1 := Aside0.mk hr0_1
  have HC0_1 := Aside0.mk hc0_1
  clear hr0_1 hc0_1
  have HR0_2 := Aside0.mk hr0_2
  have HC0_2 := Aside0.mk hc0_2
  clear hr0_2 hc0_2
  have HR0_3 := Aside0.mk hr0_3
  have HC0_3 := Aside0.mk hc0_3
  clear hr0_3 hc0_3
  have HB := Aside0.mk (Below.refl w.heap.size w)
  have H : (some (decide ((wrap64 ((l0_2.length : Int) + (l0_3.length : Int))) ≥ 64))) = some r := h
  clear h
  obtain rfl := Option.some.inj H
  go_enter Try.func53, Try.ntmps53
  go_wp2_with (first | ((with_reducible refine gate_dst (N := 1) rfl ?_); refine box_event ?hg (N := 1) ?hd (cs := #[.slice A0_0 l0_0.length c0_0, .slice A0_1 l0_1.length c0_1, .slice A0_2 l0_2.length c0_2, .slice A0_3 l0_3.length c0_3, .int .u64 a0_4]) (t := 28) ?hr ?_; (case hd => rfl); (case hg => rfl); (case hr => first | (go_simp; done) | (go_simp; rfl)); intro gb109 hg w2 hbox hb; have n0_ := Aside0.mk (below_step (by repeat (first | (with_reducible first | exact HB.out | apply below_alloc | apply pw_below_drewN | apply below_drew1) | exact HB.out)) hb); have n1_ := Aside0.mk (hbox); have n2_ := Aside0.mk ((by rw [hg]; exact (below_size (by repeat (first | (with_reducible first | exact HB.out | apply below_alloc | apply pw_below_drewN | apply below_drew1) | exact HB.out))) : w.heap.size ≤ gb109)); have n3_ := Aside0.mk ((by rw [hg]; exact (below_size (by repeat (first | (with_reducible first | exact HB.out | apply below_alloc | apply pw_below_drewN | apply below_drew1) | exact HB.out))) : w.heap.size ≤ gb109)); clear HB; have HB := n0_; have BK109 := n1_; have GW109 := n2_; have GE109 := n3_; clear n0_ n1_ n2_ n3_; clear hb hbox hg; have hcz3_0 : w2.cell? ⟨gb109, 0, none⟩ = some (.slice A0_0 l0_0.length c0_0) := (blk_cell BK109.out 0).trans rfl; have hcz3_1 : w2.cell? ⟨gb109, 1, none⟩ = some (.slice A0_1 l0_1.length c0_1) := (blk_cell BK109.out 1).trans rfl; have hcz3_2 : w2.cell? ⟨gb109, 2, none⟩ = some (.slice A0_2 l0_2.length c0_2) := (blk_cell BK109.out 2).trans rfl; have hcz3_3 : w2.cell? ⟨gb109, 3, none⟩ = some (.slice A0_3 l0_3.length c0_3) := (blk_cell BK109.out 3).trans rfl; have hcz3_4 : w2.cell? ⟨gb109, 4, none⟩ = some (.int .u64 a0_4) := (blk_cell BK109.out 4).trans rfl; have hfz3_0 := blk_frozen BK109.out 0; have hfz3_1 := blk_frozen BK109.out 1; have hfz3_2 := blk_frozen BK109.out 2; have hfz3_3 := blk_frozen BK109.out 3; have hfz3_4 := blk_frozen BK109.out 4))
  go_ret
  exact ⟨by first | rfl | (simp [errW_none, errW_some] <;> rfl) | (simp [*, errW_none, errW_some] <;> rfl), by repeat (first | (with_reducible first | exact HB.out | apply below_alloc | apply pw_below_drewN | apply below_drew1 | refine below_set ?_ GE109.out) | exact HB.out)⟩

end Go.Proofs.Ytmcgcdpiceikeaa.PAll
end
section
/- shard: known, over, full, no. -/
namespace Go.Proofs.Ytmcgcdpiceikeaa.PAll
open Go.RowKit Go.Proofs.YtmcgcdpiceikeaaW.PrintWords Go.Proofs.YtmcgcdpiceikeaaW.PrintMore Go.Proofs.Ytmcgcdpiceikeaa
set_option linter.unusedVariables false
theorem openCells {W : World} {x : S48} {cs : List Value} (h : k48.K W x cs) : ∃ A c, cs = [.int .u64 x.f0.f0, .int .u64 x.f0.f1, .bool x.f1, .bool x.f2, .slice A x.f3.length c] ∧ x.f3.length ≤ c ∧ Kd.C k54 W A x.f3.length x.f3 := by
  obtain ⟨_, _, hcs, ⟨_, _, rfl, rfl, rfl⟩, ⟨_, _, rfl, rfl, ⟨_, _, rfl, rfl, ⟨A, c, rfl, l, g⟩⟩⟩⟩ := h
  exact ⟨A, c, hcs, l, g⟩
instance : Inhabited S48 := ⟨⟨⟨0, 0⟩, false, false, []⟩⟩
def isOpenT (t : S30) (x : S48) : Bool := sameTx x.f0 t
def isDoneT (t : S30) (x : S68) : Bool := sameTx x.f0 t
def shv (A0 : Option Addr) (n0 c0 : Nat) (A1 : Option Addr) (n1 c1 : Nat) (A2 : Option Addr) (n2 c2 : Nat) (A3 : Option Addr) (n3 c3 : Nat) (ver : Int) : Array Value := #[.slice A0 n0 c0, .slice A1 n1 c1, .slice A2 n2 c2, .slice A3 n3 c3, .int .u64 ver]
theorem cells5 {w : World} {cs : Array Value} {e e2 : TypeId} {a b : Value} (i : Nat) (u : Value) (hu : cs[i]? = some u) : ((w.alloc (.cells cs e)).alloc (.cells #[a, b] e2)).cell? ⟨w.heap.size, i, none⟩ = some u ∧ ((w.alloc (.cells cs e)).alloc (.cells #[a, b] e2)).cell? ⟨w.heap.size + 1, 0, none⟩ = some a ∧ ((w.alloc (.cells cs e)).alloc (.cells #[a, b] e2)).cell? ⟨w.heap.size + 1, 1, none⟩ = some b := by
  have hB := (Below.refl (w.alloc (.cells cs e)).heap.size (w.alloc (.cells cs e))).alloc (Nat.le_refl _) (.cells #[a, b] e2)
  have h := (hB.block w.heap.size (by simp)).trans (heap_alloc_new w (.cells cs e))
  have h2 := heap_alloc_new (w.alloc (.cells cs e)) (.cells #[a, b] e2)
  rw [World.size_alloc] at h2
  refine ⟨?_, cell_row (cs := [a, b]) h2 0, cell_row (cs := [a, b]) h2 1⟩
  have := cell_row (cs := cs.toList) (by simpa using h) i
  rw [this]
  simpa using hu
set_option maxHeartbeats 1000000 in
theorem shardKnown_sl (A0 : Option Addr) (n0 c0 : Nat) (A1 : Option Addr) (n1 c1 : Nat) (A2 : Option Addr) (c2 : Nat) (A3 : Option Addr) (n3 c3 : Nat) (ver : Int) (l : List S48) (t : S30) (w : World) (hr : Kd.C k48 w A2 l.length l) (hc : l.length ≤ c2) :
    Calls Try.prog 52 #[.agg (shv A0 n0 c0 A1 n1 c1 A2 l.length c2 A3 n3 c3 ver), .agg #[.int .u64 t.f0, .int .u64 t.f1]] w fun e w' => e = .returned (.int .i64 (findI (isOpenT t) l)) ∧ Below w.heap.size w w' := by
  have HB0 := Aside0.mk (((Below.refl w.heap.size w).alloc (Nat.le_refl _) (.cells #[.slice A0 n0 c0, .slice A1 n1 c1, .slice A2 l.length c2, .slice A3 n3 c3, .int .u64 ver] 28)).alloc (by simp) (.cells #[.int .u64 t.f0, .int .u64 t.f1] 30))
  have hc5 := cells5 (w := w) (cs := #[.slice A0 n0 c0, .slice A1 n1 c1, .slice A2 l.length c2, .slice A3 n3 c3, .int .u64 ver]) (e := 28) (e2 := 30) (a := .int .u64 t.f0) (b := .int .u64 t.f1) 2 (.slice A2 l.length c2) rfl
  have HP := Aside0.mk (show Pred Try.prog 83 #[.pointer (some ⟨w.heap.size + 1, 0, none⟩)] (fun cs => .agg cs.toArray) k48 ((w.alloc (.cells #[.slice A0 n0 c0, .slice A1 n1 c1, .slice A2 l.length c2, .slice A3 n3 c3, .int .u64 ver] 28)).alloc (.cells #[.int .u64 t.f0, .int .u64 t.f1] 30)) l (isOpenT t) from fun W x cs hb _ hK => by
    obtain ⟨A, c, rfl, _, _⟩ := openCells hK
    exact shardKnown1 (w.heap.size + 1) t x.f0.f0 x.f0.f1 x.f1 x.f2 _ A x.f3.length c rfl W ((hb.cell (World.block_lt_of_cell? _ _ hc5.2.1)).trans hc5.2.1) ((hb.cell (World.block_lt_of_cell? _ _ hc5.2.2)).trans hc5.2.2))
  have HIX := Aside0.mk (IndexFuncOpen k48 rfl (isOpenT t) 83 #[.pointer (some ⟨w.heap.size + 1, 0, none⟩)] (enters_of Try.func83 (by kernel_rfl) rfl) (.slice A2 l.length c2) l _ ((show Sl k48 w (.slice A2 l.length c2) l from ⟨A2, c2, rfl, hc, hr⟩).below HB0.out) HP.out)
  unfold shv
  clear hr hc hc5 HP
  go_enter Try.func52, Try.ntmps52
  go_wp2_with (go_at_call 82; refine HIX.out.mono ?_; rintro e w2 ⟨rfl, hb2⟩)
  go_ret
  exact ⟨rfl, HB0.out.trans (hb2.mono HB0.out.size)⟩
theorem doneCells {W : World} {x : S68} {cs : List Value} (h : k68.K W x cs) : cs = [.int .u64 x.f0.f0, .int .u64 x.f0.f1, .bool x.f1] := by
  obtain rfl := flat68.openK _ _ _ h
  rfl
theorem doneRow {W : World} {l : List S68} {A : Option Addr} (h : Kd.C k68 W A l.length l) (j : Nat) (hj : j < l.length) : ∃ b o, A = some ⟨b, o, none⟩ ∧ W.cell? ⟨b, o + j * 3, none⟩ = some (.int .u64 (l[j]!).f0.f0) ∧ W.cell? ⟨b, o + j * 3 + 1, none⟩ = some (.int .u64 (l[j]!).f0.f1) ∧ W.cell? ⟨b, o + j * 3 + 2, none⟩ = some (.bool (l[j]!).f1) := by
  obtain ⟨b, o, rfl, hrow⟩ := C_row h (by decide) (by omega)
  obtain ⟨cs, hcs, hK, hrg⟩ := hrow j hj
  obtain rfl := doneCells hK
  exact ⟨b, o, rfl, hrg 0 _ rfl, hrg 1 _ rfl, hrg 2 _ rfl⟩
def overV (l : List S68) (t : S30) : S68 := if 0 ≤ findI (isDoneT t) l then l[(findI (isDoneT t) l).toNat]! else ⟨⟨0, 0⟩, false⟩
theorem findI_range0 {α : Type} (p : α → Bool) (l : List α) (h : 0 ≤ findI p l) : ∃ i : Nat, i < l.length ∧ findI p l = (i : Int) := by
  unfold findI at *
  by_cases c : l.findIdx p < l.length
  · rw [if_pos c]; exact ⟨_, c, rfl⟩
  · rw [if_neg c] at h; omega
theorem findI_neg0 {α : Type} (p : α → Bool) (l : List α) (h : ¬ 0 ≤ findI p l) : findI p l = -1 := by
  unfold findI at *
  by_cases c : l.findIdx p < l.length
  · rw [if_pos c] at h; omega
  · rw [if_neg c]
theorem results_ct_u {P : Program} {fn : Func} {p q : Tmp} {ty : TypeId} (h : fn.results = #[.cell p ty, .tmp q]) (tmps : Array Value) (w : World) (g : Nat) (t : TypeId) (cs : Array Value) (fr : Nat × Nat) (d : TypeDesc) (v : Value)
    (hp : tmps.getD p undef = .pointer (some ⟨g, 0, none⟩)) (hg : w.heap[g]? = some (.cells cs t fr))
    (hu : P.underlying ty = some d) (hd : (match d with | .struct _ | .array _ _ => true | _ => false) = true) (hi : (P.info? ty).map (·.size) = some cs.size) (hq : tmps.getD q undef = v) :
    (results fn tmps).run P w = .ok (.tuple #[.agg cs, v]) w := by
  have hp' : tmps[p]?.getD undef = .pointer (some ⟨g, 0, none⟩) := by simpa using hp
  have hq' : tmps[q]?.getD undef = v := by simpa using hq
  simp [results, h, hp', hq', asAddr, run_loadVar_row w g t ty cs fr d hg hu hd hi]
theorem alloc3 (w : World) (o1 o2 o3 : Obj) : (((w.alloc o1).alloc o2).alloc o3).heap[w.heap.size + 1 + 1]? = some o3 := by
  have := heap_alloc_new ((w.alloc o1).alloc o2) o3
  rwa [World.size_alloc, World.size_alloc] at this
set_option maxHeartbeats 2000000 in
set_option maxRecDepth 100000 in
theorem shardOver_sl (A0 : Option Addr) (n0 c0 : Nat) (A1 : Option Addr) (n1 c1 : Nat) (A2 : Option Addr) (n2 c2 : Nat) (A3 : Option Addr) (c3 : Nat) (ver : Int) (l : List S68) (t : S30) (w : World) (hr : Kd.C k68 w A3 l.length l) (hc : l.length ≤ c3) :
    Calls Try.prog 51 #[.agg (shv A0 n0 c0 A1 n1 c1 A2 n2 c2 A3 l.length c3 ver), .agg #[.int .u64 t.f0, .int .u64 t.f1]] w fun e w' => e = .returned (.tuple #[.agg #[.int .u64 (overV l t).f0.f0, .int .u64 (overV l t).f0.f1, .bool (overV l t).f1], .bool (decide (0 ≤ findI (isDoneT t) l))]) ∧ Below w.heap.size w w' := by
  have HB0 := Aside0.mk ((((Below.refl w.heap.size w).alloc (Nat.le_refl _) (.cells #[.slice A0 n0 c0, .slice A1 n1 c1, .slice A2 n2 c2, .slice A3 l.length c3, .int .u64 ver] 28)).alloc (by simp) (.cells #[.int .u64 t.f0, .int .u64 t.f1] 30)).alloc (by simp; omega) (.cells #[.int .u64 0, .int .u64 0, .bool false] 68))
  obtain ⟨h3, h4, h5⟩ := cells5 (w := w) (cs := #[.slice A0 n0 c0, .slice A1 n1 c1, .slice A2 n2 c2, .slice A3 l.length c3, .int .u64 ver]) (e := 28) (e2 := 30) (a := .int .u64 t.f0) (b := .int .u64 t.f1) 3 (.slice A3 l.length c3) rfl
  have hB3 := (Below.refl _ ((w.alloc (.cells #[.slice A0 n0 c0, .slice A1 n1 c1, .slice A2 n2 c2, .slice A3 l.length c3, .int .u64 ver] 28)).alloc (.cells #[.int .u64 t.f0, .int .u64 t.f1] 30))).alloc (Nat.le_refl _) (.cells #[.int .u64 0, .int .u64 0, .bool false] 68)
  have h3 := (hB3.cell (World.block_lt_of_cell? _ _ h3)).trans h3
  have h4 := (hB3.cell (World.block_lt_of_cell? _ _ h4)).trans h4
  have h5 := (hB3.cell (World.block_lt_of_cell? _ _ h5)).trans h5
  have hbx := alloc3 w (.cells #[.slice A0 n0 c0, .slice A1 n1 c1, .slice A2 n2 c2, .slice A3 l.length c3, .int .u64 ver] 28) (.cells #[.int .u64 t.f0, .int .u64 t.f1] 30) (.cells #[.int .u64 0, .int .u64 0, .bool false] 68)
  have HP := Aside0.mk (show Pred Try.prog 81 #[.pointer (some ⟨w.heap.size + 1, 0, none⟩)] (fun cs => .agg cs.toArray) k68 (((w.alloc (.cells #[.slice A0 n0 c0, .slice A1 n1 c1, .slice A2 n2 c2, .slice A3 l.length c3, .int .u64 ver] 28)).alloc (.cells #[.int .u64 t.f0, .int .u64 t.f1] 30)).alloc (.cells #[.int .u64 0, .int .u64 0, .bool false] 68)) l (isDoneT t) from fun W x cs hb _ hK => by
    obtain rfl := doneCells hK
    exact shardOver1 (w.heap.size + 1) t x W ((hb.cell (World.block_lt_of_cell? _ _ h4)).trans h4) ((hb.cell (World.block_lt_of_cell? _ _ h5)).trans h5))
  have HIX := Aside0.mk (IndexFuncDone k68 rfl (isDoneT t) 81 #[.pointer (some ⟨w.heap.size + 1, 0, none⟩)] (enters_of Try.func81 (by kernel_rfl) rfl) (.slice A3 l.length c3) l _ ((show Sl k68 w (.slice A3 l.length c3) l from ⟨A3, c3, rfl, hc, hr⟩).below HB0.out) HP.out)
  have H3 := Aside0.mk h3
  have HBX := Aside0.mk hbx
  have HRW := Aside0.mk (Kd.C_below hr HB0.out)
  have HOV : Aside0 (overV l t = if 0 ≤ findI (isDoneT t) l then l[(findI (isDoneT t) l).toNat]! else ⟨⟨0, 0⟩, false⟩) := ⟨rfl⟩
  have hm : l.length ≤ 9223372036854775807 := hr.2.1
  generalize overV l t = ov at *
  unfold shv
  clear hr hc h3 h4 h5 hbx HP hB3
  by_cases hf : 0 ≤ findI (isDoneT t) l
  · obtain ⟨ii, hii, hfi⟩ := findI_range0 _ _ hf
    have HOV2 : Aside0 (ov = l[ii]!) := ⟨by rw [HOV.out, if_pos hf, hfi]; rfl⟩
    rw [decide_eq_true hf]
    rw [hfi] at HIX
    clear hf hfi HOV
    obtain ⟨lb, lo, hA, hd0, hd1, hd2⟩ := doneRow HRW.out ii hii
    have HD := Aside0.mk (And.intro hd0 (And.intro hd1 hd2))
    rw [← HOV2.out] at HD
    have hiz : (0 : Int) ≤ (ii : Int) := by omega
    have hiz2 : (ii : Int) < (l.length : Int) := by omega
    subst hA
    clear hd0 hd1 hd2 HOV2
    obtain ⟨⟨oa, oi⟩, oc⟩ := ov
    dsimp only at HD ⊢
    go_enter Try.func51, Try.ntmps51
    go_wp2_with (go_at_call 80; refine HIX.out.mono ?_; rintro e w2 ⟨rfl, hb2⟩; have HB2 := Aside0.mk hb2; have hx3 := (hb2.cell (World.block_lt_of_cell? _ _ H3.out)).trans H3.out; have hx4 := (hb2.block _ (Array.getElem?_eq_some_iff.1 HBX.out).1).trans HBX.out; have HX4 := Aside0.mk hx4; have hy0 : w2.cell? ⟨w.heap.size + 1 + 1, 0, none⟩ = some (.int .u64 0) := cell_row (cs := [.int .u64 0, .int .u64 0, .bool false]) hx4 0; have hy1 : w2.cell? ⟨w.heap.size + 1 + 1, 1, none⟩ = some (.int .u64 0) := cell_row (cs := [.int .u64 0, .int .u64 0, .bool false]) hx4 1; have hy2 : w2.cell? ⟨w.heap.size + 1 + 1, 2, none⟩ = some (.bool false) := cell_row (cs := [.int .u64 0, .int .u64 0, .bool false]) hx4 2; have hy3 : w2.frozen? ⟨w.heap.size + 1 + 1, 0, none⟩ = false := frozen_row hx4 0; have hy4 : w2.frozen? ⟨w.heap.size + 1 + 1, 1, none⟩ = false := frozen_row hx4 1; have hy5 : w2.frozen? ⟨w.heap.size + 1 + 1, 2, none⟩ = false := frozen_row hx4 2; clear hx4; have hq0 := (hb2.cell (World.block_lt_of_cell? _ _ HD.out.1)).trans HD.out.1; have hq1 := (hb2.cell (World.block_lt_of_cell? _ _ HD.out.2.1)).trans HD.out.2.1; have hq2 := (hb2.cell (World.block_lt_of_cell? _ _ HD.out.2.2)).trans HD.out.2.2; clear hb2)
    refine bodyPost_ret (results_ct_u rfl _ _ (w.heap.size + 1 + 1) 68 #[.int .u64 oa, .int .u64 oi, .bool oc] (0, 0) _ (.bool true) rfl (blk_put (cs := #[.int .u64 oa, .int .u64 oi, .bool false]) (blk_put (cs := #[.int .u64 oa, .int .u64 0, .bool false]) (blk_put (cs := #[.int .u64 0, .int .u64 0, .bool false]) HX4.out 0 _ rfl) 1 _ rfl) 2 _ rfl) Try.underlying68 rfl (by kernel_rfl) rfl) rfl ?_
    exact ⟨rfl, (((HB0.out.trans (HB2.out.mono HB0.out.size)).setCell (p := ⟨w.heap.size + 1 + 1, 0, none⟩) (by show w.heap.size ≤ w.heap.size + 1 + 1; omega) _).setCell (p := ⟨w.heap.size + 1 + 1, 1, none⟩) (by show w.heap.size ≤ w.heap.size + 1 + 1; omega) _).setCell (p := ⟨w.heap.size + 1 + 1, 2, none⟩) (by show w.heap.size ≤ w.heap.size + 1 + 1; omega) _⟩
  · have hneg := findI_neg0 _ _ hf
    have HOV2 : Aside0 (ov = ⟨⟨0, 0⟩, false⟩) := ⟨by rw [HOV.out, if_neg hf]⟩
    rw [decide_eq_false hf, HOV2.out]
    rw [hneg] at HIX
    clear hf hneg HOV HOV2
    dsimp only
    go_enter Try.func51, Try.ntmps51
    go_wp2_with (go_at_call 80; refine HIX.out.mono ?_; rintro e w2 ⟨rfl, hb2⟩; have HB2 := Aside0.mk hb2; have hx3 := (hb2.cell (World.block_lt_of_cell? _ _ H3.out)).trans H3.out; have hx4 := (hb2.block _ (Array.getElem?_eq_some_iff.1 HBX.out).1).trans HBX.out; have HX4 := Aside0.mk hx4; have hy0 : w2.cell? ⟨w.heap.size + 1 + 1, 0, none⟩ = some (.int .u64 0) := cell_row (cs := [.int .u64 0, .int .u64 0, .bool false]) hx4 0; have hy1 : w2.cell? ⟨w.heap.size + 1 + 1, 1, none⟩ = some (.int .u64 0) := cell_row (cs := [.int .u64 0, .int .u64 0, .bool false]) hx4 1; have hy2 : w2.cell? ⟨w.heap.size + 1 + 1, 2, none⟩ = some (.bool false) := cell_row (cs := [.int .u64 0, .int .u64 0, .bool false]) hx4 2; have hy3 : w2.frozen? ⟨w.heap.size + 1 + 1, 0, none⟩ = false := frozen_row hx4 0; have hy4 : w2.frozen? ⟨w.heap.size + 1 + 1, 1, none⟩ = false := frozen_row hx4 1; have hy5 : w2.frozen? ⟨w.heap.size + 1 + 1, 2, none⟩ = false := frozen_row hx4 2; clear hx4; clear hb2)
    refine bodyPost_ret (results_ct_u rfl _ _ (w.heap.size + 1 + 1) 68 #[.int .u64 0, .int .u64 0, .bool false] (0, 0) _ (.bool false) rfl (blk_put (cs := #[.int .u64 0, .int .u64 0, .bool false]) (blk_put (cs := #[.int .u64 0, .int .u64 0, .bool false]) (blk_put (cs := #[.int .u64 0, .int .u64 0, .bool false]) HX4.out 0 _ rfl) 1 _ rfl) 2 _ rfl) Try.underlying68 rfl (by kernel_rfl) rfl) rfl ?_
    exact ⟨rfl, (((HB0.out.trans (HB2.out.mono HB0.out.size)).setCell (p := ⟨w.heap.size + 1 + 1, 0, none⟩) (by show w.heap.size ≤ w.heap.size + 1 + 1; omega) _).setCell (p := ⟨w.heap.size + 1 + 1, 1, none⟩) (by show w.heap.size ≤ w.heap.size + 1 + 1; omega) _).setCell (p := ⟨w.heap.size + 1 + 1, 2, none⟩) (by show w.heap.size ≤ w.heap.size + 1 + 1; omega) _⟩
end Go.Proofs.Ytmcgcdpiceikeaa.PAll
end
