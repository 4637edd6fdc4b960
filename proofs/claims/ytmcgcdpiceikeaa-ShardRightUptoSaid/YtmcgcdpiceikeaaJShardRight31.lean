/- Joined texts of the claim ShardRight (part 31): contracts of functions and plain laws. -/
import Derived.Test.YtmcgcdpiceikeaaJShardRight14
import Derived.Test.YtmcgcdpiceikeaaJShardRight26
import Derived.Test.YtmcgcdpiceikeaaJShardRight28
import Derived.Test.YtmcgcdpiceikeaaJShardRight29
import Derived.Test.YtmcgcdpiceikeaaJShardRight30
import Derived.BigRegion
import Derived.Lib.BufferOwn
import Derived.Lib.BufferWrite
import Derived.Test.YtmcgcdpiceikeaaJShardRight24
import Derived.Test.YtmcgcdpiceikeaaJShardRight25
section
/- Plain laws of rows: Right, Get, Same, Do as the document tells them. -/
namespace Go.Proofs.Ytmcgcdpiceikeaa.PAll
open Go.RowKit Go.Proofs.YtmcgcdpiceikeaaW.PrintWords Go.Proofs.YtmcgcdpiceikeaaW.PrintMore Go.Proofs.Ytmcgcdpiceikeaa
set_option linter.unusedVariables false
theorem rd_row (l : List S50) (j : Nat) (hj : j < l.length) : rd_T50 l (j : Int) = l[j]! := by
  simp [rd_T50, List.getD_eq_getElem?_getD, List.getElem?_eq_getElem hj, getElem!_pos l j hj]
theorem rd_put (l : List S54) (j : Nat) (hj : j < l.length) : rd_T54 l (j : Int) = l[j]! := by
  simp [rd_T54, List.getD_eq_getElem?_getD, List.getElem?_eq_getElem hj, getElem!_pos l j hj]
/-! Right -/
def allR (l : List S50) : Nat → Nat → Bool
  | 0, _ => true
  | d + 1, j => okR l j && allR l d (j + 1)
theorem allR_iff (l : List S50) : ∀ (d j : Nat), allR l d j = true ↔ ∀ i, j ≤ i → i < j + d → okR l i = true
  | 0, j => by simp [allR]; omega
  | d + 1, j => by
    rw [allR, Bool.and_eq_true, allR_iff l d (j + 1)]
    constructor
    · rintro ⟨h1, h2⟩ i hi1 hi2
      by_cases e : i = j
      · subst e; exact h1
      · exact h2 i (by omega) (by omega)
    · exact fun h => ⟨h j (Nat.le_refl _) (by omega), fun i h1 h2 => h i (by omega) (by omega)⟩
theorem rightR_from (l : List S50) : rightR l = (allR l l.length 0 && decide (l.length ≤ 32)) := by
  unfold rightR
  congr 1
  rw [Bool.eq_iff_iff, allR_iff, List.all_eq_true]
  exact ⟨fun h i _ hi => h i (List.mem_range.2 (by omega)), fun h i hi => h i (Nat.zero_le _) (by have := List.mem_range.1 hi; omega)⟩
def badRow (x : S50) : Bool := decide ((x.f0.size : Int) < 1) || decide ((x.f0.size : Int) > 16) || decide ((x.f1.size : Int) > 32) || decide (x.f2 > 4611686018427387903)
theorem okR_bad (l : List S50) (j : Nat) : okR l j = (!badRow (l[j]!) && (decide (j = 0) || Op.bytesLess (l[j - 1]!).f0.toList (l[j]!).f0.toList)) := by
  unfold okR badRow
  congr 1
  rw [Bool.eq_iff_iff]
  simp only [Bool.and_eq_true, decide_eq_true_eq, Bool.not_eq_true', Bool.or_eq_false_iff, decide_eq_false_iff_not]
  omega
theorem rRight_l0 (l : List S50) (hl : l.length ≤ 32) (hs : ∀ x ∈ l, x.f0.size ≤ 9223372036854775806) : ∀ (d j : Nat), d = l.length - j → j ≤ l.length → Ev (fun q => ferruleref11_Right.l0 q l (j : Int)) (allR l d j) := by
  intro d
  induction d with
  | zero =>
    intro j hd hj
    exact Ev.step (f := fun _ => some true) (fun k => by simp only [ferruleref11_Right.l0]; rw [if_neg (show ¬ (j : Int) < l.length by omega)]) (Ev.now true)
  | succ d ih =>
    intro j hd hj
    have hlt : j < l.length := by omega
    have hw := wrap_up j (by omega)
    refine Ev.step (f := fun k => ferruleref11_Right.j1 k l j (badRow (l[j]!)) (l[j]!).f0 (l[j]!).f1 (l[j]!).f2) (fun k => ?_) ?_
    · simp only [ferruleref11_Right.l0]
      rw [if_pos (show (j : Int) < l.length by omega), if_pos (show (0 : Int) ≤ j by omega), rd_row l j hlt]
      unfold badRow
      by_cases c1 : ((l[j]!).f0.size : Int) < 1
      · rw [if_pos c1, decide_eq_true c1]; rfl
      · rw [if_neg c1, decide_eq_false c1]
        by_cases c2 : ((l[j]!).f0.size : Int) > 16
        · rw [if_pos c2, decide_eq_true c2]; rfl
        · rw [if_neg c2, decide_eq_false c2]
          by_cases c3 : ((l[j]!).f1.size : Int) > 32
          · rw [if_pos c3, decide_eq_true c3]; rfl
          · rw [if_neg c3, decide_eq_false c3]; rfl
    · rw [allR, okR_bad]
      cases hb : badRow (l[j]!) with
      | true => exact Ev.step (f := fun _ => some false) (fun k => by simp only [ferruleref11_Right.j1]; rw [if_pos trivial]) (Ev.now false)
      | false =>
        rw [Bool.not_false, Bool.true_and]
        by_cases c3 : j = 0
        · rw [decide_eq_true c3, Bool.true_or, Bool.true_and]
          refine Ev.step (fun k => ?_) (ih (j + 1) (by omega) (by omega))
          simp only [ferruleref11_Right.j1]
          rw [if_neg (by decide), if_neg (show ¬ (j : Int) > 0 by omega), hw]
        · rw [decide_eq_false c3, Bool.false_or]
          have hj1 : j - 1 < l.length := by omega
          have hw2 := wrap_down j (by omega) (by omega)
          refine Ev.step (f := fun k => (ferruleref11_Less.f k (l[j - 1]!).f0 (l[j]!).f0).bind fun t => if t = true then ferruleref11_Right.l0 k l ((j + 1 : Nat) : Int) else some false) (fun k => ?_) (Ev.bind (Less_ev _ _ (hs _ (get_mem l _ hj1))) ?_)
          · simp only [ferruleref11_Right.j1]
            rw [if_neg (by decide), if_pos (show (j : Int) > 0 by omega), hw2, if_pos (show (0 : Int) ≤ ((j - 1 : Nat) : Int) by omega), if_pos (show ((j - 1 : Nat) : Int) < l.length by omega), rd_row l _ hj1, hw]
          · cases Op.bytesLess (l[j - 1]!).f0.toList (l[j]!).f0.toList with
            | true => exact Ev.congr (fun k => if_pos rfl) (by rw [Bool.true_and]; exact ih (j + 1) (by omega) (by omega))
            | false => exact Ev.congr (fun k => if_neg (by decide)) (Ev.now false)
theorem rRight_ev (l : List S50) (hs : ∀ x ∈ l, x.f0.size ≤ 9223372036854775806) : Ev (fun k => ferruleref11_Right.f k l) (rightR l) := by
  unfold ferruleref11_Right.f
  by_cases h : l.length ≤ 32
  · refine Ev.congr (fun k => if_neg (by omega)) ?_
    rw [rightR_from, decide_eq_true h, Bool.and_true]
    exact rRight_l0 l h hs l.length 0 (by omega) (by omega)
  · refine Ev.congr (fun k => if_pos (by omega)) ?_
    unfold rightR
    rw [decide_eq_false h, Bool.and_false]
    exact Ev.now false
/-! Get -/
def getV (l : List S50) (key : ByteArray) : ByteArray × ByteArray × Int × Bool := if findI (keyIs key) l < 0 then (⟨#[]⟩, ⟨#[]⟩, 0, false) else ((l[(findI (keyIs key) l).toNat]!).f0, (l[(findI (keyIs key) l).toNat]!).f1, (l[(findI (keyIs key) l).toNat]!).f2, true)
theorem Get_eq (l : List S50) (key : ByteArray) : rows_Get.f l key = some (getV l key) := by
  unfold rows_Get.f rows_at.f getV
  simp only [Option.bind_some]
  have e : (fun x : S50 => x.f0.toList == key.toList) = keyIs key := rfl
  rw [e]
  rcases findI_ways (keyIs key) l with h | ⟨i, hi, h⟩
  · rw [h]; rfl
  · rw [h, if_neg (by omega), if_pos (by omega), if_pos (by omega), if_neg (by omega), rd_row l i hi]; rfl
/-! Same -/
end Go.Proofs.Ytmcgcdpiceikeaa.PAll
end
section
/- shard.asks: where the locks are given. -/
namespace Go.Proofs.Ytmcgcdpiceikeaa.PAll
open Go.RowKit Go.Proofs.YtmcgcdpiceikeaaW.PrintWords Go.Proofs.YtmcgcdpiceikeaaW.PrintMore Go.Proofs.Ytmcgcdpiceikeaa
set_option linter.unusedVariables false
theorem put5_grown (w : World) (g : Nat) (v0 v1 v2 v3 v4 : Value) : w.grownBy (put5 w g v0 v1 v2 v3 v4) (some g) :=
  (((((World.grownBy.refl w (some g)).trans (Lib.grownBy_setCell _ g 0 v0)).trans (Lib.grownBy_setCell _ g 1 v1)).trans (Lib.grownBy_setCell _ g 2 v2)).trans (Lib.grownBy_setCell _ g 3 v3)).trans (Lib.grownBy_setCell _ g 4 v4)
theorem getCalls (A : Option Addr) (c : Nat) (l : List S50) (key g1 g2 : ByteArray) (g3 : Int) (g4 : Bool) (w : World) (hr : Kd.C k50 w A l.length l) (hc : l.length ≤ c) (hg : getV l key = (g1, g2, g3, g4)) :
    Calls Try.prog 58 #[.slice A l.length c, .string key] w fun e w' => e = .returned (.tuple #[.agg #[.string g1, .string g2, .int .u64 g3], .bool g4]) ∧ Below w.heap.size w w' := rows_Get.calls A c l key g1 g2 g3 g4 w hr hc (by rw [Get_eq, hg])
theorem Kd.C_own2 {base : Nat} {w : World} {A : Option Addr} {l : List S30} {n c : Nat} (h : Own 2 30 w base (.slice A n c) (l.map enc30)) : Kd.C k30 w A l.length l := by
  obtain ⟨A', c', e, _, h2⟩ := flat30.ofsl h.sl
  cases e
  exact h2
theorem own_tail {k e base n : Nat} {w10 wr w13 : World} {v : Value} {css : List (List Value)} (h : Own k e w10 base v css) (hg : w10.grownBy wr (some n)) (hb : Below wr.heap.size wr w13) (hn : n + 1 + 1 + 1 + 1 ≤ base) (o : Obj) (a0 a1 a2 a3 a4 b0 b1 b2 b3 b4 : Value) : Own k e (put5 (put5 (w13.alloc o) (n + 1 + 1) a0 a1 a2 a3 a4) (n + 1 + 1 + 1) b0 b1 b2 b3 b4).drew base v css := by
  have h1 := h.kept hg (fun b e e2 => by have := h.base b e; have := Option.some.inj e2; omega)
  have h2 := (h1.below hb).kept (World.grownBy_alloc w13 o none) (fun b e e2 => by cases e2)
  have h3 := h2.kept (put5_grown _ (n + 1 + 1) a0 a1 a2 a3 a4) (fun b e e2 => by have := h2.base b e; have := Option.some.inj e2; omega)
  have h4 := h3.kept (put5_grown _ (n + 1 + 1 + 1) b0 b1 b2 b3 b4) (fun b e e2 => by have := h3.base b e; have := Option.some.inj e2; omega)
  exact h4.below ((Below.refl _ _).drew)
theorem infoOpen : (Try.prog.info? 48).map (fun i => (i.zero, i.size, i.bytes)) = some (some (.agg #[.int .u64 0, .int .u64 0, .bool false, .bool false, .slice none 0 0]), 5, 48) := by kernel_rfl
theorem own_sl2 {k e base : Nat} {w : World} {v : Value} {css : List (List Value)} (h : Own k e w base v css) : ∃ A c, v = .slice A css.length c ∧ css.length ≤ c := by
  obtain ⟨A, c, h1, h2, _⟩ := h.sl
  exact ⟨A, c, h1, h2⟩
end Go.Proofs.Ytmcgcdpiceikeaa.PAll
end
section
/- shard.asks: where the locks are given, for one that is new. -/
namespace Go.Proofs.Ytmcgcdpiceikeaa.PAll
open Go.RowKit Go.Proofs.YtmcgcdpiceikeaaW.PrintWords Go.Proofs.YtmcgcdpiceikeaaW.PrintMore Go.Proofs.Ytmcgcdpiceikeaa
set_option linter.unusedVariables false
set_option maxRecDepth 100000 in
set_option maxHeartbeats 8000000 in
theorem asks_ok_none_f (kind : Int) (t : S30) (key : ByteArray) (A4 : Option Addr) (n4 c4 : Nat) (cm : Bool) (A5 : Option Addr) (n5 c5 : Nat) (A0 : Option Addr) (c0 : Nat) (A1 : Option Addr) (c1 : Nat) (A2 : Option Addr) (c2 : Nat) (A3 : Option Addr) (c3 : Nat) (rs : List S50) (hs : List S75) (os : List S48) (ds : List S68) (ver : Int) (w : World) (hr0 : Kd.C k50 w A0 rs.length rs) (hc0 : rs.length ≤ c0) (hr1 : Kd.C k75 w A1 hs.length hs) (hc1 : hs.length ≤ c1) (hr2 : Kd.C k48 w A2 os.length os) (hc2 : os.length ≤ c2) (hr3 : Kd.C k68 w A3 ds.length ds) (hc3 : ds.length ≤ c3) (hd : ¬ 0 ≤ findI (isDoneT t) ds) (hk1 : 1 ≤ key.size) (hk2 : key.size ≤ 16) (hfi : findI (isOpenT t) os = -1) (hnf : ¬ 64 ≤ os.length + ds.length) (hlim : os.length + ds.length ≤ 2000000000000) (hlh : hs.length * 40 ≤ 140737488355288) (hok : ∀ x ∈ hs, okTx x.f1) (hoko : ∀ x ∈ os, okTx x.f0) (rh : List S75) (rw_ : List S30) (her : askV hs t key (kind == 2) (firmV os) = (rh, rw_, 0)) (g1 g2 : ByteArray) (g3 : Int) (hg : getV rs key = (g1, g2, g3, false)) :
    Calls Try.prog 21 #[.agg (shv A0 rs.length c0 A1 hs.length c1 A2 os.length c2 A3 ds.length c3 ver), .agg #[.int .i64 kind, .int .u64 t.f0, .int .u64 t.f1, .string key, .slice A4 n4 c4, .bool cm, .slice A5 n5 c5]] w (DoPost w (⟨rs, rh, (os.map (woundV rw_) ++ [⟨t, false, false, []⟩]), ds, ver⟩, ⟨0, g2, ver, false, false⟩)) := by
  obtain ⟨bS, bO, bZ, bA⟩ := alloc4 w (.cells #[.slice A0 rs.length c0, .slice A1 hs.length c1, .slice A2 os.length c2, .slice A3 ds.length c3, .int .u64 ver] 28) (.cells #[.int .i64 kind, .int .u64 t.f0, .int .u64 t.f1, .string key, .slice A4 n4 c4, .bool cm, .slice A5 n5 c5] 34) (.cells #[.slice none 0 0, .slice none 0 0, .slice none 0 0, .slice none 0 0, .int .u64 0] 28) (.cells #[.int .i64 0, .string ⟨#[]⟩, .int .u64 0, .bool false, .bool false] 38)
  have hb4 : Below w.heap.size w ((((w.alloc (.cells #[.slice A0 rs.length c0, .slice A1 hs.length c1, .slice A2 os.length c2, .slice A3 ds.length c3, .int .u64 ver] 28)).alloc (.cells #[.int .i64 kind, .int .u64 t.f0, .int .u64 t.f1, .string key, .slice A4 n4 c4, .bool cm, .slice A5 n5 c5] 34)).alloc (.cells #[.slice none 0 0, .slice none 0 0, .slice none 0 0, .slice none 0 0, .int .u64 0] 28)).alloc (.cells #[.int .i64 0, .string ⟨#[]⟩, .int .u64 0, .bool false, .bool false] 38)) := ((((Below.refl w.heap.size w).alloc (Nat.le_refl _) _).alloc (by simp) _).alloc (by simp; omega) _).alloc (by simp; omega) _
  have HW4 : Aside0 (((((w.alloc (.cells #[.slice A0 rs.length c0, .slice A1 hs.length c1, .slice A2 os.length c2, .slice A3 ds.length c3, .int .u64 ver] 28)).alloc (.cells #[.int .i64 kind, .int .u64 t.f0, .int .u64 t.f1, .string key, .slice A4 n4 c4, .bool cm, .slice A5 n5 c5] 34)).alloc (.cells #[.slice none 0 0, .slice none 0 0, .slice none 0 0, .slice none 0 0, .int .u64 0] 28)).alloc (.cells #[.int .i64 0, .string ⟨#[]⟩, .int .u64 0, .bool false, .bool false] 38)).heap.size = w.heap.size + 1 + 1 + 1 + 1) := ⟨by simp⟩
  have BS := Aside0.mk bS
  have BO := Aside0.mk bO
  have BZ := Aside0.mk bZ
  have BA := Aside0.mk bA
  have HB4 := Aside0.mk hb4
  have HOV := Aside0.mk (fun (W : World) (h : Below w.heap.size w W) => shardOver_sl A0 rs.length c0 A1 hs.length c1 A2 os.length c2 A3 c3 ver ds t W (Kd.C_below hr3 h) hc3)
  have HKN := Aside0.mk (fun (W : World) (h : Below w.heap.size w W) => shardKnown_sl A0 rs.length c0 A1 hs.length c1 A2 c2 A3 ds.length c3 ver os t W (Kd.C_below hr2 h) hc2)
  have HR0 := Aside0.mk hr0
  have HR1 := Aside0.mk hr1
  have HR2 := Aside0.mk hr2
  have HR3 := Aside0.mk hr3
  have HC0 := Aside0.mk hc0
  have HC1 := Aside0.mk hc1
  have HC2 := Aside0.mk hc2
  have HC3 := Aside0.mk hc3
  clear hr0 hc0 hr1 hc1 hr2 hc2 hr3 hc3 bS bO bZ bA hb4
  rw [decide_eq_false hd] at HOV
  clear hd
  generalize overV ds t = dv at *
  obtain ⟨⟨dA, dI⟩, dC⟩ := dv
  have HNO := Aside0.mk (fun (W : World) (e0 : Int) => shardNo2 A0 rs.length c0 A1 hs.length c1 A2 os.length c2 A3 ds.length c3 ver e0 W)
  have hkz : ¬ (key.size : Int) < 1 := by omega
  have hkz2 : ¬ (16 : Int) < (key.size : Int) := by omega
  clear hk1 hk2
  have HFI := Aside0.mk (fun (W : World) (h : Below w.heap.size w W) => shardFirm_calls A0 c0 A1 c1 A2 c2 A3 c3 rs hs os ds ver W (Kd.C_below HR0.out h) HC0.out (Kd.C_below HR1.out h) HC1.out (Kd.C_below HR2.out h) HC2.out (Kd.C_below HR3.out h) HC3.out (by omega))
  have HAK := Aside0.mk (fun (W : World) (FA : Option Addr) (fc : Nat) (h : Below w.heap.size w W) (h1 : (firmV os).length ≤ fc) (h2 : Kd.C k30 W FA (firmV os).length (firmV os)) => lockAsk_calls A1 c1 hs t key (kind == 2) FA fc (firmV os) W (Kd.C_below HR1.out h) HC1.out hlh h2 h1 (by have := firmV_len os; omega) hok (fun x hx => by unfold firmV at hx; obtain ⟨y, hy, rfl⟩ := List.mem_map.1 hx; exact hoko y ((List.mem_filter.1 hy).1)))
  have HGET := Aside0.mk (fun (W : World) (h : Below w.heap.size w W) => getCalls A0 c0 rs key g1 g2 g3 false W (Kd.C_below HR0.out h) HC0.out hg)
  have HLIM := Aside0.mk hlim
  rw [her] at HAK
  have HFU := Aside0.mk (fun (W : World) (h : Below w.heap.size w W) => shardFull_calls A0 c0 A1 c1 A2 c2 A3 c3 rs hs os ds ver W (Kd.C_below HR0.out h) HC0.out (Kd.C_below HR1.out h) HC1.out (Kd.C_below HR2.out h) HC2.out (Kd.C_below HR3.out h) HC3.out (by omega))
  rw [decide_eq_false hnf] at HFU
  rw [hfi] at HKN
  clear hnf hfi
  clear hlim hlh hok hoko her hg

  obtain ⟨ta, ti⟩ := t
  unfold shv at *
  dsimp only at *
  go_enter Try.func21, Try.ntmps21
  go_wp2_with (first
    | (go_at_call 51; refine (HOV.out _ HB4.out).mono ?_; rintro e w5 ⟨rfl, hb5⟩; have HW5 := Aside0.mk hb5.size; have SB5 := Aside0.mk (stay hb5 BS.out (by rw [HW4.out]; omega)); have OB5 := Aside0.mk (stay hb5 BO.out (by rw [HW4.out]; omega)); have ZB5 := Aside0.mk (stay hb5 BZ.out (by rw [HW4.out]; omega)); have AB5 := Aside0.mk (stay hb5 BA.out (by rw [HW4.out]; omega)); obtain ⟨hs0, hs1, hs2, hs3, hs4⟩ := cells_5 (stayA SB5.out (.cells #[.int .u64 dA, .int .u64 dI, .bool dC] 68)); obtain ⟨ho0, ho1, ho2, ho3, ho4, ho5, ho6⟩ := cells_7 (stayA OB5.out (.cells #[.int .u64 dA, .int .u64 dI, .bool dC] 68)); have HB5 := Aside0.mk (HB4.out.trans (hb5.mono HB4.out.size)); clear hb5)
    | (go_at_call 52; refine (HKN.out _ (HB5.out.alloc HB5.out.size (.cells #[.int .u64 dA, .int .u64 dI, .bool dC] 68))).mono ?_; rintro e w6 ⟨rfl, hb6⟩; clear hs0 hs1 hs2 hs3 hs4 ho0 ho1 ho2 ho3 ho4 ho5 ho6; have SB6 := Aside0.mk (stay hb6 (stayA SB5.out (.cells #[.int .u64 dA, .int .u64 dI, .bool dC] 68)) (by have := HW4.out; have := HW5.out; simp; omega)); have OB6 := Aside0.mk (stay hb6 (stayA OB5.out (.cells #[.int .u64 dA, .int .u64 dI, .bool dC] 68)) (by have := HW4.out; have := HW5.out; simp; omega)); have ZB6 := Aside0.mk (stay hb6 (stayA ZB5.out (.cells #[.int .u64 dA, .int .u64 dI, .bool dC] 68)) (by have := HW4.out; have := HW5.out; simp; omega)); have AB6 := Aside0.mk (stay hb6 (stayA AB5.out (.cells #[.int .u64 dA, .int .u64 dI, .bool dC] 68)) (by have := HW4.out; have := HW5.out; simp; omega)); have DB6 := Aside0.mk (stay hb6 (heap_alloc_new w5 (.cells #[.int .u64 dA, .int .u64 dI, .bool dC] 68)) (by simp)); obtain ⟨hs0, hs1, hs2, hs3, hs4⟩ := cells_5 SB6.out; obtain ⟨ho0, ho1, ho2, ho3, ho4, ho5, ho6⟩ := cells_7 OB6.out; obtain ⟨hd0, hd1, hd2⟩ := cells_3 DB6.out; have HB6 := Aside0.mk ((HB5.out.alloc HB5.out.size (.cells #[.int .u64 dA, .int .u64 dI, .bool dC] 68)).trans (hb6.mono (HB5.out.alloc HB5.out.size (.cells #[.int .u64 dA, .int .u64 dI, .bool dC] 68)).size)); have HW6 : Aside0 (w.heap.size + 1 + 1 + 1 + 1 ≤ w6.heap.size) := ⟨by have := HW4.out; have := HW5.out; have := hb6.size; simp at this; omega⟩; clear hb6)
    | (go_at_call 53; refine (HFU.out _ HB6.out).mono ?_; rintro e w8 ⟨rfl, hb8⟩; clear hs0 hs1 hs2 hs3 hs4 ho0 ho1 ho2 ho3 ho4 ho5 ho6; have SB8 := Aside0.mk (stay hb8 SB6.out (by have := HW6.out; omega)); have OB8 := Aside0.mk (stay hb8 OB6.out (by have := HW6.out; omega)); have ZB8 := Aside0.mk (stay hb8 ZB6.out (by have := HW6.out; omega)); have AB8 := Aside0.mk (stay hb8 AB6.out (by have := HW6.out; omega)); have HW8 : Aside0 (w.heap.size + 1 + 1 + 1 + 1 ≤ w8.heap.size) := ⟨Nat.le_trans HW6.out hb8.size⟩; obtain ⟨hs0, hs1, hs2, hs3, hs4⟩ := cells_5 SB8.out; obtain ⟨ho0, ho1, ho2, ho3, ho4, ho5, ho6⟩ := cells_7 OB8.out; have HB8 := Aside0.mk (HB6.out.trans (hb8.mono HB6.out.size)); clear hb8))
  clear hd0 hd1 hd2
  have hS0 := keepS (w0 := w8) ⟨hs0, hs1, hs2, hs3, hs4, ho0, ho1, ho2, ho3, ho4, ho5, ho6, Below.refl _ _⟩ ((Below.refl _ _).drew)
  clear hs0 hs1 hs2 hs3 hs4 ho0 ho1 ho2 ho3 ho4 ho5 ho6
  go_region_held3 (fun w' => w'.cell? ⟨w.heap.size, 0, none⟩ = some (.slice A0 rs.length c0) ∧ w'.cell? ⟨w.heap.size, 1, none⟩ = some (.slice A1 hs.length c1) ∧ w'.cell? ⟨w.heap.size, 2, none⟩ = some (.slice A2 os.length c2) ∧ w'.cell? ⟨w.heap.size, 3, none⟩ = some (.slice A3 ds.length c3) ∧ w'.cell? ⟨w.heap.size, 4, none⟩ = some (.int .u64 ver) ∧ w'.cell? ⟨w.heap.size + 1, 0, none⟩ = some (.int .i64 kind) ∧ w'.cell? ⟨w.heap.size + 1, 1, none⟩ = some (.int .u64 ta) ∧ w'.cell? ⟨w.heap.size + 1, 2, none⟩ = some (.int .u64 ti) ∧ w'.cell? ⟨w.heap.size + 1, 3, none⟩ = some (.string key) ∧ w'.cell? ⟨w.heap.size + 1, 4, none⟩ = some (.slice A4 n4 c4) ∧ w'.cell? ⟨w.heap.size + 1, 5, none⟩ = some (.bool cm) ∧ w'.cell? ⟨w.heap.size + 1, 6, none⟩ = some (.slice A5 n5 c5) ∧ Below w8.heap.size w8 w') (first | exact hS0 | exact keepS (by assumption) (by assumption)) ((first
    | (go_at_call 55; with_reducible refine (HFI.out _ HB8.out.drew).mono ?_; rintro e w9 ⟨⟨FA, fc, rfl, hf1, hf2⟩, hb9⟩; have HW9 : Aside0 (w.heap.size + 1 + 1 + 1 + 1 ≤ w9.heap.size) := ⟨by have := HW8.out; have h9 := hb9.size; rw [drewHeap] at h9; omega⟩; have HF1 := Aside0.mk hf1; have HF2 := Aside0.mk hf2; have HB9 := Aside0.mk (HB8.out.drew.trans (hb9.mono HB8.out.drew.size)); clear hf1 hf2)
    | (go_at_call 54; with_reducible refine (HAK.out _ _ _ HB9.out HF1.out HF2.out).mono ?_; intro e w10 hpost; obtain ⟨v1, v2, rfl, hw1, hw2, hb10⟩ := askOut hpost; have HO1 := Aside0.mk hw1; have HO2 := Aside0.mk hw2; clear hw1 hw2)))
  obtain ⟨hs0, hs1, hs2, hs3, hs4, ho0, ho1, ho2, ho3, ho4, ho5, ho6, hb10⟩ := (show w10.cell? ⟨w.heap.size, 0, none⟩ = some (.slice A0 rs.length c0) ∧ w10.cell? ⟨w.heap.size, 1, none⟩ = some (.slice A1 hs.length c1) ∧ w10.cell? ⟨w.heap.size, 2, none⟩ = some (.slice A2 os.length c2) ∧ w10.cell? ⟨w.heap.size, 3, none⟩ = some (.slice A3 ds.length c3) ∧ w10.cell? ⟨w.heap.size, 4, none⟩ = some (.int .u64 ver) ∧ w10.cell? ⟨w.heap.size + 1, 0, none⟩ = some (.int .i64 kind) ∧ w10.cell? ⟨w.heap.size + 1, 1, none⟩ = some (.int .u64 ta) ∧ w10.cell? ⟨w.heap.size + 1, 2, none⟩ = some (.int .u64 ti) ∧ w10.cell? ⟨w.heap.size + 1, 3, none⟩ = some (.string key) ∧ w10.cell? ⟨w.heap.size + 1, 4, none⟩ = some (.slice A4 n4 c4) ∧ w10.cell? ⟨w.heap.size + 1, 5, none⟩ = some (.bool cm) ∧ w10.cell? ⟨w.heap.size + 1, 6, none⟩ = some (.slice A5 n5 c5) ∧ Below w8.heap.size w8 w10 from by assumption)
  have HW10 : Aside0 (w.heap.size + 1 + 1 + 1 + 1 ≤ w10.heap.size) := ⟨Nat.le_trans HW8.out hb10.size⟩
  have ZB10 := Aside0.mk (stay hb10 ZB8.out (by have := HW8.out; omega))
  have AB10 := Aside0.mk (stay hb10 AB8.out (by have := HW8.out; omega))
  have OB10 := Aside0.mk (stay hb10 OB8.out (by have := HW8.out; omega))
  have SB10 := Aside0.mk (stay hb10 SB8.out (by have := HW8.out; omega))
  have HB10 := Aside0.mk (HB8.out.trans (hb10.mono HB8.out.size))
  clear hb10
  obtain ⟨Ah, ch, hv1, hlh1⟩ := own_sl2 HO1.out
  rw [List.length_map] at hv1
  subst hv1
  obtain ⟨Aw, cw, hv2, hlw2⟩ := own_sl2 HO2.out
  rw [List.length_map] at hv2
  subst hv2
  obtain ⟨css, HRW0, hraw⟩ := opens_raw (w := w) ⟨_, _, rfl, HC2.out, HR2.out⟩
  have HRW := Aside0.mk HRW0
  have HCSS := Aside0.mk HRW0.1
  have HCL := Aside0.mk (CloneOpen (.slice A2 os.length c2) css w10 (hraw.below HB10.out) (by rw [HRW0.1]; have := HLIM.out; omega))
  have HLW := Aside0.mk hlw2
  have HRWL := Aside0.mk (Kd.C_own2 HO2.out).2.1
  have HLH := Aside0.mk hlh1
  clear hraw HRW0 hlw2 hlh1
  go_wp2_with (go_at_call 56; refine HCL.out.mono ?_; rintro e w11 ⟨v3, rfl, ho11, hb11⟩; clear hs0 hs1 hs2 hs3 hs4 ho0 ho1 ho2 ho3 ho4 ho5 ho6; have SB11 := Aside0.mk (stay hb11 SB10.out (by have := HW10.out; omega)); obtain ⟨hs0, hs1, hs2, hs3, hs4⟩ := cells_5 SB11.out; obtain ⟨hz0, hz1, hz2, hz3, hz4⟩ := froz_5 SB11.out; obtain ⟨Ac, cc, hv3, hcc⟩ := own_sl2 ho11; rw [HCSS.out] at hv3; subst hv3; have HO3 := Aside0.mk ho11; have HB11 := Aside0.mk hb11; clear ho11 hb11 hcc)
  clear hs0 hs1 hs2 hs3 hs4 hz0 hz1 hz2 hz3 hz4
  have hsu : os.length ≤ 9223372036854775807 := HR2.out.2.1
  go_loopg [120] os.length (fun gg s120 wr => ∃ (jj : Nat) (css' : List (List Value)), jj ≤ os.length ∧ os.length - jj ≤ gg ∧ s120 = .int .i64 jj ∧ Aside0 (w10.grownBy wr (some w.heap.size)) ∧ Aside0 (Below w.heap.size w wr) ∧ Aside0 (wr.heap[w.heap.size]? = some (.cells #[.slice A0 rs.length c0, .slice Ah rh.length ch, .slice Ac os.length cc, .slice A3 ds.length c3, .int .u64 ver] 28 (0, 0))) ∧ Aside0 (Own 5 48 wr w10.heap.size (.slice Ac os.length cc) css') ∧ Aside0 (OpenRow w (markTo rw_ os jj) css'))
  case atStart =>
    exact ⟨0, css, Nat.zero_le _, by omega, rfl, ⟨((Lib.grownBy_below (World.grownBy.refl _ _) HB11.out).trans (Lib.grownBy_setCell _ _ 1 _)).trans (Lib.grownBy_setCell _ _ 2 _)⟩, ⟨((HB10.out.trans (HB11.out.mono HB10.out.size)).setCell (p := ⟨w.heap.size, 1, none⟩) (Nat.le_refl _) _).setCell (p := ⟨w.heap.size, 2, none⟩) (Nat.le_refl _) _⟩, ⟨blk_put (blk_put SB11.out 1 _ rfl) 2 _ rfl⟩, ⟨(HO3.out.kept (Lib.grownBy_setCell _ _ 1 _) (fun k e e2 => by have := HO3.out.base k e; have := HW10.out; have := Option.some.inj e2; omega)).kept (Lib.grownBy_setCell _ _ 2 _) (fun k e e2 => by have := HO3.out.base k e; have := HW10.out; have := Option.some.inj e2; omega)⟩, ⟨by rw [markTo_zero]; exact HRW.out⟩⟩
  case round =>
    obtain ⟨jj, css', hjj, hgk, rfl, HG, HBr, HSr, HOr, HRr⟩ := hrel
    have hs2 : wr.cell? ⟨w.heap.size, 2, none⟩ = some (.slice Ac os.length cc) := (cells_5 HSr.out).2.2.1
    have HLEN := Aside0.mk (show css'.length = os.length by rw [HRr.out.1, markTo_len])
    by_cases hlt : jj < os.length
    · have hltz : (jj : Int) < (os.length : Int) := by omega
      obtain ⟨g, hAc⟩ : ∃ g, Ac = some ⟨g, 0, none⟩ := by
        rcases HOr.out.cases with ⟨_, h0⟩ | ⟨g, cap, cur, e, _⟩
        · have := HLEN.out; rw [h0] at this; simp at this; omega
        · exact ⟨g, (Value.slice.inj e).1⟩
      subst hAc
      have HGB := Aside0.mk (HOr.out.base g rfl)
      have HGL := Aside0.mk (HOr.out.lt g rfl)
      obtain ⟨pB, pc, hpe, hpl, hpr⟩ := HRr.out.cells jj (by rw [markTo_len]; exact hlt)
      rw [markTo_at rw_ os jj hlt] at hpe hpl hpr
      have HPE := Aside0.mk hpe
      have HPL := Aside0.mk hpl
      have HPR := Aside0.mk hpr
      have hx0 : wr.cell? ⟨g, jj * 5, none⟩ = some (.int .u64 (os[jj]!).f0.f0) := by have h := (HOr.out.get jj 0 (by rw [HLEN.out]; exact hlt) (by decide)).1; rw [hpe] at h; exact h
      have hx1 : wr.cell? ⟨g, jj * 5 + 1, none⟩ = some (.int .u64 (os[jj]!).f0.f1) := by have h := (HOr.out.get jj 1 (by rw [HLEN.out]; exact hlt) (by decide)).1; rw [hpe] at h; exact h
      have hx3 : wr.cell? ⟨g, jj * 5 + 3, none⟩ = some (.bool (os[jj]!).f2) := by have h := (HOr.out.get jj 3 (by rw [HLEN.out]; exact hlt) (by decide)).1; rw [hpe] at h; exact h
      have hy3 := (HOr.out.get jj 3 (by rw [HLEN.out]; exact hlt) (by decide)).2.1
      have HX3 := Aside0.mk hx3
      have HY3 := Aside0.mk hy3
      have HS2 := Aside0.mk hs2
      have HCO := Aside0.mk (txContains_calls Aw cw rw_ (os[jj]!).f0.f0 (os[jj]!).f0.f1 wr (Kd.C_own2 (HO2.out.kept HG.out (fun k e e2 => by have := HO2.out.base k e; have := HW9.out; have := Option.some.inj e2; omega))) (by have := HLW.out; rwa [List.length_map] at this) (by have := HRWL.out; omega))
      have HSTEP := Aside0.mk (markTo_step rw_ os jj hlt)
      have HSKIP := Aside0.mk (markTo_skip rw_ os jj hlt)
      clear hpe hpl hpr hx3 hy3
      generalize os[jj]! = x at *
      obtain ⟨⟨xa, xi⟩, xf, xw, xp⟩ := x
      dsimp only at *
      cases hh : hasTx rw_ ⟨xa, xi⟩ with
      | true =>
        have HH := Aside0.mk hh
        rw [hh] at HCO
        clear hh
        go_wp2_with (go_at_call 57; refine HCO.out.mono ?_; rintro e w12 ⟨rfl, hb12⟩; have hs2' := (hb12.cell (World.block_lt_of_cell? _ _ HS2.out)).trans HS2.out; have hx3 := (hb12.cell (World.block_lt_of_cell? _ _ HX3.out)).trans HX3.out; have hy3 : w12.frozen? ⟨g, jj * 5 + 3, none⟩ = false := (hb12.frozen (p := ⟨g, jj * 5 + 3, none⟩) (World.block_lt_of_cell? _ _ HX3.out)).trans HY3.out; have HB12 := Aside0.mk hb12; clear hs2 hx0 hx1 hb12)
        go_roundg (os.length - (jj + 1))
        case measure => omega
        case rel =>
          have hst := (HOr.out.below HB12.out).store jj 3 (by rw [HLEN.out]; exact hlt) (by decide) (.bool true) rfl
          exact ⟨jj + 1, _, by omega, by omega, by go_num, ⟨(Lib.grownBy_below HG.out HB12.out).andThen hst.2 (fun k e => .inl (by cases e; exact HGB.out))⟩, ⟨(HBr.out.trans (HB12.out.mono HBr.out.size)).setCell (p := ⟨g, jj * 5 + 3, none⟩) (by have := HGB.out; have := HW10.out; show w.heap.size ≤ g; omega) _⟩, ⟨by rw [RowKit.Below.heap_setCell _ _ _ _ (show w.heap.size ≠ g by have := HGB.out; have := HW10.out; omega)]; exact stay HB12.out HSr.out (by have := HGL.out; have := HGB.out; have := HW10.out; omega)⟩, ⟨hst.1⟩, ⟨by rw [HSTEP.out, HPE.out]; unfold woundV; rw [if_pos HH.out]; exact HRr.out.put jj (openK_mk (x := ⟨⟨xa, xi⟩, xf, true, xp⟩) HPL.out HPR.out)⟩⟩
      | false =>
        have HH := Aside0.mk hh
        rw [hh] at HCO
        clear hh
        go_wp2_with (go_at_call 57; refine HCO.out.mono ?_; rintro e w12 ⟨rfl, hb12⟩; have HB12 := Aside0.mk hb12; clear hs2 hx0 hx1 hb12)
        go_roundg (os.length - (jj + 1))
        case measure => omega
        case rel => exact ⟨jj + 1, css', by omega, by omega, by go_num, ⟨Lib.grownBy_below HG.out HB12.out⟩, ⟨HBr.out.trans (HB12.out.mono HBr.out.size)⟩, ⟨stay HB12.out HSr.out (by have := HGL.out; have := HGB.out; have := HW10.out; omega)⟩, ⟨HOr.out.below HB12.out⟩, ⟨by rw [HSKIP.out HH.out]; exact HRr.out⟩⟩
    · have hltz : ¬ (jj : Int) < (os.length : Int) := by omega
      obtain rfl : jj = os.length := by omega
      rw [markTo_all] at HRr
      have HCS3 : Aside0 (css'.length = os.length) := ⟨by have := HRr.out.1; rwa [List.length_map] at this⟩
      clear hs2 hlt hjj hgk hsu
      have OBr := Aside0.mk ((HG.out.block (w.heap.size + 1) (by have := HW10.out; omega) (fun e => by have := Option.some.inj e; omega)).trans OB10.out)
      have ZBr := Aside0.mk ((HG.out.block (w.heap.size + 1 + 1) (by have := HW10.out; omega) (fun e => by have := Option.some.inj e; omega)).trans ZB10.out)
      have ABr := Aside0.mk ((HG.out.block (w.heap.size + 1 + 1 + 1) (by have := HW10.out; omega) (fun e => by have := Option.some.inj e; omega)).trans AB10.out)
      have HWr : Aside0 (w.heap.size + 1 + 1 + 1 + 1 ≤ wr.heap.size) := ⟨Nat.le_trans HW10.out HG.out.size⟩
      obtain ⟨hs0, hs1, hs2, hs3, hs4⟩ := cells_5 HSr.out
      obtain ⟨ho0, ho1, ho2, ho3, ho4, ho5, ho6⟩ := cells_7 OBr.out
      go_wp2_with (first
        | (at_builtin; refine own_push rfl (.tmp 140) (.tmp 144) rfl Try.underlying24 infoOpen rfl (by decide) (by decide) rfl rfl (c := [.int .u64 ta, .int .u64 ti, .bool false, .bool false, .slice none 0 0]) ⟨rfl, by simp [Value.oneCell']⟩ HOr.out (by have := HG.out.size; omega) (by have := HCS3.out; have := HLIM.out; omega) ?_; intro v14 w14 ho14 hg14; obtain ⟨Ae, ce, hv14, _⟩ := own_sl2 ho14; rw [List.length_append, HCS3.out] at hv14; subst hv14; have HG14 : Aside0 (w10.grownBy w14 (some w.heap.size)) := ⟨HG.out.andThen hg14 (fun k e => .inl (HOr.out.base k e))⟩; have HB14 : Aside0 (Below w.heap.size w w14) := ⟨HBr.out.grown hg14 HBr.out.size (fun k e => by have := HOr.out.base k e; have := HW10.out; omega)⟩; have SB14 := Aside0.mk ((hg14.block w.heap.size (by have := HWr.out; omega) (fun e => by have := HOr.out.base _ e.symm; have := HW10.out; omega)).trans HSr.out); have OB14 := Aside0.mk ((HG14.out.block (w.heap.size + 1) (by have := HW10.out; omega) (fun e => by have := Option.some.inj e; omega)).trans OB10.out); clear hs0 hs1 hs2 hs3 hs4 ho0 ho1 ho2 ho3 ho4 ho5 ho6; obtain ⟨hs0, hs1, hs2, hs3, hs4⟩ := cells_5 SB14.out; obtain ⟨hz0, hz1, hz2, hz3, hz4⟩ := froz_5 SB14.out; obtain ⟨ho0, ho1, ho2, ho3, ho4, ho5, ho6⟩ := cells_7 OB14.out; have HS15 := Aside0.mk (blk_put (cs := #[.slice A0 rs.length c0, .slice Ah rh.length ch, .slice Ac os.length cc, .slice A3 ds.length c3, .int .u64 ver]) SB14.out 2 (.slice Ae (os.length + [[Value.int .u64 ta, .int .u64 ti, .bool false, .bool false, .slice none 0 0]].length) ce) rfl); have HG15 := Aside0.mk (HG14.out.trans (Lib.grownBy_setCell w14 w.heap.size 2 (.slice Ae (os.length + [[Value.int .u64 ta, .int .u64 ti, .bool false, .bool false, .slice none 0 0]].length) ce))); have HB15 := Aside0.mk (HB14.out.setCell (p := ⟨w.heap.size, 2, none⟩) (Nat.le_refl _) (.slice Ae (os.length + [[Value.int .u64 ta, .int .u64 ti, .bool false, .bool false, .slice none 0 0]].length) ce)); have ZB15 := Aside0.mk ((HG15.out.block (w.heap.size + 1 + 1) (by have := HW10.out; omega) (fun e => by have := Option.some.inj e; omega)).trans ZB10.out); have AB15 := Aside0.mk ((HG15.out.block (w.heap.size + 1 + 1 + 1) (by have := HW10.out; omega) (fun e => by have := Option.some.inj e; omega)).trans AB10.out); have HO15 := Aside0.mk (ho14.kept (Lib.grownBy_setCell w14 w.heap.size 2 (.slice Ae (os.length + [[Value.int .u64 ta, .int .u64 ti, .bool false, .bool false, .slice none 0 0]].length) ce)) (fun b e e2 => by have := ho14.base b e; have := HW10.out; have := Option.some.inj e2; omega)); have HR15 := Aside0.mk (HRr.out.push (openK_mk (W := w) (x := ⟨⟨ta, ti⟩, false, false, []⟩) (B := none) (c := 0) (Nat.le_refl _) (Kd.C_nil _ _))); have HW15 := Aside0.mk (Nat.le_trans HW10.out HG15.out.size); clear ho14 hg14)
        | (go_at_call 58; refine (HGET.out _ HB15.out).mono ?_; rintro e w13 ⟨rfl, hb13⟩; clear hs0 hs1 hs2 hs3 hs4 ho0 ho1 ho2 ho3 ho4 ho5 ho6; have SB13 := Aside0.mk (stay hb13 HS15.out (by have := HW15.out; omega)); have ZB13 := Aside0.mk (stay hb13 ZB15.out (by have := HW15.out; omega)); have AB13 := Aside0.mk (stay hb13 AB15.out (by have := HW15.out; omega)); have hn13 : w.heap.size + 1 + 1 + 1 + 1 ≤ w13.heap.size := (by have := HW15.out; have := hb13.size; omega); obtain ⟨hs0, hs1, hs2, hs3, hs4⟩ := cells_5 (stayA SB13.out (.cells #[.string g1, .string g2, .int .u64 g3] 50)); obtain ⟨hz0, hz1, hz2, hz3, hz4⟩ := cells_5 (stayA ZB13.out (.cells #[.string g1, .string g2, .int .u64 g3] 50)); obtain ⟨ha0, ha1, ha2, ha3, ha4⟩ := cells_5 (stayA AB13.out (.cells #[.string g1, .string g2, .int .u64 g3] 50)); obtain ⟨hy0, hy1, hy2, hy3, hy4⟩ := froz_5 (stayA ZB13.out (.cells #[.string g1, .string g2, .int .u64 g3] 50)); obtain ⟨hx0, hx1, hx2, hx3, hx4⟩ := froz_5 (stayA AB13.out (.cells #[.string g1, .string g2, .int .u64 g3] 50)); obtain ⟨is0, is1, is2, is3, is4⟩ := cells_5 (stayA SB13.out (.cells #[.string g1, .string g2, .int .u64 ver] 50)); obtain ⟨iz0, iz1, iz2, iz3, iz4⟩ := cells_5 (stayA ZB13.out (.cells #[.string g1, .string g2, .int .u64 ver] 50)); obtain ⟨ia0, ia1, ia2, ia3, ia4⟩ := cells_5 (stayA AB13.out (.cells #[.string g1, .string g2, .int .u64 ver] 50)); obtain ⟨iy0, iy1, iy2, iy3, iy4⟩ := froz_5 (stayA ZB13.out (.cells #[.string g1, .string g2, .int .u64 ver] 50)); obtain ⟨ix0, ix1, ix2, ix3, ix4⟩ := froz_5 (stayA AB13.out (.cells #[.string g1, .string g2, .int .u64 ver] 50)); have HB13 := Aside0.mk hb13; clear hb13))
      go_region
      go_wp2
      have hW9 := HW9.out
      have hW10 := HW10.out
      refine twoBoxesD rfl rfl rfl rfl (stayA ZB13.out (.cells #[.string g1, .string g2, .int .u64 ver] 50)) (stayA AB13.out (.cells #[.string g1, .string g2, .int .u64 ver] 50)) (by omega) ?_
      have hbW := fun (a0 a1 a2 a3 a4 b0 b1 b2 b3 b4 : Value) => (put5_below (put5_below ((HB15.out.trans (HB13.out.mono HB15.out.size)).alloc (by have := HB15.out.size; have := HB13.out.size; omega) (.cells #[.string g1, .string g2, .int .u64 ver] 50)) (show w.heap.size ≤ w.heap.size + 1 + 1 by omega) a0 a1 a2 a3 a4) (show w.heap.size ≤ w.heap.size + 1 + 1 + 1 by omega) b0 b1 b2 b3 b4).drew
      exact ⟨_, rfl, ⟨_, _, _, _, rfl, ⟨_, _, rfl, HC0.out, Kd.C_below HR0.out (hbW _ _ _ _ _ _ _ _ _ _)⟩, flat75.ofsl (own_tail HO1.out HG15.out HB13.out hW9 _ _ _ _ _ _ _ _ _ _ _).sl, opens_back HR15.out (hbW _ _ _ _ _ _ _ _ _ _) (own_tail HO15.out (World.grownBy.refl _ _) HB13.out hW10 _ _ _ _ _ _ _ _ _ _ _).sl, ⟨_, _, rfl, HC3.out, Kd.C_below HR3.out (hbW _ _ _ _ _ _ _ _ _ _)⟩⟩, hbW _ _ _ _ _ _ _ _ _ _⟩
end Go.Proofs.Ytmcgcdpiceikeaa.PAll
end
section
/- shard.asks, whole. -/
namespace Go.Proofs.Ytmcgcdpiceikeaa.PAll
open Go.RowKit Go.Proofs.YtmcgcdpiceikeaaW.PrintWords Go.Proofs.YtmcgcdpiceikeaaW.PrintMore Go.Proofs.Ytmcgcdpiceikeaa
set_option linter.unusedVariables false
def asksV (s : Shd) (kind : Int) (t : S30) (key : ByteArray) : Shd × Ans :=
  if 0 ≤ findI (isDoneT t) s.dones then (s, ⟨13, ⟨#[]⟩, 0, false, (overV s.dones t).f1⟩)
  else if key.size < 1 ∨ 16 < key.size then (s, errA 1)
  else if 0 ≤ findI (isOpenT t) s.opens ∧ (s.opens[(findI (isOpenT t) s.opens).toNat]!).f2 = true then (s, errA 12)
  else if 0 ≤ findI (isOpenT t) s.opens ∧ (s.opens[(findI (isOpenT t) s.opens).toNat]!).f1 = true then (s, errA 9)
  else if findI (isOpenT t) s.opens < 0 ∧ 64 ≤ s.opens.length + s.dones.length then (s, errA 5)
  else if (askV s.holds t key (kind == 2) (firmV s.opens)).2.2 ≠ 0 then (s, errA (askV s.holds t key (kind == 2) (firmV s.opens)).2.2)
  else (⟨s.rows, (askV s.holds t key (kind == 2) (firmV s.opens)).1, s.opens.map (woundV (askV s.holds t key (kind == 2) (firmV s.opens)).2.1) ++ (if findI (isOpenT t) s.opens < 0 then [⟨t, false, false, []⟩] else []), s.dones, s.ver⟩, ⟨0, (getV s.rows key).2.1, if (getV s.rows key).2.2.2 = true then (getV s.rows key).2.2.1 else s.ver, (getV s.rows key).2.2.2, false⟩)
/-- What bounds the lists of a shard (sizes of memory; words of 64 bits). -/
structure ShdLim (s : Shd) : Prop where
  n : s.opens.length + s.dones.length ≤ 2000000000000
  h : s.holds.length * 40 ≤ 140737488355288
  ok : ∀ x ∈ s.holds, okTx x.f1
  oko : ∀ x ∈ s.opens, okTx x.f0
end Go.Proofs.Ytmcgcdpiceikeaa.PAll
end
