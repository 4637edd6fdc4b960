/- Joined texts of the claim ShardReads (part 52): contracts of functions and plain laws. -/
import Derived.BigQuiet
import Derived.BigRegion
import Derived.Deep.QuietTactic
import Derived.Deep.RegionWith
import Derived.Test.YtmcgcdpiceikeaaJShardReads12
import Derived.Test.YtmcgcdpiceikeaaJShardReads17
import Derived.Test.YtmcgcdpiceikeaaJShardReads22
import Derived.Test.YtmcgcdpiceikeaaJShardReads28
import Derived.Test.YtmcgcdpiceikeaaJShardReads31
import Derived.Test.YtmcgcdpiceikeaaJShardReads49
import Derived.Test.YtmcgcdpiceikeaaJShardReads50
import Derived.Test.YtmcgcdpiceikeaaJShardReads51
section
/- The law ShardReads, walked. -/
namespace Go.Proofs.Ytmcgcdpiceikeaa.PAll
open Go.RowKit Go.Proofs.YtmcgcdpiceikeaaW.PrintWords Go.Proofs.YtmcgcdpiceikeaaW.PrintMore Go.Proofs.Ytmcgcdpiceikeaa
set_option linter.unusedVariables false
theorem readsCells {W : World} {x : S61} {cs : List Value} (h : k61.K W x cs) : ∃ A c B d, cs = [.slice A x.f0.length c, .int .u64 x.f1.f0, .int .u64 x.f1.f1, .string x.f2, .slice B x.f3.length d] ∧ x.f0.length ≤ c ∧ Kd.C k34 W A x.f0.length x.f0 ∧ x.f3.length ≤ d ∧ Kd.C k34 W B x.f3.length x.f3 := by
  obtain ⟨_, _, hcs, ⟨A, c, rfl, l, g⟩, ⟨_, _, rfl, ⟨_, _, rfl, rfl, rfl⟩, ⟨_, _, rfl, rfl, ⟨B, d, rfl, l2, g2⟩⟩⟩⟩ := h
  exact ⟨A, c, B, d, hcs, l, g, l2, g2⟩
theorem has12_calls (A : Option Addr) (c : Nat) (l : List S75) (t : S30) (key : ByteArray) (wr : Bool) (w : World) (hr : Kd.C k75 w A l.length l) (hc : l.length ≤ c) : Calls Try.prog 18 #[.slice A l.length c, .agg #[.int .u64 t.f0, .int .u64 t.f1], .string key, .bool wr] w fun e w' => e = .returned (.bool (hasV l t key wr)) ∧ Below w.heap.size w w' := by
  obtain ⟨k, hk⟩ := (rHas_ev l t key wr hr.2.1).rounds
  refine (ferruleref12_Has.calls k A c l t.f0 t.f1 key wr _ w hr hc hk).mono ?_
  rintro e w' ⟨rfl, hd⟩
  exact ⟨rfl, by first | exact hd | exact hd.below⟩
theorem get11_calls (A : Option Addr) (c : Nat) (l : List S50) (k : ByteArray) (g1 g2 : ByteArray) (g3 : Int) (g4 : Bool) (w : World) (hr : Kd.C k50 w A l.length l) (hc : l.length ≤ c) (hl : l.length < 9223372036854775806) (hg : getV l k = (g1, g2, g3, g4)) : Calls Try.prog 16 #[.slice A l.length c, .string k] w fun e w' => e = .returned (.tuple #[.agg #[.string g1, .string g2, .int .u64 g3], .bool g4]) ∧ Below w.heap.size w w' := by
  obtain ⟨n, hn⟩ := (rGet_ev l k hl).rounds
  rw [hg] at hn
  exact ferruleref11_Get.calls n A c l k g1 g2 g3 g4 w hr hc hn
/-- What another one orders does not change the row of a key that one has a lock of. -/
theorem reads_step {s : Shd} (h : InvS s) {t u : S30} {key : ByteArray} (hh : hasV s.holds t key false = true) (hu : u ≠ t) (kind : Int) (k : ByteArray) (ps : List S54) (cm : Bool) : lookR (doS s kind u k ps cm).1.rows key = lookR s.rows key := by
  unfold doS
  split
  · rcases asks_cases s kind u k with ⟨e, _⟩ | ⟨_, _, _, _, _, rh, rw_, _, e⟩
    · rw [e]
    · rw [e]; rfl
  split
  · rcases preps_cases s u ps with e | ⟨_, i, _, _, _, _, _, _, _, e⟩
    · rw [e]
    · rw [e]; rfl
  split
  · rcases fins_cases s u cm with e | ⟨_, _, rows, ver, e, hr⟩
    · rw [e]
    · rw [e]
      rcases hr with ⟨rfl, rfl⟩ | ⟨i, hi, hf, _, h1, _, hver, hall⟩
      · rfl
      · have e0 : (s.opens[i]!).f0 = u := same_iff.1 (findI_bang (p := isOpenT u) hi hf)
        obtain ⟨v1, v2⟩ := ver_wrap h
        rw [v1] at hver
        have hn := h.n
        have hv0 := h.verd
        obtain ⟨_, _, b3, _⟩ := allV_right s.rows (s.opens[i]!).f3 ver h.rows (by omega) (by rw [hall])
        rw [hall] at b3
        refine b3 key (fun p hp e => ?_)
        obtain ⟨_, _, _, w4⟩ := h.wf _ (bang_mem hi)
        obtain ⟨x, hx, x1, x2, x3⟩ := hasV_iff.1 (w4 p hp)
        obtain ⟨y, hy, y1, y2, _⟩ := hasV_iff.1 hh
        have hway := h.locks.way y hy x hx
        unfold inWayB at hway
        rw [beq_iff_eq.2 (by rw [x2, e, y2]), x3 rfl, same_false.2 (by rw [x1, e0, y1]; exact hu)] at hway
        cases hway
  · rfl
/-- What reading with a lock comes to. -/
theorem reads_first {s : Shd} (h : InvS s) (t : S30) (key : ByteArray) : (doS s 1 t key [] false).2.err ≠ 0 ∨ ((doS s 1 t key [] false).1.rows = s.rows ∧ hasV (doS s 1 t key [] false).1.holds t key false = true ∧ (doS s 1 t key [] false).2 = ⟨0, (getV s.rows key).2.1, if (getV s.rows key).2.2.2 = true then (getV s.rows key).2.2.1 else s.ver, (getV s.rows key).2.2.2, false⟩) := by
  have e : doS s 1 t key [] false = asksV s 1 t key := rfl
  rw [e]
  rcases asks_cases s 1 t key with ⟨_, e⟩ | ⟨_, _, _, _, _, rh, rw_, ha, e⟩
  · exact .inl e
  · right
    rw [e]
    refine ⟨rfl, ?_, rfl⟩
    obtain ⟨y, hy, y1, y2, _⟩ := (askV_good s.holds t key _ (firmV s.opens) h.locks h.h48 ha).has
    exact hasV_iff.2 ⟨y, hy, y1, y2, fun e => by cases e⟩
set_option maxHeartbeats 8000000 in
set_option maxRecDepth 100000 in
theorem ShardReads_walk {w : World} (cs : Array Value) (x : S61) (hx : k61.K w x cs.toList) (hsx : ok61 x) :
    Calls Try.prog 8 #[.agg cs] w fun e w' => e = .returned (.bool true) ∧ Below w.heap.size w w' := by
  obtain ⟨A, c, M, d, hcs, hc, hr, hd, hrm⟩ := readsCells hx
  obtain ⟨l, ⟨ta, ti⟩, key, more⟩ := x
  dsimp only at *
  obtain rfl : cs = #[.slice A l.length c, .int .u64 ta, .int .u64 ti, .string key, .slice M more.length d] := Array.toList_inj.1 hcs
  obtain ⟨⟨_, u1⟩, u2, _, _, u3⟩ := hsx
  have HOK := Aside0.mk (okTx_orders u1)
  have HOM := Aside0.mk (okTx_orders u3)
  have HT : Aside0 (okTx ⟨ta, ti⟩) := ⟨okTx_of u2⟩
  have HR := Aside0.mk hr
  have HM := Aside0.mk hrm
  have hll : l.length ≤ 9223372036854775807 := hr.2.1
  have hlm : more.length ≤ 9223372036854775807 := hrm.2.1
  clear hx hcs u1 u2 u3 hr hrm
  have ht0 := heap_alloc_new (w.alloc (.cells #[.slice A l.length c, .int .u64 ta, .int .u64 ti, .string key, .slice M more.length d] 61)) (.cells #[.int .u64 ta, .int .u64 ti] 30)
  rw [World.size_alloc] at ht0
  have HT0 := Aside0.mk ht0
  have HB0 := Aside0.mk (((Below.refl w.heap.size w).alloc (Nat.le_refl _) (.cells #[.slice A l.length c, .int .u64 ta, .int .u64 ti, .string key, .slice M more.length d] 61)).alloc (by simp) (.cells #[.int .u64 ta, .int .u64 ti] 30))
  have HS0 : Aside0 (w.heap.size + 1 < ((w.alloc (.cells #[.slice A l.length c, .int .u64 ta, .int .u64 ti, .string key, .slice M more.length d] 61)).alloc (.cells #[.int .u64 ta, .int .u64 ti] 30)).heap.size) := ⟨by simp⟩
  clear ht0
  go_enter Try.func8, Try.ntmps8
  go_wp2_with (go_at_call 10; refine (shown13 _).mono ?_; rintro e w1 ⟨rfl, hb1⟩; have HBB1 := Aside0.mk hb1; clear hb1)
  have HT1 := Aside0.mk (stayA (stay HBB1.out HT0.out HS0.out) (.cells #[.slice none 0 0, .slice none 0 0, .slice none 0 0, .slice none 0 0, .int .u64 0] 28))
  have HB1 := Aside0.mk (HB0.out.trans (HBB1.out.mono HB0.out.size))
  have HB2 := Aside0.mk (HB1.out.alloc HB1.out.size (.cells #[.slice none 0 0, .slice none 0 0, .slice none 0 0, .slice none 0 0, .int .u64 0] 28))
  have hq : w.heap.size + 1 < w1.heap.size := Nat.lt_of_lt_of_le HS0.out HBB1.out.size
  have HX1 := Aside0.mk (emptyAt w1)
  generalize w1.alloc (.cells #[.slice none 0 0, .slice none 0 0, .slice none 0 0, .slice none 0 0, .int .u64 0] 28) = w2 at *
  generalize w1.heap.size = q at *
  clear HT0 HB0 HS0 HBB1 HB1
  go_loopg [9] l.length (fun gg s9 wr => ∃ jj : Nat, jj ≤ l.length ∧ l.length - jj ≤ gg ∧ s9 = .int .i64 jj ∧ Aside0 (Below w.heap.size w wr) ∧ Aside0 (∃ s, InvS s ∧ ShdAt wr q s) ∧ Aside0 (wr.heap[(w.heap.size + 1)]? = some (.cells #[.int .u64 ta, .int .u64 ti] 30 (0, 0))))
  case atStart => exact ⟨0, Nat.zero_le _, by omega, rfl, HB2, ⟨_, InvS.empty, HX1.out⟩, HT1⟩
  case round =>
    obtain ⟨jj, hjj, hgk, rfl, HBr, HSr, HTr⟩ := hrel
    obtain ⟨S, hI, hXr⟩ := HSr.out
    have HI := Aside0.mk hI
    have HXr := Aside0.mk hXr
    clear hI hXr HSr
    by_cases hlt : jj < l.length
    · have hltz : (jj : Int) < (l.length : Int) := by omega
      have hjz : (0 : Int) ≤ (jj : Int) := by omega
      obtain ⟨b, o, rfl, B, cB, D, nD, dD, hpl, hpr, ho0, ho1, ho2, ho3, ho4, ho5, ho6⟩ := orderRow (Kd.C_below HR.out HBr.out) jj hlt
      obtain ⟨A0, m0, c0, A1, m1, c1, A2, m2, c2, A3, m3, c3, hX, hDO⟩ := do_at HXr.out
      obtain ⟨hs0, hs1, hs2, hs3, hs4⟩ := cells_5 hX
      have HC := Aside0.mk (hDO (l[jj]!).f0 (l[jj]!).f1 (l[jj]!).f2 B _ cB (l[jj]!).f4 D nD dD (l[jj]!).f3 wr.drew rfl (Kd.C_below hpr (Below.refl _ _).drew) hpl HI.out.ok (Below.refl _ _).drew)
      have HIN := Aside0.mk (HI.out.doS (l[jj]!).f0 (HOK.out _ (bang_mem hlt)) (l[jj]!).f2 (l[jj]!).f3 (l[jj]!).f4).1
      have HX := Aside0.mk hX
      have HXL := Aside0.mk HXr.out.lt
      clear hX hDO hpl hpr
      generalize l[jj]! = od at *
      obtain ⟨od0, ⟨od1, od2⟩, od3, odp, od5, odq⟩ := od
      dsimp only at *
      generalize doS S od0 ⟨od1, od2⟩ od3 odp od5 = R at *
      generalize odp.length = np at *
      go_wp2
      go_region_with (go_at_call 11; refine (HC.out).mono ?_; intro e w5 hp; obtain ⟨E0, n0, d0, E1, n1, d1, E2, n2, d2, E3, n3, d3, rfl, hv5, hb5⟩ := doOut hp; clear hp ho0 ho1 ho2 ho3 ho4 ho5 ho6 hs0 hs1 hs2 hs3 hs4; have XB5 := stay hb5 (show (World.drew wr).heap[q]? = _ from HX.out) (by rw [drewHeap]; exact HXL.out); obtain ⟨hz0, hz1, hz2, hz3, hz4⟩ := cells_5 XB5; obtain ⟨hy0, hy1, hy2, hy3, hy4⟩ := froz_5 XB5)
      · go_wp2
        go_roundg (l.length - (jj + 1))
        case measure => omega
        case rel => exact ⟨jj + 1, by omega, by omega, by go_num, ⟨put5_below (HBr.out.drew.trans (hb5.mono HBr.out.drew.size)) (by omega) _ _ _ _ _⟩, ⟨_, HIN.out, ShdAt.put XB5 hv5⟩, ⟨put5_other (b := (w.heap.size + 1)) (g := q) (by omega) (stay hb5 (show (World.drew wr).heap[(w.heap.size + 1)]? = _ from HTr.out) (by rw [drewHeap]; have := HXL.out; omega)) _ _ _ _ _⟩⟩
      · go_wp2
        go_roundg (l.length - (jj + 1))
        case measure => omega
        case rel => exact ⟨jj + 1, by omega, by omega, by go_num, ⟨put5_below (HBr.out.drew.trans (hb5.mono HBr.out.drew.size)) (by omega) _ _ _ _ _⟩, ⟨_, HIN.out, ShdAt.put XB5 hv5⟩, ⟨put5_other (b := (w.heap.size + 1)) (g := q) (by omega) (stay hb5 (show (World.drew wr).heap[(w.heap.size + 1)]? = _ from HTr.out) (by rw [drewHeap]; have := HXL.out; omega)) _ _ _ _ _⟩⟩
    · have hltz : ¬ (jj : Int) < (l.length : Int) := by omega
      obtain rfl : jj = l.length := by omega
      have hpl := reads_first HI.out ⟨ta, ti⟩ key
      obtain ⟨A0, m0, c0, A1, m1, c1, A2, m2, c2, A3, m3, c3, hX, hDO⟩ := do_at HXr.out
      obtain ⟨hs0, hs1, hs2, hs3, hs4⟩ := cells_5 hX
      have ht0 := cell_row (cs := [.int .u64 ta, .int .u64 ti]) HTr.out 0
      have ht1 := cell_row (cs := [.int .u64 ta, .int .u64 ti]) HTr.out 1
      have HC := Aside0.mk (hDO 1 ⟨ta, ti⟩ key none 0 0 false none 0 0 [] wr rfl (Kd.C_nil _ _) (Nat.le_refl _) HI.out.ok (Below.refl _ _))
      have HIR := Aside0.mk (HI.out.doS 1 HT.out key [] false).1
      have HX := Aside0.mk hX
      have HXL := Aside0.mk HXr.out.lt
      clear hX hDO
      generalize doS S 1 ⟨ta, ti⟩ key [] false = R at *
      have HPL := Aside0.mk hpl
      clear hpl
      go_upto_region 12 with (go_at_call 11; refine (HC.out).mono ?_; intro e w5 hp; obtain ⟨E0, n0, d0, E1, n1, d1, E2, n2, d2, E3, n3, d3, rfl, hv5, hb5⟩ := doOut hp; clear hp hs0 hs1 hs2 hs3 hs4 ht0 ht1; have XB5 := Aside0.mk (stay hb5 HX.out HXL.out); obtain ⟨hz0, hz1, hz2, hz3, hz4⟩ := cells_5 XB5.out; obtain ⟨hy0, hy1, hy2, hy3, hy4⟩ := froz_5 XB5.out; have hq5 : q < w5.heap.size := Nat.lt_of_lt_of_le HXL.out hb5.size; have HV5 := Aside0.mk hv5; have HBB5 := Aside0.mk hb5; clear hv5 hb5)
      have hpz : (put5 w5 q (.slice E0 n0 d0) (.slice E1 n1 d1) (.slice E2 n2 d2) (.slice E3 n3 d3) (.int .u64 R.1.ver)).heap.size = w5.heap.size := by simp [put5, World.setCell]
      have XS6 := Aside0.mk ((ShdAt.put XB5.out HV5.out).below ((Below.refl _ _).alloc (Nat.le_refl _) (.cells #[.int .i64 R.2.err, .string R.2.val, .int .u64 R.2.ver, .bool R.2.found, .bool R.2.commit] 38)))
      have ha6 := heap_alloc_new (put5 w5 q (.slice E0 n0 d0) (.slice E1 n1 d1) (.slice E2 n2 d2) (.slice E3 n3 d3) (.int .u64 R.1.ver)) (.cells #[.int .i64 R.2.err, .string R.2.val, .int .u64 R.2.ver, .bool R.2.found, .bool R.2.commit] 38)
      rw [hpz] at ha6
      have HA6 := Aside0.mk ha6
      have HT6 := Aside0.mk (stayA (put5_other (b := w.heap.size + 1) (g := q) (by omega) (stay HBB5.out HTr.out (by have := HXL.out; omega)) (.slice E0 n0 d0) (.slice E1 n1 d1) (.slice E2 n2 d2) (.slice E3 n3 d3) (.int .u64 R.1.ver)) (.cells #[.int .i64 R.2.err, .string R.2.val, .int .u64 R.2.ver, .bool R.2.found, .bool R.2.commit] 38))
      have HB5 := HBr.out.trans (HBB5.out.mono HBr.out.size)
      have HB6 : Aside0 (Below w.heap.size w ((put5 w5 q (.slice E0 n0 d0) (.slice E1 n1 d1) (.slice E2 n2 d2) (.slice E3 n3 d3) (.int .u64 R.1.ver)).alloc (.cells #[.int .i64 R.2.err, .string R.2.val, .int .u64 R.2.ver, .bool R.2.found, .bool R.2.commit] 38))) := ⟨(put5_below HB5 (by omega) _ _ _ _ _).alloc (by rw [hpz]; exact HB5.size) _⟩
      clear ha6 hpz HB5 HX HC HXr HTr HBr HBB5 HV5 XB5 hz0 hz1 hz2 hz3 hz4 hy0 hy1 hy2 hy3 hy4
      change Code.wp _ _ _ _ ((put5 w5 q (.slice E0 n0 d0) (.slice E1 n1 d1) (.slice E2 n2 d2) (.slice E3 n3 d3) (.int .u64 R.1.ver)).alloc (.cells #[.int .i64 R.2.err, .string R.2.val, .int .u64 R.2.ver, .bool R.2.found, .bool R.2.commit] 38))
      generalize (put5 w5 q (.slice E0 n0 d0) (.slice E1 n1 d1) (.slice E2 n2 d2) (.slice E3 n3 d3) (.int .u64 R.1.ver)).alloc (.cells #[.int .i64 R.2.err, .string R.2.val, .int .u64 R.2.ver, .bool R.2.found, .bool R.2.commit] 38) = W6 at *
      generalize w5.heap.size = qa at *
      obtain ⟨ha0, ha1, ha2, ha3, ha4⟩ := cells_5 HA6.out
      rcases HPL.out with hp1 | ⟨hp1, hp2, hp3⟩
      · clear HPL
        go_wp2
        go_ret
        exact ⟨rfl, HB6.out⟩
      · clear HPL
        obtain ⟨g1, g2, g3, g4, hg⟩ : ∃ g1 g2 g3 g4, getV S.rows key = (g1, g2, g3, g4) := ⟨_, _, _, _, rfl⟩
        rw [hp3, hg] at HA6 ha0
        dsimp only at HA6 ha0
        have hlk0 : lookR R.1.rows key = lookR S.rows key := by rw [hp1]
        have HHS := Aside0.mk hp2
        have HLK := Aside0.mk hlk0
        have HG := Aside0.mk hg
        clear hp1 hp2 hp3 hlk0 hg ha1 ha2 ha3 ha4 HX1 HT1 HB2 HR HOK
        generalize R.1 = S1 at *
        generalize hav : (if g4 = true then g3 else S.ver) = av at HA6
        clear hltz hjj hgk hc hd
        go_wp2
        go_loopg [11] more.length (fun gg s11 wv => ∃ kk : Nat, kk ≤ more.length ∧ more.length - kk ≤ gg ∧ s11 = .int .i64 kk ∧ Aside0 (Below w.heap.size w wv) ∧ Aside0 (∃ s, InvS s ∧ hasV s.holds ⟨ta, ti⟩ key false = true ∧ lookR s.rows key = lookR S.rows key ∧ ShdAt wv q s) ∧ Aside0 (wv.heap[w.heap.size + 1]? = some (.cells #[.int .u64 ta, .int .u64 ti] 30 (0, 0))) ∧ Aside0 (wv.heap[qa]? = some (.cells #[.int .i64 0, .string g2, .int .u64 av, .bool g4, .bool false] 38 (0, 0))))
        case atStart => exact ⟨0, Nat.zero_le _, by omega, rfl, HB6, ⟨_, HIR.out, HHS.out, HLK.out, XS6.out⟩, HT6, HA6⟩
        case round =>
          clear ha0 HB6 XS6 HT6 HA6
          obtain ⟨kk, hkk, hgk, rfl, HBr, HSr, HTr, HAr⟩ := hrel
          obtain ⟨s', hI, hh, hlk, hXr⟩ := HSr.out
          have HI' := Aside0.mk hI
          have HXr := Aside0.mk hXr
          have HH' := Aside0.mk hh
          have HLK' := Aside0.mk hlk
          clear hI hXr hh hlk HSr
          by_cases hlt : kk < more.length
          · have hltz : (kk : Int) < (more.length : Int) := by omega
            have hkz : (0 : Int) ≤ (kk : Int) := by omega
            obtain ⟨b, o, rfl, B, cB, D, nD, dD, hpl, hpr, ho0, ho1, ho2, ho3, ho4, ho5, ho6⟩ := orderRow (Kd.C_below HM.out HBr.out) kk hlt
            have ht0 := cell_row (cs := [.int .u64 ta, .int .u64 ti]) HTr.out 0
            have ht1 := cell_row (cs := [.int .u64 ta, .int .u64 ti]) HTr.out 1
            have HPL := Aside0.mk hpl
            have HPR := Aside0.mk hpr
            have HOD := Aside0.mk (HOM.out _ (bang_mem hlt))
            clear hpl hpr
            generalize more[kk]! = od at *
            obtain ⟨od0, ⟨od1, od2⟩, od3, odp, od5, odq⟩ := od
            dsimp only at *
            by_cases hee : od1 = ta ∧ od2 = ti
            · obtain ⟨rfl, rfl⟩ := hee
              go_wp2
              go_quiet (fail)
              go_wp2
              go_roundg (more.length - (kk + 1))
              case measure => omega
              case rel => exact ⟨kk + 1, by omega, by omega, by go_num, ⟨pw_below_drewN HBr.out _⟩, ⟨_, HI'.out, HH'.out, HLK'.out, HXr.out.below (pw_below_drewN (Below.refl _ _) _)⟩, ⟨stay (pw_below_drewN (Below.refl wr.heap.size wr) _) HTr.out (Array.getElem?_eq_some_iff.1 HTr.out).1⟩, ⟨stay (pw_below_drewN (Below.refl wr.heap.size wr) _) HAr.out (Array.getElem?_eq_some_iff.1 HAr.out).1⟩⟩
            · have hne : (⟨od1, od2⟩ : S30) ≠ ⟨ta, ti⟩ := fun e => hee ⟨by injection e, by injection e⟩
              have HNE := Aside0.mk hne
              clear hne
              by_cases e1 : od1 = ta
              · have e2 : ¬ od2 = ti := fun e => hee ⟨e1, e⟩
                subst e1
                clear hee
                go_wp2
                go_quiet (fail)
                have hbq := pw_below_drewN (Below.refl wr.heap.size wr) nq
                have HBv := Aside0.mk (pw_below_drewN HBr.out nq)
                have HXv := Aside0.mk (HXr.out.below hbq)
                have HTv := Aside0.mk (stay hbq HTr.out (Array.getElem?_eq_some_iff.1 HTr.out).1)
                have HAv := Aside0.mk (stay hbq HAr.out (Array.getElem?_eq_some_iff.1 HAr.out).1)
                have hov0 := keepOne ho0 hbq
                have hov1 := keepOne ho1 hbq
                have hov2 := keepOne ho2 hbq
                have hov3 := keepOne ho3 hbq
                have hov4 := keepOne ho4 hbq
                have hov5 := keepOne ho5 hbq
                have hov6 := keepOne ho6 hbq
                have HPW := Aside0.mk (Kd.C_below HPR.out hbq)
                clear hbq HBr HXr HTr HAr HPR ht0 ht1 ho0 ho1 ho2 ho3 ho4 ho5 ho6
                generalize World.drewN wr nq = wv at *
                obtain ⟨A0, m0, c0, A1, m1, c1, A2, m2, c2, A3, m3, c3, hX, hDO⟩ := do_at HXv.out
                obtain ⟨hs0, hs1, hs2, hs3, hs4⟩ := cells_5 hX
                have HC := Aside0.mk (hDO od0 ⟨od1, od2⟩ od3 B _ cB od5 D nD dD odp wv.drew rfl (Kd.C_below HPW.out (Below.refl _ _).drew) HPL.out HI'.out.ok (Below.refl _ _).drew)
                have HIN := Aside0.mk (HI'.out.doS od0 HOD.out od3 odp od5).1
                have HSTEP := Aside0.mk (reads_step HI'.out (t := ⟨od1, ti⟩) (u := ⟨od1, od2⟩) HH'.out HNE.out od0 od3 odp od5)
                have HX := Aside0.mk hX
                have HXL := Aside0.mk HXv.out.lt
                have hqa : q ≠ qa := fun e => by have h1 := HX.out; have h2 := HAv.out; rw [e, h2] at h1; cases h1
                clear hX hDO
                generalize doS s' od0 ⟨od1, od2⟩ od3 odp od5 = R at *
                generalize odp.length = np at *
                go_wp2
                go_region_with (go_at_call 11; refine (HC.out).mono ?_; intro e w5 hp; obtain ⟨E0, n0, d0, E1, n1, d1, E2, n2, d2, E3, n3, d3, rfl, hv5, hb5⟩ := doOut hp; clear hp hov0 hov1 hov2 hov3 hov4 hov5 hov6 hs0 hs1 hs2 hs3 hs4; have XB5 := stay hb5 (show (World.drew wv).heap[q]? = _ from HX.out) (by rw [drewHeap]; exact HXL.out); obtain ⟨hz0, hz1, hz2, hz3, hz4⟩ := cells_5 XB5; obtain ⟨hy0, hy1, hy2, hy3, hy4⟩ := froz_5 XB5)
                · go_upto_region 19 with (fail)
                  have XS7 := Aside0.mk (ShdAt.put XB5 hv5)
                  have HT7 : Aside0 ((put5 w5 q (.slice E0 n0 d0) (.slice E1 n1 d1) (.slice E2 n2 d2) (.slice E3 n3 d3) (.int .u64 R.1.ver)).heap[w.heap.size + 1]? = some (.cells #[.int .u64 od1, .int .u64 ti] 30 (0, 0))) := ⟨put5_other (b := w.heap.size + 1) (g := q) (by omega) (stay hb5 (show (World.drew wv).heap[w.heap.size + 1]? = _ from HTv.out) (Array.getElem?_eq_some_iff.1 (show (World.drew wv).heap[w.heap.size + 1]? = _ from HTv.out)).1) _ _ _ _ _⟩
                  have HA7 : Aside0 ((put5 w5 q (.slice E0 n0 d0) (.slice E1 n1 d1) (.slice E2 n2 d2) (.slice E3 n3 d3) (.int .u64 R.1.ver)).heap[qa]? = some (.cells #[.int .i64 0, .string g2, .int .u64 av, .bool g4, .bool false] 38 (0, 0))) := ⟨put5_other (b := qa) (g := q) (by omega) (stay hb5 (show (World.drew wv).heap[qa]? = _ from HAv.out) (Array.getElem?_eq_some_iff.1 (show (World.drew wv).heap[qa]? = _ from HAv.out)).1) _ _ _ _ _⟩
                  have HB7 : Aside0 (Below w.heap.size w (put5 w5 q (.slice E0 n0 d0) (.slice E1 n1 d1) (.slice E2 n2 d2) (.slice E3 n3 d3) (.int .u64 R.1.ver))) := ⟨put5_below (HBv.out.drew.trans (hb5.mono HBv.out.drew.size)) (by omega) _ _ _ _ _⟩
                  clear XB5 hv5 hb5 hz0 hz1 hz2 hz3 hz4 hy0 hy1 hy2 hy3 hy4 HX HC HXL
                  change Code.wp _ _ _ _ (put5 w5 q (.slice E0 n0 d0) (.slice E1 n1 d1) (.slice E2 n2 d2) (.slice E3 n3 d3) (.int .u64 R.1.ver))
                  generalize put5 w5 q (.slice E0 n0 d0) (.slice E1 n1 d1) (.slice E2 n2 d2) (.slice E3 n3 d3) (.int .u64 R.1.ver) = W7 at *
                  obtain ⟨C0, f0, C1, f1, C2, f2, C3, f3, hX, ⟨ra, ra'⟩, ⟨rh, rh'⟩, _⟩ := XS7.out
                  obtain ⟨hs0, hs1, hs2, hs3, hs4⟩ := cells_5 hX
                  have HX7 := Aside0.mk hX
                  have ht0 := cell_row (cs := [.int .u64 od1, .int .u64 ti]) HT7.out 0
                  have ht1 := cell_row (cs := [.int .u64 od1, .int .u64 ti]) HT7.out 1
                  have HH := Aside0.mk (has12_calls C1 f1 R.1.holds ⟨od1, ti⟩ key false W7 rh rh')
                  have HROW := Aside0.mk ra
                  have HROC := Aside0.mk ra'
                  have HRL := Aside0.mk HIN.out.ok.rl
                  clear hX ra ra' rh rh'
                  dsimp only at *
                  cases hb : hasV R.1.holds ⟨od1, ti⟩ key false with
                  | false =>
                    rw [hb] at HH
                    go_wp2_with (go_at_call 18; refine (HH.out).mono ?_; rintro e w8 ⟨rfl, hb8⟩; have HB8 := Aside0.mk hb8; clear hb8)
                    go_ret
                    exact ⟨rfl, HB7.out.trans (HB8.out.mono HB7.out.size)⟩
                  | true =>
                    rw [hb] at HH
                    have HBT := Aside0.mk hb
                    have hg7 : getV R.1.rows key = (g1, g2, g3, g4) := by rw [← HG.out, getV_look, getV_look, HSTEP.out, HLK'.out]
                    have HGC := Aside0.mk (fun (W : World) (h : Below W7.heap.size W7 W) => get11_calls C0 f0 R.1.rows key g1 g2 g3 g4 W (Kd.C_below HROW.out h) HROC.out (by have := HRL.out; omega) hg7)
                    clear hb hg7
                    cases g4 with
                    | true =>
                      obtain rfl : g3 = av := by rw [← hav, if_pos rfl]
                      go_wp2_with (first
                        | (go_at_call 18; refine (HH.out).mono ?_; rintro e w8 ⟨rfl, hb8⟩; clear hs0 hs1 hs2 hs3 hs4 ht0 ht1; obtain ⟨hs0, hs1, hs2, hs3, hs4⟩ := cells_5 (stay hb8 HX7.out (Array.getElem?_eq_some_iff.1 HX7.out).1); have HB8 := Aside0.mk hb8; clear hb8)
                        | (go_at_call 16; refine (HGC.out _ HB8.out).mono ?_; rintro e w9 ⟨rfl, hb9'⟩; have hb9 := HB8.out.trans (hb9'.mono HB8.out.size); clear hs0 hs1 hs2 hs3 hs4; have hl9 := (Array.getElem?_eq_some_iff.1 (stay hb9 HA7.out (Array.getElem?_eq_some_iff.1 HA7.out).1)).1; obtain ⟨ha0, ha1, ha2, ha3, ha4⟩ := cells_5 (stay hb9 HA7.out (Array.getElem?_eq_some_iff.1 HA7.out).1); have HB9 := Aside0.mk hb9; clear hb9 hb9'))
                      go_roundg (more.length - (kk + 1))
                      case measure => omega
                      case rel => exact ⟨kk + 1, by omega, by omega, by go_num, ⟨(HB7.out.trans (HB9.out.mono HB7.out.size)).alloc (HB7.out.trans (HB9.out.mono HB7.out.size)).size _⟩, ⟨_, HIN.out, HBT.out, HSTEP.out.trans HLK'.out, (XS7.out.below HB9.out).below ((Below.refl _ _).alloc (Nat.le_refl _) _)⟩, ⟨stayA (stay HB9.out HT7.out (Array.getElem?_eq_some_iff.1 HT7.out).1) _⟩, ⟨stayA (stay HB9.out HA7.out (Array.getElem?_eq_some_iff.1 HA7.out).1) _⟩⟩
                    | false =>
                      go_wp2_with (first
                        | (go_at_call 18; refine (HH.out).mono ?_; rintro e w8 ⟨rfl, hb8⟩; clear hs0 hs1 hs2 hs3 hs4 ht0 ht1; obtain ⟨hs0, hs1, hs2, hs3, hs4⟩ := cells_5 (stay hb8 HX7.out (Array.getElem?_eq_some_iff.1 HX7.out).1); have HB8 := Aside0.mk hb8; clear hb8)
                        | (go_at_call 16; refine (HGC.out _ HB8.out).mono ?_; rintro e w9 ⟨rfl, hb9'⟩; have hb9 := HB8.out.trans (hb9'.mono HB8.out.size); clear hs0 hs1 hs2 hs3 hs4; have hl9 := (Array.getElem?_eq_some_iff.1 (stay hb9 HA7.out (Array.getElem?_eq_some_iff.1 HA7.out).1)).1; obtain ⟨ha0, ha1, ha2, ha3, ha4⟩ := cells_5 (stay hb9 HA7.out (Array.getElem?_eq_some_iff.1 HA7.out).1); have HB9 := Aside0.mk hb9; clear hb9 hb9'))
                      go_roundg (more.length - (kk + 1))
                      case measure => omega
                      case rel => exact ⟨kk + 1, by omega, by omega, by go_num, ⟨(HB7.out.trans (HB9.out.mono HB7.out.size)).alloc (HB7.out.trans (HB9.out.mono HB7.out.size)).size _⟩, ⟨_, HIN.out, HBT.out, HSTEP.out.trans HLK'.out, (XS7.out.below HB9.out).below ((Below.refl _ _).alloc (Nat.le_refl _) _)⟩, ⟨stayA (stay HB9.out HT7.out (Array.getElem?_eq_some_iff.1 HT7.out).1) _⟩, ⟨stayA (stay HB9.out HA7.out (Array.getElem?_eq_some_iff.1 HA7.out).1) _⟩⟩
                · go_upto_region 19 with (fail)
                  have XS7 := Aside0.mk (ShdAt.put XB5 hv5)
                  have HT7 : Aside0 ((put5 w5 q (.slice E0 n0 d0) (.slice E1 n1 d1) (.slice E2 n2 d2) (.slice E3 n3 d3) (.int .u64 R.1.ver)).heap[w.heap.size + 1]? = some (.cells #[.int .u64 od1, .int .u64 ti] 30 (0, 0))) := ⟨put5_other (b := w.heap.size + 1) (g := q) (by omega) (stay hb5 (show (World.drew wv).heap[w.heap.size + 1]? = _ from HTv.out) (Array.getElem?_eq_some_iff.1 (show (World.drew wv).heap[w.heap.size + 1]? = _ from HTv.out)).1) _ _ _ _ _⟩
                  have HA7 : Aside0 ((put5 w5 q (.slice E0 n0 d0) (.slice E1 n1 d1) (.slice E2 n2 d2) (.slice E3 n3 d3) (.int .u64 R.1.ver)).heap[qa]? = some (.cells #[.int .i64 0, .string g2, .int .u64 av, .bool g4, .bool false] 38 (0, 0))) := ⟨put5_other (b := qa) (g := q) (by omega) (stay hb5 (show (World.drew wv).heap[qa]? = _ from HAv.out) (Array.getElem?_eq_some_iff.1 (show (World.drew wv).heap[qa]? = _ from HAv.out)).1) _ _ _ _ _⟩
                  have HB7 : Aside0 (Below w.heap.size w (put5 w5 q (.slice E0 n0 d0) (.slice E1 n1 d1) (.slice E2 n2 d2) (.slice E3 n3 d3) (.int .u64 R.1.ver))) := ⟨put5_below (HBv.out.drew.trans (hb5.mono HBv.out.drew.size)) (by omega) _ _ _ _ _⟩
                  clear XB5 hv5 hb5 hz0 hz1 hz2 hz3 hz4 hy0 hy1 hy2 hy3 hy4 HX HC HXL
                  change Code.wp _ _ _ _ (put5 w5 q (.slice E0 n0 d0) (.slice E1 n1 d1) (.slice E2 n2 d2) (.slice E3 n3 d3) (.int .u64 R.1.ver))
                  generalize put5 w5 q (.slice E0 n0 d0) (.slice E1 n1 d1) (.slice E2 n2 d2) (.slice E3 n3 d3) (.int .u64 R.1.ver) = W7 at *
                  obtain ⟨C0, f0, C1, f1, C2, f2, C3, f3, hX, ⟨ra, ra'⟩, ⟨rh, rh'⟩, _⟩ := XS7.out
                  obtain ⟨hs0, hs1, hs2, hs3, hs4⟩ := cells_5 hX
                  have HX7 := Aside0.mk hX
                  have ht0 := cell_row (cs := [.int .u64 od1, .int .u64 ti]) HT7.out 0
                  have ht1 := cell_row (cs := [.int .u64 od1, .int .u64 ti]) HT7.out 1
                  have HH := Aside0.mk (has12_calls C1 f1 R.1.holds ⟨od1, ti⟩ key false W7 rh rh')
                  have HROW := Aside0.mk ra
                  have HROC := Aside0.mk ra'
                  have HRL := Aside0.mk HIN.out.ok.rl
                  clear hX ra ra' rh rh'
                  dsimp only at *
                  cases hb : hasV R.1.holds ⟨od1, ti⟩ key false with
                  | false =>
                    rw [hb] at HH
                    go_wp2_with (go_at_call 18; refine (HH.out).mono ?_; rintro e w8 ⟨rfl, hb8⟩; have HB8 := Aside0.mk hb8; clear hb8)
                    go_ret
                    exact ⟨rfl, HB7.out.trans (HB8.out.mono HB7.out.size)⟩
                  | true =>
                    rw [hb] at HH
                    have HBT := Aside0.mk hb
                    have hg7 : getV R.1.rows key = (g1, g2, g3, g4) := by rw [← HG.out, getV_look, getV_look, HSTEP.out, HLK'.out]
                    have HGC := Aside0.mk (fun (W : World) (h : Below W7.heap.size W7 W) => get11_calls C0 f0 R.1.rows key g1 g2 g3 g4 W (Kd.C_below HROW.out h) HROC.out (by have := HRL.out; omega) hg7)
                    clear hb hg7
                    cases g4 with
                    | true =>
                      obtain rfl : g3 = av := by rw [← hav, if_pos rfl]
                      go_wp2_with (first
                        | (go_at_call 18; refine (HH.out).mono ?_; rintro e w8 ⟨rfl, hb8⟩; clear hs0 hs1 hs2 hs3 hs4 ht0 ht1; obtain ⟨hs0, hs1, hs2, hs3, hs4⟩ := cells_5 (stay hb8 HX7.out (Array.getElem?_eq_some_iff.1 HX7.out).1); have HB8 := Aside0.mk hb8; clear hb8)
                        | (go_at_call 16; refine (HGC.out _ HB8.out).mono ?_; rintro e w9 ⟨rfl, hb9'⟩; have hb9 := HB8.out.trans (hb9'.mono HB8.out.size); clear hs0 hs1 hs2 hs3 hs4; have hl9 := (Array.getElem?_eq_some_iff.1 (stay hb9 HA7.out (Array.getElem?_eq_some_iff.1 HA7.out).1)).1; obtain ⟨ha0, ha1, ha2, ha3, ha4⟩ := cells_5 (stay hb9 HA7.out (Array.getElem?_eq_some_iff.1 HA7.out).1); have HB9 := Aside0.mk hb9; clear hb9 hb9'))
                      go_roundg (more.length - (kk + 1))
                      case measure => omega
                      case rel => exact ⟨kk + 1, by omega, by omega, by go_num, ⟨(HB7.out.trans (HB9.out.mono HB7.out.size)).alloc (HB7.out.trans (HB9.out.mono HB7.out.size)).size _⟩, ⟨_, HIN.out, HBT.out, HSTEP.out.trans HLK'.out, (XS7.out.below HB9.out).below ((Below.refl _ _).alloc (Nat.le_refl _) _)⟩, ⟨stayA (stay HB9.out HT7.out (Array.getElem?_eq_some_iff.1 HT7.out).1) _⟩, ⟨stayA (stay HB9.out HA7.out (Array.getElem?_eq_some_iff.1 HA7.out).1) _⟩⟩
                    | false =>
                      go_wp2_with (first
                        | (go_at_call 18; refine (HH.out).mono ?_; rintro e w8 ⟨rfl, hb8⟩; clear hs0 hs1 hs2 hs3 hs4 ht0 ht1; obtain ⟨hs0, hs1, hs2, hs3, hs4⟩ := cells_5 (stay hb8 HX7.out (Array.getElem?_eq_some_iff.1 HX7.out).1); have HB8 := Aside0.mk hb8; clear hb8)
                        | (go_at_call 16; refine (HGC.out _ HB8.out).mono ?_; rintro e w9 ⟨rfl, hb9'⟩; have hb9 := HB8.out.trans (hb9'.mono HB8.out.size); clear hs0 hs1 hs2 hs3 hs4; have hl9 := (Array.getElem?_eq_some_iff.1 (stay hb9 HA7.out (Array.getElem?_eq_some_iff.1 HA7.out).1)).1; obtain ⟨ha0, ha1, ha2, ha3, ha4⟩ := cells_5 (stay hb9 HA7.out (Array.getElem?_eq_some_iff.1 HA7.out).1); have HB9 := Aside0.mk hb9; clear hb9 hb9'))
                      go_roundg (more.length - (kk + 1))
                      case measure => omega
                      case rel => exact ⟨kk + 1, by omega, by omega, by go_num, ⟨(HB7.out.trans (HB9.out.mono HB7.out.size)).alloc (HB7.out.trans (HB9.out.mono HB7.out.size)).size _⟩, ⟨_, HIN.out, HBT.out, HSTEP.out.trans HLK'.out, (XS7.out.below HB9.out).below ((Below.refl _ _).alloc (Nat.le_refl _) _)⟩, ⟨stayA (stay HB9.out HT7.out (Array.getElem?_eq_some_iff.1 HT7.out).1) _⟩, ⟨stayA (stay HB9.out HA7.out (Array.getElem?_eq_some_iff.1 HA7.out).1) _⟩⟩
              · clear hee
                go_wp2
                go_quiet (fail)
                have hbq := pw_below_drewN (Below.refl wr.heap.size wr) nq
                have HBv := Aside0.mk (pw_below_drewN HBr.out nq)
                have HXv := Aside0.mk (HXr.out.below hbq)
                have HTv := Aside0.mk (stay hbq HTr.out (Array.getElem?_eq_some_iff.1 HTr.out).1)
                have HAv := Aside0.mk (stay hbq HAr.out (Array.getElem?_eq_some_iff.1 HAr.out).1)
                have hov0 := keepOne ho0 hbq
                have hov1 := keepOne ho1 hbq
                have hov2 := keepOne ho2 hbq
                have hov3 := keepOne ho3 hbq
                have hov4 := keepOne ho4 hbq
                have hov5 := keepOne ho5 hbq
                have hov6 := keepOne ho6 hbq
                have HPW := Aside0.mk (Kd.C_below HPR.out hbq)
                clear hbq HBr HXr HTr HAr HPR ht0 ht1 ho0 ho1 ho2 ho3 ho4 ho5 ho6
                generalize World.drewN wr nq = wv at *
                obtain ⟨A0, m0, c0, A1, m1, c1, A2, m2, c2, A3, m3, c3, hX, hDO⟩ := do_at HXv.out
                obtain ⟨hs0, hs1, hs2, hs3, hs4⟩ := cells_5 hX
                have HC := Aside0.mk (hDO od0 ⟨od1, od2⟩ od3 B _ cB od5 D nD dD odp wv.drew rfl (Kd.C_below HPW.out (Below.refl _ _).drew) HPL.out HI'.out.ok (Below.refl _ _).drew)
                have HIN := Aside0.mk (HI'.out.doS od0 HOD.out od3 odp od5).1
                have HSTEP := Aside0.mk (reads_step HI'.out (t := ⟨ta, ti⟩) (u := ⟨od1, od2⟩) HH'.out HNE.out od0 od3 odp od5)
                have HX := Aside0.mk hX
                have HXL := Aside0.mk HXv.out.lt
                have hqa : q ≠ qa := fun e => by have h1 := HX.out; have h2 := HAv.out; rw [e, h2] at h1; cases h1
                clear hX hDO
                generalize doS s' od0 ⟨od1, od2⟩ od3 odp od5 = R at *
                generalize odp.length = np at *
                go_wp2
                go_region_with (go_at_call 11; refine (HC.out).mono ?_; intro e w5 hp; obtain ⟨E0, n0, d0, E1, n1, d1, E2, n2, d2, E3, n3, d3, rfl, hv5, hb5⟩ := doOut hp; clear hp hov0 hov1 hov2 hov3 hov4 hov5 hov6 hs0 hs1 hs2 hs3 hs4; have XB5 := stay hb5 (show (World.drew wv).heap[q]? = _ from HX.out) (by rw [drewHeap]; exact HXL.out); obtain ⟨hz0, hz1, hz2, hz3, hz4⟩ := cells_5 XB5; obtain ⟨hy0, hy1, hy2, hy3, hy4⟩ := froz_5 XB5)
                · go_upto_region 19 with (fail)
                  have XS7 := Aside0.mk (ShdAt.put XB5 hv5)
                  have HT7 : Aside0 ((put5 w5 q (.slice E0 n0 d0) (.slice E1 n1 d1) (.slice E2 n2 d2) (.slice E3 n3 d3) (.int .u64 R.1.ver)).heap[w.heap.size + 1]? = some (.cells #[.int .u64 ta, .int .u64 ti] 30 (0, 0))) := ⟨put5_other (b := w.heap.size + 1) (g := q) (by omega) (stay hb5 (show (World.drew wv).heap[w.heap.size + 1]? = _ from HTv.out) (Array.getElem?_eq_some_iff.1 (show (World.drew wv).heap[w.heap.size + 1]? = _ from HTv.out)).1) _ _ _ _ _⟩
                  have HA7 : Aside0 ((put5 w5 q (.slice E0 n0 d0) (.slice E1 n1 d1) (.slice E2 n2 d2) (.slice E3 n3 d3) (.int .u64 R.1.ver)).heap[qa]? = some (.cells #[.int .i64 0, .string g2, .int .u64 av, .bool g4, .bool false] 38 (0, 0))) := ⟨put5_other (b := qa) (g := q) (by omega) (stay hb5 (show (World.drew wv).heap[qa]? = _ from HAv.out) (Array.getElem?_eq_some_iff.1 (show (World.drew wv).heap[qa]? = _ from HAv.out)).1) _ _ _ _ _⟩
                  have HB7 : Aside0 (Below w.heap.size w (put5 w5 q (.slice E0 n0 d0) (.slice E1 n1 d1) (.slice E2 n2 d2) (.slice E3 n3 d3) (.int .u64 R.1.ver))) := ⟨put5_below (HBv.out.drew.trans (hb5.mono HBv.out.drew.size)) (by omega) _ _ _ _ _⟩
                  clear XB5 hv5 hb5 hz0 hz1 hz2 hz3 hz4 hy0 hy1 hy2 hy3 hy4 HX HC HXL
                  change Code.wp _ _ _ _ (put5 w5 q (.slice E0 n0 d0) (.slice E1 n1 d1) (.slice E2 n2 d2) (.slice E3 n3 d3) (.int .u64 R.1.ver))
                  generalize put5 w5 q (.slice E0 n0 d0) (.slice E1 n1 d1) (.slice E2 n2 d2) (.slice E3 n3 d3) (.int .u64 R.1.ver) = W7 at *
                  obtain ⟨C0, f0, C1, f1, C2, f2, C3, f3, hX, ⟨ra, ra'⟩, ⟨rh, rh'⟩, _⟩ := XS7.out
                  obtain ⟨hs0, hs1, hs2, hs3, hs4⟩ := cells_5 hX
                  have HX7 := Aside0.mk hX
                  have ht0 := cell_row (cs := [.int .u64 ta, .int .u64 ti]) HT7.out 0
                  have ht1 := cell_row (cs := [.int .u64 ta, .int .u64 ti]) HT7.out 1
                  have HH := Aside0.mk (has12_calls C1 f1 R.1.holds ⟨ta, ti⟩ key false W7 rh rh')
                  have HROW := Aside0.mk ra
                  have HROC := Aside0.mk ra'
                  have HRL := Aside0.mk HIN.out.ok.rl
                  clear hX ra ra' rh rh'
                  dsimp only at *
                  cases hb : hasV R.1.holds ⟨ta, ti⟩ key false with
                  | false =>
                    rw [hb] at HH
                    go_wp2_with (go_at_call 18; refine (HH.out).mono ?_; rintro e w8 ⟨rfl, hb8⟩; have HB8 := Aside0.mk hb8; clear hb8)
                    go_ret
                    exact ⟨rfl, HB7.out.trans (HB8.out.mono HB7.out.size)⟩
                  | true =>
                    rw [hb] at HH
                    have HBT := Aside0.mk hb
                    have hg7 : getV R.1.rows key = (g1, g2, g3, g4) := by rw [← HG.out, getV_look, getV_look, HSTEP.out, HLK'.out]
                    have HGC := Aside0.mk (fun (W : World) (h : Below W7.heap.size W7 W) => get11_calls C0 f0 R.1.rows key g1 g2 g3 g4 W (Kd.C_below HROW.out h) HROC.out (by have := HRL.out; omega) hg7)
                    clear hb hg7
                    cases g4 with
                    | true =>
                      obtain rfl : g3 = av := by rw [← hav, if_pos rfl]
                      go_wp2_with (first
                        | (go_at_call 18; refine (HH.out).mono ?_; rintro e w8 ⟨rfl, hb8⟩; clear hs0 hs1 hs2 hs3 hs4 ht0 ht1; obtain ⟨hs0, hs1, hs2, hs3, hs4⟩ := cells_5 (stay hb8 HX7.out (Array.getElem?_eq_some_iff.1 HX7.out).1); have HB8 := Aside0.mk hb8; clear hb8)
                        | (go_at_call 16; refine (HGC.out _ HB8.out).mono ?_; rintro e w9 ⟨rfl, hb9'⟩; have hb9 := HB8.out.trans (hb9'.mono HB8.out.size); clear hs0 hs1 hs2 hs3 hs4; have hl9 := (Array.getElem?_eq_some_iff.1 (stay hb9 HA7.out (Array.getElem?_eq_some_iff.1 HA7.out).1)).1; obtain ⟨ha0, ha1, ha2, ha3, ha4⟩ := cells_5 (stay hb9 HA7.out (Array.getElem?_eq_some_iff.1 HA7.out).1); have HB9 := Aside0.mk hb9; clear hb9 hb9'))
                      go_roundg (more.length - (kk + 1))
                      case measure => omega
                      case rel => exact ⟨kk + 1, by omega, by omega, by go_num, ⟨(HB7.out.trans (HB9.out.mono HB7.out.size)).alloc (HB7.out.trans (HB9.out.mono HB7.out.size)).size _⟩, ⟨_, HIN.out, HBT.out, HSTEP.out.trans HLK'.out, (XS7.out.below HB9.out).below ((Below.refl _ _).alloc (Nat.le_refl _) _)⟩, ⟨stayA (stay HB9.out HT7.out (Array.getElem?_eq_some_iff.1 HT7.out).1) _⟩, ⟨stayA (stay HB9.out HA7.out (Array.getElem?_eq_some_iff.1 HA7.out).1) _⟩⟩
                    | false =>
                      go_wp2_with (first
                        | (go_at_call 18; refine (HH.out).mono ?_; rintro e w8 ⟨rfl, hb8⟩; clear hs0 hs1 hs2 hs3 hs4 ht0 ht1; obtain ⟨hs0, hs1, hs2, hs3, hs4⟩ := cells_5 (stay hb8 HX7.out (Array.getElem?_eq_some_iff.1 HX7.out).1); have HB8 := Aside0.mk hb8; clear hb8)
                        | (go_at_call 16; refine (HGC.out _ HB8.out).mono ?_; rintro e w9 ⟨rfl, hb9'⟩; have hb9 := HB8.out.trans (hb9'.mono HB8.out.size); clear hs0 hs1 hs2 hs3 hs4; have hl9 := (Array.getElem?_eq_some_iff.1 (stay hb9 HA7.out (Array.getElem?_eq_some_iff.1 HA7.out).1)).1; obtain ⟨ha0, ha1, ha2, ha3, ha4⟩ := cells_5 (stay hb9 HA7.out (Array.getElem?_eq_some_iff.1 HA7.out).1); have HB9 := Aside0.mk hb9; clear hb9 hb9'))
                      go_roundg (more.length - (kk + 1))
                      case measure => omega
                      case rel => exact ⟨kk + 1, by omega, by omega, by go_num, ⟨(HB7.out.trans (HB9.out.mono HB7.out.size)).alloc (HB7.out.trans (HB9.out.mono HB7.out.size)).size _⟩, ⟨_, HIN.out, HBT.out, HSTEP.out.trans HLK'.out, (XS7.out.below HB9.out).below ((Below.refl _ _).alloc (Nat.le_refl _) _)⟩, ⟨stayA (stay HB9.out HT7.out (Array.getElem?_eq_some_iff.1 HT7.out).1) _⟩, ⟨stayA (stay HB9.out HA7.out (Array.getElem?_eq_some_iff.1 HA7.out).1) _⟩⟩
                · go_upto_region 19 with (fail)
                  have XS7 := Aside0.mk (ShdAt.put XB5 hv5)
                  have HT7 : Aside0 ((put5 w5 q (.slice E0 n0 d0) (.slice E1 n1 d1) (.slice E2 n2 d2) (.slice E3 n3 d3) (.int .u64 R.1.ver)).heap[w.heap.size + 1]? = some (.cells #[.int .u64 ta, .int .u64 ti] 30 (0, 0))) := ⟨put5_other (b := w.heap.size + 1) (g := q) (by omega) (stay hb5 (show (World.drew wv).heap[w.heap.size + 1]? = _ from HTv.out) (Array.getElem?_eq_some_iff.1 (show (World.drew wv).heap[w.heap.size + 1]? = _ from HTv.out)).1) _ _ _ _ _⟩
                  have HA7 : Aside0 ((put5 w5 q (.slice E0 n0 d0) (.slice E1 n1 d1) (.slice E2 n2 d2) (.slice E3 n3 d3) (.int .u64 R.1.ver)).heap[qa]? = some (.cells #[.int .i64 0, .string g2, .int .u64 av, .bool g4, .bool false] 38 (0, 0))) := ⟨put5_other (b := qa) (g := q) (by omega) (stay hb5 (show (World.drew wv).heap[qa]? = _ from HAv.out) (Array.getElem?_eq_some_iff.1 (show (World.drew wv).heap[qa]? = _ from HAv.out)).1) _ _ _ _ _⟩
                  have HB7 : Aside0 (Below w.heap.size w (put5 w5 q (.slice E0 n0 d0) (.slice E1 n1 d1) (.slice E2 n2 d2) (.slice E3 n3 d3) (.int .u64 R.1.ver))) := ⟨put5_below (HBv.out.drew.trans (hb5.mono HBv.out.drew.size)) (by omega) _ _ _ _ _⟩
                  clear XB5 hv5 hb5 hz0 hz1 hz2 hz3 hz4 hy0 hy1 hy2 hy3 hy4 HX HC HXL
                  change Code.wp _ _ _ _ (put5 w5 q (.slice E0 n0 d0) (.slice E1 n1 d1) (.slice E2 n2 d2) (.slice E3 n3 d3) (.int .u64 R.1.ver))
                  generalize put5 w5 q (.slice E0 n0 d0) (.slice E1 n1 d1) (.slice E2 n2 d2) (.slice E3 n3 d3) (.int .u64 R.1.ver) = W7 at *
                  obtain ⟨C0, f0, C1, f1, C2, f2, C3, f3, hX, ⟨ra, ra'⟩, ⟨rh, rh'⟩, _⟩ := XS7.out
                  obtain ⟨hs0, hs1, hs2, hs3, hs4⟩ := cells_5 hX
                  have HX7 := Aside0.mk hX
                  have ht0 := cell_row (cs := [.int .u64 ta, .int .u64 ti]) HT7.out 0
                  have ht1 := cell_row (cs := [.int .u64 ta, .int .u64 ti]) HT7.out 1
                  have HH := Aside0.mk (has12_calls C1 f1 R.1.holds ⟨ta, ti⟩ key false W7 rh rh')
                  have HROW := Aside0.mk ra
                  have HROC := Aside0.mk ra'
                  have HRL := Aside0.mk HIN.out.ok.rl
                  clear hX ra ra' rh rh'
                  dsimp only at *
                  cases hb : hasV R.1.holds ⟨ta, ti⟩ key false with
                  | false =>
                    rw [hb] at HH
                    go_wp2_with (go_at_call 18; refine (HH.out).mono ?_; rintro e w8 ⟨rfl, hb8⟩; have HB8 := Aside0.mk hb8; clear hb8)
                    go_ret
                    exact ⟨rfl, HB7.out.trans (HB8.out.mono HB7.out.size)⟩
                  | true =>
                    rw [hb] at HH
                    have HBT := Aside0.mk hb
                    have hg7 : getV R.1.rows key = (g1, g2, g3, g4) := by rw [← HG.out, getV_look, getV_look, HSTEP.out, HLK'.out]
                    have HGC := Aside0.mk (fun (W : World) (h : Below W7.heap.size W7 W) => get11_calls C0 f0 R.1.rows key g1 g2 g3 g4 W (Kd.C_below HROW.out h) HROC.out (by have := HRL.out; omega) hg7)
                    clear hb hg7
                    cases g4 with
                    | true =>
                      obtain rfl : g3 = av := by rw [← hav, if_pos rfl]
                      go_wp2_with (first
                        | (go_at_call 18; refine (HH.out).mono ?_; rintro e w8 ⟨rfl, hb8⟩; clear hs0 hs1 hs2 hs3 hs4 ht0 ht1; obtain ⟨hs0, hs1, hs2, hs3, hs4⟩ := cells_5 (stay hb8 HX7.out (Array.getElem?_eq_some_iff.1 HX7.out).1); have HB8 := Aside0.mk hb8; clear hb8)
                        | (go_at_call 16; refine (HGC.out _ HB8.out).mono ?_; rintro e w9 ⟨rfl, hb9'⟩; have hb9 := HB8.out.trans (hb9'.mono HB8.out.size); clear hs0 hs1 hs2 hs3 hs4; have hl9 := (Array.getElem?_eq_some_iff.1 (stay hb9 HA7.out (Array.getElem?_eq_some_iff.1 HA7.out).1)).1; obtain ⟨ha0, ha1, ha2, ha3, ha4⟩ := cells_5 (stay hb9 HA7.out (Array.getElem?_eq_some_iff.1 HA7.out).1); have HB9 := Aside0.mk hb9; clear hb9 hb9'))
                      go_roundg (more.length - (kk + 1))
                      case measure => omega
                      case rel => exact ⟨kk + 1, by omega, by omega, by go_num, ⟨(HB7.out.trans (HB9.out.mono HB7.out.size)).alloc (HB7.out.trans (HB9.out.mono HB7.out.size)).size _⟩, ⟨_, HIN.out, HBT.out, HSTEP.out.trans HLK'.out, (XS7.out.below HB9.out).below ((Below.refl _ _).alloc (Nat.le_refl _) _)⟩, ⟨stayA (stay HB9.out HT7.out (Array.getElem?_eq_some_iff.1 HT7.out).1) _⟩, ⟨stayA (stay HB9.out HA7.out (Array.getElem?_eq_some_iff.1 HA7.out).1) _⟩⟩
                    | false =>
                      go_wp2_with (first
                        | (go_at_call 18; refine (HH.out).mono ?_; rintro e w8 ⟨rfl, hb8⟩; clear hs0 hs1 hs2 hs3 hs4 ht0 ht1; obtain ⟨hs0, hs1, hs2, hs3, hs4⟩ := cells_5 (stay hb8 HX7.out (Array.getElem?_eq_some_iff.1 HX7.out).1); have HB8 := Aside0.mk hb8; clear hb8)
                        | (go_at_call 16; refine (HGC.out _ HB8.out).mono ?_; rintro e w9 ⟨rfl, hb9'⟩; have hb9 := HB8.out.trans (hb9'.mono HB8.out.size); clear hs0 hs1 hs2 hs3 hs4; have hl9 := (Array.getElem?_eq_some_iff.1 (stay hb9 HA7.out (Array.getElem?_eq_some_iff.1 HA7.out).1)).1; obtain ⟨ha0, ha1, ha2, ha3, ha4⟩ := cells_5 (stay hb9 HA7.out (Array.getElem?_eq_some_iff.1 HA7.out).1); have HB9 := Aside0.mk hb9; clear hb9 hb9'))
                      go_roundg (more.length - (kk + 1))
                      case measure => omega
                      case rel => exact ⟨kk + 1, by omega, by omega, by go_num, ⟨(HB7.out.trans (HB9.out.mono HB7.out.size)).alloc (HB7.out.trans (HB9.out.mono HB7.out.size)).size _⟩, ⟨_, HIN.out, HBT.out, HSTEP.out.trans HLK'.out, (XS7.out.below HB9.out).below ((Below.refl _ _).alloc (Nat.le_refl _) _)⟩, ⟨stayA (stay HB9.out HT7.out (Array.getElem?_eq_some_iff.1 HT7.out).1) _⟩, ⟨stayA (stay HB9.out HA7.out (Array.getElem?_eq_some_iff.1 HA7.out).1) _⟩⟩
          · have hltz : ¬ (kk : Int) < (more.length : Int) := by omega
            go_wp2
            go_ret
            exact ⟨rfl, HBr.out⟩
end Go.Proofs.Ytmcgcdpiceikeaa.PAll
end
