/- Joined texts of the claim ShardRight (part 50): contracts of functions and plain laws. -/
import Derived.BigQuiet
import Derived.BigRegion
import Derived.Deep.QuietTactic
import Derived.Outline
import Derived.Test.YtmcgcdpiceikeaaJShardRight14
import Derived.Test.YtmcgcdpiceikeaaJShardRight19
import Derived.Test.YtmcgcdpiceikeaaJShardRight24
import Derived.Test.YtmcgcdpiceikeaaJShardRight29
import Derived.Test.YtmcgcdpiceikeaaJShardRight32
import Derived.Test.YtmcgcdpiceikeaaJShardRight40
import Derived.Test.YtmcgcdpiceikeaaJShardRight43
import Derived.Test.YtmcgcdpiceikeaaJShardRight48
import Derived.Test.YtmcgcdpiceikeaaJShardRight49
section
/- Which shards are the same: ferruleref13.Same and shard.Same. -/
namespace Go.Proofs.Ytmcgcdpiceikeaa.PAll
open Go.RowKit Go.Proofs.YtmcgcdpiceikeaaW.PrintWords Go.Proofs.YtmcgcdpiceikeaaW.PrintMore Go.Proofs.Ytmcgcdpiceikeaa
set_option linter.unusedVariables false
set_option linter.unusedSimpArgs false
theorem samePutsG_calls (A : Option Addr) (c : Nat) (B : Option Addr) (d : Nat) (l m : List S54) (w : World) (hr : Kd.C k54 w A l.length l) (hc : l.length ≤ c) (hr2 : Kd.C k54 w B m.length m) (hc2 : m.length ≤ d) : Calls Try.prog 30 #[.slice A l.length c, .slice B m.length d] w fun e w' => e = .returned (.bool (samePutsV l m)) ∧ ∃ n, w' = w.drewN n := by
  have e := samePuts_ev l m hr.2.1
  obtain ⟨k, hk⟩ := e.rounds
  exact (ferruleref13_SamePuts.calls k A c l B d m _ w hr hc hr2 hc2 hk).mono fun e w' ⟨he, hd⟩ => ⟨he, hd.out⟩
theorem eqG_step {α : Type} [Inhabited α] {ne : α → α → Bool} {a b : List α} {k : Nat} (h : k < a.length) : eqG ne a b (a.length - k) k = (!ne a[k]! b[k]! && eqG ne a b (a.length - (k + 1)) (k + 1)) := by
  rw [show a.length - k = (a.length - (k + 1)) + 1 by omega]
  rfl
theorem eqL_len {α : Type} [Inhabited α] {ne : α → α → Bool} {a b : List α} (h : b.length = a.length) : eqL ne a b = eqG ne a b a.length 0 := by
  unfold eqL
  rw [decide_eq_true h.symm, Bool.true_and]
theorem eqL_nlen {α : Type} [Inhabited α] {ne : α → α → Bool} {a b : List α} (h : ¬ b.length = a.length) : eqL ne a b = false := by
  unfold eqL
  rw [decide_eq_false (fun e => h e.symm), Bool.false_and]
theorem neDone_def (x y : S68) : neDone x y = ((!(x.f0.f0 == y.f0.f0) || (!(x.f0.f1 == y.f0.f1))) || (!(x.f1 == y.f1))) := rfl
theorem Kd_C_len {α : Type} {k : Kd α} {w : World} {A : Option Addr} {n : Nat} {l : List α} (h : Kd.C k w A n l) (e : l.length = n) : Kd.C k w A l.length l := by rw [e]; exact h
set_option maxHeartbeats 4000000 in
set_option maxRecDepth 100000 in
theorem same13_len (A0 : Option Addr) (c0 : Nat) (A1 : Option Addr) (c1 : Nat) (A2 : Option Addr) (c2 : Nat) (A3 : Option Addr) (c3 : Nat) (B0 : Option Addr) (d0 : Nat) (B1 : Option Addr) (d1 : Nat) (B2 : Option Addr) (d2 : Nat) (B3 : Option Addr) (d3 : Nat) (rs : List S50) (hs : List S75) (os : List S48) (ds : List S68) (ver : Int) (rs' : List S50) (hs' : List S75) (os' : List S48) (ds' : List S68) (w : World)
    (a0 : Kd.C k50 w A0 rs.length rs) (a0' : rs.length ≤ c0) (a1 : Kd.C k75 w A1 hs.length hs) (a1' : hs.length ≤ c1) (a2 : Kd.C k48 w A2 os.length os) (a2' : os.length ≤ c2) (a3 : Kd.C k68 w A3 ds.length ds) (a3' : ds.length ≤ c3)
    (b0 : Kd.C k50 w B0 rs'.length rs') (b0' : rs'.length ≤ d0) (b1 : Kd.C k75 w B1 hs'.length hs') (b1' : hs'.length ≤ d1) (b2 : Kd.C k48 w B2 os.length os') (b2' : os.length ≤ d2) (b3 : Kd.C k68 w B3 ds.length ds') (b3' : ds.length ≤ d3) (hle : os'.length = os.length) (hld : ds'.length = ds.length) (lr : rs.length ≤ 9223372036854775800) (lh : hs.length ≤ 9223372036854775800) :
    Calls Try.prog 13 #[.agg #[.slice A0 rs.length c0, .slice A1 hs.length c1, .slice A2 os.length c2, .slice A3 ds.length c3, .int .u64 ver], .agg #[.slice B0 rs'.length d0, .slice B1 hs'.length d1, .slice B2 os.length d2, .slice B3 ds.length d3, .int .u64 ver]] w fun e w' => e = .returned (.bool (eqL neRow rs rs' && (eqL neHold hs hs' && (eqG neOpen os os' os.length 0 && eqG neDone ds ds' ds.length 0)))) ∧ Below w.heap.size w w' := by
  have hxa := stayA (heap_alloc_new w (.cells #[.slice A0 rs.length c0, .slice A1 hs.length c1, .slice A2 os.length c2, .slice A3 ds.length c3, .int .u64 ver] 28)) (.cells #[.slice B0 rs'.length d0, .slice B1 hs'.length d1, .slice B2 os.length d2, .slice B3 ds.length d3, .int .u64 ver] 28)
  have hxb := heap_alloc_new (w.alloc (.cells #[.slice A0 rs.length c0, .slice A1 hs.length c1, .slice A2 os.length c2, .slice A3 ds.length c3, .int .u64 ver] 28)) (.cells #[.slice B0 rs'.length d0, .slice B1 hs'.length d1, .slice B2 os.length d2, .slice B3 ds.length d3, .int .u64 ver] 28)
  rw [World.size_alloc] at hxb
  have HXA := Aside0.mk (fun (W : World) (h : Below ((w.alloc (.cells #[.slice A0 rs.length c0, .slice A1 hs.length c1, .slice A2 os.length c2, .slice A3 ds.length c3, .int .u64 ver] 28)).alloc (.cells #[.slice B0 rs'.length d0, .slice B1 hs'.length d1, .slice B2 os.length d2, .slice B3 ds.length d3, .int .u64 ver] 28)).heap.size ((w.alloc (.cells #[.slice A0 rs.length c0, .slice A1 hs.length c1, .slice A2 os.length c2, .slice A3 ds.length c3, .int .u64 ver] 28)).alloc (.cells #[.slice B0 rs'.length d0, .slice B1 hs'.length d1, .slice B2 os.length d2, .slice B3 ds.length d3, .int .u64 ver] 28)) W) => stay h hxa (Array.getElem?_eq_some_iff.1 hxa).1)
  have HXB := Aside0.mk (fun (W : World) (h : Below ((w.alloc (.cells #[.slice A0 rs.length c0, .slice A1 hs.length c1, .slice A2 os.length c2, .slice A3 ds.length c3, .int .u64 ver] 28)).alloc (.cells #[.slice B0 rs'.length d0, .slice B1 hs'.length d1, .slice B2 os.length d2, .slice B3 ds.length d3, .int .u64 ver] 28)).heap.size ((w.alloc (.cells #[.slice A0 rs.length c0, .slice A1 hs.length c1, .slice A2 os.length c2, .slice A3 ds.length c3, .int .u64 ver] 28)).alloc (.cells #[.slice B0 rs'.length d0, .slice B1 hs'.length d1, .slice B2 os.length d2, .slice B3 ds.length d3, .int .u64 ver] 28)) W) => stay h hxb (Array.getElem?_eq_some_iff.1 hxb).1)
  have HB0 := Aside0.mk (((Below.refl w.heap.size w).alloc (Nat.le_refl _) (.cells #[.slice A0 rs.length c0, .slice A1 hs.length c1, .slice A2 os.length c2, .slice A3 ds.length c3, .int .u64 ver] 28)).alloc (by simp) (.cells #[.slice B0 rs'.length d0, .slice B1 hs'.length d1, .slice B2 os.length d2, .slice B3 ds.length d3, .int .u64 ver] 28))
  have H11 := Aside0.mk (fun (W : World) (h : Below w.heap.size w W) => refRow_calls A0 B0 c0 d0 rs rs' W lr (Kd.C_below a0 h) a0' (Kd.C_below b0 h) b0')
  have H12 := Aside0.mk (fun (W : World) (h : Below w.heap.size w W) => refHold_calls A1 B1 c1 d1 hs hs' W lh (Kd.C_below a1 h) a1' (Kd.C_below b1 h) b1')
  have HA2 := Aside0.mk a2
  have HB2 := Aside0.mk b2
  have HA3 := Aside0.mk a3
  have HB3 := Aside0.mk b3
  have HLE := Aside0.mk hle
  have HLD := Aside0.mk hld
  have ho : os.length ≤ 9223372036854775807 := a2.2.1
  have hd : ds.length ≤ 9223372036854775807 := a3.2.1
  clear hxa hxb a0 a0' b0 b0' a1 a1' b1 b1' a2 b2 a2' b2' a3 b3 a3' b3' lr lh hle hld
  generalize eqL neRow rs rs' = e1 at *
  generalize eqL neHold hs hs' = e2 at *
  obtain ⟨ha0, ha1, ha2, ha3, ha4⟩ := cells_5 (HXA.out _ (Below.refl _ _))
  obtain ⟨hk0, hk1, hk2, hk3, hk4⟩ := cells_5 (HXB.out _ (Below.refl _ _))
  go_enter Try.func13, Try.ntmps13
  cases e1 with
  | false =>
    go_wp2_with (first
      | (go_at_call 17; refine (H11.out _ HB0.out).mono ?_; rintro e w3 ⟨rfl, hb3⟩; clear ha0 ha1 ha2 ha3 ha4 hk0 hk1 hk2 hk3 hk4; obtain ⟨ha0, ha1, ha2, ha3, ha4⟩ := cells_5 (HXA.out _ hb3); obtain ⟨hk0, hk1, hk2, hk3, hk4⟩ := cells_5 (HXB.out _ hb3); have HB3' := Aside0.mk hb3; clear hb3)
      | (go_at_call 29; refine (H12.out _ (HB0.out.trans (HB3'.out.mono HB0.out.size))).mono ?_; rintro e w4 ⟨rfl, hb4'⟩; have hb4x := HB3'.out.trans (hb4'.mono HB3'.out.size); clear ha0 ha1 ha2 ha3 ha4 hk0 hk1 hk2 hk3 hk4; obtain ⟨ha0, ha1, ha2, ha3, ha4⟩ := cells_5 (HXA.out _ hb4x); obtain ⟨hk0, hk1, hk2, hk3, hk4⟩ := cells_5 (HXB.out _ hb4x); have HB4 := Aside0.mk hb4x; clear hb4x hb4'))
    go_ret
    exact ⟨by first | done | rfl, HB0.out.trans (HB4.out.mono HB0.out.size)⟩

  | true =>
    cases e2 with
    | false =>
      go_wp2_with (first
        | (go_at_call 17; refine (H11.out _ HB0.out).mono ?_; rintro e w3 ⟨rfl, hb3⟩; clear ha0 ha1 ha2 ha3 ha4 hk0 hk1 hk2 hk3 hk4; obtain ⟨ha0, ha1, ha2, ha3, ha4⟩ := cells_5 (HXA.out _ hb3); obtain ⟨hk0, hk1, hk2, hk3, hk4⟩ := cells_5 (HXB.out _ hb3); have HB3' := Aside0.mk hb3; clear hb3)
        | (go_at_call 29; refine (H12.out _ (HB0.out.trans (HB3'.out.mono HB0.out.size))).mono ?_; rintro e w4 ⟨rfl, hb4'⟩; have hb4x := HB3'.out.trans (hb4'.mono HB3'.out.size); clear ha0 ha1 ha2 ha3 ha4 hk0 hk1 hk2 hk3 hk4; obtain ⟨ha0, ha1, ha2, ha3, ha4⟩ := cells_5 (HXA.out _ hb4x); obtain ⟨hk0, hk1, hk2, hk3, hk4⟩ := cells_5 (HXB.out _ hb4x); have HB4 := Aside0.mk hb4x; clear hb4x hb4'))
      go_ret
      exact ⟨by first | done | rfl, HB0.out.trans (HB4.out.mono HB0.out.size)⟩

    | true =>
      rw [Bool.true_and, Bool.true_and]
      go_wp2_with (first
        | (go_at_call 17; refine (H11.out _ HB0.out).mono ?_; rintro e w3 ⟨rfl, hb3⟩; clear ha0 ha1 ha2 ha3 ha4 hk0 hk1 hk2 hk3 hk4; obtain ⟨ha0, ha1, ha2, ha3, ha4⟩ := cells_5 (HXA.out _ hb3); obtain ⟨hk0, hk1, hk2, hk3, hk4⟩ := cells_5 (HXB.out _ hb3); have HB3' := Aside0.mk hb3; clear hb3)
        | (go_at_call 29; refine (H12.out _ (HB0.out.trans (HB3'.out.mono HB0.out.size))).mono ?_; rintro e w4 ⟨rfl, hb4'⟩; have hb4x := HB3'.out.trans (hb4'.mono HB3'.out.size); clear ha0 ha1 ha2 ha3 ha4 hk0 hk1 hk2 hk3 hk4; obtain ⟨ha0, ha1, ha2, ha3, ha4⟩ := cells_5 (HXA.out _ hb4x); obtain ⟨hk0, hk1, hk2, hk3, hk4⟩ := cells_5 (HXB.out _ hb4x); have HB4 := Aside0.mk hb4x; clear hb4x hb4'))
      clear ha0 ha1 ha2 ha3 ha4 hk0 hk1 hk2 hk3 hk4
      go_loopg [7] os.length (fun gg s7 wv => ∃ kk : Nat, kk ≤ os.length ∧ os.length - kk ≤ gg ∧ s7 = .int .i64 kk ∧ Aside0 (Below ((w.alloc (.cells #[.slice A0 rs.length c0, .slice A1 hs.length c1, .slice A2 os.length c2, .slice A3 ds.length c3, .int .u64 ver] 28)).alloc (.cells #[.slice B0 rs'.length d0, .slice B1 hs'.length d1, .slice B2 os.length d2, .slice B3 ds.length d3, .int .u64 ver] 28)).heap.size ((w.alloc (.cells #[.slice A0 rs.length c0, .slice A1 hs.length c1, .slice A2 os.length c2, .slice A3 ds.length c3, .int .u64 ver] 28)).alloc (.cells #[.slice B0 rs'.length d0, .slice B1 hs'.length d1, .slice B2 os.length d2, .slice B3 ds.length d3, .int .u64 ver] 28)) wv) ∧ Aside0 (eqG neOpen os os' os.length 0 = eqG neOpen os os' (os.length - kk) kk))
      case atStart => exact ⟨0, Nat.zero_le _, by omega, rfl, HB4, ⟨rfl⟩⟩
      case round =>
        obtain ⟨kk, hkk, hgk, rfl, HBv, HV⟩ := hrel
        obtain ⟨ha0, ha1, ha2, ha3, ha4⟩ := cells_5 (HXA.out _ HBv.out)
        obtain ⟨hk0, hk1, hk2, hk3, hk4⟩ := cells_5 (HXB.out _ HBv.out)
        have HBw := Aside0.mk (HB0.out.trans (HBv.out.mono HB0.out.size))
        by_cases hlt : kk < os.length
        · have hltz : (kk : Int) < (os.length : Int) := by omega
          have hkz : (0 : Int) ≤ (kk : Int) := by omega
          obtain ⟨xb, xo, rfl, P, pc, hp1, hp2, hx0, hx1, hx2, hx3, hx4⟩ := openRow (Kd.C_below HA2.out HBw.out) kk hlt
          obtain ⟨yb, yo, rfl, Q, qc, hq1, hq2, hy0, hy1, hy2, hy3, hy4⟩ := openRow (Kd.C_below (Kd_C_len HB2.out HLE.out) HBw.out) kk (by have := HLE.out; omega)
          have HST := Aside0.mk (HV.out.trans (eqG_step hlt))
          rw [show neOpen os[kk]! os'[kk]! = !sameOpenV os[kk]! os'[kk]! from rfl] at HST
          unfold sameOpenV sameTx at HST
          have HSP := Aside0.mk (fun n => samePutsG_calls P pc Q qc (os[kk]!).f3 (os'[kk]!).f3 (wr.drewN n) (Kd.C_below hp2 (pw_below_drewN (Below.refl _ _) n)) hp1 (Kd.C_below hq2 (pw_below_drewN (Below.refl _ _) n)) hq1)
          clear hp1 hp2 hq1 hq2
          generalize os[kk]! = x at *
          generalize os'[kk]! = y at *
          obtain ⟨⟨xa, xi⟩, xf, xw, xp⟩ := x
          obtain ⟨⟨ya, yi⟩, yf, yw, yp⟩ := y
          dsimp only at *
          generalize samePutsV xp yp = sp at *
          generalize xp.length = xn at *
          generalize yp.length = yn at *
          cases sp with
          | false =>
            have HNO : Aside0 (eqG neOpen os os' os.length 0 = false) := ⟨by rw [HST.out]; simp⟩
            go_wp2
            go_quiet ((go_at_call 30; exact Calls.quiet_of (HSP.out _)))
            go_wp2
            go_quiet (fail)
            go_wp2
            go_ret
            exact ⟨by rw [HNO.out]; first | done | rfl, pw_below_drewN (pw_below_drewN HBw.out _) _⟩
          | true =>
            by_cases ha : xa = ya
            · subst ha
              by_cases hi : xi = yi
              · subst hi
                by_cases hf : xf = yf
                · subst hf
                  by_cases hw : xw = yw
                  · subst hw
                    have HGO : Aside0 (eqG neOpen os os' os.length 0 = eqG neOpen os os' (os.length - (kk + 1)) (kk + 1)) := ⟨by rw [HST.out]; simp⟩
                    clear HST
                    go_wp2
                    go_quiet ((go_at_call 30; exact Calls.quiet_of (HSP.out _)))
                    go_wp2
                    go_quiet (fail)
                    go_wp2
                    go_roundg (os.length - (kk + 1))
                    case measure => omega
                    case rel => exact ⟨kk + 1, by omega, by omega, by go_num, ⟨by first | exact pw_below_drewN (pw_below_drewN HBv.out _) _ | exact pw_below_drewN HBv.out _⟩, HGO⟩
                  · have hwb : (xw == yw) = false := beq_eq_false_iff_ne.2 hw
                    have HNO : Aside0 (eqG neOpen os os' os.length 0 = false) := ⟨by rw [HST.out, hwb]; simp⟩
                    clear HST
                    go_wp2
                    go_quiet ((go_at_call 30; exact Calls.quiet_of (HSP.out _)))
                    go_wp2
                    go_quiet (fail)
                    go_wp2
                    go_ret
                    exact ⟨by rw [HNO.out]; first | done | rfl, by first | exact pw_below_drewN (pw_below_drewN HBw.out _) _ | exact pw_below_drewN HBw.out _⟩
                · have hfb : (xf == yf) = false := beq_eq_false_iff_ne.2 hf
                  have HNO : Aside0 (eqG neOpen os os' os.length 0 = false) := ⟨by rw [HST.out, hfb]; simp⟩
                  clear HST
                  go_wp2
                  go_quiet ((go_at_call 30; exact Calls.quiet_of (HSP.out _)))
                  go_wp2
                  go_quiet (fail)
                  go_wp2
                  go_ret
                  exact ⟨by rw [HNO.out]; first | done | rfl, by first | exact pw_below_drewN (pw_below_drewN HBw.out _) _ | exact pw_below_drewN HBw.out _⟩
              · have hib : (xi == yi) = false := beq_eq_false_iff_ne.2 hi
                have HNO : Aside0 (eqG neOpen os os' os.length 0 = false) := ⟨by rw [HST.out, hib]; simp⟩
                clear HST
                go_wp2
                go_quiet ((go_at_call 30; exact Calls.quiet_of (HSP.out _)))
                go_wp2
                go_quiet (fail)
                go_wp2
                go_ret
                exact ⟨by rw [HNO.out]; first | done | rfl, by first | exact pw_below_drewN (pw_below_drewN HBw.out _) _ | exact pw_below_drewN HBw.out _⟩
            · have hab : (xa == ya) = false := beq_eq_false_iff_ne.2 ha
              have HNO : Aside0 (eqG neOpen os os' os.length 0 = false) := ⟨by rw [HST.out, hab]; simp⟩
              clear HST
              go_wp2
              go_quiet ((go_at_call 30; exact Calls.quiet_of (HSP.out _)))
              go_wp2
              go_quiet (fail)
              go_wp2
              go_ret
              exact ⟨by rw [HNO.out]; first | done | rfl, by first | exact pw_below_drewN (pw_below_drewN HBw.out _) _ | exact pw_below_drewN HBw.out _⟩

        · have hltz : ¬ (kk : Int) < (os.length : Int) := by omega
          have HV1 : Aside0 (eqG neOpen os os' os.length 0 = true) := ⟨by rw [HV.out, show os.length - kk = 0 by omega]; rfl⟩
          clear HV
          go_wp2
          go_loopg [9] ds.length (fun gg s9 wu => ∃ jj : Nat, jj ≤ ds.length ∧ ds.length - jj ≤ gg ∧ s9 = .int .i64 jj ∧ Aside0 (Below ((w.alloc (.cells #[.slice A0 rs.length c0, .slice A1 hs.length c1, .slice A2 os.length c2, .slice A3 ds.length c3, .int .u64 ver] 28)).alloc (.cells #[.slice B0 rs'.length d0, .slice B1 hs'.length d1, .slice B2 os.length d2, .slice B3 ds.length d3, .int .u64 ver] 28)).heap.size ((w.alloc (.cells #[.slice A0 rs.length c0, .slice A1 hs.length c1, .slice A2 os.length c2, .slice A3 ds.length c3, .int .u64 ver] 28)).alloc (.cells #[.slice B0 rs'.length d0, .slice B1 hs'.length d1, .slice B2 os.length d2, .slice B3 ds.length d3, .int .u64 ver] 28)) wu) ∧ Aside0 (eqG neDone ds ds' ds.length 0 = eqG neDone ds ds' (ds.length - jj) jj))
          case atStart => exact ⟨0, Nat.zero_le _, by omega, rfl, HBv, ⟨rfl⟩⟩
          case round =>
            clear ha0 ha1 ha2 ha3 ha4 hk0 hk1 hk2 hk3 hk4
            obtain ⟨jj, hjj, hgj, rfl, HBu, HVD⟩ := hrel
            obtain ⟨ha0, ha1, ha2, ha3, ha4⟩ := cells_5 (HXA.out _ HBu.out)
            obtain ⟨hk0, hk1, hk2, hk3, hk4⟩ := cells_5 (HXB.out _ HBu.out)
            have HBx := Aside0.mk (HB0.out.trans (HBu.out.mono HB0.out.size))
            by_cases hlt2 : jj < ds.length
            · have hltz2 : (jj : Int) < (ds.length : Int) := by omega
              have hjz : (0 : Int) ≤ (jj : Int) := by omega
              obtain ⟨xb, xo, rfl, hx0, hx1, hx2⟩ := doneRow (Kd.C_below HA3.out HBx.out) jj hlt2
              obtain ⟨yb, yo, rfl, hy0, hy1, hy2⟩ := doneRow (Kd.C_below (Kd_C_len HB3.out HLD.out) HBx.out) jj (by have := HLD.out; omega)
              have HST := Aside0.mk (HVD.out.trans (eqG_step hlt2))
              rw [neDone_def] at HST
              generalize ds[jj]! = x at *
              generalize ds'[jj]! = y at *
              obtain ⟨⟨xa, xi⟩, xc⟩ := x
              obtain ⟨⟨ya, yi⟩, yc⟩ := y
              dsimp only at *
              by_cases ha : xa = ya
              · subst ha
                by_cases hi : xi = yi
                · subst hi
                  by_cases hf : xc = yc
                  · subst hf
                    have HGO : Aside0 (eqG neDone ds ds' ds.length 0 = eqG neDone ds ds' (ds.length - (jj + 1)) (jj + 1)) := ⟨by rw [HST.out]; simp⟩
                    clear HST
                    go_wp2
                    go_quiet (fail)
                    go_wp2
                    go_roundg (ds.length - (jj + 1))
                    case measure => omega
                    case rel => exact ⟨jj + 1, by omega, by omega, by go_num, ⟨pw_below_drewN HBu.out _⟩, HGO⟩
                  · have hfb : (xc == yc) = false := beq_eq_false_iff_ne.2 hf
                    have HNO : Aside0 (eqG neDone ds ds' ds.length 0 = false) := ⟨by rw [HST.out, hfb]; simp⟩
                    clear HST
                    go_wp2
                    go_quiet (fail)
                    go_wp2
                    go_ret
                    exact ⟨by rw [HV1.out, HNO.out]; first | done | rfl, pw_below_drewN HBx.out _⟩
                · have hib : (xi == yi) = false := beq_eq_false_iff_ne.2 hi
                  have HNO : Aside0 (eqG neDone ds ds' ds.length 0 = false) := ⟨by rw [HST.out, hib]; simp⟩
                  clear HST
                  go_wp2
                  go_quiet (fail)
                  go_wp2
                  go_ret
                  exact ⟨by rw [HV1.out, HNO.out]; first | done | rfl, pw_below_drewN HBx.out _⟩
              · have hab : (xa == ya) = false := beq_eq_false_iff_ne.2 ha
                have HNO : Aside0 (eqG neDone ds ds' ds.length 0 = false) := ⟨by rw [HST.out, hab]; simp⟩
                clear HST
                go_wp2
                go_quiet (fail)
                go_wp2
                go_ret
                exact ⟨by rw [HV1.out, HNO.out]; first | done | rfl, pw_below_drewN HBx.out _⟩

            · have hltz2 : ¬ (jj : Int) < (ds.length : Int) := by omega
              have HD1 : Aside0 (eqG neDone ds ds' ds.length 0 = true) := ⟨by rw [HVD.out, show ds.length - jj = 0 by omega]; rfl⟩
              go_wp2
              go_ret
              exact ⟨by rw [HV1.out, HD1.out]; first | done | rfl, HBx.out⟩

set_option maxHeartbeats 4000000 in
set_option maxRecDepth 100000 in
theorem same13_other (A0 : Option Addr) (c0 : Nat) (A1 : Option Addr) (c1 : Nat) (A2 : Option Addr) (c2 : Nat) (A3 : Option Addr) (c3 : Nat) (B0 : Option Addr) (d0 : Nat) (B1 : Option Addr) (d1 : Nat) (B2 : Option Addr) (d2 : Nat) (B3 : Option Addr) (d3 : Nat) (rs : List S50) (hs : List S75) (os : List S48) (ds : List S68) (ver : Int) (rs' : List S50) (hs' : List S75) (os' : List S48) (ds' : List S68) (ver' : Int) (w : World)
    (a0 : Kd.C k50 w A0 rs.length rs) (a0' : rs.length ≤ c0) (a1 : Kd.C k75 w A1 hs.length hs) (a1' : hs.length ≤ c1) (a2 : Kd.C k48 w A2 os.length os) (a2' : os.length ≤ c2) (a3 : Kd.C k68 w A3 ds.length ds) (a3' : ds.length ≤ c3)
    (b0 : Kd.C k50 w B0 rs'.length rs') (b0' : rs'.length ≤ d0) (b1 : Kd.C k75 w B1 hs'.length hs') (b1' : hs'.length ≤ d1) (b2 : Kd.C k48 w B2 os'.length os') (b2' : os'.length ≤ d2) (b3 : Kd.C k68 w B3 ds'.length ds') (b3' : ds'.length ≤ d3) (hne : ver ≠ ver' ∨ os'.length ≠ os.length ∨ ds'.length ≠ ds.length) (lr : rs.length ≤ 9223372036854775800) (lh : hs.length ≤ 9223372036854775800) :
    Calls Try.prog 13 #[.agg #[.slice A0 rs.length c0, .slice A1 hs.length c1, .slice A2 os.length c2, .slice A3 ds.length c3, .int .u64 ver], .agg #[.slice B0 rs'.length d0, .slice B1 hs'.length d1, .slice B2 os'.length d2, .slice B3 ds'.length d3, .int .u64 ver']] w fun e w' => e = .returned (.bool false) ∧ Below w.heap.size w w' := by
  have hxa := stayA (heap_alloc_new w (.cells #[.slice A0 rs.length c0, .slice A1 hs.length c1, .slice A2 os.length c2, .slice A3 ds.length c3, .int .u64 ver] 28)) (.cells #[.slice B0 rs'.length d0, .slice B1 hs'.length d1, .slice B2 os'.length d2, .slice B3 ds'.length d3, .int .u64 ver'] 28)
  have hxb := heap_alloc_new (w.alloc (.cells #[.slice A0 rs.length c0, .slice A1 hs.length c1, .slice A2 os.length c2, .slice A3 ds.length c3, .int .u64 ver] 28)) (.cells #[.slice B0 rs'.length d0, .slice B1 hs'.length d1, .slice B2 os'.length d2, .slice B3 ds'.length d3, .int .u64 ver'] 28)
  rw [World.size_alloc] at hxb
  have HXA := Aside0.mk (fun (W : World) (h : Below ((w.alloc (.cells #[.slice A0 rs.length c0, .slice A1 hs.length c1, .slice A2 os.length c2, .slice A3 ds.length c3, .int .u64 ver] 28)).alloc (.cells #[.slice B0 rs'.length d0, .slice B1 hs'.length d1, .slice B2 os'.length d2, .slice B3 ds'.length d3, .int .u64 ver'] 28)).heap.size ((w.alloc (.cells #[.slice A0 rs.length c0, .slice A1 hs.length c1, .slice A2 os.length c2, .slice A3 ds.length c3, .int .u64 ver] 28)).alloc (.cells #[.slice B0 rs'.length d0, .slice B1 hs'.length d1, .slice B2 os'.length d2, .slice B3 ds'.length d3, .int .u64 ver'] 28)) W) => stay h hxa (Array.getElem?_eq_some_iff.1 hxa).1)
  have HXB := Aside0.mk (fun (W : World) (h : Below ((w.alloc (.cells #[.slice A0 rs.length c0, .slice A1 hs.length c1, .slice A2 os.length c2, .slice A3 ds.length c3, .int .u64 ver] 28)).alloc (.cells #[.slice B0 rs'.length d0, .slice B1 hs'.length d1, .slice B2 os'.length d2, .slice B3 ds'.length d3, .int .u64 ver'] 28)).heap.size ((w.alloc (.cells #[.slice A0 rs.length c0, .slice A1 hs.length c1, .slice A2 os.length c2, .slice A3 ds.length c3, .int .u64 ver] 28)).alloc (.cells #[.slice B0 rs'.length d0, .slice B1 hs'.length d1, .slice B2 os'.length d2, .slice B3 ds'.length d3, .int .u64 ver'] 28)) W) => stay h hxb (Array.getElem?_eq_some_iff.1 hxb).1)
  have HB0 := Aside0.mk (((Below.refl w.heap.size w).alloc (Nat.le_refl _) (.cells #[.slice A0 rs.length c0, .slice A1 hs.length c1, .slice A2 os.length c2, .slice A3 ds.length c3, .int .u64 ver] 28)).alloc (by simp) (.cells #[.slice B0 rs'.length d0, .slice B1 hs'.length d1, .slice B2 os'.length d2, .slice B3 ds'.length d3, .int .u64 ver'] 28))
  have H11 := Aside0.mk (fun (W : World) (h : Below w.heap.size w W) => refRow_calls A0 B0 c0 d0 rs rs' W lr (Kd.C_below a0 h) a0' (Kd.C_below b0 h) b0')
  have H12 := Aside0.mk (fun (W : World) (h : Below w.heap.size w W) => refHold_calls A1 B1 c1 d1 hs hs' W lh (Kd.C_below a1 h) a1' (Kd.C_below b1 h) b1')
  have ho : os.length ≤ 9223372036854775807 := a2.2.1
  have hd : ds.length ≤ 9223372036854775807 := a3.2.1
  have ho2 : os'.length ≤ 9223372036854775807 := b2.2.1
  have hd2 : ds'.length ≤ 9223372036854775807 := b3.2.1
  clear hxa hxb a0 a0' b0 b0' a1 a1' b1 b1' a2 b2 a2' b2' a3 b3 a3' b3' lr lh
  generalize eqL neRow rs rs' = e1 at *
  generalize eqL neHold hs hs' = e2 at *
  obtain ⟨ha0, ha1, ha2, ha3, ha4⟩ := cells_5 (HXA.out _ (Below.refl _ _))
  obtain ⟨hk0, hk1, hk2, hk3, hk4⟩ := cells_5 (HXB.out _ (Below.refl _ _))
  go_enter Try.func13, Try.ntmps13
  cases e1 with
  | false =>
    go_wp2_with (first
      | (go_at_call 17; refine (H11.out _ HB0.out).mono ?_; rintro e w3 ⟨rfl, hb3⟩; clear ha0 ha1 ha2 ha3 ha4 hk0 hk1 hk2 hk3 hk4; obtain ⟨ha0, ha1, ha2, ha3, ha4⟩ := cells_5 (HXA.out _ hb3); obtain ⟨hk0, hk1, hk2, hk3, hk4⟩ := cells_5 (HXB.out _ hb3); have HB3' := Aside0.mk hb3; clear hb3)
      | (go_at_call 29; refine (H12.out _ (HB0.out.trans (HB3'.out.mono HB0.out.size))).mono ?_; rintro e w4 ⟨rfl, hb4'⟩; have hb4x := HB3'.out.trans (hb4'.mono HB3'.out.size); clear ha0 ha1 ha2 ha3 ha4 hk0 hk1 hk2 hk3 hk4; obtain ⟨ha0, ha1, ha2, ha3, ha4⟩ := cells_5 (HXA.out _ hb4x); obtain ⟨hk0, hk1, hk2, hk3, hk4⟩ := cells_5 (HXB.out _ hb4x); have HB4 := Aside0.mk hb4x; clear hb4x hb4'))
    go_ret
    exact ⟨by first | done | rfl, HB0.out.trans (HB4.out.mono HB0.out.size)⟩

  | true =>
    cases e2 with
    | false =>
      go_wp2_with (first
        | (go_at_call 17; refine (H11.out _ HB0.out).mono ?_; rintro e w3 ⟨rfl, hb3⟩; clear ha0 ha1 ha2 ha3 ha4 hk0 hk1 hk2 hk3 hk4; obtain ⟨ha0, ha1, ha2, ha3, ha4⟩ := cells_5 (HXA.out _ hb3); obtain ⟨hk0, hk1, hk2, hk3, hk4⟩ := cells_5 (HXB.out _ hb3); have HB3' := Aside0.mk hb3; clear hb3)
        | (go_at_call 29; refine (H12.out _ (HB0.out.trans (HB3'.out.mono HB0.out.size))).mono ?_; rintro e w4 ⟨rfl, hb4'⟩; have hb4x := HB3'.out.trans (hb4'.mono HB3'.out.size); clear ha0 ha1 ha2 ha3 ha4 hk0 hk1 hk2 hk3 hk4; obtain ⟨ha0, ha1, ha2, ha3, ha4⟩ := cells_5 (HXA.out _ hb4x); obtain ⟨hk0, hk1, hk2, hk3, hk4⟩ := cells_5 (HXB.out _ hb4x); have HB4 := Aside0.mk hb4x; clear hb4x hb4'))
      go_ret
      exact ⟨by first | done | rfl, HB0.out.trans (HB4.out.mono HB0.out.size)⟩

    | true =>
      by_cases hv : ver = ver'
      · subst hv
        generalize os.length = n1 at *
        generalize os'.length = n2 at *
        generalize ds.length = m1 at *
        generalize ds'.length = m2 at *
        by_cases hn : n2 = n1
        · subst hn
          have hm : ¬ (m1 : Int) = (m2 : Int) := by
            rcases hne with h | h | h
            · exact absurd rfl h
            · exact absurd rfl h
            · omega
          have hmb : ((m1 : Int) != (m2 : Int)) = true := bne_iff_ne.2 hm
          go_wp2_with (first
            | (go_at_call 17; refine (H11.out _ HB0.out).mono ?_; rintro e w3 ⟨rfl, hb3⟩; clear ha0 ha1 ha2 ha3 ha4 hk0 hk1 hk2 hk3 hk4; obtain ⟨ha0, ha1, ha2, ha3, ha4⟩ := cells_5 (HXA.out _ hb3); obtain ⟨hk0, hk1, hk2, hk3, hk4⟩ := cells_5 (HXB.out _ hb3); have HB3' := Aside0.mk hb3; clear hb3)
            | (go_at_call 29; refine (H12.out _ (HB0.out.trans (HB3'.out.mono HB0.out.size))).mono ?_; rintro e w4 ⟨rfl, hb4'⟩; have hb4x := HB3'.out.trans (hb4'.mono HB3'.out.size); clear ha0 ha1 ha2 ha3 ha4 hk0 hk1 hk2 hk3 hk4; obtain ⟨ha0, ha1, ha2, ha3, ha4⟩ := cells_5 (HXA.out _ hb4x); obtain ⟨hk0, hk1, hk2, hk3, hk4⟩ := cells_5 (HXB.out _ hb4x); have HB4 := Aside0.mk hb4x; clear hb4x hb4'))
          go_ret
          exact ⟨by first | done | rfl, HB0.out.trans (HB4.out.mono HB0.out.size)⟩

        · have hnz : ¬ (n1 : Int) = (n2 : Int) := by omega
          have hnb : ((n1 : Int) != (n2 : Int)) = true := bne_iff_ne.2 hnz
          go_wp2_with (first
            | (go_at_call 17; refine (H11.out _ HB0.out).mono ?_; rintro e w3 ⟨rfl, hb3⟩; clear ha0 ha1 ha2 ha3 ha4 hk0 hk1 hk2 hk3 hk4; obtain ⟨ha0, ha1, ha2, ha3, ha4⟩ := cells_5 (HXA.out _ hb3); obtain ⟨hk0, hk1, hk2, hk3, hk4⟩ := cells_5 (HXB.out _ hb3); have HB3' := Aside0.mk hb3; clear hb3)
            | (go_at_call 29; refine (H12.out _ (HB0.out.trans (HB3'.out.mono HB0.out.size))).mono ?_; rintro e w4 ⟨rfl, hb4'⟩; have hb4x := HB3'.out.trans (hb4'.mono HB3'.out.size); clear ha0 ha1 ha2 ha3 ha4 hk0 hk1 hk2 hk3 hk4; obtain ⟨ha0, ha1, ha2, ha3, ha4⟩ := cells_5 (HXA.out _ hb4x); obtain ⟨hk0, hk1, hk2, hk3, hk4⟩ := cells_5 (HXB.out _ hb4x); have HB4 := Aside0.mk hb4x; clear hb4x hb4'))
          go_ret
          exact ⟨by first | done | rfl, HB0.out.trans (HB4.out.mono HB0.out.size)⟩

      · have hvb : (ver != ver') = true := bne_iff_ne.2 hv
        go_wp2_with (first
          | (go_at_call 17; refine (H11.out _ HB0.out).mono ?_; rintro e w3 ⟨rfl, hb3⟩; clear ha0 ha1 ha2 ha3 ha4 hk0 hk1 hk2 hk3 hk4; obtain ⟨ha0, ha1, ha2, ha3, ha4⟩ := cells_5 (HXA.out _ hb3); obtain ⟨hk0, hk1, hk2, hk3, hk4⟩ := cells_5 (HXB.out _ hb3); have HB3' := Aside0.mk hb3; clear hb3)
          | (go_at_call 29; refine (H12.out _ (HB0.out.trans (HB3'.out.mono HB0.out.size))).mono ?_; rintro e w4 ⟨rfl, hb4'⟩; have hb4x := HB3'.out.trans (hb4'.mono HB3'.out.size); clear ha0 ha1 ha2 ha3 ha4 hk0 hk1 hk2 hk3 hk4; obtain ⟨ha0, ha1, ha2, ha3, ha4⟩ := cells_5 (HXA.out _ hb4x); obtain ⟨hk0, hk1, hk2, hk3, hk4⟩ := cells_5 (HXB.out _ hb4x); have HB4 := Aside0.mk hb4x; clear hb4x hb4'))
        go_ret
        exact ⟨by first | done | rfl, HB0.out.trans (HB4.out.mono HB0.out.size)⟩


theorem same13r_calls (A0 : Option Addr) (c0 : Nat) (A1 : Option Addr) (c1 : Nat) (A2 : Option Addr) (c2 : Nat) (A3 : Option Addr) (c3 : Nat) (B0 : Option Addr) (d0 : Nat) (B1 : Option Addr) (d1 : Nat) (B2 : Option Addr) (d2 : Nat) (B3 : Option Addr) (d3 : Nat) (rs : List S50) (hs : List S75) (os : List S48) (ds : List S68) (ver : Int) (rs' : List S50) (hs' : List S75) (os' : List S48) (ds' : List S68) (ver' : Int) (w : World)
    (a0 : Kd.C k50 w A0 rs.length rs) (a0' : rs.length ≤ c0) (a1 : Kd.C k75 w A1 hs.length hs) (a1' : hs.length ≤ c1) (a2 : Kd.C k48 w A2 os.length os) (a2' : os.length ≤ c2) (a3 : Kd.C k68 w A3 ds.length ds) (a3' : ds.length ≤ c3)
    (b0 : Kd.C k50 w B0 rs'.length rs') (b0' : rs'.length ≤ d0) (b1 : Kd.C k75 w B1 hs'.length hs') (b1' : hs'.length ≤ d1) (b2 : Kd.C k48 w B2 os'.length os') (b2' : os'.length ≤ d2) (b3 : Kd.C k68 w B3 ds'.length ds') (b3' : ds'.length ≤ d3) (lr : rs.length ≤ 9223372036854775800) (lh : hs.length ≤ 9223372036854775800) :
    Calls Try.prog 13 #[.agg #[.slice A0 rs.length c0, .slice A1 hs.length c1, .slice A2 os.length c2, .slice A3 ds.length c3, .int .u64 ver], .agg #[.slice B0 rs'.length d0, .slice B1 hs'.length d1, .slice B2 os'.length d2, .slice B3 ds'.length d3, .int .u64 ver']] w fun e w' => e = .returned (.bool (same13V rs hs os ds ver rs' hs' os' ds' ver')) ∧ Below w.heap.size w w' := by
  by_cases hne : ver ≠ ver' ∨ os'.length ≠ os.length ∨ ds'.length ≠ ds.length
  · have hv : same13V rs hs os ds ver rs' hs' os' ds' ver' = false := by
      unfold same13V
      rcases hne with h | h | h
      · rw [beq_eq_false_iff_ne.2 h, Bool.false_and]
      · rw [eqL_nlen (a := os) (b := os') h]; simp
      · rw [eqL_nlen (a := ds) (b := ds') h]; simp
    rw [hv]
    exact same13_other A0 c0 A1 c1 A2 c2 A3 c3 B0 d0 B1 d1 B2 d2 B3 d3 rs hs os ds ver rs' hs' os' ds' ver' w a0 a0' a1 a1' a2 a2' a3 a3' b0 b0' b1 b1' b2 b2' b3 b3' hne lr lh
  · have h1 : ver = ver' := Classical.byContradiction fun h => hne (Or.inl h)
    have h2 : os'.length = os.length := Classical.byContradiction fun h => hne (Or.inr (Or.inl h))
    have h3 : ds'.length = ds.length := Classical.byContradiction fun h => hne (Or.inr (Or.inr h))
    subst h1
    unfold same13V
    rw [eqL_len h2, eqL_len h3, h2, h3, show (ver == ver) = true from beq_self_eq_true ver, Bool.true_and]
    rw [h2] at b2 b2'
    rw [h3] at b3 b3'
    exact same13_len A0 c0 A1 c1 A2 c2 A3 c3 B0 d0 B1 d1 B2 d2 B3 d3 rs hs os ds ver rs' hs' os' ds' w a0 a0' a1 a1' a2 a2' a3 a3' b0 b0' b1 b1' b2 b2' b3 b3' h2 h3 lr lh
set_option maxHeartbeats 4000000 in
set_option maxRecDepth 100000 in
theorem same13c_calls (A0 : Option Addr) (c0 : Nat) (A1 : Option Addr) (c1 : Nat) (A2 : Option Addr) (c2 : Nat) (A3 : Option Addr) (c3 : Nat) (B0 : Option Addr) (d0 : Nat) (B1 : Option Addr) (d1 : Nat) (B2 : Option Addr) (d2 : Nat) (B3 : Option Addr) (d3 : Nat) (rs : List S50) (hs : List S75) (os : List S48) (ds : List S68) (ver : Int) (rs' : List S50) (hs' : List S75) (os' : List S48) (ds' : List S68) (ver' : Int) (w : World)
    (a0 : Kd.C k50 w A0 rs.length rs) (a0' : rs.length ≤ c0) (a1 : Kd.C k75 w A1 hs.length hs) (a1' : hs.length ≤ c1) (a2 : Kd.C k48 w A2 os.length os) (a2' : os.length ≤ c2) (a3 : Kd.C k68 w A3 ds.length ds) (a3' : ds.length ≤ c3)
    (b0 : Kd.C k50 w B0 rs'.length rs') (b0' : rs'.length ≤ d0) (b1 : Kd.C k75 w B1 hs'.length hs') (b1' : hs'.length ≤ d1) (b2 : Kd.C k48 w B2 os'.length os') (b2' : os'.length ≤ d2) (b3 : Kd.C k68 w B3 ds'.length ds') (b3' : ds'.length ≤ d3) (lr : rs.length ≤ 9223372036854775800) (lh : hs.length ≤ 9223372036854775800) (ld : ds.length ≤ 9223372036854775800) :
    Calls Try.prog 20 #[.agg #[.slice A0 rs.length c0, .slice A1 hs.length c1, .slice A2 os.length c2, .slice A3 ds.length c3, .int .u64 ver], .agg #[.slice B0 rs'.length d0, .slice B1 hs'.length d1, .slice B2 os'.length d2, .slice B3 ds'.length d3, .int .u64 ver']] w fun e w' => e = .returned (.bool (same13V rs hs os ds ver rs' hs' os' ds' ver')) ∧ Below w.heap.size w w' := by
  have hxa := stayA (heap_alloc_new w (.cells #[.slice A0 rs.length c0, .slice A1 hs.length c1, .slice A2 os.length c2, .slice A3 ds.length c3, .int .u64 ver] 28)) (.cells #[.slice B0 rs'.length d0, .slice B1 hs'.length d1, .slice B2 os'.length d2, .slice B3 ds'.length d3, .int .u64 ver'] 28)
  have hxb := heap_alloc_new (w.alloc (.cells #[.slice A0 rs.length c0, .slice A1 hs.length c1, .slice A2 os.length c2, .slice A3 ds.length c3, .int .u64 ver] 28)) (.cells #[.slice B0 rs'.length d0, .slice B1 hs'.length d1, .slice B2 os'.length d2, .slice B3 ds'.length d3, .int .u64 ver'] 28)
  rw [World.size_alloc] at hxb
  have HXA := Aside0.mk (fun (W : World) (h : Below ((w.alloc (.cells #[.slice A0 rs.length c0, .slice A1 hs.length c1, .slice A2 os.length c2, .slice A3 ds.length c3, .int .u64 ver] 28)).alloc (.cells #[.slice B0 rs'.length d0, .slice B1 hs'.length d1, .slice B2 os'.length d2, .slice B3 ds'.length d3, .int .u64 ver'] 28)).heap.size ((w.alloc (.cells #[.slice A0 rs.length c0, .slice A1 hs.length c1, .slice A2 os.length c2, .slice A3 ds.length c3, .int .u64 ver] 28)).alloc (.cells #[.slice B0 rs'.length d0, .slice B1 hs'.length d1, .slice B2 os'.length d2, .slice B3 ds'.length d3, .int .u64 ver'] 28)) W) => stay h hxa (Array.getElem?_eq_some_iff.1 hxa).1)
  have HXB := Aside0.mk (fun (W : World) (h : Below ((w.alloc (.cells #[.slice A0 rs.length c0, .slice A1 hs.length c1, .slice A2 os.length c2, .slice A3 ds.length c3, .int .u64 ver] 28)).alloc (.cells #[.slice B0 rs'.length d0, .slice B1 hs'.length d1, .slice B2 os'.length d2, .slice B3 ds'.length d3, .int .u64 ver'] 28)).heap.size ((w.alloc (.cells #[.slice A0 rs.length c0, .slice A1 hs.length c1, .slice A2 os.length c2, .slice A3 ds.length c3, .int .u64 ver] 28)).alloc (.cells #[.slice B0 rs'.length d0, .slice B1 hs'.length d1, .slice B2 os'.length d2, .slice B3 ds'.length d3, .int .u64 ver'] 28)) W) => stay h hxb (Array.getElem?_eq_some_iff.1 hxb).1)
  have HB0 := Aside0.mk (((Below.refl w.heap.size w).alloc (Nat.le_refl _) (.cells #[.slice A0 rs.length c0, .slice A1 hs.length c1, .slice A2 os.length c2, .slice A3 ds.length c3, .int .u64 ver] 28)).alloc (by simp) (.cells #[.slice B0 rs'.length d0, .slice B1 hs'.length d1, .slice B2 os'.length d2, .slice B3 ds'.length d3, .int .u64 ver'] 28))
  have H11 := Aside0.mk (fun (W : World) (h : Below w.heap.size w W) => codRow_calls A0 B0 c0 d0 rs rs' W lr (Kd.C_below a0 h) a0' (Kd.C_below b0 h) b0')
  have H12 := Aside0.mk (fun (W : World) (h : Below w.heap.size w W) => codHold_calls A1 B1 c1 d1 hs hs' W lh (Kd.C_below a1 h) a1' (Kd.C_below b1 h) b1')
  have H13 := Aside0.mk (fun (W : World) (h : Below w.heap.size w W) => equalFuncOpen A2 B2 c2 d2 os os' W (Kd.C_below a2 h) a2' (Kd.C_below b2 h) b2')
  have H14 := Aside0.mk (fun (W : World) (h : Below w.heap.size w W) => codDone_calls A3 B3 c3 d3 ds ds' W ld (Kd.C_below a3 h) a3' (Kd.C_below b3 h) b3')
  clear hxa hxb a0 a0' b0 b0' a1 a1' b1 b1' a2 b2 a2' b2' a3 b3 a3' b3' lr lh ld
  unfold same13V
  generalize eqL neRow rs rs' = e1 at *
  generalize eqL neHold hs hs' = e2 at *
  generalize eqL neOpen os os' = e3 at *
  generalize eqL neDone ds ds' = e4 at *
  obtain ⟨ha0, ha1, ha2, ha3, ha4⟩ := cells_5 (HXA.out _ (Below.refl _ _))
  obtain ⟨hk0, hk1, hk2, hk3, hk4⟩ := cells_5 (HXB.out _ (Below.refl _ _))
  go_enter Try.func20, Try.ntmps20
  by_cases hv : ver = ver'
  · subst hv
    rw [show (ver == ver) = true from beq_self_eq_true ver, Bool.true_and]
    cases e1 with
    | false =>
      go_wp2_with (first
        | (go_at_call 47; refine (H11.out _ HB0.out).mono ?_; rintro e wHB5 ⟨rfl, hbn⟩; have hbm := hbn; clear ha0 ha1 ha2 ha3 ha4 hk0 hk1 hk2 hk3 hk4; obtain ⟨ha0, ha1, ha2, ha3, ha4⟩ := cells_5 (HXA.out _ hbm); obtain ⟨hk0, hk1, hk2, hk3, hk4⟩ := cells_5 (HXB.out _ hbm); have HB5 := Aside0.mk hbm; clear hbn hbm))
      go_ret
      exact ⟨by first | done | rfl, HB0.out.trans (HB5.out.mono HB0.out.size)⟩

    | true =>
      cases e2 with
      | false =>
        go_wp2_with (first
          | (go_at_call 47; refine (H11.out _ HB0.out).mono ?_; rintro e wHB5 ⟨rfl, hbn⟩; have hbm := hbn; clear ha0 ha1 ha2 ha3 ha4 hk0 hk1 hk2 hk3 hk4; obtain ⟨ha0, ha1, ha2, ha3, ha4⟩ := cells_5 (HXA.out _ hbm); obtain ⟨hk0, hk1, hk2, hk3, hk4⟩ := cells_5 (HXB.out _ hbm); have HB5 := Aside0.mk hbm; clear hbn hbm)
          | (go_at_call 48; refine (H12.out _ (HB0.out.trans (HB5.out.mono HB0.out.size))).mono ?_; rintro e wHB6 ⟨rfl, hbn⟩; have hbm := (HB5.out.trans (hbn.mono HB5.out.size)); clear ha0 ha1 ha2 ha3 ha4 hk0 hk1 hk2 hk3 hk4; obtain ⟨ha0, ha1, ha2, ha3, ha4⟩ := cells_5 (HXA.out _ hbm); obtain ⟨hk0, hk1, hk2, hk3, hk4⟩ := cells_5 (HXB.out _ hbm); have HB6 := Aside0.mk hbm; clear hbn hbm))
        go_ret
        exact ⟨by first | done | rfl, HB0.out.trans (HB6.out.mono HB0.out.size)⟩

      | true =>
        cases e3 with
        | false =>
          go_wp2_with (first
            | (go_at_call 47; refine (H11.out _ HB0.out).mono ?_; rintro e wHB5 ⟨rfl, hbn⟩; have hbm := hbn; clear ha0 ha1 ha2 ha3 ha4 hk0 hk1 hk2 hk3 hk4; obtain ⟨ha0, ha1, ha2, ha3, ha4⟩ := cells_5 (HXA.out _ hbm); obtain ⟨hk0, hk1, hk2, hk3, hk4⟩ := cells_5 (HXB.out _ hbm); have HB5 := Aside0.mk hbm; clear hbn hbm)
            | (go_at_call 48; refine (H12.out _ (HB0.out.trans (HB5.out.mono HB0.out.size))).mono ?_; rintro e wHB6 ⟨rfl, hbn⟩; have hbm := (HB5.out.trans (hbn.mono HB5.out.size)); clear ha0 ha1 ha2 ha3 ha4 hk0 hk1 hk2 hk3 hk4; obtain ⟨ha0, ha1, ha2, ha3, ha4⟩ := cells_5 (HXA.out _ hbm); obtain ⟨hk0, hk1, hk2, hk3, hk4⟩ := cells_5 (HXB.out _ hbm); have HB6 := Aside0.mk hbm; clear hbn hbm)
            | (go_at_call 49; refine (H13.out _ (HB0.out.trans (HB6.out.mono HB0.out.size))).mono ?_; rintro e wHB7 ⟨rfl, hbn⟩; have hbm := (HB6.out.trans (hbn.mono HB6.out.size)); clear ha0 ha1 ha2 ha3 ha4 hk0 hk1 hk2 hk3 hk4; obtain ⟨ha0, ha1, ha2, ha3, ha4⟩ := cells_5 (HXA.out _ hbm); obtain ⟨hk0, hk1, hk2, hk3, hk4⟩ := cells_5 (HXB.out _ hbm); have HB7 := Aside0.mk hbm; clear hbn hbm))
          go_ret
          exact ⟨by first | done | rfl, HB0.out.trans (HB7.out.mono HB0.out.size)⟩

        | true =>
          go_wp2_with (first
            | (go_at_call 47; refine (H11.out _ HB0.out).mono ?_; rintro e wHB5 ⟨rfl, hbn⟩; have hbm := hbn; clear ha0 ha1 ha2 ha3 ha4 hk0 hk1 hk2 hk3 hk4; obtain ⟨ha0, ha1, ha2, ha3, ha4⟩ := cells_5 (HXA.out _ hbm); obtain ⟨hk0, hk1, hk2, hk3, hk4⟩ := cells_5 (HXB.out _ hbm); have HB5 := Aside0.mk hbm; clear hbn hbm)
            | (go_at_call 48; refine (H12.out _ (HB0.out.trans (HB5.out.mono HB0.out.size))).mono ?_; rintro e wHB6 ⟨rfl, hbn⟩; have hbm := (HB5.out.trans (hbn.mono HB5.out.size)); clear ha0 ha1 ha2 ha3 ha4 hk0 hk1 hk2 hk3 hk4; obtain ⟨ha0, ha1, ha2, ha3, ha4⟩ := cells_5 (HXA.out _ hbm); obtain ⟨hk0, hk1, hk2, hk3, hk4⟩ := cells_5 (HXB.out _ hbm); have HB6 := Aside0.mk hbm; clear hbn hbm)
            | (go_at_call 49; refine (H13.out _ (HB0.out.trans (HB6.out.mono HB0.out.size))).mono ?_; rintro e wHB7 ⟨rfl, hbn⟩; have hbm := (HB6.out.trans (hbn.mono HB6.out.size)); clear ha0 ha1 ha2 ha3 ha4 hk0 hk1 hk2 hk3 hk4; obtain ⟨ha0, ha1, ha2, ha3, ha4⟩ := cells_5 (HXA.out _ hbm); obtain ⟨hk0, hk1, hk2, hk3, hk4⟩ := cells_5 (HXB.out _ hbm); have HB7 := Aside0.mk hbm; clear hbn hbm)
            | (go_at_call 50; refine (H14.out _ (HB0.out.trans (HB7.out.mono HB0.out.size))).mono ?_; rintro e wHB8 ⟨rfl, hbn⟩; have hbm := (HB7.out.trans (hbn.mono HB7.out.size)); clear ha0 ha1 ha2 ha3 ha4 hk0 hk1 hk2 hk3 hk4; obtain ⟨ha0, ha1, ha2, ha3, ha4⟩ := cells_5 (HXA.out _ hbm); obtain ⟨hk0, hk1, hk2, hk3, hk4⟩ := cells_5 (HXB.out _ hbm); have HB8 := Aside0.mk hbm; clear hbn hbm))
          go_ret
          exact ⟨by first | done | rfl, HB0.out.trans (HB8.out.mono HB0.out.size)⟩

  · have hvb : (ver == ver') = false := beq_eq_false_iff_ne.2 hv
    rw [hvb]
    go_wp2
    go_ret
    exact ⟨by first | done | rfl, HB0.out⟩

end Go.Proofs.Ytmcgcdpiceikeaa.PAll
end
