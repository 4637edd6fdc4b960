/- Joined texts of the claim ShardRight (part 42): contracts of functions and plain laws. -/
import Derived.Test.YtmcgcdpiceikeaaJShardRight41
section
/- ferruleref13.Keys with no puts, by hand. -/
namespace Go.Proofs.Ytmcgcdpiceikeaa.PAll
open Go.RowKit Go.Proofs.YtmcgcdpiceikeaaW.PrintWords Go.Proofs.YtmcgcdpiceikeaaW.PrintMore Go.Proofs.Ytmcgcdpiceikeaa
set_option linter.unusedVariables false
set_option linter.unusedSimpArgs false
/-- A list of texts. -/
def KL (w : World) (v : Value) (l : List ByteArray) : Prop := Kd.V Kd.string 9 w 0 (fun _ => True) v l
theorem KL.below {w w' : World} {v : Value} {l : List ByteArray} (h : KL w v l) (hb : Below w.heap.size w w') : KL w' v l := Kd.V_below h hb
theorem with13_calls (A : Option Addr) (c : Nat) (l : List ByteArray) (k : ByteArray) (w : World) (h : KL w (.slice A l.length c) l) (hl : l.length < 8796093022208) :
    Calls Try.prog 72 #[.slice A l.length c, .string k] w fun e w' => ∃ v, e = .returned v ∧ KL w' v (withV l k) ∧ Below w.heap.size w w' := by
  obtain ⟨q, hq⟩ := (with_ev l k hl).rounds
  refine (ferruleref13_with.calls q (fun _ => True) A c l k (withV l k) w h hq).mono ?_
  rintro e w' ⟨v, rfl, h1, h2⟩
  exact ⟨v, rfl, Kd.V_mono h1 (fun _ _ => trivial), h2⟩
theorem withV_le (l : List ByteArray) (k : ByteArray) : (withV l k).length ≤ l.length + 1 := by
  unfold withV
  split <;> simp
set_option maxHeartbeats 2000000 in
set_option maxRecDepth 100000 in
theorem keys13_calls (A0 : Option Addr) (c0 : Nat) (v1 : Value) (A2 : Option Addr) (c2 : Nat) (v3 : Value) (rs : List S50) (os : List S48) (ver : Int) (w : World) (hr0 : Kd.C k50 w A0 rs.length rs) (hr2 : Kd.C k48 w A2 os.length os) (hc : rs.length + openCount os < 8796093022208) :
    Calls Try.prog 33 #[.agg #[.slice A0 rs.length c0, v1, .slice A2 os.length c2, v3, .int .u64 ver], .slice none 0 0] w fun e w' => e = .returned (.int .i64 (keysV rs os [] : Nat)) ∧ Below w.heap.size w w' := by
  have hn2 : os.length ≤ 9223372036854775807 := hr2.2.1
  have hxa := heap_alloc_new w (.cells #[.slice A0 rs.length c0, v1, .slice A2 os.length c2, v3, .int .u64 ver] 28)
  have HB0 := Aside0.mk ((Below.refl w.heap.size w).alloc (Nat.le_refl _) (.cells #[.slice A0 rs.length c0, v1, .slice A2 os.length c2, v3, .int .u64 ver] 28))
  have HR0 := Aside0.mk hr0
  have HR2 := Aside0.mk hr2
  clear hr0 hr2
  go_enter Try.func33, Try.ntmps33
  go_wp2
  generalize w.alloc (.cells #[.slice A0 rs.length c0, v1, .slice A2 os.length c2, v3, .int .u64 ver] 28) = W1 at *
  have HXA := Aside0.mk (fun (W : World) (h : Below W1.heap.size W1 W) => stay h hxa (Array.getElem?_eq_some_iff.1 hxa).1)
  clear hxa
  go_loopg [5, 6] rs.length (fun gg s5 s6 wv => ∃ kk : Nat, kk ≤ rs.length ∧ rs.length - kk ≤ gg ∧ s6 = .int .i64 kk ∧ Aside0 (KL wv s5 (rowKeys (rs.take kk))) ∧ Aside0 ((rowKeys (rs.take kk)).length ≤ kk) ∧ Aside0 (Below W1.heap.size W1 wv))
  case atStart => exact ⟨0, Nat.zero_le _, by omega, rfl, ⟨Kd.V_nil _ _ _ _ _⟩, ⟨Nat.le_refl _⟩, ⟨Below.refl _ _⟩⟩
  case round =>
    obtain ⟨kk, hkk, hgk, rfl, HK, HL, HBv⟩ := hrel
    obtain ⟨ha0, ha1, ha2, ha3, ha4⟩ := cells_5 (HXA.out _ HBv.out)
    have HBw := Aside0.mk (HB0.out.trans (HBv.out.mono HB0.out.size))
    obtain ⟨KA, kc, rfl, hkA⟩ := HK.out
    by_cases hlt : kk < rs.length
    · have hltz : (kk : Int) < (rs.length : Int) := by omega
      have hkz : (0 : Int) ≤ (kk : Int) := by omega
      obtain ⟨xb, xo, rfl, hx0, hx1, hx2⟩ := rowRow (Kd.C_below HR0.out HBw.out) kk hlt
      have HW := Aside0.mk (with13_calls KA kc (rowKeys (rs.take kk)) (rs[kk]!).f0 wr HK.out (by have := HL.out; omega))
      have HL2 := Aside0.mk (withV_le (rowKeys (rs.take kk)) (rs[kk]!).f0)
      rw [← rowKeys_step rs kk hlt] at HW HL2
      clear hkA
      generalize (rs[kk]!).f0 = key at *
      go_wp2_with (go_at_call 72; refine HW.out.mono ?_; rintro e w3 ⟨v3_, rfl, hv3, hb3⟩; have HV3 := Aside0.mk hv3; have HB3 := Aside0.mk hb3; clear hv3 hb3)
      go_roundg (rs.length - (kk + 1))
      case measure => omega
      case rel => exact ⟨kk + 1, by omega, by omega, by go_num, HV3, ⟨by have := HL.out; have := HL2.out; omega⟩, ⟨HBv.out.trans (HB3.out.mono HBv.out.size)⟩⟩
    · have hltz : ¬ (kk : Int) < (rs.length : Int) := by omega
      obtain rfl : kk = rs.length := by omega
      have HK0 := HK
      have HL0 := HL
      rw [List.take_length] at HK0 HL0
      clear HK HL hkA hgk hkk
      generalize hac : rowKeys rs = ac at *
      go_wp2
      go_loopg [5, 7] os.length (fun gg s5 s7 wv => ∃ kk : Nat, kk ≤ os.length ∧ os.length - kk ≤ gg ∧ s7 = .int .i64 kk ∧ Aside0 (KL wv s5 (openKeys ac (os.take kk))) ∧ Aside0 ((openKeys ac (os.take kk)).length ≤ rs.length + openCount (os.take kk)) ∧ Aside0 (Below W1.heap.size W1 wv))
      case atStart => exact ⟨0, Nat.zero_le _, by omega, rfl, HK0, ⟨by rw [List.take_zero]; exact Nat.le_trans HL0.out (Nat.le_add_right _ _)⟩, HBv⟩
      case round =>
        clear ha0 ha1 ha2 ha3 ha4 HBw HK0 HBv
        obtain ⟨kk, hkk, hgk, rfl, HK, HL, HBv⟩ := hrel
        obtain ⟨ha0, ha1, ha2, ha3, ha4⟩ := cells_5 (HXA.out _ HBv.out)
        have HBw := Aside0.mk (HB0.out.trans (HBv.out.mono HB0.out.size))
        obtain ⟨KA, kc, rfl, hkA⟩ := HK.out
        clear hkA
        by_cases hlt2 : kk < os.length
        · have hltz2 : (kk : Int) < (os.length : Int) := by omega
          have hkz : (0 : Int) ≤ (kk : Int) := by omega
          have HCL := Aside0.mk (openCount_le os kk hlt2)
          have HST := Aside0.mk (openKeys_step ac os kk hlt2)
          have HCS := Aside0.mk (openCount_step os kk hlt2)
          obtain ⟨xb, xo, rfl, P, pc, hp1, hp2, hx0, hx1, hx2, hx3, hx4⟩ := openRow (Kd.C_below HR2.out HBw.out) kk hlt2
          have HX := Aside0.mk (And.intro hx0 (And.intro hx1 (And.intro hx2 (And.intro hx3 hx4))))
          have HP := Aside0.mk hp2
          clear hx0 hx1 hx2 hx3 hx4 hp1 hp2
          generalize os[kk]! = x at *
          obtain ⟨⟨xa, xi⟩, xf, xw, xp⟩ := x
          dsimp only at HX HP HST HCL HCS
          have hxp : xp.length ≤ 9223372036854775807 := HP.out.2.1
          go_wp2
          go_loopg [5, 8] xp.length (fun gg s5 s8 wv => ∃ jj : Nat, jj ≤ xp.length ∧ xp.length - jj ≤ gg ∧ (xf = true ∨ jj = 0) ∧ s8 = .int .i64 jj ∧ Aside0 (KL wv s5 (addPuts (openKeys ac (os.take kk)) (xp.take jj))) ∧ Aside0 ((addPuts (openKeys ac (os.take kk)) (xp.take jj)).length ≤ rs.length + openCount (os.take kk) + jj) ∧ Aside0 (Below wr.heap.size wr wv))
          case atStart => exact ⟨0, Nat.zero_le _, by omega, Or.inr rfl, rfl, HK, HL, ⟨Below.refl _ _⟩⟩
          case round =>
            clear ha0 ha1 ha2 ha3 ha4
            have HWR := HBv
            clear HBv HK
            obtain ⟨jj, hjj, hgj, hfj, rfl, HK, HL3, HBu⟩ := hrel
            have HBz := Aside0.mk (HWR.out.trans (HBu.out.mono HWR.out.size))
            obtain ⟨ha0, ha1, ha2, ha3, ha4⟩ := cells_5 (HXA.out _ HBz.out)
            obtain ⟨z0, z1, z2, z3, z4⟩ := HX.out
            have hx2 := (HBu.out.cell (World.block_lt_of_cell? _ _ z2)).trans z2
            have hx4 := (HBu.out.cell (World.block_lt_of_cell? _ _ z4)).trans z4
            clear z0 z1 z2 z3 z4
            obtain ⟨KB, kd, rfl, hkB⟩ := HK.out
            clear hkB
            have HBo := Aside0.mk (HB0.out.trans (HBz.out.mono HB0.out.size))
            cases xf with
            | true =>
              by_cases hlt3 : jj < xp.length
              · have hltz3 : (jj : Int) < (xp.length : Int) := by omega
                have hjz : (0 : Int) ≤ (jj : Int) := by omega
                obtain ⟨yb, yo, rfl, hy0, hy1, hy2⟩ := putCells (Kd.C_below HP.out HBu.out) jj hlt3
                have HAS := Aside0.mk (addPuts_step (openKeys ac (os.take kk)) xp jj hlt3)
                have HW := Aside0.mk (with13_calls KB kd (addPuts (openKeys ac (os.take kk)) (xp.take jj)) (xp[jj]!).f0 wr HK.out (by have := HL3.out; have := HCL.out; omega))
                have HL4 := Aside0.mk (withV_le (addPuts (openKeys ac (os.take kk)) (xp.take jj)) (xp[jj]!).f0)
                generalize xp[jj]! = p at *
                obtain ⟨pk, pv, pd⟩ := p
                dsimp only at *
                cases pd with
                | true =>
                  go_wp2
                  go_roundg (xp.length - (jj + 1))
                  case measure => omega
                  case rel => exact ⟨jj + 1, by omega, by omega, Or.inl (by trivial), by go_num, ⟨by rw [HAS.out]; exact HK.out⟩, ⟨by rw [HAS.out]; have := HL3.out; exact Nat.le_trans this (by omega)⟩, HBu⟩
                | false =>
                  go_wp2_with (go_at_call 72; refine HW.out.mono ?_; rintro e w3 ⟨v3_, rfl, hv3, hb3⟩; have HV3 := Aside0.mk hv3; have HB3 := Aside0.mk hb3; clear hv3 hb3)
                  go_roundg (xp.length - (jj + 1))
                  case measure => omega
                  case rel => exact ⟨jj + 1, by omega, by omega, Or.inl (by trivial), by go_num, ⟨by rw [HAS.out]; exact HV3.out⟩, ⟨by rw [HAS.out]; have := HL3.out; have := HL4.out; exact Nat.le_trans this (by omega)⟩, ⟨HBu.out.trans (HB3.out.mono HBu.out.size)⟩⟩
              · have hltz3 : ¬ (jj : Int) < (xp.length : Int) := by omega
                obtain rfl : jj = xp.length := by omega
                go_wp2
                go_roundg (os.length - (kk + 1))
                case measure => omega
                case rel => exact ⟨kk + 1, by omega, by omega, by go_num, ⟨by rw [HST.out]; have := HK.out; rw [List.take_length] at this; exact this⟩, ⟨by rw [HST.out, HCS.out]; have := HL3.out; rw [List.take_length] at this; exact Nat.le_trans this (by omega)⟩, HBz⟩
            | false =>
              obtain rfl : jj = 0 := by rcases hfj with h | h; cases h; exact h
              by_cases hz : xp.length = 0
              · have hltz3 : ¬ (0 : Int) < (xp.length : Int) := by omega
                go_wp2
                go_roundg (os.length - (kk + 1))
                case measure => omega
                case rel => exact ⟨kk + 1, by omega, by omega, by go_num, ⟨by rw [HST.out]; exact HK.out⟩, ⟨by rw [HST.out, HCS.out]; have := HL.out; exact Nat.le_trans this (by omega)⟩, HBz⟩
              · have hltz3 : (0 : Int) < (xp.length : Int) := by omega
                go_wp2
                go_roundg (os.length - (kk + 1))
                case measure => omega
                case rel => exact ⟨kk + 1, by omega, by omega, by go_num, ⟨by rw [HST.out]; exact HK.out⟩, ⟨by rw [HST.out, HCS.out]; have := HL.out; exact Nat.le_trans this (by omega)⟩, HBz⟩
        · have hltz2 : ¬ (kk : Int) < (os.length : Int) := by omega
          obtain rfl : kk = os.length := by omega
          go_wp2
          go_loopg [5, 9] 0 (fun gg s5 s9 wv => s5 = .slice KA (openKeys ac os).length kc ∧ s9 = .int .i64 0 ∧ wv = wr)
          case atStart => exact ⟨rfl, rfl, rfl⟩
          case round =>
            obtain ⟨rfl, rfl, rfl⟩ := hrel
            go_wp2
            go_ret
            refine ⟨?_, HBw.out⟩
            rw [← hac]
            rfl
end Go.Proofs.Ytmcgcdpiceikeaa.PAll
end
