/- Joined texts of the claim RowsKeeps (part 48): contracts of functions and plain laws. -/
import Derived.BigQuiet
import Derived.Deep.QuietTactic
import Derived.Outline
import Derived.Test.YthfkbfahpgdnfaaJRowsKeeps28
import Derived.Test.YthfkbfahpgdnfaaJRowsKeeps37
import Derived.Test.YthfkbfahpgdnfaaJRowsKeeps38
import Derived.Test.YthfkbfahpgdnfaaJRowsKeeps41
import Derived.Test.YthfkbfahpgdnfaaJRowsKeeps42
import Derived.Test.YthfkbfahpgdnfaaJRowsKeeps45
import Derived.Test.YthfkbfahpgdnfaaJRowsKeeps46
import Derived.Test.YthfkbfahpgdnfaaJRowsKeeps47
section
/- A right list stays so under puts: the law walked. -/
namespace Go.Proofs.Ythfkbfahpgdnfaa.PAll
open Go.RowKit Go.Proofs.YthfkbfahpgdnfaaW.PrintWords Go.Proofs.YthfkbfahpgdnfaaW.PrintMore Go.Proofs.Ythfkbfahpgdnfaa
set_option linter.unusedVariables false
theorem shown11_calls (w : World) : Calls Try.prog 30 #[] w fun e w' => e = .returned (.bool true) ∧ Below w.heap.size w w' := by
  obtain ⟨k, h⟩ := shown11_ok
  exact ferrulelaw11_shown.calls k true w h
theorem right11_calls (A : Option Addr) (c : Nat) (l : List S64) (w : World) (hr : Kd.C k64 w A l.length l) (hc : l.length ≤ c) (hs : ∀ x ∈ l, x.f0.size ≤ 9223372036854775806) : Calls Try.prog 41 #[.slice A l.length c] w fun e w' => e = .returned (.bool (rightR l)) ∧ Below w.heap.size w w' := by
  obtain ⟨k, h⟩ := (rRight_ev l hs).rounds
  exact ferruleref11_Right.calls k A c l _ w hr hc h
theorem all11_calls (A : Option Addr) (c : Nat) (l : List S64) (B : Option Addr) (d : Nat) (p : List S52) (ver : Int) (w : World) (hr : Kd.C k64 w A l.length l) (hc : l.length ≤ c) (hr2 : Kd.C k52 w B p.length p) (hc2 : p.length ≤ d) (hl : l.length < 3518437208800) :
    Calls Try.prog 36 #[.slice A l.length c, .slice B p.length d, .int .u64 ver] w fun e w' => ∃ A2 c2, e = .returned (.tuple #[.slice A2 (allV l p ver).1.length c2, .int .i64 (allV l p ver).2]) ∧ (allV l p ver).1.length ≤ c2 ∧ Kd.C k64 w' A2 (allV l p ver).1.length (allV l p ver).1 ∧ Below w.heap.size w w' := by
  obtain ⟨k, h⟩ := (All_ev l p ver hl).rounds
  refine (rows_All.calls k A c l B d p ver _ _ w hr hc hr2 hc2 h).mono ?_
  rintro e w' ⟨v0, rfl, ho, hb⟩
  obtain ⟨A2, c2, rfl, hc, hC⟩ := Kd.R_reads ho
  exact ⟨A2, c2, rfl, hc, hC, hb⟩
theorem get11_calls (A : Option Addr) (c : Nat) (l : List S64) (k : ByteArray) (w : World) (hr : Kd.C k64 w A l.length l) (hc : l.length ≤ c) : Calls Try.prog 38 #[.slice A l.length c, .string k] w fun e w' => e = .returned (.tuple #[.agg #[.string (getV l k).1, .string (getV l k).2.1, .int .u64 (getV l k).2.2.1], .bool (getV l k).2.2.2]) ∧ Below w.heap.size w w' :=
  rows_Get.calls A c l k _ _ _ _ w hr hc (Get_eq l k)
set_option maxHeartbeats 4000000 in
set_option maxRecDepth 100000 in
theorem keeps_not (A : Option Addr) (c : Nat) (l : List S64) (B : Option Addr) (d : Nat) (p : List S52) (ver : Int) (key : ByteArray) (w : World) (hr : Kd.C k64 w A l.length l) (hc : l.length ≤ c) (hr2 : Kd.C k52 w B p.length p) (hc2 : p.length ≤ d) (hl : l.length < 3518437208800) (hs : ∀ x ∈ l, x.f0.size ≤ 9223372036854775806)
    (hn : rightR l = false ∨ (rightR l = true ∧ (allV l p ver).2 ≠ 0) ∨ (rightR l = true ∧ (allV l p ver).2 = 0 ∧ 4611686018427387903 < ver)) :
    Calls Try.prog 11 #[.agg #[.slice A l.length c, .slice B p.length d, .int .u64 ver, .string key]] w fun e w' => e = .returned (.bool true) ∧ Below w.heap.size w w' := by
  have HA := Aside0.mk (Below.alloc (Below.refl w.heap.size w) (Nat.le_refl _) (.cells #[.slice A l.length c, .slice B p.length d, .int .u64 ver, .string key] 70))
  have HS := Aside0.mk (fun W => shown11_calls W)
  have HR := Aside0.mk (fun W (hW : Below w.heap.size w W) => right11_calls A c l W (Kd.C_below hr hW) hc hs)
  have HL := Aside0.mk (fun W (hW : Below w.heap.size w W) => all11_calls A c l B d p ver W (Kd.C_below hr hW) hc (Kd.C_below hr2 hW) hc2 hl)
  clear hr hc hr2 hc2 hs
  generalize rightR l = b at *
  generalize (allV l p ver).1 = m at *
  generalize (allV l p ver).2 = e2 at *
  rcases hn with rfl | ⟨rfl, hn⟩ | ⟨rfl, rfl, hn⟩
  all_goals
    go_enter Try.func11, Try.ntmps11
    go_wp2_with (first
      | (go_at_call 30; refine (HS.out _).mono ?_; rintro e w1 ⟨rfl, hb1⟩; have HB1 := Aside0.mk (HA.out.trans (hb1.mono HA.out.size)); clear hb1)
      | (go_at_call 41; refine (HR.out _ HB1.out).mono ?_; rintro e w2 ⟨rfl, hb2⟩; have HB2 := Aside0.mk (HB1.out.trans (hb2.mono HB1.out.size)); clear hb2)
      | (go_at_call 36; refine (HL.out _ HB2.out).mono ?_; rintro e w3 ⟨A2, c2, rfl, hc2, hC2, hb3⟩; have HB3 := Aside0.mk (HB2.out.trans (hb3.mono HB2.out.size)); clear hb3))
    go_ret
    exact ⟨rfl, HB3.out⟩
theorem keeps_get {l : List S64} {p : List S52} {ver : Int} (hr : rightR l = true) (hv : ver ≤ 4611686018427387903) (he : (allV l p ver).2 = 0) (j : Nat) (hj : j < p.length) :
    getV (allV l p ver).1 (p[j]!).f0 = if (p[j]!).f2 = true then (⟨#[]⟩, ⟨#[]⟩, 0, false) else ((p[j]!).f0, (p[j]!).f1, ver, true) := by
  obtain ⟨h1, h2, h3, h4⟩ := allV_right l p ver hr hv he
  rw [getV_look, h2 _ (get_mem p j hj)]
  cases (p[j]!).f2 <;> rfl
theorem keeps_same {l : List S64} {p : List S52} {ver : Int} (hr : rightR l = true) (hv : ver ≤ 4611686018427387903) (he : (allV l p ver).2 = 0) (key : ByteArray) (hno : ∀ x ∈ p, x.f0.toList ≠ key.toList) : getV (allV l p ver).1 key = getV l key := by
  obtain ⟨h1, h2, h3, h4⟩ := allV_right l p ver hr hv he
  rw [getV_look, getV_look, h3 key hno]
set_option maxHeartbeats 4000000 in
set_option maxRecDepth 100000 in
theorem keeps_yes (A : Option Addr) (c : Nat) (l : List S64) (B : Option Addr) (d : Nat) (p : List S52) (ver : Int) (key : ByteArray) (w : World) (hr : Kd.C k64 w A l.length l) (hc : l.length ≤ c) (hr2 : Kd.C k52 w B p.length p) (hc2 : p.length ≤ d) (hl : l.length < 3518437208800) (hp : p.length < 3518437208800) (hs : ∀ x ∈ l, x.f0.size ≤ 9223372036854775806)
    (hright : rightR l = true) (hver : ver ≤ 4611686018427387903) (he : (allV l p ver).2 = 0) :
    Calls Try.prog 11 #[.agg #[.slice A l.length c, .slice B p.length d, .int .u64 ver, .string key]] w fun e w' => e = .returned (.bool true) ∧ Below w.heap.size w w' := by
  have HA := Aside0.mk (Below.alloc (Below.refl w.heap.size w) (Nat.le_refl _) (.cells #[.slice A l.length c, .slice B p.length d, .int .u64 ver, .string key] 70))
  have HS := Aside0.mk (fun W => shown11_calls W)
  have HR : Aside0 (∀ W, Below w.heap.size w W → Calls Try.prog 41 #[.slice A l.length c] W fun e w' => e = .returned (.bool true) ∧ Below W.heap.size W w') := ⟨fun W (hW : Below w.heap.size w W) => by
    have := right11_calls A c l W (Kd.C_below hr hW) hc hs
    rw [hright] at this
    exact this⟩
  have HL : Aside0 (∀ W, Below w.heap.size w W → Calls Try.prog 36 #[.slice A l.length c, .slice B p.length d, .int .u64 ver] W fun e w' => ∃ A2 c2, e = .returned (.tuple #[.slice A2 (allV l p ver).1.length c2, .int .i64 0]) ∧ (allV l p ver).1.length ≤ c2 ∧ Kd.C k64 w' A2 (allV l p ver).1.length (allV l p ver).1 ∧ Below W.heap.size W w') := ⟨fun W (hW : Below w.heap.size w W) => by
    have := all11_calls A c l B d p ver W (Kd.C_below hr hW) hc (Kd.C_below hr2 hW) hc2 hl
    rw [he] at this
    exact this⟩
  have hall := allV_right l p ver hright hver he
  have HR2 : Aside0 (∀ (A2 : Option Addr) (c2 : Nat) (W : World), (allV l p ver).1.length ≤ c2 → Kd.C k64 W A2 (allV l p ver).1.length (allV l p ver).1 → Calls Try.prog 41 #[.slice A2 (allV l p ver).1.length c2] W fun e w' => e = .returned (.bool true) ∧ Below W.heap.size W w') := ⟨fun A2 c2 W h1 h2 => by
    have := right11_calls A2 c2 _ W h2 h1 (fun x hx => by
      have := (((rightR_iff _).1 hall.1).2.1 x hx).2.1
      omega)
    rw [hall.1] at this
    exact this⟩
  have HGL := Aside0.mk (fun W (hW : Below w.heap.size w W) => get11_calls A c l key W (Kd.C_below hr hW) hc)
  have HGET := Aside0.mk (keeps_get hright hver he)
  have HSAME := Aside0.mk (keeps_same hright hver he key)
  have HRP := Aside0.mk hr2
  have HCP := Aside0.mk hc2
  clear hr hc hr2 hc2 hs hall he hright
  generalize (allV l p ver).1 = m at *
  have HGM := Aside0.mk (fun (A2 : Option Addr) (c2 : Nat) (k : ByteArray) (W : World) (h1 : m.length ≤ c2) (h2 : Kd.C k64 W A2 m.length m) => get11_calls A2 c2 m k W h2 h1)
  go_enter Try.func11, Try.ntmps11
  go_wp2_with (first
    | (go_at_call 30; refine (HS.out _).mono ?_; rintro e w1 ⟨rfl, hb1⟩; have HB1 := Aside0.mk (HA.out.trans (hb1.mono HA.out.size)); clear hb1)
    | (go_at_call 41; with_reducible refine (HR.out _ HB1.out).mono ?_; rintro e w2 ⟨rfl, hb2⟩; have HB2 := Aside0.mk (HB1.out.trans (hb2.mono HB1.out.size)); clear hb2)
    | (go_at_call 36; refine (HL.out _ HB2.out).mono ?_; rintro e w3 ⟨A2, c2, rfl, hc2, hC2, hb3⟩; have HB3 := Aside0.mk (HB2.out.trans (hb3.mono HB2.out.size)); have HC2 := Aside0.mk hc2; have HM3 := Aside0.mk hC2; clear hb3 hc2 hC2)
    | (go_at_call 41; refine (HR2.out A2 c2 _ HC2.out HM3.out).mono ?_; rintro e w4 ⟨rfl, hb4⟩; have HB4 := Aside0.mk (HB3.out.trans (hb4.mono HB3.out.size)); have HM4 := Aside0.mk (Kd.C_below HM3.out hb4); clear hb4))
  go_loopg [12, 13] p.length (fun gg s12 s13 wr => ∃ (kk : Nat) (nb : Bool), kk ≤ p.length ∧ p.length - kk ≤ gg ∧ s13 = .int .i64 kk ∧ s12 = .bool nb ∧ Aside0 (Below w.heap.size w wr) ∧ Aside0 (Kd.C k64 wr A2 m.length m) ∧ Aside0 (nb = false → ∀ j, j < kk → (p[j]!).f0.toList ≠ key.toList))
  case atStart => exact ⟨0, false, Nat.zero_le _, by omega, rfl, rfl, HB4, HM4, ⟨fun _ j hj => by omega⟩⟩
  case round =>
    obtain ⟨kk, nb, hkk, hg, rfl, rfl, BW, CM, NB⟩ := hrel
    by_cases hlt : kk < p.length
    · have hltz : (kk : Int) < (p.length : Int) := by omega
      obtain ⟨b, o, rfl, hrow⟩ := C_row (Kd.C_below HRP.out BW.out) (by decide) (by omega)
      obtain ⟨cs, hcs, hK, hrg⟩ := hrow kk hlt
      obtain rfl := flat52.openK _ _ _ hK
      have hc0_ : wr.cell? ⟨b, o + kk * 3, none⟩ = some (.string (p[kk]!).f0) := hrg 0 _ rfl
      have hc1_ : wr.cell? ⟨b, o + kk * 3 + 1, none⟩ = some (.string (p[kk]!).f1) := hrg 1 _ rfl
      have hc2_ : wr.cell? ⟨b, o + kk * 3 + 2, none⟩ = some (.bool (p[kk]!).f2) := hrg 2 _ rfl
      have HX := Aside0.mk (HGET.out kk hlt)
      have hbl := World.block_lt_of_cell? wr _ hc0_
      clear hrow hrg hK hcs HRP
      generalize hxk : p[kk]! = x at *
      obtain ⟨x0, x1, x2⟩ := x
      dsimp only at hc0_ hc1_ hc2_ HX
      have HPK : Aside0 ((p[kk]!).f0 = x0) := ⟨by rw [hxk]⟩
      clear hxk
      have HG0 := HGM.out A2 c2 x0 wr HC2.out CM.out
      rw [HX.out] at HG0
      cases x2
      · rw [if_neg (by decide)] at HG0
        have HG1 := Aside0.mk HG0
        clear HG0
        go_wp2_with (go_at_call 38; refine (HG1.out).mono ?_; rintro e w5 ⟨rfl, hb5⟩; have HAL := Aside0.mk ((Below.refl w5.heap.size w5).alloc (Nat.le_refl _) (.cells #[.string x0, .string x1, .int .u64 ver] 64)); have HW5 := Aside0.mk (hb5.trans (HAL.out.mono hb5.size)); have HBX := heap_alloc_new w5 (.cells #[.string x0, .string x1, .int .u64 ver] 64); have hd1 := (HW5.out.cell (p := ⟨b, o + kk * 3 + 1, none⟩) hbl).trans hc1_; have hd2 := (HW5.out.cell (p := ⟨b, o + kk * 3 + 2, none⟩) hbl).trans hc2_; have hd0 := (HW5.out.cell (p := ⟨b, o + kk * 3, none⟩) hbl).trans hc0_; have hr1 := cell_row (cs := [.string x0, .string x1, .int .u64 ver]) HBX 1; have hr2 := cell_row (cs := [.string x0, .string x1, .int .u64 ver]) HBX 2; clear hb5 HBX HAL)
        generalize w5.alloc (.cells #[.string x0, .string x1, .int .u64 ver] 64) = W5 at *
        have hr1' : W5.cell? ⟨w5.heap.size, 1, none⟩ = some (.string x1) := hr1
        have hr2' : W5.cell? ⟨w5.heap.size, 2, none⟩ = some (.int .u64 ver) := hr2
        clear hr1 hr2
        go_quiet (fail)
        cases nb
        all_goals
          go_wp2
          go_roundg (p.length - (kk + 1))
          case measure => omega
          case rel =>
            first
              | exact ⟨kk + 1, true, by omega, by omega, by go_num, rfl, ⟨BW.out.trans ((pw_below_drewN HW5.out _).mono BW.out.size)⟩, ⟨Kd.C_below CM.out (pw_below_drewN HW5.out _)⟩, ⟨fun h => by cases h⟩⟩
              | exact ⟨kk + 1, (x0.toList == key.toList), by omega, by omega, by go_num, rfl, ⟨BW.out.trans ((pw_below_drewN HW5.out _).mono BW.out.size)⟩, ⟨Kd.C_below CM.out (pw_below_drewN HW5.out _)⟩, ⟨fun h j hj => by
                  by_cases e : j = kk
                  · subst e; rw [HPK.out]; exact beq_eq_false_iff_ne.1 h
                  · exact NB.out (by trivial) j (by omega)⟩⟩
      · rw [if_pos rfl] at HG0
        have HG1 := Aside0.mk HG0
        clear HG0
        go_wp2_with (go_at_call 38; refine (HG1.out).mono ?_; rintro e w5 ⟨rfl, hb5⟩; have HAL := Aside0.mk ((Below.refl w5.heap.size w5).alloc (Nat.le_refl _) (.cells #[.string (⟨#[]⟩ : ByteArray), .string (⟨#[]⟩ : ByteArray), .int .u64 0] 64)); have HW5 := Aside0.mk (hb5.trans (HAL.out.mono hb5.size)); have HBX := heap_alloc_new w5 (.cells #[.string (⟨#[]⟩ : ByteArray), .string (⟨#[]⟩ : ByteArray), .int .u64 0] 64); have hd1 := (HW5.out.cell (p := ⟨b, o + kk * 3 + 1, none⟩) hbl).trans hc1_; have hd2 := (HW5.out.cell (p := ⟨b, o + kk * 3 + 2, none⟩) hbl).trans hc2_; have hd0 := (HW5.out.cell (p := ⟨b, o + kk * 3, none⟩) hbl).trans hc0_; have hr1 := cell_row (cs := [.string (⟨#[]⟩ : ByteArray), .string (⟨#[]⟩ : ByteArray), .int .u64 0]) HBX 1; have hr2 := cell_row (cs := [.string (⟨#[]⟩ : ByteArray), .string (⟨#[]⟩ : ByteArray), .int .u64 0]) HBX 2; clear hb5 HBX HAL)
        generalize w5.alloc (.cells #[.string (⟨#[]⟩ : ByteArray), .string (⟨#[]⟩ : ByteArray), .int .u64 0] 64) = W5 at *
        have hr1' : W5.cell? ⟨w5.heap.size, 1, none⟩ = some (.string (⟨#[]⟩ : ByteArray)) := hr1
        have hr2' : W5.cell? ⟨w5.heap.size, 2, none⟩ = some (.int .u64 0) := hr2
        clear hr1 hr2
        go_quiet (fail)
        cases nb
        all_goals
          go_wp2
          go_roundg (p.length - (kk + 1))
          case measure => omega
          case rel =>
            first
              | exact ⟨kk + 1, true, by omega, by omega, by go_num, rfl, ⟨BW.out.trans ((pw_below_drewN HW5.out _).mono BW.out.size)⟩, ⟨Kd.C_below CM.out (pw_below_drewN HW5.out _)⟩, ⟨fun h => by cases h⟩⟩
              | exact ⟨kk + 1, (x0.toList == key.toList), by omega, by omega, by go_num, rfl, ⟨BW.out.trans ((pw_below_drewN HW5.out _).mono BW.out.size)⟩, ⟨Kd.C_below CM.out (pw_below_drewN HW5.out _)⟩, ⟨fun h j hj => by
                  by_cases e : j = kk
                  · subst e; rw [HPK.out]; exact beq_eq_false_iff_ne.1 h
                  · exact NB.out (by trivial) j (by omega)⟩⟩
    · have hltz : ¬ (kk : Int) < (p.length : Int) := by omega
      obtain rfl : kk = p.length := by omega
      have HG1 := Aside0.mk (HGL.out wr BW.out)
      have HSM : Aside0 (nb = false → getV m key = getV l key) := ⟨fun h => HSAME.out (fun x hx => by
        obtain ⟨j, hj, rfl⟩ := List.mem_iff_getElem.1 hx
        have := NB.out h j hj
        rwa [getElem!_pos p j hj] at this)⟩
      have HGB := Aside0.mk (fun W (hW : Below wr.heap.size wr W) => HGM.out A2 c2 key W HC2.out (Kd.C_below CM.out hW))
      clear HGM HGL
      cases nb
      · have hsm := HSM.out rfl
        have HGB1 : Aside0 (∀ W, Below wr.heap.size wr W → Calls Try.prog 38 #[.slice A2 m.length c2, .string key] W fun e w' => e = .returned (.tuple #[.agg #[.string (getV l key).1, .string (getV l key).2.1, .int .u64 (getV l key).2.2.1], .bool (getV l key).2.2.2]) ∧ Below W.heap.size W w') := ⟨by rw [← hsm]; exact HGB.out⟩
        clear hsm HGB HSM HSAME
        generalize (getV l key).1 = g1 at *
        generalize (getV l key).2.1 = g2 at *
        generalize (getV l key).2.2.1 = g3 at *
        generalize (getV l key).2.2.2 = g4 at *
        go_wp2_with (first | (go_at_call 38; with_reducible refine (HG1.out).mono ?_; rintro e w5 ⟨rfl, hb5⟩; have HAL5 := Aside0.mk ((Below.refl w5.heap.size w5).alloc (Nat.le_refl _) (.cells #[.string g1, .string g2, .int .u64 g3] 64)); have HW5 := Aside0.mk (hb5.trans (HAL5.out.mono hb5.size)); have HX5 := Aside0.mk (heap_alloc_new w5 (.cells #[.string g1, .string g2, .int .u64 g3] 64)); clear hb5) | (go_at_call 38; refine (HGB1.out _ HW5.out).mono ?_; rintro e w6 ⟨rfl, hb6⟩; have HX6 := Aside0.mk ((hb6.block _ (by simp)).trans HX5.out); have HAL6 := Aside0.mk ((Below.refl w6.heap.size w6).alloc (Nat.le_refl _) (.cells #[.string g1, .string g2, .int .u64 g3] 64)); have HW6 := Aside0.mk ((HW5.out.trans (hb6.mono HW5.out.size)).trans (HAL6.out.mono (HW5.out.trans (hb6.mono HW5.out.size)).size)); have HX7 := (HAL6.out.block _ (Array.getElem?_eq_some_iff.1 HX6.out).1).trans HX6.out; have HX8 := heap_alloc_new w6 (.cells #[.string g1, .string g2, .int .u64 g3] 64); have k0 := cell_row (cs := [.string g1, .string g2, .int .u64 g3]) HX7 0; have k1 := cell_row (cs := [.string g1, .string g2, .int .u64 g3]) HX7 1; have k2 := cell_row (cs := [.string g1, .string g2, .int .u64 g3]) HX7 2; have m0 := cell_row (cs := [.string g1, .string g2, .int .u64 g3]) HX8 0; have m1 := cell_row (cs := [.string g1, .string g2, .int .u64 g3]) HX8 1; have m2 := cell_row (cs := [.string g1, .string g2, .int .u64 g3]) HX8 2; clear hb6 HX7 HX8))
        go_ret
        exact ⟨rfl, BW.out.trans (HW6.out.mono BW.out.size)⟩
      · go_wp2_with (first | (go_at_call 38; with_reducible refine (HG1.out).mono ?_; rintro e w5 ⟨rfl, hb5⟩; have HAL5 := Aside0.mk ((Below.refl w5.heap.size w5).alloc (Nat.le_refl _) (.cells #[.string (getV l key).1, .string (getV l key).2.1, .int .u64 (getV l key).2.2.1] 64)); have HW5 := Aside0.mk (hb5.trans (HAL5.out.mono hb5.size)); clear hb5) | (go_at_call 38; refine (HGB.out _ HW5.out).mono ?_; rintro e w6 ⟨rfl, hb6⟩; have HW6 := Aside0.mk (HW5.out.trans (hb6.mono HW5.out.size)); clear hb6))
        go_ret
        exact ⟨rfl, BW.out.trans ((HW6.out.alloc HW6.out.size _).mono BW.out.size)⟩
theorem RowsKeeps_walk {w : World} (cs : Array Value) (x : S70) (hx : k70.K w x cs.toList) (hsx : ok70 x) :
    Calls Try.prog 11 #[.agg cs] w fun e w' => e = .returned (.bool true) ∧ Below w.heap.size w w' := by
  obtain ⟨⟨h1, u1⟩, ⟨h2, u2⟩, hv, hk⟩ := hsx
  rw [bytesRow] at h1
  rw [bytesPut] at h2
  obtain ⟨_, _, hcs, ⟨A0, c0, rfl, l0, g0⟩, ⟨_, _, rfl, ⟨A1, c1, rfl, l1, g1⟩, ⟨_, _, rfl, rfl, rfl⟩⟩⟩ := hx
  obtain rfl : cs = #[.slice A0 x.f0.length c0, .slice A1 x.f1.length c1, .int .u64 x.f2, .string x.f3] := Array.toList_inj.1 hcs
  have hs : ∀ y ∈ x.f0, y.f0.size ≤ 9223372036854775806 := fun y hy => by have := (u1 y hy).1; omega
  by_cases c1' : rightR x.f0 = true
  · by_cases c2 : (allV x.f0 x.f1 x.f2).2 = 0
    · by_cases c3 : x.f2 ≤ 4611686018427387903
      · exact keeps_yes A0 c0 x.f0 A1 c1 x.f1 x.f2 x.f3 w g0 l0 g1 l1 (by omega) (by omega) hs c1' c3 c2
      · exact keeps_not A0 c0 x.f0 A1 c1 x.f1 x.f2 x.f3 w g0 l0 g1 l1 (by omega) hs (.inr (.inr ⟨c1', c2, by omega⟩))
    · exact keeps_not A0 c0 x.f0 A1 c1 x.f1 x.f2 x.f3 w g0 l0 g1 l1 (by omega) hs (.inr (.inl ⟨c1', c2⟩))
  · exact keeps_not A0 c0 x.f0 A1 c1 x.f1 x.f2 x.f3 w g0 l0 g1 l1 (by omega) hs (.inl (by rwa [Bool.not_eq_true] at c1'))
end Go.Proofs.Ythfkbfahpgdnfaa.PAll
end
