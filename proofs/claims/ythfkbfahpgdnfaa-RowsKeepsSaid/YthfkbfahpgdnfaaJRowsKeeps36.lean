/- Joined texts of the claim RowsKeeps (part 36): contracts of functions and plain laws. -/
import Derived.Outline
import Derived.Test.YthfkbfahpgdnfaaJRowsKeeps20
import Derived.Test.YthfkbfahpgdnfaaJRowsKeeps24
import Derived.Test.YthfkbfahpgdnfaaJRowsKeeps34
import Derived.Test.YthfkbfahpgdnfaaJRowsKeeps35
section
/- rows.Bytes, as the printed texts call it. -/
namespace Go.Proofs.Ythfkbfahpgdnfaa.PAll
open Go.RowKit Go.Proofs.YthfkbfahpgdnfaaW.PrintWords Go.Proofs.Ythfkbfahpgdnfaa
set_option linter.unusedVariables false
def rowB (x : S64) : ByteArray := (textV x.f0).1 ++ (textV x.f1).1 ++ (numV x.f2).1
def bytesD (l : List S64) (k : Nat) : List UInt8 := (numV l.length).1.data.toList ++ ((l.take k).map (fun x => (rowB x).data.toList)).flatten
def bytesV (l : List S64) : ByteArray := ⟨(bytesD l l.length).toArray⟩
def natR (l : List S64) : Bool := l.all (fun x => decide (0 ≤ x.f2))
def rows_Bytes.f (l0 : List S64) : Option (ByteArray × Int) := if natR l0 then (if rightR l0 then some (bytesV l0, 0) else some (⟨#[]⟩, 1)) else none
theorem nat_at {l : List S64} (h : natR l = true) (j : Nat) (hj : j < l.length) : 0 ≤ (l[j]!).f2 := by
  rw [getElem!_pos l j hj]
  exact of_decide_eq_true (List.all_eq_true.1 h _ (List.getElem_mem hj))
theorem textV_size (t : ByteArray) (h : t.size ≤ 4096) : (textV t).1.size ≤ 8 + t.size ∧ (textV t).1 = (numV t.size).1 ++ t := by
  unfold textV
  rw [if_neg (by omega)]
  have := numV_size (t.size : Int)
  exact ⟨by simp; omega, rfl⟩
theorem numV_pos (v : Int) (h : v < 4611686018427387904) : (numV v).1.data.toList ≠ [] := by
  unfold numV
  repeat' split
  all_goals (first | omega | (intro hh; cases hh))
theorem rowB_size (x : S64) (h1 : x.f0.size ≤ 16) (h2 : x.f1.size ≤ 32) : (rowB x).size ≤ 72 := by
  unfold rowB
  have a := (textV_size x.f0 (by omega)).1
  have b := (textV_size x.f1 (by omega)).1
  have c := numV_size x.f2
  simp only [ByteArray.size_append]
  omega
theorem right_ok {l : List S64} (h : rightR l = true) : l.length ≤ 32 ∧ ∀ j, j < l.length → okR l j = true := by
  unfold rightR at h
  rw [Bool.and_eq_true] at h
  exact ⟨of_decide_eq_true h.2, fun j hj => List.all_eq_true.1 h.1 j (List.mem_range.2 hj)⟩
theorem ok_sizes {l : List S64} {j : Nat} (h : okR l j = true) : 1 ≤ (l[j]!).f0.size ∧ (l[j]!).f0.size ≤ 16 ∧ (l[j]!).f1.size ≤ 32 ∧ (l[j]!).f2 ≤ 4611686018427387903 := by
  unfold okR at h
  simp only [Bool.and_eq_true, decide_eq_true_eq] at h
  exact ⟨h.1.1.1.1, h.1.1.1.2, h.1.1.2, h.1.2⟩
theorem bytesD_step (l : List S64) (k : Nat) (h : k < l.length) : bytesD l (k + 1) = bytesD l k ++ (rowB (l[k]!)).data.toList := by
  unfold bytesD
  rw [List.take_succ_eq_append_getElem h, getElem!_pos l k h, List.map_append, List.flatten_append, ← List.append_assoc]
  simp
theorem bytesD_ne (l : List S64) (h : l.length ≤ 32) : bytesD l l.length ≠ [] := by
  unfold bytesD
  intro e
  exact numV_pos (l.length : Int) (by omega) (List.append_eq_nil_iff.1 e).1
theorem bytesD_cells (l : List S64) (k : Nat) (h : k < l.length) : Lib.byteCells (bytesD l (k + 1)) = Lib.byteCells (bytesD l k) ++ Lib.strCells (rowB (l[k]!)) := by
  rw [bytesD_step l k h, Lib.strCells_eq]
  simp [Lib.byteCells]
set_option maxHeartbeats 2000000 in
set_option maxRecDepth 100000 in
theorem rows_Bytes.calls (A0 : Option Addr) (c0 : Nat) (l0 : List S64) (r1 : ByteArray) (r2 : Int) (w : World) (hr0 : Kd.C k64 w A0 l0.length l0) (hc0 : l0.length ≤ c0) (h : rows_Bytes.f l0 = some (r1, r2)) :
    Calls Try.prog 42 #[.slice A0 l0.length c0] w fun e w' => e = .returned (.tuple #[.string r1, .int .i64 r2]) ∧ Below w.heap.size w w' := by
  have HR := Aside0.mk hr0
  have HC := Aside0.mk hc0
  have HM := hr0.2.1
  unfold rows_Bytes.f at h
  cases hnat : natR l0 with
  | false => rw [hnat] at h; cases h
  | true =>
  rw [hnat, if_pos rfl] at h
  have HNAT := Aside0.mk (nat_at hnat)
  clear hnat
  cases hright : rightR l0 with
  | false =>
    rw [hright] at h
    obtain ⟨rfl, rfl⟩ := Prod.mk.inj (Option.some.inj h)
    have HF := Aside0.mk (show rows_Right.f l0 = some false by unfold rows_Right.f; rw [hright])
    clear hright h hr0 hc0
    go_enter Try.func42, Try.ntmps42
    go_wp2_with (go_at_call 40; refine (rows_Right.calls A0 c0 l0 false _ HR.out HC.out HF.out).mono ?_; rintro e w1 ⟨rfl, hb1⟩)
    go_ret2
    exact ⟨rfl, hb1⟩
  | true =>
    rw [hright] at h
    obtain ⟨rfl, rfl⟩ := Prod.mk.inj (Option.some.inj h)
    have HF := Aside0.mk (show rows_Right.f l0 = some true by unfold rows_Right.f; rw [hright])
    have HOK := Aside0.mk (right_ok hright)
    have hlen := HOK.out.1
    have hz0 : (0 : Int) ≤ (l0.length : Int) := by omega
    have hz1 : (l0.length : Int) ≤ 18446744073709551615 := by omega
    have HN := Aside0.mk (show pack_Num.f (l0.length : Int) = some ((numV l0.length).1, (numV l0.length).2) by unfold pack_Num.f; rw [if_pos ⟨by omega, by omega⟩])
    have HNS := Aside0.mk (numV_size (l0.length : Int))
    have HNE := Aside0.mk (bytesD_ne l0 (by omega))
    have HB0 : Aside0 (bytesD l0 0 = (numV l0.length).1.data.toList) := ⟨by unfold bytesD; simp⟩
    obtain ⟨n1, hn1⟩ : ∃ n1, n1 = (numV l0.length).1 := ⟨_, rfl⟩
    obtain ⟨n2, hn2⟩ : ∃ n2, n2 = (numV l0.length).2 := ⟨_, rfl⟩
    rw [← hn1, ← hn2] at HN
    rw [← hn1] at HNS HB0
    clear hn1 hn2 hright h hr0 hc0
    go_enter Try.func42, Try.ntmps42
    go_wp2_with (first
      | (go_at_call 40; refine (rows_Right.calls A0 c0 l0 true _ HR.out HC.out HF.out).mono ?_; rintro e w1 ⟨rfl, hb1⟩; have HB1 := Aside0.mk hb1; clear hb1)
      | (go_at_call 64; refine (pack_Num.calls (l0.length : Int) n1 n2 _ HN.out).mono ?_; rintro e w2 ⟨rfl, hb2⟩; have HB2 := Aside0.mk hb2; clear hb2)
      | (go_at_call 65; refine (WriteString w1.heap.size w1.heap.size [] n1 _ (builder_kept (builder_new w1) HB2.out) (by have := HNS.out; simp; omega) (by have := HB2.out.size; simp at this; omega)).mono ?_; rintro e w3 ⟨rfl, hI, hb3⟩; have HB3 := Aside0.mk hb3; have HI := Aside0.mk hI; clear hb3 hI))
    have HBW : Aside0 (Below w.heap.size w w3) := ⟨(HB1.out.trans (((Below.refl w1.heap.size w1).alloc (Nat.le_refl _) _).mono HB1.out.size)).trans ((HB2.out.mono (by have := HB1.out.size; simp; omega)).trans (HB3.out.mono HB1.out.size))⟩
    have HIS : Aside0 (Lib.IsBuilder 101 5 w1.heap.size w1.heap.size (Lib.byteCells (bytesD l0 0)) w3) := ⟨.inr (by have := HI.out; rw [HB0.out]; simpa [Lib.strCells_eq] using this)⟩
    have HLS : Aside0 ((bytesD l0 0).length ≤ 8 + 72 * 0) := ⟨by rw [HB0.out]; have := HNS.out; simpa using this⟩
    have HW13 : w1.heap.size ≤ w3.heap.size := by have a := HB2.out.size; have b := HB3.out.size; simp at a; omega
    have HWW := Aside0.mk HB1.out.size
    clear HN HNS HB0 HI HB3 HB2 HB1 hz0 hz1
    go_loopg [29] l0.length (fun gg s29 wr => ∃ kk : Nat, kk ≤ l0.length ∧ l0.length - kk ≤ gg ∧ s29 = .int .i64 kk ∧ Aside0 (Below w.heap.size w wr) ∧ Aside0 (Lib.IsBuilder 101 5 w1.heap.size w1.heap.size (Lib.byteCells (bytesD l0 kk)) wr) ∧ Aside0 ((bytesD l0 kk).length ≤ 8 + 72 * kk) ∧ Aside0 (w1.heap.size ≤ wr.heap.size))
    case atStart => exact ⟨0, Nat.zero_le _, by omega, rfl, HBW, HIS, HLS, ⟨HW13⟩⟩
    case round =>
      obtain ⟨kk, hkk, hg, rfl, BW, IS, LS, SZ⟩ := hrel
      by_cases hlt : kk < l0.length
      · have hltz : (kk : Int) < (l0.length : Int) := by omega
        obtain ⟨b, o, rfl, hrow⟩ := C_row (Kd.C_below HR.out BW.out) (by decide) (by omega)
        obtain ⟨cs, hcs, hK, hrg⟩ := hrow kk hlt
        obtain rfl := flat64.openK _ _ _ hK
        have hc0_ : wr.cell? ⟨b, o + kk * 3, none⟩ = some (.string (l0[kk]!).f0) := hrg 0 _ rfl
        have hc1_ : wr.cell? ⟨b, o + kk * 3 + 1, none⟩ = some (.string (l0[kk]!).f1) := hrg 1 _ rfl
        have hc2_ : wr.cell? ⟨b, o + kk * 3 + 2, none⟩ = some (.int .u64 (l0[kk]!).f2) := hrg 2 _ rfl
        obtain ⟨z1, z2, z3, z4⟩ := ok_sizes (HOK.out.2 kk hlt)
        have z0 := HNAT.out kk hlt
        have HST := Aside0.mk (bytesD_cells l0 kk hlt)
        have HST2 := Aside0.mk (bytesD_step l0 kk hlt)
        clear hrow hrg hK hcs HR
        generalize l0[kk]! = x at *
        have HRS := Aside0.mk (rowB_size x z2 z3)
        have HRB : Aside0 (rowB x = (textV x.f0).1 ++ (textV x.f1).1 ++ (numV x.f2).1) := ⟨rfl⟩
        have q1 := (textV_size x.f0 (by omega)).1
        have q2 := (textV_size x.f1 (by omega)).1
        have q3 := numV_size x.f2
        have HT0 := Aside0.mk (show pack_Text.f x.f0 = some ((textV x.f0).1, (textV x.f0).2) from rfl)
        have HT1 := Aside0.mk (show pack_Text.f x.f1 = some ((textV x.f1).1, (textV x.f1).2) from rfl)
        have HN2 := Aside0.mk (show pack_Num.f x.f2 = some ((numV x.f2).1, (numV x.f2).2) by unfold pack_Num.f; rw [if_pos ⟨z0, by omega⟩])
        generalize (textV x.f0).1 = s1 at *
        generalize (textV x.f0).2 = e1 at *
        generalize (textV x.f1).1 = s2 at *
        generalize (textV x.f1).2 = e2 at *
        generalize (numV x.f2).1 = s3 at *
        generalize (numV x.f2).2 = e3 at *
        have p1 : (s1.size : Int) + s2.size ≤ 9223372036854775807 := by omega
        have p2 : (s1.size : Int) + s2.size + s3.size ≤ 9223372036854775807 := by omega
        have p3 : s1.size + s2.size ≤ 9223372036854775807 := by omega
        have p4 : s1.size + s2.size + s3.size ≤ 9223372036854775807 := by omega
        have hbl := World.block_lt_of_cell? wr _ hc0_
        have HX := Aside0.mk ((MapKept.heap_alloc wr (.cells #[.string x.f0, .string x.f1, .int .u64 x.f2] 64)).1)
        go_wp2_with (first
          | (go_at_call 66; ((with_reducible refine (pack_Text.calls x.f0 s1 e1 _ HT0.out).mono ?_); rintro e w4 ⟨rfl, hb4⟩; have hbx := (hb4.block wr.heap.size (by simp)).trans HX.out; have hy1 : w4.cell? ⟨wr.heap.size, 1, none⟩ = some (.string x.f1) := cell_at hbx rfl; have hy2 : w4.cell? ⟨wr.heap.size, 2, none⟩ = some (.int .u64 x.f2) := cell_at hbx rfl; have HBX := Aside0.mk hbx; have HB4 := Aside0.mk hb4; clear hb4 hbx))
          | (go_at_call 66; ((with_reducible refine (pack_Text.calls x.f1 s2 e2 _ HT1.out).mono ?_); rintro e w5 ⟨rfl, hb5⟩; have hbx := (hb5.block wr.heap.size (Array.getElem?_eq_some_iff.1 HBX.out).1).trans HBX.out; have hy3 : w5.cell? ⟨wr.heap.size, 2, none⟩ = some (.int .u64 x.f2) := cell_at hbx rfl; have HB5 := Aside0.mk hb5; clear hb5 hbx))
          | (go_at_call 64; ((with_reducible refine (pack_Num.calls x.f2 s3 e3 _ HN2.out).mono ?_); rintro e w6 ⟨rfl, hb6⟩; have HB6 := Aside0.mk hb6; clear hb6)))
        have HBA : Aside0 (Below wr.heap.size wr w6) := ⟨((Below.refl wr.heap.size wr).alloc (Nat.le_refl _) _).trans ((HB4.out.mono (by simp)).trans ((HB5.out.mono (by have := HB4.out.size; simp at this; omega)).trans (HB6.out.mono (by have a := HB4.out.size; have b := HB5.out.size; simp at a; omega))))⟩
        refine (WriteString w1.heap.size w1.heap.size (Lib.byteCells (bytesD l0 kk)) (s1 ++ s2 ++ s3) _ (builder_kept IS.out HBA.out) (by have := LS.out; have h2 := HRS.out; rw [HRB.out] at h2; rw [Lib.byteCells_length]; omega) (by have := HBA.out.size; have h2 := SZ.out; omega)).mono ?_
        rintro e w7 ⟨rfl, hI, hb7⟩
        have HB7 := Aside0.mk hb7
        have HI := Aside0.mk hI
        clear hb7 hI
        go_wp2
        go_roundg (l0.length - (kk + 1))
        case measure => omega
        case rel =>
          refine ⟨kk + 1, by omega, by omega, by go_num, ⟨BW.out.trans ((HBA.out.mono BW.out.size).trans (HB7.out.mono HWW.out))⟩, ⟨.inr ?_⟩, ⟨?_⟩, ⟨by have a := HBA.out.size; have b := HB7.out.size; have c := SZ.out; omega⟩⟩
          · have h := HI.out
            rw [HST.out, HRB.out]
            exact h
          · have h2 := HRS.out
            have h3 := LS.out
            rw [HST2.out, List.length_append]
            have : (rowB x).data.toList.length = (rowB x).size := by rw [Array.length_toList]; rfl
            omega
      · have hltz : ¬ (kk : Int) < (l0.length : Int) := by omega
        obtain rfl : kk = l0.length := by omega
        go_wp2_with (go_at_call 67; refine (BuilderString w1.heap.size w1.heap.size (bytesD l0 l0.length) _ IS.out HNE.out).mono ?_; rintro e w8 ⟨rfl, hb8⟩; have HB8 := Aside0.mk hb8; clear hb8)
        go_ret2
        exact ⟨rfl, BW.out.trans (HB8.out.mono HWW.out)⟩
end Go.Proofs.Ythfkbfahpgdnfaa.PAll
end
