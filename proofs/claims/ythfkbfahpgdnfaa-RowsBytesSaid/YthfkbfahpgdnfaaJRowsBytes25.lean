/- Joined texts of the claim RowsBytes (part 25): contracts of functions and plain laws. -/
import Derived.Test.YthfkbfahpgdnfaaJRowsBytes2
import Derived.Test.YthfkbfahpgdnfaaJRowsBytes15
import Derived.Test.YthfkbfahpgdnfaaJRowsBytes24
import Derived.Test.YthfkbfahpgdnfaaJRowsBytes23
import Derived.Outline
section
/- ferruleref11.Bytes, as the printed texts call it. -/
namespace Go.Proofs.Ythfkbfahpgdnfaa.PAll
open Go.RowKit Go.Proofs.YthfkbfahpgdnfaaW.PrintWords Go.Proofs.YthfkbfahpgdnfaaW.PrintMore Go.Proofs.Ythfkbfahpgdnfaa
set_option linter.unusedVariables false
def refRow (k : Nat) (x : S64) : Option ByteArray := (ferruleref01_Text.f k x.f0).bind fun a => (ferruleref01_Text.f k x.f1).bind fun b => (ferruleref01_Num.f k x.f2).bind fun c => if a.1.size + b.1.size + c.1.size ≤ 100000 then some (a.1 ++ b.1 ++ c.1) else none
def refRows (k : Nat) : List S64 → Option (List UInt8)
  | [] => some []
  | x :: r => (refRow k x).bind fun a => (refRows k r).bind fun b => some (a.data.toList ++ b)
def ferruleref11_Bytes.f (k : Nat) (l0 : List S64) : Option (ByteArray × Int) := (ferruleref11_Right.f k l0).bind fun ok => if ok = true then (ferruleref01_Num.f k l0.length).bind fun s => if s.1.size ≤ 100000 ∧ l0.length ≤ 32 then (refRows k l0).bind fun b => some (⟨(s.1.data.toList ++ b).toArray⟩, 0) else none else some (⟨#[]⟩, 1)
theorem refRow_mono (k : Nat) (x : S64) : LeO (refRow k x) (refRow (k + 1) x) := by
  unfold refRow
  exact LeO.bind (ferruleref01_Text.mono _ _) (fun _ => LeO.bind (ferruleref01_Text.mono _ _) (fun _ => LeO.bind (ferruleref01_Num.mono _ _) (fun _ => LeO.refl _)))
theorem refRows_mono (k : Nat) : ∀ l, LeO (refRows k l) (refRows (k + 1) l)
  | [] => LeO.refl _
  | x :: r => by
    unfold refRows
    exact LeO.bind (refRow_mono k x) (fun _ => LeO.bind (refRows_mono k r) (fun _ => LeO.refl _))
theorem ferruleref11_Bytes.mono : ∀ a0 k, LeO (ferruleref11_Bytes.f k a0) (ferruleref11_Bytes.f (k + 1) a0) := by
  intro a0 k
  unfold ferruleref11_Bytes.f
  exact LeO.bind (ferruleref11_Right.mono _ _) (fun _ => LeO.ite (LeO.bind (ferruleref01_Num.mono _ _) (fun _ => LeO.ite (LeO.bind (refRows_mono _ _) (fun _ => LeO.refl _)) (LeO.refl _))) (LeO.refl _))
def rowR (k : Nat) (x : S64) : ByteArray := ((refRow k x).getD ⟨#[]⟩)
theorem refRows_all (k : Nat) : ∀ (l : List S64) (b : List UInt8), refRows k l = some b → b = (l.map (fun x => (rowR k x).data.toList)).flatten ∧ ∀ x ∈ l, refRow k x = some (rowR k x)
  | [], b, h => by
    obtain rfl := Option.some.inj h
    exact ⟨rfl, fun x hx => by cases hx⟩
  | x :: r, b, h => by
    unfold refRows at h
    obtain ⟨a, ha, h⟩ := Option.bind_eq_some_iff.mp h
    obtain ⟨c, hc, h⟩ := Option.bind_eq_some_iff.mp h
    obtain rfl := Option.some.inj h
    obtain ⟨rfl, h2⟩ := refRows_all k r c hc
    have hx : rowR k x = a := by unfold rowR; rw [ha]; rfl
    refine ⟨by rw [List.map_cons, List.flatten_cons, hx], fun y hy => ?_⟩
    rcases List.mem_cons.1 hy with rfl | hy
    · rw [ha, hx]
    · exact h2 y hy
def accR (k : Nat) (s : ByteArray) (l : List S64) (j : Nat) : List UInt8 := s.data.toList ++ ((l.take j).map (fun x => (rowR k x).data.toList)).flatten
theorem accR_step (k : Nat) (s : ByteArray) (l : List S64) (j : Nat) (h : j < l.length) : accR k s l (j + 1) = accR k s l j ++ (rowR k (l[j]!)).data.toList := by
  unfold accR
  rw [List.take_succ_eq_append_getElem h, getElem!_pos l j h, List.map_append, List.flatten_append, ← List.append_assoc]
  simp
theorem accR_cells (k : Nat) (s : ByteArray) (l : List S64) (j : Nat) (h : j < l.length) : Lib.byteCells (accR k s l (j + 1)) = Lib.byteCells (accR k s l j) ++ Lib.strCells (rowR k (l[j]!)) := by
  rw [accR_step k s l j h, Lib.strCells_eq]
  simp [Lib.byteCells]
theorem refRow_parts {k : Nat} {x : S64} {a : ByteArray} (h : refRow k x = some a) : ∃ s1 e1 s2 e2 s3 e3, ferruleref01_Text.f k x.f0 = some (s1, e1) ∧ ferruleref01_Text.f k x.f1 = some (s2, e2) ∧ ferruleref01_Num.f k x.f2 = some (s3, e3) ∧ s1.size + s2.size + s3.size ≤ 100000 ∧ a = s1 ++ s2 ++ s3 := by
  unfold refRow at h
  obtain ⟨⟨s1, e1⟩, h1, h⟩ := Option.bind_eq_some_iff.mp h
  obtain ⟨⟨s2, e2⟩, h2, h⟩ := Option.bind_eq_some_iff.mp h
  obtain ⟨⟨s3, e3⟩, h3, h⟩ := Option.bind_eq_some_iff.mp h
  dsimp only at h
  split at h
  · exact ⟨s1, e1, s2, e2, s3, e3, h1, h2, h3, by assumption, (Option.some.inj h).symm⟩
  · cases h
theorem hb4_ {w w4 w5 w6 : World} (h4 : Below w.heap.size w w4) (h5 : Below w4.heap.size w4 w5) (h6 : Below w5.heap.size w5 w6) : Below w.heap.size w w6 := h4.trans ((h5.mono h4.size).trans (h6.mono (Nat.le_trans h4.size h5.size)))
set_option maxHeartbeats 2000000 in
set_option maxRecDepth 100000 in
theorem ferruleref11_Bytes.calls (k : Nat) (A0 : Option Addr) (c0 : Nat) (l0 : List S64) (r1 : ByteArray) (r2 : Int) (w : World) (hr0 : Kd.C k64 w A0 l0.length l0) (hc0 : l0.length ≤ c0) (h : ferruleref11_Bytes.f k l0 = some (r1, r2)) :
    Calls Try.prog 43 #[.slice A0 l0.length c0] w fun e w' => e = .returned (.tuple #[.string r1, .int .i64 r2]) ∧ Below w.heap.size w w' := by
  have HR := Aside0.mk hr0
  have HC := Aside0.mk hc0
  have HM := hr0.2.1
  unfold ferruleref11_Bytes.f at h
  obtain ⟨ok, hok, h⟩ := Option.bind_eq_some_iff.mp h
  have HF := Aside0.mk hok
  cases ok with
  | false =>
    rw [if_neg (by decide)] at h
    obtain ⟨rfl, rfl⟩ := Prod.mk.inj (Option.some.inj h)
    clear h hr0 hc0 hok
    go_enter Try.func43, Try.ntmps43
    go_wp2_with (go_at_call 41; refine (ferruleref11_Right.calls k A0 c0 l0 false _ HR.out HC.out HF.out).mono ?_; rintro e w1 ⟨rfl, hb1⟩)
    go_ret2
    exact ⟨rfl, hb1⟩
  | true =>
    rw [if_pos rfl] at h
    obtain ⟨⟨n1, n2⟩, hn, h⟩ := Option.bind_eq_some_iff.mp h
    dsimp only at h
    split at h
    case isFalse => cases h
    rename_i hsz
    obtain ⟨hn8, hlen⟩ := hsz
    obtain ⟨b, hb, h⟩ := Option.bind_eq_some_iff.mp h
    obtain ⟨rfl, rfl⟩ := Prod.mk.inj (Option.some.inj h)
    obtain ⟨rfl, hall⟩ := refRows_all k l0 b hb
    have HALL := Aside0.mk hall
    have HE0 : Aside0 (accR k n1 l0 0 = n1.data.toList) := ⟨by unfold accR; simp⟩
    have HN := Aside0.mk hn
    have hz0 : (0 : Int) ≤ (l0.length : Int) := by omega
    have hz1 : (l0.length : Int) ≤ 18446744073709551615 := by omega
    clear h hr0 hc0 hok hn hb hall
    go_enter Try.func43, Try.ntmps43
    go_wp2_with (first
      | (go_at_call 41; refine (ferruleref11_Right.calls k A0 c0 l0 true _ HR.out HC.out HF.out).mono ?_; rintro e w1 ⟨rfl, hb1⟩; have HB1 := Aside0.mk hb1; clear hb1)
      | (go_at_call 68; refine (ferruleref01_Num.calls k (l0.length : Int) n1 n2 _ HN.out).mono ?_; rintro e w2 ⟨rfl, hb2⟩; have HB2 := Aside0.mk hb2; obtain ⟨v, w3, hcv, hom, hb3⟩ := bytes_M w2 n1 (by omega); have HOM := Aside0.mk hom; have HB3 := Aside0.mk hb3; clear hb2 hb3 hom))
    have HBW : Aside0 (Below w.heap.size w w3) := ⟨HB1.out.trans ((HB2.out.mono HB1.out.size).trans (HB3.out.mono (Nat.le_trans HB1.out.size HB2.out.size)))⟩
    have HIS : Aside0 (OwnM w3 w2.heap.size v (accR k n1 l0 0).length (Lib.byteCells (accR k n1 l0 0))) := ⟨by rw [HE0.out]; exact HOM.out⟩
    have HLS : Aside0 ((accR k n1 l0 0).length ≤ 100000 + 100000 * 0) := ⟨by rw [HE0.out, Array.length_toList]; exact hn8⟩
    have HWW : Aside0 (w.heap.size ≤ w2.heap.size) := ⟨Nat.le_trans HB1.out.size HB2.out.size⟩
    have HSZ : Aside0 (w2.heap.size ≤ w3.heap.size) := ⟨HB3.out.size⟩
    clear HN HOM HB3 HB2 HB1 hz0 hz1 hcv
    go_loopg [7, 8] l0.length (fun gg s7 s8 wr => ∃ kk : Nat, kk ≤ l0.length ∧ l0.length - kk ≤ gg ∧ s8 = .int .i64 kk ∧ Aside0 (Below w.heap.size w wr) ∧ Aside0 (OwnM wr w2.heap.size s7 (accR k n1 l0 kk).length (Lib.byteCells (accR k n1 l0 kk))) ∧ Aside0 ((accR k n1 l0 kk).length ≤ 100000 + 100000 * kk) ∧ Aside0 (w2.heap.size ≤ wr.heap.size))
    case atStart => exact ⟨0, Nat.zero_le _, by omega, rfl, HBW, HIS, HLS, HSZ⟩
    case round =>
      obtain ⟨kk, hkk, hg, rfl, BW, IS, LS, SZ⟩ := hrel
      by_cases hlt : kk < l0.length
      · have hltz : (kk : Int) < (l0.length : Int) := by omega
        obtain ⟨b, o, rfl, hrow⟩ := C_row (Kd.C_below HR.out BW.out) (by decide) (by omega)
        obtain ⟨cs, hcs, hK, hrg⟩ := hrow kk hlt
        obtain rfl := flat64.openK _ _ _ hK
        have hc0_ : wr.cell? ⟨b, o + kk * 3, none⟩ = some (.string (l0[kk]!).f0) := hrg 0 _ rfl
        have hc1_ : wr.cell? ⟨b, o + kk * 3 + 1, none⟩ = some (.string (l0[kk]!).f1) := hrg 1 _ rfl
        have hc2_ : wr.cell? ⟨b, o + kk * 3 + 2, none⟩ = some (.int .u64 (l0[kk]!).f2) := hrg 2 _ rfl
        have hrow' := HALL.out (l0[kk]!) (by rw [getElem!_pos l0 kk hlt]; exact List.getElem_mem hlt)
        have HST := Aside0.mk (accR_cells k n1 l0 kk hlt)
        have HST2 := Aside0.mk (accR_step k n1 l0 kk hlt)
        clear hrow hrg hK hcs HR
        generalize l0[kk]! = x at *
        obtain ⟨s1, e1, s2, e2, s3, e3, h1, h2, h3, hsum, hrb⟩ := refRow_parts hrow'
        have HT0 := Aside0.mk h1
        have HT1 := Aside0.mk h2
        have HN2 := Aside0.mk h3
        have HRB := Aside0.mk hrb
        clear h1 h2 h3 hrb hrow'
        have p1 : (s1.size : Int) + s2.size ≤ 9223372036854775807 := by omega
        have p2 : (s1.size : Int) + s2.size + s3.size ≤ 9223372036854775807 := by omega
        have p3 : s1.size + s2.size ≤ 9223372036854775807 := by omega
        have p4 : s1.size + s2.size + s3.size ≤ 9223372036854775807 := by omega
        have hbl := World.block_lt_of_cell? wr _ hc0_
        go_wp2_with (first
          | (go_at_call 69; ((with_reducible refine (ferruleref01_Text.calls k x.f0 s1 e1 _ HT0.out).mono ?_); rintro e w4 ⟨rfl, hb4⟩; have hy1 := (hb4.cell (p := ⟨b, o + kk * 3 + 1, none⟩) hbl).trans hc1_; have hy2 := (hb4.cell (p := ⟨b, o + kk * 3 + 2, none⟩) hbl).trans hc2_; have HB4 := Aside0.mk hb4; clear hb4))
          | (go_at_call 69; ((with_reducible refine (ferruleref01_Text.calls k x.f1 s2 e2 _ HT1.out).mono ?_); rintro e w5 ⟨rfl, hb5⟩; have hy3 := (hb5.cell (p := ⟨b, o + kk * 3 + 2, none⟩) (Nat.lt_of_lt_of_le hbl HB4.out.size)).trans hy2; have HB5 := Aside0.mk hb5; clear hb5))
          | (go_at_call 68; ((with_reducible refine (ferruleref01_Num.calls k x.f2 s3 e3 _ HN2.out).mono ?_); rintro e w6 ⟨rfl, hb6⟩; have hbb := (hb4_ HB4.out HB5.out hb6); have HBA := Aside0.mk hbb; have HISA := Aside0.mk (IS.out.kept hbb); clear hb6 hbb))
          | (at_builtin; refine wpList_append_M _ rfl _ _ rfl w2.heap.size _ _ _ rfl HISA.out (s1 ++ s2 ++ s3) rfl (by have := LS.out; simp only [ByteArray.size_append]; omega) (Nat.le_trans SZ.out HBA.out.size) ?_; intro v7 w7 ho7 hb7; have HO7 := Aside0.mk ho7; have HB7 := Aside0.mk hb7; clear ho7 hb7))
        go_roundg (l0.length - (kk + 1))
        case measure => omega
        case rel =>
          refine ⟨kk + 1, by omega, by omega, by go_num, ⟨BW.out.trans ((HBA.out.mono BW.out.size).trans (HB7.out.mono HWW.out))⟩, ⟨?_⟩, ⟨?_⟩, ⟨Nat.le_trans SZ.out (Nat.le_trans HBA.out.size HB7.out.size)⟩⟩
          · have h := HO7.out
            rw [HST.out, HST2.out, HRB.out, List.length_append, Array.length_toList]
            exact h
          · have h3 := LS.out
            rw [HST2.out, List.length_append, HRB.out]
            have : (s1 ++ s2 ++ s3).data.toList.length = s1.size + s2.size + s3.size := by
              rw [Array.length_toList]
              show (s1 ++ s2 ++ s3).size = _
              simp only [ByteArray.size_append]
            omega
      · have hltz : ¬ (kk : Int) < (l0.length : Int) := by omega
        obtain rfl : kk = l0.length := by omega
        have hcv2 := string_M _ w2.heap.size _ (accR k n1 l0 l0.length) IS.out
        have HFIN : Aside0 (accR k n1 l0 l0.length = n1.data.toList ++ (List.map (fun x => (rowR k x).data.toList) l0).flatten) := ⟨by unfold accR; rw [List.take_length]⟩
        go_wp2
        go_ret2
        exact ⟨by rw [HFIN.out]; rfl, BW.out⟩
end Go.Proofs.Ythfkbfahpgdnfaa.PAll
end
