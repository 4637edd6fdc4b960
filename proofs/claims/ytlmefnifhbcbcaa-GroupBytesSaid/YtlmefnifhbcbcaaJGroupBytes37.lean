/- Joined texts of the claim GroupBytes (part 37): contracts of functions and plain laws. -/
import Derived.Outline
import Derived.Test.YtlmefnifhbcbcaaJGroupBytes17
import Derived.Test.YtlmefnifhbcbcaaJGroupBytes20
import Derived.Test.YtlmefnifhbcbcaaJGroupBytes34
import Derived.Test.YtlmefnifhbcbcaaJGroupBytes36
import Derived.Laws.Slices
import Derived.Lib.ConvBytes
import Derived.Test.YtlmefnifhbcbcaaJGroupBytes13
import Derived.Test.YtlmefnifhbcbcaaJGroupBytes2
section
/- ferruleref01.Nums, as the printed texts call it. -/
namespace Go.Proofs.Ytlmefnifhbcbcaa.PAll
open Go.RowKit Go.Proofs.YtlmefnifhbcbcaaW.PrintWords Go.Proofs.YtlmefnifhbcbcaaW.PrintMore Go.Proofs.Ytlmefnifhbcbcaa
set_option linter.unusedVariables false
def refNum (k : Nat) (x : Int) : Option ByteArray := (ferruleref01_Num.f k x).bind fun a => if a.2 = 0 ∧ a.1.size ≤ 100 then some a.1 else none
def refNums (k : Nat) : List Int → Option (List UInt8)
  | [] => some []
  | x :: r => (refNum k x).bind fun a => (refNums k r).bind fun b => some (a.data.toList ++ b)
def ferruleref01_Nums.f (k : Nat) (l0 : List Int) : Option (ByteArray × Int) := (ferruleref01_Num.f k l0.length).bind fun s => if s.1.size ≤ 100 ∧ l0.length ≤ 1000 then (refNums k l0).bind fun b => some (⟨(s.1.data.toList ++ b).toArray⟩, 0) else none
def numR (k : Nat) (x : Int) : ByteArray := ((refNum k x).getD ⟨#[]⟩)
theorem refNums_all (k : Nat) : ∀ (l : List Int) (b : List UInt8), refNums k l = some b → b = (l.map (fun x => (numR k x).data.toList)).flatten ∧ ∀ x ∈ l, refNum k x = some (numR k x)
  | [], b, h => by
    obtain rfl := Option.some.inj h
    exact ⟨rfl, fun x hx => by cases hx⟩
  | x :: r, b, h => by
    unfold refNums at h
    obtain ⟨a, ha, h⟩ := Option.bind_eq_some_iff.mp h
    obtain ⟨c, hc, h⟩ := Option.bind_eq_some_iff.mp h
    obtain rfl := Option.some.inj h
    obtain ⟨rfl, h2⟩ := refNums_all k r c hc
    have hx : numR k x = a := by unfold numR; rw [ha]; rfl
    refine ⟨by rw [List.map_cons, List.flatten_cons, hx], fun y hy => ?_⟩
    rcases List.mem_cons.1 hy with rfl | hy
    · rw [ha, hx]
    · exact h2 y hy
def accN (k : Nat) (s : ByteArray) (l : List Int) (j : Nat) : List UInt8 := s.data.toList ++ ((l.take j).map (fun x => (numR k x).data.toList)).flatten
theorem accN_step (k : Nat) (s : ByteArray) (l : List Int) (j : Nat) (h : j < l.length) : accN k s l (j + 1) = accN k s l j ++ (numR k (l[j]!)).data.toList := by
  unfold accN
  rw [List.take_succ_eq_append_getElem h, getElem!_pos l j h, List.map_append, List.flatten_append, ← List.append_assoc]
  simp
theorem accN_cells (k : Nat) (s : ByteArray) (l : List Int) (j : Nat) (h : j < l.length) : Lib.byteCells (accN k s l (j + 1)) = Lib.byteCells (accN k s l j) ++ Lib.strCells (numR k (l[j]!)) := by
  rw [accN_step k s l j h, Lib.strCells_eq]
  simp [Lib.byteCells]
theorem refNum_parts {k : Nat} {x : Int} {a : ByteArray} (h : refNum k x = some a) : ferruleref01_Num.f k x = some (a, 0) ∧ a.size ≤ 100 := by
  unfold refNum at h
  obtain ⟨⟨s1, e1⟩, h1, h⟩ := Option.bind_eq_some_iff.mp h
  dsimp only at h
  split at h
  · rename_i hc
    obtain ⟨rfl, hs⟩ := hc
    obtain rfl := Option.some.inj h
    exact ⟨h1, hs⟩
  · cases h
set_option maxHeartbeats 2000000 in
set_option maxRecDepth 100000 in
theorem ferruleref01_Nums.calls (k : Nat) (A0 : Option Addr) (c0 : Nat) (l0 : List Int) (r1 : ByteArray) (r2 : Int) (w : World) (hr0 : Kd.C (Kd.int .u64) w A0 l0.length l0) (hc0 : l0.length ≤ c0) (h : ferruleref01_Nums.f k l0 = some (r1, r2)) :
    Calls Try.prog 74 #[.slice A0 l0.length c0] w fun e w' => e = .returned (.tuple #[.string r1, .int .i64 r2]) ∧ Below w.heap.size w w' := by
  have HR := Aside0.mk hr0
  have HC := Aside0.mk hc0
  have HM := hr0.2.1
  unfold ferruleref01_Nums.f at h
  obtain ⟨⟨n1, n2⟩, hn, h⟩ := Option.bind_eq_some_iff.mp h
  dsimp only at h
  split at h
  case isFalse => cases h
  rename_i hsz
  obtain ⟨hn8, hlen⟩ := hsz
  obtain ⟨b, hb, h⟩ := Option.bind_eq_some_iff.mp h
  obtain ⟨rfl, rfl⟩ := Prod.mk.inj (Option.some.inj h)
  obtain ⟨rfl, hall⟩ := refNums_all k l0 b hb
  have HALL := Aside0.mk hall
  have HE0 : Aside0 (accN k n1 l0 0 = n1.data.toList) := ⟨by unfold accN; simp⟩
  have HN := Aside0.mk hn
  have hz0 : (0 : Int) ≤ (l0.length : Int) := by omega
  have hz1 : (l0.length : Int) ≤ 18446744073709551615 := by omega
  clear h hr0 hc0 hn hb hall
  go_enter Try.func74, Try.ntmps74
  go_wp2_with (go_at_call 91; refine (ferruleref01_Num.calls k (l0.length : Int) n1 n2 _ HN.out).mono ?_; rintro e w2 ⟨rfl, hb2⟩; have HB2 := Aside0.mk hb2; obtain ⟨v, w3, hcv, hom, hb3⟩ := bytes_M w2 n1 (by omega); have HOM := Aside0.mk hom; have HB3 := Aside0.mk hb3; clear hb2 hb3 hom)
  have HBW : Aside0 (Below w.heap.size w w3) := ⟨HB2.out.trans (HB3.out.mono HB2.out.size)⟩
  have HIS : Aside0 (OwnM w3 w2.heap.size v (accN k n1 l0 0).length (Lib.byteCells (accN k n1 l0 0))) := ⟨by rw [HE0.out]; exact HOM.out⟩
  have HLS : Aside0 ((accN k n1 l0 0).length ≤ 100 + 100 * 0) := ⟨by rw [HE0.out, Array.length_toList]; exact hn8⟩
  have HWW : Aside0 (w.heap.size ≤ w2.heap.size) := ⟨HB2.out.size⟩
  have HSZ : Aside0 (w2.heap.size ≤ w3.heap.size) := ⟨HB3.out.size⟩
  clear HN HOM HB3 HB2 hz0 hz1 hcv
  go_loopg [6, 7] l0.length (fun gg s7 s8 wr => ∃ kk : Nat, kk ≤ l0.length ∧ l0.length - kk ≤ gg ∧ s8 = .int .i64 kk ∧ Aside0 (Below w.heap.size w wr) ∧ Aside0 (OwnM wr w2.heap.size s7 (accN k n1 l0 kk).length (Lib.byteCells (accN k n1 l0 kk))) ∧ Aside0 ((accN k n1 l0 kk).length ≤ 100 + 100 * kk) ∧ Aside0 (w2.heap.size ≤ wr.heap.size))
  case atStart => exact ⟨0, Nat.zero_le _, by omega, rfl, HBW, HIS, HLS, HSZ⟩
  case round =>
    obtain ⟨kk, hkk, hg, rfl, BW, IS, LS, SZ⟩ := hrel
    by_cases hlt : kk < l0.length
    · have hltz : (kk : Int) < (l0.length : Int) := by omega
      obtain ⟨b, o, rfl, hc0_⟩ := cell_ofI (Kd.C_below HR.out BW.out) kk hlt
      have hrow' := HALL.out (l0[kk]!) (by rw [getElem!_pos l0 kk hlt]; exact List.getElem_mem hlt)
      have HST := Aside0.mk (accN_cells k n1 l0 kk hlt)
      have HST2 := Aside0.mk (accN_step k n1 l0 kk hlt)
      clear HR
      generalize l0[kk]! = x at *
      obtain ⟨h3, hs3⟩ := refNum_parts hrow'
      generalize numR k x = s3 at *
      have HN2 := Aside0.mk h3
      clear h3 hrow'
      go_wp2_with (first
        | (go_at_call 91; ((with_reducible refine (ferruleref01_Num.calls k x s3 0 _ HN2.out).mono ?_); rintro e w6 ⟨rfl, hb6⟩; have HBA := Aside0.mk hb6; have HISA := Aside0.mk (IS.out.kept hb6); clear hb6))
        | (at_builtin; refine wpList_append_M _ rfl _ _ rfl w2.heap.size _ _ _ rfl HISA.out s3 rfl (by have := LS.out; omega) (Nat.le_trans SZ.out HBA.out.size) ?_; intro v7 w7 ho7 hb7; have HO7 := Aside0.mk ho7; have HB7 := Aside0.mk hb7; clear ho7 hb7))
      go_roundg (l0.length - (kk + 1))
      case measure => omega
      case rel =>
        refine ⟨kk + 1, by omega, by omega, by go_num, ⟨BW.out.trans ((HBA.out.mono BW.out.size).trans (HB7.out.mono HWW.out))⟩, ⟨?_⟩, ⟨?_⟩, ⟨Nat.le_trans SZ.out (Nat.le_trans HBA.out.size HB7.out.size)⟩⟩
        · have h := HO7.out
          rw [HST.out, HST2.out, List.length_append, Array.length_toList]
          exact h
        · have h3 := LS.out
          rw [HST2.out, List.length_append]
          have : s3.data.toList.length = s3.size := by rw [Array.length_toList]; rfl
          omega
    · have hltz : ¬ (kk : Int) < (l0.length : Int) := by omega
      obtain rfl : kk = l0.length := by omega
      have hcv2 := string_M _ w2.heap.size _ (accN k n1 l0 l0.length) IS.out
      have HFIN : Aside0 (accN k n1 l0 l0.length = n1.data.toList ++ (List.map (fun x => (numR k x).data.toList) l0).flatten) := ⟨by unfold accN; rw [List.take_length]⟩
      go_wp2
      go_ret2
      exact ⟨by rw [HFIN.out]; rfl, BW.out⟩
end Go.Proofs.Ytlmefnifhbcbcaa.PAll
end
section
/- copy into a row of bytes that the call has made, and the string of it. -/
namespace Go.Proofs.Ytlmefnifhbcbcaa.PAll
open Go.RowKit Go.Proofs.YtlmefnifhbcbcaaW.PrintWords Go.Proofs.Ytlmefnifhbcbcaa
set_option linter.unusedVariables false
theorem copy_str (W : World) (s d n t : Nat) (xs rest : List Int) (hn : xs.length = n) (h8 : n ≤ 8) (hs : W.heap[s]? = some (.cells ((xs ++ rest).map (Value.int .u8)).toArray t (0, 0))) (hd : W.heap[d]? = some (.cells (List.replicate n (Value.int .u8 0)).toArray 5 (0, 0))) :
    ∃ W', (Builtin.copy_ #[121, 121] 3 #[.slice (some ⟨d, 0, none⟩) n n, .slice (some ⟨s, 0, none⟩) n 8]).run Try.prog W = .ok (goInt n) W' ∧ (convert 121 9 (.slice (some ⟨d, 0, none⟩) n n)).run Try.prog W' = .ok (.string (strOfNums xs)) W' ∧ W.grownBy W' (some d) := by
  have hi : (Try.prog.info? 5).map (·.size) = some 1 := by kernel_rfl
  have hc := run_copy_k (P := Try.prog) W 121 121 3 5 1 n d 0 n n ⟨s, 0, none⟩ n 8 (List.replicate n (Value.int .u8 0)) (xs.map (Value.int .u8)) 5 Try.underlying121 hi (by simp) (by simp [hn]) hd (by simp [hn])
    (fun j v hj => by
      rw [Addr.add_lit, Nat.zero_add, cell_row hs, List.map_append, List.getElem?_append_left (by have := (List.getElem?_eq_some_iff.1 hj).1; exact this)]
      exact hj)
    (fun v hv => by obtain ⟨x, _, rfl⟩ := List.mem_map.1 hv; rfl)
  have hsp : splice (List.replicate n (Value.int .u8 0)) 0 (xs.map (Value.int .u8)) = xs.map (Value.int .u8) := by
    unfold splice
    simp [hn]
  rw [hsp] at hc
  refine ⟨_, hc, ?_, grownBy_setRow _ _ _⟩
  have hh := setRow_heap W d _ (xs.map (Value.int .u8)).toArray 5 (0, 0) hd
  refine Kd.C_string (xs := xs) Try.underlying121 Try.underlying5 Try.underlying9 ⟨hn, by omega, fun _ => ⟨_, rfl, fun j p hj => ⟨[Value.int .u8 p], rfl, ?_, fun i u hu => ?_⟩⟩⟩
  · exact rfl
  · have hi0 : i = 0 := by have := (List.getElem?_eq_some_iff.1 hu).1; simp at this; omega
    subst hi0
    obtain rfl : Value.int .u8 p = u := by simpa using hu
    rw [Addr.add_lit, cell_row hh]
    show (xs.map (Value.int .u8))[0 + (j * 1 + 0)]? = _
    rw [show 0 + (j * 1 + 0) = j by omega, List.getElem?_map, hj]
    rfl
theorem wpList_copy_str (w : World) {ops : Array Oper} {rest : List Oper} {o : Oper} {a : Act} {Q : Exit → Act → World → Prop} (hgd : o.guard = none) (x y : Operand)
    (ho : o.op = .call { callee := .builtin .copy, args := #[x, y], argTypes := #[121, 121] }) (hty : o.type = 3) (s d n t : Nat) (xs ys : List Int) (hx : a.eval x = .slice (some ⟨d, 0, none⟩) n n) (hy : a.eval y = .slice (some ⟨s, 0, none⟩) n 8)
    (hn : xs.length = n) (h8 : n ≤ 8) (hs : w.heap[s]? = some (.cells ((xs ++ ys).map (Value.int .u8)).toArray t (0, 0))) (hd : w.heap[d]? = some (.cells (List.replicate n (Value.int .u8 0)).toArray 5 (0, 0)))
    (h : ∀ W', (convert 121 9 (.slice (some ⟨d, 0, none⟩) n n)).run Try.prog W' = .ok (.string (strOfNums xs)) W' → w.grownBy W' (some d) → wpList Try.prog ops Q rest (a.put o.dst (goInt n)) W') : wpList Try.prog ops Q (o :: rest) a w := by
  obtain ⟨W', h1, h2, h3⟩ := copy_str w s d n t xs ys hn h8 hs hd
  exact wpList_copy_run w hgd x y 121 121 ho _ _ hx hy (by rw [hty]; exact h1) (h W' h2 h3)
end Go.Proofs.Ytlmefnifhbcbcaa.PAll
end
