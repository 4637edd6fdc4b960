/- Joined texts of the claim DriveEnds (part 50): contracts of functions and plain laws. -/
import Derived.Test.YtkennobdoldlkaaJDriveEnds49
section
/- A drive in a box, whose steps lie in a row of the call's own. -/
namespace Go.Proofs.Ytkennobdoldlkaa.PAll
open Go.RowKit Go.Proofs.YtkennobdoldlkaaW.PrintWords Go.Proofs.Ytkennobdoldlkaa
set_option linter.unusedVariables false
set_option linter.unusedSimpArgs false
structure DAt (w : World) (q : Nat) (d : Drv) (A : Option Addr) (c : Nat) (B : Option Addr) (e9 : Nat) : Prop where
  cells : w.heap[q]? = some (.cells #[.int .u64 d.ta, .int .u64 d.ti, .slice A d.st.length c, .int .i64 d.ph, .int .i64 d.ap, .bool d.fa, .bool d.og, .bool d.cm, .slice B d.sw.length e9] 30 (0, 0))
  st : ∃ base, Own 5 53 w base (.slice A d.st.length c) (d.st.map enc53)
  stq : ∀ b, (Value.slice A d.st.length c).ownBlock = some b → b ≠ q
  sw : Own 5 51 w (q + 1) (.slice B d.sw.length e9) (d.sw.map enc51)
theorem DAt.lt {w : World} {q : Nat} {d : Drv} {A : Option Addr} {c : Nat} {B : Option Addr} {e9 : Nat} (h : DAt w q d A c B e9) : q < w.heap.size := (Array.getElem?_eq_some_iff.1 h.cells).1
theorem DAt.below {w w' : World} {q : Nat} {d : Drv} {A : Option Addr} {c : Nat} {B : Option Addr} {e9 : Nat} (h : DAt w q d A c B e9) (hb : Below w.heap.size w w') : DAt w' q d A c B e9 :=
  ⟨stay20 hb h.cells, by obtain ⟨b, ho⟩ := h.st; exact ⟨b, ho.below hb⟩, h.stq, h.sw.below hb⟩
theorem DAt.sawC {w : World} {q : Nat} {d : Drv} {A : Option Addr} {c : Nat} {B : Option Addr} {e9 : Nat} (h : DAt w q d A c B e9) : Kd.C k51 w B d.sw.length d.sw ∧ d.sw.length ≤ e9 := by
  obtain ⟨A', c', e, hc, hC⟩ := flat51.ofsl h.sw.sl
  cases e
  exact ⟨hC, hc⟩
theorem DAt.stC {w : World} {q : Nat} {d : Drv} {A : Option Addr} {c : Nat} {B : Option Addr} {e9 : Nat} (h : DAt w q d A c B e9) : Kd.C k53 w A d.st.length d.st ∧ d.st.length ≤ c := by
  obtain ⟨b, ho⟩ := h.st
  obtain ⟨A', c', e, hc, hC⟩ := flat53.ofsl ho.sl
  cases e
  exact ⟨hC, hc⟩
theorem DAt.next {w : World} {q : Nat} {d : Drv} {A : Option Addr} {c : Nat} {B : Option Addr} {e9 : Nat} (h : DAt w q d A c B e9) (ok : DOk d) (W : World) (hb : Below w.heap.size w W) :
    Calls Try.prog 10 #[.agg #[.int .u64 d.ta, .int .u64 d.ti, .slice A d.st.length c, .int .i64 d.ph, .int .i64 d.ap, .bool d.fa, .bool d.og, .bool d.cm, .slice B d.sw.length e9]] W (NextPost d W) :=
  next_calls d.ta d.ti A c d.st d.ph d.ap d.fa d.og d.cm B e9 d.sw W (Kd.C_below h.stC.1 hb) h.stC.2 (Kd.C_below h.sawC.1 hb) h.sawC.2 ok.len ok.rng
theorem DAt.hear {w : World} {q : Nat} {d : Drv} {A : Option Addr} {c : Nat} {B : Option Addr} {e9 : Nat} (h : DAt w q d A c B e9) (ok : DOk d) (er : Int) (va : ByteArray) (ve : Int) (fo co : Bool) (W : World) (hb : Below w.heap.size w W) :
    Calls Try.prog 14 #[.agg #[.int .u64 d.ta, .int .u64 d.ti, .slice A d.st.length c, .int .i64 d.ph, .int .i64 d.ap, .bool d.fa, .bool d.og, .bool d.cm, .slice B d.sw.length e9], .agg #[.int .i64 er, .string va, .int .u64 ve, .bool fo, .bool co]] W fun e w' => ∃ B' e9', e = .returned (.agg #[.int .u64 (hearV d er va ve fo co).ta, .int .u64 (hearV d er va ve fo co).ti, .slice A (hearV d er va ve fo co).st.length c, .int .i64 (hearV d er va ve fo co).ph, .int .i64 (hearV d er va ve fo co).ap, .bool (hearV d er va ve fo co).fa, .bool (hearV d er va ve fo co).og, .bool (hearV d er va ve fo co).cm, .slice B' (hearV d er va ve fo co).sw.length e9']) ∧
      Below W.heap.size W w' ∧ Own 5 51 w' (q + 1) (.slice B' (hearV d er va ve fo co).sw.length e9') ((hearV d er va ve fo co).sw.map enc51) := by
  refine (hear_calls d.ta d.ti A c d.st d.ph d.ap d.fa d.og d.cm B e9 d.sw er va ve fo co W (Kd.C_below h.stC.1 hb) h.stC.2 (Kd.C_below h.sawC.1 hb) h.sawC.2 ok.len ok.rng ok.saw).mono ?_
  rintro e w' ⟨vw, rfl, hs, hb'⟩
  change (vw = .slice B d.sw.length e9 ∧ (hearV d er va ve fo co).sw = d.sw) ∨ Own 5 51 w' W.heap.size vw ((hearV d er va ve fo co).sw.map enc51) at hs
  have hq := h.lt
  rcases hs with ⟨rfl, hs⟩ | ho
  · refine ⟨B, e9, ?_, hb', ?_⟩
    · rw [hs]; rfl
    · rw [hs]; exact (h.sw.below hb).below hb'
  · obtain ⟨B', e9', rfl, _⟩ := own_sl20 ho
    rw [List.length_map] at *
    exact ⟨B', e9', rfl, hb', ho.lower (by have := hb.size; omega)⟩
theorem DAt.put {w W : World} {q : Nat} {d d' : Drv} {A : Option Addr} {c : Nat} {B : Option Addr} {e9 : Nat} (h : DAt w q d A c B e9) (hst : d'.st = d.st) {B' : Option Addr} {e9' : Nat} (hb : Below w.heap.size w W) (ho : Own 5 51 W (q + 1) (.slice B' d'.sw.length e9') (d'.sw.map enc51)) :
    DAt (putB9 W q (.int .u64 d'.ta) (.int .u64 d'.ti) (.slice A d'.st.length c) (.int .i64 d'.ph) (.int .i64 d'.ap) (.bool d'.fa) (.bool d'.og) (.bool d'.cm) (.slice B' d'.sw.length e9')) q d' A c B' e9' :=
  ⟨putB9_at (stay20 hb h.cells) _ _ _ _ _ _ _ _ _,
    by
      obtain ⟨b, hs⟩ := h.st
      refine ⟨b, ?_⟩
      rw [hst]
      exact (hs.below hb).kept (putB9_grown _ _ _ _ _ _ _ _ _ _ _) (fun b e e2 => h.stq b e (Option.some.inj e2)),
    by rw [hst]; exact h.stq,
    ho.kept (putB9_grown _ _ _ _ _ _ _ _ _ _ _) (fun b e e2 => by have := ho.base b e; have := Option.some.inj e2; omega)⟩
/-- A new drive, in a new box. -/
theorem DAt.made {w : World} {r : Drv} {base : Nat} {A : Option Addr} {n c : Nat} (hs : r.sw = []) (ho : Own 5 53 w base (.slice A n c) (r.st.map enc53)) (hn : n = r.st.length) :
    DAt (w.alloc (.cells #[.int .u64 r.ta, .int .u64 r.ti, .slice A r.st.length c, .int .i64 r.ph, .int .i64 r.ap, .bool r.fa, .bool r.og, .bool r.cm, .slice none 0 0] 30)) w.heap.size r A c none 0 := by
  subst hn
  refine ⟨?_, ⟨base, ho.kept (World.grownBy_alloc w _ none) (fun b e e2 => by cases e2)⟩, fun b e => ?_, ?_⟩
  · rw [hs]; exact heap_alloc_new w _
  · have := ho.lt b e; omega
  · rw [hs]; exact Own.nil _ _ _ _
/-- A new drive, laid into the box of another one. -/
theorem DAt.laid {w W : World} {q : Nat} {o r : Drv} {A A' B : Option Addr} {n c c' e9 : Nat} (h : DAt w q o A c B e9) (hb : Below w.heap.size w W) (hs : r.sw = []) (ho : Own 5 53 W w.heap.size (.slice A' n c') (r.st.map enc53)) (hn : n = r.st.length) :
    DAt (putB9 W q (.int .u64 r.ta) (.int .u64 r.ti) (.slice A' r.st.length c') (.int .i64 r.ph) (.int .i64 r.ap) (.bool r.fa) (.bool r.og) (.bool r.cm) (.slice none 0 0)) q r A' c' none 0 := by
  subst hn
  have hq := h.lt
  refine ⟨?_, ⟨w.heap.size, ho.kept (putB9_grown _ _ _ _ _ _ _ _ _ _ _) (fun b e e2 => by have := ho.base b e; have := Option.some.inj e2; omega)⟩, fun b e => ?_, ?_⟩
  · rw [hs]; exact putB9_at (stay20 hb h.cells) _ _ _ _ _ _ _ _ _
  · have := ho.base b e; omega
  · rw [hs]; exact Own.nil _ _ _ _
end Go.Proofs.Ytkennobdoldlkaa.PAll
end
