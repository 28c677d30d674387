/- expo: the reader's line, as a Call. expo: Parse, as a Call. expo: slices.Clone of labels, as a Call. expo: the lines' row while its lines share label rows. Struct types as kinds, and how arguments of these types lie in memory: printed by the session's kindgen.py. expo: the lines of a row of an answer, as a Call. expo: the lines of an answer, as a Call. ExpoParses: the law's walk, the example taken as a premise. expo: the chapter's example holds. How arguments of the struct types lie in memory, by their kinds: printed by the session's opgen.py. -/
import Derived.Test.YtdbmcikoiilanaaDoorMgExpoNames11
import Derived.Test.YtdbmcikoiilanaaDoorMgExpoNames2
import Derived.Test.YtdbmcikoiilanaaDoorProg
import Derived.Test.YtdbmcikoiilanaaDoorMgExpoNames10
set_option linter.unusedVariables false
set_option linter.unusedSimpArgs false
namespace Go.Proofs.YtdbmcikoiilanaaDoor.Xp
open Go.RowKit Go.Proofs.YtdbmcikoiilanaaDoor.B0 Go.Proofs.YtdbmcikoiilanaaDoorW.PrintWords Go.Proofs.YtdbmcikoiilanaaDoorW.PrintLast Go.Proofs.YtdbmcikoiilanaaDoor.Bld Go.Proofs.YtdbmcikoiilanaaDoor.Pp Go.Proofs.YtdbmcikoiilanaaDoor.Bl2

/-- what is left to do at the loop's head. -/
def LI (s nm : BL) (more : Bool) (sr : BL) (bd : Bool) (ls : List Lb) : Prop :=
  (bd = true ∧ lineM s = none) ∨ (bd = false ∧ more = false ∧ ls = [] ∧ lineM s = tailM nm [] sr) ∨ (bd = false ∧ more = false ∧ ls ≠ [] ∧ lineM s = (nextM 125 sr).bind fun s4 => tailM nm ls s4) ∨
    (bd = false ∧ more = true ∧ ∃ f, sr.length < f ∧ lineM s = (labM f sr ls).bind fun q => (nextM 125 q.2).bind fun s4 => tailM nm q.1 s4)
theorem LI_step (s nm sr k s3 t s5 s8 : BL) (ls : List Lb) (b3 b5 ok : Bool) (h : LI s nm true sr false ls) (h1 : (untilM 61 sr = some (k, s3) ∧ b3 = false) ∨ (untilM 61 sr = none ∧ b3 = true))
    (h2 : (b3 = false ∧ quotedM s3 = some (t, s5) ∧ b5 = false) ∨ ((b3 = true ∨ quotedM s3 = none) ∧ b5 = true)) (h3 : (b5 = false ∧ ok = true ∧ nextM 44 s5 = some s8) ∨ ((b5 = true ∨ nextM 44 s5 = none) ∧ ok = false ∧ s8 = s5)) :
    LI s nm ok s8 b5 (ls ++ [⟨k, t⟩]) ∧ s8.length ≤ s5.length ∧ (b5 = false → s8.length + 3 ≤ sr.length) := by
  have h4 : s8.length ≤ s5.length := by
    rcases h3 with ⟨_, _, h⟩ | ⟨_, _, rfl⟩
    · have := next_len _ _ _ h; omega
    · exact Nat.le_refl _
  obtain ⟨f, hf, hl⟩ : ∃ f, sr.length < f ∧ lineM s = (labM f sr ls).bind fun q => (nextM 125 q.2).bind fun s4 => tailM nm q.1 s4 := by
    rcases h with ⟨h, _⟩ | ⟨_, h, _⟩ | ⟨_, h, _⟩ | ⟨_, _, h⟩
    · cases h
    · cases h
    · cases h
    · exact h
  obtain ⟨g, rfl⟩ : ∃ g, f = g + 1 := ⟨f - 1, by omega⟩
  rcases h1 with ⟨h1, rfl⟩ | ⟨h1, rfl⟩
  · have hu := until_len _ _ _ _ h1
    rcases h2 with ⟨_, h2, rfl⟩ | ⟨h2, rfl⟩
    · have hq := quoted_len _ _ _ h2
      refine ⟨?_, h4, fun _ => by omega⟩
      rcases h3 with ⟨_, rfl, h3⟩ | ⟨h3, rfl, rfl⟩
      · refine .inr (.inr (.inr ⟨rfl, rfl, g, by omega, ?_⟩))
        rw [hl, labM, h1, Option.bind_some, h2, Option.bind_some]; simp only [h3]
      · rcases h3 with h3 | h3
        · cases h3
        · refine .inr (.inr (.inl ⟨rfl, rfl, by simp, ?_⟩))
          rw [hl, labM, h1, Option.bind_some, h2, Option.bind_some]; simp only [h3, Option.bind_some]
    · refine ⟨.inl ⟨rfl, ?_⟩, h4, fun e => by cases e⟩
      rcases h2 with h2 | h2
      · cases h2
      · rw [hl, labM, h1, Option.bind_some, h2]; rfl
  · have h5 : b5 = true := by
      rcases h2 with ⟨h, _⟩ | ⟨_, h⟩
      · cases h
      · exact h
    refine ⟨.inl ⟨h5, ?_⟩, h4, fun e => by rw [h5] at e; cases e⟩
    rw [hl, labM, h1]; rfl
/-- behind the loop. -/
def DI (s nm sr : BL) (bd : Bool) (ls : List Lb) : Prop := (bd = true ∧ lineM s = none) ∨ (bd = false ∧ ls = [] ∧ lineM s = tailM nm [] sr) ∨ (bd = false ∧ ls ≠ [] ∧ lineM s = (nextM 125 sr).bind fun s4 => tailM nm ls s4)
theorem DI_of (s nm sr : BL) (more bd : Bool) (ls : List Lb) (h : LI s nm more sr bd ls) (hs : (more && !bd) = false) : DI s nm sr bd ls := by
  rcases h with h | ⟨h, _, h3⟩ | ⟨h, _, h3⟩ | ⟨h, h3, _⟩
  · exact .inl h
  · exact .inr (.inl ⟨h, h3⟩)
  · exact .inr (.inr ⟨h, h3⟩)
  · rw [h, h3] at hs; cases hs
theorem nx_conv {b ok : Bool} {c : UInt8} {s s' : ByteArray} (h : (b = false ∧ ok = true ∧ nextM c s.data.toList = some s'.data.toList) ∨ ((b = true ∨ nextM c s.data.toList = none) ∧ ok = false ∧ s' = s)) : (b = false ∧ ok = true ∧ nextM c s.data.toList = some s'.data.toList) ∨ ((b = true ∨ nextM c s.data.toList = none) ∧ ok = false ∧ s'.data.toList = s.data.toList) := h.imp id fun ⟨a, b, c⟩ => ⟨a, b, by rw [c]⟩
def TI (s nm sr : BL) (bd : Bool) (ls : List Lb) : Prop := (bd = true ∧ lineM s = none) ∨ (bd = false ∧ lineM s = tailM nm ls sr)
def UI (s nm sr : BL) (bd : Bool) (ls : List Lb) : Prop := (bd = true ∧ lineM s = none) ∨ (bd = false ∧ lineM s = (untilM 10 sr).bind fun p => (numM p.1).map fun u => (⟨nm, ls, u⟩, p.2))
theorem TI_nil (s nm sr : BL) (bd : Bool) (ls : List Lb) (h : DI s nm sr bd ls) (hl : ls = []) : TI s nm sr bd ls := by
  rcases h with h | ⟨h, h3, h2⟩ | ⟨h, h3, h2⟩
  · exact .inl h
  · exact .inr ⟨h, by rw [hl, h2]⟩
  · exact absurd hl h3
theorem TI_cons (s nm sr s9 : BL) (bd ok : Bool) (ls : List Lb) (h : DI s nm sr bd ls) (hl : ls ≠ []) (h3 : (bd = false ∧ ok = true ∧ nextM 125 sr = some s9) ∨ ((bd = true ∨ nextM 125 sr = none) ∧ ok = false ∧ s9 = sr)) :
    ((!ok) = true ∧ lineM s = none) ∨ ((!ok) = false ∧ TI s nm s9 bd ls) := by
  rcases h with ⟨h, h2⟩ | ⟨h, h4, h2⟩ | ⟨h, h4, h2⟩
  · rcases h3 with ⟨h3, _⟩ | ⟨_, rfl, _⟩
    · rw [h] at h3; cases h3
    · exact .inl ⟨rfl, h2⟩
  · exact absurd h4 hl
  · rcases h3 with ⟨h5, rfl, h3⟩ | ⟨h3, rfl, _⟩
    · exact .inr ⟨rfl, .inr ⟨h5, by rw [h2, h3]; rfl⟩⟩
    · refine .inl ⟨rfl, ?_⟩
      rcases h3 with h3 | h3
      · rw [h] at h3; cases h3
      · rw [h2, h3]; rfl
theorem UI_of (s nm sr s9 : BL) (bd ok : Bool) (ls : List Lb) (h : TI s nm sr bd ls) (h3 : (bd = false ∧ ok = true ∧ nextM 32 sr = some s9) ∨ ((bd = true ∨ nextM 32 sr = none) ∧ ok = false ∧ s9 = sr)) :
    (ok = true ∧ UI s nm s9 bd ls) ∨ (ok = false ∧ lineM s = none) := by
  rcases h3 with ⟨h1, rfl, h2⟩ | ⟨h1, rfl, _⟩
  · rcases h with ⟨h, _⟩ | ⟨_, h⟩
    · rw [h] at h1; cases h1
    · exact .inl ⟨rfl, .inr ⟨h1, by rw [h]; unfold tailM; rw [h2]; rfl⟩⟩
  · refine .inr ⟨rfl, ?_⟩
    rcases h with ⟨_, h⟩ | ⟨h0, h⟩
    · exact h
    · rcases h1 with h1 | h1
      · rw [h0] at h1; cases h1
      · rw [h]; unfold tailM; rw [h1]; rfl
/-- how line ends. -/
def LPost (s : ByteArray) (x : SLin) (s' : ByteArray) (b' : Bool) : Prop := (lineM s.data.toList = some (lnM x, s'.data.toList) ∧ 0 ≤ x.f2 ∧ b' = false) ∨ (lineM s.data.toList = none ∧ b' = true)
theorem LP_fin (s : ByteArray) (nm wd s11 : ByteArray) (s10 : BL) (ls : List SLab) (bd b11 er : Bool) (n : Int) (h : UI s.data.toList nm.data.toList s10 bd (ls.map lbM))
    (h1 : (untilM 10 s10 = some (wd.data.toList, s11.data.toList) ∧ b11 = bd) ∨ (untilM 10 s10 = none ∧ b11 = true)) (h2 : (er = false ∧ ∃ u : Nat, numM wd.data.toList = some u ∧ n = u) ∨ (er = true ∧ numM wd.data.toList = none)) : LPost s ⟨nm, ls, n⟩ s11 (b11 || er) := by
  rcases h with ⟨rfl, h⟩ | ⟨rfl, h⟩
  · refine .inr ⟨h, ?_⟩
    rcases h1 with ⟨_, rfl⟩ | ⟨_, rfl⟩ <;> rfl
  · rcases h1 with ⟨h1, rfl⟩ | ⟨h1, rfl⟩
    · rcases h2 with ⟨rfl, u, h2, rfl⟩ | ⟨rfl, h2⟩
      · refine .inl ⟨?_, by show (0 : Int) ≤ (u : Int); omega, rfl⟩
        rw [h, h1, Option.bind_some, h2]
        simp [lnM]
      · exact .inr ⟨by rw [h, h1, Option.bind_some, h2]; rfl, rfl⟩
    · exact .inr ⟨by rw [h, h1]; rfl, rfl⟩
abbrev xcells (nm : ByteArray) (v : Value) (n : Int) : Obj := .cells #[.string nm, v, .int .u64 n] 43 (0, 0)

theorem R_fr {w w' : World} {base R : Nat} {v : Value} {xs : List SLab} (h : Kd.R k71 71 w base (fun _ => True) v xs) (hf : Fr [R] w w') (hR : R < base) : Kd.R k71 71 w' base (fun _ => True) v xs := by
  refine Kd.R_mono (Kd.R_move (Kd.R_bound h) (fun k hk => ?_)) (fun _ hk => hk.1)
  exact hf.block k hk.2.2.1 (by simp; omega)
theorem R_setX {w : World} {base bx : Nat} {v : Value} {xs : List SLab} {o : Nat} {u : Value} {cs : Array Value} (h : Kd.R k71 71 w base (fun _ => True) v xs) (hx : w.heap[bx]? = some (.cells cs 43 (0, 0))) : Kd.R k71 71 (w.setCell ⟨bx, o, none⟩ u) base (fun _ => True) v xs := by
  refine Kd.R_mono (Kd.R_move (Kd.R_bound h) (fun k hk => setO w _ u ?_)) (fun _ hk => hk.1)
  rintro rfl
  obtain ⟨_, _, _, q, hq, cells, hc⟩ := hk
  rw [hx] at hc
  have e := (Obj.cells.inj (Option.some.inj hc)).2.1
  rcases List.mem_cons.1 hq with rfl | hq
  · exact absurd e (by decide)
  · exact absurd hq (by simp [k71, Kd.iso, Kd.pair, Kd.string, Kd.scalar])
theorem setX {w : World} {b : Nat} {nm : ByteArray} {v u : Value} {n : Int} (h : w.heap[b]? = some (xcells nm v n)) : (w.setCell ⟨b, 1, none⟩ u).heap[b]? = some (xcells nm u n) := setB h 1 u
theorem setN {w : World} {b : Nat} {nm : ByteArray} {v : Value} {n m : Int} (h : w.heap[b]? = some (xcells nm v n)) : (w.setCell ⟨b, 2, none⟩ (.int .u64 m)).heap[b]? = some (xcells nm v m) := setB h 2 _
theorem ne_own {w : World} {base bx : Nat} {v : Value} {xs : List SLab} {nm : ByteArray} {u : Value} {n : Int} (h : Kd.R k71 71 w base (fun _ => True) v xs) (hx : w.heap[bx]? = some (xcells nm u n)) : some bx ≠ v.ownBlock := by
  intro e
  obtain ⟨cells, hc⟩ := Kd.R_typed h bx e.symm
  rw [hx] at hc
  exact absurd (Obj.cells.inj (Option.some.inj hc)).2.1 (by decide)
theorem store3 (w wz : World) (R br : Nat) (s : ByteArray) (b : Bool) (nm : ByteArray) (v : Value) (n : Int) (ls : List SLab) (hd : RD wz R s b) (hf : Fr [R] w wz) (hz : wz.heap[br]? = some (xcells ⟨#[]⟩ (.slice none 0 0) 0))
    (hr : Kd.R k71 71 wz w.heap.size (fun _ => True) v ls) (hne : br ≠ R) (hb : w.heap.size ≤ br) (wf : World) (hw : (((wz.setCell ⟨br, 0, none⟩ (.string nm)).setCell ⟨br, 1, none⟩ v).setCell ⟨br, 2, none⟩ (.int .u64 n)).drew = wf) :
    RD wf R s b ∧ Fr [R] w wf ∧ wf.heap[br]? = some (xcells nm v n) ∧ Kd.R k71 71 wf w.heap.size (fun _ => True) v ls := by
  subst hw
  have h0 : (wz.setCell ⟨br, 0, none⟩ (.string nm)).heap[br]? = some (xcells nm (.slice none 0 0) 0) := setB hz 0 _
  have h1 : ((wz.setCell ⟨br, 0, none⟩ (.string nm)).setCell ⟨br, 1, none⟩ v).heap[br]? = some (xcells nm v 0) := setX h0
  have h2 : (((wz.setCell ⟨br, 0, none⟩ (.string nm)).setCell ⟨br, 1, none⟩ v).setCell ⟨br, 2, none⟩ (.int .u64 n)).heap[br]? = some (xcells nm v n) := setN h1
  have hR : ∀ (W : World) (o : Nat) (u : Value), RD W R s b → RD (W.setCell ⟨br, o, none⟩ u) R s b := fun W o u h => (setO W ⟨br, o, none⟩ u (by show R ≠ br; exact fun e => hne e.symm)).trans h
  refine ⟨hR _ _ _ (hR _ _ _ (hR _ _ _ hd)), (((hf.setCell (p := ⟨br, 0, none⟩) (.inr hb) _).setCell (p := ⟨br, 1, none⟩) (.inr hb) _).setCell (p := ⟨br, 2, none⟩) (.inr hb) _).drew, h2, Kd.R_drew (R_setX (R_setX (R_setX hr hz) h0) h1)⟩

def T25_6 : Bool × List (List Nat × List Nat) := (true, [([], []), ([0], [0]), ([], []), ([], []), ([3], [3]), ([2, 4], [2, 4]), ([5], [5]), ([1, 6, 4], [1, 6]), ([0, 1, 2, 3, 4, 5, 6, 7], []), ([8, 7, 7, 0, 1, 2, 3, 4, 5, 6, 7], [7, 8])])
def B25_6 : List Nat := [0, 1, 0, 0, 8, 28, 60, 127, 255, 511]
theorem tab25_6 : rtab .any (opsOf Tryd.f25 6) = T25_6 := by kernel_rfl
theorem bits25_6 : waitsOk T25_6.2 B25_6 = true := by kernel_rfl
def T25_12 : Bool × List (List Nat × List Nat) := (true, [([], []), ([], []), ([], []), ([2], [2]), ([3], [3]), ([4], [4]), ([5], [5]), ([6], [6]), ([7, 6], [6, 7]), ([6, 8], [6, 8]), ([1], []), ([10, 1, 6, 1], [1, 10]), ([0, 0, 1, 2, 3, 4, 5, 6, 7, 8, 9, 10, 11], [0]), ([12, 0, 1, 2, 3, 4, 5, 6, 7, 8, 9, 10, 11], [12]), ([13, 9, 11, 0, 1, 2, 3, 4, 5, 6, 7, 8, 9, 10, 11], [9, 13])])
def B25_12 : List Nat := [0, 0, 0, 4, 12, 28, 60, 124, 252, 508, 2, 1150, 4095, 8191, 16383]
theorem tab25_12 : rtab .any (opsOf Tryd.f25 12) = T25_12 := by kernel_rfl
theorem bits25_12 : waitsOk T25_12.2 B25_12 = true := by kernel_rfl
set_option maxHeartbeats 8000000 in
set_option maxRecDepth 100000 in
theorem line_c (w : World) (R : Nat) (s : ByteArray) (h : RD w R s false) (hL : LP w) (hLR : ∀ w', Fr [R] w w' → LP w') (hs : s.size ≤ 4200000) :
    Calls Tryd.prog 25 #[.pointer (some ⟨R, 0, none⟩)] w fun e w' => ∃ (x : SLin) (v1 : Value) (s' : ByteArray) (b' : Bool), e = .returned (.agg #[.string x.f0, v1, .int .u64 x.f2]) ∧
      Kd.R k71 71 w' w.heap.size (fun _ => True) v1 x.f1 ∧ RD w' R s' b' ∧ Fr [R] w w' ∧ LPost s x s' b' := by
  have HD := Lib.hid h
  have hRw := lt_of_get h
  have HLR := Lib.hid hLR
  clear h hLR hL
  obtain ⟨br, hbr⟩ : ∃ br, Hid (w.heap.size = br) := ⟨_, Lib.hid rfl⟩
  obtain ⟨wa, hwa⟩ : ∃ wa, Hid (w.alloc (xcells ⟨#[]⟩ (.slice none 0 0) 0) = wa) := ⟨_, Lib.hid rfl⟩
  have HA : Hid (RD wa R s false ∧ Fr [R] w wa ∧ wa.heap[br]? = some (xcells ⟨#[]⟩ (.slice none 0 0) 0) ∧ wa.heap.size = w.heap.size + 1) := by
    refine ⟨by rw [← hwa.out]; exact HD.out.keep ((Below.refl _ _).alloc (Nat.le_refl _) _) hRw, by rw [← hwa.out]; exact (Fr.refl [R] w).alloc _, by rw [← hwa.out, ← hbr.out]; exact allocN _ _, by rw [← hwa.out]; exact size_alloc _ _⟩
  have HU := Lib.hid (until_c wa R s false HA.out.1 123 (by omega))
  go_enter Tryd.func25, Tryd.ntmps25
  go_upto_region 1 with fail
  rw [hwa.out, hbr.out]
  go_wp2_with fail
  refine HU.out.mono ?_
  rintro e w1 ⟨nm, s1, b1, rfl, hd1, hf1, hc1⟩
  obtain ⟨bx, hbx⟩ : ∃ bx, Hid (w1.heap.size = bx ∧ bx ≠ R ∧ bx ≠ br ∧ br ≠ R ∧ br < bx ∧ w.heap.size ≤ bx) := ⟨_, rfl, by have := HA.out.2.2.2; have := hf1.size; omega, by have := HA.out.2.2.2; have := hf1.size; have := hbr.out; omega, by have := hbr.out; omega, by have := HA.out.2.2.2; have := hf1.size; have := hbr.out; omega, by have := HA.out.2.2.2; have := hf1.size; omega⟩
  obtain ⟨w2, hw2⟩ : ∃ w2, Hid (w1.alloc (xcells nm (.slice none 0 0) 0) = w2) := ⟨_, Lib.hid rfl⟩
  have H2 : Hid (RD w2 R s1 b1 ∧ Fr [R] w w2 ∧ w2.heap[br]? = some (xcells ⟨#[]⟩ (.slice none 0 0) 0) ∧ w2.heap[bx]? = some (xcells nm (.slice none 0 0) 0)) := by
    have hal : Below w1.heap.size w1 w2 := by rw [← hw2.out]; exact (Below.refl _ _).alloc (Nat.le_refl _) _
    refine ⟨hd1.keep hal (lt_of_get hd1), Fr.then_below (HA.out.2.1.trans hf1) hal (by have := hf1.size; have := HA.out.2.2.2; omega), ?_, by rw [← hw2.out, ← hbx.out.1]; exact allocN _ _⟩
    have h1 : w1.heap[br]? = some (xcells ⟨#[]⟩ (.slice none 0 0) 0) := hf1.get HA.out.2.2.1 (by simp; exact hbx.out.2.2.2.1)
    exact (hal.block _ (lt_of_get h1)).trans h1
  have HC1 := Lib.hid hc1
  have hsz1 : s1.size ≤ s.size := by
    rcases HC1.out with ⟨h, _⟩ | ⟨_, _, rfl⟩
    · have := until_len _ _ _ _ h
      have h2 : s1.data.toList.length = s1.size := rfl
      have h3 : s.data.toList.length = s.size := rfl
      omega
    · exact Nat.le_refl _
  clear hd1 hf1 hc1 HU
  have HN := Lib.hid (next_c w2 R s1 b1 H2.out.1 125)
  go_wp2_with fail
  rw [hw2.out, hbx.out.1]
  refine HN.out.mono ?_
  rintro e w3 ⟨ok2, s2, rfl, hd3, hf3, hc3⟩
  have H3 : Hid (RD w3 R s2 b1 ∧ Fr [R] w w3 ∧ w3.heap[br]? = some (xcells ⟨#[]⟩ (.slice none 0 0) 0) ∧ w3.heap[bx]? = some (xcells nm (.slice none 0 0) 0) ∧ s2.size ≤ s.size ∧ LI s.data.toList nm.data.toList (!ok2) s2.data.toList b1 []) := by
    refine ⟨hd3, H2.out.2.1.trans hf3, hf3.get H2.out.2.2.1 (by simp; exact hbx.out.2.2.2.1), hf3.get H2.out.2.2.2 (by simp; exact hbx.out.2.1), ?_, ?_⟩
    · rcases hc3 with ⟨_, _, h⟩ | ⟨_, _, rfl⟩
      · have := next_len _ _ _ h
        have h2 : s1.data.toList.length = s1.size := rfl
        have h3 : s2.data.toList.length = s2.size := rfl
        omega
      · exact hsz1
    · rcases HC1.out with ⟨h, rfl⟩ | ⟨h, rfl, _⟩
      · rcases hc3 with ⟨_, rfl, h2⟩ | ⟨h2, rfl, rfl⟩
        · exact .inr (.inl ⟨rfl, rfl, rfl, by unfold lineM; rw [h]; simp only [Option.bind_some, h2]⟩)
        · rcases h2 with h2 | h2
          · cases h2
          · exact .inr (.inr (.inr ⟨rfl, rfl, s2.data.toList.length + 1, Nat.lt_succ_self _, by unfold lineM; rw [h]; simp only [Option.bind_some, h2]⟩))
      · exact .inl ⟨rfl, by unfold lineM; rw [h]; rfl⟩
  clear hd3 hf3 hc3 HN hsz1 HC1
  go_upto_block 0 with fail
  go_cut [] (fun wx => ∃ (sr : ByteArray) (bd : Bool) (ls : List SLab) (A1 : Option Addr) (n1 c1 : Nat), Hid (ls.length = n1) ∧ Hid (RD wx R sr bd ∧ Fr [R] w wx ∧ wx.heap[br]? = some (xcells ⟨#[]⟩ (.slice none 0 0) 0) ∧ wx.heap[bx]? = some (xcells nm (.slice A1 n1 c1) 0) ∧ Kd.R k71 71 wx w.heap.size (fun _ => True) (.slice A1 n1 c1) ls ∧ sr.size ≤ s.size + 1 ∧ DI s.data.toList nm.data.toList sr.data.toList bd (ls.map lbM)))
  case first =>
    go_wp2_with fail
    go_loopw [4] (fun mv wr => ∃ more : Bool, mv = .bool more ∧ Hid (∃ (sr : ByteArray) (bd : Bool) (ls : List SLab) (v : Value), RD wr R sr bd ∧ Fr [R] w wr ∧ wr.heap[br]? = some (xcells ⟨#[]⟩ (.slice none 0 0) 0) ∧ wr.heap[bx]? = some (xcells nm v 0) ∧
        Kd.R k71 71 wr w.heap.size (fun _ => True) v ls ∧ ls.length + sr.size ≤ s.size + 1 ∧ (bd = false → ls.length + sr.size ≤ s.size) ∧ LI s.data.toList nm.data.toList more sr.data.toList bd (ls.map lbM))) (fun mv wr => 2 * rdSize wr R + (match mv with | .bool true => 1 | _ => 0))
    case atStart => exact ⟨!ok2, rfl, s2, b1, [], _, H3.out.1, H3.out.2.1, H3.out.2.2.1, H3.out.2.2.2.1, Kd.R_nil _ _ _ _ _, by have := H3.out.2.2.2.2.1; simp only [List.length_nil]; omega, fun _ => by have := H3.out.2.2.2.2.1; simp only [List.length_nil]; omega, H3.out.2.2.2.2.2⟩
    case round =>
      obtain ⟨more, rfl, HO⟩ := hrel
      obtain ⟨sr, bd, ls, v, hH⟩ := HO.out
      have HW := Lib.hid hH; clear hH HO
      have g1 := HW.out.1.c1
      rcases Bool.eq_false_or_eq_true (more && !bd) with hgo | hstop
      · obtain ⟨rfl, rfl⟩ : more = true ∧ bd = false := by revert hgo; cases more <;> cases bd <;> simp
        clear hgo
        have HU := Lib.hid (until_c wr R sr false HW.out.1 61 (by have := HW.out.2.2.2.2.2.1; omega))
        have hms0 : rdSize wr R = sr.size := rdSize_of HW.out.1
        go_wp2_with fail
        refine HU.out.mono ?_
        rintro e w4 ⟨k, s3, b3, rfl, hd4, hf4, hc4⟩
        have H4 : Hid (RD w4 R s3 b3 ∧ Fr [R] w w4 ∧ w4.heap[br]? = some (xcells ⟨#[]⟩ (.slice none 0 0) 0) ∧ w4.heap[bx]? = some (xcells nm v 0) ∧ Kd.R k71 71 w4 w.heap.size (fun _ => True) v ls) :=
          ⟨hd4, HW.out.2.1.trans hf4, hf4.get HW.out.2.2.1 (by simp; exact hbx.out.2.2.2.1), hf4.get HW.out.2.2.2.1 (by simp; exact hbx.out.2.1), R_fr HW.out.2.2.2.2.1 hf4 hRw⟩
        have HC4 := Lib.hid hc4
        clear hd4 hf4 hc4 HU g1
        have hs3 : s3.size ≤ sr.size := by
          rcases HC4.out with ⟨h, _⟩ | ⟨_, _, rfl⟩
          · have := until_len _ _ _ _ h
            have h2 : s3.data.toList.length = s3.size := rfl
            have h3 : sr.data.toList.length = sr.size := rfl
            omega
          · exact Nat.le_refl _
        go_upto_region 6 with fail
        refine start_ (n := 10) (S := (fun w' => w'.heap[bx]? = some (xcells nm v 0))) (ds := [9]) #[false, false, false, false, false, false, false, false, false, false] (by kernel_rfl) (by rfl) (by rfl) H4.out.2.2.2.1 (fun hHeld => ?_); refine with_tabW tab25_6 bits25_6 (fun HT_ HW_ => ?_)
        refine pure_ (i := 0) (N := some 26) (v := ?_) (a' := ?_) #[true, false, false, false, false, false, false, false, false, false] rfl rfl (any_of HT_.out (by kernel_rfl)) (fun _ _ _ h => h) (Or.inl ⟨by rfl, ?_⟩) ?_ ?_
        rotate_left
        · intro w'
          go_simp
          with_reducible rfl
        rotate_left
        · simp only [Act.put, List.setIfInBounds_toArray, List.set_cons_zero, List.set_cons_succ]
          rfl
        refine take_ (i := 1) (N := some 27) (v := ?_) (a' := ?_) #[true, true, false, false, false, false, false, false, false, false] rfl rfl (take_ofW HT_.out HW_.out (by kernel_rfl)) (fun _ _ _ h => h) (Or.inl ⟨by rfl, ?_⟩) hHeld ?_ ?_
        rotate_left
        · rintro w' hS; have s1 := show w'.cell? ⟨bx, 1, none⟩ = some v by rw [cellB hS]; rfl
          go_simp
          with_reducible rfl
        rotate_left
        · simp only [Act.put, List.setIfInBounds_toArray, List.set_cons_zero, List.set_cons_succ]
          rfl
        refine pure_ (i := 2) (N := some 28) (v := ?_) (a' := ?_) #[true, true, true, false, false, false, false, false, false, false] rfl rfl (any_of HT_.out (by kernel_rfl)) (fun _ _ _ h => h) (Or.inl ⟨by rfl, ?_⟩) ?_ ?_
        rotate_left
        · intro w'
          go_simp
          with_reducible rfl
        rotate_left
        · simp only [Act.put, List.setIfInBounds_toArray, List.set_cons_zero, List.set_cons_succ]
          rfl
        refine pure_ (i := 3) (N := some 29) (v := ?_) (a' := ?_) #[true, true, true, true, false, false, false, false, false, false] rfl rfl (any_of HT_.out (by kernel_rfl)) (fun _ _ _ h => h) (Or.inl ⟨by rfl, ?_⟩) ?_ ?_
        rotate_left
        · intro w'
          go_simp
          with_reducible rfl
        rotate_left
        · simp only [Act.put, List.setIfInBounds_toArray, List.set_cons_zero, List.set_cons_succ]
          rfl
        refine one_ (i := 4) (N := some 30) #[true, true, true, true, true, false, false, false, false, false] rfl rfl (one_of HT_.out (by kernel_rfl)) (by decide) (fun K hK => ?_)
        rw [if_pos (by rfl)]
        go_simp
        go_at_call 38; refine (quoted_c _ R s3 b3 (by exact H4.out.1) (by have := HW.out.2.2.2.2.2.2.1 (by trivial); omega)).mono ?_; rintro e w5 ⟨t, s5, b5, rfl, hd5, hf5, hz5, hp5⟩; have hx5 := hf5.get hHeld (by simp; exact hbx.out.2.1); have hR5 : Kd.R k71 71 w5 w.heap.size (fun _ => True) v ls := R_fr (by first | exact H4.out.2.2.2.2 | exact Kd.R_drew H4.out.2.2.2.2) hf5 hRw; have hF5 : Fr [R] w w5 := Fr.trans (b := w4) H4.out.2.1 ⟨hf5.os, hf5.tape, hf5.output, hf5.size, hf5.block⟩; have hr5 : w5.heap[br]? = some (xcells ⟨#[]⟩ (.slice none 0 0) 0) := hf5.get (by exact H4.out.2.2.1) (by simp; exact hbx.out.2.2.2.1)
        refine hK.out _ _ (hf5.get hHeld (by simp; exact hbx.out.2.1)) (fun hHeld => ?_)
        clear hK K
        refine pure_ (i := 5) (N := some 31) (v := ?_) (a' := ?_) #[true, true, true, true, true, true, false, false, false, false] rfl rfl (any_of HT_.out (by kernel_rfl)) (fun _ _ _ h => h) (Or.inl ⟨by rfl, ?_⟩) ?_ ?_
        rotate_left
        · intro w'
          go_simp
          with_reducible rfl
        rotate_left
        · simp only [Act.put, List.setIfInBounds_toArray, List.set_cons_zero, List.set_cons_succ]
          rfl
        refine one_ (i := 6) (N := some 32) #[true, true, true, true, true, true, true, false, false, false] rfl rfl (one_of HT_.out (by kernel_rfl)) (by decide) (fun K hK => ?_)
        rw [if_pos (by rfl)]
        go_simp
        refine hK.out _ _ ((allocO _ _ (lt_of_get hHeld)).trans hHeld) (fun hHeld => ?_)
        clear hK K
        refine one_ (i := 7) (N := some 33) #[true, true, true, true, true, true, true, true, false, false] rfl rfl (one_of HT_.out (by kernel_rfl)) (by decide) (fun K hK => ?_)
        refine Kd.R_append_step k71 (w0 := w5) w.heap.size (by rfl) _ _ 41 71 (.agg #[(.string ⟨#[]⟩), (.string ⟨#[]⟩)]) 32 rfl Tryd.underlying41 info71 rfl (by decide) (by decide) v ls (⟨k, t⟩ : SLab) [.string k, .string t] (fun _ => True) (fun _ => False) rfl rfl (k71_mkM _ _ _ (⟨k, t⟩ : SLab)) (fun _ h => h.elim) (fun _ _ => trivial) hR5 (Below.refl _ _) hF5.size (by have := HW.out.2.2.2.2.2.1; omega) ?_; intro v6 w6 ho6 hb6 hg6 hat6; obtain ⟨ls6, hls6⟩ : ∃ l, Hid (ls ++ [(⟨k, t⟩ : SLab)] = l) := ⟨_, Lib.hid rfl⟩; rw [hls6.out] at ho6; obtain ⟨A6, cc6, rfl, _, _⟩ := Kd.R_reads ho6; have hx6 : w6.heap[bx]? = some (xcells nm v 0) := (hg6.block bx (lt_of_get hx5) (ne_own hR5 hx5)).trans hx5; have c6 : w6.cell? ⟨bx, 1, none⟩ = some v := (by rw [cellB hx6]; rfl); have k6 : w6.frozen? ⟨bx, 1, none⟩ = false := frozenB hx6 1
        refine hK.out _ _ hx6 (fun hHeld => ?_)
        clear hK K
        refine pure_ (i := 8) (N := some 34) (v := ?_) (a' := ?_) #[true, true, true, true, true, true, true, true, true, false] rfl rfl (any_of HT_.out (by kernel_rfl)) (fun _ _ _ h => h) (Or.inl ⟨by rfl, ?_⟩) ?_ ?_
        rotate_left
        · intro w'
          go_simp
          with_reducible rfl
        rotate_left
        · simp only [Act.put, List.setIfInBounds_toArray, List.set_cons_zero, List.set_cons_succ]
          rfl
        refine last_ (i := 9) (N := none) #[true, true, true, true, true, true, true, true, true, true] rfl rfl (one_of HT_.out (by kernel_rfl)) (by decide) (fun K hK => ?_)
        rw [if_pos (by rfl)]
        go_simp
        refine hK.out _ _ ?_
        clear hK K
        refine done_ (done_of HT_.out (by kernel_rfl)) ?_
        clear HT_ HW_ hHeld
        obtain ⟨w7, hw7⟩ : ∃ w7, Hid (w6.setCell ⟨bx, 1, none⟩ (.slice A6 ls6.length cc6) = w7) := ⟨_, Lib.hid rfl⟩
        have hr6 : w6.heap[br]? = some (xcells ⟨#[]⟩ (.slice none 0 0) 0) := (hg6.block br (lt_of_get hr5) (ne_own hR5 hr5)).trans hr5
        have H7 : Hid (RD w7 R s5 b5 ∧ Fr [R] w w7 ∧ w7.heap[br]? = some (xcells ⟨#[]⟩ (.slice none 0 0) 0) ∧ w7.heap[bx]? = some (xcells nm (.slice A6 ls6.length cc6) 0) ∧ Kd.R k71 71 w7 w.heap.size (fun _ => True) (.slice A6 ls6.length cc6) ls6) := by
          rw [← hw7.out]
          exact ⟨(setO w6 ⟨bx, 1, none⟩ _ (by show R ≠ bx; exact fun e => hbx.out.2.1 e.symm)).trans (hd5.keep hb6 hRw), (Fr.then_below hF5 hb6 (Nat.le_refl _)).setCell (p := ⟨bx, 1, none⟩) (.inr hbx.out.2.2.2.2.2) _, (setO w6 ⟨bx, 1, none⟩ _ (by show br ≠ bx; exact fun e => hbx.out.2.2.1 e.symm)).trans hr6, setX hx6, R_setX ho6 hx6⟩
        have HP5 := Lib.hid hp5
        clear hd5 hf5 hp5 hR5 hF5 hr5 hr6 hx5 hx6 ho6 hb6 hg6 hat6 c6 k6
        rw [hw7.out]
        have HNX := Lib.hid (next_c w7 R s5 b5 H7.out.1 44)
        go_wp2_with fail
        refine HNX.out.mono ?_
        rintro e w8 ⟨ok8, s8, rfl, hd8, hf8, hc8⟩
        have hLI := LI_step s.data.toList nm.data.toList sr.data.toList k.data.toList s3.data.toList t.data.toList s5.data.toList s8.data.toList (ls.map lbM) b3 b5 ok8 HW.out.2.2.2.2.2.2.2
          (by rcases HC4.out with h | ⟨h, h2, _⟩
              · exact .inl h
              · exact .inr ⟨h, h2⟩) HP5.out
          (by rcases hc8 with h | ⟨h, h2, h3⟩
              · exact .inl h
              · exact .inr ⟨h, h2, by rw [h3]⟩)
        have e6 : ls6.map lbM = ls.map lbM ++ [⟨k.data.toList, t.data.toList⟩] := by rw [← hls6.out, List.map_append]; rfl
        have el6 : ls6.length = ls.length + 1 := by rw [← hls6.out, List.length_append]; rfl
        rw [← e6] at hLI
        have H8 : Hid (RD w8 R s8 b5 ∧ Fr [R] w w8 ∧ w8.heap[br]? = some (xcells ⟨#[]⟩ (.slice none 0 0) 0) ∧ w8.heap[bx]? = some (xcells nm (.slice A6 ls6.length cc6) 0) ∧ Kd.R k71 71 w8 w.heap.size (fun _ => True) (.slice A6 ls6.length cc6) ls6 ∧
            ls6.length + s8.size ≤ s.size + 1 ∧ (b5 = false → ls6.length + s8.size ≤ s.size) ∧ LI s.data.toList nm.data.toList ok8 s8.data.toList b5 (ls6.map lbM)) := by
          have h8 : s8.data.toList.length = s8.size := rfl
          have h5 : s5.data.toList.length = s5.size := rfl
          have hr : sr.data.toList.length = sr.size := rfl
          have hb := HW.out.2.2.2.2.2.2.1 (by trivial)
          refine ⟨hd8, H7.out.2.1.trans hf8, hf8.get H7.out.2.2.1 (by simp; exact hbx.out.2.2.2.1), hf8.get H7.out.2.2.2.1 (by simp; exact hbx.out.2.1), R_fr H7.out.2.2.2.2 hf8 hRw, ?_, fun e => ?_, hLI.1⟩
          · have := hLI.2.1; omega
          · have := hLI.2.2 e; omega
        have HM : Hid (2 * s8.size + (match (Value.bool ok8 : Value) with | .bool true => 1 | _ => 0) < 2 * sr.size + 1) := by
          have h8 : s8.data.toList.length = s8.size := rfl
          have h5 : s5.data.toList.length = s5.size := rfl
          have hr : sr.data.toList.length = sr.size := rfl
          show _ < _
          rcases hc8 with ⟨h, h2, _⟩ | ⟨_, rfl, h3⟩
          · have := hLI.2.2 h
            subst h2
            show 2 * s8.size + 1 < _; omega
          · have := hLI.2.1
            show 2 * s8.size + 0 < _; omega
        clear hd8 hf8 hc8 hLI e6 el6 HNX
        have hms8 : rdSize w8 R = s8.size := rdSize_of H8.out.1
        go_wp2_with fail
        go_roundw
        case rel => exact ⟨ok8, rfl, s8, b5, ls6, _, H8.out⟩
        case measure => rw [hms8, hms0]; exact HM.out
      · obtain ⟨A1, c1, hv, hc1, _⟩ := Kd.R_reads HW.out.2.2.2.2.1
        obtain ⟨n1, hn1⟩ : ∃ n1, Hid (ls.length = n1) := ⟨_, Lib.hid rfl⟩
        rw [hn1.out] at hv
        subst hv
        have HE : Hid (RD wr R sr bd ∧ Fr [R] w wr ∧ wr.heap[br]? = some (xcells ⟨#[]⟩ (.slice none 0 0) 0) ∧ wr.heap[bx]? = some (xcells nm (.slice A1 n1 c1) 0) ∧ Kd.R k71 71 wr w.heap.size (fun _ => True) (.slice A1 n1 c1) ls ∧ sr.size ≤ s.size + 1 ∧ DI s.data.toList nm.data.toList sr.data.toList bd (ls.map lbM)) := ⟨HW.out.1, HW.out.2.1, HW.out.2.2.1, HW.out.2.2.2.1, HW.out.2.2.2.2.1, by have := HW.out.2.2.2.2.2.1; omega, DI_of _ _ _ _ _ _ HW.out.2.2.2.2.2.2.2 hstop⟩
        cases more
        · clear hstop
          go_wp2_with fail
          go_meet
          case rel => exact ⟨sr, bd, ls, A1, n1, c1, hn1, HE⟩
        · obtain rfl : bd = true := by revert hstop; cases bd <;> simp
          clear hstop
          go_wp2_with fail
          go_meet
          case rel => exact ⟨sr, true, ls, A1, n1, c1, hn1, HE⟩
  case rest =>
    obtain ⟨sr, bd, ls, A1, n1, c1, hn1, HE⟩ := hcut
    have v1 : wc.cell? ⟨bx, 1, none⟩ = some (.slice A1 n1 c1) := by rw [cellB HE.out.2.2.2.1]; rfl
    go_upto_region 7 with fail
    go_cut [43] (fun v wx => ∃ (bv : Bool) (sr : ByteArray) (bd : Bool), v = .bool bv ∧ Hid (RD wx R sr bd ∧ Fr [R] w wx ∧ wx.heap[br]? = some (xcells ⟨#[]⟩ (.slice none 0 0) 0) ∧ wx.heap[bx]? = some (xcells nm (.slice A1 n1 c1) 0) ∧ Kd.R k71 71 wx w.heap.size (fun _ => True) (.slice A1 n1 c1) ls ∧ sr.size ≤ s.size + 1 ∧ ((bv = true ∧ lineM s.data.toList = none) ∨ (bv = false ∧ TI s.data.toList nm.data.toList sr.data.toList bd (ls.map lbM)))))
    case first =>
      rcases Nat.eq_zero_or_pos n1 with h0 | h0
      · have hz : decide ((0 : Int) < (n1 : Int)) = false := decide_eq_false (by omega)
        have hz2 : decide (0 < n1) = false := decide_eq_false (by omega)
        have HT := Lib.hid (TI_nil _ _ _ _ _ HE.out.2.2.2.2.2.2 (by rw [List.eq_nil_of_length_eq_zero (hn1.out.trans h0)]; rfl))
        clear h0
        go_wp2_with fail
        go_meet
        case rel => exact ⟨false, sr, bd, rfl, HE.out.1, HE.out.2.1, HE.out.2.2.1, HE.out.2.2.2.1, HE.out.2.2.2.2.1, HE.out.2.2.2.2.2.1, .inr ⟨rfl, HT.out⟩⟩
      · have hz : decide ((0 : Int) < (n1 : Int)) = true := decide_eq_true (by omega)
        have hz2 : decide (0 < n1) = true := decide_eq_true (by omega)
        have hne : ls.map lbM ≠ [] := by
          intro e
          have h1 := congrArg List.length e
          rw [List.length_map, hn1.out] at h1
          simp at h1; omega
        have HNE := Lib.hid hne
        have HN9 := Lib.hid (next_c wc R sr bd HE.out.1 125)
        clear h0 hne
        go_wp2_with fail
        refine HN9.out.mono ?_
        rintro e w9 ⟨ok9, s9, rfl, hd9, hf9, hc9⟩
        have HT := TI_cons s.data.toList nm.data.toList sr.data.toList s9.data.toList bd ok9 (ls.map lbM) HE.out.2.2.2.2.2.2 HNE.out (nx_conv hc9)
        have hs9 : s9.size ≤ sr.size := by
          have h1 : sr.data.toList.length = sr.size := rfl
          have h2 : s9.data.toList.length = s9.size := rfl
          rcases hc9 with ⟨_, _, h⟩ | ⟨_, _, rfl⟩
          · have := next_len _ _ _ h; omega
          · exact Nat.le_refl _
        have H9 : Hid (RD w9 R s9 bd ∧ Fr [R] w w9 ∧ w9.heap[br]? = some (xcells ⟨#[]⟩ (.slice none 0 0) 0) ∧ w9.heap[bx]? = some (xcells nm (.slice A1 n1 c1) 0) ∧ Kd.R k71 71 w9 w.heap.size (fun _ => True) (.slice A1 n1 c1) ls ∧ s9.size ≤ s.size + 1 ∧ (((!ok9) = true ∧ lineM s.data.toList = none) ∨ ((!ok9) = false ∧ TI s.data.toList nm.data.toList s9.data.toList bd (ls.map lbM)))) :=
          ⟨hd9, HE.out.2.1.trans hf9, hf9.get HE.out.2.2.1 (by simp; exact hbx.out.2.2.2.1), hf9.get HE.out.2.2.2.1 (by simp; exact hbx.out.2.1), R_fr HE.out.2.2.2.2.1 hf9 hRw, by have := HE.out.2.2.2.2.2.1; omega, HT⟩
        clear hd9 hf9 hc9 HT hs9 HN9
        go_wp2_with fail
        go_meet
        case rel => exact ⟨!ok9, s9, bd, rfl, H9.out⟩
    case rest =>
      obtain ⟨bv, sr, bd, rfl, HV⟩ := hcut
      clear HE v1
      go_upto_if 43 with fail
      go_cut [] (fun wx => ∃ (sr : ByteArray) (bd : Bool), Hid (RD wx R sr bd ∧ Fr [R] w wx ∧ wx.heap[br]? = some (xcells ⟨#[]⟩ (.slice none 0 0) 0) ∧ wx.heap[bx]? = some (xcells nm (.slice A1 n1 c1) 0) ∧ Kd.R k71 71 wx w.heap.size (fun _ => True) (.slice A1 n1 c1) ls ∧ sr.size ≤ s.size + 1 ∧ TI s.data.toList nm.data.toList sr.data.toList bd (ls.map lbM)))
      case first =>
        have z1 := HV.out.1.c1
        have z2 := HV.out.1.f 1
        cases bv
        · have HT : Hid (TI s.data.toList nm.data.toList sr.data.toList bd (ls.map lbM)) := by
            rcases HV.out.2.2.2.2.2.2 with ⟨h, _⟩ | ⟨_, h⟩
            · cases h
            · exact h
          go_wp2_with fail
          go_meet
          case rel => exact ⟨sr, bd, HV.out.1, HV.out.2.1, HV.out.2.2.1, HV.out.2.2.2.1, HV.out.2.2.2.2.1, HV.out.2.2.2.2.2.1, HT.out⟩
        · have HT : Hid (lineM s.data.toList = none) := by
            rcases HV.out.2.2.2.2.2.2 with ⟨_, h⟩ | ⟨h, _⟩
            · exact h
            · cases h
          go_wp2_with fail
          go_meet
          case rel => exact ⟨sr, true, HV.out.1.set1 _, HV.out.2.1.trans (FR.set _ _ _ _), (setO _ ⟨R, 1, none⟩ _ (by show br ≠ R; exact hbx.out.2.2.2.1)).trans HV.out.2.2.1, (setO _ ⟨R, 1, none⟩ _ (by show bx ≠ R; exact hbx.out.2.1)).trans HV.out.2.2.2.1, R_fr HV.out.2.2.2.2.1 (FR.set _ _ _ _) hRw, HV.out.2.2.2.2.2.1, .inl ⟨rfl, HT.out⟩⟩
      case rest =>
        obtain ⟨sr, bd, HT⟩ := hcut
        clear HV
        have HN := Lib.hid (next_c wc R sr bd HT.out.1 32)
        go_wp2_with fail
        refine HN.out.mono ?_
        rintro e w9 ⟨ok9, s9, rfl, hd9, hf9, hc9⟩
        have hU := UI_of s.data.toList nm.data.toList sr.data.toList s9.data.toList bd ok9 (ls.map lbM) HT.out.2.2.2.2.2.2 (nx_conv hc9)
        have hs9 : s9.size ≤ sr.size := by
          have h1 : sr.data.toList.length = sr.size := rfl
          have h2 : s9.data.toList.length = s9.size := rfl
          rcases hc9 with ⟨_, _, h⟩ | ⟨_, _, rfl⟩
          · have := next_len _ _ _ h; omega
          · exact Nat.le_refl _
        have H9 : Hid (RD w9 R s9 bd ∧ Fr [R] w w9 ∧ w9.heap[br]? = some (xcells ⟨#[]⟩ (.slice none 0 0) 0) ∧ w9.heap[bx]? = some (xcells nm (.slice A1 n1 c1) 0) ∧ Kd.R k71 71 w9 w.heap.size (fun _ => True) (.slice A1 n1 c1) ls ∧ s9.size ≤ s.size + 1 ∧ ((ok9 = true ∧ UI s.data.toList nm.data.toList s9.data.toList bd (ls.map lbM)) ∨ (ok9 = false ∧ lineM s.data.toList = none))) :=
          ⟨hd9, HT.out.2.1.trans hf9, hf9.get HT.out.2.2.1 (by simp; exact hbx.out.2.2.2.1), hf9.get HT.out.2.2.2.1 (by simp; exact hbx.out.2.1), R_fr HT.out.2.2.2.2.1 hf9 hRw, by have := HT.out.2.2.2.2.2.1; omega, hU⟩
        clear hd9 hf9 hc9 hU hs9 HN HT
        go_upto_if 49 with fail
        go_cut [] (fun wx => ∃ (sr : ByteArray) (bd : Bool), Hid (RD wx R sr bd ∧ Fr [R] w wx ∧ wx.heap[br]? = some (xcells ⟨#[]⟩ (.slice none 0 0) 0) ∧ wx.heap[bx]? = some (xcells nm (.slice A1 n1 c1) 0) ∧ Kd.R k71 71 wx w.heap.size (fun _ => True) (.slice A1 n1 c1) ls ∧ sr.size ≤ s.size + 1 ∧ UI s.data.toList nm.data.toList sr.data.toList bd (ls.map lbM)))
        case first =>
          have z1 := H9.out.1.c1
          have z2 := H9.out.1.f 1
          cases ok9
          · have HQ : Hid (lineM s.data.toList = none) := by
              rcases H9.out.2.2.2.2.2.2 with ⟨h, _⟩ | ⟨_, h⟩
              · cases h
              · exact h
            go_wp2_with fail
            go_meet
            case rel => exact ⟨s9, true, H9.out.1.set1 _, H9.out.2.1.trans (FR.set _ _ _ _), (setO _ ⟨R, 1, none⟩ _ (by show br ≠ R; exact hbx.out.2.2.2.1)).trans H9.out.2.2.1, (setO _ ⟨R, 1, none⟩ _ (by show bx ≠ R; exact hbx.out.2.1)).trans H9.out.2.2.2.1, R_fr H9.out.2.2.2.2.1 (FR.set _ _ _ _) hRw, H9.out.2.2.2.2.2.1, .inl ⟨rfl, HQ.out⟩⟩
          · have HQ : Hid (UI s.data.toList nm.data.toList s9.data.toList bd (ls.map lbM)) := by
              rcases H9.out.2.2.2.2.2.2 with ⟨_, h⟩ | ⟨h, _⟩
              · exact h
              · cases h
            go_wp2_with fail
            go_meet
            case rel => exact ⟨s9, bd, H9.out.1, H9.out.2.1, H9.out.2.2.1, H9.out.2.2.2.1, H9.out.2.2.2.2.1, H9.out.2.2.2.2.2.1, HQ.out⟩
        case rest =>
          obtain ⟨s10, bd10, HU10⟩ := hcut
          clear H9
          have HN := Lib.hid (until_d wc R s10 bd10 HU10.out.1 10 (by have := HU10.out.2.2.2.2.2.1; omega))
          go_wp2_with fail
          refine HN.out.mono ?_
          rintro e w11 ⟨wd, s11, b11, rfl, hd11, hf11, hwz11, hc11⟩
          have HC11 : Hid ((untilM 10 s10.data.toList = some (wd.data.toList, s11.data.toList) ∧ b11 = bd10) ∨ (untilM 10 s10.data.toList = none ∧ b11 = true)) := by
            rcases hc11 with h | ⟨h, h2, _⟩
            · exact .inl h
            · exact .inr ⟨h, h2⟩
          have H11 : Hid (RD w11 R s11 b11 ∧ Fr [R] w w11 ∧ w11.heap[br]? = some (xcells ⟨#[]⟩ (.slice none 0 0) 0) ∧ w11.heap[bx]? = some (xcells nm (.slice A1 n1 c1) 0) ∧ Kd.R k71 71 w11 w.heap.size (fun _ => True) (.slice A1 n1 c1) ls) :=
            ⟨hd11, HU10.out.2.1.trans hf11, hf11.get HU10.out.2.2.1 (by simp; exact hbx.out.2.2.2.1), hf11.get HU10.out.2.2.2.1 (by simp; exact hbx.out.2.1), R_fr HU10.out.2.2.2.2.1 hf11 hRw⟩
          clear hd11 hf11 hc11 HN
          have hwd : wd.size ≤ 5000000 := by have := HU10.out.2.2.2.2.2.1; omega
          have HPU := Lib.hid (ParseUint_c wd w11 hwd (HLR.out _ H11.out.2.1))
          go_wp2_with fail
          refine HPU.out.mono ?_
          rintro e w12 ⟨hc12, hb12⟩
          have H12 : Hid (RD w12 R s11 b11 ∧ Fr [R] w w12 ∧ w12.heap[br]? = some (xcells ⟨#[]⟩ (.slice none 0 0) 0) ∧ w12.heap[bx]? = some (xcells nm (.slice A1 n1 c1) 0) ∧ Kd.R k71 71 w12 w.heap.size (fun _ => True) (.slice A1 n1 c1) ls) :=
            ⟨H11.out.1.keep hb12 (lt_of_get H11.out.1), Fr.then_below H11.out.2.1 hb12 H11.out.2.1.size, (hb12.block _ (lt_of_get H11.out.2.2.1)).trans H11.out.2.2.1, (hb12.block _ (lt_of_get H11.out.2.2.2.1)).trans H11.out.2.2.2.1, Kd.R_below H11.out.2.2.2.2 hb12⟩
          clear hb12 HPU
          rcases hc12 with ⟨u, hu, rfl⟩ | ⟨hu, nv, Te, pe, rfl⟩
          · have HQ := Lib.hid hu; clear hu
            cases b11
            · have fN : w12.cell? ⟨bx, 2, none⟩ = some (.int .u64 0) := by rw [cellB H12.out.2.2.2.1]; rfl
              have kN : w12.frozen? ⟨bx, 2, none⟩ = false := frozenB H12.out.2.2.2.1 2
              have fB := H12.out.1.c1
              have kB := H12.out.1.f 1
              go_upto_region 12 with fail
              refine start_ (n := 15) (S := (fun w' => w'.heap = w12.heap)) (ds := [11, 14]) #[false, false, false, false, false, false, false, false, false, false, false, false, false, false, false] (by kernel_rfl) (by rfl) (by rfl) rfl (fun hHeld => ?_); refine with_tabW tab25_12 bits25_12 (fun HT_ HW_ => ?_)
              refine pure_ (i := 0) (N := some 59) (v := ?_) (a' := ?_) #[true, false, false, false, false, false, false, false, false, false, false, false, false, false, false] rfl rfl (any_of HT_.out (by kernel_rfl)) (fun _ _ _ h => h) (Or.inl ⟨by rfl, ?_⟩) ?_ ?_
              rotate_left
              · intro w'
                go_simp
                with_reducible rfl
              rotate_left
              · simp only [Act.put, List.setIfInBounds_toArray, List.set_cons_zero, List.set_cons_succ]
                rfl
              refine pure_ (i := 1) (N := some 60) (v := ?_) (a' := ?_) #[true, true, false, false, false, false, false, false, false, false, false, false, false, false, false] rfl rfl (any_of HT_.out (by kernel_rfl)) (fun _ _ _ h => h) (Or.inl ⟨by rfl, ?_⟩) ?_ ?_
              rotate_left
              · intro w'
                go_simp
                with_reducible rfl
              rotate_left
              · simp only [Act.put, List.setIfInBounds_toArray, List.set_cons_zero, List.set_cons_succ]
                rfl
              refine pure_ (i := 2) (N := some 61) (v := ?_) (a' := ?_) #[true, true, true, false, false, false, false, false, false, false, false, false, false, false, false] rfl rfl (any_of HT_.out (by kernel_rfl)) (fun _ _ _ h => h) (Or.inl ⟨by rfl, ?_⟩) ?_ ?_
              rotate_left
              · intro w'
                go_simp
                with_reducible rfl
              rotate_left
              · simp only [Act.put, List.setIfInBounds_toArray, List.set_cons_zero, List.set_cons_succ]
                rfl
              refine pure_ (i := 3) (N := some 62) (v := ?_) (a' := ?_) #[true, true, true, true, false, false, false, false, false, false, false, false, false, false, false] rfl rfl (any_of HT_.out (by kernel_rfl)) (fun _ _ _ h => h) (Or.inl ⟨by rfl, ?_⟩) ?_ ?_
              rotate_left
              · intro w'
                go_simp
                with_reducible rfl
              rotate_left
              · simp only [Act.put, List.setIfInBounds_toArray, List.set_cons_zero, List.set_cons_succ]
                rfl
              refine pure_ (i := 4) (N := some 63) (v := ?_) (a' := ?_) #[true, true, true, true, true, false, false, false, false, false, false, false, false, false, false] rfl rfl (any_of HT_.out (by kernel_rfl)) (fun _ _ _ h => h) (Or.inl ⟨by rfl, ?_⟩) ?_ ?_
              rotate_left
              · intro w'
                go_simp
                with_reducible rfl
              rotate_left
              · simp only [Act.put, List.setIfInBounds_toArray, List.set_cons_zero, List.set_cons_succ]
                rfl
              refine take_ (i := 5) (N := some 64) (v := ?_) (a' := ?_) #[true, true, true, true, true, true, false, false, false, false, false, false, false, false, false] rfl rfl (take_ofW HT_.out HW_.out (by kernel_rfl)) (fun _ _ _ h => h) (Or.inl ⟨by rfl, ?_⟩) hHeld ?_ ?_
              rotate_left
              · rintro w' hS; have s1 : w'.cell? ⟨R, 1, none⟩ = some (.bool false) := (by unfold World.cell?; rw [hS]; exact fB)
                go_simp
                with_reducible rfl
              rotate_left
              · simp only [Act.put, List.setIfInBounds_toArray, List.set_cons_zero, List.set_cons_succ]
                rfl
              refine pure_ (i := 6) (N := some 65) (v := ?_) (a' := ?_) #[true, true, true, true, true, true, true, false, false, false, false, false, false, false, false] rfl rfl (any_of HT_.out (by kernel_rfl)) (fun _ _ _ h => h) (Or.inl ⟨by rfl, ?_⟩) ?_ ?_
              rotate_left
              · intro w'
                go_simp
                with_reducible rfl
              rotate_left
              · simp only [Act.put, List.setIfInBounds_toArray, List.set_cons_zero, List.set_cons_succ]
                rfl
              refine pure_ (i := 7) (N := some 66) (v := ?_) (a' := ?_) #[true, true, true, true, true, true, true, true, false, false, false, false, false, false, false] rfl rfl (any_of HT_.out (by kernel_rfl)) (fun _ _ _ h => h) (Or.inl ⟨by rfl, ?_⟩) ?_ ?_
              rotate_left
              · intro w'
                go_simp
                with_reducible rfl
              rotate_left
              · simp only [Act.put, List.setIfInBounds_toArray, List.set_cons_zero, List.set_cons_succ]
                rfl
              refine pure_ (i := 8) (N := some 67) (v := ?_) (a' := ?_) #[true, true, true, true, true, true, true, true, true, false, false, false, false, false, false] rfl rfl (any_of HT_.out (by kernel_rfl)) (fun _ _ _ h => h) (Or.inl ⟨by rfl, ?_⟩) ?_ ?_
              rotate_left
              · intro w'
                go_simp
                with_reducible rfl
              rotate_left
              · simp only [Act.put, List.setIfInBounds_toArray, List.set_cons_zero, List.set_cons_succ]
                rfl
              refine pure_ (i := 9) (N := some 68) (v := ?_) (a' := ?_) #[true, true, true, true, true, true, true, true, true, true, false, false, false, false, false] rfl rfl (any_of HT_.out (by kernel_rfl)) (fun _ _ _ h => h) (Or.inl ⟨by rfl, ?_⟩) ?_ ?_
              rotate_left
              · intro w'
                go_simp
                with_reducible rfl
              rotate_left
              · simp only [Act.put, List.setIfInBounds_toArray, List.set_cons_zero, List.set_cons_succ]
                rfl
              refine pure_ (i := 10) (N := some 69) (v := ?_) (a' := ?_) #[true, true, true, true, true, true, true, true, true, true, true, false, false, false, false] rfl rfl (any_of HT_.out (by kernel_rfl)) (fun _ _ _ h => h) (Or.inl ⟨by rfl, ?_⟩) ?_ ?_
              rotate_left
              · intro w'
                go_simp
                with_reducible rfl
              rotate_left
              · simp only [Act.put, List.setIfInBounds_toArray, List.set_cons_zero, List.set_cons_succ]
                rfl
              refine last_ (i := 11) (N := none) #[true, true, true, true, true, true, true, true, true, true, true, true, false, false, false] rfl rfl (one_of HT_.out (by kernel_rfl)) (by decide) (fun K hK => ?_)
              rw [if_pos (by rfl)]
              go_simp
              refine hK.out _ _ ?_
              clear hK K
              refine pure_ (i := 12) (N := some 70) (v := ?_) (a' := ?_) #[true, true, true, true, true, true, true, true, true, true, true, true, true, false, false] rfl rfl (any_of HT_.out (by kernel_rfl)) (fun _ _ _ h => h) (Or.inl ⟨by rfl, ?_⟩) ?_ ?_
              rotate_left
              · intro w'
                go_simp
                with_reducible rfl
              rotate_left
              · simp only [Act.put, List.setIfInBounds_toArray, List.set_cons_zero, List.set_cons_succ]
                rfl
              refine pure_ (i := 13) (N := some 71) (v := ?_) (a' := ?_) #[true, true, true, true, true, true, true, true, true, true, true, true, true, true, false] rfl rfl (any_of HT_.out (by kernel_rfl)) (fun _ _ _ h => h) (Or.inl ⟨by rfl, ?_⟩) ?_ ?_
              rotate_left
              · intro w'
                go_simp
                with_reducible rfl
              rotate_left
              · simp only [Act.put, List.setIfInBounds_toArray, List.set_cons_zero, List.set_cons_succ]
                rfl
              refine last_ (i := 14) (N := none) #[true, true, true, true, true, true, true, true, true, true, true, true, true, true, true] rfl rfl (one_of HT_.out (by kernel_rfl)) (by decide) (fun K hK => ?_)
              rw [if_pos (by rfl)]
              go_simp
              refine hK.out _ _ ?_
              clear hK K
              refine done_ (done_of HT_.out (by kernel_rfl)) ?_
              clear HT_ HW_ hHeld
              obtain ⟨wz, hwz⟩ : ∃ wz, Hid ((w12.setCell ⟨bx, 2, none⟩ (.int .u64 (u : Int))).setCell ⟨R, 1, none⟩ (.bool false) = wz) := ⟨_, Lib.hid rfl⟩
              have HZ : Hid (RD wz R s11 false ∧ Fr [R] w wz ∧ wz.heap[br]? = some (xcells ⟨#[]⟩ (.slice none 0 0) 0) ∧ wz.heap[bx]? = some (xcells nm (.slice A1 n1 c1) (u : Int)) ∧ Kd.R k71 71 wz w.heap.size (fun _ => True) (.slice A1 n1 c1) ls) := by
                rw [← hwz.out]
                have g1 : RD (w12.setCell ⟨bx, 2, none⟩ (.int .u64 (u : Int))) R s11 false := (setO w12 ⟨bx, 2, none⟩ _ (by show R ≠ bx; exact fun e => hbx.out.2.1 e.symm)).trans H12.out.1
                have g2 : (w12.setCell ⟨bx, 2, none⟩ (.int .u64 (u : Int))).heap[br]? = some (xcells ⟨#[]⟩ (.slice none 0 0) 0) := (setO w12 ⟨bx, 2, none⟩ _ (by show br ≠ bx; exact fun e => hbx.out.2.2.1 e.symm)).trans H12.out.2.2.1
                have g3 : (w12.setCell ⟨bx, 2, none⟩ (.int .u64 (u : Int))).heap[bx]? = some (xcells nm (.slice A1 n1 c1) (u : Int)) := setN H12.out.2.2.2.1
                have g4 := R_setX (o := 2) (u := .int .u64 (u : Int)) H12.out.2.2.2.2 H12.out.2.2.2.1
                have g5 : Fr [R] w (w12.setCell ⟨bx, 2, none⟩ (.int .u64 (u : Int))) := H12.out.2.1.setCell (p := ⟨bx, 2, none⟩) (.inr hbx.out.2.2.2.2.2) _
                exact ⟨g1.set1 _, g5.trans (FR.set _ _ _ _), (setO _ ⟨R, 1, none⟩ _ (by show br ≠ R; exact hbx.out.2.2.2.1)).trans g2, (setO _ ⟨R, 1, none⟩ _ (by show bx ≠ R; exact hbx.out.2.1)).trans g3, R_fr g4 (FR.set _ _ _ _) hRw⟩
              clear fN kN fB kB
              rw [hwz.out]
              have y0 : wz.cell? ⟨bx, 0, none⟩ = some (.string nm) := by rw [cellB HZ.out.2.2.2.1]; rfl
              have y1 : wz.cell? ⟨bx, 1, none⟩ = some (.slice A1 n1 c1) := by rw [cellB HZ.out.2.2.2.1]; rfl
              have y2 : wz.cell? ⟨bx, 2, none⟩ = some (.int .u64 (u : Int)) := by rw [cellB HZ.out.2.2.2.1]; rfl
              have z0 : wz.cell? ⟨br, 0, none⟩ = some (.string ⟨#[]⟩) := by rw [cellB HZ.out.2.2.1]; rfl
              have z1 : wz.cell? ⟨br, 1, none⟩ = some (.slice none 0 0) := by rw [cellB HZ.out.2.2.1]; rfl
              have z2 : wz.cell? ⟨br, 2, none⟩ = some (.int .u64 0) := by rw [cellB HZ.out.2.2.1]; rfl
              have k0 : wz.frozen? ⟨br, 0, none⟩ = false := frozenB HZ.out.2.2.1 0
              have k1 : wz.frozen? ⟨br, 1, none⟩ = false := frozenB HZ.out.2.2.1 1
              have k2 : wz.frozen? ⟨br, 2, none⟩ = false := frozenB HZ.out.2.2.1 2
              go_wp2_with fail
              obtain ⟨wf, hwf⟩ : ∃ wf, Hid ((((wz.setCell ⟨br, 0, none⟩ (.string nm)).setCell ⟨br, 1, none⟩ (.slice A1 n1 c1)).setCell ⟨br, 2, none⟩ (.int .u64 (u : Int))).drew = wf) := ⟨_, Lib.hid rfl⟩
              have HF : Hid (RD wf R s11 false ∧ Fr [R] w wf ∧ wf.heap[br]? = some (xcells nm (.slice A1 n1 c1) (u : Int)) ∧ Kd.R k71 71 wf w.heap.size (fun _ => True) (.slice A1 n1 c1) ls) := store3 w wz R br s11 false nm (.slice A1 n1 c1) (u : Int) ls HZ.out.1 HZ.out.2.1 HZ.out.2.2.1 HZ.out.2.2.2.2 hbx.out.2.2.2.1 (by have := hbr.out; omega) wf hwf.out
              have HQP : Hid (LPost s ⟨nm, ls, (u : Int)⟩ s11 false) := LP_fin s nm wd s11 s10.data.toList ls bd10 false false (u : Int) HU10.out.2.2.2.2.2.2 (by simpa using HC11.out) (.inl ⟨rfl, u, HQ.out, rfl⟩)
              clear y0 y1 y2 z0 z1 z2 k0 k1 k2
              rw [hwf.out]
              have x0 : wf.cell? ⟨br, 0, none⟩ = some (.string nm) := by rw [cellB HF.out.2.2.1]; rfl
              have x1 : wf.cell? ⟨br, 1, none⟩ = some (.slice A1 n1 c1) := by rw [cellB HF.out.2.2.1]; rfl
              have x2 : wf.cell? ⟨br, 2, none⟩ = some (.int .u64 (u : Int)) := by rw [cellB HF.out.2.2.1]; rfl
              (try simp only [Exit.inBlock, Exit.then]); refine bodyPost_ret (v := .agg #[.string nm, .slice A1 n1 c1, .int .u64 (u : Int)]) (by simp [results, Tryd.results25, go_sem, x0, x1, x2]; try rfl) rfl ?_
              exact ⟨⟨nm, ls, (u : Int)⟩, _, s11, false, rfl, HF.out.2.2.2, HF.out.1, HF.out.2.1, HQP.out⟩
            · have fN : w12.cell? ⟨bx, 2, none⟩ = some (.int .u64 0) := by rw [cellB H12.out.2.2.2.1]; rfl
              have kN : w12.frozen? ⟨bx, 2, none⟩ = false := frozenB H12.out.2.2.2.1 2
              have fB := H12.out.1.c1
              have kB := H12.out.1.f 1
              go_upto_region 12 with fail
              refine start_ (n := 15) (S := (fun w' => w'.heap = w12.heap)) (ds := [11, 14]) #[false, false, false, false, false, false, false, false, false, false, false, false, false, false, false] (by kernel_rfl) (by rfl) (by rfl) rfl (fun hHeld => ?_); refine with_tabW tab25_12 bits25_12 (fun HT_ HW_ => ?_)
              refine pure_ (i := 0) (N := some 59) (v := ?_) (a' := ?_) #[true, false, false, false, false, false, false, false, false, false, false, false, false, false, false] rfl rfl (any_of HT_.out (by kernel_rfl)) (fun _ _ _ h => h) (Or.inl ⟨by rfl, ?_⟩) ?_ ?_
              rotate_left
              · intro w'
                go_simp
                with_reducible rfl
              rotate_left
              · simp only [Act.put, List.setIfInBounds_toArray, List.set_cons_zero, List.set_cons_succ]
                rfl
              refine pure_ (i := 1) (N := some 60) (v := ?_) (a' := ?_) #[true, true, false, false, false, false, false, false, false, false, false, false, false, false, false] rfl rfl (any_of HT_.out (by kernel_rfl)) (fun _ _ _ h => h) (Or.inl ⟨by rfl, ?_⟩) ?_ ?_
              rotate_left
              · intro w'
                go_simp
                with_reducible rfl
              rotate_left
              · simp only [Act.put, List.setIfInBounds_toArray, List.set_cons_zero, List.set_cons_succ]
                rfl
              refine pure_ (i := 2) (N := some 61) (v := ?_) (a' := ?_) #[true, true, true, false, false, false, false, false, false, false, false, false, false, false, false] rfl rfl (any_of HT_.out (by kernel_rfl)) (fun _ _ _ h => h) (Or.inl ⟨by rfl, ?_⟩) ?_ ?_
              rotate_left
              · intro w'
                go_simp
                with_reducible rfl
              rotate_left
              · simp only [Act.put, List.setIfInBounds_toArray, List.set_cons_zero, List.set_cons_succ]
                rfl
              refine pure_ (i := 3) (N := some 62) (v := ?_) (a' := ?_) #[true, true, true, true, false, false, false, false, false, false, false, false, false, false, false] rfl rfl (any_of HT_.out (by kernel_rfl)) (fun _ _ _ h => h) (Or.inl ⟨by rfl, ?_⟩) ?_ ?_
              rotate_left
              · intro w'
                go_simp
                with_reducible rfl
              rotate_left
              · simp only [Act.put, List.setIfInBounds_toArray, List.set_cons_zero, List.set_cons_succ]
                rfl
              refine pure_ (i := 4) (N := some 63) (v := ?_) (a' := ?_) #[true, true, true, true, true, false, false, false, false, false, false, false, false, false, false] rfl rfl (any_of HT_.out (by kernel_rfl)) (fun _ _ _ h => h) (Or.inl ⟨by rfl, ?_⟩) ?_ ?_
              rotate_left
              · intro w'
                go_simp
                with_reducible rfl
              rotate_left
              · simp only [Act.put, List.setIfInBounds_toArray, List.set_cons_zero, List.set_cons_succ]
                rfl
              refine take_ (i := 5) (N := some 64) (v := ?_) (a' := ?_) #[true, true, true, true, true, true, false, false, false, false, false, false, false, false, false] rfl rfl (take_ofW HT_.out HW_.out (by kernel_rfl)) (fun _ _ _ h => h) (Or.inl ⟨by rfl, ?_⟩) hHeld ?_ ?_
              rotate_left
              · rintro w' hS; have s1 : w'.cell? ⟨R, 1, none⟩ = some (.bool true) := (by unfold World.cell?; rw [hS]; exact fB)
                go_simp
                with_reducible rfl
              rotate_left
              · simp only [Act.put, List.setIfInBounds_toArray, List.set_cons_zero, List.set_cons_succ]
                rfl
              refine pure_ (i := 6) (N := some 65) (v := ?_) (a' := ?_) #[true, true, true, true, true, true, true, false, false, false, false, false, false, false, false] rfl rfl (any_of HT_.out (by kernel_rfl)) (fun _ _ _ h => h) (Or.inl ⟨by rfl, ?_⟩) ?_ ?_
              rotate_left
              · intro w'
                go_simp
                with_reducible rfl
              rotate_left
              · simp only [Act.put, List.setIfInBounds_toArray, List.set_cons_zero, List.set_cons_succ]
                rfl
              refine pure_ (i := 7) (N := some 66) (v := undef) (a' := ?_) #[true, true, true, true, true, true, true, true, false, false, false, false, false, false, false] rfl rfl (any_of HT_.out (by kernel_rfl)) (fun _ _ _ h => h) (Or.inr ⟨by rfl, rfl⟩) ?_ ?_
              rotate_left
              · simp only [Act.put, List.setIfInBounds_toArray, List.set_cons_zero, List.set_cons_succ]
                rfl
              refine pure_ (i := 8) (N := some 67) (v := undef) (a' := ?_) #[true, true, true, true, true, true, true, true, true, false, false, false, false, false, false] rfl rfl (any_of HT_.out (by kernel_rfl)) (fun _ _ _ h => h) (Or.inr ⟨by rfl, rfl⟩) ?_ ?_
              rotate_left
              · simp only [Act.put, List.setIfInBounds_toArray, List.set_cons_zero, List.set_cons_succ]
                rfl
              refine pure_ (i := 9) (N := some 68) (v := ?_) (a' := ?_) #[true, true, true, true, true, true, true, true, true, true, false, false, false, false, false] rfl rfl (any_of HT_.out (by kernel_rfl)) (fun _ _ _ h => h) (Or.inl ⟨by rfl, ?_⟩) ?_ ?_
              rotate_left
              · intro w'
                go_simp
                with_reducible rfl
              rotate_left
              · simp only [Act.put, List.setIfInBounds_toArray, List.set_cons_zero, List.set_cons_succ]
                rfl
              refine pure_ (i := 10) (N := some 69) (v := ?_) (a' := ?_) #[true, true, true, true, true, true, true, true, true, true, true, false, false, false, false] rfl rfl (any_of HT_.out (by kernel_rfl)) (fun _ _ _ h => h) (Or.inl ⟨by rfl, ?_⟩) ?_ ?_
              rotate_left
              · intro w'
                go_simp
                with_reducible rfl
              rotate_left
              · simp only [Act.put, List.setIfInBounds_toArray, List.set_cons_zero, List.set_cons_succ]
                rfl
              refine last_ (i := 11) (N := none) #[true, true, true, true, true, true, true, true, true, true, true, true, false, false, false] rfl rfl (one_of HT_.out (by kernel_rfl)) (by decide) (fun K hK => ?_)
              rw [if_pos (by rfl)]
              go_simp
              refine hK.out _ _ ?_
              clear hK K
              refine pure_ (i := 12) (N := some 70) (v := ?_) (a' := ?_) #[true, true, true, true, true, true, true, true, true, true, true, true, true, false, false] rfl rfl (any_of HT_.out (by kernel_rfl)) (fun _ _ _ h => h) (Or.inl ⟨by rfl, ?_⟩) ?_ ?_
              rotate_left
              · intro w'
                go_simp
                with_reducible rfl
              rotate_left
              · simp only [Act.put, List.setIfInBounds_toArray, List.set_cons_zero, List.set_cons_succ]
                rfl
              refine pure_ (i := 13) (N := some 71) (v := ?_) (a' := ?_) #[true, true, true, true, true, true, true, true, true, true, true, true, true, true, false] rfl rfl (any_of HT_.out (by kernel_rfl)) (fun _ _ _ h => h) (Or.inl ⟨by rfl, ?_⟩) ?_ ?_
              rotate_left
              · intro w'
                go_simp
                with_reducible rfl
              rotate_left
              · simp only [Act.put, List.setIfInBounds_toArray, List.set_cons_zero, List.set_cons_succ]
                rfl
              refine last_ (i := 14) (N := none) #[true, true, true, true, true, true, true, true, true, true, true, true, true, true, true] rfl rfl (one_of HT_.out (by kernel_rfl)) (by decide) (fun K hK => ?_)
              rw [if_pos (by rfl)]
              go_simp
              refine hK.out _ _ ?_
              clear hK K
              refine done_ (done_of HT_.out (by kernel_rfl)) ?_
              clear HT_ HW_ hHeld
              obtain ⟨wz, hwz⟩ : ∃ wz, Hid ((w12.setCell ⟨bx, 2, none⟩ (.int .u64 (u : Int))).setCell ⟨R, 1, none⟩ (.bool true) = wz) := ⟨_, Lib.hid rfl⟩
              have HZ : Hid (RD wz R s11 true ∧ Fr [R] w wz ∧ wz.heap[br]? = some (xcells ⟨#[]⟩ (.slice none 0 0) 0) ∧ wz.heap[bx]? = some (xcells nm (.slice A1 n1 c1) (u : Int)) ∧ Kd.R k71 71 wz w.heap.size (fun _ => True) (.slice A1 n1 c1) ls) := by
                rw [← hwz.out]
                have g1 : RD (w12.setCell ⟨bx, 2, none⟩ (.int .u64 (u : Int))) R s11 true := (setO w12 ⟨bx, 2, none⟩ _ (by show R ≠ bx; exact fun e => hbx.out.2.1 e.symm)).trans H12.out.1
                have g2 : (w12.setCell ⟨bx, 2, none⟩ (.int .u64 (u : Int))).heap[br]? = some (xcells ⟨#[]⟩ (.slice none 0 0) 0) := (setO w12 ⟨bx, 2, none⟩ _ (by show br ≠ bx; exact fun e => hbx.out.2.2.1 e.symm)).trans H12.out.2.2.1
                have g3 : (w12.setCell ⟨bx, 2, none⟩ (.int .u64 (u : Int))).heap[bx]? = some (xcells nm (.slice A1 n1 c1) (u : Int)) := setN H12.out.2.2.2.1
                have g4 := R_setX (o := 2) (u := .int .u64 (u : Int)) H12.out.2.2.2.2 H12.out.2.2.2.1
                have g5 : Fr [R] w (w12.setCell ⟨bx, 2, none⟩ (.int .u64 (u : Int))) := H12.out.2.1.setCell (p := ⟨bx, 2, none⟩) (.inr hbx.out.2.2.2.2.2) _
                exact ⟨g1.set1 _, g5.trans (FR.set _ _ _ _), (setO _ ⟨R, 1, none⟩ _ (by show br ≠ R; exact hbx.out.2.2.2.1)).trans g2, (setO _ ⟨R, 1, none⟩ _ (by show bx ≠ R; exact hbx.out.2.1)).trans g3, R_fr g4 (FR.set _ _ _ _) hRw⟩
              clear fN kN fB kB
              rw [hwz.out]
              have y0 : wz.cell? ⟨bx, 0, none⟩ = some (.string nm) := by rw [cellB HZ.out.2.2.2.1]; rfl
              have y1 : wz.cell? ⟨bx, 1, none⟩ = some (.slice A1 n1 c1) := by rw [cellB HZ.out.2.2.2.1]; rfl
              have y2 : wz.cell? ⟨bx, 2, none⟩ = some (.int .u64 (u : Int)) := by rw [cellB HZ.out.2.2.2.1]; rfl
              have z0 : wz.cell? ⟨br, 0, none⟩ = some (.string ⟨#[]⟩) := by rw [cellB HZ.out.2.2.1]; rfl
              have z1 : wz.cell? ⟨br, 1, none⟩ = some (.slice none 0 0) := by rw [cellB HZ.out.2.2.1]; rfl
              have z2 : wz.cell? ⟨br, 2, none⟩ = some (.int .u64 0) := by rw [cellB HZ.out.2.2.1]; rfl
              have k0 : wz.frozen? ⟨br, 0, none⟩ = false := frozenB HZ.out.2.2.1 0
              have k1 : wz.frozen? ⟨br, 1, none⟩ = false := frozenB HZ.out.2.2.1 1
              have k2 : wz.frozen? ⟨br, 2, none⟩ = false := frozenB HZ.out.2.2.1 2
              go_wp2_with fail
              obtain ⟨wf, hwf⟩ : ∃ wf, Hid ((((wz.setCell ⟨br, 0, none⟩ (.string nm)).setCell ⟨br, 1, none⟩ (.slice A1 n1 c1)).setCell ⟨br, 2, none⟩ (.int .u64 (u : Int))).drew = wf) := ⟨_, Lib.hid rfl⟩
              have HF : Hid (RD wf R s11 true ∧ Fr [R] w wf ∧ wf.heap[br]? = some (xcells nm (.slice A1 n1 c1) (u : Int)) ∧ Kd.R k71 71 wf w.heap.size (fun _ => True) (.slice A1 n1 c1) ls) := store3 w wz R br s11 true nm (.slice A1 n1 c1) (u : Int) ls HZ.out.1 HZ.out.2.1 HZ.out.2.2.1 HZ.out.2.2.2.2 hbx.out.2.2.2.1 (by have := hbr.out; omega) wf hwf.out
              have HQP : Hid (LPost s ⟨nm, ls, (u : Int)⟩ s11 true) := LP_fin s nm wd s11 s10.data.toList ls bd10 true false (u : Int) HU10.out.2.2.2.2.2.2 (by simpa using HC11.out) (.inl ⟨rfl, u, HQ.out, rfl⟩)
              clear y0 y1 y2 z0 z1 z2 k0 k1 k2
              rw [hwf.out]
              have x0 : wf.cell? ⟨br, 0, none⟩ = some (.string nm) := by rw [cellB HF.out.2.2.1]; rfl
              have x1 : wf.cell? ⟨br, 1, none⟩ = some (.slice A1 n1 c1) := by rw [cellB HF.out.2.2.1]; rfl
              have x2 : wf.cell? ⟨br, 2, none⟩ = some (.int .u64 (u : Int)) := by rw [cellB HF.out.2.2.1]; rfl
              (try simp only [Exit.inBlock, Exit.then]); refine bodyPost_ret (v := .agg #[.string nm, .slice A1 n1 c1, .int .u64 (u : Int)]) (by simp [results, Tryd.results25, go_sem, x0, x1, x2]; try rfl) rfl ?_
              exact ⟨⟨nm, ls, (u : Int)⟩, _, s11, true, rfl, HF.out.2.2.2, HF.out.1, HF.out.2.1, HQP.out⟩
          · have HQ := Lib.hid hu; clear hu
            cases b11
            · have fN : w12.cell? ⟨bx, 2, none⟩ = some (.int .u64 0) := by rw [cellB H12.out.2.2.2.1]; rfl
              have kN : w12.frozen? ⟨bx, 2, none⟩ = false := frozenB H12.out.2.2.2.1 2
              have fB := H12.out.1.c1
              have kB := H12.out.1.f 1
              go_upto_region 12 with fail
              refine start_ (n := 15) (S := (fun w' => w'.heap = w12.heap)) (ds := [11, 14]) #[false, false, false, false, false, false, false, false, false, false, false, false, false, false, false] (by kernel_rfl) (by rfl) (by rfl) rfl (fun hHeld => ?_); refine with_tabW tab25_12 bits25_12 (fun HT_ HW_ => ?_)
              refine pure_ (i := 0) (N := some 59) (v := ?_) (a' := ?_) #[true, false, false, false, false, false, false, false, false, false, false, false, false, false, false] rfl rfl (any_of HT_.out (by kernel_rfl)) (fun _ _ _ h => h) (Or.inl ⟨by rfl, ?_⟩) ?_ ?_
              rotate_left
              · intro w'
                go_simp
                with_reducible rfl
              rotate_left
              · simp only [Act.put, List.setIfInBounds_toArray, List.set_cons_zero, List.set_cons_succ]
                rfl
              refine pure_ (i := 1) (N := some 60) (v := ?_) (a' := ?_) #[true, true, false, false, false, false, false, false, false, false, false, false, false, false, false] rfl rfl (any_of HT_.out (by kernel_rfl)) (fun _ _ _ h => h) (Or.inl ⟨by rfl, ?_⟩) ?_ ?_
              rotate_left
              · intro w'
                go_simp
                with_reducible rfl
              rotate_left
              · simp only [Act.put, List.setIfInBounds_toArray, List.set_cons_zero, List.set_cons_succ]
                rfl
              refine pure_ (i := 2) (N := some 61) (v := ?_) (a' := ?_) #[true, true, true, false, false, false, false, false, false, false, false, false, false, false, false] rfl rfl (any_of HT_.out (by kernel_rfl)) (fun _ _ _ h => h) (Or.inl ⟨by rfl, ?_⟩) ?_ ?_
              rotate_left
              · intro w'
                go_simp
                with_reducible rfl
              rotate_left
              · simp only [Act.put, List.setIfInBounds_toArray, List.set_cons_zero, List.set_cons_succ]
                rfl
              refine pure_ (i := 3) (N := some 62) (v := ?_) (a' := ?_) #[true, true, true, true, false, false, false, false, false, false, false, false, false, false, false] rfl rfl (any_of HT_.out (by kernel_rfl)) (fun _ _ _ h => h) (Or.inl ⟨by rfl, ?_⟩) ?_ ?_
              rotate_left
              · intro w'
                go_simp
                with_reducible rfl
              rotate_left
              · simp only [Act.put, List.setIfInBounds_toArray, List.set_cons_zero, List.set_cons_succ]
                rfl
              refine pure_ (i := 4) (N := some 63) (v := ?_) (a' := ?_) #[true, true, true, true, true, false, false, false, false, false, false, false, false, false, false] rfl rfl (any_of HT_.out (by kernel_rfl)) (fun _ _ _ h => h) (Or.inl ⟨by rfl, ?_⟩) ?_ ?_
              rotate_left
              · intro w'
                go_simp
                with_reducible rfl
              rotate_left
              · simp only [Act.put, List.setIfInBounds_toArray, List.set_cons_zero, List.set_cons_succ]
                rfl
              refine take_ (i := 5) (N := some 64) (v := ?_) (a' := ?_) #[true, true, true, true, true, true, false, false, false, false, false, false, false, false, false] rfl rfl (take_ofW HT_.out HW_.out (by kernel_rfl)) (fun _ _ _ h => h) (Or.inl ⟨by rfl, ?_⟩) hHeld ?_ ?_
              rotate_left
              · rintro w' hS; have s1 : w'.cell? ⟨R, 1, none⟩ = some (.bool false) := (by unfold World.cell?; rw [hS]; exact fB)
                go_simp
                with_reducible rfl
              rotate_left
              · simp only [Act.put, List.setIfInBounds_toArray, List.set_cons_zero, List.set_cons_succ]
                rfl
              refine pure_ (i := 6) (N := some 65) (v := ?_) (a' := ?_) #[true, true, true, true, true, true, true, false, false, false, false, false, false, false, false] rfl rfl (any_of HT_.out (by kernel_rfl)) (fun _ _ _ h => h) (Or.inl ⟨by rfl, ?_⟩) ?_ ?_
              rotate_left
              · intro w'
                go_simp
                with_reducible rfl
              rotate_left
              · simp only [Act.put, List.setIfInBounds_toArray, List.set_cons_zero, List.set_cons_succ]
                rfl
              refine pure_ (i := 7) (N := some 66) (v := ?_) (a' := ?_) #[true, true, true, true, true, true, true, true, false, false, false, false, false, false, false] rfl rfl (any_of HT_.out (by kernel_rfl)) (fun _ _ _ h => h) (Or.inl ⟨by rfl, ?_⟩) ?_ ?_
              rotate_left
              · intro w'
                go_simp
                with_reducible rfl
              rotate_left
              · simp only [Act.put, List.setIfInBounds_toArray, List.set_cons_zero, List.set_cons_succ]
                rfl
              refine pure_ (i := 8) (N := some 67) (v := ?_) (a' := ?_) #[true, true, true, true, true, true, true, true, true, false, false, false, false, false, false] rfl rfl (any_of HT_.out (by kernel_rfl)) (fun _ _ _ h => h) (Or.inl ⟨by rfl, ?_⟩) ?_ ?_
              rotate_left
              · intro w'
                go_simp
                with_reducible rfl
              rotate_left
              · simp only [Act.put, List.setIfInBounds_toArray, List.set_cons_zero, List.set_cons_succ]
                rfl
              refine pure_ (i := 9) (N := some 68) (v := ?_) (a' := ?_) #[true, true, true, true, true, true, true, true, true, true, false, false, false, false, false] rfl rfl (any_of HT_.out (by kernel_rfl)) (fun _ _ _ h => h) (Or.inl ⟨by rfl, ?_⟩) ?_ ?_
              rotate_left
              · intro w'
                go_simp
                with_reducible rfl
              rotate_left
              · simp only [Act.put, List.setIfInBounds_toArray, List.set_cons_zero, List.set_cons_succ]
                rfl
              refine pure_ (i := 10) (N := some 69) (v := ?_) (a' := ?_) #[true, true, true, true, true, true, true, true, true, true, true, false, false, false, false] rfl rfl (any_of HT_.out (by kernel_rfl)) (fun _ _ _ h => h) (Or.inl ⟨by rfl, ?_⟩) ?_ ?_
              rotate_left
              · intro w'
                go_simp
                with_reducible rfl
              rotate_left
              · simp only [Act.put, List.setIfInBounds_toArray, List.set_cons_zero, List.set_cons_succ]
                rfl
              refine last_ (i := 11) (N := none) #[true, true, true, true, true, true, true, true, true, true, true, true, false, false, false] rfl rfl (one_of HT_.out (by kernel_rfl)) (by decide) (fun K hK => ?_)
              rw [if_pos (by rfl)]
              go_simp
              refine hK.out _ _ ?_
              clear hK K
              refine pure_ (i := 12) (N := some 70) (v := ?_) (a' := ?_) #[true, true, true, true, true, true, true, true, true, true, true, true, true, false, false] rfl rfl (any_of HT_.out (by kernel_rfl)) (fun _ _ _ h => h) (Or.inl ⟨by rfl, ?_⟩) ?_ ?_
              rotate_left
              · intro w'
                go_simp
                with_reducible rfl
              rotate_left
              · simp only [Act.put, List.setIfInBounds_toArray, List.set_cons_zero, List.set_cons_succ]
                rfl
              refine pure_ (i := 13) (N := some 71) (v := ?_) (a' := ?_) #[true, true, true, true, true, true, true, true, true, true, true, true, true, true, false] rfl rfl (any_of HT_.out (by kernel_rfl)) (fun _ _ _ h => h) (Or.inl ⟨by rfl, ?_⟩) ?_ ?_
              rotate_left
              · intro w'
                go_simp
                with_reducible rfl
              rotate_left
              · simp only [Act.put, List.setIfInBounds_toArray, List.set_cons_zero, List.set_cons_succ]
                rfl
              refine last_ (i := 14) (N := none) #[true, true, true, true, true, true, true, true, true, true, true, true, true, true, true] rfl rfl (one_of HT_.out (by kernel_rfl)) (by decide) (fun K hK => ?_)
              rw [if_pos (by rfl)]
              go_simp
              refine hK.out _ _ ?_
              clear hK K
              refine done_ (done_of HT_.out (by kernel_rfl)) ?_
              clear HT_ HW_ hHeld
              obtain ⟨wz, hwz⟩ : ∃ wz, Hid ((w12.setCell ⟨bx, 2, none⟩ (.int .u64 nv)).setCell ⟨R, 1, none⟩ (.bool true) = wz) := ⟨_, Lib.hid rfl⟩
              have HZ : Hid (RD wz R s11 true ∧ Fr [R] w wz ∧ wz.heap[br]? = some (xcells ⟨#[]⟩ (.slice none 0 0) 0) ∧ wz.heap[bx]? = some (xcells nm (.slice A1 n1 c1) nv) ∧ Kd.R k71 71 wz w.heap.size (fun _ => True) (.slice A1 n1 c1) ls) := by
                rw [← hwz.out]
                have g1 : RD (w12.setCell ⟨bx, 2, none⟩ (.int .u64 nv)) R s11 false := (setO w12 ⟨bx, 2, none⟩ _ (by show R ≠ bx; exact fun e => hbx.out.2.1 e.symm)).trans H12.out.1
                have g2 : (w12.setCell ⟨bx, 2, none⟩ (.int .u64 nv)).heap[br]? = some (xcells ⟨#[]⟩ (.slice none 0 0) 0) := (setO w12 ⟨bx, 2, none⟩ _ (by show br ≠ bx; exact fun e => hbx.out.2.2.1 e.symm)).trans H12.out.2.2.1
                have g3 : (w12.setCell ⟨bx, 2, none⟩ (.int .u64 nv)).heap[bx]? = some (xcells nm (.slice A1 n1 c1) nv) := setN H12.out.2.2.2.1
                have g4 := R_setX (o := 2) (u := .int .u64 nv) H12.out.2.2.2.2 H12.out.2.2.2.1
                have g5 : Fr [R] w (w12.setCell ⟨bx, 2, none⟩ (.int .u64 nv)) := H12.out.2.1.setCell (p := ⟨bx, 2, none⟩) (.inr hbx.out.2.2.2.2.2) _
                exact ⟨g1.set1 _, g5.trans (FR.set _ _ _ _), (setO _ ⟨R, 1, none⟩ _ (by show br ≠ R; exact hbx.out.2.2.2.1)).trans g2, (setO _ ⟨R, 1, none⟩ _ (by show bx ≠ R; exact hbx.out.2.1)).trans g3, R_fr g4 (FR.set _ _ _ _) hRw⟩
              clear fN kN fB kB
              rw [hwz.out]
              have y0 : wz.cell? ⟨bx, 0, none⟩ = some (.string nm) := by rw [cellB HZ.out.2.2.2.1]; rfl
              have y1 : wz.cell? ⟨bx, 1, none⟩ = some (.slice A1 n1 c1) := by rw [cellB HZ.out.2.2.2.1]; rfl
              have y2 : wz.cell? ⟨bx, 2, none⟩ = some (.int .u64 nv) := by rw [cellB HZ.out.2.2.2.1]; rfl
              have z0 : wz.cell? ⟨br, 0, none⟩ = some (.string ⟨#[]⟩) := by rw [cellB HZ.out.2.2.1]; rfl
              have z1 : wz.cell? ⟨br, 1, none⟩ = some (.slice none 0 0) := by rw [cellB HZ.out.2.2.1]; rfl
              have z2 : wz.cell? ⟨br, 2, none⟩ = some (.int .u64 0) := by rw [cellB HZ.out.2.2.1]; rfl
              have k0 : wz.frozen? ⟨br, 0, none⟩ = false := frozenB HZ.out.2.2.1 0
              have k1 : wz.frozen? ⟨br, 1, none⟩ = false := frozenB HZ.out.2.2.1 1
              have k2 : wz.frozen? ⟨br, 2, none⟩ = false := frozenB HZ.out.2.2.1 2
              go_wp2_with fail
              obtain ⟨wf, hwf⟩ : ∃ wf, Hid ((((wz.setCell ⟨br, 0, none⟩ (.string nm)).setCell ⟨br, 1, none⟩ (.slice A1 n1 c1)).setCell ⟨br, 2, none⟩ (.int .u64 nv)).drew = wf) := ⟨_, Lib.hid rfl⟩
              have HF : Hid (RD wf R s11 true ∧ Fr [R] w wf ∧ wf.heap[br]? = some (xcells nm (.slice A1 n1 c1) nv) ∧ Kd.R k71 71 wf w.heap.size (fun _ => True) (.slice A1 n1 c1) ls) := store3 w wz R br s11 true nm (.slice A1 n1 c1) nv ls HZ.out.1 HZ.out.2.1 HZ.out.2.2.1 HZ.out.2.2.2.2 hbx.out.2.2.2.1 (by have := hbr.out; omega) wf hwf.out
              have HQP : Hid (LPost s ⟨nm, ls, nv⟩ s11 true) := LP_fin s nm wd s11 s10.data.toList ls bd10 false true nv HU10.out.2.2.2.2.2.2 (by simpa using HC11.out) (.inr ⟨rfl, HQ.out⟩)
              clear y0 y1 y2 z0 z1 z2 k0 k1 k2
              rw [hwf.out]
              have x0 : wf.cell? ⟨br, 0, none⟩ = some (.string nm) := by rw [cellB HF.out.2.2.1]; rfl
              have x1 : wf.cell? ⟨br, 1, none⟩ = some (.slice A1 n1 c1) := by rw [cellB HF.out.2.2.1]; rfl
              have x2 : wf.cell? ⟨br, 2, none⟩ = some (.int .u64 nv) := by rw [cellB HF.out.2.2.1]; rfl
              (try simp only [Exit.inBlock, Exit.then]); refine bodyPost_ret (v := .agg #[.string nm, .slice A1 n1 c1, .int .u64 nv]) (by simp [results, Tryd.results25, go_sem, x0, x1, x2]; try rfl) rfl ?_
              exact ⟨⟨nm, ls, nv⟩, _, s11, true, rfl, HF.out.2.2.2, HF.out.1, HF.out.2.1, HQP.out⟩
            · have fN : w12.cell? ⟨bx, 2, none⟩ = some (.int .u64 0) := by rw [cellB H12.out.2.2.2.1]; rfl
              have kN : w12.frozen? ⟨bx, 2, none⟩ = false := frozenB H12.out.2.2.2.1 2
              have fB := H12.out.1.c1
              have kB := H12.out.1.f 1
              go_upto_region 12 with fail
              refine start_ (n := 15) (S := (fun w' => w'.heap = w12.heap)) (ds := [11, 14]) #[false, false, false, false, false, false, false, false, false, false, false, false, false, false, false] (by kernel_rfl) (by rfl) (by rfl) rfl (fun hHeld => ?_); refine with_tabW tab25_12 bits25_12 (fun HT_ HW_ => ?_)
              refine pure_ (i := 0) (N := some 59) (v := ?_) (a' := ?_) #[true, false, false, false, false, false, false, false, false, false, false, false, false, false, false] rfl rfl (any_of HT_.out (by kernel_rfl)) (fun _ _ _ h => h) (Or.inl ⟨by rfl, ?_⟩) ?_ ?_
              rotate_left
              · intro w'
                go_simp
                with_reducible rfl
              rotate_left
              · simp only [Act.put, List.setIfInBounds_toArray, List.set_cons_zero, List.set_cons_succ]
                rfl
              refine pure_ (i := 1) (N := some 60) (v := ?_) (a' := ?_) #[true, true, false, false, false, false, false, false, false, false, false, false, false, false, false] rfl rfl (any_of HT_.out (by kernel_rfl)) (fun _ _ _ h => h) (Or.inl ⟨by rfl, ?_⟩) ?_ ?_
              rotate_left
              · intro w'
                go_simp
                with_reducible rfl
              rotate_left
              · simp only [Act.put, List.setIfInBounds_toArray, List.set_cons_zero, List.set_cons_succ]
                rfl
              refine pure_ (i := 2) (N := some 61) (v := ?_) (a' := ?_) #[true, true, true, false, false, false, false, false, false, false, false, false, false, false, false] rfl rfl (any_of HT_.out (by kernel_rfl)) (fun _ _ _ h => h) (Or.inl ⟨by rfl, ?_⟩) ?_ ?_
              rotate_left
              · intro w'
                go_simp
                with_reducible rfl
              rotate_left
              · simp only [Act.put, List.setIfInBounds_toArray, List.set_cons_zero, List.set_cons_succ]
                rfl
              refine pure_ (i := 3) (N := some 62) (v := ?_) (a' := ?_) #[true, true, true, true, false, false, false, false, false, false, false, false, false, false, false] rfl rfl (any_of HT_.out (by kernel_rfl)) (fun _ _ _ h => h) (Or.inl ⟨by rfl, ?_⟩) ?_ ?_
              rotate_left
              · intro w'
                go_simp
                with_reducible rfl
              rotate_left
              · simp only [Act.put, List.setIfInBounds_toArray, List.set_cons_zero, List.set_cons_succ]
                rfl
              refine pure_ (i := 4) (N := some 63) (v := ?_) (a' := ?_) #[true, true, true, true, true, false, false, false, false, false, false, false, false, false, false] rfl rfl (any_of HT_.out (by kernel_rfl)) (fun _ _ _ h => h) (Or.inl ⟨by rfl, ?_⟩) ?_ ?_
              rotate_left
              · intro w'
                go_simp
                with_reducible rfl
              rotate_left
              · simp only [Act.put, List.setIfInBounds_toArray, List.set_cons_zero, List.set_cons_succ]
                rfl
              refine take_ (i := 5) (N := some 64) (v := ?_) (a' := ?_) #[true, true, true, true, true, true, false, false, false, false, false, false, false, false, false] rfl rfl (take_ofW HT_.out HW_.out (by kernel_rfl)) (fun _ _ _ h => h) (Or.inl ⟨by rfl, ?_⟩) hHeld ?_ ?_
              rotate_left
              · rintro w' hS; have s1 : w'.cell? ⟨R, 1, none⟩ = some (.bool true) := (by unfold World.cell?; rw [hS]; exact fB)
                go_simp
                with_reducible rfl
              rotate_left
              · simp only [Act.put, List.setIfInBounds_toArray, List.set_cons_zero, List.set_cons_succ]
                rfl
              refine pure_ (i := 6) (N := some 65) (v := ?_) (a' := ?_) #[true, true, true, true, true, true, true, false, false, false, false, false, false, false, false] rfl rfl (any_of HT_.out (by kernel_rfl)) (fun _ _ _ h => h) (Or.inl ⟨by rfl, ?_⟩) ?_ ?_
              rotate_left
              · intro w'
                go_simp
                with_reducible rfl
              rotate_left
              · simp only [Act.put, List.setIfInBounds_toArray, List.set_cons_zero, List.set_cons_succ]
                rfl
              refine pure_ (i := 7) (N := some 66) (v := undef) (a' := ?_) #[true, true, true, true, true, true, true, true, false, false, false, false, false, false, false] rfl rfl (any_of HT_.out (by kernel_rfl)) (fun _ _ _ h => h) (Or.inr ⟨by rfl, rfl⟩) ?_ ?_
              rotate_left
              · simp only [Act.put, List.setIfInBounds_toArray, List.set_cons_zero, List.set_cons_succ]
                rfl
              refine pure_ (i := 8) (N := some 67) (v := undef) (a' := ?_) #[true, true, true, true, true, true, true, true, true, false, false, false, false, false, false] rfl rfl (any_of HT_.out (by kernel_rfl)) (fun _ _ _ h => h) (Or.inr ⟨by rfl, rfl⟩) ?_ ?_
              rotate_left
              · simp only [Act.put, List.setIfInBounds_toArray, List.set_cons_zero, List.set_cons_succ]
                rfl
              refine pure_ (i := 9) (N := some 68) (v := ?_) (a' := ?_) #[true, true, true, true, true, true, true, true, true, true, false, false, false, false, false] rfl rfl (any_of HT_.out (by kernel_rfl)) (fun _ _ _ h => h) (Or.inl ⟨by rfl, ?_⟩) ?_ ?_
              rotate_left
              · intro w'
                go_simp
                with_reducible rfl
              rotate_left
              · simp only [Act.put, List.setIfInBounds_toArray, List.set_cons_zero, List.set_cons_succ]
                rfl
              refine pure_ (i := 10) (N := some 69) (v := ?_) (a' := ?_) #[true, true, true, true, true, true, true, true, true, true, true, false, false, false, false] rfl rfl (any_of HT_.out (by kernel_rfl)) (fun _ _ _ h => h) (Or.inl ⟨by rfl, ?_⟩) ?_ ?_
              rotate_left
              · intro w'
                go_simp
                with_reducible rfl
              rotate_left
              · simp only [Act.put, List.setIfInBounds_toArray, List.set_cons_zero, List.set_cons_succ]
                rfl
              refine last_ (i := 11) (N := none) #[true, true, true, true, true, true, true, true, true, true, true, true, false, false, false] rfl rfl (one_of HT_.out (by kernel_rfl)) (by decide) (fun K hK => ?_)
              rw [if_pos (by rfl)]
              go_simp
              refine hK.out _ _ ?_
              clear hK K
              refine pure_ (i := 12) (N := some 70) (v := ?_) (a' := ?_) #[true, true, true, true, true, true, true, true, true, true, true, true, true, false, false] rfl rfl (any_of HT_.out (by kernel_rfl)) (fun _ _ _ h => h) (Or.inl ⟨by rfl, ?_⟩) ?_ ?_
              rotate_left
              · intro w'
                go_simp
                with_reducible rfl
              rotate_left
              · simp only [Act.put, List.setIfInBounds_toArray, List.set_cons_zero, List.set_cons_succ]
                rfl
              refine pure_ (i := 13) (N := some 71) (v := ?_) (a' := ?_) #[true, true, true, true, true, true, true, true, true, true, true, true, true, true, false] rfl rfl (any_of HT_.out (by kernel_rfl)) (fun _ _ _ h => h) (Or.inl ⟨by rfl, ?_⟩) ?_ ?_
              rotate_left
              · intro w'
                go_simp
                with_reducible rfl
              rotate_left
              · simp only [Act.put, List.setIfInBounds_toArray, List.set_cons_zero, List.set_cons_succ]
                rfl
              refine last_ (i := 14) (N := none) #[true, true, true, true, true, true, true, true, true, true, true, true, true, true, true] rfl rfl (one_of HT_.out (by kernel_rfl)) (by decide) (fun K hK => ?_)
              rw [if_pos (by rfl)]
              go_simp
              refine hK.out _ _ ?_
              clear hK K
              refine done_ (done_of HT_.out (by kernel_rfl)) ?_
              clear HT_ HW_ hHeld
              obtain ⟨wz, hwz⟩ : ∃ wz, Hid ((w12.setCell ⟨bx, 2, none⟩ (.int .u64 nv)).setCell ⟨R, 1, none⟩ (.bool true) = wz) := ⟨_, Lib.hid rfl⟩
              have HZ : Hid (RD wz R s11 true ∧ Fr [R] w wz ∧ wz.heap[br]? = some (xcells ⟨#[]⟩ (.slice none 0 0) 0) ∧ wz.heap[bx]? = some (xcells nm (.slice A1 n1 c1) nv) ∧ Kd.R k71 71 wz w.heap.size (fun _ => True) (.slice A1 n1 c1) ls) := by
                rw [← hwz.out]
                have g1 : RD (w12.setCell ⟨bx, 2, none⟩ (.int .u64 nv)) R s11 true := (setO w12 ⟨bx, 2, none⟩ _ (by show R ≠ bx; exact fun e => hbx.out.2.1 e.symm)).trans H12.out.1
                have g2 : (w12.setCell ⟨bx, 2, none⟩ (.int .u64 nv)).heap[br]? = some (xcells ⟨#[]⟩ (.slice none 0 0) 0) := (setO w12 ⟨bx, 2, none⟩ _ (by show br ≠ bx; exact fun e => hbx.out.2.2.1 e.symm)).trans H12.out.2.2.1
                have g3 : (w12.setCell ⟨bx, 2, none⟩ (.int .u64 nv)).heap[bx]? = some (xcells nm (.slice A1 n1 c1) nv) := setN H12.out.2.2.2.1
                have g4 := R_setX (o := 2) (u := .int .u64 nv) H12.out.2.2.2.2 H12.out.2.2.2.1
                have g5 : Fr [R] w (w12.setCell ⟨bx, 2, none⟩ (.int .u64 nv)) := H12.out.2.1.setCell (p := ⟨bx, 2, none⟩) (.inr hbx.out.2.2.2.2.2) _
                exact ⟨g1.set1 _, g5.trans (FR.set _ _ _ _), (setO _ ⟨R, 1, none⟩ _ (by show br ≠ R; exact hbx.out.2.2.2.1)).trans g2, (setO _ ⟨R, 1, none⟩ _ (by show bx ≠ R; exact hbx.out.2.1)).trans g3, R_fr g4 (FR.set _ _ _ _) hRw⟩
              clear fN kN fB kB
              rw [hwz.out]
              have y0 : wz.cell? ⟨bx, 0, none⟩ = some (.string nm) := by rw [cellB HZ.out.2.2.2.1]; rfl
              have y1 : wz.cell? ⟨bx, 1, none⟩ = some (.slice A1 n1 c1) := by rw [cellB HZ.out.2.2.2.1]; rfl
              have y2 : wz.cell? ⟨bx, 2, none⟩ = some (.int .u64 nv) := by rw [cellB HZ.out.2.2.2.1]; rfl
              have z0 : wz.cell? ⟨br, 0, none⟩ = some (.string ⟨#[]⟩) := by rw [cellB HZ.out.2.2.1]; rfl
              have z1 : wz.cell? ⟨br, 1, none⟩ = some (.slice none 0 0) := by rw [cellB HZ.out.2.2.1]; rfl
              have z2 : wz.cell? ⟨br, 2, none⟩ = some (.int .u64 0) := by rw [cellB HZ.out.2.2.1]; rfl
              have k0 : wz.frozen? ⟨br, 0, none⟩ = false := frozenB HZ.out.2.2.1 0
              have k1 : wz.frozen? ⟨br, 1, none⟩ = false := frozenB HZ.out.2.2.1 1
              have k2 : wz.frozen? ⟨br, 2, none⟩ = false := frozenB HZ.out.2.2.1 2
              go_wp2_with fail
              obtain ⟨wf, hwf⟩ : ∃ wf, Hid ((((wz.setCell ⟨br, 0, none⟩ (.string nm)).setCell ⟨br, 1, none⟩ (.slice A1 n1 c1)).setCell ⟨br, 2, none⟩ (.int .u64 nv)).drew = wf) := ⟨_, Lib.hid rfl⟩
              have HF : Hid (RD wf R s11 true ∧ Fr [R] w wf ∧ wf.heap[br]? = some (xcells nm (.slice A1 n1 c1) nv) ∧ Kd.R k71 71 wf w.heap.size (fun _ => True) (.slice A1 n1 c1) ls) := store3 w wz R br s11 true nm (.slice A1 n1 c1) nv ls HZ.out.1 HZ.out.2.1 HZ.out.2.2.1 HZ.out.2.2.2.2 hbx.out.2.2.2.1 (by have := hbr.out; omega) wf hwf.out
              have HQP : Hid (LPost s ⟨nm, ls, nv⟩ s11 true) := LP_fin s nm wd s11 s10.data.toList ls bd10 true true nv HU10.out.2.2.2.2.2.2 (by simpa using HC11.out) (.inr ⟨rfl, HQ.out⟩)
              clear y0 y1 y2 z0 z1 z2 k0 k1 k2
              rw [hwf.out]
              have x0 : wf.cell? ⟨br, 0, none⟩ = some (.string nm) := by rw [cellB HF.out.2.2.1]; rfl
              have x1 : wf.cell? ⟨br, 1, none⟩ = some (.slice A1 n1 c1) := by rw [cellB HF.out.2.2.1]; rfl
              have x2 : wf.cell? ⟨br, 2, none⟩ = some (.int .u64 nv) := by rw [cellB HF.out.2.2.1]; rfl
              (try simp only [Exit.inBlock, Exit.then]); refine bodyPost_ret (v := .agg #[.string nm, .slice A1 n1 c1, .int .u64 nv]) (by simp [results, Tryd.results25, go_sem, x0, x1, x2]; try rfl) rfl ?_
              exact ⟨⟨nm, ls, nv⟩, _, s11, true, rfl, HF.out.2.2.2, HF.out.1, HF.out.2.1, HQP.out⟩
end Go.Proofs.YtdbmcikoiilanaaDoor.Xp
set_option linter.unusedVariables false
set_option linter.unusedSimpArgs false
namespace Go.Proofs.YtdbmcikoiilanaaDoor.Xp
open Go.RowKit Go.Proofs.YtdbmcikoiilanaaDoor.B0 Go.Proofs.YtdbmcikoiilanaaDoorW.PrintWords Go.Proofs.YtdbmcikoiilanaaDoor.Bld Go.Proofs.YtdbmcikoiilanaaDoor.Pp Go.Proofs.YtdbmcikoiilanaaDoor.Bl2

def rdM (w : World) (R : Nat) : Nat := match w.cell? ⟨R, 1, none⟩ with | some (.bool true) => 0 | _ => 1 + rdSize w R
theorem rdM_bad {w : World} {R : Nat} {s : ByteArray} (h : RD w R s true) : rdM w R = 0 := by unfold rdM; rw [h.c1]
theorem rdM_ok {w : World} {R : Nat} {s : ByteArray} (h : RD w R s false) : rdM w R = 1 + s.size := by unfold rdM; rw [h.c1, rdSize_of h]
/-- the lines so far. -/
def PSL (w : World) (B : Nat) (v : Value) (xs : List SLin) : Prop := Kd.S k43 43 w B (fun _ => True) v xs
def okV (xs : List SLin) : Prop := ∀ x ∈ xs, 0 ≤ x.f2 ∧ x.f2 < 18446744073709551616
/-- at Parse's loop's head. -/
def PI (s : BL) (sr : BL) (bd : Bool) (xs : List SLin) : Prop :=
  (bd = true ∧ parseM s = none) ∨ (bd = false ∧ okV xs ∧ ((xs.map lnM).flatMap lineP).length + 32 * sr.length ≤ 32 * s.length ∧ ∃ f, sr.length < f ∧ parseM s = parseF f sr (xs.map lnM))
theorem PI_step (s sr : ByteArray) (s8 : ByteArray) (b8 : Bool) (x : SLin) (xs : List SLin) (h : PI s.data.toList sr.data.toList false xs) (hne : sr.data.toList ≠ []) (hp : LPost sr x s8 b8) : PI s.data.toList s8.data.toList b8 (xs ++ [x]) := by
  rcases h with ⟨h, _⟩ | ⟨_, hv, hl, f, hf, he⟩
  · cases h
  obtain ⟨g, rfl⟩ : ∃ g, f = g + 1 := ⟨f - 1, by omega⟩
  rw [parseF, if_neg hne] at he
  rcases hp with ⟨h1, h2, rfl⟩ | ⟨h1, rfl⟩
  · obtain ⟨h3, h4⟩ := line_len _ _ _ h1
    refine .inr ⟨rfl, ?_, ?_, g, ?_, ?_⟩
    · intro y hy
      rcases List.mem_append.1 hy with hy | hy
      · exact hv y hy
      · rw [List.mem_singleton] at hy; subst hy
        have h5 : (lnM y).v = y.f2.toNat := rfl
        exact ⟨h2, by omega⟩
    · rw [List.map_append, List.flatMap_append, List.length_append]
      simp only [List.map_cons, List.map_nil, List.flatMap_cons, List.flatMap_nil, List.append_nil]
      omega
    · have : 0 < (lineP (lnM x)).length := List.length_pos_iff.2 (lineP_ne _)
      omega
    · rw [he, h1, Option.bind_some, List.map_append]; rfl
  · exact .inl ⟨rfl, by rw [he, h1]; rfl⟩
theorem PI_end (s : BL) (bd : Bool) (xs : List SLin) (h : PI s [] bd xs) : (bd = true ∧ parseM s = none) ∨ (bd = false ∧ okV xs ∧ ((xs.map lnM).flatMap lineP).length ≤ 32 * s.length ∧ parseM s = some (xs.map lnM)) := by
  rcases h with h | ⟨h, hv, hl, f, hf, he⟩
  · exact .inl h
  · obtain ⟨g, rfl⟩ : ∃ g, f = g + 1 := ⟨f - 1, by simp at hf; omega⟩
    exact .inr ⟨h, hv, by simpa using hl, by rw [he, parseF, if_pos rfl]⟩
def PEnd (s : ByteArray) (w w' : World) (v : Value) (er : Int) : Prop := (∃ xs, parseR s.data.toList = some (xs.map lnM) ∧ er = 0 ∧ PSL w' w.heap.size v xs ∧ okV xs ∧ ((xs.map lnM).flatMap lineP).length ≤ 200000000) ∨ (parseR s.data.toList = none ∧ er = 11 ∧ v = .slice none 0 0)

set_option maxHeartbeats 8000000 in
set_option maxRecDepth 100000 in
theorem Parse_c (s : ByteArray) (hs : s.size ≤ 4194304) (w : World) (h : LP w) :
    Calls Tryd.prog 11 #[.string s] w fun e w' => ∃ (v : Value) (er : Int), e = .returned (.tuple #[v, .int .i64 er]) ∧ PEnd s w w' v er ∧ Below w.heap.size w w' := by
  have HL := Lib.hid h; clear h
  have hln : decide ((4194304 : Int) < (s.size : Int)) = false := decide_eq_false (by omega)
  have hln2 : decide (4194304 < s.size) = false := decide_eq_false (by omega)
  obtain ⟨R, hR⟩ : ∃ R, Hid (w.heap.size = R) := ⟨_, Lib.hid rfl⟩
  obtain ⟨w1, hw1⟩ : ∃ w1, Hid (w.alloc (.cells #[.string s, .bool false] 87) = w1) := ⟨_, Lib.hid rfl⟩
  have H1 : Hid (RD w1 R s false ∧ Below w.heap.size w w1 ∧ w1.heap.size = w.heap.size + 1) := ⟨by rw [← hw1.out, ← hR.out]; exact allocN _ _, by rw [← hw1.out]; exact (Below.refl _ _).alloc (Nat.le_refl _) _, by rw [← hw1.out]; exact size_alloc _ _⟩
  go_enter Tryd.func11, Tryd.ntmps11
  go_upto_region 4 with fail
  rw [hw1.out, hR.out]
  go_wp2_with fail
  go_loopw [5] (fun lv wr => ∃ (xs : List SLin) (av : Value), lv = av ∧ Hid (∃ (sr : ByteArray) (bd : Bool), RD wr R sr bd ∧ Below w.heap.size w wr ∧ w.heap.size + 1 ≤ wr.heap.size ∧ PSL wr (w.heap.size + 1) av xs ∧ PI s.data.toList sr.data.toList bd xs)) (fun _ wr => rdM wr R)
  case atStart => exact ⟨[], _, rfl, s, false, H1.out.1, H1.out.2.1, by have := H1.out.2.2; omega, Kd.S_nil _ _ _ _ _, .inr ⟨rfl, fun _ h => absurd h List.not_mem_nil, by simp, s.data.toList.length + 1, Nat.lt_succ_self _, rfl⟩⟩
  case round =>
    obtain ⟨xs, av, rfl, HO⟩ := hrel
    obtain ⟨sr, bd, hH⟩ := HO.out
    have HW := Lib.hid hH; clear hH HO
    have g0 := HW.out.1.c0; have g1 := HW.out.1.c1
    cases bd
    · rcases hl : sr.data.toList with _ | ⟨c, r⟩
      · -- all is read
        have hq : (sr.toList == []) = true := by rw [ByteArray.toList_eq, hl]; rfl
        have HE : Hid (okV xs ∧ ((xs.map lnM).flatMap lineP).length ≤ 200000000 ∧ parseM s.data.toList = some (xs.map lnM)) := by
          have h := HW.out.2.2.2.2
          rw [hl] at h
          rcases PI_end _ _ _ h with ⟨h, _⟩ | ⟨_, h1, h2, h3⟩
          · cases h
          · exact ⟨h1, by have : s.data.toList.length = s.size := rfl; omega, h3⟩
        clear hl
        obtain ⟨A, c, rfl, hc, hC⟩ := Kd.S_reads HW.out.2.2.2.1
        have HP := Lib.hid (Print_c wr (HL.out.below HW.out.2.1) A c xs hC HE.out.1 HE.out.2.1)
        obtain ⟨n, hn⟩ : ∃ n, Hid (xs.length = n) := ⟨_, Lib.hid rfl⟩
        have HS : Hid (PSL wr (w.heap.size + 1) (.slice A n c) xs ∧ Below w.heap.size w wr) := ⟨by rw [← hn.out]; exact HW.out.2.2.2.1, HW.out.2.1⟩
        rw [hn.out] at HP
        rw [hn.out]
        obtain ⟨sp, hsp⟩ : ∃ sp : ByteArray, Hid (strV (printP (xs.map lnM)) = .string sp ∧ sp.data.toList = printP (xs.map lnM)) := ⟨⟨(printP (xs.map lnM)).toArray⟩, rfl, rfl⟩
        rw [hsp.out.1] at HP
        clear hC hc
        by_cases heq : printP (xs.map lnM) = s.data.toList
        · have hqq : (sp.toList == s.toList) = true := by rw [ByteArray.toList_eq, ByteArray.toList_eq, hsp.out.2, heq]; simp
          have HR : Hid (parseR s.data.toList = some (xs.map lnM)) := by show _ = _; unfold parseR; rw [HE.out.2.2, Option.bind_some, if_pos heq]
          clear heq
          go_wp2_with fail
          refine HP.out.mono ?_
          rintro e w5 ⟨rfl, hb5⟩
          have H5 : Hid (PSL w5 w.heap.size (.slice A n c) xs ∧ Below w.heap.size w w5) := ⟨Kd.S_lower (Kd.S_below HS.out.1 hb5) (Nat.le_succ _), HS.out.2.trans (hb5.mono HS.out.2.size)⟩
          clear hb5
          go_wp2_with fail
          go_ret2
          exact ⟨_, _, rfl, Or.inl ⟨xs, HR.out, rfl, H5.out.1, HE.out.1, HE.out.2.1⟩, H5.out.2⟩
        · have hqq : (sp.toList == s.toList) = false := by rw [ByteArray.toList_eq, ByteArray.toList_eq, hsp.out.2]; exact beq_eq_false_iff_ne.2 heq
          have HR : Hid (parseR s.data.toList = none) := by show _ = _; unfold parseR; rw [HE.out.2.2, Option.bind_some, if_neg heq]
          clear heq
          go_wp2_with fail
          refine HP.out.mono ?_
          rintro e w5 ⟨rfl, hb5⟩
          have H5 : Hid (Below w.heap.size w w5) := HS.out.2.trans (hb5.mono HS.out.2.size)
          clear hb5
          go_wp2_with fail
          go_ret2
          exact ⟨_, _, rfl, Or.inr ⟨HR.out, rfl, rfl⟩, H5.out⟩
      · have hq : (sr.toList == []) = false := by rw [ByteArray.toList_eq, hl]; rfl
        have HNE : Hid (sr.data.toList ≠ []) := by show _ ≠ _; rw [hl]; simp
        clear hl
        have hxb : xs.length ≤ 200000000 ∧ sr.size ≤ 4200000 := by
          rcases HW.out.2.2.2.2 with ⟨h, _⟩ | ⟨_, _, h, _⟩
          · cases h
          · have h1 := flat_len (xs.map lnM)
            rw [List.length_map] at h1
            have h2 : s.data.toList.length = s.size := rfl
            have h3 : sr.data.toList.length = sr.size := rfl
            omega
        have HLN := Lib.hid (line_c wr R sr HW.out.1 (HL.out.below HW.out.2.1) (fun w' hf => HL.out.below (HW.out.2.1.trans (hf.belowB HW.out.2.1.size (fun k hk => by rw [List.mem_singleton] at hk; have := hR.out; omega)))) hxb.2)
        have hms : rdM wr R = 1 + sr.size := rdM_ok HW.out.1
        go_wp2_with fail
        refine HLN.out.mono ?_
        rintro e w2 ⟨x, v1, s8, b8, rfl, hr8, hd8, hf8, hp8⟩
        have hbw : Below w.heap.size w w2 := HW.out.2.1.trans (hf8.belowB HW.out.2.1.size (fun k hk => by rw [List.mem_singleton] at hk; have := hR.out; omega))
        have AP : Hid (∀ k, some k = v1.ownBlock → wr.heap.size ≤ k) := fun k hk => Kd.R_base hr8 k hk.symm
        have AL : Hid (∀ k, u5.ownBlock = some k → k < wr.heap.size) := Kd.S_lt HW.out.2.2.2.1
        have HR8 : Hid (Kd.R k71 71 w2 (w.heap.size + 1) (fun k => some k = v1.ownBlock) v1 x.f1) := Kd.R_flat (fun h => h) (Kd.R_lower hr8 HW.out.2.2.1) (fun k hk _ => hk.symm)
        have S1 : Hid (Kd.S k43 43 w2 (w.heap.size + 1) (fun k => True ∧ ¬ some k = v1.ownBlock) u5 xs) := by
          have h1 := Kd.S_mono (ok' := fun k => (True ∧ ¬ some k = v1.ownBlock) ∧ w.heap.size + 1 ≤ k) (Kd.S_bound HW.out.2.2.2.1) (fun k hk => ⟨⟨trivial, fun e => by have := AP.out k e; have := hk.2.2.1; omega⟩, hk.2.1⟩)
          exact Kd.S_mono (Kd.S_step h1 (fun k hk hlt => hf8.block k hlt (by have := hR.out; have := hk.2; simp; omega))) (fun _ hk => hk.1)
        have HPI : Hid (PI s.data.toList s8.data.toList b8 (xs ++ [x])) := PI_step s sr s8 b8 x xs HW.out.2.2.2.2 HNE.out hp8
        have HMS : Hid (∀ W, RD W R s8 b8 → rdM W R < 1 + sr.size) := fun W hW => by
          cases b8
          · rw [rdM_ok hW]
            rcases hp8 with ⟨h, _⟩ | ⟨_, h⟩
            · have h1 := (line_len _ _ _ h).2
              have h2 : 0 < (lineP (lnM x)).length := List.length_pos_iff.2 (lineP_ne _)
              have h3 : s8.data.toList.length = s8.size := rfl
              have h4 : sr.data.toList.length = sr.size := rfl
              omega
            · cases h
          · rw [rdM_bad hW]; omega
        have H2 : Hid (RD w2 R s8 b8 ∧ Below w.heap.size w w2 ∧ w.heap.size + 1 ≤ w2.heap.size) := ⟨hd8, hbw, Nat.le_trans HW.out.2.2.1 hf8.size⟩
        clear hr8 hd8 hf8 hp8 hbw HLN g0 g1
        go_wp2_with (at_builtin; go_loud (refine Kd.S_append k43 (w0 := w2) (w.heap.size + 1) rfl _ _ 32 43 (.agg #[(.string ⟨#[]⟩), (.slice none 0 0), (.int .u64 0)]) 48 rfl Tryd.underlying32 info43 rfl (by decide) (by decide) u5 xs x [.string x.f0, v1, .int .u64 x.f2] (fun _ => True) (fun k => some k = v1.ownBlock) rfl rfl (k43_mkM _ _ _ x HR8.out) (fun k hk => ⟨trivial, fun e => by have h1 := AP.out k hk; have h2 := AL.out k e.symm; omega⟩) (fun _ _ => trivial) S1.out (Below.refl _ _) H2.out.2.2 (by have := hxb.1; omega) ?_))
        intro v9 w9 hS hB hG hat
        have H9 : Hid (RD w9 R s8 b8 ∧ Below w.heap.size w w9 ∧ w.heap.size + 1 ≤ w9.heap.size ∧ PSL w9 (w.heap.size + 1) v9 (xs ++ [x])) :=
          ⟨H2.out.1.keep hB (by have := hR.out; omega), H2.out.2.1.trans (hB.mono (Nat.le_succ _)), Nat.le_trans H2.out.2.2 hB.size, hS⟩
        have HM9 := Lib.hid (HMS.out w9 H9.out.1)
        clear hS hB hG hat
        go_wp2_with fail
        go_roundw
        case rel => exact ⟨xs ++ [x], v9, rfl, s8, b8, H9.out.1, H9.out.2.1, H9.out.2.2.1, H9.out.2.2.2, HPI.out⟩
        case measure => rw [hms]; exact HM9.out
    · have HE : Hid (parseR s.data.toList = none) := by
        rcases HW.out.2.2.2.2 with ⟨_, h⟩ | ⟨h, _⟩
        · show _ = _; unfold parseR; rw [h]; rfl
        · cases h
      rcases Bool.eq_false_or_eq_true (sr.toList == []) with hq | hq
      · go_wp2_with fail
        go_ret2
        exact ⟨_, _, rfl, Or.inr ⟨HE.out, rfl, rfl⟩, HW.out.2.1⟩
      · go_wp2_with fail
        go_ret2
        exact ⟨_, _, rfl, Or.inr ⟨HE.out, rfl, rfl⟩, HW.out.2.1⟩
end Go.Proofs.YtdbmcikoiilanaaDoor.Xp
set_option linter.unusedVariables false
set_option linter.unusedSimpArgs false
namespace Go.Proofs.YtdbmcikoiilanaaDoor.Xp
open Go.RowKit Go.Proofs.YtdbmcikoiilanaaDoor.B0 Go.Proofs.YtdbmcikoiilanaaDoorW.PrintWords Go.Proofs.YtdbmcikoiilanaaDoor.Bld Go.Proofs.YtdbmcikoiilanaaDoor.Pp

set_option maxHeartbeats 4000000 in
set_option maxRecDepth 100000 in
theorem Clone_c (w : World) (A : Option Addr) (c : Nat) (ls : List SLab) (hC : Kd.C k71 w A ls.length ls) (hl : ls.length ≤ 1000000) (hA : A = none → c = 0) :
    Calls Tryd.prog 30 #[.slice A ls.length c] w fun e w' => ∃ v, e = .returned v ∧ Kd.R k71 71 w' w.heap.size (fun _ => True) v ls ∧ Below w.heap.size w w' := by
  obtain ⟨n, hn⟩ : ∃ n, ls.length = n := ⟨_, rfl⟩
  rw [hn] at hC ⊢
  have HN := Lib.hid hn
  rw [hn] at hl
  clear hn
  have HC := Lib.hid hC; clear hC
  rcases A with _ | ad
  · have h0 : n = 0 := by
      rcases Nat.eq_zero_or_pos n with h | h
      · exact h
      · obtain ⟨ad, e, _⟩ := HC.out.2.2 h; cases e
    have hc0 := hA rfl
    subst h0 hc0
    have hq : ∀ W, (binOp .eql 41 (.slice none 0 0) (.slice none 0 0)).run Tryd.prog W = .ok (.bool true) W := fun _ => by kernel_rfl
    have hls : Hid (ls = []) := List.eq_nil_of_length_eq_zero HN.out
    go_enter Tryd.func30, Tryd.ntmps30
    go_wp2_with fail
    go_ret
    exact ⟨_, rfl, by rw [hls.out]; exact Kd.R_nil _ _ _ _ _, Below.refl _ _⟩
  · have hq : ∀ W, (binOp .eql 41 (.slice (some ad) n c) (.slice none 0 0)).run Tryd.prog W = .ok (.bool false) W := fun _ => by kernel_rfl
    go_enter Tryd.func30, Tryd.ntmps30
    go_wp2_with ((with_reducible refine gate_dst (N := 5) rfl ?_); go_loud (refine Kd.R_lit k71 (w0 := w) w.heap.size 71 ?hg (N := 5) ?hd (xs := ([] : List SLab)) (inner := []) (ok := fun _ => True) (okp := fun _ => False) ?hr ?hp (fun _ _ => trivial) trivial (Below.refl _ _) (Nat.le_refl _) (by simp) ?_); (case hd => rfl); (case hg => rfl); (case hr => first | (go_simp; done) | (go_simp; rfl)); (case hp => exact (Reps.none _ _)))
    intro v1 w1 ho1 hb1 hg1 hn0 hn1 hn2
    have H1 : Hid (Kd.R k71 71 w1 w.heap.size (fun _ => True) v1 ([] : List SLab) ∧ Below w.heap.size w w1) := ⟨ho1, hb1⟩
    clear ho1 hb1 hg1 hn1 hn2
    have HC1 := Lib.hid (Kd.C_below HC.out H1.out.2)
    go_wp2_with (at_builtin; go_loud (refine Kd.R_append_rows k71 (Rr := k71.K w1) (w0 := w) w.heap.size rfl _ _ 41 71 (.agg #[(.string ⟨#[]⟩), (.string ⟨#[]⟩)]) 32 rfl Tryd.underlying41 info71 rfl (by decide) (by decide) v1 [] ls (some ad) n c (fun _ => True) (fun _ => False) rfl rfl H1.out.1 HC1.out (fun _ _ h => h) (fun _ h => h.elim) (fun _ _ => trivial) H1.out.2 H1.out.2.size (by simp only [List.length_nil]; omega) ?_))
    intro v2 w2 ho2 hb2 hg2 hat2
    have H2 : Hid (Kd.R k71 71 w2 w.heap.size (fun _ => True) v2 ls ∧ Below w.heap.size w w2) := ⟨ho2, hb2⟩
    clear ho2 hb2 hg2 hat2
    go_wp2_with fail
    go_ret
    exact ⟨v2, rfl, H2.out⟩
end Go.Proofs.YtdbmcikoiilanaaDoor.Xp
set_option linter.unusedVariables false
set_option linter.unusedSimpArgs false
namespace Go.Proofs.YtdbmcikoiilanaaDoor.Xp
open Go.RowKit Go.Proofs.YtdbmcikoiilanaaDoor.B0 Go.Proofs.YtdbmcikoiilanaaDoorW.PrintWords Go.Proofs.YtdbmcikoiilanaaDoor.Bld Go.Proofs.YtdbmcikoiilanaaDoor.Pp

/-- labels at A, in a block of labels. -/
def LabAt (w : World) (A : Option Addr) (ls : List SLab) : Prop := Kd.C k71 w A ls.length ls ∧ ∀ ad, A = some ad → ∃ cs, w.heap[ad.block]? = some (.cells cs 71 (0, 0))
/-- blocks of labels stay. -/
def KL (w w' : World) : Prop := ∀ (k : Nat) (cs : Array Value), w.heap[k]? = some (Obj.cells cs 71 (0, 0)) → w'.heap[k]? = some (Obj.cells cs 71 (0, 0))
theorem KL.refl (w : World) : KL w w := fun _ _ h => h
theorem KL.trans {a b c : World} (h : KL a b) (h' : KL b c) : KL a c := fun k cs hk => h' k cs (h k cs hk)
theorem KL.below {w w' : World} (h : Below w.heap.size w w') : KL w w' := fun k cs hk => (h.block k (lt_of_get hk)).trans hk
theorem KL.set {w : World} {b o : Nat} {v : Value} {cs : Array Value} {T : TypeId} (hb : w.heap[b]? = some (.cells cs T (0, 0))) (hT : T ≠ 71) : KL w (w.setCell ⟨b, o, none⟩ v) := fun k cs' hk => by
  refine (setO w ⟨b, o, none⟩ v ?_).trans hk
  rintro rfl
  rw [hb] at hk
  exact hT (Obj.cells.inj (Option.some.inj hk)).2.1
theorem KL.grown {w w' : World} {v : Value} {α : Type} {d : Kd α} {T base : Nat} {ok : Nat → Prop} {xs : List α} (h : d.R T w base ok v xs) (hT : T ≠ 71) (hg : w.grownBy w' v.ownBlock) : KL w w' := fun k cs hk => by
  refine (hg.block k (lt_of_get hk) (fun e => ?_)).trans hk
  obtain ⟨cells, hc⟩ := Kd.R_typed h k e.symm
  rw [hk] at hc
  exact hT (Obj.cells.inj (Option.some.inj hc)).2.1.symm
theorem LabAt.keep {w w' : World} {A : Option Addr} {ls : List SLab} (h : LabAt w A ls) (hk : KL w w') : LabAt w' A ls := by
  refine ⟨⟨h.1.1, h.1.2.1, fun hn => ?_⟩, fun ad e => ?_⟩
  · obtain ⟨ad, e, hc⟩ := h.1.2.2 hn
    obtain ⟨cs, hb⟩ := h.2 ad e
    refine ⟨ad, e, fun j p hj => ?_⟩
    obtain ⟨c, h1, h2, h3⟩ := hc j p hj
    refine ⟨c, h1, h2, fun i u hu => ?_⟩
    have h4 := h3 i u hu
    have hbl : ∀ m, (ad.add m).block = ad.block := fun m => by unfold Addr.add; split <;> rfl
    rw [← h4]
    exact World.cell?_of_block (by rw [hbl, hk _ _ hb, hb])
  · obtain ⟨cs, hb⟩ := h.2 ad e
    exact ⟨cs, hk _ _ hb⟩
theorem LabAt.of_R {w : World} {base : Nat} {v : Value} {ls : List SLab} (h : Kd.R k71 71 w base (fun _ => True) v ls) : ∃ A c, v = .slice A ls.length c ∧ ls.length ≤ c ∧ (A = none → c = 0) ∧ LabAt w A ls := by
  obtain ⟨A, c, rfl, hc, hC⟩ := Kd.R_reads h
  refine ⟨A, c, rfl, hc, fun e => ?_, hC, fun ad e => ?_⟩
  · subst e
    obtain ⟨inner, ho⟩ := Kd.R_own h
    rcases ho.2 with ⟨e, _⟩ | ⟨g, cap, cur, e, _⟩
    · exact (Value.slice.inj e).2.2
    · cases e
  subst e
  obtain ⟨g, rfl⟩ := Kd.R_head h
  obtain ⟨cells, hh⟩ := Kd.R_typed h g (by simp [Value.ownBlock])
  exact ⟨cells, hh⟩
/-- a line's cells. -/
def LRow (w : World) (x : SLin) (r : List Value) : Prop := ∃ A c, r = [.string x.f0, .slice A x.f1.length c, .int .u64 x.f2] ∧ x.f1.length ≤ c ∧ (A = none → c = 0) ∧ LabAt w A x.f1
theorem LRow.keep {w w' : World} {x : SLin} {r : List Value} (h : LRow w x r) (hk : KL w w') : LRow w' x r := by
  obtain ⟨A, c, h1, h2, h3, h4⟩ := h
  exact ⟨A, c, h1, h2, h3, h4.keep hk⟩
def LRows (w : World) (xs : List SLin) (rows : List (List Value)) : Prop := rows.length = xs.length ∧ ∀ (i : Nat) (x : SLin), xs[i]? = some x → ∃ r, rows[i]? = some r ∧ LRow w x r
theorem LRows.keep {w w' : World} {xs : List SLin} {rows : List (List Value)} (h : LRows w xs rows) (hk : KL w w') : LRows w' xs rows :=
  ⟨h.1, fun i x hx => by obtain ⟨r, h1, h2⟩ := h.2 i x hx; exact ⟨r, h1, h2.keep hk⟩⟩
theorem LRows.append {w : World} {xs ys : List SLin} {rows rs : List (List Value)} (h : LRows w xs rows) (h' : LRows w ys rs) : LRows w (xs ++ ys) (rows ++ rs) := by
  refine ⟨by rw [List.length_append, List.length_append, h.1, h'.1], fun i x hx => ?_⟩
  rcases Nat.lt_or_ge i xs.length with hl | hg
  · rw [List.getElem?_append_left hl] at hx
    rw [List.getElem?_append_left (by rw [h.1]; exact hl)]
    exact h.2 i x hx
  · rw [List.getElem?_append_right hg] at hx
    rw [List.getElem?_append_right (by rw [h.1]; exact hg), h.1]
    exact h'.2 _ x hx
/-- the lines' row. -/
def LW (w : World) (base : Nat) (v : Value) (xs : List SLin) : Prop := ∃ rows, (Kd.raw 3).R 43 w base (fun _ => True) v rows ∧ LRows w xs rows
theorem LW.below {w w' : World} {base : Nat} {v : Value} {xs : List SLin} (h : LW w base v xs) (hb : Below w.heap.size w w') : LW w' base v xs := by
  obtain ⟨rows, h1, h2⟩ := h
  exact ⟨rows, Kd.R_below h1 hb, h2.keep (KL.below hb)⟩
theorem LW.lower {w : World} {base b : Nat} {v : Value} {xs : List SLin} (h : LW w base v xs) (hb : b ≤ base) : LW w b v xs := by
  obtain ⟨rows, h1, h2⟩ := h
  exact ⟨rows, Kd.R_lower h1 hb, h2⟩
theorem LW.reads {w : World} {base : Nat} {v : Value} {xs : List SLin} (h : LW w base v xs) : ∃ A c, v = .slice A xs.length c ∧ xs.length ≤ c ∧ Kd.C k43 w A xs.length xs := by
  obtain ⟨rows, h1, h2⟩ := h
  obtain ⟨A, c, rfl, hc, hC⟩ := Kd.R_reads h1
  have hlen := h2.1
  refine ⟨A, c, by rw [hlen], by rw [← hlen]; exact hc, rfl, by rw [← hlen]; exact hC.2.1, fun hn => ?_⟩
  obtain ⟨ad, e, hcells⟩ := hC.2.2 (by rw [hlen]; exact hn)
  refine ⟨ad, e, fun j x hx => ?_⟩
  obtain ⟨r, hr, A1, c1, rfl, hc1, _, hl⟩ := h2.2 j x hx
  obtain ⟨cs, hcl, ⟨rfl, _, _⟩, hcell⟩ := hcells j _ hr
  exact ⟨_, hcl, k43_mk w x hc1 hl.1, hcell⟩
end Go.Proofs.YtdbmcikoiilanaaDoor.Xp
set_option linter.unusedVariables false
set_option linter.unusedSimpArgs false
namespace Go.Proofs.YtdbmcikoiilanaaDoor.Kn
open Go.RowKit Go.Proofs.YtdbmcikoiilanaaDoor.B0 Go.Proofs.YtdbmcikoiilanaaDoorW.PrintWords
structure S61 where
  f0 : Int
  f1 : Bool
def z61 : S61 := ⟨(0 : Int), false⟩
def k61 : Kd S61 := Kd.iso (Kd.pair (Kd.int .u64) (Kd.bool)) (fun x : S61 => (x.f0, x.f1))
theorem k61_open {w : World} {x : S61} {cs : List Value} (h : k61.K w x cs) : cs = [.int .u64 x.f0, .bool x.f1] := by
  obtain ⟨_, _, rfl, h0, h1⟩ := h
  obtain rfl := id h0
  obtain rfl := id h1
  rfl
theorem k61_mk (w : World) (x : S61) : k61.K w x [.int .u64 x.f0, .bool x.f1] := ⟨[.int .u64 x.f0], [.bool x.f1], rfl, rfl, rfl⟩
def rd_T61 (xs : List S61) (i : Int) : S61 := xs.getD i.toNat z61
theorem at_T61 {w : World} {A : Option Addr} {n : Nat} {xs : List S61} (h : Kd.C k61 w A n xs) (i : Int) (h0 : 0 ≤ i) (h1 : i < n) : ∃ ad, A = some ad ∧ w.cell? (ad.add (i.toNat * 2)) = some (.int .u64 (rd_T61 xs i).f0) ∧ w.cell? ⟨(ad.add (i.toNat * 2)).block, (ad.add (i.toNat * 2)).off + 1, none⟩ = some (.bool (rd_T61 xs i).f1) := by
  obtain ⟨ad, c, e, _, hK, hc0⟩ := Kd.C_get h z61 i h0 h1
  have hc : ∀ j u, c[j]? = some u → w.cell? (ad.add (i.toNat * 2 + j)) = some u := hc0
  obtain rfl := k61_open hK
  exact ⟨ad, e, hc 0 _ rfl, (by rw [← add_field _ _ 1 (by omega)]; exact hc 1 _ rfl)⟩
def W61 (y : S61) : Prop := (Lit.int .u64 y.f0).wf = true ∧ True
theorem op61 : OpK Tryd.prog 61 k61 W61 := by
  intro H enc w base spare held fuel cs x h
  obtain ⟨xs, n, rfl, hx, hl, hxs, hf⟩ := DataW.trod_struct Tryd.underlying61 h
  have hl' : cs.length = 2 := hl.trans (by kernel_rfl)
  obtain ⟨y0, J0, X0⟩ := OpK.field hxs hf 0 _ rfl 25 0 1 rfl rfl (by kernel_rfl) (OpK.int Tryd.underlying25)
  obtain ⟨y1, J1, X1⟩ := OpK.field hxs hf 1 _ rfl 4 1 1 rfl rfl (by kernel_rfl) (OpK.bool Tryd.underlying4)
  rw [List.take_of_length_le (by rw [List.length_drop]; omega)] at J1
  exact ⟨⟨y0, y1⟩, ⟨_, _, split_at 0 1 cs, J0, J1⟩, ⟨X0, X1⟩⟩
structure S98 where
  f0 : Int
  f1 : Int
  f2 : Int
  f3 : Bool
def z98 : S98 := ⟨(0 : Int), (0 : Int), (0 : Int), false⟩
def k98 : Kd S98 := Kd.iso (Kd.pair (Kd.int .u64) (Kd.pair (Kd.int .u64) (Kd.pair (Kd.int .u64) (Kd.bool)))) (fun x : S98 => (x.f0, (x.f1, (x.f2, x.f3))))
theorem k98_open {w : World} {x : S98} {cs : List Value} (h : k98.K w x cs) : cs = [.int .u64 x.f0, .int .u64 x.f1, .int .u64 x.f2, .bool x.f3] := by
  obtain ⟨_, _, rfl, h0, ⟨_, _, rfl, h1, ⟨_, _, rfl, h2, h3⟩⟩⟩ := h
  obtain rfl := id h0
  obtain rfl := id h1
  obtain rfl := id h2
  obtain rfl := id h3
  rfl
theorem k98_mk (w : World) (x : S98) : k98.K w x [.int .u64 x.f0, .int .u64 x.f1, .int .u64 x.f2, .bool x.f3] := ⟨[.int .u64 x.f0], [.int .u64 x.f1, .int .u64 x.f2, .bool x.f3], rfl, rfl, ⟨[.int .u64 x.f1], [.int .u64 x.f2, .bool x.f3], rfl, rfl, ⟨[.int .u64 x.f2], [.bool x.f3], rfl, rfl, rfl⟩⟩⟩
def rd_T98 (xs : List S98) (i : Int) : S98 := xs.getD i.toNat z98
theorem at_T98 {w : World} {A : Option Addr} {n : Nat} {xs : List S98} (h : Kd.C k98 w A n xs) (i : Int) (h0 : 0 ≤ i) (h1 : i < n) : ∃ ad, A = some ad ∧ w.cell? (ad.add (i.toNat * 4)) = some (.int .u64 (rd_T98 xs i).f0) ∧ w.cell? ⟨(ad.add (i.toNat * 4)).block, (ad.add (i.toNat * 4)).off + 1, none⟩ = some (.int .u64 (rd_T98 xs i).f1) ∧ w.cell? ⟨(ad.add (i.toNat * 4)).block, (ad.add (i.toNat * 4)).off + 2, none⟩ = some (.int .u64 (rd_T98 xs i).f2) ∧ w.cell? ⟨(ad.add (i.toNat * 4)).block, (ad.add (i.toNat * 4)).off + 3, none⟩ = some (.bool (rd_T98 xs i).f3) := by
  obtain ⟨ad, c, e, _, hK, hc0⟩ := Kd.C_get h z98 i h0 h1
  have hc : ∀ j u, c[j]? = some u → w.cell? (ad.add (i.toNat * 4 + j)) = some u := hc0
  obtain rfl := k98_open hK
  exact ⟨ad, e, hc 0 _ rfl, (by rw [← add_field _ _ 1 (by omega)]; exact hc 1 _ rfl), (by rw [← add_field _ _ 2 (by omega)]; exact hc 2 _ rfl), (by rw [← add_field _ _ 3 (by omega)]; exact hc 3 _ rfl)⟩
def W98 (y : S98) : Prop := (Lit.int .u64 y.f0).wf = true ∧ (Lit.int .u64 y.f1).wf = true ∧ (Lit.int .u64 y.f2).wf = true ∧ True
theorem op98 : OpK Tryd.prog 98 k98 W98 := by
  intro H enc w base spare held fuel cs x h
  obtain ⟨xs, n, rfl, hx, hl, hxs, hf⟩ := DataW.trod_struct Tryd.underlying98 h
  have hl' : cs.length = 4 := hl.trans (by kernel_rfl)
  obtain ⟨y0, J0, X0⟩ := OpK.field hxs hf 0 _ rfl 25 0 1 rfl rfl (by kernel_rfl) (OpK.int Tryd.underlying25)
  obtain ⟨y1, J1, X1⟩ := OpK.field hxs hf 1 _ rfl 25 1 1 rfl rfl (by kernel_rfl) (OpK.int Tryd.underlying25)
  obtain ⟨y2, J2, X2⟩ := OpK.field hxs hf 2 _ rfl 25 2 1 rfl rfl (by kernel_rfl) (OpK.int Tryd.underlying25)
  obtain ⟨y3, J3, X3⟩ := OpK.field hxs hf 3 _ rfl 4 3 1 rfl rfl (by kernel_rfl) (OpK.bool Tryd.underlying4)
  rw [List.take_of_length_le (by rw [List.length_drop]; omega)] at J3
  exact ⟨⟨y0, y1, y2, y3⟩, ⟨_, _, split_at 0 1 cs, J0, ⟨_, _, split_at 1 1 cs, J1, ⟨_, _, split_at 2 1 cs, J2, J3⟩⟩⟩, ⟨X0, X1, X2, X3⟩⟩
structure S70 where
  f0 : List ByteArray
  f1 : Bool
  f2 : S61
  f3 : S61
  f4 : S61
  f5 : List S61
  f6 : List S98
def z70 : S70 := ⟨[], false, z61, z61, z61, [], []⟩
def k70 : Kd S70 := Kd.iso (Kd.pair (Kd.slice 9 Kd.string) (Kd.pair Kd.bool (Kd.pair k61 (Kd.pair k61 (Kd.pair k61 (Kd.pair (Kd.slice 61 k61) ((Kd.slice 98 k98)))))))) (fun x : S70 => (x.f0, (x.f1, (x.f2, (x.f3, (x.f4, (x.f5, x.f6)))))))
theorem k70_open {w : World} {x : S70} {cs : List Value} (h : k70.K w x cs) : ∃ A0 c0 A1 c1 A2 c2, cs = [.slice A0 x.f0.length c0, .bool x.f1, .int .u64 x.f2.f0, .bool x.f2.f1, .int .u64 x.f3.f0, .bool x.f3.f1, .int .u64 x.f4.f0, .bool x.f4.f1, .slice A1 x.f5.length c1, .slice A2 x.f6.length c2] ∧ (x.f0.length ≤ c0 ∧ Kd.C Kd.string w A0 x.f0.length x.f0) ∧ (x.f5.length ≤ c1 ∧ Kd.C k61 w A1 x.f5.length x.f5) ∧ (x.f6.length ≤ c2 ∧ Kd.C k98 w A2 x.f6.length x.f6) := by
  obtain ⟨_, _, rfl, h0, ⟨_, _, rfl, h1, ⟨_, _, rfl, h2, ⟨_, _, rfl, h3, ⟨_, _, rfl, h4, ⟨_, _, rfl, h5, h6⟩⟩⟩⟩⟩⟩ := h
  obtain ⟨A0, c0, rfl, g0⟩ := h0
  obtain rfl := id h1
  obtain rfl := k61_open h2
  obtain rfl := k61_open h3
  obtain rfl := k61_open h4
  obtain ⟨A1, c1, rfl, g1⟩ := h5
  obtain ⟨A2, c2, rfl, g2⟩ := h6
  exact ⟨A0, c0, A1, c1, A2, c2, rfl, g0, g1, g2⟩
def rd_T70 (xs : List S70) (i : Int) : S70 := xs.getD i.toNat z70
theorem at_T70 {w : World} {A : Option Addr} {n : Nat} {xs : List S70} (h : Kd.C k70 w A n xs) (i : Int) (h0 : 0 ≤ i) (h1 : i < n) : ∃ ad, A = some ad ∧ ∃ A0 c0 A1 c1 A2 c2, w.cell? (ad.add (i.toNat * 10)) = some (.slice A0 (rd_T70 xs i).f0.length c0) ∧ w.cell? ⟨(ad.add (i.toNat * 10)).block, (ad.add (i.toNat * 10)).off + 1, none⟩ = some (.bool (rd_T70 xs i).f1) ∧ w.cell? ⟨(ad.add (i.toNat * 10)).block, (ad.add (i.toNat * 10)).off + 2, none⟩ = some (.int .u64 (rd_T70 xs i).f2.f0) ∧ w.cell? ⟨(ad.add (i.toNat * 10)).block, (ad.add (i.toNat * 10)).off + 3, none⟩ = some (.bool (rd_T70 xs i).f2.f1) ∧ w.cell? ⟨(ad.add (i.toNat * 10)).block, (ad.add (i.toNat * 10)).off + 4, none⟩ = some (.int .u64 (rd_T70 xs i).f3.f0) ∧ w.cell? ⟨(ad.add (i.toNat * 10)).block, (ad.add (i.toNat * 10)).off + 5, none⟩ = some (.bool (rd_T70 xs i).f3.f1) ∧ w.cell? ⟨(ad.add (i.toNat * 10)).block, (ad.add (i.toNat * 10)).off + 6, none⟩ = some (.int .u64 (rd_T70 xs i).f4.f0) ∧ w.cell? ⟨(ad.add (i.toNat * 10)).block, (ad.add (i.toNat * 10)).off + 7, none⟩ = some (.bool (rd_T70 xs i).f4.f1) ∧ w.cell? ⟨(ad.add (i.toNat * 10)).block, (ad.add (i.toNat * 10)).off + 8, none⟩ = some (.slice A1 (rd_T70 xs i).f5.length c1) ∧ w.cell? ⟨(ad.add (i.toNat * 10)).block, (ad.add (i.toNat * 10)).off + 9, none⟩ = some (.slice A2 (rd_T70 xs i).f6.length c2) ∧ ((rd_T70 xs i).f0.length ≤ c0 ∧ Kd.C Kd.string w A0 (rd_T70 xs i).f0.length (rd_T70 xs i).f0) ∧ ((rd_T70 xs i).f5.length ≤ c1 ∧ Kd.C k61 w A1 (rd_T70 xs i).f5.length (rd_T70 xs i).f5) ∧ ((rd_T70 xs i).f6.length ≤ c2 ∧ Kd.C k98 w A2 (rd_T70 xs i).f6.length (rd_T70 xs i).f6) := by
  obtain ⟨ad, c, e, _, hK, hc0⟩ := Kd.C_get h z70 i h0 h1
  have hc : ∀ j u, c[j]? = some u → w.cell? (ad.add (i.toNat * 10 + j)) = some u := hc0
  obtain ⟨A0, c0, A1, c1, A2, c2, rfl, g0, g1, g2⟩ := k70_open hK
  exact ⟨ad, e, A0, c0, A1, c1, A2, c2, hc 0 _ rfl, (by rw [← add_field _ _ 1 (by omega)]; exact hc 1 _ rfl), (by rw [← add_field _ _ 2 (by omega)]; exact hc 2 _ rfl), (by rw [← add_field _ _ 3 (by omega)]; exact hc 3 _ rfl), (by rw [← add_field _ _ 4 (by omega)]; exact hc 4 _ rfl), (by rw [← add_field _ _ 5 (by omega)]; exact hc 5 _ rfl), (by rw [← add_field _ _ 6 (by omega)]; exact hc 6 _ rfl), (by rw [← add_field _ _ 7 (by omega)]; exact hc 7 _ rfl), (by rw [← add_field _ _ 8 (by omega)]; exact hc 8 _ rfl), (by rw [← add_field _ _ 9 (by omega)]; exact hc 9 _ rfl), g0, g1, g2⟩
def W70 (y : S70) : Prop := (y.f0.length ≤ maxLen ∧ ∀ z ∈ y.f0, z.size ≤ maxLen) ∧ True ∧ W61 y.f2 ∧ W61 y.f3 ∧ W61 y.f4 ∧ (y.f5.length ≤ maxLen ∧ ∀ z ∈ y.f5, W61 z) ∧ (y.f6.length ≤ maxLen ∧ ∀ z ∈ y.f6, W98 z)
theorem op70 : OpK Tryd.prog 70 k70 W70 := by
  intro H enc w base spare held fuel cs x h
  obtain ⟨xs, n, rfl, hx, hl, hxs, hf⟩ := DataW.trod_struct Tryd.underlying70 h
  have hl' : cs.length = 10 := hl.trans (by kernel_rfl)
  obtain ⟨y0, J0, X0⟩ := OpK.field hxs hf 0 _ rfl 53 0 1 rfl rfl (by kernel_rfl) (OpK.slice Tryd.underlying53 (by kernel_rfl) (OpK.string Tryd.underlying9))
  obtain ⟨y1, J1, X1⟩ := OpK.field hxs hf 1 _ rfl 4 1 1 rfl rfl (by kernel_rfl) (OpK.bool Tryd.underlying4)
  obtain ⟨y2, J2, X2⟩ := OpK.field hxs hf 2 _ rfl 61 2 2 rfl rfl (by kernel_rfl) op61
  obtain ⟨y3, J3, X3⟩ := OpK.field hxs hf 3 _ rfl 61 4 2 rfl rfl (by kernel_rfl) op61
  obtain ⟨y4, J4, X4⟩ := OpK.field hxs hf 4 _ rfl 61 6 2 rfl rfl (by kernel_rfl) op61
  obtain ⟨y5, J5, X5⟩ := OpK.field hxs hf 5 _ rfl 67 8 1 rfl rfl (by kernel_rfl) (OpK.slice Tryd.underlying67 (by kernel_rfl) op61)
  obtain ⟨y6, J6, X6⟩ := OpK.field hxs hf 6 _ rfl 68 9 1 rfl rfl (by kernel_rfl) (OpK.slice Tryd.underlying68 (by kernel_rfl) op98)
  rw [List.take_of_length_le (by rw [List.length_drop]; omega)] at J6
  exact ⟨⟨y0, y1, y2, y3, y4, y5, y6⟩, ⟨_, _, split_at 0 1 cs, J0, ⟨_, _, split_at 1 1 cs, J1, ⟨_, _, split_at 2 2 cs, J2, ⟨_, _, split_at 4 2 cs, J3, ⟨_, _, split_at 6 2 cs, J4, ⟨_, _, split_at 8 1 cs, J5, J6⟩⟩⟩⟩⟩⟩, ⟨X0, X1, X2, X3, X4, X5, X6⟩⟩
structure S94 where
  f0 : ByteArray
  f1 : ByteArray
  f2 : S61
  f3 : S61
  f4 : S61
def z94 : S94 := ⟨ByteArray.empty, ByteArray.empty, z61, z61, z61⟩
def k94 : Kd S94 := Kd.iso (Kd.pair Kd.string (Kd.pair Kd.string (Kd.pair k61 (Kd.pair k61 (k61))))) (fun x : S94 => (x.f0, (x.f1, (x.f2, (x.f3, x.f4)))))
theorem k94_open {w : World} {x : S94} {cs : List Value} (h : k94.K w x cs) : cs = [.string x.f0, .string x.f1, .int .u64 x.f2.f0, .bool x.f2.f1, .int .u64 x.f3.f0, .bool x.f3.f1, .int .u64 x.f4.f0, .bool x.f4.f1] := by
  obtain ⟨_, _, rfl, h0, ⟨_, _, rfl, h1, ⟨_, _, rfl, h2, ⟨_, _, rfl, h3, h4⟩⟩⟩⟩ := h
  obtain rfl := id h0
  obtain rfl := id h1
  obtain rfl := k61_open h2
  obtain rfl := k61_open h3
  obtain rfl := k61_open h4
  rfl
theorem k94_mk (w : World) (x : S94) : k94.K w x [.string x.f0, .string x.f1, .int .u64 x.f2.f0, .bool x.f2.f1, .int .u64 x.f3.f0, .bool x.f3.f1, .int .u64 x.f4.f0, .bool x.f4.f1] := ⟨[.string x.f0], [.string x.f1, .int .u64 x.f2.f0, .bool x.f2.f1, .int .u64 x.f3.f0, .bool x.f3.f1, .int .u64 x.f4.f0, .bool x.f4.f1], rfl, rfl, ⟨[.string x.f1], [.int .u64 x.f2.f0, .bool x.f2.f1, .int .u64 x.f3.f0, .bool x.f3.f1, .int .u64 x.f4.f0, .bool x.f4.f1], rfl, rfl, ⟨[.int .u64 x.f2.f0, .bool x.f2.f1], [.int .u64 x.f3.f0, .bool x.f3.f1, .int .u64 x.f4.f0, .bool x.f4.f1], rfl, k61_mk w x.f2, ⟨[.int .u64 x.f3.f0, .bool x.f3.f1], [.int .u64 x.f4.f0, .bool x.f4.f1], rfl, k61_mk w x.f3, k61_mk w x.f4⟩⟩⟩⟩
def rd_T94 (xs : List S94) (i : Int) : S94 := xs.getD i.toNat z94
theorem at_T94 {w : World} {A : Option Addr} {n : Nat} {xs : List S94} (h : Kd.C k94 w A n xs) (i : Int) (h0 : 0 ≤ i) (h1 : i < n) : ∃ ad, A = some ad ∧ w.cell? (ad.add (i.toNat * 8)) = some (.string (rd_T94 xs i).f0) ∧ w.cell? ⟨(ad.add (i.toNat * 8)).block, (ad.add (i.toNat * 8)).off + 1, none⟩ = some (.string (rd_T94 xs i).f1) ∧ w.cell? ⟨(ad.add (i.toNat * 8)).block, (ad.add (i.toNat * 8)).off + 2, none⟩ = some (.int .u64 (rd_T94 xs i).f2.f0) ∧ w.cell? ⟨(ad.add (i.toNat * 8)).block, (ad.add (i.toNat * 8)).off + 3, none⟩ = some (.bool (rd_T94 xs i).f2.f1) ∧ w.cell? ⟨(ad.add (i.toNat * 8)).block, (ad.add (i.toNat * 8)).off + 4, none⟩ = some (.int .u64 (rd_T94 xs i).f3.f0) ∧ w.cell? ⟨(ad.add (i.toNat * 8)).block, (ad.add (i.toNat * 8)).off + 5, none⟩ = some (.bool (rd_T94 xs i).f3.f1) ∧ w.cell? ⟨(ad.add (i.toNat * 8)).block, (ad.add (i.toNat * 8)).off + 6, none⟩ = some (.int .u64 (rd_T94 xs i).f4.f0) ∧ w.cell? ⟨(ad.add (i.toNat * 8)).block, (ad.add (i.toNat * 8)).off + 7, none⟩ = some (.bool (rd_T94 xs i).f4.f1) := by
  obtain ⟨ad, c, e, _, hK, hc0⟩ := Kd.C_get h z94 i h0 h1
  have hc : ∀ j u, c[j]? = some u → w.cell? (ad.add (i.toNat * 8 + j)) = some u := hc0
  obtain rfl := k94_open hK
  exact ⟨ad, e, hc 0 _ rfl, (by rw [← add_field _ _ 1 (by omega)]; exact hc 1 _ rfl), (by rw [← add_field _ _ 2 (by omega)]; exact hc 2 _ rfl), (by rw [← add_field _ _ 3 (by omega)]; exact hc 3 _ rfl), (by rw [← add_field _ _ 4 (by omega)]; exact hc 4 _ rfl), (by rw [← add_field _ _ 5 (by omega)]; exact hc 5 _ rfl), (by rw [← add_field _ _ 6 (by omega)]; exact hc 6 _ rfl), (by rw [← add_field _ _ 7 (by omega)]; exact hc 7 _ rfl)⟩
def W94 (y : S94) : Prop := y.f0.size ≤ maxLen ∧ y.f1.size ≤ maxLen ∧ W61 y.f2 ∧ W61 y.f3 ∧ W61 y.f4
theorem op94 : OpK Tryd.prog 94 k94 W94 := by
  intro H enc w base spare held fuel cs x h
  obtain ⟨xs, n, rfl, hx, hl, hxs, hf⟩ := DataW.trod_struct Tryd.underlying94 h
  have hl' : cs.length = 8 := hl.trans (by kernel_rfl)
  obtain ⟨y0, J0, X0⟩ := OpK.field hxs hf 0 _ rfl 9 0 1 rfl rfl (by kernel_rfl) (OpK.string Tryd.underlying9)
  obtain ⟨y1, J1, X1⟩ := OpK.field hxs hf 1 _ rfl 9 1 1 rfl rfl (by kernel_rfl) (OpK.string Tryd.underlying9)
  obtain ⟨y2, J2, X2⟩ := OpK.field hxs hf 2 _ rfl 61 2 2 rfl rfl (by kernel_rfl) op61
  obtain ⟨y3, J3, X3⟩ := OpK.field hxs hf 3 _ rfl 61 4 2 rfl rfl (by kernel_rfl) op61
  obtain ⟨y4, J4, X4⟩ := OpK.field hxs hf 4 _ rfl 61 6 2 rfl rfl (by kernel_rfl) op61
  rw [List.take_of_length_le (by rw [List.length_drop]; omega)] at J4
  exact ⟨⟨y0, y1, y2, y3, y4⟩, ⟨_, _, split_at 0 1 cs, J0, ⟨_, _, split_at 1 1 cs, J1, ⟨_, _, split_at 2 2 cs, J2, ⟨_, _, split_at 4 2 cs, J3, J4⟩⟩⟩⟩, ⟨X0, X1, X2, X3, X4⟩⟩
structure S48 where
  f0 : Int
  f1 : Bool
def z48 : S48 := ⟨(0 : Int), false⟩
def k48 : Kd S48 := Kd.iso (Kd.pair (Kd.int .u64) (Kd.bool)) (fun x : S48 => (x.f0, x.f1))
theorem k48_open {w : World} {x : S48} {cs : List Value} (h : k48.K w x cs) : cs = [.int .u64 x.f0, .bool x.f1] := by
  obtain ⟨_, _, rfl, h0, h1⟩ := h
  obtain rfl := id h0
  obtain rfl := id h1
  rfl
theorem k48_mk (w : World) (x : S48) : k48.K w x [.int .u64 x.f0, .bool x.f1] := ⟨[.int .u64 x.f0], [.bool x.f1], rfl, rfl, rfl⟩
def rd_T48 (xs : List S48) (i : Int) : S48 := xs.getD i.toNat z48
theorem at_T48 {w : World} {A : Option Addr} {n : Nat} {xs : List S48} (h : Kd.C k48 w A n xs) (i : Int) (h0 : 0 ≤ i) (h1 : i < n) : ∃ ad, A = some ad ∧ w.cell? (ad.add (i.toNat * 2)) = some (.int .u64 (rd_T48 xs i).f0) ∧ w.cell? ⟨(ad.add (i.toNat * 2)).block, (ad.add (i.toNat * 2)).off + 1, none⟩ = some (.bool (rd_T48 xs i).f1) := by
  obtain ⟨ad, c, e, _, hK, hc0⟩ := Kd.C_get h z48 i h0 h1
  have hc : ∀ j u, c[j]? = some u → w.cell? (ad.add (i.toNat * 2 + j)) = some u := hc0
  obtain rfl := k48_open hK
  exact ⟨ad, e, hc 0 _ rfl, (by rw [← add_field _ _ 1 (by omega)]; exact hc 1 _ rfl)⟩
def W48 (y : S48) : Prop := (Lit.int .u64 y.f0).wf = true ∧ True
theorem op48 : OpK Tryd.prog 48 k48 W48 := by
  intro H enc w base spare held fuel cs x h
  obtain ⟨xs, n, rfl, hx, hl, hxs, hf⟩ := DataW.trod_struct Tryd.underlying48 h
  have hl' : cs.length = 2 := hl.trans (by kernel_rfl)
  obtain ⟨y0, J0, X0⟩ := OpK.field hxs hf 0 _ rfl 25 0 1 rfl rfl (by kernel_rfl) (OpK.int Tryd.underlying25)
  obtain ⟨y1, J1, X1⟩ := OpK.field hxs hf 1 _ rfl 4 1 1 rfl rfl (by kernel_rfl) (OpK.bool Tryd.underlying4)
  rw [List.take_of_length_le (by rw [List.length_drop]; omega)] at J1
  exact ⟨⟨y0, y1⟩, ⟨_, _, split_at 0 1 cs, J0, J1⟩, ⟨X0, X1⟩⟩
structure S99 where
  f0 : Int
  f1 : Int
  f2 : Int
  f3 : Bool
def z99 : S99 := ⟨(0 : Int), (0 : Int), (0 : Int), false⟩
def k99 : Kd S99 := Kd.iso (Kd.pair (Kd.int .u64) (Kd.pair (Kd.int .u64) (Kd.pair (Kd.int .u64) (Kd.bool)))) (fun x : S99 => (x.f0, (x.f1, (x.f2, x.f3))))
theorem k99_open {w : World} {x : S99} {cs : List Value} (h : k99.K w x cs) : cs = [.int .u64 x.f0, .int .u64 x.f1, .int .u64 x.f2, .bool x.f3] := by
  obtain ⟨_, _, rfl, h0, ⟨_, _, rfl, h1, ⟨_, _, rfl, h2, h3⟩⟩⟩ := h
  obtain rfl := id h0
  obtain rfl := id h1
  obtain rfl := id h2
  obtain rfl := id h3
  rfl
theorem k99_mk (w : World) (x : S99) : k99.K w x [.int .u64 x.f0, .int .u64 x.f1, .int .u64 x.f2, .bool x.f3] := ⟨[.int .u64 x.f0], [.int .u64 x.f1, .int .u64 x.f2, .bool x.f3], rfl, rfl, ⟨[.int .u64 x.f1], [.int .u64 x.f2, .bool x.f3], rfl, rfl, ⟨[.int .u64 x.f2], [.bool x.f3], rfl, rfl, rfl⟩⟩⟩
def rd_T99 (xs : List S99) (i : Int) : S99 := xs.getD i.toNat z99
theorem at_T99 {w : World} {A : Option Addr} {n : Nat} {xs : List S99} (h : Kd.C k99 w A n xs) (i : Int) (h0 : 0 ≤ i) (h1 : i < n) : ∃ ad, A = some ad ∧ w.cell? (ad.add (i.toNat * 4)) = some (.int .u64 (rd_T99 xs i).f0) ∧ w.cell? ⟨(ad.add (i.toNat * 4)).block, (ad.add (i.toNat * 4)).off + 1, none⟩ = some (.int .u64 (rd_T99 xs i).f1) ∧ w.cell? ⟨(ad.add (i.toNat * 4)).block, (ad.add (i.toNat * 4)).off + 2, none⟩ = some (.int .u64 (rd_T99 xs i).f2) ∧ w.cell? ⟨(ad.add (i.toNat * 4)).block, (ad.add (i.toNat * 4)).off + 3, none⟩ = some (.bool (rd_T99 xs i).f3) := by
  obtain ⟨ad, c, e, _, hK, hc0⟩ := Kd.C_get h z99 i h0 h1
  have hc : ∀ j u, c[j]? = some u → w.cell? (ad.add (i.toNat * 4 + j)) = some u := hc0
  obtain rfl := k99_open hK
  exact ⟨ad, e, hc 0 _ rfl, (by rw [← add_field _ _ 1 (by omega)]; exact hc 1 _ rfl), (by rw [← add_field _ _ 2 (by omega)]; exact hc 2 _ rfl), (by rw [← add_field _ _ 3 (by omega)]; exact hc 3 _ rfl)⟩
def W99 (y : S99) : Prop := (Lit.int .u64 y.f0).wf = true ∧ (Lit.int .u64 y.f1).wf = true ∧ (Lit.int .u64 y.f2).wf = true ∧ True
theorem op99 : OpK Tryd.prog 99 k99 W99 := by
  intro H enc w base spare held fuel cs x h
  obtain ⟨xs, n, rfl, hx, hl, hxs, hf⟩ := DataW.trod_struct Tryd.underlying99 h
  have hl' : cs.length = 4 := hl.trans (by kernel_rfl)
  obtain ⟨y0, J0, X0⟩ := OpK.field hxs hf 0 _ rfl 25 0 1 rfl rfl (by kernel_rfl) (OpK.int Tryd.underlying25)
  obtain ⟨y1, J1, X1⟩ := OpK.field hxs hf 1 _ rfl 25 1 1 rfl rfl (by kernel_rfl) (OpK.int Tryd.underlying25)
  obtain ⟨y2, J2, X2⟩ := OpK.field hxs hf 2 _ rfl 25 2 1 rfl rfl (by kernel_rfl) (OpK.int Tryd.underlying25)
  obtain ⟨y3, J3, X3⟩ := OpK.field hxs hf 3 _ rfl 4 3 1 rfl rfl (by kernel_rfl) (OpK.bool Tryd.underlying4)
  rw [List.take_of_length_le (by rw [List.length_drop]; omega)] at J3
  exact ⟨⟨y0, y1, y2, y3⟩, ⟨_, _, split_at 0 1 cs, J0, ⟨_, _, split_at 1 1 cs, J1, ⟨_, _, split_at 2 1 cs, J2, J3⟩⟩⟩, ⟨X0, X1, X2, X3⟩⟩
structure S57 where
  f0 : List ByteArray
  f1 : Bool
  f2 : S48
  f3 : S48
  f4 : S48
  f5 : List S48
  f6 : List S99
def z57 : S57 := ⟨[], false, z48, z48, z48, [], []⟩
def k57 : Kd S57 := Kd.iso (Kd.pair (Kd.slice 9 Kd.string) (Kd.pair Kd.bool (Kd.pair k48 (Kd.pair k48 (Kd.pair k48 (Kd.pair (Kd.slice 48 k48) ((Kd.slice 99 k99)))))))) (fun x : S57 => (x.f0, (x.f1, (x.f2, (x.f3, (x.f4, (x.f5, x.f6)))))))
theorem k57_open {w : World} {x : S57} {cs : List Value} (h : k57.K w x cs) : ∃ A0 c0 A1 c1 A2 c2, cs = [.slice A0 x.f0.length c0, .bool x.f1, .int .u64 x.f2.f0, .bool x.f2.f1, .int .u64 x.f3.f0, .bool x.f3.f1, .int .u64 x.f4.f0, .bool x.f4.f1, .slice A1 x.f5.length c1, .slice A2 x.f6.length c2] ∧ (x.f0.length ≤ c0 ∧ Kd.C Kd.string w A0 x.f0.length x.f0) ∧ (x.f5.length ≤ c1 ∧ Kd.C k48 w A1 x.f5.length x.f5) ∧ (x.f6.length ≤ c2 ∧ Kd.C k99 w A2 x.f6.length x.f6) := by
  obtain ⟨_, _, rfl, h0, ⟨_, _, rfl, h1, ⟨_, _, rfl, h2, ⟨_, _, rfl, h3, ⟨_, _, rfl, h4, ⟨_, _, rfl, h5, h6⟩⟩⟩⟩⟩⟩ := h
  obtain ⟨A0, c0, rfl, g0⟩ := h0
  obtain rfl := id h1
  obtain rfl := k48_open h2
  obtain rfl := k48_open h3
  obtain rfl := k48_open h4
  obtain ⟨A1, c1, rfl, g1⟩ := h5
  obtain ⟨A2, c2, rfl, g2⟩ := h6
  exact ⟨A0, c0, A1, c1, A2, c2, rfl, g0, g1, g2⟩
def rd_T57 (xs : List S57) (i : Int) : S57 := xs.getD i.toNat z57
theorem at_T57 {w : World} {A : Option Addr} {n : Nat} {xs : List S57} (h : Kd.C k57 w A n xs) (i : Int) (h0 : 0 ≤ i) (h1 : i < n) : ∃ ad, A = some ad ∧ ∃ A0 c0 A1 c1 A2 c2, w.cell? (ad.add (i.toNat * 10)) = some (.slice A0 (rd_T57 xs i).f0.length c0) ∧ w.cell? ⟨(ad.add (i.toNat * 10)).block, (ad.add (i.toNat * 10)).off + 1, none⟩ = some (.bool (rd_T57 xs i).f1) ∧ w.cell? ⟨(ad.add (i.toNat * 10)).block, (ad.add (i.toNat * 10)).off + 2, none⟩ = some (.int .u64 (rd_T57 xs i).f2.f0) ∧ w.cell? ⟨(ad.add (i.toNat * 10)).block, (ad.add (i.toNat * 10)).off + 3, none⟩ = some (.bool (rd_T57 xs i).f2.f1) ∧ w.cell? ⟨(ad.add (i.toNat * 10)).block, (ad.add (i.toNat * 10)).off + 4, none⟩ = some (.int .u64 (rd_T57 xs i).f3.f0) ∧ w.cell? ⟨(ad.add (i.toNat * 10)).block, (ad.add (i.toNat * 10)).off + 5, none⟩ = some (.bool (rd_T57 xs i).f3.f1) ∧ w.cell? ⟨(ad.add (i.toNat * 10)).block, (ad.add (i.toNat * 10)).off + 6, none⟩ = some (.int .u64 (rd_T57 xs i).f4.f0) ∧ w.cell? ⟨(ad.add (i.toNat * 10)).block, (ad.add (i.toNat * 10)).off + 7, none⟩ = some (.bool (rd_T57 xs i).f4.f1) ∧ w.cell? ⟨(ad.add (i.toNat * 10)).block, (ad.add (i.toNat * 10)).off + 8, none⟩ = some (.slice A1 (rd_T57 xs i).f5.length c1) ∧ w.cell? ⟨(ad.add (i.toNat * 10)).block, (ad.add (i.toNat * 10)).off + 9, none⟩ = some (.slice A2 (rd_T57 xs i).f6.length c2) ∧ ((rd_T57 xs i).f0.length ≤ c0 ∧ Kd.C Kd.string w A0 (rd_T57 xs i).f0.length (rd_T57 xs i).f0) ∧ ((rd_T57 xs i).f5.length ≤ c1 ∧ Kd.C k48 w A1 (rd_T57 xs i).f5.length (rd_T57 xs i).f5) ∧ ((rd_T57 xs i).f6.length ≤ c2 ∧ Kd.C k99 w A2 (rd_T57 xs i).f6.length (rd_T57 xs i).f6) := by
  obtain ⟨ad, c, e, _, hK, hc0⟩ := Kd.C_get h z57 i h0 h1
  have hc : ∀ j u, c[j]? = some u → w.cell? (ad.add (i.toNat * 10 + j)) = some u := hc0
  obtain ⟨A0, c0, A1, c1, A2, c2, rfl, g0, g1, g2⟩ := k57_open hK
  exact ⟨ad, e, A0, c0, A1, c1, A2, c2, hc 0 _ rfl, (by rw [← add_field _ _ 1 (by omega)]; exact hc 1 _ rfl), (by rw [← add_field _ _ 2 (by omega)]; exact hc 2 _ rfl), (by rw [← add_field _ _ 3 (by omega)]; exact hc 3 _ rfl), (by rw [← add_field _ _ 4 (by omega)]; exact hc 4 _ rfl), (by rw [← add_field _ _ 5 (by omega)]; exact hc 5 _ rfl), (by rw [← add_field _ _ 6 (by omega)]; exact hc 6 _ rfl), (by rw [← add_field _ _ 7 (by omega)]; exact hc 7 _ rfl), (by rw [← add_field _ _ 8 (by omega)]; exact hc 8 _ rfl), (by rw [← add_field _ _ 9 (by omega)]; exact hc 9 _ rfl), g0, g1, g2⟩
def W57 (y : S57) : Prop := (y.f0.length ≤ maxLen ∧ ∀ z ∈ y.f0, z.size ≤ maxLen) ∧ True ∧ W48 y.f2 ∧ W48 y.f3 ∧ W48 y.f4 ∧ (y.f5.length ≤ maxLen ∧ ∀ z ∈ y.f5, W48 z) ∧ (y.f6.length ≤ maxLen ∧ ∀ z ∈ y.f6, W99 z)
theorem op57 : OpK Tryd.prog 57 k57 W57 := by
  intro H enc w base spare held fuel cs x h
  obtain ⟨xs, n, rfl, hx, hl, hxs, hf⟩ := DataW.trod_struct Tryd.underlying57 h
  have hl' : cs.length = 10 := hl.trans (by kernel_rfl)
  obtain ⟨y0, J0, X0⟩ := OpK.field hxs hf 0 _ rfl 53 0 1 rfl rfl (by kernel_rfl) (OpK.slice Tryd.underlying53 (by kernel_rfl) (OpK.string Tryd.underlying9))
  obtain ⟨y1, J1, X1⟩ := OpK.field hxs hf 1 _ rfl 4 1 1 rfl rfl (by kernel_rfl) (OpK.bool Tryd.underlying4)
  obtain ⟨y2, J2, X2⟩ := OpK.field hxs hf 2 _ rfl 48 2 2 rfl rfl (by kernel_rfl) op48
  obtain ⟨y3, J3, X3⟩ := OpK.field hxs hf 3 _ rfl 48 4 2 rfl rfl (by kernel_rfl) op48
  obtain ⟨y4, J4, X4⟩ := OpK.field hxs hf 4 _ rfl 48 6 2 rfl rfl (by kernel_rfl) op48
  obtain ⟨y5, J5, X5⟩ := OpK.field hxs hf 5 _ rfl 54 8 1 rfl rfl (by kernel_rfl) (OpK.slice Tryd.underlying54 (by kernel_rfl) op48)
  obtain ⟨y6, J6, X6⟩ := OpK.field hxs hf 6 _ rfl 55 9 1 rfl rfl (by kernel_rfl) (OpK.slice Tryd.underlying55 (by kernel_rfl) op99)
  rw [List.take_of_length_le (by rw [List.length_drop]; omega)] at J6
  exact ⟨⟨y0, y1, y2, y3, y4, y5, y6⟩, ⟨_, _, split_at 0 1 cs, J0, ⟨_, _, split_at 1 1 cs, J1, ⟨_, _, split_at 2 2 cs, J2, ⟨_, _, split_at 4 2 cs, J3, ⟨_, _, split_at 6 2 cs, J4, ⟨_, _, split_at 8 1 cs, J5, J6⟩⟩⟩⟩⟩⟩, ⟨X0, X1, X2, X3, X4, X5, X6⟩⟩
structure S91 where
  f0 : ByteArray
  f1 : ByteArray
  f2 : S48
  f3 : S48
  f4 : S48
def z91 : S91 := ⟨ByteArray.empty, ByteArray.empty, z48, z48, z48⟩
def k91 : Kd S91 := Kd.iso (Kd.pair Kd.string (Kd.pair Kd.string (Kd.pair k48 (Kd.pair k48 (k48))))) (fun x : S91 => (x.f0, (x.f1, (x.f2, (x.f3, x.f4)))))
theorem k91_open {w : World} {x : S91} {cs : List Value} (h : k91.K w x cs) : cs = [.string x.f0, .string x.f1, .int .u64 x.f2.f0, .bool x.f2.f1, .int .u64 x.f3.f0, .bool x.f3.f1, .int .u64 x.f4.f0, .bool x.f4.f1] := by
  obtain ⟨_, _, rfl, h0, ⟨_, _, rfl, h1, ⟨_, _, rfl, h2, ⟨_, _, rfl, h3, h4⟩⟩⟩⟩ := h
  obtain rfl := id h0
  obtain rfl := id h1
  obtain rfl := k48_open h2
  obtain rfl := k48_open h3
  obtain rfl := k48_open h4
  rfl
theorem k91_mk (w : World) (x : S91) : k91.K w x [.string x.f0, .string x.f1, .int .u64 x.f2.f0, .bool x.f2.f1, .int .u64 x.f3.f0, .bool x.f3.f1, .int .u64 x.f4.f0, .bool x.f4.f1] := ⟨[.string x.f0], [.string x.f1, .int .u64 x.f2.f0, .bool x.f2.f1, .int .u64 x.f3.f0, .bool x.f3.f1, .int .u64 x.f4.f0, .bool x.f4.f1], rfl, rfl, ⟨[.string x.f1], [.int .u64 x.f2.f0, .bool x.f2.f1, .int .u64 x.f3.f0, .bool x.f3.f1, .int .u64 x.f4.f0, .bool x.f4.f1], rfl, rfl, ⟨[.int .u64 x.f2.f0, .bool x.f2.f1], [.int .u64 x.f3.f0, .bool x.f3.f1, .int .u64 x.f4.f0, .bool x.f4.f1], rfl, k48_mk w x.f2, ⟨[.int .u64 x.f3.f0, .bool x.f3.f1], [.int .u64 x.f4.f0, .bool x.f4.f1], rfl, k48_mk w x.f3, k48_mk w x.f4⟩⟩⟩⟩
def rd_T91 (xs : List S91) (i : Int) : S91 := xs.getD i.toNat z91
theorem at_T91 {w : World} {A : Option Addr} {n : Nat} {xs : List S91} (h : Kd.C k91 w A n xs) (i : Int) (h0 : 0 ≤ i) (h1 : i < n) : ∃ ad, A = some ad ∧ w.cell? (ad.add (i.toNat * 8)) = some (.string (rd_T91 xs i).f0) ∧ w.cell? ⟨(ad.add (i.toNat * 8)).block, (ad.add (i.toNat * 8)).off + 1, none⟩ = some (.string (rd_T91 xs i).f1) ∧ w.cell? ⟨(ad.add (i.toNat * 8)).block, (ad.add (i.toNat * 8)).off + 2, none⟩ = some (.int .u64 (rd_T91 xs i).f2.f0) ∧ w.cell? ⟨(ad.add (i.toNat * 8)).block, (ad.add (i.toNat * 8)).off + 3, none⟩ = some (.bool (rd_T91 xs i).f2.f1) ∧ w.cell? ⟨(ad.add (i.toNat * 8)).block, (ad.add (i.toNat * 8)).off + 4, none⟩ = some (.int .u64 (rd_T91 xs i).f3.f0) ∧ w.cell? ⟨(ad.add (i.toNat * 8)).block, (ad.add (i.toNat * 8)).off + 5, none⟩ = some (.bool (rd_T91 xs i).f3.f1) ∧ w.cell? ⟨(ad.add (i.toNat * 8)).block, (ad.add (i.toNat * 8)).off + 6, none⟩ = some (.int .u64 (rd_T91 xs i).f4.f0) ∧ w.cell? ⟨(ad.add (i.toNat * 8)).block, (ad.add (i.toNat * 8)).off + 7, none⟩ = some (.bool (rd_T91 xs i).f4.f1) := by
  obtain ⟨ad, c, e, _, hK, hc0⟩ := Kd.C_get h z91 i h0 h1
  have hc : ∀ j u, c[j]? = some u → w.cell? (ad.add (i.toNat * 8 + j)) = some u := hc0
  obtain rfl := k91_open hK
  exact ⟨ad, e, hc 0 _ rfl, (by rw [← add_field _ _ 1 (by omega)]; exact hc 1 _ rfl), (by rw [← add_field _ _ 2 (by omega)]; exact hc 2 _ rfl), (by rw [← add_field _ _ 3 (by omega)]; exact hc 3 _ rfl), (by rw [← add_field _ _ 4 (by omega)]; exact hc 4 _ rfl), (by rw [← add_field _ _ 5 (by omega)]; exact hc 5 _ rfl), (by rw [← add_field _ _ 6 (by omega)]; exact hc 6 _ rfl), (by rw [← add_field _ _ 7 (by omega)]; exact hc 7 _ rfl)⟩
def W91 (y : S91) : Prop := y.f0.size ≤ maxLen ∧ y.f1.size ≤ maxLen ∧ W48 y.f2 ∧ W48 y.f3 ∧ W48 y.f4
theorem op91 : OpK Tryd.prog 91 k91 W91 := by
  intro H enc w base spare held fuel cs x h
  obtain ⟨xs, n, rfl, hx, hl, hxs, hf⟩ := DataW.trod_struct Tryd.underlying91 h
  have hl' : cs.length = 8 := hl.trans (by kernel_rfl)
  obtain ⟨y0, J0, X0⟩ := OpK.field hxs hf 0 _ rfl 9 0 1 rfl rfl (by kernel_rfl) (OpK.string Tryd.underlying9)
  obtain ⟨y1, J1, X1⟩ := OpK.field hxs hf 1 _ rfl 9 1 1 rfl rfl (by kernel_rfl) (OpK.string Tryd.underlying9)
  obtain ⟨y2, J2, X2⟩ := OpK.field hxs hf 2 _ rfl 48 2 2 rfl rfl (by kernel_rfl) op48
  obtain ⟨y3, J3, X3⟩ := OpK.field hxs hf 3 _ rfl 48 4 2 rfl rfl (by kernel_rfl) op48
  obtain ⟨y4, J4, X4⟩ := OpK.field hxs hf 4 _ rfl 48 6 2 rfl rfl (by kernel_rfl) op48
  rw [List.take_of_length_le (by rw [List.length_drop]; omega)] at J4
  exact ⟨⟨y0, y1, y2, y3, y4⟩, ⟨_, _, split_at 0 1 cs, J0, ⟨_, _, split_at 1 1 cs, J1, ⟨_, _, split_at 2 2 cs, J2, ⟨_, _, split_at 4 2 cs, J3, J4⟩⟩⟩⟩, ⟨X0, X1, X2, X3, X4⟩⟩
end Go.Proofs.YtdbmcikoiilanaaDoor.Kn
set_option linter.unusedVariables false
set_option linter.unusedSimpArgs false
namespace Go.Proofs.YtdbmcikoiilanaaDoor.Xp
open Go.RowKit Go.Proofs.YtdbmcikoiilanaaDoor.B0 Go.Proofs.YtdbmcikoiilanaaDoorW.PrintWords Go.Proofs.YtdbmcikoiilanaaDoor.Bld Go.Proofs.YtdbmcikoiilanaaDoor.Pp Go.Proofs.YtdbmcikoiilanaaDoor.Kn

def itoaB (i : Nat) : ByteArray := ⟨(Lib.itoa (i : Int)).toArray⟩
theorem itoaB_size (i : Nat) (h : i ≤ 100000) : (itoaB i).size ≤ 20 := by
  have e : Lib.itoa (i : Int) = Lib.decDigits i := by simp [Lib.itoa]
  have h1 : (itoaB i).size = (Lib.decDigits i).length := by unfold itoaB; rw [e]; rfl
  rw [h1]; exact dec_len20 i (by omega)
def labsR (ls : List ByteArray) (k : Nat) : List SLab := (List.range k).map fun i : Nat => (⟨⟨#[108]⟩ ++ itoaB i, rdOf ByteArray.empty ls (i : Int)⟩ : SLab)
theorem labsR_succ (ls : List ByteArray) (k : Nat) : labsR ls (k + 1) = labsR ls k ++ [⟨⟨#[108]⟩ ++ itoaB k, rdOf ByteArray.empty ls (k : Int)⟩] := by unfold labsR; rw [List.range_succ, List.map_append]; rfl
theorem labsR_len (ls : List ByteArray) (k : Nat) : (labsR ls k).length = k := by simp [labsR]
def labsOf (ls : List ByteArray) (rs : Bool) : List SLab := labsR ls ls.length ++ (if rs then [⟨⟨#[114, 101, 115, 116]⟩, ⟨#[49]⟩⟩] else [])
theorem labsOf_len (ls : List ByteArray) (rs : Bool) : (labsOf ls rs).length ≤ ls.length + 1 := by cases rs <;> simp [labsOf, labsR_len]
def rowL (L : List SLab) (n1 n2 n3 : Int) (bs : List S61) (k : Nat) : List SLin :=
  [⟨⟨#[115, 112, 97, 110, 115]⟩, L, n1⟩, ⟨⟨#[102, 97, 105, 108, 101, 100]⟩, L, n2⟩, ⟨⟨#[115, 117, 109]⟩, L, n3⟩] ++ (List.range k).map fun i : Nat => (⟨⟨#[98, 117, 99, 107, 101, 116]⟩, L ++ [⟨⟨#[108, 101]⟩, itoaB i⟩], (rd_T61 bs i).f0⟩ : SLin)
theorem rowL_succ (L : List SLab) (n1 n2 n3 : Int) (bs : List S61) (k : Nat) : rowL L n1 n2 n3 bs (k + 1) = rowL L n1 n2 n3 bs k ++ [⟨⟨#[98, 117, 99, 107, 101, 116]⟩, L ++ [⟨⟨#[108, 101]⟩, itoaB k⟩], (rd_T61 bs k).f0⟩] := by unfold rowL; rw [List.range_succ, List.map_append, ← List.append_assoc]; rfl
theorem rowL_len (L : List SLab) (n1 n2 n3 : Int) (bs : List S61) (k : Nat) : (rowL L n1 n2 n3 bs k).length = k + 3 := by simp [rowL]
theorem raw3M (w : World) (base : Nat) (ok : Nat → Prop) (s : ByteArray) (A : Option Addr) (n c : Nat) (x : Int) : (Kd.raw 3).M w base ok [.string s, .slice A n c, .int .u64 x] [.string s, .slice A n c, .int .u64 x] :=
  ⟨rfl, rfl, fun u hu => by simp only [List.mem_cons, List.not_mem_nil, or_false] at hu; rcases hu with rfl | rfl | rfl <;> rfl⟩
theorem R_alloc3 {W : World} {base e : Nat} {xs : List (List Value)} {inner : List Value} (hrep : Reps ((Kd.raw 3).M W base (fun _ => True)) 3 xs inner) (hbase : base ≤ W.heap.size) (hm : xs.length ≤ 1000000) :
    (Kd.raw 3).R e (W.alloc (.cells inner.toArray e)) base (fun _ => True) (.slice (some ⟨W.heap.size, 0, none⟩) xs.length xs.length) xs := by
  refine ⟨fun _ _ => trivial, inner, ?_, hrep.imp_ (fun p c hp => hp)⟩
  have h2 := World.ownsRow_lit (base := base) (e := e) (size := 3) W inner.toArray xs.length hbase (by simp [maxLen]; omega) (by simpa using hrep.1)
  simp only [List.size_toArray] at h2
  exact h2
theorem KL.grown0 {w w' : World} (hg : w.grownBy w' none) : KL w w' := fun k cs hk => (hg.block k (lt_of_get hk) (by simp)).trans hk
theorem LRows.one {w : World} {x : SLin} {r : List Value} (h : LRow w x r) : LRows w [x] [r] := ⟨rfl, fun i y hy => by
  match i, hy with
  | 0, hy => simp only [List.getElem?_cons_zero, Option.some.injEq] at hy; subst hy; exact ⟨r, rfl, h⟩
  | i + 1, hy => simp at hy⟩
theorem LRows.cons {w : World} {x : SLin} {xs : List SLin} {r : List Value} {rs : List (List Value)} (h : LRow w x r) (h' : LRows w xs rs) : LRows w (x :: xs) (r :: rs) := LRows.append (LRows.one h) h'

set_option maxHeartbeats 4000000 in
set_option maxRecDepth 100000 in
theorem row_c (w : World) (hP : LP w) (A : Option Addr) (cA : Nat) (ls : List ByteArray) (rs : Bool) (n1 n2 n3 : Int) (b1 b2 b3 : Bool) (B : Option Addr) (cB : Nat) (bs : List S61) (D : Value)
    (hA : Kd.C Kd.string w A ls.length ls) (hB : Kd.C k61 w B bs.length bs) (hl : ls.length ≤ 1000) (hb : bs.length ≤ 1000) :
    Calls Tryd.prog 28 #[.agg #[.slice A ls.length cA, .bool rs, .int .u64 n1, .bool b1, .int .u64 n2, .bool b2, .int .u64 n3, .bool b3, .slice B bs.length cB, D]] w fun e w' =>
      ∃ v, e = .returned v ∧ LW w' w.heap.size v (rowL (labsOf ls rs) n1 n2 n3 bs bs.length) ∧ Below w.heap.size w w' := by
  have HP := Lib.hid hP; clear hP
  obtain ⟨n, hn⟩ : ∃ n, Hid (ls.length = n) := ⟨_, Lib.hid rfl⟩
  obtain ⟨m, hm⟩ : ∃ m, Hid (bs.length = m) := ⟨_, Lib.hid rfl⟩
  rw [hn.out] at hA hl ⊢
  rw [hm.out] at hB hb ⊢
  have HA := Lib.hid hA; have HB := Lib.hid hB; clear hA hB
  obtain ⟨L, hL⟩ : ∃ L, Hid (labsOf ls rs = L ∧ L.length ≤ 1001) := ⟨_, rfl, by have h := labsOf_len ls rs; rw [hn.out] at h; omega⟩
  rw [hL.out.1] 
  obtain ⟨nL, hnL⟩ : ∃ nL, Hid (L.length = nL) := ⟨_, Lib.hid rfl⟩
  obtain ⟨R, hR⟩ : ∃ R, Hid (w.heap.size = R) := ⟨_, Lib.hid rfl⟩
  obtain ⟨w1, hw1⟩ : ∃ w1, Hid (w.alloc (.cells #[.slice A n cA, .bool rs, .int .u64 n1, .bool b1, .int .u64 n2, .bool b2, .int .u64 n3, .bool b3, .slice B m cB, D] 70) = w1) := ⟨_, Lib.hid rfl⟩
  have H1 : Hid (w1.heap[R]? = some (.cells #[.slice A n cA, .bool rs, .int .u64 n1, .bool b1, .int .u64 n2, .bool b2, .int .u64 n3, .bool b3, .slice B m cB, D] 70 (0, 0)) ∧ Below w.heap.size w w1) := ⟨by rw [← hw1.out, ← hR.out]; exact allocN _ _, by rw [← hw1.out]; exact (Below.refl _ _).alloc (Nat.le_refl _) _⟩
  have EC : Hid (∀ w', Below w1.heap.size w1 w' → w'.cell? ⟨R, 0, none⟩ = some (.slice A n cA) ∧ w'.cell? ⟨R, 1, none⟩ = some (.bool rs) ∧ w'.cell? ⟨R, 2, none⟩ = some (.int .u64 n1) ∧ w'.cell? ⟨R, 4, none⟩ = some (.int .u64 n2) ∧ w'.cell? ⟨R, 6, none⟩ = some (.int .u64 n3) ∧ w'.cell? ⟨R, 8, none⟩ = some (.slice B m cB)) := fun w' hb => by
    have h := (hb.block R (lt_of_get H1.out.1)).trans H1.out.1
    exact ⟨by rw [cellB h]; rfl, by rw [cellB h]; rfl, by rw [cellB h]; rfl, by rw [cellB h]; rfl, by rw [cellB h]; rfl, by rw [cellB h]; rfl⟩
  go_enter Tryd.func28, Tryd.ntmps28
  go_upto_region 2 with fail
  rw [hw1.out, hR.out]
  have c0 := (EC.out w1 (Below.refl _ _)).1
  go_wp2_with fail
  clear c0
  go_loopw [13, 3] (fun iv lv wr => ∃ (k : Nat) (av : Value), iv = .int .i64 k ∧ lv = av ∧ k ≤ n ∧ Hid (Kd.R k71 71 wr w1.heap.size (fun _ => True) av (labsR ls k) ∧ Below w1.heap.size w1 wr)) (fun iv _ _ => n - (intOf iv).toNat)
  case atStart => exact ⟨0, _, rfl, rfl, Nat.zero_le _, Kd.R_nil _ _ _ _ _, Below.refl _ _⟩
  case round =>
    obtain ⟨k, av, rfl, rfl, hk, HW⟩ := hrel
    by_cases hlt : k < n
    · have hki : (k : Int) < (n : Int) := by omega
      obtain ⟨ad, rfl, d0⟩ := Kd.at_string HA.out k (by omega) (by omega)
      obtain ⟨s, hs⟩ : ∃ s, Hid (rdOf ByteArray.empty ls (k : Int) = s) := ⟨_, Lib.hid rfl⟩
      rw [show ((k : Int)).toNat = k from by omega, hs.out] at d0
      have hbw : Hid (Below w.heap.size w wr) := H1.out.2.trans (HW.out.2.mono H1.out.2.size)
      have d0' := pw_cell_below hbw.out d0
      clear d0
      have HIT := Lib.hid (Itoa_i (k : Int) (by omega) (by omega) wr (HP.out.below hbw.out).1)
      obtain ⟨sn, hsn⟩ : ∃ sn, Hid (itoaB k = sn ∧ sn.size ≤ 20) := ⟨_, rfl, itoaB_size k (by omega)⟩
      rw [show (⟨(Lib.itoa (k : Int)).toArray⟩ : ByteArray) = itoaB k from rfl, hsn.out.1] at HIT
      obtain ⟨sl, hsl⟩ : ∃ sl, Hid ((⟨#[108]⟩ ++ sn : ByteArray) = sl) := ⟨_, Lib.hid rfl⟩
      have hs1 : ¬ (9223372036854775807 < 1 + sn.size) := by have := hsn.out.2; omega
      go_wp2_with fail
      refine HIT.out.mono ?_
      rintro e w2 ⟨rfl, hb2⟩
      have H2 : Hid (Kd.R k71 71 w2 w1.heap.size (fun _ => True) u3 (labsR ls k) ∧ Below w1.heap.size w1 w2) := ⟨Kd.R_below HW.out.1 hb2, HW.out.2.trans (hb2.mono HW.out.2.size)⟩
      clear hb2 HIT
      have hlen := labsR_len ls k
      have hq1 := hsl.out
      go_wp2_with (at_builtin; go_loud (refine Kd.R_append k71 (w0 := w1) w1.heap.size rfl _ _ 41 71 (.agg #[(.string ⟨#[]⟩), (.string ⟨#[]⟩)]) 32 rfl Tryd.underlying41 info71 rfl (by decide) (by decide) u3 (labsR ls k) (⟨sl, s⟩ : SLab) [.string sl, .string s] (fun _ => True) (fun _ => False) rfl rfl (k71_mkM _ _ _ (⟨sl, s⟩ : SLab)) (fun _ h => h.elim) (fun _ _ => trivial) H2.out.1 H2.out.2 H2.out.2.size (by rw [hlen]; omega) ?_))
      intro v3 w3 hr3 hb3 hg3 hat3
      have H3 : Hid (Kd.R k71 71 w3 w1.heap.size (fun _ => True) v3 (labsR ls (k + 1)) ∧ Below w1.heap.size w1 w3) := ⟨by rw [labsR_succ, hsn.out.1, hsl.out, hs.out]; exact hr3, hb3⟩
      clear hr3 hb3 hg3 hat3 hq1
      go_wp2_with fail
      go_roundw
      case rel => exact ⟨k + 1, v3, by go_num, rfl, by omega, H3⟩
      case measure => simp [intOf]; omega
    · obtain rfl : k = n := by omega
      have c1 := (EC.out wr HW.out.2).2.1
      have hlen := labsR_len ls k
      go_upto_if 28 with fail
      go_cut [3] (fun lv wx => ∃ av : Value, lv = av ∧ Hid (Kd.R k71 71 wx w1.heap.size (fun _ => True) av (labsOf ls rs) ∧ Below w1.heap.size w1 wx))
      case first =>
        cases rs
        · go_wp2_with fail
          go_meet
          case rel => exact ⟨_, rfl, by unfold labsOf; rw [hn.out]; simpa using HW.out.1, HW.out.2⟩
        · go_wp2_with (at_builtin; go_loud (refine Kd.R_append k71 (w0 := w1) w1.heap.size rfl _ _ 41 71 (.agg #[(.string ⟨#[]⟩), (.string ⟨#[]⟩)]) 32 rfl Tryd.underlying41 info71 rfl (by decide) (by decide) u3 (labsR ls k) (⟨⟨#[114, 101, 115, 116]⟩, ⟨#[49]⟩⟩ : SLab) [.string ⟨#[114, 101, 115, 116]⟩, .string ⟨#[49]⟩] (fun _ => True) (fun _ => False) rfl rfl (k71_mkM _ _ _ (⟨⟨#[114, 101, 115, 116]⟩, ⟨#[49]⟩⟩ : SLab)) (fun _ h => h.elim) (fun _ _ => trivial) HW.out.1 HW.out.2 HW.out.2.size (by rw [hlen]; omega) ?_))
          intro v3 w3 hr3 hb3 hg3 hat3
          have H3 : Hid (Kd.R k71 71 w3 w1.heap.size (fun _ => True) v3 (labsOf ls true) ∧ Below w1.heap.size w1 w3) := ⟨by unfold labsOf; rw [hn.out]; exact hr3, hb3⟩
          clear hr3 hb3 hg3 hat3
          go_wp2_with fail
          go_meet
          case rel => exact ⟨v3, rfl, H3.out⟩
      case rest =>
        obtain ⟨av, rfl, HC⟩ := hcut
        clear c1 hlen HW
        rw [hL.out.1] at HC
        obtain ⟨A1, c1, e1, hc1, hA1, hLA⟩ := LabAt.of_R HC.out.1
        rw [hnL.out] at hc1 e1
        subst e1
        have HLA : Hid (L.length ≤ c1 ∧ (A1 = none → c1 = 0) ∧ LabAt wc A1 L) := ⟨by rw [hnL.out]; exact hc1, hA1, hLA⟩
        clear hc1 hA1 hLA
        obtain ⟨_, _, v2, v4, v6, v8⟩ := EC.out wc HC.out.2
        obtain ⟨w9, hw9⟩ : ∃ w9, Hid (wc.alloc (.cells #[.string ⟨#[115, 112, 97, 110, 115]⟩, .slice A1 nL c1, .int .u64 n1, .string ⟨#[102, 97, 105, 108, 101, 100]⟩, .slice A1 nL c1, .int .u64 n2, .string ⟨#[115, 117, 109]⟩, .slice A1 nL c1, .int .u64 n3] 43) = w9) := ⟨_, Lib.hid rfl⟩
        obtain ⟨b9, hb9⟩ : ∃ b9, Hid (wc.heap.size = b9) := ⟨_, Lib.hid rfl⟩
        have H9 : Hid (LW w9 w1.heap.size (.slice (some ⟨b9, 0, none⟩) 3 3) (rowL L n1 n2 n3 bs 0) ∧ Below w1.heap.size w1 w9 ∧ LabAt w9 A1 L) := by
          have hb : Below wc.heap.size wc w9 := by rw [← hw9.out]; exact (Below.refl _ _).alloc (Nat.le_refl _) _
          have hl9 := HLA.out.2.2.keep (KL.below hb)
          have one : ∀ (s : ByteArray) (x : Int), LRow w9 (⟨s, L, x⟩ : SLin) [.string s, .slice A1 nL c1, .int .u64 x] := fun s x => ⟨A1, c1, by rw [← hnL.out], HLA.out.1, HLA.out.2.1, hl9⟩
          refine ⟨⟨[[.string ⟨#[115, 112, 97, 110, 115]⟩, .slice A1 nL c1, .int .u64 n1], [.string ⟨#[102, 97, 105, 108, 101, 100]⟩, .slice A1 nL c1, .int .u64 n2], [.string ⟨#[115, 117, 109]⟩, .slice A1 nL c1, .int .u64 n3]], ?_, LRows.cons (one _ _) (LRows.cons (one _ _) (LRows.one (one _ _)))⟩, HC.out.2.trans (hb.mono HC.out.2.size), hl9⟩
          rw [← hw9.out, ← hb9.out]
          exact R_alloc3 (Reps.c3 (raw3M _ _ _ _ _ _ _ _) (Reps.c3 (raw3M _ _ _ _ _ _ _ _) (Reps.c3 (raw3M _ _ _ _ _ _ _ _) (Reps.none _ _)))) HC.out.2.size (by simp)
        go_upto_region 10 with fail
        rw [hw9.out, hb9.out]
        clear v2 v4 v6 v8
        have v8 := (EC.out w9 H9.out.2.1).2.2.2.2.2
        go_wp2_with fail
        clear v8
        go_loopw [52, 6] (fun iv lv wr => ∃ (k : Nat) (av : Value), iv = .int .i64 k ∧ lv = av ∧ k ≤ m ∧ Hid (LW wr w1.heap.size av (rowL L n1 n2 n3 bs k) ∧ Below w1.heap.size w1 wr ∧ LabAt wr A1 L)) (fun iv _ _ => m - (intOf iv).toNat)
        case atStart => exact ⟨0, _, rfl, rfl, Nat.zero_le _, H9.out⟩
        case round =>
          obtain ⟨i, av, rfl, rfl, hi, HW⟩ := hrel
          by_cases hlt2 : i < m
          · have hii : (i : Int) < (m : Int) := by omega
            obtain ⟨ad, rfl, d0, d1⟩ := at_T61 HB.out i (by omega) (by omega)
            obtain ⟨y, hy⟩ : ∃ y, Hid (rd_T61 bs i = y) := ⟨_, Lib.hid rfl⟩
            rw [show ((i : Int)).toNat = i from by omega, hy.out] at d0 d1
            have hbw : Hid (Below w.heap.size w wr) := H1.out.2.trans (HW.out.2.1.mono H1.out.2.size)
            have d0' := pw_cell_below hbw.out d0
            have d1' := pw_cell_below hbw.out d1
            clear d0 d1
            obtain ⟨wm, hwm⟩ : ∃ wm, Hid (wr.alloc (.cells #[.int .u64 y.f0, .bool y.f1] 61) = wm) := ⟨_, Lib.hid rfl⟩
            obtain ⟨bx, hbx⟩ : ∃ bx, Hid (wr.heap.size = bx) := ⟨_, Lib.hid rfl⟩
            have HM : Hid (wm.heap[bx]? = some (.cells #[.int .u64 y.f0, .bool y.f1] 61 (0, 0)) ∧ Below wr.heap.size wr wm) := ⟨by rw [← hwm.out, ← hbx.out]; exact allocN _ _, by rw [← hwm.out]; exact (Below.refl _ _).alloc (Nat.le_refl _) _⟩
            have HLm := Lib.hid (HW.out.2.2.keep (KL.below HM.out.2))
            have HCL := Lib.hid (Clone_c wm A1 c1 L HLm.out.1 (by have := hL.out.2; omega) HLA.out.2.1)
            rw [hnL.out] at HCL
            obtain ⟨sn, hsn⟩ : ∃ sn, Hid (itoaB i = sn) := ⟨_, Lib.hid rfl⟩
            go_upto_region 13 with fail
            rw [hwm.out, hbx.out]
            go_wp2_with fail
            refine HCL.out.mono ?_
            rintro e w3 ⟨v3, rfl, hr3, hb3⟩
            have H3 : Hid (Kd.R k71 71 w3 wm.heap.size (fun _ => True) v3 L ∧ Below wm.heap.size wm w3) := ⟨hr3, hb3⟩
            clear hr3 hb3 HCL
            have hbw3 : Hid (Below w.heap.size w w3) := hbw.out.trans ((HM.out.2.trans (H3.out.2.mono HM.out.2.size)).mono hbw.out.size)
            have HIT := Lib.hid (Itoa_i (i : Int) (by omega) (by omega) w3 (HP.out.below hbw3.out).1)
            rw [show (⟨(Lib.itoa (i : Int)).toArray⟩ : ByteArray) = itoaB i from rfl, hsn.out] at HIT
            go_wp2_with fail
            refine HIT.out.mono ?_
            rintro e w4 ⟨rfl, hb4⟩
            have H4 : Hid (Kd.R k71 71 w4 wm.heap.size (fun _ => True) v3 L ∧ Below wm.heap.size wm w4) := ⟨Kd.R_below H3.out.1 hb4, H3.out.2.trans (hb4.mono H3.out.2.size)⟩
            clear hb4 HIT
            go_wp2_with (at_builtin; go_loud (refine Kd.R_append k71 (w0 := wm) wm.heap.size rfl _ _ 41 71 (.agg #[(.string ⟨#[]⟩), (.string ⟨#[]⟩)]) 32 rfl Tryd.underlying41 info71 rfl (by decide) (by decide) v3 L (⟨⟨#[108, 101]⟩, sn⟩ : SLab) [.string ⟨#[108, 101]⟩, .string sn] (fun _ => True) (fun _ => False) rfl rfl (k71_mkM _ _ _ (⟨⟨#[108, 101]⟩, sn⟩ : SLab)) (fun _ h => h.elim) (fun _ _ => trivial) H4.out.1 H4.out.2 H4.out.2.size (by have := hL.out.2; omega) ?_))
            intro v5 w5 hr5 hb5 hg5 hat5
            obtain ⟨L5, hL5⟩ : ∃ L5, Hid (L ++ [(⟨⟨#[108, 101]⟩, sn⟩ : SLab)] = L5) := ⟨_, Lib.hid rfl⟩
            obtain ⟨n5, hn5⟩ : ∃ n5, Hid (L5.length = n5) := ⟨_, Lib.hid rfl⟩
            rw [hL5.out] at hr5
            obtain ⟨A5, c5, e5, hc5, hA5, hl5⟩ := LabAt.of_R hr5
            rw [hn5.out] at e5
            subst e5
            have hb5' : Below wr.heap.size wr w5 := HM.out.2.trans (hb5.mono HM.out.2.size)
            obtain ⟨rows, hrw, hlw⟩ := HW.out.1.below hb5'
            have hrl : rows.length = i + 3 := by rw [hlw.1, rowL_len]
            have H5 : Hid ((Kd.raw 3).R 43 w5 w1.heap.size (fun _ => True) u6 rows ∧ LRows w5 (rowL L n1 n2 n3 bs i) rows ∧ Below w1.heap.size w1 w5 ∧ LabAt w5 A1 L ∧ LRow w5 (⟨⟨#[98, 117, 99, 107, 101, 116]⟩, L5, y.f0⟩ : SLin) [.string ⟨#[98, 117, 99, 107, 101, 116]⟩, .slice A5 n5 c5, .int .u64 y.f0]) := ⟨hrw, hlw, HW.out.2.1.trans (hb5'.mono HW.out.2.1.size), HW.out.2.2.keep (KL.below hb5'), A5, c5, by rw [← hn5.out], hc5, hA5, hl5⟩
            have e0 : w5.cell? ⟨bx, 0, none⟩ = some (.int .u64 y.f0) := by rw [cellB ((hb5.block _ (lt_of_get HM.out.1)).trans HM.out.1)]; rfl
            clear hr5 hb5 hg5 hat5 hc5 hA5 hl5 hb5' hrw hlw
            go_wp2_with (at_builtin; go_loud (refine Kd.R_append (Kd.raw 3) (w0 := w1) w1.heap.size rfl _ _ 32 43 (.agg #[(.string ⟨#[]⟩), (.slice none 0 0), (.int .u64 0)]) 48 rfl Tryd.underlying32 info43 rfl (Nat.zero_lt_succ 2) (by decide) u6 rows ([.string ⟨#[98, 117, 99, 107, 101, 116]⟩, .slice A5 n5 c5, .int .u64 y.f0] : List Value) [.string ⟨#[98, 117, 99, 107, 101, 116]⟩, .slice A5 n5 c5, .int .u64 y.f0] (fun _ => True) (fun _ => False) rfl rfl (raw3M _ _ _ _ _ _ _ _) (fun _ h => h.elim) (fun _ _ => trivial) H5.out.1 H5.out.2.2.1 H5.out.2.2.1.size (by rw [hrl]; omega) ?_))
            intro v6 w6 hr6 hb6 hg6 hat6
            have H6 : Hid (LW w6 w1.heap.size v6 (rowL L n1 n2 n3 bs (i + 1)) ∧ Below w1.heap.size w1 w6 ∧ LabAt w6 A1 L) := by
              have hk := KL.grown H5.out.1 (by decide) hg6
              refine ⟨⟨_, hr6, ?_⟩, hb6, H5.out.2.2.2.1.keep hk⟩
              rw [rowL_succ, hsn.out, hL5.out, hy.out]
              exact (H5.out.2.1.keep hk).append (LRows.one (H5.out.2.2.2.2.keep hk))
            clear hr6 hb6 hg6 hat6 e0 hrl
            go_wp2_with fail
            go_roundw
            case rel => exact ⟨i + 1, v6, by go_num, rfl, by omega, H6⟩
            case measure => simp [intOf]; omega
          · obtain rfl : i = m := by omega
            go_wp2_with fail
            go_ret
            exact ⟨_, rfl, HW.out.1.lower H1.out.2.size, H1.out.2.trans (HW.out.2.1.mono H1.out.2.size)⟩
end Go.Proofs.YtdbmcikoiilanaaDoor.Xp
set_option linter.unusedVariables false
set_option linter.unusedSimpArgs false
namespace Go.Proofs.YtdbmcikoiilanaaDoor.Xp
open Go.RowKit Go.Proofs.YtdbmcikoiilanaaDoor.B0 Go.Proofs.YtdbmcikoiilanaaDoorW.PrintWords Go.Proofs.YtdbmcikoiilanaaDoor.Bld Go.Proofs.YtdbmcikoiilanaaDoor.Pp Go.Proofs.YtdbmcikoiilanaaDoor.Kn
open Go.Proofs.YtdbmcikoiilanaaDoorW.PrintLast

abbrev SRow := S70
abbrev SEdg := S94
def winL (win : Int) : SLin := ⟨⟨#[119, 105, 110, 100, 111, 119]⟩, [], win⟩
def rowS (r : SRow) : List SLin := rowL (labsOf r.f0 r.f1) r.f2.f0 r.f3.f0 r.f4.f0 r.f5 r.f5.length
def ftL (e : SEdg) : List SLab := [⟨⟨#[102, 114, 111, 109]⟩, e.f0⟩, ⟨⟨#[116, 111]⟩, e.f1⟩]
def edgeL (e : SEdg) : List SLin := [⟨⟨#[99, 97, 108, 108, 115]⟩, ftL e, e.f2.f0⟩, ⟨⟨#[99, 97, 108, 108, 115, 102, 97, 105, 108, 101, 100]⟩, ftL e, e.f3.f0⟩, ⟨⟨#[116, 111, 111, 107]⟩, ftL e, e.f4.f0⟩]
def fateL (i : Nat) (n : Int) : SLin := ⟨⟨#[102, 97, 116, 101]⟩, [⟨⟨#[107, 105, 110, 100]⟩, itoaB i⟩], n⟩
def rowsL (rows : List SRow) (k : Nat) : List SLin := (List.range k).flatMap fun i : Nat => rowS (rd_T70 rows (i : Int))
def edgesL (es : List SEdg) (k : Nat) : List SLin := (List.range k).flatMap fun i : Nat => edgeL (rd_T94 es (i : Int))
def fatesL (fs : List Int) (k : Nat) : List SLin := (List.range k).map fun i : Nat => fateL i (fs.getD i 0)
theorem rowsL_succ (rows : List SRow) (k : Nat) : rowsL rows (k + 1) = rowsL rows k ++ rowS (rd_T70 rows (k : Int)) := by unfold rowsL; rw [List.range_succ, List.flatMap_append]; simp
theorem edgesL_succ (es : List SEdg) (k : Nat) : edgesL es (k + 1) = edgesL es k ++ edgeL (rd_T94 es (k : Int)) := by unfold edgesL; rw [List.range_succ, List.flatMap_append]; simp
theorem fatesL_succ (fs : List Int) (k : Nat) : fatesL fs (k + 1) = fatesL fs k ++ [fateL k (fs.getD k 0)] := by unfold fatesL; rw [List.range_succ, List.map_append]; rfl
theorem edgesL_len (es : List SEdg) : ∀ k, (edgesL es k).length = 3 * k
  | 0 => rfl
  | k + 1 => by rw [edgesL_succ, List.length_append, edgesL_len es k]; show 3 * k + 3 = _; omega
theorem fatesL_len (fs : List Int) (k : Nat) : (fatesL fs k).length = k := by simp [fatesL]
def smallR (r : SRow) : Prop := r.f0.length ≤ 1000 ∧ r.f5.length ≤ 1000
theorem rowS_len (r : SRow) (h : smallR r) : (rowS r).length ≤ 1003 := by unfold rowS; rw [rowL_len]; have := h.2; omega
def linesL (win : Int) (rows : List SRow) (es : List SEdg) (fs : List Int) : List SLin := winL win :: (rowsL rows rows.length ++ edgesL es es.length ++ fatesL fs 3)
theorem R_allocG {α : Type} (d : Kd α) {W : World} {base e : Nat} {xs : List α} {inner : List Value} (hrep : ∀ (W' : World) (ok : Nat → Prop), Reps (d.M W' base ok) d.sz xs inner) (hbase : base ≤ W.heap.size) (hm : xs.length ≤ 1000000) :
    d.R e (W.alloc (.cells inner.toArray e)) base (fun _ => True) (.slice (some ⟨W.heap.size, 0, none⟩) xs.length xs.length) xs := by
  refine ⟨fun _ _ => trivial, inner, ?_, hrep _ _⟩
  have h2 := World.ownsRow_lit (base := base) (e := e) (size := d.sz) W inner.toArray xs.length hbase (by simp [maxLen]; omega) (by simpa using (hrep W (fun _ => True)).1)
  simp only [List.size_toArray] at h2
  exact h2
theorem LabAt.none (w : World) : LabAt w none [] := ⟨Kd.C_nil _ _, fun ad e => by cases e⟩
theorem rdR_at (xs : List SRow) (i : Nat) (h : i < xs.length) : rd_T70 xs (i : Int) ∈ xs := by
  unfold rd_T70; rw [show ((i : Int)).toNat = i from by omega, List.getD_eq_getElem?_getD, List.getElem?_eq_getElem h]; exact List.getElem_mem h
theorem rowL_labs (L : List SLab) (n1 n2 n3 : Int) (bs : List S61) (k : Nat) : ∀ x ∈ rowL L n1 n2 n3 bs k, x.f1.length ≤ L.length + 1 := by
  intro x hx
  rcases List.mem_append.1 hx with h | h
  · simp only [List.mem_cons, List.not_mem_nil, or_false] at h
    rcases h with rfl | rfl | rfl <;> exact Nat.le_succ _
  · obtain ⟨i, _, rfl⟩ := List.mem_map.1 h
    show (L ++ [_]).length ≤ _
    rw [List.length_append]; exact Nat.le_refl _
theorem linesL_labs (win : Int) (rows : List SRow) (es : List SEdg) (fs : List Int) (hs : ∀ r ∈ rows, smallR r) : ∀ x ∈ linesL win rows es fs, x.f1.length ≤ 1000000 := by
  intro x hx
  rcases List.mem_cons.1 hx with rfl | hx
  · exact Nat.zero_le _
  rcases List.mem_append.1 hx with hx | hx
  · rcases List.mem_append.1 hx with hx | hx
    · obtain ⟨i, hi, hx⟩ := List.mem_flatMap.1 hx
      have h1 := rowL_labs _ _ _ _ _ _ x hx
      have h2 := hs _ (rdR_at rows i (List.mem_range.1 hi))
      have h3 := labsOf_len (rd_T70 rows (i : Int)).f0 (rd_T70 rows (i : Int)).f1
      have h4 := h2.1
      omega
    · obtain ⟨i, hi, hx⟩ := List.mem_flatMap.1 hx
      simp only [edgeL, List.mem_cons, List.not_mem_nil, or_false] at hx
      rcases hx with rfl | rfl | rfl <;> exact (by show 2 ≤ 1000000; omega)
  · obtain ⟨i, hi, rfl⟩ := List.mem_map.1 hx
    show 1 ≤ 1000000; omega
theorem LRows.set {w : World} {xs : List SLin} {rows : List (List Value)} (h : LRows w xs rows) {j : Nat} {x : SLin} {r : List Value} (hx : xs[j]? = some x) (hr : LRow w x r) : LRows w xs (rows.set j r) := by
  refine ⟨by rw [List.length_set]; exact h.1, fun i y hy => ?_⟩
  by_cases e : j = i
  · subst e
    rw [hx] at hy; obtain rfl := Option.some.inj hy
    have hl := (List.getElem?_eq_some_iff.1 hx).1
    exact ⟨r, List.getElem?_set_self (by rw [h.1]; exact hl), hr⟩
  · rw [List.getElem?_set_ne e]
    exact h.2 i y hy

def T15_16 : Bool × List (List Nat × List Nat) := (true, [([], []), ([], []), ([1], [1]), ([2], [2]), ([3], [3]), ([], []), ([5], [5]), ([4, 6], [4, 6]), ([7], [7]), ([0, 8, 2], [0, 8]), ([9, 9, 0, 1, 2, 3, 4, 5, 6, 7, 8, 9], [0, 9])])
def B15_16 : List Nat := [0, 0, 2, 6, 14, 0, 32, 126, 254, 511, 1023]
theorem tab15_16 : rtab .any (opsOf Tryd.f15 16) = T15_16 := by kernel_rfl
theorem bits15_16 : waitsOk T15_16.2 B15_16 = true := by kernel_rfl
set_option maxHeartbeats 4000000 in
set_option maxRecDepth 100000 in
theorem Lines_c (w : World) (hP : LP w) (win : Int) (A : Option Addr) (cA : Nat) (rows : List SRow) (E : Option Addr) (cE : Nat) (es : List SEdg) (g0 g1 g2 : Int) (b0 b1 b2 : Bool)
    (hA : Kd.C k70 w A rows.length rows) (hE : Kd.C k94 w E es.length es) (hl : rows.length ≤ 1000) (hel : es.length ≤ 1000) (hsm : ∀ r ∈ rows, smallR r) :
    Calls Tryd.prog 15 #[.agg #[.int .u64 win, .slice A rows.length cA, .slice E es.length cE, .int .u64 g0, .bool b0, .int .u64 g1, .bool b1, .int .u64 g2, .bool b2]] w fun e w' =>
      ∃ v, e = .returned v ∧ LW w' w.heap.size v (linesL win rows es [g0, g1, g2]) ∧ Below w.heap.size w w' := by
  have HP := Lib.hid hP; clear hP
  obtain ⟨n, hn⟩ : ∃ n, Hid (rows.length = n) := ⟨_, Lib.hid rfl⟩
  obtain ⟨m, hm⟩ : ∃ m, Hid (es.length = m) := ⟨_, Lib.hid rfl⟩
  rw [hn.out] at hA hl ⊢
  rw [hm.out] at hE hel ⊢
  obtain ⟨X, hX⟩ : ∃ X, Hid (linesL win rows es [g0, g1, g2] = X) := ⟨_, Lib.hid rfl⟩
  rw [hX.out]
  have HA := Lib.hid hA; have HE := Lib.hid hE; have HS := Lib.hid hsm; clear hA hE hsm
  obtain ⟨R, hR⟩ : ∃ R, Hid (w.heap.size = R) := ⟨_, Lib.hid rfl⟩
  obtain ⟨w1, hw1⟩ : ∃ w1, Hid (w.alloc (.cells #[.int .u64 win, .slice A n cA, .slice E m cE, .int .u64 g0, .bool b0, .int .u64 g1, .bool b1, .int .u64 g2, .bool b2] 64) = w1) := ⟨_, Lib.hid rfl⟩
  have H1 : Hid (w1.heap[R]? = some (.cells #[.int .u64 win, .slice A n cA, .slice E m cE, .int .u64 g0, .bool b0, .int .u64 g1, .bool b1, .int .u64 g2, .bool b2] 64 (0, 0)) ∧ Below w.heap.size w w1) := ⟨by rw [← hw1.out, ← hR.out]; exact allocN _ _, by rw [← hw1.out]; exact (Below.refl _ _).alloc (Nat.le_refl _) _⟩
  have EC : Hid (∀ w', Below w1.heap.size w1 w' → w'.cell? ⟨R, 0, none⟩ = some (.int .u64 win) ∧ w'.cell? ⟨R, 1, none⟩ = some (.slice A n cA) ∧ w'.cell? ⟨R, 2, none⟩ = some (.slice E m cE) ∧ w'.cell? ⟨R, 3, none⟩ = some (.int .u64 g0) ∧ w'.cell? ⟨R, 4, none⟩ = some (.bool b0) ∧ w'.cell? ⟨R, 5, none⟩ = some (.int .u64 g1) ∧ w'.cell? ⟨R, 6, none⟩ = some (.bool b1) ∧ w'.cell? ⟨R, 7, none⟩ = some (.int .u64 g2) ∧ w'.cell? ⟨R, 8, none⟩ = some (.bool b2)) := fun w' hb => by
    have h := (hb.block R (lt_of_get H1.out.1)).trans H1.out.1
    exact ⟨by rw [cellB h]; rfl, by rw [cellB h]; rfl, by rw [cellB h]; rfl, by rw [cellB h]; rfl, by rw [cellB h]; rfl, by rw [cellB h]; rfl, by rw [cellB h]; rfl, by rw [cellB h]; rfl, by rw [cellB h]; rfl⟩
  obtain ⟨wb, hwb⟩ : ∃ wb, Hid (w1.alloc (.cells #[.string ⟨#[119, 105, 110, 100, 111, 119]⟩, .slice none 0 0, .int .u64 win] 43) = wb) := ⟨_, Lib.hid rfl⟩
  obtain ⟨bb, hbb⟩ : ∃ bb, Hid (w1.heap.size = bb) := ⟨_, Lib.hid rfl⟩
  have HB : Hid (LW wb w1.heap.size (.slice (some ⟨bb, 0, none⟩) 1 1) [winL win] ∧ Below w1.heap.size w1 wb) := by
    refine ⟨⟨[[.string ⟨#[119, 105, 110, 100, 111, 119]⟩, .slice none 0 0, .int .u64 win]], ?_, LRows.one ⟨none, 0, rfl, Nat.zero_le _, fun _ => rfl, LabAt.none _⟩⟩, by rw [← hwb.out]; exact (Below.refl _ _).alloc (Nat.le_refl _) _⟩
    rw [← hwb.out, ← hbb.out]
    exact R_alloc3 (Reps.c3 (raw3M _ _ _ _ _ _ _ _) (Reps.none _ _)) (Nat.le_refl _) (by simp)
  go_enter Tryd.func15, Tryd.ntmps15
  go_upto_region 1 with fail
  rw [hw1.out, hR.out]
  have c0 := (EC.out w1 (Below.refl _ _)).1
  go_upto_region 2 with fail
  rw [hwb.out, hbb.out]
  clear c0
  have c1 := (EC.out wb HB.out.2).2.1
  go_wp2_with fail
  clear c1
  go_loopw [19, 3] (fun iv lv wr => ∃ (k : Nat) (av : Value), iv = .int .i64 k ∧ lv = av ∧ k ≤ n ∧ Hid (LW wr w1.heap.size av (winL win :: rowsL rows k) ∧ Below w1.heap.size w1 wr ∧ (rowsL rows k).length ≤ 1003 * k)) (fun iv _ _ => n - (intOf iv).toNat)
  case atStart => exact ⟨0, _, rfl, rfl, Nat.zero_le _, HB.out.1, HB.out.2, Nat.le_refl _⟩
  case round =>
    obtain ⟨k, av, rfl, rfl, hk, HW⟩ := hrel
    by_cases hlt : k < n
    · have hki : (k : Int) < (n : Int) := by omega
      obtain ⟨ad, rfl, A0, c0, A1, c1, A2, c2, d0, d1, d2, d3, d4, d5, d6, d7, d8, d9, ⟨hc0, hC0⟩, ⟨hc1, hC1⟩, _⟩ := at_T70 HA.out k (by omega) (by omega)
      have hsr := HS.out _ (rdR_at rows k (by rw [hn.out]; exact hlt))
      obtain ⟨r, hr⟩ : ∃ r, Hid (rd_T70 rows k = r ∧ smallR r) := ⟨_, rfl, hsr⟩
      clear hsr
      rw [hr.out.1] at d0 d1 d2 d3 d4 d5 d6 d7 d8 d9 hc0 hC0 hc1 hC1
      rw [show ((k : Int)).toNat = k from by omega] at d0 d1 d2 d3 d4 d5 d6 d7 d8 d9
      obtain ⟨l0, hl0⟩ : ∃ l0, Hid (r.f0.length = l0) := ⟨_, Lib.hid rfl⟩
      obtain ⟨l5, hl5⟩ : ∃ l5, Hid (r.f5.length = l5) := ⟨_, Lib.hid rfl⟩
      obtain ⟨l6, hl6⟩ : ∃ l6, Hid (r.f6.length = l6) := ⟨_, Lib.hid rfl⟩
      rw [hl0.out] at d0
      rw [hl5.out] at d8
      rw [hl6.out] at d9
      have hbw : Hid (Below w.heap.size w wr) := H1.out.2.trans (HW.out.2.1.mono H1.out.2.size)
      obtain ⟨wm, hwm⟩ : ∃ wm, Hid (wr.alloc (.cells #[.slice A0 l0 c0, .bool r.f1, .int .u64 r.f2.f0, .bool r.f2.f1, .int .u64 r.f3.f0, .bool r.f3.f1, .int .u64 r.f4.f0, .bool r.f4.f1, .slice A1 l5 c1, .slice A2 l6 c2] 70) = wm) := ⟨_, Lib.hid rfl⟩
      obtain ⟨bx, hbx⟩ : ∃ bx, Hid (wr.heap.size = bx) := ⟨_, Lib.hid rfl⟩
      have hM1 : wm.heap[bx]? = some (.cells #[.slice A0 l0 c0, .bool r.f1, .int .u64 r.f2.f0, .bool r.f2.f1, .int .u64 r.f3.f0, .bool r.f3.f1, .int .u64 r.f4.f0, .bool r.f4.f1, .slice A1 l5 c1, .slice A2 l6 c2] 70 (0, 0)) := by rw [← hwm.out, ← hbx.out]; exact allocN _ _
      have HM : Hid (Below wr.heap.size wr wm) := by rw [← hwm.out]; exact (Below.refl _ _).alloc (Nat.le_refl _) _
      have hbm : Hid (Below w.heap.size w wm) := hbw.out.trans (HM.out.mono hbw.out.size)
      have HRC := Lib.hid (row_c wm (HP.out.below hbm.out) A0 c0 r.f0 r.f1 r.f2.f0 r.f3.f0 r.f4.f0 r.f2.f1 r.f3.f1 r.f4.f1 A1 c1 r.f5 (.slice A2 l6 c2) (Kd.C_below hC0 hbm.out) (Kd.C_below hC1 hbm.out) hr.out.2.1 hr.out.2.2)
      rw [hl0.out, hl5.out] at HRC
      have d0' := pw_cell_below hbw.out d0
      have d1' := pw_cell_below hbw.out d1
      have d2' := pw_cell_below hbw.out d2
      have d3' := pw_cell_below hbw.out d3
      have d4' := pw_cell_below hbw.out d4
      have d5' := pw_cell_below hbw.out d5
      have d6' := pw_cell_below hbw.out d6
      have d7' := pw_cell_below hbw.out d7
      have d8' := pw_cell_below hbw.out d8
      have d9' := pw_cell_below hbw.out d9
      clear d0 d1 d2 d3 d4 d5 d6 d7 d8 d9 hc0 hC0 hc1 hC1
      go_upto_region 5 with fail
      rw [hwm.out, hbx.out]
      clear d0' d1' d2' d3' d4' d5' d6' d7' d8' d9'
      have e0 : wm.cell? ⟨bx, 0, none⟩ = some (.slice A0 l0 c0) := by rw [cellB hM1]; rfl
      have e1 : wm.cell? ⟨bx, 1, none⟩ = some (.bool r.f1) := by rw [cellB hM1]; rfl
      have e2 : wm.cell? ⟨bx, 2, none⟩ = some (.int .u64 r.f2.f0) := by rw [cellB hM1]; rfl
      have e3 : wm.cell? ⟨bx, 3, none⟩ = some (.bool r.f2.f1) := by rw [cellB hM1]; rfl
      have e4 : wm.cell? ⟨bx, 4, none⟩ = some (.int .u64 r.f3.f0) := by rw [cellB hM1]; rfl
      have e5 : wm.cell? ⟨bx, 5, none⟩ = some (.bool r.f3.f1) := by rw [cellB hM1]; rfl
      have e6 : wm.cell? ⟨bx, 6, none⟩ = some (.int .u64 r.f4.f0) := by rw [cellB hM1]; rfl
      have e7 : wm.cell? ⟨bx, 7, none⟩ = some (.bool r.f4.f1) := by rw [cellB hM1]; rfl
      have e8 : wm.cell? ⟨bx, 8, none⟩ = some (.slice A1 l5 c1) := by rw [cellB hM1]; rfl
      have e9 : wm.cell? ⟨bx, 9, none⟩ = some (.slice A2 l6 c2) := by rw [cellB hM1]; rfl
      clear hM1
      go_wp2_with fail
      clear e0 e1 e2 e3 e4 e5 e6 e7 e8 e9
      refine HRC.out.mono ?_
      rintro e w3 ⟨v3, rfl, hL3, hb3⟩
      have hrs : Hid (rowL (labsOf r.f0 r.f1) r.f2.f0 r.f3.f0 r.f4.f0 r.f5 l5 = rowS r ∧ (rowS r).length ≤ 1003) := ⟨by rw [← hl5.out]; rfl, rowS_len r hr.out.2⟩
      rw [hrs.out.1] at hL3
      obtain ⟨rows3, hR3, hLR3⟩ := hL3
      obtain ⟨A3, c3, e3, _, hC3⟩ := Kd.R_reads hR3
      obtain ⟨n3, hn3⟩ : ∃ n3, Hid (rows3.length = n3 ∧ n3 ≤ 1003) := ⟨_, rfl, by rw [hLR3.1]; exact hrs.out.2⟩
      rw [hn3.out.1] at e3 hC3
      subst e3
      have hb3' : Below wr.heap.size wr w3 := HM.out.trans (hb3.mono HM.out.size)
      obtain ⟨rowsW, hrw, hlw⟩ := HW.out.1.below hb3'
      have H3 : Hid ((Kd.raw 3).R 43 w3 w1.heap.size (fun _ => True) u3 rowsW ∧ LRows w3 (winL win :: rowsL rows k) rowsW ∧ Below w1.heap.size w1 w3 ∧ LRows w3 (rowS r) rows3 ∧ (Kd.raw 3).C w3 A3 n3 rows3) := ⟨hrw, hlw, HW.out.2.1.trans (hb3'.mono HW.out.2.1.size), hLR3, hC3⟩
      have hrl : Hid (rowsW.length ≤ 1003 * k + 1) := by have h := hlw.1; rw [List.length_cons] at h; have := HW.out.2.2; show _ ≤ _; omega
      clear hR3 hLR3 hC3 hb3 hb3' hrw hlw HRC
      go_wp2_with (at_builtin; go_loud (refine Kd.R_append_rows (Kd.raw 3) (Rr := (Kd.raw 3).K w3) (w0 := w1) w1.heap.size rfl _ _ 32 43 (.agg #[(.string ⟨#[]⟩), (.slice none 0 0), (.int .u64 0)]) 48 rfl Tryd.underlying32 info43 rfl (Nat.zero_lt_succ 2) (by decide) u3 rowsW rows3 A3 n3 c3 (fun _ => True) (fun _ => False) rfl rfl H3.out.1 H3.out.2.2.2.2 (fun _ _ h => h) (fun _ h => h.elim) (fun _ _ => trivial) H3.out.2.2.1 H3.out.2.2.1.size (by have h1 := hrl.out; have h2 := hn3.out.2; omega) ?_))
      intro v6 w6 hr6 hb6 hg6 hat6
      have H6 : Hid (LW w6 w1.heap.size v6 (winL win :: rowsL rows (k + 1)) ∧ Below w1.heap.size w1 w6 ∧ (rowsL rows (k + 1)).length ≤ 1003 * (k + 1)) := by
        have hk := KL.grown H3.out.1 (by decide) hg6
        refine ⟨⟨_, hr6, ?_⟩, hb6, ?_⟩
        · rw [rowsL_succ, hr.out.1, ← List.cons_append]
          exact (H3.out.2.1.keep hk).append (H3.out.2.2.2.1.keep hk)
        · rw [rowsL_succ, hr.out.1, List.length_append]
          have h1 := HW.out.2.2; have h2 := hrs.out.2; omega
      clear hr6 hb6 hg6 hat6
      go_wp2_with fail
      go_roundw
      case rel => exact ⟨k + 1, v6, by go_num, rfl, by omega, H6⟩
      case measure => simp [intOf]; omega
    · obtain rfl : k = n := by omega
      have HR0 : Hid ((rowsL rows k).length ≤ 1003000) := by have := HW.out.2.2; show _ ≤ _; omega
      have c2 := (EC.out wr HW.out.2.1).2.2.1
      go_wp2_with fail
      clear c2
      obtain ⟨w2, hw2⟩ : ∃ w2, wr = w2 := ⟨_, rfl⟩
      subst hw2
      go_loopw [31, 3] (fun iv lv wr => ∃ (i : Nat) (av : Value), iv = .int .i64 i ∧ lv = av ∧ i ≤ m ∧ Hid (LW wr w1.heap.size av (winL win :: (rowsL rows k ++ edgesL es i)) ∧ Below w1.heap.size w1 wr)) (fun iv _ _ => m - (intOf iv).toNat)
      case atStart => exact ⟨0, _, rfl, rfl, Nat.zero_le _, by show LW _ _ _ (winL win :: (rowsL rows k ++ [])); rw [List.append_nil]; exact HW.out.1, HW.out.2.1⟩
      case round =>
        obtain ⟨i, av, rfl, rfl, hi, HW⟩ := hrel
        by_cases hlt : i < m
        · have hki : (i : Int) < (m : Int) := by omega
          obtain ⟨ad, rfl, d0, d1, d2, d3, d4, d5, d6, d7⟩ := at_T94 HE.out i (by omega) (by omega)
          obtain ⟨r, hr⟩ : ∃ r, Hid (rd_T94 es i = r) := ⟨_, Lib.hid rfl⟩
          rw [hr.out, show ((i : Int)).toNat = i from by omega] at d0 d1 d2 d3 d4 d5 d6 d7
          have hbw : Hid (Below w.heap.size w wr) := H1.out.2.trans (HW.out.2.mono H1.out.2.size)
          obtain ⟨wm, hwm⟩ : ∃ wm, Hid (wr.alloc (.cells #[.string r.f0, .string r.f1, .int .u64 r.f2.f0, .bool r.f2.f1, .int .u64 r.f3.f0, .bool r.f3.f1, .int .u64 r.f4.f0, .bool r.f4.f1] 94) = wm) := ⟨_, Lib.hid rfl⟩
          obtain ⟨bx, hbx⟩ : ∃ bx, Hid (wr.heap.size = bx) := ⟨_, Lib.hid rfl⟩
          have hM1 : Hid (wm.heap[bx]? = some (.cells #[.string r.f0, .string r.f1, .int .u64 r.f2.f0, .bool r.f2.f1, .int .u64 r.f3.f0, .bool r.f3.f1, .int .u64 r.f4.f0, .bool r.f4.f1] 94 (0, 0))) := by rw [← hwm.out, ← hbx.out]; exact allocN _ _
          have HM : Hid (Below wr.heap.size wr wm) := by rw [← hwm.out]; exact (Below.refl _ _).alloc (Nat.le_refl _) _
          obtain ⟨wl, hwl⟩ : ∃ wl, Hid (wm.alloc (.cells #[.string ⟨#[102, 114, 111, 109]⟩, .string r.f0, .string ⟨#[116, 111]⟩, .string r.f1] 71) = wl) := ⟨_, Lib.hid rfl⟩
          obtain ⟨bl, hbl⟩ : ∃ bl, Hid (wm.heap.size = bl) := ⟨_, Lib.hid rfl⟩
          have HL : Hid (LabAt wl (some ⟨bl, 0, none⟩) (ftL r) ∧ Below wm.heap.size wm wl) := by
            refine ⟨?_, by rw [← hwl.out]; exact (Below.refl _ _).alloc (Nat.le_refl _) _⟩
            have h := R_allocG k71 (W := wm) (base := 0) (e := 71) (xs := ftL r) (inner := [.string ⟨#[102, 114, 111, 109]⟩, .string r.f0, .string ⟨#[116, 111]⟩, .string r.f1]) (fun W' ok => Reps.c2 (k71_mkM _ _ _ (⟨⟨#[102, 114, 111, 109]⟩, r.f0⟩ : SLab)) (Reps.c2 (k71_mkM _ _ _ (⟨⟨#[116, 111]⟩, r.f1⟩ : SLab)) (Reps.none _ _))) (Nat.zero_le _) (by show 2 ≤ _; omega)
            obtain ⟨A9, c9, e9, _, _, hl9⟩ := LabAt.of_R h
            obtain ⟨rfl, _, _⟩ := Value.slice.inj e9
            rw [← hwl.out, ← hbl.out]; exact hl9
          have d0' := pw_cell_below hbw.out d0
          have d1' := pw_cell_below hbw.out d1
          have d2' := pw_cell_below hbw.out d2
          have d3' := pw_cell_below hbw.out d3
          have d4' := pw_cell_below hbw.out d4
          have d5' := pw_cell_below hbw.out d5
          have d6' := pw_cell_below hbw.out d6
          have d7' := pw_cell_below hbw.out d7
          clear d0 d1 d2 d3 d4 d5 d6 d7
          go_upto_region 10 with fail
          rw [hwm.out, hbx.out]
          clear d0' d1' d2' d3' d4' d5' d6' d7'
          have e0 : wm.cell? ⟨bx, 0, none⟩ = some (.string r.f0) := by rw [cellB hM1.out]; rfl
          have e1 : wm.cell? ⟨bx, 1, none⟩ = some (.string r.f1) := by rw [cellB hM1.out]; rfl
          go_upto_region 11 with fail
          rw [hwl.out, hbl.out]
          clear e0 e1
          have hM2 := (HL.out.2.block _ (lt_of_get hM1.out)).trans hM1.out
          have e2 : wl.cell? ⟨bx, 2, none⟩ = some (.int .u64 r.f2.f0) := by rw [cellB hM2]; rfl
          have e4 : wl.cell? ⟨bx, 4, none⟩ = some (.int .u64 r.f3.f0) := by rw [cellB hM2]; rfl
          have e6 : wl.cell? ⟨bx, 6, none⟩ = some (.int .u64 r.f4.f0) := by rw [cellB hM2]; rfl
          clear hM2
          have hbl' : Below wr.heap.size wr wl := HM.out.trans (HL.out.2.mono HM.out.size)
          obtain ⟨W5, hW5⟩ : ∃ W5, Hid (W5 = wl.alloc (.cells #[.string ⟨#[99, 97, 108, 108, 115]⟩, .slice (some ⟨bl, 0, none⟩) 2 2, .int .u64 r.f2.f0, .string ⟨#[99, 97, 108, 108, 115, 102, 97, 105, 108, 101, 100]⟩, .slice (some ⟨bl, 0, none⟩) 2 2, .int .u64 r.f3.f0, .string ⟨#[116, 111, 111, 107]⟩, .slice (some ⟨bl, 0, none⟩) 2 2, .int .u64 r.f4.f0] 43)) := ⟨_, Lib.hid rfl⟩
          have hb5 : Below wr.heap.size wr W5 := by rw [hW5.out]; exact hbl'.alloc hbl'.size _
          obtain ⟨rowsW, hrw, hlw⟩ := HW.out.1.below hb5
          have H5 : Hid ((Kd.raw 3).R 43 W5 w1.heap.size (fun _ => True) u3 rowsW ∧ LRows W5 (winL win :: (rowsL rows k ++ edgesL es i)) rowsW ∧ Below w1.heap.size w1 W5 ∧ LabAt W5 (some ⟨bl, 0, none⟩) (ftL r) ∧ (Kd.raw 3).C W5 (some ⟨wl.heap.size, 0, none⟩) 3 [[.string ⟨#[99, 97, 108, 108, 115]⟩, .slice (some ⟨bl, 0, none⟩) 2 2, .int .u64 r.f2.f0], [.string ⟨#[99, 97, 108, 108, 115, 102, 97, 105, 108, 101, 100]⟩, .slice (some ⟨bl, 0, none⟩) 2 2, .int .u64 r.f3.f0], [.string ⟨#[116, 111, 111, 107]⟩, .slice (some ⟨bl, 0, none⟩) 2 2, .int .u64 r.f4.f0]] ∧ rowsW.length ≤ 1010000) := by
            refine ⟨hrw, hlw, HW.out.2.trans (hb5.mono HW.out.2.size), HL.out.1.keep (KL.below (by rw [hW5.out]; exact (Below.refl _ _).alloc (Nat.le_refl _) _)), ?_, ?_⟩
            · rw [hW5.out]
              have h := R_alloc3 (W := wl) (base := 0) (e := 43) (Reps.c3 (raw3M _ _ _ ⟨#[99, 97, 108, 108, 115]⟩ (some ⟨bl, 0, none⟩) 2 2 r.f2.f0) (Reps.c3 (raw3M _ _ _ ⟨#[99, 97, 108, 108, 115, 102, 97, 105, 108, 101, 100]⟩ (some ⟨bl, 0, none⟩) 2 2 r.f3.f0) (Reps.c3 (raw3M _ _ _ ⟨#[116, 111, 111, 107]⟩ (some ⟨bl, 0, none⟩) 2 2 r.f4.f0) (Reps.none _ _)))) (Nat.zero_le _) (by simp)
              obtain ⟨A9, c9, e9, _, h9⟩ := Kd.R_reads h
              obtain ⟨rfl, _, _⟩ := Value.slice.inj e9
              exact h9
            · have h := hlw.1
              rw [List.length_cons, List.length_append, edgesL_len] at h
              have := HR0.out; omega
          clear hb5 hrw hlw hbl'
          rw [hW5.out] at H5
          go_wp2_with (at_builtin; go_loud (refine Kd.R_append_rows (Kd.raw 3) (Rr := (Kd.raw 3).K w1) (w0 := w1) w1.heap.size rfl _ _ 32 43 (.agg #[(.string ⟨#[]⟩), (.slice none 0 0), (.int .u64 0)]) 48 rfl Tryd.underlying32 info43 rfl (Nat.zero_lt_succ 2) (by decide) u3 rowsW [[.string ⟨#[99, 97, 108, 108, 115]⟩, .slice (some ⟨bl, 0, none⟩) 2 2, .int .u64 r.f2.f0], [.string ⟨#[99, 97, 108, 108, 115, 102, 97, 105, 108, 101, 100]⟩, .slice (some ⟨bl, 0, none⟩) 2 2, .int .u64 r.f3.f0], [.string ⟨#[116, 111, 111, 107]⟩, .slice (some ⟨bl, 0, none⟩) 2 2, .int .u64 r.f4.f0]] (some ⟨wl.heap.size, 0, none⟩) 3 3 (fun _ => True) (fun _ => False) rfl rfl H5.out.1 H5.out.2.2.2.2.1 (fun _ _ h => h) (fun _ h => h.elim) (fun _ _ => trivial) H5.out.2.2.1 H5.out.2.2.1.size (by have h1 := H5.out.2.2.2.2.2; omega) ?_))
          intro v6 w6 hr6 hb6 hg6 hat6
          have H6 : Hid (LW w6 w1.heap.size v6 (winL win :: (rowsL rows k ++ edgesL es (i + 1))) ∧ Below w1.heap.size w1 w6) := by
            have hk := KL.grown H5.out.1 (by decide) hg6
            have hl6 := H5.out.2.2.2.1.keep hk
            have one : ∀ (s : ByteArray) (x : Int), LRow w6 (⟨s, ftL r, x⟩ : SLin) [.string s, .slice (some ⟨bl, 0, none⟩) 2 2, .int .u64 x] := fun s x => ⟨_, 2, rfl, Nat.le_refl _, (fun e => by cases e), hl6⟩
            refine ⟨⟨_, hr6, ?_⟩, hb6⟩
            rw [edgesL_succ, hr.out, ← List.append_assoc, ← List.cons_append]
            exact (H5.out.2.1.keep hk).append (LRows.cons (one _ _) (LRows.cons (one _ _) (LRows.one (one _ _))))
          clear hr6 hb6 hg6 hat6 e2 e4 e6
          go_wp2_with fail
          go_roundw
          case rel => exact ⟨i + 1, v6, by go_num, rfl, by omega, H6⟩
          case measure => simp [intOf]; omega
        · obtain rfl : i = m := by omega
          obtain ⟨Y, hY⟩ : ∃ Y, Hid (winL win :: (rowsL rows k ++ edgesL es i) = Y ∧ Y.length ≤ 1010000) := ⟨_, rfl, by rw [List.length_cons, List.length_append, edgesL_len]; have := HR0.out; omega⟩
          rw [hY.out.1] at HW
          have hXY : Hid (X = Y ++ fatesL [g0, g1, g2] 3) := by rw [← hX.out, ← hY.out.1]; unfold linesL; rw [hn.out, hm.out]; rfl
          obtain ⟨_, _, _, c3, c4, c5, c6, c7, c8⟩ := EC.out wr HW.out.2
          go_wp2_with fail
          clear c3 c4 c5 c6 c7 c8
          obtain ⟨w2, hw2⟩ : ∃ w2, wr = w2 := ⟨_, rfl⟩
          subst hw2
          go_loopw [63, 3] (fun iv lv wr => ∃ (j : Nat) (av : Value), iv = .int .i64 j ∧ lv = av ∧ j ≤ 3 ∧ Hid (LW wr w1.heap.size av (Y ++ fatesL [g0, g1, g2] j) ∧ Below w1.heap.size w1 wr)) (fun iv _ _ => 3 - (intOf iv).toNat)
          case atStart => exact ⟨0, _, rfl, rfl, Nat.zero_le _, by show LW _ _ _ (Y ++ []); rw [List.append_nil]; exact HW.out.1, HW.out.2⟩
          case round =>
            obtain ⟨j, av, rfl, rfl, hj, HW⟩ := hrel
            by_cases hlt : j < 3
            · have hki : (j : Int) < (3 : Int) := by omega
              go_upto_region 15 with fail
              go_cut [9, 10] (fun iv pv wx => ∃ (b : Nat) (bo : Bool), iv = .int .i64 j ∧ pv = .pointer (some ⟨b, 0, none⟩) ∧ Hid (wx.heap[b]? = some (.cells #[.int .u64 ([g0, g1, g2].getD j 0), .bool bo] 61 (0, 0)) ∧ LW wx w1.heap.size u3 (Y ++ fatesL [g0, g1, g2] j) ∧ Below w1.heap.size w1 wx))
              case first =>
                rcases (by omega : j = 0 ∨ j = 1 ∨ j = 2) with rfl | rfl | rfl
                · have hq : ∀ W, (Instr.index 62 (.agg #[.int .u64 g0, .bool b0, .int .u64 g1, .bool b1, .int .u64 g2, .bool b2]) (.int .i64 0)).run Tryd.prog W = .ok (.agg #[.int .u64 g0, .bool b0]) W := fun _ => by kernel_rfl
                  go_wp2_with fail
                  go_meet
                  case rel => exact ⟨_, b0, rfl, rfl, allocN _ _, HW.out.1.below ((Below.refl _ _).alloc (Nat.le_refl _) _), HW.out.2.alloc HW.out.2.size _⟩
                · have hq : ∀ W, (Instr.index 62 (.agg #[.int .u64 g0, .bool b0, .int .u64 g1, .bool b1, .int .u64 g2, .bool b2]) (.int .i64 1)).run Tryd.prog W = .ok (.agg #[.int .u64 g1, .bool b1]) W := fun _ => by kernel_rfl
                  go_wp2_with fail
                  go_meet
                  case rel => exact ⟨_, b1, rfl, rfl, allocN _ _, HW.out.1.below ((Below.refl _ _).alloc (Nat.le_refl _) _), HW.out.2.alloc HW.out.2.size _⟩
                · have hq : ∀ W, (Instr.index 62 (.agg #[.int .u64 g0, .bool b0, .int .u64 g1, .bool b1, .int .u64 g2, .bool b2]) (.int .i64 2)).run Tryd.prog W = .ok (.agg #[.int .u64 g2, .bool b2]) W := fun _ => by kernel_rfl
                  go_wp2_with fail
                  go_meet
                  case rel => exact ⟨_, b2, rfl, rfl, allocN _ _, HW.out.1.below ((Below.refl _ _).alloc (Nat.le_refl _) _), HW.out.2.alloc HW.out.2.size _⟩
              case rest =>
                obtain ⟨b, bo, rfl, rfl, HC⟩ := hcut
                clear HW
                obtain ⟨fv, hfv⟩ : ∃ fv, Hid ([g0, g1, g2].getD j 0 = fv) := ⟨_, Lib.hid rfl⟩
                rw [hfv.out] at HC
                have hbw : Hid (Below w.heap.size w wc) := H1.out.2.trans (HC.out.2.2.mono H1.out.2.size)
                obtain ⟨sn, hsn⟩ : ∃ sn, Hid (itoaB j = sn) := ⟨_, Lib.hid rfl⟩
                have HIT : Hid (∀ W, Below wc.heap.size wc W → Calls Tryd.prog 29 #[.int .i64 (j : Int)] W fun e w' => e = .returned (.string sn) ∧ Below W.heap.size W w') := fun W hb => by
                  have h := Itoa_i (j : Int) (by omega) (by omega) W (HP.out.below (hbw.out.trans (hb.mono hbw.out.size))).1
                  rw [show (⟨(Lib.itoa (j : Int)).toArray⟩ : ByteArray) = itoaB j from rfl, hsn.out] at h
                  exact h
                obtain ⟨rowsW, hrw, hlw⟩ := HC.out.2.1
                have HRW : Hid ((Kd.raw 3).R 43 wc w1.heap.size (fun _ => True) u3 rowsW ∧ LRows wc (Y ++ fatesL [g0, g1, g2] j) rowsW ∧ rowsW.length ≤ 1010003) := ⟨hrw, hlw, by rw [hlw.1, List.length_append, fatesL_len]; have := hY.out.2; omega⟩
                clear hrw hlw
                go_upto_region 16 with fail
                refine start_ (n := 11) (S := (fun w' => Below wc.heap.size wc w')) (ds := [9, 10]) #[false, false, false, false, false, false, false, false, false, false, false] (by kernel_rfl) (by rfl) (by rfl) (Below_drewN (Below.refl wc.heap.size wc) 1) (fun hHeld => ?_); refine with_tabW tab15_16 bits15_16 (fun HT_ HW_ => ?_)
                refine pure_ (i := 0) (N := some 67) (v := ?_) (a' := ?_) #[true, false, false, false, false, false, false, false, false, false, false] rfl rfl (any_of HT_.out (by kernel_rfl)) (fun _ _ _ h => h) (Or.inl ⟨by rfl, ?_⟩) ?_ ?_
                rotate_left
                · intro w'
                  go_simp
                  with_reducible rfl
                rotate_left
                · simp only [Act.put, List.setIfInBounds_toArray, List.set_cons_zero, List.set_cons_succ]
                  rfl
                refine pure_ (i := 1) (N := some 68) (v := ?_) (a' := ?_) #[true, true, false, false, false, false, false, false, false, false, false] rfl rfl (any_of HT_.out (by kernel_rfl)) (fun _ _ _ h => h) (Or.inl ⟨by rfl, ?_⟩) ?_ ?_
                rotate_left
                · intro w'
                  go_simp
                  with_reducible rfl
                rotate_left
                · simp only [Act.put, List.setIfInBounds_toArray, List.set_cons_zero, List.set_cons_succ]
                  rfl
                refine pure_ (i := 5) (N := some 72) (v := ?_) (a' := ?_) #[true, true, false, false, false, true, false, false, false, false, false] rfl rfl (any_of HT_.out (by kernel_rfl)) (fun _ _ _ h => h) (Or.inl ⟨by rfl, ?_⟩) ?_ ?_
                rotate_left
                · intro w'
                  go_simp
                  with_reducible rfl
                rotate_left
                · simp only [Act.put, List.setIfInBounds_toArray, List.set_cons_zero, List.set_cons_succ]
                  rfl
                refine take_ (i := 6) (N := some 73) (v := ?_) (a' := ?_) #[true, true, false, false, false, true, true, false, false, false, false] rfl rfl (take_ofW HT_.out HW_.out (by kernel_rfl)) (fun _ _ _ h => h) (Or.inl ⟨by rfl, ?_⟩) hHeld ?_ ?_
                rotate_left
                · rintro w' hS; have s1 := show w'.cell? ⟨b, 0, none⟩ = some (.int .u64 fv) by rw [cellB ((hS.block _ (lt_of_get HC.out.1)).trans HC.out.1)]; rfl
                  go_simp
                  with_reducible rfl
                rotate_left
                · simp only [Act.put, List.setIfInBounds_toArray, List.set_cons_zero, List.set_cons_succ]
                  rfl
                refine one_ (i := 2) (N := some 69) #[true, true, true, false, false, true, true, false, false, false, false] rfl rfl (one_of HT_.out (by kernel_rfl)) (by decide) (fun K hK => ?_)
                rw [if_pos (by rfl)]
                go_simp
                go_at_call 29; refine (HIT.out _ hHeld).mono ?_; rintro e w2 ⟨rfl, hb2⟩; have hB2 : Hid (Below wc.heap.size wc w2) := hHeld.trans (hb2.mono hHeld.size)
                refine hK.out _ _ (hHeld.trans (hb2.mono hHeld.size)) (fun hHeld => ?_)
                clear hK K
                refine pure_ (i := 3) (N := some 70) (v := ?_) (a' := ?_) #[true, true, true, true, false, true, true, false, false, false, false] rfl rfl (any_of HT_.out (by kernel_rfl)) (fun _ _ _ h => h) (Or.inl ⟨by rfl, ?_⟩) ?_ ?_
                rotate_left
                · intro w'
                  go_simp
                  with_reducible rfl
                rotate_left
                · simp only [Act.put, List.setIfInBounds_toArray, List.set_cons_zero, List.set_cons_succ]
                  rfl
                refine one_ (i := 4) (N := some 71) #[true, true, true, true, true, true, true, false, false, false, false] rfl rfl (one_of HT_.out (by kernel_rfl)) (by decide) (fun K hK => ?_)
                rw [if_pos (by rfl)]
                go_simp
                refine hK.out _ _ (hHeld.alloc hHeld.size _) (fun hHeld => ?_)
                clear hK K
                refine pure_ (i := 7) (N := some 74) (v := ?_) (a' := ?_) #[true, true, true, true, true, true, true, true, false, false, false] rfl rfl (any_of HT_.out (by kernel_rfl)) (fun _ _ _ h => h) (Or.inl ⟨by rfl, ?_⟩) ?_ ?_
                rotate_left
                · intro w'
                  go_simp
                  with_reducible rfl
                rotate_left
                · simp only [Act.put, List.setIfInBounds_toArray, List.set_cons_zero, List.set_cons_succ]
                  rfl
                refine one_ (i := 8) (N := some 75) #[true, true, true, true, true, true, true, true, true, false, false] rfl rfl (one_of HT_.out (by kernel_rfl)) (by decide) (fun K hK => ?_)
                rw [if_pos (by rfl)]
                go_simp
                refine hK.out _ _ (hHeld.alloc hHeld.size _) (fun hHeld => ?_)
                clear hK K
                refine last_ (i := 9) (N := some 76) #[true, true, true, true, true, true, true, true, true, true, false] rfl rfl (one_of HT_.out (by kernel_rfl)) (by decide) (fun K hK => ?_)
                refine Kd.R_append_step (Kd.raw 3) (w0 := w1) w1.heap.size (by rfl) _ _ 32 43 (.agg #[(.string ⟨#[]⟩), (.slice none 0 0), (.int .u64 0)]) 48 rfl Tryd.underlying32 info43 rfl (Nat.zero_lt_succ 2) (by decide) u3 rowsW ([.string ⟨#[102, 97, 116, 101]⟩, .slice (some ⟨w2.heap.size, 0, none⟩) 1 1, .int .u64 fv] : List Value) [.string ⟨#[102, 97, 116, 101]⟩, .slice (some ⟨w2.heap.size, 0, none⟩) 1 1, .int .u64 fv] (fun _ => True) (fun _ => False) rfl (by show Value.slice (some ⟨w2.heap.size + 1, 0, none⟩) 1 1 = _; rw [size_alloc]) (raw3M _ _ _ _ _ _ _ _) (fun _ h => h.elim) (fun _ _ => trivial) (Kd.R_below HRW.out.1 (hB2.out.alloc hB2.out.size _)) (HC.out.2.2.trans ((hB2.out.alloc hB2.out.size _).mono HC.out.2.2.size)) (HC.out.2.2.trans ((hB2.out.alloc hB2.out.size _).mono HC.out.2.2.size)).size (by have := HRW.out.2.2; omega) ?_; intro v6 w6 hr6 hb6 hg6 hat6
                refine hK.out _ _ ?_
                clear hK K
                refine pure_ (i := 10) (N := some 3) (v := ?_) (a' := ?_) #[true, true, true, true, true, true, true, true, true, true, true] rfl rfl (any_of HT_.out (by kernel_rfl)) (fun _ _ _ h => h) (Or.inl ⟨by rfl, ?_⟩) ?_ ?_
                rotate_left
                · intro w'
                  go_simp
                  with_reducible rfl
                rotate_left
                · simp only [Act.put, List.setIfInBounds_toArray, List.set_cons_zero, List.set_cons_succ]
                  rfl
                refine done_ (done_of HT_.out (by kernel_rfl)) ?_
                clear HT_ HW_ hHeld
                have H6 : Hid (LW w6 w1.heap.size v6 (Y ++ fatesL [g0, g1, g2] (j + 1)) ∧ Below w1.heap.size w1 w6) := by
                  have hba : Below wc.heap.size wc (w2.alloc (.cells #[.string ⟨#[107, 105, 110, 100]⟩, .string sn] 71)) := hB2.out.alloc hB2.out.size _
                  have hk : KL (w2.alloc (.cells #[.string ⟨#[107, 105, 110, 100]⟩, .string sn] 71)) w6 := KL.grown (Kd.R_below HRW.out.1 hba) (by decide) hg6
                  refine ⟨⟨_, hr6, ?_⟩, hb6⟩
                  rw [fatesL_succ, hfv.out, ← List.append_assoc]
                  refine ((HRW.out.2.1.keep (KL.below hba)).keep hk).append (LRows.one ?_)
                  unfold fateL
                  rw [hsn.out]
                  have h := R_allocG k71 (W := w2) (base := 0) (e := 71) (xs := [(⟨⟨#[107, 105, 110, 100]⟩, sn⟩ : SLab)]) (inner := [.string ⟨#[107, 105, 110, 100]⟩, .string sn]) (fun W' ok => Reps.c2 (k71_mkM _ _ _ (⟨⟨#[107, 105, 110, 100]⟩, sn⟩ : SLab)) (Reps.none _ _)) (Nat.zero_le _) (by show 1 ≤ _; omega)
                  obtain ⟨A9, c9, e9, _, _, hl9⟩ := LabAt.of_R h
                  obtain ⟨rfl, _, _⟩ := Value.slice.inj e9
                  exact ⟨_, 1, rfl, Nat.le_refl _, (fun e => by cases e), hl9.keep hk⟩
                clear hr6 hb6 hg6 hat6 hb2
                go_wp2_with fail
                go_roundw
                case rel => exact ⟨j + 1, v6, by go_num, rfl, by omega, H6⟩
                case measure => simp [intOf]; omega
            · have hnl : ¬ ((j : Int) < 3) := by omega
              have hj3 : j = 3 := by omega
              rw [hj3, ← hXY.out] at HW
              clear hlt hj
              have HJ3 := Lib.hid hj3; clear hj3
              have HXL : Hid (0 < X.length ∧ X.length ≤ 1010003 ∧ ∀ x ∈ X, x.f1.length ≤ 1000000) := ⟨by rw [← hX.out]; simp [linesL], by rw [hXY.out, List.length_append, fatesL_len]; have := hY.out.2; omega, by rw [← hX.out]; exact linesL_labs _ _ _ _ HS.out⟩
              obtain ⟨N, hN⟩ : ∃ N, Hid (X.length = N ∧ 0 < N ∧ N ≤ 1010003) := ⟨_, rfl, HXL.out.1, HXL.out.2.1⟩
              obtain ⟨A9, c9, e9, hc9, hC9⟩ := HW.out.1.reads
              rw [hN.out.1] at e9 hC9
              subst e9
              obtain ⟨g, rfl⟩ : ∃ g, A9 = some ⟨g, 0, none⟩ := by
                obtain ⟨ad, rfl, _⟩ := hC9.2.2 hN.out.2.1
                obtain ⟨rw9, h9, _⟩ := HW.out.1
                obtain ⟨g, rfl⟩ := Kd.R_head h9
                exact ⟨g, rfl⟩
              clear hC9 hc9
              go_wp2_with fail
              obtain ⟨w2, hw2⟩ : ∃ w2, wr = w2 := ⟨_, rfl⟩
              subst hw2
              go_loopw [80] (fun iv wr => ∃ (i : Nat), iv = .int .i64 i ∧ i ≤ N ∧ Hid (LW wr w1.heap.size (.slice (some ⟨g, 0, none⟩) N c9) X ∧ Below w1.heap.size w1 wr)) (fun iv _ => N - (intOf iv).toNat)
              case atStart => exact ⟨0, rfl, Nat.zero_le _, HW.out⟩
              case round =>
                obtain ⟨i, rfl, hi, HW⟩ := hrel
                by_cases hlt : i < N
                · have hki : (i : Int) < (N : Int) := by omega
                  have HLT := Lib.hid hlt
                  have hnb := hN.out.2.2
                  obtain ⟨x, hx⟩ : ∃ x, Hid (X[i]? = some x) := ⟨_, List.getElem?_eq_getElem (by rw [hN.out.1]; exact hlt)⟩
                  obtain ⟨rowsW, hrw, hlw⟩ := HW.out.1
                  obtain ⟨r, hr, A1, c1, rfl, hc1, hA1, hlab⟩ := hlw.2 i x hx.out
                  have hrl : rowsW.length = N := by rw [hlw.1, hN.out.1]
                  have HRW : Hid ((Kd.raw 3).R 43 wr w1.heap.size (fun _ => True) (.slice (some ⟨g, 0, none⟩) N c9) rowsW ∧ LRows wr X rowsW) := ⟨hrw, hlw⟩
                  obtain ⟨A8, c8, e8, _, hC8⟩ := Kd.R_reads hrw
                  obtain ⟨e10, -, -⟩ := Value.slice.inj e8
                  subst e10
                  obtain ⟨ad8, e9, hcells⟩ := hC8.2.2 (by rw [hrl]; exact hN.out.2.1)
                  obtain rfl := Option.some.inj e9
                  obtain ⟨cs8, hcl8, ⟨rfl, _, _⟩, hcell8⟩ := hcells i _ hr
                  have CC : Hid (∀ (q : Nat) (u : Value), ([.string x.f0, .slice A1 x.f1.length c1, .int .u64 x.f2] : List Value)[q]? = some u → wr.cell? ⟨g, i * 3 + q, none⟩ = some u) := fun q u hu => by
                    have h := hcell8 q u hu
                    have e : (⟨g, 0, none⟩ : Addr).add (i * 3 + q) = ⟨g, i * 3 + q, none⟩ := by
                      unfold Addr.add
                      split
                      · rename_i h0; rw [h0]
                      · simp
                    rwa [show (Kd.raw 3).sz = 3 from rfl, e] at h
                  obtain ⟨n1, hn1⟩ : ∃ n1, Hid (x.f1.length = n1) := ⟨_, Lib.hid rfl⟩
                  have HCL := Lib.hid (Clone_c wr A1 c1 x.f1 hlab.1 (HXL.out.2.2 x (List.mem_of_getElem? hx.out)) hA1)
                  rw [hn1.out] at HCL CC
                  have s1 : wr.cell? ⟨g, i * 3 + 1, none⟩ = some (.slice A1 n1 c1) := CC.out 1 _ rfl
                  clear hrw hlw hr hc1 hA1 hlab hC8 e8 hcells hcl8 hcell8 hrl e9
                  go_wp2_with fail
                  refine HCL.out.mono ?_
                  rintro e w3 ⟨v3, rfl, hr3, hb3⟩
                  obtain ⟨A3, c3, e3, hc3, hA3, hl3⟩ := LabAt.of_R hr3
                  rw [hn1.out] at e3
                  subst e3
                  have H3 : Hid (Below wr.heap.size wr w3 ∧ x.f1.length ≤ c3 ∧ (A3 = none → c3 = 0) ∧ LabAt w3 A3 x.f1) := ⟨hb3, hc3, hA3, hl3⟩
                  have HR3 : Hid ((Kd.raw 3).R 43 w3 w1.heap.size (fun _ => True) (.slice (some ⟨g, 0, none⟩) N c9) rowsW) := Kd.R_below HRW.out.1 hb3
                  have hgl : g < wr.heap.size := lt_of_get (Kd.R_typed HRW.out.1 g rfl).choose_spec
                  have CC3 : Hid (∀ (q : Nat) (u : Value), ([.string x.f0, .slice A1 n1 c1, .int .u64 x.f2] : List Value)[q]? = some u → w3.cell? ⟨g, i * 3 + q, none⟩ = some u) := fun q u hu => pw_cell_below hb3 (CC.out q u hu)
                  obtain ⟨cg, hcg⟩ := Kd.R_typed HR3.out g rfl
                  have k3 : w3.frozen? ⟨g, i * 3 + 1, none⟩ = false := frozenB hcg _
                  have q3 : w3.cell? ⟨g, i * 3 + 1, none⟩ = some (.slice A1 n1 c1) := CC3.out 1 _ rfl
                  have hseg := Kd.R_seg (okp := fun _ => False) HR3.out (i : Int) (by omega) hki (c := [.string x.f0, .slice A1 n1 c1, .int .u64 x.f2]) (seg := [.slice A3 n1 c3]) (j := 1) rfl (fun q u hu => CC3.out q u hu) (by show 2 ≤ 3; omega) (x' := [.string x.f0, .slice A3 n1 c3, .int .u64 x.f2]) (raw3M _ _ _ _ _ _ _ _) (fun _ h => h.elim)
                  have H4 : Hid (LW (w3.setCell ⟨g, i * 3 + 1, none⟩ (.slice A3 n1 c3)) w1.heap.size (.slice (some ⟨g, 0, none⟩) N c9) X ∧ Below w1.heap.size w1 (w3.setCell ⟨g, i * 3 + 1, none⟩ (.slice A3 n1 c3))) := by
                    have hk : KL w3 (w3.setCell ⟨g, i * 3 + 1, none⟩ (.slice A3 n1 c3)) := KL.set hcg (by decide)
                    have hg1 : w1.heap.size ≤ g := Kd.R_base HR3.out g rfl
                    refine ⟨⟨_, hseg.1, ?_⟩, (HW.out.2.trans (H3.out.1.mono HW.out.2.size)).setCell (p := ⟨g, i * 3 + 1, none⟩) hg1 _⟩
                    exact ((HRW.out.2.keep (KL.below H3.out.1)).keep hk).set hx.out ⟨A3, c3, by rw [← hn1.out], H3.out.2.1, H3.out.2.2.1, H3.out.2.2.2.keep hk⟩
                  clear hr3 hb3 hc3 hA3 hl3 s1 HCL hcg hseg hgl
                  go_wp2_with fail
                  have hlb := HLT.out
                  go_roundw
                  case rel => exact ⟨i + 1, by go_num, HLT.out, H4⟩
                  case measure => simp [intOf]; omega
                · obtain rfl : i = N := by omega
                  go_wp2_with fail
                  go_ret
                  exact ⟨_, rfl, HW.out.1.lower H1.out.2.size, H1.out.2.trans (HW.out.2.mono H1.out.2.size)⟩
end Go.Proofs.YtdbmcikoiilanaaDoor.Xp
set_option linter.unusedVariables false
set_option linter.unusedSimpArgs false
namespace Go.Proofs.YtdbmcikoiilanaaDoor.Xp
open Go.RowKit Go.Proofs.YtdbmcikoiilanaaDoor.B0 Go.Proofs.YtdbmcikoiilanaaDoorW.PrintWords Go.Proofs.YtdbmcikoiilanaaDoor.Bld Go.Proofs.YtdbmcikoiilanaaDoor.Pp

def Alive : Prop := ∀ w : World, LP w → Calls Tryd.prog 7 #[] w fun e w' => e = .returned (.bool true) ∧ Below w.heap.size w w'
set_option maxHeartbeats 8000000 in
set_option maxRecDepth 100000 in
theorem parses_v (AL : Alive) (w : World) (hP : LP w) (s : ByteArray) (hs : s.size ≤ maxLen) :
    Calls Tryd.prog 4 #[.string s] w fun e w' => e = .returned (.bool true) ∧ Below w.heap.size w w' := by
  have HL := Lib.hid hP; clear hP
  have hal := Lib.hid (AL w HL.out); clear AL
  go_enter Tryd.func4, Tryd.ntmps4
  go_wp2_with fail
  refine hal.out.mono ?_
  rintro e w1 ⟨rfl, hb1⟩
  have HB1 := Lib.hid hb1; clear hb1 hal
  by_cases h3 : s.size > 3000
  · have hq : decide ((3000 : Int) < (s.size : Int)) = true := decide_eq_true (by omega)
    have hq2 : decide (3000 < s.size) = true := decide_eq_true (by omega)
    go_wp2_with fail
    go_ret
    exact ⟨rfl, HB1.out⟩
  have hq : decide ((3000 : Int) < (s.size : Int)) = false := decide_eq_false (by omega)
  have hq2 : decide (3000 < s.size) = false := decide_eq_false (by omega)
  have HPC := Lib.hid (Parse_c s (by omega) w1 (HL.out.below HB1.out))
  go_wp2_with fail
  refine HPC.out.mono ?_
  rintro e w2 ⟨v, er, rfl, hpe, hb2⟩
  have HB2 := Lib.hid (HB1.out.trans (hb2.mono HB1.out.size)); clear hb2
  rcases hpe with ⟨xs, hp, rfl, hS, hv, hbd⟩ | ⟨hp, rfl, rfl⟩
  · obtain ⟨A, c, rfl, hc, hC⟩ := Kd.S_reads hS
    have HT := Lib.hid (parseR_text _ _ hp)
    have HPR := Lib.hid (Print_c w2 (HL.out.below HB2.out) A c xs hC hv hbd)
    obtain ⟨n, hn⟩ : ∃ n, Hid (xs.length = n) := ⟨_, Lib.hid rfl⟩
    rw [HT.out, hn.out] at HPR
    rw [hn.out]
    have hst : strV s.data.toList = .string s := rfl
    rw [hst] at HPR
    clear hp hS hC hc hv hbd hst
    have hee : (s.toList == s.toList) = true := by simp
    go_wp2_with fail
    refine HPR.out.mono ?_
    rintro e w3 ⟨rfl, hb3⟩
    have HB3 := Lib.hid (HB2.out.trans (hb3.mono HB2.out.size)); clear hb3
    go_wp2_with fail
    go_ret
    exact ⟨rfl, HB3.out⟩
  · clear hp
    go_wp2_with fail
    go_ret
    exact ⟨rfl, HB2.out⟩
end Go.Proofs.YtdbmcikoiilanaaDoor.Xp
set_option linter.unusedVariables false
set_option linter.unusedSimpArgs false
namespace Go.Proofs.YtdbmcikoiilanaaDoor.Xp
open Go.RowKit Go.Proofs.YtdbmcikoiilanaaDoor.B0 Go.Proofs.YtdbmcikoiilanaaDoorW.PrintWords Go.Proofs.YtdbmcikoiilanaaDoor.Bld Go.Proofs.YtdbmcikoiilanaaDoor.Pp Go.Proofs.YtdbmcikoiilanaaDoor.Kn

theorem kRow_mk (w : World) (x : SRow) (A0 A1 A2 : Option Addr) (c0 c1 c2 : Nat) (h0 : x.f0.length ≤ c0) (C0 : Kd.C Kd.string w A0 x.f0.length x.f0) (h1 : x.f5.length ≤ c1) (C1 : Kd.C k61 w A1 x.f5.length x.f5) (h2 : x.f6.length ≤ c2) (C2 : Kd.C k98 w A2 x.f6.length x.f6) :
    k70.K w x [.slice A0 x.f0.length c0, .bool x.f1, .int .u64 x.f2.f0, .bool x.f2.f1, .int .u64 x.f3.f0, .bool x.f3.f1, .int .u64 x.f4.f0, .bool x.f4.f1, .slice A1 x.f5.length c1, .slice A2 x.f6.length c2] :=
  ⟨[.slice A0 x.f0.length c0], _, rfl, ⟨A0, c0, rfl, h0, C0⟩, [.bool x.f1], _, rfl, rfl, [.int .u64 x.f2.f0, .bool x.f2.f1], _, rfl, k61_mk _ _, [.int .u64 x.f3.f0, .bool x.f3.f1], _, rfl, k61_mk _ _, [.int .u64 x.f4.f0, .bool x.f4.f1], [.slice A1 x.f5.length c1, .slice A2 x.f6.length c2], rfl, k61_mk _ _, [.slice A1 x.f5.length c1], [.slice A2 x.f6.length c2], rfl, ⟨A1, c1, rfl, h1, C1⟩, ⟨A2, c2, rfl, h2, C2⟩⟩
/-- one element's row reads. -/
theorem C_one {α : Type} (d : Kd α) (w : World) (b : Nat) (x : α) (cs : Array Value) (T : TypeId) (hb : w.heap[b]? = some (.cells cs T (0, 0))) (hK : d.K w x cs.toList) : Kd.C d w (some ⟨b, 0, none⟩) 1 [x] := by
  refine ⟨rfl, by decide, fun _ => ⟨_, rfl, fun j p hj => ?_⟩⟩
  match j, hj with
  | 0, hj =>
    obtain rfl := Option.some.inj hj
    refine ⟨cs.toList, d.K_len hK, hK, fun i u hu => ?_⟩
    have e : (⟨b, 0, none⟩ : Addr).add (0 * d.sz + i) = ⟨b, i, none⟩ := by
      rw [Nat.zero_mul, Nat.zero_add]; unfold Addr.add
      split
      · rename_i h0; rw [h0]
      · simp
    rw [e, cellB hb]
    simpa using hu
  | j + 1, hj => simp at hj
def exRow : SRow := ⟨[⟨#[119, 101, 98]⟩], false, ⟨5, false⟩, ⟨0, false⟩, ⟨0, false⟩, [], []⟩
def exS : ByteArray := ⟨#[115, 112, 97, 110, 115, 123, 108, 48, 61, 34, 119, 101, 98, 34, 125, 32, 53, 10]⟩
def exT : ByteArray := ⟨#[115, 112, 97, 110, 115, 123, 125, 32, 53]⟩
def exL : Ln := ⟨[115, 112, 97, 110, 115], [⟨[108, 48], [119, 101, 98]⟩], 5⟩
theorem exS_parse : parseR exS.data.toList = some [exL] := by decide +kernel
theorem exT_parse : parseR exT.data.toList = none := by decide +kernel
theorem ex_print : strV (printP [exL]) = .string exS := by kernel_rfl
theorem ex_line : (linesL 0 [exRow] [] [0, 0, 0])[1]? = some ⟨⟨#[115, 112, 97, 110, 115]⟩, [⟨⟨#[108, 48]⟩, ⟨#[119, 101, 98]⟩⟩], 5⟩ := by kernel_rfl
def exY : SLin := ⟨⟨#[115, 112, 97, 110, 115]⟩, [⟨⟨#[108, 48]⟩, ⟨#[119, 101, 98]⟩⟩], 5⟩
theorem ex_mid : ((linesL 0 [exRow] [] [0, 0, 0]).take 2).drop 1 = [exY] := by kernel_rfl
theorem ex_len : (linesL 0 [exRow] [] [0, 0, 0]).length = 7 := by kernel_rfl
set_option maxHeartbeats 8000000 in
set_option maxRecDepth 100000 in
theorem alive_c : Alive := by
  intro w hP
  have HP := Lib.hid hP; clear hP
  obtain ⟨R, hR⟩ : ∃ R, Hid (w.heap.size = R) := ⟨_, Lib.hid rfl⟩
  obtain ⟨w1, hw1⟩ : ∃ w1, Hid (((w.alloc (.cells #[.string ⟨#[119, 101, 98]⟩] 9)).alloc (.cells #[.slice (some ⟨R, 0, none⟩) 1 1, .bool false, .int .u64 5, .bool false, .int .u64 0, .bool false, .int .u64 0, .bool false, .slice none 0 0, .slice none 0 0] 70)).alloc (.cells #[.int .u64 0, .slice (some ⟨R + 1, 0, none⟩) 1 1, .slice none 0 0, .int .u64 0, .bool false, .int .u64 0, .bool false, .int .u64 0, .bool false] 64) = w1) := ⟨_, Lib.hid rfl⟩
  have h1 : (w.alloc (.cells #[.string ⟨#[119, 101, 98]⟩] 9)).heap.size = R + 1 := by rw [size_alloc, hR.out]
  have h2 : ((w.alloc (.cells #[.string ⟨#[119, 101, 98]⟩] 9)).alloc (.cells #[.slice (some ⟨R, 0, none⟩) 1 1, .bool false, .int .u64 5, .bool false, .int .u64 0, .bool false, .int .u64 0, .bool false, .slice none 0 0, .slice none 0 0] 70)).heap.size = R + 2 := by rw [size_alloc, h1]
  have HB1 : Hid (Below w.heap.size w w1) := by
    rw [← hw1.out]
    exact (((Below.refl _ _).alloc (Nat.le_refl _) _).alloc (by rw [h1, hR.out]; omega) _).alloc (by rw [h2, hR.out]; omega) _
  have q0 : w1.heap[R]? = some (.cells #[.string ⟨#[119, 101, 98]⟩] 9 (0, 0)) := by
    rw [← hw1.out]
    refine (allocO _ _ (by rw [h2]; omega)).trans ((allocO _ _ (by rw [h1]; omega)).trans ?_)
    rw [← hR.out]; exact allocN _ _
  have q1 : w1.heap[R + 1]? = some (.cells #[.slice (some ⟨R, 0, none⟩) 1 1, .bool false, .int .u64 5, .bool false, .int .u64 0, .bool false, .int .u64 0, .bool false, .slice none 0 0, .slice none 0 0] 70 (0, 0)) := by
    rw [← hw1.out]
    refine (allocO _ _ (by rw [h2]; omega)).trans ?_
    rw [← h1]; exact allocN _ _
  have q2 : w1.heap[R + 2]? = some (.cells #[.int .u64 0, .slice (some ⟨R + 1, 0, none⟩) 1 1, .slice none 0 0, .int .u64 0, .bool false, .int .u64 0, .bool false, .int .u64 0, .bool false] 64 (0, 0)) := by
    rw [← hw1.out, ← h2]; exact allocN _ _
  have HC1 : Hid (Kd.C k70 w1 (some ⟨R + 1, 0, none⟩) 1 [exRow]) :=
    C_one _ w1 (R + 1) exRow _ _ q1 (kRow_mk w1 exRow (some ⟨R, 0, none⟩) none none 1 0 0 (Nat.le_refl _) (C_one Kd.string w1 R _ _ _ q0 rfl) (Nat.zero_le _) (Kd.C_nil _ _) (Nat.zero_le _) (Kd.C_nil _ _))
  have e0 : w1.cell? ⟨R + 2, 0, none⟩ = some (.int .u64 0) := by rw [cellB q2]; rfl
  have e1 : w1.cell? ⟨R + 2, 1, none⟩ = some (.slice (some ⟨R + 1, 0, none⟩) 1 1) := by rw [cellB q2]; rfl
  have e2 : w1.cell? ⟨R + 2, 2, none⟩ = some (.slice none 0 0) := by rw [cellB q2]; rfl
  have e3 : w1.cell? ⟨R + 2, 3, none⟩ = some (.int .u64 0) := by rw [cellB q2]; rfl
  have e4 : w1.cell? ⟨R + 2, 4, none⟩ = some (.bool false) := by rw [cellB q2]; rfl
  have e5 : w1.cell? ⟨R + 2, 5, none⟩ = some (.int .u64 0) := by rw [cellB q2]; rfl
  have e6 : w1.cell? ⟨R + 2, 6, none⟩ = some (.bool false) := by rw [cellB q2]; rfl
  have e7 : w1.cell? ⟨R + 2, 7, none⟩ = some (.int .u64 0) := by rw [cellB q2]; rfl
  have e8 : w1.cell? ⟨R + 2, 8, none⟩ = some (.bool false) := by rw [cellB q2]; rfl
  clear q0 q1 q2 h1 h2
  have HLN := Lib.hid (Lines_c w1 (HP.out.below HB1.out) 0 (some ⟨R + 1, 0, none⟩) 1 [exRow] none 0 [] 0 0 0 false false false HC1.out (Kd.C_nil _ _) (by simp) (by simp) (fun r hr => by rw [List.mem_singleton] at hr; subst hr; exact ⟨by decide, by decide⟩))
  go_enter Tryd.func7, Tryd.ntmps7
  go_upto_region 2 with fail
  rw [hR.out, hw1.out]
  go_wp2_with fail
  refine HLN.out.mono ?_
  rintro e w2 ⟨v2, rfl, hl2, hb2⟩
  obtain ⟨A2, c2, e9, hc2, hC2⟩ := hl2.reads
  rw [ex_len] at e9 hc2 hC2
  subst e9
  have H2 : Hid (Kd.C k43 w2 A2 7 (linesL 0 [exRow] [] [0, 0, 0]) ∧ 7 ≤ c2 ∧ Below w.heap.size w w2) := ⟨hC2, hc2, HB1.out.trans (hb2.mono HB1.out.size)⟩
  clear hl2 hb2 hc2 hC2 e0 e1 e2 e3 e4 e5 e6 e7 e8 HLN HC1
  have HPS := Lib.hid (Parse_c exS (by decide) w2 (HP.out.below H2.out.2.2))
  rw [show exS = ⟨#[115, 112, 97, 110, 115, 123, 108, 48, 61, 34, 119, 101, 98, 34, 125, 32, 53, 10]⟩ from rfl] at HPS
  go_wp2_with fail
  refine HPS.out.mono ?_
  rintro e w3 ⟨v3, er3, rfl, hp3, hb3⟩
  obtain ⟨x, hx, rfl, hS3⟩ : ∃ x : SLin, lnM x = exL ∧ er3 = 0 ∧ PSL w3 w2.heap.size v3 [x] := by
    rcases hp3 with ⟨xs, h1, h2, h3, _⟩ | ⟨h1, _⟩
    · have h4 := h1.symm.trans exS_parse
      have h5 := (Option.some.inj h4).symm
      rcases xs with _ | ⟨x, _ | ⟨z, r⟩⟩
      · cases h5
      · exact ⟨x, (List.cons.inj h5).1.symm, h2, h3⟩
      · cases (List.cons.inj h5).2
    · have := h1.symm.trans exS_parse; cases this
  obtain ⟨A3, c3, e9, _, hC3⟩ := Kd.S_reads hS3
  rw [show ([x] : List SLin).length = 1 from rfl] at e9 hC3
  subst e9
  have H3 : Hid (Kd.C k43 w3 A3 1 [x] ∧ Below w2.heap.size w2 w3 ∧ Below w.heap.size w w3) := ⟨hC3, hb3, H2.out.2.2.trans (hb3.mono H2.out.2.2.size)⟩
  clear hp3 hb3 hS3 hC3 HPS
  have HPT := Lib.hid (Parse_c exT (by decide) w3 (HP.out.below H3.out.2.2))
  rw [show exT = ⟨#[115, 112, 97, 110, 115, 123, 125, 32, 53]⟩ from rfl] at HPT
  go_wp2_with fail
  refine HPT.out.mono ?_
  rintro e w4 ⟨v4, er4, rfl, hp4, hb4⟩
  obtain ⟨rfl, rfl⟩ : er4 = 11 ∧ v4 = .slice none 0 0 := by
    rcases hp4 with ⟨xs, h1, _⟩ | ⟨_, h1, h2⟩
    · have := h1.symm.trans exT_parse; cases this
    · exact ⟨h1, h2⟩
  obtain ⟨y, hy⟩ : ∃ y, Hid (exY = y ∧ lnM y = exL ∧ y.f2 = 5) := ⟨_, rfl, rfl, rfl⟩
  obtain ⟨ad2, rfl, hcell2⟩ := H2.out.1.2.2 (by decide)
  have H4 : Hid (Kd.C k43 w4 (some ⟨ad2.block, ad2.off + 3, none⟩) 1 [y] ∧ Kd.C k43 w4 A3 1 [x] ∧ Below w.heap.size w w4) := by
    have hb24 : Below w2.heap.size w2 w4 := H3.out.2.1.trans (hb4.mono H3.out.2.1.size)
    have h := Kd.C_mid (lo := 1) (hi := 2) (c := 7) (xs := linesL 0 [exRow] [] [0, 0, 0]) (by rw [ex_len]; exact Kd.C_below H2.out.1 hb24) (by decide) (by rw [ex_len]; decide) (by rw [ex_len]; decide)
    rw [ex_mid, hy.out.1] at h
    exact ⟨h, Kd.C_below H3.out.1 hb4, H3.out.2.2.trans (hb4.mono H3.out.2.2.size)⟩
  clear hp4 hb4 hcell2 HPT
  have HPR := Lib.hid (Print_c w4 (HP.out.below H4.out.2.2) (some ⟨ad2.block, ad2.off + 3, none⟩) (c2 - 1) [y] H4.out.1 (fun z hz => by rw [List.mem_singleton] at hz; subst hz; rw [hy.out.2.2]; omega) (by rw [List.map_cons, List.map_nil, hy.out.2.1]; decide +kernel))
  rw [List.map_cons, List.map_nil, hy.out.2.1, ex_print] at HPR
  rw [show ([y] : List SLin).length = 1 from rfl, show exS = ⟨#[115, 112, 97, 110, 115, 123, 108, 48, 61, 34, 119, 101, 98, 34, 125, 32, 53, 10]⟩ from rfl] at HPR
  have hcc : ¬ c2 < 2 := by have := H2.out.2.1; omega
  obtain ⟨z, hz, hzt⟩ : ∃ z : SLab, x.f1 = [z] ∧ z.f1 = ⟨#[119, 101, 98]⟩ := by
    have h1 : x.f1.map lbM = [⟨[108, 48], [119, 101, 98]⟩] := congrArg Ln.ls hx
    rcases h2 : x.f1 with _ | ⟨z, _ | ⟨z2, r⟩⟩
    · rw [h2] at h1; cases h1
    · rw [h2] at h1
      have h3 : z.f1.data.toList = [119, 101, 98] := congrArg Lb.t (List.cons.inj h1).1
      refine ⟨z, rfl, ?_⟩
      have h4 : z.f1.data = #[119, 101, 98] := by rw [← Array.toArray_toList (xs := z.f1.data), h3]
      cases h5 : z.f1 with | mk d => rw [h5] at h4; exact congrArg ByteArray.mk h4
    · rw [h2] at h1; cases (List.cons.inj h1).2
  obtain ⟨ad3, A5, c5, rfl, _, d1, _, hc5, hC5⟩ := at_T43 H4.out.2.1 0 (by omega) (by omega)
  rw [show rd_T43 [x] 0 = x from rfl, hz] at d1 hC5 hc5
  obtain ⟨ad5, rfl, _, d2⟩ := at_T71 hC5 0 (by omega) (by simp)
  rw [show rd_T71 [z] 0 = z from rfl, hzt] at d2
  have HD : Hid (w4.cell? ⟨ad3.block, ad3.off + 1, none⟩ = some (.slice (some ad5) 1 c5) ∧ w4.cell? ⟨ad5.block, ad5.off + 1, none⟩ = some (.string ⟨#[119, 101, 98]⟩)) := ⟨d1, d2⟩
  clear d1 d2 hC5 hc5 hz hzt hx
  go_wp2_with fail
  refine HPR.out.mono ?_
  rintro e w5 ⟨rfl, hb5⟩
  have g1 := pw_cell_below hb5 HD.out.1
  have g2 := pw_cell_below hb5 HD.out.2
  have HB5 := Lib.hid (H4.out.2.2.trans (hb5.mono H4.out.2.2.size))
  clear hb5 HPR
  go_wp2_with fail
  go_ret
  exact ⟨rfl, HB5.out⟩
end Go.Proofs.YtdbmcikoiilanaaDoor.Xp
set_option linter.unusedVariables false
set_option linter.unusedSimpArgs false
namespace Go.Proofs.YtdbmcikoiilanaaDoor.Pp
open Go.RowKit Go.Proofs.YtdbmcikoiilanaaDoor.B0 Go.Proofs.YtdbmcikoiilanaaDoorW.PrintWords
def W29 (y : S29) : Prop := y.f0.size ≤ maxLen ∧ y.f1.size ≤ maxLen
theorem op29 : OpK Tryd.prog 29 k29 W29 := by
  intro H enc w base spare held fuel cs x h
  obtain ⟨xs, n, rfl, hx, hl, hxs, hf⟩ := DataW.trod_struct Tryd.underlying29 h
  have hl' : cs.length = 2 := hl.trans (by kernel_rfl)
  obtain ⟨y0, J0, X0⟩ := OpK.field hxs hf 0 _ rfl 9 0 1 rfl rfl (by kernel_rfl) (OpK.string Tryd.underlying9)
  obtain ⟨y1, J1, X1⟩ := OpK.field hxs hf 1 _ rfl 9 1 1 rfl rfl (by kernel_rfl) (OpK.string Tryd.underlying9)
  rw [List.take_of_length_le (by rw [List.length_drop]; omega)] at J1
  exact ⟨⟨y0, y1⟩, ⟨_, _, split_at 0 1 cs, J0, J1⟩, ⟨X0, X1⟩⟩
def W27 (y : S27) : Prop := y.f0.size ≤ maxLen ∧ (y.f1.length ≤ maxLen ∧ ∀ z ∈ y.f1, W29 z) ∧ (Lit.int .u64 y.f2).wf = true
theorem op27 : OpK Tryd.prog 27 k27 W27 := by
  intro H enc w base spare held fuel cs x h
  obtain ⟨xs, n, rfl, hx, hl, hxs, hf⟩ := DataW.trod_struct Tryd.underlying27 h
  have hl' : cs.length = 3 := hl.trans (by kernel_rfl)
  obtain ⟨y0, J0, X0⟩ := OpK.field hxs hf 0 _ rfl 9 0 1 rfl rfl (by kernel_rfl) (OpK.string Tryd.underlying9)
  obtain ⟨y1, J1, X1⟩ := OpK.field hxs hf 1 _ rfl 24 1 1 rfl rfl (by kernel_rfl) (OpK.slice Tryd.underlying24 (by kernel_rfl) op29)
  obtain ⟨y2, J2, X2⟩ := OpK.field hxs hf 2 _ rfl 25 2 1 rfl rfl (by kernel_rfl) (OpK.int Tryd.underlying25)
  rw [List.take_of_length_le (by rw [List.length_drop]; omega)] at J2
  exact ⟨⟨y0, y1, y2⟩, ⟨_, _, split_at 0 1 cs, J0, ⟨_, _, split_at 1 1 cs, J1, J2⟩⟩, ⟨X0, X1, X2⟩⟩
def W71 (y : S71) : Prop := y.f0.size ≤ maxLen ∧ y.f1.size ≤ maxLen
theorem op71 : OpK Tryd.prog 71 k71 W71 := by
  intro H enc w base spare held fuel cs x h
  obtain ⟨xs, n, rfl, hx, hl, hxs, hf⟩ := DataW.trod_struct Tryd.underlying71 h
  have hl' : cs.length = 2 := hl.trans (by kernel_rfl)
  obtain ⟨y0, J0, X0⟩ := OpK.field hxs hf 0 _ rfl 9 0 1 rfl rfl (by kernel_rfl) (OpK.string Tryd.underlying9)
  obtain ⟨y1, J1, X1⟩ := OpK.field hxs hf 1 _ rfl 9 1 1 rfl rfl (by kernel_rfl) (OpK.string Tryd.underlying9)
  rw [List.take_of_length_le (by rw [List.length_drop]; omega)] at J1
  exact ⟨⟨y0, y1⟩, ⟨_, _, split_at 0 1 cs, J0, J1⟩, ⟨X0, X1⟩⟩
def W43 (y : S43) : Prop := y.f0.size ≤ maxLen ∧ (y.f1.length ≤ maxLen ∧ ∀ z ∈ y.f1, W71 z) ∧ (Lit.int .u64 y.f2).wf = true
theorem op43 : OpK Tryd.prog 43 k43 W43 := by
  intro H enc w base spare held fuel cs x h
  obtain ⟨xs, n, rfl, hx, hl, hxs, hf⟩ := DataW.trod_struct Tryd.underlying43 h
  have hl' : cs.length = 3 := hl.trans (by kernel_rfl)
  obtain ⟨y0, J0, X0⟩ := OpK.field hxs hf 0 _ rfl 9 0 1 rfl rfl (by kernel_rfl) (OpK.string Tryd.underlying9)
  obtain ⟨y1, J1, X1⟩ := OpK.field hxs hf 1 _ rfl 41 1 1 rfl rfl (by kernel_rfl) (OpK.slice Tryd.underlying41 (by kernel_rfl) op71)
  obtain ⟨y2, J2, X2⟩ := OpK.field hxs hf 2 _ rfl 25 2 1 rfl rfl (by kernel_rfl) (OpK.int Tryd.underlying25)
  rw [List.take_of_length_le (by rw [List.length_drop]; omega)] at J2
  exact ⟨⟨y0, y1, y2⟩, ⟨_, _, split_at 0 1 cs, J0, ⟨_, _, split_at 1 1 cs, J1, J2⟩⟩, ⟨X0, X1, X2⟩⟩
end Go.Proofs.YtdbmcikoiilanaaDoor.Pp
