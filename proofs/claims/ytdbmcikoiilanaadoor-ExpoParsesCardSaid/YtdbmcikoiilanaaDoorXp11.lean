/- expo: the reader's line, as a Call. -/
import Derived.Test.YtdbmcikoiilanaaDoorXp10
set_option linter.unusedVariables false
set_option linter.unusedSimpArgs false
namespace Go.Proofs.YtdbmcikoiilanaaDoor.Xp
open Go.RowKit Go.Proofs.YtdbmcikoiilanaaDoor.B0 Go.Proofs.YtdbmcikoiilanaaDoorW.PrintWords Go.Proofs.YtdbmcikoiilanaaDoorW.PrintLast Go.Proofs.YtdbmcikoiilanaaDoor.Bld Go.Proofs.YtdbmcikoiilanaaDoor.Pp Go.Proofs.YtdbmcikoiilanaaDoor.Bl2

/-- what is left to do at the loop's head. -/
def LI (s nm : BL) (more : Bool) (sr : BL) (bd : Bool) (ls : List Lb) : Prop :=
  (bd = true ∧ lineM s = none) ∨ (bd = false ∧ more = false ∧ ls = [] ∧ lineM s = tailM nm [] sr) ∨ (bd = false ∧ more = false ∧ ls ≠ [] ∧ lineM s = (nextM 125 sr).bind fun s4 => tailM nm ls s4) ∨
    (bd = false ∧ more = true ∧ ∃ f, sr.length < f ∧ lineM s = (labM f sr ls).bind fun q => (nextM 125 q.2).bind fun s4 => tailM nm q.1 s4)
theorem LI_step (s nm sr k s3 t s5 s8 : BL) (ls : List Lb) (b3 b5 ok : Bool) (h : LI s nm true sr false ls) (h1 : (untilM 61 sr = some (k, s3) ∧ b3 = false) ∨ (untilM 61 sr = none ∧ b3 = true))
    (h2 : (b3 = false ∧ quotedM s3 = some (t, s5) ∧ b5 = false) ∨ ((b3 = true ∨ quotedM s3 = none) ∧ b5 = true)) (h3 : (b5 = false ∧ ok = true ∧ nextM 44 s5 = some s8) ∨ ((b5 = true ∨ nextM 44 s5 = none) ∧ ok = false ∧ s8 = s5)) :
    LI s nm ok s8 b5 (ls ++ [⟨k, t⟩]) ∧ s8.length ≤ s5.length ∧ (b5 = false → s8.length + 3 ≤ sr.length) := by
  have h4 : s8.length ≤ s5.length := by
    rcases h3 with ⟨_, _, h⟩ | ⟨_, _, rfl⟩
    · have := next_len _ _ _ h; omega
    · exact Nat.le_refl _
  obtain ⟨f, hf, hl⟩ : ∃ f, sr.length < f ∧ lineM s = (labM f sr ls).bind fun q => (nextM 125 q.2).bind fun s4 => tailM nm q.1 s4 := by
    rcases h with ⟨h, _⟩ | ⟨_, h, _⟩ | ⟨_, h, _⟩ | ⟨_, _, h⟩
    · cases h
    · cases h
    · cases h
    · exact h
  obtain ⟨g, rfl⟩ : ∃ g, f = g + 1 := ⟨f - 1, by omega⟩
  rcases h1 with ⟨h1, rfl⟩ | ⟨h1, rfl⟩
  · have hu := until_len _ _ _ _ h1
    rcases h2 with ⟨_, h2, rfl⟩ | ⟨h2, rfl⟩
    · have hq := quoted_len _ _ _ h2
      refine ⟨?_, h4, fun _ => by omega⟩
      rcases h3 with ⟨_, rfl, h3⟩ | ⟨h3, rfl, rfl⟩
      · refine .inr (.inr (.inr ⟨rfl, rfl, g, by omega, ?_⟩))
        rw [hl, labM, h1, Option.bind_some, h2, Option.bind_some]; simp only [h3]
      · rcases h3 with h3 | h3
        · cases h3
        · refine .inr (.inr (.inl ⟨rfl, rfl, by simp, ?_⟩))
          rw [hl, labM, h1, Option.bind_some, h2, Option.bind_some]; simp only [h3, Option.bind_some]
    · refine ⟨.inl ⟨rfl, ?_⟩, h4, fun e => by cases e⟩
      rcases h2 with h2 | h2
      · cases h2
      · rw [hl, labM, h1, Option.bind_some, h2]; rfl
  · have h5 : b5 = true := by
      rcases h2 with ⟨h, _⟩ | ⟨_, h⟩
      · cases h
      · exact h
    refine ⟨.inl ⟨h5, ?_⟩, h4, fun e => by rw [h5] at e; cases e⟩
    rw [hl, labM, h1]; rfl
/-- behind the loop. -/
def DI (s nm sr : BL) (bd : Bool) (ls : List Lb) : Prop := (bd = true ∧ lineM s = none) ∨ (bd = false ∧ ls = [] ∧ lineM s = tailM nm [] sr) ∨ (bd = false ∧ ls ≠ [] ∧ lineM s = (nextM 125 sr).bind fun s4 => tailM nm ls s4)
theorem DI_of (s nm sr : BL) (more bd : Bool) (ls : List Lb) (h : LI s nm more sr bd ls) (hs : (more && !bd) = false) : DI s nm sr bd ls := by
  rcases h with h | ⟨h, _, h3⟩ | ⟨h, _, h3⟩ | ⟨h, h3, _⟩
  · exact .inl h
  · exact .inr (.inl ⟨h, h3⟩)
  · exact .inr (.inr ⟨h, h3⟩)
  · rw [h, h3] at hs; cases hs
theorem nx_conv {b ok : Bool} {c : UInt8} {s s' : ByteArray} (h : (b = false ∧ ok = true ∧ nextM c s.data.toList = some s'.data.toList) ∨ ((b = true ∨ nextM c s.data.toList = none) ∧ ok = false ∧ s' = s)) : (b = false ∧ ok = true ∧ nextM c s.data.toList = some s'.data.toList) ∨ ((b = true ∨ nextM c s.data.toList = none) ∧ ok = false ∧ s'.data.toList = s.data.toList) := h.imp id fun ⟨a, b, c⟩ => ⟨a, b, by rw [c]⟩
def TI (s nm sr : BL) (bd : Bool) (ls : List Lb) : Prop := (bd = true ∧ lineM s = none) ∨ (bd = false ∧ lineM s = tailM nm ls sr)
def UI (s nm sr : BL) (bd : Bool) (ls : List Lb) : Prop := (bd = true ∧ lineM s = none) ∨ (bd = false ∧ lineM s = (untilM 10 sr).bind fun p => (numM p.1).map fun u => (⟨nm, ls, u⟩, p.2))
theorem TI_nil (s nm sr : BL) (bd : Bool) (ls : List Lb) (h : DI s nm sr bd ls) (hl : ls = []) : TI s nm sr bd ls := by
  rcases h with h | ⟨h, h3, h2⟩ | ⟨h, h3, h2⟩
  · exact .inl h
  · exact .inr ⟨h, by rw [hl, h2]⟩
  · exact absurd hl h3
theorem TI_cons (s nm sr s9 : BL) (bd ok : Bool) (ls : List Lb) (h : DI s nm sr bd ls) (hl : ls ≠ []) (h3 : (bd = false ∧ ok = true ∧ nextM 125 sr = some s9) ∨ ((bd = true ∨ nextM 125 sr = none) ∧ ok = false ∧ s9 = sr)) :
    ((!ok) = true ∧ lineM s = none) ∨ ((!ok) = false ∧ TI s nm s9 bd ls) := by
  rcases h with ⟨h, h2⟩ | ⟨h, h4, h2⟩ | ⟨h, h4, h2⟩
  · rcases h3 with ⟨h3, _⟩ | ⟨_, rfl, _⟩
    · rw [h] at h3; cases h3
    · exact .inl ⟨rfl, h2⟩
  · exact absurd h4 hl
  · rcases h3 with ⟨h5, rfl, h3⟩ | ⟨h3, rfl, _⟩
    · exact .inr ⟨rfl, .inr ⟨h5, by rw [h2, h3]; rfl⟩⟩
    · refine .inl ⟨rfl, ?_⟩
      rcases h3 with h3 | h3
      · rw [h] at h3; cases h3
      · rw [h2, h3]; rfl
theorem UI_of (s nm sr s9 : BL) (bd ok : Bool) (ls : List Lb) (h : TI s nm sr bd ls) (h3 : (bd = false ∧ ok = true ∧ nextM 32 sr = some s9) ∨ ((bd = true ∨ nextM 32 sr = none) ∧ ok = false ∧ s9 = sr)) :
    (ok = true ∧ UI s nm s9 bd ls) ∨ (ok = false ∧ lineM s = none) := by
  rcases h3 with ⟨h1, rfl, h2⟩ | ⟨h1, rfl, _⟩
  · rcases h with ⟨h, _⟩ | ⟨_, h⟩
    · rw [h] at h1; cases h1
    · exact .inl ⟨rfl, .inr ⟨h1, by rw [h]; unfold tailM; rw [h2]; rfl⟩⟩
  · refine .inr ⟨rfl, ?_⟩
    rcases h with ⟨_, h⟩ | ⟨h0, h⟩
    · exact h
    · rcases h1 with h1 | h1
      · rw [h0] at h1; cases h1
      · rw [h]; unfold tailM; rw [h1]; rfl
/-- how line ends. -/
def LPost (s : ByteArray) (x : SLin) (s' : ByteArray) (b' : Bool) : Prop := (lineM s.data.toList = some (lnM x, s'.data.toList) ∧ 0 ≤ x.f2 ∧ b' = false) ∨ (lineM s.data.toList = none ∧ b' = true)
theorem LP_fin (s : ByteArray) (nm wd s11 : ByteArray) (s10 : BL) (ls : List SLab) (bd b11 er : Bool) (n : Int) (h : UI s.data.toList nm.data.toList s10 bd (ls.map lbM))
    (h1 : (untilM 10 s10 = some (wd.data.toList, s11.data.toList) ∧ b11 = bd) ∨ (untilM 10 s10 = none ∧ b11 = true)) (h2 : (er = false ∧ ∃ u : Nat, numM wd.data.toList = some u ∧ n = u) ∨ (er = true ∧ numM wd.data.toList = none)) : LPost s ⟨nm, ls, n⟩ s11 (b11 || er) := by
  rcases h with ⟨rfl, h⟩ | ⟨rfl, h⟩
  · refine .inr ⟨h, ?_⟩
    rcases h1 with ⟨_, rfl⟩ | ⟨_, rfl⟩ <;> rfl
  · rcases h1 with ⟨h1, rfl⟩ | ⟨h1, rfl⟩
    · rcases h2 with ⟨rfl, u, h2, rfl⟩ | ⟨rfl, h2⟩
      · refine .inl ⟨?_, by show (0 : Int) ≤ (u : Int); omega, rfl⟩
        rw [h, h1, Option.bind_some, h2]
        simp [lnM]
      · exact .inr ⟨by rw [h, h1, Option.bind_some, h2]; rfl, rfl⟩
    · exact .inr ⟨by rw [h, h1]; rfl, rfl⟩
abbrev xcells (nm : ByteArray) (v : Value) (n : Int) : Obj := .cells #[.string nm, v, .int .u64 n] 43 (0, 0)

theorem R_fr {w w' : World} {base R : Nat} {v : Value} {xs : List SLab} (h : Kd.R k71 71 w base (fun _ => True) v xs) (hf : Fr [R] w w') (hR : R < base) : Kd.R k71 71 w' base (fun _ => True) v xs := by
  refine Kd.R_mono (Kd.R_move (Kd.R_bound h) (fun k hk => ?_)) (fun _ hk => hk.1)
  exact hf.block k hk.2.2.1 (by simp; omega)
theorem R_setX {w : World} {base bx : Nat} {v : Value} {xs : List SLab} {o : Nat} {u : Value} {cs : Array Value} (h : Kd.R k71 71 w base (fun _ => True) v xs) (hx : w.heap[bx]? = some (.cells cs 43 (0, 0))) : Kd.R k71 71 (w.setCell ⟨bx, o, none⟩ u) base (fun _ => True) v xs := by
  refine Kd.R_mono (Kd.R_move (Kd.R_bound h) (fun k hk => setO w _ u ?_)) (fun _ hk => hk.1)
  rintro rfl
  obtain ⟨_, _, _, q, hq, cells, hc⟩ := hk
  rw [hx] at hc
  have e := (Obj.cells.inj (Option.some.inj hc)).2.1
  rcases List.mem_cons.1 hq with rfl | hq
  · exact absurd e (by decide)
  · exact absurd hq (by simp [k71, Kd.iso, Kd.pair, Kd.string, Kd.scalar])
theorem setX {w : World} {b : Nat} {nm : ByteArray} {v u : Value} {n : Int} (h : w.heap[b]? = some (xcells nm v n)) : (w.setCell ⟨b, 1, none⟩ u).heap[b]? = some (xcells nm u n) := setB h 1 u
theorem setN {w : World} {b : Nat} {nm : ByteArray} {v : Value} {n m : Int} (h : w.heap[b]? = some (xcells nm v n)) : (w.setCell ⟨b, 2, none⟩ (.int .u64 m)).heap[b]? = some (xcells nm v m) := setB h 2 _
theorem ne_own {w : World} {base bx : Nat} {v : Value} {xs : List SLab} {nm : ByteArray} {u : Value} {n : Int} (h : Kd.R k71 71 w base (fun _ => True) v xs) (hx : w.heap[bx]? = some (xcells nm u n)) : some bx ≠ v.ownBlock := by
  intro e
  obtain ⟨cells, hc⟩ := Kd.R_typed h bx e.symm
  rw [hx] at hc
  exact absurd (Obj.cells.inj (Option.some.inj hc)).2.1 (by decide)
theorem store3 (w wz : World) (R br : Nat) (s : ByteArray) (b : Bool) (nm : ByteArray) (v : Value) (n : Int) (ls : List SLab) (hd : RD wz R s b) (hf : Fr [R] w wz) (hz : wz.heap[br]? = some (xcells ⟨#[]⟩ (.slice none 0 0) 0))
    (hr : Kd.R k71 71 wz w.heap.size (fun _ => True) v ls) (hne : br ≠ R) (hb : w.heap.size ≤ br) (wf : World) (hw : (((wz.setCell ⟨br, 0, none⟩ (.string nm)).setCell ⟨br, 1, none⟩ v).setCell ⟨br, 2, none⟩ (.int .u64 n)).drew = wf) :
    RD wf R s b ∧ Fr [R] w wf ∧ wf.heap[br]? = some (xcells nm v n) ∧ Kd.R k71 71 wf w.heap.size (fun _ => True) v ls := by
  subst hw
  have h0 : (wz.setCell ⟨br, 0, none⟩ (.string nm)).heap[br]? = some (xcells nm (.slice none 0 0) 0) := setB hz 0 _
  have h1 : ((wz.setCell ⟨br, 0, none⟩ (.string nm)).setCell ⟨br, 1, none⟩ v).heap[br]? = some (xcells nm v 0) := setX h0
  have h2 : (((wz.setCell ⟨br, 0, none⟩ (.string nm)).setCell ⟨br, 1, none⟩ v).setCell ⟨br, 2, none⟩ (.int .u64 n)).heap[br]? = some (xcells nm v n) := setN h1
  have hR : ∀ (W : World) (o : Nat) (u : Value), RD W R s b → RD (W.setCell ⟨br, o, none⟩ u) R s b := fun W o u h => (setO W ⟨br, o, none⟩ u (by show R ≠ br; exact fun e => hne e.symm)).trans h
  refine ⟨hR _ _ _ (hR _ _ _ (hR _ _ _ hd)), (((hf.setCell (p := ⟨br, 0, none⟩) (.inr hb) _).setCell (p := ⟨br, 1, none⟩) (.inr hb) _).setCell (p := ⟨br, 2, none⟩) (.inr hb) _).drew, h2, Kd.R_drew (R_setX (R_setX (R_setX hr hz) h0) h1)⟩

def T25_6 : Bool × List (List Nat × List Nat) := (true, [([], []), ([0], [0]), ([], []), ([], []), ([3], [3]), ([2, 4], [2, 4]), ([5], [5]), ([1, 6, 4], [1, 6]), ([0, 1, 2, 3, 4, 5, 6, 7], []), ([8, 7, 7, 0, 1, 2, 3, 4, 5, 6, 7], [7, 8])])
def B25_6 : List Nat := [0, 1, 0, 0, 8, 28, 60, 127, 255, 511]
theorem tab25_6 : rtab .any (opsOf Tryd.f25 6) = T25_6 := by kernel_rfl
theorem bits25_6 : waitsOk T25_6.2 B25_6 = true := by kernel_rfl
def T25_12 : Bool × List (List Nat × List Nat) := (true, [([], []), ([], []), ([], []), ([2], [2]), ([3], [3]), ([4], [4]), ([5], [5]), ([6], [6]), ([7, 6], [6, 7]), ([6, 8], [6, 8]), ([1], []), ([10, 1, 6, 1], [1, 10]), ([0, 0, 1, 2, 3, 4, 5, 6, 7, 8, 9, 10, 11], [0]), ([12, 0, 1, 2, 3, 4, 5, 6, 7, 8, 9, 10, 11], [12]), ([13, 9, 11, 0, 1, 2, 3, 4, 5, 6, 7, 8, 9, 10, 11], [9, 13])])
def B25_12 : List Nat := [0, 0, 0, 4, 12, 28, 60, 124, 252, 508, 2, 1150, 4095, 8191, 16383]
theorem tab25_12 : rtab .any (opsOf Tryd.f25 12) = T25_12 := by kernel_rfl
theorem bits25_12 : waitsOk T25_12.2 B25_12 = true := by kernel_rfl
set_option maxHeartbeats 8000000 in
set_option maxRecDepth 100000 in
theorem line_c (w : World) (R : Nat) (s : ByteArray) (h : RD w R s false) (hL : LP w) (hLR : ∀ w', Fr [R] w w' → LP w') (hs : s.size ≤ 4200000) :
    Calls Tryd.prog 25 #[.pointer (some ⟨R, 0, none⟩)] w fun e w' => ∃ (x : SLin) (v1 : Value) (s' : ByteArray) (b' : Bool), e = .returned (.agg #[.string x.f0, v1, .int .u64 x.f2]) ∧
      Kd.R k71 71 w' w.heap.size (fun _ => True) v1 x.f1 ∧ RD w' R s' b' ∧ Fr [R] w w' ∧ LPost s x s' b' := by
  have HD := Lib.hid h
  have hRw := lt_of_get h
  have HLR := Lib.hid hLR
  clear h hLR hL
  obtain ⟨br, hbr⟩ : ∃ br, Hid (w.heap.size = br) := ⟨_, Lib.hid rfl⟩
  obtain ⟨wa, hwa⟩ : ∃ wa, Hid (w.alloc (xcells ⟨#[]⟩ (.slice none 0 0) 0) = wa) := ⟨_, Lib.hid rfl⟩
  have HA : Hid (RD wa R s false ∧ Fr [R] w wa ∧ wa.heap[br]? = some (xcells ⟨#[]⟩ (.slice none 0 0) 0) ∧ wa.heap.size = w.heap.size + 1) := by
    refine ⟨by rw [← hwa.out]; exact HD.out.keep ((Below.refl _ _).alloc (Nat.le_refl _) _) hRw, by rw [← hwa.out]; exact (Fr.refl [R] w).alloc _, by rw [← hwa.out, ← hbr.out]; exact allocN _ _, by rw [← hwa.out]; exact size_alloc _ _⟩
  have HU := Lib.hid (until_c wa R s false HA.out.1 123 (by omega))
  go_enter Tryd.func25, Tryd.ntmps25
  go_upto_region 1 with fail
  rw [hwa.out, hbr.out]
  go_wp2_with fail
  refine HU.out.mono ?_
  rintro e w1 ⟨nm, s1, b1, rfl, hd1, hf1, hc1⟩
  obtain ⟨bx, hbx⟩ : ∃ bx, Hid (w1.heap.size = bx ∧ bx ≠ R ∧ bx ≠ br ∧ br ≠ R ∧ br < bx ∧ w.heap.size ≤ bx) := ⟨_, rfl, by have := HA.out.2.2.2; have := hf1.size; omega, by have := HA.out.2.2.2; have := hf1.size; have := hbr.out; omega, by have := hbr.out; omega, by have := HA.out.2.2.2; have := hf1.size; have := hbr.out; omega, by have := HA.out.2.2.2; have := hf1.size; omega⟩
  obtain ⟨w2, hw2⟩ : ∃ w2, Hid (w1.alloc (xcells nm (.slice none 0 0) 0) = w2) := ⟨_, Lib.hid rfl⟩
  have H2 : Hid (RD w2 R s1 b1 ∧ Fr [R] w w2 ∧ w2.heap[br]? = some (xcells ⟨#[]⟩ (.slice none 0 0) 0) ∧ w2.heap[bx]? = some (xcells nm (.slice none 0 0) 0)) := by
    have hal : Below w1.heap.size w1 w2 := by rw [← hw2.out]; exact (Below.refl _ _).alloc (Nat.le_refl _) _
    refine ⟨hd1.keep hal (lt_of_get hd1), Fr.then_below (HA.out.2.1.trans hf1) hal (by have := hf1.size; have := HA.out.2.2.2; omega), ?_, by rw [← hw2.out, ← hbx.out.1]; exact allocN _ _⟩
    have h1 : w1.heap[br]? = some (xcells ⟨#[]⟩ (.slice none 0 0) 0) := hf1.get HA.out.2.2.1 (by simp; exact hbx.out.2.2.2.1)
    exact (hal.block _ (lt_of_get h1)).trans h1
  have HC1 := Lib.hid hc1
  have hsz1 : s1.size ≤ s.size := by
    rcases HC1.out with ⟨h, _⟩ | ⟨_, _, rfl⟩
    · have := until_len _ _ _ _ h
      have h2 : s1.data.toList.length = s1.size := rfl
      have h3 : s.data.toList.length = s.size := rfl
      omega
    · exact Nat.le_refl _
  clear hd1 hf1 hc1 HU
  have HN := Lib.hid (next_c w2 R s1 b1 H2.out.1 125)
  go_wp2_with fail
  rw [hw2.out, hbx.out.1]
  refine HN.out.mono ?_
  rintro e w3 ⟨ok2, s2, rfl, hd3, hf3, hc3⟩
  have H3 : Hid (RD w3 R s2 b1 ∧ Fr [R] w w3 ∧ w3.heap[br]? = some (xcells ⟨#[]⟩ (.slice none 0 0) 0) ∧ w3.heap[bx]? = some (xcells nm (.slice none 0 0) 0) ∧ s2.size ≤ s.size ∧ LI s.data.toList nm.data.toList (!ok2) s2.data.toList b1 []) := by
    refine ⟨hd3, H2.out.2.1.trans hf3, hf3.get H2.out.2.2.1 (by simp; exact hbx.out.2.2.2.1), hf3.get H2.out.2.2.2 (by simp; exact hbx.out.2.1), ?_, ?_⟩
    · rcases hc3 with ⟨_, _, h⟩ | ⟨_, _, rfl⟩
      · have := next_len _ _ _ h
        have h2 : s1.data.toList.length = s1.size := rfl
        have h3 : s2.data.toList.length = s2.size := rfl
        omega
      · exact hsz1
    · rcases HC1.out with ⟨h, rfl⟩ | ⟨h, rfl, _⟩
      · rcases hc3 with ⟨_, rfl, h2⟩ | ⟨h2, rfl, rfl⟩
        · exact .inr (.inl ⟨rfl, rfl, rfl, by unfold lineM; rw [h]; simp only [Option.bind_some, h2]⟩)
        · rcases h2 with h2 | h2
          · cases h2
          · exact .inr (.inr (.inr ⟨rfl, rfl, s2.data.toList.length + 1, Nat.lt_succ_self _, by unfold lineM; rw [h]; simp only [Option.bind_some, h2]⟩))
      · exact .inl ⟨rfl, by unfold lineM; rw [h]; rfl⟩
  clear hd3 hf3 hc3 HN hsz1 HC1
  go_upto_block 0 with fail
  go_cut [] (fun wx => ∃ (sr : ByteArray) (bd : Bool) (ls : List SLab) (A1 : Option Addr) (n1 c1 : Nat), Hid (ls.length = n1) ∧ Hid (RD wx R sr bd ∧ Fr [R] w wx ∧ wx.heap[br]? = some (xcells ⟨#[]⟩ (.slice none 0 0) 0) ∧ wx.heap[bx]? = some (xcells nm (.slice A1 n1 c1) 0) ∧ Kd.R k71 71 wx w.heap.size (fun _ => True) (.slice A1 n1 c1) ls ∧ sr.size ≤ s.size + 1 ∧ DI s.data.toList nm.data.toList sr.data.toList bd (ls.map lbM)))
  case first =>
    go_wp2_with fail
    go_loopw [4] (fun mv wr => ∃ more : Bool, mv = .bool more ∧ Hid (∃ (sr : ByteArray) (bd : Bool) (ls : List SLab) (v : Value), RD wr R sr bd ∧ Fr [R] w wr ∧ wr.heap[br]? = some (xcells ⟨#[]⟩ (.slice none 0 0) 0) ∧ wr.heap[bx]? = some (xcells nm v 0) ∧
        Kd.R k71 71 wr w.heap.size (fun _ => True) v ls ∧ ls.length + sr.size ≤ s.size + 1 ∧ (bd = false → ls.length + sr.size ≤ s.size) ∧ LI s.data.toList nm.data.toList more sr.data.toList bd (ls.map lbM))) (fun mv wr => 2 * rdSize wr R + (match mv with | .bool true => 1 | _ => 0))
    case atStart => exact ⟨!ok2, rfl, s2, b1, [], _, H3.out.1, H3.out.2.1, H3.out.2.2.1, H3.out.2.2.2.1, Kd.R_nil _ _ _ _ _, by have := H3.out.2.2.2.2.1; simp only [List.length_nil]; omega, fun _ => by have := H3.out.2.2.2.2.1; simp only [List.length_nil]; omega, H3.out.2.2.2.2.2⟩
    case round =>
      obtain ⟨more, rfl, HO⟩ := hrel
      obtain ⟨sr, bd, ls, v, hH⟩ := HO.out
      have HW := Lib.hid hH; clear hH HO
      have g1 := HW.out.1.c1
      rcases Bool.eq_false_or_eq_true (more && !bd) with hgo | hstop
      · obtain ⟨rfl, rfl⟩ : more = true ∧ bd = false := by revert hgo; cases more <;> cases bd <;> simp
        clear hgo
        have HU := Lib.hid (until_c wr R sr false HW.out.1 61 (by have := HW.out.2.2.2.2.2.1; omega))
        have hms0 : rdSize wr R = sr.size := rdSize_of HW.out.1
        go_wp2_with fail
        refine HU.out.mono ?_
        rintro e w4 ⟨k, s3, b3, rfl, hd4, hf4, hc4⟩
        have H4 : Hid (RD w4 R s3 b3 ∧ Fr [R] w w4 ∧ w4.heap[br]? = some (xcells ⟨#[]⟩ (.slice none 0 0) 0) ∧ w4.heap[bx]? = some (xcells nm v 0) ∧ Kd.R k71 71 w4 w.heap.size (fun _ => True) v ls) :=
          ⟨hd4, HW.out.2.1.trans hf4, hf4.get HW.out.2.2.1 (by simp; exact hbx.out.2.2.2.1), hf4.get HW.out.2.2.2.1 (by simp; exact hbx.out.2.1), R_fr HW.out.2.2.2.2.1 hf4 hRw⟩
        have HC4 := Lib.hid hc4
        clear hd4 hf4 hc4 HU g1
        have hs3 : s3.size ≤ sr.size := by
          rcases HC4.out with ⟨h, _⟩ | ⟨_, _, rfl⟩
          · have := until_len _ _ _ _ h
            have h2 : s3.data.toList.length = s3.size := rfl
            have h3 : sr.data.toList.length = sr.size := rfl
            omega
          · exact Nat.le_refl _
        go_upto_region 6 with fail
        refine start_ (n := 10) (S := (fun w' => w'.heap[bx]? = some (xcells nm v 0))) (ds := [9]) #[false, false, false, false, false, false, false, false, false, false] (by kernel_rfl) (by rfl) (by rfl) H4.out.2.2.2.1 (fun hHeld => ?_); refine with_tabW tab25_6 bits25_6 (fun HT_ HW_ => ?_)
        refine pure_ (i := 0) (N := some 26) (v := ?_) (a' := ?_) #[true, false, false, false, false, false, false, false, false, false] rfl rfl (any_of HT_.out (by kernel_rfl)) (fun _ _ _ h => h) (Or.inl ⟨by rfl, ?_⟩) ?_ ?_
        rotate_left
        · intro w'
          go_simp
          with_reducible rfl
        rotate_left
        · simp only [Act.put, List.setIfInBounds_toArray, List.set_cons_zero, List.set_cons_succ]
          rfl
        refine take_ (i := 1) (N := some 27) (v := ?_) (a' := ?_) #[true, true, false, false, false, false, false, false, false, false] rfl rfl (take_ofW HT_.out HW_.out (by kernel_rfl)) (fun _ _ _ h => h) (Or.inl ⟨by rfl, ?_⟩) hHeld ?_ ?_
        rotate_left
        · rintro w' hS; have s1 := show w'.cell? ⟨bx, 1, none⟩ = some v by rw [cellB hS]; rfl
          go_simp
          with_reducible rfl
        rotate_left
        · simp only [Act.put, List.setIfInBounds_toArray, List.set_cons_zero, List.set_cons_succ]
          rfl
        refine pure_ (i := 2) (N := some 28) (v := ?_) (a' := ?_) #[true, true, true, false, false, false, false, false, false, false] rfl rfl (any_of HT_.out (by kernel_rfl)) (fun _ _ _ h => h) (Or.inl ⟨by rfl, ?_⟩) ?_ ?_
        rotate_left
        · intro w'
          go_simp
          with_reducible rfl
        rotate_left
        · simp only [Act.put, List.setIfInBounds_toArray, List.set_cons_zero, List.set_cons_succ]
          rfl
        refine pure_ (i := 3) (N := some 29) (v := ?_) (a' := ?_) #[true, true, true, true, false, false, false, false, false, false] rfl rfl (any_of HT_.out (by kernel_rfl)) (fun _ _ _ h => h) (Or.inl ⟨by rfl, ?_⟩) ?_ ?_
        rotate_left
        · intro w'
          go_simp
          with_reducible rfl
        rotate_left
        · simp only [Act.put, List.setIfInBounds_toArray, List.set_cons_zero, List.set_cons_succ]
          rfl
        refine one_ (i := 4) (N := some 30) #[true, true, true, true, true, false, false, false, false, false] rfl rfl (one_of HT_.out (by kernel_rfl)) (by decide) (fun K hK => ?_)
        rw [if_pos (by rfl)]
        go_simp
        go_at_call 38; refine (quoted_c _ R s3 b3 (by exact H4.out.1) (by have := HW.out.2.2.2.2.2.2.1 (by trivial); omega)).mono ?_; rintro e w5 ⟨t, s5, b5, rfl, hd5, hf5, hz5, hp5⟩; have hx5 := hf5.get hHeld (by simp; exact hbx.out.2.1); have hR5 : Kd.R k71 71 w5 w.heap.size (fun _ => True) v ls := R_fr (by first | exact H4.out.2.2.2.2 | exact Kd.R_drew H4.out.2.2.2.2) hf5 hRw; have hF5 : Fr [R] w w5 := Fr.trans (b := w4) H4.out.2.1 ⟨hf5.os, hf5.tape, hf5.output, hf5.size, hf5.block⟩; have hr5 : w5.heap[br]? = some (xcells ⟨#[]⟩ (.slice none 0 0) 0) := hf5.get (by exact H4.out.2.2.1) (by simp; exact hbx.out.2.2.2.1)
        refine hK.out _ _ (hf5.get hHeld (by simp; exact hbx.out.2.1)) (fun hHeld => ?_)
        clear hK K
        refine pure_ (i := 5) (N := some 31) (v := ?_) (a' := ?_) #[true, true, true, true, true, true, false, false, false, false] rfl rfl (any_of HT_.out (by kernel_rfl)) (fun _ _ _ h => h) (Or.inl ⟨by rfl, ?_⟩) ?_ ?_
        rotate_left
        · intro w'
          go_simp
          with_reducible rfl
        rotate_left
        · simp only [Act.put, List.setIfInBounds_toArray, List.set_cons_zero, List.set_cons_succ]
          rfl
        refine one_ (i := 6) (N := some 32) #[true, true, true, true, true, true, true, false, false, false] rfl rfl (one_of HT_.out (by kernel_rfl)) (by decide) (fun K hK => ?_)
        rw [if_pos (by rfl)]
        go_simp
        refine hK.out _ _ ((allocO _ _ (lt_of_get hHeld)).trans hHeld) (fun hHeld => ?_)
        clear hK K
        refine one_ (i := 7) (N := some 33) #[true, true, true, true, true, true, true, true, false, false] rfl rfl (one_of HT_.out (by kernel_rfl)) (by decide) (fun K hK => ?_)
        refine Kd.R_append_step k71 (w0 := w5) w.heap.size (by rfl) _ _ 41 71 (.agg #[(.string ⟨#[]⟩), (.string ⟨#[]⟩)]) 32 rfl Tryd.underlying41 info71 rfl (by decide) (by decide) v ls (⟨k, t⟩ : SLab) [.string k, .string t] (fun _ => True) (fun _ => False) rfl rfl (k71_mkM _ _ _ (⟨k, t⟩ : SLab)) (fun _ h => h.elim) (fun _ _ => trivial) hR5 (Below.refl _ _) hF5.size (by have := HW.out.2.2.2.2.2.1; omega) ?_; intro v6 w6 ho6 hb6 hg6 hat6; obtain ⟨ls6, hls6⟩ : ∃ l, Hid (ls ++ [(⟨k, t⟩ : SLab)] = l) := ⟨_, Lib.hid rfl⟩; rw [hls6.out] at ho6; obtain ⟨A6, cc6, rfl, _, _⟩ := Kd.R_reads ho6; have hx6 : w6.heap[bx]? = some (xcells nm v 0) := (hg6.block bx (lt_of_get hx5) (ne_own hR5 hx5)).trans hx5; have c6 : w6.cell? ⟨bx, 1, none⟩ = some v := (by rw [cellB hx6]; rfl); have k6 : w6.frozen? ⟨bx, 1, none⟩ = false := frozenB hx6 1
        refine hK.out _ _ hx6 (fun hHeld => ?_)
        clear hK K
        refine pure_ (i := 8) (N := some 34) (v := ?_) (a' := ?_) #[true, true, true, true, true, true, true, true, true, false] rfl rfl (any_of HT_.out (by kernel_rfl)) (fun _ _ _ h => h) (Or.inl ⟨by rfl, ?_⟩) ?_ ?_
        rotate_left
        · intro w'
          go_simp
          with_reducible rfl
        rotate_left
        · simp only [Act.put, List.setIfInBounds_toArray, List.set_cons_zero, List.set_cons_succ]
          rfl
        refine last_ (i := 9) (N := none) #[true, true, true, true, true, true, true, true, true, true] rfl rfl (one_of HT_.out (by kernel_rfl)) (by decide) (fun K hK => ?_)
        rw [if_pos (by rfl)]
        go_simp
        refine hK.out _ _ ?_
        clear hK K
        refine done_ (done_of HT_.out (by kernel_rfl)) ?_
        clear HT_ HW_ hHeld
        obtain ⟨w7, hw7⟩ : ∃ w7, Hid (w6.setCell ⟨bx, 1, none⟩ (.slice A6 ls6.length cc6) = w7) := ⟨_, Lib.hid rfl⟩
        have hr6 : w6.heap[br]? = some (xcells ⟨#[]⟩ (.slice none 0 0) 0) := (hg6.block br (lt_of_get hr5) (ne_own hR5 hr5)).trans hr5
        have H7 : Hid (RD w7 R s5 b5 ∧ Fr [R] w w7 ∧ w7.heap[br]? = some (xcells ⟨#[]⟩ (.slice none 0 0) 0) ∧ w7.heap[bx]? = some (xcells nm (.slice A6 ls6.length cc6) 0) ∧ Kd.R k71 71 w7 w.heap.size (fun _ => True) (.slice A6 ls6.length cc6) ls6) := by
          rw [← hw7.out]
          exact ⟨(setO w6 ⟨bx, 1, none⟩ _ (by show R ≠ bx; exact fun e => hbx.out.2.1 e.symm)).trans (hd5.keep hb6 hRw), (Fr.then_below hF5 hb6 (Nat.le_refl _)).setCell (p := ⟨bx, 1, none⟩) (.inr hbx.out.2.2.2.2.2) _, (setO w6 ⟨bx, 1, none⟩ _ (by show br ≠ bx; exact fun e => hbx.out.2.2.1 e.symm)).trans hr6, setX hx6, R_setX ho6 hx6⟩
        have HP5 := Lib.hid hp5
        clear hd5 hf5 hp5 hR5 hF5 hr5 hr6 hx5 hx6 ho6 hb6 hg6 hat6 c6 k6
        rw [hw7.out]
        have HNX := Lib.hid (next_c w7 R s5 b5 H7.out.1 44)
        go_wp2_with fail
        refine HNX.out.mono ?_
        rintro e w8 ⟨ok8, s8, rfl, hd8, hf8, hc8⟩
        have hLI := LI_step s.data.toList nm.data.toList sr.data.toList k.data.toList s3.data.toList t.data.toList s5.data.toList s8.data.toList (ls.map lbM) b3 b5 ok8 HW.out.2.2.2.2.2.2.2
          (by rcases HC4.out with h | ⟨h, h2, _⟩
              · exact .inl h
              · exact .inr ⟨h, h2⟩) HP5.out
          (by rcases hc8 with h | ⟨h, h2, h3⟩
              · exact .inl h
              · exact .inr ⟨h, h2, by rw [h3]⟩)
        have e6 : ls6.map lbM = ls.map lbM ++ [⟨k.data.toList, t.data.toList⟩] := by rw [← hls6.out, List.map_append]; rfl
        have el6 : ls6.length = ls.length + 1 := by rw [← hls6.out, List.length_append]; rfl
        rw [← e6] at hLI
        have H8 : Hid (RD w8 R s8 b5 ∧ Fr [R] w w8 ∧ w8.heap[br]? = some (xcells ⟨#[]⟩ (.slice none 0 0) 0) ∧ w8.heap[bx]? = some (xcells nm (.slice A6 ls6.length cc6) 0) ∧ Kd.R k71 71 w8 w.heap.size (fun _ => True) (.slice A6 ls6.length cc6) ls6 ∧
            ls6.length + s8.size ≤ s.size + 1 ∧ (b5 = false → ls6.length + s8.size ≤ s.size) ∧ LI s.data.toList nm.data.toList ok8 s8.data.toList b5 (ls6.map lbM)) := by
          have h8 : s8.data.toList.length = s8.size := rfl
          have h5 : s5.data.toList.length = s5.size := rfl
          have hr : sr.data.toList.length = sr.size := rfl
          have hb := HW.out.2.2.2.2.2.2.1 (by trivial)
          refine ⟨hd8, H7.out.2.1.trans hf8, hf8.get H7.out.2.2.1 (by simp; exact hbx.out.2.2.2.1), hf8.get H7.out.2.2.2.1 (by simp; exact hbx.out.2.1), R_fr H7.out.2.2.2.2 hf8 hRw, ?_, fun e => ?_, hLI.1⟩
          · have := hLI.2.1; omega
          · have := hLI.2.2 e; omega
        have HM : Hid (2 * s8.size + (match (Value.bool ok8 : Value) with | .bool true => 1 | _ => 0) < 2 * sr.size + 1) := by
          have h8 : s8.data.toList.length = s8.size := rfl
          have h5 : s5.data.toList.length = s5.size := rfl
          have hr : sr.data.toList.length = sr.size := rfl
          show _ < _
          rcases hc8 with ⟨h, h2, _⟩ | ⟨_, rfl, h3⟩
          · have := hLI.2.2 h
            subst h2
            show 2 * s8.size + 1 < _; omega
          · have := hLI.2.1
            show 2 * s8.size + 0 < _; omega
        clear hd8 hf8 hc8 hLI e6 el6 HNX
        have hms8 : rdSize w8 R = s8.size := rdSize_of H8.out.1
        go_wp2_with fail
        go_roundw
        case rel => exact ⟨ok8, rfl, s8, b5, ls6, _, H8.out⟩
        case measure => rw [hms8, hms0]; exact HM.out
      · obtain ⟨A1, c1, hv, hc1, _⟩ := Kd.R_reads HW.out.2.2.2.2.1
        obtain ⟨n1, hn1⟩ : ∃ n1, Hid (ls.length = n1) := ⟨_, Lib.hid rfl⟩
        rw [hn1.out] at hv
        subst hv
        have HE : Hid (RD wr R sr bd ∧ Fr [R] w wr ∧ wr.heap[br]? = some (xcells ⟨#[]⟩ (.slice none 0 0) 0) ∧ wr.heap[bx]? = some (xcells nm (.slice A1 n1 c1) 0) ∧ Kd.R k71 71 wr w.heap.size (fun _ => True) (.slice A1 n1 c1) ls ∧ sr.size ≤ s.size + 1 ∧ DI s.data.toList nm.data.toList sr.data.toList bd (ls.map lbM)) := ⟨HW.out.1, HW.out.2.1, HW.out.2.2.1, HW.out.2.2.2.1, HW.out.2.2.2.2.1, by have := HW.out.2.2.2.2.2.1; omega, DI_of _ _ _ _ _ _ HW.out.2.2.2.2.2.2.2 hstop⟩
        cases more
        · clear hstop
          go_wp2_with fail
          go_meet
          case rel => exact ⟨sr, bd, ls, A1, n1, c1, hn1, HE⟩
        · obtain rfl : bd = true := by revert hstop; cases bd <;> simp
          clear hstop
          go_wp2_with fail
          go_meet
          case rel => exact ⟨sr, true, ls, A1, n1, c1, hn1, HE⟩
  case rest =>
    obtain ⟨sr, bd, ls, A1, n1, c1, hn1, HE⟩ := hcut
    have v1 : wc.cell? ⟨bx, 1, none⟩ = some (.slice A1 n1 c1) := by rw [cellB HE.out.2.2.2.1]; rfl
    go_upto_region 7 with fail
    go_cut [43] (fun v wx => ∃ (bv : Bool) (sr : ByteArray) (bd : Bool), v = .bool bv ∧ Hid (RD wx R sr bd ∧ Fr [R] w wx ∧ wx.heap[br]? = some (xcells ⟨#[]⟩ (.slice none 0 0) 0) ∧ wx.heap[bx]? = some (xcells nm (.slice A1 n1 c1) 0) ∧ Kd.R k71 71 wx w.heap.size (fun _ => True) (.slice A1 n1 c1) ls ∧ sr.size ≤ s.size + 1 ∧ ((bv = true ∧ lineM s.data.toList = none) ∨ (bv = false ∧ TI s.data.toList nm.data.toList sr.data.toList bd (ls.map lbM)))))
    case first =>
      rcases Nat.eq_zero_or_pos n1 with h0 | h0
      · have hz : decide ((0 : Int) < (n1 : Int)) = false := decide_eq_false (by omega)
        have hz2 : decide (0 < n1) = false := decide_eq_false (by omega)
        have HT := Lib.hid (TI_nil _ _ _ _ _ HE.out.2.2.2.2.2.2 (by rw [List.eq_nil_of_length_eq_zero (hn1.out.trans h0)]; rfl))
        clear h0
        go_wp2_with fail
        go_meet
        case rel => exact ⟨false, sr, bd, rfl, HE.out.1, HE.out.2.1, HE.out.2.2.1, HE.out.2.2.2.1, HE.out.2.2.2.2.1, HE.out.2.2.2.2.2.1, .inr ⟨rfl, HT.out⟩⟩
      · have hz : decide ((0 : Int) < (n1 : Int)) = true := decide_eq_true (by omega)
        have hz2 : decide (0 < n1) = true := decide_eq_true (by omega)
        have hne : ls.map lbM ≠ [] := by
          intro e
          have h1 := congrArg List.length e
          rw [List.length_map, hn1.out] at h1
          simp at h1; omega
        have HNE := Lib.hid hne
        have HN9 := Lib.hid (next_c wc R sr bd HE.out.1 125)
        clear h0 hne
        go_wp2_with fail
        refine HN9.out.mono ?_
        rintro e w9 ⟨ok9, s9, rfl, hd9, hf9, hc9⟩
        have HT := TI_cons s.data.toList nm.data.toList sr.data.toList s9.data.toList bd ok9 (ls.map lbM) HE.out.2.2.2.2.2.2 HNE.out (nx_conv hc9)
        have hs9 : s9.size ≤ sr.size := by
          have h1 : sr.data.toList.length = sr.size := rfl
          have h2 : s9.data.toList.length = s9.size := rfl
          rcases hc9 with ⟨_, _, h⟩ | ⟨_, _, rfl⟩
          · have := next_len _ _ _ h; omega
          · exact Nat.le_refl _
        have H9 : Hid (RD w9 R s9 bd ∧ Fr [R] w w9 ∧ w9.heap[br]? = some (xcells ⟨#[]⟩ (.slice none 0 0) 0) ∧ w9.heap[bx]? = some (xcells nm (.slice A1 n1 c1) 0) ∧ Kd.R k71 71 w9 w.heap.size (fun _ => True) (.slice A1 n1 c1) ls ∧ s9.size ≤ s.size + 1 ∧ (((!ok9) = true ∧ lineM s.data.toList = none) ∨ ((!ok9) = false ∧ TI s.data.toList nm.data.toList s9.data.toList bd (ls.map lbM)))) :=
          ⟨hd9, HE.out.2.1.trans hf9, hf9.get HE.out.2.2.1 (by simp; exact hbx.out.2.2.2.1), hf9.get HE.out.2.2.2.1 (by simp; exact hbx.out.2.1), R_fr HE.out.2.2.2.2.1 hf9 hRw, by have := HE.out.2.2.2.2.2.1; omega, HT⟩
        clear hd9 hf9 hc9 HT hs9 HN9
        go_wp2_with fail
        go_meet
        case rel => exact ⟨!ok9, s9, bd, rfl, H9.out⟩
    case rest =>
      obtain ⟨bv, sr, bd, rfl, HV⟩ := hcut
      clear HE v1
      go_upto_if 43 with fail
      go_cut [] (fun wx => ∃ (sr : ByteArray) (bd : Bool), Hid (RD wx R sr bd ∧ Fr [R] w wx ∧ wx.heap[br]? = some (xcells ⟨#[]⟩ (.slice none 0 0) 0) ∧ wx.heap[bx]? = some (xcells nm (.slice A1 n1 c1) 0) ∧ Kd.R k71 71 wx w.heap.size (fun _ => True) (.slice A1 n1 c1) ls ∧ sr.size ≤ s.size + 1 ∧ TI s.data.toList nm.data.toList sr.data.toList bd (ls.map lbM)))
      case first =>
        have z1 := HV.out.1.c1
        have z2 := HV.out.1.f 1
        cases bv
        · have HT : Hid (TI s.data.toList nm.data.toList sr.data.toList bd (ls.map lbM)) := by
            rcases HV.out.2.2.2.2.2.2 with ⟨h, _⟩ | ⟨_, h⟩
            · cases h
            · exact h
          go_wp2_with fail
          go_meet
          case rel => exact ⟨sr, bd, HV.out.1, HV.out.2.1, HV.out.2.2.1, HV.out.2.2.2.1, HV.out.2.2.2.2.1, HV.out.2.2.2.2.2.1, HT.out⟩
        · have HT : Hid (lineM s.data.toList = none) := by
            rcases HV.out.2.2.2.2.2.2 with ⟨_, h⟩ | ⟨h, _⟩
            · exact h
            · cases h
          go_wp2_with fail
          go_meet
          case rel => exact ⟨sr, true, HV.out.1.set1 _, HV.out.2.1.trans (FR.set _ _ _ _), (setO _ ⟨R, 1, none⟩ _ (by show br ≠ R; exact hbx.out.2.2.2.1)).trans HV.out.2.2.1, (setO _ ⟨R, 1, none⟩ _ (by show bx ≠ R; exact hbx.out.2.1)).trans HV.out.2.2.2.1, R_fr HV.out.2.2.2.2.1 (FR.set _ _ _ _) hRw, HV.out.2.2.2.2.2.1, .inl ⟨rfl, HT.out⟩⟩
      case rest =>
        obtain ⟨sr, bd, HT⟩ := hcut
        clear HV
        have HN := Lib.hid (next_c wc R sr bd HT.out.1 32)
        go_wp2_with fail
        refine HN.out.mono ?_
        rintro e w9 ⟨ok9, s9, rfl, hd9, hf9, hc9⟩
        have hU := UI_of s.data.toList nm.data.toList sr.data.toList s9.data.toList bd ok9 (ls.map lbM) HT.out.2.2.2.2.2.2 (nx_conv hc9)
        have hs9 : s9.size ≤ sr.size := by
          have h1 : sr.data.toList.length = sr.size := rfl
          have h2 : s9.data.toList.length = s9.size := rfl
          rcases hc9 with ⟨_, _, h⟩ | ⟨_, _, rfl⟩
          · have := next_len _ _ _ h; omega
          · exact Nat.le_refl _
        have H9 : Hid (RD w9 R s9 bd ∧ Fr [R] w w9 ∧ w9.heap[br]? = some (xcells ⟨#[]⟩ (.slice none 0 0) 0) ∧ w9.heap[bx]? = some (xcells nm (.slice A1 n1 c1) 0) ∧ Kd.R k71 71 w9 w.heap.size (fun _ => True) (.slice A1 n1 c1) ls ∧ s9.size ≤ s.size + 1 ∧ ((ok9 = true ∧ UI s.data.toList nm.data.toList s9.data.toList bd (ls.map lbM)) ∨ (ok9 = false ∧ lineM s.data.toList = none))) :=
          ⟨hd9, HT.out.2.1.trans hf9, hf9.get HT.out.2.2.1 (by simp; exact hbx.out.2.2.2.1), hf9.get HT.out.2.2.2.1 (by simp; exact hbx.out.2.1), R_fr HT.out.2.2.2.2.1 hf9 hRw, by have := HT.out.2.2.2.2.2.1; omega, hU⟩
        clear hd9 hf9 hc9 hU hs9 HN HT
        go_upto_if 49 with fail
        go_cut [] (fun wx => ∃ (sr : ByteArray) (bd : Bool), Hid (RD wx R sr bd ∧ Fr [R] w wx ∧ wx.heap[br]? = some (xcells ⟨#[]⟩ (.slice none 0 0) 0) ∧ wx.heap[bx]? = some (xcells nm (.slice A1 n1 c1) 0) ∧ Kd.R k71 71 wx w.heap.size (fun _ => True) (.slice A1 n1 c1) ls ∧ sr.size ≤ s.size + 1 ∧ UI s.data.toList nm.data.toList sr.data.toList bd (ls.map lbM)))
        case first =>
          have z1 := H9.out.1.c1
          have z2 := H9.out.1.f 1
          cases ok9
          · have HQ : Hid (lineM s.data.toList = none) := by
              rcases H9.out.2.2.2.2.2.2 with ⟨h, _⟩ | ⟨_, h⟩
              · cases h
              · exact h
            go_wp2_with fail
            go_meet
            case rel => exact ⟨s9, true, H9.out.1.set1 _, H9.out.2.1.trans (FR.set _ _ _ _), (setO _ ⟨R, 1, none⟩ _ (by show br ≠ R; exact hbx.out.2.2.2.1)).trans H9.out.2.2.1, (setO _ ⟨R, 1, none⟩ _ (by show bx ≠ R; exact hbx.out.2.1)).trans H9.out.2.2.2.1, R_fr H9.out.2.2.2.2.1 (FR.set _ _ _ _) hRw, H9.out.2.2.2.2.2.1, .inl ⟨rfl, HQ.out⟩⟩
          · have HQ : Hid (UI s.data.toList nm.data.toList s9.data.toList bd (ls.map lbM)) := by
              rcases H9.out.2.2.2.2.2.2 with ⟨_, h⟩ | ⟨h, _⟩
              · exact h
              · cases h
            go_wp2_with fail
            go_meet
            case rel => exact ⟨s9, bd, H9.out.1, H9.out.2.1, H9.out.2.2.1, H9.out.2.2.2.1, H9.out.2.2.2.2.1, H9.out.2.2.2.2.2.1, HQ.out⟩
        case rest =>
          obtain ⟨s10, bd10, HU10⟩ := hcut
          clear H9
          have HN := Lib.hid (until_d wc R s10 bd10 HU10.out.1 10 (by have := HU10.out.2.2.2.2.2.1; omega))
          go_wp2_with fail
          refine HN.out.mono ?_
          rintro e w11 ⟨wd, s11, b11, rfl, hd11, hf11, hwz11, hc11⟩
          have HC11 : Hid ((untilM 10 s10.data.toList = some (wd.data.toList, s11.data.toList) ∧ b11 = bd10) ∨ (untilM 10 s10.data.toList = none ∧ b11 = true)) := by
            rcases hc11 with h | ⟨h, h2, _⟩
            · exact .inl h
            · exact .inr ⟨h, h2⟩
          have H11 : Hid (RD w11 R s11 b11 ∧ Fr [R] w w11 ∧ w11.heap[br]? = some (xcells ⟨#[]⟩ (.slice none 0 0) 0) ∧ w11.heap[bx]? = some (xcells nm (.slice A1 n1 c1) 0) ∧ Kd.R k71 71 w11 w.heap.size (fun _ => True) (.slice A1 n1 c1) ls) :=
            ⟨hd11, HU10.out.2.1.trans hf11, hf11.get HU10.out.2.2.1 (by simp; exact hbx.out.2.2.2.1), hf11.get HU10.out.2.2.2.1 (by simp; exact hbx.out.2.1), R_fr HU10.out.2.2.2.2.1 hf11 hRw⟩
          clear hd11 hf11 hc11 HN
          have hwd : wd.size ≤ 5000000 := by have := HU10.out.2.2.2.2.2.1; omega
          have HPU := Lib.hid (ParseUint_c wd w11 hwd (HLR.out _ H11.out.2.1))
          go_wp2_with fail
          refine HPU.out.mono ?_
          rintro e w12 ⟨hc12, hb12⟩
          have H12 : Hid (RD w12 R s11 b11 ∧ Fr [R] w w12 ∧ w12.heap[br]? = some (xcells ⟨#[]⟩ (.slice none 0 0) 0) ∧ w12.heap[bx]? = some (xcells nm (.slice A1 n1 c1) 0) ∧ Kd.R k71 71 w12 w.heap.size (fun _ => True) (.slice A1 n1 c1) ls) :=
            ⟨H11.out.1.keep hb12 (lt_of_get H11.out.1), Fr.then_below H11.out.2.1 hb12 H11.out.2.1.size, (hb12.block _ (lt_of_get H11.out.2.2.1)).trans H11.out.2.2.1, (hb12.block _ (lt_of_get H11.out.2.2.2.1)).trans H11.out.2.2.2.1, Kd.R_below H11.out.2.2.2.2 hb12⟩
          clear hb12 HPU
          rcases hc12 with ⟨u, hu, rfl⟩ | ⟨hu, nv, Te, pe, rfl⟩
          · have HQ := Lib.hid hu; clear hu
            cases b11
            · have fN : w12.cell? ⟨bx, 2, none⟩ = some (.int .u64 0) := by rw [cellB H12.out.2.2.2.1]; rfl
              have kN : w12.frozen? ⟨bx, 2, none⟩ = false := frozenB H12.out.2.2.2.1 2
              have fB := H12.out.1.c1
              have kB := H12.out.1.f 1
              go_upto_region 12 with fail
              refine start_ (n := 15) (S := (fun w' => w'.heap = w12.heap)) (ds := [11, 14]) #[false, false, false, false, false, false, false, false, false, false, false, false, false, false, false] (by kernel_rfl) (by rfl) (by rfl) rfl (fun hHeld => ?_); refine with_tabW tab25_12 bits25_12 (fun HT_ HW_ => ?_)
              refine pure_ (i := 0) (N := some 59) (v := ?_) (a' := ?_) #[true, false, false, false, false, false, false, false, false, false, false, false, false, false, false] rfl rfl (any_of HT_.out (by kernel_rfl)) (fun _ _ _ h => h) (Or.inl ⟨by rfl, ?_⟩) ?_ ?_
              rotate_left
              · intro w'
                go_simp
                with_reducible rfl
              rotate_left
              · simp only [Act.put, List.setIfInBounds_toArray, List.set_cons_zero, List.set_cons_succ]
                rfl
              refine pure_ (i := 1) (N := some 60) (v := ?_) (a' := ?_) #[true, true, false, false, false, false, false, false, false, false, false, false, false, false, false] rfl rfl (any_of HT_.out (by kernel_rfl)) (fun _ _ _ h => h) (Or.inl ⟨by rfl, ?_⟩) ?_ ?_
              rotate_left
              · intro w'
                go_simp
                with_reducible rfl
              rotate_left
              · simp only [Act.put, List.setIfInBounds_toArray, List.set_cons_zero, List.set_cons_succ]
                rfl
              refine pure_ (i := 2) (N := some 61) (v := ?_) (a' := ?_) #[true, true, true, false, false, false, false, false, false, false, false, false, false, false, false] rfl rfl (any_of HT_.out (by kernel_rfl)) (fun _ _ _ h => h) (Or.inl ⟨by rfl, ?_⟩) ?_ ?_
              rotate_left
              · intro w'
                go_simp
                with_reducible rfl
              rotate_left
              · simp only [Act.put, List.setIfInBounds_toArray, List.set_cons_zero, List.set_cons_succ]
                rfl
              refine pure_ (i := 3) (N := some 62) (v := ?_) (a' := ?_) #[true, true, true, true, false, false, false, false, false, false, false, false, false, false, false] rfl rfl (any_of HT_.out (by kernel_rfl)) (fun _ _ _ h => h) (Or.inl ⟨by rfl, ?_⟩) ?_ ?_
              rotate_left
              · intro w'
                go_simp
                with_reducible rfl
              rotate_left
              · simp only [Act.put, List.setIfInBounds_toArray, List.set_cons_zero, List.set_cons_succ]
                rfl
              refine pure_ (i := 4) (N := some 63) (v := ?_) (a' := ?_) #[true, true, true, true, true, false, false, false, false, false, false, false, false, false, false] rfl rfl (any_of HT_.out (by kernel_rfl)) (fun _ _ _ h => h) (Or.inl ⟨by rfl, ?_⟩) ?_ ?_
              rotate_left
              · intro w'
                go_simp
                with_reducible rfl
              rotate_left
              · simp only [Act.put, List.setIfInBounds_toArray, List.set_cons_zero, List.set_cons_succ]
                rfl
              refine take_ (i := 5) (N := some 64) (v := ?_) (a' := ?_) #[true, true, true, true, true, true, false, false, false, false, false, false, false, false, false] rfl rfl (take_ofW HT_.out HW_.out (by kernel_rfl)) (fun _ _ _ h => h) (Or.inl ⟨by rfl, ?_⟩) hHeld ?_ ?_
              rotate_left
              · rintro w' hS; have s1 : w'.cell? ⟨R, 1, none⟩ = some (.bool false) := (by unfold World.cell?; rw [hS]; exact fB)
                go_simp
                with_reducible rfl
              rotate_left
              · simp only [Act.put, List.setIfInBounds_toArray, List.set_cons_zero, List.set_cons_succ]
                rfl
              refine pure_ (i := 6) (N := some 65) (v := ?_) (a' := ?_) #[true, true, true, true, true, true, true, false, false, false, false, false, false, false, false] rfl rfl (any_of HT_.out (by kernel_rfl)) (fun _ _ _ h => h) (Or.inl ⟨by rfl, ?_⟩) ?_ ?_
              rotate_left
              · intro w'
                go_simp
                with_reducible rfl
              rotate_left
              · simp only [Act.put, List.setIfInBounds_toArray, List.set_cons_zero, List.set_cons_succ]
                rfl
              refine pure_ (i := 7) (N := some 66) (v := ?_) (a' := ?_) #[true, true, true, true, true, true, true, true, false, false, false, false, false, false, false] rfl rfl (any_of HT_.out (by kernel_rfl)) (fun _ _ _ h => h) (Or.inl ⟨by rfl, ?_⟩) ?_ ?_
              rotate_left
              · intro w'
                go_simp
                with_reducible rfl
              rotate_left
              · simp only [Act.put, List.setIfInBounds_toArray, List.set_cons_zero, List.set_cons_succ]
                rfl
              refine pure_ (i := 8) (N := some 67) (v := ?_) (a' := ?_) #[true, true, true, true, true, true, true, true, true, false, false, false, false, false, false] rfl rfl (any_of HT_.out (by kernel_rfl)) (fun _ _ _ h => h) (Or.inl ⟨by rfl, ?_⟩) ?_ ?_
              rotate_left
              · intro w'
                go_simp
                with_reducible rfl
              rotate_left
              · simp only [Act.put, List.setIfInBounds_toArray, List.set_cons_zero, List.set_cons_succ]
                rfl
              refine pure_ (i := 9) (N := some 68) (v := ?_) (a' := ?_) #[true, true, true, true, true, true, true, true, true, true, false, false, false, false, false] rfl rfl (any_of HT_.out (by kernel_rfl)) (fun _ _ _ h => h) (Or.inl ⟨by rfl, ?_⟩) ?_ ?_
              rotate_left
              · intro w'
                go_simp
                with_reducible rfl
              rotate_left
              · simp only [Act.put, List.setIfInBounds_toArray, List.set_cons_zero, List.set_cons_succ]
                rfl
              refine pure_ (i := 10) (N := some 69) (v := ?_) (a' := ?_) #[true, true, true, true, true, true, true, true, true, true, true, false, false, false, false] rfl rfl (any_of HT_.out (by kernel_rfl)) (fun _ _ _ h => h) (Or.inl ⟨by rfl, ?_⟩) ?_ ?_
              rotate_left
              · intro w'
                go_simp
                with_reducible rfl
              rotate_left
              · simp only [Act.put, List.setIfInBounds_toArray, List.set_cons_zero, List.set_cons_succ]
                rfl
              refine last_ (i := 11) (N := none) #[true, true, true, true, true, true, true, true, true, true, true, true, false, false, false] rfl rfl (one_of HT_.out (by kernel_rfl)) (by decide) (fun K hK => ?_)
              rw [if_pos (by rfl)]
              go_simp
              refine hK.out _ _ ?_
              clear hK K
              refine pure_ (i := 12) (N := some 70) (v := ?_) (a' := ?_) #[true, true, true, true, true, true, true, true, true, true, true, true, true, false, false] rfl rfl (any_of HT_.out (by kernel_rfl)) (fun _ _ _ h => h) (Or.inl ⟨by rfl, ?_⟩) ?_ ?_
              rotate_left
              · intro w'
                go_simp
                with_reducible rfl
              rotate_left
              · simp only [Act.put, List.setIfInBounds_toArray, List.set_cons_zero, List.set_cons_succ]
                rfl
              refine pure_ (i := 13) (N := some 71) (v := ?_) (a' := ?_) #[true, true, true, true, true, true, true, true, true, true, true, true, true, true, false] rfl rfl (any_of HT_.out (by kernel_rfl)) (fun _ _ _ h => h) (Or.inl ⟨by rfl, ?_⟩) ?_ ?_
              rotate_left
              · intro w'
                go_simp
                with_reducible rfl
              rotate_left
              · simp only [Act.put, List.setIfInBounds_toArray, List.set_cons_zero, List.set_cons_succ]
                rfl
              refine last_ (i := 14) (N := none) #[true, true, true, true, true, true, true, true, true, true, true, true, true, true, true] rfl rfl (one_of HT_.out (by kernel_rfl)) (by decide) (fun K hK => ?_)
              rw [if_pos (by rfl)]
              go_simp
              refine hK.out _ _ ?_
              clear hK K
              refine done_ (done_of HT_.out (by kernel_rfl)) ?_
              clear HT_ HW_ hHeld
              obtain ⟨wz, hwz⟩ : ∃ wz, Hid ((w12.setCell ⟨bx, 2, none⟩ (.int .u64 (u : Int))).setCell ⟨R, 1, none⟩ (.bool false) = wz) := ⟨_, Lib.hid rfl⟩
              have HZ : Hid (RD wz R s11 false ∧ Fr [R] w wz ∧ wz.heap[br]? = some (xcells ⟨#[]⟩ (.slice none 0 0) 0) ∧ wz.heap[bx]? = some (xcells nm (.slice A1 n1 c1) (u : Int)) ∧ Kd.R k71 71 wz w.heap.size (fun _ => True) (.slice A1 n1 c1) ls) := by
                rw [← hwz.out]
                have g1 : RD (w12.setCell ⟨bx, 2, none⟩ (.int .u64 (u : Int))) R s11 false := (setO w12 ⟨bx, 2, none⟩ _ (by show R ≠ bx; exact fun e => hbx.out.2.1 e.symm)).trans H12.out.1
                have g2 : (w12.setCell ⟨bx, 2, none⟩ (.int .u64 (u : Int))).heap[br]? = some (xcells ⟨#[]⟩ (.slice none 0 0) 0) := (setO w12 ⟨bx, 2, none⟩ _ (by show br ≠ bx; exact fun e => hbx.out.2.2.1 e.symm)).trans H12.out.2.2.1
                have g3 : (w12.setCell ⟨bx, 2, none⟩ (.int .u64 (u : Int))).heap[bx]? = some (xcells nm (.slice A1 n1 c1) (u : Int)) := setN H12.out.2.2.2.1
                have g4 := R_setX (o := 2) (u := .int .u64 (u : Int)) H12.out.2.2.2.2 H12.out.2.2.2.1
                have g5 : Fr [R] w (w12.setCell ⟨bx, 2, none⟩ (.int .u64 (u : Int))) := H12.out.2.1.setCell (p := ⟨bx, 2, none⟩) (.inr hbx.out.2.2.2.2.2) _
                exact ⟨g1.set1 _, g5.trans (FR.set _ _ _ _), (setO _ ⟨R, 1, none⟩ _ (by show br ≠ R; exact hbx.out.2.2.2.1)).trans g2, (setO _ ⟨R, 1, none⟩ _ (by show bx ≠ R; exact hbx.out.2.1)).trans g3, R_fr g4 (FR.set _ _ _ _) hRw⟩
              clear fN kN fB kB
              rw [hwz.out]
              have y0 : wz.cell? ⟨bx, 0, none⟩ = some (.string nm) := by rw [cellB HZ.out.2.2.2.1]; rfl
              have y1 : wz.cell? ⟨bx, 1, none⟩ = some (.slice A1 n1 c1) := by rw [cellB HZ.out.2.2.2.1]; rfl
              have y2 : wz.cell? ⟨bx, 2, none⟩ = some (.int .u64 (u : Int)) := by rw [cellB HZ.out.2.2.2.1]; rfl
              have z0 : wz.cell? ⟨br, 0, none⟩ = some (.string ⟨#[]⟩) := by rw [cellB HZ.out.2.2.1]; rfl
              have z1 : wz.cell? ⟨br, 1, none⟩ = some (.slice none 0 0) := by rw [cellB HZ.out.2.2.1]; rfl
              have z2 : wz.cell? ⟨br, 2, none⟩ = some (.int .u64 0) := by rw [cellB HZ.out.2.2.1]; rfl
              have k0 : wz.frozen? ⟨br, 0, none⟩ = false := frozenB HZ.out.2.2.1 0
              have k1 : wz.frozen? ⟨br, 1, none⟩ = false := frozenB HZ.out.2.2.1 1
              have k2 : wz.frozen? ⟨br, 2, none⟩ = false := frozenB HZ.out.2.2.1 2
              go_wp2_with fail
              obtain ⟨wf, hwf⟩ : ∃ wf, Hid ((((wz.setCell ⟨br, 0, none⟩ (.string nm)).setCell ⟨br, 1, none⟩ (.slice A1 n1 c1)).setCell ⟨br, 2, none⟩ (.int .u64 (u : Int))).drew = wf) := ⟨_, Lib.hid rfl⟩
              have HF : Hid (RD wf R s11 false ∧ Fr [R] w wf ∧ wf.heap[br]? = some (xcells nm (.slice A1 n1 c1) (u : Int)) ∧ Kd.R k71 71 wf w.heap.size (fun _ => True) (.slice A1 n1 c1) ls) := store3 w wz R br s11 false nm (.slice A1 n1 c1) (u : Int) ls HZ.out.1 HZ.out.2.1 HZ.out.2.2.1 HZ.out.2.2.2.2 hbx.out.2.2.2.1 (by have := hbr.out; omega) wf hwf.out
              have HQP : Hid (LPost s ⟨nm, ls, (u : Int)⟩ s11 false) := LP_fin s nm wd s11 s10.data.toList ls bd10 false false (u : Int) HU10.out.2.2.2.2.2.2 (by simpa using HC11.out) (.inl ⟨rfl, u, HQ.out, rfl⟩)
              clear y0 y1 y2 z0 z1 z2 k0 k1 k2
              rw [hwf.out]
              have x0 : wf.cell? ⟨br, 0, none⟩ = some (.string nm) := by rw [cellB HF.out.2.2.1]; rfl
              have x1 : wf.cell? ⟨br, 1, none⟩ = some (.slice A1 n1 c1) := by rw [cellB HF.out.2.2.1]; rfl
              have x2 : wf.cell? ⟨br, 2, none⟩ = some (.int .u64 (u : Int)) := by rw [cellB HF.out.2.2.1]; rfl
              (try simp only [Exit.inBlock, Exit.then]); refine bodyPost_ret (v := .agg #[.string nm, .slice A1 n1 c1, .int .u64 (u : Int)]) (by simp [results, Tryd.results25, go_sem, x0, x1, x2]; try rfl) rfl ?_
              exact ⟨⟨nm, ls, (u : Int)⟩, _, s11, false, rfl, HF.out.2.2.2, HF.out.1, HF.out.2.1, HQP.out⟩
            · have fN : w12.cell? ⟨bx, 2, none⟩ = some (.int .u64 0) := by rw [cellB H12.out.2.2.2.1]; rfl
              have kN : w12.frozen? ⟨bx, 2, none⟩ = false := frozenB H12.out.2.2.2.1 2
              have fB := H12.out.1.c1
              have kB := H12.out.1.f 1
              go_upto_region 12 with fail
              refine start_ (n := 15) (S := (fun w' => w'.heap = w12.heap)) (ds := [11, 14]) #[false, false, false, false, false, false, false, false, false, false, false, false, false, false, false] (by kernel_rfl) (by rfl) (by rfl) rfl (fun hHeld => ?_); refine with_tabW tab25_12 bits25_12 (fun HT_ HW_ => ?_)
              refine pure_ (i := 0) (N := some 59) (v := ?_) (a' := ?_) #[true, false, false, false, false, false, false, false, false, false, false, false, false, false, false] rfl rfl (any_of HT_.out (by kernel_rfl)) (fun _ _ _ h => h) (Or.inl ⟨by rfl, ?_⟩) ?_ ?_
              rotate_left
              · intro w'
                go_simp
                with_reducible rfl
              rotate_left
              · simp only [Act.put, List.setIfInBounds_toArray, List.set_cons_zero, List.set_cons_succ]
                rfl
              refine pure_ (i := 1) (N := some 60) (v := ?_) (a' := ?_) #[true, true, false, false, false, false, false, false, false, false, false, false, false, false, false] rfl rfl (any_of HT_.out (by kernel_rfl)) (fun _ _ _ h => h) (Or.inl ⟨by rfl, ?_⟩) ?_ ?_
              rotate_left
              · intro w'
                go_simp
                with_reducible rfl
              rotate_left
              · simp only [Act.put, List.setIfInBounds_toArray, List.set_cons_zero, List.set_cons_succ]
                rfl
              refine pure_ (i := 2) (N := some 61) (v := ?_) (a' := ?_) #[true, true, true, false, false, false, false, false, false, false, false, false, false, false, false] rfl rfl (any_of HT_.out (by kernel_rfl)) (fun _ _ _ h => h) (Or.inl ⟨by rfl, ?_⟩) ?_ ?_
              rotate_left
              · intro w'
                go_simp
                with_reducible rfl
              rotate_left
              · simp only [Act.put, List.setIfInBounds_toArray, List.set_cons_zero, List.set_cons_succ]
                rfl
              refine pure_ (i := 3) (N := some 62) (v := ?_) (a' := ?_) #[true, true, true, true, false, false, false, false, false, false, false, false, false, false, false] rfl rfl (any_of HT_.out (by kernel_rfl)) (fun _ _ _ h => h) (Or.inl ⟨by rfl, ?_⟩) ?_ ?_
              rotate_left
              · intro w'
                go_simp
                with_reducible rfl
              rotate_left
              · simp only [Act.put, List.setIfInBounds_toArray, List.set_cons_zero, List.set_cons_succ]
                rfl
              refine pure_ (i := 4) (N := some 63) (v := ?_) (a' := ?_) #[true, true, true, true, true, false, false, false, false, false, false, false, false, false, false] rfl rfl (any_of HT_.out (by kernel_rfl)) (fun _ _ _ h => h) (Or.inl ⟨by rfl, ?_⟩) ?_ ?_
              rotate_left
              · intro w'
                go_simp
                with_reducible rfl
              rotate_left
              · simp only [Act.put, List.setIfInBounds_toArray, List.set_cons_zero, List.set_cons_succ]
                rfl
              refine take_ (i := 5) (N := some 64) (v := ?_) (a' := ?_) #[true, true, true, true, true, true, false, false, false, false, false, false, false, false, false] rfl rfl (take_ofW HT_.out HW_.out (by kernel_rfl)) (fun _ _ _ h => h) (Or.inl ⟨by rfl, ?_⟩) hHeld ?_ ?_
              rotate_left
              · rintro w' hS; have s1 : w'.cell? ⟨R, 1, none⟩ = some (.bool true) := (by unfold World.cell?; rw [hS]; exact fB)
                go_simp
                with_reducible rfl
              rotate_left
              · simp only [Act.put, List.setIfInBounds_toArray, List.set_cons_zero, List.set_cons_succ]
                rfl
              refine pure_ (i := 6) (N := some 65) (v := ?_) (a' := ?_) #[true, true, true, true, true, true, true, false, false, false, false, false, false, false, false] rfl rfl (any_of HT_.out (by kernel_rfl)) (fun _ _ _ h => h) (Or.inl ⟨by rfl, ?_⟩) ?_ ?_
              rotate_left
              · intro w'
                go_simp
                with_reducible rfl
              rotate_left
              · simp only [Act.put, List.setIfInBounds_toArray, List.set_cons_zero, List.set_cons_succ]
                rfl
              refine pure_ (i := 7) (N := some 66) (v := undef) (a' := ?_) #[true, true, true, true, true, true, true, true, false, false, false, false, false, false, false] rfl rfl (any_of HT_.out (by kernel_rfl)) (fun _ _ _ h => h) (Or.inr ⟨by rfl, rfl⟩) ?_ ?_
              rotate_left
              · simp only [Act.put, List.setIfInBounds_toArray, List.set_cons_zero, List.set_cons_succ]
                rfl
              refine pure_ (i := 8) (N := some 67) (v := undef) (a' := ?_) #[true, true, true, true, true, true, true, true, true, false, false, false, false, false, false] rfl rfl (any_of HT_.out (by kernel_rfl)) (fun _ _ _ h => h) (Or.inr ⟨by rfl, rfl⟩) ?_ ?_
              rotate_left
              · simp only [Act.put, List.setIfInBounds_toArray, List.set_cons_zero, List.set_cons_succ]
                rfl
              refine pure_ (i := 9) (N := some 68) (v := ?_) (a' := ?_) #[true, true, true, true, true, true, true, true, true, true, false, false, false, false, false] rfl rfl (any_of HT_.out (by kernel_rfl)) (fun _ _ _ h => h) (Or.inl ⟨by rfl, ?_⟩) ?_ ?_
              rotate_left
              · intro w'
                go_simp
                with_reducible rfl
              rotate_left
              · simp only [Act.put, List.setIfInBounds_toArray, List.set_cons_zero, List.set_cons_succ]
                rfl
              refine pure_ (i := 10) (N := some 69) (v := ?_) (a' := ?_) #[true, true, true, true, true, true, true, true, true, true, true, false, false, false, false] rfl rfl (any_of HT_.out (by kernel_rfl)) (fun _ _ _ h => h) (Or.inl ⟨by rfl, ?_⟩) ?_ ?_
              rotate_left
              · intro w'
                go_simp
                with_reducible rfl
              rotate_left
              · simp only [Act.put, List.setIfInBounds_toArray, List.set_cons_zero, List.set_cons_succ]
                rfl
              refine last_ (i := 11) (N := none) #[true, true, true, true, true, true, true, true, true, true, true, true, false, false, false] rfl rfl (one_of HT_.out (by kernel_rfl)) (by decide) (fun K hK => ?_)
              rw [if_pos (by rfl)]
              go_simp
              refine hK.out _ _ ?_
              clear hK K
              refine pure_ (i := 12) (N := some 70) (v := ?_) (a' := ?_) #[true, true, true, true, true, true, true, true, true, true, true, true, true, false, false] rfl rfl (any_of HT_.out (by kernel_rfl)) (fun _ _ _ h => h) (Or.inl ⟨by rfl, ?_⟩) ?_ ?_
              rotate_left
              · intro w'
                go_simp
                with_reducible rfl
              rotate_left
              · simp only [Act.put, List.setIfInBounds_toArray, List.set_cons_zero, List.set_cons_succ]
                rfl
              refine pure_ (i := 13) (N := some 71) (v := ?_) (a' := ?_) #[true, true, true, true, true, true, true, true, true, true, true, true, true, true, false] rfl rfl (any_of HT_.out (by kernel_rfl)) (fun _ _ _ h => h) (Or.inl ⟨by rfl, ?_⟩) ?_ ?_
              rotate_left
              · intro w'
                go_simp
                with_reducible rfl
              rotate_left
              · simp only [Act.put, List.setIfInBounds_toArray, List.set_cons_zero, List.set_cons_succ]
                rfl
              refine last_ (i := 14) (N := none) #[true, true, true, true, true, true, true, true, true, true, true, true, true, true, true] rfl rfl (one_of HT_.out (by kernel_rfl)) (by decide) (fun K hK => ?_)
              rw [if_pos (by rfl)]
              go_simp
              refine hK.out _ _ ?_
              clear hK K
              refine done_ (done_of HT_.out (by kernel_rfl)) ?_
              clear HT_ HW_ hHeld
              obtain ⟨wz, hwz⟩ : ∃ wz, Hid ((w12.setCell ⟨bx, 2, none⟩ (.int .u64 (u : Int))).setCell ⟨R, 1, none⟩ (.bool true) = wz) := ⟨_, Lib.hid rfl⟩
              have HZ : Hid (RD wz R s11 true ∧ Fr [R] w wz ∧ wz.heap[br]? = some (xcells ⟨#[]⟩ (.slice none 0 0) 0) ∧ wz.heap[bx]? = some (xcells nm (.slice A1 n1 c1) (u : Int)) ∧ Kd.R k71 71 wz w.heap.size (fun _ => True) (.slice A1 n1 c1) ls) := by
                rw [← hwz.out]
                have g1 : RD (w12.setCell ⟨bx, 2, none⟩ (.int .u64 (u : Int))) R s11 true := (setO w12 ⟨bx, 2, none⟩ _ (by show R ≠ bx; exact fun e => hbx.out.2.1 e.symm)).trans H12.out.1
                have g2 : (w12.setCell ⟨bx, 2, none⟩ (.int .u64 (u : Int))).heap[br]? = some (xcells ⟨#[]⟩ (.slice none 0 0) 0) := (setO w12 ⟨bx, 2, none⟩ _ (by show br ≠ bx; exact fun e => hbx.out.2.2.1 e.symm)).trans H12.out.2.2.1
                have g3 : (w12.setCell ⟨bx, 2, none⟩ (.int .u64 (u : Int))).heap[bx]? = some (xcells nm (.slice A1 n1 c1) (u : Int)) := setN H12.out.2.2.2.1
                have g4 := R_setX (o := 2) (u := .int .u64 (u : Int)) H12.out.2.2.2.2 H12.out.2.2.2.1
                have g5 : Fr [R] w (w12.setCell ⟨bx, 2, none⟩ (.int .u64 (u : Int))) := H12.out.2.1.setCell (p := ⟨bx, 2, none⟩) (.inr hbx.out.2.2.2.2.2) _
                exact ⟨g1.set1 _, g5.trans (FR.set _ _ _ _), (setO _ ⟨R, 1, none⟩ _ (by show br ≠ R; exact hbx.out.2.2.2.1)).trans g2, (setO _ ⟨R, 1, none⟩ _ (by show bx ≠ R; exact hbx.out.2.1)).trans g3, R_fr g4 (FR.set _ _ _ _) hRw⟩
              clear fN kN fB kB
              rw [hwz.out]
              have y0 : wz.cell? ⟨bx, 0, none⟩ = some (.string nm) := by rw [cellB HZ.out.2.2.2.1]; rfl
              have y1 : wz.cell? ⟨bx, 1, none⟩ = some (.slice A1 n1 c1) := by rw [cellB HZ.out.2.2.2.1]; rfl
              have y2 : wz.cell? ⟨bx, 2, none⟩ = some (.int .u64 (u : Int)) := by rw [cellB HZ.out.2.2.2.1]; rfl
              have z0 : wz.cell? ⟨br, 0, none⟩ = some (.string ⟨#[]⟩) := by rw [cellB HZ.out.2.2.1]; rfl
              have z1 : wz.cell? ⟨br, 1, none⟩ = some (.slice none 0 0) := by rw [cellB HZ.out.2.2.1]; rfl
              have z2 : wz.cell? ⟨br, 2, none⟩ = some (.int .u64 0) := by rw [cellB HZ.out.2.2.1]; rfl
              have k0 : wz.frozen? ⟨br, 0, none⟩ = false := frozenB HZ.out.2.2.1 0
              have k1 : wz.frozen? ⟨br, 1, none⟩ = false := frozenB HZ.out.2.2.1 1
              have k2 : wz.frozen? ⟨br, 2, none⟩ = false := frozenB HZ.out.2.2.1 2
              go_wp2_with fail
              obtain ⟨wf, hwf⟩ : ∃ wf, Hid ((((wz.setCell ⟨br, 0, none⟩ (.string nm)).setCell ⟨br, 1, none⟩ (.slice A1 n1 c1)).setCell ⟨br, 2, none⟩ (.int .u64 (u : Int))).drew = wf) := ⟨_, Lib.hid rfl⟩
              have HF : Hid (RD wf R s11 true ∧ Fr [R] w wf ∧ wf.heap[br]? = some (xcells nm (.slice A1 n1 c1) (u : Int)) ∧ Kd.R k71 71 wf w.heap.size (fun _ => True) (.slice A1 n1 c1) ls) := store3 w wz R br s11 true nm (.slice A1 n1 c1) (u : Int) ls HZ.out.1 HZ.out.2.1 HZ.out.2.2.1 HZ.out.2.2.2.2 hbx.out.2.2.2.1 (by have := hbr.out; omega) wf hwf.out
              have HQP : Hid (LPost s ⟨nm, ls, (u : Int)⟩ s11 true) := LP_fin s nm wd s11 s10.data.toList ls bd10 true false (u : Int) HU10.out.2.2.2.2.2.2 (by simpa using HC11.out) (.inl ⟨rfl, u, HQ.out, rfl⟩)
              clear y0 y1 y2 z0 z1 z2 k0 k1 k2
              rw [hwf.out]
              have x0 : wf.cell? ⟨br, 0, none⟩ = some (.string nm) := by rw [cellB HF.out.2.2.1]; rfl
              have x1 : wf.cell? ⟨br, 1, none⟩ = some (.slice A1 n1 c1) := by rw [cellB HF.out.2.2.1]; rfl
              have x2 : wf.cell? ⟨br, 2, none⟩ = some (.int .u64 (u : Int)) := by rw [cellB HF.out.2.2.1]; rfl
              (try simp only [Exit.inBlock, Exit.then]); refine bodyPost_ret (v := .agg #[.string nm, .slice A1 n1 c1, .int .u64 (u : Int)]) (by simp [results, Tryd.results25, go_sem, x0, x1, x2]; try rfl) rfl ?_
              exact ⟨⟨nm, ls, (u : Int)⟩, _, s11, true, rfl, HF.out.2.2.2, HF.out.1, HF.out.2.1, HQP.out⟩
          · have HQ := Lib.hid hu; clear hu
            cases b11
            · have fN : w12.cell? ⟨bx, 2, none⟩ = some (.int .u64 0) := by rw [cellB H12.out.2.2.2.1]; rfl
              have kN : w12.frozen? ⟨bx, 2, none⟩ = false := frozenB H12.out.2.2.2.1 2
              have fB := H12.out.1.c1
              have kB := H12.out.1.f 1
              go_upto_region 12 with fail
              refine start_ (n := 15) (S := (fun w' => w'.heap = w12.heap)) (ds := [11, 14]) #[false, false, false, false, false, false, false, false, false, false, false, false, false, false, false] (by kernel_rfl) (by rfl) (by rfl) rfl (fun hHeld => ?_); refine with_tabW tab25_12 bits25_12 (fun HT_ HW_ => ?_)
              refine pure_ (i := 0) (N := some 59) (v := ?_) (a' := ?_) #[true, false, false, false, false, false, false, false, false, false, false, false, false, false, false] rfl rfl (any_of HT_.out (by kernel_rfl)) (fun _ _ _ h => h) (Or.inl ⟨by rfl, ?_⟩) ?_ ?_
              rotate_left
              · intro w'
                go_simp
                with_reducible rfl
              rotate_left
              · simp only [Act.put, List.setIfInBounds_toArray, List.set_cons_zero, List.set_cons_succ]
                rfl
              refine pure_ (i := 1) (N := some 60) (v := ?_) (a' := ?_) #[true, true, false, false, false, false, false, false, false, false, false, false, false, false, false] rfl rfl (any_of HT_.out (by kernel_rfl)) (fun _ _ _ h => h) (Or.inl ⟨by rfl, ?_⟩) ?_ ?_
              rotate_left
              · intro w'
                go_simp
                with_reducible rfl
              rotate_left
              · simp only [Act.put, List.setIfInBounds_toArray, List.set_cons_zero, List.set_cons_succ]
                rfl
              refine pure_ (i := 2) (N := some 61) (v := ?_) (a' := ?_) #[true, true, true, false, false, false, false, false, false, false, false, false, false, false, false] rfl rfl (any_of HT_.out (by kernel_rfl)) (fun _ _ _ h => h) (Or.inl ⟨by rfl, ?_⟩) ?_ ?_
              rotate_left
              · intro w'
                go_simp
                with_reducible rfl
              rotate_left
              · simp only [Act.put, List.setIfInBounds_toArray, List.set_cons_zero, List.set_cons_succ]
                rfl
              refine pure_ (i := 3) (N := some 62) (v := ?_) (a' := ?_) #[true, true, true, true, false, false, false, false, false, false, false, false, false, false, false] rfl rfl (any_of HT_.out (by kernel_rfl)) (fun _ _ _ h => h) (Or.inl ⟨by rfl, ?_⟩) ?_ ?_
              rotate_left
              · intro w'
                go_simp
                with_reducible rfl
              rotate_left
              · simp only [Act.put, List.setIfInBounds_toArray, List.set_cons_zero, List.set_cons_succ]
                rfl
              refine pure_ (i := 4) (N := some 63) (v := ?_) (a' := ?_) #[true, true, true, true, true, false, false, false, false, false, false, false, false, false, false] rfl rfl (any_of HT_.out (by kernel_rfl)) (fun _ _ _ h => h) (Or.inl ⟨by rfl, ?_⟩) ?_ ?_
              rotate_left
              · intro w'
                go_simp
                with_reducible rfl
              rotate_left
              · simp only [Act.put, List.setIfInBounds_toArray, List.set_cons_zero, List.set_cons_succ]
                rfl
              refine take_ (i := 5) (N := some 64) (v := ?_) (a' := ?_) #[true, true, true, true, true, true, false, false, false, false, false, false, false, false, false] rfl rfl (take_ofW HT_.out HW_.out (by kernel_rfl)) (fun _ _ _ h => h) (Or.inl ⟨by rfl, ?_⟩) hHeld ?_ ?_
              rotate_left
              · rintro w' hS; have s1 : w'.cell? ⟨R, 1, none⟩ = some (.bool false) := (by unfold World.cell?; rw [hS]; exact fB)
                go_simp
                with_reducible rfl
              rotate_left
              · simp only [Act.put, List.setIfInBounds_toArray, List.set_cons_zero, List.set_cons_succ]
                rfl
              refine pure_ (i := 6) (N := some 65) (v := ?_) (a' := ?_) #[true, true, true, true, true, true, true, false, false, false, false, false, false, false, false] rfl rfl (any_of HT_.out (by kernel_rfl)) (fun _ _ _ h => h) (Or.inl ⟨by rfl, ?_⟩) ?_ ?_
              rotate_left
              · intro w'
                go_simp
                with_reducible rfl
              rotate_left
              · simp only [Act.put, List.setIfInBounds_toArray, List.set_cons_zero, List.set_cons_succ]
                rfl
              refine pure_ (i := 7) (N := some 66) (v := ?_) (a' := ?_) #[true, true, true, true, true, true, true, true, false, false, false, false, false, false, false] rfl rfl (any_of HT_.out (by kernel_rfl)) (fun _ _ _ h => h) (Or.inl ⟨by rfl, ?_⟩) ?_ ?_
              rotate_left
              · intro w'
                go_simp
                with_reducible rfl
              rotate_left
              · simp only [Act.put, List.setIfInBounds_toArray, List.set_cons_zero, List.set_cons_succ]
                rfl
              refine pure_ (i := 8) (N := some 67) (v := ?_) (a' := ?_) #[true, true, true, true, true, true, true, true, true, false, false, false, false, false, false] rfl rfl (any_of HT_.out (by kernel_rfl)) (fun _ _ _ h => h) (Or.inl ⟨by rfl, ?_⟩) ?_ ?_
              rotate_left
              · intro w'
                go_simp
                with_reducible rfl
              rotate_left
              · simp only [Act.put, List.setIfInBounds_toArray, List.set_cons_zero, List.set_cons_succ]
                rfl
              refine pure_ (i := 9) (N := some 68) (v := ?_) (a' := ?_) #[true, true, true, true, true, true, true, true, true, true, false, false, false, false, false] rfl rfl (any_of HT_.out (by kernel_rfl)) (fun _ _ _ h => h) (Or.inl ⟨by rfl, ?_⟩) ?_ ?_
              rotate_left
              · intro w'
                go_simp
                with_reducible rfl
              rotate_left
              · simp only [Act.put, List.setIfInBounds_toArray, List.set_cons_zero, List.set_cons_succ]
                rfl
              refine pure_ (i := 10) (N := some 69) (v := ?_) (a' := ?_) #[true, true, true, true, true, true, true, true, true, true, true, false, false, false, false] rfl rfl (any_of HT_.out (by kernel_rfl)) (fun _ _ _ h => h) (Or.inl ⟨by rfl, ?_⟩) ?_ ?_
              rotate_left
              · intro w'
                go_simp
                with_reducible rfl
              rotate_left
              · simp only [Act.put, List.setIfInBounds_toArray, List.set_cons_zero, List.set_cons_succ]
                rfl
              refine last_ (i := 11) (N := none) #[true, true, true, true, true, true, true, true, true, true, true, true, false, false, false] rfl rfl (one_of HT_.out (by kernel_rfl)) (by decide) (fun K hK => ?_)
              rw [if_pos (by rfl)]
              go_simp
              refine hK.out _ _ ?_
              clear hK K
              refine pure_ (i := 12) (N := some 70) (v := ?_) (a' := ?_) #[true, true, true, true, true, true, true, true, true, true, true, true, true, false, false] rfl rfl (any_of HT_.out (by kernel_rfl)) (fun _ _ _ h => h) (Or.inl ⟨by rfl, ?_⟩) ?_ ?_
              rotate_left
              · intro w'
                go_simp
                with_reducible rfl
              rotate_left
              · simp only [Act.put, List.setIfInBounds_toArray, List.set_cons_zero, List.set_cons_succ]
                rfl
              refine pure_ (i := 13) (N := some 71) (v := ?_) (a' := ?_) #[true, true, true, true, true, true, true, true, true, true, true, true, true, true, false] rfl rfl (any_of HT_.out (by kernel_rfl)) (fun _ _ _ h => h) (Or.inl ⟨by rfl, ?_⟩) ?_ ?_
              rotate_left
              · intro w'
                go_simp
                with_reducible rfl
              rotate_left
              · simp only [Act.put, List.setIfInBounds_toArray, List.set_cons_zero, List.set_cons_succ]
                rfl
              refine last_ (i := 14) (N := none) #[true, true, true, true, true, true, true, true, true, true, true, true, true, true, true] rfl rfl (one_of HT_.out (by kernel_rfl)) (by decide) (fun K hK => ?_)
              rw [if_pos (by rfl)]
              go_simp
              refine hK.out _ _ ?_
              clear hK K
              refine done_ (done_of HT_.out (by kernel_rfl)) ?_
              clear HT_ HW_ hHeld
              obtain ⟨wz, hwz⟩ : ∃ wz, Hid ((w12.setCell ⟨bx, 2, none⟩ (.int .u64 nv)).setCell ⟨R, 1, none⟩ (.bool true) = wz) := ⟨_, Lib.hid rfl⟩
              have HZ : Hid (RD wz R s11 true ∧ Fr [R] w wz ∧ wz.heap[br]? = some (xcells ⟨#[]⟩ (.slice none 0 0) 0) ∧ wz.heap[bx]? = some (xcells nm (.slice A1 n1 c1) nv) ∧ Kd.R k71 71 wz w.heap.size (fun _ => True) (.slice A1 n1 c1) ls) := by
                rw [← hwz.out]
                have g1 : RD (w12.setCell ⟨bx, 2, none⟩ (.int .u64 nv)) R s11 false := (setO w12 ⟨bx, 2, none⟩ _ (by show R ≠ bx; exact fun e => hbx.out.2.1 e.symm)).trans H12.out.1
                have g2 : (w12.setCell ⟨bx, 2, none⟩ (.int .u64 nv)).heap[br]? = some (xcells ⟨#[]⟩ (.slice none 0 0) 0) := (setO w12 ⟨bx, 2, none⟩ _ (by show br ≠ bx; exact fun e => hbx.out.2.2.1 e.symm)).trans H12.out.2.2.1
                have g3 : (w12.setCell ⟨bx, 2, none⟩ (.int .u64 nv)).heap[bx]? = some (xcells nm (.slice A1 n1 c1) nv) := setN H12.out.2.2.2.1
                have g4 := R_setX (o := 2) (u := .int .u64 nv) H12.out.2.2.2.2 H12.out.2.2.2.1
                have g5 : Fr [R] w (w12.setCell ⟨bx, 2, none⟩ (.int .u64 nv)) := H12.out.2.1.setCell (p := ⟨bx, 2, none⟩) (.inr hbx.out.2.2.2.2.2) _
                exact ⟨g1.set1 _, g5.trans (FR.set _ _ _ _), (setO _ ⟨R, 1, none⟩ _ (by show br ≠ R; exact hbx.out.2.2.2.1)).trans g2, (setO _ ⟨R, 1, none⟩ _ (by show bx ≠ R; exact hbx.out.2.1)).trans g3, R_fr g4 (FR.set _ _ _ _) hRw⟩
              clear fN kN fB kB
              rw [hwz.out]
              have y0 : wz.cell? ⟨bx, 0, none⟩ = some (.string nm) := by rw [cellB HZ.out.2.2.2.1]; rfl
              have y1 : wz.cell? ⟨bx, 1, none⟩ = some (.slice A1 n1 c1) := by rw [cellB HZ.out.2.2.2.1]; rfl
              have y2 : wz.cell? ⟨bx, 2, none⟩ = some (.int .u64 nv) := by rw [cellB HZ.out.2.2.2.1]; rfl
              have z0 : wz.cell? ⟨br, 0, none⟩ = some (.string ⟨#[]⟩) := by rw [cellB HZ.out.2.2.1]; rfl
              have z1 : wz.cell? ⟨br, 1, none⟩ = some (.slice none 0 0) := by rw [cellB HZ.out.2.2.1]; rfl
              have z2 : wz.cell? ⟨br, 2, none⟩ = some (.int .u64 0) := by rw [cellB HZ.out.2.2.1]; rfl
              have k0 : wz.frozen? ⟨br, 0, none⟩ = false := frozenB HZ.out.2.2.1 0
              have k1 : wz.frozen? ⟨br, 1, none⟩ = false := frozenB HZ.out.2.2.1 1
              have k2 : wz.frozen? ⟨br, 2, none⟩ = false := frozenB HZ.out.2.2.1 2
              go_wp2_with fail
              obtain ⟨wf, hwf⟩ : ∃ wf, Hid ((((wz.setCell ⟨br, 0, none⟩ (.string nm)).setCell ⟨br, 1, none⟩ (.slice A1 n1 c1)).setCell ⟨br, 2, none⟩ (.int .u64 nv)).drew = wf) := ⟨_, Lib.hid rfl⟩
              have HF : Hid (RD wf R s11 true ∧ Fr [R] w wf ∧ wf.heap[br]? = some (xcells nm (.slice A1 n1 c1) nv) ∧ Kd.R k71 71 wf w.heap.size (fun _ => True) (.slice A1 n1 c1) ls) := store3 w wz R br s11 true nm (.slice A1 n1 c1) nv ls HZ.out.1 HZ.out.2.1 HZ.out.2.2.1 HZ.out.2.2.2.2 hbx.out.2.2.2.1 (by have := hbr.out; omega) wf hwf.out
              have HQP : Hid (LPost s ⟨nm, ls, nv⟩ s11 true) := LP_fin s nm wd s11 s10.data.toList ls bd10 false true nv HU10.out.2.2.2.2.2.2 (by simpa using HC11.out) (.inr ⟨rfl, HQ.out⟩)
              clear y0 y1 y2 z0 z1 z2 k0 k1 k2
              rw [hwf.out]
              have x0 : wf.cell? ⟨br, 0, none⟩ = some (.string nm) := by rw [cellB HF.out.2.2.1]; rfl
              have x1 : wf.cell? ⟨br, 1, none⟩ = some (.slice A1 n1 c1) := by rw [cellB HF.out.2.2.1]; rfl
              have x2 : wf.cell? ⟨br, 2, none⟩ = some (.int .u64 nv) := by rw [cellB HF.out.2.2.1]; rfl
              (try simp only [Exit.inBlock, Exit.then]); refine bodyPost_ret (v := .agg #[.string nm, .slice A1 n1 c1, .int .u64 nv]) (by simp [results, Tryd.results25, go_sem, x0, x1, x2]; try rfl) rfl ?_
              exact ⟨⟨nm, ls, nv⟩, _, s11, true, rfl, HF.out.2.2.2, HF.out.1, HF.out.2.1, HQP.out⟩
            · have fN : w12.cell? ⟨bx, 2, none⟩ = some (.int .u64 0) := by rw [cellB H12.out.2.2.2.1]; rfl
              have kN : w12.frozen? ⟨bx, 2, none⟩ = false := frozenB H12.out.2.2.2.1 2
              have fB := H12.out.1.c1
              have kB := H12.out.1.f 1
              go_upto_region 12 with fail
              refine start_ (n := 15) (S := (fun w' => w'.heap = w12.heap)) (ds := [11, 14]) #[false, false, false, false, false, false, false, false, false, false, false, false, false, false, false] (by kernel_rfl) (by rfl) (by rfl) rfl (fun hHeld => ?_); refine with_tabW tab25_12 bits25_12 (fun HT_ HW_ => ?_)
              refine pure_ (i := 0) (N := some 59) (v := ?_) (a' := ?_) #[true, false, false, false, false, false, false, false, false, false, false, false, false, false, false] rfl rfl (any_of HT_.out (by kernel_rfl)) (fun _ _ _ h => h) (Or.inl ⟨by rfl, ?_⟩) ?_ ?_
              rotate_left
              · intro w'
                go_simp
                with_reducible rfl
              rotate_left
              · simp only [Act.put, List.setIfInBounds_toArray, List.set_cons_zero, List.set_cons_succ]
                rfl
              refine pure_ (i := 1) (N := some 60) (v := ?_) (a' := ?_) #[true, true, false, false, false, false, false, false, false, false, false, false, false, false, false] rfl rfl (any_of HT_.out (by kernel_rfl)) (fun _ _ _ h => h) (Or.inl ⟨by rfl, ?_⟩) ?_ ?_
              rotate_left
              · intro w'
                go_simp
                with_reducible rfl
              rotate_left
              · simp only [Act.put, List.setIfInBounds_toArray, List.set_cons_zero, List.set_cons_succ]
                rfl
              refine pure_ (i := 2) (N := some 61) (v := ?_) (a' := ?_) #[true, true, true, false, false, false, false, false, false, false, false, false, false, false, false] rfl rfl (any_of HT_.out (by kernel_rfl)) (fun _ _ _ h => h) (Or.inl ⟨by rfl, ?_⟩) ?_ ?_
              rotate_left
              · intro w'
                go_simp
                with_reducible rfl
              rotate_left
              · simp only [Act.put, List.setIfInBounds_toArray, List.set_cons_zero, List.set_cons_succ]
                rfl
              refine pure_ (i := 3) (N := some 62) (v := ?_) (a' := ?_) #[true, true, true, true, false, false, false, false, false, false, false, false, false, false, false] rfl rfl (any_of HT_.out (by kernel_rfl)) (fun _ _ _ h => h) (Or.inl ⟨by rfl, ?_⟩) ?_ ?_
              rotate_left
              · intro w'
                go_simp
                with_reducible rfl
              rotate_left
              · simp only [Act.put, List.setIfInBounds_toArray, List.set_cons_zero, List.set_cons_succ]
                rfl
              refine pure_ (i := 4) (N := some 63) (v := ?_) (a' := ?_) #[true, true, true, true, true, false, false, false, false, false, false, false, false, false, false] rfl rfl (any_of HT_.out (by kernel_rfl)) (fun _ _ _ h => h) (Or.inl ⟨by rfl, ?_⟩) ?_ ?_
              rotate_left
              · intro w'
                go_simp
                with_reducible rfl
              rotate_left
              · simp only [Act.put, List.setIfInBounds_toArray, List.set_cons_zero, List.set_cons_succ]
                rfl
              refine take_ (i := 5) (N := some 64) (v := ?_) (a' := ?_) #[true, true, true, true, true, true, false, false, false, false, false, false, false, false, false] rfl rfl (take_ofW HT_.out HW_.out (by kernel_rfl)) (fun _ _ _ h => h) (Or.inl ⟨by rfl, ?_⟩) hHeld ?_ ?_
              rotate_left
              · rintro w' hS; have s1 : w'.cell? ⟨R, 1, none⟩ = some (.bool true) := (by unfold World.cell?; rw [hS]; exact fB)
                go_simp
                with_reducible rfl
              rotate_left
              · simp only [Act.put, List.setIfInBounds_toArray, List.set_cons_zero, List.set_cons_succ]
                rfl
              refine pure_ (i := 6) (N := some 65) (v := ?_) (a' := ?_) #[true, true, true, true, true, true, true, false, false, false, false, false, false, false, false] rfl rfl (any_of HT_.out (by kernel_rfl)) (fun _ _ _ h => h) (Or.inl ⟨by rfl, ?_⟩) ?_ ?_
              rotate_left
              · intro w'
                go_simp
                with_reducible rfl
              rotate_left
              · simp only [Act.put, List.setIfInBounds_toArray, List.set_cons_zero, List.set_cons_succ]
                rfl
              refine pure_ (i := 7) (N := some 66) (v := undef) (a' := ?_) #[true, true, true, true, true, true, true, true, false, false, false, false, false, false, false] rfl rfl (any_of HT_.out (by kernel_rfl)) (fun _ _ _ h => h) (Or.inr ⟨by rfl, rfl⟩) ?_ ?_
              rotate_left
              · simp only [Act.put, List.setIfInBounds_toArray, List.set_cons_zero, List.set_cons_succ]
                rfl
              refine pure_ (i := 8) (N := some 67) (v := undef) (a' := ?_) #[true, true, true, true, true, true, true, true, true, false, false, false, false, false, false] rfl rfl (any_of HT_.out (by kernel_rfl)) (fun _ _ _ h => h) (Or.inr ⟨by rfl, rfl⟩) ?_ ?_
              rotate_left
              · simp only [Act.put, List.setIfInBounds_toArray, List.set_cons_zero, List.set_cons_succ]
                rfl
              refine pure_ (i := 9) (N := some 68) (v := ?_) (a' := ?_) #[true, true, true, true, true, true, true, true, true, true, false, false, false, false, false] rfl rfl (any_of HT_.out (by kernel_rfl)) (fun _ _ _ h => h) (Or.inl ⟨by rfl, ?_⟩) ?_ ?_
              rotate_left
              · intro w'
                go_simp
                with_reducible rfl
              rotate_left
              · simp only [Act.put, List.setIfInBounds_toArray, List.set_cons_zero, List.set_cons_succ]
                rfl
              refine pure_ (i := 10) (N := some 69) (v := ?_) (a' := ?_) #[true, true, true, true, true, true, true, true, true, true, true, false, false, false, false] rfl rfl (any_of HT_.out (by kernel_rfl)) (fun _ _ _ h => h) (Or.inl ⟨by rfl, ?_⟩) ?_ ?_
              rotate_left
              · intro w'
                go_simp
                with_reducible rfl
              rotate_left
              · simp only [Act.put, List.setIfInBounds_toArray, List.set_cons_zero, List.set_cons_succ]
                rfl
              refine last_ (i := 11) (N := none) #[true, true, true, true, true, true, true, true, true, true, true, true, false, false, false] rfl rfl (one_of HT_.out (by kernel_rfl)) (by decide) (fun K hK => ?_)
              rw [if_pos (by rfl)]
              go_simp
              refine hK.out _ _ ?_
              clear hK K
              refine pure_ (i := 12) (N := some 70) (v := ?_) (a' := ?_) #[true, true, true, true, true, true, true, true, true, true, true, true, true, false, false] rfl rfl (any_of HT_.out (by kernel_rfl)) (fun _ _ _ h => h) (Or.inl ⟨by rfl, ?_⟩) ?_ ?_
              rotate_left
              · intro w'
                go_simp
                with_reducible rfl
              rotate_left
              · simp only [Act.put, List.setIfInBounds_toArray, List.set_cons_zero, List.set_cons_succ]
                rfl
              refine pure_ (i := 13) (N := some 71) (v := ?_) (a' := ?_) #[true, true, true, true, true, true, true, true, true, true, true, true, true, true, false] rfl rfl (any_of HT_.out (by kernel_rfl)) (fun _ _ _ h => h) (Or.inl ⟨by rfl, ?_⟩) ?_ ?_
              rotate_left
              · intro w'
                go_simp
                with_reducible rfl
              rotate_left
              · simp only [Act.put, List.setIfInBounds_toArray, List.set_cons_zero, List.set_cons_succ]
                rfl
              refine last_ (i := 14) (N := none) #[true, true, true, true, true, true, true, true, true, true, true, true, true, true, true] rfl rfl (one_of HT_.out (by kernel_rfl)) (by decide) (fun K hK => ?_)
              rw [if_pos (by rfl)]
              go_simp
              refine hK.out _ _ ?_
              clear hK K
              refine done_ (done_of HT_.out (by kernel_rfl)) ?_
              clear HT_ HW_ hHeld
              obtain ⟨wz, hwz⟩ : ∃ wz, Hid ((w12.setCell ⟨bx, 2, none⟩ (.int .u64 nv)).setCell ⟨R, 1, none⟩ (.bool true) = wz) := ⟨_, Lib.hid rfl⟩
              have HZ : Hid (RD wz R s11 true ∧ Fr [R] w wz ∧ wz.heap[br]? = some (xcells ⟨#[]⟩ (.slice none 0 0) 0) ∧ wz.heap[bx]? = some (xcells nm (.slice A1 n1 c1) nv) ∧ Kd.R k71 71 wz w.heap.size (fun _ => True) (.slice A1 n1 c1) ls) := by
                rw [← hwz.out]
                have g1 : RD (w12.setCell ⟨bx, 2, none⟩ (.int .u64 nv)) R s11 true := (setO w12 ⟨bx, 2, none⟩ _ (by show R ≠ bx; exact fun e => hbx.out.2.1 e.symm)).trans H12.out.1
                have g2 : (w12.setCell ⟨bx, 2, none⟩ (.int .u64 nv)).heap[br]? = some (xcells ⟨#[]⟩ (.slice none 0 0) 0) := (setO w12 ⟨bx, 2, none⟩ _ (by show br ≠ bx; exact fun e => hbx.out.2.2.1 e.symm)).trans H12.out.2.2.1
                have g3 : (w12.setCell ⟨bx, 2, none⟩ (.int .u64 nv)).heap[bx]? = some (xcells nm (.slice A1 n1 c1) nv) := setN H12.out.2.2.2.1
                have g4 := R_setX (o := 2) (u := .int .u64 nv) H12.out.2.2.2.2 H12.out.2.2.2.1
                have g5 : Fr [R] w (w12.setCell ⟨bx, 2, none⟩ (.int .u64 nv)) := H12.out.2.1.setCell (p := ⟨bx, 2, none⟩) (.inr hbx.out.2.2.2.2.2) _
                exact ⟨g1.set1 _, g5.trans (FR.set _ _ _ _), (setO _ ⟨R, 1, none⟩ _ (by show br ≠ R; exact hbx.out.2.2.2.1)).trans g2, (setO _ ⟨R, 1, none⟩ _ (by show bx ≠ R; exact hbx.out.2.1)).trans g3, R_fr g4 (FR.set _ _ _ _) hRw⟩
              clear fN kN fB kB
              rw [hwz.out]
              have y0 : wz.cell? ⟨bx, 0, none⟩ = some (.string nm) := by rw [cellB HZ.out.2.2.2.1]; rfl
              have y1 : wz.cell? ⟨bx, 1, none⟩ = some (.slice A1 n1 c1) := by rw [cellB HZ.out.2.2.2.1]; rfl
              have y2 : wz.cell? ⟨bx, 2, none⟩ = some (.int .u64 nv) := by rw [cellB HZ.out.2.2.2.1]; rfl
              have z0 : wz.cell? ⟨br, 0, none⟩ = some (.string ⟨#[]⟩) := by rw [cellB HZ.out.2.2.1]; rfl
              have z1 : wz.cell? ⟨br, 1, none⟩ = some (.slice none 0 0) := by rw [cellB HZ.out.2.2.1]; rfl
              have z2 : wz.cell? ⟨br, 2, none⟩ = some (.int .u64 0) := by rw [cellB HZ.out.2.2.1]; rfl
              have k0 : wz.frozen? ⟨br, 0, none⟩ = false := frozenB HZ.out.2.2.1 0
              have k1 : wz.frozen? ⟨br, 1, none⟩ = false := frozenB HZ.out.2.2.1 1
              have k2 : wz.frozen? ⟨br, 2, none⟩ = false := frozenB HZ.out.2.2.1 2
              go_wp2_with fail
              obtain ⟨wf, hwf⟩ : ∃ wf, Hid ((((wz.setCell ⟨br, 0, none⟩ (.string nm)).setCell ⟨br, 1, none⟩ (.slice A1 n1 c1)).setCell ⟨br, 2, none⟩ (.int .u64 nv)).drew = wf) := ⟨_, Lib.hid rfl⟩
              have HF : Hid (RD wf R s11 true ∧ Fr [R] w wf ∧ wf.heap[br]? = some (xcells nm (.slice A1 n1 c1) nv) ∧ Kd.R k71 71 wf w.heap.size (fun _ => True) (.slice A1 n1 c1) ls) := store3 w wz R br s11 true nm (.slice A1 n1 c1) nv ls HZ.out.1 HZ.out.2.1 HZ.out.2.2.1 HZ.out.2.2.2.2 hbx.out.2.2.2.1 (by have := hbr.out; omega) wf hwf.out
              have HQP : Hid (LPost s ⟨nm, ls, nv⟩ s11 true) := LP_fin s nm wd s11 s10.data.toList ls bd10 true true nv HU10.out.2.2.2.2.2.2 (by simpa using HC11.out) (.inr ⟨rfl, HQ.out⟩)
              clear y0 y1 y2 z0 z1 z2 k0 k1 k2
              rw [hwf.out]
              have x0 : wf.cell? ⟨br, 0, none⟩ = some (.string nm) := by rw [cellB HF.out.2.2.1]; rfl
              have x1 : wf.cell? ⟨br, 1, none⟩ = some (.slice A1 n1 c1) := by rw [cellB HF.out.2.2.1]; rfl
              have x2 : wf.cell? ⟨br, 2, none⟩ = some (.int .u64 nv) := by rw [cellB HF.out.2.2.1]; rfl
              (try simp only [Exit.inBlock, Exit.then]); refine bodyPost_ret (v := .agg #[.string nm, .slice A1 n1 c1, .int .u64 nv]) (by simp [results, Tryd.results25, go_sem, x0, x1, x2]; try rfl) rfl ?_
              exact ⟨⟨nm, ls, nv⟩, _, s11, true, rfl, HF.out.2.2.2, HF.out.1, HF.out.2.1, HQP.out⟩
end Go.Proofs.YtdbmcikoiilanaaDoor.Xp
