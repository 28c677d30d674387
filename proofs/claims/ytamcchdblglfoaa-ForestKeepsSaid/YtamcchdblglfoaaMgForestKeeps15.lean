/- forest: what tree's second loop keeps. forest: tree, as a Call. forest: what Build comes to. No walk. forest: Build, as a Call. forest: what the laws' small functions answer, plainly. forest: the chapter's example, plainly. forest: the laws' alive, as a Call. forest: Root, as a Call. forest: what ForestKeeps says of trees, plainly. -/
import Derived.Test.YtamcchdblglfoaaMgForestKeeps13
import Derived.Test.YtamcchdblglfoaaMgForestKeeps14
import Derived.IntWalk
set_option linter.unusedVariables false
set_option linter.unusedSimpArgs false
namespace Go.Proofs.Ytamcchdblglfoaa.Ft
open Go.RowKit Go.Proofs.Ytamcchdblglfoaa.B0 Go.Proofs.Ytamcchdblglfoaa.Pf Go.Proofs.YtamcchdblglfoaaW.PrintWords Go.Proofs.YtamcchdblglfoaaW.PrintLast
abbrev tz : Array Value := #[.slice none 0 0, .slice none 0 0]
structure TI (w : World) (S rb : Nat) (pv : Value) (ps : List Int) (G : List Bool) (ns : List PN) (gs : List Bool) (j : Nat) (nv dv : Value) (tn : List PN) (td : List PS) (wr : World) : Prop where
  box : wr.heap[rb + 1]? = some (.cells #[nv, dv] 28 (0, 0))
  rn : kN.R 47 wr S (fun _ => True) nv tn
  rd : kP.R 44 wr S (fun _ => True) dv td
  an : ∀ x ∈ tn, AttT wr x.p
  ad : ∀ x ∈ td, AttT wr x
  en : tn.map ndOf = nodesM G (ns.take j) (gs.take j)
  ed : td.map (fun p => p.s) = dropM (ns.take j) (gs.take j)
  bel : Below w.heap.size w wr
  r0 : wr.heap[rb]? = some (.cells tz 28 (0, 0))
  rp : (Kd.int .i64).R 3 wr S (fun _ => True) pv ps
  sz : S ≤ wr.heap.size
  hS : w.heap.size = rb ∧ S = rb + 2
section
variable {w wr w' : World} {S rb j : Nat} {pv nv dv v8 : Value} {ps : List Int} {G gs : List Bool} {ns tn : List PN} {td : List PS}
theorem TI.below (h : TI w S rb pv ps G ns gs j nv dv tn td wr) (hb : Below wr.heap.size wr w') : TI w S rb pv ps G ns gs j nv dv tn td w' where
  box := (hb.block _ (lt_of_get h.box)).trans h.box
  rn := Kd.R_below h.rn hb
  rd := Kd.R_below h.rd hb
  an := fun x hx => (h.an x hx).keep (KT.below hb)
  ad := fun x hx => (h.ad x hx).keep (KT.below hb)
  en := h.en
  ed := h.ed
  bel := h.bel.trans (hb.mono h.bel.size)
  r0 := (hb.block _ (lt_of_get h.r0)).trans h.r0
  rp := Kd.R_below h.rp hb
  sz := Nat.le_trans h.sz hb.size
  hS := h.hS
theorem Fr.ofGrown {v : Value} (hg : wr.grownBy w' v.ownBlock) : Fr v.ownBlock.toList wr w' := ⟨hg.os, hg.tape, hg.output, hg.size, fun k hk hn => hg.block k hk (fun e => hn (by rw [← e]; simp))⟩
theorem R_grownT {α β : Type} {d : Kd α} {d' : Kd β} {e e' S S' : Nat} {v v' : Value} {xs : List α} {ys : List β} {ok : Nat → Prop} (h : d.R e wr S (fun _ => True) v xs) (h' : d'.R e' wr S' ok v' ys) (hne : e' ∉ e :: d.E) (hg : wr.grownBy w' v'.ownBlock) : d.R e w' S (fun _ => True) v xs := by
  refine R_frN h (Fr.ofGrown hg) (fun k hk cells q hc hq => ?_)
  have e1 : v'.ownBlock = some k := by simpa using hk
  obtain ⟨c2, hc2⟩ := Kd.R_typed h' k e1
  rw [hc] at hc2
  obtain ⟨_, rfl, _⟩ := Obj.cells.inj (Option.some.inj hc2)
  exact hne hq
theorem TI.pushN (h : TI w S rb pv ps G ns gs j nv dv tn td wr) (ln : ns.length = gs.length) {x : PN} (hx : ns[j]? = some x) (hg : gs[j]? = some false) {y : PN} (hy : ndOf y = outN G x) (hat : AttT wr y.p)
    (hR : kN.R 47 w' S (fun _ => True) v8 (tn ++ [y])) (hb : Below S wr w') (hgr : wr.grownBy w' nv.ownBlock) :
    TI w S rb pv ps G ns gs (j + 1) v8 dv (tn ++ [y]) td (w'.setCell ⟨rb + 1, 0, none⟩ v8) := by
  have hbx : w'.heap[rb + 1]? = some (.cells #[nv, dv] 28 (0, 0)) := (hgr.block _ (lt_of_get h.box) (Kd.R_ne h.rn h.box (by decide))).trans h.box
  have hr0 : w'.heap[rb]? = some (.cells tz 28 (0, 0)) := (hgr.block _ (lt_of_get h.r0) (Kd.R_ne h.rn h.r0 (by decide))).trans h.r0
  have hk : KT 123 wr (w'.setCell ⟨rb + 1, 0, none⟩ v8) := (KT.grown h.rn (by decide) hgr).trans (KT.set hbx (by decide))
  have hs := h.hS
  refine ⟨setB hbx 0 _, Kd.R_set hR hbx (by decide) 0 _, Kd.R_set (R_grownT h.rd h.rn (by simp only [kP, flat]; decide) hgr) hbx (by simp only [kP, flat]; decide) 0 _, ?_, fun z hz => (h.ad z hz).keep hk, ?_, ?_, ?_, (setO w' ⟨rb + 1, 0, none⟩ _ (by show rb ≠ rb + 1; omega)).trans hr0, Kd.R_set (R_grownT h.rp h.rn (by simp only [Kd.int, Kd.scalar]; decide) hgr) hbx (by decide) 0 _, ?_, h.hS⟩
  · intro z hz
    rcases List.mem_append.1 hz with hz | hz
    · exact (h.an z hz).keep hk
    · rw [List.mem_singleton] at hz; subst hz; exact hat.keep hk
  · rw [List.take_add_one, hx, List.take_add_one, hg]
    show _ = nodesM G (ns.take j ++ [x]) (gs.take j ++ [false])
    rw [nodesM_snoc _ _ _ _ _ (by rw [List.length_take, List.length_take, ln]), List.map_append, h.en]
    simp [hy]
  · rw [List.take_add_one, hx, List.take_add_one, hg]
    show _ = dropM (ns.take j ++ [x]) (gs.take j ++ [false])
    rw [dropM_snoc _ _ _ _ (by rw [List.length_take, List.length_take, ln]), h.ed]
    simp
  · exact (h.bel.trans (hb.mono (by omega))).setCell (p := ⟨rb + 1, 0, none⟩) (by show _ ≤ rb + 1; omega) _
  · have h1 := h.sz; have h2 := hb.size
    have h3 : (w'.setCell ⟨rb + 1, 0, none⟩ v8).heap.size = w'.heap.size := by simp
    omega
theorem TI.pushD (h : TI w S rb pv ps G ns gs j nv dv tn td wr) (ln : ns.length = gs.length) {x : PN} (hx : ns[j]? = some x) (hg : gs[j]? = some true) {y : PS} (hy : y.s = x.p.s) (hat : AttT wr y)
    (hR : kP.R 44 w' S (fun _ => True) v8 (td ++ [y])) (hb : Below S wr w') (hgr : wr.grownBy w' dv.ownBlock) :
    TI w S rb pv ps G ns gs (j + 1) nv v8 tn (td ++ [y]) (w'.setCell ⟨rb + 1, 1, none⟩ v8) := by
  have hbx : w'.heap[rb + 1]? = some (.cells #[nv, dv] 28 (0, 0)) := (hgr.block _ (lt_of_get h.box) (Kd.R_ne h.rd h.box (by decide))).trans h.box
  have hr0 : w'.heap[rb]? = some (.cells tz 28 (0, 0)) := (hgr.block _ (lt_of_get h.r0) (Kd.R_ne h.rd h.r0 (by decide))).trans h.r0
  have hk : KT 123 wr (w'.setCell ⟨rb + 1, 1, none⟩ v8) := (KT.grown h.rd (by decide) hgr).trans (KT.set hbx (by decide))
  have hs := h.hS
  refine ⟨setB hbx 1 _, Kd.R_set (R_grownT h.rn h.rd (by simp only [kN, flat]; decide) hgr) hbx (by simp only [kN, flat]; decide) 1 _, Kd.R_set hR hbx (by decide) 1 _, fun z hz => (h.an z hz).keep hk, ?_, ?_, ?_, ?_, (setO w' ⟨rb + 1, 1, none⟩ _ (by show rb ≠ rb + 1; omega)).trans hr0, Kd.R_set (R_grownT h.rp h.rd (by simp only [Kd.int, Kd.scalar]; decide) hgr) hbx (by decide) 1 _, ?_, h.hS⟩
  · intro z hz
    rcases List.mem_append.1 hz with hz | hz
    · exact (h.ad z hz).keep hk
    · rw [List.mem_singleton] at hz; subst hz; exact hat.keep hk
  · rw [List.take_add_one, hx, List.take_add_one, hg]
    show _ = nodesM G (ns.take j ++ [x]) (gs.take j ++ [true])
    rw [nodesM_snoc _ _ _ _ _ (by rw [List.length_take, List.length_take, ln]), h.en]
    simp
  · rw [List.take_add_one, hx, List.take_add_one, hg]
    show _ = dropM (ns.take j ++ [x]) (gs.take j ++ [true])
    rw [dropM_snoc _ _ _ _ (by rw [List.length_take, List.length_take, ln]), List.map_append, h.ed]
    simp [hy]
  · exact (h.bel.trans (hb.mono (by omega))).setCell (p := ⟨rb + 1, 1, none⟩) (by show _ ≤ rb + 1; omega) _
  · have h1 := h.sz; have h2 := hb.size
    have h3 : (w'.setCell ⟨rb + 1, 1, none⟩ v8).heap.size = w'.heap.size := by simp
    omega
/-- one way a round may go: the list is no longer than its count. -/
theorem TI.tn_len (h : TI w S rb pv ps G ns gs j nv dv tn td wr) : tn.length ≤ ns.length := by
  have h1 : tn.length = (tn.map ndOf).length := by simp
  rw [h1, h.en]
  exact Nat.le_trans (nodesM_len _ _ _) (by rw [List.length_take]; omega)
theorem TI.td_len (h : TI w S rb pv ps G ns gs j nv dv tn td wr) : td.length ≤ ns.length := by
  have h1 : td.length = (td.map fun p => p.s).length := by simp
  rw [h1, h.ed]
  exact Nat.le_trans (dropM_len _ _) (by rw [List.length_take]; omega)
/-- a tree's two rows. -/
def TR (w : World) (S : Nat) (nv dv : Value) (N : List Nd) (D : List Sp) : Prop := ∃ (tn : List PN) (td : List PS), kN.R 47 w S (fun _ => True) nv tn ∧ kP.R 44 w S (fun _ => True) dv td ∧ (∀ x ∈ tn, AttT w x.p) ∧ (∀ x ∈ td, AttT w x) ∧ tn.map ndOf = N ∧ td.map (fun p => p.s) = D
theorem TR.set {N : List Nd} {D : List Sp} (h : TR w S nv dv N D) {b : Nat} {cs : Array Value} (hb : w.heap[b]? = some (.cells cs 28 (0, 0))) (o : Nat) (v : Value) : TR (w.setCell ⟨b, o, none⟩ v) S nv dv N D := by
  obtain ⟨tn, td, h1, h2, h3, h4, h5⟩ := h
  have hk : KT 123 w (w.setCell ⟨b, o, none⟩ v) := KT.set hb (by decide)
  exact ⟨tn, td, Kd.R_set h1 hb (by simp only [kN, flat]; decide) o v, Kd.R_set h2 hb (by simp only [kP, flat]; decide) o v, fun x hx => (h3 x hx).keep hk, fun x hx => (h4 x hx).keep hk, h5⟩
theorem TR.form {N : List Nd} {D : List Sp} (h : TR w S nv dv N D) : ∃ An cn Ad cd, nv = .slice An N.length cn ∧ dv = .slice Ad D.length cd ∧ Kd.C k47 w An N.length N ∧ N.length ≤ cn ∧ Kd.C k44 w Ad D.length D ∧ D.length ≤ cd := by
  obtain ⟨tn, td, h1, h2, h3, h4, h5, h6⟩ := h
  have l1 : tn.length = N.length := by rw [← h5]; simp
  have l2 : td.length = D.length := by rw [← h6]; simp
  obtain ⟨An, cn, rfl, hcn, _⟩ := Kd.R_reads h1
  obtain ⟨Ad, cd, rfl, hcd, _⟩ := Kd.R_reads h2
  have c1 := C_of_pn h1 (fun x hx => (h3 x hx).att)
  have c2 := C_of_psR h2 (fun x hx => (h4 x hx).att)
  rw [h5, l1] at c1; rw [h6, l2] at c2
  exact ⟨An, cn, Ad, cd, by rw [l1], by rw [l2], c1, by omega, c2, by omega⟩
theorem TI.tr (h : TI w S rb pv ps G ns gs ns.length nv dv tn td wr) (ln : ns.length = gs.length) : TR wr S nv dv (nodesM G ns gs) (dropM ns gs) := by
  have en := h.en
  have ed := h.ed
  rw [List.take_length, ln, List.take_length] at en ed
  exact ⟨tn, td, h.rn, h.rd, h.an, h.ad, en, ed⟩
/-- the result's box is written. -/
theorem TI.fin (h : TI w S rb pv ps G ns gs ns.length nv dv tn td wr) (ln : ns.length = gs.length) :
    ∃ An cn Ad cd, nv = .slice An (nodesM G ns gs).length cn ∧ dv = .slice Ad (dropM ns gs).length cd ∧
      ∀ WR, (wr.setCell ⟨rb, 0, none⟩ nv).setCell ⟨rb, 1, none⟩ dv = WR → WR.heap[rb]? = some (.cells #[nv, dv] 28 (0, 0)) ∧ Below w.heap.size w WR ∧ TR WR S nv dv (nodesM G ns gs) (dropM ns gs) := by
  obtain ⟨An, cn, Ad, cd, e1, e2, -⟩ := (h.tr ln).form
  refine ⟨An, cn, Ad, cd, e1, e2, ?_⟩
  rintro _ rfl
  have b0 := setB h.r0 0 nv
  have hs := h.hS
  exact ⟨setB b0 1 _, (h.bel.setCell (p := ⟨rb, 0, none⟩) (by show _ ≤ rb; omega) _).setCell (p := ⟨rb, 1, none⟩) (by show _ ≤ rb; omega) _, ((h.tr ln).set h.r0 0 nv).set b0 1 dv⟩
end
end Go.Proofs.Ytamcchdblglfoaa.Ft
set_option linter.unusedVariables false
set_option linter.unusedSimpArgs false
namespace Go.Proofs.Ytamcchdblglfoaa.Ft
open Go.RowKit Go.Proofs.Ytamcchdblglfoaa.B0 Go.Proofs.Ytamcchdblglfoaa.Pf Go.Proofs.YtamcchdblglfoaaW.PrintWords Go.Proofs.YtamcchdblglfoaaW.PrintLast
theorem KT.belowW {T : Nat} {w w' : World} {B : Nat} (h : Below B w w') (hB : w.heap.size ≤ B) : KT T w w' := fun k cs hk => (h.block k (Nat.lt_of_lt_of_le (lt_of_get hk) hB)).trans hk
set_option maxHeartbeats 8000000 in
set_option maxRecDepth 100000 in
theorem tree_c {w : World} {B bb : Nat} {v gv : Value} {keep : Bool} {most : Int} {ns : List PN} {gs : List Bool} (n : Nat) (h : BuR w B bb v gv keep most ns gs) (hn : ns.length = n) (hg : gs.length = n) (hn2 : n ≤ 1000) (hatt : ∀ x ∈ ns, AttP w x.p ∧ x.p.s.f9.length ≤ 1000000) (hpar : ∀ x ∈ ns, x.par = -1 ∨ ∃ q : Nat, x.par = q ∧ q < n) :
    Calls Try.prog 50 #[.pointer (some ⟨bb, 0, none⟩)] w fun e w' => Below w.heap.size w w' ∧ ∃ An cn Ad cd, e = .returned (.agg #[.slice An (nodesM gs ns gs).length cn, .slice Ad (dropM ns gs).length cd]) ∧ TR w' (w.heap.size + 2) (.slice An (nodesM gs ns gs).length cn) (.slice Ad (dropM ns gs).length cd) (nodesM gs ns gs) (dropM ns gs) := by
  have H := Lib.hid h; have HN := Lib.hid (And.intro hn hg); have HA := Lib.hid hatt; have HP := Lib.hid hpar
  clear h hatt hpar
  obtain ⟨A, cap, hv, _⟩ := Kd.R_reads H.out.rN
  rw [hn] at hv
  obtain ⟨Ag, gcap, hgv, _⟩ := Kd.R_reads H.out.rG
  rw [hg] at hgv
  subst hv hgv
  clear hn hg
  obtain ⟨rb, hrb⟩ : ∃ rb, Hid (w.heap.size = rb) := ⟨_, Lib.hid rfl⟩
  obtain ⟨w1, hw1⟩ : ∃ w1, Hid ((w.alloc (.cells #[.slice none 0 0, .slice none 0 0] 28)).alloc (.cells #[.slice none 0 0, .slice none 0 0] 28) = w1) := ⟨_, Lib.hid rfl⟩
  have H1 : Hid (Below w.heap.size w w1 ∧ w1.heap[rb]? = some (.cells #[.slice none 0 0, .slice none 0 0] 28 (0, 0)) ∧ w1.heap[rb + 1]? = some (.cells #[.slice none 0 0, .slice none 0 0] 28 (0, 0)) ∧ w1.heap.size = rb + 2) := by
    rw [← hw1.out, ← hrb.out]
    have h2 := allocN (w.alloc (.cells #[.slice none 0 0, .slice none 0 0] 28)) (.cells #[.slice none 0 0, .slice none 0 0] 28)
    rw [size_alloc] at h2
    exact ⟨((Below.refl _ _).alloc (Nat.le_refl _) _).alloc (by simp) _, (allocO _ _ (by simp)).trans (allocN _ _), h2, by simp⟩
  have HB1 : Hid (BuR w1 B bb (.slice A n cap) (.slice Ag n gcap) keep most ns gs) := H.out.below H1.out.1
  have c0 : w1.cell? ⟨bb, 0, none⟩ = some (.slice A n cap) := by rw [cellB HB1.out.blk]; rfl
  go_enter Try.func50, Try.ntmps50
  go_upto_region 2 with fail
  rw [hw1.out, hrb.out]
  go_wp2_with ((with_reducible refine gate_dst (N := 14) rfl ?_); go_loud (refine Kd.R_make (Kd.int .i64) (w0 := w1) (ok := fun _ => True) (okp := fun _ => True) w1.heap.size 3 rfl (N := 14) rfl 88 _ _ rfl (n : Int) rfl rfl Try.underlying88 (.int .i64 0) 8 infoI rfl (by decide) (by decide) 0 rfl (fun _ hk => hk) trivial (by omega) (by omega) (Below.refl _ _) (Nat.le_refl _) ?_))
  intro pv w2 hrm hb2 hg2 nb hnb1 hnb2
  have H2 : Hid (Below w1.heap.size w1 w2 ∧ (Kd.int .i64).R 3 w2 w1.heap.size (fun _ => True) pv (List.replicate n 0)) := ⟨hb2, hrm⟩
  clear hrm hb2 hg2 hnb1 hnb2 c0
  have c0 : w2.cell? ⟨bb, 0, none⟩ = some (.slice A n cap) := pw_cell_below H2.out.1 (by rw [cellB HB1.out.blk]; rfl)
  go_wp2_with fail
  clear c0
  go_loopw [20, 5] (fun iv kv wr => ∃ (i k : Nat), iv = .int .i64 i ∧ kv = .int .i64 k ∧ i ≤ n ∧ Hid (k = place gs i ∧ ∃ ps : List Int, Below w1.heap.size w1 wr ∧ (Kd.int .i64).R 3 wr w1.heap.size (fun _ => True) pv ps ∧ ps.length = n ∧ ∀ j, j < i → ps[j]? = some ((place gs j : Nat) : Int))) (fun iv _ _ => n - (intOf iv).toNat)
  case atStart => exact ⟨0, 0, rfl, rfl, Nat.zero_le _, rfl, _, H2.out.1, H2.out.2, by simp, fun j hj => by omega⟩
  case round =>
    obtain ⟨i, k, rfl, rfl, hi, HW⟩ := hrel
    obtain ⟨hkp, ps, hW⟩ := HW.out
    have HK := Lib.hid hkp
    have HW1 := Lib.hid hW; clear hW HW hkp
    have hkn : k ≤ 1000 := by rw [HK.out]; exact Nat.le_trans (place_le _ _) (by omega)
    by_cases hlt : i < n
    · have hki : (i : Int) < (n : Int) := by omega
      obtain ⟨gg, gc, hgv, hBgg⟩ := H.out.formG (by rw [HN.out.2]; omega)
      rw [HN.out.2] at hgv
      obtain ⟨rfl, _, rfl⟩ := Value.slice.inj hgv
      obtain ⟨pg, pc, hpv, _⟩ := Kd.R_form HW1.out.2.1 (by rw [HW1.out.2.2.1]; omega)
      rw [HW1.out.2.2.1] at hpv
      subst hpv
      obtain ⟨gx, hgx⟩ : ∃ gx, gs[i]? = some gx := ⟨_, List.getElem?_eq_getElem (by rw [HN.out.2]; exact hlt)⟩
      obtain ⟨px, hpx⟩ : ∃ px, ps[i]? = some px := ⟨_, List.getElem?_eq_getElem (by rw [HW1.out.2.2.1]; exact hlt)⟩
      obtain ⟨s1, s2⟩ := cellI HW1.out.2.1 hpx
      have HGX := Lib.hid hgx
      obtain ⟨w3, hw3⟩ : ∃ w3, Hid (wr.setCell ⟨pg, i, none⟩ (.int .i64 (k : Int)) = w3) := ⟨_, Lib.hid rfl⟩
      have H3 : Hid (Below w1.heap.size w1 w3 ∧ (Kd.int .i64).R 3 w3 w1.heap.size (fun _ => True) (.slice (some ⟨pg, 0, none⟩) n pc) (ps.set i (k : Int)) ∧ (ps.set i (k : Int)).length = n ∧ ∀ j, j < i + 1 → (ps.set i (k : Int))[j]? = some ((place gs j : Nat) : Int)) := by
        rw [← hw3.out]
        refine ⟨HW1.out.1.setCell (p := ⟨pg, i, none⟩) (Kd.R_base HW1.out.2.1 pg (by simp [Value.ownBlock])) _, putI HW1.out.2.1 i _, by rw [List.length_set]; exact HW1.out.2.2.1, fun j hj => ?_⟩
        by_cases e : i = j
        · subst e
          rw [List.getElem?_set_self (by rw [HW1.out.2.2.1]; exact hlt), HK.out]
        · rw [List.getElem?_set_ne e]; exact HW1.out.2.2.2 j (by omega)
      have HB3 : Hid (BuR w3 B bb (.slice A n cap) (.slice (some ⟨gg, 0, none⟩) n gcap) keep most ns gs) := HB1.out.below H3.out.1
      have d1 : w3.cell? ⟨bb, 1, none⟩ = some (.slice (some ⟨gg, 0, none⟩) n gcap) := by rw [cellB HB3.out.blk]; rfl
      have d2 := (cellG HB3.out.rG HGX.out).1
      rw [← hw3.out] at d1 d2
      clear hgx hpx
      cases gx with
      | true =>
        have HPS : Hid (k = place gs (i + 1)) := by rw [place_succ HGX.out]; exact Lib.hid HK.out
        go_wp2_with fail
        rw [hw3.out]
        go_roundw
        case rel => exact ⟨i + 1, k, by go_num, rfl, by omega, HPS.out, _, H3.out⟩
        case measure => simp [intOf]; omega
      | false =>
        have HPS : Hid (k + 1 = place gs (i + 1)) := by rw [place_succ HGX.out, HK.out]; exact Lib.hid rfl
        go_wp2_with fail
        rw [hw3.out]
        go_roundw
        case rel => exact ⟨i + 1, k + 1, by go_num, by go_num, by omega, HPS.out, _, H3.out⟩
        case measure => simp [intOf]; omega
    · have hin : i = n := by omega
      subst hin
      have HPL : Hid (Below w1.heap.size w1 wr ∧ (Kd.int .i64).R 3 wr w1.heap.size (fun _ => True) pv ps ∧ ps.length = i ∧ ∀ j, j < i → ps[j]? = some ((place gs j : Nat) : Int)) := HW1.out
      have HBr : Hid (BuR wr B bb (.slice A i cap) (.slice Ag i gcap) keep most ns gs) := HB1.out.below HPL.out.1
      have c0 : wr.cell? ⟨bb, 0, none⟩ = some (.slice A i cap) := by rw [cellB HBr.out.blk]; rfl
      clear HW1 HK hkn
      go_wp2_with fail
      clear c0
      obtain ⟨wo, hwo⟩ : ∃ wo, wo = wr := ⟨_, rfl⟩
      subst hwo
      have ln : ns.length = gs.length := by rw [HN.out.1, HN.out.2]
      go_loopw [43] (fun jv wr => ∃ j : Nat, jv = .int .i64 j ∧ j ≤ i ∧ Hid (∃ (nv dv : Value) (tn : List PN) (td : List PS), TI w w1.heap.size rb pv ps gs ns gs j nv dv tn td wr)) (fun jv _ => i - (intOf jv).toNat)
      case atStart =>
        have h2 := H1.out.2.2.2
        refine ⟨0, rfl, Nat.zero_le _, .slice none 0 0, .slice none 0 0, [], [], (HPL.out.1.block _ (by omega)).trans H1.out.2.2.1, Kd.R_nil _ _ _ _ _, Kd.R_nil _ _ _ _ _, by simp, by simp, rfl, rfl, H1.out.1.trans (HPL.out.1.mono H1.out.1.size), (HPL.out.1.block _ (by omega)).trans H1.out.2.1, HPL.out.2.1, HPL.out.1.size, hrb.out, h2⟩
      case round =>
        obtain ⟨j, rfl, hj, HY⟩ := hrel
        obtain ⟨nv, dv, tn, td, hY⟩ := HY.out
        have HY1 := Lib.hid hY; clear hY HY
        by_cases hjl : j < i
        · have hji : (j : Int) < (i : Int) := by omega
          obtain ⟨x, hx⟩ : ∃ x, ns[j]? = some x := ⟨_, List.getElem?_eq_getElem (by rw [HN.out.1]; exact hjl)⟩
          obtain ⟨gx, hgx⟩ : ∃ gx, gs[j]? = some gx := ⟨_, List.getElem?_eq_getElem (by rw [HN.out.2]; exact hjl)⟩
          have HB2 : Hid (BuR wr B bb (.slice A i cap) (.slice Ag i gcap) keep most ns gs) := H.out.below HY1.out.bel
          obtain ⟨g, cap', hv, _, _⟩ := HB2.out.form (by rw [HN.out.1]; omega)
          rw [HN.out.1] at hv
          obtain ⟨rfl, _, rfl⟩ := Value.slice.inj hv
          obtain ⟨gg, gc, hgv, _⟩ := HB2.out.formG (by rw [HN.out.2]; omega)
          rw [HN.out.2] at hgv
          obtain ⟨rfl, _, rfl⟩ := Value.slice.inj hgv
          have n0 : wr.cell? ⟨g, j * 13, none⟩ = some (.int .u64 x.p.s.f0) := (flat_cell HB2.out.rN hx (j := 0) rfl).1
          have n1 : wr.cell? ⟨g, j * 13 + 1, none⟩ = some (.int .u64 x.p.s.f1) := (flat_cell HB2.out.rN hx (j := 1) rfl).1
          have n2 : wr.cell? ⟨g, j * 13 + 2, none⟩ = some (.int .u64 x.p.s.f2) := (flat_cell HB2.out.rN hx (j := 2) rfl).1
          have n3 : wr.cell? ⟨g, j * 13 + 3, none⟩ = some (.string x.p.s.f3) := (flat_cell HB2.out.rN hx (j := 3) rfl).1
          have n4 : wr.cell? ⟨g, j * 13 + 4, none⟩ = some (.string x.p.s.f4) := (flat_cell HB2.out.rN hx (j := 4) rfl).1
          have n5 : wr.cell? ⟨g, j * 13 + 5, none⟩ = some (.int .i64 x.p.s.f5) := (flat_cell HB2.out.rN hx (j := 5) rfl).1
          have n6 : wr.cell? ⟨g, j * 13 + 6, none⟩ = some (.int .i64 x.p.s.f6) := (flat_cell HB2.out.rN hx (j := 6) rfl).1
          have n7 : wr.cell? ⟨g, j * 13 + 7, none⟩ = some (.int .u64 x.p.s.f7) := (flat_cell HB2.out.rN hx (j := 7) rfl).1
          have n8 : wr.cell? ⟨g, j * 13 + 8, none⟩ = some (.int .u64 x.p.s.f8) := (flat_cell HB2.out.rN hx (j := 8) rfl).1
          have n9 : wr.cell? ⟨g, j * 13 + 9, none⟩ = some (.slice x.p.A x.p.s.f9.length x.p.c) := (flat_cell HB2.out.rN hx (j := 9) rfl).1
          have n10 : wr.cell? ⟨g, j * 13 + 10, none⟩ = some (.int .i64 x.par) := (flat_cell HB2.out.rN hx (j := 10) rfl).1
          have n11 : wr.cell? ⟨g, j * 13 + 11, none⟩ = some (.int .i64 x.dep) := (flat_cell HB2.out.rN hx (j := 11) rfl).1
          have n12 : wr.cell? ⟨g, j * 13 + 12, none⟩ = some (.bool x.orp) := (flat_cell HB2.out.rN hx (j := 12) rfl).1
          obtain ⟨wa, hwa⟩ : ∃ wa, Hid (wr.alloc (.cells #[.int .u64 x.p.s.f0, .int .u64 x.p.s.f1, .int .u64 x.p.s.f2, .string x.p.s.f3, .string x.p.s.f4, .int .i64 x.p.s.f5, .int .i64 x.p.s.f6, .int .u64 x.p.s.f7, .int .u64 x.p.s.f8, .slice x.p.A x.p.s.f9.length x.p.c, .int .i64 x.par, .int .i64 x.dep, .bool x.orp] 47) = wa) := ⟨_, Lib.hid rfl⟩
          obtain ⟨nb, hnb⟩ : ∃ nb, Hid (wr.heap.size = nb) := ⟨_, Lib.hid rfl⟩
          have HWA : Hid (Below wr.heap.size wr wa ∧ wa.heap[nb]? = some (.cells #[.int .u64 x.p.s.f0, .int .u64 x.p.s.f1, .int .u64 x.p.s.f2, .string x.p.s.f3, .string x.p.s.f4, .int .i64 x.p.s.f5, .int .i64 x.p.s.f6, .int .u64 x.p.s.f7, .int .u64 x.p.s.f8, .slice x.p.A x.p.s.f9.length x.p.c, .int .i64 x.par, .int .i64 x.dep, .bool x.orp] 47 (0, 0))) := by
            rw [← hwa.out, ← hnb.out]; exact ⟨(Below.refl _ _).alloc (Nat.le_refl _) _, allocN _ _⟩
          have HX := Lib.hid (And.intro hx hgx); clear hx hgx
          have HAX := Lib.hid (HA.out x (List.mem_of_getElem? HX.out.1))
          have HPX := Lib.hid (HP.out x (List.mem_of_getElem? HX.out.1))
          have a9 : wa.cell? ⟨nb, 9, none⟩ = some (.slice x.p.A x.p.s.f9.length x.p.c) := by rw [cellB HWA.out.2]; rfl
          go_upto_region 14 with fail
          rw [hwa.out, hnb.out]
          go_wp2_with fail
          refine (CloneA_c wa x.p.A x.p.c x.p.s.f9 (Kd.C_below HAX.out.1.1 (HY1.out.bel.trans (HWA.out.1.mono HY1.out.bel.size))) HAX.out.2).mono ?_
          rintro e wk ⟨vA, rfl, hRA, hBA⟩
          obtain ⟨A2, c2, rfl, hc2, hTA⟩ := TAt.of_R hRA
          have hkb : wk.heap[nb]? = some (.cells #[.int .u64 x.p.s.f0, .int .u64 x.p.s.f1, .int .u64 x.p.s.f2, .string x.p.s.f3, .string x.p.s.f4, .int .i64 x.p.s.f5, .int .i64 x.p.s.f6, .int .u64 x.p.s.f7, .int .u64 x.p.s.f8, .slice x.p.A x.p.s.f9.length x.p.c, .int .i64 x.par, .int .i64 x.dep, .bool x.orp] 47 (0, 0)) := (hBA.block _ (lt_of_get HWA.out.2)).trans HWA.out.2
          have hwk : Below wr.heap.size wr wk := HWA.out.1.trans (hBA.mono HWA.out.1.size)
          have hT5 : TAt k123 123 (wk.setCell ⟨nb, 9, none⟩ (.slice A2 x.p.s.f9.length c2)) A2 x.p.s.f9 := hTA.keep (ka_flat _ _) (KT.set hkb (by decide))
          have HK5 : Hid ((wk.setCell ⟨nb, 9, none⟩ (.slice A2 x.p.s.f9.length c2)).heap[nb]? = some (.cells #[.int .u64 x.p.s.f0, .int .u64 x.p.s.f1, .int .u64 x.p.s.f2, .string x.p.s.f3, .string x.p.s.f4, .int .i64 x.p.s.f5, .int .i64 x.p.s.f6, .int .u64 x.p.s.f7, .int .u64 x.p.s.f8, .slice A2 x.p.s.f9.length c2, .int .i64 x.par, .int .i64 x.dep, .bool x.orp] 47 (0, 0)) ∧ Below wr.heap.size wr (wk.setCell ⟨nb, 9, none⟩ (.slice A2 x.p.s.f9.length c2)) ∧ AttT (wk.setCell ⟨nb, 9, none⟩ (.slice A2 x.p.s.f9.length c2)) ⟨x.p.s, A2, c2⟩) :=
            ⟨setB hkb 9 _, hwk.setCell (p := ⟨nb, 9, none⟩) (by show _ ≤ nb; rw [hnb.out]; exact Nat.le_refl _) _, hT5, hc2⟩
          have k9 : wk.cell? ⟨nb, 9, none⟩ = some (.slice x.p.A x.p.s.f9.length x.p.c) := by rw [cellB hkb]; rfl
          have z9 : wk.frozen? ⟨nb, 9, none⟩ = false := frozenB hkb 9
          clear hRA hBA hTA hkb hwk hT5 hc2 a9 n0 n1 n2 n3 n4 n5 n6 n7 n8 n9 n10 n11 n12
          go_upto_region 15 with fail
          obtain ⟨w5, hw5⟩ : ∃ w5, Hid (wk.setCell ⟨nb, 9, none⟩ (.slice A2 x.p.s.f9.length c2) = w5) := ⟨_, Lib.hid rfl⟩
          rw [hw5.out]
          have H5 : Hid (w5.heap[nb]? = some (.cells #[.int .u64 x.p.s.f0, .int .u64 x.p.s.f1, .int .u64 x.p.s.f2, .string x.p.s.f3, .string x.p.s.f4, .int .i64 x.p.s.f5, .int .i64 x.p.s.f6, .int .u64 x.p.s.f7, .int .u64 x.p.s.f8, .slice A2 x.p.s.f9.length c2, .int .i64 x.par, .int .i64 x.dep, .bool x.orp] 47 (0, 0)) ∧ Below wr.heap.size wr w5 ∧ AttT w5 ⟨x.p.s, A2, c2⟩) := by rw [← hw5.out]; exact HK5.out
          have HT5 : Hid (TI w w1.heap.size rb pv ps gs ns gs j nv dv tn td w5) := HY1.out.below H5.out.2.1
          have HB5 : Hid (BuR w5 B bb (.slice (some ⟨g, 0, none⟩) i cap) (.slice (some ⟨gg, 0, none⟩) i gcap) keep most ns gs) := H.out.below HT5.out.bel
          clear HK5 k9 z9
          have m0 : w5.cell? ⟨nb, 0, none⟩ = some (.int .u64 x.p.s.f0) := by rw [cellB H5.out.1]; rfl
          have m1 : w5.cell? ⟨nb, 1, none⟩ = some (.int .u64 x.p.s.f1) := by rw [cellB H5.out.1]; rfl
          have m2 : w5.cell? ⟨nb, 2, none⟩ = some (.int .u64 x.p.s.f2) := by rw [cellB H5.out.1]; rfl
          have m3 : w5.cell? ⟨nb, 3, none⟩ = some (.string x.p.s.f3) := by rw [cellB H5.out.1]; rfl
          have m4 : w5.cell? ⟨nb, 4, none⟩ = some (.string x.p.s.f4) := by rw [cellB H5.out.1]; rfl
          have m5 : w5.cell? ⟨nb, 5, none⟩ = some (.int .i64 x.p.s.f5) := by rw [cellB H5.out.1]; rfl
          have m6 : w5.cell? ⟨nb, 6, none⟩ = some (.int .i64 x.p.s.f6) := by rw [cellB H5.out.1]; rfl
          have m7 : w5.cell? ⟨nb, 7, none⟩ = some (.int .u64 x.p.s.f7) := by rw [cellB H5.out.1]; rfl
          have m8 : w5.cell? ⟨nb, 8, none⟩ = some (.int .u64 x.p.s.f8) := by rw [cellB H5.out.1]; rfl
          have m9 : w5.cell? ⟨nb, 9, none⟩ = some (.slice A2 x.p.s.f9.length c2) := by rw [cellB H5.out.1]; rfl
          have m10 : w5.cell? ⟨nb, 10, none⟩ = some (.int .i64 x.par) := by rw [cellB H5.out.1]; rfl
          have m11 : w5.cell? ⟨nb, 11, none⟩ = some (.int .i64 x.dep) := by rw [cellB H5.out.1]; rfl
          have m12 : w5.cell? ⟨nb, 12, none⟩ = some (.bool x.orp) := by rw [cellB H5.out.1]; rfl
          have d1 : w5.cell? ⟨bb, 1, none⟩ = some (.slice (some ⟨gg, 0, none⟩) i gcap) := by rw [cellB HB5.out.blk]; rfl
          have d2 := (cellG HB5.out.rG HX.out.2).1
          have b0 : w5.cell? ⟨rb + 1, 0, none⟩ = some nv := by rw [cellB HT5.out.box]; rfl
          have b1 : w5.cell? ⟨rb + 1, 1, none⟩ = some dv := by rw [cellB HT5.out.box]; rfl
          cases gx with
          | true =>
            go_wp2_with (at_builtin; go_loud (refine Kd.R_append kP (w0 := w5) (W := w5) w1.heap.size rfl _ _ 26 44 (.agg #[.int .u64 0, .int .u64 0, .int .u64 0, .string ⟨#[]⟩, .string ⟨#[]⟩, .int .i64 0, .int .i64 0, .int .u64 0, .int .u64 0, .slice none 0 0]) 112 rfl Try.underlying26 infoS rfl (by decide) (by decide) dv td (⟨x.p.s, A2, c2⟩ : PS) (csP ⟨x.p.s, A2, c2⟩) (fun _ => True) (fun _ => False) rfl rfl rfl (fun _ h => h.elim) (fun _ _ => trivial) HT5.out.rd (Below.refl _ _) HT5.out.sz (by have := HT5.out.td_len; have := HN.out.1; omega) ?_))
            intro v8 w8 hr8 hb8 hg8 hat8
            have H8 : Hid (TI w w1.heap.size rb pv ps gs ns gs (j + 1) nv v8 tn (td ++ [⟨x.p.s, A2, c2⟩]) (w8.setCell ⟨rb + 1, 1, none⟩ v8)) := HT5.out.pushD ln HX.out.1 HX.out.2 rfl H5.out.2.2 hr8 hb8 hg8
            have hbx : w8.heap[rb + 1]? = some (.cells #[nv, dv] 28 (0, 0)) := (hg8.block _ (lt_of_get HT5.out.box) (Kd.R_ne HT5.out.rd HT5.out.box (by decide))).trans HT5.out.box
            have g8 : w8.cell? ⟨rb + 1, 1, none⟩ = some dv := by rw [cellB hbx]; rfl
            have z8 : w8.frozen? ⟨rb + 1, 1, none⟩ = false := frozenB hbx 1
            obtain ⟨A8, c8, rfl, _, _⟩ := Kd.R_reads hr8
            have hl8 : (td ++ [(⟨x.p.s, A2, c2⟩ : PS)]).length = td.length + 1 := by simp
            have h8 := H8.out
            rw [hl8] at h8
            have H9 := Lib.hid h8
            clear h8 H8 hr8 hb8 hg8 hat8 hbx hl8 m0 m1 m2 m3 m4 m5 m6 m7 m8 m9 m10 m11 m12 d1 d2 b0 b1
            go_wp2_with fail
            go_roundw
            case rel => exact ⟨j + 1, by go_num, by omega, _, _, _, _, H9.out⟩
            case measure => simp [intOf]; omega
          | false =>
            have f5 : (!true) = false := rfl
            rcases HPX.out with hp1 | ⟨q, hpq, hq⟩
            · have m10' : w5.cell? ⟨nb, 10, none⟩ = some (.int .i64 (-1)) := by rw [m10, hp1]
              have HOP : Hid (ndOf (⟨⟨x.p.s, A2, c2⟩, -1, x.dep, x.orp⟩ : PN) = outN gs x) := by
                refine Lib.hid ?_
                unfold outN outP ndOf
                rw [if_pos hp1]
              clear m10
              have bb0 : w5.cell? ⟨rb + 1, 0, none⟩ = some nv := by rw [cellB HT5.out.box]; rfl
              go_wp2_with (at_builtin; go_loud (refine Kd.R_append kN (w0 := w5) (W := w5) w1.heap.size rfl _ _ 25 47 (.agg #[.int .u64 0, .int .u64 0, .int .u64 0, .string ⟨#[]⟩, .string ⟨#[]⟩, .int .i64 0, .int .i64 0, .int .u64 0, .int .u64 0, .slice none 0 0, .int .i64 0, .int .i64 0, .bool false]) 136 rfl Try.underlying25 infoN rfl (by decide) (by decide) nv tn (⟨⟨x.p.s, A2, c2⟩, (-1), x.dep, x.orp⟩ : PN) (csN ⟨⟨x.p.s, A2, c2⟩, (-1), x.dep, x.orp⟩) (fun _ => True) (fun _ => False) rfl rfl rfl (fun _ h => h.elim) (fun _ _ => trivial) HT5.out.rn (Below.refl _ _) HT5.out.sz (by have := HT5.out.tn_len; have := HN.out.1; omega) ?_))
              intro v8 w8 hr8 hb8 hg8 hat8
              have H8 : Hid (TI w w1.heap.size rb pv ps gs ns gs (j + 1) v8 dv (tn ++ [⟨⟨x.p.s, A2, c2⟩, (-1), x.dep, x.orp⟩]) td (w8.setCell ⟨rb + 1, 0, none⟩ v8)) := HT5.out.pushN ln HX.out.1 HX.out.2 HOP.out H5.out.2.2 hr8 hb8 hg8
              have hbx : w8.heap[rb + 1]? = some (.cells #[nv, dv] 28 (0, 0)) := (hg8.block _ (lt_of_get HT5.out.box) (Kd.R_ne HT5.out.rn HT5.out.box (by decide))).trans HT5.out.box
              have g8 : w8.cell? ⟨rb + 1, 0, none⟩ = some nv := by rw [cellB hbx]; rfl
              have z8 : w8.frozen? ⟨rb + 1, 0, none⟩ = false := frozenB hbx 0
              obtain ⟨A8, c8, rfl, _, _⟩ := Kd.R_reads hr8
              have hl8 : (tn ++ [(⟨⟨x.p.s, A2, c2⟩, (-1), x.dep, x.orp⟩ : PN)]).length = tn.length + 1 := by simp
              have h8 := H8.out
              rw [hl8] at h8
              have H9 := Lib.hid h8
              clear h8 H8 hr8 hb8 hg8 hat8 hbx hl8 bb0
              go_wp2_with fail
              go_roundw
              case rel => exact ⟨j + 1, by go_num, by omega, _, _, _, _, H9.out⟩
              case measure => simp [intOf]; omega
            · obtain ⟨pg, pc, hpv, _⟩ := Kd.R_form HT5.out.rp (by rw [HPL.out.2.2.1]; omega)
              rw [HPL.out.2.2.1] at hpv
              subst hpv
              have hpl := HPL.out.2.2.2 q hq
              obtain ⟨s1, _⟩ := cellI HT5.out.rp hpl
              have hqi : (q : Int) < (i : Int) := by omega
              have m10' : w5.cell? ⟨nb, 10, none⟩ = some (.int .i64 (q : Int)) := by rw [m10, hpq]
              have fq : ((q : Int) != -1) = true := by rw [bne_iff_ne]; omega
              have HOP : Hid (ndOf (⟨⟨x.p.s, A2, c2⟩, ((place gs q : Nat) : Int), x.dep, x.orp⟩ : PN) = outN gs x) := by
                refine Lib.hid ?_
                unfold outN outP ndOf
                rw [if_neg (by omega), hpq, Int.toNat_natCast]
              have z10 : w5.frozen? ⟨nb, 10, none⟩ = false := frozenB H5.out.1 10
              have HK6 : Hid ((w5.setCell ⟨nb, 10, none⟩ (.int .i64 ((place gs q : Nat) : Int))).heap[nb]? = some (.cells #[.int .u64 x.p.s.f0, .int .u64 x.p.s.f1, .int .u64 x.p.s.f2, .string x.p.s.f3, .string x.p.s.f4, .int .i64 x.p.s.f5, .int .i64 x.p.s.f6, .int .u64 x.p.s.f7, .int .u64 x.p.s.f8, .slice A2 x.p.s.f9.length c2, .int .i64 ((place gs q : Nat) : Int), .int .i64 x.dep, .bool x.orp] 47 (0, 0)) ∧ Below wr.heap.size wr (w5.setCell ⟨nb, 10, none⟩ (.int .i64 ((place gs q : Nat) : Int))) ∧ AttT (w5.setCell ⟨nb, 10, none⟩ (.int .i64 ((place gs q : Nat) : Int))) ⟨x.p.s, A2, c2⟩) :=
                ⟨setB H5.out.1 10 _, H5.out.2.1.setCell (p := ⟨nb, 10, none⟩) (by show _ ≤ nb; rw [hnb.out]; exact Nat.le_refl _) _, H5.out.2.2.keep (KT.set H5.out.1 (by decide))⟩
              clear m10
              go_upto_region 19 with fail
              obtain ⟨w6, hw6⟩ : ∃ w6, Hid (w5.setCell ⟨nb, 10, none⟩ (.int .i64 ((place gs q : Nat) : Int)) = w6) := ⟨_, Lib.hid rfl⟩
              rw [hw6.out]
              have H6 : Hid (w6.heap[nb]? = some (.cells #[.int .u64 x.p.s.f0, .int .u64 x.p.s.f1, .int .u64 x.p.s.f2, .string x.p.s.f3, .string x.p.s.f4, .int .i64 x.p.s.f5, .int .i64 x.p.s.f6, .int .u64 x.p.s.f7, .int .u64 x.p.s.f8, .slice A2 x.p.s.f9.length c2, .int .i64 ((place gs q : Nat) : Int), .int .i64 x.dep, .bool x.orp] 47 (0, 0)) ∧ Below wr.heap.size wr w6 ∧ AttT w6 ⟨x.p.s, A2, c2⟩) := by rw [← hw6.out]; exact HK6.out
              have HT6 : Hid (TI w w1.heap.size rb (.slice (some ⟨pg, 0, none⟩) i pc) ps gs ns gs j nv dv tn td w6) := HY1.out.below H6.out.2.1
              clear HK6 z10 s1 m10' b0 b1 d1 d2 m0 m1 m2 m3 m4 m5 m6 m7 m8 m9 m11 m12
              have o0 : w6.cell? ⟨nb, 0, none⟩ = some (.int .u64 x.p.s.f0) := by rw [cellB H6.out.1]; rfl
              have o1 : w6.cell? ⟨nb, 1, none⟩ = some (.int .u64 x.p.s.f1) := by rw [cellB H6.out.1]; rfl
              have o2 : w6.cell? ⟨nb, 2, none⟩ = some (.int .u64 x.p.s.f2) := by rw [cellB H6.out.1]; rfl
              have o3 : w6.cell? ⟨nb, 3, none⟩ = some (.string x.p.s.f3) := by rw [cellB H6.out.1]; rfl
              have o4 : w6.cell? ⟨nb, 4, none⟩ = some (.string x.p.s.f4) := by rw [cellB H6.out.1]; rfl
              have o5 : w6.cell? ⟨nb, 5, none⟩ = some (.int .i64 x.p.s.f5) := by rw [cellB H6.out.1]; rfl
              have o6 : w6.cell? ⟨nb, 6, none⟩ = some (.int .i64 x.p.s.f6) := by rw [cellB H6.out.1]; rfl
              have o7 : w6.cell? ⟨nb, 7, none⟩ = some (.int .u64 x.p.s.f7) := by rw [cellB H6.out.1]; rfl
              have o8 : w6.cell? ⟨nb, 8, none⟩ = some (.int .u64 x.p.s.f8) := by rw [cellB H6.out.1]; rfl
              have o9 : w6.cell? ⟨nb, 9, none⟩ = some (.slice A2 x.p.s.f9.length c2) := by rw [cellB H6.out.1]; rfl
              have o10 : w6.cell? ⟨nb, 10, none⟩ = some (.int .i64 ((place gs q : Nat) : Int)) := by rw [cellB H6.out.1]; rfl
              have o11 : w6.cell? ⟨nb, 11, none⟩ = some (.int .i64 x.dep) := by rw [cellB H6.out.1]; rfl
              have o12 : w6.cell? ⟨nb, 12, none⟩ = some (.bool x.orp) := by rw [cellB H6.out.1]; rfl
              have bb0 : w6.cell? ⟨rb + 1, 0, none⟩ = some nv := by rw [cellB HT6.out.box]; rfl
              go_wp2_with (at_builtin; go_loud (refine Kd.R_append kN (w0 := w6) (W := w6) w1.heap.size rfl _ _ 25 47 (.agg #[.int .u64 0, .int .u64 0, .int .u64 0, .string ⟨#[]⟩, .string ⟨#[]⟩, .int .i64 0, .int .i64 0, .int .u64 0, .int .u64 0, .slice none 0 0, .int .i64 0, .int .i64 0, .bool false]) 136 rfl Try.underlying25 infoN rfl (by decide) (by decide) nv tn (⟨⟨x.p.s, A2, c2⟩, ((place gs q : Nat) : Int), x.dep, x.orp⟩ : PN) (csN ⟨⟨x.p.s, A2, c2⟩, ((place gs q : Nat) : Int), x.dep, x.orp⟩) (fun _ => True) (fun _ => False) rfl rfl rfl (fun _ h => h.elim) (fun _ _ => trivial) HT6.out.rn (Below.refl _ _) HT6.out.sz (by have := HT6.out.tn_len; have := HN.out.1; omega) ?_))
              intro v8 w8 hr8 hb8 hg8 hat8
              have H8 : Hid (TI w w1.heap.size rb (.slice (some ⟨pg, 0, none⟩) i pc) ps gs ns gs (j + 1) v8 dv (tn ++ [⟨⟨x.p.s, A2, c2⟩, ((place gs q : Nat) : Int), x.dep, x.orp⟩]) td (w8.setCell ⟨rb + 1, 0, none⟩ v8)) := HT6.out.pushN ln HX.out.1 HX.out.2 HOP.out H6.out.2.2 hr8 hb8 hg8
              have hbx : w8.heap[rb + 1]? = some (.cells #[nv, dv] 28 (0, 0)) := (hg8.block _ (lt_of_get HT6.out.box) (Kd.R_ne HT6.out.rn HT6.out.box (by decide))).trans HT6.out.box
              have g8 : w8.cell? ⟨rb + 1, 0, none⟩ = some nv := by rw [cellB hbx]; rfl
              have z8 : w8.frozen? ⟨rb + 1, 0, none⟩ = false := frozenB hbx 0
              obtain ⟨A8, c8, rfl, _, _⟩ := Kd.R_reads hr8
              have hl8 : (tn ++ [(⟨⟨x.p.s, A2, c2⟩, ((place gs q : Nat) : Int), x.dep, x.orp⟩ : PN)]).length = tn.length + 1 := by simp
              have h8 := H8.out
              rw [hl8] at h8
              have H9 := Lib.hid h8
              clear h8 H8 hr8 hb8 hg8 hat8 hbx hl8 bb0
              go_wp2_with fail
              go_roundw
              case rel => exact ⟨j + 1, by go_num, by omega, _, _, _, _, H9.out⟩
              case measure => simp [intOf]; omega
        · obtain rfl : j = i := by omega
          have hall := HY1.out
          rw [← HN.out.1] at hall
          obtain ⟨An, cn, Ad, cd, rfl, rfl, hr1⟩ := hall.fin ln
          have b0 : wr.cell? ⟨rb + 1, 0, none⟩ = some (.slice An (nodesM gs ns gs).length cn) := by rw [cellB HY1.out.box]; rfl
          have b1 : wr.cell? ⟨rb + 1, 1, none⟩ = some (.slice Ad (dropM ns gs).length cd) := by rw [cellB HY1.out.box]; rfl
          obtain ⟨WR, hWR⟩ : ∃ WR, Hid ((wr.setCell ⟨rb, 0, none⟩ (.slice An (nodesM gs ns gs).length cn)).setCell ⟨rb, 1, none⟩ (.slice Ad (dropM ns gs).length cd) = WR) := ⟨_, Lib.hid rfl⟩
          have HR1 := Lib.hid (hr1 WR hWR.out)
          clear hr1 hall
          have r0 : wr.cell? ⟨rb, 0, none⟩ = some (.slice none 0 0) := by rw [cellB HY1.out.r0]; rfl
          have r1 : wr.cell? ⟨rb, 1, none⟩ = some (.slice none 0 0) := by rw [cellB HY1.out.r0]; rfl
          have y0 : wr.frozen? ⟨rb, 0, none⟩ = false := frozenB HY1.out.r0 0
          have y1 : wr.frozen? ⟨rb, 1, none⟩ = false := frozenB HY1.out.r0 1
          go_wp2_with fail
          rw [hWR.out]
          have q0 : WR.cell? ⟨rb, 0, none⟩ = some (.slice An (nodesM gs ns gs).length cn) := by rw [cellB HR1.out.1]; rfl
          have q1 : WR.cell? ⟨rb, 1, none⟩ = some (.slice Ad (dropM ns gs).length cd) := by rw [cellB HR1.out.1]; rfl
          refine bodyPost_ret (v := .agg #[.slice An (nodesM gs ns gs).length cn, .slice Ad (dropM ns gs).length cd]) (by simp [results, Try.results50, go_sem, q0, q1]; try rfl) rfl ?_
          exact ⟨HR1.out.2.1, An, cn, Ad, cd, rfl, by rw [hrb.out, ← H1.out.2.2.2]; exact HR1.out.2.2⟩
end Go.Proofs.Ytamcchdblglfoaa.Ft
set_option linter.unusedVariables false
set_option linter.unusedSimpArgs false
namespace Go.Proofs.Ytamcchdblglfoaa.Ft
open Go.RowKit Go.Proofs.Ytamcchdblglfoaa.B0 Go.Proofs.Ytamcchdblglfoaa.Pf Go.Proofs.YtamcchdblglfoaaW.PrintWords

def raws (X : List PS) : List PN := X.map (nodeOf (X.map fun p => p.s))
theorem raws_len (X : List PS) : (raws X).length = X.length := by simp [raws]
/-- the tree of sorted spans. -/
def TreeX (X : List PS) (keep : Bool) (most : Int) (N : List Nd) (D : List Sp) : Prop := ∃ (ns1 ns : List PN) (gs : List Bool), CutN (raws X) ns1 ∧ (∀ x : Int, Ends (pars ns1) x) ∧ ns.length = X.length ∧ gs.length = X.length ∧ (∀ j, j < X.length → Dn ns1 keep most ns gs j) ∧ N = nodesM gs ns gs ∧ D = dropM ns gs
theorem raws_get {X : List PS} {i : Nat} {x : PN} (h : (raws X)[i]? = some x) : ∃ p, X[i]? = some p ∧ x = nodeOf (X.map fun p => p.s) p := by
  unfold raws at h
  rw [List.getElem?_map, Option.map_eq_some_iff] at h
  obtain ⟨p, h1, h2⟩ := h
  exact ⟨p, h1, h2.symm⟩
theorem raws_inr (X : List PS) : InR (pars (raws X)) := by
  refine InR.of fun i hi => ?_
  rw [pars_len] at hi
  have hx := List.getElem?_eq_getElem hi
  have e := nx_pars hx
  rw [nx_at] at e
  rw [e, pars_len, raws_len]
  obtain ⟨p, hp, hpe⟩ := raws_get hx
  rw [hpe]
  show par0 _ _ = -1 ∨ _
  unfold nodeOf par0
  simp only
  split
  · have := fndF_range 0 (X.map fun p => p.s) p.s.f2
    rw [List.length_map] at this
    rcases this with h | h
    · exact .inl h
    · right; exact ⟨by omega, by omega⟩
  · exact .inl rfl
theorem CutN.of {ns ns1 : List PN} (h : CutN ns ns1) {j : Nat} {y : PN} (hy : ns1[j]? = some y) : ∃ x, ns[j]? = some x ∧ (y = x ∨ y = cutN x) := by
  have hj : j < ns.length := by rw [← h.1]; exact (List.getElem?_eq_some_iff.1 hy).1
  have hx := List.getElem?_eq_getElem hj
  refine ⟨_, hx, ?_⟩
  rcases h.2 j _ hx with e | ⟨e, _⟩
  · rw [hy] at e; cases e; exact .inl rfl
  · rw [hy] at e; cases e; exact .inr rfl
theorem St.start {X : List PS} {ns1 : List PN} {keep : Bool} {most : Int} {n : Nat} (hn : X.length = n) (hc : CutN (raws X) ns1) (he : ∀ x : Int, Ends (pars ns1) x) (hm : 1 ≤ most) : St ns1 keep most n ns1 (List.replicate n false) where
  l1 := by rw [hc.1, raws_len, hn]
  ln := by rw [hc.1, raws_len, hn]
  lg := by simp
  raw := fun j x hx => by
    obtain ⟨y, hy, e⟩ := hc.of hx
    obtain ⟨p, _, rfl⟩ := raws_get hy
    rcases e with rfl | rfl <;> rfl
  ends := he
  rng := hc.cut.inR (raws_inr X)
  most1 := hm
  at1 := fun j hj => by
    have hx : ns1[j]? = some _ := List.getElem?_eq_getElem (by rw [hc.1, raws_len, hn]; exact hj)
    exact .inl ⟨_, hx, hx, by rw [List.getElem?_replicate]; simp [hj]⟩
theorem Fin.from {ns1 : List PN} {keep : Bool} {most : Int} {j : Nat} {y : PN} {g : Bool} (h : Fin ns1 keep most j y g) : ∃ x, ns1[j]? = some x ∧ y.p = x.p ∧ (y.par = -1 ∨ y.par = x.par) := by
  cases h with
  | root h1 _ => exact ⟨_, h1, rfl, .inl rfl⟩
  | cutd h1 _ _ _ => exact ⟨_, h1, rfl, .inl rfl⟩
  | up h1 h2 _ _ => exact ⟨_, h1, rfl, .inr h2.symm⟩
/-- a finished node's span is one that was handed in. -/
theorem done_p {X : List PS} {ns1 ns : List PN} {gs : List Bool} {keep : Bool} {most : Int} (hc : CutN (raws X) ns1) (hl : ns.length = X.length) (hd : ∀ j, j < X.length → Dn ns1 keep most ns gs j) : ∀ x ∈ ns, x.p ∈ X ∧ (x.par = -1 ∨ ∃ q : Nat, x.par = q ∧ q < X.length) := fun x hx => by
  obtain ⟨j, hj⟩ := List.mem_iff_getElem?.1 hx
  have hjl : j < X.length := by rw [← hl]; exact (List.getElem?_eq_some_iff.1 hj).1
  obtain ⟨y, g, h1, _, hf⟩ := hd j hjl
  rw [hj] at h1; cases h1
  obtain ⟨z, hz, hp, hpar⟩ := hf.from
  obtain ⟨r, hr, e⟩ := hc.of hz
  obtain ⟨p, hpX, rfl⟩ := raws_get hr
  have hzp : z.p = p := by rcases e with rfl | rfl <;> rfl
  refine ⟨by rw [hp, hzp]; exact List.mem_of_getElem? hpX, ?_⟩
  rcases hpar with h | h
  · exact .inl h
  · have hin := (hc.cut.inR (raws_inr X)) (j : Int)
    rw [nx_pars hz, pars_len, hc.1, raws_len] at hin
    rw [h]
    rcases hin with e | ⟨h0, h1⟩
    · exact .inl e
    · exact .inr ⟨z.par.toNat, by omega, by omega⟩
/-- what Build answers. -/
def BldPost (w : World) (l : List Sp) (keep : Bool) (most : Int) (e : Ending) (w' : World) : Prop := Below w.heap.size w w' ∧ ∃ X : List PS, (X.map fun p => p.s).Perm l ∧ X.Pairwise (fun a b => cmpSp a.s b.s ≤ 0) ∧
  ((okX (X.map fun p => p.s) ∧ 1 ≤ most ∧ ∃ N D An cn Ad cd, TreeX X keep most N D ∧ e = .returned (.tuple #[.agg #[.slice An N.length cn, .slice Ad D.length cd], .int .i64 0]) ∧ Kd.C k47 w' An N.length N ∧ N.length ≤ cn ∧ Kd.C k44 w' Ad D.length D ∧ D.length ≤ cd) ∨
   (¬ (okX (X.map fun p => p.s) ∧ 1 ≤ most) ∧ e = .returned (.tuple #[.agg #[.slice none 0 0, .slice none 0 0], .int .i64 1])))
end Go.Proofs.Ytamcchdblglfoaa.Ft
set_option linter.unusedVariables false
set_option linter.unusedSimpArgs false
namespace Go.Proofs.Ytamcchdblglfoaa.Ft
open Go.RowKit Go.Proofs.Ytamcchdblglfoaa.B0 Go.Proofs.Ytamcchdblglfoaa.Pf Go.Proofs.YtamcchdblglfoaaW.PrintWords Go.Proofs.YtamcchdblglfoaaW.PrintLast
theorem cell0 {W : World} {rb : Nat} {cs : Array Value} {T : TypeId} {f : Nat × Nat} (h : W.heap[rb]? = some (.cells cs T f)) {o : Nat} {u : Value} (hu : cs[o]? = some u) : W.cell? ⟨rb, o, none⟩ = some u := by rw [cellB h, hu]
def T16_2 : Bool × List (List Nat × List Nat) := (true, [([], []), ([0], [0]), ([1], [1]), ([2], [2]), ([3, 2], [2, 3]), ([2, 4], [2, 4])])
def B16_2 : List Nat := [0, 1, 3, 7, 15, 31]
theorem tab16_2 : rtab .any (opsOf Try.f16 2) = T16_2 := by kernel_rfl
theorem bits16_2 : waitsOk T16_2.2 B16_2 = true := by kernel_rfl
set_option maxHeartbeats 8000000 in
set_option maxRecDepth 100000 in
theorem Build_c (w : World) (A : Option Addr) (c : Nat) (l : List Sp) (keep : Bool) (most : Int) (hC : Kd.C k44 w A l.length l) (hn : l.length ≤ 1000) (hal : ∀ s ∈ l, s.f9.length ≤ 1000000) (hmost : most ≤ 9223372036854775807) :
    Calls Try.prog 16 #[.slice A l.length c, .bool keep, .int .i64 most] w (BldPost w l keep most) := by
  have HC := Lib.hid hC; have HL := Lib.hid hal
  clear hC hal
  obtain ⟨rb, hrb⟩ : ∃ rb, Hid (w.heap.size = rb) := ⟨_, Lib.hid rfl⟩
  obtain ⟨w1, hw1⟩ : ∃ w1, Hid (w.alloc (.cells #[.slice none 0 0, .slice none 0 0] 28) = w1) := ⟨_, Lib.hid rfl⟩
  have H1 : Hid (Below w.heap.size w w1 ∧ w1.heap[rb]? = some (.cells #[.slice none 0 0, .slice none 0 0] 28 (0, 0)) ∧ w1.heap.size = rb + 1) := by
    rw [← hw1.out, ← hrb.out]
    exact ⟨(Below.refl _ _).alloc (Nat.le_refl _) _, allocN _ _, by simp⟩
  obtain ⟨ll, hll⟩ : ∃ ll, Hid (l.length = ll) := ⟨_, Lib.hid rfl⟩
  have HB0 := Lib.hid (begin_c w1 A c l (Kd.C_below HC.out H1.out.1) hn)
  rw [hll.out] at HB0 ⊢
  go_enter Try.func16, Try.ntmps16
  go_upto_region 1 with fail
  rw [hw1.out, hrb.out]
  go_wp2_with fail
  refine HB0.out.mono ?_
  rintro e w2 ⟨X, hb2, hperm, hsort, hatt, hcase⟩
  have HX : Hid ((X.map fun p => p.s).Perm l ∧ X.Pairwise (fun a b => cmpSp a.s b.s ≤ 0) ∧ (∀ p ∈ X, AttP w1 p) ∧ Below w1.heap.size w1 w2 ∧ w2.heap[rb]? = some (.cells #[.slice none 0 0, .slice none 0 0] 28 (0, 0)) ∧ Below w.heap.size w w2) :=
    ⟨hperm, hsort, hatt, hb2, (hb2.block rb (by rw [H1.out.2.2]; omega)).trans H1.out.2.1, H1.out.1.trans (hb2.mono H1.out.1.size)⟩
  clear hb2 hperm hsort hatt HB0
  rcases hcase with ⟨hok, v, rfl, hR⟩ | ⟨hok, rfl⟩
  · have HR := Lib.hid (And.intro hok hR)
    clear hok hR
    by_cases hm : most < 1
    · skip
      have HNO : Hid (¬ (okX (X.map fun p => p.s) ∧ 1 ≤ most)) := fun h => by have := h.2; omega
      have c0 : w2.cell? ⟨rb, 0, none⟩ = some (.slice none 0 0) := cell0 HX.out.2.2.2.2.1 rfl
      have c1 : w2.cell? ⟨rb, 1, none⟩ = some (.slice none 0 0) := cell0 HX.out.2.2.2.2.1 rfl
      have z0 : w2.frozen? ⟨rb, 0, none⟩ = false := frozenB HX.out.2.2.2.2.1 0
      have z1 : w2.frozen? ⟨rb, 1, none⟩ = false := frozenB HX.out.2.2.2.2.1 1
      obtain ⟨WR, hWR⟩ : ∃ WR, Hid ((w2.setCell ⟨rb, 0, none⟩ (.slice none 0 0)).setCell ⟨rb, 1, none⟩ (.slice none 0 0) = WR) := ⟨_, Lib.hid rfl⟩
      have HWR : Hid (WR.heap[rb]? = some (.cells #[.slice none 0 0, .slice none 0 0] 28 (0, 0)) ∧ Below w.heap.size w WR) := by
        rw [← hWR.out]
        have e0 := setB HX.out.2.2.2.2.1 0 (.slice none 0 0)
        exact ⟨setB e0 1 _, (HX.out.2.2.2.2.2.setCell (p := ⟨rb, 0, none⟩) (by show _ ≤ rb; rw [hrb.out]; exact Nat.le_refl _) _).setCell (p := ⟨rb, 1, none⟩) (by show _ ≤ rb; rw [hrb.out]; exact Nat.le_refl _) _⟩
      go_wp2_with fail
      rw [hWR.out]
      have q0 : WR.cell? ⟨rb, 0, none⟩ = some (.slice none 0 0) := cell0 HWR.out.1 rfl
      have q1 : WR.cell? ⟨rb, 1, none⟩ = some (.slice none 0 0) := cell0 HWR.out.1 rfl
      refine bodyPost_ret (v := .tuple #[.agg #[.slice none 0 0, .slice none 0 0], .int .i64 1]) (by simp [results, Try.results16, go_sem, q0, q1]; try rfl) rfl ?_
      exact ⟨HWR.out.2, X, HX.out.1, HX.out.2.1, .inr ⟨HNO.out, rfl⟩⟩
    · have hm1 : 1 ≤ most := by omega
      obtain ⟨n, hnX⟩ : ∃ n, Hid (X.length = n) := ⟨_, Lib.hid rfl⟩
      have hRn : kN.R 47 w2 w1.heap.size (fun _ => True) v (raws X) := HR.out.2
      obtain ⟨Av, cv, hv, _⟩ := Kd.R_reads hRn
      rw [raws_len, hnX.out] at hv
      subst hv
      have HRN := Lib.hid hRn
      clear hRn
      have hn2 : n ≤ 1000 := by
        have e := HX.out.1.length_eq
        rw [List.length_map, hnX.out] at e
        omega
      go_wp2_with ((with_reducible refine gate_dst (N := 27) rfl ?_); go_loud (refine Kd.R_make Kd.bool (w0 := w2) (ok := fun _ => True) (okp := fun _ => True) w1.heap.size 4 rfl (N := 27) rfl 106 _ _ rfl (n : Int) rfl rfl Try.underlying106 (.bool false) 1 infoB rfl (by decide) (by decide) false rfl (fun _ hk => hk) trivial (by omega) (by omega) (Below.refl _ _) HX.out.2.2.2.1.size ?_))
      intro gv w3 hrm hb3 hg3 nb hnb1 hnb2
      obtain ⟨Ag, cg, hgv, _⟩ := Kd.R_reads hrm
      rw [List.length_replicate] at hgv
      subst hgv
      obtain ⟨bb, hbb⟩ : ∃ bb, Hid (w3.heap.size = bb) := ⟨_, Lib.hid rfl⟩
      obtain ⟨w4, hw4⟩ : ∃ w4, Hid (w3.alloc (.cells #[.slice Av n cv, .slice Ag n cg, .bool keep, .int .i64 most] 108) = w4) := ⟨_, Lib.hid rfl⟩
      have H4 : Hid (BuR w4 w1.heap.size bb (.slice Av n cv) (.slice Ag n cg) keep most (raws X) (List.replicate n false) ∧ Below w2.heap.size w2 w4) := by
        have h23 : Below w2.heap.size w2 w3 := ⟨hg3.os, hg3.tape, hg3.output, hg3.size, fun k hk => hg3.block k hk (by simp)⟩
        have h34 : Below w3.heap.size w3 w4 := by rw [← hw4.out]; exact (Below.refl _ _).alloc (Nat.le_refl _) _
        have h24 : Below w2.heap.size w2 w4 := h23.trans (h34.mono h23.size)
        refine ⟨⟨by rw [← hw4.out, ← hbb.out]; exact allocN _ _, by rw [← hbb.out]; exact Nat.le_trans HX.out.2.2.2.1.size h23.size, Kd.R_below HRN.out h24, Kd.R_below hrm h34⟩, h24⟩
      clear hrm hb3 hg3 hnb1 hnb2
      go_upto_region 5 with fail
      rw [hw4.out, hbb.out]
      go_wp2_with fail
      refine (rings_c n H4.out.1 (Nat.le_trans HX.out.2.2.2.1.size H4.out.2.size) (by rw [raws_len, hnX.out]) hn2 (raws_inr X)).mono ?_
      rintro e w5 ⟨rfl, ns1, hbu5, hcut5, hends5, hb5⟩
      have H5 : Hid (BuR w5 w1.heap.size bb (.slice Av n cv) (.slice Ag n cg) keep most ns1 (List.replicate n false) ∧ St ns1 keep most n ns1 (List.replicate n false) ∧ CutN (raws X) ns1 ∧ (∀ x : Int, Ends (pars ns1) x) ∧ Below w1.heap.size w1 w5) :=
        ⟨hbu5, St.start hnX.out hcut5 hends5 hm1, hcut5, hends5, (HX.out.2.2.2.1.trans (H4.out.2.mono HX.out.2.2.2.1.size)).trans hb5⟩
      clear hbu5 hcut5 hends5 hb5
      have c0 : w5.cell? ⟨bb, 0, none⟩ = some (.slice Av n cv) := cell0 H5.out.1.blk rfl
      go_wp2_with fail
      clear c0
      go_loopw [39] (fun iv wr => ∃ i : Nat, iv = .int .i64 i ∧ i ≤ n ∧ Hid (∃ ns gs, BuR wr w1.heap.size bb (.slice Av n cv) (.slice Ag n cg) keep most ns gs ∧ St ns1 keep most n ns gs ∧ (∀ j, j < i → Dn ns1 keep most ns gs j) ∧ Below w1.heap.size w1 wr)) (fun iv _ => n - (intOf iv).toNat)
      case atStart => exact ⟨0, rfl, Nat.zero_le _, ns1, _, H5.out.1, H5.out.2.1, fun j hj => by omega, H5.out.2.2.2.2⟩
      case round =>
        obtain ⟨i, rfl, hi, HW⟩ := hrel
        obtain ⟨ns, gs, hW⟩ := HW.out
        have HW1 := Lib.hid hW; clear hW HW
        by_cases hlt : i < n
        · have hki : (i : Int) < (n : Int) := by omega
          go_wp2_with fail
          refine (depth_c n i HW1.out.1 HW1.out.2.2.2.size HW1.out.2.1 hlt hn2 hmost).mono ?_
          rintro e w6 ⟨rfl, ns', gs', k1, k2, k3, k4, k5⟩
          have H6 : Hid (BuR w6 w1.heap.size bb (.slice Av n cv) (.slice Ag n cg) keep most ns' gs' ∧ St ns1 keep most n ns' gs' ∧ (∀ j, j < i + 1 → Dn ns1 keep most ns' gs' j) ∧ Below w1.heap.size w1 w6) :=
            ⟨k1, k2, fun j hj => by
              rcases Nat.lt_or_ge j i with h | h
              · exact k4 j (HW1.out.2.2.1 j h)
              · obtain rfl : j = i := by omega
                exact k3, HW1.out.2.2.2.trans k5⟩
          clear k1 k2 k3 k4 k5
          go_wp2_with fail
          go_roundw
          case rel => exact ⟨i + 1, by go_num, by omega, ns', gs', H6.out⟩
          case measure => simp [intOf]; omega
        · obtain rfl : i = n := by omega
          go_wp2_with fail
          have hdone := done_p H5.out.2.2.1 (by rw [HW1.out.2.1.ln, hnX.out]) (fun j hj => HW1.out.2.2.1 j (by rw [hnX.out] at hj; exact hj))
          refine (tree_c i HW1.out.1 HW1.out.2.1.ln HW1.out.2.1.lg hn2 (fun x hx => ⟨(HX.out.2.2.1 _ (hdone x hx).1).below HW1.out.2.2.2, HL.out _ (HX.out.1.mem_iff.1 (List.mem_map.2 ⟨x.p, (hdone x hx).1, rfl⟩))⟩) (fun x hx => by have := (hdone x hx).2; rw [hnX.out] at this; exact this)).mono ?_
          rintro e w7 ⟨hb7, An, cn, Ad, cd, rfl, htr⟩
          have HTX : Hid (TreeX X keep most (nodesM gs ns gs) (dropM ns gs)) := ⟨ns1, ns, gs, H5.out.2.2.1, H5.out.2.2.2.1, by rw [HW1.out.2.1.ln, hnX.out], by rw [HW1.out.2.1.lg, hnX.out], fun j hj => HW1.out.2.2.1 j (by rw [hnX.out] at hj; exact hj), rfl, rfl⟩
          obtain ⟨N, hN⟩ : ∃ N, nodesM gs ns gs = N := ⟨_, rfl⟩
          obtain ⟨D, hD⟩ : ∃ D, dropM ns gs = D := ⟨_, rfl⟩
          have htx := HTX.out
          rw [hN, hD] at htr htx
          rw [hN, hD]
          have H7 : Hid (TR w7 (wr.heap.size + 2) (.slice An N.length cn) (.slice Ad D.length cd) N D ∧ w7.heap[rb]? = some (.cells #[.slice none 0 0, .slice none 0 0] 28 (0, 0)) ∧ Below w.heap.size w w7 ∧ TreeX X keep most N D) := by
            have hb : Below w1.heap.size w1 w7 := HW1.out.2.2.2.trans (hb7.mono HW1.out.2.2.2.size)
            exact ⟨htr, (hb.block rb (by rw [H1.out.2.2]; omega)).trans H1.out.2.1, H1.out.1.trans (hb.mono H1.out.1.size), htx⟩
          clear hb7 htr htx HTX hdone
          have c0 : w7.cell? ⟨rb, 0, none⟩ = some (.slice none 0 0) := cell0 H7.out.2.1 rfl
          have c1 : w7.cell? ⟨rb, 1, none⟩ = some (.slice none 0 0) := cell0 H7.out.2.1 rfl
          have z0 : w7.frozen? ⟨rb, 0, none⟩ = false := frozenB H7.out.2.1 0
          have z1 : w7.frozen? ⟨rb, 1, none⟩ = false := frozenB H7.out.2.1 1
          obtain ⟨WR, hWR⟩ : ∃ WR, Hid ((w7.setCell ⟨rb, 0, none⟩ (.slice An N.length cn)).setCell ⟨rb, 1, none⟩ (.slice Ad D.length cd) = WR) := ⟨_, Lib.hid rfl⟩
          have HWR : Hid (WR.heap[rb]? = some (.cells #[.slice An N.length cn, .slice Ad D.length cd] 28 (0, 0)) ∧ Below w.heap.size w WR ∧ TR WR (wr.heap.size + 2) (.slice An N.length cn) (.slice Ad D.length cd) N D) := by
            rw [← hWR.out]
            have e0 := setB H7.out.2.1 0 (.slice An N.length cn)
            exact ⟨setB e0 1 _, (H7.out.2.2.1.setCell (p := ⟨rb, 0, none⟩) (by show _ ≤ rb; rw [hrb.out]; exact Nat.le_refl _) _).setCell (p := ⟨rb, 1, none⟩) (by show _ ≤ rb; rw [hrb.out]; exact Nat.le_refl _) _, (H7.out.1.set H7.out.2.1 0 _).set e0 1 _⟩
          go_wp2_with fail
          rw [hWR.out]
          have q0 : WR.cell? ⟨rb, 0, none⟩ = some (.slice An N.length cn) := cell0 HWR.out.1 rfl
          have q1 : WR.cell? ⟨rb, 1, none⟩ = some (.slice Ad D.length cd) := cell0 HWR.out.1 rfl
          refine bodyPost_ret (v := .tuple #[.agg #[.slice An N.length cn, .slice Ad D.length cd], .int .i64 0]) (by simp [results, Try.results16, go_sem, q0, q1]; try rfl) rfl ?_
          obtain ⟨An', cn', Ad', cd', e1, e2, hr⟩ := HWR.out.2.2.form
          obtain ⟨rfl, _, rfl⟩ := Value.slice.inj e1
          obtain ⟨rfl, _, rfl⟩ := Value.slice.inj e2
          exact ⟨HWR.out.2.1, X, HX.out.1, HX.out.2.1, .inl ⟨HR.out.1, hm1, N, D, _, _, _, _, H7.out.2.2.2, rfl, hr⟩⟩
  · skip
    have HNO : Hid (¬ (okX (X.map fun p => p.s) ∧ 1 ≤ most)) := fun h => hok h.1
    have c0 : w2.cell? ⟨rb, 0, none⟩ = some (.slice none 0 0) := cell0 HX.out.2.2.2.2.1 rfl
    have c1 : w2.cell? ⟨rb, 1, none⟩ = some (.slice none 0 0) := cell0 HX.out.2.2.2.2.1 rfl
    have z0 : w2.frozen? ⟨rb, 0, none⟩ = false := frozenB HX.out.2.2.2.2.1 0
    have z1 : w2.frozen? ⟨rb, 1, none⟩ = false := frozenB HX.out.2.2.2.2.1 1
    obtain ⟨WR, hWR⟩ : ∃ WR, Hid ((w2.setCell ⟨rb, 0, none⟩ (.slice none 0 0)).setCell ⟨rb, 1, none⟩ (.slice none 0 0) = WR) := ⟨_, Lib.hid rfl⟩
    have HWR : Hid (WR.heap[rb]? = some (.cells #[.slice none 0 0, .slice none 0 0] 28 (0, 0)) ∧ Below w.heap.size w WR) := by
      rw [← hWR.out]
      have e0 := setB HX.out.2.2.2.2.1 0 (.slice none 0 0)
      exact ⟨setB e0 1 _, (HX.out.2.2.2.2.2.setCell (p := ⟨rb, 0, none⟩) (by show _ ≤ rb; rw [hrb.out]; exact Nat.le_refl _) _).setCell (p := ⟨rb, 1, none⟩) (by show _ ≤ rb; rw [hrb.out]; exact Nat.le_refl _) _⟩
    go_wp2_with fail
    rw [hWR.out]
    have q0 : WR.cell? ⟨rb, 0, none⟩ = some (.slice none 0 0) := cell0 HWR.out.1 rfl
    have q1 : WR.cell? ⟨rb, 1, none⟩ = some (.slice none 0 0) := cell0 HWR.out.1 rfl
    refine bodyPost_ret (v := .tuple #[.agg #[.slice none 0 0, .slice none 0 0], .int .i64 1]) (by simp [results, Try.results16, go_sem, q0, q1]; try rfl) rfl ?_
    exact ⟨HWR.out.2, X, HX.out.1, HX.out.2.1, .inr ⟨HNO.out, rfl⟩⟩
end Go.Proofs.Ytamcchdblglfoaa.Ft
set_option linter.unusedVariables false
set_option linter.unusedSimpArgs false
namespace Go.Proofs.Ytamcchdblglfoaa.Ft
open Go.RowKit Go.Proofs.Ytamcchdblglfoaa.B0 Go.Proofs.Ytamcchdblglfoaa.Pf Go.Proofs.YtamcchdblglfoaaW.PrintWords
abbrev RAt := S131
abbrev RSp := S57
def ofA (x : RAt) : At := ⟨x.f0, ⟨x.f1.f0, x.f1.f1, x.f1.f2⟩⟩
def ofS (x : RSp) : Sp := ⟨x.f0, x.f1, x.f2, x.f3, x.f4, x.f5, x.f6, x.f7, x.f8, x.f9.map ofA⟩
theorem rdAt {L : List RAt} {i : Nat} {y : RAt} (h : L[i]? = some y) : rd_T131 L (i : Int) = y := by
  unfold rd_T131
  rw [Int.toNat_natCast, List.getD_eq_getElem?_getD, h]; rfl
theorem rdSp {L : List RSp} {i : Nat} {y : RSp} (h : L[i]? = some y) : rd_T57 L (i : Int) = y := by
  unfold rd_T57
  rw [Int.toNat_natCast, List.getD_eq_getElem?_getD, h]; rfl
theorem take_snoc {α : Type} {l : List α} {i : Nat} {x : α} (h : l[i]? = some x) : l.take (i + 1) = l.take i ++ [x] := by rw [List.take_add_one, h]; rfl
theorem Of_l0 (a b c : Int) (d e : ByteArray) (f g h i : Int) (A : List RAt) (hA : A.length ≤ 100) : ∀ (m j : Nat), j + m = A.length → ∀ k, m < k →
    tallyroomlaw06_Of.l0 k (j : Int) a b c d e f g h i A a b c d e f g h i ((A.take j).map ofA) = some (a, b, c, d, e, f, g, h, i, A.map ofA)
  | 0, j, hj, k + 1, hk => by
    unfold tallyroomlaw06_Of.l0
    rw [if_neg (by omega), List.take_of_length_le (by omega)]
  | m + 1, j, hj, k + 1, hk => by
    unfold tallyroomlaw06_Of.l0
    obtain ⟨y, hx⟩ : ∃ y, A[j]? = some y := ⟨_, List.getElem?_eq_getElem (by omega)⟩
    have hl : ((A.take j).map ofA).length < 2932031007402 := by rw [List.length_map, List.length_take]; omega
    rw [if_pos (by omega), if_pos (by omega), if_pos hl, rdAt hx, Go.IntWalk.wrap64_in _ (by omega)]
    have ih := Of_l0 a b c d e f g h i A hA m (j + 1) (by omega) k (by omega)
    rw [take_snoc hx, List.map_append] at ih
    exact ih
theorem Of_f (x : RSp) (hA : x.f9.length ≤ 100) {k : Nat} (hk : 101 ≤ k) : tallyroomlaw06_Of.f k x.f0 x.f1 x.f2 x.f3 x.f4 x.f5 x.f6 x.f7 x.f8 x.f9 = some (x.f0, x.f1, x.f2, x.f3, x.f4, x.f5, x.f6, x.f7, x.f8, x.f9.map ofA) := by
  unfold tallyroomlaw06_Of.f
  exact Of_l0 _ _ _ _ _ _ _ _ _ _ hA x.f9.length 0 (by omega) k (by omega)
theorem Ofs_l0 (L : List RSp) (hL : L.length ≤ 1000) (hA : ∀ x ∈ L, x.f9.length ≤ 100) : ∀ (m j : Nat), j + m = L.length → ∀ k, m + 101 < k →
    tallyroomlaw06_Ofs.l0 k L ((L.take j).map ofS) (j : Int) = some (L.map ofS)
  | 0, j, hj, k + 1, hk => by
    unfold tallyroomlaw06_Ofs.l0
    rw [if_neg (by omega), List.take_of_length_le (by omega)]
  | m + 1, j, hj, k + 1, hk => by
    unfold tallyroomlaw06_Ofs.l0
    obtain ⟨y, hx⟩ : ∃ y, L[j]? = some y := ⟨_, List.getElem?_eq_getElem (by omega)⟩
    have hl : ((L.take j).map ofS).length < 1256584717458 := by rw [List.length_map, List.length_take]; omega
    rw [if_pos (by omega), if_pos (by omega), rdSp hx, Of_f _ (hA _ (List.mem_of_getElem? hx)) (by omega), Option.bind_some, if_pos hl, Go.IntWalk.wrap64_in _ (by omega)]
    have ih := Ofs_l0 L hL hA m (j + 1) (by omega) k (by omega)
    rw [take_snoc hx, List.map_append] at ih
    exact ih
theorem Ofs_f (L : List RSp) (hL : L.length ≤ 1000) (hA : ∀ x ∈ L, x.f9.length ≤ 100) : tallyroomlaw06_Ofs.f 2000 L = some (L.map ofS) := by
  unfold tallyroomlaw06_Ofs.f
  exact Ofs_l0 L hL hA L.length 0 (by omega) 2000 (by omega)
theorem Far_l0 (a b c : Int) (d e : ByteArray) (f g h i : Int) (A : List RAt) (hA : A.length ≤ 40) : ∀ (m j : Nat), j + m = A.length → ∀ k, m < k →
    ∃ r, tallyroomlaw06_Far.l0 k (j : Int) a b c d e f g h i A = some r
  | 0, j, hj, k + 1, hk => by
    unfold tallyroomlaw06_Far.l0
    rw [if_neg (by omega)]; exact ⟨_, rfl⟩
  | m + 1, j, hj, k + 1, hk => by
    unfold tallyroomlaw06_Far.l0
    have ih := Far_l0 a b c d e f g h i A hA m (j + 1) (by omega) k (by omega)
    rw [if_pos (by omega), if_pos (by omega), Go.IntWalk.wrap64_in _ (by omega)]
    split
    · exact ⟨_, rfl⟩
    · split
      · exact ⟨_, rfl⟩
      · exact ih
theorem Far_f (x : RSp) {k : Nat} (hk : 50 ≤ k) : ∃ r, tallyroomlaw06_Far.f k x.f0 x.f1 x.f2 x.f3 x.f4 x.f5 x.f6 x.f7 x.f8 x.f9 = some r ∧ (r = false → x.f9.length ≤ 40) := by
  obtain ⟨k, rfl⟩ : ∃ k', k = k' + 1 := ⟨k - 1, by omega⟩
  have ht : ∀ a b c d e f g h i A, tallyroomlaw06_Far.j0 (k + 1) true a b c d e f g h i A = some true := fun a b c d e f g h i A => rfl
  unfold tallyroomlaw06_Far.f
  split
  · exact ⟨_, ht _ _ _ _ _ _ _ _ _ _, by simp⟩
  · split
    · exact ⟨_, ht _ _ _ _ _ _ _ _ _ _, by simp⟩
    · by_cases h : (x.f9.length : Int) > 40
      · rw [decide_eq_true h]; exact ⟨_, ht _ _ _ _ _ _ _ _ _ _, by simp⟩
      · rw [decide_eq_false h]
        show ∃ r, tallyroomlaw06_Far.l0 k 0 x.f0 x.f1 x.f2 x.f3 x.f4 x.f5 x.f6 x.f7 x.f8 x.f9 = some r ∧ _
        obtain ⟨r, hr⟩ := Far_l0 x.f0 x.f1 x.f2 x.f3 x.f4 x.f5 x.f6 x.f7 x.f8 x.f9 (by omega) x.f9.length 0 (by omega) k (by omega)
        exact ⟨r, hr, fun _ => by omega⟩
theorem far_l0 (L : List RSp) (hL : L.length ≤ 30) : ∀ (m j : Nat), j + m = L.length → ∀ k, m + 50 < k → ∃ r, tallyroomlaw17_far.l0 k L (j : Int) = some r ∧ (r = false → ∀ i x, j ≤ i → L[i]? = some x → x.f9.length ≤ 40)
  | 0, j, hj, k + 1, hk => by
    unfold tallyroomlaw17_far.l0
    rw [if_neg (by omega)]
    exact ⟨_, rfl, fun _ i x hi hx => by have := (List.getElem?_eq_some_iff.1 hx).1; omega⟩
  | m + 1, j, hj, k + 1, hk => by
    unfold tallyroomlaw17_far.l0
    obtain ⟨y, hx⟩ : ∃ y, L[j]? = some y := ⟨_, List.getElem?_eq_getElem (by omega)⟩
    obtain ⟨r, hr, hr2⟩ := Far_f y (k := k) (by omega)
    rw [if_pos (by omega), if_pos (by omega), rdSp hx, hr, Option.bind_some]
    obtain ⟨r', h1, h2⟩ := far_l0 L hL m (j + 1) (by omega) k (by omega)
    by_cases hrt : r = true
    · rw [if_pos hrt]; exact ⟨_, rfl, by simp⟩
    · rw [if_neg hrt, Go.IntWalk.wrap64_in _ (by omega)]
      refine ⟨r', h1, fun e i x hi hix => ?_⟩
      rcases Nat.eq_or_lt_of_le hi with h | h
      · subst h; rw [hx] at hix; cases hix
        exact hr2 (by simpa using hrt)
      · exact h2 e i x h hix
theorem far_f (L : List RSp) : ∃ r, tallyroomlaw17_far.f 200 L = some r ∧ (r = false → L.length ≤ 30 ∧ ∀ x ∈ L, x.f9.length ≤ 40) := by
  unfold tallyroomlaw17_far.f
  by_cases h : (L.length : Int) > 30
  · rw [if_pos h]; exact ⟨_, rfl, by simp⟩
  · rw [if_neg h]
    obtain ⟨r, h1, h2⟩ := far_l0 L (by omega) L.length 0 (by omega) 200 (by omega)
    refine ⟨r, h1, fun e => ⟨by omega, fun x hx => ?_⟩⟩
    obtain ⟨i, hi⟩ := List.mem_iff_getElem?.1 hx
    exact h2 e i x (Nat.zero_le _) hi
end Go.Proofs.Ytamcchdblglfoaa.Ft
set_option linter.unusedVariables false
set_option linter.unusedSimpArgs false
namespace Go.Proofs.Ytamcchdblglfoaa.Ft
open Go.RowKit Go.Proofs.Ytamcchdblglfoaa.B0 Go.Proofs.Ytamcchdblglfoaa.Pf Go.Proofs.YtamcchdblglfoaaW.PrintWords
/-- no ring: nothing is cut. -/
theorem CutN.none {ns ns1 : List PN} (h : CutN ns ns1) (he : ∀ x : Int, Ends (pars ns) x) : ns1 = ns := by
  refine List.ext_getElem? fun i => ?_
  by_cases hi : i < ns.length
  · have hx := List.getElem?_eq_getElem hi
    rcases h.2 i _ hx with e | ⟨_, hm⟩
    · rw [e, hx]
    · exact absurd hm.1 (he _).noring
  · rw [List.getElem?_eq_none (by rw [h.1]; omega), List.getElem?_eq_none (by omega)]
abbrev webB : ByteArray := ⟨#[119, 101, 98]⟩
abbrev getB : ByteArray := ⟨#[103, 101, 116]⟩
def sa : Sp := ⟨7, 1, 9, webB, getB, 1, 0, 5, 9, []⟩
def sb : Sp := ⟨7, 2, 1, webB, getB, 1, 0, 5, 9, []⟩
theorem perm2 {X : List PS} (h : (X.map fun p => p.s).Perm [sa, sb]) (hs : X.Pairwise (fun a b => cmpSp a.s b.s ≤ 0)) : ∃ p q : PS, X = [p, q] ∧ p.s = sa ∧ q.s = sb := by
  have hl := h.length_eq
  rw [List.length_map] at hl
  match X, hl with
  | [p, q], _ =>
    refine ⟨p, q, rfl, ?_⟩
    have h1 : p.s ∈ [sa, sb] := h.mem_iff.1 (by simp)
    have h2 : sa ∈ [p.s, q.s] := h.mem_iff.2 (by simp)
    have h3 : sb ∈ [p.s, q.s] := h.mem_iff.2 (by simp)
    have hc := (List.pairwise_cons.1 hs).1 q (by simp)
    have hne : sa.f1 ≠ sb.f1 := by decide
    simp only [List.mem_cons, List.not_mem_nil, or_false] at h1 h2 h3
    rcases h1 with e | e
    · refine ⟨e, ?_⟩
      rcases h3 with k | k
      · rw [e] at k; exact absurd (congrArg (fun s : Sp => s.f1) k).symm hne
      · exact k.symm
    · rcases h2 with k | k
      · rw [e] at k; exact absurd (congrArg (fun s : Sp => s.f1) k) hne
      · rw [e, ← k] at hc
        have : cmpSp sb sa = 1 := rfl
        omega
theorem okX2 : okX [sa, sb] := ⟨by decide, by intro x hx y hy; simp only [List.mem_cons, List.not_mem_nil, or_false] at hx hy; rcases hx with rfl | rfl <;> rcases hy with rfl | rfl <;> rfl⟩
theorem p2 : par0 [sa, sb] sa = -1 ∧ par0 [sa, sb] sb = 0 ∧ orp0 [sa, sb] sa = true ∧ orp0 [sa, sb] sb = false := ⟨by decide, by decide, by decide, by decide⟩
theorem len2 {α : Type} {l : List α} (h : l.length = 2) : ∃ a b, l = [a, b] := by
  match l, h with
  | [a, b], _ => exact ⟨a, b, rfl⟩
theorem tree2 {p q : PS} (hp : p.s = sa) (hq : q.s = sb) {keep : Bool} {N : List Nd} {D : List Sp} (h : TreeX [p, q] keep 5 N D) : N = (if keep then [⟨sa, -1, 1, true⟩, ⟨sb, 0, 2, false⟩] else []) ∧ D = (if keep then [] else [sa, sb]) := by
  obtain ⟨ns1, ns, gs, hc, _, hl, hlg, hd, rfl, rfl⟩ := h
  have hr : raws [p, q] = [⟨p, -1, 0, true⟩, ⟨q, 0, 0, false⟩] := by
    unfold raws nodeOf
    simp only [List.map_cons, List.map_nil, hp, hq, p2.1, p2.2.1, p2.2.2.1, p2.2.2.2]
  have he : ∀ x : Int, Ends (pars (raws [p, q])) x := by
    rw [hr]
    intro x
    show Ends [-1, 0] x
    have e0 : Ends [-1, 0] (-1) := .none (by decide)
    have e1 : Ends [-1, 0] 0 := .step e0
    rcases Int.lt_or_le x 0 with h | h
    · exact .none h
    · obtain ⟨i, rfl⟩ : ∃ i : Nat, x = i := ⟨x.toNat, by omega⟩
      match i with
      | 0 => exact e1
      | 1 => exact .step e1
      | i + 2 =>
        refine .step ?_
        rw [nx_at]
        exact e0
  obtain rfl := hc.none he
  rw [hr] at hd
  have f0 : Fin [⟨p, -1, 0, true⟩, ⟨q, 0, 0, false⟩] keep 5 0 ⟨p, -1, 1, true⟩ (!keep && true) := Fin.root (ns1 := [⟨p, -1, 0, true⟩, ⟨q, 0, 0, false⟩]) (j := 0) (x := ⟨p, -1, 0, true⟩) rfl rfl
  have f1 : Fin [⟨p, -1, 0, true⟩, ⟨q, 0, 0, false⟩] keep 5 1 ⟨q, 0, 2, false⟩ ((!keep && false) || (!keep && true)) := Fin.up (ns1 := [⟨p, -1, 0, true⟩, ⟨q, 0, 0, false⟩]) (j := 1) (x := ⟨q, 0, 0, false⟩) (q := 0) rfl rfl f0 (by show (1 : Int) < 5; decide)
  obtain ⟨y0, g0, a1, a2, a3⟩ := hd 0 (by simp)
  obtain ⟨y1, g1, b1, b2, b3⟩ := hd 1 (by simp)
  obtain ⟨rfl, rfl⟩ := a3.unique f0
  obtain ⟨rfl, rfl⟩ := b3.unique f1
  obtain ⟨n0, n1, rfl⟩ := len2 hl
  obtain ⟨h0, h1, rfl⟩ := len2 hlg
  simp only [List.getElem?_cons_zero, List.getElem?_cons_succ, Option.some.injEq] at a1 a2 b1 b2
  subst a1 a2 b1 b2
  cases keep
  · simp [nodesM, dropM, hp, hq]
  · simp [nodesM, dropM, hp, hq, outN, outP, place]
end Go.Proofs.Ytamcchdblglfoaa.Ft
set_option linter.unusedVariables false
set_option linter.unusedSimpArgs false
namespace Go.Proofs.Ytamcchdblglfoaa.Ft
open Go.RowKit Go.Proofs.Ytamcchdblglfoaa.B0 Go.Proofs.Ytamcchdblglfoaa.Pf Go.Proofs.YtamcchdblglfoaaW.PrintWords Go.Proofs.YtamcchdblglfoaaW.PrintLast Go.Proofs.YtamcchdblglfoaaW.PrintMore
theorem C_of_block {α : Type} {d : Kd α} {W : World} {b : Nat} {cs : Array Value} {T : TypeId} {f : Nat × Nat} (hb : W.heap[b]? = some (.cells cs T f)) {n : Nat} {xs : List α} (hn : xs.length = n) (hm : n ≤ 1000000) (hx : ∀ (j : Nat) (p : α), xs[j]? = some p → ∃ c, c.length = d.sz ∧ d.K W p c ∧ ∀ (i : Nat) (u : Value), c[i]? = some u → cs[j * d.sz + i]? = some u) : d.C W (some ⟨b, 0, none⟩) n xs := by
  refine ⟨hn, by omega, fun _ => ⟨⟨b, 0, none⟩, rfl, fun j p hj => ?_⟩⟩
  obtain ⟨c, h1, h2, h3⟩ := hx j p hj
  refine ⟨c, h1, h2, fun i u hu => ?_⟩
  have e : (⟨b, 0, none⟩ : Addr).add (j * d.sz + i) = ⟨b, j * d.sz + i, none⟩ := by
    unfold Addr.add
    split <;> rename_i h
    · rw [show j * d.sz + i = 0 from by simpa using h]
    · simp
  rw [e, cellB hb]
  exact h3 i u hu
def ra : RSp := ⟨7, 1, 9, webB, getB, 1, 0, 5, 9, []⟩
def rb' : RSp := ⟨7, 2, 1, webB, getB, 1, 0, 5, 9, []⟩
theorem C_nilA {α : Type} (d : Kd α) (w : World) (A : Option Addr) : d.C w A 0 [] := ⟨rfl, by omega, fun h => absurd h (Nat.lt_irrefl 0)⟩
theorem C_ab {W : World} {b : Nat} {Aa Ab : Option Addr} {ca cb : Nat} {f : Nat × Nat} (hb : W.heap[b]? = some (.cells #[.int .u64 7, .int .u64 1, .int .u64 9, .string webB, .string getB, .int .i64 1, .int .i64 0, .int .u64 5, .int .u64 9, .slice Aa 0 ca, .int .u64 7, .int .u64 2, .int .u64 1, .string webB, .string getB, .int .i64 1, .int .i64 0, .int .u64 5, .int .u64 9, .slice Ab 0 cb] 57 f)) : Kd.C k57 W (some ⟨b, 0, none⟩) 2 [ra, rb'] := by
  refine C_of_block hb rfl (by decide) fun j p hj => ?_
  match j with
  | 0 =>
    obtain rfl : ra = p := by simpa using hj
    refine ⟨_, rfl, k57_mk W ra (A9 := Aa) (c9 := ca) (Nat.zero_le _) (C_nilA _ _ _), fun i u hu => ?_⟩
    have hi : i < 10 := (List.getElem?_eq_some_iff.1 hu).1
    match i, hi with
    | 0, _ => exact hu
    | 1, _ => exact hu
    | 2, _ => exact hu
    | 3, _ => exact hu
    | 4, _ => exact hu
    | 5, _ => exact hu
    | 6, _ => exact hu
    | 7, _ => exact hu
    | 8, _ => exact hu
    | 9, _ => exact hu
  | 1 =>
    obtain rfl : rb' = p := by simpa using hj
    refine ⟨_, rfl, k57_mk W rb' (A9 := Ab) (c9 := cb) (Nat.zero_le _) (C_nilA _ _ _), fun i u hu => ?_⟩
    have hi : i < 10 := (List.getElem?_eq_some_iff.1 hu).1
    match i, hi with
    | 0, _ => exact hu
    | 1, _ => exact hu
    | 2, _ => exact hu
    | 3, _ => exact hu
    | 4, _ => exact hu
    | 5, _ => exact hu
    | 6, _ => exact hu
    | 7, _ => exact hu
    | 8, _ => exact hu
    | 9, _ => exact hu
  | j + 2 => simp at hj
/-- Build of the example. -/
theorem Build2 (w : World) (A : Option Addr) (c : Nat) (keep : Bool) (hC : Kd.C k44 w A 2 [sa, sb]) :
    Calls Try.prog 16 #[.slice A 2 c, .bool keep, .int .i64 5] w fun e w' => Below w.heap.size w w' ∧ ∃ An cn Ad cd, e = .returned (.tuple #[.agg #[.slice An (if keep then 2 else 0) cn, .slice Ad (if keep then 0 else 2) cd], .int .i64 0]) ∧ (keep = true → ∃ N : List Nd, N = [⟨sa, -1, 1, true⟩, ⟨sb, 0, 2, false⟩] ∧ Kd.C k47 w' An 2 N) := by
  refine (Build_c w A c [sa, sb] keep 5 hC (by decide) (by intro s hs; simp only [List.mem_cons, List.not_mem_nil, or_false] at hs; rcases hs with rfl | rfl <;> decide) (by decide)).mono ?_
  rintro e w' ⟨hb, X, hperm, hsort, hcase⟩
  refine ⟨hb, ?_⟩
  obtain ⟨p, q, rfl, hp, hq⟩ := perm2 hperm hsort
  have hX : (([p, q] : List PS).map fun p => p.s) = [sa, sb] := by simp [hp, hq]
  rw [hX] at hcase
  rcases hcase with ⟨_, _, N, D, An, cn, Ad, cd, ht, rfl, h1, h2, h3, h4⟩ | ⟨hn, _⟩
  · obtain ⟨rfl, rfl⟩ := tree2 hp hq ht
    cases keep
    · exact ⟨An, cn, Ad, cd, rfl, fun e => by cases e⟩
    · exact ⟨An, cn, Ad, cd, rfl, fun _ => ⟨_, rfl, h1⟩⟩
  · exact absurd ⟨okX2, by decide⟩ hn
def T14_8 : Bool × List (List Nat × List Nat) := (true, [([], []), ([0], [0]), ([1], [1]), ([2], [2]), ([3, 2], [2, 3]), ([4, 2], [2, 4]), ([5, 2], [2, 5]), ([2, 6], [2, 6]), ([7, 2], [7]), ([8], [8]), ([9, 8], [8, 9]), ([10, 8], [8, 10]), ([11, 8], [8, 11]), ([8, 12], [8, 12]), ([13, 8], [13]), ([14], [14]), ([15, 14], [14, 15]), ([14, 16], [14, 16]), ([17, 14], [17]), ([18], [18]), ([19, 18], [18, 19]), ([20, 18], [18, 20]), ([21, 18], [18, 21]), ([18, 22], [18, 22]), ([23, 18], [23]), ([24], [24]), ([25, 24], [24, 25]), ([26, 24], [24, 26]), ([27, 24], [24, 27]), ([28, 24], [24, 28]), ([29, 24], [24, 29]), ([24, 30], [24, 30]), ([31, 24], [31]), ([32], [32]), ([33, 32], [32, 33]), ([34, 32], [32, 34]), ([35, 32], [32, 35]), ([36, 32], [32, 36]), ([37, 32], [32, 37]), ([32, 38], [32, 38]), ([39, 32, 0, 1, 2, 3, 4, 5, 6, 7, 8, 9, 10, 11, 12, 13, 14, 15, 16, 17, 18, 19, 20, 21, 22, 23, 24, 25, 26, 27, 28, 29, 30, 31, 32, 33, 34, 35, 36, 37, 38, 39], [39])])
def B14_8 : List Nat := [0, 1, 3, 7, 15, 31, 63, 127, 255, 511, 1023, 2047, 4095, 8191, 16383, 32767, 65535, 131071, 262143, 524287, 1048575, 2097151, 4194303, 8388607, 16777215, 33554431, 67108863, 134217727, 268435455, 536870911, 1073741823, 2147483647, 4294967295, 8589934591, 17179869183, 34359738367, 68719476735, 137438953471, 274877906943, 549755813887, 1099511627775]
theorem tab14_8 : rtab .any (opsOf Try.f14 8) = T14_8 := by kernel_rfl
theorem bits14_8 : waitsOk T14_8.2 B14_8 = true := by kernel_rfl
set_option maxHeartbeats 8000000 in
set_option maxRecDepth 100000 in
theorem alive17_c (w : World) : Calls Try.prog 14 #[] w fun e w' => e = .returned (.bool true) ∧ Below w.heap.size w w' := by
  have hone := fun W : World => Lib.hid (tallyroomlaw06_One.calls _ _ _ _ _ _ _ _ _ _ W rfl)
  go_enter Try.func14, Try.ntmps14
  go_wp2_with fail
  refine (hone _).out.mono ?_
  rintro e w1 ⟨va, rfl, hra, hba⟩
  obtain ⟨Aa, ca, rfl, hca, _⟩ := Kd.R_reads hra
  have HA1 := Lib.hid hba
  clear hra hba hca
  obtain ⟨xa, hxa⟩ : ∃ xa, Hid (w1.heap.size = xa) := ⟨_, Lib.hid rfl⟩
  obtain ⟨w2, hw2⟩ : ∃ w2, Hid (w1.alloc (.cells #[.int .u64 7, .int .u64 1, .int .u64 0, .string webB, .string getB, .int .i64 1, .int .i64 0, .int .u64 5, .int .u64 9, .slice Aa 0 ca] 57) = w2) := ⟨_, Lib.hid rfl⟩
  have H2 : Hid (w2.heap[xa]? = some (.cells #[.int .u64 7, .int .u64 1, .int .u64 0, .string webB, .string getB, .int .i64 1, .int .i64 0, .int .u64 5, .int .u64 9, .slice Aa 0 ca] 57 (0, 0)) ∧ Below w.heap.size w w2) := by
    rw [← hw2.out, ← hxa.out]; exact ⟨allocN _ _, HA1.out.alloc HA1.out.size _⟩
  have c2 : w2.cell? ⟨xa, 2, none⟩ = some (.int .u64 0) := cell0 H2.out.1 rfl
  have z2 : w2.frozen? ⟨xa, 2, none⟩ = false := frozenB H2.out.1 2
  go_upto_region 2 with fail
  rw [hw2.out, hxa.out]
  go_upto_region 3 with fail
  obtain ⟨w3, hw3⟩ : ∃ w3, Hid (w2.setCell ⟨xa, 2, none⟩ (.int .u64 9) = w3) := ⟨_, Lib.hid rfl⟩
  rw [hw3.out]
  have hxaB : w.heap.size ≤ xa := by rw [← hxa.out]; exact HA1.out.size
  have H3 : Hid (w3.heap[xa]? = some (.cells #[.int .u64 7, .int .u64 1, .int .u64 9, .string webB, .string getB, .int .i64 1, .int .i64 0, .int .u64 5, .int .u64 9, .slice Aa 0 ca] 57 (0, 0)) ∧ Below w.heap.size w w3) := by
    rw [← hw3.out]; exact ⟨setB H2.out.1 2 _, H2.out.2.setCell (p := ⟨xa, 2, none⟩) hxaB _⟩
  clear c2 z2
  go_wp2_with fail
  refine (hone _).out.mono ?_
  rintro e w4 ⟨vb, rfl, hrb, hbb⟩
  obtain ⟨Ab, cb, rfl, hcb, _⟩ := Kd.R_reads hrb
  have H4 : Hid (w4.heap[xa]? = some (.cells #[.int .u64 7, .int .u64 1, .int .u64 9, .string webB, .string getB, .int .i64 1, .int .i64 0, .int .u64 5, .int .u64 9, .slice Aa 0 ca] 57 (0, 0)) ∧ Below w.heap.size w w4) := ⟨(hbb.block xa (lt_of_get H3.out.1)).trans H3.out.1, H3.out.2.trans (hbb.mono H3.out.2.size)⟩
  clear hrb hbb hcb
  obtain ⟨xb, hxb⟩ : ∃ xb, Hid (w4.heap.size = xb) := ⟨_, Lib.hid rfl⟩
  obtain ⟨w5, hw5⟩ : ∃ w5, Hid (w4.alloc (.cells #[.int .u64 7, .int .u64 1, .int .u64 0, .string webB, .string getB, .int .i64 1, .int .i64 0, .int .u64 5, .int .u64 9, .slice Ab 0 cb] 57) = w5) := ⟨_, Lib.hid rfl⟩
  have hxbB : w.heap.size ≤ xb := by rw [← hxb.out]; exact H4.out.2.size
  have hxab : xa ≠ xb := by have := lt_of_get H4.out.1; rw [← hxb.out]; omega
  have H5 : Hid (w5.heap[xb]? = some (.cells #[.int .u64 7, .int .u64 1, .int .u64 0, .string webB, .string getB, .int .i64 1, .int .i64 0, .int .u64 5, .int .u64 9, .slice Ab 0 cb] 57 (0, 0)) ∧ w5.heap[xa]? = some (.cells #[.int .u64 7, .int .u64 1, .int .u64 9, .string webB, .string getB, .int .i64 1, .int .i64 0, .int .u64 5, .int .u64 9, .slice Aa 0 ca] 57 (0, 0)) ∧ Below w.heap.size w w5) := by
    rw [← hw5.out, ← hxb.out]; exact ⟨allocN _ _, (allocO _ _ (lt_of_get H4.out.1)).trans H4.out.1, H4.out.2.alloc H4.out.2.size _⟩
  have c1 : w5.cell? ⟨xb, 1, none⟩ = some (.int .u64 1) := cell0 H5.out.1 rfl
  have z1 : w5.frozen? ⟨xb, 1, none⟩ = false := frozenB H5.out.1 1
  go_upto_region 4 with fail
  rw [hw5.out, hxb.out]
  go_upto_region 5 with fail
  obtain ⟨w6, hw6⟩ : ∃ w6, Hid (w5.setCell ⟨xb, 1, none⟩ (.int .u64 2) = w6) := ⟨_, Lib.hid rfl⟩
  rw [hw6.out]
  have H6 : Hid (w6.heap[xb]? = some (.cells #[.int .u64 7, .int .u64 2, .int .u64 0, .string webB, .string getB, .int .i64 1, .int .i64 0, .int .u64 5, .int .u64 9, .slice Ab 0 cb] 57 (0, 0)) ∧ w6.heap[xa]? = some (.cells #[.int .u64 7, .int .u64 1, .int .u64 9, .string webB, .string getB, .int .i64 1, .int .i64 0, .int .u64 5, .int .u64 9, .slice Aa 0 ca] 57 (0, 0)) ∧ Below w.heap.size w w6) := by
    rw [← hw6.out]; exact ⟨setB H5.out.1 1 _, (setO w5 ⟨xb, 1, none⟩ _ hxab).trans H5.out.2.1, H5.out.2.2.setCell (p := ⟨xb, 1, none⟩) hxbB _⟩
  clear c1 z1
  have c2 : w6.cell? ⟨xb, 2, none⟩ = some (.int .u64 0) := cell0 H6.out.1 rfl
  have z2 : w6.frozen? ⟨xb, 2, none⟩ = false := frozenB H6.out.1 2
  go_upto_region 6 with fail
  obtain ⟨w7, hw7⟩ : ∃ w7, Hid (w6.setCell ⟨xb, 2, none⟩ (.int .u64 1) = w7) := ⟨_, Lib.hid rfl⟩
  rw [hw7.out]
  have H7 : Hid (w7.heap[xb]? = some (.cells #[.int .u64 7, .int .u64 2, .int .u64 1, .string webB, .string getB, .int .i64 1, .int .i64 0, .int .u64 5, .int .u64 9, .slice Ab 0 cb] 57 (0, 0)) ∧ w7.heap[xa]? = some (.cells #[.int .u64 7, .int .u64 1, .int .u64 9, .string webB, .string getB, .int .i64 1, .int .i64 0, .int .u64 5, .int .u64 9, .slice Aa 0 ca] 57 (0, 0)) ∧ Below w.heap.size w w7) := by
    rw [← hw7.out]; exact ⟨setB H6.out.1 2 _, (setO w6 ⟨xb, 2, none⟩ _ hxab).trans H6.out.2.1, H6.out.2.2.setCell (p := ⟨xb, 2, none⟩) hxbB _⟩
  clear c2 z2
  have a0 : w7.cell? ⟨xa, 0, none⟩ = some (.int .u64 7) := cell0 H7.out.2.1 rfl
  have b0 : w7.cell? ⟨xb, 0, none⟩ = some (.int .u64 7) := cell0 H7.out.1 rfl
  have a1 : w7.cell? ⟨xa, 1, none⟩ = some (.int .u64 1) := cell0 H7.out.2.1 rfl
  have b1 : w7.cell? ⟨xb, 1, none⟩ = some (.int .u64 2) := cell0 H7.out.1 rfl
  have a2 : w7.cell? ⟨xa, 2, none⟩ = some (.int .u64 9) := cell0 H7.out.2.1 rfl
  have b2 : w7.cell? ⟨xb, 2, none⟩ = some (.int .u64 1) := cell0 H7.out.1 rfl
  have a3 : w7.cell? ⟨xa, 3, none⟩ = some (.string webB) := cell0 H7.out.2.1 rfl
  have b3 : w7.cell? ⟨xb, 3, none⟩ = some (.string webB) := cell0 H7.out.1 rfl
  have a4 : w7.cell? ⟨xa, 4, none⟩ = some (.string getB) := cell0 H7.out.2.1 rfl
  have b4 : w7.cell? ⟨xb, 4, none⟩ = some (.string getB) := cell0 H7.out.1 rfl
  have a5 : w7.cell? ⟨xa, 5, none⟩ = some (.int .i64 1) := cell0 H7.out.2.1 rfl
  have b5 : w7.cell? ⟨xb, 5, none⟩ = some (.int .i64 1) := cell0 H7.out.1 rfl
  have a6 : w7.cell? ⟨xa, 6, none⟩ = some (.int .i64 0) := cell0 H7.out.2.1 rfl
  have b6 : w7.cell? ⟨xb, 6, none⟩ = some (.int .i64 0) := cell0 H7.out.1 rfl
  have a7 : w7.cell? ⟨xa, 7, none⟩ = some (.int .u64 5) := cell0 H7.out.2.1 rfl
  have b7 : w7.cell? ⟨xb, 7, none⟩ = some (.int .u64 5) := cell0 H7.out.1 rfl
  have a8 : w7.cell? ⟨xa, 8, none⟩ = some (.int .u64 9) := cell0 H7.out.2.1 rfl
  have b8 : w7.cell? ⟨xb, 8, none⟩ = some (.int .u64 9) := cell0 H7.out.1 rfl
  have a9 : w7.cell? ⟨xa, 9, none⟩ = some (.slice Aa 0 ca) := cell0 H7.out.2.1 rfl
  have b9 : w7.cell? ⟨xb, 9, none⟩ = some (.slice Ab 0 cb) := cell0 H7.out.1 rfl
  obtain ⟨xl1, hxl1⟩ : ∃ x, Hid (w7.heap.size = x) := ⟨_, Lib.hid rfl⟩
  obtain ⟨wl, hwl⟩ : ∃ x, Hid (w7.alloc (.cells #[.int .u64 7, .int .u64 1, .int .u64 9, .string webB, .string getB, .int .i64 1, .int .i64 0, .int .u64 5, .int .u64 9, .slice Aa 0 ca, .int .u64 7, .int .u64 2, .int .u64 1, .string webB, .string getB, .int .i64 1, .int .i64 0, .int .u64 5, .int .u64 9, .slice Ab 0 cb] 57) = x) := ⟨_, Lib.hid rfl⟩
  have Hwl : Hid (Below w7.heap.size w7 wl ∧ wl.heap[xl1]? = some (.cells #[.int .u64 7, .int .u64 1, .int .u64 9, .string webB, .string getB, .int .i64 1, .int .i64 0, .int .u64 5, .int .u64 9, .slice Aa 0 ca, .int .u64 7, .int .u64 2, .int .u64 1, .string webB, .string getB, .int .i64 1, .int .i64 0, .int .u64 5, .int .u64 9, .slice Ab 0 cb] 57 (0, 0))) := by
    rw [← hwl.out, ← hxl1.out]; exact ⟨(Below.refl _ _).alloc (Nat.le_refl _) _, allocN _ _⟩
  go_wp2_with fail
  rw [hwl.out, hxl1.out]
  refine (tallyroomlaw06_Ofs.calls 2000 (some ⟨xl1, 0, none⟩) 2 [ra, rb'] [sa, sb] wl (C_ab Hwl.out.2) (by decide) (Ofs_f [ra, rb'] (by decide) (by intro x hx; simp only [List.mem_cons, List.not_mem_nil, or_false] at hx; rcases hx with rfl | rfl <;> decide))).mono ?_
  rintro e wo ⟨vO, rfl, hsO, hbO⟩
  obtain ⟨AO, cO, rfl, hcO, hCO⟩ := Kd.S_reads hsO
  have Hwo : Hid (Kd.C k44 wo AO 2 [sa, sb] ∧ Below w7.heap.size w7 wo) := ⟨hCO, Hwl.out.1.trans (hbO.mono Hwl.out.1.size)⟩
  clear hsO hbO hcO hCO a0 b0 a1 b1 a2 b2 a3 b3 a4 b4 a5 b5 a6 b6 a7 b7 a8 b8 a9 b9
  go_wp2_with fail
  refine (Build2 wo AO cO false Hwo.out.1).mono ?_
  rintro e wb ⟨hbB, An1, cn1, Ad1, cd1, rfl, hk1⟩
  have Hwb : Hid (Below w7.heap.size w7 wb) := Hwo.out.2.trans (hbB.mono Hwo.out.2.size)
  obtain ⟨xt, hxt⟩ : ∃ x, Hid (wb.heap.size = x) := ⟨_, Lib.hid rfl⟩
  clear hk1
  obtain ⟨w8, hw8⟩ : ∃ x, Hid (wb.alloc (.cells #[.slice An1 0 cn1, .slice Ad1 2 cd1] 28) = x) := ⟨_, Lib.hid rfl⟩
  have H8 : Hid (w8.heap[xb]? = some (.cells #[.int .u64 7, .int .u64 2, .int .u64 1, .string webB, .string getB, .int .i64 1, .int .i64 0, .int .u64 5, .int .u64 9, .slice Ab 0 cb] 57 (0, 0)) ∧ w8.heap[xa]? = some (.cells #[.int .u64 7, .int .u64 1, .int .u64 9, .string webB, .string getB, .int .i64 1, .int .i64 0, .int .u64 5, .int .u64 9, .slice Aa 0 ca] 57 (0, 0)) ∧ Below w.heap.size w w8 ∧ w8.heap[xt]? = some (.cells #[.slice An1 0 cn1, .slice Ad1 2 cd1] 28 (0, 0))) := by
    have h78 : Below w7.heap.size w7 w8 := by rw [← hw8.out]; exact Hwb.out.alloc Hwb.out.size _
    refine ⟨(h78.block _ (lt_of_get H7.out.1)).trans H7.out.1, (h78.block _ (lt_of_get H7.out.2.1)).trans H7.out.2.1, H7.out.2.2.trans (h78.mono H7.out.2.2.size), ?_⟩
    rw [← hw8.out, ← hxt.out]; exact allocN _ _
  go_upto_region 7 with fail
  rw [hw8.out, hxt.out]
  have a0 : w8.cell? ⟨xa, 0, none⟩ = some (.int .u64 7) := cell0 H8.out.2.1 rfl
  have b0 : w8.cell? ⟨xb, 0, none⟩ = some (.int .u64 7) := cell0 H8.out.1 rfl
  have a1 : w8.cell? ⟨xa, 1, none⟩ = some (.int .u64 1) := cell0 H8.out.2.1 rfl
  have b1 : w8.cell? ⟨xb, 1, none⟩ = some (.int .u64 2) := cell0 H8.out.1 rfl
  have a2 : w8.cell? ⟨xa, 2, none⟩ = some (.int .u64 9) := cell0 H8.out.2.1 rfl
  have b2 : w8.cell? ⟨xb, 2, none⟩ = some (.int .u64 1) := cell0 H8.out.1 rfl
  have a3 : w8.cell? ⟨xa, 3, none⟩ = some (.string webB) := cell0 H8.out.2.1 rfl
  have b3 : w8.cell? ⟨xb, 3, none⟩ = some (.string webB) := cell0 H8.out.1 rfl
  have a4 : w8.cell? ⟨xa, 4, none⟩ = some (.string getB) := cell0 H8.out.2.1 rfl
  have b4 : w8.cell? ⟨xb, 4, none⟩ = some (.string getB) := cell0 H8.out.1 rfl
  have a5 : w8.cell? ⟨xa, 5, none⟩ = some (.int .i64 1) := cell0 H8.out.2.1 rfl
  have b5 : w8.cell? ⟨xb, 5, none⟩ = some (.int .i64 1) := cell0 H8.out.1 rfl
  have a6 : w8.cell? ⟨xa, 6, none⟩ = some (.int .i64 0) := cell0 H8.out.2.1 rfl
  have b6 : w8.cell? ⟨xb, 6, none⟩ = some (.int .i64 0) := cell0 H8.out.1 rfl
  have a7 : w8.cell? ⟨xa, 7, none⟩ = some (.int .u64 5) := cell0 H8.out.2.1 rfl
  have b7 : w8.cell? ⟨xb, 7, none⟩ = some (.int .u64 5) := cell0 H8.out.1 rfl
  have a8 : w8.cell? ⟨xa, 8, none⟩ = some (.int .u64 9) := cell0 H8.out.2.1 rfl
  have b8 : w8.cell? ⟨xb, 8, none⟩ = some (.int .u64 9) := cell0 H8.out.1 rfl
  have a9 : w8.cell? ⟨xa, 9, none⟩ = some (.slice Aa 0 ca) := cell0 H8.out.2.1 rfl
  have b9 : w8.cell? ⟨xb, 9, none⟩ = some (.slice Ab 0 cb) := cell0 H8.out.1 rfl
  obtain ⟨xl2, hxl2⟩ : ∃ x, Hid (w8.heap.size = x) := ⟨_, Lib.hid rfl⟩
  obtain ⟨wm, hwm⟩ : ∃ x, Hid (w8.alloc (.cells #[.int .u64 7, .int .u64 1, .int .u64 9, .string webB, .string getB, .int .i64 1, .int .i64 0, .int .u64 5, .int .u64 9, .slice Aa 0 ca, .int .u64 7, .int .u64 2, .int .u64 1, .string webB, .string getB, .int .i64 1, .int .i64 0, .int .u64 5, .int .u64 9, .slice Ab 0 cb] 57) = x) := ⟨_, Lib.hid rfl⟩
  have Hwm : Hid (Below w8.heap.size w8 wm ∧ wm.heap[xl2]? = some (.cells #[.int .u64 7, .int .u64 1, .int .u64 9, .string webB, .string getB, .int .i64 1, .int .i64 0, .int .u64 5, .int .u64 9, .slice Aa 0 ca, .int .u64 7, .int .u64 2, .int .u64 1, .string webB, .string getB, .int .i64 1, .int .i64 0, .int .u64 5, .int .u64 9, .slice Ab 0 cb] 57 (0, 0))) := by
    rw [← hwm.out, ← hxl2.out]; exact ⟨(Below.refl _ _).alloc (Nat.le_refl _) _, allocN _ _⟩
  go_wp2_with fail
  rw [hwm.out, hxl2.out]
  refine (tallyroomlaw06_Ofs.calls 2000 (some ⟨xl2, 0, none⟩) 2 [ra, rb'] [sa, sb] wm (C_ab Hwm.out.2) (by decide) (Ofs_f [ra, rb'] (by decide) (by intro x hx; simp only [List.mem_cons, List.not_mem_nil, or_false] at hx; rcases hx with rfl | rfl <;> decide))).mono ?_
  rintro e wp ⟨vO, rfl, hsO, hbO⟩
  obtain ⟨AO, cO, rfl, hcO, hCO⟩ := Kd.S_reads hsO
  have Hwp : Hid (Kd.C k44 wp AO 2 [sa, sb] ∧ Below w8.heap.size w8 wp) := ⟨hCO, Hwm.out.1.trans (hbO.mono Hwm.out.1.size)⟩
  clear hsO hbO hcO hCO a0 b0 a1 b1 a2 b2 a3 b3 a4 b4 a5 b5 a6 b6 a7 b7 a8 b8 a9 b9
  go_wp2_with fail
  refine (Build2 wp AO cO true Hwp.out.1).mono ?_
  rintro e wd ⟨hbB, An2, cn2, Ad2, cd2, rfl, hk2⟩
  have Hwd : Hid (Below w8.heap.size w8 wd) := Hwp.out.2.trans (hbB.mono Hwp.out.2.size)
  obtain ⟨xu, hxu⟩ : ∃ x, Hid (wd.heap.size = x) := ⟨_, Lib.hid rfl⟩
  obtain ⟨N, hN, hCN⟩ := hk2 rfl
  obtain ⟨w9, hw9⟩ : ∃ x, Hid (wd.alloc (.cells #[.slice An2 2 cn2, .slice Ad2 0 cd2] 28) = x) := ⟨_, Lib.hid rfl⟩
  have h89 : Below w8.heap.size w8 w9 := by rw [← hw9.out]; exact Hwd.out.alloc Hwd.out.size _
  have H9 : Hid (w9.heap[xt]? = some (.cells #[.slice An1 0 cn1, .slice Ad1 2 cd1] 28 (0, 0)) ∧ w9.heap[xu]? = some (.cells #[.slice An2 2 cn2, .slice Ad2 0 cd2] 28 (0, 0)) ∧ Below w.heap.size w w9) := by
    refine ⟨(h89.block _ (lt_of_get H8.out.2.2.2)).trans H8.out.2.2.2, ?_, H8.out.2.2.1.trans (h89.mono H8.out.2.2.1.size)⟩
    rw [← hw9.out, ← hxu.out]; exact allocN _ _
  have hCN9 : Kd.C k47 w9 An2 2 N := by rw [← hw9.out]; exact Kd.C_below hCN ((Below.refl _ _).alloc (Nat.le_refl _) _)
  subst hN
  obtain ⟨ad, A9, c9, rfl, x0, x1, x2, x3, x4, x5, x6, x7, x8, x9, x10, x11, x12, _, _⟩ := at_T47 hCN9 1 (by decide) (by decide)
  have hrd : rd_T47 [⟨sa, -1, 1, true⟩, ⟨sb, 0, 2, false⟩] 1 = ⟨sb, 0, 2, false⟩ := rfl
  rw [hrd] at x10 x11
  have y10 : w9.cell? ⟨ad.block, ad.off + 13 + 10, none⟩ = some (.int .i64 0) := x10
  have y11 : w9.cell? ⟨ad.block, ad.off + 13 + 11, none⟩ = some (.int .i64 2) := x11
  clear x0 x1 x2 x3 x4 x5 x6 x7 x8 x9 x10 x11 x12 hrd
  clear hCN hCN9 h89 hk2
  go_upto_region 8 with fail
  rw [hw9.out, hxu.out]
  have t0 : w9.cell? ⟨xt, 0, none⟩ = some (.slice An1 0 cn1) := cell0 H9.out.1 rfl
  have t1 : w9.cell? ⟨xt, 1, none⟩ = some (.slice Ad1 2 cd1) := cell0 H9.out.1 rfl
  have u0 : w9.cell? ⟨xu, 0, none⟩ = some (.slice (some ad) 2 cn2) := cell0 H9.out.2.1 rfl
  go_wp2_with fail
  go_ret
  exact ⟨rfl, H9.out.2.2⟩
end Go.Proofs.Ytamcchdblglfoaa.Ft
set_option linter.unusedVariables false
set_option linter.unusedSimpArgs false
namespace Go.Proofs.Ytamcchdblglfoaa.Ft
open Go.RowKit Go.Proofs.Ytamcchdblglfoaa.B0 Go.Proofs.Ytamcchdblglfoaa.Pf Go.Proofs.YtamcchdblglfoaaW.PrintWords Go.Proofs.YtamcchdblglfoaaW.PrintLast Go.Proofs.YtamcchdblglfoaaW.PrintMore
/-- the root among the first i nodes; -1: there is none. -/
def rootF (N : List Nd) : Nat → Int
  | 0 => -1
  | i + 1 => match N[i]? with
    | none => rootF N i
    | some x => if x.f1 = -1 ∧ (rootF N i = -1 ∨ x.f0.f7 < (rd_T47 N (rootF N i)).f0.f7) then (i : Int) else rootF N i
theorem rootF_succ {N : List Nd} {i : Nat} {x : Nd} (h : N[i]? = some x) : rootF N (i + 1) = if x.f1 = -1 ∧ (rootF N i = -1 ∨ x.f0.f7 < (rd_T47 N (rootF N i)).f0.f7) then (i : Int) else rootF N i := by
  show (match N[i]? with | none => _ | some x => _) = _
  rw [h]
theorem rdNd {L : List Nd} {i : Nat} {y : Nd} (h : L[i]? = some y) : rd_T47 L (i : Int) = y := by
  unfold rd_T47
  rw [Int.toNat_natCast, List.getD_eq_getElem?_getD, h]; rfl
theorem rootF_range (N : List Nd) : ∀ i, i ≤ N.length → (rootF N i = -1 ∧ ∀ j x, j < i → N[j]? = some x → x.f1 ≠ -1) ∨ ∃ j : Nat, rootF N i = j ∧ j < i ∧ ∃ x, N[j]? = some x ∧ x.f1 = -1
  | 0, _ => .inl ⟨rfl, fun j x hj => by omega⟩
  | i + 1, hi => by
    obtain ⟨x, hx⟩ : ∃ x, N[i]? = some x := ⟨_, List.getElem?_eq_getElem hi⟩
    have ih := rootF_range N i (by omega)
    rw [rootF_succ hx]
    by_cases hc : x.f1 = -1 ∧ (rootF N i = -1 ∨ x.f0.f7 < (rd_T47 N (rootF N i)).f0.f7)
    · rw [if_pos hc]
      exact .inr ⟨i, rfl, by omega, x, hx, hc.1⟩
    · rw [if_neg hc]
      rcases ih with ⟨e, h⟩ | ⟨j, e, hj, h⟩
      · refine .inl ⟨e, fun j y hj hy => ?_⟩
        rcases Nat.lt_or_ge j i with h1 | h1
        · exact h j y h1 hy
        · obtain rfl : j = i := by omega
          rw [hx] at hy; cases hy
          exact fun h2 => hc ⟨h2, .inl e⟩
      · exact .inr ⟨j, e, by omega, h⟩
def T24_5 : Bool × List (List Nat × List Nat) := (true, [([], []), ([0], [0]), ([1], [1]), ([2], [2]), ([3], [3]), ([4, 3], [3, 4]), ([5, 3, 3], [3, 5]), ([6], [6]), ([7, 6], [6, 7]), ([8, 6], [6, 8]), ([6], [6]), ([10, 6], [6, 10]), ([6], [6]), ([11, 12, 6], [6, 11, 12]), ([13, 6], [6, 13]), ([14, 6], [6, 14]), ([15, 6], [6, 15]), ([9, 16, 6], [6, 9, 16]), ([6, 17, 3], [3, 6, 17]), ([3, 18], [3, 18])])
def B24_5 : List Nat := [0, 1, 3, 7, 15, 31, 63, 127, 255, 511, 127, 1151, 127, 7295, 15487, 31871, 64639, 131071, 262143, 524287]
theorem tab24_5 : rtab .any (opsOf Try.f24 5) = T24_5 := by kernel_rfl
theorem bits24_5 : waitsOk T24_5.2 B24_5 = true := by kernel_rfl
set_option maxHeartbeats 8000000 in
set_option maxRecDepth 100000 in
theorem Root_c (w : World) (A : Option Addr) (n c : Nat) (Ad : Option Addr) (m cd : Nat) (N : List Nd) (hC : Kd.C k47 w A n N) (hn1 : n ≤ 1000) :
    Calls Try.prog 24 #[.agg #[.slice A n c, .slice Ad m cd]] w fun e w' => e = .returned (.tuple #[.int .i64 (if 0 < rootF N n then rootF N n else 0), .bool (rootF N n != -1)]) ∧ Below w.heap.size w w' := by
  have hn : N.length = n := hC.1
  have HN := Lib.hid hn
  have HC := Lib.hid hC; clear hC hn
  obtain ⟨tb, htb⟩ : ∃ tb, Hid (w.heap.size = tb) := ⟨_, Lib.hid rfl⟩
  obtain ⟨w1, hw1⟩ : ∃ w1, Hid (w.alloc (.cells #[.slice A n c, .slice Ad m cd] 28) = w1) := ⟨_, Lib.hid rfl⟩
  have H1 : Hid (Below w.heap.size w w1 ∧ w1.heap[tb]? = some (.cells #[.slice A n c, .slice Ad m cd] 28 (0, 0)) ∧ Kd.C k47 w1 A n N) := by
    rw [← hw1.out, ← htb.out]
    have hb : Below w.heap.size w (w.alloc (.cells #[.slice A n c, .slice Ad m cd] 28)) := (Below.refl _ _).alloc (Nat.le_refl _) _
    exact ⟨hb, allocN _ _, Kd.C_below HC.out hb⟩
  have c0 : w1.cell? ⟨tb, 0, none⟩ = some (.slice A n c) := cell0 H1.out.2.1 rfl
  go_enter Try.func24, Try.ntmps24
  go_upto_region 1 with fail
  rw [hw1.out, htb.out]
  go_wp2_with fail
  clear c0
  go_loopw [10, 4] (fun iv bv wr => ∃ (i : Nat) (b : Int), iv = .int .i64 i ∧ bv = .int .i64 b ∧ i ≤ n ∧ Hid (b = rootF N i ∧ Below w1.heap.size w1 wr)) (fun iv _ _ => n - (intOf iv).toNat)
  case atStart => exact ⟨0, -1, rfl, rfl, Nat.zero_le _, rfl, Below.refl _ _⟩
  case round =>
    obtain ⟨i, b, rfl, rfl, hi, HW⟩ := hrel
    by_cases hlt : i < n
    · have hki : (i : Int) < (n : Int) := by omega
      obtain ⟨x, hx⟩ : ∃ x, N[i]? = some x := ⟨_, List.getElem?_eq_getElem (by rw [HN.out]; exact hlt)⟩
      have hCr := Kd.C_below H1.out.2.2 HW.out.2
      obtain ⟨ad, A9, c9, rfl, d0, d1, d2, d3, d4, d5, d6, d7, d8, d9, d10, d11, d12, _, _⟩ := at_T47 hCr (i : Int) (by omega) hki
      rw [rdNd hx, Int.toNat_natCast] at d0 d1 d2 d3 d4 d5 d6 d7 d8 d9 d10 d11 d12
      obtain ⟨wa, hwa⟩ : ∃ wa, Hid (wr.alloc (.cells #[.int .u64 x.f0.f0, .int .u64 x.f0.f1, .int .u64 x.f0.f2, .string x.f0.f3, .string x.f0.f4, .int .i64 x.f0.f5, .int .i64 x.f0.f6, .int .u64 x.f0.f7, .int .u64 x.f0.f8, .slice A9 x.f0.f9.length c9, .int .i64 x.f1, .int .i64 x.f2, .bool x.f3] 47) = wa) := ⟨_, Lib.hid rfl⟩
      obtain ⟨nb, hnb⟩ : ∃ nb, Hid (wr.heap.size = nb) := ⟨_, Lib.hid rfl⟩
      have HWA : Hid (wa.heap[nb]? = some (.cells #[.int .u64 x.f0.f0, .int .u64 x.f0.f1, .int .u64 x.f0.f2, .string x.f0.f3, .string x.f0.f4, .int .i64 x.f0.f5, .int .i64 x.f0.f6, .int .u64 x.f0.f7, .int .u64 x.f0.f8, .slice A9 x.f0.f9.length c9, .int .i64 x.f1, .int .i64 x.f2, .bool x.f3] 47 (0, 0)) ∧ Below wr.heap.size wr wa) := by
        rw [← hwa.out, ← hnb.out]; exact ⟨allocN _ _, (Below.refl _ _).alloc (Nat.le_refl _) _⟩
      have HX := Lib.hid hx
      clear hx hCr
      go_upto_region 5 with fail
      rw [hwa.out, hnb.out]
      clear d0 d1 d2 d3 d4 d5 d6 d7 d8 d9 d10 d11 d12
      have HE : Hid (∀ w', Below wa.heap.size wa w' → Below w1.heap.size w1 w') := fun w' hb => HW.out.2.trans ((HWA.out.2.trans (hb.mono HWA.out.2.size)).mono HW.out.2.size)
      have EC : Hid (∀ w', Below wa.heap.size wa w' → w'.cell? ⟨nb, 10, none⟩ = some (.int .i64 x.f1) ∧ w'.cell? ⟨nb, 7, none⟩ = some (.int .u64 x.f0.f7) ∧ w'.cell? ⟨tb, 0, none⟩ = some (.slice (some ad) n c)) := fun w' hb => by
        have e1 := (hb.block nb (lt_of_get HWA.out.1)).trans HWA.out.1
        have e2 := ((HE.out w' hb).block tb (lt_of_get H1.out.2.1)).trans H1.out.2.1
        exact ⟨cell0 e1 rfl, cell0 e1 rfl, cell0 e2 rfl⟩
      by_cases hp : x.f1 = -1
      · have f17 : (x.f1 == -1) = true := by simp [hp]
        by_cases hb1 : b = -1
        · have f20 : (b == -1) = true := by simp [hb1]
          refine start_ (n := 20) (S := (fun w' => Below wa.heap.size wa w')) (ds := []) #[false, false, false, false, false, false, false, false, false, false, false, false, false, false, false, false, false, false, false, false] (by kernel_rfl) (by rfl) (by rfl) (pw_below_drewN (Below.refl _ _) 1) (fun hHeld => ?_); refine with_tabW tab24_5 bits24_5 (fun HT_ HW_ => ?_)
          refine pure_ (i := 0) (N := some 15) (v := ?_) (a' := ?_) #[true, false, false, false, false, false, false, false, false, false, false, false, false, false, false, false, false, false, false, false] rfl rfl (any_of HT_.out (by kernel_rfl)) (fun _ _ _ h => h) (Or.inl ⟨by rfl, ?_⟩) ?_ ?_
          rotate_left
          · intro w'
            go_simp
            with_reducible rfl
          rotate_left
          · simp only [Act.put, List.setIfInBounds_toArray, List.set_cons_zero, List.set_cons_succ]
            rfl
          refine take_ (i := 1) (N := some 16) (v := ?_) (a' := ?_) #[true, true, false, false, false, false, false, false, false, false, false, false, false, false, false, false, false, false, false, false] rfl rfl (take_ofW HT_.out HW_.out (by kernel_rfl)) (fun _ _ _ h => h) (Or.inl ⟨by rfl, ?_⟩) hHeld ?_ ?_
          rotate_left
          · rintro w' hS; obtain ⟨s0, s1, s2⟩ := EC.out w' hS
            go_simp
            with_reducible rfl
          rotate_left
          · simp only [Act.put, List.setIfInBounds_toArray, List.set_cons_zero, List.set_cons_succ]
            rfl
          refine pure_ (i := 2) (N := some 17) (v := ?_) (a' := ?_) #[true, true, true, false, false, false, false, false, false, false, false, false, false, false, false, false, false, false, false, false] rfl rfl (any_of HT_.out (by kernel_rfl)) (fun _ _ _ h => h) (Or.inl ⟨by rfl, ?_⟩) ?_ ?_
          rotate_left
          · intro w'
            go_simp
            with_reducible rfl
          rotate_left
          · simp only [Act.put, List.setIfInBounds_toArray, List.set_cons_zero, List.set_cons_succ]
            rfl
          refine pure_ (i := 3) (N := some 18) (v := ?_) (a' := ?_) #[true, true, true, true, false, false, false, false, false, false, false, false, false, false, false, false, false, false, false, false] rfl rfl (any_of HT_.out (by kernel_rfl)) (fun _ _ _ h => h) (Or.inl ⟨by rfl, ?_⟩) ?_ ?_
          rotate_left
          · intro w'
            go_simp
            with_reducible rfl
          rotate_left
          · simp only [Act.put, List.setIfInBounds_toArray, List.set_cons_zero, List.set_cons_succ]
            rfl
          refine pure_ (i := 4) (N := some 19) (v := ?_) (a' := ?_) #[true, true, true, true, true, false, false, false, false, false, false, false, false, false, false, false, false, false, false, false] rfl rfl (any_of HT_.out (by kernel_rfl)) (fun _ _ _ h => h) (Or.inl ⟨by rfl, ?_⟩) ?_ ?_
          rotate_left
          · intro w'
            go_simp
            with_reducible rfl
          rotate_left
          · simp only [Act.put, List.setIfInBounds_toArray, List.set_cons_zero, List.set_cons_succ]
            rfl
          refine pure_ (i := 5) (N := some 20) (v := ?_) (a' := ?_) #[true, true, true, true, true, true, false, false, false, false, false, false, false, false, false, false, false, false, false, false] rfl rfl (any_of HT_.out (by kernel_rfl)) (fun _ _ _ h => h) (Or.inl ⟨by rfl, ?_⟩) ?_ ?_
          rotate_left
          · intro w'
            go_simp
            with_reducible rfl
          rotate_left
          · simp only [Act.put, List.setIfInBounds_toArray, List.set_cons_zero, List.set_cons_succ]
            rfl
          refine pure_ (i := 6) (N := some 21) (v := ?_) (a' := ?_) #[true, true, true, true, true, true, true, false, false, false, false, false, false, false, false, false, false, false, false, false] rfl rfl (any_of HT_.out (by kernel_rfl)) (fun _ _ _ h => h) (Or.inl ⟨by rfl, ?_⟩) ?_ ?_
          rotate_left
          · intro w'
            go_simp
            with_reducible rfl
          rotate_left
          · simp only [Act.put, List.setIfInBounds_toArray, List.set_cons_zero, List.set_cons_succ]
            rfl
          refine pure_ (i := 7) (N := some 22) (v := undef) (a' := ?_) #[true, true, true, true, true, true, true, true, false, false, false, false, false, false, false, false, false, false, false, false] rfl rfl (any_of HT_.out (by kernel_rfl)) (fun _ _ _ h => h) (Or.inr ⟨by rfl, rfl⟩) ?_ ?_
          rotate_left
          · simp only [Act.put, List.setIfInBounds_toArray, List.set_cons_zero, List.set_cons_succ]
            rfl
          refine pure_ (i := 8) (N := some 23) (v := undef) (a' := ?_) #[true, true, true, true, true, true, true, true, true, false, false, false, false, false, false, false, false, false, false, false] rfl rfl (any_of HT_.out (by kernel_rfl)) (fun _ _ _ h => h) (Or.inr ⟨by rfl, rfl⟩) ?_ ?_
          rotate_left
          · simp only [Act.put, List.setIfInBounds_toArray, List.set_cons_zero, List.set_cons_succ]
            rfl
          refine pure_ (i := 9) (N := some 24) (v := undef) (a' := ?_) #[true, true, true, true, true, true, true, true, true, true, false, false, false, false, false, false, false, false, false, false] rfl rfl (any_of HT_.out (by kernel_rfl)) (fun _ _ _ h => h) (Or.inr ⟨by rfl, rfl⟩) ?_ ?_
          rotate_left
          · simp only [Act.put, List.setIfInBounds_toArray, List.set_cons_zero, List.set_cons_succ]
            rfl
          refine pure_ (i := 10) (N := some 25) (v := undef) (a' := ?_) #[true, true, true, true, true, true, true, true, true, true, true, false, false, false, false, false, false, false, false, false] rfl rfl (any_of HT_.out (by kernel_rfl)) (fun _ _ _ h => h) (Or.inr ⟨by rfl, rfl⟩) ?_ ?_
          rotate_left
          · simp only [Act.put, List.setIfInBounds_toArray, List.set_cons_zero, List.set_cons_succ]
            rfl
          refine pure_ (i := 11) (N := some 26) (v := undef) (a' := ?_) #[true, true, true, true, true, true, true, true, true, true, true, true, false, false, false, false, false, false, false, false] rfl rfl (any_of HT_.out (by kernel_rfl)) (fun _ _ _ h => h) (Or.inr ⟨by rfl, rfl⟩) ?_ ?_
          rotate_left
          · simp only [Act.put, List.setIfInBounds_toArray, List.set_cons_zero, List.set_cons_succ]
            rfl
          refine pure_ (i := 12) (N := some 27) (v := undef) (a' := ?_) #[true, true, true, true, true, true, true, true, true, true, true, true, true, false, false, false, false, false, false, false] rfl rfl (any_of HT_.out (by kernel_rfl)) (fun _ _ _ h => h) (Or.inr ⟨by rfl, rfl⟩) ?_ ?_
          rotate_left
          · simp only [Act.put, List.setIfInBounds_toArray, List.set_cons_zero, List.set_cons_succ]
            rfl
          refine pure_ (i := 13) (N := some 28) (v := undef) (a' := ?_) #[true, true, true, true, true, true, true, true, true, true, true, true, true, true, false, false, false, false, false, false] rfl rfl (any_of HT_.out (by kernel_rfl)) (fun _ _ _ h => h) (Or.inr ⟨by rfl, rfl⟩) ?_ ?_
          rotate_left
          · simp only [Act.put, List.setIfInBounds_toArray, List.set_cons_zero, List.set_cons_succ]
            rfl
          refine pure_ (i := 14) (N := some 29) (v := undef) (a' := ?_) #[true, true, true, true, true, true, true, true, true, true, true, true, true, true, true, false, false, false, false, false] rfl rfl (any_of HT_.out (by kernel_rfl)) (fun _ _ _ h => h) (Or.inr ⟨by rfl, rfl⟩) ?_ ?_
          rotate_left
          · simp only [Act.put, List.setIfInBounds_toArray, List.set_cons_zero, List.set_cons_succ]
            rfl
          refine pure_ (i := 15) (N := some 30) (v := undef) (a' := ?_) #[true, true, true, true, true, true, true, true, true, true, true, true, true, true, true, true, false, false, false, false] rfl rfl (any_of HT_.out (by kernel_rfl)) (fun _ _ _ h => h) (Or.inr ⟨by rfl, rfl⟩) ?_ ?_
          rotate_left
          · simp only [Act.put, List.setIfInBounds_toArray, List.set_cons_zero, List.set_cons_succ]
            rfl
          refine pure_ (i := 16) (N := some 31) (v := undef) (a' := ?_) #[true, true, true, true, true, true, true, true, true, true, true, true, true, true, true, true, true, false, false, false] rfl rfl (any_of HT_.out (by kernel_rfl)) (fun _ _ _ h => h) (Or.inr ⟨by rfl, rfl⟩) ?_ ?_
          rotate_left
          · simp only [Act.put, List.setIfInBounds_toArray, List.set_cons_zero, List.set_cons_succ]
            rfl
          refine pure_ (i := 17) (N := some 32) (v := undef) (a' := ?_) #[true, true, true, true, true, true, true, true, true, true, true, true, true, true, true, true, true, true, false, false] rfl rfl (any_of HT_.out (by kernel_rfl)) (fun _ _ _ h => h) (Or.inr ⟨by rfl, rfl⟩) ?_ ?_
          rotate_left
          · simp only [Act.put, List.setIfInBounds_toArray, List.set_cons_zero, List.set_cons_succ]
            rfl
          refine pure_ (i := 18) (N := some 33) (v := ?_) (a' := ?_) #[true, true, true, true, true, true, true, true, true, true, true, true, true, true, true, true, true, true, true, false] rfl rfl (any_of HT_.out (by kernel_rfl)) (fun _ _ _ h => h) (Or.inl ⟨by rfl, ?_⟩) ?_ ?_
          rotate_left
          · intro w'
            go_simp
            with_reducible rfl
          rotate_left
          · simp only [Act.put, List.setIfInBounds_toArray, List.set_cons_zero, List.set_cons_succ]
            rfl
          refine pure_ (i := 19) (N := some 34) (v := ?_) (a' := ?_) #[true, true, true, true, true, true, true, true, true, true, true, true, true, true, true, true, true, true, true, true] rfl rfl (any_of HT_.out (by kernel_rfl)) (fun _ _ _ h => h) (Or.inl ⟨by rfl, ?_⟩) ?_ ?_
          rotate_left
          · intro w'
            go_simp
            with_reducible rfl
          rotate_left
          · simp only [Act.put, List.setIfInBounds_toArray, List.set_cons_zero, List.set_cons_succ]
            rfl
          refine done_ (done_of HT_.out (by kernel_rfl)) ?_
          clear HT_ HW_ hHeld
          go_wp2_with fail
          go_roundw
          case rel =>
            refine ⟨i + 1, i, by go_num, rfl, by omega, ?_, HE.out _ (pw_below_drewN (Below.refl _ _) 1)⟩
            rw [rootF_succ HX.out, if_pos ⟨hp, .inl (by rw [← HW.out.1]; exact hb1)⟩]
          case measure => simp [intOf]; omega
        · rcases rootF_range N i (by rw [HN.out]; omega) with ⟨e, _⟩ | ⟨k, e, hk, y, hy, _⟩
          · exact absurd (HW.out.1.trans e) hb1
          · have hbk := HW.out.1.trans e
            subst hbk
            have f20 : ((k : Int) == -1) = false := by simp
            have hkn : (k : Int) < (n : Int) := by omega
            have ECk : Hid (∀ w', Below wa.heap.size wa w' → w'.cell? ⟨nb, 10, none⟩ = some (.int .i64 x.f1) ∧ w'.cell? ⟨nb, 7, none⟩ = some (.int .u64 x.f0.f7) ∧ w'.cell? ⟨tb, 0, none⟩ = some (.slice (some ad) n c) ∧ w'.cell? ⟨(ad.add (k * 13)).block, (ad.add (k * 13)).off + 7, none⟩ = some (.int .u64 y.f0.f7)) := fun w' hb => by
              obtain ⟨e1, e2, e3⟩ := EC.out w' hb
              have hCr := Kd.C_below H1.out.2.2 (HE.out w' hb)
              obtain ⟨ad', A9', c9', ea, d0, d1, d2, d3, d4, d5, d6, d7, d8, d9, d10, d11, d12, _, _⟩ := at_T47 hCr (k : Int) (by omega) hkn
              obtain rfl := Option.some.inj ea
              rw [rdNd hy, Int.toNat_natCast] at d7
              exact ⟨e1, e2, e3, d7⟩
            have HY := Lib.hid hy
            by_cases hless : x.f0.f7 < y.f0.f7
            · have f32 : decide (x.f0.f7 < y.f0.f7) = true := decide_eq_true hless
              refine start_ (n := 20) (S := (fun w' => Below wa.heap.size wa w')) (ds := []) #[false, false, false, false, false, false, false, false, false, false, false, false, false, false, false, false, false, false, false, false] (by kernel_rfl) (by rfl) (by rfl) (pw_below_drewN (Below.refl _ _) 1) (fun hHeld => ?_); refine with_tabW tab24_5 bits24_5 (fun HT_ HW_ => ?_)
              refine pure_ (i := 0) (N := some 15) (v := ?_) (a' := ?_) #[true, false, false, false, false, false, false, false, false, false, false, false, false, false, false, false, false, false, false, false] rfl rfl (any_of HT_.out (by kernel_rfl)) (fun _ _ _ h => h) (Or.inl ⟨by rfl, ?_⟩) ?_ ?_
              rotate_left
              · intro w'
                go_simp
                with_reducible rfl
              rotate_left
              · simp only [Act.put, List.setIfInBounds_toArray, List.set_cons_zero, List.set_cons_succ]
                rfl
              refine take_ (i := 1) (N := some 16) (v := ?_) (a' := ?_) #[true, true, false, false, false, false, false, false, false, false, false, false, false, false, false, false, false, false, false, false] rfl rfl (take_ofW HT_.out HW_.out (by kernel_rfl)) (fun _ _ _ h => h) (Or.inl ⟨by rfl, ?_⟩) hHeld ?_ ?_
              rotate_left
              · rintro w' hS; obtain ⟨s0, s1, s2, s3⟩ := ECk.out w' hS
                go_simp
                with_reducible rfl
              rotate_left
              · simp only [Act.put, List.setIfInBounds_toArray, List.set_cons_zero, List.set_cons_succ]
                rfl
              refine pure_ (i := 2) (N := some 17) (v := ?_) (a' := ?_) #[true, true, true, false, false, false, false, false, false, false, false, false, false, false, false, false, false, false, false, false] rfl rfl (any_of HT_.out (by kernel_rfl)) (fun _ _ _ h => h) (Or.inl ⟨by rfl, ?_⟩) ?_ ?_
              rotate_left
              · intro w'
                go_simp
                with_reducible rfl
              rotate_left
              · simp only [Act.put, List.setIfInBounds_toArray, List.set_cons_zero, List.set_cons_succ]
                rfl
              refine pure_ (i := 3) (N := some 18) (v := ?_) (a' := ?_) #[true, true, true, true, false, false, false, false, false, false, false, false, false, false, false, false, false, false, false, false] rfl rfl (any_of HT_.out (by kernel_rfl)) (fun _ _ _ h => h) (Or.inl ⟨by rfl, ?_⟩) ?_ ?_
              rotate_left
              · intro w'
                go_simp
                with_reducible rfl
              rotate_left
              · simp only [Act.put, List.setIfInBounds_toArray, List.set_cons_zero, List.set_cons_succ]
                rfl
              refine pure_ (i := 4) (N := some 19) (v := ?_) (a' := ?_) #[true, true, true, true, true, false, false, false, false, false, false, false, false, false, false, false, false, false, false, false] rfl rfl (any_of HT_.out (by kernel_rfl)) (fun _ _ _ h => h) (Or.inl ⟨by rfl, ?_⟩) ?_ ?_
              rotate_left
              · intro w'
                go_simp
                with_reducible rfl
              rotate_left
              · simp only [Act.put, List.setIfInBounds_toArray, List.set_cons_zero, List.set_cons_succ]
                rfl
              refine pure_ (i := 5) (N := some 20) (v := ?_) (a' := ?_) #[true, true, true, true, true, true, false, false, false, false, false, false, false, false, false, false, false, false, false, false] rfl rfl (any_of HT_.out (by kernel_rfl)) (fun _ _ _ h => h) (Or.inl ⟨by rfl, ?_⟩) ?_ ?_
              rotate_left
              · intro w'
                go_simp
                with_reducible rfl
              rotate_left
              · simp only [Act.put, List.setIfInBounds_toArray, List.set_cons_zero, List.set_cons_succ]
                rfl
              refine pure_ (i := 6) (N := some 21) (v := ?_) (a' := ?_) #[true, true, true, true, true, true, true, false, false, false, false, false, false, false, false, false, false, false, false, false] rfl rfl (any_of HT_.out (by kernel_rfl)) (fun _ _ _ h => h) (Or.inl ⟨by rfl, ?_⟩) ?_ ?_
              rotate_left
              · intro w'
                go_simp
                with_reducible rfl
              rotate_left
              · simp only [Act.put, List.setIfInBounds_toArray, List.set_cons_zero, List.set_cons_succ]
                rfl
              refine pure_ (i := 7) (N := some 22) (v := ?_) (a' := ?_) #[true, true, true, true, true, true, true, true, false, false, false, false, false, false, false, false, false, false, false, false] rfl rfl (any_of HT_.out (by kernel_rfl)) (fun _ _ _ h => h) (Or.inl ⟨by rfl, ?_⟩) ?_ ?_
              rotate_left
              · intro w'
                go_simp
                with_reducible rfl
              rotate_left
              · simp only [Act.put, List.setIfInBounds_toArray, List.set_cons_zero, List.set_cons_succ]
                rfl
              refine pure_ (i := 8) (N := some 23) (v := ?_) (a' := ?_) #[true, true, true, true, true, true, true, true, true, false, false, false, false, false, false, false, false, false, false, false] rfl rfl (any_of HT_.out (by kernel_rfl)) (fun _ _ _ h => h) (Or.inl ⟨by rfl, ?_⟩) ?_ ?_
              rotate_left
              · intro w'
                go_simp
                with_reducible rfl
              rotate_left
              · simp only [Act.put, List.setIfInBounds_toArray, List.set_cons_zero, List.set_cons_succ]
                rfl
              refine take_ (i := 9) (N := some 24) (v := ?_) (a' := ?_) #[true, true, true, true, true, true, true, true, true, true, false, false, false, false, false, false, false, false, false, false] rfl rfl (take_ofW HT_.out HW_.out (by kernel_rfl)) (fun _ _ _ h => h) (Or.inl ⟨by rfl, ?_⟩) hHeld ?_ ?_
              rotate_left
              · rintro w' hS; obtain ⟨s0, s1, s2, s3⟩ := ECk.out w' hS
                go_simp
                with_reducible rfl
              rotate_left
              · simp only [Act.put, List.setIfInBounds_toArray, List.set_cons_zero, List.set_cons_succ]
                rfl
              refine pure_ (i := 10) (N := some 25) (v := ?_) (a' := ?_) #[true, true, true, true, true, true, true, true, true, true, true, false, false, false, false, false, false, false, false, false] rfl rfl (any_of HT_.out (by kernel_rfl)) (fun _ _ _ h => h) (Or.inl ⟨by rfl, ?_⟩) ?_ ?_
              rotate_left
              · intro w'
                go_simp
                with_reducible rfl
              rotate_left
              · simp only [Act.put, List.setIfInBounds_toArray, List.set_cons_zero, List.set_cons_succ]
                rfl
              refine take_ (i := 11) (N := some 26) (v := ?_) (a' := ?_) #[true, true, true, true, true, true, true, true, true, true, true, true, false, false, false, false, false, false, false, false] rfl rfl (take_ofW HT_.out HW_.out (by kernel_rfl)) (fun _ _ _ h => h) (Or.inl ⟨by rfl, ?_⟩) hHeld ?_ ?_
              rotate_left
              · rintro w' hS; obtain ⟨s0, s1, s2, s3⟩ := ECk.out w' hS
                go_simp
                with_reducible rfl
              rotate_left
              · simp only [Act.put, List.setIfInBounds_toArray, List.set_cons_zero, List.set_cons_succ]
                rfl
              refine pure_ (i := 12) (N := some 27) (v := ?_) (a' := ?_) #[true, true, true, true, true, true, true, true, true, true, true, true, true, false, false, false, false, false, false, false] rfl rfl (any_of HT_.out (by kernel_rfl)) (fun _ _ _ h => h) (Or.inl ⟨by rfl, ?_⟩) ?_ ?_
              rotate_left
              · intro w'
                go_simp
                with_reducible rfl
              rotate_left
              · simp only [Act.put, List.setIfInBounds_toArray, List.set_cons_zero, List.set_cons_succ]
                rfl
              refine pure_ (i := 13) (N := some 28) (v := ?_) (a' := ?_) #[true, true, true, true, true, true, true, true, true, true, true, true, true, true, false, false, false, false, false, false] rfl rfl (any_of HT_.out (by kernel_rfl)) (fun _ _ _ h => h) (Or.inl ⟨by rfl, ?_⟩) ?_ ?_
              rotate_left
              · intro w'
                go_simp
                with_reducible rfl
              rotate_left
              · simp only [Act.put, List.setIfInBounds_toArray, List.set_cons_zero, List.set_cons_succ]
                rfl
              refine pure_ (i := 14) (N := some 29) (v := ?_) (a' := ?_) #[true, true, true, true, true, true, true, true, true, true, true, true, true, true, true, false, false, false, false, false] rfl rfl (any_of HT_.out (by kernel_rfl)) (fun _ _ _ h => h) (Or.inl ⟨by rfl, ?_⟩) ?_ ?_
              rotate_left
              · intro w'
                go_simp
                with_reducible rfl
              rotate_left
              · simp only [Act.put, List.setIfInBounds_toArray, List.set_cons_zero, List.set_cons_succ]
                rfl
              refine pure_ (i := 15) (N := some 30) (v := ?_) (a' := ?_) #[true, true, true, true, true, true, true, true, true, true, true, true, true, true, true, true, false, false, false, false] rfl rfl (any_of HT_.out (by kernel_rfl)) (fun _ _ _ h => h) (Or.inl ⟨by rfl, ?_⟩) ?_ ?_
              rotate_left
              · intro w'
                go_simp
                with_reducible rfl
              rotate_left
              · simp only [Act.put, List.setIfInBounds_toArray, List.set_cons_zero, List.set_cons_succ]
                rfl
              refine take_ (i := 16) (N := some 31) (v := ?_) (a' := ?_) #[true, true, true, true, true, true, true, true, true, true, true, true, true, true, true, true, true, false, false, false] rfl rfl (take_ofW HT_.out HW_.out (by kernel_rfl)) (fun _ _ _ h => h) (Or.inl ⟨by rfl, ?_⟩) hHeld ?_ ?_
              rotate_left
              · rintro w' hS; obtain ⟨s0, s1, s2, s3⟩ := ECk.out w' hS
                go_simp
                with_reducible rfl
              rotate_left
              · simp only [Act.put, List.setIfInBounds_toArray, List.set_cons_zero, List.set_cons_succ]
                rfl
              refine pure_ (i := 17) (N := some 32) (v := ?_) (a' := ?_) #[true, true, true, true, true, true, true, true, true, true, true, true, true, true, true, true, true, true, false, false] rfl rfl (any_of HT_.out (by kernel_rfl)) (fun _ _ _ h => h) (Or.inl ⟨by rfl, ?_⟩) ?_ ?_
              rotate_left
              · intro w'
                go_simp
                with_reducible rfl
              rotate_left
              · simp only [Act.put, List.setIfInBounds_toArray, List.set_cons_zero, List.set_cons_succ]
                rfl
              refine pure_ (i := 18) (N := some 33) (v := ?_) (a' := ?_) #[true, true, true, true, true, true, true, true, true, true, true, true, true, true, true, true, true, true, true, false] rfl rfl (any_of HT_.out (by kernel_rfl)) (fun _ _ _ h => h) (Or.inl ⟨by rfl, ?_⟩) ?_ ?_
              rotate_left
              · intro w'
                go_simp
                with_reducible rfl
              rotate_left
              · simp only [Act.put, List.setIfInBounds_toArray, List.set_cons_zero, List.set_cons_succ]
                rfl
              refine pure_ (i := 19) (N := some 34) (v := ?_) (a' := ?_) #[true, true, true, true, true, true, true, true, true, true, true, true, true, true, true, true, true, true, true, true] rfl rfl (any_of HT_.out (by kernel_rfl)) (fun _ _ _ h => h) (Or.inl ⟨by rfl, ?_⟩) ?_ ?_
              rotate_left
              · intro w'
                go_simp
                with_reducible rfl
              rotate_left
              · simp only [Act.put, List.setIfInBounds_toArray, List.set_cons_zero, List.set_cons_succ]
                rfl
              refine done_ (done_of HT_.out (by kernel_rfl)) ?_
              clear HT_ HW_ hHeld
              go_wp2_with fail
              go_roundw
              case rel =>
                refine ⟨i + 1, i, by go_num, rfl, by omega, ?_, HE.out _ (pw_below_drewN (Below.refl _ _) 1)⟩
                rw [rootF_succ HX.out, ← HW.out.1, if_pos ⟨hp, .inr (by rw [rdNd HY.out]; exact hless)⟩]
              case measure => simp [intOf]; omega
            · have f32 : decide (x.f0.f7 < y.f0.f7) = false := decide_eq_false hless
              refine start_ (n := 20) (S := (fun w' => Below wa.heap.size wa w')) (ds := []) #[false, false, false, false, false, false, false, false, false, false, false, false, false, false, false, false, false, false, false, false] (by kernel_rfl) (by rfl) (by rfl) (pw_below_drewN (Below.refl _ _) 1) (fun hHeld => ?_); refine with_tabW tab24_5 bits24_5 (fun HT_ HW_ => ?_)
              refine pure_ (i := 0) (N := some 15) (v := ?_) (a' := ?_) #[true, false, false, false, false, false, false, false, false, false, false, false, false, false, false, false, false, false, false, false] rfl rfl (any_of HT_.out (by kernel_rfl)) (fun _ _ _ h => h) (Or.inl ⟨by rfl, ?_⟩) ?_ ?_
              rotate_left
              · intro w'
                go_simp
                with_reducible rfl
              rotate_left
              · simp only [Act.put, List.setIfInBounds_toArray, List.set_cons_zero, List.set_cons_succ]
                rfl
              refine take_ (i := 1) (N := some 16) (v := ?_) (a' := ?_) #[true, true, false, false, false, false, false, false, false, false, false, false, false, false, false, false, false, false, false, false] rfl rfl (take_ofW HT_.out HW_.out (by kernel_rfl)) (fun _ _ _ h => h) (Or.inl ⟨by rfl, ?_⟩) hHeld ?_ ?_
              rotate_left
              · rintro w' hS; obtain ⟨s0, s1, s2, s3⟩ := ECk.out w' hS
                go_simp
                with_reducible rfl
              rotate_left
              · simp only [Act.put, List.setIfInBounds_toArray, List.set_cons_zero, List.set_cons_succ]
                rfl
              refine pure_ (i := 2) (N := some 17) (v := ?_) (a' := ?_) #[true, true, true, false, false, false, false, false, false, false, false, false, false, false, false, false, false, false, false, false] rfl rfl (any_of HT_.out (by kernel_rfl)) (fun _ _ _ h => h) (Or.inl ⟨by rfl, ?_⟩) ?_ ?_
              rotate_left
              · intro w'
                go_simp
                with_reducible rfl
              rotate_left
              · simp only [Act.put, List.setIfInBounds_toArray, List.set_cons_zero, List.set_cons_succ]
                rfl
              refine pure_ (i := 3) (N := some 18) (v := ?_) (a' := ?_) #[true, true, true, true, false, false, false, false, false, false, false, false, false, false, false, false, false, false, false, false] rfl rfl (any_of HT_.out (by kernel_rfl)) (fun _ _ _ h => h) (Or.inl ⟨by rfl, ?_⟩) ?_ ?_
              rotate_left
              · intro w'
                go_simp
                with_reducible rfl
              rotate_left
              · simp only [Act.put, List.setIfInBounds_toArray, List.set_cons_zero, List.set_cons_succ]
                rfl
              refine pure_ (i := 4) (N := some 19) (v := ?_) (a' := ?_) #[true, true, true, true, true, false, false, false, false, false, false, false, false, false, false, false, false, false, false, false] rfl rfl (any_of HT_.out (by kernel_rfl)) (fun _ _ _ h => h) (Or.inl ⟨by rfl, ?_⟩) ?_ ?_
              rotate_left
              · intro w'
                go_simp
                with_reducible rfl
              rotate_left
              · simp only [Act.put, List.setIfInBounds_toArray, List.set_cons_zero, List.set_cons_succ]
                rfl
              refine pure_ (i := 5) (N := some 20) (v := ?_) (a' := ?_) #[true, true, true, true, true, true, false, false, false, false, false, false, false, false, false, false, false, false, false, false] rfl rfl (any_of HT_.out (by kernel_rfl)) (fun _ _ _ h => h) (Or.inl ⟨by rfl, ?_⟩) ?_ ?_
              rotate_left
              · intro w'
                go_simp
                with_reducible rfl
              rotate_left
              · simp only [Act.put, List.setIfInBounds_toArray, List.set_cons_zero, List.set_cons_succ]
                rfl
              refine pure_ (i := 6) (N := some 21) (v := ?_) (a' := ?_) #[true, true, true, true, true, true, true, false, false, false, false, false, false, false, false, false, false, false, false, false] rfl rfl (any_of HT_.out (by kernel_rfl)) (fun _ _ _ h => h) (Or.inl ⟨by rfl, ?_⟩) ?_ ?_
              rotate_left
              · intro w'
                go_simp
                with_reducible rfl
              rotate_left
              · simp only [Act.put, List.setIfInBounds_toArray, List.set_cons_zero, List.set_cons_succ]
                rfl
              refine pure_ (i := 7) (N := some 22) (v := ?_) (a' := ?_) #[true, true, true, true, true, true, true, true, false, false, false, false, false, false, false, false, false, false, false, false] rfl rfl (any_of HT_.out (by kernel_rfl)) (fun _ _ _ h => h) (Or.inl ⟨by rfl, ?_⟩) ?_ ?_
              rotate_left
              · intro w'
                go_simp
                with_reducible rfl
              rotate_left
              · simp only [Act.put, List.setIfInBounds_toArray, List.set_cons_zero, List.set_cons_succ]
                rfl
              refine pure_ (i := 8) (N := some 23) (v := ?_) (a' := ?_) #[true, true, true, true, true, true, true, true, true, false, false, false, false, false, false, false, false, false, false, false] rfl rfl (any_of HT_.out (by kernel_rfl)) (fun _ _ _ h => h) (Or.inl ⟨by rfl, ?_⟩) ?_ ?_
              rotate_left
              · intro w'
                go_simp
                with_reducible rfl
              rotate_left
              · simp only [Act.put, List.setIfInBounds_toArray, List.set_cons_zero, List.set_cons_succ]
                rfl
              refine take_ (i := 9) (N := some 24) (v := ?_) (a' := ?_) #[true, true, true, true, true, true, true, true, true, true, false, false, false, false, false, false, false, false, false, false] rfl rfl (take_ofW HT_.out HW_.out (by kernel_rfl)) (fun _ _ _ h => h) (Or.inl ⟨by rfl, ?_⟩) hHeld ?_ ?_
              rotate_left
              · rintro w' hS; obtain ⟨s0, s1, s2, s3⟩ := ECk.out w' hS
                go_simp
                with_reducible rfl
              rotate_left
              · simp only [Act.put, List.setIfInBounds_toArray, List.set_cons_zero, List.set_cons_succ]
                rfl
              refine pure_ (i := 10) (N := some 25) (v := ?_) (a' := ?_) #[true, true, true, true, true, true, true, true, true, true, true, false, false, false, false, false, false, false, false, false] rfl rfl (any_of HT_.out (by kernel_rfl)) (fun _ _ _ h => h) (Or.inl ⟨by rfl, ?_⟩) ?_ ?_
              rotate_left
              · intro w'
                go_simp
                with_reducible rfl
              rotate_left
              · simp only [Act.put, List.setIfInBounds_toArray, List.set_cons_zero, List.set_cons_succ]
                rfl
              refine take_ (i := 11) (N := some 26) (v := ?_) (a' := ?_) #[true, true, true, true, true, true, true, true, true, true, true, true, false, false, false, false, false, false, false, false] rfl rfl (take_ofW HT_.out HW_.out (by kernel_rfl)) (fun _ _ _ h => h) (Or.inl ⟨by rfl, ?_⟩) hHeld ?_ ?_
              rotate_left
              · rintro w' hS; obtain ⟨s0, s1, s2, s3⟩ := ECk.out w' hS
                go_simp
                with_reducible rfl
              rotate_left
              · simp only [Act.put, List.setIfInBounds_toArray, List.set_cons_zero, List.set_cons_succ]
                rfl
              refine pure_ (i := 12) (N := some 27) (v := ?_) (a' := ?_) #[true, true, true, true, true, true, true, true, true, true, true, true, true, false, false, false, false, false, false, false] rfl rfl (any_of HT_.out (by kernel_rfl)) (fun _ _ _ h => h) (Or.inl ⟨by rfl, ?_⟩) ?_ ?_
              rotate_left
              · intro w'
                go_simp
                with_reducible rfl
              rotate_left
              · simp only [Act.put, List.setIfInBounds_toArray, List.set_cons_zero, List.set_cons_succ]
                rfl
              refine pure_ (i := 13) (N := some 28) (v := ?_) (a' := ?_) #[true, true, true, true, true, true, true, true, true, true, true, true, true, true, false, false, false, false, false, false] rfl rfl (any_of HT_.out (by kernel_rfl)) (fun _ _ _ h => h) (Or.inl ⟨by rfl, ?_⟩) ?_ ?_
              rotate_left
              · intro w'
                go_simp
                with_reducible rfl
              rotate_left
              · simp only [Act.put, List.setIfInBounds_toArray, List.set_cons_zero, List.set_cons_succ]
                rfl
              refine pure_ (i := 14) (N := some 29) (v := ?_) (a' := ?_) #[true, true, true, true, true, true, true, true, true, true, true, true, true, true, true, false, false, false, false, false] rfl rfl (any_of HT_.out (by kernel_rfl)) (fun _ _ _ h => h) (Or.inl ⟨by rfl, ?_⟩) ?_ ?_
              rotate_left
              · intro w'
                go_simp
                with_reducible rfl
              rotate_left
              · simp only [Act.put, List.setIfInBounds_toArray, List.set_cons_zero, List.set_cons_succ]
                rfl
              refine pure_ (i := 15) (N := some 30) (v := ?_) (a' := ?_) #[true, true, true, true, true, true, true, true, true, true, true, true, true, true, true, true, false, false, false, false] rfl rfl (any_of HT_.out (by kernel_rfl)) (fun _ _ _ h => h) (Or.inl ⟨by rfl, ?_⟩) ?_ ?_
              rotate_left
              · intro w'
                go_simp
                with_reducible rfl
              rotate_left
              · simp only [Act.put, List.setIfInBounds_toArray, List.set_cons_zero, List.set_cons_succ]
                rfl
              refine take_ (i := 16) (N := some 31) (v := ?_) (a' := ?_) #[true, true, true, true, true, true, true, true, true, true, true, true, true, true, true, true, true, false, false, false] rfl rfl (take_ofW HT_.out HW_.out (by kernel_rfl)) (fun _ _ _ h => h) (Or.inl ⟨by rfl, ?_⟩) hHeld ?_ ?_
              rotate_left
              · rintro w' hS; obtain ⟨s0, s1, s2, s3⟩ := ECk.out w' hS
                go_simp
                with_reducible rfl
              rotate_left
              · simp only [Act.put, List.setIfInBounds_toArray, List.set_cons_zero, List.set_cons_succ]
                rfl
              refine pure_ (i := 17) (N := some 32) (v := ?_) (a' := ?_) #[true, true, true, true, true, true, true, true, true, true, true, true, true, true, true, true, true, true, false, false] rfl rfl (any_of HT_.out (by kernel_rfl)) (fun _ _ _ h => h) (Or.inl ⟨by rfl, ?_⟩) ?_ ?_
              rotate_left
              · intro w'
                go_simp
                with_reducible rfl
              rotate_left
              · simp only [Act.put, List.setIfInBounds_toArray, List.set_cons_zero, List.set_cons_succ]
                rfl
              refine pure_ (i := 18) (N := some 33) (v := ?_) (a' := ?_) #[true, true, true, true, true, true, true, true, true, true, true, true, true, true, true, true, true, true, true, false] rfl rfl (any_of HT_.out (by kernel_rfl)) (fun _ _ _ h => h) (Or.inl ⟨by rfl, ?_⟩) ?_ ?_
              rotate_left
              · intro w'
                go_simp
                with_reducible rfl
              rotate_left
              · simp only [Act.put, List.setIfInBounds_toArray, List.set_cons_zero, List.set_cons_succ]
                rfl
              refine pure_ (i := 19) (N := some 34) (v := ?_) (a' := ?_) #[true, true, true, true, true, true, true, true, true, true, true, true, true, true, true, true, true, true, true, true] rfl rfl (any_of HT_.out (by kernel_rfl)) (fun _ _ _ h => h) (Or.inl ⟨by rfl, ?_⟩) ?_ ?_
              rotate_left
              · intro w'
                go_simp
                with_reducible rfl
              rotate_left
              · simp only [Act.put, List.setIfInBounds_toArray, List.set_cons_zero, List.set_cons_succ]
                rfl
              refine done_ (done_of HT_.out (by kernel_rfl)) ?_
              clear HT_ HW_ hHeld
              go_wp2_with fail
              go_roundw
              case rel =>
                refine ⟨i + 1, k, by go_num, rfl, by omega, ?_, HE.out _ (pw_below_drewN (Below.refl _ _) 1)⟩
                rw [rootF_succ HX.out, ← HW.out.1, if_neg (fun h => by
                  rcases h.2 with h | h
                  · exact hb1 h
                  · rw [rdNd HY.out] at h; exact hless h)]
              case measure => simp [intOf]; omega
      · have f17 : (x.f1 == -1) = false := by simpa using hp
        refine start_ (n := 20) (S := (fun w' => Below wa.heap.size wa w')) (ds := []) #[false, false, false, false, false, false, false, false, false, false, false, false, false, false, false, false, false, false, false, false] (by kernel_rfl) (by rfl) (by rfl) (pw_below_drewN (Below.refl _ _) 1) (fun hHeld => ?_); refine with_tabW tab24_5 bits24_5 (fun HT_ HW_ => ?_)
        refine pure_ (i := 0) (N := some 15) (v := ?_) (a' := ?_) #[true, false, false, false, false, false, false, false, false, false, false, false, false, false, false, false, false, false, false, false] rfl rfl (any_of HT_.out (by kernel_rfl)) (fun _ _ _ h => h) (Or.inl ⟨by rfl, ?_⟩) ?_ ?_
        rotate_left
        · intro w'
          go_simp
          with_reducible rfl
        rotate_left
        · simp only [Act.put, List.setIfInBounds_toArray, List.set_cons_zero, List.set_cons_succ]
          rfl
        refine take_ (i := 1) (N := some 16) (v := ?_) (a' := ?_) #[true, true, false, false, false, false, false, false, false, false, false, false, false, false, false, false, false, false, false, false] rfl rfl (take_ofW HT_.out HW_.out (by kernel_rfl)) (fun _ _ _ h => h) (Or.inl ⟨by rfl, ?_⟩) hHeld ?_ ?_
        rotate_left
        · rintro w' hS; obtain ⟨s0, s1, s2⟩ := EC.out w' hS
          go_simp
          with_reducible rfl
        rotate_left
        · simp only [Act.put, List.setIfInBounds_toArray, List.set_cons_zero, List.set_cons_succ]
          rfl
        refine pure_ (i := 2) (N := some 17) (v := ?_) (a' := ?_) #[true, true, true, false, false, false, false, false, false, false, false, false, false, false, false, false, false, false, false, false] rfl rfl (any_of HT_.out (by kernel_rfl)) (fun _ _ _ h => h) (Or.inl ⟨by rfl, ?_⟩) ?_ ?_
        rotate_left
        · intro w'
          go_simp
          with_reducible rfl
        rotate_left
        · simp only [Act.put, List.setIfInBounds_toArray, List.set_cons_zero, List.set_cons_succ]
          rfl
        refine pure_ (i := 3) (N := some 18) (v := ?_) (a' := ?_) #[true, true, true, true, false, false, false, false, false, false, false, false, false, false, false, false, false, false, false, false] rfl rfl (any_of HT_.out (by kernel_rfl)) (fun _ _ _ h => h) (Or.inl ⟨by rfl, ?_⟩) ?_ ?_
        rotate_left
        · intro w'
          go_simp
          with_reducible rfl
        rotate_left
        · simp only [Act.put, List.setIfInBounds_toArray, List.set_cons_zero, List.set_cons_succ]
          rfl
        refine pure_ (i := 4) (N := some 19) (v := undef) (a' := ?_) #[true, true, true, true, true, false, false, false, false, false, false, false, false, false, false, false, false, false, false, false] rfl rfl (any_of HT_.out (by kernel_rfl)) (fun _ _ _ h => h) (Or.inr ⟨by rfl, rfl⟩) ?_ ?_
        rotate_left
        · simp only [Act.put, List.setIfInBounds_toArray, List.set_cons_zero, List.set_cons_succ]
          rfl
        refine pure_ (i := 5) (N := some 20) (v := undef) (a' := ?_) #[true, true, true, true, true, true, false, false, false, false, false, false, false, false, false, false, false, false, false, false] rfl rfl (any_of HT_.out (by kernel_rfl)) (fun _ _ _ h => h) (Or.inr ⟨by rfl, rfl⟩) ?_ ?_
        rotate_left
        · simp only [Act.put, List.setIfInBounds_toArray, List.set_cons_zero, List.set_cons_succ]
          rfl
        refine pure_ (i := 6) (N := some 21) (v := undef) (a' := ?_) #[true, true, true, true, true, true, true, false, false, false, false, false, false, false, false, false, false, false, false, false] rfl rfl (any_of HT_.out (by kernel_rfl)) (fun _ _ _ h => h) (Or.inr ⟨by rfl, rfl⟩) ?_ ?_
        rotate_left
        · simp only [Act.put, List.setIfInBounds_toArray, List.set_cons_zero, List.set_cons_succ]
          rfl
        refine pure_ (i := 7) (N := some 22) (v := undef) (a' := ?_) #[true, true, true, true, true, true, true, true, false, false, false, false, false, false, false, false, false, false, false, false] rfl rfl (any_of HT_.out (by kernel_rfl)) (fun _ _ _ h => h) (Or.inr ⟨by rfl, rfl⟩) ?_ ?_
        rotate_left
        · simp only [Act.put, List.setIfInBounds_toArray, List.set_cons_zero, List.set_cons_succ]
          rfl
        refine pure_ (i := 8) (N := some 23) (v := undef) (a' := ?_) #[true, true, true, true, true, true, true, true, true, false, false, false, false, false, false, false, false, false, false, false] rfl rfl (any_of HT_.out (by kernel_rfl)) (fun _ _ _ h => h) (Or.inr ⟨by rfl, rfl⟩) ?_ ?_
        rotate_left
        · simp only [Act.put, List.setIfInBounds_toArray, List.set_cons_zero, List.set_cons_succ]
          rfl
        refine pure_ (i := 9) (N := some 24) (v := undef) (a' := ?_) #[true, true, true, true, true, true, true, true, true, true, false, false, false, false, false, false, false, false, false, false] rfl rfl (any_of HT_.out (by kernel_rfl)) (fun _ _ _ h => h) (Or.inr ⟨by rfl, rfl⟩) ?_ ?_
        rotate_left
        · simp only [Act.put, List.setIfInBounds_toArray, List.set_cons_zero, List.set_cons_succ]
          rfl
        refine pure_ (i := 10) (N := some 25) (v := undef) (a' := ?_) #[true, true, true, true, true, true, true, true, true, true, true, false, false, false, false, false, false, false, false, false] rfl rfl (any_of HT_.out (by kernel_rfl)) (fun _ _ _ h => h) (Or.inr ⟨by rfl, rfl⟩) ?_ ?_
        rotate_left
        · simp only [Act.put, List.setIfInBounds_toArray, List.set_cons_zero, List.set_cons_succ]
          rfl
        refine pure_ (i := 11) (N := some 26) (v := undef) (a' := ?_) #[true, true, true, true, true, true, true, true, true, true, true, true, false, false, false, false, false, false, false, false] rfl rfl (any_of HT_.out (by kernel_rfl)) (fun _ _ _ h => h) (Or.inr ⟨by rfl, rfl⟩) ?_ ?_
        rotate_left
        · simp only [Act.put, List.setIfInBounds_toArray, List.set_cons_zero, List.set_cons_succ]
          rfl
        refine pure_ (i := 12) (N := some 27) (v := undef) (a' := ?_) #[true, true, true, true, true, true, true, true, true, true, true, true, true, false, false, false, false, false, false, false] rfl rfl (any_of HT_.out (by kernel_rfl)) (fun _ _ _ h => h) (Or.inr ⟨by rfl, rfl⟩) ?_ ?_
        rotate_left
        · simp only [Act.put, List.setIfInBounds_toArray, List.set_cons_zero, List.set_cons_succ]
          rfl
        refine pure_ (i := 13) (N := some 28) (v := undef) (a' := ?_) #[true, true, true, true, true, true, true, true, true, true, true, true, true, true, false, false, false, false, false, false] rfl rfl (any_of HT_.out (by kernel_rfl)) (fun _ _ _ h => h) (Or.inr ⟨by rfl, rfl⟩) ?_ ?_
        rotate_left
        · simp only [Act.put, List.setIfInBounds_toArray, List.set_cons_zero, List.set_cons_succ]
          rfl
        refine pure_ (i := 14) (N := some 29) (v := undef) (a' := ?_) #[true, true, true, true, true, true, true, true, true, true, true, true, true, true, true, false, false, false, false, false] rfl rfl (any_of HT_.out (by kernel_rfl)) (fun _ _ _ h => h) (Or.inr ⟨by rfl, rfl⟩) ?_ ?_
        rotate_left
        · simp only [Act.put, List.setIfInBounds_toArray, List.set_cons_zero, List.set_cons_succ]
          rfl
        refine pure_ (i := 15) (N := some 30) (v := undef) (a' := ?_) #[true, true, true, true, true, true, true, true, true, true, true, true, true, true, true, true, false, false, false, false] rfl rfl (any_of HT_.out (by kernel_rfl)) (fun _ _ _ h => h) (Or.inr ⟨by rfl, rfl⟩) ?_ ?_
        rotate_left
        · simp only [Act.put, List.setIfInBounds_toArray, List.set_cons_zero, List.set_cons_succ]
          rfl
        refine pure_ (i := 16) (N := some 31) (v := undef) (a' := ?_) #[true, true, true, true, true, true, true, true, true, true, true, true, true, true, true, true, true, false, false, false] rfl rfl (any_of HT_.out (by kernel_rfl)) (fun _ _ _ h => h) (Or.inr ⟨by rfl, rfl⟩) ?_ ?_
        rotate_left
        · simp only [Act.put, List.setIfInBounds_toArray, List.set_cons_zero, List.set_cons_succ]
          rfl
        refine pure_ (i := 17) (N := some 32) (v := undef) (a' := ?_) #[true, true, true, true, true, true, true, true, true, true, true, true, true, true, true, true, true, true, false, false] rfl rfl (any_of HT_.out (by kernel_rfl)) (fun _ _ _ h => h) (Or.inr ⟨by rfl, rfl⟩) ?_ ?_
        rotate_left
        · simp only [Act.put, List.setIfInBounds_toArray, List.set_cons_zero, List.set_cons_succ]
          rfl
        refine pure_ (i := 18) (N := some 33) (v := undef) (a' := ?_) #[true, true, true, true, true, true, true, true, true, true, true, true, true, true, true, true, true, true, true, false] rfl rfl (any_of HT_.out (by kernel_rfl)) (fun _ _ _ h => h) (Or.inr ⟨by rfl, rfl⟩) ?_ ?_
        rotate_left
        · simp only [Act.put, List.setIfInBounds_toArray, List.set_cons_zero, List.set_cons_succ]
          rfl
        refine pure_ (i := 19) (N := some 34) (v := ?_) (a' := ?_) #[true, true, true, true, true, true, true, true, true, true, true, true, true, true, true, true, true, true, true, true] rfl rfl (any_of HT_.out (by kernel_rfl)) (fun _ _ _ h => h) (Or.inl ⟨by rfl, ?_⟩) ?_ ?_
        rotate_left
        · intro w'
          go_simp
          with_reducible rfl
        rotate_left
        · simp only [Act.put, List.setIfInBounds_toArray, List.set_cons_zero, List.set_cons_succ]
          rfl
        refine done_ (done_of HT_.out (by kernel_rfl)) ?_
        clear HT_ HW_ hHeld
        go_wp2_with fail
        go_roundw
        case rel =>
          refine ⟨i + 1, b, by go_num, rfl, by omega, ?_, HE.out _ (pw_below_drewN (Below.refl _ _) 1)⟩
          rw [rootF_succ HX.out, if_neg (fun h => hp h.1)]; exact HW.out.1
        case measure => simp [intOf]; omega
    · obtain rfl : i = n := by omega
      rcases rootF_range N i (by rw [HN.out]; omega) with ⟨e, _⟩ | ⟨k, e, hk, y, hy, _⟩
      · have hbk := HW.out.1.trans e
        subst hbk
        have h2 := HW.out.2
        clear HW
        go_wp2_with fail
        go_ret2
        exact ⟨rfl, H1.out.1.trans (h2.mono H1.out.1.size)⟩
      · have hbk := HW.out.1.trans e
        subst hbk
        have h2 := HW.out.2
        clear HW
        have fm : ((k : Int) != -1) = true := by rw [bne_iff_ne]; omega
        go_wp2_with fail
        all_goals go_ret2
        all_goals first
          | exact ⟨rfl, H1.out.1.trans (h2.mono H1.out.1.size)⟩
          | (have hk0 : (k : Int) = 0 := by omega
             rw [hk0]
             exact ⟨rfl, H1.out.1.trans (h2.mono H1.out.1.size)⟩)
end Go.Proofs.Ytamcchdblglfoaa.Ft
set_option linter.unusedVariables false
set_option linter.unusedSimpArgs false
namespace Go.Proofs.Ytamcchdblglfoaa.Ft
open Go.RowKit Go.Proofs.Ytamcchdblglfoaa.B0 Go.Proofs.Ytamcchdblglfoaa.Pf Go.Proofs.YtamcchdblglfoaaW.PrintWords
/-! one list of spans, one tree -/
def nrmP (p : PS) : PS := ⟨p.s, none, 0⟩
def nrm (x : PN) : PN := ⟨nrmP x.p, x.par, x.dep, x.orp⟩
def XN (Y : List Sp) : List PS := Y.map fun s => ⟨s, none, 0⟩
theorem XN_of (X : List PS) : XN (X.map fun p => p.s) = X.map nrmP := by simp [XN, nrmP]
theorem raws_nrm (X : List PS) : raws (X.map nrmP) = (raws X).map nrm := by
  unfold raws
  rw [List.map_map, List.map_map, List.map_map]
  rfl
theorem pars_nrm (ns : List PN) : pars (ns.map nrm) = pars ns := by unfold pars; rw [List.map_map]; rfl
theorem CutN.nrm {ns ns1 : List PN} (h : CutN ns ns1) : CutN (ns.map nrm) (ns1.map nrm) := by
  refine ⟨by simp [h.1], fun i x hx => ?_⟩
  rw [List.getElem?_map, Option.map_eq_some_iff] at hx
  obtain ⟨y, hy, rfl⟩ := hx
  rw [pars_nrm]
  rcases h.2 i y hy with e | ⟨e, hm⟩
  · exact .inl (by rw [List.getElem?_map, e]; rfl)
  · exact .inr ⟨by rw [List.getElem?_map, e]; rfl, hm⟩
theorem Fin.nrm {ns1 : List PN} {keep : Bool} {most : Int} {j : Nat} {y : PN} {g : Bool} (h : Fin ns1 keep most j y g) : Fin (ns1.map Ft.nrm) keep most j (Ft.nrm y) g := by
  induction h with
  | @root j x h1 h2 => exact Fin.root (x := Ft.nrm x) (by rw [List.getElem?_map, h1]; rfl) h2
  | @cutd j q x y g h1 h2 _ h4 ih => exact Fin.cutd (x := Ft.nrm x) (y := Ft.nrm y) (by rw [List.getElem?_map, h1]; rfl) h2 ih h4
  | @up j q x y g h1 h2 _ h4 ih => exact Fin.up (x := Ft.nrm x) (y := Ft.nrm y) (by rw [List.getElem?_map, h1]; rfl) h2 ih h4
theorem nodesM_nrm (G : List Bool) : ∀ (ns : List PN) (gs : List Bool), nodesM G (ns.map nrm) gs = nodesM G ns gs
  | [], _ => by simp [nodesM]
  | y :: ns, [] => by simp [nodesM]
  | y :: ns, h :: gs => by
    have ih := nodesM_nrm G ns gs
    simp only [List.map_cons, nodesM, ih]; rfl
theorem dropM_nrm : ∀ (ns : List PN) (gs : List Bool), dropM (ns.map nrm) gs = dropM ns gs
  | [], _ => by simp [dropM]
  | y :: ns, [] => by simp [dropM]
  | y :: ns, h :: gs => by
    have ih := dropM_nrm ns gs
    simp only [List.map_cons, dropM, ih]; rfl
theorem TreeX.norm {X : List PS} {keep : Bool} {most : Int} {N : List Nd} {D : List Sp} (h : TreeX X keep most N D) : TreeX (XN (X.map fun p => p.s)) keep most N D := by
  obtain ⟨ns1, ns, gs, h1, h2, h3, h4, h5, h6, h7⟩ := h
  rw [XN_of]
  refine ⟨ns1.map nrm, ns.map nrm, gs, by rw [raws_nrm]; exact h1.nrm, by rw [pars_nrm]; exact h2, by simpa using h3, by simpa using h4, fun j hj => ?_, by rw [nodesM_nrm]; exact h6, by rw [dropM_nrm]; exact h7⟩
  obtain ⟨y, g, a, b, c⟩ := h5 j (by simpa using hj)
  exact ⟨nrm y, g, by rw [List.getElem?_map, a]; rfl, b, c.nrm⟩
theorem cmpSp_anti {a b : Sp} (h : cmpSp a b ≤ 0) (k : cmpSp b a ≤ 0) : a = b := by
  have h1 : cmpSp b a = - cmpSp a b := by rw [codeSp.cmp, codeSp.cmp]; exact lexC_neg _ _
  exact cmpSp_zero (by omega)
theorem sorted_one {l : List Sp} {X X' : List PS} (hp : (X.map fun p => p.s).Perm l) (hp' : (X'.map fun p => p.s).Perm l) (hs : X.Pairwise (fun a b => cmpSp a.s b.s ≤ 0)) (hs' : X'.Pairwise (fun a b => cmpSp a.s b.s ≤ 0)) : (X.map fun p => p.s) = X'.map fun p => p.s :=
  List.Perm.eq_of_pairwise (le := fun a b => cmpSp a b ≤ 0) (fun a b _ _ h k => cmpSp_anti h k) (List.pairwise_map.2 hs) (List.pairwise_map.2 hs') (hp.trans hp'.symm)
theorem ns1_one {ns ns1 ns1' : List PN} (h : CutN ns ns1) (h' : CutN ns ns1') (e : ∀ x : Int, Ends (pars ns1) x) (e' : ∀ x : Int, Ends (pars ns1') x) : ns1 = ns1' := by
  have hp := h.cut.unique h'.cut e e'
  have no : ∀ (i : Nat) (x : PN), ns[i]? = some x → RMin (pars ns) (i : Int) → x.par = -1 → False := fun i x hx hm hpx => by
    have h1 := hm.1.inv
    rw [nx_pars hx, hpx] at h1
    rcases h1.2 with h2 | h2
    · omega
    · have := h2.pos; omega
  have par : ∀ (i : Nat) (y y' : PN), ns1[i]? = some y → ns1'[i]? = some y' → y.par = y'.par := fun i y y' hy hy' => by
    have a := nx_pars hy
    rw [hp, nx_pars hy'] at a; exact a.symm
  refine List.ext_getElem? fun i => ?_
  by_cases hi : i < ns.length
  · have hx := List.getElem?_eq_getElem hi
    rcases h.2 i _ hx with a | ⟨a, am⟩ <;> rcases h'.2 i _ hx with b | ⟨b, bm⟩
    · rw [a, b]
    · exact (no i _ hx bm ((par i _ _ a b).trans rfl)).elim
    · exact (no i _ hx am ((par i _ _ a b).symm.trans rfl)).elim
    · rw [a, b]
  · rw [List.getElem?_eq_none (by rw [h.1]; omega), List.getElem?_eq_none (by rw [h'.1]; omega)]
/-! nodes that are done -/
section
variable {ns1 : List PN} {keep keep' : Bool} {m m' : Int} {j : Nat} {y : PN} {g : Bool}
theorem Fin.other (h : Fin ns1 keep m j y g) : ∃ g', Fin ns1 keep' m j y g' := by
  induction h with
  | root h1 h2 => exact ⟨_, .root h1 h2⟩
  | cutd h1 h2 _ h4 ih => obtain ⟨g', h'⟩ := ih; exact ⟨_, .cutd h1 h2 h' h4⟩
  | up h1 h2 _ h4 ih => obtain ⟨g', h'⟩ := ih; exact ⟨_, .up h1 h2 h' h4⟩
theorem Fin.kept (h : Fin ns1 true m j y g) : g = false := by
  induction h with
  | root h1 h2 => rfl
  | cutd h1 h2 _ h4 ih => rfl
  | up h1 h2 _ h4 ih => rw [ih]; rfl
theorem Fin.orph (h : Fin ns1 false m j y g) (ho : y.orp = true) : g = true := by
  cases h with
  | root h1 h2 => simpa using ho
  | cutd h1 h2 _ h4 => rfl
  | up h1 h2 _ h4 => have ho : _ = true := ho; simp at ho; simp [ho]
theorem Fin.why (h : Fin ns1 false m j y g) : g = true → ∃ j' y' g', Fin ns1 false m j' y' g' ∧ y'.orp = true := by
  induction h with
  | @root j x h1 h2 => intro e; exact ⟨_, _, _, Fin.root h1 h2, by simpa using e⟩
  | @cutd j q x y g h1 h2 h3 h4 ih => intro _; exact ⟨_, _, _, Fin.cutd h1 h2 h3 h4, rfl⟩
  | @up j q x y g h1 h2 h3 h4 ih =>
    intro e
    by_cases hx : x.orp = true
    · exact ⟨_, _, _, Fin.up h1 h2 h3 h4, hx⟩
    · exact ih (by simpa [hx] using e)
theorem Fin.more (h : Fin ns1 false m j y g) : g = false → m ≤ m' → Fin ns1 false m' j y false := by
  induction h with
  | @root j x h1 h2 =>
    intro e _
    have := Fin.root (keep := false) (most := m') h1 h2
    rw [e] at this; exact this
  | @cutd j q x y g h1 h2 h3 h4 ih => intro e; cases e
  | @up j q x y g h1 h2 h3 h4 ih =>
    intro e hm
    have hx : x.orp = false := by cases hq : x.orp <;> simp [hq] at e ⊢
    have hg : g = false := by cases g <;> simp at e ⊢
    have := Fin.up (keep := false) (most := m') h1 h2 (ih hg hm) (by omega)
    rw [hx] at this ⊢; exact this
theorem Fin.root_of (h : Fin ns1 keep m j y g) : ∃ j' y' g', Fin ns1 keep m j' y' g' ∧ y'.par = -1 := by
  induction h with
  | @root j x h1 h2 => exact ⟨_, _, _, Fin.root h1 h2, rfl⟩
  | @cutd j q x y g h1 h2 h3 h4 ih => exact ⟨_, _, _, Fin.cutd h1 h2 h3 h4, rfl⟩
  | @up j q x y g h1 h2 h3 h4 ih => exact ih
theorem Fin.lt (h : Fin ns1 keep m j y g) : j < ns1.length := by
  cases h with
  | root h1 _ => exact (List.getElem?_eq_some_iff.1 h1).1
  | cutd h1 _ _ _ => exact (List.getElem?_eq_some_iff.1 h1).1
  | up h1 _ _ _ => exact (List.getElem?_eq_some_iff.1 h1).1
end
/-! counts -/
theorem dropM_cnt : ∀ (ns : List PN) (gs : List Bool), ns.length = gs.length → (dropM ns gs).length = gs.countP id
  | [], [], _ => rfl
  | [], g :: gs, e => by simp at e
  | y :: ns, [], e => by simp at e
  | y :: ns, h :: gs, e => by
    have ih := dropM_cnt ns gs (by simpa using e)
    cases h <;> simp [dropM, ih]
theorem nodesM_all (G : List Bool) : ∀ (ns : List PN) (gs : List Bool), ns.length = gs.length → (∀ g ∈ gs, g = false) → nodesM G ns gs = ns.map (outN G)
  | [], [], _, _ => rfl
  | [], g :: gs, e, _ => by simp at e
  | y :: ns, [], e, _ => by simp at e
  | y :: ns, h :: gs, e, ha => by
    have ih := nodesM_all G ns gs (by simpa using e) (fun g hg => ha g (by simp [hg]))
    have := ha h (by simp)
    subst this
    simp [nodesM, ih]
theorem nodesM_mem (G : List Bool) : ∀ (ns : List PN) (gs : List Bool) (x : Nd), x ∈ nodesM G ns gs → ∃ (j : Nat) (y : PN), ns[j]? = some y ∧ gs[j]? = some false ∧ x = outN G y
  | [], _, x, h => by simp [nodesM] at h
  | y :: ns, [], x, h => by simp [nodesM] at h
  | y :: ns, true :: gs, x, h => by
    obtain ⟨j, z, h1, h2, h3⟩ := nodesM_mem G ns gs x (by simpa [nodesM] using h)
    exact ⟨j + 1, z, h1, h2, h3⟩
  | y :: ns, false :: gs, x, h => by
    simp only [nodesM, Bool.false_eq_true, if_false, List.mem_cons] at h
    rcases h with h | h
    · exact ⟨0, y, rfl, rfl, h⟩
    · obtain ⟨j, z, h1, h2, h3⟩ := nodesM_mem G ns gs x h
      exact ⟨j + 1, z, h1, h2, h3⟩
theorem cnt_le {α β : Type} {p : α → Bool} {q : β → Bool} : ∀ (xs : List α) (ys : List β), xs.length = ys.length → (∀ (j : Nat) (x : α) (y : β), xs[j]? = some x → ys[j]? = some y → p x = true → q y = true) → xs.countP p ≤ ys.countP q
  | [], [], _, _ => by simp
  | [], y :: ys, e, _ => by simp at e
  | x :: xs, [], e, _ => by simp at e
  | x :: xs, y :: ys, e, h => by
    have ih := cnt_le xs ys (by simpa using e) (fun j a b ha hb => h (j + 1) a b ha hb)
    have h0 := h 0 x y rfl rfl
    rw [List.countP_cons, List.countP_cons]
    cases hx : p x
    · simp; omega
    · rw [h0 hx]; simp; omega
theorem keeps_law {X : List PS} {m m' : Int} {Na Nb Nc : List Nd} {Da Db Dc : List Sp} (ha : TreeX X true m Na Da) (hb : TreeX X false m Nb Db) (hc : TreeX X false m' Nc Dc) (hm : m ≤ m') :
    Da.length = 0 ∧ (∀ x ∈ Nb, x.f3 = false) ∧ (Na.countP (fun x => x.f3) = 0 ↔ Db.length = 0) ∧ Na.countP (fun x => x.f3) ≤ Db.length ∧ Dc.length ≤ Db.length ∧ (0 < X.length → ∃ x ∈ Na, x.f1 = -1) ∧ Na.length = X.length := by
  obtain ⟨n1, na, ga, a1, a2, a3, a4, a5, rfl, rfl⟩ := ha
  obtain ⟨n1b, nb, gb, b1, b2, b3, b4, b5, rfl, rfl⟩ := hb
  obtain ⟨n1c, nc, gc, c1, c2, c3, c4, c5, rfl, rfl⟩ := hc
  obtain rfl := ns1_one a1 b1 a2 b2
  obtain rfl := ns1_one a1 c1 a2 c2
  have hl1 : n1.length = X.length := by rw [a1.1, raws_len]
  have fa : ∀ (j : Nat) (y : PN) (g : Bool), na[j]? = some y → ga[j]? = some g → Fin n1 true m j y g := fun j y g h1 h2 => by
    obtain ⟨y', g', k1, k2, k3⟩ := a5 j (by rw [← a3]; exact (List.getElem?_eq_some_iff.1 h1).1)
    rw [h1] at k1; cases k1; rw [h2] at k2; cases k2; exact k3
  have fb : ∀ (j : Nat) (y : PN) (g : Bool), nb[j]? = some y → gb[j]? = some g → Fin n1 false m j y g := fun j y g h1 h2 => by
    obtain ⟨y', g', k1, k2, k3⟩ := b5 j (by rw [← b3]; exact (List.getElem?_eq_some_iff.1 h1).1)
    rw [h1] at k1; cases k1; rw [h2] at k2; cases k2; exact k3
  have fgb : ∀ (j : Nat) (y : PN) (g g' : Bool), Fin n1 false m j y g → gb[j]? = some g' → g' = g := fun j y g g' h1 h2 => by
    obtain ⟨y', g2, k1, k2, k3⟩ := b5 j (by rw [← hl1]; exact h1.lt)
    rw [h2] at k2; cases k2
    exact (k3.unique h1).2
  have gaf : ∀ g ∈ ga, g = false := fun g hg => by
    obtain ⟨j, hj⟩ := List.mem_iff_getElem?.1 hg
    have hjl : j < X.length := by rw [← a4]; exact (List.getElem?_eq_some_iff.1 hj).1
    obtain ⟨y', g', k1, k2, k3⟩ := a5 j hjl
    rw [hj] at k2; cases k2; exact k3.kept
  have eNa := nodesM_all ga na ga (by rw [a3, a4]) gaf
  have cNa : (nodesM ga na ga).countP (fun x => x.f3) = na.countP (fun y => y.orp) := by rw [eNa, List.countP_map]; rfl
  have dB := dropM_cnt nb gb (by rw [b3, b4])
  have dC := dropM_cnt nc gc (by rw [c3, c4])
  have dA := dropM_cnt na ga (by rw [a3, a4])
  have hle : na.countP (fun y => y.orp) ≤ gb.countP id := cnt_le _ _ (by rw [a3, b4]) (fun j y g h1 h2 h3 => by
    have hjl : j < X.length := by rw [← a3]; exact (List.getElem?_eq_some_iff.1 h1).1
    obtain ⟨y', g', k1, k2, k3⟩ := a5 j hjl
    rw [h1] at k1; cases k1
    obtain ⟨g2, hf⟩ := k3.other (keep' := false)
    have := fgb j y g2 g hf h2
    rw [this]; exact hf.orph h3)
  refine ⟨?_, ?_, ?_, ?_, ?_, ?_, ?_⟩
  · rw [dA, List.countP_eq_zero]; intro g hg; rw [gaf g hg]; decide
  · intro x hx
    obtain ⟨j, y, h1, h2, rfl⟩ := nodesM_mem _ _ _ _ hx
    have hf := fb j y false h1 h2
    cases ho : y.orp
    · exact ho
    · have := hf.orph ho; cases this
  · rw [cNa, dB]
    refine ⟨fun h => ?_, fun h => by omega⟩
    rw [List.countP_eq_zero] at h ⊢
    intro g hg hgt
    obtain ⟨j, hj⟩ := List.mem_iff_getElem?.1 hg
    have hjl : j < X.length := by rw [← b4]; exact (List.getElem?_eq_some_iff.1 hj).1
    obtain ⟨y', g', k1, k2, k3⟩ := b5 j hjl
    rw [hj] at k2; cases k2
    obtain ⟨j2, y2, g2, f2, o2⟩ := k3.why hgt
    obtain ⟨y3, g3, q1, q2, q3⟩ := a5 j2 (by rw [← hl1]; exact f2.lt)
    obtain ⟨g4, f4⟩ := q3.other (keep' := false)
    obtain ⟨rfl, _⟩ := f4.unique f2
    exact h _ (List.mem_of_getElem? q1) o2
  · rw [cNa, dB]; exact hle
  · rw [dB, dC]
    refine cnt_le _ _ (by rw [c4, b4]) (fun j g g' h1 h2 h3 => ?_)
    have hjl : j < X.length := by rw [← c4]; exact (List.getElem?_eq_some_iff.1 h1).1
    obtain ⟨y, gg, k1, k2, k3⟩ := b5 j hjl
    rw [h2] at k2; cases k2
    obtain ⟨y2, g2, q1, q2, q3⟩ := c5 j hjl
    rw [h1] at q2; cases q2
    cases g'
    · have := (k3.more (m' := m') rfl hm).unique q3
      rw [← this.2] at h3; exact h3
    · rfl
  · intro hX
    obtain ⟨y, g, k1, k2, k3⟩ := a5 0 hX
    obtain ⟨j, y2, g2, f2, e2⟩ := k3.root_of
    obtain ⟨y3, g3, q1, q2, q3⟩ := a5 j (by rw [← hl1]; exact f2.lt)
    obtain ⟨rfl, _⟩ := q3.unique f2
    rw [eNa]
    refine ⟨outN ga y3, List.mem_map.2 ⟨y3, List.mem_of_getElem? q1, rfl⟩, ?_⟩
    show outP ga y3 = -1
    unfold outP; rw [if_pos e2]
  · rw [eNa, List.length_map, a3]
end Go.Proofs.Ytamcchdblglfoaa.Ft
