/- The queue's methods At, First, Drop, Put. -/
import Derived.Test.YtfeikcfhionjkaaHq2
import Derived.StillTailTactics
set_option linter.unusedVariables false
set_option linter.unusedSimpArgs false
namespace Go.Proofs.Ytfeikcfhionjkaa.Hp
open Go.RowKit Go.Proofs.Ytfeikcfhionjkaa.B0

theorem IRep.c1 {w : World} {q mb : Nat} {r : Option (Nat × Nat)} {L : List E} (h : IRep w q mb r L) : w.cell? ⟨q, 1, none⟩ = some (.map (some mb)) := cellB h.hq 1

def AtR (S : List (Int × Int)) (id : Int) : Value := match S.lookup id with | some t => .tuple #[.int .u64 t, .bool true] | none => .tuple #[.int .u64 0, .bool false]

set_option maxRecDepth 100000 in
set_option maxHeartbeats 1000000 in
theorem At_q {w : World} {q : Nat} {S : List (Int × Int)} {fp : List Nat} (h : QA w q S fp) (id : Int) : Calls Try.prog 24 #[.pointer (some ⟨q, 0, none⟩), .int .u64 id] w fun e w' => e = .returned (AtR S id) ∧ w = w' := by
  obtain ⟨mb, r, L, M, h1, rfl⟩ := h
  have c1 := h1.irep.c1
  have hlk := h1.mp.lookup KB58 Try.underlying58 (zero63 w) id
  rcases h1.look id with ⟨l1, _, _, l2⟩ | ⟨i, e, hi, rfl, l1, l2, _⟩
  · have HA : Hid (AtR S id = .tuple #[.int .u64 0, .bool false]) := by show _ = _; unfold AtR; rw [l2]
    rw [l1] at hlk
    clear l1 l2 h1
    go_enter Try.func24, Try.ntmps24
    go_wp2
    go_ret2
    exact ⟨by rw [HA.out]; rfl, rfl⟩
  · have HA : Hid (AtR S e.id = .tuple #[.int .u64 e.t, .bool true]) := by show _ = _; unfold AtR; rw [l2]
    rw [l1] at hlk
    have b1 : w.cell? ⟨e.b, 1, none⟩ = some (.int .u64 e.t) := cellB (h1.irep.hi i e hi) 1
    simp only [Option.getD_some] at hlk
    clear l1 l2 h1 hi
    go_enter Try.func24, Try.ntmps24
    go_wp2
    go_ret2
    exact ⟨by rw [HA.out]; rfl, rfl⟩

def FirstR (S : List (Int × Int)) : Value := match S with | [] => .tuple #[.int .u64 0, .int .u64 0, .bool false] | x :: _ => .tuple #[.int .u64 x.1, .int .u64 x.2, .bool true]

theorem QAt.top {w : World} {q mb : Nat} {r : Option (Nat × Nat)} {L : List E} {M : List (Int × Value)} {S : List (Int × Int)} (h : QAt w q mb r L M S) {e : E} (he : L[0]? = some e) : ∃ S', S = keyE e :: S' := by
  have hm : keyE e ∈ S := h.sp.mem_iff.2 (List.mem_map.2 ⟨e, List.mem_of_getElem? he, rfl⟩)
  cases hS : S with
  | nil => rw [hS] at hm; simp at hm
  | cons x S' =>
    refine ⟨S', ?_⟩
    have hso := h.so
    rw [hS] at hm hso
    rcases List.mem_cons.1 hm with hh | hh
    · rw [hh]
    · have hlt := (List.pairwise_cons.1 hso).1 _ hh
      have hx : x ∈ L.map keyE := h.sp.mem_iff.1 (by rw [hS]; simp)
      obtain ⟨e', he', rfl⟩ := List.mem_map.1 hx
      obtain ⟨k, hk⟩ := List.mem_iff_getElem?.1 he'
      have hg := HO_top h.ho k (List.getElem?_eq_some_iff.1 hk).1 e' e hk he
      rw [ltE_iff'] at hg
      exact absurd hlt hg

set_option maxRecDepth 100000 in
set_option maxHeartbeats 1000000 in
theorem First_q {w : World} {q : Nat} {S : List (Int × Int)} {fp : List Nat} (h : QA w q S fp) : Calls Try.prog 14 #[.pointer (some ⟨q, 0, none⟩)] w fun e w' => e = .returned (FirstR S) ∧ ∃ n, w' = w.drewN n := by
  obtain ⟨mb, r, L, M, h1, rfl⟩ := h
  have c0 := h1.irep.c0
  have hls := len_sv h1.irep.hr
  cases hL : L with
  | nil =>
    have hS : S = [] := List.eq_nil_of_length_eq_zero (by rw [h1.len, hL]; rfl)
    subst hS
    have h0 : L.length = 0 := by rw [hL]; rfl
    rw [h0] at c0 hls
    clear h1 h0 hL
    go_enter Try.func14, Try.ntmps14
    go_wp2
    go_ret3
    exact ⟨rfl, 0, rfl⟩
  | cons e L' =>
    have he : L[0]? = some e := by rw [hL]; rfl
    obtain ⟨S', rfl⟩ := h1.top he
    have h0 : 0 < L.length := by rw [hL]; simp
    obtain ⟨g, c, rfl⟩ := h1.irep.cap h0
    obtain ⟨cs, hg, hcs, hlc, hcm, hptr⟩ := h1.irep.hr
    have g0 : w.cell? ⟨g, 0, none⟩ = some (.pointer (some ⟨e.b, 0, none⟩)) := (cellB hg 0).trans (hptr 0 e he)
    have b0 : w.cell? ⟨e.b, 0, none⟩ = some (.int .u64 e.id) := cellB (h1.irep.hi 0 e he) 0
    have b1 : w.cell? ⟨e.b, 1, none⟩ = some (.int .u64 e.t) := cellB (h1.irep.hi 0 e he) 1
    have hn0 : ((L.length : Int) == 0) = false := by rw [beq_eq_false_iff_ne]; omega
    have hn1 : (0 : Int) < L.length := by omega
    simp only [svOf] at c0
    clear h1 hL he hg hptr hcs hlc hcm hls h0
    generalize L.length = n at *
    go_enter Try.func14, Try.ntmps14
    go_wp2
    go_quiet (fail)
    go_wp2
    go_ret3
    exact ⟨rfl, _, rfl⟩

def delS (S : List (Int × Int)) (id : Int) : List (Int × Int) := S.filter (fun p => !decide (p.1 = id))

theorem foot_dropL {r : Option (Nat × Nat)} {L X : List E} (h : ∀ e, e ∈ X → e ∈ L) : ∀ k, k ∈ foot r X → k ∈ foot r L := by
  intro k
  simp only [foot, List.mem_append, List.mem_map]
  rintro (hb | ⟨e, he, rfl⟩)
  · exact .inl hb
  · exact .inr ⟨e, h e he, rfl⟩

theorem filter_gone {β : Type} (g : E → Int × β) (hg : ∀ e, (g e).1 = e.id) {X : List E} {e : E} (hn : e.id ∉ X.map E.id) : ((X ++ [e]).map g).filter (fun p => !decide (p.1 = e.id)) = X.map g := by
  rw [List.map_append, List.filter_append]
  have h1 : (X.map g).filter (fun p => !decide (p.1 = e.id)) = X.map g := by
    rw [List.filter_eq_self]
    intro a ha
    obtain ⟨x, hx, rfl⟩ := List.mem_map.1 ha
    have : (g x).1 ≠ e.id := fun hh => hn (by rw [← hh, hg]; exact List.mem_map.2 ⟨x, hx, rfl⟩)
    simp [this]
  rw [h1]; simp [hg]

theorem QAt.drop {w w2 : World} {q mb : Nat} {r : Option (Nat × Nat)} {L : List E} {M : List (Int × Value)} {S : List (Int × Int)} (h : QAt w q mb r L M S) {i : Nat} {e : E} (hi : L[i]? = some e)
    (hI : IRep w2 q mb r (removeL L i)) (hM : MapR eku w2 mb (delM M e.id)) : QAt w2 q mb r (removeL L i) (delM M e.id) (delS S e.id) ∧ ∀ x, x ∈ removeL L i → x ∈ L := by
  obtain ⟨h1, h2⟩ := removeL_spec h.ho hi
  have hlen : (removeL L i).length = L.length - 1 := by have := h2.length_eq; simp at this; omega
  have hn : e.id ∉ (removeL L i).map E.id := by
    have := (h2.map E.id).nodup_iff.2 h.ids
    rw [List.map_append, List.nodup_append] at this
    intro hh
    exact this.2.2 e.id hh e.id (by simp) rfl
  refine ⟨⟨hI, hM, ?_, by rw [hlen]; exact h1, ?_, ?_⟩, fun x hx => h2.mem_iff.1 (by simp [hx])⟩
  · have := (h.mperm.trans (h2.map mapE).symm).filter (fun p => !decide (p.1 = e.id))
    rwa [filter_gone mapE (fun _ => rfl) hn] at this
  · have := (h.sp.trans (h2.map keyE).symm).filter (fun p => !decide (p.1 = e.id))
    rwa [filter_gone keyE (fun _ => rfl) hn] at this
  · exact h.so.filter _

set_option maxRecDepth 100000 in
set_option maxHeartbeats 4000000 in
theorem Drop_q {w : World} {q : Nat} {S : List (Int × Int)} {fp : List Nat} (h : QA w q S fp) (id : Int) (hlen : S.length < 1000000000000) :
    Calls Try.prog 15 #[.pointer (some ⟨q, 0, none⟩), .int .u64 id] w fun e w' => e = .returned (.bool (decide (id ∈ S.map Prod.fst))) ∧ ∃ fp', QA w' q (delS S id) fp' ∧ (∀ k, k ∈ fp' → k ∈ fp) ∧ Fr fp w w' := by
  obtain ⟨mb, r, L, M, h1, rfl⟩ := h
  have c0 := h1.irep.c0
  have c1 := h1.irep.c1
  have hlk := h1.mp.lookup KB58 Try.underlying58 (zero63 w) id
  have hlk1 : (Instr.lookup 58 (.map (some mb)) (.int .u64 id) false).run Try.prog w.drew = .ok ((M.lookup id).getD (.pointer none)) w.drew :=
    (h1.mp.fr ((Fr.refl [] w).drew) (by simp)).lookup KB58 Try.underlying58 (zero63 _) id
  have hlk' : ∀ n, (Instr.lookup 58 (.map (some mb)) (.int .u64 id) false).run Try.prog (w.drewN n) = .ok ((M.lookup id).getD (.pointer none)) (w.drewN n) := fun n =>
    (h1.mp.fr ((Fr.refl [] w).drewN n) (by simp)).lookup KB58 Try.underlying58 (zero63 _) id
  rcases h1.look id with ⟨l1, l3, l4, l2⟩ | ⟨i, e, hi, rfl, l1, l2, l3⟩
  · have hd : decide (id ∈ S.map Prod.fst) = false := by simpa using l3
    have hdel : delS S id = S := by
      unfold delS; rw [List.filter_eq_self]
      intro a ha
      have : a.1 ≠ id := fun hh => l3 (by rw [← hh]; exact List.mem_map.2 ⟨a, ha, rfl⟩)
      simp [this]
    rw [hd, hdel]
    rw [l1] at hlk
    have H1 := Lib.hid h1; clear h1
    clear l1 l2 l3 l4 hlk' hlk1 hd hdel
    go_enter Try.func15, Try.ntmps15
    go_wp2
    go_ret
    exact ⟨rfl, _, ⟨mb, r, L, M, H1.out, rfl⟩, fun k hk => hk, Fr.refl _ _⟩
  · have hd : decide (e.id ∈ S.map Prod.fst) = true := by simpa using l3
    rw [hd]
    rw [l1] at hlk hlk' hlk1
    simp only [Option.getD_some] at hlk hlk' hlk1
    have b2 : w.cell? ⟨e.b, 2, none⟩ = some (.int .i64 i) := cellB (h1.irep.hi i e hi) 2
    have hil := (List.getElem?_eq_some_iff.1 hi).1
    have HLL : L.length < 1000000000000 := by rw [← h1.len]; exact hlen
    have H1 := Lib.hid h1; clear h1
    have HI := Lib.hid hi; clear hi
    clear l1 l2 l3 hd
    go_enter Try.func15, Try.ntmps15
    go_wp2_with fail
    refine wp_region_still_tail 13 (by kernel_rfl) (by kernel_rfl) ?_
    simp only [List.take_succ_cons, List.take_zero, List.drop_succ_cons, List.drop_zero]
    change wpStill _ _ w.drew _ _ _
    repeat still_step
    refine wpStill_nil ?_
    change wpList _ _ _ _ _ w.drew
    go_wp2_with fail
    refine (HRemove_c (H1.out.irep.fr ((Fr.refl [] w).drew) (by simp) (by simp)) _ i rfl hil HLL).mono ?_
    rintro e1 w1 ⟨v, rfl, hI, hF⟩
    have hFw : Fr (q :: foot r L) w w1 := ((Fr.refl _ w).drew).trans hF
    have hmq : mb ∉ q :: foot r L := by
      have := H1.out.irep.nd
      simp only [List.nodup_cons, List.mem_cons, not_or] at this
      simp only [List.mem_cons, not_or, foot]
      exact ⟨fun hh => this.1.1 hh.symm, this.2.1⟩
    obtain ⟨w2, hrun, hM2, hF2⟩ := (H1.out.mp.fr hFw hmq).delete KB58 Try.underlying58 27 e.id
    have d1 := hI.c1
    have hI2 := hI.fr hF2 (by simp; exact fun hh => hmq (by simp [hh])) (by
      intro k hk; simp; rintro rfl
      exact hmq (List.mem_cons_of_mem _ (foot_dropL (fun x hx => (removeL_spec H1.out.ho HI.out).2.mem_iff.1 (by simp [hx])) _ hk)))
    have HQ := Lib.hid (H1.out.drop HI.out hI2 hM2)
    have HF := Lib.hid ((hFw.mono (G := q :: mb :: foot r L) (by simp; intro k hk; exact .inr (.inr hk))).trans (hF2.mono (G := q :: mb :: foot r L) (by simp)))
    clear hlk hlk' hlk1 c0 c1 b2 hI2 hI hF hFw hmq hM2 hF2
    go_wp2_with fail
    go_ret
    refine ⟨rfl, _, ⟨mb, r, _, _, HQ.out.1, rfl⟩, ?_, HF.out⟩
    intro k hk
    simp only [List.mem_cons] at hk ⊢
    rcases hk with hk | hk | hk
    · exact .inl hk
    · exact .inr (.inl hk)
    · exact .inr (.inr (foot_dropL HQ.out.2 _ hk))
end Go.Proofs.Ytfeikcfhionjkaa.Hp
