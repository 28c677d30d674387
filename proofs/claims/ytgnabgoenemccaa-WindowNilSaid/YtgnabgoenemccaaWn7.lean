/- window: the book of ints: Open. -/
import Derived.Test.YtgnabgoenemccaaWn6
set_option linter.unusedVariables false
set_option linter.unusedSimpArgs false
namespace Go.Proofs.Ytgnabgoenemccaa.Wn
open Go.RowKit Go.Proofs.Ytgnabgoenemccaa.B0 Go.Sort Go.Maps

/-- A list of numbers, sorted. -/
def srt (l : List Int) : List Int := l.mergeSort fun x y => decide (x ≤ y)
theorem srt_perm (l : List Int) : (srt l).Perm l := List.mergeSort_perm _ _
theorem srt_pw (l : List Int) : (srt l).Pairwise (fun a b => a ≤ b) := by
  have := List.pairwise_mergeSort (le := fun x y : Int => decide (x ≤ y)) (fun a b c h1 h2 => by simp at *; omega) (fun a b => by simp; omega) l
  exact this.imp (fun h => of_decide_eq_true h)
theorem srt_of_perm {l l' : List Int} (h : l.Perm l') : srt l = srt l' :=
  List.Perm.eq_of_pairwise (le := fun a b => a ≤ b) (fun a b _ _ h1 h2 => Int.le_antisymm h1 h2) (srt_pw l) (srt_pw l') (((srt_perm l).trans h).trans (srt_perm l').symm)
theorem perm_of_enc {a b : List Int} (h : (a.map encU).Perm (b.map encU)) : a.Perm b := by
  have h2 := h.map (fun v => match v with | .int _ n => n | _ => 0)
  rw [List.map_map, List.map_map] at h2
  have e : ((fun v => match v with | Value.int _ n => n | _ => (0 : Int)) ∘ encU) = id := rfl
  rw [e, List.map_id, List.map_id] at h2
  exact h2

set_option maxHeartbeats 1000000 in
set_option maxRecDepth 100000 in
theorem Sorted_u {N : Nat} (HS : SortU N) (hN : N ≤ 1000000) (g : Nat) (lb : Array Value) (eg : ∀ args w, (callFunc g args).run Try.prog w = .ok (.enter g args) w)
    (S : List Int → Prop) (hS : ∀ ss, S ss → ∀ x, x ∈ ss → 0 ≤ x ∧ x < 18446744073709551616) (w : World) (hseq : SeqGives Fence.wide 3 Try.prog g lb encU S N w) :
    Calls Try.prog 34 #[.func (.func g) #[] lb] w fun e w' => ∃ (v : Value) (ss : List Int), e = .returned v ∧ S ss ∧ w'.ownsRow w.heap.size 22 1 v ss.length ((srt ss).map encU) ∧ Below w.heap.size w w' := by
  have HC : Hid (Calls Try.prog 40 #[.func (.func g) #[] lb] w fun e w' => ∃ (v : Value) (ss : List Int), e = .returned v ∧ (S ss ∧ ss.length ≤ N) ∧ w'.ownsRow w.heap.size 22 1 v ss.length (ss.map encU) ∧ (v = .slice none 0 0 ↔ ss = []) ∧ Below w.heap.size w w') :=
    callsIn_wide.1 (collect_in Fence.wide 5 trivial trivial rfl (by omega) g lb trivial eg _ N (by simp [maxLen]; omega) (by omega) w hseq.bounded)
  have HSS := Lib.hid hS
  clear hseq hS eg
  go_enter Try.func34, Try.ntmps34
  go_wp2_with fail
  refine HC.out.mono ?_
  rintro e w1 ⟨v, ss, rfl, ⟨hSs, hlen⟩, hrow, hnil, hb⟩
  have HA := Lib.hid (And.intro hSs (And.intro hlen (And.intro hrow (And.intro hnil hb))))
  clear hSs hlen hrow hnil hb
  rcases HA.out.2.2.1.2 with ⟨rfl, hz⟩ | ⟨gb, cap, cur, rfl, hrest⟩
  · have hss : ss = [] := List.eq_nil_of_length_eq_zero hz
    subst hss
    go_wp2_with fail
    refine (sort1_c none 0 0 (by omega) w1).mono ?_
    rintro e w2 ⟨rfl, hw2⟩
    subst hw2
    go_wp2_with fail
    go_ret
    exact ⟨.slice none 0 0, [], rfl, HA.out.1, by simpa [srt] using HA.out.2.2.1, HA.out.2.2.2.2⟩
  · have HR := Lib.hid hrest; clear hrest
    go_wp2_with fail
    refine (HS gb cap ss cur w1 HA.out.2.1 (HSS.out ss HA.out.1) HR.out.2.1 HR.out.2.2.1 HR.out.2.2.2.1 (by have := HR.out.2.2.2.2.1; omega) (by have := HR.out.2.2.2.2.2; rw [Nat.mul_one] at this; exact this)).mono ?_
    rintro e w2 ⟨rfl, hf2, cur', hg', hsz', ht'⟩
    have HA2 := Lib.hid (And.intro hf2 (And.intro hg' (And.intro hsz' ht')))
    clear hf2 hg' hsz' ht'
    go_wp2_with fail
    go_ret
    refine ⟨_, ss, rfl, HA.out.1, ⟨by simp [srt], .inr ⟨gb, cap, cur', rfl, HR.out.1, HA2.out.2.1, HR.out.2.2.1, HR.out.2.2.2.1, by have := HA2.out.2.2.1; omega, by rw [Nat.mul_one]; exact HA2.out.2.2.2⟩⟩, ?_⟩
    have := HR.out.1
    exact HA.out.2.2.2.2.trans (HA2.out.1.belowB HA.out.2.2.2.2.size (fun k hk => by simp at hk; omega))
set_option maxHeartbeats 1000000 in
set_option maxRecDepth 100000 in
theorem Open_i {N : Nat} (HS : SortU N) (hN : N ≤ 1000000) {w : World} {p mb width late most mark : Nat} {M : List (Int × Int)} (h : BookR w p mb width late most mark M) (hM : M.length ≤ N) :
    Calls Try.prog 15 #[.pointer (some ⟨p, 0, none⟩)] w fun e w' => ∃ v, e = .returned v ∧ w'.ownsRow w.heap.size 22 1 v M.length ((srt (M.map Prod.fst)).map encU) ∧ Below w.heap.size w w' := by
  have H0 := Lib.hid h; clear h
  have c4 : w.cell? ⟨p, 4, none⟩ = some (.map (some mb)) := cellB H0.out.blk 4
  have HK : Hid (∀ ss : List Int, (ss.map encU).Perm ((vI M).map fun q => encU q.1) → ss.Perm (M.map Prod.fst)) := fun ss hp => by
    refine perm_of_enc (hp.trans ?_)
    rw [show (vI M).map (fun q => encU q.1) = (M.map Prod.fst).map encU from by simp [vI, Function.comp_def]]
  go_enter Try.func15, Try.ntmps15
  go_wp2_with fail
  refine (callsIn_wide.1 (keys_in Fence.wide 1 trivial rfl (some mb) w)).mono ?_
  rintro e w1 ⟨rfl, hw1⟩
  have HB1 : Hid (Below w.heap.size w w1) := by rw [hw1]; exact (Below.refl _ w).alloc (Nat.le_refl _) _
  have HM1 : Hid (w1.cell? ⟨w.heap.size, 0, none⟩ = some (.map (some mb))) := by rw [hw1]; show World.cell? _ _ = _; simp
  have HS1 : Hid (w1.heap.size = w.heap.size + 1) := by rw [hw1]; show _ = _; simp
  have HMR : Hid (MapR encU w1 mb (vI M)) := H0.out.map.fr (Fr.of_below HB1.out [] (Nat.le_refl _)) (by simp)
  clear hw1
  have HQ : Hid (SeqGives Fence.wide 3 Try.prog 42 #[.pointer (some ⟨w.heap.size, 0, none⟩)] encU (fun ss => (ss.map encU).Perm ((vI M).map fun q => encU q.1)) N w1) := by
    have h1 := keys_gives Fence.wide 3 trivial rfl (by omega) w.heap.size mb (vI M) w1 (by have := HS1.out; omega) HM1.out HMR.out
    have hle : (vI M).length ≤ N := by simp [vI]; exact hM
    exact fun l J W hW hJ hY h0 => h1 l J W hW hJ (fun pre x W1 hj hl => hY pre x W1 hj (by omega)) h0
  go_wp2_with fail
  refine (Sorted_u HS hN 42 _ (enters_of Try.func42 (by kernel_rfl) rfl) _ (fun ss hp x hx => ?_) w1 HQ.out).mono ?_
  · have hm := (HK.out ss hp).mem_iff.1 hx
    obtain ⟨q, hq, rfl⟩ := List.mem_map.1 hm
    exact H0.out.keys q hq
  rintro e w2 ⟨v, ss, rfl, hp, hrow, hb⟩
  have HP : Hid (ss.Perm (M.map Prod.fst)) := HK.out ss hp
  have HR := Lib.hid (And.intro hrow hb)
  clear hp hrow hb
  go_wp2_with fail
  go_ret
  have e1 : ss.length = M.length := by rw [HP.out.length_eq]; simp
  have h2 := HR.out.1
  rw [e1, srt_of_perm HP.out] at h2
  refine ⟨v, rfl, ownsRow_base_a h2 (by have := HS1.out; omega), HB1.out.trans (HR.out.2.mono (by have := HS1.out; omega))⟩
end Go.Proofs.Ytgnabgoenemccaa.Wn
