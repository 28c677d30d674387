/- forest: regions that draw, inside a range function's round; slices.Backward of ints. forest: depths: what a node comes to; what depth's loops keep. No walk. -/
import Derived.Test.YtamcchdblglfoaaMgForestKeeps10
import Derived.Test.YtamcchdblglfoaaMgForestKeeps11
import Derived.RangeFuncFrom
import Derived.OrdersIn
set_option linter.unusedVariables false
set_option linter.unusedSimpArgs false
namespace Go.Proofs.Ytamcchdblglfoaa.Ft
open Go.RowKit Go.Maps Go.Sort Go.Shelf Go.Proofs.Ytamcchdblglfoaa.B0 Go.Proofs.Ytamcchdblglfoaa.Pf Go.Proofs.YtamcchdblglfoaaW.PrintWords Go.Proofs.YtamcchdblglfoaaW.PrintLast

section
variable {P : Program} {ops : Array Oper} {Q : Exit → Act → World → Prop} {l n : Nat}
theorem up_in {o : Oper} {a : Act} {K : Act → World → Prop} {r : Result Next} (h : o.upon P a K Q r) : o.uponIn (Fence.wide.inRound l) n P a K Q r := by
  cases r with
  | ok x w' =>
    cases x with
    | enter f args => exact ⟨fun hd => by simp [Fence.wide] at hd, (callsIn_wide (n := n - 1)).2 h⟩
    | row s args =>
      refine ⟨fun hd => by simp [Fence.wide] at hd, fun c cs _ => ?_⟩
      obtain ⟨v, w2, hr, hs⟩ := h c cs
      exact ⟨v, w2, hr, stepsIn_wide.2 hs⟩
    | _ => first | exact h | exact (h : False).elim
  | halt x w' =>
    cases x <;> first | exact h | exact (h : False).elim
def noDefer (ops : Array Oper) : Bool := ops.toList.all fun o => match o.op with | .defer _ => false | _ => true
theorem noDefer_at (h : noDefer ops = true) {i : Nat} {o : Oper} (ho : ops[i]? = some o) : ∀ c, o.op ≠ .defer c := fun c e => by
  have := List.all_eq_true.1 h o (by rw [Array.mem_toList_iff]; exact Array.mem_of_getElem? ho)
  rw [e] at this; cases this
theorem op_in (hd : noDefer ops = true) (hQ : ¬ LetsOut Q) {i : Nat} {K : Act → World → Prop} {a : Act} {w : World} (h : wpOp P ops Q i K a w) : wpOpIn (Fence.wide.inRound l) n P ops Q i K a w := by
  unfold wpOp at h
  unfold wpOpIn
  cases ho : ops[i]? with
  | none => rw [ho] at h; exact h
  | some o =>
    rw [ho] at h
    simp only at h ⊢
    split
    · rename_i hw
      rw [if_pos hw] at h
      rcases h with h | ⟨_, h⟩
      · refine ⟨fun _ _ => trivial, ?_⟩
        rw [Oper.semAt_plain _ _ _ (noDefer_at hd ho)]
        exact up_in h
      · exact absurd h hQ
    · rename_i hw
      rw [if_neg hw] at h
      exact ⟨fun _ _ => trivial, h⟩
theorem any_in (hd : noDefer ops = true) (hQ : ¬ LetsOut Q) : ∀ (fuel : Nat) (listed : Array Bool) (a : Act) (w : World), wpAny P .any ops Q fuel listed a w → wpAnyIn (Fence.wide.inRound l) n P .any ops Q fuel listed a w
  | 0, _, _, _, h => h
  | fuel + 1, listed, a, w, h => ⟨h.1, fun i hi => wpOpIn_mono (fun a w => any_in hd hQ fuel _ a w) (op_in hd hQ (h.2 i hi))⟩
theorem startIn_ {id m : Nat} {S : World → Prop} {ds : List Nat} {a : Act} {w : World} (hd : noDefer ops = true) (hQ : ¬ LetsOut Q) (ls : Array Bool) (hm : P.follows .mixedOrders = true) (hn : ops.size = m) (hl : Array.replicate m false = ls) (hS : S w.drew)
    (h : S w.drew → wpAnyLast P .any ops Q S ds m ls a w.drew) : (Code.region id ops true).wpIn (Fence.wide.inRound l) n P Q a w := by
  subst hn
  subst hl
  exact wpIn_region_any hm (any_in hd hQ _ _ _ _ (wpAny_of_last _ _ _ _ (h hS)))
end

/-- blocks that are no cells of these types. -/
theorem R_frN {α : Type} {d : Kd α} {e base : Nat} {w w' : World} {v : Value} {xs : List α} {F : List Nat} (h : d.R e w base (fun _ => True) v xs) (hf : Fr F w w') (hF : ∀ k ∈ F, ∀ cells q, w.heap[k]? = some (.cells cells q (0, 0)) → q ∉ e :: d.E) : d.R e w' base (fun _ => True) v xs := by
  refine Kd.R_mono (Kd.R_step (Kd.R_bound h) (fun k hk hlt => ?_)) (fun _ _ => trivial)
  refine hf.block k hlt (fun hkF => ?_)
  obtain ⟨_, _, _, q, hq, cells, hc⟩ := hk
  exact hF k hkF cells q hc hq
theorem BuR.frN {w w' : World} {B bb : Nat} {v gv : Value} {keep : Bool} {most : Int} {ns : List PN} {gs : List Bool} {F : List Nat} (h : BuR w B bb v gv keep most ns gs) (hf : Fr F w w')
    (hF : ∀ k ∈ F, ∀ cells q, w.heap[k]? = some (.cells cells q (0, 0)) → q ≠ 47 ∧ q ≠ 4 ∧ q ≠ 108) : BuR w' B bb v gv keep most ns gs where
  blk := hf.get h.blk (fun hk => (hF bb hk _ _ h.blk).2.2 rfl)
  hb := h.hb
  rN := R_frN h.rN hf (fun k hk cells q hc hq => (hF k hk cells q hc).1 (by simpa [kN, flat] using hq))
  rG := R_frN h.rG hf (fun k hk cells q hc hq => (hF k hk cells q hc).2.1 (by simpa [Kd.bool, Kd.scalar] using hq))

/-- these blocks are as they were. -/
def KpS (S : List Nat) (a b : World) : Prop := ∀ k ∈ S, b.heap[k]? = a.heap[k]?
theorem KpS.trans {S : List Nat} {a b c : World} (h : KpS S a b) (k : KpS S b c) : KpS S a c := fun i hi => (k i hi).trans (h i hi)
theorem KpS.fr {S F : List Nat} {a b : World} (h : Fr F a b) (hs : ∀ k ∈ S, k < a.heap.size ∧ k ∉ F) : KpS S a b := fun k hk => h.block k (hs k hk).1 (hs k hk).2
/-- a list with its places, from behind. -/
def bk (ws : List Int) : Nat → List (Int × Int)
  | 0 => []
  | m + 1 => (((m : Nat) : Int), ws.getD m 0) :: bk ws m
abbrev encII (x : Int × Int) : Array Value := #[.int .i64 x.1, .int .i64 x.2]
theorem bk_len (ws : List Int) : ∀ m, (bk ws m).length = m
  | 0 => rfl
  | m + 1 => by rw [bk, List.length_cons, bk_len ws m]
theorem bk_get (ws : List Int) : ∀ (m t : Nat), t < m → (bk ws m)[t]? = some (((m - 1 - t : Nat) : Int), ws.getD (m - 1 - t) 0)
  | 0, t, h => by omega
  | m + 1, 0, h => by rw [bk]; rfl
  | m + 1, t + 1, h => by
    rw [bk, List.getElem?_cons_succ, bk_get ws m t (by omega)]
    rw [show m + 1 - 1 - (t + 1) = m - 1 - t from by omega]
set_option maxRecDepth 100000 in
set_option maxHeartbeats 4000000 in
theorem back_gives (n : Nat) (hn : 1 ≤ n) (Bm g : Nat) (A : Option Addr) (cap : Nat) (ws : List Int) (w : World) (hm : w.heap[Bm]? = some (.cells #[.slice A ws.length cap] 88 (0, 0))) (hA : 0 < ws.length → A = some ⟨g, 0, none⟩ ∧ ∃ cur, w.heap[g]? = some (.cells cur 3 (0, 0)) ∧ ∀ (i : Nat) (x : Int), ws[i]? = some x → cur[i]? = some (.int .i64 x)) (hN : ws.length ≤ 1000000) :
    SeqR n Try.prog 94 #[.pointer (some ⟨Bm, 0, none⟩)] encII (bk ws ws.length) (KpS [Bm, g]) w := fun l J W hW hY h0 => by
  obtain ⟨N, hNn⟩ : ∃ N, Hid (ws.length = N) := ⟨_, Lib.hid rfl⟩
  rw [hNn.out] at hm hN hY ⊢
  have HAA := Lib.hid hA; have HM := Lib.hid hm
  have HMW : Hid (W.heap[Bm]? = some (.cells #[.slice A N cap] 88 (0, 0))) := (hW.block Bm (lt_of_get hm)).trans hm
  have HWW := Lib.hid hW
  clear hm hA
  have c0 : W.cell? ⟨Bm, 0, none⟩ = some (.slice A N cap) := by rw [cellB HMW.out]; rfl
  refine callsIn_of_wp Try.func94 rfl trivial ?_ rfl
  simp only [Try.ntmps94, List.size_toArray, List.length_cons, List.length_nil, Nat.reduceAdd, Nat.reduceSub, Array.replicate_succ, Array.replicate_zero, List.push_toArray, List.append_toArray, List.nil_append, List.cons_append]
  gi_wp2
  clear c0
  gi_loopw [3] (fun iv wr => ∃ i : Nat, iv = .int .i64 ((i : Int) - 1) ∧ i ≤ N ∧ Hid (J (N - i) wr ∧ KpS [Bm, g] W wr)) (fun iv _ => ((intOf iv) + 1).toNat)
  case atStart => exact ⟨N, rfl, Nat.le_refl _, by rw [Nat.sub_self]; exact h0, fun _ _ => rfl⟩
  case round =>
    obtain ⟨i, rfl, hi, HW⟩ := hrel
    match i, hi, HW with
    | 0, hi, HW =>
      rw [show ((0 : Nat) : Int) - 1 = -1 from rfl]
      gi_wp2
      go_end0
      refine ⟨⟨_, rfl⟩, ?_⟩
      have := HW.out.1
      rw [bk_len]; exact this
    | i + 1, hi, HW =>
      have e1 : ((i + 1 : Nat) : Int) - 1 = (i : Int) := by omega
      rw [e1]
      have hki : (i : Int) < (N : Int) := by omega
      obtain ⟨x, hx⟩ : ∃ x, ws[i]? = some x := ⟨_, List.getElem?_eq_getElem (by rw [hNn.out]; omega)⟩
      obtain ⟨hAe, cur, hrow, hc⟩ := HAA.out (by rw [hNn.out]; omega)
      subst hAe
      have HX : Hid (ws.getD i 0 = x ∧ cur[i]? = some (.int .i64 x)) := ⟨by rw [List.getD_eq_getElem?_getD, hx]; rfl, hc i x hx⟩
      have c0 : wr.cell? ⟨Bm, 0, none⟩ = some (.slice (some ⟨g, 0, none⟩) N cap) := by rw [cellB ((HW.out.2 Bm (by simp)).trans HMW.out)]; rfl
      have c1 : wr.cell? ⟨g, i, none⟩ = some (.int .i64 x) := by rw [cellB ((HW.out.2 g (by simp)).trans ((HWW.out.block g (lt_of_get hrow)).trans hrow))]; exact HX.out.2
      clear hrow hc
      obtain ⟨fn, tmps, assign, body, hy, hR⟩ := hY (N - (i + 1)) ((i : Int), x) wr (by rw [bk_get _ _ _ (by omega), show N - 1 - (N - (i + 1)) = i from by omega, HX.out.1]) HW.out.1
      clear hx
      gi_wp2
      refine hR.mono ?_
      rintro e W3 ⟨rfl, hJ3, hk3⟩
      have HJ3 : Hid (J (N - i) W3 ∧ KpS [Bm, g] W W3) := by
        rw [show N - (i + 1) + 1 = N - i from by omega] at hJ3
        exact ⟨hJ3, HW.out.2.trans hk3⟩
      clear hJ3 hk3
      gi_wp2
      go_roundw
      case rel => exact ⟨i, by go_num, by omega, HJ3.out⟩
      case measure => simp [intOf]; try omega
set_option maxHeartbeats 1000000 in
theorem back_c (A : Option Addr) (m c : Nat) (w : World) :
    Calls Try.prog 77 #[.slice A m c] w fun e w' => e = .returned (.func (.func 94) #[] #[.pointer (some ⟨w.heap.size, 0, none⟩)]) ∧ w' = w.alloc (.cells #[.slice A m c] 88) := by
  go_enter Try.func77, Try.ntmps77
  go_wp2_with fail
  go_ret
  exact ⟨rfl, rfl⟩
end Go.Proofs.Ytamcchdblglfoaa.Ft
set_option linter.unusedVariables false
set_option linter.unusedSimpArgs false
namespace Go.Proofs.Ytamcchdblglfoaa.Ft
open Go.RowKit Go.Proofs.Ytamcchdblglfoaa.B0 Go.Proofs.Ytamcchdblglfoaa.Pf Go.Proofs.YtamcchdblglfoaaW.PrintWords

/-- what a node comes to, and whether it is gone. -/
inductive Fin (ns1 : List PN) (keep : Bool) (most : Int) : Nat → PN → Bool → Prop
  | root {j : Nat} {x : PN} : ns1[j]? = some x → x.par = -1 → Fin ns1 keep most j ⟨x.p, -1, 1, x.orp⟩ (!keep && x.orp)
  | cutd {j q : Nat} {x y : PN} {g : Bool} : ns1[j]? = some x → x.par = q → Fin ns1 keep most q y g → most ≤ y.dep → Fin ns1 keep most j ⟨x.p, -1, 1, true⟩ (!keep)
  | up {j q : Nat} {x y : PN} {g : Bool} : ns1[j]? = some x → x.par = q → Fin ns1 keep most q y g → y.dep < most → Fin ns1 keep most j ⟨x.p, q, y.dep + 1, x.orp⟩ ((!keep && x.orp) || g)
theorem Fin.dep {ns1 : List PN} {keep : Bool} {most : Int} {j : Nat} {y : PN} {g : Bool} (h : Fin ns1 keep most j y g) : 1 ≤ y.dep := by
  induction h with
  | root _ _ => exact Int.le_refl _
  | cutd _ _ _ _ _ => exact Int.le_refl _
  | up _ _ _ _ ih => show (1 : Int) ≤ _ + 1; omega
theorem Fin.unique {ns1 : List PN} {keep : Bool} {most : Int} {j : Nat} {y : PN} {g : Bool} (h : Fin ns1 keep most j y g) : ∀ {y' : PN} {g' : Bool}, Fin ns1 keep most j y' g' → y = y' ∧ g = g' := by
  induction h with
  | @root j x h1 h2 =>
    intro y' g' h'
    cases h' with
    | root k1 k2 => rw [h1] at k1; cases k1; exact ⟨rfl, rfl⟩
    | cutd k1 k2 _ _ => rw [h1] at k1; cases k1; omega
    | up k1 k2 _ _ => rw [h1] at k1; cases k1; omega
  | @cutd j q x y g h1 h2 h3 h4 ih =>
    intro y' g' h'
    cases h' with
    | root k1 k2 => rw [h1] at k1; cases k1; omega
    | cutd k1 k2 _ _ => rw [h1] at k1; cases k1; exact ⟨rfl, rfl⟩
    | @up _ q' _ y2 g2 k1 k2 k3 k4 =>
      rw [h1] at k1; cases k1
      have : q' = q := by omega
      subst this
      obtain ⟨rfl, _⟩ := ih k3
      omega
  | @up j q x y g h1 h2 h3 h4 ih =>
    intro y' g' h'
    cases h' with
    | root k1 k2 => rw [h1] at k1; cases k1; omega
    | @cutd _ q' _ y2 g2 k1 k2 k3 k4 =>
      rw [h1] at k1; cases k1
      have : q' = q := by omega
      subst this
      obtain ⟨rfl, _⟩ := ih k3
      omega
    | @up _ q' _ y2 g2 k1 k2 k3 k4 =>
      rw [h1] at k1; cases k1
      have : q' = q := by omega
      subst this
      obtain ⟨rfl, rfl⟩ := ih k3
      exact ⟨rfl, rfl⟩
/-- node j as it is: untouched, or what it comes to. -/
def At1 (ns1 : List PN) (keep : Bool) (most : Int) (ns : List PN) (gs : List Bool) (j : Nat) : Prop :=
  (∃ x, ns1[j]? = some x ∧ ns[j]? = some x ∧ gs[j]? = some false) ∨ ∃ y g, ns[j]? = some y ∧ gs[j]? = some g ∧ Fin ns1 keep most j y g
structure St (ns1 : List PN) (keep : Bool) (most : Int) (n : Nat) (ns : List PN) (gs : List Bool) : Prop where
  l1 : ns1.length = n
  ln : ns.length = n
  lg : gs.length = n
  raw : ∀ (j : Nat) (x : PN), ns1[j]? = some x → x.dep = 0
  ends : ∀ x : Int, Ends (pars ns1) x
  rng : InR (pars ns1)
  most1 : 1 ≤ most
  at1 : ∀ j, j < n → At1 ns1 keep most ns gs j
/-- node j is done. -/
def Dn (ns1 : List PN) (keep : Bool) (most : Int) (ns : List PN) (gs : List Bool) (j : Nat) : Prop := ∃ y g, ns[j]? = some y ∧ gs[j]? = some g ∧ Fin ns1 keep most j y g
theorem St.raw_of {ns1 ns : List PN} {keep : Bool} {most : Int} {n : Nat} {gs : List Bool} (h : St ns1 keep most n ns gs) {j : Nat} {y : PN} (hy : ns[j]? = some y) (h0 : y.dep = 0) : ns1[j]? = some y ∧ gs[j]? = some false := by
  have hj : j < n := by rw [← h.ln]; exact (List.getElem?_eq_some_iff.1 hy).1
  rcases h.at1 j hj with ⟨x, h1, h2, h3⟩ | ⟨y', g, h1, h2, h3⟩
  · rw [h2] at hy; cases hy; exact ⟨h1, h3⟩
  · rw [h1] at hy; cases hy
    have := h3.dep; omega
theorem St.dn_of {ns1 ns : List PN} {keep : Bool} {most : Int} {n : Nat} {gs : List Bool} (h : St ns1 keep most n ns gs) {j : Nat} {y : PN} (hy : ns[j]? = some y) (h0 : y.dep ≠ 0) : ∃ g, gs[j]? = some g ∧ Fin ns1 keep most j y g := by
  have hj : j < n := by rw [← h.ln]; exact (List.getElem?_eq_some_iff.1 hy).1
  rcases h.at1 j hj with ⟨x, h1, h2, h3⟩ | ⟨y', g, h1, h2, h3⟩
  · rw [h2] at hy; cases hy; exact absurd (h.raw j _ h1) h0
  · rw [h1] at hy; cases hy; exact ⟨g, h2, h3⟩
theorem St.set {ns1 ns : List PN} {keep : Bool} {most : Int} {n : Nat} {gs : List Bool} (h : St ns1 keep most n ns gs) {j : Nat} (hj : j < n) {y : PN} {g : Bool} (hf : Fin ns1 keep most j y g) : St ns1 keep most n (ns.set j y) (gs.set j g) where
  l1 := h.l1
  ln := by rw [List.length_set]; exact h.ln
  lg := by rw [List.length_set]; exact h.lg
  raw := h.raw
  ends := h.ends
  rng := h.rng
  most1 := h.most1
  at1 := fun i hi => by
    by_cases e : j = i
    · subst e
      exact .inr ⟨y, g, by rw [List.getElem?_set_self (by rw [h.ln]; exact hj)], by rw [List.getElem?_set_self (by rw [h.lg]; exact hj)], hf⟩
    · rcases h.at1 i hi with ⟨x, h1, h2, h3⟩ | ⟨y', g', h1, h2, h3⟩
      · exact .inl ⟨x, h1, by rw [List.getElem?_set_ne e]; exact h2, by rw [List.getElem?_set_ne e]; exact h3⟩
      · exact .inr ⟨y', g', by rw [List.getElem?_set_ne e]; exact h1, by rw [List.getElem?_set_ne e]; exact h2, h3⟩
theorem Dn.set {ns1 ns : List PN} {keep : Bool} {most : Int} {n : Nat} {gs : List Bool} (h : St ns1 keep most n ns gs) {i j : Nat} (hj : j < n) {y : PN} {g : Bool} (hf : Fin ns1 keep most j y g) (hd : Dn ns1 keep most ns gs i) : Dn ns1 keep most (ns.set j y) (gs.set j g) i := by
  by_cases e : j = i
  · subst e
    exact ⟨y, g, by rw [List.getElem?_set_self (by rw [h.ln]; exact hj)], by rw [List.getElem?_set_self (by rw [h.lg]; exact hj)], hf⟩
  · obtain ⟨y', g', h1, h2, h3⟩ := hd
    exact ⟨y', g', by rw [List.getElem?_set_ne e]; exact h1, by rw [List.getElem?_set_ne e]; exact h2, h3⟩
/-- a way up. -/
def Ch (l : List Int) : Int → List Int → Int → Prop
  | x, [], k => x = k
  | x, y :: ws, k => x = y ∧ Ch l (nx l x) ws k
theorem Ch.snoc {l : List Int} : ∀ {ws : List Int} {x k : Int}, Ch l x ws k → Ch l x (ws ++ [k]) (nx l k)
  | [], x, k, h => by obtain rfl : x = k := h; exact ⟨rfl, rfl⟩
  | y :: ws, x, k, h => ⟨h.1, Ch.snoc h.2⟩
theorem Ch.pop {l : List Int} : ∀ {ws : List Int} {x y k : Int}, Ch l x (ws ++ [y]) k → Ch l x ws y ∧ nx l y = k
  | [], x, y, k, h => by obtain ⟨rfl, h2⟩ := h; exact ⟨rfl, h2⟩
  | z :: ws, x, y, k, h => ⟨⟨h.1, (Ch.pop h.2).1⟩, (Ch.pop h.2).2⟩
theorem Ch.rch {l : List Int} : ∀ {ws : List Int} {x k : Int}, Ch l x ws k → (∀ z ∈ ws, 0 ≤ z) → ∀ z ∈ ws, Rch l z k
  | [], x, k, h, _, z, hz => by simp at hz
  | y :: ws, x, k, h, hp, z, hz => by
    obtain ⟨rfl, h2⟩ := h
    have hx := hp x (by simp)
    have first : Rch l x k := by
      cases ws with
      | nil => have : nx l x = k := h2; rw [← this]; exact .one hx
      | cons w ws =>
        have e : nx l x = w := h2.1
        have := Ch.rch h2 (fun z hz => hp z (by simp at hz ⊢; exact .inr hz)) w (by simp)
        exact .step hx (by rw [e]; exact this)
    rcases List.mem_cons.1 hz with rfl | hz
    · exact first
    · exact Ch.rch h2 (fun z hz => hp z (List.mem_cons_of_mem _ hz)) z hz
/-- the way has come to k. -/
structure Wy (ns1 : List PN) (keep : Bool) (most : Int) (n : Nat) (ns : List PN) (gs : List Bool) (i : Nat) (ws : List Int) (k : Int) : Prop where
  st : St ns1 keep most n ns gs
  ch : Ch (pars ns1) (i : Int) ws k
  rawW : ∀ z ∈ ws, ∃ (zn : Nat) (x : PN), z = zn ∧ ns1[zn]? = some x ∧ ns[zn]? = some x ∧ gs[zn]? = some false
  rk : k = -1 ∨ (0 ≤ k ∧ k < n)
theorem Ch.reach {l : List Int} : ∀ {ws : List Int} {x k : Int}, Ch l x ws k → (∀ z ∈ ws, 0 ≤ z) → ∀ z ∈ ws, z = x ∨ Rch l x z
  | [], x, k, h, _, z, hz => by simp at hz
  | y :: ws, x, k, h, hp, z, hz => by
    obtain ⟨rfl, h2⟩ := h
    have hx := hp x (by simp)
    rcases List.mem_cons.1 hz with rfl | hz
    · exact .inl rfl
    · rcases Ch.reach h2 (fun z hz => hp z (List.mem_cons_of_mem _ hz)) z hz with e | e
      · right; rw [e]; exact .one hx
      · exact .inr (.step hx e)
theorem Ch.nodup {l : List Int} (he : ∀ x, Ends l x) : ∀ {ws : List Int} {x k : Int}, Ch l x ws k → (∀ z ∈ ws, 0 ≤ z) → ws.Nodup
  | [], x, k, h, _ => by simp
  | y :: ws, x, k, h, hp => by
    obtain ⟨rfl, h2⟩ := h
    have hx := hp x (by simp)
    have hp' : ∀ z ∈ ws, 0 ≤ z := fun z hz => hp z (List.mem_cons_of_mem _ hz)
    rw [List.nodup_cons]
    refine ⟨fun hz => ?_, Ch.nodup he h2 hp'⟩
    rcases Ch.reach h2 hp' x hz with e | e
    · refine (he x).noring ?_
      have := Rch.one (l := l) hx
      rw [← e] at this; exact this
    · exact (he x).noring (.step hx e)
theorem nodup_bound : ∀ (n : Nat) (l : List Int), l.Nodup → (∀ z ∈ l, 0 ≤ z ∧ z < n) → l.length ≤ n
  | 0, l, _, hb => by
    cases l with
    | nil => simp
    | cons x l => have := hb x (by simp); omega
  | n + 1, l, hn, hb => by
    by_cases h : (n : Int) ∈ l
    · have h1 := nodup_bound n (l.erase (n : Int)) (hn.erase _) (fun z hz => by
        have := (List.Nodup.mem_erase_iff hn).1 hz
        have := hb z this.2
        omega)
      rw [List.length_erase_of_mem h] at h1
      omega
    · have h1 := nodup_bound n l hn (fun z hz => by
        have h2 := hb z hz
        have : z ≠ n := fun e => h (e ▸ hz)
        omega)
      omega
theorem Wy.len {ns1 ns : List PN} {keep : Bool} {most : Int} {n i : Nat} {gs : List Bool} {ws : List Int} {k : Int} (h : Wy ns1 keep most n ns gs i ws k) : ws.length ≤ n := by
  have hr : ∀ z ∈ ws, 0 ≤ z ∧ z < n := fun z hz => by
    obtain ⟨zn, x, rfl, h1, _, _⟩ := h.rawW z hz
    have := (List.getElem?_eq_some_iff.1 h1).1
    rw [h.st.l1] at this
    omega
  exact nodup_bound n ws (Ch.nodup h.st.ends h.ch (fun z hz => (hr z hz).1)) hr
theorem Wy.step {ns1 ns : List PN} {keep : Bool} {most : Int} {n i kn : Nat} {gs : List Bool} {ws : List Int} (h : Wy ns1 keep most n ns gs i ws (kn : Int)) {y : PN} (hy : ns[kn]? = some y) (h0 : y.dep = 0) : Wy ns1 keep most n ns gs i (ws ++ [(kn : Int)]) y.par where
  st := h.st
  ch := by
    have := h.ch.snoc
    rw [nx_pars (h.st.raw_of hy h0).1] at this; exact this
  rawW := fun z hz => by
    rcases List.mem_append.1 hz with hz | hz
    · exact h.rawW z hz
    · obtain rfl : z = kn := by simpa using hz
      exact ⟨kn, y, rfl, (h.st.raw_of hy h0).1, hy, (h.st.raw_of hy h0).2⟩
  rk := by
    have := h.st.rng (kn : Int)
    rw [nx_pars (h.st.raw_of hy h0).1, pars_len, h.st.l1] at this; exact this
/-- going back: what is left of the way, and where it leads. -/
structure Bk (ns1 : List PN) (keep : Bool) (most : Int) (n : Nat) (ns : List PN) (gs : List Bool) (i : Nat) (rs : List Int) (k : Int) : Prop where
  wy : Wy ns1 keep most n ns gs i rs k
  dk : k = -1 ∨ ∃ kn : Nat, k = kn ∧ Dn ns1 keep most ns gs kn
theorem Bk.pop {ns1 ns : List PN} {keep : Bool} {most : Int} {n i : Nat} {gs : List Bool} {rs : List Int} {x k : Int} (h : Bk ns1 keep most n ns gs i (rs ++ [x]) k) :
    ∃ (xn : Nat) (y : PN), x = xn ∧ xn < n ∧ ns1[xn]? = some y ∧ ns[xn]? = some y ∧ gs[xn]? = some false ∧ y.par = k ∧ y.dep = 0 := by
  obtain ⟨xn, y, rfl, h1, h2, h3⟩ := h.wy.rawW x (by simp)
  have hp := h.wy.ch.pop.2
  rw [nx_pars h1] at hp
  exact ⟨xn, y, rfl, by rw [← h.wy.st.l1]; exact (List.getElem?_eq_some_iff.1 h1).1, h1, h2, h3, hp, h.wy.st.raw _ _ h1⟩
theorem Bk.step {ns1 ns : List PN} {keep : Bool} {most : Int} {n i xn : Nat} {gs : List Bool} {rs : List Int} {k : Int} (h : Bk ns1 keep most n ns gs i (rs ++ [(xn : Int)]) k) (hx : xn < n) {y : PN} {g : Bool} (hf : Fin ns1 keep most xn y g) :
    Bk ns1 keep most n (ns.set xn y) (gs.set xn g) i rs (xn : Int) where
  wy := {
    st := h.wy.st.set hx hf
    ch := h.wy.ch.pop.1
    rawW := fun z hz => by
      obtain ⟨zn, x, rfl, h1, h2, h3⟩ := h.wy.rawW z (List.mem_append_left _ hz)
      have hne : xn ≠ zn := by
        intro e
        have hr := Ch.rch h.wy.ch.pop.1 (fun z hz => by
          obtain ⟨zn, _, rfl, _⟩ := h.wy.rawW z (List.mem_append_left _ hz)
          omega) (zn : Int) hz
        rw [← e] at hr
        exact (h.wy.st.ends _).noring hr
      exact ⟨zn, x, rfl, h1, by rw [List.getElem?_set_ne hne]; exact h2, by rw [List.getElem?_set_ne hne]; exact h3⟩
    rk := .inr ⟨by omega, by omega⟩ }
  dk := .inr ⟨xn, rfl, y, g, by rw [List.getElem?_set_self (by rw [h.wy.st.ln]; exact hx)], by rw [List.getElem?_set_self (by rw [h.wy.st.lg]; exact hx)], hf⟩
end Go.Proofs.Ytamcchdblglfoaa.Ft
