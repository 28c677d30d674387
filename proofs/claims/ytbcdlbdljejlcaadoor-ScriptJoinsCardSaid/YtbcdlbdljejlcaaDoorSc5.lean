/- script: bytes (of digits), as a Call. -/
import Derived.Test.YtbcdlbdljejlcaaDoorSc4
import Derived.LoopTactic
import Derived.Lib.OthersKept
import Derived.Laws.RangeAny
import Derived.WalkSmall
import Derived.WalkSpells
set_option linter.unusedVariables false
set_option linter.unusedSimpArgs false
namespace Go.Proofs.YtbcdlbdljejlcaaDoor.Sc
open Go.RowKit Go.Proofs.YtbcdlbdljejlcaaDoor.B0 Go.Proofs.YtbcdlbdljejlcaaDoor.Ps Go.Proofs.YtbcdlbdljejlcaaDoorW.PrintWords Go.Proofs.YtbcdlbdljejlcaaDoor.Bld

/-- bytes of the call's own. -/
def OB (w : World) (base : Nat) (v : Value) (xs : List Int) : Prop := w.ownsRow base 5 1 v xs.length (nums .u8 xs)
theorem OB.reads {w : World} {base : Nat} {v : Value} {xs : List Int} (h : OB w base v xs) : ∃ A c, v = .slice A xs.length c ∧ ReadsInt w .u8 A xs.length xs := own_reads h
theorem OB.below {w w' : World} {base : Nat} {v : Value} {xs : List Int} (h : OB w base v xs) (hb : Below w.heap.size w w') : OB w' base v xs := pw_own_below h hb
theorem OB.lower {w : World} {base b : Nat} {v : Value} {xs : List Int} (h : OB w base v xs) (hb : b ≤ base) : OB w b v xs := by
  refine ⟨h.1, ?_⟩
  rcases h.2 with h0 | ⟨g, cap, cur, e1, e2, e3⟩
  · exact .inl h0
  · exact .inr ⟨g, cap, cur, e1, by omega, e3⟩
theorem OB.cap {w : World} {base : Nat} {v : Value} {xs : List Int} (h : OB w base v xs) : ∃ A c, v = .slice A xs.length c ∧ xs.length ≤ c ∧ ReadsInt w .u8 A xs.length xs := by
  obtain ⟨A, c, rfl, hr⟩ := h.reads
  rcases h.2 with ⟨e, h0⟩ | ⟨g, cap, cur, e, _, _, hc, _⟩
  · exact ⟨_, _, rfl, by omega, hr⟩
  · simp only [Value.slice.injEq] at e
    obtain ⟨_, _, rfl⟩ := e
    exact ⟨_, _, rfl, hc, hr⟩
theorem info5 : (Tryd.prog.info? 5).map (fun i => (i.zero, i.size, i.bytes)) = some (some (.int .u8 0), 1, 1) := by kernel_rfl

theorem OB.iterAt {w : World} {k : Nat} {v : Value} {xs : List Int} (h : OB w (k + 1) v xs) (s : ByteArray) (p : Nat) : OB (w.iterAt k s p) (k + 1) v xs := by
  refine ⟨h.1, ?_⟩
  rcases h.2 with h0 | ⟨g, cap, cur, e1, e2, e3, e4⟩
  · exact .inl h0
  · exact .inr ⟨g, cap, cur, e1, e2, (Lib.iterAt_other w k g s p (by omega)).trans e3, e4⟩
theorem OB.nil (w : World) (B : Nat) : OB w B (.slice none 0 0) [] := World.ownsRow_nil _ _ _ _

theorem unL_snoc : ∀ (l : List UInt8) (a b : UInt8), l.length % 2 = 0 → unL (l ++ [a, b]) = unL l ++ [((16 * (hv a).getD 0 + (hv b).getD 0 : Nat) : Int)]
  | [], _, _, _ => rfl
  | [x], _, _, h => by simp at h
  | x :: y :: r, a, b, h => by
    have ih := unL_snoc r a b (by simp at h; omega)
    show _ :: unL (r ++ [a, b]) = _
    rw [ih]; rfl
theorem unL_len : ∀ (l : List UInt8), (unL l).length = l.length / 2
  | [] => rfl
  | [_] => by simp [unL]
  | _ :: _ :: r => by show (unL r).length + 1 = (r.length + 1 + 1) / 2; rw [unL_len r]; omega
theorem isHex_take (l : List UInt8) (p : Nat) (h : p < l.length) (h1 : isHex (l.take p) = true) (h2 : (hv l[p]).isSome = true) : isHex (l.take (p + 1)) = true := by
  rw [List.take_succ_eq_append_getElem h]
  unfold isHex at h1 ⊢
  rw [List.all_append, h1]
  simp [h2]
theorem unhex_not (l : List UInt8) (p : Nat) (h : p < l.length) (hne : l ≠ [45]) (h2 : hv l[p] = none) : unhex l = none := by
  unfold unhex
  rw [if_neg hne, if_neg]
  rintro ⟨h1, _⟩
  have := List.all_eq_true.1 h1 l[p] (List.getElem_mem h)
  rw [h2] at this; cases this
theorem half_or (h n : Nat) (h1 : h < 16) (h2 : n < 16) : Go.bits .or .u8 ((h : Int) * 16) (n : Int) = ((16 * h + n : Nat) : Int) := by
  have key : (List.range 256).all (fun a => Go.bits .or .u8 (((a / 16 : Nat) : Int) * 16) ((a % 16 : Nat) : Int) == ((16 * (a / 16) + a % 16 : Nat) : Int)) = true := by kernel_rfl
  have := List.all_eq_true.1 key (16 * h + n) (List.mem_range.2 (by omega))
  rw [show (16 * h + n) / 16 = h from by omega, show (16 * h + n) % 16 = n from by omega] at this
  simpa using this

theorem unL_step (L : List UInt8) (q : Nat) (a b : UInt8) (h n : Nat) (ha : L[2 * q]? = some a) (hb : L[2 * q + 1]? = some b) (h1 : hv a = some h) (h2 : hv b = some n) : unL (L.take (2 * q + 2)) = unL (L.take (2 * q)) ++ [((16 * h + n : Nat) : Int)] := by
  obtain ⟨la, ea⟩ := List.getElem?_eq_some_iff.1 ha
  obtain ⟨lb, eb⟩ := List.getElem?_eq_some_iff.1 hb
  rw [show 2 * q + 2 = 2 * q + 1 + 1 from rfl, List.take_succ_eq_append_getElem lb, List.take_succ_eq_append_getElem la, ea, eb, List.append_assoc]
  show unL (L.take (2 * q) ++ [a, b]) = _
  rw [unL_snoc _ _ _ (by rw [List.length_take]; omega), h1, h2]; rfl

set_option maxHeartbeats 4000000 in
set_option maxRecDepth 100000 in
theorem bytes_c (s : ByteArray) (hs : s.size ≤ 5000000) (w : World) :
    Calls Tryd.prog 25 #[.string s] w fun e w' => ∃ v xs, e = .returned (.tuple #[v, .bool (unhex s.data.toList).isSome]) ∧ (∀ ys, unhex s.data.toList = some ys → xs = ys) ∧ OB w' w.heap.size v xs ∧ Below w.heap.size w w' := by
  by_cases h45 : s.data.toList = [45]
  · obtain rfl : s = ⟨#[45]⟩ := by
      obtain ⟨⟨l⟩⟩ := s; simp at h45; subst h45; rfl
    go_enter Tryd.func25, Tryd.ntmps25
    go_wp2_with fail
    go_ret2
    exact ⟨_, rfl, [], fun ys h => (by injection h), OB.nil _ _, Below.refl _ _⟩
  have hq : (s.toList == [45]) = false := by rw [ba_toList]; exact beq_eq_false_iff_ne.2 h45
  have H45 := Lib.hid h45; clear h45
  go_enter Tryd.func25, Tryd.ntmps25
  go_wp2_with fail
  have hq0 : IntKind.i64.wrap 0 = 0 := by decide
  obtain ⟨L, HLs⟩ : ∃ L, Hid (L = s.data.toList) := ⟨_, Lib.hid rfl⟩
  have hLl : L.length = s.size := by rw [HLs.out]; rfl
  have HLl := Lib.hid hLl; clear hLl
  go_loopw [4, 5] (fun bv hv' wr => ∃ (pos h : Nat), hv' = .int .u8 h ∧ h < 16 ∧ Hid (pos ≤ s.size ∧ wr.heap[w.heap.size]? = some (.stringIter s pos) ∧ OB wr (w.heap.size + 1) bv (unL (L.take (2 * (pos / 2)))) ∧ Below w.heap.size w wr ∧ isHex (L.take pos) = true ∧ (pos % 2 = 1 → (L.getD (pos - 1) 0 |> hv) = some h))) (fun _ _ wr => s.size - wr.iterPos w.heap.size)
  case atStart =>
    refine ⟨0, 0, rfl, by decide, Nat.zero_le _, World.iter_heap w s 0, OB.nil _ _, (Below.refl _ _).alloc (Nat.le_refl _) _, rfl, fun h => absurd h (by decide)⟩
  case round =>
    obtain ⟨pos, h, rfl, hh, HW⟩ := hrel
    have hsz : w.heap.size < wr.heap.size := (Array.getElem?_eq_some_iff.1 HW.out.2.1).1
    by_cases hp : pos < s.size
    · have hnx : ∀ ty, (Instr.next (.pointer (some ⟨w.heap.size, 0, none⟩)) true ty).run Tryd.prog wr = _ := fun ty => Lib.run_next_any_at wr w.heap.size s pos ty HW.out.2.1 hp
      obtain ⟨r, hr⟩ : ∃ r : Nat, Hid ((Utf8.decode s pos).1 = r) := ⟨_, Lib.hid rfl⟩
      obtain ⟨wd, hwd⟩ : ∃ wd : Nat, Hid ((Utf8.decode s pos).2 = wd) := ⟨_, Lib.hid rfl⟩
      obtain ⟨c, hc⟩ : ∃ c, Hid (L[pos]? = some c) := by
        have hpl : pos < L.length := by rw [HLl.out]; exact hp
        exact ⟨L[pos], Lib.hid (List.getElem?_eq_getElem hpl)⟩
      have hrc : Hid ((c.toNat = r ∧ wd = 1) ∨ (128 ≤ r ∧ hv c = none)) := by
        have h2 : s.data.toList[pos]? = some c := by rw [← HLs.out]; exact hc.out
        obtain ⟨_, e⟩ := List.getElem?_eq_some_iff.1 h2
        have e2 : s[pos]'hp = c := e
        rcases Nat.lt_or_ge c.toNat 128 with h128 | h128
        · have := decode_ascii s pos hp (by rw [e2]; exact h128)
          rw [this] at hr hwd
          exact .inl ⟨by rw [← hr.out, e2], hwd.out.symm⟩
        · have := decode_high s pos hp (by rw [e2]; exact h128)
          refine .inr ⟨by rw [← hr.out]; exact this.1, ?_⟩
          unfold hv
          rw [if_neg (by omega), if_neg (by omega)]
      have hrm : (r : Int) ≤ 2147483647 := by have := decode_le s pos; have h2 := hr.out; omega
      rw [hr.out, hwd.out] at hnx
      obtain ⟨wn, hwn⟩ : ∃ wn : World, Hid (wr.iterAt w.heap.size s (pos + wd) = wn) := ⟨_, Lib.hid rfl⟩
      rw [hwn.out] at hnx
      by_cases hdg : 48 ≤ r ∧ r ≤ 57
      · obtain ⟨n, hn, hn16⟩ : ∃ n : Nat, (n : Int) = (r : Int) - 48 ∧ n < 16 := ⟨r - 48, by omega, by omega⟩
        have hr48 : decide ((48 : Int) ≤ r) = true := decide_eq_true (by omega)
        have hr57 : decide ((r : Int) ≤ 57) = true := decide_eq_true (by omega)
        have hcv : Hid (hv c = some n) := Lib.hid (by rcases hrc.out with ⟨e, _⟩ | ⟨h128, _⟩
                                                      · unfold hv; rw [e]; rw [if_pos (by omega)]; congr 1; omega
                                                      · omega)
        have hwd1 : wd = 1 := by rcases hrc.out with ⟨_, e⟩ | ⟨h128, _⟩ <;> omega
        subst hwd1
        have HN : Hid (pos + 1 ≤ s.size ∧ wn.heap[w.heap.size]? = some (.stringIter s (pos + 1)) ∧ Below w.heap.size w wn ∧ isHex (L.take (pos + 1)) = true ∧ hv (L.getD pos 0) = some n) := by
          have hb := Lib.iterAt_heap wr w.heap.size s pos (pos + 1) HW.out.2.1
          have hb2 := Lib.below_iterAt HW.out.2.2.2.1 (k := w.heap.size) (Nat.le_refl _) s (pos + 1)
          rw [hwn.out] at hb hb2
          obtain ⟨hpl, ec⟩ := List.getElem?_eq_some_iff.1 hc.out
          refine ⟨hp, hb, hb2, isHex_take L pos hpl HW.out.2.2.2.2.1 (by rw [ec, hcv.out]; rfl), ?_⟩
          rw [List.getD_eq_getElem?_getD, hc.out]; exact hcv.out
        have HO : Hid (OB wn (w.heap.size + 1) u4 (unL (L.take (2 * (pos / 2))))) := by
          have hb := HW.out.2.2.1.iterAt s (pos + 1)
          rw [hwn.out] at hb
          exact hb
        have hms : wr.iterPos w.heap.size = pos := iterPos_of HW.out.2.1
        by_cases hev : pos % 2 = 0
        · have hevi : ((pos : Int) % 2 == 0) = true := by rw [beq_iff_eq]; omega
          go_wp2_with fail
          go_roundw
          case rel => exact ⟨pos + 1, n, by rw [← hn], hn16, HN.out.1, HN.out.2.1, (by rw [show 2 * ((pos + 1) / 2) = 2 * (pos / 2) from by omega]; exact HO.out), HN.out.2.2.1, HN.out.2.2.2.1, fun _ => HN.out.2.2.2.2⟩
          case measure => rw [iterPos_of HN.out.2.1, hms]; omega
        · have hevi : ((pos : Int) % 2 == 0) = false := by rw [beq_eq_false_iff_ne]; omega
          have hor : Go.bits .or .u8 ((h : Int) * 16) ((r : Int) - 48) = ((16 * h + n : Nat) : Int) := by rw [← half_or h n hh hn16, hn]
          have hxl : Hid ((unL (L.take (2 * (pos / 2)))).length ≤ 2500000) := by
            have h1 := unL_len (L.take (2 * (pos / 2))); have h2 := List.length_take_le' (2 * (pos / 2)) L; have h3 := HLl.out
            exact Lib.hid (by omega)
          have hwz : Hid (w.heap.size + 1 ≤ wn.heap.size) := Lib.hid (Array.getElem?_eq_some_iff.1 HN.out.2.1).1
          go_wp2_with (at_builtin; go_loud (refine print_append_num (w0 := wn) (w.heap.size + 1) rfl _ _ 30 5 .u8 1 rfl Tryd.underlying30 info5 (by decide) u4 (unL (L.take (2 * (pos / 2)))) _ rfl rfl HO.out (Below.refl _ _) hwz.out (by have := hxl.out; omega) ?_))
          intro v2 w2 h1 h2 h3 h4
          have K1 : Hid (OB w2 (w.heap.size + 1) v2 (unL (L.take (2 * ((pos + 1) / 2))))) := by
            have hL1 : L[2 * (pos / 2)]? = some (L.getD (pos - 1) 0) := by
              rw [show 2 * (pos / 2) = pos - 1 from by omega, List.getD_eq_getElem?_getD, List.getElem?_eq_getElem (by have h3 := HLl.out; omega)]; rfl
            have hL2 : L[2 * (pos / 2) + 1]? = some c := by rw [show 2 * (pos / 2) + 1 = pos from by omega]; exact hc.out
            have e := unL_step L (pos / 2) _ c h n hL1 hL2 (HW.out.2.2.2.2.2 (by omega)) hcv.out
            rw [show 2 * ((pos + 1) / 2) = 2 * (pos / 2) + 2 from by omega, e]
            rw [show 16 * (h : Int) + ((r : Int) - 48) = ((16 * h + n : Nat) : Int) from by omega] at h1
            unfold OB; rw [List.length_append]; exact h1
          have K2 : Hid (w2.heap[w.heap.size]? = some (.stringIter s (pos + 1)) ∧ Below w.heap.size w w2) :=
            ⟨(h2.block _ (Nat.lt_succ_self _)).trans HN.out.2.1, HN.out.2.2.1.trans (h2.mono (Nat.le_succ _))⟩
          clear h1 h2 h3 h4
          go_wp2_with fail
          go_roundw
          case rel => exact ⟨pos + 1, h, rfl, hh, HN.out.1, K2.out.1, K1.out, K2.out.2, HN.out.2.2.2.1, fun h => absurd h (by omega)⟩
          case measure => rw [iterPos_of K2.out.1, hms]; omega
      · by_cases hlt : 97 ≤ r ∧ r ≤ 102
        · obtain ⟨n, hn, hn16⟩ : ∃ n : Nat, (n : Int) = (r : Int) - 97 + 10 ∧ n < 16 := ⟨r - 87, by omega, by omega⟩
          have hr48 : decide ((97 : Int) ≤ r) = true := decide_eq_true (by omega)
          have hr57x : decide ((r : Int) ≤ 57) = false := decide_eq_false (by omega)
          have hr48x : decide ((48 : Int) ≤ r) = true := decide_eq_true (by omega)
          have hr57 : decide ((r : Int) ≤ 102) = true := decide_eq_true (by omega)
          have hcv : Hid (hv c = some n) := Lib.hid (by rcases hrc.out with ⟨e, _⟩ | ⟨h128, _⟩
                                                        · unfold hv; rw [e]; rw [if_neg (by omega), if_pos (by omega)]; congr 1; omega
                                                        · omega)
          have hwd1 : wd = 1 := by rcases hrc.out with ⟨_, e⟩ | ⟨h128, _⟩ <;> omega
          subst hwd1
          have HN : Hid (pos + 1 ≤ s.size ∧ wn.heap[w.heap.size]? = some (.stringIter s (pos + 1)) ∧ Below w.heap.size w wn ∧ isHex (L.take (pos + 1)) = true ∧ hv (L.getD pos 0) = some n) := by
            have hb := Lib.iterAt_heap wr w.heap.size s pos (pos + 1) HW.out.2.1
            have hb2 := Lib.below_iterAt HW.out.2.2.2.1 (k := w.heap.size) (Nat.le_refl _) s (pos + 1)
            rw [hwn.out] at hb hb2
            obtain ⟨hpl, ec⟩ := List.getElem?_eq_some_iff.1 hc.out
            refine ⟨hp, hb, hb2, isHex_take L pos hpl HW.out.2.2.2.2.1 (by rw [ec, hcv.out]; rfl), ?_⟩
            rw [List.getD_eq_getElem?_getD, hc.out]; exact hcv.out
          have HO : Hid (OB wn (w.heap.size + 1) u4 (unL (L.take (2 * (pos / 2))))) := by
            have hb := HW.out.2.2.1.iterAt s (pos + 1)
            rw [hwn.out] at hb
            exact hb
          have hms : wr.iterPos w.heap.size = pos := iterPos_of HW.out.2.1
          by_cases hev : pos % 2 = 0
          · have hevi : ((pos : Int) % 2 == 0) = true := by rw [beq_iff_eq]; omega
            go_wp2_with fail
            go_roundw
            case rel => exact ⟨pos + 1, n, by rw [← hn], hn16, HN.out.1, HN.out.2.1, (by rw [show 2 * ((pos + 1) / 2) = 2 * (pos / 2) from by omega]; exact HO.out), HN.out.2.2.1, HN.out.2.2.2.1, fun _ => HN.out.2.2.2.2⟩
            case measure => rw [iterPos_of HN.out.2.1, hms]; omega
          · have hevi : ((pos : Int) % 2 == 0) = false := by rw [beq_eq_false_iff_ne]; omega
            have hor : Go.bits .or .u8 ((h : Int) * 16) ((r : Int) - 97 + 10) = ((16 * h + n : Nat) : Int) := by rw [← half_or h n hh hn16, hn]
            have hxl : Hid ((unL (L.take (2 * (pos / 2)))).length ≤ 2500000) := by
              have h1 := unL_len (L.take (2 * (pos / 2))); have h2 := List.length_take_le' (2 * (pos / 2)) L; have h3 := HLl.out
              exact Lib.hid (by omega)
            have hwz : Hid (w.heap.size + 1 ≤ wn.heap.size) := Lib.hid (Array.getElem?_eq_some_iff.1 HN.out.2.1).1
            go_wp2_with (at_builtin; go_loud (refine print_append_num (w0 := wn) (w.heap.size + 1) rfl _ _ 30 5 .u8 1 rfl Tryd.underlying30 info5 (by decide) u4 (unL (L.take (2 * (pos / 2)))) _ rfl rfl HO.out (Below.refl _ _) hwz.out (by have := hxl.out; omega) ?_))
            intro v2 w2 h1 h2 h3 h4
            have K1 : Hid (OB w2 (w.heap.size + 1) v2 (unL (L.take (2 * ((pos + 1) / 2))))) := by
              have hL1 : L[2 * (pos / 2)]? = some (L.getD (pos - 1) 0) := by
                rw [show 2 * (pos / 2) = pos - 1 from by omega, List.getD_eq_getElem?_getD, List.getElem?_eq_getElem (by have h3 := HLl.out; omega)]; rfl
              have hL2 : L[2 * (pos / 2) + 1]? = some c := by rw [show 2 * (pos / 2) + 1 = pos from by omega]; exact hc.out
              have e := unL_step L (pos / 2) _ c h n hL1 hL2 (HW.out.2.2.2.2.2 (by omega)) hcv.out
              rw [show 2 * ((pos + 1) / 2) = 2 * (pos / 2) + 2 from by omega, e]
              rw [show 16 * (h : Int) + ((r : Int) - 97 + 10) = ((16 * h + n : Nat) : Int) from by omega] at h1
              unfold OB; rw [List.length_append]; exact h1
            have K2 : Hid (w2.heap[w.heap.size]? = some (.stringIter s (pos + 1)) ∧ Below w.heap.size w w2) :=
              ⟨(h2.block _ (Nat.lt_succ_self _)).trans HN.out.2.1, HN.out.2.2.1.trans (h2.mono (Nat.le_succ _))⟩
            clear h1 h2 h3 h4
            go_wp2_with fail
            go_roundw
            case rel => exact ⟨pos + 1, h, rfl, hh, HN.out.1, K2.out.1, K1.out, K2.out.2, HN.out.2.2.2.1, fun h => absurd h (by omega)⟩
            case measure => rw [iterPos_of K2.out.1, hms]; omega
        · have hnone : hv c = none := by
            rcases hrc.out with ⟨e, _⟩ | ⟨_, e⟩
            · unfold hv; rw [e, if_neg hdg, if_neg hlt]
            · exact e
          have HU : Hid (unhex s.data.toList = none) := by
            obtain ⟨hpl, ec⟩ := List.getElem?_eq_some_iff.1 hc.out
            rw [← HLs.out]
            exact unhex_not L pos hpl (by rw [HLs.out]; exact H45.out) (by rw [ec]; exact hnone)
          have HB : Hid (Below w.heap.size w wn) := by
            have hb2 := Lib.below_iterAt HW.out.2.2.2.1 (k := w.heap.size) (Nat.le_refl _) s (pos + wd)
            rw [hwn.out] at hb2; exact hb2
          rcases (show r < 48 ∨ (57 < r ∧ r < 97) ∨ 102 < r by omega) with h1 | h1 | h1
          · have f1 : decide ((48 : Int) ≤ r) = false := decide_eq_false (by omega)
            have f2 : decide ((97 : Int) ≤ r) = false := decide_eq_false (by omega)
            go_wp2_with fail
            go_ret2
            exact ⟨_, [], by rw [HU.out]; rfl, fun ys h => (by rw [HU.out] at h; cases h), OB.nil _ _, HB.out⟩
          · have f1 : decide ((48 : Int) ≤ r) = true := decide_eq_true (by omega)
            have f3 : decide ((r : Int) ≤ 57) = false := decide_eq_false (by omega)
            have f2 : decide ((97 : Int) ≤ r) = false := decide_eq_false (by omega)
            go_wp2_with fail
            go_ret2
            exact ⟨_, [], by rw [HU.out]; rfl, fun ys h => (by rw [HU.out] at h; cases h), OB.nil _ _, HB.out⟩
          · have f1 : decide ((48 : Int) ≤ r) = true := decide_eq_true (by omega)
            have f3 : decide ((r : Int) ≤ 57) = false := decide_eq_false (by omega)
            have f2 : decide ((97 : Int) ≤ r) = true := decide_eq_true (by omega)
            have f4 : decide ((r : Int) ≤ 102) = false := decide_eq_false (by omega)
            go_wp2_with fail
            go_ret2
            exact ⟨_, [], by rw [HU.out]; rfl, fun ys h => (by rw [HU.out] at h; cases h), OB.nil _ _, HB.out⟩
    · obtain rfl : pos = s.size := by have := HW.out.1; omega
      have hnx : ∀ ty, (Instr.next (.pointer (some ⟨w.heap.size, 0, none⟩)) true ty).run Tryd.prog wr = _ := fun ty => Lib.run_next_end_at wr w.heap.size s s.size ty HW.out.2.1 (by omega)
      have hfull : Hid (isHex L = true ∧ unhex s.data.toList = (if s.size % 2 = 0 ∧ 0 < s.size then some (unL L) else none)) := by
        have h1 := HW.out.2.2.2.2.1
        rw [← HLl.out, List.take_length] at h1
        refine ⟨h1, ?_⟩
        rw [← HLs.out]
        unfold unhex
        rw [if_neg (by rw [HLs.out]; exact H45.out)]
        by_cases h0 : s.size % 2 = 0 ∧ 0 < s.size
        · rw [if_pos h0, if_pos ⟨h1, by rw [HLl.out]; exact h0.1, fun e => by have := HLl.out; rw [e] at this; simp at this; omega⟩]
        · rw [if_neg h0, if_neg]
          rintro ⟨_, h2, h3⟩
          have hl := HLl.out
          have : L.length ≠ 0 := fun e => h3 (List.eq_nil_of_length_eq_zero e)
          exact h0 ⟨by omega, by omega⟩
      have HO : Hid (OB wr w.heap.size u4 (unL (L.take (2 * (s.size / 2))))) := HW.out.2.2.1.lower (Nat.le_succ _)
      have HB : Hid (Below w.heap.size w wr) := HW.out.2.2.2.1
      by_cases hev : s.size % 2 = 0
      · have hevi : ((s.size : Int) % 2 == 0) = true := by rw [beq_iff_eq]; omega
        have he2 : 2 * (s.size / 2) = L.length := by rw [HLl.out]; omega
        rw [he2, List.take_length] at HO
        by_cases h0 : 0 < s.size
        · have h0i : decide (0 < s.size) = true := decide_eq_true (by omega)
          have hU : unhex s.data.toList = some (unL L) := by rw [hfull.out.2, if_pos ⟨hev, h0⟩]
          have HU := Lib.hid hU; clear hU
          clear hev he2 h0 hp
          go_wp2_with fail
          go_ret2
          exact ⟨_, unL L, by rw [HU.out]; rfl, fun ys h => (by rw [HU.out] at h; exact Option.some.inj h), HO.out, HB.out⟩
        · have h0i : decide (0 < s.size) = false := decide_eq_false (by omega)
          have hU : unhex s.data.toList = none := by rw [hfull.out.2, if_neg (fun h => h0 h.2)]
          have HU := Lib.hid hU; clear hU
          clear hev he2 h0 hp
          go_wp2_with fail
          go_ret2
          exact ⟨_, unL L, by rw [HU.out]; rfl, fun ys h => (by rw [HU.out] at h; cases h), HO.out, HB.out⟩
      · have hevi : ((s.size : Int) % 2 == 0) = false := by rw [beq_eq_false_iff_ne]; omega
        have hU : unhex s.data.toList = none := by rw [hfull.out.2, if_neg (fun h => hev h.1)]
        have HU := Lib.hid hU; clear hU
        clear hp
        go_wp2_with fail
        go_ret2
        exact ⟨_, _, by rw [HU.out]; rfl, fun ys h => (by rw [HU.out] at h; cases h), HO.out, HB.out⟩
end Go.Proofs.YtbcdlbdljejlcaaDoor.Sc
