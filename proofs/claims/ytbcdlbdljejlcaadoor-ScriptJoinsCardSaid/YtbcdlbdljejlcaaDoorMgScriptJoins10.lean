/- script: bytes (of digits), as a Call. script: step (of a line), as a Call. script: step, the last way; joined. -/
import Derived.Test.YtbcdlbdljejlcaaDoorMgScriptJoins9
import Derived.LoopTactic
import Derived.Lib.OthersKept
import Derived.Laws.RangeAny
import Derived.WalkSmall
import Derived.WalkSpells
set_option linter.unusedVariables false
set_option linter.unusedSimpArgs false
namespace Go.Proofs.YtbcdlbdljejlcaaDoor.Sc
open Go.RowKit Go.Proofs.YtbcdlbdljejlcaaDoor.B0 Go.Proofs.YtbcdlbdljejlcaaDoor.Ps Go.Proofs.YtbcdlbdljejlcaaDoorW.PrintWords Go.Proofs.YtbcdlbdljejlcaaDoor.Bld

/-- bytes of the call's own. -/
def OB (w : World) (base : Nat) (v : Value) (xs : List Int) : Prop := w.ownsRow base 5 1 v xs.length (nums .u8 xs)
theorem OB.reads {w : World} {base : Nat} {v : Value} {xs : List Int} (h : OB w base v xs) : ∃ A c, v = .slice A xs.length c ∧ ReadsInt w .u8 A xs.length xs := own_reads h
theorem OB.below {w w' : World} {base : Nat} {v : Value} {xs : List Int} (h : OB w base v xs) (hb : Below w.heap.size w w') : OB w' base v xs := pw_own_below h hb
theorem OB.lower {w : World} {base b : Nat} {v : Value} {xs : List Int} (h : OB w base v xs) (hb : b ≤ base) : OB w b v xs := by
  refine ⟨h.1, ?_⟩
  rcases h.2 with h0 | ⟨g, cap, cur, e1, e2, e3⟩
  · exact .inl h0
  · exact .inr ⟨g, cap, cur, e1, by omega, e3⟩
theorem OB.cap {w : World} {base : Nat} {v : Value} {xs : List Int} (h : OB w base v xs) : ∃ A c, v = .slice A xs.length c ∧ xs.length ≤ c ∧ ReadsInt w .u8 A xs.length xs := by
  obtain ⟨A, c, rfl, hr⟩ := h.reads
  rcases h.2 with ⟨e, h0⟩ | ⟨g, cap, cur, e, _, _, hc, _⟩
  · exact ⟨_, _, rfl, by omega, hr⟩
  · simp only [Value.slice.injEq] at e
    obtain ⟨_, _, rfl⟩ := e
    exact ⟨_, _, rfl, hc, hr⟩
theorem info5 : (Tryd.prog.info? 5).map (fun i => (i.zero, i.size, i.bytes)) = some (some (.int .u8 0), 1, 1) := by kernel_rfl

theorem OB.iterAt {w : World} {k : Nat} {v : Value} {xs : List Int} (h : OB w (k + 1) v xs) (s : ByteArray) (p : Nat) : OB (w.iterAt k s p) (k + 1) v xs := by
  refine ⟨h.1, ?_⟩
  rcases h.2 with h0 | ⟨g, cap, cur, e1, e2, e3, e4⟩
  · exact .inl h0
  · exact .inr ⟨g, cap, cur, e1, e2, (Lib.iterAt_other w k g s p (by omega)).trans e3, e4⟩
theorem OB.nil (w : World) (B : Nat) : OB w B (.slice none 0 0) [] := World.ownsRow_nil _ _ _ _

theorem unL_snoc : ∀ (l : List UInt8) (a b : UInt8), l.length % 2 = 0 → unL (l ++ [a, b]) = unL l ++ [((16 * (hv a).getD 0 + (hv b).getD 0 : Nat) : Int)]
  | [], _, _, _ => rfl
  | [x], _, _, h => by simp at h
  | x :: y :: r, a, b, h => by
    have ih := unL_snoc r a b (by simp at h; omega)
    show _ :: unL (r ++ [a, b]) = _
    rw [ih]; rfl
theorem unL_len : ∀ (l : List UInt8), (unL l).length = l.length / 2
  | [] => rfl
  | [_] => by simp [unL]
  | _ :: _ :: r => by show (unL r).length + 1 = (r.length + 1 + 1) / 2; rw [unL_len r]; omega
theorem isHex_take (l : List UInt8) (p : Nat) (h : p < l.length) (h1 : isHex (l.take p) = true) (h2 : (hv l[p]).isSome = true) : isHex (l.take (p + 1)) = true := by
  rw [List.take_succ_eq_append_getElem h]
  unfold isHex at h1 ⊢
  rw [List.all_append, h1]
  simp [h2]
theorem unhex_not (l : List UInt8) (p : Nat) (h : p < l.length) (hne : l ≠ [45]) (h2 : hv l[p] = none) : unhex l = none := by
  unfold unhex
  rw [if_neg hne, if_neg]
  rintro ⟨h1, _⟩
  have := List.all_eq_true.1 h1 l[p] (List.getElem_mem h)
  rw [h2] at this; cases this
theorem half_or (h n : Nat) (h1 : h < 16) (h2 : n < 16) : Go.bits .or .u8 ((h : Int) * 16) (n : Int) = ((16 * h + n : Nat) : Int) := by
  have key : (List.range 256).all (fun a => Go.bits .or .u8 (((a / 16 : Nat) : Int) * 16) ((a % 16 : Nat) : Int) == ((16 * (a / 16) + a % 16 : Nat) : Int)) = true := by kernel_rfl
  have := List.all_eq_true.1 key (16 * h + n) (List.mem_range.2 (by omega))
  rw [show (16 * h + n) / 16 = h from by omega, show (16 * h + n) % 16 = n from by omega] at this
  simpa using this

theorem unL_step (L : List UInt8) (q : Nat) (a b : UInt8) (h n : Nat) (ha : L[2 * q]? = some a) (hb : L[2 * q + 1]? = some b) (h1 : hv a = some h) (h2 : hv b = some n) : unL (L.take (2 * q + 2)) = unL (L.take (2 * q)) ++ [((16 * h + n : Nat) : Int)] := by
  obtain ⟨la, ea⟩ := List.getElem?_eq_some_iff.1 ha
  obtain ⟨lb, eb⟩ := List.getElem?_eq_some_iff.1 hb
  rw [show 2 * q + 2 = 2 * q + 1 + 1 from rfl, List.take_succ_eq_append_getElem lb, List.take_succ_eq_append_getElem la, ea, eb, List.append_assoc]
  show unL (L.take (2 * q) ++ [a, b]) = _
  rw [unL_snoc _ _ _ (by rw [List.length_take]; omega), h1, h2]; rfl

set_option maxHeartbeats 4000000 in
set_option maxRecDepth 100000 in
theorem bytes_c (s : ByteArray) (hs : s.size ≤ 5000000) (w : World) :
    Calls Tryd.prog 25 #[.string s] w fun e w' => ∃ v xs, e = .returned (.tuple #[v, .bool (unhex s.data.toList).isSome]) ∧ (∀ ys, unhex s.data.toList = some ys → xs = ys) ∧ OB w' w.heap.size v xs ∧ Below w.heap.size w w' := by
  by_cases h45 : s.data.toList = [45]
  · obtain rfl : s = ⟨#[45]⟩ := by
      obtain ⟨⟨l⟩⟩ := s; simp at h45; subst h45; rfl
    go_enter Tryd.func25, Tryd.ntmps25
    go_wp2_with fail
    go_ret2
    exact ⟨_, rfl, [], fun ys h => (by injection h), OB.nil _ _, Below.refl _ _⟩
  have hq : (s.toList == [45]) = false := by rw [ba_toList]; exact beq_eq_false_iff_ne.2 h45
  have H45 := Lib.hid h45; clear h45
  go_enter Tryd.func25, Tryd.ntmps25
  go_wp2_with fail
  have hq0 : IntKind.i64.wrap 0 = 0 := by decide
  obtain ⟨L, HLs⟩ : ∃ L, Hid (L = s.data.toList) := ⟨_, Lib.hid rfl⟩
  have hLl : L.length = s.size := by rw [HLs.out]; rfl
  have HLl := Lib.hid hLl; clear hLl
  go_loopw [4, 5] (fun bv hv' wr => ∃ (pos h : Nat), hv' = .int .u8 h ∧ h < 16 ∧ Hid (pos ≤ s.size ∧ wr.heap[w.heap.size]? = some (.stringIter s pos) ∧ OB wr (w.heap.size + 1) bv (unL (L.take (2 * (pos / 2)))) ∧ Below w.heap.size w wr ∧ isHex (L.take pos) = true ∧ (pos % 2 = 1 → (L.getD (pos - 1) 0 |> hv) = some h))) (fun _ _ wr => s.size - wr.iterPos w.heap.size)
  case atStart =>
    refine ⟨0, 0, rfl, by decide, Nat.zero_le _, World.iter_heap w s 0, OB.nil _ _, (Below.refl _ _).alloc (Nat.le_refl _) _, rfl, fun h => absurd h (by decide)⟩
  case round =>
    obtain ⟨pos, h, rfl, hh, HW⟩ := hrel
    have hsz : w.heap.size < wr.heap.size := (Array.getElem?_eq_some_iff.1 HW.out.2.1).1
    by_cases hp : pos < s.size
    · have hnx : ∀ ty, (Instr.next (.pointer (some ⟨w.heap.size, 0, none⟩)) true ty).run Tryd.prog wr = _ := fun ty => Lib.run_next_any_at wr w.heap.size s pos ty HW.out.2.1 hp
      obtain ⟨r, hr⟩ : ∃ r : Nat, Hid ((Utf8.decode s pos).1 = r) := ⟨_, Lib.hid rfl⟩
      obtain ⟨wd, hwd⟩ : ∃ wd : Nat, Hid ((Utf8.decode s pos).2 = wd) := ⟨_, Lib.hid rfl⟩
      obtain ⟨c, hc⟩ : ∃ c, Hid (L[pos]? = some c) := by
        have hpl : pos < L.length := by rw [HLl.out]; exact hp
        exact ⟨L[pos], Lib.hid (List.getElem?_eq_getElem hpl)⟩
      have hrc : Hid ((c.toNat = r ∧ wd = 1) ∨ (128 ≤ r ∧ hv c = none)) := by
        have h2 : s.data.toList[pos]? = some c := by rw [← HLs.out]; exact hc.out
        obtain ⟨_, e⟩ := List.getElem?_eq_some_iff.1 h2
        have e2 : s[pos]'hp = c := e
        rcases Nat.lt_or_ge c.toNat 128 with h128 | h128
        · have := decode_ascii s pos hp (by rw [e2]; exact h128)
          rw [this] at hr hwd
          exact .inl ⟨by rw [← hr.out, e2], hwd.out.symm⟩
        · have := decode_high s pos hp (by rw [e2]; exact h128)
          refine .inr ⟨by rw [← hr.out]; exact this.1, ?_⟩
          unfold hv
          rw [if_neg (by omega), if_neg (by omega)]
      have hrm : (r : Int) ≤ 2147483647 := by have := decode_le s pos; have h2 := hr.out; omega
      rw [hr.out, hwd.out] at hnx
      obtain ⟨wn, hwn⟩ : ∃ wn : World, Hid (wr.iterAt w.heap.size s (pos + wd) = wn) := ⟨_, Lib.hid rfl⟩
      rw [hwn.out] at hnx
      by_cases hdg : 48 ≤ r ∧ r ≤ 57
      · obtain ⟨n, hn, hn16⟩ : ∃ n : Nat, (n : Int) = (r : Int) - 48 ∧ n < 16 := ⟨r - 48, by omega, by omega⟩
        have hr48 : decide ((48 : Int) ≤ r) = true := decide_eq_true (by omega)
        have hr57 : decide ((r : Int) ≤ 57) = true := decide_eq_true (by omega)
        have hcv : Hid (hv c = some n) := Lib.hid (by rcases hrc.out with ⟨e, _⟩ | ⟨h128, _⟩
                                                      · unfold hv; rw [e]; rw [if_pos (by omega)]; congr 1; omega
                                                      · omega)
        have hwd1 : wd = 1 := by rcases hrc.out with ⟨_, e⟩ | ⟨h128, _⟩ <;> omega
        subst hwd1
        have HN : Hid (pos + 1 ≤ s.size ∧ wn.heap[w.heap.size]? = some (.stringIter s (pos + 1)) ∧ Below w.heap.size w wn ∧ isHex (L.take (pos + 1)) = true ∧ hv (L.getD pos 0) = some n) := by
          have hb := Lib.iterAt_heap wr w.heap.size s pos (pos + 1) HW.out.2.1
          have hb2 := Lib.below_iterAt HW.out.2.2.2.1 (k := w.heap.size) (Nat.le_refl _) s (pos + 1)
          rw [hwn.out] at hb hb2
          obtain ⟨hpl, ec⟩ := List.getElem?_eq_some_iff.1 hc.out
          refine ⟨hp, hb, hb2, isHex_take L pos hpl HW.out.2.2.2.2.1 (by rw [ec, hcv.out]; rfl), ?_⟩
          rw [List.getD_eq_getElem?_getD, hc.out]; exact hcv.out
        have HO : Hid (OB wn (w.heap.size + 1) u4 (unL (L.take (2 * (pos / 2))))) := by
          have hb := HW.out.2.2.1.iterAt s (pos + 1)
          rw [hwn.out] at hb
          exact hb
        have hms : wr.iterPos w.heap.size = pos := iterPos_of HW.out.2.1
        by_cases hev : pos % 2 = 0
        · have hevi : ((pos : Int) % 2 == 0) = true := by rw [beq_iff_eq]; omega
          go_wp2_with fail
          go_roundw
          case rel => exact ⟨pos + 1, n, by rw [← hn], hn16, HN.out.1, HN.out.2.1, (by rw [show 2 * ((pos + 1) / 2) = 2 * (pos / 2) from by omega]; exact HO.out), HN.out.2.2.1, HN.out.2.2.2.1, fun _ => HN.out.2.2.2.2⟩
          case measure => rw [iterPos_of HN.out.2.1, hms]; omega
        · have hevi : ((pos : Int) % 2 == 0) = false := by rw [beq_eq_false_iff_ne]; omega
          have hor : Go.bits .or .u8 ((h : Int) * 16) ((r : Int) - 48) = ((16 * h + n : Nat) : Int) := by rw [← half_or h n hh hn16, hn]
          have hxl : Hid ((unL (L.take (2 * (pos / 2)))).length ≤ 2500000) := by
            have h1 := unL_len (L.take (2 * (pos / 2))); have h2 := List.length_take_le' (2 * (pos / 2)) L; have h3 := HLl.out
            exact Lib.hid (by omega)
          have hwz : Hid (w.heap.size + 1 ≤ wn.heap.size) := Lib.hid (Array.getElem?_eq_some_iff.1 HN.out.2.1).1
          go_wp2_with (at_builtin; go_loud (refine print_append_num (w0 := wn) (w.heap.size + 1) rfl _ _ 30 5 .u8 1 rfl Tryd.underlying30 info5 (by decide) u4 (unL (L.take (2 * (pos / 2)))) _ rfl rfl HO.out (Below.refl _ _) hwz.out (by have := hxl.out; omega) ?_))
          intro v2 w2 h1 h2 h3 h4
          have K1 : Hid (OB w2 (w.heap.size + 1) v2 (unL (L.take (2 * ((pos + 1) / 2))))) := by
            have hL1 : L[2 * (pos / 2)]? = some (L.getD (pos - 1) 0) := by
              rw [show 2 * (pos / 2) = pos - 1 from by omega, List.getD_eq_getElem?_getD, List.getElem?_eq_getElem (by have h3 := HLl.out; omega)]; rfl
            have hL2 : L[2 * (pos / 2) + 1]? = some c := by rw [show 2 * (pos / 2) + 1 = pos from by omega]; exact hc.out
            have e := unL_step L (pos / 2) _ c h n hL1 hL2 (HW.out.2.2.2.2.2 (by omega)) hcv.out
            rw [show 2 * ((pos + 1) / 2) = 2 * (pos / 2) + 2 from by omega, e]
            rw [show 16 * (h : Int) + ((r : Int) - 48) = ((16 * h + n : Nat) : Int) from by omega] at h1
            unfold OB; rw [List.length_append]; exact h1
          have K2 : Hid (w2.heap[w.heap.size]? = some (.stringIter s (pos + 1)) ∧ Below w.heap.size w w2) :=
            ⟨(h2.block _ (Nat.lt_succ_self _)).trans HN.out.2.1, HN.out.2.2.1.trans (h2.mono (Nat.le_succ _))⟩
          clear h1 h2 h3 h4
          go_wp2_with fail
          go_roundw
          case rel => exact ⟨pos + 1, h, rfl, hh, HN.out.1, K2.out.1, K1.out, K2.out.2, HN.out.2.2.2.1, fun h => absurd h (by omega)⟩
          case measure => rw [iterPos_of K2.out.1, hms]; omega
      · by_cases hlt : 97 ≤ r ∧ r ≤ 102
        · obtain ⟨n, hn, hn16⟩ : ∃ n : Nat, (n : Int) = (r : Int) - 97 + 10 ∧ n < 16 := ⟨r - 87, by omega, by omega⟩
          have hr48 : decide ((97 : Int) ≤ r) = true := decide_eq_true (by omega)
          have hr57x : decide ((r : Int) ≤ 57) = false := decide_eq_false (by omega)
          have hr48x : decide ((48 : Int) ≤ r) = true := decide_eq_true (by omega)
          have hr57 : decide ((r : Int) ≤ 102) = true := decide_eq_true (by omega)
          have hcv : Hid (hv c = some n) := Lib.hid (by rcases hrc.out with ⟨e, _⟩ | ⟨h128, _⟩
                                                        · unfold hv; rw [e]; rw [if_neg (by omega), if_pos (by omega)]; congr 1; omega
                                                        · omega)
          have hwd1 : wd = 1 := by rcases hrc.out with ⟨_, e⟩ | ⟨h128, _⟩ <;> omega
          subst hwd1
          have HN : Hid (pos + 1 ≤ s.size ∧ wn.heap[w.heap.size]? = some (.stringIter s (pos + 1)) ∧ Below w.heap.size w wn ∧ isHex (L.take (pos + 1)) = true ∧ hv (L.getD pos 0) = some n) := by
            have hb := Lib.iterAt_heap wr w.heap.size s pos (pos + 1) HW.out.2.1
            have hb2 := Lib.below_iterAt HW.out.2.2.2.1 (k := w.heap.size) (Nat.le_refl _) s (pos + 1)
            rw [hwn.out] at hb hb2
            obtain ⟨hpl, ec⟩ := List.getElem?_eq_some_iff.1 hc.out
            refine ⟨hp, hb, hb2, isHex_take L pos hpl HW.out.2.2.2.2.1 (by rw [ec, hcv.out]; rfl), ?_⟩
            rw [List.getD_eq_getElem?_getD, hc.out]; exact hcv.out
          have HO : Hid (OB wn (w.heap.size + 1) u4 (unL (L.take (2 * (pos / 2))))) := by
            have hb := HW.out.2.2.1.iterAt s (pos + 1)
            rw [hwn.out] at hb
            exact hb
          have hms : wr.iterPos w.heap.size = pos := iterPos_of HW.out.2.1
          by_cases hev : pos % 2 = 0
          · have hevi : ((pos : Int) % 2 == 0) = true := by rw [beq_iff_eq]; omega
            go_wp2_with fail
            go_roundw
            case rel => exact ⟨pos + 1, n, by rw [← hn], hn16, HN.out.1, HN.out.2.1, (by rw [show 2 * ((pos + 1) / 2) = 2 * (pos / 2) from by omega]; exact HO.out), HN.out.2.2.1, HN.out.2.2.2.1, fun _ => HN.out.2.2.2.2⟩
            case measure => rw [iterPos_of HN.out.2.1, hms]; omega
          · have hevi : ((pos : Int) % 2 == 0) = false := by rw [beq_eq_false_iff_ne]; omega
            have hor : Go.bits .or .u8 ((h : Int) * 16) ((r : Int) - 97 + 10) = ((16 * h + n : Nat) : Int) := by rw [← half_or h n hh hn16, hn]
            have hxl : Hid ((unL (L.take (2 * (pos / 2)))).length ≤ 2500000) := by
              have h1 := unL_len (L.take (2 * (pos / 2))); have h2 := List.length_take_le' (2 * (pos / 2)) L; have h3 := HLl.out
              exact Lib.hid (by omega)
            have hwz : Hid (w.heap.size + 1 ≤ wn.heap.size) := Lib.hid (Array.getElem?_eq_some_iff.1 HN.out.2.1).1
            go_wp2_with (at_builtin; go_loud (refine print_append_num (w0 := wn) (w.heap.size + 1) rfl _ _ 30 5 .u8 1 rfl Tryd.underlying30 info5 (by decide) u4 (unL (L.take (2 * (pos / 2)))) _ rfl rfl HO.out (Below.refl _ _) hwz.out (by have := hxl.out; omega) ?_))
            intro v2 w2 h1 h2 h3 h4
            have K1 : Hid (OB w2 (w.heap.size + 1) v2 (unL (L.take (2 * ((pos + 1) / 2))))) := by
              have hL1 : L[2 * (pos / 2)]? = some (L.getD (pos - 1) 0) := by
                rw [show 2 * (pos / 2) = pos - 1 from by omega, List.getD_eq_getElem?_getD, List.getElem?_eq_getElem (by have h3 := HLl.out; omega)]; rfl
              have hL2 : L[2 * (pos / 2) + 1]? = some c := by rw [show 2 * (pos / 2) + 1 = pos from by omega]; exact hc.out
              have e := unL_step L (pos / 2) _ c h n hL1 hL2 (HW.out.2.2.2.2.2 (by omega)) hcv.out
              rw [show 2 * ((pos + 1) / 2) = 2 * (pos / 2) + 2 from by omega, e]
              rw [show 16 * (h : Int) + ((r : Int) - 97 + 10) = ((16 * h + n : Nat) : Int) from by omega] at h1
              unfold OB; rw [List.length_append]; exact h1
            have K2 : Hid (w2.heap[w.heap.size]? = some (.stringIter s (pos + 1)) ∧ Below w.heap.size w w2) :=
              ⟨(h2.block _ (Nat.lt_succ_self _)).trans HN.out.2.1, HN.out.2.2.1.trans (h2.mono (Nat.le_succ _))⟩
            clear h1 h2 h3 h4
            go_wp2_with fail
            go_roundw
            case rel => exact ⟨pos + 1, h, rfl, hh, HN.out.1, K2.out.1, K1.out, K2.out.2, HN.out.2.2.2.1, fun h => absurd h (by omega)⟩
            case measure => rw [iterPos_of K2.out.1, hms]; omega
        · have hnone : hv c = none := by
            rcases hrc.out with ⟨e, _⟩ | ⟨_, e⟩
            · unfold hv; rw [e, if_neg hdg, if_neg hlt]
            · exact e
          have HU : Hid (unhex s.data.toList = none) := by
            obtain ⟨hpl, ec⟩ := List.getElem?_eq_some_iff.1 hc.out
            rw [← HLs.out]
            exact unhex_not L pos hpl (by rw [HLs.out]; exact H45.out) (by rw [ec]; exact hnone)
          have HB : Hid (Below w.heap.size w wn) := by
            have hb2 := Lib.below_iterAt HW.out.2.2.2.1 (k := w.heap.size) (Nat.le_refl _) s (pos + wd)
            rw [hwn.out] at hb2; exact hb2
          rcases (show r < 48 ∨ (57 < r ∧ r < 97) ∨ 102 < r by omega) with h1 | h1 | h1
          · have f1 : decide ((48 : Int) ≤ r) = false := decide_eq_false (by omega)
            have f2 : decide ((97 : Int) ≤ r) = false := decide_eq_false (by omega)
            go_wp2_with fail
            go_ret2
            exact ⟨_, [], by rw [HU.out]; rfl, fun ys h => (by rw [HU.out] at h; cases h), OB.nil _ _, HB.out⟩
          · have f1 : decide ((48 : Int) ≤ r) = true := decide_eq_true (by omega)
            have f3 : decide ((r : Int) ≤ 57) = false := decide_eq_false (by omega)
            have f2 : decide ((97 : Int) ≤ r) = false := decide_eq_false (by omega)
            go_wp2_with fail
            go_ret2
            exact ⟨_, [], by rw [HU.out]; rfl, fun ys h => (by rw [HU.out] at h; cases h), OB.nil _ _, HB.out⟩
          · have f1 : decide ((48 : Int) ≤ r) = true := decide_eq_true (by omega)
            have f3 : decide ((r : Int) ≤ 57) = false := decide_eq_false (by omega)
            have f2 : decide ((97 : Int) ≤ r) = true := decide_eq_true (by omega)
            have f4 : decide ((r : Int) ≤ 102) = false := decide_eq_false (by omega)
            go_wp2_with fail
            go_ret2
            exact ⟨_, [], by rw [HU.out]; rfl, fun ys h => (by rw [HU.out] at h; cases h), OB.nil _ _, HB.out⟩
    · obtain rfl : pos = s.size := by have := HW.out.1; omega
      have hnx : ∀ ty, (Instr.next (.pointer (some ⟨w.heap.size, 0, none⟩)) true ty).run Tryd.prog wr = _ := fun ty => Lib.run_next_end_at wr w.heap.size s s.size ty HW.out.2.1 (by omega)
      have hfull : Hid (isHex L = true ∧ unhex s.data.toList = (if s.size % 2 = 0 ∧ 0 < s.size then some (unL L) else none)) := by
        have h1 := HW.out.2.2.2.2.1
        rw [← HLl.out, List.take_length] at h1
        refine ⟨h1, ?_⟩
        rw [← HLs.out]
        unfold unhex
        rw [if_neg (by rw [HLs.out]; exact H45.out)]
        by_cases h0 : s.size % 2 = 0 ∧ 0 < s.size
        · rw [if_pos h0, if_pos ⟨h1, by rw [HLl.out]; exact h0.1, fun e => by have := HLl.out; rw [e] at this; simp at this; omega⟩]
        · rw [if_neg h0, if_neg]
          rintro ⟨_, h2, h3⟩
          have hl := HLl.out
          have : L.length ≠ 0 := fun e => h3 (List.eq_nil_of_length_eq_zero e)
          exact h0 ⟨by omega, by omega⟩
      have HO : Hid (OB wr w.heap.size u4 (unL (L.take (2 * (s.size / 2))))) := HW.out.2.2.1.lower (Nat.le_succ _)
      have HB : Hid (Below w.heap.size w wr) := HW.out.2.2.2.1
      by_cases hev : s.size % 2 = 0
      · have hevi : ((s.size : Int) % 2 == 0) = true := by rw [beq_iff_eq]; omega
        have he2 : 2 * (s.size / 2) = L.length := by rw [HLl.out]; omega
        rw [he2, List.take_length] at HO
        by_cases h0 : 0 < s.size
        · have h0i : decide (0 < s.size) = true := decide_eq_true (by omega)
          have hU : unhex s.data.toList = some (unL L) := by rw [hfull.out.2, if_pos ⟨hev, h0⟩]
          have HU := Lib.hid hU; clear hU
          clear hev he2 h0 hp
          go_wp2_with fail
          go_ret2
          exact ⟨_, unL L, by rw [HU.out]; rfl, fun ys h => (by rw [HU.out] at h; exact Option.some.inj h), HO.out, HB.out⟩
        · have h0i : decide (0 < s.size) = false := decide_eq_false (by omega)
          have hU : unhex s.data.toList = none := by rw [hfull.out.2, if_neg (fun h => h0 h.2)]
          have HU := Lib.hid hU; clear hU
          clear hev he2 h0 hp
          go_wp2_with fail
          go_ret2
          exact ⟨_, unL L, by rw [HU.out]; rfl, fun ys h => (by rw [HU.out] at h; cases h), HO.out, HB.out⟩
      · have hevi : ((s.size : Int) % 2 == 0) = false := by rw [beq_eq_false_iff_ne]; omega
        have hU : unhex s.data.toList = none := by rw [hfull.out.2, if_neg (fun h => hev h.1)]
        have HU := Lib.hid hU; clear hU
        clear hp
        go_wp2_with fail
        go_ret2
        exact ⟨_, _, by rw [HU.out]; rfl, fun ys h => (by rw [HU.out] at h; cases h), HO.out, HB.out⟩
end Go.Proofs.YtbcdlbdljejlcaaDoor.Sc
set_option linter.unusedVariables false
set_option linter.unusedSimpArgs false
namespace Go.Proofs.YtbcdlbdljejlcaaDoor.Sc
open Go.RowKit Go.Proofs.YtbcdlbdljejlcaaDoor.B0 Go.Proofs.YtbcdlbdljejlcaaDoor.Ps Go.Proofs.YtbcdlbdljejlcaaDoorW.PrintWords Go.Proofs.YtbcdlbdljejlcaaDoor.Bld

theorem cells_split (w : World) (ws : List (List UInt8)) (t : TypeId) (j : Nat) (x : List UInt8) (h : ws[j]? = some x) : (w.alloc (.cells (ws.map strV).toArray t)).cell? ⟨w.heap.size, j, none⟩ = some (strV x) := by
  rw [World.cell?_alloc_at _ _ _ _ rfl, List.getElem?_toArray, List.getElem?_map, h]; rfl
def stepV (y : Stp) (v : Value) : Value := .agg #[.int .i64 y.f0, .int .i64 y.f1, .int .i64 y.f2, v]
/-- the named result lies in block b. -/
def RV (w : World) (b : Nat) (v0 v1 v2 v3 : Value) : Prop := w.heap[b]? = some (.cells #[v0, v1, v2, v3] 32 (0, 0))
theorem RV.below {w w' : World} {b : Nat} {v0 v1 v2 v3 : Value} (h : RV w b v0 v1 v2 v3) (hb : Below w.heap.size w w') : RV w' b v0 v1 v2 v3 := (hb.block b (lt_of_get h)).trans h
theorem RV.cells {w : World} {b : Nat} {v0 v1 v2 v3 : Value} (h : RV w b v0 v1 v2 v3) : w.cell? ⟨b, 0, none⟩ = some v0 ∧ w.cell? ⟨b, 1, none⟩ = some v1 ∧ w.cell? ⟨b, 2, none⟩ = some v2 ∧ w.cell? ⟨b, 3, none⟩ = some v3 :=
  ⟨by rw [Lib.cell_of_heap h]; rfl, by rw [Lib.cell_of_heap h]; rfl, by rw [Lib.cell_of_heap h]; rfl, by rw [Lib.cell_of_heap h]; rfl⟩
theorem RV.free {w : World} {b : Nat} {v0 v1 v2 v3 : Value} (h : RV w b v0 v1 v2 v3) : w.frozen? ⟨b, 0, none⟩ = false ∧ w.frozen? ⟨b, 1, none⟩ = false ∧ w.frozen? ⟨b, 2, none⟩ = false ∧ w.frozen? ⟨b, 3, none⟩ = false :=
  ⟨Lib.frozen_of_heap h 0, Lib.frozen_of_heap h 1, Lib.frozen_of_heap h 2, Lib.frozen_of_heap h 3⟩
theorem RV.put {w : World} {b : Nat} {v0 v1 v2 v3 : Value} (h : RV w b v0 v1 v2 v3) (x0 x1 x2 x3 : Value) : RV ((((w.setCell ⟨b, 0, none⟩ x0).setCell ⟨b, 1, none⟩ x1).setCell ⟨b, 2, none⟩ x2).setCell ⟨b, 3, none⟩ x3) b x0 x1 x2 x3 :=
  blk_put (cs := #[x0, x1, x2, v3]) (blk_put (cs := #[x0, x1, v2, v3]) (blk_put (cs := #[x0, v1, v2, v3]) (blk_put (cs := #[v0, v1, v2, v3]) h 0 _ rfl) 1 _ rfl) 2 _ rfl) 3 _ rfl
theorem OB.set {w : World} {k : Nat} {v : Value} {xs : List Int} (h : OB w k v xs) (b j : Nat) (hb : b < k) (x : Value) : OB (w.setCell ⟨b, j, none⟩ x) k v xs := by
  refine ⟨h.1, ?_⟩
  rcases h.2 with h0 | ⟨g, cap, cur, e1, e2, e3, e4⟩
  · exact .inl h0
  · exact .inr ⟨g, cap, cur, e1, e2, (Below.heap_setCell w ⟨b, j, none⟩ x g (by show g ≠ b; omega)).trans e3, e4⟩
theorem ret_step {R : Ending → World → Prop} {a : Act} {w : World} {b : Nat} {v0 v1 v2 v3 : Value} (hp : a.tmps.getD 2 undef = .pointer (some ⟨b, 0, none⟩)) (hd : a.defers = []) (h : RV w b v0 v1 v2 v3)
    (hR : R (.returned (.tuple #[.agg #[v0, v1, v2, v3], a.tmps.getD 3 undef])) w) : bodyPost Tryd.prog Tryd.f16 R .ret a w := by
  refine bodyPost_ret (v := .tuple #[.agg #[v0, v1, v2, v3], a.tmps.getD 3 undef]) ?_ hd hR
  rw [results_cell_tmp rfl, hp]
  have := run_loadVar_row w b 32 32 #[v0, v1, v2, v3] (0, 0) _ h Tryd.underlying32 rfl (by kernel_rfl)
  simp [asAddr, Result.andThen, this]
/-- the words in block b. -/
def WS (w : World) (b : Nat) (ws : List (List UInt8)) : Prop := ∀ j x, ws[j]? = some x → w.cell? ⟨b, j, none⟩ = some (strV x)
theorem WS.below {w w' : World} {b : Nat} {ws : List (List UInt8)} (h : WS w b ws) (hb : Below w.heap.size w w') : WS w' b ws := fun j x hx => by
  have := h j x hx
  rw [World.cell?_of_block (hb.block _ (World.block_lt_of_cell? w _ this))]; exact this
theorem split_facts {w w1 : World} {ws : List (List UInt8)} (h : w1 = (w.alloc (.cells #[.int .i64 0, .int .i64 0, .int .i64 0, .slice none 0 0] 32)).alloc (.cells (ws.map strV).toArray 9)) :
    RV w1 w.heap.size (.int .i64 0) (.int .i64 0) (.int .i64 0) (.slice none 0 0) ∧ WS w1 (w.heap.size + 1) ws ∧ Below w.heap.size w w1 := by
  have h0 : RV (w.alloc (.cells #[.int .i64 0, .int .i64 0, .int .i64 0, .slice none 0 0] 32)) w.heap.size (.int .i64 0) (.int .i64 0) (.int .i64 0) (.slice none 0 0) := by
    unfold RV; exact Array.getElem?_push_size ..
  have hs : (w.alloc (.cells #[.int .i64 0, .int .i64 0, .int .i64 0, .slice none 0 0] 32)).heap.size = w.heap.size + 1 := Array.size_push ..
  subst h
  refine ⟨h0.below ((Below.refl _ _).alloc (Nat.le_refl _) _), ?_, ((Below.refl _ _).alloc (Nat.le_refl _) _).alloc (by rw [hs]; omega) _⟩
  intro j x hx
  have := cells_split (w.alloc (.cells #[.int .i64 0, .int .i64 0, .int .i64 0, .slice none 0 0] 32)) ws 9 j x hx
  rw [hs] at this
  exact this

set_option maxHeartbeats 4000000 in
set_option maxRecDepth 100000 in
theorem step_A (s : ByteArray) (hs : s.size ≤ 5000000) (w : World) (h : LP w) (a b : List UInt8) (hw : wordsL s.data.toList = [sDeliver, a, b]) (ha : a.length ≤ s.size) (hb : b.length ≤ s.size) :
    Calls Tryd.prog 16 #[.string s] w fun e w' => ∃ (y : Stp) (v : Value), e = .returned (.tuple #[stepV y v, .bool (stepL s.data.toList).isSome]) ∧ (∀ x, stepL s.data.toList = some x → y = x) ∧ OB w' w.heap.size v y.f3 ∧ Below w.heap.size w w' := by
  have HL := Lib.hid h; clear h
  have HW := Lib.hid hw; clear hw
  have hsz : (w.alloc (.cells #[.int .i64 0, .int .i64 0, .int .i64 0, .slice none 0 0] 32)).heap.size = w.heap.size + 1 := Array.size_push ..
  have HZ := Lib.hid hsz; clear hsz
  go_enter Tryd.func16, Tryd.ntmps16
  go_wp2_with fail
  refine (Split_c s _ hs (HL.out.below ((Below.refl _ _).alloc (Nat.le_refl _) _))).mono ?_
  rintro e w1 ⟨rfl, hw1⟩
  rw [HW.out] at hw1 ⊢
  rw [HZ.out]
  have HF := Lib.hid (split_facts hw1); clear hw1
  obtain ⟨sa, hsa⟩ : ∃ sa : ByteArray, Hid (sa = ⟨a.toArray⟩) := ⟨_, Lib.hid rfl⟩
  obtain ⟨sb, hsb⟩ : ∃ sb : ByteArray, Hid (sb = ⟨b.toArray⟩) := ⟨_, Lib.hid rfl⟩
  have k0 : w1.cell? ⟨w.heap.size + 1, 0, none⟩ = some (.string ⟨#[100, 101, 108, 105, 118, 101, 114]⟩) := HF.out.2.1 0 _ rfl
  have k1 : w1.cell? ⟨w.heap.size + 1, 1, none⟩ = some (.string sa) := by rw [hsa.out]; exact HF.out.2.1 1 _ rfl
  have k2 : w1.cell? ⟨w.heap.size + 1, 2, none⟩ = some (.string sb) := by rw [hsb.out]; exact HF.out.2.1 2 _ rfl
  have hsas : sa.size = a.length := by rw [hsa.out]; rfl
  have hsbs : sb.size = b.length := by rw [hsb.out]; rfl
  have HSA : Hid (sa.data.toList = a ∧ sa.size ≤ 5000000) := ⟨by rw [hsa.out], by omega⟩
  have HSB : Hid (sb.data.toList = b ∧ sb.size ≤ 5000000) := ⟨by rw [hsb.out], by omega⟩
  clear hsa hsb hsas hsbs ha hb
  have HLw : Hid (LP w1) := HL.out.below HF.out.2.2
  go_wp2_with fail
  refine (small_c sa _ HSA.out.2 HLw.out).mono ?_
  rintro e w2 ⟨rfl, hb2⟩
  rw [HSA.out.1]
  obtain ⟨⟨n, ok⟩, hn⟩ : ∃ p : Int × Bool, Hid (smallL a = p) := ⟨_, Lib.hid rfl⟩
  rw [hn.out]
  have k22 : w2.cell? ⟨w.heap.size + 1, 2, none⟩ = some (.string sb) := by
    rw [World.cell?_of_block (hb2.block _ (World.block_lt_of_cell? w1 _ k2))]; exact k2
  have HF2 : Hid (RV w2 w.heap.size (.int .i64 0) (.int .i64 0) (.int .i64 0) (.slice none 0 0) ∧ Below w.heap.size w w2) := ⟨HF.out.1.below hb2, HF.out.2.2.trans (hb2.mono HF.out.2.2.size)⟩
  clear k0 k1 k2 hb2 HF
  go_wp2_with fail
  refine (bytes_c sb HSB.out.2 _).mono ?_
  rintro e w3 ⟨v, xs, rfl, hxs, hO, hb3⟩
  rw [HSB.out.1] at hxs ⊢
  obtain ⟨is, his⟩ : ∃ is, Hid ((unhex b).isSome = is) := ⟨_, Lib.hid rfl⟩
  rw [his.out]
  have HX := Lib.hid hxs
  have HF3 : Hid (RV w3 w.heap.size (.int .i64 0) (.int .i64 0) (.int .i64 0) (.slice none 0 0) ∧ Below w.heap.size w w3 ∧ OB w3 (w.heap.size + 1) v xs) := ⟨HF2.out.1.below hb3, HF2.out.2.trans (hb3.mono HF2.out.2.size), hO.lower (lt_of_get HF2.out.1)⟩
  obtain ⟨A, cv, rfl, hvl, hvr⟩ := HF3.out.2.2.cap
  clear hxs hO hb3 HF2 k22 hvl hvr
  obtain ⟨c0, c1, c2, c3⟩ := HF3.out.1.cells
  obtain ⟨f0, f1, f2, f3⟩ := HF3.out.1.free
  have HSt : Hid (stepL s.data.toList = if ok = true then (unhex b).map (fun xs => ⟨0, n, 0, xs⟩) else none) := by
    show _ = _
    unfold stepL
    rw [HW.out, if_pos ⟨rfl, rfl⟩]
    show (smallO a).bind (fun n => (unhex b).bind _) = _
    unfold smallO
    rw [hn.out]
    cases ok
    · rfl
    · simp only [if_true, Option.bind_some]
      cases unhex b <;> rfl
  have HEnd : ∀ x0 x1 x2 x3, Hid (OB ((((w3.setCell ⟨w.heap.size, 0, none⟩ x0).setCell ⟨w.heap.size, 1, none⟩ x1).setCell ⟨w.heap.size, 2, none⟩ x2).setCell ⟨w.heap.size, 3, none⟩ x3) w.heap.size (.slice A xs.length cv) xs ∧
      Below w.heap.size w ((((w3.setCell ⟨w.heap.size, 0, none⟩ x0).setCell ⟨w.heap.size, 1, none⟩ x1).setCell ⟨w.heap.size, 2, none⟩ x2).setCell ⟨w.heap.size, 3, none⟩ x3)) := fun x0 x1 x2 x3 =>
    ⟨((((HF3.out.2.2.set _ 0 (Nat.lt_succ_self _) x0).set _ 1 (Nat.lt_succ_self _) x1).set _ 2 (Nat.lt_succ_self _) x2).set _ 3 (Nat.lt_succ_self _) x3).lower (Nat.le_succ _),
      (((HF3.out.2.1.setCell (p := ⟨w.heap.size, 0, none⟩) (Nat.le_refl _) x0).setCell (p := ⟨w.heap.size, 1, none⟩) (Nat.le_refl _) x1).setCell (p := ⟨w.heap.size, 2, none⟩) (Nat.le_refl _) x2).setCell (p := ⟨w.heap.size, 3, none⟩) (Nat.le_refl _) x3⟩
  cases ok
  · go_wp2_with fail
    (try simp only [Exit.inBlock, Exit.then])
    refine ret_step rfl rfl (HF3.out.1.put _ _ _ _) ?_
    refine ⟨⟨0, n, 0, xs⟩, .slice A xs.length cv, ?_, ?_, (HEnd _ _ _ _).out⟩
    · rw [HSt.out]; rfl
    · rw [HSt.out]; intro x hx; cases hx
  · go_wp2_with fail
    (try simp only [Exit.inBlock, Exit.then])
    refine ret_step rfl rfl (HF3.out.1.put _ _ _ _) ?_
    refine ⟨⟨0, n, 0, xs⟩, .slice A xs.length cv, ?_, ?_, (HEnd _ _ _ _).out⟩
    · rw [HSt.out, if_pos trivial, Option.isSome_map, his.out]; rfl
    · rw [HSt.out, if_pos trivial]
      intro x hx
      obtain ⟨ys, hy, rfl⟩ := Option.map_eq_some_iff.1 hx
      rw [HX.out ys hy]

set_option maxHeartbeats 4000000 in
set_option maxRecDepth 100000 in
theorem step_B (s : ByteArray) (hs : s.size ≤ 5000000) (w : World) (h : LP w) (a : List UInt8) (hw : wordsL s.data.toList = [sClose, a]) (ha : a.length ≤ s.size) :
    Calls Tryd.prog 16 #[.string s] w fun e w' => ∃ (y : Stp) (v : Value), e = .returned (.tuple #[stepV y v, .bool (stepL s.data.toList).isSome]) ∧ (∀ x, stepL s.data.toList = some x → y = x) ∧ OB w' w.heap.size v y.f3 ∧ Below w.heap.size w w' := by
  have HL := Lib.hid h; clear h
  have HW := Lib.hid hw; clear hw
  have hsz : (w.alloc (.cells #[.int .i64 0, .int .i64 0, .int .i64 0, .slice none 0 0] 32)).heap.size = w.heap.size + 1 := Array.size_push ..
  have HZ := Lib.hid hsz; clear hsz
  go_enter Tryd.func16, Tryd.ntmps16
  go_wp2_with fail
  refine (Split_c s _ hs (HL.out.below ((Below.refl _ _).alloc (Nat.le_refl _) _))).mono ?_
  rintro e w1 ⟨rfl, hw1⟩
  rw [HW.out] at hw1 ⊢
  rw [HZ.out]
  have HF := Lib.hid (split_facts hw1); clear hw1
  obtain ⟨sa, hsa⟩ : ∃ sa : ByteArray, Hid (sa = ⟨a.toArray⟩) := ⟨_, Lib.hid rfl⟩
  have k0 : w1.cell? ⟨w.heap.size + 1, 0, none⟩ = some (.string ⟨#[99, 108, 111, 115, 101]⟩) := HF.out.2.1 0 _ rfl
  have k1 : w1.cell? ⟨w.heap.size + 1, 1, none⟩ = some (.string sa) := by rw [hsa.out]; exact HF.out.2.1 1 _ rfl
  have hsas : sa.size = a.length := by rw [hsa.out]; rfl
  have HSA : Hid (sa.data.toList = a ∧ sa.size ≤ 5000000) := ⟨by rw [hsa.out], by omega⟩
  clear hsa hsas ha
  have HLw : Hid (LP w1) := HL.out.below HF.out.2.2
  go_wp2_with fail
  refine (small_c sa _ HSA.out.2 HLw.out).mono ?_
  rintro e w2 ⟨rfl, hb2⟩
  rw [HSA.out.1]
  obtain ⟨⟨n, ok⟩, hn⟩ : ∃ p : Int × Bool, Hid (smallL a = p) := ⟨_, Lib.hid rfl⟩
  rw [hn.out]
  have HF3 : Hid (RV w2 w.heap.size (.int .i64 0) (.int .i64 0) (.int .i64 0) (.slice none 0 0) ∧ Below w.heap.size w w2) := ⟨HF.out.1.below hb2, HF.out.2.2.trans (hb2.mono HF.out.2.2.size)⟩
  clear k0 k1 hb2 HF
  obtain ⟨c0, c1, c2, c3⟩ := HF3.out.1.cells
  obtain ⟨f0, f1, f2, f3⟩ := HF3.out.1.free
  have HSt : Hid (stepL s.data.toList = if ok = true then some ⟨2, 0, n, []⟩ else none) := by
    show _ = _
    unfold stepL
    rw [HW.out, if_neg (fun h => absurd h.2 (by simp)), if_pos ⟨rfl, rfl⟩]
    show (smallO a).bind _ = _
    unfold smallO
    rw [hn.out]
    cases ok <;> rfl
  have HEnd : ∀ x0 x1 x2 x3, Hid (Below w.heap.size w ((((w2.setCell ⟨w.heap.size, 0, none⟩ x0).setCell ⟨w.heap.size, 1, none⟩ x1).setCell ⟨w.heap.size, 2, none⟩ x2).setCell ⟨w.heap.size, 3, none⟩ x3)) := fun x0 x1 x2 x3 =>
    (((HF3.out.2.setCell (p := ⟨w.heap.size, 0, none⟩) (Nat.le_refl _) x0).setCell (p := ⟨w.heap.size, 1, none⟩) (Nat.le_refl _) x1).setCell (p := ⟨w.heap.size, 2, none⟩) (Nat.le_refl _) x2).setCell (p := ⟨w.heap.size, 3, none⟩) (Nat.le_refl _) x3
  cases ok
  · go_wp2_with fail
    (try simp only [Exit.inBlock, Exit.then])
    refine ret_step rfl rfl (HF3.out.1.put _ _ _ _) ?_
    refine ⟨⟨2, 0, n, []⟩, .slice none 0 0, ?_, ?_, OB.nil _ _, (HEnd _ _ _ _).out⟩
    · rw [HSt.out]; rfl
    · rw [HSt.out]; intro x hx; cases hx
  · go_wp2_with fail
    (try simp only [Exit.inBlock, Exit.then])
    refine ret_step rfl rfl (HF3.out.1.put _ _ _ _) ?_
    refine ⟨⟨2, 0, n, []⟩, .slice none 0 0, ?_, ?_, OB.nil _ _, (HEnd _ _ _ _).out⟩
    · rw [HSt.out, if_pos trivial]; rfl
    · rw [HSt.out, if_pos trivial]; intro x hx; exact Option.some.inj hx
end Go.Proofs.YtbcdlbdljejlcaaDoor.Sc
set_option linter.unusedVariables false
set_option linter.unusedSimpArgs false
namespace Go.Proofs.YtbcdlbdljejlcaaDoor.Sc
open Go.RowKit Go.Proofs.YtbcdlbdljejlcaaDoor.B0 Go.Proofs.YtbcdlbdljejlcaaDoor.Ps Go.Proofs.YtbcdlbdljejlcaaDoorW.PrintWords Go.Proofs.YtbcdlbdljejlcaaDoor.Bld

set_option maxHeartbeats 8000000 in
set_option maxRecDepth 100000 in
theorem step_C (s : ByteArray) (hs : s.size ≤ 5000000) (w : World) (h : LP w) (a : List UInt8) (r : List (List UInt8)) (hw : wordsL s.data.toList = a :: r) (h1 : ¬ (a = sDeliver ∧ r.length = 2)) (h2 : ¬ (a = sClose ∧ r.length = 1)) :
    Calls Tryd.prog 16 #[.string s] w fun e w' => ∃ (y : Stp) (v : Value), e = .returned (.tuple #[stepV y v, .bool (stepL s.data.toList).isSome]) ∧ (∀ x, stepL s.data.toList = some x → y = x) ∧ OB w' w.heap.size v y.f3 ∧ Below w.heap.size w w' := by
  have HL := Lib.hid h; clear h
  have HW := Lib.hid hw; clear hw
  have H1 := Lib.hid h1; clear h1
  have H2 := Lib.hid h2; clear h2
  have hsz : (w.alloc (.cells #[.int .i64 0, .int .i64 0, .int .i64 0, .slice none 0 0] 32)).heap.size = w.heap.size + 1 := Array.size_push ..
  have HZ := Lib.hid hsz; clear hsz
  go_enter Tryd.func16, Tryd.ntmps16
  go_wp2_with fail
  refine (Split_c s _ hs (HL.out.below ((Below.refl _ _).alloc (Nat.le_refl _) _))).mono ?_
  rintro e w1 ⟨rfl, hw1⟩
  rw [HW.out] at hw1 ⊢
  rw [HZ.out]
  have HF := Lib.hid (split_facts hw1); clear hw1
  obtain ⟨sa, hsa⟩ : ∃ sa : ByteArray, Hid (sa = ⟨a.toArray⟩) := ⟨_, Lib.hid rfl⟩
  have k0 : w1.cell? ⟨w.heap.size + 1, 0, none⟩ = some (.string sa) := by rw [hsa.out]; exact HF.out.2.1 0 _ rfl
  obtain ⟨m, hm⟩ : ∃ m, Hid ((a :: r).length = m) := ⟨_, Lib.hid rfl⟩
  rw [hm.out]
  have hm1 : (0 : Int) < (m : Int) := by have := hm.out; simp only [List.length_cons] at this; omega
  have HSA : Hid (sa.toList = a) := by show _ = _; rw [ba_toList, hsa.out]
  have HSD : Hid (sa.toList = [100, 101, 108, 105, 118, 101, 114] → m ≠ 3) := fun e e2 => H1.out ⟨by rw [← HSA.out, e]; rfl, by have := hm.out; simp only [List.length_cons] at this; omega⟩
  have HSC : Hid (sa.toList = [99, 108, 111, 115, 101] → m ≠ 2) := fun e e2 => H2.out ⟨by rw [← HSA.out, e]; rfl, by have := hm.out; simp only [List.length_cons] at this; omega⟩
  obtain ⟨c0, c1, c2, c3⟩ := HF.out.1.cells
  obtain ⟨f0, f1, f2, f3⟩ := HF.out.1.free
  have HSt : Hid (stepL s.data.toList = if s.data.toList = sTick then some ⟨1, 0, 0, []⟩ else if s.data.toList = sFlush then some ⟨3, 0, 0, []⟩ else if s.data.toList = sEnd then some ⟨4, 0, 0, []⟩ else none) := by
    show _ = _
    unfold stepL
    rw [HW.out, if_neg (fun h => H1.out ⟨h.1, by have := h.2; simp only [List.length_cons] at this; omega⟩), if_neg (fun h => H2.out ⟨h.1, by have := h.2; simp only [List.length_cons] at this; omega⟩)]
  have HEnd : ∀ x0 x1 x2 x3, Hid (Below w.heap.size w ((((w1.setCell ⟨w.heap.size, 0, none⟩ x0).setCell ⟨w.heap.size, 1, none⟩ x1).setCell ⟨w.heap.size, 2, none⟩ x2).setCell ⟨w.heap.size, 3, none⟩ x3)) := fun x0 x1 x2 x3 =>
    (((HF.out.2.2.setCell (p := ⟨w.heap.size, 0, none⟩) (Nat.le_refl _) x0).setCell (p := ⟨w.heap.size, 1, none⟩) (Nat.le_refl _) x1).setCell (p := ⟨w.heap.size, 2, none⟩) (Nat.le_refl _) x2).setCell (p := ⟨w.heap.size, 3, none⟩) (Nat.le_refl _) x3
  -- how the words begin
  obtain ⟨bd, bc, Hd, Hc⟩ : ∃ bd bc, (sa.toList == [100, 101, 108, 105, 118, 101, 114]) = bd ∧ (sa.toList == [99, 108, 111, 115, 101]) = bc := ⟨_, _, rfl, rfl⟩
  have hd3 : bd = true → ((m : Int) == 3) = false := fun e => beq_eq_false_iff_ne.2 (fun h => HSD.out (beq_iff_eq.1 (Hd.trans e)) (by omega))
  have hc2 : bc = true → ((m : Int) == 2) = false := fun e => beq_eq_false_iff_ne.2 (fun h => HSC.out (beq_iff_eq.1 (Hc.trans e)) (by omega))
  -- the text itself
  obtain ⟨t1, Ht1⟩ : ∃ t1, (s.toList == [116, 105, 99, 107]) = t1 := ⟨_, rfl⟩
  obtain ⟨t2, Ht2⟩ : ∃ t2, (s.toList == [102, 108, 117, 115, 104]) = t2 := ⟨_, rfl⟩
  obtain ⟨t3, Ht3⟩ : ∃ t3, (s.toList == [101, 110, 100]) = t3 := ⟨_, rfl⟩
  have HS2 : Hid (stepL s.data.toList = if t1 = true then some ⟨1, 0, 0, []⟩ else if t2 = true then some ⟨3, 0, 0, []⟩ else if t3 = true then some ⟨4, 0, 0, []⟩ else none) := by
    show _ = _
    rw [HSt.out, ← Ht1, ← Ht2, ← Ht3, ba_toList]
    simp only [beq_iff_eq, sTick, sFlush, sEnd]
    congr
  clear HSt
  cases bd
  · clear hd3
    cases bc
    · clear hc2
      cases t1
      · cases t2
        · go_wp2_with fail
          (try simp only [Exit.inBlock, Exit.then])
          refine ret_step rfl rfl (HF.out.1.put _ _ _ _) ?_
          refine ⟨⟨4, 0, 0, []⟩, .slice none 0 0, ?_, ?_, OB.nil _ _, (HEnd _ _ _ _).out⟩
          · rw [HS2.out]; cases t3 <;> rfl
          · rw [HS2.out]; intro x hx; cases t3
            · cases hx
            · exact Option.some.inj hx
        · go_wp2_with fail
          (try simp only [Exit.inBlock, Exit.then])
          refine ret_step rfl rfl (HF.out.1.put _ _ _ _) ?_
          refine ⟨⟨3, 0, 0, []⟩, .slice none 0 0, ?_, ?_, OB.nil _ _, (HEnd _ _ _ _).out⟩
          · rw [HS2.out]; rfl
          · rw [HS2.out]; intro x hx; exact Option.some.inj hx
      · go_wp2_with fail
        (try simp only [Exit.inBlock, Exit.then])
        refine ret_step rfl rfl (HF.out.1.put _ _ _ _) ?_
        refine ⟨⟨1, 0, 0, []⟩, .slice none 0 0, ?_, ?_, OB.nil _ _, (HEnd _ _ _ _).out⟩
        · rw [HS2.out]; rfl
        · rw [HS2.out]; intro x hx; exact Option.some.inj hx
    · have hc2' := hc2 rfl
      clear hc2
      cases t1
      · cases t2
        · go_wp2_with fail
          (try simp only [Exit.inBlock, Exit.then])
          refine ret_step rfl rfl (HF.out.1.put _ _ _ _) ?_
          refine ⟨⟨4, 0, 0, []⟩, .slice none 0 0, ?_, ?_, OB.nil _ _, (HEnd _ _ _ _).out⟩
          · rw [HS2.out]; cases t3 <;> rfl
          · rw [HS2.out]; intro x hx; cases t3
            · cases hx
            · exact Option.some.inj hx
        · go_wp2_with fail
          (try simp only [Exit.inBlock, Exit.then])
          refine ret_step rfl rfl (HF.out.1.put _ _ _ _) ?_
          refine ⟨⟨3, 0, 0, []⟩, .slice none 0 0, ?_, ?_, OB.nil _ _, (HEnd _ _ _ _).out⟩
          · rw [HS2.out]; rfl
          · rw [HS2.out]; intro x hx; exact Option.some.inj hx
      · go_wp2_with fail
        (try simp only [Exit.inBlock, Exit.then])
        refine ret_step rfl rfl (HF.out.1.put _ _ _ _) ?_
        refine ⟨⟨1, 0, 0, []⟩, .slice none 0 0, ?_, ?_, OB.nil _ _, (HEnd _ _ _ _).out⟩
        · rw [HS2.out]; rfl
        · rw [HS2.out]; intro x hx; exact Option.some.inj hx
  · have hd3' := hd3 rfl
    clear hd3
    have hbc : bc = false := by
      rcases bc with _ | _
      · rfl
      · have e1 := beq_iff_eq.1 Hd; have e2 := beq_iff_eq.1 Hc; rw [e1] at e2; exact absurd e2 (by decide)
    subst hbc
    clear hc2
    cases t1
    · cases t2
      · go_wp2_with fail
        (try simp only [Exit.inBlock, Exit.then])
        refine ret_step rfl rfl (HF.out.1.put _ _ _ _) ?_
        refine ⟨⟨4, 0, 0, []⟩, .slice none 0 0, ?_, ?_, OB.nil _ _, (HEnd _ _ _ _).out⟩
        · rw [HS2.out]; cases t3 <;> rfl
        · rw [HS2.out]; intro x hx; cases t3
          · cases hx
          · exact Option.some.inj hx
      · go_wp2_with fail
        (try simp only [Exit.inBlock, Exit.then])
        refine ret_step rfl rfl (HF.out.1.put _ _ _ _) ?_
        refine ⟨⟨3, 0, 0, []⟩, .slice none 0 0, ?_, ?_, OB.nil _ _, (HEnd _ _ _ _).out⟩
        · rw [HS2.out]; rfl
        · rw [HS2.out]; intro x hx; exact Option.some.inj hx
    · go_wp2_with fail
      (try simp only [Exit.inBlock, Exit.then])
      refine ret_step rfl rfl (HF.out.1.put _ _ _ _) ?_
      refine ⟨⟨1, 0, 0, []⟩, .slice none 0 0, ?_, ?_, OB.nil _ _, (HEnd _ _ _ _).out⟩
      · rw [HS2.out]; rfl
      · rw [HS2.out]; intro x hx; exact Option.some.inj hx

theorem words_le (l : List UInt8) : ∀ x ∈ wordsL l, x.length ≤ l.length := by
  induction l with
  | nil => simp [wordsL]
  | cons c r ih =>
    intro x hx
    rw [wordsL] at hx
    split at hx
    · rcases List.mem_cons.1 hx with rfl | hx
      · simp
      · have := ih x hx; simp; omega
    · split at hx
      · rename_i w ws hw
        rcases List.mem_cons.1 hx with rfl | hx
        · have := ih w (by rw [hw]; exact List.mem_cons_self); simp; omega
        · have := ih x (by rw [hw]; exact List.mem_cons_of_mem _ hx); simp; omega
      · simp at hx; subst hx; simp
/-- step, whatever the line. -/
theorem step_c (s : ByteArray) (hs : s.size ≤ 5000000) (w : World) (h : LP w) :
    Calls Tryd.prog 16 #[.string s] w fun e w' => ∃ (y : Stp) (v : Value), e = .returned (.tuple #[stepV y v, .bool (stepL s.data.toList).isSome]) ∧ (∀ x, stepL s.data.toList = some x → y = x) ∧ OB w' w.heap.size v y.f3 ∧ Below w.heap.size w w' := by
  have hle := words_le s.data.toList
  have hsz : s.data.toList.length = s.size := rfl
  rcases hw : wordsL s.data.toList with _ | ⟨a, r⟩
  · exact absurd hw (words_ne _)
  rw [hw, hsz] at hle
  by_cases h1 : a = sDeliver ∧ r.length = 2
  · obtain ⟨b, c, rfl⟩ := len2 h1.2
    obtain rfl := h1.1
    exact step_A s hs w h b c hw (hle b (by simp)) (hle c (by simp))
  by_cases h2 : a = sClose ∧ r.length = 1
  · obtain ⟨b, rfl⟩ := List.length_eq_one_iff.1 h2.2
    obtain rfl := h2.1
    exact step_B s hs w h b hw (hle b (by simp))
  exact step_C s hs w h a r hw h1 h2
end Go.Proofs.YtbcdlbdljejlcaaDoor.Sc
