/- forest: slices.Clone of attributes; what a tree's lists are. -/
import Derived.Test.YtamcchdblglfoaaMgForestKeeps12
set_option linter.unusedVariables false
set_option linter.unusedSimpArgs false
namespace Go.Proofs.Ytamcchdblglfoaa.Ft
open Go.RowKit Go.Proofs.Ytamcchdblglfoaa.B0 Go.Proofs.Ytamcchdblglfoaa.Pf Go.Proofs.YtamcchdblglfoaaW.PrintWords

/-- blocks of type T stay. -/
def KT (T : Nat) (w w' : World) : Prop := ∀ (k : Nat) (cs : Array Value), w.heap[k]? = some (Obj.cells cs T (0, 0)) → w'.heap[k]? = some (Obj.cells cs T (0, 0))
theorem KT.refl {T : Nat} (w : World) : KT T w w := fun _ _ h => h
theorem KT.trans {T : Nat} {a b c : World} (h : KT T a b) (h' : KT T b c) : KT T a c := fun k cs hk => h' k cs (h k cs hk)
theorem KT.below {T : Nat} {w w' : World} (h : Below w.heap.size w w') : KT T w w' := fun k cs hk => (h.block k (lt_of_get hk)).trans hk
theorem KT.set {T : Nat} {w : World} {b o : Nat} {v : Value} {cs : Array Value} {S : TypeId} (hb : w.heap[b]? = some (.cells cs S (0, 0))) (hT : S ≠ T) : KT T w (w.setCell ⟨b, o, none⟩ v) := fun k cs' hk => by
  refine (setO w ⟨b, o, none⟩ v ?_).trans hk
  rintro rfl
  rw [hb] at hk
  exact hT (Obj.cells.inj (Option.some.inj hk)).2.1
theorem KT.grown {T : Nat} {w w' : World} {v : Value} {α : Type} {d : Kd α} {S base : Nat} {ok : Nat → Prop} {xs : List α} (h : d.R S w base ok v xs) (hT : S ≠ T) (hg : w.grownBy w' v.ownBlock) : KT T w w' := fun k cs hk => by
  refine (hg.block k (lt_of_get hk) (fun e => ?_)).trans hk
  obtain ⟨cells, hc⟩ := Kd.R_typed h k e.symm
  rw [hk] at hc
  exact hT (Obj.cells.inj (Option.some.inj hc)).2.1.symm
/-- a row in a block of type T. -/
def TAt {α : Type} (d : Kd α) (T : Nat) (w : World) (A : Option Addr) (xs : List α) : Prop := d.C w A xs.length xs ∧ ∀ ad, A = some ad → ∃ cs, w.heap[ad.block]? = some (.cells cs T (0, 0))
theorem TAt.keep {α : Type} {d : Kd α} {T : Nat} {w w' : World} {A : Option Addr} {xs : List α} (hf : ∀ x cs, d.K w x cs → d.K w' x cs) (h : TAt d T w A xs) (hk : KT T w w') : TAt d T w' A xs := by
  refine ⟨⟨h.1.1, h.1.2.1, fun hn => ?_⟩, fun ad e => ?_⟩
  · obtain ⟨ad, e, hc⟩ := h.1.2.2 hn
    obtain ⟨cs, hb⟩ := h.2 ad e
    refine ⟨ad, e, fun j p hj => ?_⟩
    obtain ⟨c, h1, h2, h3⟩ := hc j p hj
    refine ⟨c, h1, hf _ _ h2, fun i u hu => ?_⟩
    have h4 := h3 i u hu
    have hbl : ∀ m, (ad.add m).block = ad.block := fun m => by unfold Addr.add; split <;> rfl
    rw [← h4]
    exact World.cell?_of_block (by rw [hbl, hk _ _ hb, hb])
  · obtain ⟨cs, hb⟩ := h.2 ad e
    exact ⟨cs, hk _ _ hb⟩
theorem TAt.nil {α : Type} (d : Kd α) (T : Nat) (w : World) : TAt d T w none [] := ⟨Kd.C_nil _ _, fun ad e => by cases e⟩
theorem TAt.of_R {α : Type} {d : Kd α} {T base : Nat} {w : World} {ok : Nat → Prop} {v : Value} {xs : List α} (h : d.R T w base ok v xs) : ∃ A c, v = .slice A xs.length c ∧ xs.length ≤ c ∧ TAt d T w A xs := by
  obtain ⟨A, c, rfl, hc, hC⟩ := Kd.R_reads h
  refine ⟨A, c, rfl, hc, hC, fun ad e => ?_⟩
  subst e
  obtain ⟨g, rfl⟩ := Kd.R_head h
  obtain ⟨cells, hh⟩ := Kd.R_typed h g (by simp [Value.ownBlock])
  exact ⟨cells, hh⟩
theorem infoA : (Try.prog.info? 123).map (fun i => (i.zero, i.size, i.bytes)) = some (some (.agg #[(.string ⟨#[]⟩), (.int .i64 0), (.int .i64 0), (.string ⟨#[]⟩)]), 4, 48) := by kernel_rfl
theorem infoS : (Try.prog.info? 44).map (fun i => (i.zero, i.size, i.bytes)) = some (some (.agg #[.int .u64 0, .int .u64 0, .int .u64 0, .string ⟨#[]⟩, .string ⟨#[]⟩, .int .i64 0, .int .i64 0, .int .u64 0, .int .u64 0, .slice none 0 0]), 10, 112) := by kernel_rfl
set_option maxHeartbeats 4000000 in
set_option maxRecDepth 100000 in
theorem CloneA_c (w : World) (A : Option Addr) (c : Nat) (ls : List At) (hC : Kd.C k123 w A ls.length ls) (hl : ls.length ≤ 1000000) :
    Calls Try.prog 78 #[.slice A ls.length c] w fun e w' => ∃ v, e = .returned v ∧ Kd.R k123 123 w' w.heap.size (fun _ => True) v ls ∧ Below w.heap.size w w' := by
  obtain ⟨n, hn⟩ : ∃ n, ls.length = n := ⟨_, rfl⟩
  rw [hn] at hC ⊢
  have HN := Lib.hid hn
  rw [hn] at hl
  clear hn
  have HC := Lib.hid hC; clear hC
  rcases A with _ | ad
  · have h0 : n = 0 := by
      rcases Nat.eq_zero_or_pos n with h | h
      · exact h
      · obtain ⟨ad, e, _⟩ := HC.out.2.2 h; cases e
    subst h0
    have hq : ∀ W, (binOp .eql 42 (.slice none 0 c) (.slice none 0 0)).run Try.prog W = .ok (.bool true) W := fun _ => by kernel_rfl
    have hls : Hid (ls = []) := List.eq_nil_of_length_eq_zero HN.out
    go_enter Try.func78, Try.ntmps78
    go_wp2_with fail
    go_ret
    exact ⟨_, rfl, by rw [hls.out]; exact Kd.R_nil _ _ _ _ _, Below.refl _ _⟩
  · have hq : ∀ W, (binOp .eql 42 (.slice (some ad) n c) (.slice none 0 0)).run Try.prog W = .ok (.bool false) W := fun _ => by kernel_rfl
    go_enter Try.func78, Try.ntmps78
    go_wp2_with ((with_reducible refine gate_dst (N := 5) rfl ?_); go_loud (refine Kd.R_lit k123 (w0 := w) w.heap.size 123 ?hg (N := 5) ?hd (xs := ([] : List At)) (inner := []) (ok := fun _ => True) (okp := fun _ => False) ?hr ?hp (fun _ _ => trivial) trivial (Below.refl _ _) (Nat.le_refl _) (by simp) ?_); (case hd => rfl); (case hg => rfl); (case hr => first | (go_simp; done) | (go_simp; rfl)); (case hp => exact (Reps.none _ _)))
    intro v1 w1 ho1 hb1 hg1 hn0 hn1 hn2
    have H1 : Hid (Kd.R k123 123 w1 w.heap.size (fun _ => True) v1 ([] : List At) ∧ Below w.heap.size w w1) := ⟨ho1, hb1⟩
    clear ho1 hb1 hg1 hn1 hn2
    have HC1 := Lib.hid (Kd.C_below HC.out H1.out.2)
    go_wp2_with (at_builtin; go_loud (refine Kd.R_append_rows k123 (Rr := k123.K w1) (w0 := w) w.heap.size rfl _ _ 42 123 (.agg #[(.string ⟨#[]⟩), (.int .i64 0), (.int .i64 0), (.string ⟨#[]⟩)]) 48 rfl Try.underlying42 infoA rfl (by decide) (by decide) v1 [] ls (some ad) n c (fun _ => True) (fun _ => False) rfl rfl H1.out.1 HC1.out (fun _ _ h => h) (fun _ h => h.elim) (fun _ _ => trivial) H1.out.2 H1.out.2.size (by simp only [List.length_nil]; omega) ?_))
    intro v2 w2 ho2 hb2 hg2 hat2
    have H2 : Hid (Kd.R k123 123 w2 w.heap.size (fun _ => True) v2 ls ∧ Below w.heap.size w w2) := ⟨ho2, hb2⟩
    clear ho2 hb2 hg2 hat2
    go_wp2_with fail
    go_ret
    exact ⟨v2, rfl, H2.out⟩

theorem ka_flat (w w' : World) (x : At) (cs : List Value) (h : k123.K w x cs) : k123.K w' x cs := by
  have e := k123_open h
  rw [e]; exact k123_mk w' x
/-- attributes in blocks of their own type. -/
def AttT (w : World) (p : PS) : Prop := TAt k123 123 w p.A p.s.f9 ∧ p.s.f9.length ≤ p.c
theorem AttT.keep {w w' : World} {p : PS} (h : AttT w p) (hk : KT 123 w w') : AttT w' p := ⟨h.1.keep (ka_flat _ _) hk, h.2⟩
theorem AttT.att {w : World} {p : PS} (h : AttT w p) : AttP w p := ⟨h.1.1, h.2⟩

abbrev Nd := S47
/-- how many of the first k stay. -/
def place (gs : List Bool) (k : Nat) : Nat := (gs.take k).countP (fun g => !g)
theorem place_le (gs : List Bool) (k : Nat) : place gs k ≤ k := by
  have h1 := List.countP_le_length (p := fun g : Bool => !g) (l := gs.take k)
  have h2 : (gs.take k).length ≤ k := by rw [List.length_take]; omega
  exact Nat.le_trans h1 h2
theorem place_succ {gs : List Bool} {k : Nat} {g : Bool} (h : gs[k]? = some g) : place gs (k + 1) = if g then place gs k else place gs k + 1 := by
  unfold place
  rw [List.take_add_one, h, List.countP_append]
  cases g <;> simp
def outP (gs : List Bool) (x : PN) : Int := if x.par = -1 then -1 else ((place gs x.par.toNat : Nat) : Int)
def outN (gs : List Bool) (x : PN) : Nd := ⟨x.p.s, outP gs x, x.dep, x.orp⟩
/-- what is kept, and what isn't. -/
def nodesM (gs : List Bool) : List PN → List Bool → List Nd
  | x :: ns, g :: hs => if g then nodesM gs ns hs else outN gs x :: nodesM gs ns hs
  | _, _ => []
def dropM : List PN → List Bool → List Sp
  | x :: ns, g :: hs => if g then x.p.s :: dropM ns hs else dropM ns hs
  | _, _ => []
theorem nodesM_snoc (G : List Bool) : ∀ (ns : List PN) (gs : List Bool) (x : PN) (g : Bool), ns.length = gs.length → nodesM G (ns ++ [x]) (gs ++ [g]) = nodesM G ns gs ++ (if g then [] else [outN G x])
  | [], [], x, g, _ => by cases g <;> rfl
  | [], h :: gs, x, g, e => by simp at e
  | y :: ns, [], x, g, e => by simp at e
  | y :: ns, h :: gs, x, g, e => by
    have ih := nodesM_snoc G ns gs x g (by simpa using e)
    cases h <;> simp [nodesM, ih]
theorem dropM_snoc : ∀ (ns : List PN) (gs : List Bool) (x : PN) (g : Bool), ns.length = gs.length → dropM (ns ++ [x]) (gs ++ [g]) = dropM ns gs ++ (if g then [x.p.s] else [])
  | [], [], x, g, _ => by cases g <;> rfl
  | [], h :: gs, x, g, e => by simp at e
  | y :: ns, [], x, g, e => by simp at e
  | y :: ns, h :: gs, x, g, e => by
    have ih := dropM_snoc ns gs x g (by simpa using e)
    cases h <;> simp [dropM, ih]
theorem nodesM_len (G : List Bool) : ∀ (ns : List PN) (gs : List Bool), (nodesM G ns gs).length ≤ ns.length
  | [], _ => by simp [nodesM]
  | y :: ns, [] => by simp [nodesM]
  | y :: ns, h :: gs => by
    have ih := nodesM_len G ns gs
    cases h <;> simp [nodesM] <;> omega
theorem dropM_len : ∀ (ns : List PN) (gs : List Bool), (dropM ns gs).length ≤ ns.length
  | [], _ => by simp [dropM]
  | y :: ns, [] => by simp [dropM]
  | y :: ns, h :: gs => by
    have ih := dropM_len ns gs
    cases h <;> simp [dropM] <;> omega
def ndOf (x : PN) : Nd := ⟨x.p.s, x.par, x.dep, x.orp⟩
theorem C_of_pn {w : World} {A : Option Addr} {xs : List PN} {c : Nat} {e base : Nat} {ok : Nat → Prop} (h : kN.R e w base ok (.slice A xs.length c) xs) (ha : ∀ x ∈ xs, AttP w x.p) : Kd.C k47 w A xs.length (xs.map ndOf) := by
  obtain ⟨_, hc, hC⟩ := Kd.R_reads' h
  refine ⟨by simp, hC.2.1, fun hn => ?_⟩
  obtain ⟨ad, e, hcells⟩ := hC.2.2 hn
  refine ⟨ad, e, fun j y hy => ?_⟩
  rw [List.getElem?_map, Option.map_eq_some_iff] at hy
  obtain ⟨x, hx, rfl⟩ := hy
  obtain ⟨cs, hcl, hK, hcell⟩ := hcells j x hx
  have hK : cs = csN x := hK
  subst hK
  have hat := ha x (List.mem_of_getElem? hx)
  exact ⟨csN x, rfl, k47_mk w (ndOf x) hat.2 hat.1, hcell⟩
theorem C_of_psR {w : World} {A : Option Addr} {xs : List PS} {c : Nat} {e base : Nat} {ok : Nat → Prop} (h : kP.R e w base ok (.slice A xs.length c) xs) (ha : ∀ x ∈ xs, AttP w x) : Kd.C k44 w A xs.length (xs.map fun p => p.s) := by
  obtain ⟨_, hc, hC⟩ := Kd.R_reads' h
  refine ⟨by simp, hC.2.1, fun hn => ?_⟩
  obtain ⟨ad, e, hcells⟩ := hC.2.2 hn
  refine ⟨ad, e, fun j y hy => ?_⟩
  rw [List.getElem?_map, Option.map_eq_some_iff] at hy
  obtain ⟨x, hx, rfl⟩ := hy
  obtain ⟨cs, hcl, hK, hcell⟩ := hcells j x hx
  have hK : cs = csP x := hK
  subst hK
  have hat := ha x (List.mem_of_getElem? hx)
  exact ⟨csP x, rfl, k44_mk w x.s hat.2 hat.1, hcell⟩
end Go.Proofs.Ytamcchdblglfoaa.Ft
