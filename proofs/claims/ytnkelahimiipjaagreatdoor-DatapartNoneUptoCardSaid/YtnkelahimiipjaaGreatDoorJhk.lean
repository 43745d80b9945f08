/-
 datapart: (*Part).Of.
-/
import Derived.Test.YtnkelahimiipjaaGreatDoorJck
import Derived.Test.YtnkelahimiipjaaGreatDoorPlk
import Derived.Test.YtnkelahimiipjaaGreatDoorHpk
import Derived.Test.YtnkelahimiipjaaGreatDoorVrk
import Derived.Test.YtnkelahimiipjaaGreatDoorBqk
namespace Go.Proofs.YtnkelahimiipjaaGreatDoor
open Go.RowKit Go.Sort
attribute [local go_sem] Oper.semAt_some
def ktF (t : TypeId) : Bool := t == 22 || (t == 62 || t == 3)
/-- What is told so far. -/
structure OfI (W : World) (B : Nat) (f t : Int) (lv : Value) (cs : List PtX) (l : List Pts) (m : Nat) (w : World) : Prop where
 from_ : Boxed w B 2 (.int .i64 f)
 to_ : Boxed w (B + 1) 2 (.int .i64 t)
 lb : Boxed w (B + 1 + 1) 22 lv
 nb : Boxed w (B + 1 + 1 + 1) 3 (.int .i64 (m : Int))
 row : PtsO w W.heap.size lv cs l
 below : Below W.heap.size W w
 low : W.heap.size ≤ B
variable {W w w' : World} {B m : Nat} {f t : Int} {lv : Value} {cs : List PtX} {l : List Pts}
theorem OfI.on (h : OfI W B f t lv cs l m w) (k : Below w.heap.size w w') : OfI W B f t lv cs l m w' :=
 ⟨boxOn h.from_ k, boxOn h.to_ k, boxOn h.lb k, boxOn h.nb k, h.row.on k, h.below.trans (k.mono h.below.size), h.low⟩
theorem PtsO.putO {w : World} {base : Nat} {v : Value} {cs : List PtX} {l : List Pts} (h : PtsO w base v cs l) {k : Nat} {o0 : Obj} (o : Obj) (hl : w.heap[k]? = some o0) (ho : o0.isCells = false) : PtsO (w.putObj k o) base v cs l :=
 ⟨h.row.putO o hl ho, h.len, fun i h1 h2 => ⟨(h.at_ i h1 h2).1, ownsRow_putObj (h.at_ i h1 h2).2 o hl ho⟩⟩
theorem OfI.put {k : Nat} {o0 : Obj} (h : OfI W B f t lv cs l m w) (hl : w.heap[k]? = some o0) (hc : o0.isCells = false) (hz : W.heap.size ≤ k) (o : Obj) : OfI W B f t lv cs l m (w.putObj k o) :=
 ⟨boxPut h.from_ hl hc o, boxPut h.to_ hl hc o, boxPut h.lb hl hc o, boxPut h.nb hl hc o, h.row.putO o hl hc, belowPut h.below hz o, h.low⟩
theorem PtsO.setBox {w : World} {base b : Nat} {ty : TypeId} {u v : Value} {cs : List PtX} {l : List Pts} (h : PtsO w base v cs l) (hb : Boxed w b ty u) (h1 : ty ≠ 62) (h2 : ty ≠ 66) (u' : Value) : PtsO (w.setCell ⟨b, 0, none⟩ u') base v cs l :=
 ⟨h.row.set hb h1 u', h.len, fun i k1 k2 => ⟨(h.at_ i k1 k2).1, (h.at_ i k1 k2).2.kept (grownBy_setCell' w b u') (.inr (hb.not_row h2 (h.at_ i k1 k2).2).symm)⟩⟩
theorem OfI.push {w1 : World} {lv' : Value} {x : PtX} {p : Pts} (h : OfI W B f t lv cs l m w) (h1 : x.1 = p.1) (h2 : Own w W.heap.size 66 (sliceX x) p.2) (hown : OwnG EP 62 w1 W.heap.size lv' (cs ++ [x])) (hg : w.grownBy w1 lv.ownBlock) :
  Boxed w1 (B + 1 + 1) 22 lv ∧ OfI W B f t lv' (cs ++ [x]) (l ++ [p]) m (w1.setCell ⟨B + 1 + 1, 0, none⟩ lv') ∧ KpT ktF W.heap.size w (w1.setCell ⟨B + 1 + 1, 0, none⟩ lv') := by
 have hl := h.low
 have hz := h.below.size
 have hr := h.row.row
 have b0 : Boxed w1 B 2 (.int .i64 f) := boxGrown h.from_ hg hr (by decide)
 have b1 : Boxed w1 (B + 1) 2 (.int .i64 t) := boxGrown h.to_ hg hr (by decide)
 have b2 : Boxed w1 (B + 1 + 1) 22 lv := boxGrown h.lb hg hr (by decide)
 have b3 : Boxed w1 (B + 1 + 1 + 1) 3 (.int .i64 (m : Int)) := boxGrown h.nb hg hr (by decide)
 have hk1 : KpT ktF W.heap.size w w1 := KpT.grown hg hz (fun k e => by
  obtain ⟨q1, c, z, q2⟩ := hr.cellsAt k e
  exact ⟨q1, c, _, z, q2, rfl⟩)
 have hk2 : KpT ktF W.heap.size w1 (w1.setCell ⟨B + 1 + 1, 0, none⟩ lv') := KpT.setCell (e := 22) b2 rfl (by omega) _ _
 have hk := hk1.trans hk2
 exact ⟨b2, ⟨boxSet b0 (by omega) _, boxSet b1 (by omega) _, b2.set _, boxSet b3 (by omega) _, (h.row.push h1 h2 hown hg).setBox b2 (by decide) (by decide) _, h.below.trans hk.1, hl⟩, hk⟩
theorem OfI.putN {m' : Nat} (h : OfI W B f t lv cs l m w) : OfI W B f t lv cs l m' (w.setCell ⟨B + 1 + 1 + 1, 0, none⟩ (.int .i64 (m' : Int))) ∧ KpT ktF W.heap.size w (w.setCell ⟨B + 1 + 1 + 1, 0, none⟩ (.int .i64 (m' : Int))) := by
 have hl := h.low
 have hk : KpT ktF W.heap.size w (w.setCell ⟨B + 1 + 1 + 1, 0, none⟩ (.int .i64 (m' : Int))) := KpT.setCell (e := 3) h.nb rfl (by omega) _ _
 exact ⟨⟨boxSet h.from_ (by omega) _, boxSet h.to_ (by omega) _, boxSet h.lb (by omega) _, h.nb.set _, h.row.setBox h.nb (by decide) (by decide) _, h.below.trans hk.1, hl⟩, hk⟩
/-- What Of answers. -/
def OfR (W : World) (c : List Pts) (ids : List Int) (f t : Int) (e : Ending) (w' : World) : Prop :=
 ∃ r, e = .returned (.tuple #[r, .int .i64 ((ofV c ids f t).2 : Int)]) ∧ RdO w' W.heap.size r (ofV c ids f t).1 ∧ Below W.heap.size W w'
set_option maxRecDepth 100000 in
set_option maxHeartbeats 4000000 in
theorem of_walk (pb hb : Nat) (pv hv iv : Value) (c : List Pts) (ids : List Int) (f t : Int) (W : World) (T : Tabs W) (hP : PartAt W pb hb pv) (hh : W.cell? ⟨hb, 0, none⟩ = some hv) (hR : RdP W W.heap.size hv (blksV c)) (hI : RdZ W W.heap.size iv ids) (hcl : Clean c) (hm : manyL c ≤ 2000) (hil : ids.length ≤ 1000000) :
  Calls Tryz.prog 18 #[.pointer (some ⟨pb, 0, none⟩), iv, .int .i64 f, .int .i64 t] W fun e w' => OfR W c ids f t e w' := by
 have hr : Tryz.f18.results = #[.tmp 8, .tmp 9] := by kernel_rfl
 obtain ⟨hp0, _⟩ := hP
 have hfit := table_fits hcl hm
 have hbo := blks_ok hcl
 obtain ⟨Ai, ci, rfl, _⟩ := id hI
 obtain ⟨ni, hni⟩ : ∃ ni, ni = ids.length := ⟨_, rfl⟩
 rw [← hni] at hI ⊢
 have HT := Lib.hid T
 have HP0 := Lib.hid hp0
 have HH := Lib.hid hh
 have HR := Lib.hid hR
 have HI := Lib.hid hI
 have HBO := Lib.hid hbo
 have HFIT := Lib.hid hfit
 have hf1 : Fence.wide.fn 48 := trivial
 have hf3 : Fence.wide.fn 43 := trivial
 clear T hh hR hI hbo hfit hni hcl hm
 refine (callsIn_wide (n := 40)).1 ?_
 refine callsIn_of_wp_marks Tryz.func18 rfl trivial ?_ rfl
 simp only [Tryz.ntmps18, List.size_toArray, List.length_cons, List.length_nil, Nat.reduceAdd, Nat.reduceSub, Array.replicate_succ, Array.replicate_zero, List.push_toArray, List.append_toArray, List.nil_append, List.cons_append]
 gi_wp2_with fail
 obtain ⟨B, hBs⟩ : ∃ B, B = W.heap.size := ⟨_, rfl⟩
 obtain ⟨Wa, hWa⟩ : ∃ Wa, Wa = (((W.alloc (.cells #[.int .i64 f] 2)).alloc (.cells #[.int .i64 t] 2)).alloc (.cells #[.slice none 0 0] 22)).alloc (.cells #[.int .i64 0] 3) := ⟨_, rfl⟩
 have hba : Below W.heap.size W Wa := by
  rw [hWa]; exact ((((Below.refl _ W).alloc (Nat.le_refl _) _).alloc (by simp) _).alloc (by simp <;> omega) _).alloc (by simp <;> omega) _
 have hsa : Wa.heap.size = B + 4 := by rw [hWa, hBs]; simp
 have hIa : OfI W B f t (.slice none 0 0) [] [] 0 Wa := by
  refine ⟨?_, ?_, ?_, ?_, PtsO.nil _ _, hba, by omega⟩
  ·rw [hWa, hBs]; exact (((boxNew _ _ _ rfl).alloc _).alloc _).alloc _
  ·rw [hWa, hBs]; exact ((boxNew _ _ _ (by simp)).alloc _).alloc _
  ·rw [hWa, hBs]; exact (boxNew _ _ _ (by simp)).alloc _
  ·rw [hWa, hBs]; exact boxNew _ _ _ (by simp)
 have HIA := Lib.hid hIa
 have HBS := Lib.hid hBs
 have HSA := Lib.hid hsa
 have hcp : Wa.cell? ⟨pb, 0, none⟩ = some (.pointer (some ⟨hb, 0, none⟩)) := (hba.cell (lt_of_cell HP0.out)).trans HP0.out
 have HC := Lib.hid (And.intro hcp (And.intro hIa.from_.cell hIa.to_.cell))
 have KO : ∀ w, CallsIn Fence.wide 39 Tryz.prog 48 #[.pointer (some ⟨hb, 0, none⟩), .slice Ai ni ci, .int .i64 f, .int .i64 t] w _ := fun w => callsIn_wide.2 (hof_walk hb Ai ni ci f t w)
 rw [← hBs, ← hWa]
 clear hWa hba hIa hBs hcp
 refine wpIn_calm ?_
 refine wpIn_region_any (by kernel_rfl) ?_
 change wpAnyIn _ _ _ _ _ _ _ _ _ (World.drew _)
 have hS0 : Below Wa.heap.size Wa (World.drew Wa) := ((Ext.refl Wa).drewN _).below
 refine heldIn_sound (S := fun w' => Below Wa.heap.size Wa w') _ _ _ _ ?_
 refine heldIn_take (i := 0) (v := ?_) (by kernel_rfl) rfl (by kernel_rfl) (by kernel_rfl) (by kernel_rfl) (fun _ _ _ h => calm_panic h) ⟨Or.inl ⟨by rfl, ?_⟩, fun _ => rfl⟩ hS0 ?_
 rotate_left
 · intro w' _
   (go_simp <;> with_reducible rfl)
 refine heldIn_take (i := 1) (v := ?_) (by kernel_rfl) rfl (by kernel_rfl) (by kernel_rfl) (by kernel_rfl) (fun _ _ _ h => calm_panic h) ⟨Or.inl ⟨by rfl, ?_⟩, fun _ => rfl⟩ hS0 ?_
 rotate_left
 · intro w' _
   (go_simp <;> with_reducible rfl)
 refine heldIn_take (i := 2) (v := ?_) (by kernel_rfl) rfl (by kernel_rfl) (by kernel_rfl) (by kernel_rfl) (fun _ _ _ h => calm_panic h) ⟨Or.inl ⟨by rfl, ?_⟩, fun _ => rfl⟩ hS0 ?_
 rotate_left
 · intro w' _
   (go_simp <;> with_reducible rfl)
 refine heldIn_take (i := 3) (v := ?_) (by kernel_rfl) rfl (by kernel_rfl) (by kernel_rfl) (by kernel_rfl) (fun _ _ _ h => calm_panic h) ⟨Or.inl ⟨by rfl, ?_⟩, fun _ => rfl⟩ hS0 ?_
 rotate_left
 · intro w' hS
   have c0 := (hS.cell (lt_of_cell HC.out.1)).trans HC.out.1
   (go_simp <;> with_reducible rfl)
 refine heldIn_take (i := 4) (v := ?_) (by kernel_rfl) rfl (by kernel_rfl) (by kernel_rfl) (by kernel_rfl) (fun _ _ _ h => calm_panic h) ⟨Or.inl ⟨by rfl, ?_⟩, fun _ => rfl⟩ hS0 ?_
 rotate_left
 · intro w' _
   (go_simp <;> with_reducible rfl)
 refine heldIn_take (i := 5) (v := ?_) (by kernel_rfl) rfl (by kernel_rfl) (by kernel_rfl) (by kernel_rfl) (fun _ _ _ h => calm_panic h) ⟨Or.inl ⟨by rfl, ?_⟩, fun _ => rfl⟩ hS0 ?_
 rotate_left
 · intro w' hS
   have c0 := (hS.cell (lt_of_cell HC.out.2.1)).trans HC.out.2.1
   (go_simp <;> with_reducible rfl)
 refine heldIn_take (i := 6) (v := ?_) (by kernel_rfl) rfl (by kernel_rfl) (by kernel_rfl) (by kernel_rfl) (fun _ _ _ h => calm_panic h) ⟨Or.inl ⟨by rfl, ?_⟩, fun _ => rfl⟩ hS0 ?_
 rotate_left
 · intro w' hS
   have c0 := (hS.cell (lt_of_cell HC.out.2.2)).trans HC.out.2.2
   (go_simp <;> with_reducible rfl)
 refine heldIn_one (i := 7) (by kernel_rfl) rfl (fun K hK => ?_)
 go_simp
 refine (KO _).mono ?_
 rintro e w9 ⟨rfl, hw9⟩
 have hsd : (World.drew Wa).heap.size = B + 4 := HSA.out
 obtain ⟨D0, hD0⟩ : ∃ D0, D0 = (World.drew Wa).heap.size := ⟨_, rfl⟩
 have hb9 : Below (World.drew Wa).heap.size (World.drew Wa) w9 := by
  rw [hw9]; exact ((((Below.refl _ _).alloc (Nat.le_refl _) _).alloc (by simp) _).alloc (by simp <;> omega) _).alloc (by simp <;> omega) _
 have hs9 : w9.heap.size = D0 + 4 := by rw [hw9, hD0]; simp
 have hSb : Below Wa.heap.size Wa w9 := hS0.trans (hb9.mono hS0.size)
 have hbp : Boxed w9 D0 86 (.pointer (some ⟨hb, 0, none⟩)) := by rw [hw9, hD0]; exact (((boxNew _ _ _ rfl).alloc _).alloc _).alloc _
 have hob : OfB (D0 + 1) (D0 + 3) (D0 + 2) (.slice Ai ni ci) f t w9 := by
  refine ⟨?_, ?_, ?_⟩
  ·rw [hw9, hD0]; exact ((boxNew _ _ _ (by simp)).alloc _).alloc _
  ·rw [hw9, hD0]; exact boxNew _ _ _ (by simp)
  ·rw [hw9, hD0]; exact (boxNew _ _ _ (by simp)).alloc _
 have hI9 := HIA.out.on hSb
 have HI9 := Lib.hid hI9
 have HHV : Hid (w9.cell? ⟨hb, 0, none⟩ = some hv) := (hI9.below.cell (lt_of_cell HH.out)).trans HH.out
 have HBP := Lib.hid hbp
 have HOB := Lib.hid hob
 refine hK _ _ hSb ?_
 clear hK K hw9 hb9 hbp hob hI9 KO hSb hsd
 refine heldIn_done (by kernel_rfl) ⟨rfl, ?_⟩ _
 rw [← hD0]
 clear hD0 hS0
 gi_wp2_with fail
 have hWs : W.heap.size ≤ w9.heap.size := HI9.out.below.size
 have HWS := Lib.hid hWs
 refine range_y (kt := ktF) (Z := W.heap.size) (N := ((blksV c).filter (readB ids f t)).length) (F := Fence.wide) (n := 40) rfl (by omega) (gf := 85) (lb := #[.pointer (some ⟨D0, 0, none⟩), .pointer (some ⟨D0 + 1, 0, none⟩), .pointer (some ⟨D0 + 3, 0, none⟩), .pointer (some ⟨D0 + 2, 0, none⟩)]) (by simp [Act.eval]) trivial (enters_of Tryz.func85 (by kernel_rfl) rfl) (encs := encO) (New := NewO w9 W.heap.size (blksV c) ids f t) (S := fun xs => xs.map (fun x => x.1) = (blksV c).filter (readB ids f t)) (Sp := fun _ => True) (w0 := w9) hWs
  (iter_of ktF rfl rfl W.heap.size 39 D0 hb (D0 + 1) (D0 + 3) (D0 + 2) hv (.slice Ai ni ci) (blksV c) ids f t w9 (by omega) HBP.out HHV.out HOB.out hWs (HR.out.below HI9.out.below) (HI.out.below HI9.out.below) (by have := HFIT.out.2.2; omega) hil (fun b hb => ⟨(HBO.out b hb).2.1, by have := (HBO.out b hb).1.2.2.1; omega⟩)) (Below.refl _ _) (fun _ => rfl) (fun _ _ _ _ _ _ h _ => h)
  (fun pre W1 => ∃ lv cs, OfI W B f t lv cs (pre.map fun x => (x.1.1, delS f t x.1.2)) pre.length W1) (fun _ _ => False) ?hI ?hIx ?h0 (fun x W9 => { tmps := #[.pointer (some ⟨pb, 0, none⟩), .slice Ai ni ci, .int .i64 f, .int .i64 t, undef, undef, .pointer (some ⟨B, 0, none⟩), .pointer (some ⟨B + 1, 0, none⟩), .slice none 0 0, .int .i64 0, .pointer (some ⟨B + 1 + 1, 0, none⟩), .pointer (some ⟨B + 1 + 1 + 1, 0, none⟩), .pointer (some ⟨W9.heap.size, 0, none⟩), .pointer (some ⟨pb, 0, none⟩), .bool false, .pointer (some ⟨pb, 0, none⟩), .pointer (some ⟨pb, 0, none⟩), .pointer (some ⟨pb, 0, none⟩), .pointer (some ⟨hb, 0, none⟩), .slice Ai ni ci, .int .i64 f, .int .i64 t, .func (.func 85) #[] #[.pointer (some ⟨D0, 0, none⟩), .pointer (some ⟨D0 + 1, 0, none⟩), .pointer (some ⟨D0 + 3, 0, none⟩), .pointer (some ⟨D0 + 2, 0, none⟩)], .agg #[.int .i64 x.1.1, x.2], undef, undef, undef, undef, undef, undef, undef, undef, undef, undef, undef, undef, undef, undef, undef, undef], defers := [] }) (fun x W9 => W9.alloc (.cells #[.int .i64 x.1.1, x.2] 71)) ?cb ?ca ?cw ?assign ?body ?done ?stop
 case hI => rintro s A1 l1 r o ⟨lv, cs, h⟩ hl hr1; exact ⟨lv, cs, h.put hr1 rfl (by omega) o⟩
 case hIx => intro s A1 l1 r o h; exact h.elim
 case h0 => intro B1 hB; exact ⟨_, _, HI9.out.on hB⟩
 case cb => intro x W9; exact (Below.refl _ _).alloc (Nat.le_refl _) _
 case ca => intro x W9 l1 o; rw [World.putObj_size]
 case cw => intro x W9 l1 o hl; exact alloc_put hl _ _
 case assign =>
  rintro l1 x W9 K ⟨_, _, _, _, hRd, _⟩ hK
  obtain ⟨⟨pid, ps⟩, sv⟩ := x
  obtain ⟨As, cs, hsv, _⟩ := hRd
  dsimp only at hsv
  subst hsv
  dsimp only [encO] at hK ⊢
  gi_wp2
  exact hK
 case body =>
  rintro l1 pre X W0 Wb hl1 hlW ⟨lv, cs, hI⟩ hpl hbel ⟨hx, hRd, hNz⟩
  have hmx : X.1 ∈ blksV c := (List.mem_filter.1 (List.mem_of_getElem? hx)).1
  obtain ⟨hbo, _, _⟩ := HBO.out _ hmx
  have h16 : X.1.2.length ≤ 16 := hbo.2.2.1
  have hp2000 : pre.length ≤ 2000 := by
   have h1 := List.length_filter_le (readB ids f t) (blksV c)
   have h2 := HFIT.out.2.2
   omega
  obtain ⟨As, sc, hsv, _⟩ := id hRd
  obtain ⟨L, hL⟩ : ∃ L, L = pre.map (fun x : Blk × Value => (x.1.1, delS f t x.1.2)) := ⟨_, rfl⟩
  obtain ⟨m, hm⟩ : ∃ m, m = pre.length := ⟨_, rfl⟩
  rw [← hL, ← hm] at hI
  have HL : Hid (pre.map (fun x : Blk × Value => (x.1.1, delS f t x.1.2)) = L) := hL.symm
  have HM : Hid (pre.length = m) := hm.symm
  rw [← hm] at hp2000
  have HLm : Hid (L.length = m) := by show _ = _; rw [hL, hm, List.length_map]
  obtain ⟨Wc, hWc⟩ : ∃ Wc, Wc = Wb.alloc (.cells #[.int .i64 X.1.1, .slice As X.1.2.length sc] 71) := ⟨_, rfl⟩
  obtain ⟨H12, hH12⟩ : ∃ H12, H12 = Wb.heap.size := ⟨_, rfl⟩
  have hbc : Below Wb.heap.size Wb Wc := by rw [hWc]; exact (Below.refl _ _).alloc (Nat.le_refl _) _
  have hhc : Wc.heap[H12]? = some (.cells #[.int .i64 X.1.1, .slice As X.1.2.length sc] 71 (0, 0)) := by rw [hWc, hH12]; exact heap_alloc_new Wb _
  have hIb := hI.on hbel
  have hIc := hIb.on hbc
  obtain ⟨Al, nl, cl, rfl⟩ := hIc.row.row.sl
  have k0 : Wc.cell? ⟨H12, 0, none⟩ = some (.int .i64 X.1.1) := by simp [World.cell?, hhc]
  have k1 : Wc.cell? ⟨H12, 1, none⟩ = some (.slice As X.1.2.length sc) := by simp [World.cell?, hhc]
  have kl := hIc.lb.cell
  have HK := Lib.hid (And.intro k0 (And.intro k1 (And.intro hIc.from_.cell (And.intro hIc.to_.cell kl))))
  have HIC := Lib.hid hIc
  have HHC := Lib.hid hhc
  have HKT0 : Hid (KpT ktF W.heap.size Wb Wc) := KpT.below hbc hIb.below.size
  have hlt0 : B + 1 + 1 + 1 < H12 := by rw [hH12]; exact hIb.nb.lt
  have hsz : H12 < Wc.heap.size := (Array.getElem?_eq_some_iff.1 hhc).1
  have HNE : Hid (H12 ≠ B + 1 + 1 ∧ H12 < Wc.heap.size) := by show _ ∧ _; omega
  have hSof : ∀ w', Below Wc.heap.size Wc w' → w'.heap[B]? = Wc.heap[B]? ∧ w'.heap[B + 1]? = Wc.heap[B + 1]? ∧ w'.heap[H12]? = Wc.heap[H12]? := fun w' h => ⟨h.block _ HIC.out.from_.lt, h.block _ HIC.out.to_.lt, h.block _ HNE.out.2⟩
  have HSOF := Lib.hid hSof
  have KCl : Hid (∀ w', Below Wc.heap.size Wc w' → CallsIn (Fence.wide.inRound l1) 37 Tryz.prog 49 #[.slice As X.1.2.length sc, .int .i64 f, .int .i64 t] w' fun e w'' => ∃ A n c, e = .returned (.slice A n c) ∧ Own w'' W.heap.size 66 (.slice A n c) (delS f t X.1.2) ∧ Below Wc.heap.size Wc w'') := fun w' h => CallsIn.inRound l1 (callsIn_wide.2 ((clip_walk _ X.1.2 f t w' (by
   have h1 : Below W.heap.size W w' := HIC.out.below.trans (h.mono HIC.out.below.size)
   have h2 := (hRd.side HI9.out.below h1).mono h1.size
   rw [hsv] at h2
   exact h2) (by rw [← hsv]; exact hNz) (by omega)).mono (by
   rintro e w'' ⟨r, rfl, ho, hb⟩
   have hz : W.heap.size ≤ w'.heap.size := Nat.le_trans HIC.out.below.size h.size
   rcases ho.2 with ⟨h0, h1⟩ | ⟨g, cap, cur, h0, _⟩
   ·subst h0; exact ⟨_, _, _, rfl, ho.lower hz, h.trans (hb.mono h.size)⟩
   ·subst h0; exact ⟨_, _, _, rfl, ho.lower hz, h.trans (hb.mono h.size)⟩)))
  have hfC : Fence.wide.fn 49 := trivial
  have HSV := Lib.hid hsv
  dsimp only
  rw [hsv, ← hH12, ← hWc]
  clear hL hm hWc hH12 hbc hhc hIb hIc hI hSof hsv hx hRd hNz hmx hbo hbel hlt0 hsz
  gi_wp2_with fail
  refine wpIn_calm ?_
  refine wpIn_region_any (by kernel_rfl) ?_
  change wpAnyIn _ _ _ _ _ _ _ _ _ (World.drew _)
  have hb0 : Below Wc.heap.size Wc (World.drew Wc) := ((Ext.refl Wc).drewN _).below
  have hS0 := HSOF.out _ hb0
  have HB0 := Lib.hid hb0
  refine heldIn_sound (S := fun w' => w'.heap[B]? = Wc.heap[B]? ∧ w'.heap[B + 1]? = Wc.heap[B + 1]? ∧ w'.heap[H12]? = Wc.heap[H12]?) _ _ _ _ ?_
  refine heldIn_take (i := 1) (v := ?_) (by kernel_rfl) rfl (by kernel_rfl) (by kernel_rfl) (by kernel_rfl) (fun _ _ _ h => calm_panic h) ⟨Or.inl ⟨by rfl, ?_⟩, fun _ => rfl⟩ hS0 ?_
  rotate_left
  · intro w' _
    (go_simp <;> with_reducible rfl)
  refine heldIn_take (i := 2) (v := ?_) (by kernel_rfl) rfl (by kernel_rfl) (by kernel_rfl) (by kernel_rfl) (fun _ _ _ h => calm_panic h) ⟨Or.inl ⟨by rfl, ?_⟩, fun _ => rfl⟩ hS0 ?_
  rotate_left
  · intro w' hS
    have c0 := (cell_heap hS.2.2 0).trans HK.out.1
    (go_simp <;> with_reducible rfl)
  refine heldIn_take (i := 3) (v := ?_) (by kernel_rfl) rfl (by kernel_rfl) (by kernel_rfl) (by kernel_rfl) (fun _ _ _ h => calm_panic h) ⟨Or.inl ⟨by rfl, ?_⟩, fun _ => rfl⟩ hS0 ?_
  rotate_left
  · intro w' _
    (go_simp <;> with_reducible rfl)
  refine heldIn_take (i := 4) (v := ?_) (by kernel_rfl) rfl (by kernel_rfl) (by kernel_rfl) (by kernel_rfl) (fun _ _ _ h => calm_panic h) ⟨Or.inl ⟨by rfl, ?_⟩, fun _ => rfl⟩ hS0 ?_
  rotate_left
  · intro w' hS
    have c0 := (cell_heap hS.2.2 1).trans HK.out.2.1
    (go_simp <;> with_reducible rfl)
  refine heldIn_take (i := 5) (v := ?_) (by kernel_rfl) rfl (by kernel_rfl) (by kernel_rfl) (by kernel_rfl) (fun _ _ _ h => calm_panic h) ⟨Or.inl ⟨by rfl, ?_⟩, fun _ => rfl⟩ hS0 ?_
  rotate_left
  · intro w' hS
    have c0 := (cell_heap hS.1 0).trans HK.out.2.2.1
    (go_simp <;> with_reducible rfl)
  refine heldIn_take (i := 6) (v := ?_) (by kernel_rfl) rfl (by kernel_rfl) (by kernel_rfl) (by kernel_rfl) (fun _ _ _ h => calm_panic h) ⟨Or.inl ⟨by rfl, ?_⟩, fun _ => rfl⟩ hS0 ?_
  rotate_left
  · intro w' hS
    have c0 := (cell_heap hS.2.1 0).trans HK.out.2.2.2.1
    (go_simp <;> with_reducible rfl)
  refine heldIn_two (i := 0) (j := 7) (by kernel_rfl) rfl rfl (fun K hK => ?_) (fun K hK => ?_)
  focus
   go_simp
   refine hK _ _ hS0 ?_
   clear hK K
   refine heldIn_one (i := 7) (by kernel_rfl) rfl (fun K hK => ?_)
  all_goals
   go_simp
   refine (KCl.out _ HB0.out).mono ?_
   rintro e w2 ⟨Ar, nr, crr, rfl, ho2, hb2⟩
   have HB2 := Lib.hid hb2
   have HO2 := Lib.hid ho2
   have HS2 := Lib.hid (HSOF.out _ hb2)
   refine hK _ _ HS2.out ?_
   clear hK K ho2 hb2
   refine heldIn_take (i := 8) (v := ?_) (by kernel_rfl) rfl (by kernel_rfl) (by kernel_rfl) (by kernel_rfl) (fun _ _ _ h => calm_panic h) ⟨Or.inl ⟨by rfl, ?_⟩, fun _ => rfl⟩ HS2.out ?_
   rotate_left
   · intro w' _
     (go_simp <;> with_reducible rfl)
  rotate_left
  refine heldIn_two (i := 0) (j := 9) (by kernel_rfl) rfl rfl (fun K hK => ?_) (fun K hK => ?_)
  focus
   have kl2 := (HB2.out.cell (lt_of_cell kl)).trans kl
   go_simp
   refine hK _ _ HS2.out ?_
   clear hK K kl2
   refine heldIn_one (i := 9) (by kernel_rfl) rfl (fun K hK => ?_)
  rotate_left
  rotate_left
  focus
   refine heldIn_one (i := 9) (by kernel_rfl) rfl (fun K hK => ?_)
  all_goals
   go_simp
   obtain ⟨wt, hwt⟩ : ∃ wt, wt = w2.alloc (.cells #[.int .i64 X.1.1, .slice Ar nr crr] 62) := ⟨_, rfl⟩
   have hbt : Below w2.heap.size w2 wt := by rw [hwt]; exact (Below.refl _ _).alloc (Nat.le_refl _) _
   have HBT : Hid (Below Wc.heap.size Wc wt) := HB2.out.trans (hbt.mono HB2.out.size)
   have HOT := Lib.hid (HO2.out.below hbt)
   have HRX : Hid (RdG EP wt wt.heap.size (.slice (some ⟨w2.heap.size, 0, none⟩) 1 1) [(X.1.1, Ar, nr, crr)]) := by
    show RdG _ _ _ _ _
    rw [hwt]; exact RdG.one1 (E := EP) w2 62 rfl
   rw [← hwt]
   refine hK _ _ (HSOF.out _ HBT.out) ?_
   clear hK K hwt hbt
  rotate_left
  rotate_left
  focus
   have kl2 := (HBT.out.cell (lt_of_cell kl)).trans kl
   refine heldIn_one (i := 0) (by kernel_rfl) rfl (fun K hK => ?_)
   go_simp
   refine hK _ _ (HSOF.out _ HBT.out) ?_
   clear hK K kl2
  all_goals
   have hIt := HIC.out.on HBT.out
   have HIT := Lib.hid hIt
   have hll : (cs.length + [(X.1.1, Ar, nr, crr)].length) * 32 ≤ 140737488355328 := by rw [hIt.row.len, HLm.out, List.length_singleton]; omega
   have HLL := Lib.hid hll
   clear hIt hll
   refine heldIn_one (i := 10) (by kernel_rfl) rfl (fun K hK => ?_)
   refine step_appNGR EP rfl _ _ 22 62 rfl Tryz.underlying22 info_p rfl (by decide) W.heap.size _ cs _ [(X.1.1, Ar, nr, crr)] wt.heap.size rfl HIT.out.row.row rfl HRX.out (by simp) HLL.out HIT.out.below.size ?_
   intro v3 w3 hown hg hloc
   obtain ⟨q0, hI3, hK3⟩ := HIT.out.push (x := (X.1.1, Ar, nr, crr)) (p := (X.1.1, delS f t X.1.2)) rfl HOT.out hown hg
   obtain ⟨A8, n8, c8, e8⟩ := hown.sl
   subst e8
   have d0 := q0.cell
   have d1 := q0.frozen
   have hf3 : Boxed w3 B 2 (.int .i64 f) := boxGrown HIT.out.from_ hg HIT.out.row.row (by decide)
   have ht3 : Boxed w3 (B + 1) 2 (.int .i64 t) := boxGrown HIT.out.to_ hg HIT.out.row.row (by decide)
   have hht : wt.heap[H12]? = some (.cells #[.int .i64 X.1.1, .slice As X.1.2.length sc] 71 (0, 0)) := (HBT.out.block _ HNE.out.2).trans HHC.out
   have hh3 : w3.heap[H12]? = wt.heap[H12]? := hg.block _ (Array.getElem?_eq_some_iff.1 hht).1 (blk_not_row hht HIT.out.row.row (by decide))
   have HS3 : Hid (w3.heap[B]? = Wc.heap[B]? ∧ w3.heap[B + 1]? = Wc.heap[B + 1]? ∧ w3.heap[H12]? = Wc.heap[H12]?) := ⟨Eq.trans hf3 (Eq.symm HIC.out.from_), Eq.trans ht3 (Eq.symm HIC.out.to_), hh3.trans (hht.trans HHC.out.symm)⟩
   have HS4 : Hid ((w3.setCell ⟨B + 1 + 1, 0, none⟩ (.slice A8 n8 c8)).heap[B]? = Wc.heap[B]? ∧ (w3.setCell ⟨B + 1 + 1, 0, none⟩ (.slice A8 n8 c8)).heap[B + 1]? = Wc.heap[B + 1]? ∧ (w3.setCell ⟨B + 1 + 1, 0, none⟩ (.slice A8 n8 c8)).heap[H12]? = Wc.heap[H12]?) := ⟨Eq.trans hI3.from_ (Eq.symm HIC.out.from_), Eq.trans hI3.to_ (Eq.symm HIC.out.to_), (Below.heap_setCell _ _ _ _ HNE.out.1).trans HS3.out.2.2⟩
   have dn := hI3.nb.cell
   have fn9 := hI3.nb.frozen
   obtain ⟨hI5, hK5⟩ := hI3.putN (m' := m + 1)
   have HI5 := Lib.hid hI5
   have HK5 : Hid (KpT ktF W.heap.size Wb ((w3.setCell ⟨B + 1 + 1, 0, none⟩ (.slice A8 n8 c8)).setCell ⟨B + 1 + 1 + 1, 0, none⟩ (.int .i64 ((m : Int) + 1)))) := (HKT0.out.trans (KpT.below HBT.out HIC.out.below.size)).trans (hK3.trans hK5)
   refine hK _ _ HS3.out ?_
   clear hK K hown hg hloc q0 hI3 hK3 hI5 hK5 hf3 ht3 hht hh3
   refine heldIn_one (i := 11) (by kernel_rfl) rfl (fun K hK => ?_)
   go_simp
   refine hK _ _ HS4.out ?_
   clear hK K
   refine heldIn_done (by kernel_rfl) ⟨rfl, ?_⟩ _
   gi_wp2_with fail
   rw [HL.out, HM.out]
   exact ⟨HK5.out, _, _, HI5.out⟩
 case done =>
  rintro xs W0 W2 hS ⟨lv, cs, hI⟩ hbel hlt hdef
  have hI2 := hI.on hbel
  have hlo : (xs.map fun x => (x.1.1, delS f t x.1.2)) = ofB c ids f t := by
   unfold ofB
   rw [← hS, List.map_map]; rfl
  have hln : xs.length = (ofV c ids f t).2 := by
   show xs.length = ((blksV c).filter (readB ids f t)).length
   rw [← hS, List.length_map]
  rw [hlo, hln] at hI2
  obtain ⟨m, hm⟩ : ∃ m, m = (ofV c ids f t).2 := ⟨_, rfl⟩
  obtain ⟨L, hL⟩ : ∃ L, L = ofB c ids f t := ⟨_, rfl⟩
  rw [← hm, ← hL] at hI2
  obtain ⟨Al, nl, cl, rfl⟩ := hI2.row.row.sl
  have hLm : ∀ p ∈ L, 0 ≤ p.1 ∧ p.1 ≤ 1073741824 ∧ p.2.length ≤ 4096 := fun p hp => by
   rw [hL] at hp
   unfold ofB at hp
   obtain ⟨b, hb, rfl⟩ := List.mem_map.1 hp
   obtain ⟨hb1, _, _⟩ := HBO.out b (List.mem_filter.1 hb).1
   have h16 := hb1.2.2.1
   have hd : (delS f t b.2).length ≤ b.2.length := List.length_filter_le _ _
   exact ⟨hb1.1, hb1.2.1, by show (delS f t b.2).length ≤ _; omega⟩
  have hLl : L.length ≤ 2000 := by
   have h1 := List.length_filter_le (readB ids f t) (blksV c)
   have h2 := HFIT.out.2.2
   rw [hL]; unfold ofB; rw [List.length_map]; omega
  have hLM := many_4096 (l := L) (fun p hp => (hLm p hp).2.2)
  have hcl : cleanS L = (ofV c ids f t).1 := by rw [hL]; rfl
  have HCLN := Lib.hid hcl
  have HMM := Lib.hid hm
  have KC : Hid (∀ w', Below W2.heap.size W2 w' → CallsIn Fence.wide 39 Tryz.prog 43 #[.slice Al nl cl] w' fun e w'' => ∃ A n c, e = .returned (.slice A n c) ∧ RdO w'' W.heap.size (.slice A n c) (cleanS L) ∧ Below W2.heap.size W2 w'') := fun w' h => callsIn_wide.2 ((scleanO _ L w' (HT.out.below (hI2.below.trans (h.mono hI2.below.size))) ((hI2.row.on h).rdP) (fun p hp => wf_id (hLm p hp).1 (hLm p hp).2.1) (by omega) (by omega)).mono (by
   rintro e w'' ⟨r, rfl, ho, hb⟩
   obtain ⟨A, c', rfl, _⟩ := id ho
   exact ⟨A, _, c', rfl, ho.lower (Nat.le_trans hI2.below.size h.size), h.trans (hb.mono h.size)⟩))
  have HI2 := Lib.hid hI2
  have HC2 := Lib.hid (And.intro hI2.lb.cell hI2.nb.cell)
  have HDF := Lib.hid hdef
  have hl0 : w9.heap.size < W2.heap.size := Nat.lt_of_lt_of_le hlt hbel.size
  have HL0 := Lib.hid hl0
  clear hI hI2 hlo hln hm hL hLm hLl hLM hcl hbel hdef hS
  have hS0 : Below W2.heap.size W2 (World.drew W2) := ((Ext.refl W2).drewN _).below
  gi_wp2_with fail
  refine wpIn_calm ?_
  refine wpIn_region_any (by kernel_rfl) ?_
  change wpAnyIn _ _ _ _ _ _ _ _ _ (World.drew _)
  refine heldIn_sound (S := fun w' => Below W2.heap.size W2 w') _ _ _ _ ?_
  refine heldIn_take (i := 0) (v := ?_) (by kernel_rfl) rfl (by kernel_rfl) (by kernel_rfl) (by kernel_rfl) (fun _ _ _ h => calm_panic h) ⟨Or.inl ⟨by rfl, ?_⟩, fun _ => rfl⟩ hS0 ?_
  rotate_left
  · intro w' hS
    have c0 := (hS.cell (lt_of_cell HC2.out.1)).trans HC2.out.1
    (go_simp <;> with_reducible rfl)
  refine heldIn_take (i := 2) (v := ?_) (by kernel_rfl) rfl (by kernel_rfl) (by kernel_rfl) (by kernel_rfl) (fun _ _ _ h => calm_panic h) ⟨Or.inl ⟨by rfl, ?_⟩, fun _ => rfl⟩ hS0 ?_
  rotate_left
  · intro w' hS
    have c0 := (hS.cell (lt_of_cell HC2.out.2)).trans HC2.out.2
    (go_simp <;> with_reducible rfl)
  refine heldIn_one (i := 1) (by kernel_rfl) rfl (fun K hK => ?_)
  go_simp
  refine (KC.out _ hS0).mono ?_
  rintro e w3 ⟨A3, n3, c3, rfl, ho3, hb3⟩
  have HO3 := Lib.hid ho3
  have HB3 := Lib.hid hb3
  refine hK _ _ hb3 ?_
  clear hK K ho3 hb3 KC
  refine heldIn_take (i := 3) (v := ?_) (by kernel_rfl) rfl (by kernel_rfl) (by kernel_rfl) (by kernel_rfl) (fun _ _ _ h => calm_panic h) ⟨Or.inl ⟨by rfl, ?_⟩, fun _ => rfl⟩ HB3.out ?_
  rotate_left
  · intro w' _
    (go_simp <;> with_reducible rfl)
  refine heldIn_one (i := 4) (by kernel_rfl) rfl (fun K hK => ?_)
  go_simp
  refine hK _ _ HB3.out ?_
  clear hK K
  refine heldIn_done (by kernel_rfl) ⟨rfl, ?_⟩ _
  gi_wp2_with fail
  have hd3 : w3.heap[D0 + 4]? = some (.deferred (some [])) := by rw [← hs9]; exact (HB3.out.block _ HL0.out).trans HDF.out
  refine ⟨by simp, .inl ⟨_, _, rfl, run_takeDeferred hd3, ?_⟩⟩
  have hB3 : Below W.heap.size W w3 := HI2.out.below.trans (HB3.out.mono HI2.out.below.size)
  have hO4 : RdO (w3.putObj (D0 + 4) (.deferred none)) W.heap.size (.slice A3 n3 c3) (cleanS L) := HO3.out.st (G := fun b => b ≠ D0 + 4) ⟨by rw [World.putObj_size]; exact Nat.le_refl _, fun b hb => World.putObj_heap_other hb⟩
   (fun g cc z h e => by rw [e, hd3] at h; cases h) (fun g cc z h e => by rw [e, hd3] at h; cases h)
  exact ⟨.tuple #[.slice A3 n3 c3, .int .i64 (m : Int)], by unfold results; rw [hr]; go_simp, _, by rw [← HMM.out], by rw [← HCLN.out]; exact hO4, belowPut hB3 (by have := HWS.out; omega) _⟩
 case stop => rintro xs W0 W2 _ hX; exact hX.elim
end Go.Proofs.YtnkelahimiipjaaGreatDoor

/-
 eskerlaw17.few: are points few?
-/
namespace Go.Proofs.YtnkelahimiipjaaGreatDoor
open Go.RowKit Go.Sort
set_option maxRecDepth 100000 in
set_option maxHeartbeats 2000000 in
theorem few17_walk (v : Value) (l : List Pts) (W : World) (hR : RdP W W.heap.size v l) (h1 : l.length ≤ 1048576) (h2 : manyL l ≤ 1048576) :
  Calls Tryz.prog 10 #[v] W fun e w' => e = .returned (.bool (decide (l.length + manyL l ≤ 200))) ∧ w' = W := by
 obtain ⟨A, c, rfl, hc, hA⟩ := hR
 obtain ⟨n, hn⟩ : ∃ n, n = l.length := ⟨_, rfl⟩
 rw [← hn] at hc h1 ⊢
 have HN := Lib.hid hn
 have HA := Lib.hid hA
 have HM := Lib.hid h2
 clear hn hA hc h2
 go_enter Tryz.func10, Tryz.ntmps10
 go_wp2_with fail
 go_loopw [3, 4] (fun s i wl => ∃ (k m : Nat), k ≤ n ∧ i = .int .i64 k ∧ s = .int .i64 m ∧ Hid (m = n + manyL (l.take k)) ∧ m ≤ 2097152 ∧ wl = W) (fun _ i _ => n - (intOf i).toNat)
 case atStart => exact ⟨0, n, Nat.zero_le _, rfl, rfl, rfl, by omega, rfl⟩
 case round =>
  obtain ⟨k, m, hk, rfl, rfl, HF, hm, rfl⟩ := hrel
  by_cases hlt : k < n
  ·have hkl : k < l.length := by rw [← HN.out]; exact hlt
   rcases HA.out with h0 | ⟨b, o, e, hb, hcl⟩
   ·subst h0; simp at hkl
   subst e
   obtain ⟨p, hp⟩ : ∃ p, p = l[k] := ⟨_, rfl⟩
   obtain ⟨_, ps, c3, hps, _⟩ : PtAt wr wr.heap.size b (o + k * 2) p := by rw [hp]; exact hcl k hkl
   obtain ⟨A3, c4, rfl, _, _⟩ := hps
   have HT : Hid (manyL (l.take (k + 1)) = manyL (l.take k) + p.2.length) := by
    show _ = _
    rw [List.take_succ_eq_append_getElem hkl, ← hp, manyL_snoc]
   obtain ⟨x, hx⟩ : ∃ x, x = p.2.length := ⟨_, rfl⟩
   rw [← hx] at c3 HT
   have hm9 := manyL_take l (k + 1)
   have hm8 : m + x ≤ 2097152 := by have := HF.out; have := HT.out; have := HM.out; omega
   have HF2 : Hid (m + x = n + manyL (l.take (k + 1))) := by have := HF.out; have := HT.out; show _ = _; omega
   have i1 : (k : Int) < (n : Int) := by omega
   clear hp hx hcl hb hkl hm9
   go_wp2_with fail
   go_roundw
   case rel => exact ⟨k + 1, m + x, by omega, by go_num, by go_num, HF2.out, hm8, by first | trivial | rfl⟩
   case measure => simp [intOf]; omega
  ·have hkn : k = n := by omega
   have HE : Hid (m = n + manyL l) := by
    have h := HF.out
    rw [hkn, HN.out, List.take_length] at h
    rw [HN.out]; exact h
   have i1 : ¬ (k : Int) < (n : Int) := by omega
   have HQ : Hid (decide ((m : Int) ≤ 200) = decide (n + manyL l ≤ 200)) := by
    show _ = _
    rw [← HE.out]
    by_cases h : m ≤ 200
    ·rw [decide_eq_true h, decide_eq_true (by omega)]
    ·rw [decide_eq_false h, decide_eq_false (by omega)]
   go_wp2_with fail
   go_ret
   exact ⟨by rw [← HQ.out]; rfl, by first | trivial | rfl⟩
end Go.Proofs.YtnkelahimiipjaaGreatDoor

/-
 The document's example of a file, in plain words.
-/
namespace Go.Proofs.YtnkelahimiipjaaGreatDoor
def L20 : List Smp := (List.range 20).map (fun (i : Nat) => (10 * ((i : Int) + 1), 3, 0, 0))
def l20 : List Pts := [(1, L20)]
theorem clean20 : cleanS l20 = l20 := by decide +kernel
theorem many20 : manyL l20 = 20 := by decide +kernel
theorem blks20 : (blksV l20).length = 2 := by decide +kernel
def s20 : List Pts := [(1, [(170, 3, 0, 0), (180, 3, 0, 0), (190, 3, 0, 0), (200, 3, 0, 0)])]
theorem of20 : cleanS (ofB l20 [1] 170 1000) = s20 := by decide +kernel
theorem ofn20 : ((blksV l20).filter (readB [1] 170 1000)).length = 1 := by decide +kernel
theorem span20 : spanS l20 = (10, 200, true) := by decide +kernel
theorem build20 : buildV l20 = (0, fileB (blksV l20)) := build_ok (by decide) clean20 (by rw [clean20, many20]; omega)
theorem open20 : openV (fileB (blksV l20)) = some l20 := open_file build20
theorem cl20 : Clean l20 := by rw [← clean20]; exact cleanS_clean _
end Go.Proofs.YtnkelahimiipjaaGreatDoor

/-
 A part in memory, and what its methods answer.
-/
namespace Go.Proofs.YtnkelahimiipjaaGreatDoor
open Go.RowKit Go.Sort
/-- A part whose points are c. -/
def Prt (w : World) (pb : Nat) (c : List Pts) : Prop := ∃ hb pv hv, PartAt w pb hb pv ∧ w.cell? ⟨hb, 0, none⟩ = some hv ∧ RdP w w.heap.size pv c ∧ RdP w w.heap.size hv (blksV c)
theorem Prt.on {w w' : World} {pb : Nat} {c : List Pts} (h : Prt w pb c) (k : Below w.heap.size w w') : Prt w' pb c := by
 obtain ⟨hb, pv, hv, h1, h2, h3, h4⟩ := h
 exact ⟨hb, pv, hv, ⟨(k.cell (lt_of_cell h1.1)).trans h1.1, (k.cell (lt_of_cell h1.2)).trans h1.2⟩, (k.cell (lt_of_cell h2)).trans h2, h3.on k, h4.on k⟩
/-- What may lie in a file: clean, and not too much of it. -/
structure Fil (c : List Pts) : Prop where
 cl : Clean c
 fix : cleanS c = c
 many : manyL c ≤ 2000
theorem Fil.of {c : List Pts} {b : List Nat} (h : buildV c = (0, b)) : Fil c := by
 obtain ⟨_, h1, h2⟩ := build_has h
 exact ⟨by rw [← h1]; exact cleanS_clean c, h1, by rw [h1] at h2; exact h2⟩
theorem Fil.wf {c : List Pts} (h : Fil c) : ∀ p ∈ c, (Lit.int .i64 p.1).wf = true := fun p hp => by
 have h3 := okP_clean h.cl p hp
 exact wf_id h3.1 h3.2.1
theorem Fil.len {c : List Pts} (h : Fil c) : c.length ≤ 1000000 := (small_many h.cl h.many).1
variable {w : World} {pb : Nat} {c : List Pts}
theorem prt_len (h : Prt w pb c) (T : Tabs w) (hc : Fil c) : Calls Tryz.prog 22 #[.pointer (some ⟨pb, 0, none⟩)] w fun e w' => e = .returned (.int .i64 (manyL c : Nat)) ∧ Below w.heap.size w w' := by
 obtain ⟨hb, pv, hv, h1, h2, h3, h4⟩ := h
 have hm := hc.many
 have hl := hc.len
 have k := smany pv c w T h3 hc.wf (by omega) (by omega)
 rw [hc.fix] at k
 exact plen_walk pb hb pv _ _ w h1 k
theorem prt_blocks (h : Prt w pb c) : Calls Tryz.prog 24 #[.pointer (some ⟨pb, 0, none⟩)] w fun e w' => e = .returned (.int .i64 ((blksV c).length : Nat)) ∧ w' = w := by
 obtain ⟨hb, pv, hv, h1, h2, h3, h4⟩ := h
 obtain ⟨A, cc, rfl, _⟩ := h4
 exact pblocks_walk pb hb pv A _ cc w h1 h2
theorem prt_span (h : Prt w pb c) (T : Tabs w) (hc : Fil c) : Calls Tryz.prog 20 #[.pointer (some ⟨pb, 0, none⟩)] w fun e w' => e = .returned (.tuple #[.int .i64 (spanS c).1, .int .i64 (spanS c).2.1]) ∧ Below w.heap.size w w' := by
 obtain ⟨hb, pv, hv, h1, h2, h3, h4⟩ := h
 have hm := hc.many
 have hl := hc.len
 have k := sspan_walk pv c w T h3 hc.wf (by omega) (by omega)
 rw [hc.fix] at k
 exact pspan_walk pb hb pv _ _ (spanS c).2.2 _ w h1 k
theorem prt_all (h : Prt w pb c) (T : Tabs w) (hc : Fil c) : Calls Tryz.prog 16 #[.pointer (some ⟨pb, 0, none⟩)] w fun e w' => ∃ r, e = .returned r ∧ RdO w' w.heap.size r c ∧ Below w.heap.size w w' := by
 obtain ⟨hb, pv, hv, h1, h2, h3, h4⟩ := h
 have hm := hc.many
 have hl := hc.len
 have k := scleanO pv c w T h3 hc.wf (by omega) (by omega)
 rw [hc.fix] at k
 exact pall_walk pb hb pv (fun r w' => RdO w' w.heap.size r c ∧ Below w.heap.size w w') w h1 k
theorem prt_ids (h : Prt w pb c) (T : Tabs w) (hc : Fil c) : Calls Tryz.prog 27 #[.pointer (some ⟨pb, 0, none⟩)] w fun e w' => ∃ r, e = .returned r ∧ OwnG EI 3 w' w.heap.size r (c.map (fun p => p.1)) ∧ Below w.heap.size w w' :=
 pids_walk _ c w hc.len ((prt_all h T hc).mono fun _ _ ⟨r, h1, h2, h3⟩ => ⟨r, h1, h2.rdP, h3⟩)
theorem prt_of (h : Prt w pb c) (T : Tabs w) (hc : Fil c) (iv : Value) (ids : List Int) (f t : Int) (hI : RdZ w w.heap.size iv ids) (hil : ids.length ≤ 1000000) : Calls Tryz.prog 18 #[.pointer (some ⟨pb, 0, none⟩), iv, .int .i64 f, .int .i64 t] w fun e w' => OfR w c ids f t e w' := by
 obtain ⟨hb, pv, hv, h1, h2, h3, h4⟩ := h
 exact of_walk pb hb pv hv iv c ids f t w T h1 h2 h4 hI hc.cl hc.many hil
/-- What Open answers, as a part. -/
theorem open_c (v : Value) (b : List Nat) (W : World) (T : Tabs W) (hT : TabT W) (hH : TabH W) (hR : RdG EB W W.heap.size v b) (h8 : ∀ c ∈ b, c < 256) (hl : b.length ≤ 240000) :
  Calls Tryz.prog 13 #[v] W fun e w' => Below W.heap.size W w' ∧ ((openV b = none ∧ e = .returned (.tuple #[.pointer none, .int .i64 170])) ∨ ∃ c pb, openV b = some c ∧ Fil c ∧ e = .returned (.tuple #[.pointer (some ⟨pb, 0, none⟩), .int .i64 0]) ∧ Prt w' pb c) := by
 refine (open_walk v b W T hT hH hR h8 hl).mono ?_
 rintro e w' ⟨hB, h | ⟨c, pb, hb, pv, hv, h1, h2, h3, _, h5, h6, h7⟩⟩
 ·exact ⟨hB, .inl h⟩
 ·exact ⟨hB, .inr ⟨c, pb, h1, Fil.of (openV_has h1).1, h2, hb, pv, hv, h3, h5, h6.rdP, h7⟩⟩
/-- A file of few points is short. -/
theorem file_short {c : List Pts} (h : Fil c) (hm : manyL c ≤ 200) : (fileB (blksV c)).length ≤ 220000 := by
 have h1 := (blks_many c (clean_rt h.cl)).1
 have h2 := frames_max (fun b hb => (blks_ok h.cl b hb).1) (bl := blksV c)
 have h3 := table_fits h.cl (by omega)
 have h4 := index_len h.cl (blksV c) 0 (fun b hb => hb) (by omega)
 have h5 := put_len 1 (blksV c).length (by omega)
 have h6 : (tableB (blksV c)).length = (putV (blksV c).length).length + (indexB 0 (blksV c)).length := by unfold tableB; rw [List.length_append]
 have h7 := frameV_len 4 (tableB (blksV c))
 have h8 := put_len 9 (tableB (blksV c)).length (by omega)
 unfold fileB tail4
 rw [List.length_append, List.length_append, h7]
 simp only [List.length_cons, List.length_nil]
 omega
end Go.Proofs.YtnkelahimiipjaaGreatDoor

/-
 eskerlaw17.awake: the document's example.
-/
namespace Go.Proofs.YtnkelahimiipjaaGreatDoor
open Go.RowKit Go.Sort
theorem L20_at {k : Nat} (h : k < 20) : L20.take (k + 1) = L20.take k ++ [(10 * ((k : Int) + 1), 3, 0, 0)] := by
 have hl : k < L20.length := by unfold L20; simp; exact h
 rw [List.take_succ_eq_append_getElem hl]
 have e : L20[k]? = some (10 * ((k : Int) + 1), 3, 0, 0) := by
  unfold L20
  rw [List.getElem?_map, List.getElem?_range h]
  rfl
 rw [List.getElem?_eq_getElem hl] at e
 injection e with e
 rw [e]
set_option maxRecDepth 100000 in
set_option maxHeartbeats 4000000 in
theorem awake17_walk (W : World) (T : Tabs W) (hT : TabT W) (hH : TabH W) :
  Calls Tryz.prog 9 #[] W fun e w' => e = .returned (.bool true) ∧ Below W.heap.size W w' := by
 have HT := Lib.hid hT
 have HH := Lib.hid hH
 have HTT := Lib.hid T
 clear T hT hH
 go_enter Tryz.func9, Tryz.ntmps9
 go_wp2_with fail
 have hp0 : (W.alloc (.cells #[.int .i64 1, .slice none 0 0] 62)).heap[W.heap.size]? = some (.cells #[.int .i64 1, .slice none 0 0] 62 (0, 0)) := heap_alloc_new W _
 have HP0 := Lib.hid hp0
 have HB0 : Hid (Below W.heap.size W (W.alloc (.cells #[.int .i64 1, .slice none 0 0] 62))) := (Below.refl _ _).alloc (Nat.le_refl _) _
 clear hp0
 go_loopw [2] (fun iv wl => ∃ (k : Nat) (A : Option Addr) (c : Nat), k ≤ 20 ∧ iv = .int .i64 ((k : Int) + 1) ∧ Hid (wl.heap[W.heap.size]? = some (.cells #[.int .i64 1, .slice A k c] 62 (0, 0))) ∧ Hid (OwnG ES 66 wl W.heap.size (.slice A k c) (L20.take k)) ∧ Hid (Below W.heap.size W wl)) (fun iv _ => 21 - (intOf iv).toNat)
 case atStart => exact ⟨0, none, 0, Nat.zero_le _, rfl, HP0.out, OwnG.nil _ _, HB0.out⟩
 case round =>
  obtain ⟨k, A, c, hk, rfl, HP, HO, HB⟩ := hrel
  have p1 : wr.cell? ⟨W.heap.size, 1, none⟩ = some (.slice A k c) := by have h := HP.out; simp [World.cell?, h]
  by_cases hlt : k < 20
  ·have i1 : (k : Int) + 1 ≤ 20 := by omega
   have hpl := (Array.getElem?_eq_some_iff.1 HP.out).1
   have hlk : (L20.take k).length = k := by rw [List.length_take]; unfold L20; simp; omega
   have HC : Hid (CellG ES (wr.alloc (.cells #[.int .i64 (10 * ((k : Int) + 1)), .int .i64 3, .int .i64 0, .int .i64 0] 66)) wr.heap.size 0 (10 * ((k : Int) + 1), 3, 0, 0)) := CellG.mk (E := ES) (w := wr) (cs := #[.int .i64 (10 * ((k : Int) + 1)), .int .i64 3, .int .i64 0, .int .i64 0]) rfl 66
   have hl : ((L20.take k).length + 1) * 32 ≤ 140737488355328 := by rw [hlk]; omega
   have HL := Lib.hid hl
   have HSZ : Hid (W.heap.size ≤ (wr.alloc (.cells #[.int .i64 (10 * ((k : Int) + 1)), .int .i64 3, .int .i64 0, .int .i64 0] 66)).heap.size) := by have := HB.out.size; show _ ≤ _; simp; omega
   clear hl hlk
   go_wp2_with (first | (at_builtin; refine app1G ES rfl _ _ 60 66 rfl Tryz.underlying60 info_S rfl (by decide) W.heap.size _ (L20.take k) (10 * ((k : Int) + 1), 3, 0, 0) rfl (HO.out.alloc _) _ 0 1 rfl HC.out HL.out HSZ.out ?_) | fail)
   intro v2 w2 hown hg hloc
   rw [← L20_at hlt] at hown
   obtain ⟨A2, n2, c2, e2⟩ := hown.sl
   subst e2
   have e3 := hown.len
   have e4 : (L20.take (k + 1)).length = k + 1 := by rw [List.length_take]; unfold L20; simp; omega
   rw [e4] at e3
   subst e3
   have hbt : Below wr.heap.size wr (wr.alloc (.cells #[.int .i64 (10 * ((k : Int) + 1)), .int .i64 3, .int .i64 0, .int .i64 0] 66)) := (Below.refl _ _).alloc (Nat.le_refl _) _
   have hPt := (hbt.block _ hpl).trans HP.out
   have hP2 : w2.heap[W.heap.size]? = some (.cells #[.int .i64 1, .slice A k c] 62 (0, 0)) := (hg.block _ (Array.getElem?_eq_some_iff.1 hPt).1 (blk_not_row hPt (HO.out.alloc _) (by decide))).trans hPt
   have q1 : w2.cell? ⟨W.heap.size, 1, none⟩ = some (.slice A k c) := by simp [World.cell?, hP2]
   have q2 : w2.frozen? ⟨W.heap.size, 1, none⟩ = false := by simp [World.frozen?, hP2]
   have HP3 := Lib.hid (set_two hP2 (.slice A2 (k + 1) c2))
   have HO3 : Hid (OwnG ES 66 (w2.setCell ⟨W.heap.size, 1, none⟩ (.slice A2 (k + 1) c2)) W.heap.size (.slice A2 (k + 1) c2) (L20.take (k + 1))) := hown.kept (grownBy_set w2 W.heap.size 1 (.slice A2 (k + 1) c2)) (.inr (blk_not_row hP2 hown (by decide)).symm)
   have HB3 : Hid (Below W.heap.size W (w2.setCell ⟨W.heap.size, 1, none⟩ (.slice A2 (k + 1) c2))) := ((HO.out.below hbt).step (HB.out.trans (hbt.mono HB.out.size)) HSZ.out hg).setCell (Nat.le_refl _) _
   clear hown hg hloc hbt hPt hP2 e4 p1 hpl
   go_wp2_with fail
   go_roundw
   case rel => exact ⟨k + 1, A2, c2, by omega, by go_num, HP3.out, HO3.out, HB3.out⟩
   case measure => simp [intOf]; omega
  ·have hk20 : k = 20 := by omega
   subst hk20
   have p0 : wr.cell? ⟨W.heap.size, 0, none⟩ = some (.int .i64 1) := by have h := HP.out; simp [World.cell?, h]
   have HL : Hid (OwnG ES 66 wr W.heap.size (.slice A 20 c) L20) := by
    have h := HO.out
    rw [List.take_of_length_le (by unfold L20; simp)] at h
    exact h
   obtain ⟨Wl, hWl⟩ : ∃ Wl, Wl = wr.alloc (.cells #[.int .i64 1, .slice A 20 c] 62) := ⟨_, rfl⟩
   have hbl : Below wr.heap.size wr Wl := by rw [hWl]; exact (Below.refl _ _).alloc (Nat.le_refl _) _
   have hph : Wl.heap[wr.heap.size]? = some (.cells #[.int .i64 1, .slice A 20 c] 62 (0, 0)) := by rw [hWl]; exact heap_alloc_new wr _
   have HRl : Hid (RdP Wl Wl.heap.size (.slice (some ⟨wr.heap.size, 0, none⟩) 1 1) l20) := by
    refine ⟨_, 1, rfl, Nat.le_refl _, .inr ⟨wr.heap.size, 0, rfl, (Array.getElem?_eq_some_iff.1 hph).1, fun i hi => ?_⟩⟩
    have hi0 : i = 0 := by have : i < 1 := hi; omega
    subst hi0
    exact ⟨by simp [World.cell?, hph]; rfl, .slice A 20 c, by simp [World.cell?, hph], (own_ES (HL.out.below hbl)).rd, (own_ES (HL.out.below hbl)).nz⟩
   have HBl : Hid (Below W.heap.size W Wl) := HB.out.trans (hbl.mono HB.out.size)
   have tabs : ∀ w, Below W.heap.size W w → TabT w := fun w h i hi => (h.cell (lt_of_cell (HT.out i hi))).trans (HT.out i hi)
   have HTB := Lib.hid tabs
   have KB := Lib.hid (build_walk _ l20 Wl (HTT.out.below HBl.out) (tabs _ HBl.out) (TabH.below HH.out HBl.out) HRl.out (by decide +kernel) (by decide +kernel) (by decide +kernel))
   have HWl := Lib.hid hWl
   clear hWl hbl hph tabs
   go_wp2_with fail
   rw [← HWl.out]
   refine KB.out.mono ?_
   rintro e w1 ⟨v1, rfl, hO1, hB1⟩
   rw [build20] at hO1 ⊢
   dsimp only
   obtain ⟨A1, n1, c1, rfl⟩ := hO1.sl
   have HB1 : Hid (Below W.heap.size W w1) := HBl.out.trans (hB1.mono HBl.out.size)
   have HRl1 := Lib.hid (HRl.out.on hB1)
   have KO := Lib.hid (open_c _ _ w1 (HTT.out.below HB1.out) (HTB.out _ HB1.out) (TabH.below HH.out HB1.out) hO1.rd (file_byte (fun b hb => (blks_ok cl20 b hb).1.2.2.1)) (Nat.le_trans (file_short (c := l20) (Fil.of build20) (by rw [many20]; omega)) (by omega)))
   clear hO1 hB1 KB
   go_wp2_with fail
   refine KO.out.mono ?_
   rintro e w2 ⟨hB2, ⟨hn, _⟩ | ⟨c9, pb, ho, _, rfl, hP2⟩⟩
   ·rw [open20] at hn; cases hn
   rw [open20] at ho
   injection ho with ho
   subst ho
   have HB2 : Hid (Below W.heap.size W w2) := HB1.out.trans (hB2.mono HB1.out.size)
   have HP2 := Lib.hid hP2
   have HRl2 := Lib.hid (HRl1.out.on hB2)
   have HFI := Lib.hid (Fil.of build20)
   clear hB2 hP2 KO p0 p1
   obtain ⟨Wi, hWi⟩ : ∃ Wi, Wi = w2.alloc (.cells #[.int .i64 1] 3) := ⟨_, rfl⟩
   have hbi : Below w2.heap.size w2 Wi := by rw [hWi]; exact (Below.refl _ _).alloc (Nat.le_refl _) _
   have hih : Wi.heap[w2.heap.size]? = some (.cells #[.int .i64 1] 3 (0, 0)) := by rw [hWi]; exact heap_alloc_new w2 _
   have hRZ : RdZ Wi Wi.heap.size (.slice (some ⟨w2.heap.size, 0, none⟩) 1 1) [1] := ⟨_, 1, rfl, Nat.le_refl _, .inr ⟨w2.heap.size, 0, rfl, (Array.getElem?_eq_some_iff.1 hih).1, fun i hi => by
    have hi0 : i = 0 := by have : i < 1 := hi; omega
    subst hi0
    simp [World.cell?, hih]⟩⟩
   have hBi : Below W.heap.size W Wi := HB2.out.trans (hbi.mono HB2.out.size)
   have KF := Lib.hid (prt_of (HP2.out.on hbi) (HTT.out.below hBi) HFI.out _ [1] 170 1000 hRZ (by decide))
   have HBi := Lib.hid hBi
   have HPi := Lib.hid (HP2.out.on hbi)
   have HRli := Lib.hid (HRl2.out.on hbi)
   have HWi := Lib.hid hWi
   clear hWi hbi hih hRZ hBi
   go_wp2_with fail
   rw [← HWi.out]
   refine KF.out.mono ?_
   rintro e w3 ⟨r, rfl, hO3, hB3⟩
   rw [show (ofV l20 [1] 170 1000).1 = s20 from of20] at hO3
   rw [show (ofV l20 [1] 170 1000).2 = 1 from ofn20]
   have HB3 : Hid (Below W.heap.size W w3) := HBi.out.trans (hB3.mono HBi.out.size)
   have HP3 := Lib.hid (HPi.out.on hB3)
   have HRl3 := Lib.hid (HRli.out.on hB3)
   obtain ⟨Ar, cr, rfl, hcr, h0 | ⟨b, o, rfl, hb, hcl⟩⟩ := hO3.rdP
   ·cases h0
   obtain ⟨_, sv, hs1, ⟨A4, c4, rfl, _⟩, _⟩ := hcl 0 (by decide)
   have hs1 : w3.cell? ⟨b, o + 1, none⟩ = some (.slice A4 4 c4) := hs1
   have HS1 := Lib.hid hs1
   have KSp := Lib.hid (prt_span HP3.out (HTT.out.below HB3.out) HFI.out)
   rw [span20] at KSp
   clear hO3 hB3 hcl KF
   go_wp2_with fail
   refine KSp.out.mono ?_
   rintro e w4 ⟨rfl, hB4⟩
   have HB4 : Hid (Below W.heap.size W w4) := HB3.out.trans (hB4.mono HB3.out.size)
   have HP4 := Lib.hid (HP3.out.on hB4)
   have HRl4 := Lib.hid (HRl3.out.on hB4)
   have HS4 := Lib.hid ((hB4.cell (lt_of_cell hs1)).trans hs1)
   have KLn := Lib.hid (prt_len HP4.out (HTT.out.below HB4.out) HFI.out)
   rw [many20] at KLn
   clear hB4 hs1 KSp
   go_wp2_with fail
   refine KLn.out.mono ?_
   rintro e w5 ⟨rfl, hB5⟩
   have HB5 : Hid (Below W.heap.size W w5) := HB4.out.trans (hB5.mono HB4.out.size)
   have HP5 := Lib.hid (HP4.out.on hB5)
   have HRl5 := Lib.hid (HRl4.out.on hB5)
   have s5 : w5.cell? ⟨b, o + 1, none⟩ = some (.slice A4 4 c4) := (hB5.cell (lt_of_cell HS4.out)).trans HS4.out
   have KBk := Lib.hid (prt_blocks HP5.out)
   rw [blks20] at KBk
   clear hB5 KLn
   go_wp2_with fail
   refine KBk.out.mono ?_
   rintro e wx ⟨rfl, hwx⟩
   have hwx := hwx.symm
   subst hwx
   have KId := Lib.hid (prt_ids HP5.out (HTT.out.below HB5.out) HFI.out)
   clear KBk
   go_wp2_with fail
   refine KId.out.mono ?_
   rintro e w6 ⟨r6, rfl, hO6, hB6⟩
   obtain ⟨A6, n6, c6, rfl⟩ := hO6.sl
   have e6 : n6 = 1 := hO6.len
   subst e6
   have HB6 : Hid (Below W.heap.size W w6) := HB5.out.trans (hB6.mono HB5.out.size)
   have HRl6 := Lib.hid (HRl5.out.on hB6)
   have KAl := Lib.hid (prt_all (HP5.out.on hB6) (HTT.out.below HB6.out) HFI.out)
   clear hO6 hB6 KId s5
   go_wp2_with fail
   refine KAl.out.mono ?_
   rintro e w7 ⟨r7, rfl, hO7, hB7⟩
   have HB7 : Hid (Below W.heap.size W w7) := HB6.out.trans (hB7.mono HB6.out.size)
   have KSm := Lib.hid (sameP_walk r7 _ l20 l20 w7 hO7.rdP (HRl6.out.on hB7) (small_many cl20 (by rw [many20]; omega)))
   rw [decide_eq_true rfl] at KSm
   obtain ⟨A7, c7, rfl, _⟩ := hO7
   clear hB7 KAl
   go_wp2_with fail
   refine KSm.out.mono ?_
   rintro e w8 ⟨rfl, hE8⟩
   have HB8 : Hid (Below W.heap.size W w8) := HB7.out.trans (hE8.below.mono HB7.out.size)
   clear hE8 KSm
   go_wp2_with fail
   go_ret
   exact ⟨rfl, HB8.out⟩
end Go.Proofs.YtnkelahimiipjaaGreatDoor
