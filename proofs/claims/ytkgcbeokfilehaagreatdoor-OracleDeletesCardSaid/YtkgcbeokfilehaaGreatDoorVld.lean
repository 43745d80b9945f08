/-
  oracle.Add: the parts of a round.
-/
import Derived.Test.YtkgcbeokfilehaaGreatDoorVkd
import Derived.Test.YtkgcbeokfilehaaGreatDoorVid
import Derived.Test.YtkgcbeokfilehaaGreatDoorVpd
import Derived.Laws.BytesArg
namespace Go.Proofs.YtkgcbeokfilehaaGreatDoor
open Go.RowKit Go.Sort Go.Shelf Go.Maps
/-- The bytes of a slice of the call's own, as a text. -/
theorem OwnY.cells {w : World} {base : Nat} {v : Value} {l : Str} (h : OwnY w base v l) : (v = .slice none 0 0 ∧ l = []) ∨ ∃ g cap, v = .slice (some ⟨g, 0, none⟩) l.length cap ∧ g < w.heap.size ∧ ∀ i (hi : i < l.length), w.cell? ⟨g, i, none⟩ = some (yb l[i]) := by
  rcases h.2 with ⟨rfl, h1⟩ | ⟨g, cap, cur, rfl, hb, hh, hn, hm, hcs, ht⟩
  · exact .inl ⟨rfl, List.eq_nil_of_length_eq_zero h1⟩
  · refine .inr ⟨g, cap, rfl, (Array.getElem?_eq_some_iff.1 hh).1, fun i hi => ?_⟩
    have e1 : w.cell? ⟨g, i, none⟩ = cur[i]? := by simp [World.cell?, hh]
    have e3 : (cur.toList.take (l.length * 1))[i]? = cur.toList[i]? := List.getElem?_take_of_lt (by omega)
    rw [e1, ← Array.getElem?_toList, ← e3, ht, List.getElem?_map, List.getElem?_eq_getElem hi]; rfl
set_option maxRecDepth 100000 in
theorem convert_Y {w : World} {base : Nat} {v : Value} {l : Str} (h : OwnY w base v l) (hl : l.length ≤ 1000000) : (Go.convert 84 9 v).run Tryz.prog w = .ok (vT l) w := by
  rcases h.cells with ⟨rfl, rfl⟩ | ⟨g, cap, rfl, _, hc⟩
  · exact run_convert_bytes_nil w 84 5 Tryz.underlying84 Tryz.underlying5 0 0 9 Tryz.underlying9
  · have := run_convert_bytes_arg (P := Tryz.prog) w 84 5 Tryz.underlying84 Tryz.underlying5 g 0 l.length cap (l.map fun c => (c.toNat : Int)) (by simp) (fun i hi => by
      rw [Nat.zero_add, hc i hi]
      simp [List.getD, List.getElem?_map, List.getElem?_eq_getElem hi, yb]) 9 Tryz.underlying9
    rw [this]
    have e : strOfNums (l.map fun c => (c.toNat : Int)) = ⟨l.toArray⟩ := by
      unfold strOfNums
      rw [List.map_map]
      have : ((fun n : Int => UInt8.ofNat n.toNat) ∘ fun c : UInt8 => (c.toNat : Int)) = id := by
        funext c
        simp
      rw [this, List.map_id]
    rw [e]; rfl
theorem key_of (c : Lbs) (h : (marL c).length ≤ 1000) : keyOf Tryz.prog 9 (vT (marL c)) = some (kyL c) :=
  WideMaps.keyOf_string_mk Tryz.underlying9 (s := ⟨(marL c).toArray⟩) (by simp [ByteArray.size]; unfold maxLen; omega)
theorem zero_pt (w : World) : (zeroValue 87).run Tryz.prog w = .ok (.pointer none) w := by kernel_rfl
theorem OM.look {w : World} {S : Nat → Prop} {B b n : Nat} {D : DataW Unit} {X : Sers} {H : Lbs → Bool} {L : Lbs → List Smp} (h : OM w S B b n D X H L) (c : Lbs) (hc : (marL c).length ≤ 1000) :
    (Instr.lookup 79 (.map (some b)) (vT (marL c)) true).run Tryz.prog w = .ok (.tuple #[if H c = true then .pointer (some ⟨X.G c, 0, none⟩) else .pointer none, .bool (H c)]) w := by
  obtain ⟨v, ps, hrun, hv⟩ := h.map.look_ok key_law Tryz.underlying79 (zero_pt w) (zd := .nil) (zp := []) rfl (key_of c hc)
  rw [hrun, h.has c]
  cases hh : H c
  · have h1 := h.has c
    rw [hh] at h1
    rw [atKey_of_not_has h1] at hv
    rcases ptE_form hv with ⟨rfl, _⟩ | ⟨g, _, e⟩
    · rfl
    · have := (Prod.mk.inj e).1; cases this
  · rw [h.at_ c hh] at hv
    rw [ptE_lit hv]; rfl
theorem OM.upd {w : World} {S : Nat → Prop} {B b n : Nat} {D : DataW Unit} {X : Sers} {H : Lbs → Bool} {L : Lbs → List Smp} (h : OM w S B b n D X H L) (c : Lbs) (hc : (marL c).length ≤ 1000) (hn : n < maxLen) (g : Nat) :
    ∃ w', (Instr.mapUpdate 79 (.map (some b)) (vT (marL c)) (.pointer (some ⟨g, 0, none⟩))).run Tryz.prog w = .ok () w' ∧ w'.ownsMap Tryz.prog 9 ptE b (n + 1) (D.put (kyL c) (.lit (.int .i64 g))) ∧ w.grownBy w' (some b) :=
  h.map.update key_law Tryz.underlying79 hn (key_of c hc) (ps := []) rfl
theorem OM.hasCongr {w : World} {S : Nat → Prop} {B b n : Nat} {D : DataW Unit} {X : Sers} {H H' : Lbs → Bool} {L : Lbs → List Smp} (h : OM w S B b n D X H L) (e : H' = H) : OM w S B b n D X H' L := e ▸ h
/-- An oracle with the series of c there, the sample not yet put in. -/
structure Mid (w : World) (S : Nat → Prop) (B o b : Nat) (every keep now : Int) (X : Sers) (R : Told) (c : Lbs) (s : Smp) : Prop where
  cell : w.heap[o]? = some (.cells #[.int .i64 every, .int .i64 keep, .int .i64 now, .map (some b)] 81 (0, 0))
  so : S o
  bd : 1 ≤ keep ∧ keep ≤ 1099511627776 ∧ 0 ≤ now ∧ now ≤ 1099511627776
  om : ∃ n D, n ≤ R.length + 1 ∧ OM w S B b n D X (hasR (R ++ [(c, s)])) (smpOf R)
theorem hasR_old {R : Told} {c : Lbs} (s : Smp) (h : hasR R c = true) : hasR (R ++ [(c, s)]) = hasR R := by
  funext x
  rw [hasR_snoc]
  by_cases e : x = c
  · subst e; simp [h]
  · simp [e]
theorem hasR_new {R : Told} {c : Lbs} (s : Smp) : hasR (R ++ [(c, s)]) = fun x => decide (x = c) || hasR R x := by
  funext x; rw [hasR_snoc]
theorem Mid.old {w : World} {S : Nat → Prop} {B o b : Nat} {every keep now : Int} {X : Sers} {R : Told} {c : Lbs} {s : Smp} (h : Orc w S B o b every keep now X R) (hc : hasR R c = true) : Mid w S B o b every keep now X R c s := by
  obtain ⟨n, D, hn, h3⟩ := h.om
  exact ⟨h.cell, h.so, h.bd, n, D, by omega, h3.hasCongr (hasR_old s hc)⟩
theorem Mid.kept {w w' : World} {S T : Nat → Prop} {B o b : Nat} {every keep now : Int} {X : Sers} {R : Told} {c : Lbs} {s : Smp} (h : Mid w S B o b every keep now X R c s) (k : Chg T w w') (hT : ∀ x, S x → ¬ T x) : Mid w' S B o b every keep now X R c s := by
  obtain ⟨n, D, hn, h3⟩ := h.om
  exact ⟨(k.block o (h3.lt o h.so).2 (hT o h.so)).trans h.cell, h.so, h.bd, n, D, hn, h3.kept k hT⟩
theorem Mid.on {w w' : World} {S : Nat → Prop} {B o b : Nat} {every keep now : Int} {X : Sers} {R : Told} {c : Lbs} {s : Smp} (h : Mid w S B o b every keep now X R c s) (k : Below w.heap.size w w') : Mid w' S B o b every keep now X R c s := h.kept (.of_below k) (fun _ _ e => e)
/-- A new series is laid and put into the map. -/
theorem Orc.fresh {w : World} {S : Nat → Prop} {B o b : Nat} {every keep now : Int} {X : Sers} {R : Told} (h : Orc w S B o b every keep now X R) (hR : R.length ≤ 100000) {c : Lbs} (s : Smp) (hc : hasR R c = false) (hm : (marL c).length ≤ 1000) {lv : Value} {g : Nat} (hg : ¬ S g) (hgB : B ≤ g)
    (hser : w.heap[g]? = some (.cells #[lv, .slice none 0 0] 90 (0, 0))) (hlv : OwnL w B lv c) :
    ∃ w' X', (Instr.mapUpdate 79 (.map (some b)) (vT (marL c)) (.pointer (some ⟨g, 0, none⟩))).run Tryz.prog w = .ok () w' ∧
      Mid w' (fun k => S k ∨ k = g ∨ lv.ownBlock = some k) B o b every keep now X' R c s ∧ X'.G c = g ∧ w.grownBy w' (some b) := by
  obtain ⟨n, D, hn, h3⟩ := h.om
  obtain ⟨w', hrun, hmap, hgr⟩ := h3.upd c hm (by unfold maxLen; omega) g
  have hL : smpOf R c = [] := smpOf_none hc
  have h4 := h3.put (sv := .slice none 0 0) hc hg hgB (by rw [hL]; exact Own.nil _ _ _) (fun k e => by cases e) hser hlv hmap hgr
  have hob : o ≠ b := fun e => by
    obtain ⟨es, clock, hb, _⟩ := h3.map
    rw [← e, h.cell] at hb; cases hb
  refine ⟨w', ⟨fun x => if x = c then g else X.G x, fun x => if x = c then lv else X.LV x, fun x => if x = c then .slice none 0 0 else X.SV x⟩, hrun, ⟨(hgr.block o (h3.lt o h.so).2 (fun e => hob (by injection e))).trans h.cell, .inl h.so, h.bd, n + 1, D.put (kyL c) (.lit (.int .i64 g)), by omega, ?_⟩, if_pos rfl, hgr⟩
  have h5 := h4.hasCongr (hasR_new s)
  refine ⟨h5.map, fun k hk => h5.lt k (hk.imp id fun h => h.imp id Or.inl), .inl h3.sb, h5.isMap, h5.key, h5.has, h5.at_, h5.ser, fun x hx => ?_, h5.apart⟩
  obtain ⟨s1, s2, s3⟩ := h5.own x hx
  have key : ∀ k, (S k ∨ k = g ∨ lv.ownBlock = some k ∨ (Value.slice none 0 0).ownBlock = some k) → (S k ∨ k = g ∨ lv.ownBlock = some k) := fun k hk => by
    rcases hk with h | h | h | h
    · exact .inl h
    · exact .inr (.inl h)
    · exact .inr (.inr h)
    · cases h
  exact ⟨key _ s1, fun k hk => key _ (s2 k hk), fun k hk => key _ (s3 k hk)⟩
/-- The sample is put in. -/
theorem Mid.push {w w1 : World} {S : Nat → Prop} {B o b : Nat} {every keep now : Int} {X : Sers} {R : Told} {c : Lbs} {s : Smp} (h : Mid w S B o b every keep now X R c s) {v' : Value} (hg : w.grownBy w1 (X.SV c).ownBlock) (ho : Own w1 B 54 v' (smpOf R c ++ [s]))
    (hloc : v'.ownBlock = (X.SV c).ownBlock ∨ ∃ g, v'.ownBlock = some g ∧ w.heap.size ≤ g) :
    Orc (w1.setCell ⟨X.G c, 1, none⟩ v') (fun k => S k ∨ v'.ownBlock = some k) B o b every keep now ⟨X.G, X.LV, fun x => if x = c then v' else X.SV x⟩ (R ++ [(c, s)]) := by
  obtain ⟨n, D, hn, h3⟩ := h.om
  have hc : hasR (R ++ [(c, s)]) c = true := by rw [hasR_snoc]; simp
  have h4 := h3.push hc hg ho hloc rfl
  obtain ⟨c1, _, c3⟩ := h3.ser c hc
  have hne : ∀ {x : Nat} {ob : Obj}, w.heap[x]? = some ob → (∀ cur, ob ≠ .cells cur 54 (0, 0)) → some x ≠ (X.SV c).ownBlock := by
    intro x ob hx ho e
    obtain ⟨cur, hcur⟩ := owns_tag c3 e.symm
    rw [hx] at hcur
    injection hcur with hcur
    exact ho cur hcur
  have hoG : o ≠ X.G c := fun e => by
    have := h.cell
    rw [e, c1] at this
    injection this with this
    injection this with _ this
    exact absurd this (by decide)
  refine ⟨?_, .inl h.so, h.bd, n, D, by rw [List.length_append]; exact hn, ?_⟩
  · rw [RowKit.Below.heap_setCell w1 ⟨X.G c, 1, none⟩ v' o hoG]
    exact (hg.block o (h3.lt o h.so).2 (hne h.cell (fun _ e => by injection e with _ e; exact absurd e (by decide)))).trans h.cell
  · have e : (fun x => if x = c then smpOf R c ++ [s] else smpOf R x) = smpOf (R ++ [(c, s)]) := by funext x; rw [smpOf_snoc]
    rw [e] at h4
    exact h4
theorem Mid.at_ {w : World} {S : Nat → Prop} {B o b : Nat} {every keep now : Int} {X : Sers} {R : Told} {c : Lbs} {s : Smp} (h : Mid w S B o b every keep now X R c s) :
    w.cell? ⟨X.G c, 1, none⟩ = some (X.SV c) ∧ w.frozen? ⟨X.G c, 1, none⟩ = false ∧ Own w B 54 (X.SV c) (smpOf R c) ∧ S (X.G c) ∧ (∀ g, (X.SV c).ownBlock = some g → S g) ∧ (X.SV c).ownBlock ≠ some (X.G c) ∧ X.G c < w.heap.size := by
  obtain ⟨n, D, hn, h3⟩ := h.om
  have hc : hasR (R ++ [(c, s)]) c = true := by rw [hasR_snoc]; simp
  obtain ⟨c1, _, c3⟩ := h3.ser c hc
  obtain ⟨s1, _, s3⟩ := h3.own c hc
  refine ⟨by simp [World.cell?, c1], by simp [World.frozen?, c1], c3, s1, s3, fun e => ?_, (Array.getElem?_eq_some_iff.1 c1).1⟩
  obtain ⟨cur, hcur⟩ := owns_tag c3 e
  exact absurd (lit_ty w c1 hcur) (by decide)
theorem Mid.lt {w : World} {S : Nat → Prop} {B o b : Nat} {every keep now : Int} {X : Sers} {R : Told} {c : Lbs} {s : Smp} (h : Mid w S B o b every keep now X R c s) {k : Nat} (hk : S k) : B ≤ k ∧ k < w.heap.size := by
  obtain ⟨n, D, hn, h3⟩ := h.om
  exact h3.lt k hk
/-- What comes of Add: the worlds. -/
structure Added (S : Nat → Prop) (W w : World) (S' : Nat → Prop) (B o b : Nat) (every keep now : Int) (X : Sers) (R : Told) : Prop where
  orc : Orc w S' B o b every keep now X R
  chg : Chg S W w
  loc : ∀ j, S' j → S j ∨ W.heap.size ≤ j
theorem Added.on {S S' : Nat → Prop} {W w w' : World} {B o b : Nat} {every keep now : Int} {X : Sers} {R : Told} (h : Added S W w S' B o b every keep now X R) (k : Below w.heap.size w w') : Added S W w' S' B o b every keep now X R :=
  ⟨h.orc.on k, h.chg.trans (.of_below k) (fun _ e => e) (fun _ _ e => e.elim), h.loc⟩
theorem Mid.done {S S' : Nat → Prop} {W wm w6 : World} {B o b : Nat} {every keep now : Int} {X : Sers} {R : Told} {c : Lbs} {s : Smp} (h : Mid wm S' B o b every keep now X R c s) (hch : Chg S W wm) (hlo : ∀ j, S' j → S j ∨ W.heap.size ≤ j) {v' : Value}
    (hg : wm.grownBy w6 (X.SV c).ownBlock) (ho : Own w6 B 54 v' (smpOf R c ++ [s])) (hl : v'.ownBlock = (X.SV c).ownBlock ∨ ∃ g, v'.ownBlock = some g ∧ wm.heap.size ≤ g) :
    ∃ S'' X'', Added S W (w6.setCell ⟨X.G c, 1, none⟩ v') S'' B o b every keep now X'' (R ++ [(c, s)]) := by
  obtain ⟨_, _, _, q4, q5, _, _⟩ := h.at_
  have hT : ∀ x, x < W.heap.size → S' x → S x := fun x hx hs => by
    rcases hlo x hs with h | h
    · exact h
    · omega
  refine ⟨_, _, h.push hg ho hl, ?_, fun j hj => ?_⟩
  · refine hch.trans (S' := fun k => (X.SV c).ownBlock = some k ∨ k = X.G c) ((Chg.of_grown hg).trans (Chg.setCell w6 ⟨X.G c, 1, none⟩ v') (fun _ h => .inl h) (fun _ _ h => .inr h)) (fun _ e => e) (fun x hx hs => ?_)
    rcases hs with e | e
    · exact hT x hx (q5 x e)
    · exact hT x hx (e ▸ q4)
  · rcases hj with hj | hj
    · exact hlo j hj
    · rcases hl with e | ⟨g, e, hge⟩
      · exact hlo j (q5 j (e ▸ hj))
      · rw [e] at hj
        injection hj with hj
        right
        have := hch.size
        omega
theorem canon_again {l : Lbs} (h : mayL l = true) : canonL (canonL l) = canonL l ∧ mayL (canonL l) = true := by
  have hp := canonL_perm l
  have hn : namesApart (canonL l) = true := (namesApart_perm hp).trans (mayL_parts h).2.2
  refine ⟨(canon_of (.refl _) (canonL_up l) hn).symm, ?_⟩
  unfold mayL
  rw [Bool.and_eq_true, Bool.and_eq_true, Bool.and_eq_true, hp.length_eq]
  refine ⟨⟨⟨decide_eq_true (mayL_parts h).1.1, decide_eq_true (mayL_parts h).1.2⟩, List.all_eq_true.2 fun x hx => ?_⟩, hn⟩
  have := (mayL_parts h).2.1 x (canon_mem.1 hx)
  rw [this.1, this.2]; rfl
theorem mar_canon_len {l : Lbs} (h : mayL l = true) : (marL (canonL l)).length ≤ 1000 := by
  have h1 := mar_len (canonL l) (canon_lens h)
  have h2 := (mayL_parts h).1.2
  rw [canon_length] at h1
  omega
end Go.Proofs.YtkgcbeokfilehaaGreatDoor
