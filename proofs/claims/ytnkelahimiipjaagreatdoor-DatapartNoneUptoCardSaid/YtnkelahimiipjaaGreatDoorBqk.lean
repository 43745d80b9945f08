/-
 The months' points: each lies in its month; together they are all points.
-/
import Derived.Test.YtnkelahimiipjaaGreatDoorLmpk
import Derived.Test.YtnkelahimiipjaaGreatDoorCck
import Derived.Test.YtnkelahimiipjaaGreatDoorOqk
namespace Go.Proofs.YtnkelahimiipjaaGreatDoor
theorem ofL_mem {c : List Pts} {k : Int} {x : Smp} : x ∈ ofL c k ↔ ∃ p ∈ c, p.1 = k ∧ x ∈ p.2 := by
 unfold ofL
 simp only [List.mem_flatMap, List.mem_filter, beq_iff_eq, and_assoc]
end Go.Proofs.YtnkelahimiipjaaGreatDoor

/-
 A file of points: blocks of samples, each in a frame, and an index of them; and back.
-/
namespace Go.Proofs.YtnkelahimiipjaaGreatDoor
abbrev Blk := Int × List Smp
def valsL (l : List Smp) : List Val := l.map (fun s => s.2)
def tickL (l : List Smp) : List Int := l.map (fun s => s.1)
/-- How many samples a block takes. -/
def cutN (l : List Smp) : Nat := packN (valsL (l.take 16)) (valsL (l.take 16)).length
def cutsF : Nat → List Smp → List (List Smp)
 | 0, _ => []
 | f + 1, l => if l = [] then [] else l.take (cutN l) :: cutsF f (l.drop (cutN l))
def blksP (p : Pts) : List Blk := (cutsF p.2.length p.2).map (fun s => (p.1, s))
def blksV (l : List Pts) : List Blk := l.flatMap blksP
def expL (l : List Smp) : Int := (leastL (valsL l)).1
def mantL (l : List Smp) : List Int := (valsL l).map (mantV (expL l))
def firstT (l : List Smp) : Int := (l.head?.map (fun s => s.1)).getD 0
def lastT (l : List Smp) : Int := (l.getLast?.map (fun s => s.1)).getD 0
/-- A block's bytes. -/
def blkB (b : Blk) : List Nat := putV b.1.toNat ++ (encV (tickL b.2) ++ (allV [expL b.2] ++ encV (mantL b.2)))
def entB (o : Nat) (b : Blk) : List Nat := putV b.1.toNat ++ (putV b.2.length ++ (putV (firstT b.2).toNat ++ (putV (lastT b.2 - firstT b.2).toNat ++ putV o)))
def framesB (bl : List Blk) : List Nat := bl.flatMap (fun b => frameV 3 (blkB b))
def indexB : Nat → List Blk → List Nat
 | _, [] => []
 | o, b :: l => entB o b ++ indexB (o + (frameV 3 (blkB b)).length) l
theorem framesB_snoc (l : List Blk) (b : Blk) : framesB (l ++ [b]) = framesB l ++ frameV 3 (blkB b) := by unfold framesB; simp
theorem indexB_snoc (l : List Blk) (b : Blk) : ∀ o, indexB o (l ++ [b]) = indexB o l ++ entB (o + (framesB l).length) b := by
 induction l with
 | nil => intro o; simp [indexB, framesB]
 | cons x l ih =>
   intro o
   rw [List.cons_append, indexB, ih, indexB, List.append_assoc]
   have : (framesB (x :: l)).length = (frameV 3 (blkB x)).length + (framesB l).length := by unfold framesB; simp
   rw [this, Nat.add_assoc]
/-- The file of points, or the error. -/
def tableB (bl : List Blk) : List Nat := putV bl.length ++ indexB 0 bl
def fileB (bl : List Blk) : List Nat := framesB bl ++ (frameV 4 (tableB bl) ++ tail4 (framesB bl).length)
def buildV (l : List Pts) : Int × List Nat :=
 if 2000 < manyL (cleanS l) then (2, [])
 else if l = [] ∨ cleanS l ≠ l then (1, [])
 else if 65535 < (tableB (blksV l)).length then (2, [])
 else (0, fileB (blksV l))
-- ---- blocks
theorem cut_le (l : List Smp) : cutN l ≤ l.length ∧ cutN l ≤ 16 := by
 have h := (pack_good (valsL (l.take 16)) (valsL (l.take 16)).length).1
 have e : (valsL (l.take 16)).length = min 16 l.length := by unfold valsL; rw [List.length_map, List.length_take]
 unfold cutN
 omega
theorem cut_pos {l : List Smp} (h : ∀ s ∈ l, rightS s = true) (hl : l ≠ []) : 1 ≤ cutN l := by
 unfold cutN
 refine pack_pos (fun v hv => ?_) ?_
 ·obtain ⟨s, hs, rfl⟩ := List.mem_map.1 hv
  have h1 := h s (List.mem_of_mem_take hs)
  unfold rightS at h1
  simp only [Bool.and_eq_true] at h1
  exact h1.2
 ·intro e
  have e2 : (valsL (l.take 16)).length = 0 := by rw [e]; rfl
  unfold valsL at e2
  rw [List.length_map, List.length_take] at e2
  have := List.length_pos_iff.2 hl
  omega
theorem cut_good (l : List Smp) : goodL (valsL (l.take (cutN l))) = true := by
 have h := (pack_good (valsL (l.take 16)) (valsL (l.take 16)).length).2
 have e : (valsL (l.take 16)).take (cutN l) = valsL (l.take (cutN l)) := by
  unfold valsL
  rw [← List.map_take, List.take_take, Nat.min_eq_left (cut_le l).2]
 rw [← e]
 exact h
theorem cuts_flat : ∀ (f : Nat) (l : List Smp), l.length ≤ f → (∀ s ∈ l, rightS s = true) → (cutsF f l).flatten = l
 | 0, l, h, _ => by rw [show l = [] from List.eq_nil_of_length_eq_zero (by omega)]; rfl
 | f + 1, l, h, hr => by
   unfold cutsF
   by_cases h0 : l = []
   ·rw [if_pos h0, h0]; rfl
   ·rw [if_neg h0, List.flatten_cons, cuts_flat f (l.drop (cutN l)) (by have := cut_pos hr h0; rw [List.length_drop]; omega) (fun s hs => hr s (List.mem_of_mem_drop hs)), List.take_append_drop]
theorem cuts_each : ∀ (f : Nat) (l : List Smp), (∀ s ∈ l, rightS s = true) → ∀ c ∈ cutsF f l, c ≠ [] ∧ c.length ≤ 16 ∧ goodL (valsL c) = true ∧ ∀ s ∈ c, s ∈ l
 | 0, _, _, c, hc => by simp [cutsF] at hc
 | f + 1, l, hr, c, hc => by
   unfold cutsF at hc
   by_cases h0 : l = []
   ·rw [if_pos h0] at hc; cases hc
   ·rw [if_neg h0] at hc
    rcases List.mem_cons.1 hc with rfl | hc
    ·have h1 := cut_pos hr h0
     have h2 := cut_le l
     refine ⟨?_, by rw [List.length_take]; omega, cut_good l, fun s hs => List.mem_of_mem_take hs⟩
     intro e
     have : (l.take (cutN l)).length = 0 := by rw [e]; rfl
     rw [List.length_take] at this
     omega
    ·obtain ⟨k1, k2, k3, k4⟩ := cuts_each f _ (fun s hs => hr s (List.mem_of_mem_drop hs)) c hc
     exact ⟨k1, k2, k3, fun s hs => List.mem_of_mem_drop (k4 s hs)⟩
theorem cutsF_step {f : Nat} {l : List Smp} (h : l ≠ []) : cutsF (f + 1) l = l.take (cutN l) :: cutsF f (l.drop (cutN l)) := by
 rw [cutsF, if_neg h]
theorem cuts_more : ∀ (f g : Nat) (l : List Smp), l.length ≤ f → l.length ≤ g → (∀ s ∈ l, rightS s = true) → cutsF f l = cutsF g l
 | 0, g, l, h, _, _ => by
   rw [show l = [] from List.eq_nil_of_length_eq_zero (by omega)]
   cases g <;> simp [cutsF]
 | f + 1, 0, l, _, h, _ => by
   rw [show l = [] from List.eq_nil_of_length_eq_zero (by omega)]
   simp [cutsF]
 | f + 1, g + 1, l, hf, hg, hr => by
   unfold cutsF
   by_cases h0 : l = []
   ·rw [if_pos h0, if_pos h0]
   ·have := cut_pos hr h0
    rw [if_neg h0, if_neg h0, cuts_more f g _ (by rw [List.length_drop]; omega) (by rw [List.length_drop]; omega) (fun s hs => hr s (List.mem_of_mem_drop hs))]
-- ---- a block's bytes, read
def parseB (b : List Nat) : Option Pts :=
 if (takeV b).1 = 0 ∧ (takeV b).2.1 ≤ 1073741824 then
  (let t := decV (b.drop (takeV b).2.2)
   if t.1 = 0 then
    (let x := takesV 1 t.2.2
     if x.1 = 0 ∧ -1000 ≤ x.2.1.getD 0 0 ∧ x.2.1.getD 0 0 ≤ 1000 then
      (let m := decV x.2.2
       if m.1 = 0 ∧ m.2.1.length = t.2.1.length then
        (match unpackV m.2.1 (x.2.1.getD 0 0) with
         | some v => some (((takeV b).2.1 : Nat), t.2.1.zip v)
         | none => none)
       else none)
     else none)
   else none)
 else none
theorem zip_tv (l : List Smp) : (tickL l).zip (valsL l) = l := by
 unfold tickL valsL
 induction l with
 | nil => rfl
 | cons s l ih => simp [ih]
/-- What a block may be. -/
def BlkOk (b : Blk) : Prop := 0 ≤ b.1 ∧ b.1 ≤ 1073741824 ∧ b.2.length ≤ 16 ∧ goodL (valsL b.2) = true ∧ ∀ s ∈ b.2, In64 s.1
theorem BlkOk.mant {b : Blk} (h : BlkOk b) : ∀ x ∈ mantL b.2, In64 x := fun x hx => by
 have hg := good_has h.2.2.2.1
 unfold mantL at hx
 obtain ⟨v, hv, rfl⟩ := List.mem_map.1 hx
 exact mant_in (hg v hv).1 (hg v hv).2
theorem BlkOk.tick {b : Blk} (h : BlkOk b) : ∀ x ∈ tickL b.2, In64 x := fun x hx => by
 unfold tickL at hx
 obtain ⟨s, hs, rfl⟩ := List.mem_map.1 hx
 exact h.2.2.2.2 s hs
theorem BlkOk.exp {b : Blk} (h : BlkOk b) : -300 ≤ expL b.2 ∧ expL b.2 ≤ 290 := least_in (fun v hv => (good_has h.2.2.2.1 v hv).1)
theorem blkB_len {b : Blk} (h : BlkOk b) : (blkB b).length ≤ 1000 := by
 have h16 := h.2.2.1
 have l1 : (tickL b.2).length = b.2.length := by unfold tickL; simp
 have l2 : (mantL b.2).length = b.2.length := by unfold mantL valsL; simp
 have h1 := put_len 9 b.1.toNat (by have := h.2.1; omega)
 have h2 := enc_len h.tick (by omega)
 have h3 := enc_len h.mant (by omega)
 have h4 := allV_len (l := [expL b.2]) (fun n hn => by
  obtain rfl : n = expL b.2 := by simpa using hn
  have := h.exp
  unfold In64; omega)
 rw [List.length_singleton] at h4
 unfold blkB
 simp only [List.length_append]
 omega
theorem parse_blk {b : Blk} (h : BlkOk b) : parseB (blkB b) = some b := by
 obtain ⟨h1, h2, h3, h4, h5⟩ := h
 have hg := good_has h4
 have hm := BlkOk.mant (b := b) ⟨h1, h2, h3, h4, h5⟩
 have ht := BlkOk.tick (b := b) ⟨h1, h2, h3, h4, h5⟩
 have he := least_in (fun v hv => (hg v hv).1)
 have e1 := take_put (u := b.1.toNat) (by omega) (encV (tickL b.2) ++ (allV [expL b.2] ++ encV (mantL b.2)))
 have e2 := dec_enc (allV [expL b.2] ++ encV (mantL b.2)) ht (by unfold tickL; simp; omega)
 have e3 : takesV 1 (allV [expL b.2] ++ encV (mantL b.2)) = (0, [expL b.2], encV (mantL b.2)) := takes_all (l := [expL b.2]) _ (fun n hn => by
  obtain rfl : n = expL b.2 := by simpa using hn
  unfold expL In64; omega)
 have e4 := dec_enc (l := mantL b.2) [] hm (by unfold mantL valsL; simp; omega)
 rw [List.append_nil] at e4
 have e5 : unpackV (mantL b.2) (expL b.2) = some (valsL b.2) := unpack_pack h4
 have e6 : (mantL b.2).length = (tickL b.2).length := by unfold mantL valsL tickL; simp
 have e7 : ((b.1.toNat : Nat) : Int) = b.1 := by omega
 unfold parseB blkB
 rw [e1]
 simp only
 rw [if_pos ⟨trivial, by omega⟩, List.drop_left' rfl, e2]
 simp only
 rw [if_pos trivial, e3]
 simp only
 rw [if_pos ⟨trivial, by unfold expL; simp; omega, by unfold expL; simp; omega⟩, e4]
 simp only
 rw [if_pos ⟨trivial, e6⟩]
 have e8 : ([expL b.2] : List Int).getD 0 0 = expL b.2 := rfl
 rw [e8, e5]
 simp only
 rw [zip_tv, e7]
/-- The points of a file's blocks. -/
def openL : Nat → List Nat → Option (List Pts)
 | 0, _ => none
 | f + 1, b => if (nextV b).1 ≠ 0 then none else if (nextV b).2.1 ≠ 3 then some [] else match parseB (nextV b).2.2.1 with
   | none => none
   | some p => match openL f (nextV b).2.2.2 with
     | none => none
     | some l => some (p :: l)
theorem open_frames : ∀ (bl : List Blk) (f : Nat) (t r : List Nat), bl.length < f → (∀ b ∈ bl, BlkOk b) → t.length ≤ 65535 → openL f (framesB bl ++ (frameV 4 t ++ r)) = some bl
 | [], f + 1, t, r, _, _, ht => by
   have e : framesB [] ++ (frameV 4 t ++ r) = frameV 4 t ++ r := rfl
   rw [e, openL, next_frame ht]
   simp
 | b :: bl, f + 1, t, r, hf, hb, ht => by
   have e : framesB (b :: bl) ++ (frameV 4 t ++ r) = frameV 3 (blkB b) ++ (framesB bl ++ (frameV 4 t ++ r)) := by unfold framesB; simp
   have h1 := hb b List.mem_cons_self
   have ih := open_frames bl f t r (by simpa using hf) (fun x hx => hb x (List.mem_cons_of_mem _ hx)) ht
   rw [e, openL, next_frame (by have := blkB_len h1; omega)]
   simp only [ne_eq, not_true, if_false]
   rw [parse_blk h1, ih]
 | [], 0, _, _, h, _, _ => by simp at h
 | _ :: _, 0, _, _, h, _, _ => by simp at h
def openV (b : List Nat) : Option (List Pts) := match openL (b.length + 1) b with
 | none => none
 | some l => if buildV (cleanS l) = (0, b) then some (cleanS l) else none
end Go.Proofs.YtnkelahimiipjaaGreatDoor

/-
 A file's points come back.
-/
namespace Go.Proofs.YtnkelahimiipjaaGreatDoor
theorem mem_blks {c : List Pts} {b : Blk} : b ∈ blksV c ↔ ∃ q ∈ c, b.1 = q.1 ∧ b.2 ∈ cutsF q.2.length q.2 := by
 unfold blksV blksP
 rw [List.mem_flatMap]
 constructor
 ·rintro ⟨q, hq, hb⟩
  obtain ⟨s, hs, rfl⟩ := List.mem_map.1 hb
  exact ⟨q, hq, rfl, hs⟩
 ·rintro ⟨q, hq, h1, h2⟩
  exact ⟨q, hq, List.mem_map.2 ⟨b.2, h2, by rw [← h1]⟩⟩
theorem blks_clean {c : List Pts} (h : Clean c) : cleanS (blksV c) = c := by
 refine clean_ext (cleanS_clean _) h fun k => ?_
 rw [clean_at]
 by_cases hk : inR k = true
 ·rw [if_pos hk, ← clean_ofs h k]
  refine sortS_congr fun x => ?_
  rw [ofL_mem, ofL_mem]
  constructor
  ·rintro ⟨p, hp, e, hx⟩
   obtain ⟨q, hq, h1, h2⟩ := mem_blks.1 hp
   exact ⟨q, hq, by rw [← h1]; exact e, (cuts_each _ _ (h.bd q hq) _ h2).2.2.2 x hx⟩
  ·rintro ⟨q, hq, e, hx⟩
   rw [← cuts_flat q.2.length q.2 (Nat.le_refl _) (h.bd q hq)] at hx
   obtain ⟨s, hs, hx⟩ := List.mem_flatten.1 hx
   exact ⟨(q.1, s), mem_blks.2 ⟨q, hq, rfl, hs⟩, e, hx⟩
 ·rw [if_neg hk, ofL_none fun p hp e => hk (by rw [← e]; exact h.inr p hp)]
theorem blks_ok {c : List Pts} (h : Clean c) : ∀ b ∈ blksV c, BlkOk b ∧ b.2 ≠ [] ∧ 1 ≤ b.1 := fun b hb => by
 obtain ⟨q, hq, h1, h2⟩ := mem_blks.1 hb
 obtain ⟨k1, k2, k3, k4⟩ := cuts_each _ _ (h.bd q hq) _ h2
 have h3 := h.inr q hq
 unfold inR at h3
 rw [Bool.and_eq_true, decide_eq_true_eq, decide_eq_true_eq] at h3
 refine ⟨⟨by omega, by omega, k2, k3, fun s hs => ?_⟩, k1, by omega⟩
 have := rightS_bd (h.bd q hq s (k4 s hs))
 unfold In64; omega
theorem frames_len (bl : List Blk) : bl.length ≤ (framesB bl).length := by
 induction bl with
 | nil => simp
 | cons b bl ih =>
   have : framesB (b :: bl) = frameV 3 (blkB b) ++ framesB bl := rfl
   rw [this, List.length_append, frameV_len, List.length_cons]; omega
theorem open_file {c : List Pts} {b : List Nat} (hb : buildV c = (0, b)) : openV b = some c := by
 have hb0 := hb
 unfold buildV at hb
 split at hb
 ·cases hb
 ·split at hb
  ·cases hb
  case isFalse h1 =>
   split at hb
   ·cases hb
   case isFalse h2 =>
    injection hb with _ hb
    have hcl : Clean c := by
     have e : cleanS c = c := Classical.byContradiction fun h => h1 (.inr h)
     rw [← e]; exact cleanS_clean c
    have e := open_frames (blksV c) (b.length + 1) (tableB (blksV c)) (tail4 (framesB (blksV c)).length) (by
     rw [← hb]; unfold fileB
     have := frames_len (blksV c)
     rw [List.length_append]; omega) (fun x hx => (blks_ok hcl x hx).1) (by omega)
    unfold openV
    have e2 : framesB (blksV c) ++ (frameV 4 (tableB (blksV c)) ++ tail4 (framesB (blksV c)).length) = b := hb
    rw [e2] at e
    rw [e]
    simp only
    rw [blks_clean hcl, if_pos hb0]
end Go.Proofs.YtnkelahimiipjaaGreatDoor

/-
 What is read of bytes is read of them with more behind.
-/
namespace Go.Proofs.YtnkelahimiipjaaGreatDoor
theorem lead_app {b : List Nat} (r : List Nat) (h : leadV b < b.length) : leadV (b ++ r) = leadV b := by
 induction b with
 | nil => simp at h
 | cons c b ih =>
   unfold leadV at h ⊢
   rw [List.cons_append]
   by_cases hc : 128 ≤ c
   ·rw [if_pos hc] at h
    simp only [if_pos hc]
    rw [ih (by simpa using h)]
   ·simp only [if_neg hc]
theorem getD_app {b : List Nat} (r : List Nat) {i : Nat} (h : i < b.length) : (b ++ r).getD i 0 = b.getD i 0 := by
 rw [List.getD_eq_getElem?_getD, List.getD_eq_getElem?_getD, List.getElem?_append_left h]
theorem take_more {b : List Nat} (r : List Nat) (h : (takeV b).1 = 0) : takeV (b ++ r) = takeV b := by
 have h2 : ¬ 10 ≤ leadV b := fun h1 => by unfold takeV at h; rw [if_pos h1] at h; simp at h
 have h3 : ¬ b.length ≤ leadV b := fun h1 => by unfold takeV at h; rw [if_neg h2, if_pos h1] at h; simp at h
 have e1 := lead_app r (by omega : leadV b < b.length)
 unfold takeV
 rw [e1, if_neg h2, if_neg h2, if_neg h3, if_neg (by rw [List.length_append]; omega), getD_app r (by omega : leadV b < b.length), List.take_append_of_le_length (by omega)]
 by_cases h9 : leadV b = 9
 ·rw [getD_app r (by omega : 9 < b.length)]
 ·have e : ∀ x : Nat, ((leadV b = 9 ∧ 1 < x) ∨ (0 < leadV b ∧ b.getD (leadV b) 0 = 0)) = (0 < leadV b ∧ b.getD (leadV b) 0 = 0) := fun x => by simp [h9]
  simp only [e]
theorem next_more {b : List Nat} (r : List Nat) (h : (nextV b).1 = 0) : nextV (b ++ r) = (0, (nextV b).2.1, (nextV b).2.2.1, (nextV b).2.2.2 ++ r) := by
 have c1 : ¬ b.length = 0 := fun e => by unfold nextV at h; rw [if_pos e] at h; simp at h
 have c2 : ¬ (takeV (b.drop 1)).1 ≠ 0 := fun e => by unfold nextV at h; rw [if_neg c1, if_pos e] at h; exact e h
 have c3 : ¬ 65535 < (takeV (b.drop 1)).2.1 := fun e => by unfold nextV at h; rw [if_neg c1, if_neg c2, if_pos e] at h; simp at h
 have c4 : ¬ ((b.drop 1).drop (takeV (b.drop 1)).2.2).length < (takeV (b.drop 1)).2.1 + 4 := fun e => by unfold nextV at h; rw [if_neg c1, if_neg c2, if_neg c3, if_pos e] at h; simp at h
 have c5 : sealV (b.take (1 + (takeV (b.drop 1)).2.2 + (takeV (b.drop 1)).2.1)) = b.take (1 + (takeV (b.drop 1)).2.2 + (takeV (b.drop 1)).2.1 + 4) := Classical.byContradiction fun e => by unfold nextV at h; rw [if_neg c1, if_neg c2, if_neg c3, if_neg c4, if_neg e] at h; simp at h
 have ht : (takeV (b.drop 1)).1 = 0 := Classical.byContradiction c2
 have e1 : (b ++ r).drop 1 = b.drop 1 ++ r := List.drop_append_of_le_length (by omega)
 have e2 := take_more r ht
 obtain ⟨k1, k2, _⟩ := take_ok ht
 have e3 : ((b ++ r).drop 1).drop (takeV (b.drop 1)).2.2 = (b.drop 1).drop (takeV (b.drop 1)).2.2 ++ r := by
  rw [e1]; exact List.drop_append_of_le_length k1
 have hlen : (takeV (b.drop 1)).2.1 + 4 ≤ ((b.drop 1).drop (takeV (b.drop 1)).2.2).length := by omega
 have hlen2 : 1 + (takeV (b.drop 1)).2.2 + (takeV (b.drop 1)).2.1 + 4 ≤ b.length := by
  rw [List.length_drop, List.length_drop] at hlen; omega
 have e4 : (b ++ r).take (1 + (takeV (b.drop 1)).2.2 + (takeV (b.drop 1)).2.1) = b.take (1 + (takeV (b.drop 1)).2.2 + (takeV (b.drop 1)).2.1) := List.take_append_of_le_length (by omega)
 have e5 : (b ++ r).take (1 + (takeV (b.drop 1)).2.2 + (takeV (b.drop 1)).2.1 + 4) = b.take (1 + (takeV (b.drop 1)).2.2 + (takeV (b.drop 1)).2.1 + 4) := List.take_append_of_le_length (by omega)
 have f : nextV b = (0, b.getD 0 0, ((b.drop 1).drop (takeV (b.drop 1)).2.2).take (takeV (b.drop 1)).2.1, ((b.drop 1).drop (takeV (b.drop 1)).2.2).drop ((takeV (b.drop 1)).2.1 + 4)) := by
  unfold nextV; rw [if_neg c1, if_neg c2, if_neg c3, if_neg c4, if_pos c5]
 rw [f]
 unfold nextV
 rw [if_neg (by rw [List.length_append]; omega), e1, e2, if_neg c2, if_neg c3]
 rw [e1] at e3
 rw [e3, if_neg (by rw [List.length_append]; omega), e4, e5, if_pos c5, getD_app r (by omega), List.take_append_of_le_length (by omega), List.drop_append_of_le_length (by omega)]
theorem open_more (r : List Nat) : ∀ (f : Nat) (b : List Nat) (l : List Pts), openL f b = some l → openL f (b ++ r) = some l
 | 0, _, _, h => by simp [openL] at h
 | f + 1, b, l, h => by
   unfold openL at h
   by_cases h1 : (nextV b).1 ≠ 0
   ·rw [if_pos h1] at h; cases h
   ·rw [if_neg h1] at h
    have e := next_more r (Classical.byContradiction h1)
    unfold openL
    rw [e]
    simp only [ne_eq, not_true, if_false]
    by_cases h2 : (nextV b).2.1 ≠ 3
    ·rw [if_pos h2] at h
     rw [if_pos h2]; exact h
    ·rw [if_neg h2] at h
     rw [if_neg h2]
     cases hp : parseB (nextV b).2.2.1 with
     | none => rw [hp] at h; cases h
     | some p =>
       rw [hp] at h
       simp only at h ⊢
       cases ho : openL f (nextV b).2.2.2 with
       | none => rw [ho] at h; cases h
       | some l' =>
         rw [ho] at h
         rw [open_more r f _ l' ho]
         exact h
theorem open_fuel : ∀ (f g : Nat) (b : List Nat) (l : List Pts), f ≤ g → openL f b = some l → openL g b = some l
 | 0, _, _, _, _, h => by simp [openL] at h
 | f + 1, 0, _, _, hg, _ => by omega
 | f + 1, g + 1, b, l, hg, h => by
   unfold openL at h ⊢
   by_cases h1 : (nextV b).1 ≠ 0
   ·rw [if_pos h1] at h; cases h
   ·rw [if_neg h1] at h
    rw [if_neg h1]
    by_cases h2 : (nextV b).2.1 ≠ 3
    ·rw [if_pos h2] at h
     rw [if_pos h2]; exact h
    ·rw [if_neg h2] at h
     rw [if_neg h2]
     cases hp : parseB (nextV b).2.2.1 with
     | none => rw [hp] at h; cases h
     | some p =>
       rw [hp] at h
       simp only at h ⊢
       cases ho : openL f (nextV b).2.2.2 with
       | none => rw [ho] at h; cases h
       | some l' =>
         rw [ho] at h
         rw [open_fuel f g _ l' (by omega) ho]
         exact h
theorem openV_has {b : List Nat} {c : List Pts} (h : openV b = some c) : buildV c = (0, b) ∧ ∃ l, openL (b.length + 1) b = some l ∧ c = cleanS l := by
 unfold openV at h
 cases ho : openL (b.length + 1) b with
 | none => rw [ho] at h; cases h
 | some l =>
   rw [ho] at h
   simp only at h
   split at h
   case isTrue hb => injection h with h; subst h; exact ⟨hb, l, rfl, rfl⟩
   case isFalse => cases h
/-- Bytes of which those ahead are a file too are that file. -/
theorem open_cut {b r : List Nat} {c c' : List Pts} (h1 : openV b = some c) (h2 : openV (b ++ r) = some c') : r = [] := by
 obtain ⟨k1, l, k2, k3⟩ := openV_has h1
 obtain ⟨m1, l', m2, m3⟩ := openV_has h2
 have e := open_fuel _ ((b ++ r).length + 1) _ _ (by rw [List.length_append]; omega) (open_more r _ _ _ k2)
 rw [m2] at e
 injection e with e
 subst e
 rw [k3] at k1
 rw [m3, k1] at m1
 injection m1 with _ m1
 have := congrArg List.length m1
 rw [List.length_append] at this
 exact List.eq_nil_of_length_eq_zero (by omega)
end Go.Proofs.YtnkelahimiipjaaGreatDoor
