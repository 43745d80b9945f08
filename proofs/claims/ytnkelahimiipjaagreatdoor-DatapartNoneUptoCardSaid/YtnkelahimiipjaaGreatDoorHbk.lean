/-
 codec: As at each kind.
-/
import Derived.Test.YtnkelahimiipjaaGreatDoorCtk
import Derived.Test.YtnkelahimiipjaaGreatDoorCjk
import Derived.Test.YtnkelahimiipjaaGreatDoorCck
import Derived.Laws.BytesArg
import Derived.Laws.BytesString
import Derived.Lib.Strings
import Derived.Lib.AppendZerosOnto
namespace Go.Proofs.YtnkelahimiipjaaGreatDoor
open Go.RowKit Go.Sort
theorem first_as (l : List Int) (v : Value) (W : World) (hR : RdG EI W W.heap.size v l) (hl : l.length ≤ 1000000) :
  Calls Tryz.prog 130 #[v] W (AsC 2 l W) :=
 (first_walk l v W hR hl).mono fun e w' ⟨A, n, c, h1, h2, h3⟩ => ⟨A, n, c, h1, h3, fun x hx => by
   have e : asX 2 l = some (firstV l) := rfl
   rw [e] at hx
   injection hx with hx
   subst hx
   exact h2.rd⟩
theorem asX_len {kind : Nat} {l x : List Int} (h : asX kind l = some x) : x.length ≤ l.length + 2 := by
 unfold asX at h
 split at h
 ·split at h
  ·injection h with h; subst h; simp
  ·cases h
 ·split at h
  ·split at h
   ·injection h with h; subst h; simp
   ·cases h
  ·split at h
   ·injection h with h; subst h; rw [first_len]; omega
   ·split at h
    ·split at h
     ·injection h with h; subst h; unfold secondV; simp
     ·cases h
    ·cases h
/-- A row's bytes by a kind. -/
def AsB (kind : Nat) (l : List Int) (W : World) (e : Ending) (w' : World) : Prop :=
 ∃ bv, e = .returned (.tuple #[bv, .bool (asV kind l).isSome]) ∧ Below W.heap.size W w' ∧ (∀ x, asV kind l = some x → OwnG EB 5 w' W.heap.size bv x) ∧ (asV kind l = none → bv = .slice none 0 0)
set_option maxRecDepth 100000 in
set_option maxHeartbeats 2000000 in
theorem nth_walk (k g : Nat) (fv : Value) (W : World) (hk : k < 4) (hc : W.cell? ⟨g, k, none⟩ = some fv) :
  Calls Tryz.prog 127 #[.int .i64 (k : Int), .slice (some ⟨g, 0, none⟩) 4 4] W fun e w' => e = .returned fv ∧ w' = W := by
 have i1 : ¬ (k : Int) < 0 := by omega
 have i2 : ¬ (k : Int) ≥ 4 := by omega
 have i3 : (k : Int) < 4 := by omega
 go_enter Tryz.func127, Tryz.ntmps127
 go_wp2_with fail
 go_ret
 exact ⟨rfl, rfl⟩
set_option maxRecDepth 100000 in
set_option maxHeartbeats 4000000 in
theorem as_walk0 (l : List Int) (v : Value) (W : World) (hR : RdG EI W W.heap.size v l) (hi : ∀ x ∈ l, In64 x) (hl : l.length ≤ 4096) :
  Calls Tryz.prog 116 #[.int .i64 0, v] W (AsB 0 l W) := by
 have hmf : ∀ (fn : Fn) (first cap : Array Value) (w : World), (Instr.makeFunc fn first cap).run Tryz.prog w = .ok (.func fn first cap) w := fun _ _ _ _ => rfl
 have qf : ∀ (w : World) (f : Fn) (a b : Array Value), (binOp .eql 175 (.func f a b) .nilFunc).run Tryz.prog w = .ok (.bool false) w := fun _ _ _ _ => by kernel_rfl
 have hr : Tryz.f116.results = #[.tmp 4, .tmp 5] := by kernel_rfl
 obtain ⟨n, hn⟩ : ∃ n, n = l.length := ⟨_, rfl⟩
 have HR := Lib.hid hR
 have HI := Lib.hid hi
 obtain ⟨A, c, rfl, hc, hn0, hA⟩ := hR
 rw [← hn] at HR hc hl ⊢
 have HN := Lib.hid hn
 have i1 : ¬ (n : Int) > 4096 := by omega
 have hB1 : Below W.heap.size W (W.alloc (.cells #[.func (.func 128) #[.slice A n c] #[], .func (.func 129) #[.slice A n c] #[], .func (.func 130) #[.slice A n c] #[], .func (.func 131) #[.slice A n c] #[]] 175)) := (Below.refl _ _).alloc (Nat.le_refl _) _
 have KN : Hid (Calls Tryz.prog 127 #[.int .i64 0, .slice (some ⟨W.heap.size, 0, none⟩) 4 4] (W.alloc (.cells #[.func (.func 128) #[.slice A n c] #[], .func (.func 129) #[.slice A n c] #[], .func (.func 130) #[.slice A n c] #[], .func (.func 131) #[.slice A n c] #[]] 175)) fun e w' => e = .returned (.func (.func 128) #[.slice A n c] #[]) ∧ w' = W.alloc (.cells #[.func (.func 128) #[.slice A n c] #[], .func (.func 129) #[.slice A n c] #[], .func (.func 130) #[.slice A n c] #[], .func (.func 131) #[.slice A n c] #[]] 175)) :=
  nth_walk 0 W.heap.size _ _ (by decide) (new_cellG W _ _ 0)
 obtain ⟨W1, hW1⟩ : ∃ W1, W1 = W.alloc (.cells #[.func (.func 128) #[.slice A n c] #[], .func (.func 129) #[.slice A n c] #[], .func (.func 130) #[.slice A n c] #[], .func (.func 131) #[.slice A n c] #[]] 175) := ⟨_, rfl⟩
 rw [← hW1] at KN hB1
 have KF : Hid (Calls Tryz.prog 128 #[.slice A n c] W1 (AsC 0 l W1)) := by
  have h := alike_walk l (.slice A n c) W1 (by have := HR.out.on hB1; exact this) (by omega)
  exact h
 have HB1 := Lib.hid hB1
 clear hB1 hn0 hA hi
 cases hq : asX 0 l with
 | none =>
   have ha : asV 0 l = none := by unfold asV; rw [if_neg (by omega), hq]; rfl
   have HA := Lib.hid ha
   have HQ := Lib.hid hq
   clear ha hn hq
   go_enter Tryz.func116, Tryz.ntmps116
   go_wp2_with fail
   rw [← hW1]
   refine KN.out.mono ?_
   rintro e w1 ⟨rfl, rfl⟩
   clear hW1 KN
   go_wp2_with fail
   refine KF.out.mono ?_
   rintro e w2 ⟨A2, n2, c2, rfl, hB2, _⟩
   rw [HQ.out]
   have HB2 : Hid (Below W.heap.size W w2) := HB1.out.trans (hB2.mono HB1.out.size)
   clear hB2 KF
   go_wp2_with fail
   refine bodyPost_ret (v := .tuple #[.slice none 0 0, .bool false]) ?_ rfl (show AsB 0 l W _ _ from ⟨.slice none 0 0, by rw [HA.out]; rfl, HB2.out, fun x hx => (by rw [HA.out] at hx; cases hx), fun _ => rfl⟩)
   unfold results
   rw [hr]
   go_simp
 | some x =>
   have ha : asV 0 l = some (0 :: (putV n ++ allV x)) := by unfold asV; rw [if_neg (by omega), hq, ← hn]; rfl
   have HA := Lib.hid ha
   have HQ := Lib.hid hq
   have hxi : ∀ y ∈ x, In64 y := asX_in HI.out hq
   have hxl := asX_len hq
   have HX := Lib.hid (And.intro hxi hxl)
   clear ha hn hq hxi hxl
   go_enter Tryz.func116, Tryz.ntmps116
   go_wp2_with fail
   rw [← hW1]
   refine KN.out.mono ?_
   rintro e w1 ⟨rfl, rfl⟩
   clear hW1 KN
   go_wp2_with fail
   refine KF.out.mono ?_
   rintro e w2 ⟨A2, n2, c2, rfl, hB2, hx2⟩
   have hx3 := hx2 x HQ.out
   rw [HQ.out]
   have HB2 : Hid (Below W.heap.size W w2) := HB1.out.trans (hB2.mono HB1.out.size)
   have HX3 := Lib.hid hx3
   have hB3 : Below w2.heap.size w2 (w2.alloc (.cells #[.int .u8 0] 5)) := (Below.refl _ _).alloc (Nat.le_refl _) _
   have KP : Hid (Calls Tryz.prog 35 #[.slice (some ⟨w2.heap.size, 0, none⟩) 1 1, .int .u64 (n : Int)] (w2.alloc (.cells #[.int .u8 0] 5)) fun e w' => ∃ A3 n3 c3, e = .returned (.slice A3 n3 c3) ∧ OwnG EB 5 w' (w2.heap.size + 1) (.slice A3 n3 c3) ([0] ++ putV n) ∧ Below (w2.heap.size + 1) (w2.alloc (.cells #[.int .u8 0] 5)) w') :=
    (vPut_walk _ [0] n _ (RdG.oneB 0 w2) (by omega) (by simp)).mono fun e w' ⟨v9, h1, h2, h3⟩ => by
      obtain ⟨A3, c3, e3, _⟩ := id h2.rd
      rw [World.size_alloc] at h2 h3
      exact ⟨A3, _, c3, by rw [h1, e3], by rw [← e3]; exact h2, h3⟩
   have HB3 := Lib.hid hB3
   clear hB2 KF hx2 hx3 hB3
   go_wp2_with fail
   refine KP.out.mono ?_
   rintro e w4 ⟨A3, n3, c3, rfl, hO4, hB4⟩
   have HB4 : Hid (Below w2.heap.size w2 w4) := HB3.out.trans (hB4.mono (by omega))
   have hpl := put_len 9 n (by omega)
   have KA := Lib.hid (vAll_walk (.slice A3 n3 c3) ([0] ++ putV n) (.slice A2 n2 c2) x w4 hO4.rd (HX3.out.on HB4.out) HX.out.1 (by simp; omega) (by have := HX.out.2; have := HN.out; omega))
   clear hO4 hB4 KP hpl
   go_wp2_with fail
   refine KA.out.mono ?_
   rintro e w5 ⟨v5, rfl, hO5, hB5⟩
   have HBF : Hid (Below W.heap.size W w5) := (HB2.out.trans (HB4.out.mono HB2.out.size)).trans (hB5.mono (Nat.le_trans HB2.out.size HB4.out.size))
   have HOF : Hid (OwnG EB 5 w5 W.heap.size v5 (0 :: (putV n ++ allV x))) := by
    have h := hO5.lower (base' := W.heap.size) (Nat.le_trans HB2.out.size HB4.out.size)
    have e : ([0] ++ putV n) ++ allV x = 0 :: (putV n ++ allV x) := by simp
    rw [e] at h; exact h
   clear hO5 hB5 KA
   go_wp2_with fail
   refine bodyPost_ret (v := .tuple #[v5, .bool true]) ?_ rfl ⟨_, by rw [HA.out]; rfl, HBF.out, fun y hy => by
    rw [HA.out] at hy
    injection hy with hy
    subst hy
    exact HOF.out, fun h => by rw [HA.out] at h; cases h⟩
   unfold results
   rw [hr]
   go_simp
set_option maxRecDepth 100000 in
set_option maxHeartbeats 4000000 in
theorem as_walk1 (l : List Int) (v : Value) (W : World) (hR : RdG EI W W.heap.size v l) (hi : ∀ x ∈ l, In64 x) (hl : l.length ≤ 4096) :
  Calls Tryz.prog 116 #[.int .i64 1, v] W (AsB 1 l W) := by
 have hmf : ∀ (fn : Fn) (first cap : Array Value) (w : World), (Instr.makeFunc fn first cap).run Tryz.prog w = .ok (.func fn first cap) w := fun _ _ _ _ => rfl
 have qf : ∀ (w : World) (f : Fn) (a b : Array Value), (binOp .eql 175 (.func f a b) .nilFunc).run Tryz.prog w = .ok (.bool false) w := fun _ _ _ _ => by kernel_rfl
 have hr : Tryz.f116.results = #[.tmp 4, .tmp 5] := by kernel_rfl
 obtain ⟨n, hn⟩ : ∃ n, n = l.length := ⟨_, rfl⟩
 have HR := Lib.hid hR
 have HI := Lib.hid hi
 obtain ⟨A, c, rfl, hc, hn0, hA⟩ := hR
 rw [← hn] at HR hc hl ⊢
 have HN := Lib.hid hn
 have i1 : ¬ (n : Int) > 4096 := by omega
 have hB1 : Below W.heap.size W (W.alloc (.cells #[.func (.func 128) #[.slice A n c] #[], .func (.func 129) #[.slice A n c] #[], .func (.func 130) #[.slice A n c] #[], .func (.func 131) #[.slice A n c] #[]] 175)) := (Below.refl _ _).alloc (Nat.le_refl _) _
 have KN : Hid (Calls Tryz.prog 127 #[.int .i64 1, .slice (some ⟨W.heap.size, 0, none⟩) 4 4] (W.alloc (.cells #[.func (.func 128) #[.slice A n c] #[], .func (.func 129) #[.slice A n c] #[], .func (.func 130) #[.slice A n c] #[], .func (.func 131) #[.slice A n c] #[]] 175)) fun e w' => e = .returned (.func (.func 129) #[.slice A n c] #[]) ∧ w' = W.alloc (.cells #[.func (.func 128) #[.slice A n c] #[], .func (.func 129) #[.slice A n c] #[], .func (.func 130) #[.slice A n c] #[], .func (.func 131) #[.slice A n c] #[]] 175)) :=
  nth_walk 1 W.heap.size _ _ (by decide) (new_cellG W _ _ 1)
 obtain ⟨W1, hW1⟩ : ∃ W1, W1 = W.alloc (.cells #[.func (.func 128) #[.slice A n c] #[], .func (.func 129) #[.slice A n c] #[], .func (.func 130) #[.slice A n c] #[], .func (.func 131) #[.slice A n c] #[]] 175) := ⟨_, rfl⟩
 rw [← hW1] at KN hB1
 have KF : Hid (Calls Tryz.prog 129 #[.slice A n c] W1 (AsC 1 l W1)) := by
  have h := even_walk l (.slice A n c) W1 (by have := HR.out.on hB1; exact this) (by omega)
  exact h
 have HB1 := Lib.hid hB1
 clear hB1 hn0 hA hi
 cases hq : asX 1 l with
 | none =>
   have ha : asV 1 l = none := by unfold asV; rw [if_neg (by omega), hq]; rfl
   have HA := Lib.hid ha
   have HQ := Lib.hid hq
   clear ha hn hq
   go_enter Tryz.func116, Tryz.ntmps116
   go_wp2_with fail
   rw [← hW1]
   refine KN.out.mono ?_
   rintro e w1 ⟨rfl, rfl⟩
   clear hW1 KN
   go_wp2_with fail
   refine KF.out.mono ?_
   rintro e w2 ⟨A2, n2, c2, rfl, hB2, _⟩
   rw [HQ.out]
   have HB2 : Hid (Below W.heap.size W w2) := HB1.out.trans (hB2.mono HB1.out.size)
   clear hB2 KF
   go_wp2_with fail
   refine bodyPost_ret (v := .tuple #[.slice none 0 0, .bool false]) ?_ rfl (show AsB 1 l W _ _ from ⟨.slice none 0 0, by rw [HA.out]; rfl, HB2.out, fun x hx => (by rw [HA.out] at hx; cases hx), fun _ => rfl⟩)
   unfold results
   rw [hr]
   go_simp
 | some x =>
   have ha : asV 1 l = some (1 :: (putV n ++ allV x)) := by unfold asV; rw [if_neg (by omega), hq, ← hn]; rfl
   have HA := Lib.hid ha
   have HQ := Lib.hid hq
   have hxi : ∀ y ∈ x, In64 y := asX_in HI.out hq
   have hxl := asX_len hq
   have HX := Lib.hid (And.intro hxi hxl)
   clear ha hn hq hxi hxl
   go_enter Tryz.func116, Tryz.ntmps116
   go_wp2_with fail
   rw [← hW1]
   refine KN.out.mono ?_
   rintro e w1 ⟨rfl, rfl⟩
   clear hW1 KN
   go_wp2_with fail
   refine KF.out.mono ?_
   rintro e w2 ⟨A2, n2, c2, rfl, hB2, hx2⟩
   have hx3 := hx2 x HQ.out
   rw [HQ.out]
   have HB2 : Hid (Below W.heap.size W w2) := HB1.out.trans (hB2.mono HB1.out.size)
   have HX3 := Lib.hid hx3
   have hB3 : Below w2.heap.size w2 (w2.alloc (.cells #[.int .u8 1] 5)) := (Below.refl _ _).alloc (Nat.le_refl _) _
   have KP : Hid (Calls Tryz.prog 35 #[.slice (some ⟨w2.heap.size, 0, none⟩) 1 1, .int .u64 (n : Int)] (w2.alloc (.cells #[.int .u8 1] 5)) fun e w' => ∃ A3 n3 c3, e = .returned (.slice A3 n3 c3) ∧ OwnG EB 5 w' (w2.heap.size + 1) (.slice A3 n3 c3) ([1] ++ putV n) ∧ Below (w2.heap.size + 1) (w2.alloc (.cells #[.int .u8 1] 5)) w') :=
    (vPut_walk _ [1] n _ (RdG.oneB 1 w2) (by omega) (by simp)).mono fun e w' ⟨v9, h1, h2, h3⟩ => by
      obtain ⟨A3, c3, e3, _⟩ := id h2.rd
      rw [World.size_alloc] at h2 h3
      exact ⟨A3, _, c3, by rw [h1, e3], by rw [← e3]; exact h2, h3⟩
   have HB3 := Lib.hid hB3
   clear hB2 KF hx2 hx3 hB3
   go_wp2_with fail
   refine KP.out.mono ?_
   rintro e w4 ⟨A3, n3, c3, rfl, hO4, hB4⟩
   have HB4 : Hid (Below w2.heap.size w2 w4) := HB3.out.trans (hB4.mono (by omega))
   have hpl := put_len 9 n (by omega)
   have KA := Lib.hid (vAll_walk (.slice A3 n3 c3) ([1] ++ putV n) (.slice A2 n2 c2) x w4 hO4.rd (HX3.out.on HB4.out) HX.out.1 (by simp; omega) (by have := HX.out.2; have := HN.out; omega))
   clear hO4 hB4 KP hpl
   go_wp2_with fail
   refine KA.out.mono ?_
   rintro e w5 ⟨v5, rfl, hO5, hB5⟩
   have HBF : Hid (Below W.heap.size W w5) := (HB2.out.trans (HB4.out.mono HB2.out.size)).trans (hB5.mono (Nat.le_trans HB2.out.size HB4.out.size))
   have HOF : Hid (OwnG EB 5 w5 W.heap.size v5 (1 :: (putV n ++ allV x))) := by
    have h := hO5.lower (base' := W.heap.size) (Nat.le_trans HB2.out.size HB4.out.size)
    have e : ([1] ++ putV n) ++ allV x = 1 :: (putV n ++ allV x) := by simp
    rw [e] at h; exact h
   clear hO5 hB5 KA
   go_wp2_with fail
   refine bodyPost_ret (v := .tuple #[v5, .bool true]) ?_ rfl ⟨_, by rw [HA.out]; rfl, HBF.out, fun y hy => by
    rw [HA.out] at hy
    injection hy with hy
    subst hy
    exact HOF.out, fun h => by rw [HA.out] at h; cases h⟩
   unfold results
   rw [hr]
   go_simp
set_option maxRecDepth 100000 in
set_option maxHeartbeats 4000000 in
theorem as_walk2 (l : List Int) (v : Value) (W : World) (hR : RdG EI W W.heap.size v l) (hi : ∀ x ∈ l, In64 x) (hl : l.length ≤ 4096) :
  Calls Tryz.prog 116 #[.int .i64 2, v] W (AsB 2 l W) := by
 have hmf : ∀ (fn : Fn) (first cap : Array Value) (w : World), (Instr.makeFunc fn first cap).run Tryz.prog w = .ok (.func fn first cap) w := fun _ _ _ _ => rfl
 have qf : ∀ (w : World) (f : Fn) (a b : Array Value), (binOp .eql 175 (.func f a b) .nilFunc).run Tryz.prog w = .ok (.bool false) w := fun _ _ _ _ => by kernel_rfl
 have hr : Tryz.f116.results = #[.tmp 4, .tmp 5] := by kernel_rfl
 obtain ⟨n, hn⟩ : ∃ n, n = l.length := ⟨_, rfl⟩
 have HR := Lib.hid hR
 have HI := Lib.hid hi
 obtain ⟨A, c, rfl, hc, hn0, hA⟩ := hR
 rw [← hn] at HR hc hl ⊢
 have HN := Lib.hid hn
 have i1 : ¬ (n : Int) > 4096 := by omega
 have hB1 : Below W.heap.size W (W.alloc (.cells #[.func (.func 128) #[.slice A n c] #[], .func (.func 129) #[.slice A n c] #[], .func (.func 130) #[.slice A n c] #[], .func (.func 131) #[.slice A n c] #[]] 175)) := (Below.refl _ _).alloc (Nat.le_refl _) _
 have KN : Hid (Calls Tryz.prog 127 #[.int .i64 2, .slice (some ⟨W.heap.size, 0, none⟩) 4 4] (W.alloc (.cells #[.func (.func 128) #[.slice A n c] #[], .func (.func 129) #[.slice A n c] #[], .func (.func 130) #[.slice A n c] #[], .func (.func 131) #[.slice A n c] #[]] 175)) fun e w' => e = .returned (.func (.func 130) #[.slice A n c] #[]) ∧ w' = W.alloc (.cells #[.func (.func 128) #[.slice A n c] #[], .func (.func 129) #[.slice A n c] #[], .func (.func 130) #[.slice A n c] #[], .func (.func 131) #[.slice A n c] #[]] 175)) :=
  nth_walk 2 W.heap.size _ _ (by decide) (new_cellG W _ _ 2)
 obtain ⟨W1, hW1⟩ : ∃ W1, W1 = W.alloc (.cells #[.func (.func 128) #[.slice A n c] #[], .func (.func 129) #[.slice A n c] #[], .func (.func 130) #[.slice A n c] #[], .func (.func 131) #[.slice A n c] #[]] 175) := ⟨_, rfl⟩
 rw [← hW1] at KN hB1
 have KF : Hid (Calls Tryz.prog 130 #[.slice A n c] W1 (AsC 2 l W1)) := by
  have h := first_as l (.slice A n c) W1 (by have := HR.out.on hB1; exact this) (by omega)
  exact h
 have HB1 := Lib.hid hB1
 clear hB1 hn0 hA hi
 cases hq : asX 2 l with
 | none =>
   exact absurd hq (by simp [asX])
 | some x =>
   have ha : asV 2 l = some (2 :: (putV n ++ allV x)) := by unfold asV; rw [if_neg (by omega), hq, ← hn]; rfl
   have HA := Lib.hid ha
   have HQ := Lib.hid hq
   have hxi : ∀ y ∈ x, In64 y := asX_in HI.out hq
   have hxl := asX_len hq
   have HX := Lib.hid (And.intro hxi hxl)
   clear ha hn hq hxi hxl
   go_enter Tryz.func116, Tryz.ntmps116
   go_wp2_with fail
   rw [← hW1]
   refine KN.out.mono ?_
   rintro e w1 ⟨rfl, rfl⟩
   clear hW1 KN
   go_wp2_with fail
   refine KF.out.mono ?_
   rintro e w2 ⟨A2, n2, c2, rfl, hB2, hx2⟩
   have hx3 := hx2 x HQ.out
   rw [HQ.out]
   have HB2 : Hid (Below W.heap.size W w2) := HB1.out.trans (hB2.mono HB1.out.size)
   have HX3 := Lib.hid hx3
   have hB3 : Below w2.heap.size w2 (w2.alloc (.cells #[.int .u8 2] 5)) := (Below.refl _ _).alloc (Nat.le_refl _) _
   have KP : Hid (Calls Tryz.prog 35 #[.slice (some ⟨w2.heap.size, 0, none⟩) 1 1, .int .u64 (n : Int)] (w2.alloc (.cells #[.int .u8 2] 5)) fun e w' => ∃ A3 n3 c3, e = .returned (.slice A3 n3 c3) ∧ OwnG EB 5 w' (w2.heap.size + 1) (.slice A3 n3 c3) ([2] ++ putV n) ∧ Below (w2.heap.size + 1) (w2.alloc (.cells #[.int .u8 2] 5)) w') :=
    (vPut_walk _ [2] n _ (RdG.oneB 2 w2) (by omega) (by simp)).mono fun e w' ⟨v9, h1, h2, h3⟩ => by
      obtain ⟨A3, c3, e3, _⟩ := id h2.rd
      rw [World.size_alloc] at h2 h3
      exact ⟨A3, _, c3, by rw [h1, e3], by rw [← e3]; exact h2, h3⟩
   have HB3 := Lib.hid hB3
   clear hB2 KF hx2 hx3 hB3
   go_wp2_with fail
   refine KP.out.mono ?_
   rintro e w4 ⟨A3, n3, c3, rfl, hO4, hB4⟩
   have HB4 : Hid (Below w2.heap.size w2 w4) := HB3.out.trans (hB4.mono (by omega))
   have hpl := put_len 9 n (by omega)
   have KA := Lib.hid (vAll_walk (.slice A3 n3 c3) ([2] ++ putV n) (.slice A2 n2 c2) x w4 hO4.rd (HX3.out.on HB4.out) HX.out.1 (by simp; omega) (by have := HX.out.2; have := HN.out; omega))
   clear hO4 hB4 KP hpl
   go_wp2_with fail
   refine KA.out.mono ?_
   rintro e w5 ⟨v5, rfl, hO5, hB5⟩
   have HBF : Hid (Below W.heap.size W w5) := (HB2.out.trans (HB4.out.mono HB2.out.size)).trans (hB5.mono (Nat.le_trans HB2.out.size HB4.out.size))
   have HOF : Hid (OwnG EB 5 w5 W.heap.size v5 (2 :: (putV n ++ allV x))) := by
    have h := hO5.lower (base' := W.heap.size) (Nat.le_trans HB2.out.size HB4.out.size)
    have e : ([2] ++ putV n) ++ allV x = 2 :: (putV n ++ allV x) := by simp
    rw [e] at h; exact h
   clear hO5 hB5 KA
   go_wp2_with fail
   refine bodyPost_ret (v := .tuple #[v5, .bool true]) ?_ rfl ⟨_, by rw [HA.out]; rfl, HBF.out, fun y hy => by
    rw [HA.out] at hy
    injection hy with hy
    subst hy
    exact HOF.out, fun h => by rw [HA.out] at h; cases h⟩
   unfold results
   rw [hr]
   go_simp
set_option maxRecDepth 100000 in
set_option maxHeartbeats 4000000 in
theorem as_walk3 (l : List Int) (v : Value) (W : World) (hR : RdG EI W W.heap.size v l) (hi : ∀ x ∈ l, In64 x) (hl : l.length ≤ 4096) :
  Calls Tryz.prog 116 #[.int .i64 3, v] W (AsB 3 l W) := by
 have hmf : ∀ (fn : Fn) (first cap : Array Value) (w : World), (Instr.makeFunc fn first cap).run Tryz.prog w = .ok (.func fn first cap) w := fun _ _ _ _ => rfl
 have qf : ∀ (w : World) (f : Fn) (a b : Array Value), (binOp .eql 175 (.func f a b) .nilFunc).run Tryz.prog w = .ok (.bool false) w := fun _ _ _ _ => by kernel_rfl
 have hr : Tryz.f116.results = #[.tmp 4, .tmp 5] := by kernel_rfl
 obtain ⟨n, hn⟩ : ∃ n, n = l.length := ⟨_, rfl⟩
 have HR := Lib.hid hR
 have HI := Lib.hid hi
 obtain ⟨A, c, rfl, hc, hn0, hA⟩ := hR
 rw [← hn] at HR hc hl ⊢
 have HN := Lib.hid hn
 have i1 : ¬ (n : Int) > 4096 := by omega
 have hB1 : Below W.heap.size W (W.alloc (.cells #[.func (.func 128) #[.slice A n c] #[], .func (.func 129) #[.slice A n c] #[], .func (.func 130) #[.slice A n c] #[], .func (.func 131) #[.slice A n c] #[]] 175)) := (Below.refl _ _).alloc (Nat.le_refl _) _
 have KN : Hid (Calls Tryz.prog 127 #[.int .i64 3, .slice (some ⟨W.heap.size, 0, none⟩) 4 4] (W.alloc (.cells #[.func (.func 128) #[.slice A n c] #[], .func (.func 129) #[.slice A n c] #[], .func (.func 130) #[.slice A n c] #[], .func (.func 131) #[.slice A n c] #[]] 175)) fun e w' => e = .returned (.func (.func 131) #[.slice A n c] #[]) ∧ w' = W.alloc (.cells #[.func (.func 128) #[.slice A n c] #[], .func (.func 129) #[.slice A n c] #[], .func (.func 130) #[.slice A n c] #[], .func (.func 131) #[.slice A n c] #[]] 175)) :=
  nth_walk 3 W.heap.size _ _ (by decide) (new_cellG W _ _ 3)
 obtain ⟨W1, hW1⟩ : ∃ W1, W1 = W.alloc (.cells #[.func (.func 128) #[.slice A n c] #[], .func (.func 129) #[.slice A n c] #[], .func (.func 130) #[.slice A n c] #[], .func (.func 131) #[.slice A n c] #[]] 175) := ⟨_, rfl⟩
 rw [← hW1] at KN hB1
 have KF : Hid (Calls Tryz.prog 131 #[.slice A n c] W1 (AsC 3 l W1)) := by
  have h := second_walk l (.slice A n c) W1 (by have := HR.out.on hB1; exact this) (by omega)
  exact h
 have HB1 := Lib.hid hB1
 clear hB1 hn0 hA hi
 cases hq : asX 3 l with
 | none =>
   have ha : asV 3 l = none := by unfold asV; rw [if_neg (by omega), hq]; rfl
   have HA := Lib.hid ha
   have HQ := Lib.hid hq
   clear ha hn hq
   go_enter Tryz.func116, Tryz.ntmps116
   go_wp2_with fail
   rw [← hW1]
   refine KN.out.mono ?_
   rintro e w1 ⟨rfl, rfl⟩
   clear hW1 KN
   go_wp2_with fail
   refine KF.out.mono ?_
   rintro e w2 ⟨A2, n2, c2, rfl, hB2, _⟩
   rw [HQ.out]
   have HB2 : Hid (Below W.heap.size W w2) := HB1.out.trans (hB2.mono HB1.out.size)
   clear hB2 KF
   go_wp2_with fail
   refine bodyPost_ret (v := .tuple #[.slice none 0 0, .bool false]) ?_ rfl (show AsB 3 l W _ _ from ⟨.slice none 0 0, by rw [HA.out]; rfl, HB2.out, fun x hx => (by rw [HA.out] at hx; cases hx), fun _ => rfl⟩)
   unfold results
   rw [hr]
   go_simp
 | some x =>
   have ha : asV 3 l = some (3 :: (putV n ++ allV x)) := by unfold asV; rw [if_neg (by omega), hq, ← hn]; rfl
   have HA := Lib.hid ha
   have HQ := Lib.hid hq
   have hxi : ∀ y ∈ x, In64 y := asX_in HI.out hq
   have hxl := asX_len hq
   have HX := Lib.hid (And.intro hxi hxl)
   clear ha hn hq hxi hxl
   go_enter Tryz.func116, Tryz.ntmps116
   go_wp2_with fail
   rw [← hW1]
   refine KN.out.mono ?_
   rintro e w1 ⟨rfl, rfl⟩
   clear hW1 KN
   go_wp2_with fail
   refine KF.out.mono ?_
   rintro e w2 ⟨A2, n2, c2, rfl, hB2, hx2⟩
   have hx3 := hx2 x HQ.out
   rw [HQ.out]
   have HB2 : Hid (Below W.heap.size W w2) := HB1.out.trans (hB2.mono HB1.out.size)
   have HX3 := Lib.hid hx3
   have hB3 : Below w2.heap.size w2 (w2.alloc (.cells #[.int .u8 3] 5)) := (Below.refl _ _).alloc (Nat.le_refl _) _
   have KP : Hid (Calls Tryz.prog 35 #[.slice (some ⟨w2.heap.size, 0, none⟩) 1 1, .int .u64 (n : Int)] (w2.alloc (.cells #[.int .u8 3] 5)) fun e w' => ∃ A3 n3 c3, e = .returned (.slice A3 n3 c3) ∧ OwnG EB 5 w' (w2.heap.size + 1) (.slice A3 n3 c3) ([3] ++ putV n) ∧ Below (w2.heap.size + 1) (w2.alloc (.cells #[.int .u8 3] 5)) w') :=
    (vPut_walk _ [3] n _ (RdG.oneB 3 w2) (by omega) (by simp)).mono fun e w' ⟨v9, h1, h2, h3⟩ => by
      obtain ⟨A3, c3, e3, _⟩ := id h2.rd
      rw [World.size_alloc] at h2 h3
      exact ⟨A3, _, c3, by rw [h1, e3], by rw [← e3]; exact h2, h3⟩
   have HB3 := Lib.hid hB3
   clear hB2 KF hx2 hx3 hB3
   go_wp2_with fail
   refine KP.out.mono ?_
   rintro e w4 ⟨A3, n3, c3, rfl, hO4, hB4⟩
   have HB4 : Hid (Below w2.heap.size w2 w4) := HB3.out.trans (hB4.mono (by omega))
   have hpl := put_len 9 n (by omega)
   have KA := Lib.hid (vAll_walk (.slice A3 n3 c3) ([3] ++ putV n) (.slice A2 n2 c2) x w4 hO4.rd (HX3.out.on HB4.out) HX.out.1 (by simp; omega) (by have := HX.out.2; have := HN.out; omega))
   clear hO4 hB4 KP hpl
   go_wp2_with fail
   refine KA.out.mono ?_
   rintro e w5 ⟨v5, rfl, hO5, hB5⟩
   have HBF : Hid (Below W.heap.size W w5) := (HB2.out.trans (HB4.out.mono HB2.out.size)).trans (hB5.mono (Nat.le_trans HB2.out.size HB4.out.size))
   have HOF : Hid (OwnG EB 5 w5 W.heap.size v5 (3 :: (putV n ++ allV x))) := by
    have h := hO5.lower (base' := W.heap.size) (Nat.le_trans HB2.out.size HB4.out.size)
    have e : ([3] ++ putV n) ++ allV x = 3 :: (putV n ++ allV x) := by simp
    rw [e] at h; exact h
   clear hO5 hB5 KA
   go_wp2_with fail
   refine bodyPost_ret (v := .tuple #[v5, .bool true]) ?_ rfl ⟨_, by rw [HA.out]; rfl, HBF.out, fun y hy => by
    rw [HA.out] at hy
    injection hy with hy
    subst hy
    exact HOF.out, fun h => by rw [HA.out] at h; cases h⟩
   unfold results
   rw [hr]
   go_simp
end Go.Proofs.YtnkelahimiipjaaGreatDoor

/-
 codec: best, Encode.
-/
namespace Go.Proofs.YtnkelahimiipjaaGreatDoor
open Go.RowKit Go.Sort
theorem as_any (k : Nat) (hk : k < 4) (l : List Int) (v : Value) (W : World) (hR : RdG EI W W.heap.size v l) (hi : ∀ x ∈ l, In64 x) (hl : l.length ≤ 4096) :
  Calls Tryz.prog 116 #[.int .i64 (k : Int), v] W (AsB k l W) := by
 match k, hk with
 | 0, _ => exact as_walk0 l v W hR hi hl
 | 1, _ => exact as_walk1 l v W hR hi hl
 | 2, _ => exact as_walk2 l v W hR hi hl
 | 3, _ => exact as_walk3 l v W hR hi hl
def bestN (l : List Int) (j : Nat) : Nat × List Nat := ([3, 1, 0].take j).foldl (bestStep l) (2, (asV 2 l).getD [])
def kindN (j : Nat) : Nat := ([3, 1, 0] : List Nat).getD j 0
theorem kind_lt (j : Nat) : kindN j < 4 := by
 unfold kindN
 match j with
 | 0 => decide
 | 1 => decide
 | 2 => decide
 | n + 3 => simp
theorem bestN_succ (l : List Int) {j : Nat} (h : j < 3) : bestN l (j + 1) = bestStep l (bestN l j) (kindN j) := by
 unfold bestN kindN
 match j, h with
 | 0, _ => rfl
 | 1, _ => rfl
 | 2, _ => rfl
theorem step_none {l : List Int} {s : Nat × List Nat} {k : Nat} (h : asV k l = none) : bestStep l s k = s := by unfold bestStep; rw [h]
theorem step_yes {l : List Int} {s : Nat × List Nat} {k : Nat} {x : List Nat} (h : asV k l = some x) (hc : x.length < s.2.length ∨ x.length = s.2.length ∧ k < s.1) : bestStep l s k = (k, x) := by
 unfold bestStep; rw [h]; simp only; rw [if_pos hc]
theorem step_no {l : List Int} {s : Nat × List Nat} {k : Nat} {x : List Nat} (h : asV k l = some x) (hc : ¬ (x.length < s.2.length ∨ x.length = s.2.length ∧ k < s.1)) : bestStep l s k = s := by
 unfold bestStep; rw [h]; simp only; rw [if_neg hc]
/-- A row of bytes of one's own, its address in sight. -/
def OwB (w : World) (base : Nat) (A : Option Addr) (n c : Nat) (x : List Nat) : Prop := OwnG EB 5 w base (.slice A n c) x ∧ n = x.length
theorem OwnG.ob {w : World} {base : Nat} {v : Value} {x : List Nat} (h : OwnG EB 5 w base v x) : ∃ A n c, v = .slice A n c ∧ OwB w base A n c x := by
 obtain ⟨A, c, e, _⟩ := id h.rd
 exact ⟨A, _, c, e, by rw [← e]; exact h, rfl⟩
theorem new_int3 (w : World) (a b c : Int) (t : TypeId) (j : Nat) : (w.alloc (.cells #[.int .i64 a, .int .i64 b, .int .i64 c] t)).cell? ⟨w.heap.size, j, none⟩ = (#[.int .i64 a, .int .i64 b, .int .i64 c] : Array Value)[j]? := new_cellG w _ _ j
set_option maxRecDepth 100000 in
set_option maxHeartbeats 4000000 in
theorem best_walk (l : List Int) (v : Value) (W : World) (hR : RdG EI W W.heap.size v l) (hi : ∀ x ∈ l, In64 x) (hl : l.length ≤ 4096) :
  Calls Tryz.prog 96 #[v] W fun e w' => ∃ A n c, e = .returned (.tuple #[.int .i64 ((bestV l).1 : Int), .slice A n c]) ∧ OwB w' W.heap.size A n c (bestV l).2 ∧ Below W.heap.size W w' := by
 have hr : Tryz.f96.results = #[.tmp 2, .tmp 3] := by kernel_rfl
 have K2 : Hid (Calls Tryz.prog 116 #[.int .i64 2, v] W (AsB 2 l W)) := as_any 2 (by decide) l v W hR hi hl
 have KA : Hid (∀ w, Below W.heap.size W w → ∀ k : Nat, k < 4 → Calls Tryz.prog 116 #[.int .i64 (k : Int), v] w (AsB k l w)) := fun w hw k hk => as_any k hk l v w (hR.on hw) hi hl
 obtain ⟨x2, hx2⟩ : ∃ x, asV 2 l = some x := ⟨_, by unfold asV; rw [if_neg (by omega)]; rfl⟩
 have H2 := Lib.hid hx2
 obtain ⟨A, c, rfl, _⟩ := hR
 clear hi hl hx2
 go_enter Tryz.func96, Tryz.ntmps96
 go_wp2_with fail
 refine K2.out.mono ?_
 rintro e w1 ⟨b1, rfl, hB1, hO1, _⟩
 obtain ⟨A1, n1, c1, rfl, hO⟩ := (hO1 x2 H2.out).ob
 have HO := Lib.hid hO
 have HB := Lib.hid hB1
 rw [H2.out]
 clear hB1 hO1 hO K2
 go_wp2_with fail
 go_loopw [4, 5, 8, 9, 10, 18] (fun kv bv _ _ _ iv wl => ∃ (j k : Nat) (A1 : Option Addr) (n1 c1 : Nat), j ≤ 3 ∧ iv = .int .i64 (j : Int) ∧ kv = .int .i64 (k : Int) ∧ bv = .slice A1 n1 c1 ∧ Hid (k = (bestN l j).1) ∧ Hid (OwB wl W.heap.size A1 n1 c1 (bestN l j).2) ∧ Hid (Below W.heap.size W wl) ∧ Hid (∀ i, i < 3 → wl.cell? ⟨w1.heap.size, i, none⟩ = some (.int .i64 (kindN i : Int))) ∧ Hid (w1.heap.size < wl.heap.size))
  (fun _ _ _ _ _ iv _ => 3 - (intOf iv).toNat)
 case atStart =>
  refine ⟨0, 2, A1, n1, c1, by omega, rfl, rfl, rfl, rfl, ?_, ?_, ?_, ?_⟩
  ·show OwB _ _ _ _ _ _
   have e : (bestN l 0).2 = x2 := by unfold bestN; rw [H2.out]; rfl
   rw [e]
   exact ⟨HO.out.1.alloc _, HO.out.2⟩
  ·exact HB.out.alloc HB.out.size _
  ·intro i hi
   match i, hi with
   | 0, _ => exact new_int3 w1 3 1 0 _ 0
   | 1, _ => exact new_int3 w1 3 1 0 _ 1
   | 2, _ => exact new_int3 w1 3 1 0 _ 2
  ·show _ < _
   simp
 case round =>
  obtain ⟨j, k1, A1, n1, c1, hj, rfl, rfl, rfl, HK, HO, HB, HC, HS⟩ := hrel
  by_cases hlt : j < 3
  ·have i1 : (j : Int) < 3 := by omega
   obtain ⟨k, hk⟩ : ∃ k, k = kindN j := ⟨_, rfl⟩
   have hc := HC.out j hlt
   rw [← hk] at hc
   have KK : Hid (Calls Tryz.prog 116 #[.int .i64 (k : Int), .slice A l.length c] wr (AsB k l wr)) := KA.out wr HB.out k (by rw [hk]; exact kind_lt j)
   have HN : Hid (bestN l (j + 1) = bestStep l (bestN l j) k) := by show _ = _; rw [hk]; exact bestN_succ l hlt
   have HCC : Hid (∀ w, Below wr.heap.size wr w → (∀ i, i < 3 → w.cell? ⟨w1.heap.size, i, none⟩ = some (.int .i64 (kindN i : Int))) ∧ w1.heap.size < w.heap.size) := fun w hw => ⟨fun i hi => (hw.cell HS.out).trans (HC.out i hi), Nat.lt_of_lt_of_le HS.out hw.size⟩
   have hl1 := HO.out.2
   obtain ⟨s, hs⟩ : ∃ s, s = bestN l j := ⟨_, rfl⟩
   rw [← hs] at HK HO HN hl1
   clear hk hs HC HS
   cases hq : asV k l with
   | none =>
     have HE := Lib.hid (step_none (s := s) hq)
     have HQ := Lib.hid hq
     clear hq hl1
     go_wp2_with fail
     refine KK.out.mono ?_
     rintro e w2 ⟨b2, rfl, hB2, _, h0⟩
     have e0 := h0 HQ.out
     subst e0
     rw [HQ.out]
     have HB2 := Lib.hid hB2
     clear hB2 h0 KK
     go_wp2_with fail
     go_roundw
     case rel => exact ⟨j + 1, k1, A1, n1, c1, by omega, by go_num, rfl, rfl, by show _ = _; rw [HN.out, HE.out]; exact HK.out, by show OwB _ _ _ _ _ _; rw [HN.out, HE.out]; exact ⟨HO.out.1.below HB2.out, HO.out.2⟩, HB.out.trans (HB2.out.mono HB.out.size), (HCC.out _ HB2.out).1, (HCC.out _ HB2.out).2⟩
     case measure => simp [intOf]; omega
   | some x =>
     have hkk := HK.out
     by_cases h1 : x.length < n1
     ·have HE := Lib.hid (step_yes (s := s) hq (.inl (by rw [← hl1]; exact h1)))
      have HQ := Lib.hid hq
      clear hq hkk
      go_wp2_with fail
      refine KK.out.mono ?_
      rintro e w2 ⟨b2, rfl, hB2, hx2, _⟩
      obtain ⟨A2, n2, c2, rfl, hO2⟩ := (hx2 x HQ.out).ob
      rw [HQ.out]
      have hB3 := HB.out.trans (hB2.mono HB.out.size)
      have HO3 : Hid (OwB w2 W.heap.size A2 n2 c2 x) := ⟨hO2.1.lower HB.out.size, hO2.2⟩
      have HB2 := Lib.hid hB2
      have HB3 := Lib.hid hB3
      have g1 : (n2 : Int) < (n1 : Int) := by have := hO2.2; omega
      clear hB2 hB3 hO2 hx2 KK h1 hl1
      go_wp2_with fail
      go_roundw
      case rel => exact ⟨j + 1, k, A2, n2, c2, by omega, by go_num, rfl, rfl, by show _ = _; rw [HN.out, HE.out], by show OwB _ _ _ _ _ _; rw [HN.out, HE.out]; exact HO3.out, HB3.out, (HCC.out _ HB2.out).1, (HCC.out _ HB2.out).2⟩
      case measure => simp [intOf]; omega
     ·by_cases h2 : x.length = n1
      ·by_cases h3 : k < k1
       ·have HE := Lib.hid (step_yes (s := s) hq (.inr ⟨by rw [← hl1]; exact h2, by rw [← hkk]; exact h3⟩))
        have HQ := Lib.hid hq
        clear hq hkk
        go_wp2_with fail
        refine KK.out.mono ?_
        rintro e w2 ⟨b2, rfl, hB2, hx2, _⟩
        obtain ⟨A2, n2, c2, rfl, hO2⟩ := (hx2 x HQ.out).ob
        rw [HQ.out]
        have hB3 := HB.out.trans (hB2.mono HB.out.size)
        have HO3 : Hid (OwB w2 W.heap.size A2 n2 c2 x) := ⟨hO2.1.lower HB.out.size, hO2.2⟩
        have HB2 := Lib.hid hB2
        have HB3 := Lib.hid hB3
        have g1 : ¬ (n2 : Int) < (n1 : Int) := by have := hO2.2; omega
        have g2 : ((n2 : Int) == (n1 : Int)) = true := by have := hO2.2; simp; omega
        have g3 : (k : Int) < (k1 : Int) := by omega
        clear hB2 hB3 hO2 hx2 KK h1 hl1 h2 h3
        go_wp2_with fail
        go_roundw
        case rel => exact ⟨j + 1, k, A2, n2, c2, by omega, by go_num, rfl, rfl, by show _ = _; rw [HN.out, HE.out], by show OwB _ _ _ _ _ _; rw [HN.out, HE.out]; exact HO3.out, HB3.out, (HCC.out _ HB2.out).1, (HCC.out _ HB2.out).2⟩
        case measure => simp [intOf]; omega
       ·have HE := Lib.hid (step_no (s := s) hq (by rintro (h | ⟨_, h⟩); exact h1 (by rw [hl1]; exact h); exact h3 (by rw [hkk]; exact h)))
        have HQ := Lib.hid hq
        clear hq hkk
        go_wp2_with fail
        refine KK.out.mono ?_
        rintro e w2 ⟨b2, rfl, hB2, hx2, _⟩
        obtain ⟨A2, n2, c2, rfl, hO2⟩ := (hx2 x HQ.out).ob
        rw [HQ.out]
        have hB3 := HB.out.trans (hB2.mono HB.out.size)
        have HO3 : Hid (OwB w2 W.heap.size A1 n1 c1 s.2) := ⟨HO.out.1.below hB2, HO.out.2⟩
        have HB2 := Lib.hid hB2
        have HB3 := Lib.hid hB3
        have g1 : ¬ (n2 : Int) < (n1 : Int) := by have := hO2.2; omega
        have g2 : ((n2 : Int) == (n1 : Int)) = true := by have := hO2.2; simp; omega
        have g3 : ¬ (k : Int) < (k1 : Int) := by omega
        clear hB2 hB3 hO2 hx2 KK h1 hl1 h2 h3
        go_wp2_with fail
        go_roundw
        case rel => exact ⟨j + 1, k1, A1, n1, c1, by omega, by go_num, rfl, rfl, by show _ = _; rw [HN.out, HE.out]; exact HK.out, by show OwB _ _ _ _ _ _; rw [HN.out, HE.out]; exact HO3.out, HB3.out, (HCC.out _ HB2.out).1, (HCC.out _ HB2.out).2⟩
        case measure => simp [intOf]; omega
      ·have HE := Lib.hid (step_no (s := s) hq (by rintro (h | ⟨h, _⟩); exact h1 (by rw [hl1]; exact h); exact h2 (by rw [hl1]; exact h)))
       have HQ := Lib.hid hq
       clear hq hkk
       go_wp2_with fail
       refine KK.out.mono ?_
       rintro e w2 ⟨b2, rfl, hB2, hx2, _⟩
       obtain ⟨A2, n2, c2, rfl, hO2⟩ := (hx2 x HQ.out).ob
       rw [HQ.out]
       have hB3 := HB.out.trans (hB2.mono HB.out.size)
       have HO3 : Hid (OwB w2 W.heap.size A1 n1 c1 s.2) := ⟨HO.out.1.below hB2, HO.out.2⟩
       have HB2 := Lib.hid hB2
       have HB3 := Lib.hid hB3
       have g1 : ¬ (n2 : Int) < (n1 : Int) := by have := hO2.2; omega
       have g2 : ((n2 : Int) == (n1 : Int)) = false := by have := hO2.2; simp; omega
       clear hB2 hB3 hO2 hx2 KK h1 hl1 h2
       go_wp2_with fail
       go_roundw
       case rel => exact ⟨j + 1, k1, A1, n1, c1, by omega, by go_num, rfl, rfl, by show _ = _; rw [HN.out, HE.out]; exact HK.out, by show OwB _ _ _ _ _ _; rw [HN.out, HE.out]; exact HO3.out, HB3.out, (HCC.out _ HB2.out).1, (HCC.out _ HB2.out).2⟩
       case measure => simp [intOf]; omega
  ·have hj3 : j = 3 := by omega
   have e : bestN l j = bestV l := by rw [hj3]; rfl
   rw [e] at HO HK
   have i1 : ¬ (j : Int) < 3 := by omega
   clear hj hlt hj3 e HC HS
   go_wp2_with fail
   refine bodyPost_ret (v := .tuple #[.int .i64 (k1 : Int), .slice A1 n1 c1]) ?_ rfl ⟨A1, n1, c1, by rw [HK.out], HO.out, HB.out⟩
   unfold results
   rw [hr]
   go_simp
set_option maxRecDepth 100000 in
set_option maxHeartbeats 2000000 in
theorem encode_walk (l : List Int) (v : Value) (W : World) (hR : RdG EI W W.heap.size v l) (hi : ∀ x ∈ l, In64 x) (hl : l.length ≤ 4096) :
  Calls Tryz.prog 63 #[v] W fun e w' => ∃ A n c, e = .returned (.slice A n c) ∧ OwB w' W.heap.size A n c (encV l) ∧ Below W.heap.size W w' := by
 have KB := Lib.hid (best_walk l v W hR hi hl)
 obtain ⟨A, c, rfl, _⟩ := hR
 clear hi hl
 go_enter Tryz.func63, Tryz.ntmps63
 go_wp2_with fail
 refine KB.out.mono ?_
 rintro e w1 ⟨A1, n1, c1, rfl, hO, hB⟩
 have HO := Lib.hid hO
 have HB := Lib.hid hB
 clear hO hB KB
 go_wp2_with fail
 go_ret
 exact ⟨A1, n1, c1, rfl, HO.out, HB.out⟩
end Go.Proofs.YtnkelahimiipjaaGreatDoor

/-
 decimal: fits.
-/
namespace Go.Proofs.YtnkelahimiipjaaGreatDoor
open Go.RowKit Go.Sort
/-- The table of powers of ten lies in memory. -/
def TabT (w : World) : Prop := ∀ i, i < 19 → w.cell? ⟨0, i, none⟩ = some (.int .i64 ((10 ^ i : Nat) : Int))
theorem TabT.below {w w' : World} (h : TabT w) (k : Below w.heap.size w w') : TabT w' := fun i hi => by
 have hc := h i hi
 exact (k.cell (lt_of_cell hc)).trans hc
theorem tens_bd {d : Nat} (h : d ≤ 18) : 1 ≤ 10 ^ d ∧ 10 ^ d ≤ 1000000000000000000 ∧ 1000000000000000000 / 10 ^ d * 10 ^ d = 1000000000000000000 := by
 have h : ∀ d, d ≤ 18 → 1 ≤ 10 ^ d ∧ 10 ^ d ≤ 1000000000000000000 ∧ 1000000000000000000 / 10 ^ d * 10 ^ d = 1000000000000000000 := by decide
 exact h d ‹_›
set_option maxRecDepth 100000 in
set_option maxHeartbeats 4000000 in
theorem fits_walk (m x s e : Int) (W : World) (hT : TabT W) (hm : -1000000000000000000 ≤ m ∧ m ≤ 1000000000000000000) (hx : -1000000 ≤ x ∧ x ≤ 1000000) (he : -1000000 ≤ e ∧ e ≤ 1000000) :
  Calls Tryz.prog 95 #[.agg #[.int .i64 m, .int .i64 x, .int .i64 s], .int .i64 e] W fun r w' => r = .returned (.bool (fitB e (m, x, s))) ∧ Ext W w' := by
 obtain ⟨W1, hW1⟩ : ∃ W1, W1 = W.alloc (.cells #[.int .i64 m, .int .i64 x, .int .i64 s] 64) := ⟨_, rfl⟩
 have hE : Ext W W1 := by rw [hW1]; exact (Ext.refl W).alloc _
 have c0 : W1.cell? ⟨W.heap.size, 0, none⟩ = some (.int .i64 m) := by rw [hW1]; exact new_cellG W _ _ 0
 have c1 : W1.cell? ⟨W.heap.size, 1, none⟩ = some (.int .i64 x) := by rw [hW1]; exact new_cellG W _ _ 1
 have HT := Lib.hid (hT.below hE.below)
 have HE := Lib.hid hE
 clear hE hT
 by_cases h1 : e ≤ x
 ·obtain ⟨d, hxe⟩ : ∃ d : Nat, x - e = (d : Int) := ⟨(x - e).toNat, by omega⟩
  by_cases h2 : d ≤ 18
  ·obtain ⟨td, htd⟩ : ∃ t, t = 10 ^ d := ⟨_, rfl⟩
   obtain ⟨q1, q2, q3⟩ := tens_bd h2
   rw [← htd] at q1 q2 q3
   have ct : W1.cell? ⟨0, d, none⟩ = some (.int .i64 (td : Int)) := by rw [HT.out d (by omega), htd]
   have ct18 : W1.cell? ⟨0, 18, none⟩ = some (.int .i64 1000000000000000000) := HT.out 18 (by omega)
   obtain ⟨qq, hqq⟩ : ∃ q, q = 1000000000000000000 / td := ⟨_, rfl⟩
   rw [← hqq] at q3
   have f1 : (1000000000000000000 : Int).tdiv (td : Int) = (qq : Int) := by
    rw [Int.tdiv_eq_ediv_of_nonneg (by omega), hqq, Int.natCast_ediv]; rfl
   have f2 : (1000000000000000000 : Int).tmod (td : Int) = 0 := by
    rw [Int.tmod_eq_emod_of_nonneg (by omega)]
    have e2 : (1000000000000000000 : Int) = ((qq * td : Nat) : Int) := by omega
    rw [e2, Int.natCast_mul, Int.mul_emod_left]
   have f3 : (1000000000000000000 : Int) / (td : Int) = (qq : Int) := by rw [hqq, Int.natCast_ediv]; rfl
   have f4 : (1000000000000000000 : Int) % (td : Int) = 0 := by rw [← Int.tmod_eq_emod_of_nonneg (by omega)]; exact f2
   have hS := size_walk m hm
   obtain ⟨a, ha⟩ : ∃ a, a = m.natAbs := ⟨_, rfl⟩
   have hfit : fitB e (m, x, s) = decide (a < qq) := by
    unfold fitB
    simp only
    rw [show (x - e).toNat = d by omega, ← ha, ← htd]
    have h9 := fits_tens (m := a) h2
    rw [← htd, f3] at h9
    rw [show decide (e ≤ x ∧ x - e ≤ 18) = true by simp; omega, Bool.true_and]
    exact decide_eq_decide.2 (by rw [← h9]; omega)
   have KS : Hid (∀ n, Calls Tryz.prog 115 #[.int .i64 m] (W1.drewN n) fun r w' => r = .returned (.int .i64 (a : Int)) ∧ W1.drewN n = w') := fun n => (hS (W1.drewN n)).mono fun r w' ⟨h1, h2⟩ => ⟨by rw [h1, ha], h2.symm⟩
   rw [hfit]
   have i1 : (d : Int) ≥ 0 := by omega
   have i2 : (d : Int) ≤ 18 := by omega
   have i3 : (d : Int) < 19 := by omega
   have i4 : ((td : Int) == 0) = false := by simp; omega
   have hqb : qq ≤ 1000000000000000000 := by rw [hqq]; exact Nat.div_le_self _ _
   have i5 : IntKind.i64.wrap ((qq : Int) + 0) = (qq : Int) := by rw [Int.add_zero]; exact IntWalk.i64_in _ (by omega)
   have i6 : IntKind.i64.wrap (qq : Int) = (qq : Int) := IntWalk.i64_in _ (by omega)
   clear hfit hqq htd q3 ha hS hm
   go_enter Tryz.func95, Tryz.ntmps95
   go_wp2_with fail
   rw [← hW1]
   clear hW1
   go_wp2_with fail
   go_quiet ((go_at_call 115; exact quiet_left (KS.out _)))
   go_wp2_with fail
   go_ret
   exact ⟨rfl, HE.out.drewN _⟩
  ·have hfit : fitB e (m, x, s) = false := by
    unfold fitB
    simp only
    rw [show decide (e ≤ x ∧ x - e ≤ 18) = false by simp; omega, Bool.false_and]
   rw [hfit]
   have i1 : (d : Int) ≥ 0 := by omega
   have i2 : decide ((d : Int) ≤ 18) = false := by simp; omega
   clear hfit
   go_enter Tryz.func95, Tryz.ntmps95
   go_wp2_with fail
   rw [← hW1]
   clear hW1
   go_wp2_with fail
   go_quiet (fail)
   go_wp2_with fail
   go_ret
   exact ⟨rfl, HE.out.drewN _⟩
 ·have hfit : fitB e (m, x, s) = false := by
   unfold fitB
   simp only
   rw [show decide (e ≤ x ∧ x - e ≤ 18) = false by simp; omega, Bool.false_and]
  rw [hfit]
  have i1 : decide ((0 : Int) ≤ x - e) = false := by simp; omega
  have i2 : decide (e ≤ x) = false := by simp; omega
  clear hfit
  go_enter Tryz.func95, Tryz.ntmps95
  go_wp2_with fail
  rw [← hW1]
  clear hW1
  go_wp2_with fail
  go_quiet (fail)
  go_wp2_with fail
  go_ret
  exact ⟨rfl, HE.out.drewN _⟩
end Go.Proofs.YtnkelahimiipjaaGreatDoor

/-
 slices.Equal of bytes.
-/
namespace Go.Proofs.YtnkelahimiipjaaGreatDoor
open Go.RowKit Go.Sort
theorem take_eq_step {α : Type} {a b : List α} {k : Nat} (ha : k < a.length) (hb : k < b.length) (h : a.take k = b.take k) : (a.take (k + 1) = b.take (k + 1)) ↔ a[k] = b[k] := by
 rw [List.take_succ_eq_append_getElem ha, List.take_succ_eq_append_getElem hb, h]
 exact ⟨fun e => List.cons.inj (List.append_cancel_left e) |>.1, fun e => by rw [e]⟩
set_option maxRecDepth 100000 in
set_option maxHeartbeats 2000000 in
theorem bequal_walk (va vb : Value) (a b : List Nat) (W : World) (hRa : RdG EB W W.heap.size va a) (hRb : RdG EB W W.heap.size vb b) (hl : a.length ≤ 1000000000) :
  Calls Tryz.prog 74 #[va, vb] W fun e w' => e = .returned (.bool (decide (a = b))) ∧ Ext W w' := by
 obtain ⟨A, ca, rfl, hca, _, hA⟩ := hRa
 obtain ⟨B, cb, rfl, hcb, _, hB⟩ := hRb
 have HA := Lib.hid hA
 have HB := Lib.hid hB
 obtain ⟨q, hq⟩ : ∃ q, q = decide (a = b) := ⟨_, rfl⟩
 have HQ : Hid (q = decide (a = b)) := hq
 rw [← hq]
 obtain ⟨n, hn⟩ : ∃ n, n = a.length := ⟨_, rfl⟩
 obtain ⟨m, hm⟩ : ∃ m, m = b.length := ⟨_, rfl⟩
 rw [← hn] at hl ⊢
 rw [← hm]
 have HN : Hid (n = a.length) := hn
 have HM : Hid (m = b.length) := hm
 clear hq hA hB hca hcb hn hm
 by_cases hnm : n = m
 ·subst hnm
  have g0 : (((n : Int)) != (n : Int)) = false := by simp
  go_enter Tryz.func74, Tryz.ntmps74
  go_wp2_with fail
  go_loopw [5, 13] (fun _ i wl => ∃ k : Nat, k ≤ n ∧ i = .int .i64 k ∧ Hid (a.take k = b.take k) ∧ Hid (Ext W wl))
   (fun _ i _ => n - (intOf i).toNat)
  case atStart => exact ⟨0, Nat.zero_le _, rfl, rfl, Ext.refl _⟩
  case round =>
   obtain ⟨k, hk, rfl, HT, HE⟩ := hrel
   by_cases hlt : k < n
   ·have hla2 : k < a.length := by rw [← HN.out]; exact hlt
    have hlb2 : k < b.length := by rw [← HM.out]; exact hlt
    rcases HA.out with h0 | ⟨b1, o1, e, hb1, hcl1⟩
    ·subst h0; simp at hla2
    rcases HB.out with h0 | ⟨b2, o2, e', hb2, hcl2⟩
    ·subst h0; simp at hlb2
    subst e e'
    obtain ⟨x, hx⟩ : ∃ x, x = a[k] := ⟨_, rfl⟩
    obtain ⟨y, hy⟩ : ∃ y, y = b[k] := ⟨_, rfl⟩
    have c0 : wr.cell? ⟨b1, o1 + k, none⟩ = some (.int .u8 (x : Int)) := by
     have := cellB.1 (hcl1 k hla2)
     rw [← hx] at this
     rw [HE.out.cell hb1]; simpa [EB] using this
    have c1 : wr.cell? ⟨b2, o2 + k, none⟩ = some (.int .u8 (y : Int)) := by
     have := cellB.1 (hcl2 k hlb2)
     rw [← hy] at this
     rw [HE.out.cell hb2]; simpa [EB] using this
    have HF : Hid ((a.take (k + 1) = b.take (k + 1)) ↔ x = y) := by rw [hx, hy]; exact take_eq_step hla2 hlb2 HT.out
    have i1 : (k : Int) < (n : Int) := by omega
    have i0 : (0 : Int) ≤ (k : Int) := by omega
    clear hla2 hlb2 hcl1 hcl2 hx hy
    by_cases hxy : x = y
    ·have g : ((x : Int) != (y : Int)) = false := by simp [hxy]
     have HXY := Lib.hid hxy
     clear hxy
     go_wp2_with fail
     go_quiet (fail)
     go_wp2_with fail
     go_roundw
     case rel => exact ⟨k + 1, by omega, by go_num, HF.out.2 HXY.out, HE.out.drewN _⟩
     case measure => simp [intOf]; omega
    ·have g : ((x : Int) != (y : Int)) = true := by simp; omega
     have hq2 : q = false := by
      rw [HQ.out, decide_eq_false_iff_not]
      intro e
      exact hxy (HF.out.1 (by rw [e]))
     subst hq2
     clear hxy
     go_wp2_with fail
     go_quiet (fail)
     go_wp2_with fail
     go_ret
     exact ⟨rfl, HE.out.drewN _⟩
   ·have hkn : k = n := by omega
    have i1 : ¬ (k : Int) < (n : Int) := by omega
    have hq2 : q = true := by
     have h := HT.out
     rw [hkn] at h
     rw [HQ.out, decide_eq_true_eq]
     have e1 : a.take n = a := by rw [HN.out, List.take_length]
     have e2 : b.take n = b := by rw [HM.out, List.take_length]
     rw [e1, e2] at h; exact h
    subst hq2
    clear hk hlt hkn
    go_wp2_with fail
    go_ret
    exact ⟨rfl, HE.out⟩
 ·have g0 : (((n : Int)) != (m : Int)) = true := by simp; omega
  have hq2 : q = false := by
   rw [HQ.out, decide_eq_false_iff_not]
   intro e
   apply hnm
   rw [HN.out, HM.out, e]
  subst hq2
  clear hnm
  go_enter Tryz.func74, Tryz.ntmps74
  go_wp2_with fail
  go_ret
  exact ⟨rfl, Ext.refl _⟩
end Go.Proofs.YtnkelahimiipjaaGreatDoor

/-
 bytes.Equal; bytes as a string.
-/
namespace Go.Proofs.YtnkelahimiipjaaGreatDoor
open Go.RowKit Go.Sort
def strB (l : List Nat) : ByteArray := strOfNums (List.map (fun n : Nat => (n : Int)) l)
theorem strB_inj {a b : List Nat} (ha : ∀ c ∈ a, c < 256) (hb : ∀ c ∈ b, c < 256) : strB a = strB b ↔ a = b := by
 constructor
 ·intro h
  have h1 := congrArg (fun s : ByteArray => s.data.toList) h
  simp only [strB, strOfNums_data] at h1
  rw [List.map_map, List.map_map] at h1
  have key : ∀ (a b : List Nat), (∀ c ∈ a, c < 256) → (∀ c ∈ b, c < 256) → a.map ((fun n : Int => UInt8.ofNat n.toNat) ∘ fun n : Nat => (n : Int)) = b.map ((fun n : Int => UInt8.ofNat n.toNat) ∘ fun n : Nat => (n : Int)) → a = b := by
   intro a
   induction a with
   | nil => intro b _ _ h; cases b with
     | nil => rfl
     | cons y b => simp at h
   | cons x a ih =>
     intro b ha hb h
     cases b with
     | nil => simp at h
     | cons y b =>
       rw [List.map_cons, List.map_cons] at h
       injection h with h1 h2
       have h3 := congrArg UInt8.toNat h1
       simp only [Function.comp, Int.toNat_natCast, UInt8.toNat_ofNat'] at h3
       have hx := ha x List.mem_cons_self
       have hy := hb y List.mem_cons_self
       have e : x = y := by omega
       rw [e, ih b (fun c hc => ha c (List.mem_cons_of_mem _ hc)) (fun c hc => hb c (List.mem_cons_of_mem _ hc)) h2]
  exact key a b ha hb h1
 ·rintro rfl; rfl
theorem run_strB {w : World} {B : Nat} {v : Value} {l : List Nat} (h : RdG EB w B v l) : (convert 23 9 v).run Tryz.prog w = .ok (.string (strB l)) w := by
 obtain ⟨A, c, rfl, hc, hn, hA⟩ := h
 by_cases h0 : l = []
 ·subst h0
  rw [show ([] : List Nat).length = 0 from rfl]
  rw [run_convert_bytes_string w 23 9 5 _ 0 c Tryz.underlying23 Tryz.underlying5 Tryz.underlying9]
  cases A <;> simp [Conv.bytesToString, loadCells, loadCellsFrom] <;> rfl
 ·rcases hA with h1 | ⟨b, o, rfl, hb, hcl⟩
  ·exact absurd h1 h0
  ·refine run_convert_bytes_arg w 23 5 Tryz.underlying23 Tryz.underlying5 b o l.length c _ (by simp) (fun i hi => ?_) 9 Tryz.underlying9
   have := cellB.1 (hcl i hi)
   rw [List.getD_eq_getElem?_getD, List.getElem?_map, List.getElem?_eq_getElem hi]
   simpa [EB] using this
set_option maxRecDepth 100000 in
set_option maxHeartbeats 1000000 in
theorem byequal_walk (va vb : Value) (a b : List Nat) (W : World) (hRa : RdG EB W W.heap.size va a) (hRb : RdG EB W W.heap.size vb b) (ha : ∀ c ∈ a, c < 256) (hb : ∀ c ∈ b, c < 256) :
  Calls Tryz.prog 44 #[va, vb] W fun e w' => e = .returned (.bool (decide (a = b))) ∧ w' = W := by
 have h1 := run_strB hRa
 have h2 := run_strB hRb
 have hi := strB_inj ha hb
 obtain ⟨A, ca, rfl, _⟩ := hRa
 obtain ⟨B, cb, rfl, _⟩ := hRb
 obtain ⟨s, hs⟩ : ∃ s, s = strB a := ⟨_, rfl⟩
 obtain ⟨t, ht⟩ : ∃ s, s = strB b := ⟨_, rfl⟩
 rw [← hs] at h1 hi
 rw [← ht] at h2 hi
 have HI := Lib.hid hi
 clear hi ha hb hs ht
 go_enter Tryz.func44, Tryz.ntmps44
 go_wp2_with fail
 go_ret
 refine ⟨ret_bool ?_, rfl⟩
 rw [Lib.toList_data, Lib.toList_data]
 by_cases e : a = b
 ·have h := HI.out.2 e
  subst h
  simp [e]
 ·have h : (s.data.toList == t.data.toList) = false := by
   rw [beq_eq_false_iff_ne]
   exact fun h => e (HI.out.1 (by cases s; cases t; simpa using h))
  rw [h]; simp [e]
end Go.Proofs.YtnkelahimiipjaaGreatDoor

/-
 slices.Grow of bytes, from nothing; slices.Concat of rows of bytes.
-/
namespace Go.Proofs.YtnkelahimiipjaaGreatDoor
open Go.RowKit Go.Sort
set_option maxRecDepth 100000 in
set_option maxHeartbeats 2000000 in
theorem bgrow_walk (n : Nat) (W : World) (hn : 0 < n) (hl : n ≤ 140737488355328) :
  Calls Tryz.prog 68 #[.slice none 0 0, .int .i64 (n : Int)] W fun e w' => ∃ v', e = .returned v' ∧ OwnG EB 5 w' W.heap.size v' [] ∧ Below W.heap.size W w' := by
 obtain ⟨i, hi, hz1, hsz, hby⟩ := of_infoG info_b
 have hck : 0 + n = n := by omega
 have hold : (Builtin.firstCells i.size 0 (.slice none 0 0)).run Tryz.prog W.drew = .ok (#[] : Array Value) W.drew := run_firstCells_none W.drew i.size 0 0 0
 have hrz : ∀ ty, (Builtin.append_ #[23, 3] ty #[.slice none 0 0, .int .i64 (n : Int)]).run Tryz.prog W =
   .ok (.slice (some ⟨W.heap.size, 0, none⟩) n (grownCap W n 0 5)) (W.drew.alloc (.cells ((#[] : Array Value) ++ Builtin.zeroCells (Value.int .u8 0).cells n ++ Builtin.zeroCells (Value.int .u8 0).cells (grownCap W n 0 5 - n)) 5)) := fun ty => by
  have h := Lib.run_append_grow_zeros W 23 3 ty 5 i (.int .u8 0) .i64 .i64 Tryz.underlying23 Tryz.underlying3 hi hz1 none 0 0 [] hold n hn (by omega) (by omega) (by omega) (by rw [hby]; omega) (by rw [hck, hby]; exact growslice_fits hn (by omega))
  rw [hck] at h
  exact h
 have hGn : n ≤ grownCap W n 0 5 := grownCap_ge W _ _ _
 have hG0 := grownCap_le_maxLen W n 0 5 (by unfold maxLen; omega)
 obtain ⟨G, hG⟩ : ∃ G, G = grownCap W n 0 5 := ⟨_, rfl⟩
 rw [← hG] at hrz hGn hG0
 obtain ⟨cs, hcs⟩ : ∃ cs, cs = (#[] : Array Value) ++ Builtin.zeroCells (Value.int .u8 0).cells n ++ Builtin.zeroCells (Value.int .u8 0).cells (G - n) := ⟨_, rfl⟩
 have hcz : cs.size = G * 1 := by rw [hcs]; simp [Builtin.zeroCells, Value.cells]; omega
 rw [← hcs] at hrz
 have hO : OwnG EB 5 (W.drew.alloc (.cells cs 5)) W.heap.size (.slice (some ⟨W.heap.size, 0, none⟩) 0 G) [] := World.ownsRow_made W.drew cs G (Nat.le_refl _) hG0 hcz
 have HO := Lib.hid hO
 have HE : Hid (Ext W (W.drew.alloc (.cells cs 5))) := ((Ext.refl W).drewN _).alloc _
 have h1 : ¬ ((n : Int) < 0) := by omega
 have h4 : (n : Int) > 0 := by omega
 have hG63 : G ≤ 9223372036854775807 := by unfold maxLen at hG0; omega
 clear hold hck hG hcs hcz hO hi hz1 hsz hby
 go_enter Tryz.func68, Tryz.ntmps68
 go_wp2_with (at_builtin; refine Lib.wpList_append_run _ rfl _ _ _ _ rfl _ _ rfl rfl _ _ (hrz _) ?_)
 go_ret
 exact ⟨_, rfl, HO.out, HE.out.below⟩
theorem flat_take_succ {ls : List (List Nat)} {k : Nat} (h : k < ls.length) : (ls.take (k + 1)).flatten = (ls.take k).flatten ++ ls[k] := by
 rw [List.take_succ_eq_append_getElem h, List.flatten_append, List.flatten_singleton]
theorem flat_take_le (ls : List (List Nat)) (k : Nat) : (ls.take k).flatten.length ≤ ls.flatten.length := by
 have : ls.flatten = (ls.take k).flatten ++ (ls.drop k).flatten := by rw [← List.flatten_append, List.take_append_drop]
 rw [this, List.length_append]; omega
set_option maxRecDepth 100000 in
set_option maxHeartbeats 4000000 in
theorem concat_walk (g o c n : Nat) (ls : List (List Nat)) (W : World) (hn : n = ls.length) (hn1 : n ≤ 1000000) (hcl : ∀ i (h : i < ls.length), ∃ v, W.cell? ⟨g, o + i, none⟩ = some v ∧ RdG EB W W.heap.size v ls[i]) (hg : g < W.heap.size) (h0 : 0 < ls.flatten.length) (hl : ls.flatten.length ≤ 1000000000) :
  Calls Tryz.prog 37 #[.slice (some ⟨g, o, none⟩) n c] W fun e w' => ∃ v', e = .returned v' ∧ OwnG EB 5 w' W.heap.size v' ls.flatten ∧ Below W.heap.size W w' := by
 have HN := Lib.hid hn
 have HC := Lib.hid hcl
 have H0 := Lib.hid h0
 have HL := Lib.hid hl
 have HG := Lib.hid hg
 clear hn hcl h0 hl hg
 go_enter Tryz.func37, Tryz.ntmps37
 go_wp2_with fail
 go_loopw [3, 5, 11] (fun s _ i wl => ∃ k : Nat, k ≤ n ∧ i = .int .i64 k ∧ (∃ m : Nat, s = .int .i64 m ∧ Hid (m = (ls.take k).flatten.length)) ∧ W = wl)
  (fun _ _ i _ => n - (intOf i).toNat)
 case atStart => exact ⟨0, Nat.zero_le _, rfl, ⟨0, rfl, rfl⟩, rfl⟩
 case round =>
  obtain ⟨k, hk, rfl, ⟨m, rfl, HM⟩, rfl⟩ := hrel
  by_cases hlt : k < n
  ·have hlt2 : k < ls.length := by rw [← HN.out]; exact hlt
   obtain ⟨v, c0, hv⟩ := HC.out k hlt2
   have HF := Lib.hid (flat_take_succ hlt2)
   have HT := Lib.hid (flat_take_le ls (k + 1))
   obtain ⟨r, hr⟩ : ∃ r, r = ls[k].length := ⟨_, rfl⟩
   obtain ⟨A, c2, rfl, _⟩ := hv
   rw [← hr] at c0
   have HR := Lib.hid hr
   have hm : m + r ≤ 1000000000 := by
    have h1 := HM.out; have h2 := HF.out; have h3 := HT.out; have h4 := HL.out
    rw [h2, List.length_append] at h3
    omega
   have i1 : (k : Int) < (n : Int) := by omega
   have s0 : IntKind.i64.wrap ((m : Int) + (r : Int)) = ((m + r : Nat) : Int) := by
    rw [show (m : Int) + (r : Int) = ((m + r : Nat) : Int) by omega]
    exact wr_same (by unfold In64; omega)
   have i2 : ¬ ((m + r : Nat) : Int) < 0 := by omega
   clear hr
   go_wp2_with fail
   go_roundw
   case rel => exact ⟨k + 1, by omega, by go_num, ⟨m + r, by go_num, by unfold Hid; rw [HF.out, List.length_append, ← HR.out, ← HM.out]⟩, trivial⟩
   case measure => simp [intOf]; omega
  ·have hkn : k = n := by omega
   have hmt : m = ls.flatten.length := by rw [HM.out, hkn, HN.out, List.take_length]
   have KG := Lib.hid (bgrow_walk m W (by rw [hmt]; exact H0.out) (by have := HL.out; omega))
   have i1 : ¬ (k : Int) < (n : Int) := by omega
   clear hmt HM
   go_wp2_with fail
   refine KG.out.mono ?_
   rintro e w1 ⟨v1, rfl, hO, hB⟩
   have HO := Lib.hid hO
   have HB := Lib.hid hB
   clear hO hB KG
   go_wp2_with fail
   go_loopw [6, 8, 27] (fun s _ i wl => ∃ k : Nat, k ≤ n ∧ i = .int .i64 k ∧ Hid (OwnG EB 5 wl W.heap.size s (ls.take k).flatten) ∧ Hid (Below W.heap.size W wl))
    (fun _ _ i _ => n - (intOf i).toNat)
   case atStart => exact ⟨0, Nat.zero_le _, rfl, HO, HB⟩
   case round =>
    obtain ⟨k, hk, rfl, HO, HB⟩ := hrel
    by_cases hlt : k < n
    ·have hlt2 : k < ls.length := by rw [← HN.out]; exact hlt
     obtain ⟨v, c0, hv⟩ := HC.out k hlt2
     have c1 := (HB.out.cell HG.out).trans c0
     have HV : Hid (RdG EB wr wr.heap.size v ls[k]) := hv.on HB.out
     have HF := Lib.hid (flat_take_succ hlt2)
     have HT : Hid ((ls.take k).flatten.length + ls[k].length ≤ 1000000000) := by
      have h1 := flat_take_le ls (k + 1); have h2 := HL.out
      rw [HF.out, List.length_append] at h1
      exact Nat.le_trans h1 h2
     have HZ := Lib.hid HB.out.size
     have i1 : (k : Int) < (n : Int) := by omega
     clear hv c0
     go_wp2_with (first | (at_builtin; refine appNG EB rfl _ _ 23 5 rfl Tryz.underlying23 info_b rfl (by decide) W.heap.size _ _ _ _ wr.heap.size rfl HO.out rfl HV.out ?c1 ?c2 ?_) | fail)
     case c1 => have := HT.out; omega
     case c2 => exact HZ.out
     intro v' w3 hown hg hloc hnn
     have HO2 : Hid (OwnG EB 5 w3 W.heap.size v' (ls.take (k + 1)).flatten) := by rw [HF.out]; exact hown
     have HB2 : Hid (Below W.heap.size W w3) := HO.out.step HB.out HB.out.size hg
     clear hown hg hloc hnn
     go_wp2_with fail
     go_roundw
     case rel => exact ⟨k + 1, by omega, by go_num, HO2, HB2⟩
     case measure => simp [intOf]; omega
    ·have hkn : k = n := by omega
     have HA : Hid ((ls.take k).flatten = ls.flatten) := by unfold Hid; rw [hkn, HN.out, List.take_length]
     have i1 : ¬ (k : Int) < (n : Int) := by omega
     go_wp2_with fail
     go_ret
     exact ⟨_, rfl, HA.out ▸ HO.out, HB.out⟩
end Go.Proofs.YtnkelahimiipjaaGreatDoor
