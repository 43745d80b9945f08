import Derived.Test.YtglamimbkdldaaaGreatDoorAt
import Derived.Test.YtglamimbkdldaaaGreatDoorNum
import Derived.Test.YtglamimbkdldaaaGreatDoorSp
import Derived.Test.YtglamimbkdldaaaGreatDoorRf00
import Derived.Test.YtglamimbkdldaaaGreatDoorRf01
import Derived.Test.YtglamimbkdldaaaGreatDoorRf10
import Derived.Test.YtglamimbkdldaaaGreatDoorRf11
namespace Go.Proofs.YtglamimbkdldaaaGreatDoor
open Go.RowKit Go.Sort Go.Lib Ieee

/-- The text that float.Bits hands to the parser. -/
def numText (m x : Int) : ByteArray := ⟨(itoa m ++ (101 :: itoa x)).toArray⟩

theorem at_all (s : ByteArray) (d : Nat) (x : Int) (g : Bool) (w : World) (hd : 1 ≤ d) (hd' : d ≤ 999999999999999) (hx : -300 ≤ x) (hx' : x ≤ 290) (T : Tabs w)
    (hsp : ∀ w, Calls Tryz.prog 90 #[.string s] w fun e w' => e = .returned (.tuple #[.float .f64 0, .int .i64 0, .bool false]) ∧ w = w')
    (hrf : ∀ w, Calls Tryz.prog 91 #[.string s] w fun e w' => e = .returned (.tuple #[.int .u64 d, .int .i64 x, .bool g, .bool false, .bool false, .int .i64 s.size, .bool true]) ∧ w = w') :
    Calls Tryz.prog 64 #[.string s] w fun e w' => e = .returned (.tuple #[.float .f64 (double.word g (bitsD d x)), .int .i64 s.size, .nilIface]) ∧ Ext w w' := by
  unfold bitsD
  cases hok : exOK d x
  · obtain ⟨P, hP⟩ : ∃ P : Nat, x = (P : Int) - 348 := ⟨(x + 348).toNat, by omega⟩
    have hPt : (x + 348).toNat = P := by omega
    simp only [Bool.false_eq_true, if_false, hPt]
    have hpf := fun sg hs => pf64_walk d P sg w hd hd' (by omega) (by omega) hs T.size (T.hi P (by omega)) (T.lo P (by omega))
    rw [← hP] at hpf
    cases g
    · have := at_no s d x false w (0 + pfBits d P) 0 hd hx hx' T.opt (by decide) hsp hrf (ex_no d x false w hd hd' T hok) (hpf 0 (.inl rfl))
      rw [Nat.zero_add] at this
      exact this
    · exact at_no s d x true w (9223372036854775808 + pfBits d P) 9223372036854775808 hd hx hx' T.opt (by decide) hsp hrf (ex_no d x true w hd hd' T hok) (hpf 9223372036854775808 (.inr rfl))
  · simp only [if_true]
    exact at_yes s d x g w _ hd hx hx' T.opt hsp hrf (ex_yes d x g w hd hd' T hok)

theorem byte_at (s : ByteArray) (i : Nat) (h : i < s.size) : (s[i]'h).toNat = (s.data.toList.getD i 0).toNat := by
  have h' : i < s.data.toList.length := h
  rw [List.getD_eq_getElem?_getD, List.getElem?_eq_getElem h']
  rfl

theorem special_any (s : ByteArray) {a n z m : Nat} {B V W : Nat → Nat} (N : Numeral s a n z m B V W) (hz : z ≤ 1) (ha : a = 0 ∨ (a = 1 ∧ B 0 = 45)) (w : World) :
    Calls Tryz.prog 90 #[.string s] w fun e w' => e = .returned (.tuple #[.float .f64 0, .int .i64 0, .bool false]) ∧ w = w' := by
  have hsz := N.size
  have h1 := N.n1
  have h2 := N.n2
  have h3 := N.m2
  have h4 := N.m1
  have d0 := N.dig 0 (by omega)
  rcases ha with rfl | ⟨rfl, hB⟩
  · exact special_digit s w (B 0) (by omega) (by omega) (N.byte 0 (by omega)) (by simpa using d0.1) (by simpa using d0.2)
  · exact special_minus s w (B 1) (by omega) (by omega) ((N.byte 0 (by omega)).trans hB) (N.byte 1 (by omega)) (by simpa using d0.1) (by simpa using d0.2)

theorem at_text (m x : Int) (w : World) (hm : m ≠ 0) (h1 : -1000000000000000 < m) (h2 : m < 1000000000000000) (hx : -300 ≤ x) (hx' : x ≤ 290) (T : Tabs w) :
    Calls Tryz.prog 64 #[.string (numText m x)] w fun e w' => e = .returned (.tuple #[.float .f64 (double.word (decide (m < 0)) (bitsD m.natAbs x)), .int .i64 (numText m x).size, .nilIface]) ∧ Ext w w' := by
  have hu : 1 ≤ m.natAbs := by omega
  have hu' : m.natAbs ≤ 999999999999999 := by omega
  have hv : x.natAbs ≤ 9999 := by omega
  have hW : preV m.natAbs (nDigits m.natAbs) ≠ 0 := by rw [preV_all]; omega
  by_cases hm0 : m < 0 <;> by_cases hx0 : x < 0
  · have hs : (numText m x).data.toList = [45] ++ (decDigits m.natAbs ++ (101 :: ([45] ++ decDigits x.natAbs))) := by
      unfold numText itoa; rw [if_pos hm0, if_pos hx0]; simp
    have N := numeral_of _ [45] [45] m.natAbs x.natAbs hs hu hu' hv
    have hB : (fun i => ((numText m x).data.toList.getD i 0).toNat) 0 = 45 := by simp only [hs]; rfl
    have hE : (fun i => ((numText m x).data.toList.getD i 0).toNat) (1 + nDigits m.natAbs + 1) = 45 := by
      simp only [hs]
      rw [show 1 + nDigits m.natAbs + 1 = [(45 : UInt8)].length + (nDigits m.natAbs + 1) by simp; omega, getD_app_right rfl, getD_app_right (decDigits_length _)]; rfl
    rw [decide_eq_true hm0]
    refine at_all _ m.natAbs x true w hu hu' hx hx' T (fun w => special_any _ N (by decide) (.inr ⟨rfl, hB⟩) w) (fun w => ?_)
    have := rf_walk11 _ _ _ _ _ _ w N hW hB hE
    rw [preV_all, preV_all, show -((x.natAbs : Nat) : Int) = x by omega] at this
    exact this
  · have hs : (numText m x).data.toList = [45] ++ (decDigits m.natAbs ++ (101 :: ([] ++ decDigits x.natAbs))) := by
      unfold numText itoa; rw [if_pos hm0, if_neg hx0, show x.toNat = x.natAbs by omega]; simp
    have N := numeral_of _ [45] [] m.natAbs x.natAbs hs hu hu' hv
    have hB : (fun i => ((numText m x).data.toList.getD i 0).toNat) 0 = 45 := by simp only [hs]; rfl
    rw [decide_eq_true hm0]
    refine at_all _ m.natAbs x true w hu hu' hx hx' T (fun w => special_any _ N (by decide) (.inr ⟨rfl, hB⟩) w) (fun w => ?_)
    have := rf_walk10 _ _ _ _ _ _ w N hW hB
    rw [preV_all, preV_all, show ((x.natAbs : Nat) : Int) = x by omega] at this
    exact this
  · have hs : (numText m x).data.toList = [] ++ (decDigits m.natAbs ++ (101 :: ([45] ++ decDigits x.natAbs))) := by
      unfold numText itoa; rw [if_neg hm0, if_pos hx0, show m.toNat = m.natAbs by omega]; simp
    have N := numeral_of _ [] [45] m.natAbs x.natAbs hs hu hu' hv
    have hE : (fun i => ((numText m x).data.toList.getD i 0).toNat) (0 + nDigits m.natAbs + 1) = 45 := by
      simp only [hs]
      rw [List.nil_append, Nat.zero_add, getD_app_right (decDigits_length _)]; rfl
    rw [decide_eq_false hm0]
    refine at_all _ m.natAbs x false w hu hu' hx hx' T (fun w => special_any _ N (by decide) (.inl rfl) w) (fun w => ?_)
    have := rf_walk01 _ _ _ _ _ _ w N hW hE
    rw [preV_all, preV_all, show -((x.natAbs : Nat) : Int) = x by omega] at this
    exact this
  · have hs : (numText m x).data.toList = [] ++ (decDigits m.natAbs ++ (101 :: ([] ++ decDigits x.natAbs))) := by
      unfold numText itoa; rw [if_neg hm0, if_neg hx0, show m.toNat = m.natAbs by omega, show x.toNat = x.natAbs by omega]; simp
    have N := numeral_of _ [] [] m.natAbs x.natAbs hs hu hu' hv
    rw [decide_eq_false hm0]
    refine at_all _ m.natAbs x false w hu hu' hx hx' T (fun w => special_any _ N (by decide) (.inl rfl) w) (fun w => ?_)
    have := rf_walk00 _ _ _ _ _ _ w N hW
    rw [preV_all, preV_all, show ((x.natAbs : Nat) : Int) = x by omega] at this
    exact this
end Go.Proofs.YtglamimbkdldaaaGreatDoor
