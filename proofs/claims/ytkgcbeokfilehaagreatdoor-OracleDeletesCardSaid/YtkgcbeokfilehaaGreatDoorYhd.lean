/-
  How long a row of acts may be that comes in.
-/
import Derived.Test.YtkgcbeokfilehaaGreatDoorXsd
namespace Go.Proofs.YtkgcbeokfilehaaGreatDoor
open Go.RowKit Go.ChangeShapes Go.WideShapes Go.ChangeAt
section
variable {H : Type} {enc : TypeId × Value → H} {W : World}
set_option maxRecDepth 100000 in
theorem acts_len {base B : Nat} {v : Value} {d : DataW H} {p : List MemPlace} {l : List ActS} (hw : Fits Tryz.prog 35 d) (hval : Value.okWide Tryz.prog W .any base 35 v) (h : DataW.Trod enc Tryz.prog W 0 (fun _ => true) true 35 v d p) (hR : RdA W B v l) : (l.length + 1) * 64 ≤ 140737488355328 := by
  obtain ⟨fuel, hf⟩ := h
  obtain ⟨a', len', cap', rfl⟩ := okWide_slice Tryz.underlying35 hval
  have ck : Tryz.prog.cellsOf 34 = 4 := by kernel_rfl
  have cb : Tryz.prog.bytesOf 34 = 64 := by kernel_rfl
  obtain ⟨A, n, c, e, hsz, hc, hz, hA⟩ := open_G Tryz.underlying35 ck (by decide) hw hf
  have e : [Value.slice a' len' cap'] = [Value.slice A n c] := e
  injection e with e _
  injection e with _ e2 _
  obtain ⟨A2, c2, e3, _⟩ := hR
  injection e3 with _ e4 _
  rw [cb] at hsz
  unfold reachBytes at hsz
  omega
end
end Go.Proofs.YtkgcbeokfilehaaGreatDoor
