/-
 Small words on worlds: 'Ext w w'': w' is w with draws and new blocks behind it, and nothing else.
-/
import Derived.WalkKit
import Derived.WalkLawsBesides
import Derived.WalkSpells
import Derived.Sort.Grow
import Derived.Deep.Draws
import Derived.Lib.Hide
import Derived.BigQuiet
import Derived.Deep.QuietTactic
namespace Go.Proofs.YtnkelahimiipjaaGreatDoor
open Go.RowKit Go.Sort
def Ext (w w':World):Prop:=∃k os,w'=grow (w.drewN k) os
theorem Ext.refl (w:World):Ext w w:=⟨0, #[],by simp [grow,World.drewN]⟩
theorem Ext.trans {a b c:World} (h:Ext a b) (k:Ext b c):Ext a c:=by
 obtain ⟨n,os,rfl⟩:=h;obtain ⟨m,os',rfl⟩:=k;exact ⟨n+m,os++os',by simp [grow,World.drewN,Array.append_assoc,Nat.add_assoc]⟩
theorem Ext.alloc {a w:World} (h:Ext a w) (o:Obj):Ext a (w.alloc o):=
 h.trans ⟨0, #[o],by rw [alloc_eq_grow];rfl⟩
theorem Ext.drew {a w:World} (h:Ext a w):Ext a w.drew:=h.trans ⟨1, #[],by rw [grow_empty];rfl⟩
theorem Ext.drewN {a w:World} (h:Ext a w) (n:Nat):Ext a (w.drewN n):=h.trans ⟨n, #[],by simp [grow,World.drewN]⟩
theorem Ext.size {w w':World} (h:Ext w w'):w.heap.size<=w'.heap.size:=by
 obtain ⟨n,os,rfl⟩:=h;simp [grow,World.drewN]
theorem Ext.below {w w':World} (h:Ext w w'):Below w.heap.size w w':=by
 obtain ⟨n,os,rfl⟩:=h;exact ⟨rfl,rfl,rfl,by simp [grow,World.drewN],fun k hk=>by simp [grow,World.drewN,Array.getElem?_append,hk]⟩
theorem Ext.setCell {a w:World} (h:Ext a w) {p:Addr} (hp:a.heap.size<=p.block) (u:Value):Ext a (w.setCell p u):=by
 obtain ⟨n,os,rfl⟩:=h;refine ⟨n,os.modify (p.block-a.heap.size) (fun
   | .cells c elem frozen=>.cells (if p.spot.isSome then c else c.setIfInBounds p.off u) elem frozen
   |o=>o), ?_⟩
 simp only [World.setCell,grow,World.drewN];congr 1;apply Array.ext
 ·simp
 ·intro i h1 h2;simp only [Array.getElem_modify,Array.getElem_append];simp at h1;by_cases hi:i<a.heap.size
  ·rw [if_neg (by omega)];simp [hi]
  ·by_cases e:p.block=i
   ·subst e;simp only [hi,if_true,dite_false];rfl
   ·rw [if_neg e];simp only [hi,dite_false];rw [if_neg (by omega)]
theorem Ext.cell {w w':World} (h:Ext w w') {b o:Nat} (hb:b<w.heap.size):w'.cell? ⟨b,o,none⟩=w.cell? ⟨b,o,none⟩:=h.below.cell hb
theorem Ext.frozen {w w':World} (h:Ext w w') {b o:Nat} (hb:b<w.heap.size):w'.frozen? ⟨b,o,none⟩=w.frozen? ⟨b,o,none⟩:=h.below.frozen hb
theorem qaa {w:World} {b o:Nat} {v:Value} (h:w.cell? ⟨b,o,none⟩=some v):b<w.heap.size:=by
 rcases Nat.lt_or_ge b w.heap.size with ab|aa
 ·exact ab
 ·simp [World.cell?,Array.getElem?_eq_none aa] at h
theorem Ext.cell_some {w w':World} (h:Ext w w') {b o:Nat} {v:Value} (hc:w.cell? ⟨b,o,none⟩=some v):w'.cell? ⟨b,o,none⟩=some v:=
 (h.cell (qaa hc)).trans hc
theorem qn0 {w w':World} {k:Nat} {os:Array Obj} (h:w'=grow (w.drewN k) os):Ext w w':=⟨k,os,h⟩
theorem Ext.out {w w':World} (h:Ext w w'):∃k os,w'=grow (w.drewN k) os:=h
attribute [irreducible] Ext
theorem qff {P:Program} {f:FuncId} {args:Array Value} {w:World} {n:Nat} {v:Value}
  (h:Calls P f args (w.drewN n) fun e w'=>e=.returned v∧w.drewN n=w'):Calls P f args (w.drewN n) fun e w''=>e=.returned v∧∃m,w''=w.drewN m:=
 h.mono fun _ _ ⟨he,hm⟩=>⟨he,n,hm.symm⟩
theorem qao {a b:Bool} (h:a=b):Ending.returned (.bool a)=.returned (.bool b):=by rw [h]
theorem qbd {k:IntKind} {a b:Int} (h:a=b):Ending.returned (.int k a)=.returned (.int k b):=by rw [h]
end Go.Proofs.YtnkelahimiipjaaGreatDoor
