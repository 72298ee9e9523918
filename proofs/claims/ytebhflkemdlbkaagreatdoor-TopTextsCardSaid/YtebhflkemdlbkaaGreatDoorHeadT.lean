/-
  A part of the proof of TopTexts. No conditions.
-/
import Derived.KernelRfl
import Derived.Test.YtebhflkemdlbkaaGreatDoorA5
open Go renaming Value->Y
open Option renaming none->V
namespace Go.Proofs.YtebhflkemdlbkaaGreatDoor
noncomputable section
variable{a b c d:Nat}{f g h:AH}{v w:Value}{s t:List UInt8}{l m:List Value}{u:TypeId}{x y:Int}{p:List Nat}{q r:List Int}{e:Env}{o n:Option Addr}
def H0(a:Y)(b:List Y):AH:=((⟨.nil,10⟩:AH).put 7 (.cells [a])).put 8 (.ro b)
def Awi(b:Option (Y×AH)):Option (Y×Bool×List (Option AO)):=opt b fun a=>some (a.1,Nat.ble 10 a.2.n,[a.2.get 0,a.2.get 1,a.2.get 2,a.2.get 3,a.2.get 4,a.2.get 5,a.2.get 6,a.2.get 7,a.2.get 8,a.2.get 9])
theorem Aip(a:Y)(b:List Y):Awi (Ef pr Pg 1000 60 4 [] (H0 a b))=some (.bool true,true,[V,V,V,V,V,V,V,some (.cells [a]),some (.ro b),V]):=by kernel_rfl
end
end Go.Proofs.YtebhflkemdlbkaaGreatDoor
