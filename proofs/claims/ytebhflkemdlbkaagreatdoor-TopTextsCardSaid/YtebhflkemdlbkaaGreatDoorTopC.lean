/-
  A part of the proof of TopTexts. No conditions.
-/
import Derived.Test.YtebhflkemdlbkaaGreatDoorTopB
open Go renaming Program->W
open Go.Func renaming goes->T
open Go.OpenSpec renaming ofChange->V
open Go.Proofs.Tryz renaming prog->Z,f3->M
open List renaming any_eq_false->Y
namespace Go.Proofs.YtebhflkemdlbkaaGreatDoor.topTexts
theorem CO{a b:Bool}(c:a=true)(d:b=true):(a&&b)=true:=by rw[c,d];rfl
set_option maxRecDepth 100000 in
theorem closed:joinedFacts Z 3 M (V Rows.topTextsSpec).bare Rows.topTextsRow=true:=
 CO (CO (CO (CO (CO (CO (CO (CO (CO (CO (CO (CO (CO (CO (CO (CO (CO (CO (CO (CO (CO (CO (CO (CO (CO (CO (CO (CO (CO (CO (CO (jf0) jf1) jf2) jf3) jf4) jf5) jf6) jf7) jf8) jf9) Az8) Az7) Az6) Az5) Az4) Az3) Az2) Az1) Az0) Azz) Azy) Azx) Azw) Azv) Azu) Azt) Azs) Azr) Azq) Azp) Azo) Azn
theorem Aj3:Tryz.pinned.checked.prog.funcNamed "furcate/furcatetop.TopTexts" =some 3:=by kernel_rfl
theorem Aut:decide (M.isInstance Tryz.pinned.checked.prog Rows.topTextsRow.origin Rows.topTextsRow.targs)=true:=by kernel_rfl
theorem AAi:Rows.topTextsRow.wfByText (V Rows.topTextsSpec)=true:=by kernel_rfl
theorem Anb(a:W)(b:a.initOrder= "harness 7d6d443e41d9c308f81a7cd7a4b47ea28827be082797d451955543c856b6f741 cut at furcate/furcatetop.TopTexts"):a.mainIs=some (true,"7d6d443e41d9c308f81a7cd7a4b47ea28827be082797d451955543c856b6f741".toList):=by unfold Program.mainIs;rw[b];decide+kernel
theorem Aus:Tryz.pinned.checked.prog.mainIs=some (true,"7d6d443e41d9c308f81a7cd7a4b47ea28827be082797d451955543c856b6f741".toList):=Anb _ rfl
theorem Adl{c:W}(f:c.funcs.toList.all (fun b=> !b.goes)=true)(g:FuncId):c.goes g=false:=by
 have e:∀a,a∈c.funcs.toList→a.goes=false:=fun a d=>by
  have:=List.all_eq_true.1 f a d;simpa using this
 have h:∀b:FuncId,(c.funcs[b]?).any T=false:=fun b=>by
  cases i:c.funcs[b]? with
  |none=>rfl
  |some a=>exact e a (Array.mem_toList_iff.2 (Array.mem_of_getElem? i))
 have i:c.funcs.any T=false:=by rw[←Array.any_toList,Y];exact fun a d=>by rw[e a d];decide
 unfold Program.goes;rw[i,Bool.and_false,Bool.or_false,Y];exact fun b _=>by rw[h b];decide
theorem Ao4:Z.funcs.toList.all (fun a=> !a.goes)=true:=by kernel_rfl
theorem Aoc{a:W}(c:a.funcs.toList.all (fun d=> !d.goes)=true)(b:String):false=a.goesAt .entering b:=by
 unfold Program.goesAt Program.goesFrom;cases a.funcNamed b with
 |none=>rfl
 |some e=>
  show false=(a.goes e||false);rw[Adl c];rfl
theorem Auu:false=Rows.topTextsRow.goesBy Tryz.pinned.checked.prog:=Aoc Ao4 "furcate/furcatetop.TopTexts"
theorem Ao3:true=Tryz.pinned.checked.prog.looks []:=by kernel_rfl
theorem AAj:Tryz.pinned.checked.prog.wantsStandIn 9=false:=by kernel_rfl
theorem Axw:Tryz.pinned.checked.prog.wantsStandIn 22=false:=by kernel_rfl
theorem AAk:Tryz.pinned.checked.prog.wantsStandIn 5=false:=by kernel_rfl
end Go.Proofs.YtebhflkemdlbkaaGreatDoor.topTexts
