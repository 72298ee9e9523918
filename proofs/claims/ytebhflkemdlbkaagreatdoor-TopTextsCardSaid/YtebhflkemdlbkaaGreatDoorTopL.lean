/-
  A part of the proof of TopTexts. No conditions.
-/
import Derived.Test.YtebhflkemdlbkaaGreatDoorCards
import Derived.Test.YtebhflkemdlbkaaGreatDoorTie
import Derived.WalkKit
import Derived.ProofKit
import Derived.OpenShut
import Derived.Deep.DeepHandedRow
import Derived.Deep.Slices
import Derived.Lib.LaidTab
import Derived.Lib.SmallJoins
import Derived.Stop.LaidErr
import Derived.ChangeSame
import Derived.ChangeSlices
import Derived.Carry
import Derived.Test.YtebhflkemdlbkaaGreatDoorA6
import Derived.Test.YtebhflkemdlbkaaGreatDoorTopC
set_option linter.unusedVariables false
set_option linter.unusedSimpArgs false
open Go renaming Value->T,trodAll_cons_mk->b_,TypeId->i_
open Go.ChangeShapes renaming open_ints->q_
open Go.IntKind renaming signed->k_,bits->o_
open Go.Lib renaming pow10Tab->m_
open Go.OpenSpec renaming ofChange->Z
open Go.Proofs.Tryz renaming prog->V,f3->W,checked->c_,underlying22->d_,underlying9->e_,underlying5->h_,func3->j_,params3->p_
open Go.Value renaming okWide->n_
open Go.WideShapes renaming add_plain->a_
open Go.World renaming cell?_spot->f_,holding->l_,var?->r_
open List renaming length_take->g_
open Option renaming some->Y,none->M
namespace Go.Proofs.YtebhflkemdlbkaaGreatDoor.topTexts
open Go.ChangeShapes Go.WideShapes Go.ChangeAt Go.RowKit Go.Joins
set_option linter.unusedVariables false
theorem own:ownKnob V.godebug=M:=by kernel_rfl
theorem laidOut:laidOutB V=true:=by kernel_rfl
theorem Aur:V.cellsOf 3=1:=by kernel_rfl
theorem Axl:V.globalNamed "internal/strconv.uint64pow10" =Y 1:=by kernel_rfl
theorem Aiu:(V.globals[1]?).map (·.type)=Y 353:=by kernel_rfl
theorem Ajt:V.cellsOf 353=20:=by kernel_rfl
theorem Aju:V.cellsOf 254=1:=by kernel_rfl
theorem Axm:V.globalNamed "strconv.ErrRange" =Y 7:=by kernel_rfl
theorem Aiv:(V.globals[7]?).map (·.type)=Y 87:=by kernel_rfl
theorem Ajs:V.cellsOf 477=1:=by kernel_rfl
theorem Auq:V.cellsOf 9=1:=by kernel_rfl
theorem star: "*" ++ "errors.errorString" = "*errors.errorString" :=by decide
theorem As9(a:i_)(b:V.typeName? 3 a=Y "*errors.errorString"):a=475:=
 typeName_ptr_named (nm:= "errors.errorString") (by rw[star];kernel_rfl) (by kernel_rfl) (by decide) a (by rw[star];exact b)
theorem Ats{b:World}(d:laidMetH V Rows.topTextsRow.laid b):QJ b:=by
 have a:Lib.TabIs V b "internal/strconv.uint64pow10" .u64 m_:=
  Lib.tabIs_of_head (rest:=_) Axl Aiu Tryz.underlying353 Tryz.underlying254 Aju Ajt (laidMet.tail (laidMet.tail d))
 unfold Lib.TabIs r_ at a;rw[Axl]at a;have a:(match(b.heap[1]? :Option Obj)with|some (Obj.cells c _ _)=>Y c|_=>M)=Y (m_.map fun e=>Value.int .u64 e).toArray:=a;split at a
 ·rename_i c f g h
  injection a with a
  subst a;exact⟨f,g,h⟩
 cases a
theorem Aui{b:World}(i:laidMetH V Rows.topTextsRow.laid b)(j:b.ShapedOpen V):∃d k l,b.heap[7]? =Y (.cells #[.iface 475 (.pointer (Y ⟨d,k,M⟩))] l)∧d<b.heap.size:=by
 obtain⟨e,q,a,f,_,_⟩:=laid_sentinel (laidMet.tail (laidMet.tail (laidMet.tail (laidMet.tail i)))) Axm Aiv Tryz.underlying87 As9 Tryz.underlying475 Tryz.underlying477 rfl rfl e_ Ajs Auq;obtain⟨g,h,_,_⟩:=j.1 7 #[.nilIface] 87 (Acw (by kernel_rfl)) (by kernel_rfl);unfold r_ at a;rw[Axm]at a;have a:(match(b.heap[7]? :Option Obj)with|some (Obj.cells g _ _)=>Y g|_=>M)=Y #[Value.iface 475 (.pointer (Y e))]:=a;rw[h]at a;injection a with a
 subst a;have m:=World.block_lt_of_cell? _ _ f;have c:=f_ f;obtain⟨n,o,p⟩:=e;have c:p=M:=c;subst c;exact⟨n,o,_,h,m⟩
set_option maxRecDepth 100000 in
theorem Amf{p:Type}{w:i_×T→p}{e:World}{x:Nat}{k:T}{y:DataW p}{z:List MemPlace}(A:n_ V e .any x 22 k)(F:DataW.Trod w V e 0 (fun _=>true) true 22 k y z):
  ∃b:List Int,InW e k b∧∀a∈b,-9223372036854775808≤a∧a<9223372036854775808:=by
 obtain⟨a3,b,q,rfl⟩:=WideShapes.okWide_slice d_ A;obtain⟨a4,K⟩:=F;rcases q_ d_ Tryz.underlying3 Aur K with⟨c,_⟩|⟨r,a5,a6,f,c,_,a7,a8,L,_,s,N⟩
 ·simp[Value.cells]at c
  obtain⟨rfl,rfl,rfl⟩:=c;exact⟨[],.inl ⟨rfl,.inl rfl⟩,fun a l=>by cases l⟩
 simp[Value.cells]at c;obtain⟨rfl,rfl,rfl⟩:=c;simp only[if_true]at L;have P:(f.take b).length=b:=by rw[g_];omega
 refine⟨f.take b,?_,fun a l=>?_⟩
 ·rcases Nat.eq_zero_or_pos q with m|m
  ·have d:b=0:=by omega
   subst m d;exact .inl ⟨rfl,.inr ⟨r,rfl⟩⟩
  have d:=s 0 (by omega);have n:=f_ d;obtain⟨t,a0,a1⟩:=r;have n:a1=M:=by simpa[Addr.add]using n
  subst n;rw[a_]at d;obtain⟨g,h,i,j⟩:∃g h i,e.heap[t]? =Y (.cells g h i):=by
   unfold World.cell? at d;split at d
   ·rename_i g h i j
    exact⟨_,_,_,j⟩
   cases d
  refine .inr ⟨t,a0,q,f.drop b,g,h,i,by rw[P],m,by rw[g_,List.length_drop];omega,j,fun u a9 o=>?_⟩;rw[List.take_append_drop]at o;have a2:u<f.length:=(List.getElem?_eq_some_iff.1 o).1;have v:=s u a2;rw[a_,List.getD_eq_getElem?_getD,o,Fm j]at v;exact v
 have d:=N a (List.mem_of_mem_take l);have: -9223372036854775808≤a∧a≤9223372036854775807:=by simpa[Lit.wf,IntKind.min,IntKind.max,k_,o_]using d
 omega
set_option maxRecDepth 100000 in
theorem Ajk(l:Type)(f:i_×T→l)(a:World)(z:Nat)(b:Array T)(g m:List (DataW l))(A:List MemPlace)
  (n:∀(e:Nat) c d,W.params[e]? =Y c→b[e]? =Y d→n_ V a .any z c d)
  (o:DataW.Whole f V W.params.toList Rows.topTextsSpec.vars false a b.toList g m A)
  (h:(DataW.weightsEach V (W.params.toList++(Z Rows.topTextsSpec).bare.plain.varTypes V) (g++m)).all (· ≤reachBytes)=true)
  (p:laidMetH V Rows.topTextsRow.laid a) (F:a.ShapedOpen V):
  Calls V 3 b a fun q r=>∃d,q=.returned d∧Rows.topTextsSpec.post f V W false true false false a b d r:=by
 have e:=n;have h:=o;obtain⟨K,ah,s,L,rfl,ai,aj⟩:=o;have t:DataW.TrodAll f V a 0 (fun _=>true) true W.params.toList b.toList g K:=s;rw[p_]at t e;obtain⟨u,ak,al,am,N,an,ao,rfl,rfl,P,a0⟩:=trodAll_cons t;obtain⟨v,ap,aq,ar,a1,au,rfl,rfl,rfl,w,a2⟩:=trodAll_cons a0;obtain⟨x,av,aw,ax,ay,az,rfl,rfl,rfl,a3,a4⟩:=trodAll_cons a2;obtain⟨rfl,rfl,rfl⟩:=trodAll_nil a4;obtain rfl:b= #[u,v,x]:=by cases b;simp_all
 obtain⟨rfl,rfl⟩:=trodVars_none L;have a5:=P;have a6:∀d∈N,d.block<a.heap.size:=fun d i=>by simpa using h.lt d (by simp[i])
 have a7:=w;have a8:∀d∈a1,d.block<a.heap.size:=fun d i=>by simpa using h.lt d (by simp[i])
 obtain⟨a9,rfl⟩:=okWide_string e_ (e 0 9 u rfl rfl);obtain⟨aA,aa,ab⟩:=Amf (e 1 22 v rfl rfl) w;obtain⟨c,rfl,rfl,rfl,y⟩:=open_int h_ (e 2 5 x rfl rfl) a3;have aB:0≤c∧c≤255:=by simpa[Lit.wf,IntKind.min,IntKind.max,k_,o_]using y
 obtain⟨j,ac⟩:∃j:UInt8,(j.toNat:Int)=c:=⟨UInt8.ofNat c.toNat,by rw[UInt8.toNat_ofNat'];omega⟩;obtain⟨aC,aD,aE,ad,ae⟩:=Aui p F;clear s n;subst ac;refine(Afc (Ats p) ad ae aa ab a9 j).mono fun q r ⟨af,k⟩=>?_;subst af;exact⟨_,rfl,_,_,_,[],_,[],h,trodAll_mk1 (shut_bool Tryz.underlying4 _),(b_ (Below.trod laidOut (by kernel_rfl) (Acw (by kernel_rfl)) a5 k a6) (b_ (Below.trod laidOut (by kernel_rfl) (Acw (by kernel_rfl)) a7 k a8) (b_ (shut_int h_ y) trodAll_mk0))),rfl,k.frame _,fun ag=>by cases ag⟩
def c1:DataW Unit→List T
 |.lit (.int a b)=>[.int a b]
 |_=>[]
def c2:DataW Unit→List T
 |.agg a=>a.flatMap c1
 |x=>c1 x
def c3:DataW Unit→Array T
 |.agg a=>(a.flatMap c2).toArray
 |_=> #[]
def put(a:Array T):Obj→Obj
 |.cells _ t frozen=>.cells a t frozen
 |b=>b
noncomputable def low:Nat:=(l_ V default ⟨#[],#[],[]⟩).heap.size
def Av2:ByteArray:=⟨#[105,110,118,97,108,105,100,32,115,121,110,116,97,120]⟩
def Av3:ByteArray:=⟨#[118,97,108,117,101,32,111,117,116,32,111,102,32,114,97,110,103,101]⟩
set_option maxRecDepth 100000 in
noncomputable def MC(b:Os):World:=
 let a:=l_ V b ⟨#[.cells #[.string Av2] 477,.cells #[.string Av3] 477],#[],[]⟩
 {a with heap:=((((((a.heap.modify 1 (put (c3 Rows.laid_internal_strconv_uint64pow10))).modify 2 (put (c3 Rows.laid_unicode_utf8_first))).modify 3 (put (c3 Rows.laid_unicode_utf8_acceptRanges))).modify 4 (put (c3 Rows.laid_math_bits_deBruijn32tab))).modify 5 (put (c3 Rows.laid_math_bits_deBruijn64tab))).modify 6 (put #[.iface 475 (.pointer (Y ⟨low,0,M⟩))])).modify 7 (put #[.iface 475 (.pointer (Y ⟨low+1,0,M⟩))])}
set_option maxRecDepth 100000 in
theorem Aih(a:Os):laidMet V Rows.topTextsRow.laid ((MC a).forCall (fun _ _=>0) ⟨#[],#[.string ⟨#[]⟩,.slice M 0 0,.int .u8 0],[]⟩).memory:=
 laidMet_of_run' 8 (by kernel_rfl) (by kernel_rfl)
theorem reads(a:Os){b:Type}(c:i_×T→b):∃d,DataW.whole c V ((MC a).forCall (fun _ _=>0) ⟨#[],#[.string ⟨#[]⟩,.slice M 0 0,.int .u8 0],[]⟩).memory W.params.toList Rows.topTextsSpec.vars false (#[.string ⟨#[]⟩,.slice M 0 0,.int .u8 0]:Array T).toList 8=Y ([.lit (.string []),.nil,.lit (.int .u8 0)],[],d):=
 ⟨[],by kernel_rfl⟩
set_option maxRecDepth 100000 in
theorem lifted(a:Os)(d:a.Started)(c:Type)(b:i_×T→c)(e:Stop.Interp):
  ReturnsInHanded {} c_ a 3 .any ((Z Rows.topTextsSpec).preRow b V W Rows.topTextsRow.domain false Rows.topTextsRow.laid) (((Z Rows.topTextsSpec).at e).post b V W false true false false):=by
 obtain⟨r,f⟩:=reads a b;refine returnsInHanded_of_row (C:=c_) (s:=Z Rows.topTextsSpec) own d (by kernel_rfl) j_
  (witness_row_at (enc:=b) (C:=c_) false (MC a) #[.string ⟨#[]⟩,.slice M 0 0,.int .u8 0] rfl (by kernel_rfl) (by kernel_rfl) (by kernel_rfl)
   (OpenSpec.preRow_of_cond 8 f (by kernel_rfl) (fun h g=>by cases g) (by kernel_rfl) (Aih a))) ?_
 intro g h i j k l m n _ _ o p q _;exact Ajk c b g h i j k l m n o p q
theorem said:Rows.TopTextsSaid:=
 OpenClaim.holds_of_cond 3 W rfl rfl rfl rfl rfl rfl rfl ⟨rfl,rfl,rfl,rfl,rfl⟩ rfl rfl rfl rfl rfl Aj3 j_ closed
  (Acw Aut) (by unfold Func.isWrapper;first|(rw[Agd (by decide+kernel)];kernel_rfl)|(rw[Akt (by decide+kernel)];exact⟨rfl,rfl⟩))
  (fun a b c d _ e=>by rw[OpenClaim.pre_eq_preRow];exact lifted a b c d e)
theorem plain(a:FuncId)(b:Func)(g:Tryz.pinned.checked.prog.funcNamed "furcate/furcatetop.TopTexts" =Y a)(h:Tryz.pinned.checked.prog.funcs[a]? =Y b):
  true=Tryz.pinned.checked.prog.looks []∧∀(d:Nat) c,b.params[d]? =Y c→Tryz.pinned.checked.prog.wantsStandIn c=false:=by
 obtain rfl:a=3:=Option.some.inj (Aj3.symm.trans g) |>.symm;obtain rfl:b=W:=(Option.some.inj (j_.symm.trans h)).symm;refine⟨Ao3,fun d c e=>?_⟩;rw[p_]at e;have f:=Array.mem_of_getElem? e;simp only[List.mem_toArray,List.mem_cons,List.mem_nil_iff,or_false]at f;rcases f with rfl|rfl|rfl
 ·exact AAj
 ·exact Axw
 exact AAk
theorem proved:Rows.TopTextsCardSaid:=
 Claim7.holds_tied_plain_at .later [] _ _ _ _ said (fun _ a=>by cases a) AAi (fun _ a=>by cases a) topTexts_row_tie rfl ⟨rfl,rfl⟩ Aus rfl plain Auu
#print axioms proved
end Go.Proofs.YtebhflkemdlbkaaGreatDoor.topTexts
