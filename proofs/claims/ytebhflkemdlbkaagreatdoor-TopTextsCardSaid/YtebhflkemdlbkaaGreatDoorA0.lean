/-
  A part of the proof of TopTexts. No conditions.
-/
import Derived.Calls
import Derived.Laws.Sem
import Derived.Laws.Cells
import Derived.Lib.FrozenHead
import Derived.Laws.Entries
import Derived.Laws.RangeString
import Derived.Laws.Strings
import Derived.Laws.StructEq
import Derived.LoopN
import Derived.Scope
import Derived.Orders
import Derived.Test.YtebhflkemdlbkaaGreatDoorProg
import Derived.KernelRfl
set_option linter.unusedVariables false
set_option linter.unusedSimpArgs false
open Array renaming getElem?_eq_some_iff->o_,ext'->C_,getD_eq_getD_getElem?->P_,toList_setIfInBounds->ai_,getElem?_setIfInBounds_ne->ax_,getElem?_append_left->aL_,size_append->aS_,getElem?_eq_getElem->aT_,size_map->a9_,getElem_modify->bg_,size_range->by_
open Bool renaming and_eq_true->a_,false_eq_true->l_,or_eq_true->I_,not_eq_true'->Q_,not_true->W_,not_false->bb_
open ByteArray renaming data_extract->a6_
open ByteArray.mk renaming injEq->bm_
open Go renaming Value->W,TypeId->b_,Operand->c_,World->f_,execOp->n_,Oper->q_,Program->v_,TypeDesc->x_,Addr->H_,storeCells->N_,FuncId->X_,typeInfo->Z_,asIntOf->ad_,BinOp->ae_,seen->al_,setRow_other->am_,eqGuard->au_,TypeInfo->aF_,MapEntry->aG_,IntKind->aU_,beq_toListBytes->a0_,mem_ready->a1_,setRow_heap->a5_,run_underlying->a7_,callFunc->bh_,run_loadCells_list->bk_,loadVar->bp_,run_program->bv_,getD_set_ne->bw_
open Go.Builtin renaming firstCells->i_,zeroCells->r_,append_->u_,lenOf->V_,nextslicecap->ag_,len_->aB_,copy_->aP_,growBy->ba_,min_->bH_,max_->bI_
open Go.ByteArray renaming toList_eq->M_
open Go.Call renaming operands->bj_
open Go.Instr renaming findNow->L_,sameBits->R_,sliceBound->U_,findKey->aq_,sureAddr->aH_,checkKey->aI_,sliceAt->aM_,indexAt->aN_,sameNow->aO_,keyThatStays->bn_,sliceBounds->br_,fieldAt->bG_
open Go.IntKind renaming wrap_i64->aW_,signed->bc_,bits->bl_
open Go.Made renaming depth->bf_
open Go.Op renaming operands->e_,stringOp->bu_,equalIn->bD_
open Go.Proofs.Tryz renaming prog->a4_
open Go.Region renaming binds->F_,wanted->aQ_
open Go.Result renaming andThen_ok->Y
open Go.Sem renaming run_bind->T,run_pure->M
open Go.Value renaming oneCell'->J_,noConfusion->bs_
open Int renaming toNat_natCast->E_,natCast_mul->aZ_
open List renaming getElem?_eq_some_iff->d_,getElem?_toArray->g_,getElem?_cons_zero->j_,getElem?_cons_succ->m_,getElem?_append_right->t_,mem_of_getElem?->w_,all_eq_true->z_,getElem?_append_left->B_,getElem?_take->G_,mem_cons->K_,getElem?_drop->O_,length_cons->S_,mem_append->Y_,pairwise_iff_getElem->ak_,mem_map->ao_,size_toArray->ap_,map_cons->ar_,length_take->as_,length_drop->at_,getElem?_eq_none->av_,append_nil->ay_,map_append->aD_,eq_nil_of_length_eq_zero->aE_,append_of_mem->aK_,ext_getElem?->aR_,getElem?_eq_getElem->aX_,filter_cons_of_pos->aY_,mem_filter->a2_,length_map->a3_,mapM_cons->a8_,length_singleton->bd_,getElem?_set_ne->be_,all_cons->bi_,length_append->bo_,getElem?_map->bq_,any_eq_true->bx_,cons_append->bz_,getElem_mem->bA_,length_nil->bC_,mem_range->bF_
open Nat renaming le_refl->h_,ble->k_,lt_of_lt_of_le->p_,ble_eq->y_,le_trans->A_,beq_eq->D_,add_zero->T_,add_mul->aa_,blt->ab_,mul_le_mul->ac_,mul_le_mul_right->af_,add_assoc->ah_,zero_mul->an_,eq_of_beq_eq_true->aw_,zero_add->az_,lt_or_ge->aC_,lor->aV_,le_succ->bt_,strongRecOn->bE_
open Option renaming some->V,none->Z,map_some->aj_,map_none->aA_,isSome_none->aJ_,rec->bB_
open Option.some renaming injEq->s_
namespace Go.Proofs.YtebhflkemdlbkaaGreatDoor
noncomputable section
theorem Aa9.{u}{α:Sort u}{a b:α}:cond true a b=a:=rfl
theorem Acf.{u}{α:Sort u}{a b:α}:cond false a b=b:=rfl
theorem Acw{p:Prop}[i:Decidable p]:decide p=true→p:=of_decide_eq_true
theorem Adh{p:Prop}[i:Decidable p]:decide p=false→¬p:=of_decide_eq_false
theorem Aeu{p:Prop}[i:Decidable p]:p→decide p=true:=decide_eq_true
theorem Aey{p:Prop}[i:Decidable p]:¬p→decide p=false:=decide_eq_false
theorem Agd.{u}{c:Prop}{h:Decidable c}(hc:c){α:Sort u}{t e:α}:(if c then t else e)=t:=if_pos hc
theorem Akt.{u}{c:Prop}{h:Decidable c}(hc:¬c){α:Sort u}{t e:α}:(if c then t else e)=e:=if_neg hc
theorem Akv.{u,v}{α:Sort u}{β:Sort v}{a b:α}(f:α→β)(h:a=b):f a=f b:=congrArg f h
theorem J.{u}{α:Sort u}{a:α}:a=a:=rfl
abbrev H:=List UInt8
abbrev E:=List Value
theorem Eg{a b:Nat}(c:a≤b:=by omega):k_ a b=true:=Nat.ble_eq_true_of_le c
theorem Gv{a:Prop} [Decidable a](b:¬a:=by omega):decide a=false:=Aey b
theorem Gu{a:Prop} [Decidable a](b:a:=by omega):decide a=true:=Aeu b
theorem Jl.{c}{a:Prop}{g:Decidable a}{d:Sort c}{e b:d}(f:¬a:=by omega):(if a then e else b)=b:=Akt f
theorem ifP.{c}{a:Prop}{g:Decidable a}{d:Sort c}{b e:d}(f:a:=by omega):(if a then b else e)=b:=Agd f
inductive Tr(α:Type):Type where
 |nil
 |node (v:Option α) (l r:Tr α)
@[reducible]noncomputable def Av{a:Type}(b:Bool)(c d:a):a:= @Bool.rec (fun _=>a) d c b
@[reducible]noncomputable def opt{a b:Type}(c:Option a)(d:a→Option b):Option b:= @bB_ a (fun _=>Option b) Z d c
def Tr.get{a:Type}(b:Tr a):Nat→Option a:=
 @Tr.rec a (fun _=>Nat→Option a) (fun _=>Z)
  (fun v _ _ c d a=>Av (Nat.beq a (nat_lit 0)) v (Av (Nat.beq (Nat.mod a (nat_lit 2)) (nat_lit 1)) (c (Nat.div a (nat_lit 2))) (d (Nat.sub (Nat.div a (nat_lit 2)) (nat_lit 1))))) b
def Tr.Ji{b:Type}(f:Option b)(h:Nat):Tr b→Nat→Tr b:=
 @Nat.rec (fun _=>Tr b→Nat→Tr b) (fun d _=>d)
  (fun _ c d a=> @Tr.rec b (fun _=>Tr b)
   (Av (Nat.beq a (nat_lit 0)) (.node f .nil .nil) (Av (Nat.beq (Nat.mod a (nat_lit 2)) (nat_lit 1)) (.node Z (c .nil (Nat.div a (nat_lit 2))) .nil) (.node Z .nil (c .nil (Nat.sub (Nat.div a (nat_lit 2)) (nat_lit 1))))))
   (fun g b e _ _=>Av (Nat.beq a (nat_lit 0)) (.node f b e) (Av (Nat.beq (Nat.mod a (nat_lit 2)) (nat_lit 1)) (.node g (c b (Nat.div a (nat_lit 2))) e) (.node g b (c e (Nat.sub (Nat.div a (nat_lit 2)) (nat_lit 1)))))) d) h
def Tr.set{a:Type}(c:Tr a)(b:Nat)(d:Option a):Tr a:=Tr.Ji d (b+1) c b
def Tr.SR{a:Type}:List a→Nat→Tr a→Tr a
 |[],_,a=>a
 |x::c,b,a=>Tr.SR c (b+1) (a.set b (V x))
def Tr.of{a:Type}(l:List a):Tr a:=Tr.SR l 0 .nil
inductive AO:Type where
 |cells (l:E)
 |map (es:List (W×W))
 |iter (s:H) (pos:Nat)
 |tc (t:b_) (l:E)
 |ro (l:E)
def AO.rw:AO→Bool
 |.ro _=>false
 |_=>true
def TM(a:b_):Bool:=Nat.beq a 58||Nat.beq a 60
structure AH:Type where
 t:Tr AO
 n:Nat
def AH.get(a:AH)(b:Nat):Option AO:=a.t.get b
def AH.put(a:AH)(b:Nat)(c:AO):AH:=⟨a.t.set b (V c),a.n⟩
def AH.del(a:AH)(b:Nat):AH:=⟨a.t.set b Z,a.n⟩
def AH.new(a:AH)(b:AO):AH:=⟨a.t.set a.n (V b),a.n+1⟩
abbrev Env:=Tr W
def Env.at(a:Env)(b:Nat):W:= @bB_ W (fun _=>W) undef (fun c=>c) (a.get b)
structure Pr:Type where
 P:v_
 ty:Tr aF_
 fn:Tr Func
 Aw2:List (b_×String)
def Pr.CY(a:Pr)(b:b_):Option x_:=
 match a.ty.get b with
 |some b=>(match b.desc with
  |.named _ b=>(match a.ty.get b with|some c=>V c.desc|none=>Z)
  |d=>V d)
 |none=>Z
def Pr.size(a:Pr)(b:b_):Option Nat:=match a.ty.get b with|some c=>V c.size|none=>Z
def Vg:Option W→Option W
 |some (.tuple _)=>Z
 |z=>z
def Pr.zero(a:Pr)(b:b_):Option W:=match a.ty.get b with|some c=>Vg c.zero|none=>Z
def At1:x_→Bool
 |.struct _|.array _ _=>true
 |_=>false
def Pr.agg(a:Pr)(b:b_):Option Bool:=match a.CY b with|some c=>V (At1 c)|none=>Z
def Aq:W→E
 |.agg a=>a.toList
 |v=>[v]
def M4(a:E)(b:Nat)(c:Option Nat):Option W:=
 match c with
 |some c=>Av (k_ (b+c) a.length) (V (.agg ((a.drop b).take c).toArray)) Z
 |none=>Z
def part?(a:Pr)(b:b_)(c:E)(d:Nat):Option W:=
 opt (a.agg b) fun e=>Av e (M4 c d (a.size b)) c[d]?
def AH.ld(a:AH)(c:Pr)(d:b_)(b:H_):Option W:=
 match a.get b.block with
 |some (.cells a)=>part? c d a b.off
 |some (.tc _ a)=>part? c d a b.off
 |some (.ro a)=>part? c d a b.off
 |_=>Z
def A5(a:E)(b:Nat)(c:E):E:=a.take b++(c++a.drop (b+c.length))
def Oh(d:AH)(a:H_)(c b:E):Option AH:=
 Av (k_ (a.off+b.length) c.length&&b.all J_) (V (d.put a.block (.cells (A5 c a.off b)))) Z
def storeT(d:AH)(a:H_)(e:b_)(c b:E):Option AH:=
 Av (k_ (a.off+b.length) c.length&&b.all J_) (V (d.put a.block (.tc e (A5 c a.off b)))) Z
def AH.st(b:AH)(f:Pr)(g:b_)(c:H_)(a:W):Option AH:=
 match b.get c.block with
 |some (.cells d)=>opt (f.size g) fun e=>Av (Nat.beq (Aq a).length e) (Oh b c d (Aq a)) Z
 |some (.tc h d)=>opt (f.size g) fun e=>Av (Nat.beq (Aq a).length e) (storeT b c h d (Aq a)) Z
 |_=>Z
def NJ{a:Type}(b:v_):Nat→Sem a→Option a
 |_,.pure a=>V a
 |k+1,.program a=>NJ b k (a b)
 |_,_=>Z
def Qa:W→Option (aU_×Int)
 |.int a b=>V (a,b)
 |_=>Z
def TV:W→Option H
 |.string a=>V a.data.toList
 |_=>Z
def ME(d:ae_)(c:aU_)(b a:Int):Option W:=
 match d with
 |.add=>V (.int c (c.wrap (b+a)))
 |.sub=>V (.int c (c.wrap (b-a)))
 |.mul=>V (.int c (c.wrap (b*a)))
 |.eql=>V (.bool (b==a))
 |.neq=>V (.bool (b !=a))
 |.lss=>V (.bool (decide (b<a)))
 |.leq=>V (.bool (decide (b≤a)))
 |.gtr=>V (.bool (decide (a<b)))
 |.geq=>V (.bool (decide (a≤b)))
 |.quo=>cond (a==0) Z (V (.int c (c.wrap (b.tdiv a))))
 |.rem=>cond (a==0) Z (V (.int c (b.tmod a)))
 |_=>Z
def WZ(c:ae_)(a b:H):Option W:=
 match c with
 |.eql=>V (.bool (a==b))
 |.neq=>V (.bool (!(a==b)))
 |.add=>Av (k_ (a.length+b.length) 1000000000) (V (.string ⟨(a++b).toArray⟩)) Z
 |_=>Z
def Ri:x_→W→W→Option Bool
 |.pointer _,.pointer none,.pointer a=>V a.isNone
 |.pointer _,.pointer (some _),.pointer none=>V false
 |.slice _,.slice none _ _,.slice a _ _=>V a.isNone
 |.slice _,.slice (some _) _ _,.slice none _ _=>V false
 |.map _ _,.map none,.map a=>V a.isNone
 |.map _ _,.map (some _),.map none=>V false
 |.func _ _ _,.nilFunc,.nilFunc=>V true
 |.func _ _ _,.nilFunc,.func _ _ _=>V false
 |.func _ _ _,.func _ _ _,.nilFunc=>V false
 |.interface _,.nilIface,.iface _ _=>V false
 |.interface _,.iface _ _,.nilIface=>V false
 |_,_,_=>Z
def KV(b:ae_)(a:Bool):Option W:=
 match b with
 |.eql=>V (.bool a)
 |.neq=>V (.bool (!a))
 |_=>Z
def DC:W→Bool
 |.bool _|.int _ _|.float _ _|.string _|.nilFunc|.nilIface|.pointer none|.map none=>true
 |.slice none a b=>Nat.beq a 0&&Nat.beq b 0
 |_=>false
def Fz:W→Bool
 |.agg a=>a.toList.all DC
 |.tuple a=>a.toList.all DC
 |v=>DC v
def LA(f:Pr)(a:ae_)(b:b_)(g h:c_)(c d:W):Option W:=
 opt (NJ f.P 100 (do au_ a b g h c d;binOp a b c d)) fun e=>Av (DC e) (V e) Z
def orElse'(a b:Option W):Option W:=match a with|some c=>V c|none=>b
def Og:E→Option (List H)
 |[]=>V []
 |.string a::b=>(match Og b with|some c=>V (a.data.toList::c)|none=>Z)
 |_::_=>Z
def XT:Option x_→Bool
 |some .string=>true
 |_=>false
def Tb:Option Bool→Bool
 |some false=>true
 |_=>false
def HC(a:Pr):List Field→Nat→Bool
 |[],_=>true
 |f::c,b=>f.name != "_" &&(Nat.beq f.offset b&&(XT (a.CY f.type)&&(Tb (a.agg f.type)&&HC a c (b+1))))
def Lf(a:Pr)(d:ae_)(c:b_)(e f:E):Option x_→Option W
 |some (.struct b)=>Av (HC a b.toList 0&&(!a.P.stoodInHeld c&& !a.P.eqGuardType a.P.depth c))
   (opt (Og e) fun a=>opt (Og f) fun c=>Av (Nat.beq a.length b.toList.length&&Nat.beq c.length b.toList.length) (KV d (a==c)) Z) Z
 |_=>Z
def Mf(a:Pr)(c:ae_)(b:b_):W→W→Option W
 |.agg d,.agg e=>Lf a c b d.toList e.toList (a.CY b)
 |_,_=>Z
def ED(c:Pr)(d:ae_)(e:b_)(f g:c_)(a b:W):Option W:=
 Av (Fz a&&Fz b) (orElse' (Mf c d e a b) (LA c d e f g a b)) (opt (c.CY e) fun h=>opt (Ri h a b) fun i=>KV d i)
def Cu(f:Pr)(a:ae_)(g:b_)(h i:c_)(b c:W):Option W:=
 match Qa b with
 |some (j,d)=>(match Qa c with
  |some (k,e)=>orElse' (Av (decide (j=k)) (ME a j d e) Z) (LA f a g h i b c)
  |none=>Z)
 |none=>(match TV b with
  |some d=>(match TV c with
   |some e=>WZ a d e
   |none=>Z)
  |none=>ED f a g h i b c)
def CW:W→Option Nat
 |.int _ (.ofNat a)=>V a
 |_=>Z
def Ew:List (Nat×Nat)→E→List (Nat×W)→Option E
 |_,a,[]=>V a
 |b,a,(d,c)::f=>
  match b[d]? with
  |some (d,e)=>cond (Nat.beq (Aq c).length e&&k_ (d+e) a.length) (Ew b (A5 a d (Aq c)) f) Z
  |none=>Z
def DZ(a:E):Nat→E
 |0=>[]
 |n+1=>a++DZ a n
def Eb(a:Nat):E→List (Nat×W)→Option E
 |b,[]=>V b
 |b,(c,d)::e=>cond (Nat.beq (Aq d).length a&&k_ (c*a+a) b.length) (Eb a (A5 b (c*a) (Aq d)) e) Z
def AW(a:H):E:=a.map fun b=>.int .u8 b.toNat
def bytesOf:E→Option H
 |[]=>V []
 |.int .u8 a::b=>(match bytesOf b with|some c=>V (a.toNat.toUInt8::c)|none=>Z)
 |_::_=>Z
def AH.row(d:AH)(a:W):Option E:=
 match a with
 |.slice none _ _=>V []
 |.slice (some a) b c=>
  cond (Nat.beq b 0) (V []) (match d.get a.block with
   |some (.cells d)=>cond (k_ (a.off+b*c) d.length) (V ((d.drop a.off).take (b*c))) Z
   |_=>Z)
 |_=>Z
def EF(b:AH)(a:W):Option E:=
 match a with
 |.string c=>V (AW c.data.toList)
 |.slice _ _ _=>b.row a
 |_=>Z
def K0:W→Option Nat
 |.slice _ a _=>V a
 |.string a=>V a.data.toList.length
 |_=>Z
def AH.PL(a:AH):Option H_→AH
 |some b=>a.del b.block
 |none=>a
def AH.J8(c:AH)(a:Option H_)(b:Nat):Option E:=
 match a with
 |none=>V []
 |some a=>(match c.get a.block with
  |some (.cells c)=>Av (k_ (a.off+b) c.length) (V ((c.drop a.off).take b)) Z
  |_=>Z)
def CB(b:AH)(a:Nat)(c:Option H_)(d g:Nat)(f:E)(e:Nat):Option (W×AH):=
 Av (Nat.beq e 0) (V (.slice c d g,b))
  (Av (k_ (d+e) 1000000&&(Nat.beq a g||c.isNone)&&k_ 1 a&&k_ a 1000&&f.all J_&&Nat.beq f.length (e*a))
   (opt (b.J8 c (d*a)) fun g=>V (.slice (V ⟨b.n,0,Z⟩) (d+e) a,(b.PL c).new (.cells (g++f)))) Z)
def Ln(c:AH)(d:b_)(a:Option H_)(b:Nat):Option E:=
 match a with
 |none=>V []
 |some a=>(match c.get a.block with
  |some (.tc e c)=>Av (Nat.beq e d&&k_ (a.off+b) c.length) (V ((c.drop a.off).take b)) Z
  |_=>Z)
def I1(b:AH)(g:b_)(a:Nat)(c:Option H_)(d h:Nat)(f:E)(e:Nat):Option (W×AH):=
 Av (Nat.beq e 0) (V (.slice c d h,b))
  (Av (k_ (d+e) 1000000&&(Nat.beq a h||c.isNone)&&k_ 1 a&&k_ a 1000&&f.all J_&&Nat.beq f.length (e*a))
   (opt (Ln b g c (d*a)) fun h=>V (.slice (V ⟨b.n,0,Z⟩) (d+e) a,(b.PL c).new (.tc g (h++f)))) Z)
def Of(a:AH):Option H_→Bool
 |none=>true
 |some b=>(match a.get b.block with|some (.tc _ _)=>true|_=>false)
def Dz(a:AH)(h:b_)(c:Nat)(b:Option H_)(d e:Nat)(f:E)(g:Nat):W→Option (W×AH)
 |.string _=>Av (Nat.beq h 5&&Of a b) (I1 a h c b d e f g) (CB a c b d e f g)
 |_=>CB a c b d e f g
def AX(a:Pr)(b:b_):Option b_:=
 match a.CY b with
 |some (.slice a)=>V a
 |_=>Z
def JH:x_→Bool
 |.slice _=>true
 |.string=>true
 |_=>false
def Gy(a:Pr)(d:AH)(c:List b_)(e b:W):Option (W×AH):=
 match e,c with
 |.slice e f g,[h,i]=>opt (a.CY i) fun j=>Av (JH j) (opt (AX a h) fun c=>opt (a.size c) fun k=>opt (a.zero c) fun _=>opt (EF d b) fun l=>opt (K0 b) fun m=>Dz d c k e f g l m b) Z
 |_,_=>Z
def Z2:Option x_→Bool
 |some (.int .i64)=>true
 |_=>false
def Mc(a:Pr)(f:AH)(b:List b_)(c d:W):Option (W×AH):=
 match c,b,d with
 |.slice g d h,[i,j],.int .i64 (.ofNat b)=>Av (Z2 (a.CY j)) (opt (AX a i) fun e=>opt (a.size e) fun c=>opt (a.zero e) fun k=>Av (k_ 1 c&&k_ c 1000&&k_ (d+b) 1000000) (CB f c g d h (DZ (Aq k) b) b) Z) Z
 |_,_,_=>Z
def TX(b:Pr)(c:AH)(d:List b_)(e a:W):Option (W×AH):=
 match a with
 |.int _ _=>Mc b c d e a
 |_=>Gy b c d e a
def NW(c:AH)(d a:Nat):W→Option E
 |.string b=>V (AW (b.data.toList.take a))
 |.slice e _ b=>Av (Nat.beq b d) (c.row (.slice e a b)) Z
 |_=>Z
def VZ(a:AH)(d b:Nat)(e:Option H_)(f:W):Option (W×AH):=
 opt e fun c=>opt (NW a d b f) fun g=>match a.get c.block with
  |some (.cells d)=>opt (Oh a c d g) fun e=>V (.int .i64 b,e)
  |_=>Z
def Aan(a:Pr)(b:AH)(d:List b_)(e c:W):Option (W×AH):=
 match e,d with
 |.slice f d _,g::_=>opt (K0 c) fun e=>opt (AX a g) fun h=>opt (a.size h) fun i=>
  Av (Nat.beq (Nat.min e d) 0) (V (.int .i64 0,b)) (VZ b i (Nat.min e d) f c)
 |_,_=>Z
def sameKey:W→W→Option Bool
 |.int c a,.int d b=>if c=d then V (a==b)else Z
 |.string a,.string b=>V (a.data.toList==b.data.toList)
 |.bool a,.bool b=>V (a==b)
 |_,_=>Z
def Bc(a:W):List (W×W)→Option (Option W)
 |[]=>V Z
 |(b,c)::d=>match sameKey a b with
  |some true=>V (V c)
  |some false=>Bc a d
  |none=>Z
def Bg(a b:W):List (W×W)→Option (List (W×W))
 |[]=>V [(a,b)]
 |(c,e)::d=>match sameKey a c with
  |some true=>V ((a,b)::d)
  |some false=>(match Bg a b d with|some f=>V ((c,e)::f)|none=>Z)
  |none=>Z
inductive Nx:Type where
 |val (v:W) (h:AH)
 |call (f:X_) (args:E) (h:AH)
def bound(a:Option W)(b:Nat):Option Nat:=
 match a with
 |none=>V b
 |some a=>CW a
def Ot(a:H)(d e:Option W):Option W:=
 opt (bound d 0) fun b=>opt (bound e a.length) fun c=>Av (k_ b c&&k_ c a.length) (V (.string ⟨((a.drop b).take (c-b)).toArray⟩)) Z
def QG(b:Nat):Option H_→Option H_
 |some a=>V ⟨a.block,a.off+b,Z⟩
 |none=>Z
def Sz(f:Option H_)(a d:Nat)(g h i:Option W):Option W:=
 opt (bound g 0) fun b=>opt (bound h a) fun c=>opt (bound i a) fun e=>Av (k_ b c&&k_ c e&&k_ e a) (V (.slice (QG (b*d) f) (c-b) d)) Z
def Ov(a:Pr)(b:b_)(f:W)(c d e:Option W):Option W:=
 match f with
 |.string f=>(match a.CY b,e with
  |some .string,none=>Ot f.data.toList c d
  |_,_=>Z)
 |.slice f h g=>opt (AX a b) fun i=>opt (a.size i) fun j=>Av (Nat.beq j g||f.isNone) (Sz f h g c d e) Z
 |_=>Z
def Ps(a:H)(b:Nat):Option W:=
 opt a[b]? fun c=>V (.int .u8 c.toNat)
def Tf(a:Pr)(c:b_)(d e:W):Option W:=
 opt (CW e) fun b=>match d with
 |.string d=>(match a.CY c with
  |some .string=>Ps d.data.toList b
  |_=>Z)
 |.agg d=>(match a.CY c with
  |some (.array e c)=>opt (a.size c) fun f=>Av (ab_ b e) (part? a c d.toList (b*f)) Z
  |_=>Z)
 |_=>Z
def IU(b:Pr)(g:b_)(a d:W):Option W:=
 opt (CW d) fun c=>match a with
 |.slice (some a) d h=>opt (AX b g) fun e=>opt (b.size e) fun f=>Av (ab_ c d&&Nat.beq f h) (V (.pointer (V ⟨a.block,a.off+c*h,Z⟩))) Z
 |.pointer (some a)=>(match b.CY g with
  |some (.array d e)=>opt (b.size e) fun f=>Av (ab_ c d) (V (.pointer (V ⟨a.block,a.off+c*f,Z⟩))) Z
  |_=>Z)
 |_=>Z
def Hv(a:Pr)(b:b_)(c:String):Option X_:=
 match a.ty.get b with
 |some d=>(match d.methods.toList.find? (·.name==c)with
  |some c=>(match c.path.isEmpty,c.func,a.CY b with
   |true,some (a,true),some (.pointer _)=>V a
   |_,_,_=>Z)
  |none=>Z)
 |none=>Z
def Pb(a:AH):x_→W→Option Nat
 |.string,.string b=>V b.data.toList.length
 |.slice _,.slice _ b _=>V b
 |.map _ _,.map none=>V 0
 |.map _ _,.map (some b)=>(match a.get b with|some (.map c)=>V c.length|_=>Z)
 |_,_=>Z
def Pe(b:Pr)(a:AH)(c:List b_)(d:W):Option (W×AH):=
 match c with
 |c::_=>opt (b.CY c) fun e=>opt (Pb a e d) fun f=>V (.int .i64 f,a)
 |[]=>Z
def XC(c:AH):W→W→Option (W×AH)
 |.int d a,.int _ b=>V (.int d (if b<a then b else a),c)
 |_,_=>Z
def XF(c:AH):W→W→Option (W×AH)
 |.int d a,.int _ b=>V (.int d (if b>a then b else a),c)
 |_,_=>Z
def Bx(c:Pr)(a:AH)(b:Builtin)(d:List b_)(f:b_)(e:E):Option (W×AH):=
 match b,e with
 |.len,[e]=>Pe c a d e
 |.append,[f,e]=>TX c a d f e
 |.copy,[f,e]=>Aan c a d f e
 |.min,[c,b]=>XC a c b
 |.max,[c,b]=>XF a c b
 |_,_=>Z
def AZ(a:Env)(b:c_):W:=
 @Operand.rec (fun _=>W) (fun c=>a.at c) (fun d=>d) (fun e=>.pointer (V ⟨e,0,Z⟩)) (fun f=>.func (.func f) #[] #[]) b
def CF(a:AH):Option W→Option Nx
 |some b=>V (.val b a)
 |none=>Z
def Vd(a:c_)(b:Env)(c:AH):Option Nx:=V (.val (AZ b a) c)
def Rf(b c d:c_)(a:Env)(e:AH):Option Nx:=
 match AZ a b with
 |.bool b=>V (.val (cond b (AZ a c) (AZ a d)) e)
 |_=>Z
def Aww(a:AH)(b:E):Option Nx:=V (.val (.pointer (V ⟨a.n,0,Z⟩)) (a.new (.cells b)))
def aoT(a:b_)(b:E):AO:=Av (TM a) (.tc a b) (.cells b)
def My(c:Pr)(a:b_)(_:Env)(b:AH):Option Nx:=
 match c.zero a with
 |some c=>V (.val (.pointer (V ⟨b.n,0,Z⟩)) (b.new (aoT a (Aq c))))
 |none=>Z
def Ati(a:c_)(b:Env)(c:AH):Option Nx:=Aww c (Aq (AZ b a))
def Cp(a:Env):List (Nat×c_)→List (Nat×W)
 |[]=>[]
 |(b,c)::d=>(b,AZ a c)::Cp a d
def DS(a:Pr)(b:b_):Option (List Field):=
 match a.CY b with
 |some (.struct a)=>V a.toList
 |_=>Z
def FO(a:Pr):List Field→Option (List (Nat×Nat))
 |[]=>V []
 |f::b=>opt (a.size f.type) fun c=>opt (FO a b) fun d=>V ((f.offset,c)::d)
def SW(a:Pr)(b:b_)(c:Array (Nat×c_))(d:Env)(e:AH):Option Nx:=
 opt (DS a b) fun f=>opt (a.zero b) fun g=>opt (FO a f) fun h=>opt (Ew h (Aq g) (Cp d c.toList)) fun i=>V (.val (.agg i.toArray) e)
def JG(b:Pr)(f:b_)(c:Nat)(g:Array (Nat×c_))(h:Env)(d:AH):Option Nx:=
 opt (AX b f) fun e=>opt (b.zero e) fun i=>opt (b.size e) fun a=>opt (Eb a (DZ (Aq i) c) (Cp h g.toList)) fun j=>
  Av (k_ 1 a&&k_ c 1000&&k_ a 1000) (V (.val (.slice (V ⟨d.n,0,Z⟩) c a) (d.new (.cells j)))) Z
def KH:W→Option H_
 |.pointer (some a)=>V a
 |_=>Z
def Lu(c:Pr)(d:b_)(a:c_)(e:Env)(b:AH):Option Nx:=
 match KH (AZ e a)with
 |some a=>CF b (b.ld c d a)
 |none=>Z
def JF(d:Pr)(e:b_)(a f:c_)(c:Env)(b:AH):Option Nx:=
 match KH (AZ c a)with
 |some a=>(match b.st d e a (AZ c f)with
  |some b=>V (.val undef b)
  |none=>Z)
 |none=>Z
def FC(b:Pr)(c:String):E→Bool
 |[.iface d (.pointer (some _))]=>b.Aw2.any fun a=>Nat.beq a.1 d&&a.2==c
 |_=>false
def GC(e:Pr)(a:c_)(c:Env)(b:AH):Option Nx:=
 match AZ c a with
 |.pointer (some c)=>V (.val (.pointer (V c)) b)
 |.func (.func d) a c=>V (.val (.func (.func d) a c) b)
 |.func (.method d) a c=>cond (FC e d a.toList) (V (.val (.func (.method d) a c) b)) Z
 |_=>Z
def Amq(d:Pr)(e:ae_)(f:b_)(a b:c_)(c:Env)(g:AH):Option Nx:=CF g (Cu d e f a b (AZ c a) (AZ c b))
def unA(b:UnOp)(a:W):Option W:=
 match b with
 |.not=>(match a with|.bool b=>V (.bool (!b))|_=>Z)
 |.neg=>(match Qa a with|some (b,c)=>V (.int b (b.wrap (0-c)))|none=>Z)
 |_=>Z
def oUn(a:UnOp)(b:c_)(c:Env)(d:AH):Option Nx:=CF d (unA a (AZ c b))
def Avz(a:Pr)(b:b_):Bool:=
 match AX a b with
 |some b=>(match a.CY b,a.size b with|some (.int .u8),V 1=>true|_,_=>false)
 |none=>false
def KF(c:Pr)(a:x_)(d:b_)(e:W)(b:AH):Option Nx:=
 match a,e with
 |.int a,.int _ e=>V (.val (.int a (a.wrap e)) b)
 |.string,.string a=>V (.val (.string a) b)
 |.slice _,.string a=>Av (Avz c d&&k_ a.data.toList.length 1000000) (V (.val (.slice (V ⟨b.n,0,Z⟩) a.data.toList.length 1) (b.new (.cells (AW a.data.toList))))) Z
 |_,_=>Z
def Lw(a:Pr)(c b:b_)(d:c_)(e:Env)(f:AH):Option Nx:=opt (a.CY c) fun _=>opt (a.CY b) fun g=>KF a g b (AZ e d) f
def Mx(b:Pr)(a:b_)(c:c_)(d:Env)(e:AH):Option Nx:=
 opt (b.CY a) fun f=>match f with
  |.interface _=>Z
  |_=>V (.val (.iface a (AZ d c)) e)
def ZF(b:Fn)(first c:Array c_)(a:Env)(d:AH):Option Nx:=V (.val (.func b ((first.toList.map (AZ a)).toArray) ((c.toList.map (AZ a)).toArray)) d)
def Ic(b:Option c_)(_:Env)(a:AH):Option Nx:=
 match b with
 |none=>V (.val (.map (V a.n)) (a.new (.map [])))
 |some _=>Z
def KT(b:Pr)(g:b_)(h i:c_)(d:Env)(e:AH):Option Nx:=
 opt (AX b g) fun f=>opt (CW (AZ d h)) fun a=>opt (CW (AZ d i)) fun j=>opt (b.zero f) fun k=>opt (b.size f) fun c=>
  Av (Nat.beq a j&&k_ a 1000000&&k_ 1 c&&k_ c 1000) (V (.val (.slice (V ⟨e.n,0,Z⟩) a c) (e.new (.cells (DZ (Aq k) a))))) Z
def SS(d:Pr)(e:b_)(f:c_)(g b c:Option c_)(a:Env)(h:AH):Option Nx:=
 Av (c.isNone||b.isSome) (CF h (Ov d e (AZ a f) (g.map (AZ a)) (b.map (AZ a)) (c.map (AZ a)))) Z
def IN(a:Pr)(d:b_)(e:c_)(f:Nat)(g:Env)(h:AH):Option Nx:=
 opt (DS a d) fun i=>opt (KH (AZ g e)) fun b=>opt i[f]? fun c=>opt (a.size c.type) fun j=>
  Av (k_ 1 j) (V (.val (.pointer (V ⟨b.block,b.off+c.offset,Z⟩)) h)) Z
def Apy:W→Option E
 |.agg a=>V a.toList
 |_=>Z
def SV(a:Pr)(c:b_)(d:c_)(e:Nat)(f:Env)(g:AH):Option Nx:=
 opt (DS a c) fun h=>opt (Apy (AZ f d)) fun i=>opt h[e]? fun b=>CF g (part? a b.type i b.offset)
def IM(b:Pr)(c:b_)(d e:c_)(a:Env)(f:AH):Option Nx:=CF f (IU b c (AZ a d) (AZ a e))
def SU(b:Pr)(c:b_)(d e:c_)(a:Env)(f:AH):Option Nx:=CF f (Tf b c (AZ a d) (AZ a e))
def Ie(a:c_)(b:Nat)(c:Env)(d:AH):Option Nx:=
 match AZ c a with
 |.tuple a=>CF d a.toList[b]?
 |_=>Z
def mapA(a:AH):W→Option (List (W×W))
 |.map none=>V []
 |.map (some b)=>(match a.get b with
  |some (.map a)=>V a
  |_=>Z)
 |_=>Z
def Hw(a:Pr)(b:b_):Option (x_×b_):=
 match a.CY b with
 |some (.map b c)=>opt (a.CY b) fun d=>V (d,c)
 |_=>Z
def CJ:x_→W→Bool
 |.int _,.int _ _=>true
 |.string,.string _=>true
 |.bool,.bool _=>true
 |_,_=>false
def CQ(b:W)(c:Bool)(a:Option W):W:=Av c (.tuple #[a.getD b,.bool a.isSome]) (a.getD b)
def IL(b:Pr)(f:b_)(g c:c_)(h:Bool)(a:Env)(d:AH):Option Nx:=
 opt (Hw b f) fun e=>opt (mapA d (AZ a g)) fun i=>opt (b.zero e.2) fun j=>Av (CJ e.1 (AZ a c)) (opt (Bc (AZ a c) i) fun k=>V (.val (CQ j h k) d)) Z
def ZN:W→Option Nat
 |.map (some a)=>V a
 |_=>Z
def Lv(e:Pr)(f:b_)(g b h:c_)(a:Env)(c:AH):Option Nx:=
 opt (Hw e f) fun i=>opt (ZN (AZ a g)) fun d=>opt (mapA c (.map (V d))) fun j=>Av (CJ i.1 (AZ a b)) (opt (Bg (AZ a b) (AZ a h) j) fun k=>V (.val undef (c.put d (.map k)))) Z
def Mw(b:Pr)(c:b_)(d:c_)(e:Env)(a:AH):Option Nx:=
 match AZ e d,b.CY c with
 |.string b,some .string=>V (.val (.pointer (V ⟨a.n,0,Z⟩)) (a.new (.iter b.data.toList 0)))
 |_,_=>Z
def Rj(b:AH)(e:Nat)(c:H)(a:Nat):Option Nx:=
 match c[a]? with
 |none=>V (.val (.tuple #[.bool false]) b)
 |some d=>Av (ab_ d.toNat 128) (V (.val (.tuple #[.bool true,.int .i64 a,.int .i32 d.toNat]) (b.put e (.iter c (a+1))))) Z
def ZE(c:c_)(d:Bool)(e:Env)(b:AH):Option Nx:=
 Av d (opt (KH (AZ e c)) fun a=>Av (Nat.beq a.off 0) (match b.get a.block with
  |some (.iter c d)=>Rj b a.block c d
  |_=>Z) Z) Z
def Fp(a:Env):List c_→E
 |[]=>[]
 |x::b=>AZ a x::Fp a b
def Nq(a:E)(b:AH):W→Option Nx
 |.func (.func c) first d=>V (.call c (first.toList++(a++d.toList)) b)
 |_=>Z
def KG(a:Pr)(b:String)(c:E)(d:AH):W→Option Nx
 |.iface e f=>(match Hv a e b with|some g=>V (.call g (f::c) d)|none=>Z)
 |_=>Z
def HG:Option (W×AH)→Option Nx
 |some (a,b)=>V (.val a b)
 |none=>Z
def Eu(d:Pr)(e:b_)(f:Callee)(g:Array b_)(b:Array c_)(a:Env)(c:AH):Option Nx:=
 match f with
 |.builtin f=>HG (Bx d c f g.toList e (Fp a b.toList))
 |.value e=>Nq (Fp a b.toList) c (AZ a e)
 |.invoke e f=>KG d f (Fp a b.toList) c (AZ a e)
def ZG(b:Pr)(c:b_)(a:Call)(d:Env)(e:AH):Option Nx:=Eu b c a.callee a.argTypes a.args d e
def GR(_:Env)(_:AH):Option Nx:=Z
def Cs(c:Pr)(h:b_)(i:Op):Env→AH→Option Nx:=
 @Op.rec (fun _=>Env→AH→Option Nx)
  (fun a=>Vd a)
  (fun a=>Vd a)
  (fun d e b=>Rf d e b)
  (fun b=>My c b)
  (fun _ a=>Ati a)
  (fun b f=>SW c b f)
  (fun b g f=>JG c b g f)
  (fun b g f a=>Lv c b g f a)
  (fun b e=>Lu c b e)
  (fun b e a=>JF c b e a)
  (fun _=>GR)
  (fun _=>GR)
  (fun a=>GC c a)
  (fun e b a j _=>Amq c e b a j)
  (fun e _ a=>oUn e a)
  (fun e j a=>Lw c e j a)
  (fun _ _=>GR)
  (fun b a=>Mx c b a)
  (fun e first j=>ZF e first j)
  (fun _ j=>Ic j)
  (fun _ _=>GR)
  (fun b j d=>KT c b j d)
  (fun b a j k l=>SS c b a j k l)
  (fun b a e=>IN c b a e)
  (fun b a e=>SV c b a e)
  (fun b a e=>IM c b a e)
  (fun b a e=>SU c b a e)
  (fun b a f j=>IL c b a f j)
  (fun b g f a=>Lv c b g f a)
  (fun _ _ _=>GR)
  (fun _ _ _ _=>GR)
  (fun b a=>Mw c b a)
  (fun a b=>ZE a b)
  (fun _=>GR)
  (fun _ _ _ _=>GR)
  (fun a e=>Ie a e)
  (fun d=>ZG c h d)
  (fun _=>GR)
  (fun _=>GR)
  (fun _=>GR)
  (fun _ _=>GR)
  (fun _ _ _=>GR)
  (fun _ _=>GR)
  i
abbrev AQ:=X_→E→AH→Option (W×AH)
def Be(a:Env)(b:Option Tmp)(c:W):Env:= @bB_ Tmp (fun _=>Env) a (fun d=>a.set d (V c)) b
def B2(a:Env)(all:List q_):Option (Nat×Bool)→Bool
 |none=>true
 |some (b,c)=>(match(all[b]?).bind (·.dst)with
  |some b=>(match a.at b with|.bool d=>d==c|_=>false)
  |none=>false)
def Bs(b:AQ)(c:Option Nx):Option (W×AH):=
 opt c fun d=> @Nx.rec (fun _=>Option (W×AH)) (fun e a=>V (e,a)) (fun f g a=>b f g a) d
def D0(f:Pr)(g:AQ)(all:List q_)(h:List q_):Env→AH→Option (Env×AH):=
 @List.rec q_ (fun _=>Env→AH→Option (Env×AH)) (fun a b=>V (a,b))
  (fun c _ d a b=>Av (B2 a all c.guard)
   (opt (Bs g (Cs f c.type c.op a b)) fun i=> @Prod.rec W AH (fun _=>Option (Env×AH)) (fun j e=>Av (k_ b.n e.n) (d (Be a c.dst j) e) Z) i)
   (d (Be a c.dst undef) b)) h
inductive Ex:Type where
 |norm
 |out (id:Nat)
 |ret
def kindOf(a:Pr):Op→Nat
 |.load _ _|.lookup _ _ _ _=>1
 |.alloc _|.box _ _|.buildSlice _ _ _|.makeMap _ _|.makeSlice _ _ _|.range _ _=>2
 |.convert _ b _=>(match a.CY b with|some (.slice _)=>2|_=>0)
 |.store _ _ _|.insert _ _ _ _|.mapUpdate _ _ _ _|.next _ _=>3
 |.call a=>(match a.callee with
  |.builtin .len=>1
  |.builtin .min=>1
  |.builtin .max=>1
  |_=>3)
 |_=>0
def GU(a:List Nat):List Edge→Nat
 |[]=>0
 |e::b=>Av (F_ .any e) (aV_ (aV_ (Nat.shiftLeft 1 e.on) (a.getD e.on 0)) (GU a b)) (GU a b)
def Bq:List q_→List Nat→List Nat
 |[],a=>a
 |b::c,a=>Bq c (a++[GU a b.after.toList])
def tmpsOf(b:List q_)(a:q_):List Tmp:=
 (a.op.operands.toList.filterMap fun|.tmp c=>V c|_=>Z)++(match a.guard with
  |some (a,_)=>((b[a]?).bind (·.dst)).toList
  |none=>[])
def Gk:List q_→Nat→Tmp→Option Nat
 |[],_,_=>Z
 |c::d,a,b=>Av (c.dst==V b) (V a) (Gk d (a+1) b)
structure EX:Type where
 i:Nat
 o:q_
 kind:Nat
 lo:Nat
 hi:Nat
def CD(a:Pr):List q_→Nat→List Nat
 |[],_=>[]
 |d::c,b=>Av (Nat.beq (kindOf a d.op) 3) (b::CD a c (b+1)) (CD a c (b+1))
def Fj(a:Nat→Bool):List Nat→Nat
 |[]=>0
 |x::b=>Av (a x) (Fj a b+1) (Fj a b)
def Oq(e:Pr)(c d:List Nat):List q_→Nat→List EX
 |[],_=>[]
 |f::g,a=>⟨a,f,kindOf e f.op,Fj (fun b=>(c.getD a 0).testBit b) d,Fj (fun b=> !(c.getD b 0).testBit a&& !(Nat.beq b a)) d⟩::Oq e c d g (a+1)
def Cl(a:EX):Bool:=Nat.beq a.kind 3
def Mt(b:List EX):Nat→Nat→List EX
 |0,_=>[]
 |n+1,c=>(b.filter fun a=> !Cl a&&Nat.beq a.lo c)++((b.filter fun a=>Cl a&&Nat.beq a.lo c)++Mt b n (c+1))
def Aiz(b:List q_)(c e:List Nat):Bool:=
 (List.range b.length).all fun a=>match b[a]? with
  |none=>true
  |some d=>
   (d.after.toList.all fun f=> !F_ .any f||ab_ f.on a)&&
   (match d.dst with|some f=>Gk b 0 f==V a|none=>true)&&
   ((tmpsOf b d).all fun f=>match Gk b 0 f with
    |some b=>(c.getD a 0).testBit b||((c.getD b 0).testBit a&& !(Nat.beq b a))
    |none=>true)&&
   (!e.contains a||e.all fun b=>k_ a b||(c.getD a 0).testBit b)
def OR(a:List Nat):List EX→Nat→Bool
 |[],_=>true
 |x::b,al_=> !(al_.testBit x.i)&&Nat.beq (Nat.land (a.getD x.i 0) al_) (a.getD x.i 0)&&OR a b (aV_ al_ (Nat.shiftLeft 1 x.i))
def ZB(b c:List Nat)(d:Nat)(a:List EX):Bool:=
 OR b a 0&&((List.range d).all fun e=>a.any fun f=>Nat.beq f.i e)&&((a.filter Cl).map (·.i)==c)
structure Rec:Type where
 s:EX
 e:Env
 h:AH
 v:W
 h':AH
 w:Bool
def Bp(e:Pr)(f:AQ)(all:List q_):List EX→Env→AH→Option (List Rec×Env×AH)
 |[],a,b=>V ([],a,b)
 |s::g,a,b=>Av (B2 a all s.o.guard)
   (opt (Bs f (Cs e s.o.type s.o.op a b)) fun c=>Av (k_ b.n c.2.n) (opt (Bp e f all g (Be a s.o.dst c.1) c.2) fun d=>V (⟨s,a,b,c.1,c.2,true⟩::d.1,d.2)) Z)
   (opt (Bp e f all g (Be a s.o.dst undef) b) fun d=>V (⟨s,a,b,undef,b,false⟩::d.1,d.2))
def HV(b:W→W→Bool):E→E→Bool
 |[],[]=>true
 |a::c,d::e=>b a d&&HV b c e
 |_,_=>false
def N5(c:W→W→Bool):W→W→Bool
 |.bool a,.bool b=>a==b
 |.int d a,.int e b=>decide (d=e)&&a==b
 |.string a,.string b=>a.data.toList==b.data.toList
 |.pointer a,.pointer b=>decide (a=b)
 |.slice a f d,.slice b g e=>decide (a=b)&&Nat.beq f g&&Nat.beq d e
 |.map a,.map b=>decide (a=b)
 |.nilFunc,.nilFunc=>true
 |.nilIface,.nilIface=>true
 |.func d a b,.func e f g=>decide (d=e)&&HV c a.toList f.toList&&HV c b.toList g.toList
 |.iface d a,.iface e b=>Nat.beq d e&&c a b
 |.agg a,.agg b=>HV c a.toList b.toList
 |.tuple a,.tuple b=>HV c a.toList b.toList
 |_,_=>false
def IA:Nat→W→W→Bool
 |0=>N5 fun _ _=>false
 |n+1=>N5 (IA n)
def QF:Option AO→Option AO→Bool
 |some (.cells a),some (.cells b)=>HV (IA 4) a b
 |some (.map []),some (.map [])=>true
 |some (.tc c a),some (.tc d b)=>Nat.beq c d&&HV (IA 4) a b
 |some (.iter a c),some (.iter b d)=>a==b&&Nat.beq c d
 |_,_=>false
def AT(a:AH):List Rec→List AH
 |[]=>[a]
 |x::b=>Av (Cl x.s) (x.h::AT a b) (AT a b)
def FY(b:Pr)(c:AQ)(a:Rec)(S:AH):Bool:=
 Av (Nat.beq a.s.kind 1)
  (match Bs c (Cs b a.s.o.type a.s.o.op a.e S)with|some d=>IA 5 d.1 a.v|none=>false)
  (Av (Nat.beq a.s.kind 2) (QF (S.get a.h.n) (a.h'.get a.h.n)) true)
def Ej(a:Pr)(b:AQ)(c:List AH):List Rec→Bool
 |[]=>true
 |x::d=>(!x.w||Cl x.s||((c.drop x.s.lo).take (x.s.hi+1-x.s.lo)).all (FY a b x))&&Ej a b c d
def FQ(b:Pr)(a:List q_):List EX:=Mt (Oq b (Bq a []) (CD b a 0) a 0) ((CD b a 0).length+1) 0
def PH(b:Pr)(a:List q_):Bool:=Aiz a (Bq a []) (CD b a 0)&&ZB (Bq a []) (CD b a 0) a.length (FQ b a)
def Dp(a:Pr)(d:AQ)(c:List q_)(e:Env)(f:AH):Option (Env×AH):=
 Av (PH a c) (opt (Bp a d c (FQ a c) e f) fun b=>Av (Ej a d (AT b.2.2 b.1) b.1) (V b.2) Z) Z
def DV(b:Option (Env×AH)):Option (Ex×Env×AH):=opt b fun a=>V (.norm,a.1,a.2)
def Ka(b:Pr)(c:AQ)(f:Bool)(a:List q_)(d:Env)(e:AH):Option (Ex×Env×AH):=
 Av f (DV (Dp b c a d e)) (DV (D0 b c a a d e))
def EG(a:Env→AH→Option (Ex×Env×AH)):Nat→Env→AH→Option (Ex×Env×AH)
 |0,_,_=>Z
 |k+1,b,c=>match a b c with
  |some (.norm,b,c)=>EG a k b c
  |a=>a
def A4(c:Pr)(d:AQ)(e:Nat):Code→Env→AH→Option (Ex×Env×AH)
 |.skip,a,b=>V (.norm,a,b)
 |.label _,a,b=>V (.norm,a,b)
 |.ret,a,b=>V (.ret,a,b)
 |.exit i,a,b=>V (.out i,a,b)
 |.region _ f g,a,b=>Ka c d g f.toList a b
 |.seq j k,a,b=>(match A4 c d e j a b with
  |some (.norm,g,h)=>A4 c d e k g h
  |l=>l)
 |.cond f j k,a,b=>(match AZ a f with
  |.bool m=>cond m (A4 c d e j a b) (A4 c d e k a b)
  |_=>Z)
 |.block i f,a,b=>(match A4 c d e f a b with
  |some (.out j,g,h)=>cond (Nat.beq i j) (V (.norm,g,h)) (V (.out j,g,h))
  |l=>l)
 |.loop f,a,b=>EG (A4 c d e f) e a b
 |.scope f,a,b=>A4 c d e f a b
 |_,_,_=>Z
def Ia(b:Pr)(a:Env)(c:AH):List ResultVar→Option E
 |[]=>V []
 |.tmp d::e=>(match Ia b a c e with|some f=>V (a.at d::f)|none=>Z)
 |.cell g d::e=>(match a.at g with
  |.pointer (some g)=>(match c.ld b d g,Ia b a c e with
   |some a,some f=>V (a::f)
   |_,_=>Z)
  |_=>Z)
def Iq(a:E):Env:=Tr.of a
def Is(b:Pr)(a:AQ)(d:Nat)(c:Func)(e:E)(f:AH):Option (W×AH):=
 match c.body with
 |some g=>(match A4 b a d g (Iq e) f with
  |some (.norm,d,a)|some (.ret,d,a)=>(match Ia b d a c.results.toList with
   |some [b]=>V (b,a)
   |some b=>V (.tuple b.toArray,a)
   |none=>Z)
  |_=>Z)
 |none=>Z
abbrev Cw:=Tr (E→AH→Option (W×AH))
def Ef(a:Pr)(b:Cw)(c:Nat):Nat→AQ
 |0,_,_,_=>Z
 |n+1,d,e,f=>match b.get d with
  |some g=>g e f
  |none=>(match a.fn.get d with
   |some d=>Is a (Ef a b c n) c d e f
   |none=>Z)
def LW(a:Pr)(b:b_):Option (List (Nat×Nat)×E):=
 opt (DS a b) fun c=>opt (a.zero b) fun d=>opt (FO a c) fun e=>V (e,Aq d)
def TK(a:Pr)(c:b_):Option (Nat×E):=
 opt (AX a c) fun b=>opt (a.zero b) fun d=>opt (a.size b) fun e=>V (e,Aq d)
def Cr(a:Pr)(c:b_)(d:Nat):Option Nat:=opt (DS a c) fun e=>opt e[d]? fun b=>opt (a.size b.type) fun f=>Av (k_ 1 f) (V b.offset) Z
def fdO(b:Pr)(c:b_)(d:Nat):Option (b_×Nat):=opt (DS b c) fun e=>opt e[d]? fun a=>V (a.type,a.offset)
def Qg(a:Pr)(b:b_):Option Nat:=opt (AX a b) fun c=>a.size c
def Cc(a:Pr)(b:b_):Bool:=match a.CY b with|some (.slice _)=>true|_=>false
def Qc(a:Pr)(c d:b_):Option Nat:=
 opt (a.CY d) fun e=>Av (JH e) (opt (AX a c) fun b=>opt (a.size b) fun f=>opt (a.zero b) fun _=>V f) Z
theorem Tr.get_nil{a:Type}(b:Nat):(Tr.nil:Tr a).get b=Z:=rfl
theorem FT{d:Type}(a:Bool)(b c:d):Av a b c=if a=true then b else c:=by cases a<;>rfl
theorem It{e:Type}(a b:Nat)(c d:e):Av (Nat.beq a b) c d=if a=b then c else d:=by rw[FT];simp only[D_]
theorem Tr.Fh{e:Type}(b:Option e)(c d:Tr e)(a:Nat):
  (Tr.node b c d).get a=if a=0 then b else if a%2=1 then c.get (a/2)else d.get (a/2-1):=by
 show Av (Nat.beq a 0) b (Av (Nat.beq (a%2) 1) (c.get (a/2)) (d.get (a/2-1)))=_;rw[It,It]
theorem Tr.Ox{d:Type}(b:Option d)(c a:Nat):
  Tr.Ji b (c+1) .nil a=if a=0 then .node b .nil .nil else if a%2=1 then .node Z (Tr.Ji b c .nil (a/2)) .nil else .node Z .nil (Tr.Ji b c .nil (a/2-1)):=by
 show Av (Nat.beq a 0) (Tr.node b .nil .nil) (Av (Nat.beq (a%2) 1) (Tr.node Z (Tr.Ji b c .nil (a/2)) .nil) (Tr.node Z .nil (Tr.Ji b c .nil (a/2-1))))=_;rw[It,It]
theorem Tr.Em{g:Type}(b e:Option g)(c d:Tr g)(f a:Nat):
  Tr.Ji b (f+1) (.node e c d) a=if a=0 then .node b c d else if a%2=1 then .node e (Tr.Ji b f c (a/2)) d else .node e c (Tr.Ji b f d (a/2-1)):=by
 show Av (Nat.beq a 0) (Tr.node b c d) (Av (Nat.beq (a%2) 1) (Tr.node e (Tr.Ji b f c (a/2)) d) (Tr.node e c (Tr.Ji b f d (a/2-1))))=_;rw[It,It]
theorem Tr.JQ{j:Type}(g:Option j):∀(k b:Nat) (i:Tr j) (a:Nat),b<k→(Tr.Ji g k i b).get a=if a=b then g else i.get a
 |0,b,_,_,l=>absurd l (Nat.not_lt_zero b)
 |k+1,b,i,a,l=>by
  cases i with
  |nil=>
   rw[Tr.Ox];by_cases e:b=0
   ·subst e
    rw[Agd rfl,Tr.Fh];by_cases c:a=0
    ·simp_all
    rw[Akt c,Akt c];split<;>simp[Tr.get_nil]
   rw[Akt e];by_cases h:b%2=1
   ·rw[Agd h,Tr.Fh]
    by_cases c:a=0
    ·subst c;rw[Agd rfl,Akt (Ne.symm e)];rfl
    rw[Akt c];by_cases d:a%2=1
    ·rw[Agd d,Tr.JQ g k (b/2) .nil (a/2) (by omega)]
     by_cases f:a=b
     ·simp_all
     rw[Akt f,Jl];rfl
    rw[Akt d,Jl];rfl
   rw[Akt h,Tr.Fh];by_cases c:a=0
   ·subst c;rw[Agd rfl,Akt (Ne.symm e)];rfl
   rw[Akt c];by_cases d:a%2=1
   ·rw[Agd d,Jl];rfl
   rw[Akt d,Tr.JQ g k (b/2-1) .nil (a/2-1) (by omega)];by_cases f:a=b
   ·simp_all
   rw[Akt f,Jl];rfl
  |node o m n=>
   rw[Tr.Em];by_cases e:b=0
   ·subst e
    rw[Agd rfl,Tr.Fh,Tr.Fh];by_cases c:a=0
    ·simp_all
    simp_all
   rw[Akt e];by_cases h:b%2=1
   ·rw[Agd h,Tr.Fh,Tr.Fh]
    by_cases c:a=0
    ·subst c;rw[Agd rfl,Akt (Ne.symm e),Agd rfl]
    rw[Akt c,Akt c];by_cases d:a%2=1
    ·rw[Agd d,Agd d,Tr.JQ g k (b/2) m (a/2) (by omega)]
     by_cases f:a=b
     ·simp_all
     rw[Akt f,Jl]
    rw[Akt d,Akt d,Jl]
   rw[Akt h,Tr.Fh,Tr.Fh];by_cases c:a=0
   ·subst c;rw[Agd rfl,Akt (Ne.symm e),Agd rfl]
   rw[Akt c,Akt c];by_cases d:a%2=1
   ·rw[Agd d,Agd d,Jl]
   rw[Akt d,Akt d,Tr.JQ g k (b/2-1) n (a/2-1) (by omega)];by_cases f:a=b
   ·simp_all
   rw[Akt f,Jl]
theorem Tr.C6{e:Type}(c:Tr e)(a:Nat)(d:Option e)(b:Nat):(c.set a d).get b=if b=a then d else c.get b:=
 Tr.JQ d (a+1) a c b (Nat.lt_succ_self a)
theorem Tr.Px{e:Type}:∀(d:List e) (b:Nat) (c:Tr e) (a:Nat),(Tr.SR d b c).get a=if b≤a∧a<b+d.length then d[a-b]? else c.get a
 |[],b,c,a=>by
  show c.get a=_;rw[Akt (by simp)]
 |x::d,b,c,a=>by
  show(Tr.SR d (b+1) (c.set b (V x))).get a=_;rw[Tr.Px d (b+1) _ a,Tr.C6];by_cases c:a=b
  ·subst c
   rw[Jl,Agd rfl,Agd ⟨h_ _,by simp⟩];simp
  rw[Akt c];by_cases c:b+1≤a∧a<b+1+d.length
  ·rw[Agd c,Agd ⟨by omega,by simp only[S_];omega⟩,show a-b=(a-(b+1))+1 by omega,m_]
  rw[Akt c,Akt (by simp only[S_];omega)]
theorem Tr.MH{c:Type}(a:List c)(b:Nat):(Tr.of a).get b=a[b]? :=by
 unfold Tr.of;rw[Tr.Px];by_cases c:b<a.length
 ·simp_all
 rw[Jl];rw[av_ (by omega)];rfl
theorem AH.IW(b:AH)(c:Nat)(d:AO)(a:Nat):(b.put c d).get a=if a=c then V d else b.get a:=Tr.C6 _ _ _ _
theorem AH.Ko(b:AH)(c a:Nat):(b.del c).get a=if a=c then Z else b.get a:=Tr.C6 _ _ _ _
theorem AH.Er(a:AH)(c:AO)(b:Nat):(a.new c).get b=if b=a.n then V c else a.get b:=Tr.C6 _ _ _ _
@[simp]theorem AH.Aw1(a:AH)(b:Nat):(a.del b).n=a.n:=rfl
@[simp]theorem AH.Rl(a:AH)(b:AO):(a.new b).n=a.n+1:=rfl
theorem Env.YH(b:Env)(c:Nat)(d:W)(a:Nat):Env.at (b.set c (V d)) a=if a=c then d else b.at a:=by unfold Env.at;rw[Tr.C6];split<;>rfl
abbrev DA:=Nat→Option (Nat×Nat)
mutual
inductive VR(ρ:DA)(sz:Nat→Nat):W→W→Prop
 |bool (b:Bool):VR ρ sz (.bool b) (.bool b)
 |int (k:aU_) (n:Int):VR ρ sz (.int k n) (.int k n)
 |float (k:FloatKind) (n:Nat):VR ρ sz (.float k n) (.float k n)
 |string (s:ByteArray):VR ρ sz (.string s) (.string s)
 |Amc:VR ρ sz (.pointer Z) (.pointer Z)
 |Am4:VR ρ sz (.map Z) (.map Z)
 |Aof:VR ρ sz .nilFunc .nilFunc
 |An5:VR ρ sz .nilIface .nilIface
 |H4 (k:Nat):VR ρ sz (.slice Z 0 k) (.slice Z 0 0)
 |ptr (b o b' s:Nat) (h:ρ b=V (b',s)):VR ρ sz (.pointer (V ⟨b,o,Z⟩)) (.pointer (V ⟨b',s+o,Z⟩))
 |sl (b o b' s len k cap:Nat) (h:ρ b=V (b',s)) (hc:len≤cap) (hz:s+o+cap*k≤sz b'):
   VR ρ sz (.slice (V ⟨b,o,Z⟩) len k) (.slice (V ⟨b',s+o,Z⟩) len cap)
 |s0 (a a':H_) (k:Nat):VR ρ sz (.slice (V a) 0 k) (.slice (V a') 0 0)
 |map (b b':Nat) (h:ρ b=V (b',0)):VR ρ sz (.map (V b)) (.map (V b'))
 |func (fn:Fn) (f f' c c':E) (hf:Cv ρ sz f f') (hc:Cv ρ sz c c'):VR ρ sz (.func fn f.toArray c.toArray) (.func fn f'.toArray c'.toArray)
 |iface (t:b_) (v v':W) (h:VR ρ sz v v'):VR ρ sz (.iface t v) (.iface t v')
 |agg (l l':E) (h:Cv ρ sz l l'):VR ρ sz (.agg l.toArray) (.agg l'.toArray)
 |tuple (l l':E) (h:Cv ρ sz l l'):VR ρ sz (.tuple l.toArray) (.tuple l'.toArray)
inductive Cv(ρ:DA)(sz:Nat→Nat):E→E→Prop
 |nil:Cv ρ sz [] []
 |cons (v v':W) (l l':E) (h:VR ρ sz v v') (hl:Cv ρ sz l l'):Cv ρ sz (v::l) (v'::l')
end
section
variable{ρ ρ':DA}{sz sz':Nat→Nat}
mutual
theorem VR.mono(d:∀a b,ρ a=V b→ρ' a=V b)(e:∀a b,ρ a=V b→sz' b.1=sz b.1):∀{h i:W},VR ρ sz h i→VR ρ' sz' h i
 |_,_,.bool a=>.bool a
 |_,_,.int c b=>.int c b
 |_,_,.float c b=>.float c b
 |_,_,.string f=>.string f
 |_,_,.Amc=>.Amc
 |_,_,.Am4=>.Am4
 |_,_,.Aof=>.Aof
 |_,_,.An5=>.An5
 |_,_,.H4 c=>.H4 c
 |_,_,.ptr a j g f b=>.ptr a j g f (d _ _ b)
 |_,_,.sl a j g f l c m b k n=>.sl a j g f l c m (d _ _ b) k (by rw[e _ _ b];exact n)
 |_,_,.s0 f j c=>.s0 f j c
 |_,_,.map a g b=>.map a g (d _ _ b)
 |_,_,.func a c f g j l k=>.func a c f g j (Cv.mono d e l) (Cv.mono d e k)
 |_,_,.iface a h i b=>.iface a h i (VR.mono d e b)
 |_,_,.agg a c b=>.agg a c (Cv.mono d e b)
 |_,_,.tuple a c b=>.tuple a c (Cv.mono d e b)
theorem Cv.mono(e:∀b a,ρ b=V a→ρ' b=V a)(f:∀b a,ρ b=V a→sz' a.1=sz a.1):∀{c d:E},Cv ρ sz c d→Cv ρ' sz' c d
 |_,_,.nil=>.nil
 |_,_,.cons a b c d g h=>.cons a b c d (VR.mono e f g) (Cv.mono e f h)
end
theorem Cv.length:∀{a b:E},Cv ρ sz a b→a.length=b.length
 |_,_,.nil=>rfl
 |_,_,.cons _ _ _ _ _ a=>by simp[Cv.length a]
theorem Cv.get:∀{b c:E},Cv ρ sz b c→∀{i:Nat} {v:W},b[i]? =V v→∃a,c[i]? =V a∧VR ρ sz v a
 |_,_,.cons v a b c f d,0,e,g=>⟨a,J,by simp_all⟩
 |_,_,.cons v a b c f d,i+1,e,g=>by
  obtain⟨a,c,b⟩:=Cv.get d (i:=i) (v:=e) (by simp_all);exact⟨a,by simp_all,b⟩
theorem Cv.of:∀{l a:E},l.length=a.length→(∀(c:Nat) (v b:W),l[c]? =V v→a[c]? =V b→VR ρ sz v b)→Cv ρ sz l a
 |[],[],_,_=>.nil
 |v::l,b::a,g,d=>.cons v b l a (d 0 v b J J) (Cv.of (by simp_all) fun c e f h i=>d (c+1) e f (by simp_all) (by simp_all))
theorem Cv.append:∀{a b c d:E},Cv ρ sz a b→Cv ρ sz c d→Cv ρ sz (a++c) (b++d)
 |_,_,_,_,.nil,c=>c
 |_,_,_,_,.cons d e a b c f,g=>.cons d e _ _ c (Cv.append f g)
theorem Cv.drop:∀{b c:E},Cv ρ sz b c→∀a,Cv ρ sz (b.drop a) (c.drop a)
 |_,_,b,0=>b
 |_,_,.nil,a+1=>by simpa using Cv.nil
 |_,_,.cons _ _ _ _ _ b,a+1=>by simpa using Cv.drop b a
theorem Cv.take:∀{b c:E},Cv ρ sz b c→∀a,Cv ρ sz (b.take a) (c.take a)
 |_,_,d,0=>by simpa using Cv.nil
 |_,_,.nil,a+1=>by simpa using Cv.nil
 |_,_,.cons e f b c d g,a+1=>by simpa using Cv.cons e f _ _ d (Cv.take g a)
theorem VR.undef:VR ρ sz undef undef:=.tuple [] [] .nil
end
theorem VR.GQ{ρ:DA}{sz:Nat→Nat}{b:W}(a:DC b=true):VR ρ sz b b:=by
 unfold DC at a;split at a<;>first|exact .bool _|exact .int _ _|exact .float _ _|exact .string _|exact .Aof|exact .An5|exact .Amc|exact .Am4|skip
 ·simp at a;obtain⟨rfl,rfl⟩:=a;exact .H4 0
 cases a
theorem Cv.GQ{ρ:DA}{sz:Nat→Nat}:∀{a:E},a.all DC=true→Cv ρ sz a a
 |[],_=>.nil
 |v::a,b=>by
  simp only[bi_,a_]at b;exact .cons v v a a (VR.GQ b.1) (Cv.GQ b.2)
theorem VR.Fe{ρ:DA}{sz:Nat→Nat}{b:W}(a:Fz b=true):VR ρ sz b b:=by
 unfold Fz at a;split at a
 ·rename_i b;exact .agg b.toList b.toList (Cv.GQ a)
 ·rename_i b;exact .tuple b.toList b.toList (Cv.GQ a)
 exact VR.GQ a
def Au(a:f_)(b:Nat):Nat:=match a.heap[b]? with|some (.cells c _ _)=>c.size|_=>0
def MV(ρ:DA)(sz:Nat→Nat):List (W×W)→List aG_→Prop
 |[],[]=>True
 |(a,c)::d,b::e=>DC a=true∧b.key=a∧VR ρ sz c b.val∧MV ρ sz d e
 |_,_=>False
def Py(a:Nat×Nat)(b:Nat):Prop:=a.2≤a.1∨b≤a.1
def G9(ρ:DA)(b:f_)(a:AO)(i c:Nat):Prop:=
 match a with
 |.cells d=>∃a j h,b.heap[i]? =V (.cells a j h)∧Py h a.size∧c+d.length≤a.size∧∀(e:Nat) (f:W),d[e]? =V f→∃g,a[c+e]? =V g∧VR ρ (Au b) f g
 |.map l=>c=0∧∃k m,b.heap[i]? =V (.map k m)∧MV ρ (Au b) l k.toList
 |.iter k l=>c=0∧b.heap[i]? =V (.stringIter ⟨k.toArray⟩ l)
 |.tc k d=>∃a h,b.heap[i]? =V (.cells a k h)∧Py h a.size∧c+d.length≤a.size∧(∀(e:Nat) (f:W),d[e]? =V f→∃g,a[c+e]? =V g∧VR ρ (Au b) f g)∧(TM k=true→c=0∧a.size=d.length)
 |.ro d=>∃a j h,b.heap[i]? =V (.cells a j h)∧c+d.length≤a.size∧∀(e:Nat) (f:W),d[e]? =V f→∃g,a[c+e]? =V g∧VR ρ (Au b) f g
theorem G9.Ld{ρ:DA}{a:f_}{b:b_}{c:E}{d e:Nat}(f:G9 ρ a (.tc b c) d e):G9 ρ a (.cells c) d e:=by obtain⟨a,c,d,e,g,h,_⟩:=f;exact⟨a,b,c,d,e,g,h⟩
def Vt(a:Nat):Bool:=a==1
def Xg:Array W:=((List.range 20).map fun a=>Value.int .u64 ((10^a:Nat):Int)).toArray
def QJ(a:f_):Prop:=∃b c,a.heap[1]? =V (.cells Xg b c)
theorem QJ.Ak{b c:f_}(d:QJ b)(e:∀a,Vt a=true→c.heap[a]? =b.heap[a]?):QJ c:=by obtain⟨a,b,c⟩:=d;exact⟨a,b,(e _ (by decide)).trans c⟩
theorem QJ.lt{a:f_}(c:QJ a){b:Nat}(d:Vt b=true):b<a.heap.size:=by obtain⟨b,e,a⟩:=c;have b:=(o_.1 a).1;have:=eq_of_beq d;omega
theorem QJ.off{a:f_}(b:QJ a):Vt a.heap.size=false:=by
 cases c:Vt a.heap.size with
 |false=>rfl
 |true=>exact absurd (b.lt c) (Nat.lt_irrefl _)
theorem S5{a b:Nat}(c:Vt a=false)(d:Vt b=true):b≠a:=fun e=>by simp_all
structure R(ng:Nat)(ρ:DA)(h:AH)(w:f_):Prop where
 lt:∀b o,h.get b=V o→b<h.n
 J5:∀b x,ρ b=V x→x.1<w.heap.size
 cont:∀b o b' s,h.get b=V o→ρ b=V (b',s)→G9 ρ w o b' s
 inj:∀b1 b2 b' s1 s2 o1 o2,h.get b1=V o1→h.get b2=V o2→ρ b1=V (b',s1)→ρ b2=V (b',s2)→b1=b2
 Ks:∀g,g<ng→ρ g=V (g,0)
 ngn:ng≤h.n
 Uh:QJ w
 off:∀b o b' s,h.get b=V o→ρ b=V (b',s)→Vt b'=false
def KI(h i:f_)(d e j:Nat):Prop:=∀b f g,h.heap[d]? =V (.cells b f g)→∃c,i.heap[d]? =V (.cells c f g)∧c.size=b.size∧∀a,a<e∨e+j≤a→c[a]? =b[a]?
theorem KI.of{b c:f_}{a e f:Nat}(g:a<b.heap.size→c.heap[a]? =b.heap[a]?):KI b c a e f:=fun h i j d=>⟨h,(g (o_.1 d).1).trans d,J,fun _ _=>rfl⟩
theorem KI.trans{d e f:f_}{a b c:Nat}(i:KI d e a b c)(j:KI e f a b c):KI d f a b c:=fun k g h l=>by
 obtain⟨c1,h1,c,d⟩:=i k g h l;obtain⟨c2,e,f,i⟩:=j c1 g h h1;exact⟨c2,e,f.trans c,fun a b=>(i a b).trans (d a b)⟩
structure Step(ρ:DA)(h:AH)(w:f_)(ρ':DA)(h':AH)(w':f_):Prop where
 ext:∀b x,ρ b=V x→ρ' b=V x
 D2:∀b,b<h.n∨h'.n≤b→ρ' b=ρ b
 n:h.n≤h'.n
 size:w.heap.size≤w'.heap.size
 Ak:∀b',b'<w.heap.size→(∀b o s,h.get b=V o→o.rw=true→ρ b≠V (b',s))→w'.heap[b']? =w.heap[b']?
 sz:∀b',b'<w.heap.size→Au w' b'=Au w b'
 live:∀b o b' s,h'.get b=V o→o.rw=true→ρ' b=V (b',s)→b'<w.heap.size→∃b0 o0 s0,h.get b0=V o0∧o0.rw=true∧ρ b0=V (b',s0)
 back:∀b l',b<h.n→h'.get b=V (.cells l')→∃l,h.get b=V (.cells l)
 outer:∀b l l' b' s,b<h.n→h.get b=V (.cells l)→h'.get b=V (.cells l')→ρ b=V (b',s)→l'.length=l.length∧KI w w' b' s l.length
 os:w'.os=w.os
 output:w'.output=w.output
 tape:w'.tape=w.tape
theorem Step.refl(ρ:DA)(a:AH)(b:f_):Step ρ a b ρ a b:=
 ⟨fun _ _ a=>a,fun _ _=>rfl,h_ _,h_ _,fun _ _ _=>rfl,fun _ _=>rfl,fun d e i f c g b _=>⟨d,e,f,c,g,b⟩,fun _ h _ a=>⟨h,a⟩,fun _ _ _ _ _ _ c b _=>by rw[c]at b;cases b;exact⟨J,.of fun _=>rfl⟩,J,J,J⟩
theorem Step.trans{ρ c d:DA}{e h1 g:AH}{f h i:f_}(a:Step ρ e f c h1 h)(b:Step c h1 h d g i):Step ρ e f d g i where
 ext c e d:=b.ext _ _ (a.ext _ _ d)
 D2 c d:=by have e:=a.n;have e:=b.n;rw[b.D2 c (by omega),a.D2 c (by omega)]
 n:=A_ a.n b.n
 size:=A_ a.size b.size
 Ak e f s:=by
  rw[b.Ak e (p_ f a.size) (fun c j h d k i=>by
   obtain⟨l,m,o,p,q,r⟩:=a.live c j e h d k i f;exact s l m o p q r),a.Ak e f s]
 sz e f:=by rw[b.sz e (p_ f a.size),a.sz e f]
 live c j e h d k i f:=by obtain⟨l,m,o,p,q,r⟩:=b.live c j e h d k i (p_ f a.size);exact a.live l m e o p q r f
 back c f d h1:=let⟨j,g⟩:=b.back c f (p_ d a.n) h1;a.back c j d g
 outer c j f e h d h1 g i:=by obtain⟨k,l⟩:=b.back c f (p_ d a.n) g;obtain⟨m,o⟩:=a.outer c j k e h d h1 l i;obtain⟨j,p⟩:=b.outer c k f e h (p_ d a.n) l g (a.ext _ _ i);exact⟨j.trans m,o.trans (m▸p)⟩
 os:=b.os.trans a.os
 output:=b.output.trans a.output
 tape:=b.tape.trans a.tape
theorem Step.vr{ρ ρ':DA}{b g:AH}{a c:f_}{h:Nat}(d:Step ρ b a ρ' g c)(i:R h ρ b a){e f:W}(j:VR ρ (Au a) e f):VR ρ' (Au c) e f:=
 j.mono d.ext fun a b c=>d.sz _ (i.J5 a b c)
variable{a b c d:Nat}{f g h:AH}{v w:Value}{s t:List UInt8}{l m:List Value}{u:TypeId}{x y:Int}{p:List Nat}{q r:List Int}{e:Env}{o n:Option Addr}
section
variable{ρ ρ':DA}{h:AH}{w w':World}{a:Nat}
theorem MV.mono{d e:Nat→Nat}(f:∀c b,ρ c=V b→ρ' c=V b)(g:∀c b,ρ c=V b→e b.1=d b.1):∀{i:List (W×W)} {j:List aG_},MV ρ d i j→MV ρ' e i j
 |[],[],_=>trivial
 |(_,_)::_,_::_,⟨b,c,d,e⟩=>⟨b,c,d.mono f g,MV.mono f g e⟩
theorem G9.mono{i:AO}(r:∀g d,ρ g=V d→ρ' g=V d)(s:∀g d,ρ g=V d→Au w' d.1=Au w d.1)(f:w'.heap[b]? =w.heap[b]?)(e:G9 ρ w i b c):G9 ρ' w' i b c:=by
 cases i with
 |cells u=>
  obtain⟨c,t,g,b,i,j,k⟩:=e;exact⟨c,t,g,f.trans b,i,j,fun l m n=>let⟨o,p,q⟩:=k l m n;⟨o,p,q.mono r s⟩⟩
 |map v=>
  obtain⟨v,x,y,b,i⟩:=e;exact⟨v,x,y,f.trans b,i.mono r s⟩
 |iter d v=>exact⟨e.1,f.trans e.2⟩
 |tc d u=>
  obtain⟨c,g,b,i,j,k,d⟩:=e;exact⟨c,g,f.trans b,i,j,fun l m n=>let⟨o,p,q⟩:=k l m n;⟨o,p,q.mono r s⟩,d⟩
 |ro u=>
  obtain⟨c,t,g,b,j,k⟩:=e;exact⟨c,t,g,f.trans b,j,fun l m n=>let⟨o,p,q⟩:=k l m n;⟨o,p,q.mono r s⟩⟩
theorem BX{w w':f_}(h:w'.heap[b]? =w.heap[b]?):Au w' b=Au w b:=by unfold Au;rw[h]
theorem R.same(b:R a ρ h w)(c:w'.heap=w.heap):R a ρ h w' where
 lt:=b.lt
 J5 d e f:=by rw[c];exact b.J5 d e f
 cont d g i j h1 k:=(b.cont d g i j h1 k).mono (fun _ _ h=>h) (fun d e f=>BX (by rw[c])) (by rw[c])
 inj:=b.inj
 Ks:=b.Ks
 ngn:=b.ngn
 Uh:=b.Uh.Ak fun _ _=>by rw[c]
 off:=b.off
theorem Step.same(c:w'.heap=w.heap)(d:w'.os=w.os)(e:w'.output=w.output)(f:w'.tape=w.tape):Step ρ h w ρ h w' where
 ext _ _ h:=h
 D2 _ _:=rfl
 n:=h_ _
 size:=by simp_all
 Ak _ _ _:=by rw[c]
 sz _ _:=BX (by rw[c])
 live g i l j h1 k b _:=⟨g,i,j,h1,k,b⟩
 back _ g _ h:=⟨g,h⟩
 outer _ _ _ _ _ _ h1 b _:=by rw[h1]at b;cases b;exact⟨J,.of fun _=>by rw[c]⟩
 os:=d
 output:=e
 tape:=f
def DA.new(ρ:DA)(c:Nat)(d:Nat×Nat):DA:=fun b=>if b=c then V d else ρ b
theorem DA.Hp(e:ρ h.n=Z)(d:Nat×Nat):∀b c,ρ b=V c→ρ.new h.n d b=V c:=by
 intro b c d;unfold DA.new;by_cases c:b=h.n
 ·simp_all
 simp_all
def World.more(w:f_)(O:Obj):f_:={w with heap:=w.heap.push O}
theorem World.Gp(O:Obj)(c:b<w.heap.size):(World.more w O).heap[b]? =w.heap[b]? :=by show(w.heap.push O)[b]? =_;simp[Array.getElem?_push,Nat.ne_of_lt c]
theorem World.EK(O:Obj):(World.more w O).heap[w.heap.size]? =V O:=by show(w.heap.push O)[_]? =_;simp
theorem World.Rm(O:Obj):(World.more w O).heap.size=w.heap.size+1:=by show(w.heap.push O).size=_;simp
theorem HZ(e:R a ρ h w)(b:ρ h.n=Z)(c:AO)(O:Obj)(d:G9 (ρ.new h.n (w.heap.size,0)) (World.more w O) c w.heap.size 0):
  R a (ρ.new h.n (w.heap.size,0)) (h.new c) (World.more w O)∧Step ρ h w (ρ.new h.n (w.heap.size,0)) (h.new c) (World.more w O):=by
 have ext:=DA.Hp b (w.heap.size,0);have k:∀b f,ρ b=V f→Au (World.more w O) f.1=Au w f.1:=fun b f i=>BX (World.Gp O (e.J5 b f i));have j:∀b d,(h.new c).get b=V d→(b=h.n∧d=c)∨(b≠h.n∧h.get b=V d):=by
  intro b d c;rw[AH.Er]at c;by_cases g:b=h.n
  ·simp_all
  simp_all
 have g:∀b,b≠h.n→ρ.new h.n (w.heap.size,0) b=ρ b:=fun b c=>by unfold DA.new;rw[Akt c]
 have s:ρ.new h.n (w.heap.size,0) h.n=V (w.heap.size,0):=by unfold DA.new;rw[Agd rfl]
 refine⟨⟨?_,?_,?_,?_,?_,?_,e.Uh.Ak fun b c=>World.Gp O (e.Uh.lt c),?_⟩,⟨ext,?_,bt_ _,?_,?_,?_,?_,?_,?_,J,J,J⟩⟩
 ·intro b d c
  rcases j b d c with⟨rfl,_⟩|⟨_,c⟩
  ·simp
  have:=e.lt b d c;simp;omega
 ·intro b f i
  rw[World.Rm];by_cases c:b=h.n
  ·subst c;rw[s]at i;cases i;simp
  rw[g b c]at i;have:=e.J5 b f i;omega
 ·intro b d i m c f
  rcases j b d c with⟨rfl,rfl⟩|⟨p,c⟩
  ·simp_all
  rw[g b p]at f;exact(e.cont b d i m c f).mono ext k (World.Gp O (e.J5 b _ f))
 ·intro q r i y z t u k l n o
  rcases j q t k with⟨rfl,rfl⟩|⟨v,k⟩<;>rcases j r u l with⟨rfl,rfl⟩|⟨x,l⟩
  ·rfl
  ·rw[s]at n;cases n
   rw[g r x]at o;have:=e.J5 r _ o;simp at this
  ·rw[s]at o;cases o
   rw[g q v]at n;have:=e.J5 q _ n;simp at this
  rw[g q v]at n;rw[g r x]at o;exact e.inj q r i y z t u k l n o
 ·intro n o
  exact ext _ _ (e.Ks n o)
 ·have:=e.ngn;simp;omega
 ·intro b d i m c f
  rcases j b d c with⟨rfl,rfl⟩|⟨p,c⟩
  ·rw[s]at f;cases f;exact e.Uh.off
  rw[g b p]at f;exact e.off b d i m c f
 ·intro b c
  exact g b (by simp at c;omega)
 ·rw[World.Rm];omega
 ·intro i c _;exact World.Gp O c
 ·intro i c;exact BX (World.Gp O c)
 ·intro b d i m c n f e
  rcases j b d c with⟨rfl,rfl⟩|⟨p,c⟩
  ·simp_all
  rw[g b p]at f;exact⟨b,d,m,c,n,f⟩
 ·intro b d c k
  rcases j b _ k with⟨rfl,_⟩|⟨_,k⟩
  ·omega
  simp_all
 intro b g d i m c k l f;rcases j b _ l with⟨rfl,_⟩|⟨_,l⟩
 ·omega
 rw[k]at l;cases l;exact⟨J,.of fun e=>World.Gp O e⟩
theorem Oj(j:R a ρ h w){f m r:Nat}{p q:AO}(s:h.get f=V p)(a3:p.rw=true)(y:ρ f=V (m,r))
  (K:w'.heap.size=w.heap.size) (u:∀e,e≠m→w'.heap[e]? =w.heap[e]?) (ag:Au w' m=Au w m)
  (L:G9 ρ w' q m r) (N:∀P,q=.cells P→∃t,p=.cells t∧P.length=t.length∧KI w w' m r t.length) (a4:w'.os=w.os) (a5:w'.output=w.output) (a6:w'.tape=w.tape):
  R a ρ (h.put f q) w'∧Step ρ h w ρ (h.put f q) w':=by
 have a0:∀e,Au w' e=Au w e:=fun e=>by
  by_cases a7:e=m
  ·simp_all
  exact BX (u e a7)
 have v:∀b d,(h.put f q).get b=V d→(b=f∧d=q)∨(b≠f∧h.get b=V d):=by
  intro b d c;rw[AH.IW]at c;by_cases ah:b=f
  ·simp_all
  simp_all
 have z:∀b d,(h.put f q).get b=V d→∃x,h.get b=V x:=by
  intro b d c;rcases v b d c with⟨rfl,_⟩|⟨_,c⟩
  ·simp_all
  simp_all
 have a8:=j.off f p m r s y;refine⟨⟨?_,?_,?_,?_,j.Ks,j.ngn,j.Uh.Ak fun e L=>u e (S5 a8 L),fun b d g l c i=>let⟨x,c⟩:=z b d c;j.off b x g l c i⟩,⟨fun _ _ h=>h,fun _ _=>rfl,h_ _,Nat.le_of_eq K.symm,?_,fun e _=>a0 e,?_,?_,?_,a4,a5,a6⟩⟩
 ·intro b d c
  obtain⟨x,c⟩:=z b d c;exact j.lt b x c
 ·intro b g i;rw[K];exact j.J5 b g i
 ·intro b d g l c i
  rcases v b d c with⟨rfl,rfl⟩|⟨A,c⟩
  ·simp_all
  refine(j.cont b d g l c i).mono (fun _ _ h=>h) (fun f b c=>a0 _) (u g fun n=>?_);subst n;exact A (j.inj b f g l r d p c s i y)
 ·intro a1 a2 g a9 aa ab ac k o
  obtain⟨_,k⟩:=z a1 ab k;obtain⟨_,o⟩:=z a2 ac o;exact j.inj a1 a2 g a9 aa _ _ k o
 ·intro e _ ai
  exact u e fun n=>by simp_all
 ·intro b d g l c ad i _
  rcases v b d c with⟨rfl,_⟩|⟨_,c⟩
  ·exact⟨b,p,l,s,a3,i⟩
  exact⟨b,d,l,c,ad,i⟩
 ·intro b F _ k
  rcases v b _ k with⟨rfl,n⟩|⟨_,k⟩
  ·obtain⟨t,rfl,_⟩:=N F n.symm
   exact⟨t,s⟩
  simp_all
 intro b t F g l _ k o i;rcases v b _ o with⟨rfl,n⟩|⟨A,o⟩
 ·obtain⟨aj,rfl,ae,af⟩:=N F n.symm
  rw[s]at k;cases k;rw[y]at i;cases i;exact⟨ae,af⟩
 rw[k]at o;cases o;exact⟨J,.of fun _=>u g fun n=>by subst n;exact A (j.inj b f g l r _ p k s i y)⟩
theorem R.del(e:R a ρ h w)(d:Nat):R a ρ (h.del d) w:=by
 have f:∀b c,(h.del d).get b=V c→h.get b=V c:=by
  intro b c d;rw[AH.Ko]at d;split at d
  ·cases d
  exact d
 exact⟨fun b c d=>e.lt b c (f b c d),e.J5,fun b c g i d j=>e.cont b c g i (f b c d) j,
  fun k l g m n o p q r=>e.inj k l g m n o p (f _ _ q) (f _ _ r),e.Ks,e.ngn,e.Uh,fun b c g i d j=>e.off b c g i (f b c d) j⟩
theorem Step.del(b:R a ρ h w)(c:Nat):Step ρ h w ρ (h.del c) w:=by
 have e:∀b d,(h.del c).get b=V d→h.get b=V d:=by
  intro b d c;rw[AH.Ko]at c;split at c
  ·cases c
  exact c
 exact⟨fun _ _ h=>h,fun _ _=>rfl,h_ _,h_ _,fun _ _ _=>rfl,fun _ _=>rfl,fun b f j g c k l _=>⟨b,f,g,e b f c,k,l⟩,fun b i _ c=>⟨i,e b _ c⟩,fun b i n j g _ m d _=>by have d:=e b _ d;rw[m]at d;cases d;exact⟨J,.of fun _=>rfl⟩,J,J,J⟩
theorem QZ(i:R a ρ h w)(ab:ρ h.n=Z){j d m n:Nat}{o z:AO}(t:h.get j=V o)(ac:o.rw=true)(r:ρ j=V (d,m))
  (a2:w'.heap.size=w.heap.size) (A:∀g,g≠d→w'.heap[g]? =w.heap[g]?) (ap:Au w' d=Au w d)
  (a3:G9 (ρ.new h.n (d,n)) w' z d n) (ad:w'.os=w.os) (ae:w'.output=w.output) (af:w'.tape=w.tape):
  R a (ρ.new h.n (d,n)) ((h.del j).new z) w'∧Step ρ h w (ρ.new h.n (d,n)) ((h.del j).new z) w':=by
 have ext:=DA.Hp ab (d,n);have a4:∀g,Au w' g=Au w g:=fun g=>by
  by_cases ag:g=d
  ·simp_all
  exact BX (A g ag)
 have p:∀b f,((h.del j).new z).get b=V f→(b=h.n∧f=z)∨(b≠h.n∧b≠j∧h.get b=V f):=by
  intro b f c;rw[AH.Er,AH.Aw1,AH.Ko]at c;by_cases aq:b=h.n
  ·simp_all
  simp_all
 have l:∀b,b≠h.n→ρ.new h.n (d,n) b=ρ b:=fun b c=>by unfold DA.new;rw[Akt c]
 have N:ρ.new h.n (d,n) h.n=V (d,n):=by unfold DA.new;rw[Agd rfl]
 have ah:=i.off j o d m t r;refine⟨⟨?_,?_,?_,?_,?_,?_,i.Uh.Ak fun g a3=>A g (S5 ah a3),?_⟩,⟨ext,?_,bt_ _,Nat.le_of_eq a2.symm,?_,fun g _=>a4 g,?_,?_,?_,ad,ae,af⟩⟩
 ·intro b f c
  rcases p b f c with⟨rfl,_⟩|⟨_,_,c⟩
  ·simp
  have:=i.lt b f c;simp;omega
 ·intro b k e
  rw[a2];by_cases c:b=h.n
  ·subst c;rw[N]at e;cases e;show d<_;exact i.J5 j (d,m) r
  rw[l b c]at e;exact i.J5 b k e
 ·intro b f k q c e
  rcases p b f c with⟨rfl,rfl⟩|⟨u,F,c⟩
  ·simp_all
  rw[l b u]at e;refine(i.cont b f k q c e).mono ext (fun j b c=>a4 _) (A k fun P=>?_);subst P;exact F (i.inj b j k q m f o c t e r)
 ·intro K L k a5 a6 a0 a1 s v x y
  rcases p K a0 s with⟨rfl,_⟩|⟨a7,ai,a8⟩<;>rcases p L a1 v with⟨rfl,_⟩|⟨a9,aj,aa⟩
  ·rfl
  ·rw[N]at x;cases x
   rw[l L a9]at y;exact absurd (i.inj L j d a6 m a1 o aa t y r) aj
  ·rw[N]at y;cases y
   rw[l K a7]at x;exact absurd (i.inj K j d a5 m a0 o a8 t x r) ai
  rw[l K a7]at x;rw[l L a9]at y;exact i.inj K L k a5 a6 a0 a1 a8 aa x y
 ·intro ak al;exact ext _ _ (i.Ks ak al)
 ·have:=i.ngn;simp;omega
 ·intro b f k q c e
  rcases p b f c with⟨rfl,rfl⟩|⟨u,F,c⟩
  ·simp_all
  rw[l b u]at e;exact i.off b f k q c e
 ·intro b c
  exact l b (by simp at c;omega)
 ·intro g _ ar
  exact A g fun P=>by simp_all
 ·intro b f k q c am e _
  rcases p b f c with⟨rfl,rfl⟩|⟨u,F,c⟩
  ·rw[N]at e;cases e;exact⟨j,o,m,t,ac,r⟩
  rw[l b u]at e;exact⟨b,f,q,c,am,e⟩
 ·intro b an ao s
  rcases p b _ s with⟨rfl,_⟩|⟨_,_,s⟩
  ·omega
  simp_all
 intro b au an k q ao s v e;rcases p b _ v with⟨rfl,_⟩|⟨u,F,v⟩
 ·omega
 rw[s]at v;cases v;exact⟨J,.of fun _=>A k fun P=>by subst P;exact F (i.inj b j k q m _ o s t e r)⟩
end
structure BU(p:Pr):Prop where
 ty:∀t i,p.ty.get t=V i→p.P.info? t=V i
 fn:∀f g,p.fn.get f=V g→p.P.funcs[f]? =V g
 zs:∀t z,p.zero t=V z→Fz z=true
 zl:∀t z n,p.zero t=V z→p.size t=V n→(Aq z).length=n
 by':∀t i,p.ty.get t=V i→i.bytes≤8*i.size+1000
theorem Ad{d e:Type}{c:Option d}{f:d→Option e}{g:e}(h:opt c f=V g):∃b,c=V b∧f b=V g:=by
 cases c with
 |none=>cases h
 |some b=>exact⟨b,J,h⟩
theorem Al{b:Type}{c:Bool}{t:Option b}{d:b}(h:Av c t Z=V d):c=true∧t=V d:=by
 cases c with
 |false=>cases h
 |true=>exact⟨J,h⟩
section
variable{p:Pr}{ρ:DA}{h:AH}{w:World}{a:Nat}
theorem BU.CY(d:BU p){c:x_}(b:p.CY u=V c):p.P.underlying u=V c:=by
 unfold Pr.CY at b;split at b
 ·rename_i c e
  have f:=d.ty u c e;unfold Program.underlying;rw[f];split at b
  ·rename_i g e f
   split at b
   ·rename_i g i
    have j:=d.ty e g i;cases c;cases f;simp only[j,aj_];exact b
   cases b
  rename_i d;cases c with
  |mk c=>
   cases c<;>first|(simp at d;done)|(simp only[s_]at b⊢;exact b)|(exact absurd J (d _ _))
 cases b
theorem BU.size(e:BU p)(d:p.size u=V b):∃c,p.P.info? u=V c∧c.size=b:=by
 unfold Pr.size at d;split at d
 ·rename_i c b
  exact⟨c,e.ty u c b,Option.some.inj d⟩
 cases d
theorem Xw{b:Option W}(h:Vg b=V v):b=V v:=by
 unfold Vg at h;split at h
 ·cases h
 exact h
theorem BU.zero(d:BU p)(c:p.zero u=V v):∃b,p.P.info? u=V b∧b.zero=V v:=by
 unfold Pr.zero at c;split at c
 ·rename_i b e
  exact⟨b,d.ty u b e,Xw c⟩
 cases c
theorem BU.BL(c:BU p)(d:p.size u=V b)(w:f_):(sizeOf u).run p.P w=.ok b w:=by obtain⟨f,b,e⟩:=c.size d;simp[sizeOf,Z_,b,e]
theorem BU.GM(b:BU p)(c:p.zero u=V v)(w:f_):(zeroValue u).run p.P w=.ok v w:=by obtain⟨f,d,e⟩:=b.zero c;simp[zeroValue,Z_,d,e]
theorem BU.A7(c:BU p){b:x_}(d:p.CY u=V b)(w:f_):(underlying u).run p.P w=.ok b w:=
 a7_ (c.CY d) w
theorem BU.Lj(d:BU p){c:Bool}(b:p.agg u=V c)(w:f_):(isAgg u).run p.P w=.ok c w:=by
 unfold Pr.agg at b;split at b
 ·rename_i c e
  simp only[s_]at b;subst b;simp only[isAgg,T,d.A7 e w,Y];cases c<;>rfl
 cases b
theorem Fm{w:f_}{c:Array W}{e:Nat×Nat}(f:w.heap[b]? =V (.cells c u e))(d:Nat):w.cell? ⟨b,d,Z⟩=c[d]? :=by simp[World.cell?,f]
theorem HS(b c d:Nat):(⟨b,c,Z⟩:H_).add d=⟨b,c+d,Z⟩:=by unfold Addr.add;split<;>simp_all
theorem Zq{d:Array W}{e o n:Nat}{c:Nat→Nat}(g:e+l.length≤d.size)(j:∀(b:Nat) (f:W),l[b]? =V f→∃i,d[e+b]? =V i∧VR ρ c f i)(k:o+n≤l.length):
  Cv ρ c ((l.drop o).take n) ((d.toList.drop (e+o)).take n):=by
 refine Cv.of (by simp;omega) fun b f i c g=>?_;rw[G_]at c g;split at c
 ·rw[O_]at c
  rename_i i;rw[Agd i,O_]at g;obtain⟨i,k,l⟩:=j (o+b) f c;have:d.toList[e+o+b]? =V i:=by rw[ah_];simpa using k
  rw[this]at g;cases g;exact l
 cases c
theorem Vw(s:BU p)(t:R a ρ h w){l c f d:Nat}(b:h.ld p u ⟨l,c,Z⟩=V v)(x:ρ l=V (f,d)):
  ∃g,(bp_ u ⟨f,d+c,Z⟩).run p.P w=.ok g w∧VR ρ (Au w) v g:=by
 have y:∀e,G9 ρ w (.ro e) f d→part? p u e c=V v→∃g,(bp_ u ⟨f,d+c,Z⟩).run p.P w=.ok g w∧VR ρ (Au w) v g:=by
  intro e z b;obtain⟨i,q,r,j,m,k⟩:=z;obtain⟨A,z,b⟩:=Ad b;cases A with
  |false=>
   obtain⟨g,A,F⟩:=k c v b;refine⟨g,?_,F⟩;simp only[bp_,T,s.Lj z w,Y,load,Sem.run,Fm j,A,if_false,l_]
  |true=>
   change M4 e c (p.size u)=V v at b;unfold M4 at b;split at b
   ·rename_i g v
    obtain⟨u,b⟩:=Al b;simp only[y_]at u;cases b;have A:=Zq (o:=c) (n:=g) m k u;refine⟨.agg ((i.toList.drop (d+c)).take g).toArray,?_,.agg _ _ A⟩;have A:((i.toList.drop (d+c)).take g).length=g:=by simp;omega
    have u:=bk_ (P:=p.P) w ⟨f,d+c,Z⟩ ((i.toList.drop (d+c)).take g) (by
     intro g F c;rw[HS,Fm j];rw[G_]at c;split at c
     ·simp_all
     cases c)
    rw[A]at u;simp only[bp_,T,s.Lj z w,Y,if_true,s.BL v w,u];rfl
   cases b
 unfold AH.ld at b;split at b
 ·rename_i e c
  obtain⟨i,q,r,j,_,m,k⟩:=t.cont l _ f d c x;exact y e ⟨i,q,r,j,m,k⟩ b
 ·rename_i e c
  obtain⟨i,q,r,j,_,m,k⟩:=(t.cont l _ f d c x).Ld;exact y e ⟨i,q,r,j,m,k⟩ b
 ·rename_i e c
  exact y e (t.cont l _ f d c x) b
 cases b
end
theorem VR.Amm{ρ:DA}{d:Nat→Nat}{b c:W}(h:VR ρ d b c)(e:b.oneCell'=true):c.oneCell'=true:=by cases h<;>first|rfl|(exact e)
theorem Dd(j:v_)(e d:Nat)(i:b_)(f:Nat×Nat):∀(g:E) (b:Nat) (c:Array W) (w:f_),Py f c.size→w.heap[e]? =V (.cells c i f)→d+b+g.length≤c.size→(∀v∈g,v.oneCell'=true)→
  (N_ ⟨e,d,Z⟩ g b).run j w=.ok () (w.setRow e (c.toList.take (d+b)++g++c.toList.drop (d+b+g.length)).toArray)
 |[],b,c,w,_,g,_,_=>by
  simp only[N_,ay_,bC_,T_,List.take_append_drop,Array.toArray_toList];rw[setRow_self w e c i f g];rfl
 |v::k,b,c,w,n,g,l,m=>by
  have o:d+b<c.size:=by simp at l;omega
  have q:w.cell? ⟨e,d+b,Z⟩=V c[d+b]:=by simp[World.cell?,g,o]
  have o:w.frozen? ⟨e,d+b,Z⟩=false:=by obtain⟨r,s⟩:=f;simp only[World.frozen?,g,Bool.and_eq_false_iff,decide_eq_false_iff_not];simp only[Py]at n;omega
  have n:(store ((⟨e,d,Z⟩:H_).add b) v).run j w=.ok () (w.setRow e (c.setIfInBounds (d+b) v)):=by rw[HS,run_store j w _ v _ (m v (by simp)),q];simp[o,setCell_eq_setRow w e (d+b) c i f v g]
  have o:=Dd j e d i f k (b+1) (c.setIfInBounds (d+b) v) (w.setRow e (c.setIfInBounds (d+b) v)) (by simp_all) (a5_ w e c _ i _ g) (by simp at l⊢;omega) (fun q r=>m q (by simp_all));simp only[N_,T,n,Y,o,setRow_setRow];congr 3;have e:=list_seg_step c.toList (d+b) v k (by omega);simpa[ai_,ah_]using e
theorem D5(d:E)(b:Nat)(e:E)(f:b+e.length≤d.length)(c:Nat):
  (A5 d b e)[c]? =if c<b then d[c]? else if c<b+e.length then e[c-b]? else d[c]? :=by
 unfold A5;by_cases f:c<b
 ·rw[Agd f,B_ (by simp;omega),G_,Agd f]
 rw[Akt f,t_ (by simp;omega)];have f:(d.take b).length=b:=by simp;omega
 rw[f];by_cases d:c<b+e.length
 ·rw[Agd d,B_ (by omega)]
 rw[Akt d,t_ (by omega),O_];congr 1;omega
theorem BV(b:E)(c:Nat)(d:E)(e:c+d.length≤b.length):(A5 b c d).length=b.length:=by unfold A5;simp;omega
theorem Cv.NY{ρ:DA}{b:Nat→Nat}:∀{d e:E},Cv ρ b d e→d.all J_=true→∀c∈e,c.oneCell'=true
 |_,_,.nil,_,c,b=>by cases b
 |_,_,.cons i j d e h g,f,c,b=>by
  simp only[bi_,a_]at f;rcases K_.1 b with rfl|b
  ·exact h.Amm f.1
  exact g.NY f.2 c b
theorem VR.Aq{ρ:DA}{b:Nat→Nat}{c d:W}(h:VR ρ b c d):Cv ρ b (Aq c) d.cells.toList:=by
 cases h<;>first|(exact .cons _ _ _ _ (by constructor<;>assumption) .nil)|skip
 rename_i b c h;simpa[YtebhflkemdlbkaaGreatDoor.Aq,Value.cells]using h
section
variable{p:Pr}{ρ:DA}{h:AH}{w:World}{a:Nat}
theorem QP{k m f:E}(r:G9 ρ w (.cells k) b c)
  (t:d+m.length≤k.length) (n:Cv ρ (Au w) m f) (s:m.all J_=true) (o:v_):
  ∃i:f_,(N_ ⟨b,c+d,Z⟩ f).run o w=.ok () i∧(∀g,g≠b→i.heap[g]? =w.heap[g]?)∧i.heap.size=w.heap.size∧(∀g,Au i g=Au w g)∧G9 ρ i (.cells (A5 k d m)) b c∧KI w i b c k.length∧
   (∀e l j,w.heap[b]? =V (.cells e l j)→∃q,i.heap[b]? =V (.cells q l j)∧q.size=e.size)∧i.os=w.os∧i.output=w.output∧i.tape=w.tape:=by
 obtain⟨e,l,j,i,u,q,v⟩:=r;have q:=n.length;have r:∃q,w.heap[b]? =V (.cells e l q)∧q=j:=⟨j,i,J⟩;have q:(N_ ⟨b,c+d,Z⟩ f).run o w=.ok () (w.setRow b (e.toList.take (c+d)++f++e.toList.drop (c+d+f.length)).toArray):=by have:=Dd o b (c+d) l j f 0 e w u i (by omega) (n.NY s);simpa using this
 have r:=a5_ w b e (e.toList.take (c+d)++f++e.toList.drop (c+d+f.length)).toArray l j i;have o:Au (w.setRow b (e.toList.take (c+d)++f++e.toList.drop (c+d+f.length)).toArray) b=Au w b:=by unfold Au;rw[r,i];simp;omega
 have x:∀g,Au (w.setRow b (e.toList.take (c+d)++f++e.toList.drop (c+d+f.length)).toArray) g=Au w g:=fun g=>by
  by_cases o:g=b
  ·simp_all
  exact BX (am_ w b g _ o)
 have y:KI w (w.setRow b (e.toList.take (c+d)++f++e.toList.drop (c+d+f.length)).toArray) b c k.length:=fun z A F o=>by
  rw[i]at o;cases o;refine⟨_,r,by simp;omega,fun K s=>?_⟩;have s:(e.toList.take (c+d)++f++e.toList.drop (c+d+f.length))=A5 e.toList (c+d) f:=by unfold A5;simp
  rw[s,g_,D5 e.toList (c+d) f (by simp;omega) K];split
  ·simp
  rw[Jl];simp
 refine⟨_,q,fun g n=>am_ w b g _ n,by simp,x,?_,y,fun z A F o=>?_,J,J,J⟩;rotate_left
 ·rw[i]at o;cases o
  exact⟨_,r,by simp;omega⟩
 refine⟨_,l,j,r,by rw[show((e.toList.take (c+d)++f++e.toList.drop (c+d+f.length)).toArray).size=e.size by simp;omega];exact u,by rw[BV k d m t];simp;omega,fun o q i=>?_⟩;have s:(e.toList.take (c+d)++f++e.toList.drop (c+d+f.length))=A5 e.toList (c+d) f:=by unfold A5;simp
 rw[s];rw[D5 k d m t]at i;have k:=D5 e.toList (c+d) f (by simp;omega) (c+o);have conv:∀{q j:W},VR ρ (Au w) q j→VR ρ (Au (w.setRow b (A5 e.toList (c+d) f).toArray)) q j:=fun i=>i.mono (fun _ _ h=>h) fun g l m=>by simp_all
 simp only[g_];rw[k];split at i
 ·rename_i f
  rw[ifP];obtain⟨j,e,b⟩:=v o q i;exact⟨j,by simp_all,conv b⟩
 rename_i f;rw[Jl];split at i
 ·rename_i f
  rw[ifP];obtain⟨j,e,b⟩:=n.get i;exact⟨j,by rw[show c+o-(c+d)=o-d by omega];exact e,conv b⟩
 rename_i f;rw[Jl];obtain⟨j,e,b⟩:=v o q i;exact⟨j,by simp_all,conv b⟩
theorem QO(j:R a ρ h w){d f g e:Nat}{b c k:E}(l:h.get d=V (.cells b))(m:ρ d=V (f,g))
  (n:e+c.length≤b.length) (q:Cv ρ (Au w) c k) (r:c.all J_=true) (o:v_):
  ∃i,(N_ ⟨f,g+e,Z⟩ k).run o w=.ok () i∧R a ρ (h.put d (.cells (A5 b e c))) i∧Step ρ h w ρ (h.put d (.cells (A5 b e c))) i:=by
 obtain⟨i,k,s,t,u,v,x,_,y,z,A⟩:=QP (j.cont d _ f g l m) n q r o;exact⟨i,k,Oj j l J m t s (u _) v (fun f d=>⟨b,J,by cases d;exact BV b e c n,x⟩) y z A⟩
theorem Un(g:R a ρ h w){b d e o:Nat}{c xs xs':E}(i:h.get b=V (.tc u c))(j:ρ b=V (d,e))
  (k:o+xs.length≤c.length) (m:Cv ρ (Au w) xs xs') (n:xs.all J_=true) (l:v_):
  ∃f,(N_ ⟨d,e+o,Z⟩ xs').run l w=.ok () f∧R a ρ (h.put b (.tc u (A5 c o xs))) f∧Step ρ h w ρ (h.put b (.tc u (A5 c o xs))) f:=by
 have f:=g.cont b _ d e i j;obtain⟨e,q,r,s,t,u,_,d,v,x,y⟩:=QP f.Ld k m n l;obtain⟨b,n,l,z,A,F,m⟩:=f;obtain⟨f,b,n⟩:=d _ _ _ l;obtain⟨c2,F,K,d,l,z,A⟩:=u;rw[b]at d;cases d;exact⟨e,q,Oj g i J j s r (t _) ⟨f,_,b,l,z,A,fun d=>by rw[n,BV c o xs k];exact m d⟩ (fun F u=>by cases u) v x y⟩
theorem Afp(q:BU p)(r:R a ρ h w){c d e j:Nat}{k g:W}(b:h.st p u ⟨c,d,Z⟩ k=V f)(s:ρ c=V (e,j))(i:VR ρ (Au w) k g):
  ∃c,(storeVar u ⟨e,j+d,Z⟩ g).run p.P w=.ok () c∧R a ρ f c∧Step ρ h w ρ f c:=by
 unfold AH.st at b;split at b
 ·rename_i t f
  obtain⟨j,k,b⟩:=Ad b;obtain⟨e,b⟩:=Al b;obtain⟨d,b⟩:=Al b;simp only[a_,y_,D_]at d e;cases b;obtain⟨c,l,m,n⟩:=QO r f s d.1 i.Aq d.2 p.P;refine⟨c,?_,m,n⟩;have o:g.cells.size=j:=by rw[←e,i.Aq.length];simp
  simp only[storeVar,T,q.BL k w,Y,o,ne_eq,not_true_eq_false,if_false];simpa using l
 ·rename_i u t f
  obtain⟨j,k,b⟩:=Ad b;obtain⟨e,b⟩:=Al b;obtain⟨d,b⟩:=Al b;simp only[a_,y_,D_]at d e;cases b;obtain⟨c,l,m,n⟩:=Un r f s d.1 i.Aq d.2 p.P;refine⟨c,?_,m,n⟩;have o:g.cells.size=j:=by rw[←e,i.Aq.length];simp
  simp only[storeVar,T,q.BL k w,Y,o,ne_eq,not_true_eq_false,if_false];simpa using l
 simp_all
end
def B6(d:Nat)(i:v_)(f:c_→W)(o:q_)(ρ:DA)(h:AH)(w:f_)(v:W)(h':AH):Prop:=
 ∃b a c,(n_ f o).run i w=.ok b a∧((∃g,b=.value g∧VR c (Au a) v g)∨(b=.skip∧v=undef))∧R d c h' a∧Step ρ h w c h' a
section
variable{p:Pr}{ρ:DA}{h h':AH}{w:World}{d:Nat}{e:Env}{f:Operand→Value}{o:Oper}{v:Value}
theorem B6.pure(a:R d ρ h w){v':W}(b:(n_ f o).run p.P w=.ok (.value v') w)(c:VR ρ (Au w) v v'):B6 d p.P f o ρ h w v h:=
 ⟨_,w,ρ,b,.inl ⟨v',J,c⟩,a,Step.refl ρ h w⟩
theorem El{a:Option W}{v:W}{h h':AH}(b:CF h a=V (.val v h')):a=V v∧h'=h:=by
 cases a with
 |none=>cases b
 |some a=>cases b;exact⟨J,J⟩
theorem VR.DW{c:Nat→Nat}{a:aU_}{b:W}(h:VR ρ c (.int a x) b):b=.int a x:=by cases h;rfl
theorem VR.LU{c:Nat→Nat}{a:Bool}{b:W}(h:VR ρ c (.bool a) b):b=.bool a:=by cases h;rfl
theorem VR.CI{c:Nat→Nat}{a:ByteArray}{b:W}(h:VR ρ c (.string a) b):b=.string a:=by cases h;rfl
theorem VR.Hn{i:Nat→Nat}{a:H_}{g:W}(h:VR ρ i (.pointer (V a)) g):∃b c,ρ a.block=V (b,c)∧a=⟨a.block,a.off,Z⟩∧g=.pointer (V ⟨b,c+a.off,Z⟩):=by
 cases h with
 |ptr a o b c h=>exact⟨b,c,h,J,J⟩
theorem I2{v:W}{a:H_}(h:KH v=V a):v=.pointer (V a):=by
 unfold KH at h;split at h
 ·simp_all
 cases h
theorem GS{v:W}(h:CW v=V a):∃b,v=.int b a:=by
 unfold CW at h;split at h
 ·simp_all
 cases h
theorem O5(c:R d ρ h w){a:c_}(b:o.op=.move a∨o.op=.assign a)(g:VR ρ (Au w) (AZ e a) (f a))(i:Vd a e h=V (.val v h')):B6 d p.P f o ρ h w v h':=by cases i;refine B6.pure c (v':=f a) ?_ g;rcases b with b|b<;>simp only[n_,b,M]
theorem Xh(j:R d ρ h w){c a b:c_}(k:o.op=.pick c a b)(g:VR ρ (Au w) (AZ e c) (f c))(l:VR ρ (Au w) (AZ e a) (f a))(m:VR ρ (Au w) (AZ e b) (f b))(i:Rf c a b e h=V (.val v h')):B6 d p.P f o ρ h w v h':=by
 unfold Rf at i;split at i
 ·rename_i c n
  cases i;rw[n]at g;have g:=g.LU;refine B6.pure j (v':=if c then f a else f b) ?_ ?_
  ·simp only[n_,k,g,asBool,T,M,Y]
  cases c
  ·exact m
  exact l
 cases i
theorem Dr(c:v_)(w:f_)(a:b_)(b:Array W):(newRow a b).run c w=.ok ⟨w.heap.size,0,Z⟩ (World.more w (.cells b a)):=rfl
theorem Atl(c:R d ρ h w)(g:ρ h.n=Z){a:Array W}(b:b_)(i:Cv ρ (Au w) l a.toList):
  R d (ρ.new h.n (w.heap.size,0)) (h.new (.tc b l)) (World.more w (.cells a b))∧Step ρ h w (ρ.new h.n (w.heap.size,0)) (h.new (.tc b l)) (World.more w (.cells a b)):=by
 have b:l.length=a.size:=by have:=i.length;simpa using this
 refine HZ c g _ _ ⟨a,(0,0),World.EK _,.inl (h_ _),by omega,fun k v j=>?_,fun _=>⟨J,b.symm⟩⟩;obtain⟨a,k,b⟩:=i.get j;exact⟨a,by simp_all,b.mono (DA.Hp g _) fun i j k=>BX (World.Gp _ (c.J5 i j k))⟩
theorem Kh(b:R d ρ h w)(g:ρ h.n=Z){l:E}{c:Array W}(a:b_)(i:Cv ρ (Au w) l c.toList):
  R d (ρ.new h.n (w.heap.size,0)) (h.new (.cells l)) (World.more w (.cells c a))∧Step ρ h w (ρ.new h.n (w.heap.size,0)) (h.new (.cells l)) (World.more w (.cells c a)):=by
 refine HZ b g _ _ ⟨c,a,(0,0),World.EK _,.inl (h_ _),by have:=i.length;simp at this;omega,fun k v j=>?_⟩;obtain⟨a,m,k⟩:=i.get j;exact⟨a,by simp_all,k.mono (DA.Hp g _) fun i j m=>BX (World.Gp _ (b.J5 i j m))⟩
theorem JI(a:Nat)(b:Nat×Nat):ρ.new a b a=V b:=by unfold DA.new;rw[Agd rfl]
theorem S1{c:Nat→Nat}(a b:Nat):VR (ρ.new a (b,0)) c (.pointer (V ⟨a,0,Z⟩)) (.pointer (V ⟨b,0,Z⟩)):=by have:=VR.ptr (ρ:=ρ.new a (b,0)) (sz:=c) a 0 b 0 (JI a _);simpa using this
theorem Wt(c:BU p)(i:R d ρ h w)(k:h.n<h'.n→ρ h.n=Z)(l:o.op=.alloc u)(b:My p u e h=V (.val v h')):B6 d p.P f o ρ h w v h':=by
 unfold My at b;split at b
 ·rename_i a g
  cases b;have j:ρ h.n=Z:=k (by simp);have k:R d (ρ.new h.n (w.heap.size,0)) (h.new (aoT u (Aq a))) (World.more w (.cells a.cells u))∧Step ρ h w (ρ.new h.n (w.heap.size,0)) (h.new (aoT u (Aq a))) (World.more w (.cells a.cells u)):=by
   unfold aoT;cases TM u with
   |true=>exact Atl i j u (VR.Fe (ρ:=ρ) (sz:=Au w) (c.zs u a g)).Aq
   |false=>exact Kh i j u (VR.Fe (ρ:=ρ) (sz:=Au w) (c.zs u a g)).Aq
  refine⟨_,_,_,?_,.inl ⟨_,J,S1 h.n w.heap.size⟩,k.1,k.2⟩;simp only[n_,l,Instr.alloc,T,c.GM g w,Y,newVar,Dr,M]
 cases b
theorem Aec(b:R d ρ h w)(c:h.n<h'.n→ρ h.n=Z){a:c_}(g:o.op=.box u a)(i:VR ρ (Au w) (AZ e a) (f a))(j:Ati a e h=V (.val v h')):B6 d p.P f o ρ h w v h':=by cases j;have a:ρ h.n=Z:=c (by simp);obtain⟨c,j⟩:=Kh b a u i.Aq;refine⟨_,_,_,?_,.inl ⟨_,J,S1 h.n w.heap.size⟩,c,j⟩;simp only[n_,g,Instr.box,T,newVar,Dr,Y,M]
theorem Nh(b:Nat):∀(c:E) (a:Nat) (g:Array W),b+a+c.length≤g.size→
  ((c.zipIdx a).foldl (fun(j:Array W) (i:W×Nat)=>j.setIfInBounds (b+i.2) i.1) g).toList=A5 g.toList (b+a) c
 |[],a,g,_=>by simp[A5]
 |x::c,a,g,i=>by
  simp only[S_]at i;simp only[List.zipIdx_cons,List.foldl_cons];rw[Nh b c (a+1) _ (by simp;omega)];apply aR_;intro g;rw[D5 _ _ _ (by simp;omega),D5 _ _ _ (by omega)];simp only[ai_,S_];by_cases i:g<b+a
  ·rw[ifP,Agd i,be_ (by omega)]
  rw[Akt i];by_cases i:g=b+a
  ·subst i
   rw[ifP,ifP,List.getElem?_set_self (by simp;omega)];simp
  rw[Jl];by_cases i:g<b+(a+1)+c.length
  ·rw[Agd i,ifP,show g-(b+a)=(g-(b+(a+1)))+1 by omega,m_]
  rw[Akt i,Jl,be_ (by omega)]
def YT(ρ:DA)(a:Nat→Nat):List (Nat×W)→List (Nat×W)→Prop
 |[],[]=>True
 |(b,v)::c,(g,i)::j=>b=g∧VR ρ a v i∧YT ρ a c j
 |_,_=>False
theorem W1{a:Nat→Nat}{b g c i:E}{o:Nat}(j:Cv ρ a b g)(k:Cv ρ a c i)(l:o+c.length≤b.length):Cv ρ a (A5 b o c) (A5 g o i):=by unfold A5;rw[←k.length];exact(j.take o).append (k.append (j.drop _))
theorem PD{k:Nat→Nat}{place:Nat→Option (Nat×Nat)}(next:E→List (Nat×W)→Option E)
  (r:∀a b,next a []=V b→b=a)
  (s:∀a m v i b,next a ((m,v)::i)=V b→∃g j,place m=V (g,j)∧(Aq v).length=j∧g+j≤a.length∧next (A5 a g (Aq v)) i=V b):
  ∀(l q:List (Nat×W)) (a b:E) (c:Array W),next a l=V b→YT ρ k l q→Cv ρ k a c.toList→
   ∃n,Instr.fill place c q=V n∧Cv ρ k b n.toList
 |[],[],a,b,c,k,_,q=>⟨c,J,by rw[r a b k];exact q⟩
 |(m,v)::i,(z,l)::t,a,b,c,k,⟨u,x,y⟩,q=>by
  subst u;obtain⟨g,j,u,z,A,k⟩:=s a m v i b k;have m:=x.Aq;have a:=m.length;have a:=q.length;have x:l.cells.size=j:=by simp_all
  have z:((l.cells.zipIdx.foldl (fun(j:Array W) (a:W×Nat)=>j.setIfInBounds (g+a.2) a.1) c)).toList=A5 c.toList g l.cells.toList:=by have:=Nh g l.cells.toList 0 c (by simp_all);rw[T_]at this;rw[←this,←Array.foldl_toList,Array.toList_zipIdx]
  obtain⟨n,A,F⟩:=PD next r s i t _ b (l.cells.zipIdx.foldl (fun(j:Array W) (a:W×Nat)=>j.setIfInBounds (g+a.2) a.1) c) k y (by
   rw[z];exact W1 q m (by omega))
  refine⟨n,?_,F⟩;simp only[Instr.fill,u,x];rw[Akt (by simp_all)];exact A
theorem Mn{c:Nat→Nat}:∀(b:List (Nat×c_)),(∀a∈b,VR ρ c (AZ e a.2) (f a.2))→YT ρ c (Cp e b) (b.map fun a=>(a.1,f a.2))
 |[],_=>trivial
 |(c,a)::g,b=>⟨J,b (c,a) (by simp),Mn g fun i j=>b i (by simp_all)⟩
theorem OK(g:BU p):∀(a:List Field) (b:List (Nat×Nat)),FO p a=V b→a.mapM (fun c=>(p.P.info? c.type).map fun i=>(c.offset,i.size))=V b
 |[],b,a=>by cases a;rfl
 |c::j,b,a=>by
  obtain⟨c,b,a⟩:=Ad a;obtain⟨c,k,a⟩:=Ad a;cases a;obtain⟨i,a,l⟩:=g.size b;simp[a8_,a,OK g j c k,l]
theorem IF{b:List Field}(a:DS p u=V b):∃c,p.CY u=V (.struct c)∧c.toList=b:=by
 unfold DS at a;split at a
 ·simp_all
 cases a
theorem Bm{b c:b_}(a:AX p b=V c):p.CY b=V (.slice c):=by
 unfold AX at a;split at a
 ·simp_all
 cases a
theorem PE(g:List (Nat×Nat)):(∀a b,Ew g a []=V b→b=a)∧(∀a i v j b,Ew g a ((i,v)::j)=V b→∃c k,g[i]? =V (c,k)∧(Aq v).length=k∧c+k≤a.length∧Ew g (A5 a c (Aq v)) j=V b):=by
 refine⟨fun a b h=>by simp only[Ew]at h;exact(Option.some.inj h).symm,fun a i v j b h=>?_⟩;simp only[Ew]at h;split at h
 ·rename_i c g i
  cases b:(Nat.beq (Aq v).length g&&k_ (c+g) a.length)with
  |false=>rw[b]at h;cases h
  |true=>
   rw[b]at h;simp only[a_,D_,y_]at b;exact⟨c,g,i,b.1,b.2,h⟩
 cases h
theorem G1(a:Nat):(∀b c,Eb a b []=V c→c=b)∧(∀b g v i c,Eb a b ((g,v)::i)=V c→∃j k,(fun g=>V (g*a,a)) g=V (j,k)∧(Aq v).length=k∧j+k≤b.length∧Eb a (A5 b j (Aq v)) i=V c):=by
 refine⟨fun b c h=>by simp only[Eb]at h;exact(Option.some.inj h).symm,fun b g v i c h=>?_⟩;simp only[Eb]at h;cases c:(Nat.beq (Aq v).length a&&k_ (g*a+a) b.length)with
 |false=>rw[c]at h;cases h
 |true=>
  rw[c]at h;simp only[a_,D_,y_]at c;exact⟨g*a,a,J,c.1,c.2,h⟩
theorem We(g:BU p)(n:R d ρ h w){b:Array (Nat×c_)}(q:o.op=.build u b)(r:∀i∈b.toList,VR ρ (Au w) (AZ e i.2) (f i.2))(a:SW p u b e h=V (.val v h')):B6 d p.P f o ρ h w v h':=by
 obtain⟨c,j,a⟩:=Ad a;obtain⟨k,l,a⟩:=Ad a;obtain⟨c,s,a⟩:=Ad a;obtain⟨m,t,a⟩:=Ad a;cases a;obtain⟨x,y,rfl⟩:=IF j;have z:=(VR.Fe (ρ:=ρ) (sz:=Au w) (g.zs u k l)).Aq;obtain⟨a,A,F⟩:=PD (place:=fun j=>c[j]?) (Ew c) (PE c).1 (PE c).2 _ _ _ m k.cells t (Mn (f:=f) b.toList r) z;refine B6.pure n (v':=.agg a) ?_ (.agg m a.toList F);obtain⟨n,k,m⟩:=g.zero l;have l:p.P.built u (b.map fun(j,i)=>(j,f i)).toList=V a:=by unfold Program.built;simp only[k,g.CY y,m,OK g x.toList c s];simpa using A
 simp only[n_,q,T,run_build w u _ a l,Y,M]
end
section
variable{p:Pr}{ρ:DA}{h h':AH}{w:World}{b:Nat}{e:Env}{f:Operand→Value}{o:Oper}{v:Value}
theorem IJ(a:E):∀k,(DZ a k).length=k*a.length
 |0=>by simp[DZ]
 |k+1=>by simp[DZ,IJ a k,Nat.succ_mul,Nat.add_comm]
theorem Zr(a:E):∀(k c:Nat),(DZ a k)[c]? =if c<k*a.length then a[c%a.length]? else Z
 |0,c=>by simp[DZ]
 |k+1,c=>by
  have d:(k+1)*a.length=a.length+k*a.length:=by rw[Nat.succ_mul,Nat.add_comm]
  rw[d];simp only[DZ];by_cases h:c<a.length
  ·rw[B_ h,ifP,Nat.mod_eq_of_lt h]
  rw[t_ (by omega),Zr a k];by_cases d:c<a.length+k*a.length
  ·rw[ifP,Agd d]
   congr 1;exact(Nat.mod_eq_sub_mod (by omega)).symm
  rw[Jl,Akt d]
theorem Ml(a:Array W)(d:Nat):((Array.range (d*a.size)).map (fun c=>a[c%a.size]!)).toList=DZ a.toList d:=by
 apply aR_;intro c;rw[Zr];simp only[Array.toList_map,Array.toList_range,bq_,Array.length_toList];by_cases h:c<d*a.size
 ·rw[Agd h]
  have g:0<a.size:=by
   rcases Nat.eq_zero_or_pos a.size with d|d
   ·simp_all
   exact d
  have d:c%a.size<a.size:=Nat.mod_lt _ g;simp[h,d]
 rw[Akt h];simp[h]
theorem NI{a:Nat→Nat}{c d:E}(g:Cv ρ a c d):∀k,Cv ρ a (DZ c k) (DZ d k)
 |0=>.nil
 |k+1=>g.append (NI g k)
theorem VR.Rk{d:Nat→Nat}{c B a g:Nat}(h:a*g≤d B):VR (ρ.new c (B,0)) d (.slice (V ⟨c,0,Z⟩) a g) (.slice (V ⟨B,0,Z⟩) a a):=by have:=VR.sl (ρ:=ρ.new c (B,0)) (sz:=d) c 0 B 0 a g a (JI c _) (h_ _) (by omega);simpa using this
theorem QW(a:Array W)(c:b_):Au (World.more w (.cells a c)) w.heap.size=a.size:=by unfold Au;rw[World.EK]
theorem ML(k:BU p)(m:R b ρ h w)(t:h.n<h'.n→ρ h.n=Z){j:Array (Nat×c_)}(x:o.op=.buildSlice u a j)(L:∀g∈j.toList,VR ρ (Au w) (AZ e g.2) (f g.2))
  (d:JG p u a j e h=V (.val v h')):B6 b p.P f o ρ h w v h':=by
 obtain⟨n,u,d⟩:=Ad d;obtain⟨i,r,d⟩:=Ad d;obtain⟨c,s,d⟩:=Ad d;obtain⟨y,q,d⟩:=Ad d;obtain⟨l,d⟩:=Al d;simp only[a_,y_]at l;obtain⟨⟨z,F⟩,K⟩:=l;cases d;have N:ρ h.n=Z:=t (by simp);have P:=Bm u;have t:=k.zl n i c r s;have z:=(VR.Fe (ρ:=ρ) (sz:=Au w) (k.zs n i r)).Aq;have A:i.cells.size=c:=by rw[←t,z.length];simp
 have a0:=Ml i.cells a;have d:a*c≤1000*1000:=ac_ F K;have d:y.length=a*c:=by
  have:∀(u:List (Nat×W)) (d l:E),Eb c d u=V l→l.length=d.length:=by
   intro u;induction u with
   |nil=>intro d l h;rw[(G1 c).1 d l h]
   |cons g m K=>
    intro d l h;obtain⟨a1,a2,_,a3,u,F⟩:=(G1 c).2 d g.1 g.2 m l h;rw[K _ _ F,BV _ _ _ (by omega)]
  rw[this _ _ _ q,IJ,t]
 obtain⟨l,a4,K⟩:=PD (place:=fun d=>V (d*c,c)) (Eb c) (G1 c).1 (G1 c).2 _ _ _ y ((Array.range (a*i.cells.size)).map (fun d=>i.cells[d%i.cells.size]!)) q (Mn (f:=f) j.toList L) (by
  rw[a0];exact NI z a)
 obtain⟨y,z⟩:=Kh m N n K;have L:l.size=a*c:=by have:=K.length;simp at this;omega
 refine⟨.value (.slice (V ⟨w.heap.size,0,Z⟩) a a),_,_,?_,.inl ⟨_,J,VR.Rk (by rw[QW];omega)⟩,y,z⟩;rw[A]at a4;have y:=k.A7 P w;by_cases z:a*c=0
 ·have K:l= #[]:=by simp_all
  have L:j.toList=[]:=by
   cases N:j.toList with
   |nil=>rfl
   |cons g m=>
    rw[N]at q;obtain⟨a1,a2,m,a3,u,F⟩:=(G1 c).2 _ _ _ _ _ q;simp at m;rw[IJ,t]at u;omega
  simp only[n_,x,Instr.buildSlice,T,y,Y,k.BL s w,z];simp[L,Instr.fill,Dr,K];exact Akv (fun m=>World.more w (.cells m n)) (by simp)
 simp only[n_,x,Instr.buildSlice,T,y,Y,k.BL s w];rw[Jl,Akt z];simp only[T,k.GM r w,Y,M,A];have k:Instr.fill (fun d=>V (d*c,c)) ((Array.range (a*c)).map (fun d=>i.cells[d%c]!)) (j.map fun g=>(g.1,f g.2)).toList=V l:=by simp_all
 simp only[k,T,Dr,Y,M]
theorem XK(i:BU p)(d:R b ρ h w){c:c_}(j:o.op=.load u c)(g:VR ρ (Au w) (AZ e c) (f c))(a:Lu p u c e h=V (.val v h')):B6 b p.P f o ρ h w v h':=by
 unfold Lu at a;split at a
 ·rename_i k c
  obtain⟨a,rfl⟩:=El a;rw[I2 c]at g;obtain⟨m,n,c,k,l⟩:=g.Hn;rw[k]at a;obtain⟨g,k,m⟩:=Vw i d a c;refine B6.pure d (v':=g) ?_ m;simp only[n_,j,l,Instr.loadAt,aH_,T,M,Y,k]
 cases a
theorem UC(i:BU p)(j:R b ρ h w){c d:c_}(k:o.op=.store u c d)(g:VR ρ (Au w) (AZ e c) (f c))(l:VR ρ (Au w) (AZ e d) (f d))(a:JF p u c d e h=V (.val v h')):B6 b p.P f o ρ h w v h':=by
 unfold JF at a;split at a
 ·rename_i c d
  split at a
  ·rename_i m c
   cases a;rw[I2 d]at g;obtain⟨q,r,d,m,n⟩:=g.Hn;rw[m]at c;obtain⟨g,m,q,r⟩:=Afp i j c d l;refine⟨.skip,g,ρ,?_,.inr ⟨J,J⟩,q,r⟩;simp only[n_,k,n,Instr.storeAt,aH_,T,M,Y,m]
  cases a
 cases a
def FM(p:Pr):Prop:=∀a∈p.Aw2,∀(c:H_) (w:f_),(nilAhead (p.P.types.size+bf_) a.1 (.pointer (V c)) a.2).run p.P w=.ok (V false) w
theorem O4(mk:FM p)(i:R b ρ h w){c:c_}(j:o.op=.nilCheck c)(a:VR ρ (Au w) (AZ e c) (f c))(d:GC p c e h=V (.val v h')):B6 b p.P f o ρ h w v h':=by
 unfold GC at d;split at d
 ·rename_i n g
  cases d;rw[g]at a;obtain⟨q,r,t,u,g⟩:=a.Hn;refine B6.pure i (v':=f c) ?_ a;simp only[n_,j,g,M]
 ·rename_i l first g k
  cases d;rw[k]at a;refine B6.pure i (v':=f c) ?_ a;generalize l:f c=m at a⊢;cases a;simp only[n_,j,l,M]
 ·rename_i s first g k
  cases g:FC p s first.toList with
  |false=>rw[g]at d;cases d
  |true=>
   rw[g]at d;cases d;rw[k]at a;refine B6.pure i (v':=f c) ?_ a;generalize l:f c=m at a⊢;cases a with
   |func a c k c1 c2 i x=>
    have a:FC p s c=true:=g;clear g;unfold FC at a;split at a
    ·rename_i g n
     cases i with
     |cons i k x y c s=>
      cases s;cases c with
      |iface g i k c=>
       obtain⟨q,r,t,u,rfl⟩:=c.Hn;rw[bx_]at a;obtain⟨m,g,c⟩:=a;simp only[a_,D_,beq_iff_eq]at c;obtain⟨rfl,rfl⟩:=c;have:=mk m g ⟨q,r+n.off,Z⟩ w;simp[n_,j,l,this]
    simp_all
 cases d
theorem J2{v:W}{a:aU_}(h:Qa v=V (a,x)):v=.int a x:=by
 unfold Qa at h;split at h
 ·simp_all
 cases h
theorem Nv{v:W}(h:TV v=V s):∃a,v=.string a∧a.data.toList=s:=by
 unfold TV at h;split at h
 ·simp_all
 cases h
theorem M2{d:Type}{c:v_}(w:f_):∀(k:Nat) (g:Sem d) (a:d),NJ c k g=V a→g.run c w=.ok a w
 |0,.pure _,a,h=>by cases h;rfl
 |k+1,.pure _,a,h=>by cases h;rfl
 |k+1,.program d,a,h=>by
  simp only[NJ]at h;simp only[Sem.run];exact M2 w k (d c) a h
 |0,.program _,a,h=>by cases h
 |0,.load ..,a,h=>by cases h
 |0,.store ..,a,h=>by cases h
 |0,.new ..,a,h=>by cases h
 |0,.shape ..,a,h=>by cases h
 |0,.freeze ..,a,h=>by cases h
 |0,.frozen ..,a,h=>by cases h
 |0,.getObj ..,a,h=>by cases h
 |0,.setObj ..,a,h=>by cases h
 |0,.choose ..,a,h=>by cases h
 |0,.sys ..,a,h=>by cases h
 |0,.mark ..,a,h=>by cases h
 |0,.halt ..,a,h=>by cases h
 |k+1,.load ..,a,h=>by cases h
 |k+1,.store ..,a,h=>by cases h
 |k+1,.new ..,a,h=>by cases h
 |k+1,.shape ..,a,h=>by cases h
 |k+1,.freeze ..,a,h=>by cases h
 |k+1,.frozen ..,a,h=>by cases h
 |k+1,.getObj ..,a,h=>by cases h
 |k+1,.setObj ..,a,h=>by cases h
 |k+1,.choose ..,a,h=>by cases h
 |k+1,.sys ..,a,h=>by cases h
 |k+1,.mark ..,a,h=>by cases h
 |k+1,.halt ..,a,h=>by cases h
end
section
variable{p:Pr}{ρ:DA}{h h':AH}{w:World}{ng:Nat}{e:Env}{f:Operand→Value}{o:Oper}{v:Value}
theorem IG{c:Nat→Nat}:∀a:H,Cv ρ c (AW a) (AW a)
 |[]=>.nil
 |b::a=>.cons _ _ _ _ (.int _ _) (IG a)
theorem I9(a:H):(AW a).length=a.length:=by simp[AW]
theorem QB(F:BU p)(K:R ng ρ h w)(a7:h.n<h'.n→ρ h.n=Z){q r:b_}{k:c_}(L:o.op=.convert q r k)(m:VR ρ (Au w) (AZ e k) (f k))(j:Lw p q r k e h=V (.val v h')):B6 ng p.P f o ρ h w v h':=by
 obtain⟨a0,a8,a9⟩:=Ad j;obtain⟨ak,a1,s⟩:=Ad a9;have N:=F.A7 a8 w;have P:=F.A7 a1 w;unfold KF at s;split at s
 ·rename_i n b a t
  cases s;rw[t]at m;have u:=m.DW;refine B6.pure K (v':=.int n (n.wrap a)) ?_ (.int _ _);have:(convert q r (f k)).run p.P w=.ok (.int n (n.wrap a)) w:=by simp only[convert,T,N,P,Y,u,Conv.intToInt];rfl
  simp only[n_,L,T,this,Y,M]
 ·rename_i b t
  cases s;rw[t]at m;have u:=m.CI;refine B6.pure K (v':=.string b) ?_ (.string _);have:(convert q r (f k)).run p.P w=.ok (.string b) w:=by simp only[convert,T,N,P,Y,u];rfl
  simp only[n_,L,T,this,Y,M]
 ·rename_i g b t
  obtain⟨a2,aa⟩:=Al s;simp only[a_,y_]at a2;cases aa;have ab:ρ h.n=Z:=a7 (by simp);rw[t]at m;have u:=m.CI;have ac:p.CY g=V (.int .u8)∧p.size g=V 1:=by
   have:=a2.1;unfold Avz AX at this;rw[a1]at this;simp only at this;split at this
   ·simp_all
   simp_all
  have ad:=fun w=>F.A7 ac.1 w;have a3:b.size=b.data.toList.length:=by simp
  let x:=Question.appendCap b.size 0 g
  have ae:x.forced=false:=J
  let c:=x.cut (w.tape w.drawn x)
  have af:b.size≤c:=by show b.size≤b.size+_;omega
  let a:f_:={w with drawn:=w.drawn+1}
  have ag:R ng ρ h a:=K.same J;have ah:Step ρ h w ρ h a:=Step.same J J J J
  let d:Array W:=(b.data.map fun y=>Value.int .u8 y.toNat)++Array.replicate (c-b.size) (.int .u8 0)
  have z:d.size=c:=by simp only[d,aS_,a9_,Array.size_replicate];have:b.data.size=b.size:=J;omega
  have al:∀a4,(World.more a (.cells d g a4)).heap=a.heap.push (.cells d g a4):=fun _=>rfl
  let i:f_:=World.more a (.cells d g (c,c+1))
  have a5:R ng (ρ.new h.n (a.heap.size,0)) (h.new (.cells (AW b.data.toList))) i∧Step ρ h a (ρ.new h.n (a.heap.size,0)) (h.new (.cells (AW b.data.toList))) i:=by
   refine HZ ag ab _ _ ⟨d,g,(c,c+1),World.EK _,.inr (by rw[z];exact h_ _),by rw[I9,z];omega,fun l v j=>?_⟩;refine⟨v,?_,?_⟩
   ·have A:l<b.data.toList.length:=by
     have:=(d_.1 j).1;rwa[I9]at this
    have:d[l]? =(b.data.map fun y=>Value.int .u8 y.toNat)[l]? :=by simp only[d];rw[aL_ (by simpa using A)]
    rw[az_,this,←j];simp[AW]
   simp only[AW,bq_]at j;cases a6:b.data.toList[l]? with
   |none=>rw[a6]at j;cases j
   |some y=>rw[a6]at j;cases j;exact .int _ _
  have a6:(markStringish ⟨a.heap.size,0,Z⟩).run p.P (World.more a (.cells d g))=.ok () i:=by
   have ai:(World.more a (.cells d g)).shape? a.heap.size=V (g,d.size):=by simp[World.shape?,World.EK]
   simp only[markStringish,shape,T,Sem.run,ai,Y,freeze,z];congr 1;have:i.heap=(World.more a (.cells d g (c,c+1))).heap:=J;simp only[World.freeze,i,World.more,Nat.one_ne_zero,if_false];congr 1;apply Array.ext
   ·simp
   intro l am aj;simp only[bg_,Array.getElem_push];by_cases A:a.heap.size=l
   ·subst A;simp
   have:l<a.heap.size:=by simp at aj;omega
   simp[A,this]
  have l:(convert q r (f k)).run p.P w=.ok (.slice (V ⟨a.heap.size,0,Z⟩) b.size c) i:=by
   have A:∀n,a0=.int n→False∨True:=fun _ _=>.inr trivial;simp only[convert,T,N,P,Y,u];cases a0<;>simp only[T,ad,Y,Conv.stringToBytes,run_choose,x,ae,if_false,l_]<;>(
    rw[show(newRow g d).run p.P a=.ok ⟨a.heap.size,0,Z⟩ (World.more a (.cells d g))from rfl];simp only[Y,a6,M];rfl)
  refine⟨.value (.slice (V ⟨a.heap.size,0,Z⟩) b.size c),i,_,?_,.inl ⟨_,J,?_⟩,a5.1,ah.trans a5.2⟩
  ·simp only[n_,L,T,l,Y,M]
  have n:Au i a.heap.size=c:=by rw[show i=World.more a (.cells d g (c,c+1))from rfl];unfold Au;rw[World.EK];exact z
  have:=VR.sl (ρ:=ρ.new h.n (a.heap.size,0)) (sz:=Au i) h.n 0 a.heap.size 0 b.data.toList.length 1 c (JI h.n _) (by rw[←a3];exact af) (by rw[n];omega);rw[a3];simpa using this
 simp_all
end
section
variable{p:Pr}{ρ:DA}{h h':AH}{w:World}{a:Nat}{e:Env}{f:Operand→Value}{o:Oper}{v:Value}
def L2(ρ:DA)(w:f_)(e:Env)(f:c_→W)(c:List c_):Prop:=∀b∈c,VR ρ (Au w) (AZ e b) (f b)
theorem L2.args:∀{b:List c_},L2 ρ w e f b→Cv ρ (Au w) (Fp e b) (b.map f)
 |[],_=>.nil
 |x::c,h=>.cons _ _ _ _ (h x (by simp)) (L2.args fun b d=>h b (by simp_all))
theorem L2.map:∀{b:List c_},L2 ρ w e f b→Cv ρ (Au w) (b.map (AZ e)) (b.map f)
 |[],_=>.nil
 |x::c,h=>.cons _ _ _ _ (h x (by simp)) (L2.map fun b d=>h b (by simp_all))
theorem VI(d:BU p)(g:R a ρ h w){b:c_}(i:o.op=.makeInterface u b)(j:VR ρ (Au w) (AZ e b) (f b))(k:Mx p u b e h=V (.val v h')):B6 a p.P f o ρ h w v h':=by
 obtain⟨l,m,c⟩:=Ad k;have n:=d.A7 m w;split at c
 ·simp_all
 rename_i q;cases c;refine B6.pure g (v':=.iface u (f b)) ?_ (.iface _ _ _ j);simp only[n_,i,Instr.makeInterface,T,n,Y];cases l<;>first|(exact absurd J (q _))|rfl
theorem X3(d:R a ρ h w){c:Fn}{first b:Array c_}(g:o.op=.makeFunc c first b)(i:L2 ρ w e f first.toList)(j:L2 ρ w e f b.toList)(k:ZF c first b e h=V (.val v h')):B6 a p.P f o ρ h w v h':=by
 cases k;refine B6.pure d (v':=.func c (first.map f) (b.map f)) ?_ ?_
 ·simp only[n_,g,Instr.makeFunc,T,M,Y]
 have:=VR.func (ρ:=ρ) (sz:=Au w) c _ _ _ _ i.map j.map;have c:(first.toList.map f).toArray=first.map f:=by apply C_;simp
 have d:(b.toList.map f).toArray=b.map f:=by apply C_;simp
 rw[c,d]at this;exact this
theorem Qw(d:R a ρ h w)(g:h.n<h'.n→ρ h.n=Z){c:Option c_}(i:o.op=.makeMap u c)(b:Ic c e h=V (.val v h')):B6 a p.P f o ρ h w v h':=by
 unfold Ic at b;split at b
 ·cases b
  have c:ρ h.n=Z:=g (by simp);obtain⟨g,j⟩:=HZ d c (.map []) (.map #[] 0) ⟨J,#[],0,World.EK _,trivial⟩;refine⟨.value (.map (V w.heap.size)),_,_,?_,.inl ⟨_,J,.map _ _ (JI _ _)⟩,g,j⟩;simp only[n_,i,Instr.makeMap,aA_,T,newObj,Sem.run,Y,M];rfl
 cases b
theorem NA(i:BU p)(P:R a ρ h w)(a0:h.n<h'.n→ρ h.n=Z){n q:c_}(a1:o.op=.makeSlice u n q)(z:VR ρ (Au w) (AZ e n) (f n))(r:VR ρ (Au w) (AZ e q) (f q))(a2:KT p u n q e h=V (.val v h')):B6 a p.P f o ρ h w v h':=by
 obtain⟨k,a3,a4⟩:=Ad a2;obtain⟨b,a5,a6⟩:=Ad a4;obtain⟨s,a7,a8⟩:=Ad a6;obtain⟨j,t,a9⟩:=Ad a8;obtain⟨g,m,aa⟩:=Ad a9;obtain⟨A,ab⟩:=Al aa;simp only[a_,y_,D_]at A;obtain⟨⟨⟨ac,ad⟩,aw⟩,ax⟩:=A;subst ac;cases ab;have ae:ρ h.n=Z:=a0 (by simp);have af:=i.A7 (Bm a3);obtain⟨ay,ag⟩:=GS a5;obtain⟨az,ah⟩:=GS a7;rw[ag]at z;rw[ah]at r;have ai:=z.DW;have aj:=r.DW;obtain⟨d,x,aA⟩:=i.size m;have aB:d.bytes≤8*g+1000:=by
  unfold Pr.size at m;split at m
  ·rename_i F y
   have K:=i.ty k F y;rw[K]at x;cases x;cases m;exact i.by' k d y
  cases m
 have F:=(VR.Fe (ρ:=ρ) (sz:=Au w) (i.zs k j t)).Aq;have ak:=i.zl k j g t m;have K:j.cells.size=g:=by rw[←ak,F.length];simp
 have L:=Ml j.cells b;rw[K]at L;obtain⟨al,am⟩:=Kh P ae (l:=DZ (Aq j) b) (c:=(Array.range (b*g)).map (fun d=>j.cells[d%g]!)) k (by rw[L];exact NI F b);have an:((Array.range (b*g)).map (fun d=>j.cells[d%g]!)).size=b*g:=by simp
 have ao:∀s,(askRoom s).run p.P w=.ok () w:=fun s=>by simp
 have aC:(d.bytes*b:Nat)≤9000*1000000:=ac_ (by omega) ad;have ap:IntKind.i64.wrap (b:Int)=b:=by rw[aW_];omega
 refine⟨.value (.slice (V ⟨w.heap.size,0,Z⟩) b b),_,_,?_,.inl ⟨_,J,VR.Rk (by rw[QW,an];exact h_ _)⟩,al,am⟩;have aq:(Z_ k).run p.P w=.ok d w:=by simp[Z_,x]
 have ar:(Instr.makeSlice u (f n) (f q)).run p.P w=.ok (.slice (V ⟨w.heap.size,0,Z⟩) b b) (World.more w (.cells ((Array.range (b*g)).map (fun d=>j.cells[d%g]!)) k)):=by
  simp only[Instr.makeSlice,T,af,Y,ai,aj,asInt,ad_,M,aq,ap];have au:((d.bytes:Int)*(b:Int))=((d.bytes*b:Nat):Int):=(aZ_ _ _).symm;have av:∀N:Nat→W,(Array.range 0).map N= #[]:=fun N=>by simp
  split
  ·rename_i r
   exfalso;simp only[I_,decide_eq_true_eq,au]at r;omega
  simp only[E_,ao,Y,T,i.BL m w];by_cases y:b*g=0
  ·rw[Agd y]
   simp only[T,M,Y,y,av,Dr]
  rw[Akt y];simp only[T,i.GM t w,Y,M,K,Dr]
 simp only[n_,a1,T,ar,Y,M]
end
section
variable{p:Pr}{ρ:DA}{h h':AH}{w:World}{ng:Nat}{e:Env}{f:Operand→Value}{o:Oper}{v:Value}
theorem MN{i:Nat→Nat}{d:Option c_}(j:∀c,d=V c→VR ρ i (AZ e c) (f c))(g:bound (d.map (AZ e)) a=V b):
  (d=Z∧b=a)∨(∃c i,d=V c∧f c=.int i b):=by
 cases d with
 |none=>simp[bound]at g;exact .inl ⟨J,g.symm⟩
 |some c=>
  simp only[aj_,bound]at g;obtain⟨i,a⟩:=GS g;have:=j c J;rw[a]at this;exact .inr ⟨c,i,J,this.DW⟩
theorem J7{c:v_}{d:aU_}{g:BoundsCode}(h:a≤b)(w:f_):(U_ (.int d a) b g).run c w=.ok a w:=by simp only[U_,ad_,T,M,Y];rw[Agd ⟨by omega,by omega⟩];simp
theorem OC{P:v_}{i:Nat→Nat}{j g mx:Option c_}{b cap d c m:Nat}{sl:Bool}
  (k:∀a,j=V a→VR ρ i (AZ e a) (f a)) (l:∀a,g=V a→VR ρ i (AZ e a) (f a)) (n:∀a,mx=V a→VR ρ i (AZ e a) (f a))
  (i:bound (j.map (AZ e)) 0=V d) (q:bound (g.map (AZ e)) b=V c) (r:bound (mx.map (AZ e)) b=V m)
  (s:d≤c) (t:c≤m) (a:m≤b) (x:b≤cap) (u:mx.isSome=true→g.isSome=true) (w:f_):
  (br_ sl b cap (j.map f) (g.map f) (mx.map f)).run P w=.ok (d,c,if mx.isSome then m else cap) w:=by
 have g:∀a b,(U_ (.int a d) c b).run P w=.ok d w:=fun a b=>J7 s w;have d:∀a b,(U_ (.int a c) m b).run P w=.ok c w:=fun a b=>J7 t w;have d:∀a b,(U_ (.int a c) cap b).run P w=.ok c w:=fun a b=>J7 (by omega) w;have c:∀a b,(U_ (.int a m) cap b).run P w=.ok m w:=fun a b=>J7 (by omega) w;rcases MN k i with⟨rfl,rfl⟩|⟨a,b,rfl,c⟩<;>rcases MN l q with⟨rfl,rfl⟩|⟨d,g,rfl,j⟩<;>rcases MN n r with⟨rfl,rfl⟩|⟨s,t,rfl,x⟩<;>
  first
  |(simp at u;done)
  |(simp only[br_,aA_,aj_,T,M,Y,aJ_,Option.isSome_some,l_,if_false,if_true, *];done)
theorem UM(N:BU p)(A:R ng ρ h w){d:c_}{x n b:Option c_}(ac:o.op=.slice u d x n b)(y:VR ρ (Au w) (AZ e d) (f d))
  (F:∀i,x=V i→VR ρ (Au w) (AZ e i) (f i)) (K:∀i,n=V i→VR ρ (Au w) (AZ e i) (f i)) (a0:∀i,b=V i→VR ρ (Au w) (AZ e i) (f i))
  (ag:SS p u d x n b e h=V (.val v h')):B6 ng p.P f o ρ h w v h':=by
 obtain⟨aB,ah⟩:=Al ag;have ai:b.isSome=true→n.isSome=true:=by cases b<;>cases n<;>simp_all
 obtain⟨z,rfl⟩:=El ah;unfold Ov at z;split at z
 ·rename_i j a1
  rw[a1]at y;have q:=y.CI;split at z
  ·rename_i a2 s
   have c:b=Z:=by simp_all
   subst c;obtain⟨a,a3,a4⟩:=Ad z;obtain⟨k,L,a5⟩:=Ad a4;obtain⟨r,a6⟩:=Al a5;simp only[a_,y_]at r;cases a6;have ad:j.data.toList.length=j.size:=by simp
   rw[ad]at L r;have l:=OC (P:=p.P) (sl:=false) (cap:=j.size) (mx:=Z) (m:=j.size) F K a0 a3 L J r.1 r.2 (h_ _) (h_ _) (fun h=>by cases h) w;have g:((j.data.toList.drop a).take (k-a)).toArray=(j.extract a k).data:=by
    apply C_;simp[a6_,List.take_drop]
    try (congr 1;omega)
   refine B6.pure A (v':=.string (j.extract a k)) ?_ (by rw[g];exact .string _);have a7:(aM_ u (f d) (x.map f) (n.map f) Z).run p.P w=.ok (.string (j.extract a k)) w:=by simp only[aA_,aJ_,l_,if_false]at l;simp only[aM_,T,N.A7 a2 w,Y,Instr.slice,q,aJ_,l_,if_false,l,M]
   simp only[n_,ac,aA_,T,a7,Y,M]
  simp_all
 ·rename_i aC a8 aj a1
  rw[a1]at y;obtain⟨aD,ak,a4⟩:=Ad z;obtain⟨c,al,a5⟩:=Ad a4;obtain⟨ad,a6⟩:=Al a5;obtain⟨a,a3,am⟩:=Ad a6;obtain⟨k,L,an⟩:=Ad am;obtain⟨s,ao,ap⟩:=Ad an;obtain⟨r,aq⟩:=Al ap;simp only[a_,y_]at r;obtain⟨⟨ar,au⟩,av⟩:=r;cases aq;have a2:=Bm ak;have a9:∀(t:Option H_) (g:Nat),f d=.slice t a8 g→a8≤g→
    (n_ f o).run p.P w=.ok (.value (.slice (if(if b.isSome then s else g)=a then t else t.map (·.add (a*c))) (k-a) ((if b.isSome then s else g)-a))) w:=by
   intro t g q aa;have l:=OC (P:=p.P) (sl:=true) (cap:=g) F K a0 a3 L ao ar au av aa ai w;have a7:(aM_ u (f d) (x.map f) (n.map f) (b.map f)).run p.P w=.ok (.slice (if(if b.isSome then s else g)=a then t else t.map (·.add (a*c))) (k-a) ((if b.isSome then s else g)-a)) w:=by simp only[aM_,T,N.A7 a2 w,Y,Instr.slice,q,l,N.BL al w,M]
   simp only[n_,ac,T,a7,Y,M]
  generalize q:f d=i at y;cases y with
  |H4 ae=>
   have a7:a=0∧k=0∧s=0:=by omega
   obtain⟨rfl,rfl,rfl⟩:=a7;refine B6.pure A (a9 Z 0 q (h_ _)) ?_;have:(if(if b.isSome then 0 else 0)=0 then(Z:Option H_)else(Z:Option H_).map (fun d:H_=>d.add (0*c)))=Z:=by simp
   rw[this];have ab:((if b.isSome then 0 else 0)-0:Nat)=0:=by simp
   rw[ab];exact .H4 _
  |s0 af l ae=>
   have a7:a=0∧k=0∧s=0:=by omega
   obtain⟨rfl,rfl,rfl⟩:=a7;refine B6.pure A (a9 (V l) 0 q (h_ _)) ?_;have:(if(if b.isSome then 0 else 0)=0 then(V l:Option H_)else(V l:Option H_).map (fun d:H_=>d.add (0*c)))=V l:=by simp
   rw[this];have ab:((if b.isSome then 0 else 0)-0:Nat)=0:=by simp
   rw[ab];exact .s0 _ _ _
  |sl aw a7 ab j a8 ae g ax aa aE=>
   have ay:c=aj:=by simp_all
   subst ay;refine B6.pure A (a9 _ g q aa) ?_;generalize az:(if b.isSome then s else g)=l;have aA:k≤l∧l≤g:=by rw[←az];split<;>omega
   by_cases af:l=a
   ·rw[Agd af]
    have F:k-a=0:=by omega
    have K:l-a=0:=by omega
    rw[F,K];exact .s0 _ _ _
   rw[Akt af];have F:(Option.map (fun d:H_=>d.add (a*c)) (V ⟨ab,j+a7,Z⟩))=V ⟨ab,j+(a7+a*c),Z⟩:=by rw[aj_,HS,ah_]
   rw[F];refine .sl aw (a7+a*c) ab j (k-a) c (l-a) ax (by omega) ?_;have a0:(l-a)*c+a*c=l*c:=by rw[←aa_];congr 1;omega
   have K:l*c≤g*c:=af_ c aA.2;omega
 simp_all
end
section
variable{p:Pr}{ρ:DA}{h h':AH}{w:World}{c:Nat}{e:Env}{f:Operand→Value}{o:Oper}{v:Value}
theorem NC(g:BU p)(m:R c ρ h w){b:c_}(n:o.op=.fieldAddr u b a)(i:VR ρ (Au w) (AZ e b) (f b))(q:IN p u b a e h=V (.val v h')):B6 c p.P f o ρ h w v h':=by
 obtain⟨a5,r,s⟩:=Ad q;obtain⟨j,t,x⟩:=Ad s;obtain⟨d,y,z⟩:=Ad x;obtain⟨a6,A,F⟩:=Ad z;obtain⟨K,L⟩:=Al F;simp only[y_]at K;cases L;obtain⟨N,P,a0⟩:=IF r;subst a0;rw[I2 t]at i;obtain⟨k,l,a1,a7,a2⟩:=i.Hn;have a3:N[a]? =V d:=by simpa using y
 refine B6.pure m (v':=.pointer (V ⟨k,l+(j.off+d.offset),Z⟩)) ?_ (.ptr _ _ _ _ a1);have a4:(bG_ u (f b) a).run p.P w=.ok (.pointer (V ⟨k,l+(j.off+d.offset),Z⟩)) w:=by simp only[bG_,T,g.A7 P w,Y,a3,a2,aH_,M,fieldPlace,g.BL A w];rw[Jl];simp only[M,Y,HS,ah_]
 simp only[n_,n,T,a4,Y,M]
theorem OL(g:BU p){b:Nat→Nat}{v:W}(j:Cv ρ b l m)(n:part? p u l a=V v)(w:f_):
  ∃d,(part u m.toArray a).run p.P w=.ok d w∧VR ρ b v d:=by
 obtain⟨q,k,b⟩:=Ad n;cases q with
 |false=>
  obtain⟨d,n,q⟩:=j.get (i:=a) (v:=v) b;refine⟨d,?_,q⟩;simp only[part,T,g.Lj k w,Y,l_,if_false];simp[n]
 |true=>
  change M4 l a (p.size u)=V v at b;unfold M4 at b;split at b
  ·rename_i d l
   obtain⟨n,q⟩:=Al b;simp only[y_]at n;cases q;refine⟨.agg ((m.drop a).take d).toArray,?_,.agg _ _ ((j.drop a).take d)⟩;simp only[part,T,g.Lj k w,Y,if_true,g.BL l w,M];congr 2;apply C_;simp[]
  simp_all
theorem Aer{v:W}(h:Apy v=V l):v=.agg l.toArray:=by
 unfold Apy at h;split at h
 ·cases h;rfl
 cases h
theorem VR.Aa3{a:Nat→Nat}{l:E}{b:W}(h:VR ρ a (.agg l.toArray) b):∃d,b=.agg d.toArray∧Cv ρ a l d:=by
 generalize a:Value.agg l.toArray=b at h;cases h with
 |agg g b d=>cases a;exact⟨b,J,d⟩
 |_=>cases a
theorem VR.Abc{a:Nat→Nat}{l:E}{b:W}(h:VR ρ a (.tuple l.toArray) b):∃d,b=.tuple d.toArray∧Cv ρ a l d:=by
 generalize a:Value.tuple l.toArray=b at h;cases h with
 |tuple g b d=>cases a;exact⟨b,J,d⟩
 |_=>cases a
theorem VS(d:BU p)(j:R c ρ h w){b:c_}(k:o.op=.field u b a)(g:VR ρ (Au w) (AZ e b) (f b))(l:SV p u b a e h=V (.val v h')):B6 c p.P f o ρ h w v h':=by
 obtain⟨a1,m,n⟩:=Ad l;obtain⟨a2,q,r⟩:=Ad n;obtain⟨s,a3,t⟩:=Ad r;obtain⟨x,rfl⟩:=El t;obtain⟨y,z,A⟩:=IF m;subst A;rw[Aer q]at g;obtain⟨a4,F,K⟩:=g.Aa3;have L:y[a]? =V s:=by simp_all
 obtain⟨i,N,P⟩:=OL d K x w;refine B6.pure j (v':=i) ?_ P;have a0:(Instr.field u (f b) a).run p.P w=.ok i w:=by simp only[Instr.field,T,d.A7 z w,Y,L,F,asAgg,M,N]
 simp only[n_,k,T,a0,Y,M]
theorem VG(i:BU p)(x:R c ρ h w){a b:c_}(y:o.op=.index u a b)(j:VR ρ (Au w) (AZ e a) (f a))(z:VR ρ (Au w) (AZ e b) (f b))(L:SU p u a b e h=V (.val v h')):B6 c p.P f o ρ h w v h':=by
 obtain⟨N,rfl⟩:=El L;obtain⟨d,P,g⟩:=Ad N;obtain⟨a7,a0⟩:=GS P;rw[a0]at z;have A:=z.DW;split at g
 ·rename_i k m
  rw[m]at j;have n:=j.CI;split at g
  ·rename_i q
   obtain⟨r,F,s⟩:=Ad g;cases s;refine B6.pure x (v':=.int .u8 r.toNat) ?_ (.int _ _);have a1:k[d]? =V r:=by
    have a2:d<k.data.toList.length:=(d_.1 F).1;have K:d<k.size:=by simp_all
    have t:=(d_.1 F).2;rw[getElem?_pos k d K];congr 1
   have t:(Instr.index u (f a) (f b)).run p.P w=.ok (.int .u8 r.toNat) w:=by simp only[Instr.index,A,ad_,T,M,Y,i.A7 q w,n,Int.natCast_nonneg,if_true,E_,a1]
   simp only[n_,y,T,t,Y,M]
  simp_all
 ·rename_i r m
  split at g
  ·rename_i F a8 q
   obtain⟨a9,a1,s⟩:=Ad g;obtain⟨a2,a3⟩:=Al s;have K:d<F:=by simp_all
   rw[m]at j;obtain⟨aa,n,a4⟩:=j.Aa3 (l:=r.toList);obtain⟨k,a5,a6⟩:=OL i a4 a3 w;refine B6.pure x (v':=k) ?_ a6;have t:(Instr.index u (f a) (f b)).run p.P w=.ok k w:=by simp only[Instr.index,A,ad_,T,M,Y,i.A7 q w,n];rw[Agd ⟨by omega,by omega⟩];simp only[T,i.BL a1 w,Y,E_,a5]
   simp only[n_,y,T,t,Y,M]
  simp_all
 simp_all
theorem NB(l:BU p)(K:R c ρ h w){a b:c_}(L:o.op=.indexAddr u a b)(g:VR ρ (Au w) (AZ e a) (f a))(N:VR ρ (Au w) (AZ e b) (f b))(a2:IM p u a b e h=V (.val v h')):B6 c p.P f o ρ h w v h':=by
 obtain⟨a3,rfl⟩:=El a2;obtain⟨d,a4,m⟩:=Ad a3;obtain⟨ad,a5⟩:=GS a4;rw[a5]at N;have P:=N.DW;split at m
 ·rename_i q n ae r
  obtain⟨a6,a7,s⟩:=Ad m;obtain⟨i,t,x⟩:=Ad s;obtain⟨a0,a8⟩:=Al x;simp only[a_,D_]at a0;obtain⟨a9,aa⟩:=a0;have ab:d<n:=by simp_all
  subst aa;cases a8;have y:=Bm a7;rw[r]at g;generalize z:f a=af at g;cases g with
  |s0 j k ac=>omega
  |sl ag a1 j k n ac ah A ai aj=>
   refine B6.pure K (v':=.pointer (V ⟨j,k+(a1+d*i),Z⟩)) ?_ (.ptr _ _ _ _ A);have F:(aN_ u (f a) (f b)).run p.P w=.ok (.pointer (V ⟨j,k+(a1+d*i),Z⟩)) w:=by simp only[aN_,P,ad_,T,M,Y,l.A7 y w,z];rw[Agd ⟨by omega,by omega⟩];simp only[T,l.BL t w,Y,M,E_,HS,ah_]
   simp only[n_,L,T,F,Y,M]
 ·rename_i q r
  split at m
  ·rename_i n a6 y
   obtain⟨i,t,s⟩:=Ad m;obtain⟨a9,x⟩:=Al s;have ab:d<n:=by simp_all
   cases x;rw[r]at g;obtain⟨j,k,A,a0,z⟩:=g.Hn;refine B6.pure K (v':=.pointer (V ⟨j,k+(q.off+d*i),Z⟩)) ?_ (.ptr _ _ _ _ A);have F:(aN_ u (f a) (f b)).run p.P w=.ok (.pointer (V ⟨j,k+(q.off+d*i),Z⟩)) w:=by simp only[aN_,P,ad_,T,M,Y,l.A7 y w,z,aH_];rw[Agd ⟨by omega,by omega⟩];simp only[T,l.BL t w,Y,M,E_,HS,ah_]
   simp only[n_,L,T,F,Y,M]
  simp_all
 simp_all
theorem Qz(i:R c ρ h w){b:c_}(j:o.op=.extract b a)(g:VR ρ (Au w) (AZ e b) (f b))(d:Ie b a e h=V (.val v h')):B6 c p.P f o ρ h w v h':=by
 unfold Ie at d;split at d
 ·rename_i a b
  obtain⟨k,rfl⟩:=El d;rw[b]at g;obtain⟨n,b,m⟩:=g.Abc (l:=a.toList);obtain⟨a,g,n⟩:=m.get k;refine B6.pure i (v':=a) ?_ n;simp only[n_,j,b,Instr.extract,T,g_,g,M,Y]
 cases d
end
def MS(d:Nat)(e:v_)(f:Sem W)(ρ:DA)(h:AH)(w:f_)(v:W)(h':AH):Prop:=
 ∃c a b,f.run e w=.ok c a∧VR b (Au a) v c∧R d b h' a∧Step ρ h w b h' a
section
variable{p:Pr}{ρ:DA}{h h':AH}{w:World}{d:Nat}{v:Value}
theorem HN{P:v_}{f a b c:Nat}{e:Array W}{g:Nat×Nat}(j:w.heap[f]? =V (.cells e u g))(k:a+l.length≤e.size)
  (m:∀(g:Nat) (v:W),l[g]? =V v→∃i,e[a+g]? =V i∧VR ρ (Au w) v i) (n:b+c≤l.length):
  ∃g,(loadCells ⟨f,a+b,Z⟩ c).run P w=.ok g.toArray w∧Cv ρ (Au w) ((l.drop b).take c) g∧g=(e.toList.drop (a+b)).take c:=by
 refine⟨(e.toList.drop (a+b)).take c,?_,Zq k m n,J⟩;have i:((e.toList.drop (a+b)).take c).length=c:=by simp;omega
 have g:=bk_ (P:=P) w ⟨f,a+b,Z⟩ ((e.toList.drop (a+b)).take c) (by
  intro b c a;rw[HS,Fm j];rw[G_]at a;split at a
  ·simp_all
  cases a)
 rw[i]at g;exact g
theorem IH(c:v_)(e a:Nat)(b:ByteArray)(w:f_):(i_ e a (.string b)).run c w=.ok (AW (b.data.toList.take a)).toArray w:=by simp only[i_,M];congr 1;apply C_;simp[AW,a6_]
theorem RM(s:R d ρ h w){i k:W}(c:h.row i=V l)(t:VR ρ (Au w) i k)(u:∃m e,i=.slice m a e∧(a=0∨e=b))(n:v_):
  ∃f,(i_ b a k).run n w=.ok f.toArray w∧Cv ρ (Au w) l f:=by
 obtain⟨m,e,rfl,a3⟩:=u;cases t with
 |H4 o=>
  simp only[AH.row]at c;cases c;exact⟨[],J,.nil⟩
 |s0 g j o=>
  simp only[AH.row]at c;change V []=V l at c;cases c;refine⟨[],?_,.nil⟩;simp only[i_,an_];rfl
 |sl q j x y a4 o a5 z a6 a7=>
  simp only[AH.row]at c;by_cases r:a=0
  ·subst r
   change V []=V l at c;cases c;refine⟨[],?_,.nil⟩;simp only[i_,an_];rfl
  have A:Nat.beq a 0=false:=by
   cases g:Nat.beq a 0 with
   |false=>rfl
   |true=>exact absurd (by simp_all) r
  rw[A]at c;obtain rfl:e=b:=by omega
  change (match h.get q with
   |some (.cells l)=>cond (k_ (j+a*e) l.length) (V ((l.drop j).take (a*e))) Z
   |_=>Z)=V l at c
  split at c
  ·rename_i F K
   cases g:k_ (j+a*e) F.length with
   |false=>rw[g]at c;cases c
   |true=>
    rw[g]at c;cases c;simp only[y_]at g;obtain⟨a8,a9,aa,L,ab,N,a0⟩:=s.cont q _ x y K z;obtain⟨f,a1,a2,_⟩:=HN (P:=n) L N a0 g;exact⟨f,by simp only[i_];exact a1,a2⟩
  cases c
theorem Z9(b:Nat):∀(k a:Nat),ba_ b k a≤a*2^k+768*2^k
 |0,a=>by simp[ba_]
 |k+1,a=>by
  simp only[ba_];have c:2^(k+1)=2*2^k:=by omega
  have e:1≤2^k:=Nat.one_le_two_pow;split
  ·rw[c]
   have:a*1≤a*(2*2^k):=Nat.mul_le_mul_left a (by omega);omega
  refine A_ (Z9 b k _) ?_;rw[c];have b:(a+(a+768)/4)≤2*a+192:=by omega
  have c:=af_ (2^k) b;have b:(2*a+192)*2^k=a*(2*2^k)+192*2^k:=by rw[aa_,Nat.mul_comm 2 a,Nat.mul_assoc]
  omega
theorem Ajw{need D2:Nat}(h:D2<need)(a:need≤1000000):ag_ need D2≤20000000:=by
 unfold ag_;split
 ·omega
 split
 ·omega
 have:=Z9 need 4 D2;simp only[show(2:Nat)^4=16 from rfl]at this;omega
theorem JJ(o:R d ρ h w){a g:W}{c k:Nat}(b:EF h a=V l)(i:K0 a=V c)(n:l.length=c*k)(j:VR ρ (Au w) a g)(m:v_):
  (∀a:f_,a.heap=w.heap→∃e,(i_ k c g).run m a=.ok e.toArray a∧Cv ρ (Au w) l e)∧(∀a:f_,(V_ g).run m a=.ok c a):=by
 unfold EF at b;split at b
 ·rename_i c
  cases b;have e:=j.CI;subst e;simp only[K0,s_]at i;subst i;refine⟨fun a _=>⟨AW c.data.toList,?_,IG _⟩,fun a=>?_⟩
  ·rw[IH,List.take_length]
  simp[V_]
 ·rename_i e c f
  simp only[K0,s_]at i;subst i;have q:∀a:f_,(V_ g).run m a=.ok c a:=by intro a;cases j<;>rfl
  have r:c=0∨f=k:=by
   by_cases g:c=0
   ·omega
   right;have s:l.length=c*f:=by
    cases e with
    |none=>cases j;exact absurd J g
    |some e=>
     have i:Nat.beq c 0=false:=by
      cases t:Nat.beq c 0 with
      |false=>rfl
      |true=>exact absurd (by simp_all) g
     simp only[AH.row]at b;rw[i]at b;change (match h.get e.block with
      |some (.cells i)=>cond (k_ (e.off+c*f) i.length) (V ((i.drop e.off).take (c*f))) Z
      |_=>Z)=V l at b
     split at b
     ·rename_i l _
      cases i:k_ (e.off+c*f) l.length with
      |false=>rw[i]at b;cases b
      |true=>
       rw[i]at b;cases b;simp only[y_]at i;simp;omega
     cases b
   rw[s]at n;exact Nat.eq_of_mul_eq_mul_left (Nat.pos_of_ne_zero g) n
  refine⟨fun a c=>?_,q⟩;have g:R d ρ h a:=o.same c;have i:Au a=Au w:=by funext l;exact BX (by rw[c])
  obtain⟨a,c,l⟩:=RM g b (by rw[i];exact j) ⟨e,f,J,r⟩ m;exact⟨a,c,by simp_all⟩
 cases b
end
section
variable{p:Pr}{ρ:DA}{h h':AH}{w:World}{d:Nat}{v:Value}
def aoL:Option b_→E→AO
 |none,a=>.cells a
 |some b,a=>.tc b a
theorem Au2(a:Option b_)(b:E):(aoL a b).rw=true:=by cases a<;>rfl
theorem G9.Sd{c:Option b_}(e:G9 ρ w (aoL c l) a b):G9 ρ w (.cells l) a b∧∀f,c=V f→∀i g j,w.heap[a]? =V (.cells i g j)→g=f:=by
 cases c with
 |none=>exact⟨e,fun _ h=>by cases h⟩
 |some a=>
  refine⟨G9.Ld e,fun f a i g j b=>?_⟩;cases a;obtain⟨c2,c,a,_⟩:=e;rw[b]at a;cases a;rfl
theorem G9.Afd{e:Option b_}{t:b_}(m:∀c,e=V c→t=c∧TM c=false)(j:G9 ρ w (.cells l) a b)(n:∀f g i,w.heap[a]? =V (.cells f g i)→g=t):G9 ρ w (aoL e l) a b:=by
 cases e with
 |none=>exact j
 |some c=>
  obtain⟨rfl,s⟩:=m c J;obtain⟨f,g,i,k,o,q,r⟩:=j;have:=n _ _ _ k;subst this;exact⟨f,i,k,o,q,r,fun h=>by simp_all⟩
def As8(h:AH)(c:Option b_)(a:Option H_)(b:Nat):Option E:=match c with
 |none=>h.J8 a b
 |some c=>Ln h c a b
def T2(h:AH)(g:Option b_)(a:Nat)(b:Option H_)(c i:Nat)(f:E)(e:Nat):Option (W×AH):=
 Av (Nat.beq e 0) (V (.slice b c i,h))
  (Av (k_ (c+e) 1000000&&(Nat.beq a i||b.isNone)&&k_ 1 a&&k_ a 1000&&f.all J_&&Nat.beq f.length (e*a))
   (opt (As8 h g b (c*a)) fun i=>V (.slice (V ⟨h.n,0,Z⟩) (c+e) a,(h.PL b).new (aoL g (i++f)))) Z)
theorem Aep{e f g i:Nat}{k:W}{j:W×AH}(b:Dz h u e o f g l i k=V j):∃c,(∀a,c=V a→u=a∧TM a=false)∧T2 h c e o f g l i=V j:=by
 have k:CB h e o f g l i=V j→∃c,(∀a,c=V a→u=a∧TM a=false)∧T2 h c e o f g l i=V j:=fun h=>⟨Z,(fun _ h=>by cases h),h⟩;unfold Dz at b;split at b
 ·rw[FT]at b
  split at b
  ·rename_i c
   simp only[a_,D_]at c;exact⟨V u,fun a e=>by cases e;exact⟨J,by rw[c.1];decide⟩,b⟩
  simp_all
 simp_all
theorem Vj(f:R d ρ h w)(g:ρ h.n=Z){c a rest:E}{tag:Option b_}(b:b_)(j:∀e,tag=V e→b=e∧TM e=false)(i:Cv ρ (Au w) c a):
  R d (ρ.new h.n (w.heap.size,0)) (h.new (aoL tag c)) (World.more w (.cells (a++rest).toArray b))∧Step ρ h w (ρ.new h.n (w.heap.size,0)) (h.new (aoL tag c)) (World.more w (.cells (a++rest).toArray b)):=by
 refine HZ f g _ _ (G9.Afd j ⟨(a++rest).toArray,b,(0,0),World.EK _,.inl (h_ _),by have:=i.length;simp;omega,fun k v e=>?_⟩ fun l m n c=>by rw[World.EK]at c;cases c;rfl);obtain⟨b,a,c⟩:=i.get e;refine⟨b,?_,c.mono (DA.Hp g _) fun e i j=>BX (World.Gp _ (f.J5 e i j))⟩;have:=(d_.1 a).1;simp only[az_,g_];rw[B_ this];exact a
theorem GA{tag:Option b_}(b:As8 h tag o a=V l):
  (o=Z∧l=[])∨(∃c e,o=V c∧h.get c.block=V (aoL tag e)∧c.off+a≤e.length∧l=(e.drop c.off).take a):=by
 unfold As8 at b;cases tag with
 |some a=>
  simp only at b;unfold Ln at b;split at b
  ·simp_all
  rename_i c;split at b
  ·rename_i a e f
   obtain⟨a,g⟩:=Al b;cases g;simp only[a_,D_,y_]at a;obtain⟨rfl,a⟩:=a;exact .inr ⟨c,e,J,f,a,J⟩
  cases b
 |none=>
 simp only at b;unfold AH.J8 at b;split at b
 ·simp_all
 rename_i c;split at b
 ·rename_i e f
  obtain⟨a,g⟩:=Al b;cases g;exact .inr ⟨c,e,J,f,by simp_all,J⟩
 cases b
theorem E9(e:h.J8 o a=V l):
  (o=Z∧l=[])∨(∃b c,o=V b∧h.get b.block=V (.cells c)∧b.off+a≤c.length∧l=(c.drop b.off).take a):=GA (tag:=Z) e
theorem run_append_room(g:BU p){x k l:b_}{b:x_}(y:p.CY k=V (.slice u))(z:p.CY l=V b)(m:JH b=true)(A:p.size u=V a)
  {c i e:Nat} {j:W} {n:Array W} {q:f_} (r:(V_ j).run p.P w=.ok e w) (s:c+e≤i) (t:(i_ a e j).run p.P w=.ok n w)
  (f:(match o with|some u=>N_ (u.add (c*a)) n.toList|none=>pure ()).run p.P w=.ok () q):
  (u_ #[k,l] x #[.slice o c i,j]).run p.P w=.ok (.slice o (c+e) i) q:=by
 have a:=g.A7 y;have c:=g.A7 z;have e:=g.BL A;cases o with
 |none=>
  simp only[M]at f;cases f;cases b<;>first
   |(cases m;done)
   |(simp only[u_,g_,j_,m_,T,a,c,e,Y,M,l_,if_false,r,s,if_true,bb_,t]<;>rfl)
 |some u=>
  simp only at f;cases b<;>first
   |(cases m;done)
   |(simp only[u_,g_,j_,m_,T,a,c,e,Y,M,l_,if_false,r,s,if_true,bb_,t,f];done)
theorem run_append_grow(i:BU p){t m n:b_}{l:x_}{q:W}{j:aF_}(x:p.CY m=V (.slice u))(y:p.CY n=V l)(z:JH l=true)(A:p.size u=V a)(F:p.zero u=V q)(K:p.P.info? u=V j)(L:j.bytes≤9000)
  {c g e:Nat} {k:W} {D2 new:Array W} (N:c+e≤1000000) (P:¬c+e≤g) (a0:(V_ k).run p.P w=.ok e w)
  (a1:∀b:f_,b.heap=w.heap→∃r:Array W,(i_ a c (.slice o c g)).run p.P b=.ok r b∧(b={w with drawn:=w.drawn+1}→r=D2))
  (a2:∀b:f_,b.heap=w.heap→∃s:Array W,(i_ a e k).run p.P b=.ok s b∧(b={w with drawn:=w.drawn+1}→s=new)):
  ∃f,c+e≤f∧(u_ #[m,n] t #[.slice o c g,k]).run p.P w=
   .ok (.slice (V ⟨w.heap.size,0,Z⟩) (c+e) f) (World.more {w with drawn:=w.drawn+1} (.cells (D2++new++r_ q.cells (f-(c+e))) u)):=by
 have r:=i.A7 x;have s:=i.A7 y;have a3:=i.BL A;have a4:=i.GM F;have a5:∀b:f_,(Z_ u).run p.P b=.ok j b:=fun b=>by simp[Z_,K]
 let k:=Question.appendCap (c+e) g u
 let f:=k.cut (w.tape w.drawn k)
 have ag:k.forced=false:=J;have a6:c+e≤f:=by show c+e≤c+e+_;omega
 obtain⟨ah,a7,a8⟩:=a1 {w with drawn:=w.drawn+1} rfl;obtain⟨ai,a9,aa⟩:=a2 {w with drawn:=w.drawn+1} rfl;obtain rfl:=a8 J;obtain rfl:=aa J;have ab:∀o (b:f_),(askRoom o).run p.P b=.ok () b:=fun o b=>by simp
 have ac:=Ajw (need:=c+e) (D2:=g) (by omega) N;have ad:¬ (ag_ (c+e) g*j.bytes>2^48):=by have:=ac_ ac L;omega
 have ae:¬ (((c+e:Nat):Int)>IntKind.i64.max):=by simp only[IntKind.max];simp[bc_,bl_];omega
 have af:(choose k).run p.P w=.ok f {w with drawn:=w.drawn+1}:=by rw[run_choose,Akt (by simp_all)]
 refine⟨f,a6,?_⟩;cases l<;>first
  |(cases z;done)
  |(simp only[u_,g_,j_,m_,T,r,s,a3,a5,Y,M,l_,if_false,a0,P,bb_,if_true,ae,false_and,ad]
    rw[show(choose (Question.appendCap (c+e) g u)).run p.P w=.ok f {w with drawn:=w.drawn+1}from af];simp only[Y,ab,a7,a9,a4,Dr])
theorem TW(y:BU p)(N:R d ρ h w)(aU:h.n<h'.n→ρ h.n=Z){ar:Array b_}{f r au aG:W}(ac:VR ρ (Au w) f au)(ai:VR ρ (Au w) r aG)(s:Gy p h ar.toList f r=V (v,h')):
  MS d p.P (u_ ar u #[au,aG]) ρ h w v h':=by
 unfold Gy at s;split at s
 case h_2=>cases s
 case h_1 a0 a aH aV aW aX=>
 obtain⟨bk,av,aY⟩:=Ad s;obtain⟨aw,aZ⟩:=Al aY;obtain⟨a2,aj,b0⟩:=Ad aZ;obtain⟨b,a3,b1⟩:=Ad b0;obtain⟨a1,ax,b2⟩:=Ad b1;obtain⟨ak,l,b3⟩:=Ad b2;obtain⟨j,a8,a4⟩:=Ad b3;have b4:ar= #[aV,aW]:=by apply C_;simpa using aX
 subst b4;have ay:=y.A7 (Bm aj);have bl:=y.BL a3;have b5:∃a5 x,au=.slice a5 a x∧a≤x:=by
  cases ac with
  |H4 A=>exact⟨Z,0,J,h_ _⟩
  |s0 m a5 A=>exact⟨V a5,0,J,h_ _⟩
  |sl F g i f a A x aI e n=>exact⟨_,x,J,e⟩
 obtain⟨a5,x,K,b6⟩:=b5;obtain⟨aJ,aK,a4⟩:=Aep a4;unfold T2 at a4;by_cases aL:j=0
 ·
  subst aL;change V (Value.slice a0 a aH,h)=V (v,h')at a4;cases a4;have e:ak=[]:=by
   cases r with
   |string F=>
    simp only[EF,s_]at l;simp only[K0,s_]at a8;rw[←l];have:F.data.toList=[]:=aE_ a8;rw[this];rfl
   |slice m n A=>
    simp only[K0,s_]at a8;subst a8;simp only[EF,AH.row]at l;cases m with
    |none=>cases l;rfl
    |some m=>change V []=V ak at l;cases l;rfl
   |_=>cases l
  subst e;obtain⟨ad,al⟩:=JJ (k:=b) N l a8 (by simp) ai p.P;obtain⟨z,az,ae⟩:=ad w J;cases ae;refine⟨.slice a5 a x,w,ρ,?_,K▸ac,N,Step.refl ρ h w⟩;rw[K];exact run_append_room y (Bm aj) av aw a3 (al w) b6 az (by cases a5<;>rfl)
 have b7:Nat.beq j 0=false:=by
  cases n:Nat.beq j 0 with
  |false=>rfl
  |true=>exact absurd (by simp_all) aL
 rw[b7]at a4;obtain⟨aM,b8⟩:=Al (c:=_) (t:=_) a4;simp only[a_,y_,D_,I_]at aM;obtain⟨⟨⟨⟨⟨b9,bm⟩,bn⟩,bo⟩,ba⟩,aA⟩:=aM;obtain⟨bb,af,bc⟩:=Ad b8;cases bc;have aN:ρ h.n=Z:=aU (by cases a0<;>simp[AH.PL]);obtain⟨ad,al⟩:=JJ (k:=b) N l a8 aA ai p.P;by_cases am:a+j≤x
 ·
  cases ac with
  |H4 A=>cases K;omega
  |s0 m bd A=>cases K;omega
  |sl F g i f a A be an bf aO=>
   cases K;have bg:b=aH:=by simp_all
   subst bg;rcases GA af with⟨n,_⟩|⟨m,a6,n,ao,ag,rfl⟩
   ·cases n
   cases n;obtain⟨⟨o,a7,a9,aa,aB,aP,aC⟩,bh⟩:=(N.cont F _ i f ao an).Sd;obtain⟨z,az,ae⟩:=ad w J;have aQ:z.length=j*b:=by rw[←ae.length,aA]
   have aD:Au w i=o.size:=by unfold Au;rw[aa]
   rw[aD]at aO;have bp:(a+j)*b≤x*b:=af_ b am;have bq:(a+j)*b=a*b+j*b:=aa_ _ _ _;have aE:=Dd p.P i (f+g+a*b) a7 a9 z 0 o w aB aa (by omega) (ae.NY ba);rw[T_]at aE;generalize q:w.setRow i (o.toList.take (f+g+a*b)++z++o.toList.drop (f+g+a*b+z.length)).toArray=e at aE;have ap:e.heap[i]? =V (.cells (A5 o.toList (f+g+a*b) z).toArray a7 a9):=by rw[←q,a5_ w i o _ a7 a9 aa];unfold A5;simp
   have aR:Au e i=Au w i:=by unfold Au;rw[ap,aa];simp[BV o.toList (f+g+a*b) z (by simp;omega)]
   have bi:∀r,Au e r=Au w r:=fun r=>by
    by_cases L:r=i
    ·simp_all
    exact BX (by rw[←q];exact am_ w i r _ L)
   have aS:R d (ρ.new h.n (i,f+g)) ((h.del F).new (aoL aJ ((a6.drop g).take (a*b)++ak))) e∧Step ρ h w (ρ.new h.n (i,f+g)) ((h.del F).new (aoL aJ ((a6.drop g).take (a*b)++ak))) e:=by
    refine QZ N aN ao (Au2 _ _) an (by rw[←q];simp) (fun r ai=>by rw[←q];exact am_ w i r _ ai) aR ?_ (by rw[←q];rfl) (by rw[←q];rfl) (by rw[←q];rfl);refine G9.Afd (t:=a7) (fun aT ay=>⟨bh aT ay _ _ _ aa,(aK aT ay).2⟩) ⟨_,a7,a9,ap,?_,?_,fun L v s=>?_⟩ fun c2 br bs bt=>by simp_all
    ·rw[show(A5 o.toList (f+g+a*b) z).toArray.size=o.size by simp[BV o.toList (f+g+a*b) z (by simp;omega)]];exact aB
    ·simp only[ap_,BV o.toList (f+g+a*b) z (by simp;omega)]
     simp;omega
    have conv:∀{v ab:W},VR ρ (Au w) v ab→VR (ρ.new h.n (i,f+g)) (Au e) v ab:=fun s=>s.mono (DA.Hp aN _) fun r bu _=>bi _;simp only[g_];rw[D5 _ _ _ (by simp;omega)];by_cases ah:L<a*b
    ·rw[B_ (by simp only[as_,at_];simp only at ag;omega),G_,Agd ah,O_]at s
     obtain⟨ab,aq,aF⟩:=aC (g+L) v s;rw[ifP];exact⟨ab,by rw[show f+g+L=f+(g+L)by omega];simpa using aq,conv aF⟩
    have bj:((a6.drop g).take (a*b)).length=a*b:=by simp only[as_,at_];simp only at ag;omega
    rw[t_ (by omega),bj]at s;obtain⟨ab,aq,aF⟩:=ae.get s;have bv:=(d_.1 aq).1;rw[Jl,ifP];exact⟨ab,by rw[show f+g+L-(f+g+a*b)=L-a*b by omega];exact aq,conv aF⟩
   refine⟨.slice (V ⟨i,f+g,Z⟩) (a+j) x,e,_,?_,?_,aS.1,aS.2⟩
   ·exact run_append_room y (Bm aj) av aw a3 (al w) am az (by simp only[HS];exact aE)
   have:=VR.sl (ρ:=ρ.new h.n (i,f+g)) (sz:=Au e) h.n 0 i (f+g) (a+j) b x (JI _ _) am (by omega);simpa using this
 
 have ab:∀e:f_,e.heap=w.heap→∃ae,(i_ b a (.slice a5 a x)).run p.P e=.ok (List.toArray ae) e∧Cv ρ (Au w) bb ae:=by
  intro e q;have z:Au e=Au w:=by funext F;exact BX (by rw[q])
  cases ac with
  |H4 A=>
   cases K;rcases GA af with⟨_,rfl⟩|⟨m,a6,n,_⟩
   ·exact⟨[],J,.nil⟩
   cases n
  |s0 m bd A=>
   cases K;rcases GA af with⟨n,_⟩|⟨m,a6,n,_,_,rfl⟩
   ·cases n
   refine⟨[],?_,by simpa using Cv.nil⟩;simp only[i_,an_];rfl
  |sl F g i f a A be an bf aO=>
   cases K;rcases GA af with⟨n,_⟩|⟨m,a6,n,ao,ag,rfl⟩
   ·cases n
   cases n;obtain⟨⟨o,a7,a9,aa,aB,aP,aC⟩,_⟩:=(N.cont F _ i f ao an).Sd;have aq:e.heap[i]? =V (.cells o a7 a9):=by simp_all
   obtain⟨az,aE,aF,_⟩:=HN (w:=e) (P:=p.P) aq aP (by rw[z];exact aC) ag;exact⟨az,by simp only[i_];exact aE,by simp_all⟩
 obtain⟨L,ah,aC⟩:=y.size a3;have a7:L.bytes≤9000:=by
  have g:=a3;unfold Pr.size at g;split at g
  ·rename_i n i
   have aI:=y.ty a2 n i;rw[aI]at ah;cases ah;cases g;have:=y.by' a2 L i;omega
  simp_all
 obtain⟨n,a9,A⟩:=ab {w with drawn:=w.drawn+1} rfl;obtain⟨o,aa,F⟩:=ad {w with drawn:=w.drawn+1} rfl;obtain⟨g,an,ao⟩:=run_append_grow (w:=w) (t:=u) (D2:=n.toArray) (new:=o.toArray) y (Bm aj) av aw a3 ax ah a7 b9 am (al w)
  (fun e q=>by
   obtain⟨aq,i,_⟩:=ab e q;refine⟨_,i,fun z=>?_⟩;subst z;rw[a9]at i;cases i;rfl)
  (fun e q=>by
   obtain⟨aq,i,_⟩:=ad e q;refine⟨_,i,fun z=>?_⟩;subst z;rw[aa]at i;cases i;rfl)
 let e:f_:={w with drawn:=w.drawn+1}
 have z:R d ρ (h.PL a0) e:=by
  have i:R d ρ h e:=N.same J;cases a0 with
  |none=>exact i
  |some m=>exact i.del m.block
 have aq:Step ρ h w ρ (h.PL a0) e:=by
  have q:Step ρ h w ρ h e:=Step.same J J J J;have i:R d ρ h e:=N.same J;cases a0 with
  |none=>exact q
  |some m=>exact q.trans (Step.del i m.block)
 have i:(h.PL a0).n=h.n:=by cases a0<;>rfl
 have l:=Vj (rest:=(r_ a1.cells (g-(a+j))).toList) z (by simp_all) a2 aK (A.append F);rw[i]at l;have ap:((n++o)++(r_ a1.cells (g-(a+j))).toList).toArray=n.toArray++o.toArray++r_ a1.cells (g-(a+j)):=by simp
 rw[ap]at l;refine⟨_,_,_,by rw[K];exact ao,?_,l.1,aq.trans l.2⟩;have q:=(VR.Fe (ρ:=ρ) (sz:=Au w) (y.zs a2 a1 ax)).Aq;have az:=y.zl a2 a1 b ax a3;have aD:a1.cells.size=b:=by rw[←az,q.length];simp
 have aB:n.length=a*b:=by
  rw[←A.length];rcases GA af with⟨rfl,rfl⟩|⟨m,a6,_,_,ag,rfl⟩
  ·cases ac;simp
  simp;omega
 have aQ:o.length=j*b:=by rw[←F.length,aA]
 have aR:Au (World.more e (.cells (n.toArray++o.toArray++r_ a1.cells (g-(a+j))) a2)) w.heap.size=g*b:=by unfold Au;rw[show w.heap.size=e.heap.size from rfl,World.EK];simp only[aS_,ap_,r_,a9_,by_,aB,aQ,aD];rw[←aa_,←aa_];congr 1;omega
 have:=VR.sl (ρ:=ρ.new h.n (w.heap.size,0)) (sz:=Au (World.more e (.cells (n.toArray++o.toArray++r_ a1.cells (g-(a+j))) a2))) h.n 0 w.heap.size 0 (a+j) b g (JI _ _) an (by omega);simpa using this
end
section
variable{p:Pr}{ρ:DA}{h h':AH}{w:World}{e:Nat}{v:Value}
def E5(b:W)(c a:Nat):Array W:=if a*c=0 then#[]else r_ b.cells a
theorem XU{a:Option x_}(h:Z2 a=true):a=V (.int .i64):=by
 unfold Z2 at h;split at h
 ·rfl
 cases h
theorem Jx(g:BU p){r k l:b_}{m:W}{c:aF_}(s:p.CY k=V (.slice u))(t:p.CY l=V (.int .i64))(x:p.size u=V a)(y:p.zero u=V m)(z:p.P.info? u=V c)(A:c.bytes≤9000)
  {f j n:Nat} {d:f_} (i:f+n≤j) (b:f+n≤1000000)
  (b:(match o with|some q=>N_ (q.add (f*a)) (E5 m a n).toList|none=>pure ()).run p.P w=.ok () d):
  (u_ #[k,l] r #[.slice o f j,.int .i64 n]).run p.P w=.ok (.slice o (f+n) j) d:=by
 have f:=g.A7 s;have j:=g.A7 t;have k:=g.BL x;have r:=g.GM y;have g:∀d:f_,(Z_ u).run p.P d=.ok c d:=fun d=>by simp[Z_,z]
 have d:IntKind.i64.wrap (n:Int)=n:=by rw[aW_];omega
 have l:¬ ((n:Int)<0):=by omega
 have m:(n*c.bytes:Nat)≤1000000*9000:=ac_ (by omega) A;have m:((n:Int)*(c.bytes:Int))=((n*c.bytes:Nat):Int):=(aZ_ _ _).symm;have m:¬ ((n:Int)*(c.bytes:Int)>2^48):=by omega
 unfold E5 at b;by_cases c:n*a=0
 ·rw[Agd c]at b
  cases o with
  |none=>
   simp only[M]at b;cases b;simp only[u_,g_,j_,m_,T,f,j,k,g,Y,M,if_true,asInt,ad_,d,l,if_false,m,E_,i,W_,l_,c]
  |some q=>
   simp only at b;simp only[u_,g_,j_,m_,T,f,j,k,g,Y,M,if_true,asInt,ad_,d,l,if_false,m,E_,i,W_,l_,c,b]
 rw[Akt c]at b;cases o with
 |none=>
  simp only[M]at b;cases b;simp only[u_,g_,j_,m_,T,f,j,k,r,g,Y,M,if_true,asInt,ad_,d,l,if_false,m,E_,i,W_,l_,c]
 |some q=>
  simp only at b;simp only[u_,g_,j_,m_,T,f,j,k,r,g,Y,M,if_true,asInt,ad_,d,l,if_false,m,E_,i,W_,l_,c,b]
theorem OB(j:BU p){t l m:b_}{k:W}{i:aF_}(r:p.CY l=V (.slice u))(s:p.CY m=V (.int .i64))(x:p.size u=V a)(y:p.zero u=V k)(z:p.P.info? u=V i)(n:i.bytes≤9000)
  {D2:Array W} (K:b+d≤1000000) (q:¬b+d≤c)
  (A:∀f:f_,f.heap=w.heap→∃g:Array W,(i_ a b (.slice o b c)).run p.P f=.ok g f∧(f={w with drawn:=w.drawn+1}→g=D2)):
  ∃g,b+d≤g∧(u_ #[l,m] t #[.slice o b c,.int .i64 d]).run p.P w=
   .ok (.slice (V ⟨w.heap.size,0,Z⟩) (b+d) g) (World.more {w with drawn:=w.drawn+1} (.cells (D2++E5 k a d++r_ k.cells (g-(b+d))) u)):=by
 have k:=j.A7 r;have l:=j.A7 s;have m:=j.BL x;have o:=j.GM y;have r:∀f:f_,(Z_ u).run p.P f=.ok i f:=fun f=>by simp[Z_,z]
 have s:IntKind.i64.wrap (d:Int)=d:=by rw[aW_];omega
 have x:¬ ((d:Int)<0):=by omega
 have j:(d*i.bytes:Nat)≤1000000*9000:=ac_ (by omega) n;have j:((d:Int)*(i.bytes:Int))=((d*i.bytes:Nat):Int):=(aZ_ _ _).symm;have y:¬ ((d:Int)*(i.bytes:Int)>2^48):=by omega
 let j:=Question.appendCap (b+d) c u
 let g:=j.cut (w.tape w.drawn j)
 have z:j.forced=false:=J;have L:b+d≤g:=by show b+d≤b+d+_;omega
 obtain⟨N,z,F⟩:=A {w with drawn:=w.drawn+1} rfl;obtain rfl:=F J;have A:∀F (f:f_),(askRoom F).run p.P f=.ok () f:=fun F f=>by simp
 have f:=Ajw (need:=b+d) (D2:=c) (by omega) K;have F:¬ (ag_ (b+d) c*i.bytes>2^48):=by have:=ac_ f n;omega
 have i:¬ (((b+d:Nat):Int)>IntKind.i64.max):=by simp only[IntKind.max];simp[bc_,bl_];omega
 have n:(choose j).run p.P w=.ok g {w with drawn:=w.drawn+1}:=by rw[run_choose,Akt (by simp_all)]
 refine⟨g,L,?_⟩;unfold E5;by_cases f:d*a=0
 ·rw[Agd f]
  simp only[u_,g_,j_,m_,T,k,l,m,r,Y,M,if_true,asInt,ad_,s,x,if_false,y,E_,q,W_,l_,i,false_and,F,f];rw[show(choose (Question.appendCap (b+d) c u)).run p.P w=.ok g {w with drawn:=w.drawn+1}from n];simp only[Y,A,z,o,Dr]
 rw[Akt f];simp only[u_,g_,j_,m_,T,k,l,m,r,Y,M,if_true,asInt,ad_,s,x,if_false,y,E_,q,W_,l_,i,false_and,F,f];rw[show(choose (Question.appendCap (b+d) c u)).run p.P w=.ok g {w with drawn:=w.drawn+1}from n];simp only[Y,A,z,o,Dr]
theorem Uk(y:BU p)(a5:R e ρ h w)(aQ:h.n<h'.n→ρ h.n=Z){ao:Array b_}{g o ap aA:W}(ab:VR ρ (Au w) g ap)(aq:VR ρ (Au w) o aA)(q:Mc p h ao.toList g o=V (v,h')):
  MS e p.P (u_ ao u #[ap,aA]) ρ h w v h':=by
 unfold Mc at q;split at q
 case h_2=>cases q
 case h_1 K a aB aR aS d aT=>
 obtain⟨aU,aV⟩:=Al q;have ar:=XU aU;obtain⟨N,ah,aW⟩:=Ad aV;obtain⟨b,a0,aX⟩:=Ad aW;obtain⟨k,ac,aY⟩:=Ad aX;obtain⟨aC,a6⟩:=Al aY;simp only[a_,y_]at aC;obtain⟨⟨aD,bh⟩,aZ⟩:=aC;have b0:=aq.DW;subst b0;have b1:ao= #[aR,aS]:=by apply C_;simpa using aT
 subst b1;have bi:=y.A7 (Bm ah);have bj:=y.BL a0;have b2:∃a1 r,ap=.slice a1 a r∧a≤r:=by
  cases ab with
  |H4 L=>exact⟨Z,0,J,h_ _⟩
  |s0 s a1 L=>exact⟨V a1,0,J,h_ _⟩
  |sl a2 i j g a L r l f m=>exact⟨_,r,J,f⟩
 obtain⟨a1,r,z,b3⟩:=b2;obtain⟨A,a3,bk⟩:=y.size a0;have au:A.bytes≤9000:=by
  have f:=a0;unfold Pr.size at f;split at f
  ·rename_i x m
   have l:=y.ty N x m;rw[l]at a3;cases a3;cases f;have:=y.by' N A m;omega
  simp_all
 have aE:=(VR.Fe (ρ:=ρ) (sz:=Au w) (y.zs N k ac)).Aq;have b4:=y.zl N k b ac a0;have ai:k.cells.size=b:=by rw[←b4,aE.length];simp
 have b5:(E5 k b d).toList=DZ k.cells.toList d:=by
  unfold E5;split
  ·rename_i f
   have:(DZ k.cells.toList d).length=0:=by rw[IJ];simp[ai,f]
   rw[aE_ this]
  exact Ml k.cells d
 have a7:Cv ρ (Au w) (DZ (Aq k) d) (E5 k b d).toList:=by rw[b5];exact NI aE d
 generalize ad:DZ (Aq k) d=aF at a7 a6;unfold CB at a6;by_cases aG:d=0
 ·
  subst aG;change V (Value.slice K a aB,h)=V (v,h')at a6;cases a6;refine⟨.slice a1 a r,w,ρ,?_,z▸ab,a5,Step.refl ρ h w⟩;rw[z];exact Jx (n:=0) y (Bm ah) ar a0 ac a3 au b3 aZ (by cases a1<;>simp[E5]<;>rfl)
 have b6:Nat.beq d 0=false:=by
  cases l:Nat.beq d 0 with
  |false=>rfl
  |true=>exact absurd (by simp_all) aG
 rw[b6]at a6;obtain⟨aH,b7⟩:=Al (c:=_) (t:=_) a6;simp only[a_,y_,D_,I_]at aH;obtain⟨⟨⟨⟨⟨aI,bl⟩,bm⟩,bn⟩,b8⟩,aJ⟩:=aH;obtain⟨b9,ae,ba⟩:=Ad b7;cases ba;have aK:ρ h.n=Z:=aQ (by cases K<;>simp[AH.PL]);by_cases aj:a+d≤r
 ·
  cases ab with
  |H4 L=>cases z;omega
  |s0 s bb L=>cases z;omega
  |sl a2 i j g a L bc ak bd aL=>
   cases z;have be:b=aB:=by simp_all
   subst be;rcases E9 ae with⟨l,_⟩|⟨s,a4,l,al,af,rfl⟩
   ·cases l
   cases l;obtain⟨m,a8,a9,ag,av,aM,aw⟩:=a5.cont a2 _ j g al ak;generalize ax:(E5 k b d).toList=F at a7;have aN:F.length=d*b:=by rw[←a7.length,aJ]
   have ai:Au w j=m.size:=by unfold Au;rw[ag]
   rw[ai]at aL;have bo:(a+d)*b≤r*b:=af_ b aj;have bp:(a+d)*b=a*b+d*b:=aa_ _ _ _;have ay:=Dd p.P j (g+i+a*b) a8 a9 F 0 m w av ag (by omega) (a7.NY b8);rw[T_]at ay;generalize x:w.setRow j (m.toList.take (g+i+a*b)++F++m.toList.drop (g+i+a*b+F.length)).toArray=f at ay;have am:f.heap[j]? =V (.cells (A5 m.toList (g+i+a*b) F).toArray a8 a9):=by rw[←x,a5_ w j m _ a8 a9 ag];unfold A5;simp
   have aO:Au f j=Au w j:=by unfold Au;rw[am,ag];simp[BV m.toList (g+i+a*b) F (by simp;omega)]
   have bf:∀o,Au f o=Au w o:=fun o=>by
    by_cases aa:o=j
    ·simp_all
    exact BX (by rw[←x];exact am_ w j o _ aa)
   have aP:R e (ρ.new h.n (j,g+i)) ((h.del a2).new (.cells ((a4.drop i).take (a*b)++aF))) f∧Step ρ h w (ρ.new h.n (j,g+i)) ((h.del a2).new (.cells ((a4.drop i).take (a*b)++aF))) f:=by
    refine QZ a5 aK al J ak (by rw[←x];simp) (fun o aq=>by rw[←x];exact am_ w j o _ aq) aO ?_ (by rw[←x];rfl) (by rw[←x];rfl) (by rw[←x];rfl);refine⟨_,a8,a9,am,?_,?_,fun A v q=>?_⟩
    ·rw[show(A5 m.toList (g+i+a*b) F).toArray.size=m.size by simp[BV m.toList (g+i+a*b) F (by simp;omega)]];exact av
    ·simp only[ap_,BV m.toList (g+i+a*b) F (by simp;omega)]
     simp;omega
    have conv:∀{v aa:W},VR ρ (Au w) v aa→VR (ρ.new h.n (j,g+i)) (Au f) v aa:=fun q=>q.mono (DA.Hp aK _) fun o bq _=>bf _;simp only[g_];rw[D5 _ _ _ (by simp;omega)];by_cases a3:A<a*b
    ·rw[B_ (by simp only[as_,at_];simp only at af;omega),G_,Agd a3,O_]at q
     obtain⟨aa,an,az⟩:=aw (i+A) v q;rw[ifP];exact⟨aa,by rw[show g+i+A=g+(i+A)by omega];simpa using an,conv az⟩
    have bg:((a4.drop i).take (a*b)).length=a*b:=by simp only[as_,at_];simp only at af;omega
    rw[t_ (by omega),bg]at q;obtain⟨aa,an,az⟩:=a7.get q;have br:=(d_.1 an).1;rw[Jl,ifP];exact⟨aa,by rw[show g+i+A-(g+i+a*b)=A-a*b by omega];exact an,conv az⟩
   refine⟨.slice (V ⟨j,g+i,Z⟩) (a+d) r,f,_,?_,?_,aP.1,aP.2⟩
   ·exact Jx y (Bm ah) ar a0 ac a3 au aj aI (by simp only[HS,ax];exact ay)
   have:=VR.sl (ρ:=ρ.new h.n (j,g+i)) (sz:=Au f) h.n 0 j (g+i) (a+d) b r (JI _ _) aj (by omega);simpa using this
 
 have aa:∀f:f_,f.heap=w.heap→∃an,(i_ b a (.slice a1 a r)).run p.P f=.ok (List.toArray an) f∧Cv ρ (Au w) b9 an:=by
  intro f x;have F:Au f=Au w:=by funext a2;exact BX (by rw[x])
  cases ab with
  |H4 L=>
   cases z;rcases E9 ae with⟨_,rfl⟩|⟨s,a4,l,_⟩
   ·exact⟨[],J,.nil⟩
   cases l
  |s0 s bb L=>
   cases z;rcases E9 ae with⟨l,_⟩|⟨s,a4,l,_,_,rfl⟩
   ·cases l
   refine⟨[],?_,by simpa using Cv.nil⟩;simp only[i_,an_];rfl
  |sl a2 i j g a L bc ak bd aL=>
   cases z;rcases E9 ae with⟨l,_⟩|⟨s,a4,l,al,af,rfl⟩
   ·cases l
   cases l;obtain⟨m,a8,a9,ag,av,aM,aw⟩:=a5.cont a2 _ j g al ak;have aD:f.heap[j]? =V (.cells m a8 a9):=by simp_all
   obtain⟨ay,az,aP,_⟩:=HN (w:=f) (P:=p.P) aD aM (by rw[F];exact aw) af;exact⟨ay,by simp only[i_];exact az,by simp_all⟩
 obtain⟨j,a8,L⟩:=aa {w with drawn:=w.drawn+1} rfl;have F:=a7;obtain⟨i,a9,a2⟩:=OB (w:=w) (t:=u) (D2:=j.toArray) y (Bm ah) ar a0 ac a3 au aI aj
  (fun f x=>by
   obtain⟨ag,l,_⟩:=aa f x;refine⟨_,l,fun m=>?_⟩;subst m;rw[a8]at l;cases l;rfl)
 generalize ax:(E5 k b d).toList=l at F;have ag:E5 k b d=l.toArray:=by rw[←ax]
 rw[ag]at a2
 let f:f_:={w with drawn:=w.drawn+1}
 have ak:R e ρ (h.PL K) f:=by
  have m:R e ρ h f:=a5.same J;cases K with
  |none=>exact m
  |some s=>exact m.del s.block
 have al:Step ρ h w ρ (h.PL K) f:=by
  have x:Step ρ h w ρ h f:=Step.same J J J J;have m:R e ρ h f:=a5.same J;cases K with
  |none=>exact x
  |some s=>exact x.trans (Step.del m s.block)
 have m:(h.PL K).n=h.n:=by cases K<;>rfl
 have ad:=Vj (tag:=Z) (rest:=(r_ k.cells (i-(a+d))).toList) ak (by simp_all) N (fun _ h=>by cases h) (L.append F);rw[m]at ad;have am:((j++l)++(r_ k.cells (i-(a+d))).toList).toArray=j.toArray++l.toArray++r_ k.cells (i-(a+d)):=by simp
 rw[am]at ad;refine⟨_,_,_,by rw[z];exact a2,?_,ad.1,al.trans ad.2⟩;have x:j.length=a*b:=by
  rw[←L.length];rcases E9 ae with⟨rfl,rfl⟩|⟨s,a4,_,_,af,rfl⟩
  ·cases ab;simp
  simp;omega
 have aN:l.length=d*b:=by rw[←F.length,aJ]
 have aO:Au (World.more f (.cells (j.toArray++l.toArray++r_ k.cells (i-(a+d))) N)) w.heap.size=i*b:=by unfold Au;rw[show w.heap.size=f.heap.size from rfl,World.EK];simp only[aS_,ap_,r_,a9_,by_,x,aN,ai];rw[←aa_,←aa_];congr 1;omega
 have:=VR.sl (ρ:=ρ.new h.n (w.heap.size,0)) (sz:=Au (World.more f (.cells (j.toArray++l.toArray++r_ k.cells (i-(a+d))) N))) h.n 0 w.heap.size 0 (a+d) b i (JI _ _) a9 (by omega);simpa using this
end
section
variable{p:Pr}{ρ:DA}{h h':AH}{w:World}{g:Nat}{e:Env}{f:Operand→Value}{o:Oper}{v:Value}
theorem VR.FX{b:Nat→Nat}{v a:W}(c:VR ρ b v a)(h:DC v=true):v=a:=by
 cases c<;>first|rfl|(simp[DC]at h;done)|skip
 simp[DC]at h;subst h;rfl
theorem Cv.FX{c:Nat→Nat}:∀{a b:E},Cv ρ c a b→a.all DC=true→a=b
 |_,_,.nil,_=>rfl
 |_,_,.cons v i a b h d,c=>by
  simp only[bi_,a_]at c;rw[h.FX c.1,d.FX c.2]
theorem VR.Zo{d:Nat→Nat}{v c:W}(a:VR ρ d v c)(h:Fz v=true):v=c:=by
 cases a with
 |agg b i a=>simp only[Fz]at h;rw[a.FX h]
 |tuple b i a=>simp only[Fz]at h;rw[a.FX h]
 |bool b=>rfl
 |int a i=>rfl
 |float a i=>rfl
 |string i=>rfl
 |Amc=>rfl
 |Am4=>rfl
 |Aof=>rfl
 |An5=>rfl
 |H4 a=>exact(VR.H4 (ρ:=ρ) (sz:=d) a).FX h
 |ptr b o d i j=>simp[Fz,DC]at h
 |sl b o d i k a l j m n=>simp[Fz,DC]at h
 |s0 i k a=>simp[Fz,DC]at h
 |map b d j=>simp[Fz,DC]at h
 |func a i b d j _ _=>simp[Fz,DC]at h
 |iface a v c _=>simp[Fz,DC]at h
theorem Jy(i:v_)(d:ae_)(j:b_)(k l:c_)(a c:W)(m:∀n,a≠.agg n)(b:a≠.nilIface∨c≠.nilIface)(w:f_):(au_ d j k l a c).run i w=.ok () w:=by
 unfold au_;cases d<;>first|rfl|skip
 all_goals
  simp only[];cases a<;>first|rfl|(exact absurd J (m _))|skip
  cases c<;>first|rfl|(rcases b with b|b<;>exact absurd J b)
theorem XW(j:v_)(c:ae_)(k:b_)(d:aU_)(i b:Int){v:W}(a:ME c d i b=V v)(w:f_):(binOp c k (.int d i) (.int d b)).run j w=.ok v w∧DC v=true:=by
 cases c<;>simp only[ME]at a<;>first|(cases a;done)|skip
 all_goals first
  |(cases a;exact⟨by simp[binOp,Op.intArith,Op.intCmp],J⟩)
  |(cases c:(b==0)with
    |true=>rw[c]at a;cases a
    |false=>
     rw[c]at a;cases a;have d:¬b=0:=by simp_all
     exact⟨by simp[binOp,Op.intDiv,d],J⟩)
theorem Lz{b:ae_}{i j:c_}{c d:W}(a:LA p b u i j c d=V v)(w:f_):((do au_ b u i j c d;binOp b u c d):Sem W).run p.P w=.ok v w∧DC v=true:=by obtain⟨c,b,a⟩:=Ad a;obtain⟨c,a⟩:=Al a;cases a;exact⟨M2 w _ _ _ b,c⟩
theorem WY(i:v_)(d:ae_)(j:b_)(a b:ByteArray){v:W}(c:WZ d a.data.toList b.data.toList=V v)(w:f_):(binOp d j (.string a) (.string b)).run i w=.ok v w∧DC v=true:=by
 cases d<;>simp only[WZ]at c<;>first|(cases c;done)|skip
 ·obtain⟨d,c⟩:=Al c
  simp only[y_]at d;cases c;refine⟨?_,J⟩;have d:a.size=a.data.toList.length:=by simp
  have i:b.size=b.data.toList.length:=by simp
  have j:¬ (((a.size+b.size:Nat):Int)>IntKind.i64.max):=by rw[d,i];simp only[IntKind.max];simp[bc_,bl_];omega
  have e:a++b=⟨(a.data.toList++b.data.toList).toArray⟩:=by apply ByteArray.ext;rw[ByteArray.data_append];apply C_;simp
  simp only[binOp,bu_];rw[Akt j,e];rfl
 ·cases c;exact⟨by simp[binOp,bu_,M_],J⟩
 cases c;exact⟨by simp[binOp,bu_,M_],J⟩
theorem Ahm{b:v_}{c:Nat→Nat}{d:x_}(n:b.underlying u=V d){i j k l:W}(q:VR ρ c i k)(r:VR ρ c j l){m:Bool}(a:Ri d i j=V m)(D:Nat)(w:f_):
  (bD_ (D+1) u k l).run b w=.ok m w:=by
 have b:=a7_ n w;unfold Ri at a;split at a<;>first|(cases a;done)|skip
 all_goals
  cases a;cases q<;>cases r<;>(simp[bD_,b];done)
def Ate:W→Bool
 |.pointer _|.slice _ _ _|.map _|.nilFunc|.func _ _ _|.nilIface|.iface _ _=>true
 |_=>false
theorem Vh{c:Nat→Nat}{k:x_}{d i b j:W}(l:VR ρ c d b)(m:VR ρ c i j){n:Bool}(a:Ri k d i=V n):Ate b=true∧(b≠.nilIface∨j≠.nilIface):=by
 unfold Ri at a;split at a<;>first|(cases a;done)|skip
 all_goals
  cases a;cases l<;>cases m<;>refine⟨J,?_⟩
  all_goals first
   |exact .inl (fun h=>bs_ h)
   |exact .inr (fun h=>bs_ h)
theorem Mg:∀{i:E} {c:List H},Og i=V c→∀(a:Nat) (b:H),c[a]? =V b→i[a]? =V (.string ⟨b.toArray⟩)
 |[],c,h,a,b,d=>by cases h;simp at d
 |v::j,c,h,a,b,d=>by
  cases v<;>try (cases h;done)
  rename_i c;simp only[Og]at h;split at h
  ·rename_i i c
   cases h;cases a with
   |zero=>simp only[j_,s_]at d⊢;subst d;rfl
   |succ a=>simpa using Mg c a b (by simp_all)
  cases h
theorem VF{a:Option x_}(h:XT a=true):a=V .string:=by
 unfold XT at h;split at h
 ·rfl
 cases h
theorem Ta{a:Option Bool}(h:Tb a=true):a=V false:=by
 unfold Tb at h;split at h
 ·rfl
 cases h
theorem LN(q:BU p)(l m:Array W)(n:Nat):∀(d:List Field) (c:Nat) (i j:List H),HC p d c=true→i.length=d.length→j.length=d.length→(∀a b,i[a]? =V b→l[c+a]? =V (.string ⟨b.toArray⟩))→(∀a b,j[a]? =V b→m[c+a]? =V (.string ⟨b.toArray⟩))→(Op.eqFields (n+1) l m d).run p.P w=.ok (i==j) w
 |[],_,[],[],_,_,_,_,_=>rfl
 |[],_,_::_,_,_,h,_,_,_=>by cases h
 |[],_,[],_::_,_,_,h,_,_=>by cases h
 |_::_,_,[],_,_,h,_,_,_=>by cases h
 |_::_,_,_::_,[],_,_,h,_,_=>by cases h
 |f::d,c,b::i,k::j,h,r,u,s,t=>by
  simp only[HC,a_,D_,bne_iff_ne]at h;obtain⟨x,u,y,z,A⟩:=h;have F:=LN q l m n d (c+1) i j A (by simp_all) (by simp_all) (fun a r K=>by rw[show c+1+a=c+(a+1)by omega];exact s (a+1) r (by simp_all)) (fun a r K=>by rw[show c+1+a=c+(a+1)by omega];exact t (a+1) r (by simp_all));have a:=q.Lj (Ta z) w;have c:=q.CY (VF y);have d:(part f.type l f.offset).run p.P w=.ok (.string ⟨b.toArray⟩) w:=by have:=s 0 b J;simp only[part,T,a,Y,l_,if_false,u];rw[T_]at this;rw[this];rfl
  have i:(part f.type m f.offset).run p.P w=.ok (.string ⟨k.toArray⟩) w:=by have:=t 0 k J;simp only[part,T,a,Y,l_,if_false,u];rw[T_]at this;rw[this];rfl
  have a:(bD_ (n+1) f.type (.string ⟨b.toArray⟩) (.string ⟨k.toArray⟩)).run p.P w=.ok (b==k) w:=by rw[run_equalIn_string w n f.type _ _ c,M_,M_]
  simp only[Op.eqFields];rw[Agd x];simp only[T,d,i,a,Y,List.cons_beq_cons];cases b==k with
  |false=>rfl
  |true=>simpa using F
theorem Qk(q:BU p){b:ae_}{k l:c_}{c d:W}(a:Mf p b u c d=V v)(w:f_):((do au_ b u k l c d;binOp b u c d):Sem W).run p.P w=.ok v w∧DC v=true:=by
 cases c<;>cases d<;>try (cases a;done)
 rename_i c d;change Lf p b u c.toList d.toList (p.CY u)=V v at a;unfold Lf at a;split at a
 case h_2=>cases a
 rename_i r m;obtain⟨i,a⟩:=Al a;obtain⟨t,x,a⟩:=Ad a;obtain⟨y,z,a⟩:=Ad a;obtain⟨j,a⟩:=Al a;simp only[a_,D_,Q_]at i j;have n:=q.CY m;have A:p.P.fieldsOf u=r:=by unfold Program.fieldsOf;rw[n]
 have s:=run_eqGuard_agg w b u k l c d i.2.2;have k:=run_equalIn_struct w 9999 u c d (by simp_all) i.2.1;rw[A,LN q c d 9998 r.toList 0 t y i.1 j.1 j.2 (fun l m n=>by simpa using Mg x l m n) (fun l m n=>by simpa using Mg z l m n)]at k;cases b<;>simp only[KV]at a<;>first|(cases a;done)|skip
 ·cases a
  refine⟨?_,J⟩;simp only[T,s,Y,run_eql_struct];rw[k];rfl
 cases a;refine⟨?_,J⟩;simp only[T,s,Y,run_neq_struct];rw[k];rfl
theorem Aef(z:BU p)(N:R g ρ h w){d:ae_}{i P:b_}{b c:c_}(a0:o.op=.binOp d i b c P)(l:VR ρ (Au w) (AZ e b) (f b))(m:VR ρ (Au w) (AZ e c) (f c))(a1:Amq p d i b c e h=V (.val v h')):B6 g p.P f o ρ h w v h':=by
 obtain⟨a,rfl⟩:=El a1;have n:∀{u:W},((do au_ d i b c (f b) (f c);binOp d i (f b) (f c)):Sem W).run p.P w=.ok u w→DC u=true→u=v→B6 g p.P f o ρ h' w v h':=by intro u q k A;subst A;refine B6.pure N (v':=u) ?_ (VR.GQ k);simp only[n_,a0,T]at q⊢;simp only[q,Y,M]
 unfold Cu at a;split at a
 ·rename_i a2 F x
  have x:=J2 x;rw[x]at l a;have r:=l.DW;split at a
  ·rename_i a4 K y
   have y:=J2 y;rw[y]at m a;have s:=m.DW;have t:(au_ d i b c (f b) (f c)).run p.P w=.ok () w:=Jy p.P d i b c _ _ (by simp_all) (.inl (by simp_all)) w;unfold orElse' at a;split at a
   ·rename_i u q
    cases a;obtain⟨L,a3⟩:=Al q;simp only[decide_eq_true_eq]at L;subst L;obtain⟨j,k⟩:=XW p.P d i a2 F K a3 w;refine n ?_ k J;rw[r,s]at t;simp only[T,r,s,t,Y,j]
   obtain⟨j,k⟩:=Lz a w;refine n ?_ k J;rw[r,s];exact j
  simp_all
 split at a
 ·rename_i F x
  obtain⟨L,a2,rfl⟩:=Nv x;rw[a2]at l;have r:=l.CI;split at a
  ·rename_i K y
   obtain⟨u,a3,rfl⟩:=Nv y;rw[a3]at m;have s:=m.CI;have t:(au_ d i b c (f b) (f c)).run p.P w=.ok () w:=Jy p.P d i b c _ _ (by simp_all) (.inl (by simp_all)) w;obtain⟨j,k⟩:=WY p.P d i L u a w;refine n ?_ k J;rw[r,s]at t;simp only[T,r,s,t,Y,j]
  simp_all
 unfold ED at a;cases r:(Fz (AZ e b)&&Fz (AZ e c))with
 |true=>
  rw[r]at a;change orElse' (Mf p d i (AZ e b) (AZ e c)) (LA p d i b c (AZ e b) (AZ e c))=V v at a;simp only[a_]at r;obtain⟨j,k⟩:((do au_ d i b c (AZ e b) (AZ e c);binOp d i (AZ e b) (AZ e c)):Sem W).run p.P w=.ok v w∧DC v=true:=by
   unfold orElse' at a;split at a
   ·rename_i u q
    cases a;exact Qk z q w
   exact Lz a w
  refine n ?_ k J;rw[←l.Zo r.1,←m.Zo r.2];exact j
 |false=>
  rw[r]at a;change (opt (p.CY i) fun s=>opt (Ri s (AZ e b) (AZ e c)) fun k=>KV d k)=V v at a;obtain⟨s,K,a⟩:=Ad a;obtain⟨k,x,a⟩:=Ad a;have A:(Op.equal i (f b) (f c)).run p.P w=.ok k w:=Ahm (z.CY K) l m x 9999 w;obtain⟨q,L⟩:=Vh l m x;have t:=Jy p.P d i b c (f b) (f c) (by intro a5 a2;rw[a2]at q;cases q) L w;have y:∀F,d=.eql∨d=.neq→(binOp d i (f b) (f c)).run p.P w=(if d=.eql then(do pure (Value.bool (←Op.equal i (f b) (f c))):Sem W)else(do pure (Value.bool (!(←Op.equal i (f b) (f c)))))).run p.P w∨F=false:=by intro F a3;left;generalize f b=a4 at q⊢;generalize f c=a6;rcases a3 with rfl|rfl<;>(cases a4<;>first|rfl|(cases q;done))
  cases d<;>simp only[KV]at a<;>first|(cases a;done)|skip
  ·cases a
   refine n ?_ (u:=.bool k) J J;rcases y true (.inl rfl)with j|j
   ·simp_all
   cases j
  cases a;refine n ?_ (u:=.bool (!k)) J J;rcases y true (.inr rfl)with j|j
  ·simp_all
  cases j
theorem Afa(i:R g ρ h w){j:UnOp}{b:c_}(k:o.op=.unOp j u b)(c:VR ρ (Au w) (AZ e b) (f b))(m:oUn j b e h=V (.val v h')):B6 g p.P f o ρ h w v h':=by
 obtain⟨a,rfl⟩:=El m;unfold unA at a;split at a
 ·split at a
  ·rename_i l n
   cases a;rw[n]at c;have d:=c.LU;refine B6.pure i (v':=.bool (!l)) ?_ (.bool _);simp only[n_,k,d,Op.unary,T,M,Y]
  simp_all
 ·split at a
  ·rename_i l n q
   cases a;rw[J2 q]at c;have d:=c.DW;refine B6.pure i (v':=.int l (l.wrap (0-n))) ?_ (.int _ _);simp only[n_,k,d,Op.unary,Op.intArith,T,M,Y]
  simp_all
 simp_all
end
section
variable{p:Pr}{ρ:DA}{h h':AH}{w:World}{ng:Nat}{e:Env}{f:Operand→Value}{o:Oper}{v:Value}
theorem IT{b:x_}{a:W}(h:CJ b a=true):DC a=true:=by unfold CJ at h;split at h<;>first|rfl|cases h
theorem Hl{a:x_}{c d:W}{g:Bool}(b:CJ a c=true)(h:sameKey c d=V g):aO_ a c d=V g:=by
 unfold sameKey at h;unfold CJ at b;split at h
 ·rename_i g c i d
  split at h
  ·rename_i g
   subst g;cases a<;>simp at b
   simp only[aO_,if_true];exact h
  cases h
 ·rename_i c d
  cases a<;>simp at b
  simp only[aO_];rw[←h,a0_,M_,M_]
 ·rename_i c d
  cases a<;>simp at b
  simp only[aO_];exact h
 cases h
theorem LQ{b:v_}{c:x_}(g:b.underlying u=V c){d:W}(a:CJ c d=true)(i:Bool)(j:Nat)(w:f_):(aI_ i (j+1) u d).run b w=.ok () w:=by have b:=a7_ g w;unfold CJ at a;split at a<;>first|(cases a;done)|(simp only[aI_,T,b,Y];rfl)
theorem RR{j:Nat→Nat}{c:x_}{a:W}(d:CJ c a=true):∀{k:List (W×W)} {g:List aG_} (i:Nat) {b:Option W},MV ρ j k g→Bc a k=V b→
  (b=Z∧L_ c a g i=V Z)∨(∃v k l,b=V v∧L_ c a g i=V (V (l,k))∧VR ρ j v k)
 |[],[],i,b,_,a=>by
  simp only[Bc]at a;cases a;exact .inl ⟨J,J⟩
 |(l,v)::m,g::n,i,b,⟨q,c,j,k⟩,a=>by
  simp only[Bc]at a;split at a
  ·rename_i b
   cases a;refine .inr ⟨v,g.val,i,J,?_,j⟩;have:=Hl d b;rw[←c]at this;simp only[L_,this]
  ·rename_i b
   have g:=Hl d b;rw[←c]at g;have b:=RR d (i+1) k a;simp only[L_,g];exact b
  cases a
theorem O6{b:x_×b_}(h:Hw p u=V b):∃a,p.CY u=V (.map a b.2)∧p.CY a=V b.1:=by
 unfold Hw at h;split at h
 ·rename_i a c b
  obtain⟨g,c,d⟩:=Ad h;cases d;exact⟨a,b,c⟩
 cases h
theorem Rq{b:W}{c:List (W×W)}(a:mapA h b=V c):(b=.map Z∧c=[])∨(∃d,b=.map (V d)∧h.get d=V (.map c)):=by
 unfold mapA at a;split at a
 ·simp_all
 ·rename_i d
  split at a
  ·simp_all
  cases a
 cases a
theorem VR.S3{d:Nat→Nat}{c:W}(h:VR ρ d (.map (V a)) c):∃b,ρ a=V (b,0)∧c=.map (V b):=by
 cases h with
 |map a b h=>exact⟨b,h,J⟩
theorem VR.Vn{b:Nat→Nat}{a:W}(h:VR ρ b (.map Z) a):a=.map Z:=by cases h;rfl
theorem O8{c:Nat→Nat}{b:W}{d:Bool}{g:Option W}{a i:W}(j:VR ρ c b b)(k:(g=Z∧a=b∧i=.bool false)∨(∃v,g=V v∧VR ρ c v a∧i=.bool true)):
  VR ρ c (CQ b d g) (if d then .tuple #[a,i]else a):=by
 cases d with
 |false=>
  rcases k with⟨rfl,rfl,_⟩|⟨v,rfl,b,_⟩
  ·exact j
  exact b
 |true=>
  rcases k with⟨rfl,rfl,rfl⟩|⟨v,rfl,b,rfl⟩
  ·exact VR.tuple [a,.bool false] [a,.bool false] (.cons _ _ _ _ j (.cons _ _ _ _ (.bool _) .nil))
  exact VR.tuple [v,.bool true] [a,.bool true] (.cons _ _ _ _ b (.cons _ _ _ _ (.bool _) .nil))
theorem S4(g:BU p)(q:R ng ρ h w){j c:c_}{b:Bool}(A:o.op=.lookup u j c b)(n:VR ρ (Au w) (AZ e j) (f j))(a4:VR ρ (Au w) (AZ e c) (f c))(a5:IL p u j c b e h=V (.val v h')):B6 ng p.P f o ρ h w v h':=by
 obtain⟨F,a6,a7⟩:=Ad a5;obtain⟨a8,a9,aa⟩:=Ad a7;obtain⟨k,K,ab⟩:=Ad aa;obtain⟨L,ac⟩:=Al ab;obtain⟨ad,ae,af⟩:=Ad ac;cases af;obtain⟨N,P,r⟩:=O6 a6;have a0:=a4.FX (IT L);have a1:VR ρ (Au w) k k:=VR.Fe (g.zs F.2 k K);have a2:∀l:List aG_,MV ρ (Au w) a8 l→∃a d,(do
   let(v,m)←match←aq_ N (f c) l with
    |some (_,v)=>pure (v,true)
    |none=>pure (←zeroValue F.2,false)
   pure (if b then Value.tuple #[v,.bool m]else v):Sem W).run p.P w=.ok (if b then .tuple #[a,d]else a) w∧VR ρ (Au w) (CQ k b ad) (if b then .tuple #[a,d]else a):=by
  intro l s;rcases RR (i:=0) L s ae with⟨rfl,m⟩|⟨t,x,z,rfl,m,y⟩
  ·refine⟨k,.bool false,?_,O8 a1 (.inl ⟨J,J,J⟩)⟩
   rw[a0]at m;simp only[aq_,T,g.A7 r w,Y,m,M,g.GM K w]
  refine⟨x,.bool true,?_,O8 a1 (.inr ⟨t,J,y,J⟩)⟩;rw[a0]at m;simp only[aq_,T,g.A7 r w,Y,m,M]
 have a3:∀s,(aI_ s 10000 N (f c)).run p.P w=.ok () w:=fun s=>LQ (g.CY r) (by simp_all) s 9999 w;rcases Rq a9 with⟨t,rfl⟩|⟨ag,t,ah⟩
 ·rw[t]at n
  have x:=n.Vn;obtain⟨a,d,m,y⟩:=a2 [] trivial;refine B6.pure q (v':=if b then .tuple #[a,d]else a) ?_ y;have z:(Instr.lookup u (f j) (f c) b).run p.P w=.ok (if b then .tuple #[a,d]else a) w:=by simp only[T]at m;simp only[Instr.lookup,T,g.A7 P w,Y,x,M,a3];exact m
  simp only[n_,A,T,z,Y,M]
 rw[t]at n;obtain⟨ai,aj,x⟩:=n.S3;obtain⟨_,l,am,ak,al⟩:=q.cont ag _ ai 0 ah aj;obtain⟨a,d,m,y⟩:=a2 l.toList al;refine B6.pure q (v':=if b then .tuple #[a,d]else a) ?_ y;have z:(Instr.lookup u (f j) (f c) b).run p.P w=.ok (if b then .tuple #[a,d]else a) w:=by simp only[T]at m;simp only[Instr.lookup,T,g.A7 P w,Y,x,getObj,Sem.run,ak,M,a3];exact m
 simp only[n_,A,T,z,Y,M]
end
section
variable{p:Pr}{ρ:DA}{h h':AH}{w:World}{f:Nat}{v:Value}
theorem Anq{c d:W}(b:K0 c=V a)(e:VR ρ (Au w) c d)(i:v_)(g:f_):(V_ d).run i g=.ok a g:=by
 unfold K0 at b;split at b
 ·cases b;cases e<;>rfl
 ·cases b;cases e;simp[V_]
 cases b
theorem MS.pure(c:R f ρ h w){a:v_}{b:Sem W}{v':W}(d:b.run a w=.ok v' w)(e:VR ρ (Au w) v v'):MS f a b ρ h w v h:=
 ⟨v',w,ρ,d,e,c,Step.refl ρ h w⟩
theorem XO(s:BU p)(l:R f ρ h w){d:Array b_}{m n:W}(e:VR ρ (Au w) m n)(g:Pe p h d.toList m=V (v,h')):MS f p.P (aB_ d u #[n]) ρ h w v h':=by
 unfold Pe at g;split at g
 case h_2=>cases g
 case h_1 o a1 a2=>
 obtain⟨a3,t,x⟩:=Ad g;obtain⟨y,a,z⟩:=Ad x;cases z;have i:d[0]? =V o:=by
  have:d.toList[0]? =V o:=by simp_all
  simpa using this
 have j:=s.A7 t w;refine MS.pure l (v':=.int .i64 y) ?_ (.int _ _);unfold Pb at a;split at a
 ·rename_i b
  cases a;have:=e.CI;subst this;simp only[aB_,i,g_,j_,T,j,Y,M,goInt];simp
 ·rename_i b c q k
  cases a;cases e<;>simp only[aB_,i,g_,j_,T,j,Y,M,goInt]
 ·cases a
  have:=e.Vn;subst this;simp only[aB_,i,g_,j_,T,j,Y,M,goInt];rfl
 ·rename_i q
  split at a
  ·rename_i c A
   cases a;obtain⟨F,K,rfl⟩:=e.S3;obtain⟨_,r,a4,L,N⟩:=l.cont q _ F 0 A K;have P:r.size=c.length:=by
    have:∀(c:List (W×W)) (b:List aG_),MV ρ (Au w) c b→b.length=c.length:=by
     intro c;induction c with
     |nil=>intro b k;cases b with|nil=>rfl|cons _ _=>cases k
     |cons m l a0=>
      intro b k;cases b with
      |nil=>cases k
      |cons a5 b=>simp[a0 b k.2.2.2]
    have:=this c r.toList N;simpa using this
   simp only[aB_,i,g_,j_,T,j,Y,getObj,Sem.run,L,M,goInt,P]
  cases a
 cases a
theorem XB(g:R f ρ h w){i:Array b_}{b c d e:W}(j:VR ρ (Au w) b d)(k:VR ρ (Au w) c e)(a:XC h b c=V (v,h'))(l:v_):MS f l (bH_ i u #[d,e]) ρ h w v h':=by
 unfold XC at a;split at a
 ·rename_i d b e c
  cases a;have:=j.DW;subst this;have:=k.DW;subst this;refine MS.pure g (v':=.int d (if c<b then c else b)) ?_ (.int _ _);simp[bH_,Builtin.min2]
 cases a
theorem XE(g:R f ρ h w){i:Array b_}{b c d e:W}(j:VR ρ (Au w) b d)(k:VR ρ (Au w) c e)(a:XF h b c=V (v,h'))(l:v_):MS f l (bI_ i u #[d,e]) ρ h w v h':=by
 unfold XF at a;split at a
 ·rename_i d b e c
  cases a;have:=j.DW;subst this;have:=k.DW;subst this;refine MS.pure g (v':=.int d (if c>b then c else b)) ?_ (.int _ _);simp[bI_,Builtin.max2]
 cases a
theorem US{b a sz:Nat}{c:W}(e:VR ρ (Au w) (.slice o b a) c)(d:sz≤b)(g:v_):
  ∃b,VR ρ (Au w) (.slice o sz a) b∧∀d,(i_ d sz c)=i_ d sz b:=by
 cases e with
 |H4 b=>obtain rfl:sz=0:=(by omega);exact⟨_,.H4 _,fun _=>rfl⟩
 |s0 d c b=>obtain rfl:sz=0:=(by omega);exact⟨_,.s0 _ c _,fun _=>rfl⟩
 |sl c d e g l b i j m k=>exact⟨_,.sl c d e g sz a i j (by omega) k,fun _=>rfl⟩
theorem Yh(A:BU p)(F:R f ρ h w){m:Array b_}{a1 s t g:W}(a2:VR ρ (Au w) a1 t)(n:VR ρ (Au w) s g)(x:Aan p h m.toList a1 s=V (v,h')):MS f p.P (aP_ m u #[t,g]) ρ h w v h':=by
 unfold Aan at x;split at x
 case h_2=>cases x
 case h_1 ah a K a3 aD aE=>
 obtain⟨b,y,ai⟩:=Ad x;obtain⟨aF,aj,ak⟩:=Ad ai;obtain⟨c,a4,i⟩:=Ad ak;have a5:m[0]? =V a3:=by
  have:m.toList[0]? =V a3:=by simp_all
  simpa using this
 have a6:=A.A7 (Bm aj) w;have a7:=Anq y n p.P w;have al:∃d o,t=.slice d a o:=by
  cases a2 with
  |H4 c=>exact⟨Z,0,J⟩
  |s0 e d c=>exact⟨V d,0,J⟩
  |sl a8 a9 aa j ab c o q k P=>exact⟨_,o,J⟩
 obtain⟨d,o,L⟩:=al;have ac:∀(N:Array W) (l:f_),(i_ c (Nat.min b a) g).run p.P w=.ok N w→(match d with|some e=>N_ e N.toList|none=>pure ()).run p.P w=.ok () l→
   (aP_ m u #[t,g]).run p.P w=.ok (.int .i64 (Nat.min b a)) l:=by
  intro N l q k;cases d with
  |none=>
   simp only[M]at k;cases k;simp only[aP_,a5,g_,j_,m_,T,a6,Y,L,a7,A.BL a4 w,q,M,goInt]
  |some e=>
   simp only at k;simp only[aP_,a5,g_,j_,m_,T,a6,Y,L,a7,A.BL a4 w,q,k,M,goInt]
 by_cases z:Nat.min b a=0
 ·rw[show Nat.beq (Nat.min b a) 0=true by simp_all]at i
  change V (Value.int .i64 0,h)=V (v,h')at i;cases i;have a0:∃r:Array W,(i_ c (Nat.min b a) g).run p.P w=.ok r w∧r= #[]:=by
   rw[z];cases s with
   |string j=>have:=n.CI;subst this;exact⟨_,IH p.P c 0 j w,by simp[AW]⟩
   |slice e ad ae=>
    cases n with
    |H4 K=>exact⟨#[],J,J⟩
    |s0 am an K=>refine⟨#[],?_,J⟩;simp only[i_,an_];rfl
    |sl a8 a9 aa j ab K o q k P=>refine⟨#[],?_,J⟩;simp only[i_,an_];rfl
   |_=>cases y
  obtain⟨r,k,af⟩:=a0;have P:(match d with|some e=>N_ e r.toList|none=>pure ()).run p.P w=.ok () w:=by rw[af];cases d<;>rfl
  refine MS.pure F (v':=.int .i64 0) ?_ (.int _ _);have:=ac r w k P;rw[z]at this;simpa using this
 have ao:Nat.beq (Nat.min b a) 0=false:=by
  cases k:Nat.beq (Nat.min b a) 0 with
  |false=>rfl
  |true=>exact absurd (by simp_all) z
 rw[ao]at i;change VZ h c (Nat.min b a) ah s=V (v,h')at i;obtain⟨e,ap,aq⟩:=Ad i;obtain⟨ar,k,af⟩:=Ad aq;subst ap;split at af
 ·rename_i aG au
  obtain⟨q,P,av⟩:=Ad af;cases av;obtain⟨a0,aw⟩:=Al P;simp only[a_,y_]at a0;cases aw;have ax:∃r:E,(i_ c (Nat.min b a) g).run p.P w=.ok r.toArray w∧Cv ρ (Au w) ar r:=by
   unfold NW at k;split at k
   ·rename_i j
    cases k;have:=n.CI;subst this;exact⟨_,IH p.P c _ j w,IG _⟩
   ·rename_i ay ad ae
    obtain⟨ag,az⟩:=Al k;simp only[D_]at ag;subst ag;simp only[K0,s_]at y;subst y;obtain⟨aH,aA,aI⟩:=US (sz:=Nat.min ad a) n (Nat.min_le_left _ _) p.P;obtain⟨aB,aJ,aC⟩:=RM F az aA ⟨ay,ae,J,.inr J⟩ p.P;exact⟨aB,by simp_all,aC⟩
   simp_all
  obtain⟨r,ad,ae⟩:=ax;cases a2 with
  |s0 am an ag=>exact absurd (by simp) z
  |sl a8 a9 aa j ab ag az am aA aB=>
   cases L;obtain⟨l,aC,an,ay⟩:=QO F au am a0.1 ae a0.2 p.P;exact⟨.int .i64 (Nat.min b a),l,ρ,ac r.toArray l ad (by omega),.int _ _,an,ay⟩
 simp_all
end
section
variable{p:Pr}{ρ:DA}{h h':AH}{w:World}{g:Nat}{e:Env}{f:Operand→Value}{o:Oper}{v:Value}
theorem SD{c:x_}{a b:W}(d:CJ c a=true)(h:sameKey a b=V true)(i:Nat):a=b∧R_ i b a=true:=by
 unfold sameKey at h;unfold CJ at d;split at h
 ·split at h
  ·rename_i a;subst a
   simp only[s_,beq_iff_eq]at h;subst h;exact⟨J,by simp[R_]⟩
  cases h
 ·rename_i a b
  simp only[s_,beq_iff_eq]at h;have c:a=b:=by cases a;cases b;simp only[bm_];exact C_ h
  subst c;refine⟨J,?_⟩;simp only[R_];rw[a0_];simp
 ·simp only[s_,beq_iff_eq]at h
  subst h;exact⟨J,by simp[R_]⟩
 cases h
theorem O7{k:Nat→Nat}{n:x_}{a j q:W}(b:CJ n a=true)(r:VR ρ k j q):∀{l i:List (W×W)} {c:List aG_} (d:Nat),MV ρ k l c→Bg a j l=V i→
  (∃l s j,L_ n a c d=V (V (d+l,s))∧c[l]? =V j∧j.key=a∧MV ρ k i (c.set l {j with key:=a,val:=q}))∨
  (L_ n a c d=V Z∧∀m,MV ρ k i (c++[{key:=a,val:=q,born:=m}]))
 |[],i,[],d,_,a=>by
  simp only[Bg]at a;cases a;exact .inr ⟨J,fun m=>⟨IT b,J,r,trivial⟩⟩
 |(l,v)::u,i,k::x,d,⟨n,c,q,t⟩,a=>by
  simp only[Bg]at a;split at a
  ·rename_i i
   cases a;obtain⟨l,_⟩:=SD b i 0;refine .inl ⟨0,k.val,k,?_,J,by simp_all,⟨IT b,J,r,t⟩⟩;have:=Hl b i;rw[←c]at this;simp only[L_,this,T_]
  ·rename_i i
   have k:=Hl b i;rw[←c]at k;split at a
   ·rename_i i u
    cases a;rcases O7 b r (d+1) t u with⟨x,s,j,i,l,y,z⟩|⟨i,l⟩
    ·refine .inl ⟨x+1,s,j,?_,by simp_all,y,⟨n,c,q,z⟩⟩
     simp only[L_,k,i];congr 3;omega
    refine .inr ⟨?_,fun m=>⟨n,c,q,l m⟩⟩;simp only[L_,k,i]
   cases a
  cases a
theorem Lh(b c:Obj)(d:w.heap[a]? =V b)(i:∀j k l,b≠.cells j k l)(m:v_):(setObj a c).run m w=.ok () {w with heap:=w.heap.setIfInBounds a c}:=by cases b<;>first|exact absurd J (i _ _ _)|(simp only[setObj,Sem.run,d])
theorem Zu(q:R g ρ h w){c a:Nat}{o o2:AO}{k O2:Obj}(r:h.get c=V o)(s:ρ c=V (a,0))(l:w.heap[a]? =V k)(t:∀b d i,k≠.cells b d i)(u:∀b d i,O2≠.cells b d i)
  (m:∀n:f_,n.heap=w.heap.setIfInBounds a O2→(∀b,Au n b=Au w b)→G9 ρ n o2 a 0):
  R g ρ (h.put c o2) {w with heap:=w.heap.setIfInBounds a O2}∧Step ρ h w ρ (h.put c o2) {w with heap:=w.heap.setIfInBounds a O2}:=by
 have N:a<w.heap.size:=(o_.1 l).1;have x:(w.heap.setIfInBounds a O2)[a]? =V O2:=by simp_all
 have y:∀b,b≠a→(w.heap.setIfInBounds a O2)[b]? =w.heap[b]? :=fun b m=>by rw[ax_ (Ne.symm m)]
 have z:Au {w with heap:=w.heap.setIfInBounds a O2} a=Au w a:=by unfold Au;simp only[x,l];cases k<;>cases O2<;>first|rfl|exact absurd J (t _ _ _)|exact absurd J (u _ _ _)
 have A:=m _ J fun b=>by
  by_cases F:b=a
  ·subst F;exact z
  exact BX (y b F)
 have K:o.rw=true:=by
  cases o with
  |ro P=>
   obtain⟨b,d,i,j,_⟩:=q.cont c _ a 0 r s;rw[l]at j;exact absurd (Option.some.inj j) (t _ _ _)
  |_=>rfl
 refine Oj q r K s (by simp) y z A (fun a0 L=>?_) J J J;subst L;obtain⟨b,d,i,j,_⟩:=A;rw[x]at j;exact absurd (Option.some.inj j) (u _ _ _)
theorem XI{v:W}(h:ZN v=V a):v=.map (V a):=by
 unfold ZN at h;split at h
 ·simp_all
 cases h
theorem LJ(l:BU p)(N:R g ρ h w){i a b:c_}(r:o.op=.insert u i a b∨o.op=.mapUpdate u i a b)(P:VR ρ (Au w) (AZ e i) (f i))(ab:VR ρ (Au w) (AZ e a) (f a))(a0:VR ρ (Au w) (AZ e b) (f b))(ac:Lv p u i a b e h=V (.val v h')):B6 g p.P f o ρ h w v h':=by
 obtain⟨ar,ad,ae⟩:=Ad ac;obtain⟨a1,af,ag⟩:=Ad ae;obtain⟨au,ah,ai⟩:=Ad ag;obtain⟨x,aj⟩:=Al ai;obtain⟨y,ak,al⟩:=Ad aj;cases al;obtain⟨am,a2,z⟩:=O6 ad;have s:=ab.FX (IT x);rw[XI af]at P;obtain⟨a3,a4,a5⟩:=P.S3;rcases Rq ah with⟨A,_⟩|⟨av,A,a6⟩
 ·cases A
 cases A;obtain⟨_,d,F,m,an⟩:=N.cont a1 _ a3 0 a6 a4;have a7:∀K,(aI_ K 10000 am (f a)).run p.P w=.ok () w:=fun K=>LQ (l.CY z) (by simp_all) K 9999 w;have a8:∀(j:Array aG_) (n:Nat),MV ρ (Au w) y j.toList→(Instr.mapUpdate u (f i) (f a) (f b)).run p.P w=(setObj a3 (.map j n)).run p.P w→B6 g p.P f o ρ h w undef (h.put a1 (.map y)):=by intro j n k t;obtain⟨c,q⟩:=Zu (O2:=.map j n) (o2:=.map y) N a6 a4 m (by simp) (by simp) (fun aa L a9=>⟨J,j,n,by rw[L];simp[(o_.1 m).1],k.mono (fun _ _ h=>h) (fun ao b a0=>a9 _)⟩);refine⟨.skip,_,ρ,?_,.inr ⟨J,J⟩,c,q⟩;have:=t.trans (Lh _ (.map j n) m (by simp) p.P);rcases r with r|r<;>simp only[n_,r,T,this,Y,M]
 rcases O7 x a0 0 an ak with⟨k,aw,a9,c,q,ao,ap⟩|⟨c,q⟩
 ·refine a8 (d.modify k fun L=>{L with key:=f a,val:=f b}) F ?_ ?_
  ·have:(d.modify k fun L=>{L with key:=f a,val:=f b}).toList=d.toList.set k {a9 with key:=f a,val:=f b}:=by
    have t:k<d.toList.length:=(d_.1 q).1;have aq:=(d_.1 q).2;apply List.ext_getElem
    ·simp
    intro ax ay aa;simp only[Array.getElem_toList,bg_,List.getElem_set];split
    ·simp_all
    rfl
   rw[this,←s];exact ap
  rw[az_]at c;rw[s]at c;have aq:(bn_ (((d[k]?).map (·.key)).getD (f a)) (f a)).run p.P w=.ok (f a) w:=by
   have aa:d[k]? =V a9:=by simp_all
   rw[aa];simp only[aj_,Option.getD_some,ao,←s];have:R_ 10000 (AZ e a) (AZ e a)=true:=by have t:=x;unfold CJ at t;generalize AZ e a=ax at t⊢;split at t<;>first|(simp[R_];done)|(simp only[R_];rw[a0_];simp;done)|cases t
   simp only[bn_,this,if_true,M]
  simp only[Instr.mapUpdate,T,l.A7 a2 w,Y,a5,getObj,Sem.run,m,a7,aq_,l.A7 z w,c,M,aq]
 refine a8 (d.push {key:=f a,val:=f b,born:=F}) (F+1) ?_ ?_
 ·simp_all
 rw[s]at c;simp only[Instr.mapUpdate,T,l.A7 a2 w,Y,a5,getObj,Sem.run,m,a7,aq_,l.A7 z w,c,M]
theorem UZ(i:BU p)(j:R g ρ h w)(k:h.n<h'.n→ρ h.n=Z){a:c_}(l:o.op=.range u a)(d:VR ρ (Au w) (AZ e a) (f a))(b:Mw p u a e h=V (.val v h')):B6 g p.P f o ρ h w v h':=by
 unfold Mw at b;split at b
 ·rename_i c m n
  cases b;have q:ρ h.n=Z:=k (by simp);rw[m]at d;have k:=d.CI;obtain⟨d,m⟩:=HZ j q (.iter c.data.toList 0) (.stringIter c 0) ⟨J,World.EK _⟩;refine⟨.value (.pointer (V ⟨w.heap.size,0,Z⟩)),_,_,?_,.inl ⟨_,J,S1 _ _⟩,d,m⟩;have d:(Instr.range u (f a)).run p.P w=.ok (.pointer (V ⟨w.heap.size,0,Z⟩)) (World.more w (.stringIter c 0)):=by simp only[Instr.range,T,i.A7 n w,Y,k,M,newObj,Sem.run];rfl
  simp only[n_,l,T,d,Y,M]
 cases b
theorem Xy(k:R g ρ h w){c:c_}{q:Bool}(r:o.op=.next c q)(s:VR ρ (Au w) (AZ e c) (f c))(K:ZE c q e h=V (.val v h')):B6 g p.P f o ρ h w v h':=by
 obtain⟨L,N⟩:=Al K;subst L;obtain⟨P,a0,a1⟩:=Ad N;obtain⟨t,d⟩:=Al a1;simp only[D_]at t;rw[I2 a0]at s;obtain⟨u,a2,x,ab,l⟩:=s.Hn;split at d
 ·rename_i b a y
  obtain⟨a3,j⟩:=k.cont P.block _ u a2 y x;subst a3;rw[t]at l;unfold Rj at d;split at d
  ·rename_i i
   cases d;have n:¬a<(⟨b.toArray⟩:ByteArray).size:=by have:=List.getElem?_eq_none_iff.1 i;show¬a<b.toArray.size;simp;omega
   refine B6.pure k (v':=.tuple #[.bool false]) ?_ (.tuple [.bool false] [.bool false] (.cons _ _ _ _ (.bool _) .nil));have m:(Instr.next (f c) true o.type).run p.P w=.ok (.tuple #[.bool false]) w:=by simp only[Instr.next,l,T,getObj,Sem.run,j,Y,n,if_false,M]
   simp only[n_,r,T,m,Y,M]
  rename_i i z;obtain⟨a4,a5⟩:=Al d;have a6:i.toNat<128:=by simpa using a4
  cases a5;have n:a<(⟨b.toArray⟩:ByteArray).size:=by have:=(d_.1 z).1;show a<b.toArray.size;simpa using this
  have A:((⟨b.toArray⟩:ByteArray)[a]'n)=i:=by have:=(d_.1 z).2;exact this
  have F:=decode_ascii ⟨b.toArray⟩ a n (by rw[A];exact a6);rw[A]at F;obtain⟨a7,a8⟩:=Zu (O2:=.stringIter ⟨b.toArray⟩ (a+1)) (o2:=.iter b (a+1)) k y x j (by intro _ _ _ h;cases h) (by intro _ _ _ h;cases h) (fun ac a9 _=>⟨J,by rw[a9];simp[(o_.1 j).1]⟩);refine⟨.value (.tuple #[.bool true,.int .i64 a,.int .i32 i.toNat]),_,ρ,?_,.inl ⟨_,J,.tuple [.bool true,.int .i64 a,.int .i32 i.toNat] [.bool true,.int .i64 a,.int .i32 i.toNat] (.cons _ _ _ _ (.bool _) (.cons _ _ _ _ (.int _ _) (.cons _ _ _ _ (.int _ _) .nil)))⟩,a7,a8⟩;have aa:=Lh _ (.stringIter ⟨b.toArray⟩ (a+1)) j (by intro _ _ _ h;cases h) p.P;have m:(Instr.next (f c) true o.type).run p.P w=.ok (.tuple #[.bool true,.int .i64 a,.int .i32 i.toNat]) {w with heap:=w.heap.setIfInBounds u (.stringIter ⟨b.toArray⟩ (a+1))}:=by simp only[Instr.next,l,T,getObj,Sem.run,j,Y,n,if_true,F,aa,M,goInt]
  simp only[n_,r,T,m,Y,M]
 cases d
end
def Ue(d:Nat)(ρ:DA)(h:AH)(w:f_)(v:W)(h':AH)(c:W)(a:f_):Prop:=∃b,VR b (Au a) v c∧R d b h' a∧Step ρ h w b h' a
def Ha(d:Nat)(i:v_)(b:X_)(c:Array W)(ρ:DA)(h:AH)(w:f_)(v:W)(h':AH):Prop:=
 (∃a g,(bh_ b c).run i w=.ok (.value a) g∧Ue d ρ h w v h' a g)∨
 ((bh_ b c).run i w=.ok (.enter b c) w∧Calls i b c w fun j g=>∃a,j=.returned a∧Ue d ρ h w v h' a g)
def Iy(d:Nat)(i:v_)(j:AQ):Prop:=∀b c h v h',j b c h=V (v,h')→∀ρ w g,R d ρ h w→Cv ρ (Au w) c g→(∀a,h.n≤a→a<h'.n→ρ a=Z)→Ha d i b g.toArray ρ h w v h'
def Ku(d:Nat)(c:v_)(f:c_→W)(o:q_)(ρ:DA)(h:AH)(w:f_)(v:W)(h':AH):Prop:=
 (∃a b,((n_ f o).run c w=.ok (.value a) b∨((n_ f o).run c w=.ok .skip b∧a=undef))∧Ue d ρ h w v h' a b)∨
 (∃g i,(n_ f o).run c w=.ok (.enter g i) w∧Calls c g i w fun j b=>∃a,j=.returned a∧Ue d ρ h w v h' a b)
section
variable{p:Pr}{ρ:DA}{h h':AH}{w:World}{d:Nat}{e:Env}{f:Operand→Value}{o:Oper}{v:Value}
theorem Ku.L8(j:B6 d p.P f o ρ h w v h'):Ku d p.P f o ρ h w v h':=by
 obtain⟨l,a,b,c,k,g,i⟩:=j;rcases k with⟨j,rfl,l⟩|⟨rfl,rfl⟩
 ·exact .inl ⟨j,a,.inl c,b,l,g,i⟩
 exact .inl ⟨undef,a,.inr ⟨c,J⟩,b,VR.undef,g,i⟩
theorem Ku.ofC{a:X_}{b:Array W}(i:(n_ f o).run p.P w=(bh_ a b).run p.P w)(j:Ha d p.P a b ρ h w v h'):Ku d p.P f o ρ h w v h':=by
 rcases j with⟨k,l,c,g⟩|⟨c,g⟩
 ·exact .inl ⟨k,l,.inl (i.trans c),g⟩
 exact .inr ⟨a,b,i.trans c,g⟩
theorem Ku.ofB{a:Sem W}(b:(n_ f o).run p.P w=((do pure (.value (←a))):Sem Next).run p.P w)(c:MS d p.P a ρ h w v h'):Ku d p.P f o ρ h w v h':=by obtain⟨a,g,i,j,k,l,m⟩:=c;refine .inl ⟨a,g,.inl ?_,i,k,l,m⟩;rw[b];simp only[T,j,Y,M]
theorem XD(g:BU p){b:String}{c:X_}(a:Hv p u b=V c)(i:W)(j:Nat)(w:f_):(method (j+1) u i b).run p.P w=.ok (c,i) w:=by
 unfold Hv at a;split at a
 case h_2=>cases a
 case h_1 i j=>
 split at a
 case h_2=>cases a
 case h_1 c k=>
 split at a
 case h_2=>cases a
 case h_1 n k l m=>
 cases a;have a:=g.ty u i j;have j:i.methods.find? (·.name==b)=V c:=by simp_all
 have b:c.path.toList=[]:=by simp_all
 have i:c.path.isEmpty=true:=k;simp only[method,T,Z_,bv_,Y,a,M,j,b,follow,l,i,if_true,receiverAt,g.A7 m w,Place.get]
theorem Yu{b:W}{c:X_}(a:Nq l h b=V (.call c m g)):
  ∃first i,b=.func (.func c) first i∧m=first.toList++(l++i.toList)∧g=h:=by
 unfold Nq at a;split at a
 ·cases a;exact⟨_,_,J,J,J⟩
 cases a
theorem Yt{c:String}{i:W}{j:X_}(a:KG p c l h i=V (.call j m g)):
  ∃b v,i=.iface b v∧Hv p b c=V j∧m=v::l∧g=h:=by
 unfold KG at a;split at a
 ·rename_i b v
  split at a
  ·rename_i g c;cases a;exact⟨b,v,J,c,J,J⟩
  cases a
 cases a
theorem VR.Aiw{a:Nat→Nat}{b:Fn}{c g:Array W}{i:W}(h:VR ρ a (.func b c g) i):∃j k,i=.func b j k∧Cv ρ a c.toList j.toList∧Cv ρ a g.toList k.toList:=by
 cases h with
 |func b f g i j a c=>exact⟨_,_,J,a,c⟩
theorem Cv.one{b:Nat→Nat}{c:W}(h:Cv ρ b [c] l):∃a,l=[a]∧VR ρ b c a:=by cases h with|cons _ a _ g b c=>cases c;exact⟨a,J,b⟩
theorem Cv.two{c:Nat→Nat}{g i:W}(h:Cv ρ c [g,i] l):∃a b,l=[a,b]∧VR ρ c g a∧VR ρ c i b:=by cases h with|cons _ a _ j c g=>obtain⟨b,rfl,i⟩:=g.one;exact⟨a,b,J,c,i⟩
theorem Yq(x:BU p)(r:R d ρ h w){call:AQ}(a0:Iy d p.P call){a:Call}(L:o.op=.call a)(N:L2 ρ w e f a.operands.toList){z:Nx}(b:ZG p o.type a e h=V z)(A:Bs call (V z)=V (v,h'))
  (P:∀c,h.n≤c→c<h'.n→ρ c=Z):Ku d p.P f o ρ h w v h':=by
 have j:L2 ρ w e f a.args.toList:=fun s i=>N s (by unfold bj_;simp;right;simpa using i);have g:=j.args;have y:(a.args.map f).toList=a.args.toList.map f:=by simp
 unfold ZG Eu at b;split at b
 ·
  rename_i c l;obtain⟨k,j⟩:∃k,(n_ f o).run p.P w=(builtin c a.argTypes o.type k (a.args.map f)).run p.P w:=by refine⟨a.args.map (fun s=>match s with|.const _=>true|_=>false),?_⟩;simp only[n_,L,T,resolve,l,M,Y,invoke];rfl
  unfold HG at b;split at b
  case h_2=>cases b
  case h_1 F m k=>
  cases b;have:F=v∧m=h':=by change V (F,m)=V (v,h')at A;cases A;exact⟨J,J⟩
  obtain⟨rfl,rfl⟩:=this;have a1:h.n<m.n→ρ h.n=Z:=fun c=>P h.n (h_ _) c;unfold Bx at k;split at k
  ·rename_i s n
   rw[n]at g;obtain⟨q,i,l⟩:=g.one;have c:a.args.map f= #[q]:=by apply C_;rw[y,i]
   rw[c]at j;exact Ku.ofB j (XO x r l k)
  ·rename_i s K n
   rw[n]at g;obtain⟨q,u,i,l,t⟩:=g.two;have c:a.args.map f= #[q,u]:=by apply C_;rw[y,i]
   rw[c]at j;unfold TX at k;split at k
   ·exact Ku.ofB j (Uk x r a1 l t k)
   exact Ku.ofB j (TW x r a1 l t k)
  ·rename_i s K n
   rw[n]at g;obtain⟨q,u,i,l,t⟩:=g.two;have c:a.args.map f= #[q,u]:=by apply C_;rw[y,i]
   rw[c]at j;exact Ku.ofB j (Yh x r l t k)
  ·rename_i s K n
   rw[n]at g;obtain⟨q,u,i,l,t⟩:=g.two;have c:a.args.map f= #[q,u]:=by apply C_;rw[y,i]
   rw[c]at j;exact Ku.ofB j (XB r l t k p.P)
  ·rename_i s K n
   rw[n]at g;obtain⟨q,u,i,l,t⟩:=g.two;have c:a.args.map f= #[q,u]:=by apply C_;rw[y,i]
   rw[c]at j;exact Ku.ofB j (XE r l t k p.P)
  cases k
 ·
  rename_i i q;have l:VR ρ (Au w) (AZ e i) (f i):=N i (by unfold bj_;rw[q];simp);cases z with
  |val F m=>unfold Nq at b;split at b<;>cases b
  |call j t m=>
   obtain⟨first,n,i,rfl,rfl⟩:=Yu b;rw[i]at l;obtain⟨i,k,s,u,y⟩:=l.Aiw;have l:call j (first.toList++(Fp e a.args.toList++n.toList)) m=V (v,h'):=A;have n:=a0 _ _ _ _ _ l ρ w (i.toList++(a.args.toList.map f++k.toList)) r (u.append (g.append y)) P;refine Ku.ofC ?_ n;have c:i++a.args.map f++k=(i.toList++(a.args.toList.map f++k.toList)).toArray:=by simp
   simp only[n_,L,T,resolve,q,s,Deferred.ofValue,M,Y,invoke,c]
 
 rename_i i y s;have q:VR ρ (Au w) (AZ e i) (f i):=N i (by unfold bj_;rw[s];simp);cases z with
 |val F m=>unfold KG at b;split at b<;>(try split at b)<;>cases b
 |call j t m=>
  obtain⟨k,t,u,z,rfl,rfl⟩:=Yt b;rw[u]at q;have⟨b,u,F⟩:∃b,f i=.iface k b∧VR ρ (Au w) t b:=by generalize f i=K at q;cases q with|iface _ _ b K=>exact⟨b,J,K⟩
  have l:call j (t::Fp e a.args.toList) m=V (v,h'):=A;have n:=a0 _ _ _ _ _ l ρ w (b::a.args.toList.map f) r (.cons _ _ _ _ F g) P;refine Ku.ofC ?_ n;have c:(#[b]++(#[f i]++a.args.map f).extract 1 (#[f i]++a.args.map f).size)=(b::a.args.toList.map f).toArray:=by apply C_;simp[List.take_of_length_le]
  have g:(#[f i]++a.args.map f)[0]? =V (f i):=by rw[←Array.getElem?_toList];simp
  simp only[n_,L,T,resolve,s,M,Y,invoke,g,callMethod];rw[u];simp only[T,bv_,Y];rw[show(method (p.P.types.size+bf_) k b y).run p.P w=.ok (j,b) w from XD x z b _ w];rw[u]at c;show(bh_ j (#[b]++(#[Value.iface k b]++a.args.map f).extract 1 (#[Value.iface k b]++a.args.map f).size)).run p.P w=_;rw[c]
end
section
variable{p:Pr}{ρ:DA}{h h':AH}{w:World}{ng:Nat}{e:Env}{f:Operand→Value}{o:Oper}{v:Value}
theorem Abb{a:Option W}{b:X_}(c:CF h a=V (.call b l g)):False:=by cases a<;>cases c
theorem Xz{d:X_}(c:Rj h a s b=V (.call d l g)):False:=by
 unfold Rj at c;split at c
 ·cases c
 obtain⟨_,a⟩:=Al c;cases a
theorem Yi{b:x_}{c:W}{d:X_}(a:KF p b u c h=V (.call d l g)):False:=by
 unfold KF at a;split at a
 ·cases a
 ·cases a
 ·obtain⟨_,b⟩:=Al a
  cases b
 cases a
def Aj2:Op→Bool
 |.call _=>true
 |_=>false
theorem Cz{b:Op}(c:Aj2 b=false){d:X_}(a:Cs p u b e h=V (.call d l g)):False:=by
 cases b<;>first|(cases c;done)|(cases a;done)|dsimp only[Cs]at a
 all_goals first|unfold Vd at a|unfold Rf at a|unfold My at a|unfold Ati at a|unfold SW at a|unfold JG at a|unfold Lv at a|unfold Lu at a|unfold JF at a|unfold GC at a|unfold Amq at a|unfold oUn at a|unfold Lw at a|unfold Mx at a|unfold ZF at a|unfold Ic at a|unfold KT at a|unfold SS at a|unfold IN at a|unfold SV at a|unfold IM at a|unfold SU at a|unfold IL at a|unfold Mw at a|unfold ZE at a|unfold Ie at a
 all_goals repeat' first
  |(cases a;done)
  |exact Abb a
  |exact Xz a
  |exact Yi a
  |(obtain⟨_,_,a⟩:=Ad a)
  |(obtain⟨_,a⟩:=Al a)
  |(unfold Aww at a;cases a;done)
  |(cases b:FC p _ _<;>rw[b]at a<;>cases a;done)
  |split at a
theorem Ag9(i:BU p)(mk:FM p)(g:R ng ρ h w){call:AQ}(A:Iy ng p.P call)(a:L2 ρ w e f o.op.operands.toList)(b:Bs call (Cs p o.type o.op e h)=V (v,h'))(z:∀m,h.n≤m→m<h'.n→ρ m=Z):Ku ng p.P f o ρ h w v h':=by
 obtain⟨u,r,x⟩:=Ad b;have j:∀d b,u=.val d b→d=v∧b=h':=by rintro d b rfl;change V (d,b)=V (v,h')at x;cases x;exact⟨J,J⟩
 have n:h.n<h'.n→ρ h.n=Z:=fun c=>z h.n (h_ _) c;have c:Aj2 o.op=false→Cs p o.type o.op e h=V (.val v h'):=fun k=>by
  cases u with
  |call F l b=>exact(Cz k r).elim
  |val d b=>obtain⟨rfl,rfl⟩:=j _ _ J;exact r
 cases b:o.op with
 |move d=>rw[b]at c a;exact .L8 (O5 g (.inl b) (a d (by simp[e_])) (c J))
 |assign d=>rw[b]at c a;exact .L8 (O5 g (.inr b) (a d (by simp[e_])) (c J))
 |pick s t m=>rw[b]at c a;exact .L8 (Xh g b (a s (by simp[e_])) (a t (by simp[e_])) (a m (by simp[e_])) (c J))
 |alloc j=>rw[b]at c a;exact .L8 (Wt (e:=e) i g n b (c J))
 |box j d=>rw[b]at c a;exact .L8 (Aec g n b (a d (by simp[e_])) (c J))
 |build j q=>rw[b]at c a;exact .L8 (We i g b (fun k l=>a k.2 (by simp[e_];exact⟨k.1,by simp_all⟩)) (c J))
 |buildSlice j y q=>rw[b]at c a;exact .L8 (ML i g n b (fun k l=>a k.2 (by simp[e_];exact⟨k.1,by simp_all⟩)) (c J))
 |insert j y q d=>rw[b]at c a;exact .L8 (LJ i g (.inl b) (a y (by simp[e_])) (a q (by simp[e_])) (a d (by simp[e_])) (c J))
 |load j t=>rw[b]at c a;exact .L8 (XK i g b (a t (by simp[e_])) (c J))
 |store j t d=>rw[b]at c a;exact .L8 (UC i g b (a t (by simp[e_])) (a d (by simp[e_])) (c J))
 |nilCheck d=>rw[b]at c a;exact .L8 (O4 mk g b (a d (by simp[e_])) (c J))
 |binOp t j d k K=>rw[b]at c a;exact .L8 (Aef i g b (a d (by simp[e_])) (a k (by simp[e_])) (c J))
 |unOp t j d=>rw[b]at c a;exact .L8 (Afa g b (a d (by simp[e_])) (c J))
 |convert t K d=>rw[b]at c a;exact .L8 (QB i g n b (a d (by simp[e_])) (c J))
 |makeInterface j d=>rw[b]at c a;exact .L8 (VI i g b (a d (by simp[e_])) (c J))
 |makeFunc F first t=>rw[b]at c a;exact .L8 (X3 g b (fun k l=>a k (by simp[e_];left;simpa using l)) (fun k l=>a k (by simp[e_];right;simpa using l)) (c J))
 |makeMap j d=>rw[b]at c a;exact .L8 (Qw (e:=e) g n b (c J))
 |makeSlice j t s=>rw[b]at c a;exact .L8 (NA i g n b (a t (by simp[e_])) (a s (by simp[e_])) (c J))
 |slice j d t F K=>rw[b]at c a;exact .L8 (UM i g b (a d (by simp[e_])) (fun k l=>a k (by simp[e_,l])) (fun k l=>a k (by simp[e_,l])) (fun k l=>a k (by simp[e_,l])) (c J))
 |fieldAddr j d q=>rw[b]at c a;exact .L8 (NC i g b (a d (by simp[e_])) (c J))
 |field j d q=>rw[b]at c a;exact .L8 (VS i g b (a d (by simp[e_])) (c J))
 |indexAddr j d k=>rw[b]at c a;exact .L8 (NB i g b (a d (by simp[e_])) (a k (by simp[e_])) (c J))
 |index j d k=>rw[b]at c a;exact .L8 (VG i g b (a d (by simp[e_])) (a k (by simp[e_])) (c J))
 |lookup j d q m=>rw[b]at c a;exact .L8 (S4 i g b (a d (by simp[e_])) (a q (by simp[e_])) (c J))
 |mapUpdate j y q d=>rw[b]at c a;exact .L8 (LJ i g (.inr b) (a y (by simp[e_])) (a q (by simp[e_])) (a d (by simp[e_])) (c J))
 |range j d=>rw[b]at c a;exact .L8 (UZ i g n b (a d (by simp[e_])) (c J))
 |next d m=>rw[b]at c a;exact .L8 (Xy g b (a d (by simp[e_])) (c J))
 |extract d k=>rw[b]at c a;exact .L8 (Qz g b (a d (by simp[e_])) (c J))
 |call s=>
  rw[b]at r a;change ZG p o.type s e h=V u at r;exact Yq i g A b (by simpa[e_]using a) r x z
 |_=>rw[b]at c;cases c rfl
end
def OT(ng:Nat):c_→Bool
 |.const b=>Fz b
 |.global b=>ab_ b ng
 |_=>true
def JU(N:Nat):Option Tmp→Bool
 |some b=>ab_ b N
 |none=>true
def Ez(ng N:Nat)(b:q_):Bool:=b.op.operands.toList.all (OT ng)&&JU N b.dst
def codeOk(ng N:Nat):Code→Bool
 |.region _ b _=>b.toList.all (Ez ng N)
 |.seq a c=>codeOk ng N a&&codeOk ng N c
 |.cond b a c=>OT ng b&&(codeOk ng N a&&codeOk ng N c)
 |.block _ b=>codeOk ng N b
 |.loop b=>codeOk ng N b
 |.scope b=>codeOk ng N b
 |_=>true
structure ER(ρ:DA)(w:f_)(N:Nat)(e:Env)(a:Act):Prop where
 defers:a.defers=[]
 size:N≤a.tmps.size
 at':∀t,VR ρ (Au w) (e.at t) (a.tmps.getD t undef)
section
variable{p:Pr}{ρ m:DA}{h h':AH}{w w':World}{ng N:Nat}{e:Env}{a:Act}
theorem ER.eval(d:ER ρ w N e a)(f:R ng ρ h w){b:c_}(c:OT ng b=true):VR ρ (Au w) (AZ e b) (a.eval b):=by
 cases b with
 |tmp b=>exact d.at' b
 |const b=>exact VR.Fe c
 |global b=>
  exact VR.ptr (ρ:=ρ) (sz:=Au w) b 0 b 0 (f.Ks b (by simpa[OT]using c))
 |func b=>exact VR.func (.func b) [] [] [] [] .nil .nil
theorem ER.step(b:ER ρ w N e a)(c:R ng ρ h w)(d:Step ρ h w m h' w'):ER m w' N e a:=⟨b.defers,b.size,fun f=>d.vr c (b.at' f)⟩
theorem SG(e:Env)(c:Option Tmp)(d:W)(b:Nat):(Be e c d).at b=if c=V b then d else e.at b:=by
 cases c with
 |none=>simp[Be]
 |some c=>
  show Env.at (e.set c (V d)) b=_;rw[Env.YH];by_cases d:b=c
  ·simp_all
  rw[Akt d,Akt (by simpa using Ne.symm d)]
theorem ER.put(b:ER ρ w N e a){d:Option Tmp}{c f:W}(g:JU N d=true)(i:VR ρ (Au w) c f):ER ρ w N (Be e d c) (a.put d f):=by
 refine⟨?_,?_,fun t=>?_⟩
 ·cases d<;>exact b.defers
 ·cases d with
  |none=>exact b.size
  |some t=>simp[Act.put];exact b.size
 rw[SG];cases d with
 |none=>rw[Akt (by simp)];exact b.at' t
 |some c=>
  simp only[Act.put];have f:c<a.tmps.size:=p_ (by simpa[JU]using g) b.size;by_cases f:c=t
  ·simp_all
  rw[Akt (by simp_all)];have:=b.at' t;simpa[P_,ax_ f]using this
theorem Q9(c:AQ)(all:List q_)(b:q_)(d:List q_)(e:Env)(h:AH):
  D0 p c all (b::d) e h=Av (B2 e all b.guard) (opt (Bs c (Cs p b.type b.op e h)) fun f=>Av (k_ h.n f.2.n) (D0 p c all d (Be e b.dst f.1) f.2) Z) (D0 p c all d (Be e b.dst undef) h):=rfl
theorem Kc(c:AQ)(all:List q_):∀(b:List q_) (e:Env) (h:AH) (d:Env) (h':AH),D0 p c all b e h=V (d,h')→h.n≤h'.n
 |[],e,h,d,h',b=>by cases b;exact h_ _
 |g::f,e,h,d,h',b=>by
  rw[Q9]at b;cases d:B2 e all g.guard with
  |false=>rw[d]at b;exact Kc c all f _ _ _ _ b
  |true=>
   rw[d]at b;obtain⟨g,_,d⟩:=Ad b;obtain⟨g,b⟩:=Al d;exact A_ (by simp_all) (Kc c all f _ _ _ _ b)
theorem Nf(j:N≤a.tmps.size)(d:Array q_)(f:q_)(k:∀b∈(match f.guard with|some (c,_)=>((d.toList[c]?).bind (·.dst)).toList|none=>[]),VR ρ (Au w) (e.at b) (a.tmps.getD b undef))(l:∀(c:Nat) (g:q_) b,d[c]? =V g→g.dst=V b→b<N):aQ_ f (yielded d a.tmps)=B2 e d.toList f.guard:=by
 unfold aQ_ B2;cases i:f.guard with
 |none=>rfl
 |some f=>
  obtain⟨c,i⟩:=f;simp only[yielded];have f:d.toList[c]? =d[c]? :=by simp
  rw[f];cases f:(d[c]?).bind (·.dst)with
  |none=>simp
  |some b=>
   have i:b<a.tmps.size:=by
    cases i:d[c]? with
    |none=>rw[i]at f;cases f
    |some g=>
     rw[i]at f;exact p_ (l c g b i f) j
   have c:=k b (by simp_all);have d:a.tmps[b]? =V (a.tmps.getD b undef):=by simp_all
   simp only[Option.bind_some,d];generalize a.tmps.getD b undef=d at c;generalize e.at b=d at c;cases c<;>simp
theorem XX(f:ER ρ w N e a)(b:Array q_)(d:q_)(i:∀(j:Nat) (g:q_) c,b[j]? =V g→g.dst=V c→c<N):aQ_ d (yielded b a.tmps)=B2 e b.toList d.guard:=
 Nf f.size b d (fun c _=>f.at' c) i
theorem Ag7(d:ER ρ w N e a)(f:R ng ρ h w){b:q_}(c:Ez ng N b=true):L2 ρ w e a.eval b.op.operands.toList:=by intro b g;simp only[Ez,a_,z_]at c;exact d.eval f (c.1 b g)
theorem Ls(j:BU p)(mk:FM p){d:AQ}(k:Iy ng p.P d)(l:R ng ρ h w){b:q_}(n:L2 ρ w e a.eval b.op.operands.toList)(o:Bs d (Cs p b.type b.op e h)=V (v,h'))(q:∀c,h.n≤c→c<h'.n→ρ c=Z)
  {d:Act→f_→Prop} {f:Exit→Act→f_→Prop} (i:∀m c w',R ng m h' w'→VR m (Au w') v c→Step ρ h w m h' w'→d (a.put b.dst c) w'):b.wp p.P a w d f:=by
 unfold Oper.wp;rcases Ag9 j mk l k n o q with⟨c,w',b,m,d,f,g⟩|⟨s,t,b,r⟩
 ·rcases b with b|⟨b,rfl⟩
  ·rw[b];exact i m c w' f d g
  rw[b];exact i m undef w' f d g
 rw[b];simp only[Oper.upon];refine r.mono fun j w' b=>?_;obtain⟨c,rfl,m,d,f,g⟩:=b;exact i m c w' f d g
theorem Ame(g:BU p)(mk:FM p){d:AQ}(i:Iy ng p.P d)(f:R ng ρ h w)(j:ER ρ w N e a){b:q_}(k:Ez ng N b=true){v:W}(l:Bs d (Cs p b.type b.op e h)=V (v,h'))(n:∀c,h.n≤c→c<h'.n→ρ c=Z)
  {c:Act→f_→Prop} {o:Exit→Act→f_→Prop} (q:∀m d w',R ng m h' w'→VR m (Au w') v d→Step ρ h w m h' w'→c (a.put b.dst d) w'):b.wp p.P a w c o:=
 Ls g mk i f (Ag7 j f k) l n q
theorem Mu(t:BU p)(mk:FM p){u:AQ}(x:Iy ng p.P u)(b:Array q_)(j:b.toList.all (Ez ng N)=true){Q:Exit→Act→f_→Prop}:
  ∀(f:List q_) (c:Nat) (ρ:DA) (e:Env) (h:AH) (w:f_) (a:Act) (k:Env) (h':AH),b.toList.drop c=f→D0 p u b.toList f e h=V (k,h')→R ng ρ h w→ER ρ w N e a→(∀g,h.n≤g→g<h'.n→ρ g=Z)→
   (∀m r w',R ng m h' w'→ER m w' N k r→Step ρ h w m h' w'→Q .normal r w')→wpOps p.P b Q (List.range' c f.length) a w
 |[],c,ρ,e,h,w,a,k,h',_,i,n,l,_,s=>by
  cases i;exact s ρ a w n l (Step.refl ρ h w)
 |d::f,c,ρ,e,h,w,a,k,h',K,i,n,l,y,s=>by
  have L:b[c]? =V d:=by
   have:(b.toList.drop c)[0]? =V d:=by simp_all
   simpa using this
  have q:b.toList[c]? =V d:=by simp_all
  have o:Ez ng N d=true:=by rw[z_]at j;exact j d (w_ q)
  have P:∀(z:Nat) (q:q_) A,b[z]? =V q→q.dst=V A→A<N:=by intro z q A F a0;rw[z_]at j;have:=j q (w_ (by simpa using F:b.toList[z]? =V q));simp only[Ez,a_,a0,JU]at this;simpa using this.2
  have F:b.toList.drop (c+1)=f:=by rw[←List.drop_drop,K];rfl
  simp only[S_,List.range'_succ,wpOps,L];rw[XX l b d P];rw[Q9]at i;cases q:B2 e b.toList d.guard with
  |false=>
   rw[q]at i;simp only[l_,if_false];have z:JU N d.dst=true:=by simp only[Ez,a_]at o;exact o.2
   exact Mu t mk x b j f (c+1) ρ _ h w _ k h' F i n (l.put z VR.undef) y s
  |true=>
   rw[q]at i;simp only[if_true];obtain⟨q,L,A⟩:=Ad i;obtain⟨i,K⟩:=Al A;have P:h.n≤q.2.n:=by simpa using i
   have a0:=Kc u b.toList f _ _ _ _ K;left;refine Ame t mk x n l o (v:=q.1) (h':=q.2) L (fun g i u=>y g i (p_ u a0)) fun a1 a5 a2 a3 a4 A=>?_;have z:JU N d.dst=true:=by simp only[Ez,a_]at o;exact o.2
   refine Mu t mk x b j f (c+1) a1 _ q.2 a2 _ k h' F K a3 ((l.step n A).put z a4) (fun g i u=>?_) fun m r w' d o L=>s m r w' d o (A.trans L);rw[A.D2 g (.inr i)];exact y g (A_ P i) u
def Aom:Ex→Exit
 |.norm=>.normal
 |.out b=>.exit b
 |.ret=>.ret
def Ud(ng N:Nat)(p:Pr)(c:AQ):Prop:=
 ∀(id:Nat) (b:Array q_) (e:Env) (h:AH) (d:Env) (h':AH),b.toList.all (Ez ng N)=true→Dp p c b.toList e h=V (d,h')→h.n≤h'.n∧
  ∀(ρ:DA) (w:f_) (a:Act) (f:Exit→Act→f_→Prop),R ng ρ h w→ER ρ w N e a→(∀c,h.n≤c→c<h'.n→ρ c=Z)→
   (∀m c w',R ng m h' w'→ER m w' N d c→Step ρ h w m h' w'→f .normal c w')→(Code.region id b true).wp p.P f a w
theorem O0{b:Option (Env×AH)}{c:Ex×Env×AH}(d:DV b=V c):∃e h,b=V (e,h)∧c=(.norm,e,h):=by obtain⟨b,c,f⟩:=Ad d;cases f;exact⟨b.1,b.2,c,J⟩
def Ayo(ng N:Nat)(p:Pr)(d:Code)(e:Env)(h:AH)(f:Ex)(g:Env)(h':AH):Prop:=
 h.n≤h'.n∧∀(ρ:DA) (w:f_) (a:Act) (c:Exit→Act→f_→Prop),R ng ρ h w→ER ρ w N e a→(∀b,h.n≤b→b<h'.n→ρ b=Z)→
  (∀m b w',R ng m h' w'→ER m w' N g b→Step ρ h w m h' w'→c (Aom f) b w')→d.wp p.P c a w
theorem CM(F:BU p)(mk:FM p){A:AQ}(K:Iy ng p.P A)(L:Ud ng N p A)(q:Nat):
  ∀(t:Code),codeOk ng N t=true→∀(e:Env) (h:AH) (g:Ex) (k:Env) (h':AH),A4 p A q t e h=V (g,k,h')→Ayo ng N p t e h g k h'
 |.skip,_,e,h,g,k,h',b=>by
  cases b;exact⟨h_ _,fun ρ w a j c d _ f=>wp_skip (f ρ a w c d (Step.refl ρ h w))⟩
 |.label i,_,e,h,g,k,h',b=>by
  cases b;exact⟨h_ _,fun ρ w a j c d _ f=>wp_label (f ρ a w c d (Step.refl ρ h w))⟩
 |.ret,_,e,h,g,k,h',b=>by
  cases b;exact⟨h_ _,fun ρ w a j c d _ f=>wp_ret (f ρ a w c d (Step.refl ρ h w))⟩
 |.exit a2,_,e,h,g,k,h',b=>by
  cases b;exact⟨h_ _,fun ρ w a j c d _ f=>wp_exit (f ρ a w c d (Step.refl ρ h w))⟩
 |.region id l i,n,e,h,g,k,h',b=>by
  change Ka p A i l.toList e h=V (g,k,h')at b;cases i with
  |true=>
   change DV (Dp p A l.toList e h)=V (g,k,h')at b;obtain⟨a3,a4,a0,o⟩:=O0 b;cases o;obtain⟨P,a1⟩:=L id l e h _ _ n a0;exact⟨P,fun ρ w a j c d i f=>a1 ρ w a j c d i f⟩
  |false=>
   change DV (D0 p A l.toList l.toList e h)=V (g,k,h')at b;obtain⟨a3,a4,a0,o⟩:=O0 b;cases o;refine⟨Kc A _ _ _ _ _ _ a0,fun ρ w a j c d i f=>wp_region ?_⟩;have:=Mu F mk K l n (Q:=j) l.toList 0 ρ e h w a _ _ J a0 c d i f;rw[List.range_eq_range'];simpa using this
 |.seq c1 c2,n,e,h,g,k,h',b=>by
  simp only[codeOk,a_]at n;simp only[A4]at b;split at b
  ·rename_i a3 a4 a0
   obtain⟨l,o⟩:=CM F mk K L q c1 n.1 _ _ _ _ _ a0;obtain⟨a5,a7⟩:=CM F mk K L q c2 n.2 _ _ _ _ _ b;refine⟨A_ l a5,fun ρ w a j c d i f=>wp_seq ?_⟩;refine o ρ w a _ c d (fun z P a1=>i z P (p_ a1 a5)) fun u r v x y s=>?_;refine a7 u v r j x y (fun z P a1=>?_) fun a8 a9 aa ab ac ad=>f a8 a9 aa ab ac (s.trans ad);rw[s.D2 z (.inr P)];exact i z (A_ l P) a1
  rename_i ag;obtain⟨l,o⟩:=CM F mk K L q c1 n.1 _ _ _ _ _ b;refine⟨l,fun ρ w a j c d i f=>wp_seq ?_⟩;refine o ρ w a _ c d i fun u r v x y s=>?_;have:=f u r v x y s;cases g with
  |norm=>exact absurd b (by simp_all)
  |out a2=>exact this
  |ret=>exact this
 |.cond c1 r ae,n,e,h,g,k,h',b=>by
  simp only[codeOk,a_]at n;simp only[A4]at b;split at b
  ·rename_i a6 af
   cases a6 with
   |true=>
    change A4 p A q r e h=V (g,k,h')at b;obtain⟨l,o⟩:=CM F mk K L q r n.2.1 _ _ _ _ _ b;refine⟨l,fun ρ w a j c d i f=>?_⟩;have a6:=d.eval c n.1;rw[af]at a6;exact wp_cond_true a6.LU (o ρ w a j c d i f)
   |false=>
    change A4 p A q ae e h=V (g,k,h')at b;obtain⟨l,o⟩:=CM F mk K L q ae n.2.2 _ _ _ _ _ b;refine⟨l,fun ρ w a j c d i f=>?_⟩;have a6:=d.eval c n.1;rw[af]at a6;exact wp_cond_false a6.LU (o ρ w a j c d i f)
  cases b
 |.block a2 t,n,e,h,g,k,h',b=>by
  simp only[A4]at b;split at b
  ·rename_i a6 a3 a4 a0
   obtain⟨l,o⟩:=CM F mk K L q t n _ _ _ _ _ a0;cases ae:Nat.beq a2 a6 with
   |true=>
    rw[ae]at b;cases b;have af:a2=a6:=by simp_all
    refine⟨l,fun ρ w a j c d i f=>wp_block ?_⟩;refine o ρ w a _ c d i fun u r v x y s=>?_;simp only[Aom,Exit.inBlock,af,if_true];exact f u r v x y s
   |false=>
    rw[ae]at b;cases b;have af:¬a6=a2:=by intro ah;subst ah;simp at ae
    refine⟨l,fun ρ w a j c d i f=>wp_block ?_⟩;refine o ρ w a _ c d i fun u r v x y s=>?_;simp only[Aom,Exit.inBlock,af,if_false];exact f u r v x y s
  rename_i ag;obtain⟨l,o⟩:=CM F mk K L q t n _ _ _ _ _ b;refine⟨l,fun ρ w a j c d i f=>wp_block ?_⟩;refine o ρ w a _ c d i fun u r v x y s=>?_;have:=f u r v x y s;cases g with
  |norm=>exact this
  |out a2=>exact absurd b (by simp_all)
  |ret=>exact this
 |.loop t,n,e,h,g,k,h',b=>by
  change EG (A4 p A q t) q e h=V (g,k,h')at b;have af:∀(a6:Nat) (e:Env) (h:AH),EG (A4 p A q t) a6 e h=V (g,k,h')→h.n≤h'.n∧∀(ρ:DA) (w:f_) (a:Act) (j:Exit→Act→f_→Prop),R ng ρ h w→ER ρ w N e a→(∀z,h.n≤z→z<h'.n→ρ z=Z)→
    (∀m ae w',R ng m h' w'→ER m w' N k ae→Step ρ h w m h' w'→j (Aom g) ae w')→Code.rounds p.P t j a6 a w:=by
   intro a6;induction a6 with
   |zero=>intro e h b;cases b
   |succ a6 ae=>
    intro e h b;simp only[EG]at b;split at b
    ·rename_i a3 a4 a0
     obtain⟨l,o⟩:=CM F mk K L q t n _ _ _ _ _ a0;obtain⟨a5,a7⟩:=ae a3 a4 b;refine⟨A_ l a5,fun ρ w a j c d i f=>?_⟩;rw[rounds_succ];refine o ρ w a _ c d (fun z P a1=>i z P (p_ a1 a5)) fun u r v x y s=>?_;refine a7 u v r j x y (fun z P a1=>?_) fun a8 a9 aa ab ac ad=>f a8 a9 aa ab ac (s.trans ad);rw[s.D2 z (.inr P)];exact i z (A_ l P) a1
    rename_i ag;obtain⟨l,o⟩:=CM F mk K L q t n _ _ _ _ _ b;refine⟨l,fun ρ w a j c d i f=>?_⟩;rw[rounds_succ];refine o ρ w a _ c d i fun u r v x y s=>?_;have:=f u r v x y s;cases g with
    |norm=>exact absurd b (by simp_all)
    |out a2=>exact this
    |ret=>exact this
  obtain⟨l,o⟩:=af q e h b;exact⟨l,fun ρ w a j c d i f=>wp_loop_rounds q (o ρ w a j c d i f)⟩
 |.scope t,n,e,h,g,k,h',b=>by
  change A4 p A q t e h=V (g,k,h')at b;obtain⟨l,o⟩:=CM F mk K L q t n _ _ _ _ _ b;refine⟨l,fun ρ w a j c d i f=>wp_scope_straight ?_⟩;refine o ρ w a _ c d i fun u r v x y s=>?_;have:=f u r v x y s;cases g<;>exact this
 |.rangeFunc _ _ _ _,_,e,h,g,k,h',b=>by cases b
 |.goto _,_,e,h,g,k,h',b=>by cases b
 |.refuse _,_,e,h,g,k,h',b=>by cases b
structure Ap6(ng:Nat)(p:Pr):Prop where
 name:∀f fn,p.fn.get f=V fn→fn.name≠ "runtime.NumGoroutine"
 code:∀f fn c,p.fn.get f=V fn→fn.body=V c→codeOk ng fn.ntmps c=true
def Agp(c:Array W):ResultVar→Sem W
 |.tmp b=>pure (c.getD b undef)
 |.cell d b=>do bp_ b (←asAddr (c.getD d undef))
theorem Mk(i:BU p)(j:R ng ρ h w)(g:ER ρ w N e a):∀(c:List ResultVar) (f:E),Ia p e h c=V f→
  ∃d,(c.mapM (Agp a.tmps)).run p.P w=.ok d w∧Cv ρ (Au w) f d
 |[],f,b=>by
  cases b;exact⟨[],J,.nil⟩
 |.tmp k::c,f,b=>by
  simp only[Ia]at b;split at b
  ·rename_i l n
   cases b;obtain⟨d,o,q⟩:=Mk i j g c l n;refine⟨a.tmps.getD k undef::d,?_,.cons _ _ _ _ (g.at' k) q⟩;simp only[a8_,Agp,T,M,Y,o]
  cases b
 |.cell r k::c,f,b=>by
  simp only[Ia]at b;split at b
  ·rename_i f k
   split at b
   ·rename_i s l f n
    cases b;obtain⟨d,o,q⟩:=Mk i j g c l n;have c:=g.at' r;rw[k]at c;obtain⟨n,r,g,k,l⟩:=c.Hn;rw[k]at f;obtain⟨c,k,n⟩:=Vw i j f g;refine⟨c::d,?_,.cons _ _ _ _ n q⟩;simp only[a8_,Agp,T,l,asAddr,M,Y,k,o]
   cases b
  cases b
theorem W9(c:Func)(d:Array W):results c d=(do
  let b←c.results.mapM (Agp d)
  pure (if h:b.size=1 then b[0]else .tuple b)):=by
 unfold results;congr 1
def Aqi:E→W
 |[b]=>b
 |b=>.tuple b.toArray
theorem Qp(d:BU p)(f:R ng ρ h w)(g:ER ρ w N e a){b:Func}(i:Ia p e h b.results.toList=V l):
  ∃c,(results b a.tmps).run p.P w=.ok c w∧VR ρ (Au w) (Aqi l) c:=by
 obtain⟨c,j,k⟩:=Mk d f g _ _ i;have d:(b.results.mapM (Agp a.tmps)).run p.P w=.ok c.toArray w:=by rw[Array.mapM_eq_mapM_toList,map_eq_pure_bind];simp only[T,j,Y,M]
 rw[W9];simp only[T,d,Y,M];refine⟨_,J,?_⟩
 match l,c,k with
 |[],_,.nil=>exact .tuple [] [] .nil
 |[x],_,.cons _ c _ _ b .nil=>exact b
 |x::j::k,_,.cons _ c _ _ b (.cons _ d _ f g i)=>
  have:¬ ((c::d::f).toArray.size=1):=by simp
  rw[dif_neg this];exact .tuple _ _ (.cons _ _ _ _ b (.cons _ _ _ _ g i))
theorem YA(r:BU p)(mk:FM p)(j:Ap6 ng p){o:AQ}(z:Iy ng p.P o)(A:∀N,Ud ng N p o)(s:Nat){k:X_}{c:Func}(g:p.fn.get k=V c){v:W}(b:Is p o s c l h=V (v,h')):
  c.body.isSome=true∧∀(ρ:DA) (w:f_) (d:E),R ng ρ h w→Cv ρ (Au w) l d→(∀f,h.n≤f→f<h'.n→ρ f=Z)→
   Calls p.P k d.toArray w fun t w'=>∃f,t=.returned f∧Ue ng ρ h w v h' f w':=by
 unfold Is at b;split at b
 case h_2=>cases b
 case h_1 u y=>
 refine⟨by simp_all,fun ρ w d F n K=>?_⟩;have L:=r.fn k c g;have P:=j.code k c u g y;have a0:ER ρ w c.ntmps (Iq l) {tmps:=d.toArray++Array.replicate (c.ntmps-d.toArray.size) undef,defers:=[]}:=by
  refine⟨J,by simp;omega,fun g=>?_⟩;have j:Env.at (Iq l) g=(l[g]?).getD undef:=by unfold Env.at Iq;rw[Tr.MH];cases l[g]? <;>rfl
  rw[j];by_cases j:g<l.length
  ·obtain⟨f,q,x⟩:=n.get (i:=g) (v:=l[g]) (by simp)
   have a1:g<d.length:=by rw[←n.length];exact j
   have:(d.toArray++Array.replicate (c.ntmps-d.toArray.size) undef).getD g undef=f:=by rw[P_,aL_ (by omega)];simp[q]
   rw[this];simpa[j]using x
  have j:l[g]? =Z:=av_ (by omega);have:(d.toArray++Array.replicate (c.ntmps-d.toArray.size) undef).getD g undef=undef:=by rw[P_,Array.getElem?_append_right (by simp;rw[←n.length];omega)];simp only[Array.getElem?_replicate];split<;>rfl
  rw[this,j];exact VR.undef
 have q:∀(g:Ex) (n:Env) (j:AH),(g=.norm∨g=.ret)→A4 p o s u (Iq l) h=V (g,n,j)→∀x,Ia p n j c.results.toList=V x→v=(Aqi x)→j=h'→
   Calls p.P k d.toArray w fun t w'=>∃f,t=.returned f∧Ue ng ρ h w v h' f w':=by
  intro g n j a1 k x d o l;subst l;obtain⟨l,x⟩:=CM r mk z (A c.ntmps) s u P _ _ _ _ _ k;refine calls_of_wp L y (x ρ w _ _ F a0 K fun z o l s t A=>?_);obtain⟨f,x,u⟩:=Qp r s t d;have y:o.defers=[]∧∃r,(results c o.tmps).run p.P l=.ok r l∧∃u,Ending.returned r=Ending.returned u∧Ue ng ρ h w v j u l:=
   ⟨t.defers,f,x,f,J,z,by simp_all,s,A⟩
  rcases a1 with rfl|rfl<;>exact y
 split at b
 ·rename_i n j k
  split at b
  ·rename_i g d;cases b;exact q _ _ _ (.inl J) k _ d J J
  ·rename_i f c d;cases b
   refine q _ _ _ (.inl J) k _ d ?_ J
   match f,c with
   |[],_=>rfl
   |[g],c=>exact absurd J (c g)
   |_::_::_,_=>rfl
  cases b
 ·rename_i n j k
  split at b
  ·rename_i g d;cases b;exact q _ _ _ (.inr J) k _ d J J
  ·rename_i f c d;cases b
   refine q _ _ _ (.inr J) k _ d ?_ J
   match f,c with
   |[],_=>rfl
   |[g],c=>exact absurd J (c g)
   |_::_::_,_=>rfl
  cases b
 cases b
def Ua(ng:Nat)(p:Pr)(j:Cw):Prop:=∀c d,j.get c=V d→∀f h g h',d f h=V (g,h')→∀ρ w i,R ng ρ h w→Cv ρ (Au w) f i→(∀b,h.n≤b→b<h'.n→ρ b=Z)→Ha ng p.P c i.toArray ρ h w g h'
theorem Nr(d:BU p)(mk:FM p)(f:Ap6 ng p){b:Cw}(k:Ua ng p b)(l:∀c,Iy ng p.P c→∀N,Ud ng N p c)(g:Nat):∀n,Iy ng p.P (Ef p b g n)
 |0,c,i,h,j,h',b=>by cases b
 |n+1,c,i,h,j,h',b=>by
  intro ρ w o q r s;simp only[Ef]at b;split at b
  ·rename_i t u
   exact k c t u i h j h' b ρ w o q r s
  split at b
  ·rename_i i j
   have t:=Nr d mk f k l g n;obtain⟨u,k⟩:=YA d mk f t (l _ t) g j b;refine .inr ⟨?_,k ρ w o q r s⟩;have g:=f.name c i j;have f:=d.fn c i j;have c:i.body.isNone=false:=by simp_all
   simp only[bh_,T,bv_,Y,f];rw[Akt (by simp_all)];simp[c]
  cases b
end
section
variable{p:Pr}{h h1 h2:AH}{e:Env}{v:Value}{j:TypeId}
def Same(a:AH→Option Nx):Prop:=∀h v h1,a h=V (.val v h1)→h1=h∧∀h2,a h2=V (.val v h2)
theorem FA(a:Option W):Same (fun h=>CF h a):=by intro h v h1 a;obtain⟨rfl,rfl⟩:=El a;exact⟨J,fun h2=>rfl⟩
theorem En:Same (fun _=>Z):=by intro h v h1 a;cases a
theorem E8(a:W):Same (fun h=>V (.val a h)):=by intro h v h1 b;cases b;exact⟨J,fun _=>rfl⟩
theorem Dh{b:Type}(c:Option b)(d:b→AH→Option Nx)(f:∀a,Same (d a)):Same (fun h=>opt c fun a=>d a h):=by
 cases c with
 |none=>exact En
 |some a=>exact f a
theorem UR(a:Bool)(b:AH→Option Nx)(c:Same b):Same (fun h=>Av a (b h) Z):=by
 cases a with
 |true=>exact c
 |false=>exact En
theorem Q5(a:c_):Same (Vd a e):=E8 _
theorem Ab1(a b c:c_):Same (Rf a b c e):=by
 unfold Rf;split
 ·exact E8 _
 exact En
theorem W8(a:b_)(b:Array (Nat×c_)):Same (SW p a b e):=
 Dh _ _ fun _=>Dh _ _ fun _=>Dh _ _ fun _=>Dh _ _ fun _=>E8 _
theorem Age(a:c_):Same (GC p a e):=by
 unfold GC;split
 ·exact E8 _
 ·exact E8 _
 ·rename_i a b c _
  cases FC p a b.toList with
  |true=>exact E8 _
  |false=>exact En
 exact En
theorem Agf(a:ae_)(b:b_)(c d:c_):Same (Amq p a b c d e):=FA _
theorem Al2(a:UnOp)(b:c_):Same (oUn a b e):=FA _
theorem W6(a:b_)(b:c_):Same (Mx p a b e):=
 Dh _ _ fun a=>by
  cases a<;>first|exact En|exact E8 _
theorem Ab2(a:Fn)(b c:Array c_):Same (ZF a b c e):=E8 _
theorem W3(a:b_)(b:c_)(c d f:Option c_):Same (SS p a b c d f e):=UR _ _ (FA _)
theorem OA(a:b_)(b:c_)(c:Nat):Same (IN p a b c e):=
 Dh _ _ fun _=>Dh _ _ fun _=>Dh _ _ fun _=>Dh _ _ fun _=>UR _ _ (E8 _)
theorem W7(a:b_)(b:c_)(c:Nat):Same (SV p a b c e):=
 Dh _ _ fun _=>Dh _ _ fun _=>Dh _ _ fun _=>FA _
theorem Oz(a:b_)(b c:c_):Same (IM p a b c e):=FA _
theorem W5(a:b_)(b c:c_):Same (SU p a b c e):=FA _
theorem SB(a:c_)(b:Nat):Same (Ie a b e):=by
 unfold Ie;split
 ·exact FA _
 exact En
theorem W4:Same (GR e):=En
theorem SC(f b:b_)(d:c_)(k:∀g,p.CY b≠V (.slice g)):Same (Lw p f b d e):=by
 refine Dh _ _ fun _=>?_;cases l:p.CY b with
 |none=>exact En
 |some i=>
  show Same (fun h=>KF p i b (AZ e d) h);intro h v h1 a;unfold KF at a;split at a
  ·cases a
   refine⟨J,fun h2=>?_⟩;rename_i c;simp only[KF,c]
  ·cases a
   refine⟨J,fun h2=>?_⟩;rename_i c;simp only[KF,c]
  ·simp_all
  cases a
theorem Ij{d:Op}(b:kindOf p d=0):Same (Cs p j d e):=by
 cases d with
 |move a=>exact Q5 a
 |assign a=>exact Q5 a
 |pick i f g=>exact Ab1 i f g
 |build c k=>exact W8 c k
 |nilCheck a=>exact Age a
 |binOp d c a k _=>exact Agf d c a k
 |unOp d _ a=>exact Al2 d a
 |convert d k a=>
  refine SC d k a fun m l=>?_;simp only[kindOf,l]at b;cases b
 |makeInterface c a=>exact W6 c a
 |makeFunc d f g=>exact Ab2 d f g
 |slice c a d f g=>exact W3 c a d f g
 |fieldAddr c a d=>exact OA c a d
 |field c a d=>exact W7 c a d
 |indexAddr c a d=>exact Oz c a d
 |index c a d=>exact W5 c a d
 |extract a d=>exact SB a d
 |call i=>
  simp only[kindOf]at b;split at b<;>cases b
 |load _ _=>cases b
 |lookup _ _ _ _=>cases b
 |alloc _=>cases b
 |box _ _=>cases b
 |buildSlice _ _ _=>cases b
 |makeMap _ _=>cases b
 |makeSlice _ _ _=>cases b
 |range _ _=>cases b
 |store _ _ _=>cases b
 |insert _ _ _ _=>cases b
 |mapUpdate _ _ _ _=>cases b
 |next _ _=>cases b
 |_=>exact W4 (e:=e)
theorem GF{c:Op}(f:kindOf p c=1){b:Nx}(a:Cs p j c e h=V b):∃v,b=.val v h:=by
 cases c with
 |load c d=>
  change Lu p c d e h=V b at a;unfold Lu at a;split at a
  ·rename_i g _
   cases d:h.ld p c g with
   |none=>rw[d]at a;cases a
   |some v=>rw[d]at a;cases a;exact⟨v,J⟩
  cases a
 |lookup c l g d=>
  change IL p c l g d e h=V b at a;obtain⟨n,_,a⟩:=Ad a;obtain⟨c,_,a⟩:=Ad a;obtain⟨c,_,a⟩:=Ad a;obtain⟨_,a⟩:=Al a;obtain⟨m,_,a⟩:=Ad a;cases a;exact⟨_,J⟩
 |call c=>
  change Eu p j c.callee c.argTypes c.args e h=V b at a;simp only[kindOf]at f;have g:∀d i k,(d=.len∨d=.min∨d=.max)→HG (Bx p h d i j k)=V b→∃v,b=.val v h:=by
   intro d i k b c;cases b:Bx p h d i j k with
   |none=>rw[b]at c;cases c
   |some m=>
    rw[b]at c;obtain⟨v,h1⟩:=m;cases c;unfold Bx at b;split at b
    ·unfold Pe at b
     split at b
     ·obtain⟨_,_,b⟩:=Ad b
      obtain⟨_,_,b⟩:=Ad b;cases b;exact⟨_,J⟩
     cases b
    ·simp_all
    ·simp_all
    ·unfold XC at b
     split at b
     ·simp_all
     cases b
    ·unfold XF at b
     split at b
     ·simp_all
     cases b
    cases b
  split at f
  ·rename_i c;rw[c]at a;exact g _ _ _ (.inl J) a
  ·rename_i c;rw[c]at a;exact g _ _ _ (.inr (.inl J)) a
  ·rename_i c;rw[c]at a;exact g _ _ _ (.inr (.inr J)) a
  cases f
 |convert a n l=>
  simp only[kindOf]at f;split at f<;>cases f
 |_=>cases f
def J4(a:AH→Option Nx):Prop:=∀h v h1,a h=V (.val v h1)→∃b,h1=h.new b∧∀h2:AH,h2.n=h.n→a h2=V (.val v (h2.new b))
theorem ET:J4 (fun _=>Z):=by intro h v h1 a;cases a
theorem DL{b:Type}(c:Option b)(d:b→AH→Option Nx)(f:∀a,J4 (d a)):J4 (fun h=>opt c fun a=>d a h):=by
 cases c with
 |none=>exact ET
 |some a=>exact f a
theorem MA(a:Bool)(b:AH→Option Nx)(c:J4 b):J4 (fun h=>Av a (b h) Z):=by
 cases a with
 |true=>exact c
 |false=>exact ET
theorem FD(b:Nat→W)(a:AO):J4 (fun h=>V (.val (b h.n) (h.new a))):=by intro h v h1 c;cases c;refine⟨a,J,fun h2 c=>?_⟩;show V (Nx.val (b h2.n) (h2.new a))=_;rw[c]
theorem Ep{a:Op}(c:kindOf p a=2):J4 (Cs p j a e):=by
 cases a with
 |alloc b=>
  show J4 (My p b e);unfold My;split
  ·exact FD (fun a=>.pointer (V ⟨a,0,Z⟩)) _
  exact ET
 |box b d=>exact FD (fun a=>.pointer (V ⟨a,0,Z⟩)) _
 |buildSlice b i f=>
  exact DL _ _ fun _=>DL _ _ fun _=>DL _ _ fun a=>DL _ _ fun g=>MA _ _ (FD (fun f=>.slice (V ⟨f,0,Z⟩) i a) (.cells g))
 |makeMap b i=>
  show J4 (Ic i e);unfold Ic;split
  ·exact FD (fun a=>.map (V a)) _
  exact ET
 |makeSlice b g i=>
  exact DL _ _ fun _=>DL _ _ fun a=>DL _ _ fun _=>DL _ _ fun g=>DL _ _ fun f=>MA _ _ (FD (fun k=>.slice (V ⟨k,0,Z⟩) a f) (.cells (DZ (Aq g) a)))
 |range b d=>
  show J4 (Mw p b d e);unfold Mw;split
  ·exact FD (fun a=>.pointer (V ⟨a,0,Z⟩)) _
  exact ET
 |convert b g d=>
  refine DL _ _ fun _=>?_;cases k:p.CY g with
  |none=>exact ET
  |some f=>
   show J4 (fun h=>KF p f g (AZ e d) h);have l:∃g,f=.slice g:=by simp only[kindOf,k]at c;cases f<;>first|exact⟨_,J⟩|(cases c)
   obtain⟨g,rfl⟩:=l;cases f:AZ e d with
   |string b=>exact MA _ _ (FD (fun a=>.slice (V ⟨a,0,Z⟩) b.data.toList.length 1) (.cells (AW b.data.toList)))
   |_=>exact ET
 |call i=>
  simp only[kindOf]at c;split at c<;>cases c
 |_=>cases c
end
theorem IC{f:W→W→Bool}(g:∀a b,f a b=true→a=b):∀(c d:E),HV f c d=true→c=d
 |[],[],_=>rfl
 |a::c,b::d,h=>by
  simp only[HV,a_]at h;rw[g a b h.1,IC g c d h.2]
 |[],_::_,h=>by cases h
 |_::_,[],h=>by cases h
theorem Y2{d:W→W→Bool}(a:∀b c,d b c=true→b=c)(b c:W)(h:N5 d b c=true):b=c:=by
 unfold N5 at h;split at h
 ·simp_all
 ·simp_all
 ·rename_i b c
  simp only[beq_iff_eq]at h;cases b;cases c;simp only[Value.string.injEq,bm_];exact C_ h
 ·simp_all
 ·simp_all
 ·simp_all
 ·rfl
 ·rfl
 ·simp only[a_,decide_eq_true_eq]at h
  obtain⟨⟨rfl,h1⟩,h2⟩:=h;rw[C_ (IC a _ _ h1),C_ (IC a _ _ h2)]
 ·simp only[a_,D_]at h
  obtain⟨rfl,h1⟩:=h;rw[a _ _ h1]
 ·rw[C_ (IC a _ _ h)]
 ·rw[C_ (IC a _ _ h)]
 cases h
theorem Sq:∀(n:Nat) (a b:W),IA n a b=true→a=b
 |0,a,b,h=>Y2 (fun _ _ h=>by cases h) a b h
 |n+1,a,b,h=>Y2 (Sq n) a b h
theorem Apv{a b:Option AO}(h:QF a b=true):a=b:=by
 unfold QF at h;split at h
 ·rw[IC (Sq 4) _ _ h]
 ·rfl
 ·simp only[a_,D_]at h
  rw[h.1,IC (Sq 4) _ _ h.2]
 ·simp_all
 cases h
theorem TO:(aV_ a b).testBit c=(a.testBit c||b.testBit c):=Nat.testBit_or a b c
theorem TP:(Nat.shiftLeft 1 a).testBit b=true↔b=a:=by
 have:Nat.shiftLeft 1 a=2^a:=by rw[←Nat.one_shiftLeft];rfl
 rw[this,Nat.testBit_two_pow];simp[eq_comm]
theorem Mz(b:List Nat):∀(c:List Edge) (a:Nat),(GU b c).testBit a=true→∃e∈c,F_ .any e=true∧(e.on=a∨(b.getD e.on 0).testBit a=true)
 |[],a,h=>by simp[GU]at h
 |e::d,a,h=>by
  simp only[GU]at h;cases c:F_ .any e with
  |false=>
   rw[c]at h;obtain⟨f,g,i,j⟩:=Mz b d a h;exact⟨f,by simp[g],i,j⟩
  |true=>
   rw[c]at h;change (aV_ (aV_ (Nat.shiftLeft 1 e.on) (b.getD e.on 0)) (GU b d)).testBit a=true at h;rw[TO,TO,I_,I_]at h;rcases h with(h|h)|h
   ·exact⟨e,by simp,c,.inl (TP.1 h).symm⟩
   ·exact⟨e,by simp,c,.inr h⟩
   obtain⟨f,g,i,j⟩:=Mz b d a h;exact⟨f,by simp[g],i,j⟩
theorem KX:∀(c:List q_) (b:List Nat) (a:Nat),a<b.length→(Bq c b)[a]? =b[a]?
 |[],b,a,_=>rfl
 |e::c,b,a,d=>by
  simp only[Bq];rw[KX c _ a (by simp;omega),B_ d]
theorem XG(c:q_)(b:List q_)(a:List Nat):(Bq (c::b) a)[a.length]? =V (GU ((Bq (c::b) a).take a.length) c.after.toList):=by
 have e:Bq (c::b) a=Bq b (a++[GU a c.after.toList]):=by simp only[Bq]
 have f:(Bq b (a++[GU a c.after.toList])).take a.length=a:=by
  apply aR_;intro d;rw[G_];by_cases c:d<a.length
  ·rw[Agd c,KX b _ d (by simp;omega),B_ c]
  rw[Akt c,av_ (by omega)]
 rw[e,f,KX b _ a.length (by simp),t_ (h_ _),Nat.sub_self];rfl
theorem Acy(d:List q_):∀(a:List Nat) (b:Nat) (c:q_),d[b]? =V c→(Bq d a)[a.length+b]? =V (GU ((Bq d a).take (a.length+b)) c.after.toList):=by
 induction d with
 |nil=>intro a b c d;simp at d
 |cons e f g=>
  intro a b c d;cases b with
  |zero=>
   simp only[j_,s_]at d;subst d;rw[T_];exact XG _ _ _
  |succ b=>
   have h:Bq (e::f) a=Bq f (a++[GU a e.after.toList]):=by simp only[Bq]
   have f:=g (a++[GU a e.after.toList]) b c (by simpa using d);have c:(a++[GU a e.after.toList]).length+b=a.length+(b+1):=by simp;omega
   rw[c]at f;rw[h];exact f
theorem Rp{ops:List q_}{i a:Nat}{o:q_}(d:ops[i]? =V o)(c:((Bq ops []).getD i 0).testBit a=true):
  ∃b∈o.after.toList,F_ .any b=true∧(b.on=a∨((Bq ops []).getD b.on 0).testBit a=true):=by
 have a:=Acy ops [] i o d;simp only[bC_,az_]at a;have d:(Bq ops []).getD i 0=GU ((Bq ops []).take i) o.after.toList:=by simp[a]
 rw[d]at c;obtain⟨b,d,e,a⟩:=Mz _ _ _ c;refine⟨b,d,e,a.imp id fun a=>?_⟩;have:∀b,((Bq ops []).take i).getD b 0=if b<i then(Bq ops []).getD b 0 else 0:=by intro b;simp only[List.getD_eq_getElem?_getD,G_];split<;>rfl
 rw[this]at a;split at a
 ·exact a
 simp at a
def Au9(e:Array q_)(a:Array Bool):Prop:=∀(b:Nat) (c:q_),e[b]? =V c→a.getD b false=true→∀d∈c.after,F_ .any d=true→a.getD d.on false=true
theorem JK{b:Array q_}{d:Array Bool}(l:∀a e,b[a]? =V e→∀c∈e.after.toList,F_ .any c=true→c.on<a)(m:Au9 b d)(f:d.size=b.size):
  ∀a e,((Bq b.toList []).getD a 0).testBit e=true→d.getD a false=true→d.getD e false=true:=by
 intro a;induction a using bE_ with
 |_ a n=>
  intro e p f;have j:a<b.size:=by
   rcases aC_ a d.size with h|h
   ·omega
   simp[P_,Array.getElem?_eq_none h]at f
  have g:b[a]? =V b[a]:=aT_ j;obtain⟨c,j,k,d⟩:=Rp (ops:=b.toList) (i:=a) (o:=b[a]) (by simp) p;have b:=m a _ g f c (by simpa using j) k;rcases d with rfl|d
  ·exact b
  exact n c.on (l a _ g c j k) e d b
theorem KY{c:Array q_}{e:Array Bool}(g:∀a f,c[a]? =V f→∀d∈f.after.toList,F_ .any d=true→d.on<a)(h:Au9 c e)(j:e.size=c.size)(k:a∈Region.ready .any c e)
  (l:((Bq c.toList []).getD a 0).testBit b=true):e.getD b false=true:=by
 obtain⟨_,f,m,n⟩:=a1_.1 k;obtain⟨d,k,p,e⟩:=Rp (ops:=c.toList) (i:=a) (o:=f) (by simpa using m) l;have a:=n d (by simpa using k) p;rcases e with rfl|e
 ·exact a
 exact JK g h j d.on b e a
structure Form(p:Pr)(ops:List q_):Prop where
 back:∀i o,ops[i]? =V o→∀e∈o.after.toList,F_ .any e=true→e.on<i
 dst:∀i o d,ops[i]? =V o→o.dst=V d→Gk ops 0 d=V i
 look:∀i o t j,ops[i]? =V o→t∈tmpsOf ops o→Gk ops 0 t=V j→((Bq ops []).getD i 0).testBit j=true∨(((Bq ops []).getD j 0).testBit i=true∧j≠i)
 eff:∀i o k,ops[i]? =V o→i∈CD p ops 0→k∈CD p ops 0→i≤k∨((Bq ops []).getD i 0).testBit k=true
theorem Aoe{f:Pr}{d:List q_}(g:Aiz d (Bq d []) (CD f d 0)=true):Form f d:=by
 unfold Aiz at g;rw[z_]at g;have e:∀(a:Nat) (b:q_),d[a]? =V b→_:=fun a b c=>by
  have h:a<d.length:=(d_.1 c).1;have i:=g a (bF_.2 h);simp only[c,a_]at i;exact i
 refine⟨fun a b c g i j=>?_,fun a b q c k=>?_,fun a b l r c m n=>?_,fun a b o c h p=>?_⟩
 ·have:=(e a b c).1.1.1
  rw[z_]at this;have:=this g i;simpa[j]using this
 ·have:=(e a b c).1.1.2
  simpa[k]using this
 ·have:=(e a b c).1.2
  rw[z_]at this;have:=this l m;simp only[n,I_,a_,Q_]at this;refine this.imp id fun g=>⟨g.1,fun j=>?_⟩;have i:=g.2;rw[j]at i;simp at i
 have:=(e a b c).2;simp only[I_,Q_]at this;rcases this with b|b
 ·have:(CD f d 0).contains a=true:=by simpa using h
  rw[this]at b;cases b
 rw[z_]at b;have:=b o p;simp only[I_,y_]at this;exact this
theorem OQ{b:EX}{d:List EX}{al_:Nat}(c:OR p (b::d) al_=true):
  al_.testBit b.i=false∧(∀a,(p.getD b.i 0).testBit a=true→al_.testBit a=true)∧OR p d (aV_ al_ (Nat.shiftLeft 1 b.i))=true:=by
 simp only[OR,a_,Q_,D_]at c;refine⟨c.1.1,fun a d=>?_,c.2⟩;have e:=c.1.2;have:(Nat.land (p.getD b.i 0) al_).testBit a=true:=by rw[e];exact d
 have c:(Nat.land (p.getD b.i 0) al_).testBit a=((p.getD b.i 0).testBit a&&al_.testBit a):=Nat.testBit_and _ _ a;rw[c,a_]at this;exact this.2
theorem JC(b:List EX):∀{c:EX} {f:List EX} {al_:Nat},OR p (b++c::f) al_=true→
  (∀d,(p.getD c.i 0).testBit d=true→al_.testBit d=true∨∃a∈b,a.i=d)∧(al_.testBit c.i=false∧∀a∈b,a.i≠c.i):=by
 induction b with
 |nil=>
  intro c f al_ g;obtain⟨i,j,_⟩:=OQ g;exact⟨fun d h=>.inl (j d h),i,fun a e=>by cases e⟩
 |cons k b l=>
  intro c f al_ g;obtain⟨i,j,b⟩:=OQ g;obtain⟨g,f,i⟩:=l b;rw[TO,Bool.or_eq_false_iff]at f;refine⟨fun d h=>?_,f.1,fun a e=>?_⟩
  ·rcases g d h with b|⟨a,e,b⟩
   ·rw[TO,I_]at b
    rcases b with b|b
    ·exact .inl b
    exact .inr ⟨k,List.mem_cons_self ..,(TP.1 b).symm⟩
   exact .inr ⟨a,List.mem_cons_of_mem _ e,b⟩
  rcases K_.1 e with d|e
  ·intro b
   rw[d]at b;have:(Nat.shiftLeft 1 k.i).testBit c.i=true:=TP.2 b.symm;rw[this]at f;cases f.2
  exact i a e
theorem Oo{f:Pr}{d e:List Nat}:∀{g:List q_} {c:Nat} {a:EX},a∈Oq f d e g c→∃b,a.i=c+b∧g[b]? =V a.o∧a.kind=kindOf f a.o.op∧
  a.lo=Fj (fun b=>(d.getD a.i 0).testBit b) e∧a.hi=Fj (fun b=> !(d.getD b 0).testBit a.i&& !(Nat.beq b a.i)) e
 |[],c,a,h=>by cases h
 |d::e,c,a,h=>by
  rcases K_.1 h with rfl|h
  ·exact⟨0,J,J,J,J,J⟩
  obtain⟨b,f,a,c,d,e⟩:=Oo h;exact⟨b+1,by omega,by simpa using a,c,d,e⟩
theorem Xl{d:List EX}(e:Nat):∀{c:Nat} {a:EX},a∈Mt d e c→a∈d:=by
 induction e with
 |zero=>intro c a f;cases f
 |succ e g=>
  intro c a f;have b:a∈(d.filter fun a=> !Cl a&&Nat.beq a.lo c)++((d.filter fun a=>Cl a&&Nat.beq a.lo c)++Mt d e (c+1)):=f;rcases Y_.1 b with b|b
  ·exact(a2_.1 b).1
  rcases Y_.1 b with b|b
  ·exact(a2_.1 b).1
  exact g b
def I3(e:Pr)(f:AQ)(all:List q_):List Rec→Env→AH→Env→AH→Prop
 |[],a,b,c,d=>c=a∧d=b
 |x::g,a,b,c,d=>x.e=a∧x.h=b∧x.w=B2 a all x.s.o.guard∧(x.w=true→Bs f (Cs e x.s.o.type x.s.o.op x.e x.h)=V (x.v,x.h')∧x.h.n≤x.h'.n)∧(x.w=false→x.v=undef∧x.h'=x.h)∧
   I3 e f all g (Be a x.s.o.dst x.v) x.h' c d
theorem N9{a:Pr}{e:AQ}{all:List q_}:∀{f:List EX} {d:Env} {b:AH} {c:List Rec×Env×AH},Bp a e all f d b=V c→I3 a e all c.1 d b c.2.1 c.2.2∧c.1.map (·.s)=f
 |[],d,b,c,a=>by cases a;exact⟨⟨J,J⟩,J⟩
 |s::e,d,b,c,a=>by
  simp only[Bp]at a;cases c:B2 d all s.o.guard with
  |true=>
   rw[c]at a;obtain⟨d,g,a⟩:=Ad a;obtain⟨h,a⟩:=Al a;obtain⟨i,d,a⟩:=Ad a;cases a;obtain⟨e,f⟩:=N9 d;exact⟨⟨J,J,c.symm,fun _=>⟨g,by simpa using h⟩,(fun b=>by cases b),e⟩,by simp[f]⟩
  |false=>
   rw[c]at a;obtain⟨i,d,a⟩:=Ad a;cases a;obtain⟨e,f⟩:=N9 d;exact⟨⟨J,J,c.symm,(fun b=>by cases b),fun _=>⟨J,J⟩,e⟩,by simp[f]⟩
theorem I3.mono{e:Pr}{f:AQ}{all:List q_}:∀{g:List Rec} {c:Env} {a:AH} {d:Env} {b:AH},I3 e f all g c a d b→a.n≤b.n
 |[],c,a,d,b,⟨_,e⟩=>by rw[e];exact h_ _
 |x::i,c,a,d,b,⟨_,e,_,f,g,h⟩=>by
  have:=I3.mono h;subst e;cases a:x.w with
  |true=>have:=(f a).2;omega
  |false=>rw[(g a).2]at this;exact this
theorem I3.split{h:Pr}{i:AQ}{all:List q_}:∀{j:List Rec} {c:List Rec} {a:Env} {b:AH} {d:Env} {e:AH},I3 h i all (j++c) a b d e→∃f g,I3 h i all j a b f g∧I3 h i all c f g d e
 |[],c,a,b,d,e,h=>⟨a,b,⟨J,J⟩,h⟩
 |x::j,c,a,b,d,e,⟨g,h,i,k,l,m⟩=>by
  obtain⟨f,a,b,c⟩:=I3.split m;exact⟨f,a,⟨g,h,i,k,l,b⟩,c⟩
theorem I3.env{q:Pr}{r:AQ}{all:List q_}:∀{h:List Rec} {i:Env} {j:AH} {e:Env} {k:AH},I3 q r all h i j e k→∀b,
  ((∀c∈h,c.s.o.dst≠V b)→e.at b=i.at b)∧(∀c∈h,c.s.o.dst=V b→(∀a∈h,a.s.o.dst=V b→a.v=c.v)→e.at b=c.v)
 |[],i,j,e,k,⟨d,_⟩,b=>⟨fun _=>by rw[d],fun c f=>by cases f⟩
 |x::s,i,j,e,k,⟨_,_,_,_,_,t⟩,b=>by
  obtain⟨n,u⟩:=I3.env t b;refine⟨fun o=>?_,fun c f p l=>?_⟩
  ·rw[n fun a d=>o a (by simp[d]),SG,Akt (o x (by simp))]
  by_cases m:∃a∈s,a.s.o.dst=V b
  ·obtain⟨a,d,g⟩:=m
   rw[u a d g fun v w y=>by rw[l v (by simp[w]) y,l a (by simp[d]) g],l a (by simp[d]) g]
  rw[n fun a d g=>m ⟨a,d,g⟩,SG];rcases K_.1 f with rfl|f
  ·rw[Agd p]
  exact absurd ⟨c,f,p⟩ m
theorem NR(a:Pr)(b:Op):kindOf a b≤3:=by unfold kindOf;split<;>first|omega|(split<;>omega)
theorem JN{c:Pr}{h:Op}(b:kindOf c h≠3){i:X_}(a:Cs c u h e f=V (.call i l g)):False:=by
 have b:=NR c h;have b:kindOf c h=1∨kindOf c h=0∨kindOf c h=2:=by omega
 rcases b with b|b|b
 ·obtain⟨d,c⟩:=GF b a
  cases c
 ·cases h with
  |move c=>exact Cz J a
  |assign c=>exact Cz J a
  |pick e f g=>exact Cz J a
  |build d j=>exact Cz J a
  |nilCheck c=>exact Cz J a
  |binOp h d c k _=>exact Cz J a
  |unOp h _ c=>exact Cz J a
  |convert k l c=>exact Cz J a
  |makeInterface d c=>exact Cz J a
  |makeFunc i f g=>exact Cz J a
  |slice d c f g i=>exact Cz J a
  |fieldAddr d c f=>exact Cz J a
  |field d c f=>exact Cz J a
  |indexAddr d c f=>exact Cz J a
  |index d c f=>exact Cz J a
  |extract c f=>exact Cz J a
  |call e=>
   simp only[kindOf]at b;split at b<;>cases b
  |load _ _=>cases b
  |lookup _ _ _ _=>cases b
  |alloc _=>cases b
  |box _ _=>cases b
  |buildSlice _ _ _=>cases b
  |makeMap _ _=>cases b
  |makeSlice _ _ _=>cases b
  |range _ _=>cases b
  |store _ _ _=>cases b
  |insert _ _ _ _=>cases b
  |mapUpdate _ _ _ _=>cases b
  |next _ _=>cases b
  |_=>cases a
 cases h with
 |alloc d=>exact Cz J a
 |box d c=>exact Cz J a
 |buildSlice d f j=>exact Cz J a
 |makeMap d f=>exact Cz J a
 |makeSlice d f e=>exact Cz J a
 |range d c=>exact Cz J a
 |convert k l c=>exact Cz J a
 |call e=>
  simp only[kindOf]at b;split at b<;>cases b
 |_=>cases b
theorem FE{a:Pr}{call:AQ}{b:Op}(d:kindOf a b≠3)(c:Bs call (Cs a u b e f)=V (v,g)):Cs a u b e f=V (.val v g):=by
 obtain⟨b,a,c⟩:=Ad c;cases b with
 |val e b=>cases c;exact a
 |call b c e=>exact(JN d a).elim
theorem Aij{b:Pr}{c:Op}(a:kindOf b c≠3)(h:Cs b u c e f=V (.val v g)):f.n≤g.n∧∀d,d<f.n→g.get d=f.get d:=by
 have a:=NR b c;have a:kindOf b c=1∨kindOf b c=0∨kindOf b c=2:=by omega
 rcases a with a|a|a
 ·obtain⟨v,b⟩:=GF a h
  cases b;exact⟨h_ _,fun _ _=>rfl⟩
 ·rw[(Ij a _ _ _ h).1]
  exact⟨h_ _,fun _ _=>rfl⟩
 obtain⟨c,b,_⟩:=Ep a _ _ _ h;rw[b];refine⟨bt_ _,fun d a=>?_⟩;rw[AH.Er,Jl]
def WF(a:AH):Prop:=∀b c,a.get b=V c→b<a.n
theorem Anz{b:Pr}{c:Op}(a:kindOf b c≠3)(d:Cs b u c e f=V (.val v g))(h:WF f):WF g:=by
 have a:=NR b c;have a:kindOf b c=1∨kindOf b c=0∨kindOf b c=2:=by omega
 rcases a with a|a|a
 ·obtain⟨v,b⟩:=GF a d
  cases b;exact h
 ·rw[(Ij a _ _ _ d).1]
  exact h
 obtain⟨c,b,_⟩:=Ep a _ _ _ d;rw[b];intro b c a;rw[AH.Er]at a;rw[AH.Rl];by_cases d:b=f.n
 ·omega
 rw[Akt d]at a;have:=h b c a;omega
theorem Ju{f:Pr}{a:AQ}{all:List q_}:∀{c:List Rec} {g:Env} {b:AH} {h:Env} {e:AH},I3 f a all c g b h e→(∀x∈c,x.s.kind=kindOf f x.s.o.op)→
  ∃S,(AT e c)[0]? =V S∧b.n≤S.n∧S.n≤e.n∧(∀a,a<b.n→S.get a=b.get a)∧(WF b→WF S)
 |[],g,b,h,e,⟨_,c⟩,_=>⟨e,J,by rw[c];exact h_ _,h_ _,fun a _=>by rw[c],fun d=>by rw[c];exact d⟩
 |x::k,g,b,h,e,i,j=>by
  have e:=i.mono;obtain⟨g,c,m,h,k,l⟩:=i;simp only[AT];cases g:Cl x.s with
  |true=>exact⟨x.h,J,by rw[c];exact h_ _,by rw[c];exact e,fun a _=>by rw[c],fun d=>by rw[c];exact d⟩
  |false=>
   obtain⟨S,i,m,n,o,p⟩:=Ju l (fun e q=>j e (by simp[q]));have e:(b.n≤x.h'.n∧∀a,a<b.n→x.h'.get a=b.get a)∧(WF b→WF x.h'):=by
    subst c;cases d:x.w with
    |false=>rw[(k d).2];exact⟨⟨h_ _,fun _ _=>rfl⟩,id⟩
    |true=>
     obtain⟨c,b⟩:=h d;have h:=j x (by simp);have b:kindOf f x.s.o.op≠3:=by intro f;rw[←h]at f;unfold Cl at g;rw[f]at g;cases g
     exact⟨Aij b (FE b c),Anz b (FE b c)⟩
   exact⟨S,i,A_ e.1.1 m,n,fun a b=>by rw[o a (p_ b e.1.1),e.1.2 a b],fun d=>p (e.2 d)⟩
theorem VV{p:Pr}(c:List q_):∀(a:Nat) {b:Nat},b∈CD p c a→a≤b∧b<a+c.length:=by
 induction c with
 |nil=>intro a b h;cases h
 |cons d e c=>
  intro a b h;simp only[CD]at h;simp only[S_];cases a:Nat.beq (kindOf p d.op) 3 with
  |true=>
   rw[a]at h;rcases K_.1 h with h|h
   ·omega
   have:=c _ h;omega
  |false=>
   rw[a]at h;have:=c _ h;omega
theorem Tw{p:Pr}(b:List q_):∀(a:Nat),(CD p b a).Pairwise (· < ·):=by
 induction b with
 |nil=>intro a;exact List.Pairwise.nil
 |cons c d b=>
  intro a;simp only[CD];cases a:Nat.beq (kindOf p c.op) 3 with
  |true=>
   refine List.Pairwise.cons (fun c a=>?_) (b _);have:=VV d _ a;omega
  |false=>exact b _
theorem Nj(a:Nat→Bool)(b:Nat)(c:List Nat):Fj a (b::c)=if a b=true then Fj a c+1 else Fj a c:=by simp only[Fj];cases a b<;>rfl
theorem Ad6{e:Nat→Bool}(d:List Nat):∀(a:Nat),(∀b c,d[b]? =V c→e c=true→b<a)→Fj e d≤a:=by
 induction d with
 |nil=>intro a _;exact Nat.zero_le _
 |cons g d h=>
  intro a f;rw[Nj];cases a with
  |zero=>
   have i:e g≠true:=fun d=>by have:=f 0 g J d;omega
   rw[Akt i];exact h 0 fun b c e d=>by have:=f (b+1) c (by simp_all) d;omega
  |succ a=>
   have:=h a fun b c e d=>by have:=f (b+1) c (by simp_all) d;omega
   split<;>omega
theorem Ac8{e:Nat→Bool}(b:List Nat):∀(a:Nat),a≤b.length→(∀c d,b[c]? =V d→c<a→e d=true)→a≤Fj e b:=by
 induction b with
 |nil=>intro a b _;simp at b;omega
 |cons f e g=>
  intro a b e;cases a with
  |zero=>exact Nat.zero_le _
  |succ a=>
   rw[Nj,Agd (e 0 f J (by omega))];have:=g a (by simp_all) fun c d b f=>e (c+1) d (by simp_all) (by omega);omega
theorem Hi(c:AH)(d:List Rec)(a:List Rec):AT c (a++d)=(a.filter fun b=>Cl b.s).map (·.h)++AT c d:=by
 induction a with
 |nil=>rfl
 |cons b a c=>
  simp only[bz_,AT];cases a:Cl b.s with
  |true=>rw[aY_ (by omega),ar_,bz_,c]
  |false=>rw[List.filter_cons_of_neg (by simp_all),c]
theorem I3.mem{p:Pr}{call:AQ}{all:List q_}(b:List Rec):∀{d:Env} {c:AH} {e':Env} {h':AH} {a:Rec},I3 p call all b d c e' h'→a∈b→c.n≤a.h.n∧a.h.n≤a.h'.n∧a.h'.n≤h'.n:=by
 induction b with
 |nil=>intro d c e' h' a _ b;cases b
 |cons e f g=>
  intro d c e' h' a f b;have a:=f.mono;obtain⟨a,c,j,h,i,d⟩:=f;have a:e.h.n≤e.h'.n:=by
   cases f:e.w with
   |true=>exact(h f).2
   |false=>rw[(i f).2];exact h_ _
  rcases K_.1 b with e|b
  ·subst e
   have:=d.mono;rw[c]at a⊢;exact⟨h_ _,a,this⟩
  have:=g d b;rw[c]at a;omega
structure Rn(p:Pr)(call:AQ)(ops:Array q_)(recs:List Rec)(e0:Env)(h0:AH)(e':Env)(h':AH):Prop where
 form:Form p ops.toList
 tr:I3 p call ops.toList recs e0 h0 e' h'
 ord:OR (Bq ops.toList []) (recs.map (·.s)) 0=true
 cov:∀i,i<ops.size→∃x∈recs,x.s.i=i
 op:∀x∈recs,ops[x.s.i]? =V x.s.o∧x.s.kind=kindOf p x.s.o.op∧
  x.s.lo=Fj (fun k=>((Bq ops.toList []).getD x.s.i 0).testBit k) (CD p ops.toList 0)∧x.s.hi=Fj (fun k=> !((Bq ops.toList []).getD k 0).testBit x.s.i&& !(Nat.beq k x.s.i)) (CD p ops.toList 0)
 HQ:(recs.filter fun x=>Cl x.s).map (·.s.i)=CD p ops.toList 0
 all:Ej p call (AT h' recs) recs=true
theorem Awh{p:Pr}{call:AQ}{ops:Array q_}{e0:Env}{h0:AH}{e':Env}{h':AH}(a:Dp p call ops.toList e0 h0=V (e',h')):∃recs,Rn p call ops recs e0 h0 e' h':=by
 unfold Dp at a;obtain⟨b,a⟩:=Al a;obtain⟨c,d,a⟩:=Ad a;obtain⟨e,a⟩:=Al a;obtain⟨recs,f,g⟩:=c;simp only[s_,Prod.mk.injEq]at a;obtain⟨rfl,rfl⟩:=a;obtain⟨f,a⟩:=N9 d;unfold PH at b;simp only[a_]at b;obtain⟨h,c⟩:=b;unfold ZB at c;simp only[a_,beq_iff_eq]at c;obtain⟨⟨b,g⟩,i⟩:=c;simp only at f a e;refine⟨recs,Aoe h,f,by simp_all,fun c j=>?_,fun b d=>?_,?_,e⟩
 ·rw[z_]at g
  have:=g c (bF_.2 (by omega));rw[bx_]at this;obtain⟨e,c,f⟩:=this;rw[←a]at c;obtain⟨b,d,rfl⟩:=ao_.1 c;exact⟨b,d,by simp_all⟩
 ·have c:b.s∈FQ p ops.toList:=by rw[←a];exact ao_.2 ⟨b,d,J⟩
  obtain⟨g,b,h,d,e,f⟩:=Oo (Xl _ c);rw[az_]at b;subst b;exact⟨by simp_all,d,e,f⟩
 rw[←i,←a,List.filter_map,List.map_map];rfl
theorem Si{c:List q_}:∀{a:Nat} {d:Tmp} {b:Nat},Gk c a d=V b→a≤b∧∃e,c[b-a]? =V e∧e.dst=V d:=by
 induction c with
 |nil=>intro a d b c;cases c
 |cons e f g=>
  intro a d b c;simp only[Gk]at c;cases f:(e.dst==V d)with
  |true=>
   rw[f]at c;cases c;exact⟨h_ _,e,by simp,by simp_all⟩
  |false=>
   rw[f]at c;obtain⟨h,d,e,f⟩:=g c;refine⟨by omega,d,?_,f⟩;have:b-a=(b-(a+1))+1:=by omega
   rw[this];simpa using e
section
variable{p:Pr}{call:AQ}{ops:Array Oper}{recs:List Rec}{e0:Env}{h0:AH}{e':Env}{h':AH}
theorem Rn.at(f:Rn p call ops recs e0 h0 e' h'){a:Rec}(g:a∈recs):∃c d,recs=c++a::d∧I3 p call ops.toList c e0 h0 a.e a.h∧a.w=B2 a.e ops.toList a.s.o.guard∧
  (a.w=true→Bs call (Cs p a.s.o.type a.s.o.op a.e a.h)=V (a.v,a.h')∧a.h.n≤a.h'.n)∧(a.w=false→a.v=undef∧a.h'=a.h)∧I3 p call ops.toList d (Be a.e a.s.o.dst a.v) a.h' e' h'∧
  (∀e,((Bq ops.toList []).getD a.s.i 0).testBit e=true→∃b∈c,b.s.i=e)∧(∀b∈c,b.s.i≠a.s.i):=by
 obtain⟨c,d,rfl⟩:=aK_ g;obtain⟨h,i,g,a⟩:=f.tr.split;obtain⟨h,i,j,k,l,m⟩:=a;subst h;subst i;have a:=f.ord;rw[aD_,ar_]at a;obtain⟨f,i,h⟩:=JC _ a;refine⟨c,d,J,g,j,k,l,m,fun e i=>?_,fun b a=>h b.s (ao_.2 ⟨b,a,J⟩)⟩;rcases f e i with c|⟨g,d,c⟩
 ·simp_all
 obtain⟨b,a,rfl⟩:=ao_.1 d;exact⟨b,a,c⟩
theorem Rn.uniq(d:Rn p call ops recs e0 h0 e' h'){a b:Rec}(l:a∈recs)(e:b∈recs)(f:a.s.i=b.s.i):a=b:=by
 obtain⟨g,n,h,_,_,_,_,_,_,m⟩:=d.at l;rw[h]at e;rcases Y_.1 e with c|c
 ·exact absurd f.symm (m b c)
 rcases K_.1 c with c|c
 ·simp_all
 obtain⟨i,j,rfl⟩:=aK_ c;have k:=d.ord;rw[h,show g++a::(i++b::j)=(g++a::i)++b::j by simp,aD_,ar_]at k;exact absurd f ((JC _ k).2.2 a.s (by simp))
theorem Rn.apart(d:Rn p call ops recs e0 h0 e' h'){a b:Rec}(e:a∈recs)(c:b∈recs)(f:a.s.i≠b.s.i):b.h'.n≤a.h.n∨a.h'.n≤b.h.n:=by
 obtain⟨g,h,a,b,_,_,_,f,_,_⟩:=d.at e;rw[a]at c;rcases Y_.1 c with a|a
 ·exact .inl (b.mem _ a).2.2
 rcases K_.1 a with a|a
 ·simp_all
 exact .inr (f.mem _ a).1
theorem Rn.look(f:Rn p call ops recs e0 h0 e' h'){d:Rec}(k:d∈recs){c:Tmp}(n:c∈tmpsOf ops.toList d.s.o):
  ((∀a∈recs,a.s.o.dst=V c→((Bq ops.toList []).getD a.s.i 0).testBit d.s.i=true)∧d.e.at c=e0.at c)∨
  ∃a∈recs,a.s.o.dst=V c∧((Bq ops.toList []).getD d.s.i 0).testBit a.s.i=true∧d.e.at c=a.v:=by
 obtain⟨e,l,o,j,_,_,_,_,q,r⟩:=f.at k;have g:∀a∈e,a∈recs:=fun a b=>by simp_all
 have m:∀a∈recs,a.s.o.dst=V c→Gk ops.toList 0 c=V a.s.i:=fun a b e=>f.form.dst a.s.i a.s.o c (by simpa using(f.op a b).1) e;cases h:Gk ops.toList 0 c with
 |none=>
  have i:∀a∈recs,a.s.o.dst≠V c:=fun a b e=>by simp_all
  exact .inl ⟨fun a b e=>absurd e (i a b),(j.env c).1 fun a b=>i a (g a b)⟩
 |some i=>
  have s:∀a∈recs,a.s.o.dst=V c→a.s.i=i:=fun a b e=>by have:=m a b e;rw[h]at this;exact(Option.some.inj this).symm
  rcases f.form.look d.s.i d.s.o c i (by simpa using(f.op d k).1) n h with m|⟨m,t⟩
  ·obtain⟨a,b,k⟩:=q i m
   obtain⟨_,m,n,q⟩:=Si h;have h:a.s.o=m:=by
    have h:=(f.op a (g a b)).1;rw[k]at h;have n:ops[i]? =V m:=by simp_all
    rw[h]at n;exact Option.some.inj n
   have m:a.s.o.dst=V c:=by simp_all
   refine .inr ⟨a,g a b,m,by simp_all,(j.env c).2 a b m fun i n q=>?_⟩;rw[f.uniq (g i n) (g a b) (by simp_all)]
  refine .inl ⟨fun a b e=>by simp_all,(j.env c).1 fun a b e=>?_⟩;have k:=s a (g a b) e;obtain⟨c,e,rfl⟩:=aK_ b;have b:=f.ord;rw[o,show(c++a::e)++d::l=c++a::(e++d::l)by simp,aD_,ar_]at b;rcases(JC _ b).1 d.s.i (by simp_all)with h|⟨c,a,h⟩
  ·simp_all
  obtain⟨i,n,rfl⟩:=ao_.1 a;exact r i (by simp_all) h
theorem Rn.last(c:Rn p call ops recs e0 h0 e' h')(b:Tmp):((∀a∈recs,a.s.o.dst≠V b)∧e'.at b=e0.at b)∨∃a∈recs,a.s.o.dst=V b∧e'.at b=a.v:=by
 by_cases g:∃a∈recs,a.s.o.dst=V b
 ·obtain⟨a,d,e⟩:=g
  refine .inr ⟨a,d,e,(c.tr.env b).2 a d e fun f h j=>?_⟩;have k:=c.form.dst a.s.i a.s.o b (by simpa using(c.op a d).1) e;have i:=c.form.dst f.s.i f.s.o b (by simpa using(c.op f h).1) j;rw[k]at i;rw[c.uniq d h (Option.some.inj i)]
 have f:∀a∈recs,a.s.o.dst≠V b:=fun a d e=>g ⟨a,d,e⟩;exact .inl ⟨f,(c.tr.env b).1 f⟩
theorem Rn.UE(d:Rn p call ops recs e0 h0 e' h'){a:Rec}(h:a∈recs)(i:Cl a.s=true):∃c b,(CD p ops.toList 0)[c]? =V a.s.i∧(AT h' recs)[c]? =V a.h∧(AT h' recs)[c+1]? =V b∧
  a.h'.n≤b.n∧b.n≤h'.n∧(∀c,c<a.h'.n→b.get c=a.h'.get c)∧(WF a.h'→WF b):=by
 obtain⟨e,f,g,_,_,_,_,j,_,_⟩:=d.at h;have h:∀c∈f,c.s.kind=kindOf p c.s.o.op:=fun c k=>(d.op c (by simp_all)).2.1;obtain⟨b,c,k,l,m,n⟩:=Ju j h;have h:AT h' recs=(e.filter fun a=>Cl a.s).map (·.h)++a.h::AT h' f:=by rw[g,Hi];congr 1;simp only[AT];rw[i]
 refine⟨(e.filter fun a=>Cl a.s).length,b,?_,?_,?_,k,l,m,n⟩
 ·rw[←d.HQ,g,List.filter_append,aY_ (by omega),aD_,ar_,t_ (by simp)]
  simp
 ·simp_all
 rw[h,t_ (by simp)];simpa using c
theorem Rn.Ac9(a:Rn p call ops recs e0 h0 e' h'):(AT h' recs)[(CD p ops.toList 0).length]? =V h':=by have:=Hi h' [] recs;rw[ay_]at this;rw[this,←a.HQ,a3_,t_ (by simp)];simp[AT]
theorem Akk{d:List AH}(c:List Rec)(e:Ej p call d c=true):∀{a:Rec},a∈c→a.w=true→Cl a.s=false→∀{b:Nat} {S:AH},d[b]? =V S→a.s.lo≤b→b≤a.s.hi→FY p call a S=true:=by
 induction c with
 |nil=>intro a c;cases c
 |cons d f j=>
  simp only[Ej,a_]at e;intro a c f g b S h k l;rcases K_.1 c with rfl|c
  ·have d:=e.1
   rw[f,g]at d;simp only[W_,Bool.false_or]at d;rw[z_]at d;refine d S (w_ (i:=b-a.s.lo) ?_);rw[G_,ifP,O_,show a.s.lo+(b-a.s.lo)=b by omega];exact h
  exact j e.2 c f g h k l
end
section
variable{p:Pr}{z:AQ}{ops:Array Oper}{recs:List Rec}{e0:Env}{h0:AH}{A:Env}{h':AH}{ng N:Nat}{ρ ρ0 q:DA}{S f h1:AH}{w w0 w':World}{a:Act}{listed:Array Bool}{s:Nat}
theorem settle(g:R ng ρ h1 w)(c:∀b,h1.n≤b→b<f.n→ρ b=Z)(l:h1.n≤f.n)(r:∀b,b<h1.n→f.get b=h1.get b)(m:WF f):R ng ρ f w∧Step ρ h1 w ρ f w:=by
 have i:∀b c h,f.get b=V c→ρ b=V h→h1.get b=V c:=by
  intro b c h d e;have h:=m b c d;by_cases h:b<h1.n
  ·simp_all
  simp_all
 refine⟨⟨m,g.J5,fun b c h s d e=>g.cont b c h s (i b c _ d e) e,fun t u h v x y F k j n o=>g.inj t u h v x y F (i _ _ _ k n) (i _ _ _ j o) n o,g.Ks,A_ g.ngn l,g.Uh,fun b c h s d e=>g.off b c h s (i b c _ d e) e⟩,
  ⟨fun _ _ g=>g,fun _ _=>rfl,l,h_ _,fun _ _ _=>rfl,fun _ _=>rfl,fun b c h s d n e _=>⟨b,c,s,i b c _ d e,n,e⟩,fun b m d g=>⟨m,by simp_all⟩,fun b m o h s d k j _=>by rw[r b d,k]at j;cases j;exact⟨J,.of fun _=>rfl⟩,J,J,J⟩⟩
theorem RT(b c:Nat):(⟨.nil,b⟩:AH).get c=Z:=rfl
theorem JT{e:AO}(d:(⟨.nil,b⟩:AH).get c=V e):False:=by rw[RT]at d;cases d
theorem R.empty(c:R ng ρ S w)(d:ng≤b):R ng ρ ⟨.nil,b⟩ w:=
 ⟨fun _ _ b=>(JT b).elim,c.J5,fun _ _ _ _ b=>(JT b).elim,fun _ _ _ _ _ _ _ b=>(JT b).elim,c.Ks,d,c.Uh,fun _ _ _ _ b=>(JT b).elim⟩
theorem Am9(i:R ng ρ S w)(h:Step ρ0 h0 w0 ρ S w)(ad:h0.n≤b)(ae:b<S.n){j:AO}(a7:S.get b=V j)(a8:j.rw=true)
  (u:R ng q ((⟨.nil,b⟩:AH).new j) w') (k:Step ρ ⟨.nil,b⟩ w q ((⟨.nil,b⟩:AH).new j) w'):R ng q S w'∧Step ρ0 h0 w0 q S w':=by
 have l:∀c,c≠b→q c=ρ c:=fun c e=>k.D2 c (by show c<b∨b+1≤c;omega);have v:∀d,d<w.heap.size→w'.heap[d]? =w.heap[d]? :=fun d e=>k.Ak d e fun _ _ _ e _=>(JT e).elim;have L:((⟨.nil,b⟩:AH).new j).get b=V j:=by rw[AH.Er];exact Agd J
 have P:∀d s,q b=V (d,s)→w.heap.size≤d:=by
  intro d s g;rcases aC_ d w.heap.size with x|n
  ·obtain⟨o,r,t,m,_⟩:=k.live b j d s L a8 g x
   rw[RT]at m;cases m
  omega
 have a9:∀c m,ρ c=V m→Au w' m.1=Au w m.1:=fun c m g=>BX (v _ (i.J5 c m g));refine⟨⟨i.lt,u.J5,?_,?_,u.Ks,i.ngn,u.Uh,?_⟩,⟨fun c m g=>k.ext c m (h.ext c m g),?_,h.n,A_ h.size k.size,?_,?_,?_,h.back,fun c aa ab d s e a0 a1 g=>?_,k.os.trans h.os,k.output.trans h.output,k.tape.trans h.tape⟩⟩
 ·intro c o d s e g
  by_cases n:c=b
  ·subst n
   rw[a7]at e;cases e;exact u.cont c j d s L g
  rw[l c n]at g;exact(i.cont c o d s e g).mono k.ext a9 (v d (i.J5 c _ g))
 ·intro y F d a4 a5 ac o a0 a1 r t
  by_cases a2:y=b<;>by_cases a3:F=b
  ·omega
  ·rw[a2]at r
   rw[l F a3]at t;have a6:=P d a4 r;have K:=i.J5 F _ t;simp only at K;omega
  ·rw[a3]at t
   rw[l y a2]at r;have a6:=P d a5 t;have K:=i.J5 y _ r;simp only at K;omega
  rw[l y a2]at r;rw[l F a3]at t;exact i.inj y F d a4 a5 ac o a0 a1 r t
 ·intro c o d s e g
  by_cases n:c=b
  ·subst n
   exact u.off c j d s L g
  rw[l c n]at g;exact i.off c o d s e g
 ·intro c e
  rw[l c (by omega),h.D2 c e]
 ·intro d e r
  rw[v d (p_ e h.size)];exact h.Ak d e r
 ·intro d e
  rw[BX (v d (p_ e h.size))];exact h.sz d e
 ·intro c o d s e r g x
  by_cases n:c=b
  ·rw[n]at g
   have a6:=P d s g;have K:=h.size;omega
  rw[l c n]at g;exact h.live c o d s e r g x
 obtain⟨n,o⟩:=h.outer c aa ab d s e a0 a1 g;exact⟨n,fun r t y h0=>(o.trans (.of fun x=>v d x)) r t y h0⟩
structure Inv(ng N:Nat)(p:Pr)(ops:Array q_)(recs:List Rec)(e0:Env)(h0 h':AH)(ρ0:DA)(w0:f_)(listed:Array Bool)(a:Act)(w:f_)(ρ:DA)(s:Nat)(S:AH):Prop where
 shut:Au9 ops listed
 Jc:listed.size=ops.size
 defers:a.defers=[]
 size:N≤a.tmps.size
 st:(AT h' recs)[s]? =V S
 num:∀k i,(CD p ops.toList 0)[k]? =V i→(listed.getD i false=true↔k<s)
 r:R ng ρ S w
 step:Step ρ0 h0 w0 ρ S w
 done:∀x∈recs,listed.getD x.s.i false=true→∀t,x.s.o.dst=V t→VR ρ (Au w) x.v (a.tmps.getD t undef)
 rest:∀t,(∀x∈recs,x.s.o.dst=V t→listed.getD x.s.i false=false)→VR ρ (Au w) (e0.at t) (a.tmps.getD t undef)
 free:∀x∈recs,x.w=true→x.s.kind=2→listed.getD x.s.i false=false→ρ x.h.n=Z
theorem U0(e:N≤a.tmps.size){b:Option Tmp}(g:JU N b=true)(d:W)(c:Tmp):(a.put b d).tmps.getD c undef=if b=V c then d else a.tmps.getD c undef:=by
 cases b with
 |none=>rfl
 |some b=>
  simp only[Act.put];have d:b<a.tmps.size:=p_ (by simpa[JU]using g) e;by_cases d:b=c
  ·simp_all
  simp_all
theorem GW{b j:Nat}(c:b<listed.size):(listed.setIfInBounds b true).getD j false=true↔(j=b∨listed.getD j false=true):=by
 by_cases c:b=j
 ·simp_all
 rw[bw_ false c];exact⟨.inr,fun b=>b.resolve_left fun d=>c d.symm⟩
theorem Inv.next(h:Rn p z ops recs e0 h0 A h')(e:Inv ng N p ops recs e0 h0 h' ρ0 w0 listed a w ρ s S){d:Rec}(n:d∈recs)(L:∀i∈d.s.o.after,F_ .any i=true→listed.getD i.on false=true)(t:JU N d.s.o.dst=true)
  (u:VR q (Au w') d.v v) (ext:∀g c,ρ g=V c→q g=V c) (x:∀g c,ρ g=V c→Au w' c.1=Au w c.1) (y:R ng q f w') (F:Step ρ0 h0 w0 q f w')
  (K:(AT h' recs)[b]? =V f) (P:∀k g,(CD p ops.toList 0)[k]? =V g→((listed.setIfInBounds d.s.i true).getD g false=true↔k<b))
  (a0:∀c∈recs,c.w=true→c.s.kind=2→listed.getD c.s.i false=false→c.s.i≠d.s.i→q c.h.n=Z):
  Inv ng N p ops recs e0 h0 h' ρ0 w0 (listed.setIfInBounds d.s.i true) (a.put d.s.o.dst v) w' q b f:=by
 have r:=(h.op d n).1;have m:d.s.i<listed.size:=by rw[e.Jc];exact(o_.1 r).1
 have a1:∀c∈recs,∀b,c.s.o.dst=V b→d.s.o.dst=V b→c.s.i=d.s.i:=by intro c g b h1 o;have v:=h.form.dst c.s.i c.s.o b (by simpa using(h.op c g).1) h1;have l:=h.form.dst d.s.i d.s.o b (by simp_all) o;rw[v]at l;exact Option.some.inj l
 refine⟨?_,by simp[e.Jc],?_,?_,K,P,y,F,?_,?_,?_⟩
 ·intro k P l v i y F
  by_cases K:d.s.i=k
  ·subst K
   rw[r]at l;cases l;exact getD_set_true (L i y F)
  rw[bw_ false K]at v;exact getD_set_true (e.shut k P l v i y F)
 ·cases i:d.s.o.dst<;>exact e.defers
 ·cases i:d.s.o.dst with
  |none=>exact e.size
  |some b=>simp only[Act.put,Array.size_setIfInBounds];exact e.size
 ·intro c g k b i
  rw[U0 e.size t];rcases(GW m).1 k with h1|h1
  ·have r:=h.uniq g n h1
   subst r;rw[Agd i];exact u
  by_cases k:d.s.o.dst=V b
  ·have r:=h.uniq g n (a1 c g b i k)
   subst r;rw[Agd i];exact u
  rw[Akt k];exact(e.done c g h1 b i).mono ext x
 ·intro b h
  have k:d.s.o.dst≠V b:=fun h1=>by simp_all
  rw[U0 e.size t,Akt k];refine(e.rest b fun c g i=>?_).mono ext x;cases d:listed.getD c.s.i false with
  |false=>rfl
  |true=>
   have o:=h c g i;have b:=(GW m (j:=c.s.i)).2 (.inr d);rw[o]at b;cases b
 intro c g e l d;refine a0 c g e l ?_ ?_
 ·cases e:listed.getD c.s.i false with
  |false=>rfl
  |true=>
   have b:=(GW m (j:=c.s.i)).2 (.inr e);rw[d]at b;cases b
 intro h1;have b:=(GW m (j:=c.s.i)).2 (.inl h1);rw[d]at b;cases b
theorem Rn.Aop(d:Rn p z ops recs e0 h0 A h'){c:Rec}(e:c∈recs)(g:(CD p ops.toList 0)[b]? =V c.s.i):Cl c.s=true:=by have b:=w_ g;rw[←d.HQ]at b;obtain⟨h,c,g⟩:=ao_.1 b;obtain⟨b,h⟩:=a2_.1 c;rw[←d.uniq b e g];exact h
theorem Inv.Vf(g:Rn p z ops recs e0 h0 A h')(h:Inv ng N p ops recs e0 h0 h' ρ0 w0 listed a w ρ s S){c:Rec}(i:c∈recs)(j:Cl c.s=false):∀d b,(CD p ops.toList 0)[d]? =V b→((listed.setIfInBounds c.s.i true).getD b false=true↔d<s):=by
 intro d b e;have k:c.s.i≠b:=fun l=>by
  subst l;have:=g.Aop i e;rw[j]at this;cases this
 rw[bw_ false k];exact h.num d b e
theorem Inv.UE(i:Rn p z ops recs e0 h0 A h')(e:Inv ng N p ops recs e0 h0 h' ρ0 w0 listed a w ρ s S){b:Rec}(l:b∈recs)(o:b.s.i∈Region.ready .any ops listed)(n:listed.getD b.s.i false=false)(m:Cl b.s=true):
  S=b.h∧(∃f,(AT h' recs)[s+1]? =V f∧b.h'.n≤f.n∧f.n≤h'.n∧(∀c,c<b.h'.n→f.get c=b.h'.get c)∧(WF b.h'→WF f))∧
  ∀c d,(CD p ops.toList 0)[c]? =V d→((listed.setIfInBounds b.s.i true).getD d false=true↔c<s+1):=by
 obtain⟨c,f,g,r,t,u,v,x,y⟩:=i.UE l m;have F:b.s.i<listed.size:=by rw[e.Jc];exact(o_.1 (i.op b l).1).1
 have K:∀d j,ops[d]? =V j→∀k∈j.after.toList,F_ .any k=true→k.on<d:=fun d j P k m L=>i.form.back d j (by simp_all) k m L;have j:=Tw (p:=p) ops.toList 0;have L:c=s:=by
  have h1:=e.num c _ g;rw[n]at h1;have k:¬c<s:=fun h=>by simp_all
  rcases aC_ s c with k|k
  ·exfalso
   have m:=(d_.1 g).1;have n:(CD p ops.toList 0)[s]? =V ((CD p ops.toList 0)[s]'(by omega)):=aX_ (by omega);have P:=ak_.1 j s c (by omega) m k;have k:(CD p ops.toList 0)[c]'m=b.s.i:=(d_.1 g).2;rw[k]at P;rcases i.form.eff b.s.i b.s.o _ (by simpa using(i.op b l).1) (w_ g) (w_ n)with k|k
   ·omega
   have i:=KY K e.shut e.Jc o k;have:=(e.num s _ n).1 i;omega
  omega
 subst L;refine⟨?_,⟨f,t,u,v,x,y⟩,fun i d k=>?_⟩
 ·have:=e.st
  rw[r]at this;exact(Option.some.inj this).symm
 rw[GW F];by_cases l:d=b.s.i
 ·subst l
  have n:i=c:=by
   have b:=(d_.1 g).1;have m:=(d_.1 k).1;have o:=(d_.1 g).2;have g:=(d_.1 k).2;rcases Nat.lt_trichotomy i c with h|h|h
   ·have:=ak_.1 j i c m b h;omega
   ·exact h
   have:=ak_.1 j c i b m h;omega
  exact⟨fun _=>by omega,fun _=>.inl J⟩
 have n:i≠c:=fun h=>by simp_all
 rw[or_iff_right l,e.num i d k];omega
theorem Inv.within(i:Rn p z ops recs e0 h0 A h')(d:Inv ng N p ops recs e0 h0 h' ρ0 w0 listed a w ρ s S){c:Rec}(l:c∈recs)(m:c.s.i∈Region.ready .any ops listed)(j:listed.getD c.s.i false=false):c.s.lo≤s∧s≤c.s.hi:=by
 have k:∀b g,ops[b]? =V g→∀h∈g.after.toList,F_ .any h=true→h.on<b:=fun b g o h n e=>i.form.back b g (by simp_all) h n e;obtain⟨_,_,g,h⟩:=i.op c l;rw[g,h];refine⟨Ad6 _ s fun g b h e=>(d.num g b h).1 (KY k d.shut d.Jc m e),Ac8 _ s ?_ fun g b h n=>?_⟩
 ·have h1:=(d_.1 d.st).1
  have l:=Hi h' [] recs;rw[ay_]at l;rw[l]at h1;rw[←i.HQ];simp only[bo_,a3_,AT,bd_]at h1⊢;omega
 have i:=(d.num g b h).2 n;simp only[a_,Q_];refine⟨?_,?_⟩
 ·cases e:((Bq ops.toList []).getD b 0).testBit c.s.i with
  |false=>rfl
  |true=>
   have:=JK k d.shut d.Jc b c.s.i e i;rw[j]at this;cases this
 cases e:Nat.beq b c.s.i with
 |false=>rfl
 |true=>
  have:b=c.s.i:=aw_ e;rw[this,j]at i;cases i
theorem Inv.env(i:Rn p z ops recs e0 h0 A h')(b:Inv ng N p ops recs e0 h0 h' ρ0 w0 listed a w ρ s S){c:Rec}(k:c∈recs)(l:c.s.i∈Region.ready .any ops listed)(m:listed.getD c.s.i false=false){d:Tmp}(n:d∈tmpsOf ops.toList c.s.o):
  VR ρ (Au w) (c.e.at d) (a.tmps.getD d undef):=by
 have j:∀e g,ops[e]? =V g→∀h∈g.after.toList,F_ .any h=true→h.on<e:=fun e g t h o r=>i.form.back e g (by simp_all) h o r;rcases i.look k n with⟨h1,g⟩|⟨e,h,h1,g,o⟩
 ·rw[g]
  refine b.rest d fun e h i=>?_;cases k:listed.getD e.s.i false with
  |false=>rfl
  |true=>
   have:=JK j b.shut b.Jc e.s.i c.s.i (h1 e h i) k;rw[m]at this;cases this
 rw[o];exact b.done e h (KY j b.shut b.Jc l g) d h1
end
def left(d:Array Bool):Nat:=d.toList.countP (· ==false)
theorem Aic{d:Array Bool}(c:d.getD b true=false):left (d.setIfInBounds b true)+1=left d:=by
 have c:b<d.size:=by
  rcases aC_ b d.size with h'|h'
  ·exact h'
  simp_all
 have c:d.toList[b]'(by omega)=false:=by simp_all
 unfold left;rw[ai_,List.countP_set (by omega),c];have b:0<d.toList.countP (· ==false):=List.countP_pos_iff.2 ⟨_,bA_ (by omega),by simp_all⟩;rw[show(false==false)=true from rfl,show(true==false)=false from rfl,Agd rfl,Akt (by decide)];omega
theorem Ac5{d:Array Bool}(b:left d=0)(c:Nat)(e:c<d.size):d.getD c false=true:=by unfold left at b;rw[List.countP_eq_zero]at b;have:=b (d.toList[c]'(by omega)) (bA_ _);simp at this;simp[e,this]
section
variable{p:Pr}{z:AQ}{ops:Array Oper}{u:List Rec}{A:Env}{h0:AH}{e':Env}{h':AH}{q N:Nat}{ρ ρ0 m:DA}{S F h1:AH}{w w0 w':World}{a:Act}{d:Array Bool}{s:Nat}
theorem Agw(g:∀b e,ops[b]? =V e→∀c∈e.after.toList,F_ .any c=true→c.on<b)(f:d.size=ops.size)(h:Region.ready .any ops d=[]):∀b,b<ops.size→d.getD b false=true:=by
 intro b;induction b using bE_ with
 |_ b i=>
  intro f;cases e:d.getD b false with
  |true=>rfl
  |false=>
   exfalso;have e:ops[b]? =V ops[b]:=aT_ f;have f:b∈Region.ready .any ops d:=by
    rw[a1_];refine⟨?_,ops[b],e,fun c k j=>?_⟩
    ·simp_all
    have k:=g b _ e c (by simp_all) j;exact i c.on k (by omega)
   rw[h]at f;cases f
theorem Inv.one(ah:BU p)(mk:FM p)(ai:Iy q p.P z)(j:Rn p z ops u A h0 e' h')(aj:ops.toList.all (Ez q N)=true)(ax:∀g,h0.n≤g→g<h'.n→ρ0 g=Z)(aG:q≤h0.n)
  (e:Inv q N p ops u A h0 h' ρ0 w0 d a w ρ s S) (a0:b∈Region.ready .any ops d) {ay:Exit→Act→f_→Prop} {a8:Act→f_→Prop}
  (a9:∀a w ρ s S,Inv q N p ops u A h0 h' ρ0 w0 (d.setIfInBounds b true) a w ρ s S→a8 a w):wpOp p.P ops ay b a8 a w:=by
 obtain⟨aR,ak,a1,aa⟩:=a1_.1 a0;have az:b<ops.size:=(o_.1 a1).1;have aS:b<d.size:=by rw[e.Jc];exact az
 have a2:d.getD b false=false:=by simp_all
 obtain⟨c,k,aH⟩:=j.cov b az;subst aH;have aT:=(j.op c k).1;have aI:ak=c.s.o:=by simp_all
 subst aI;have a4:=(j.op c k).2.1;rw[z_]at aj;have ab:Ez q N c.s.o=true:=aj c.s.o (by
  have:ops.toList[c.s.i]? =V c.s.o:=by simp_all
  exact w_ this)
 have ac:JU N c.s.o.dst=true:=by simp only[Ez,a_]at ab;exact ab.2
 have aA:∀x∈tmpsOf ops.toList c.s.o,VR ρ (Au w) (c.e.at x) (a.tmps.getD x undef):=fun x a5=>e.env j k a0 a2 a5;have al:L2 ρ w c.e a.eval c.s.o.op.operands.toList:=by
  intro f i;simp only[Ez,a_,z_]at ab;have l:=ab.1 f i;cases f with
  |tmp x=>
   refine aA x (Y_.2 (.inl ?_));exact List.mem_filterMap.2 ⟨.tmp x,i,J⟩
  |const n=>exact VR.Fe l
  |global g=>exact VR.ptr (ρ:=ρ) (sz:=Au w) g 0 g 0 (e.r.Ks g (by simpa[OT]using l))
  |func n=>exact VR.func (.func n) [] [] [] [] .nil .nil
 have aJ:aQ_ c.s.o (yielded ops a.tmps)=c.w:=by obtain⟨_,_,_,_,n,_⟩:=j.at k;rw[n];refine Nf (N:=N) e.size ops c.s.o (fun x a5=>aA x (Y_.2 (.inr a5))) fun o l x r a5=>?_;have h1:=aj l (w_ (by simpa using r:ops.toList[o]? =V l));simp only[Ez,a_,a5,JU]at h1;simpa using h1.2
 obtain⟨_,_,_,_,_,aK,aL,_,_,_⟩:=j.at k;unfold wpOp;simp only[a1];rw[aJ];have aB:Cl c.s=true→∀{m:DA} {a3:W} {w':f_},R q m c.h' w'→VR m (Au w') c.v a3→Step ρ c.h w m c.h' w'→(∀f∈u,f.w=true→f.s.kind=2→d.getD f.s.i false=false→f.s.i≠c.s.i→m f.h.n=Z)→a8 (a.put c.s.o.dst a3) w':=by
  intro n m a3 w' L P l o;obtain⟨v,⟨F,r,y,af,K,a7⟩,ad⟩:=e.UE j k a0 a2 n;subst v;have ae:∀g,c.h'.n≤g→g<F.n→m g=Z:=fun g t a6=>by
   rw[l.D2 g (.inr t),e.step.D2 g (.inr (A_ l.n t))];exact ax g (A_ e.step.n (A_ l.n t)) (by omega)
  obtain⟨am,an⟩:=settle L ae y K (a7 L.lt);exact a9 _ _ m (s+1) F (e.next j k aa ac P l.ext (fun g f i=>l.sz _ (e.r.J5 g f i)) am ((e.step.trans l).trans an) r ad o)
 cases ae:c.w with
 |false=>
  simp only[l_,if_false];obtain⟨ag,K⟩:=aL ae;have af:VR ρ (Au w) c.v undef:=by rw[ag];exact VR.undef
  cases n:Cl c.s with
  |true=>
   have v:=(e.UE j k a0 a2 n).1;refine aB n (by rw[K,←v];exact e.r) af (by rw[K];exact Step.refl ρ c.h w) fun f i o r y _=>e.free f i o r y
  |false=>
   exact a9 _ _ ρ s S (e.next j k aa ac af (fun _ _ a7=>a7) (fun _ _ _=>rfl) e.r e.step e.st (e.Vf j k n) fun f i o r y _=>e.free f i o r y)
 |true=>
  simp only[if_true];refine .inl ?_;obtain⟨aC,aU⟩:=aK ae;have aV:=NR p c.s.o.op;by_cases af:kindOf p c.s.o.op=3
  ·
   have n:Cl c.s=true:=by unfold Cl;rw[a4,af];rfl
   have v:=(e.UE j k a0 a2 n).1;have K:c.h'.n≤h'.n:=(j.tr.mem _ k).2.2;refine Ls ah mk ai (h:=c.h) (h':=c.h') (ρ:=ρ) (by rw[←v];exact e.r) al aC (fun g t a6=>?_) fun m a3 w' L P l=>aB n L P l fun f i o r y ao=>?_
   ·rw[←v]at t
    rw[e.step.D2 g (.inr t)];exact ax g (A_ e.step.n t) (by omega)
   have aM:f.h.n<f.h'.n:=by
    obtain⟨_,_,_,_,_,ap,_,_,_,_⟩:=j.at i;obtain⟨aq,_⟩:=ap o;have ar:kindOf p f.s.o.op=2:=by rw[←(j.op f i).2.1];exact r
    have:=FE (by omega) aq;obtain⟨ak,a1,_⟩:=Ep ar _ _ _ this;rw[a1,AH.Rl];omega
   have:=j.apart k i (fun a7=>ao a7.symm);rw[l.D2 f.h.n (by omega)];exact e.free f i o r y
  have n:Cl c.s=false:=by
   unfold Cl;rw[a4];cases v:Nat.beq (kindOf p c.s.o.op) 3 with
   |false=>rfl
   |true=>exact absurd (aw_ v) af
  have ad:=e.Vf j k n;have aD:=FE af aC;have aE:Bs z (Cs p c.s.o.type c.s.o.op c.e S)=V (c.v,S)→c.s.o.wp p.P a w a8 ay:=by intro au;refine Ls ah mk ai (h:=S) (h':=S) (ρ:=ρ) e.r al au (fun g t a6=>by omega) fun m a3 w' L P l=>?_;have v:∀g,m g=ρ g:=fun g=>l.D2 g (by omega);exact a9 _ _ m s S (e.next j k aa ac P l.ext (fun g f i=>l.sz _ (e.r.J5 g f i)) L (e.step.trans l) e.st ad fun f i o r y _=>by rw[v];exact e.free f i o r y)
  obtain⟨aN,aO⟩:=e.within j k a0 a2;have K:=Akk u j.all k ae n e.st aN aO;have v:kindOf p c.s.o.op=1∨kindOf p c.s.o.op=0∨kindOf p c.s.o.op=2:=by omega
  rcases v with v|v|v
  ·unfold FY at K
   rw[a4,v]at K;change (match Bs z (Cs p c.s.o.type c.s.o.op c.e S)with|some f=>IA 5 f.1 c.v|none=>false)=true at K;split at K
   ·rename_i f i
    have h1:=Sq 5 _ _ K;obtain⟨av,aw⟩:=f;obtain⟨aF,ag⟩:=GF v (FE af i);cases ag;simp only at h1;rw[h1]at i;exact aE i
   cases K
  ·have h1:=(Ij v _ _ _ aD).2 S
   refine aE ?_;rw[h1];rfl
  obtain⟨ag,av,aP⟩:=Ep v _ _ _ aD;unfold FY at K;rw[a4,v]at K;have aw:QF (S.get c.h.n) (c.h'.get c.h.n)=true:=K;have h1:=Apv aw;rw[av,AH.Er,Agd rfl]at h1;have aQ:ag.rw=true:=by
   rw[h1,av,AH.Er,Agd rfl]at aw;cases ag with
   |ro aF=>cases aw
   |_=>rfl
  have aF:h0.n≤c.h.n:=(j.tr.mem _ k).1;have au:Bs z (Cs p c.s.o.type c.s.o.op c.e ⟨.nil,c.h.n⟩)=V (c.v,(⟨.nil,c.h.n⟩:AH).new ag):=by rw[aP ⟨.nil,c.h.n⟩ rfl];rfl
  refine Ls ah mk ai (h:=⟨.nil,c.h.n⟩) (h':=(⟨.nil,c.h.n⟩:AH).new ag) (ρ:=ρ) (e.r.empty (A_ aG aF)) al au (fun g t a6=>?_) fun m a3 w' L P l=>?_
  ·rw[AH.Rl]at a6
   have aW:c.h.n≤g:=t;have aX:g<c.h.n+1:=a6;have:g=c.h.n:=by omega
   rw[this];exact e.free c k ae (by rw[a4];exact v) a2
  obtain⟨am,an⟩:=Am9 e.r e.step aF (e.r.lt _ _ h1) h1 aQ L l;refine a9 _ _ m s S (e.next j k aa ac P l.ext (fun g f i=>l.sz _ (e.r.J5 g f i)) am an e.st ad fun f i o r y ao=>?_);have aM:f.h.n<f.h'.n:=by
   obtain⟨_,_,_,_,_,ap,_,_,_,_⟩:=j.at i;obtain⟨aq,_⟩:=ap o;have ar:kindOf p f.s.o.op=2:=by rw[←(j.op f i).2.1];exact r
   have:=FE (by omega) aq;obtain⟨ak,a1,_⟩:=Ep ar _ _ _ this;rw[a1,AH.Rl];omega
  have ap:c.h'.n=c.h.n+1:=by rw[av,AH.Rl]
  have:=j.apart k i (fun a7=>ao a7.symm);rw[l.D2 f.h.n (by show f.h.n<c.h.n∨c.h.n+1≤f.h.n;omega)];exact e.free f i o r y
theorem Inv.run(v:BU p)(mk:FM p)(x:Iy q p.P z)(f:Rn p z ops u A h0 e' h')(y:ops.toList.all (Ez q N)=true)(K:∀b,h0.n≤b→b<h'.n→ρ0 b=Z)(L:q≤h0.n){g:Exit→Act→f_→Prop}
  (r:∀m k w',R q m h' w'→ER m w' N e' k→Step ρ0 h0 w0 m h' w'→g .normal k w'):
  ∀i d a w ρ s S,left d=i→Inv q N p ops u A h0 h' ρ0 w0 d a w ρ s S→wpAny p.P .any ops g i d a w:=by
 have P:∀c b,ops[c]? =V b→∀e∈b.after.toList,F_ .any e=true→e.on<c:=fun c b l e h j=>f.form.back c b (by simp_all) e h j;have o:∀(d:Array Bool) a w ρ s S,Inv q N p ops u A h0 h' ρ0 w0 d a w ρ s S→(∀c,c<ops.size→d.getD c false=true)→g .normal a w:=by
  intro d a w ρ s S b j;have t:∀e∈u,d.getD e.s.i false=true:=fun e g=>j _ (o_.1 (f.op e g).1).1;have a0:s=(CD p ops.toList 0).length:=by
   have h1:=(d_.1 b.st).1;have h:=Hi h' [] u;rw[ay_]at h;rw[h]at h1;have l:s≤(CD p ops.toList 0).length:=by rw[←f.HQ];simp only[bo_,a3_,AT,bd_]at h1⊢;omega
   rcases aC_ s (CD p ops.toList 0).length with l|n
   ·have n:(CD p ops.toList 0)[s]? =V ((CD p ops.toList 0)[s]):=aX_ l
    have l:=VV ops.toList 0 (w_ n);have a1:=(b.num s _ n).1 (j _ (by simp_all));omega
   omega
  have n:S=h':=by have h1:=b.st;rw[a0,f.Ac9]at h1;exact(Option.some.inj h1).symm
  subst n;refine r ρ a w b.r ⟨b.defers,b.size,fun n=>?_⟩ b.step;rcases f.last n with⟨h1,h⟩|⟨e,g,h1,h⟩
  ·rw[h]
   exact b.rest n fun e g r=>absurd r (h1 e g)
  rw[h];exact b.done e g (t e g) n h1
 intro i;induction i with
 |zero=>
  intro d a w ρ s S n b;have j:=fun c (e:c<ops.size)=>Ac5 n c (by rw[b.Jc];exact e);refine⟨?_,o d a w ρ s S b j⟩;cases r:Region.ready .any ops d with
  |nil=>rfl
  |cons g h=>
   exfalso;have t:g∈Region.ready .any ops d:=by simp_all
   obtain⟨h,a1,a0,_⟩:=a1_.1 t;have t:g<ops.size:=(o_.1 a0).1;have l:=j g t;have j:g<d.size:=by rw[b.Jc];exact t
   simp[j]at l h;rw[l]at h;cases h
 |succ i g=>
  intro d a w ρ s S n b;refine⟨fun r=>o d a w ρ s S b (Agw P b.Jc r),fun c e=>?_⟩;have c:=Aic (a1_.1 e).1;exact b.one v mk x f y K L e fun k w' m c F h=>g _ k w' m c F (by omega) h
end
theorem Aor{q:Nat}{p:Pr}(k:BU p)(mk:FM p)(f:p.P.follows .mixedOrders=true)(z:AQ)(l:Iy q p.P z)(N:Nat):Ud q N p z:=by
 intro id ops c g e' h' n b;obtain⟨u,c⟩:=Awh b;refine⟨c.tr.mono,fun ρ w a b h i j o=>?_⟩;refine wp_region_any f ?_;have e:∀b,(Array.replicate ops.size false).getD b false=false:=by intro b;by_cases e:b<ops.size<;>simp[e]
 have r:∀b∈u,b.s.kind=kindOf p b.s.o.op:=fun b e=>(c.op b e).2.1;obtain⟨t,v,x,L,y,K⟩:=Ju c.tr r;have r:R q ρ g {w with drawn:=w.drawn+1}:=h.same J;have L:Step ρ g w ρ g {w with drawn:=w.drawn+1}:=Step.same J J J J;obtain⟨g,P⟩:=settle r (fun a0 a1 a2=>j a0 a1 (by omega)) x y (K h.lt);refine Inv.run (ρ0:=ρ) (w0:=w) k mk l c n j h.ngn o ops.size _ a _ ρ 0 t (by unfold left;rw[Array.toList_replicate,List.countP_replicate,Agd (by rfl)]) ?_;refine⟨fun h k _ l=>?_,by simp,i.defers,i.size,v,fun r h _=>?_,g,L.trans P,fun b _ l=>?_,fun n _=>i.at' n,fun b e o t _=>?_⟩
 ·simp_all
 ·simp_all
 ·simp_all
 have f:=c.tr.mem _ e;have g:b.h.n<b.h'.n:=by
  obtain⟨_,_,_,_,_,g,_,_,_,_⟩:=c.at e;obtain⟨c,_⟩:=g o;have e:kindOf p b.s.o.op=2:=by simp_all
  have:=FE (by omega) c;obtain⟨k,b,_⟩:=Ep e _ _ _ this;rw[b,AH.Rl];omega
 exact j _ f.1 (by omega)
end
end Go.Proofs.YtebhflkemdlbkaaGreatDoor
namespace Go.Proofs.YtebhflkemdlbkaaGreatDoor
open Go.Proofs (Tryz.prog)
noncomputable def OI(P:v_)(m:List (b_×String)):Pr:=⟨P,Tr.of P.types.toList,Tr.of P.funcs.toList,m⟩
noncomputable def WL(a:aF_):Bool:=(match Vg a.zero with
 |some b=>Fz b&&Nat.beq (Aq b).length a.size
 |none=>true)&&k_ a.bytes (8*a.size+1000)
noncomputable def RK(a:Func):Bool:= !(a.name== "runtime.NumGoroutine")&&(match a.body with
 |some b=>codeOk 8 a.ntmps b
 |none=>true)
section
variable{P:Program}{m:List (TypeId×String)}
theorem Zw{a:b_}{b:aF_}(c:(OI P m).ty.get a=V b):P.types.toList[a]? =V b:=by rw[←Tr.MH];exact c
theorem Mm(b:P.types.toList.all WL=true){c:b_}{a:aF_}(d:(OI P m).ty.get c=V a):WL a=true:=by rw[z_]at b;exact b a (w_ (Zw d))
theorem Q6{c:b_}{d:W}(a:(OI P m).zero c=V d):∃b,(OI P m).ty.get c=V b∧Vg b.zero=V d:=by
 unfold Pr.zero at a;cases e:(OI P m).ty.get c with
 |none=>rw[e]at a;cases a
 |some b=>rw[e]at a;exact⟨b,J,a⟩
theorem Ama(f:P.types.toList.all WL=true):BU (OI P m)where
 ty d e b:=by
  have c:P.types[d]? =V e:=by simpa using Zw b
  have k:d<P.types.size:=(o_.1 c).1;show P.toTables.info? d=V e;unfold Tables.info?;rw[Agd k];exact c
 fn i j b:=by
  have:P.funcs.toList[i]? =V j:=by rw[←Tr.MH];exact b
  show P.funcs[i]? =V j;simpa using this
 zs d l b:=by obtain⟨e,c,g⟩:=Q6 b;have a:=Mm f c;unfold WL at a;simp only[g,a_]at a;exact a.1.1
 zl d l n b h:=by obtain⟨e,c,g⟩:=Q6 b;have a:=Mm f c;unfold WL at a;simp only[g,a_]at a;unfold Pr.size at h;rw[c]at h;cases h;exact aw_ a.1.2
 by' d e b:=by have a:=Mm f b;unfold WL at a;simp only[a_]at a;exact Nat.le_of_ble_eq_true a.2
theorem OH(b:P.funcs.toList.all RK=true){c:X_}{a:Func}(d:(OI P m).fn.get c=V a):RK a=true:=by rw[z_]at b;refine b a (w_ (i:=c) ?_);rw[←Tr.MH];exact d
theorem Agy(c:P.funcs.toList.all RK=true):Ap6 8 (OI P m)where
 name d e b:=by have a:=OH c b;unfold RK at a;simp only[a_,Q_,beq_eq_false_iff_ne]at a;exact a.1
 code d e g b f:=by have a:=OH c b;unfold RK at a;simp only[f,a_]at a;exact a.2
end
noncomputable def pr:Pr:=OI a4_ [(187,"furcate/trace.set")]
theorem Ar7:a4_.types.toList.all WL=true:=by kernel_rfl
theorem Aud:a4_.funcs.toList.all RK=true:=by kernel_rfl
theorem Aqm:BU pr:=Ama Ar7
theorem Axo:Ap6 8 pr:=Agy Aud
theorem Xf:pr.P.follows .mixedOrders=true:=by kernel_rfl
theorem Ahs(b:H_)(a:f_):(nilAhead (a4_.types.size+bf_) 187 (.pointer (V b)) "furcate/trace.set").run a4_ a=.ok (V false) a:=by kernel_rfl
theorem Ace{P:v_}{a:b_×String}(d:∀(c:H_) (b:f_),(nilAhead (P.types.size+bf_) a.1 (.pointer (V c)) a.2).run P b=.ok (V false) b):FM (OI P [a]):=by intro e f c b;have g:e=a:=List.mem_singleton.1 f;rw[g];exact d c b
theorem ZM:FM pr:=Ace Ahs
theorem As7{a:Cw}(d:Ua 8 pr a)(b c:Nat):Iy 8 pr.P (Ef pr a b c):=
 Nr Aqm ZM Axo d (fun a e f=>Aor Aqm ZM Xf a e f) b c
end Go.Proofs.YtebhflkemdlbkaaGreatDoor
namespace Go.Proofs.YtebhflkemdlbkaaGreatDoor
noncomputable section
variable{a b c d:Nat}{f g h:AH}{v w:Value}{s t:List UInt8}{l m:List Value}{u:TypeId}{x y:Int}{p:List Nat}{q r:List Int}{e:Env}{o n:Option Addr}
def Ql(a:H):W:=.string ⟨a.toArray⟩
def Afl(d:AH)(b:H_)(a:Nat):Option AO→Option (W×AH)
 |some (.tc e c)=>cond (!Nat.beq a 0&&(Nat.beq e 5&&(k_ (b.off+a) c.length&&k_ a 1000000))) (match bytesOf ((c.drop b.off).take a)with|some f=>V (Ql f,d.del b.block)|none=>Z) Z
 |_=>Z
def Hx:E→AH→Option (W×AH)
 |[.pointer (some b)],a=>(match a.get b.block with
  |some (.tc _ c)=>(match c[b.off+1]? with
   |some (.slice none b _)=>cond (Nat.beq b 0) (V (Ql [],a)) Z
   |some (.slice (some c) b _)=>Afl a c b (a.get c.block)
   |_=>Z)
  |_=>Z)
 |_,_=>Z
def K1:E→AH→Option (W×AH)
 |[.pointer (some a)],c=>(match c.get a.block with
  |some (.tc d b)=>cond ((Nat.beq d 58&&(Nat.beq a.off 0&&Nat.beq b.length 2))||(Nat.beq d 60&&(Nat.beq a.off 2&&Nat.beq b.length 4))) (match b[a.off]? with
   |some (.pointer none)=>V (.tuple #[],c.put a.block (.tc d (b.set a.off (.pointer (V a)))))
   |some (.pointer (some b))=>cond (decide (a=b)) (V (.tuple #[],c)) Z
   |_=>Z) Z
  |_=>Z)
 |_,_=>Z
def Cy(b:UInt8)(d:Bool):H→H→List H
 |[],a=>[a.reverse]
 |c::e,a=>cond (c==b) ((cond d (c::a) a).reverse::Cy b d e []) (Cy b d e (c::a))
def DF:Nat→Nat→H→H
 |0,_,a=>a
 |k+1,b,a=>cond (ab_ b 10) ((48+b).toUInt8::a) (DF k (b/10) ((48+b%10).toUInt8::a))
def VB:E→AH→Option (W×AH)
 |[.int .i64 (.ofNat a)],b=>cond (ab_ a 9223372036854775808) (V (Ql (DF 30 a []),b)) Z
 |[.int .i64 (.negSucc a)],b=>cond (ab_ a 9223372036854775808) (V (Ql (45::DF 30 (a+1) []),b)) Z
 |_,_=>Z
def Jd(b:H):E→Option H
 |[]=>V []
 |[.string a]=>V a.data.toList
 |.string a::c=>(match Jd b c with|some d=>V (a.data.toList++(b++d))|none=>Z)
 |_=>Z
def Rv(b:AH)(c:E):Option H→Option (W×AH)
 |some a=>cond (k_ c.length 1000000&&k_ a.length 1000000) (V (Ql a,b)) Z
 |none=>Z
def Anr:W→Nat
 |.slice _ a _=>a
 |_=>0
def VA:E→AH→Option (W×AH)
 |[b,.string d],c=>(match c.row b with
  |some a=>cond (Nat.beq a.length (Anr b)) (Rv c a (Jd d.data.toList a)) Z
  |none=>Z)
 |_,_=>Z
def A1(a:UInt8):H→Nat
 |[]=>0
 |x::b=>cond (x==a) (A1 a b+1) (A1 a b)
def Pk:E→AH→Option (W×AH)
 |[.string a,.int .u8 b],c=>V (.int .i64 (A1 b.toNat.toUInt8 a.data.toList),c)
 |_,_=>Z
def Ft(a:UInt8):H→Nat→Int
 |[],_=> -1
 |x::c,b=>cond (x==a) b (Ft a c (b+1))
def GX:E→AH→Option (W×AH)
 |[.string a,.int .u8 b],c=>V (.int .i64 (Ft b.toNat.toUInt8 a.data.toList 0),c)
 |_,_=>Z
def CG:H→Nat→Nat
 |[],a=>a
 |c::b,a=>CG b (10*a+(c.toNat-48))
def EI(a:UInt8):Bool:=k_ 48 a.toNat&&k_ a.toNat 57
def KQ(a:H):Bool:=k_ a.length 2199023255552
def HR(a:H):Bool:= !a.isEmpty&&(a.all EI&&KQ a)
def Q7(a:AH):Option AO→Option (W×AH)
 |some (.cells [.iface _ _])=>V (.tuple #[.int .i64 9223372036854775807,.iface 425 (.pointer (V ⟨a.n,0,Z⟩))],⟨a.t,a.n+1⟩)
 |_=>Z
def Ik:E→AH→Option (W×AH)
 |[.string a,.int .i64 c,.int .i64 d],b=>cond (c==10&&d==64&&HR a.data.toList) (cond (ab_ (CG a.data.toList 0) 9223372036854775808) (V (.tuple #[.int .i64 (CG a.data.toList 0),.nilIface],b)) (Q7 b (b.get 7))) Z
 |_,_=>Z
def VC:E→AH→Option (W×AH)
 |[.string a],b=>cond (HR a.data.toList&&ab_ (CG a.data.toList 0) 9223372036854775808) (V (.tuple #[.int .i64 (CG a.data.toList 0),.nilIface],b)) Z
 |_,_=>Z
def known:Cw:=((((((((Tr.nil.set 14 (V Hx)).set 59 (V K1)).set 28 (V VB)).set 98 (V VA)).set 178 (V Pk)).set 230 (V GX)).set 231 (V Ik)).set 353 (V VC))
end
end Go.Proofs.YtebhflkemdlbkaaGreatDoor
