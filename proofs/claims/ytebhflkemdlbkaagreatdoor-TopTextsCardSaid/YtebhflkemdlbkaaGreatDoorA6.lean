/-
  A part of the proof of TopTexts. No conditions.
-/
import Derived.Lib.ParseIntB
import Derived.Lib.AtoiAll
import Derived.Lib.ItoaNum
import Derived.Lib.Join
import Derived.Lib.Bytealg
import Derived.Shelf.Strings.OnBuilder
import Derived.Shelf.LaysM
import Derived.Shelf.Strconv.Itoa3
import Derived.Shelf.LaysC
import Derived.Shelf.Strconv.AtoiAll
import Derived.Shelf.Strconv.ParseIntPublic10
import Derived.Test.YtebhflkemdlbkaaGreatDoorProg
import Derived.Test.YtebhflkemdlbkaaGreatDoorChecked
import Derived.Laws.Externs
import Derived.WalkKit
import Derived.Lib.Walk
import Derived.Lib.Builder
import Derived.Lib.UnsafeStr
import Derived.Test.YtebhflkemdlbkaaGreatDoorA0
import Derived.Test.YtebhflkemdlbkaaGreatDoorA5
import Derived.Test.YtebhflkemdlbkaaGreatDoorHeadT
set_option linter.unusedVariables false
set_option linter.unusedSimpArgs false
open Array renaming getElem?_eq_some_iff->M,getElem?_modify->y_
open Bool renaming and_eq_true->T,false_eq_true->C_,or_eq_true->Q_
open Go renaming World->a_,Value->d_,Calls->g_,run_callFunc_extern->i_,Addr->D_,loadBytes->F_
open Go.Builtin renaming unsafeString_->f_,unsafeSliceData_->p_
open Go.Extern.AbiNoEscape renaming same->ab_
open Go.Extern.BytealgIndexByte renaming indexByte->M_
open Go.Lib renaming parseIntB->b_,indexByte->e_,bytesWorld->j_,itoa->o_,parseUintM->w_,countByte->z_,atoiAll->L_,join->N_,parseUint10->O_,intSat->P_,parseUintB->S_,TabIs->T_,decDigits->U_,join_cons->V_,pow10Tab->Y_
open Go.Oper renaming upon_value->r_
open Go.Proofs.Lays renaming n156->af_
open Go.Proofs.LaysC renaming n172->ad_,n174->ae_
open Go.Proofs.LaysM renaming n171->ac_
open Go.Proofs.Tryz renaming prog->Y,underlying55->l_,func59->t_,func14->u_,underlying225->E_,ntmps59->Z_
open Go.Result renaming andThen->k_
open Go.Shelf renaming Ren->n_
open Go.World renaming shape?->aa_
open List renaming cons_ne_nil->m_,getElem?_eq_getElem->q_,length_map->s_,map_cons->A_,all_cons->B_,getElem?_take->H_,getElem?_drop->I_,getElem?_map->K_,append_nil->R_
open Nat renaming le_of_ble_eq_true->Z,le_refl->c_,zero_add->h_,ble_eq_true_of_le->v_,eq_of_beq_eq_true->x_,lt_of_lt_of_le->G_,blt->J_,add_assoc->W_,mul_comm->X_
open Option renaming some->V,none->W
namespace Go.Proofs.YtebhflkemdlbkaaGreatDoor
noncomputable section
variable{a b c d:Nat}{f g h:AH}{v w:Value}{s t:List UInt8}{l m:List Value}{u:TypeId}{x y:Int}{p:List Nat}{q r:List Int}{e:Env}{o n:Option Addr}
theorem Z6(a:UInt8):∀(c:H) (b:Nat),Ft a c b=if e_ c a= -1 then-1 else e_ c a+b
 |[],_=>rfl
 |x::d,b=>by
  unfold Ft e_;cases f:(x==a)with
  |true=>simp
  |false=>
   have e:=Z6 a d (b+1);have g:=Lib.indexByte_ge d a;simp only[Acf,C_,if_false,beq_iff_eq];rw[e];by_cases h:e_ d a= -1
   ·omega
   omega
theorem Adi(a:UInt8)(b:H):Ft a b 0=e_ b a:=by rw[Z6];split<;>simp_all
theorem RY(a:UInt8):∀b:H,A1 a b=z_ b a
 |[]=>rfl
 |x::c=>by
  unfold A1 z_;rw[List.count_cons,RY a c];cases(x==a)<;>simp[z_]
theorem Tz:∀(k a:Nat) (c:H),a<10^k→0<k→DF k a c=U_ a++c
 |0,_,_,_,d=>absurd d (Nat.lt_irrefl 0)
 |k+1,a,c,d,_=>by
  unfold DF;rw[U_];by_cases b:a<10
  ·rw[dif_pos b,show J_ a 10=true from v_ b];rfl
  have e:J_ a 10=false:=by
   cases f:J_ a 10 with
   |false=>rfl
   |true=>exact absurd (Z f) b
  rw[dif_neg b,e,Acf,Tz k (a/10) _ (by omega) (by
   cases k with
   |zero=>simp at d;omega
   |succ k=>exact Nat.succ_pos k),List.append_assoc]
  rfl
theorem VD(a:H):∀b:List ByteArray,Jd a (b.map Value.string)=V (N_ (b.map (·.data.toList)) a)
 |[]=>rfl
 |[x]=>by
  show V x.data.toList=_;rw[A_,List.map_nil,Lib.join_one]
 |x::c::d=>by
  have e:=VD a (c::d);show(match Jd a ((c::d).map Value.string)with|some f=>V (x.data.toList++(a++f))|none=>W)=_;rw[e,A_,A_,V_,V_];simp[Lib.joinTail]
theorem Zb(d:H):∀(a:E) (b:H),Jd d a=V b→∃f:List ByteArray,a=f.map Value.string
 |[],_,_=>⟨[],J⟩
 |[v],b,c=>by
  cases v<;>first|cases c|skip
  rename_i e;exact⟨[e],J⟩
 |v::g::a,b,c=>by
  cases v<;>first|cases c|skip
  rename_i e;change (match Jd d (g::a)with|some b=>V (e.data.toList++(d++b))|none=>W)=V b at c;cases h:Jd d (g::a)with
  |none=>rw[h]at c;cases c
  |some i=>
   obtain⟨f,j⟩:=Zb d (g::a) i h;exact⟨e::f,by simp_all⟩
theorem NV:∀(b:H) (a:Nat),a≤CG b a
 |[],_=>c_ _
 |c::d,a=>Nat.le_trans (by omega) (NV d (10*a+(c.toNat-48)))
theorem Yf{a:UInt8}(b:EI a=true):48≤a.toNat∧a.toNat≤57:=by unfold EI at b;simp only[T,Nat.ble_eq]at b;exact b
theorem Mp:∀(b:H) (a:Nat),b.all EI=true→a≤18446744073709551615→
  (w_ 18446744073709551615 a b=.ok (CG b a)∧CG b a≤18446744073709551615)∨(w_ 18446744073709551615 a b=.range∧18446744073709551615<CG b a)
 |[],a,_,f=>.inl ⟨J,f⟩
 |c::d,a,e,f=>by
  rw[B_,T]at e;have i:=Yf e.1;unfold w_;rw[Agd i];by_cases g:1844674407370955162≤a
  ·rw[Agd g]
   have:=NV d (10*a+(c.toNat-48));exact .inr ⟨J,by show _<CG d _;omega⟩
  rw[Akt g];by_cases h:18446744073709551615<a*10+(c.toNat-48)
  ·rw[Agd h]
   have:=NV d (10*a+(c.toNat-48));exact .inr ⟨J,by show _<CG d _;omega⟩
  rw[Akt h];have:=Mp d (a*10+(c.toNat-48)) e.2 (by omega);rw[X_ a 10]at this⊢;exact this
theorem OM:∀(b:H) (a:Nat),b.all EI=true→a≤18446744073709551615→CG b a≤18446744073709551615→O_ a b=.ok (CG b a)
 |[],a,_,g,_=>rfl
 |c::d,a,e,g,f=>by
  rw[B_,T]at e;have h:=Yf e.1;have i:=NV d (10*a+(c.toNat-48));change CG d (10*a+(c.toNat-48))≤_ at f;unfold O_;rw[Agd h,Jl,Jl,X_ a 10];exact OM d _ e.2 (by omega) f
theorem FI(a:HR s=true):∃b c,s=b::c∧(b::c).all EI=true∧b.toNat≠43∧b.toNat≠45∧s.length≤2199023255552:=by
 unfold HR at a;simp only[T]at a;cases s with
 |nil=>cases a.1
 |cons b c=>
  have d:=a.2.1;rw[B_,T]at d;have e:=Yf d.1;exact⟨b,c,J,a.2.1,by omega,by omega,Z a.2.2⟩
theorem Aqh:2^64-1=18446744073709551615:=by decide
theorem Aci(a:HR s=true)(h:CG s 0<9223372036854775808):b_ 64 s=.ok ((CG s 0:Nat):Int):=by
 obtain⟨b,c,rfl,d,e,f,_⟩:=FI a;unfold b_ S_;simp only[e,f,or_self,if_false,m_,Aqh];rcases Mp (b::c) 0 d (by decide)with⟨g,_⟩|⟨_,g⟩
 ·simp_all
 omega
theorem SI(b:HR s=true)(h:¬CG s 0<9223372036854775808):b_ 64 s=.range:=by
 obtain⟨c,d,rfl,e,f,g,_⟩:=FI b;unfold b_ S_;simp only[f,g,or_self,if_false,m_,Aqh];rcases Mp (c::d) 0 e (by decide)with⟨a,_⟩|⟨a,_⟩
 ·simp_all
 rw[a]
theorem XV(a:HR s=true):P_ 64 s=9223372036854775807:=by obtain⟨b,c,rfl,_,_,d,_⟩:=FI a;unfold P_;rw[Akt (by simp_all)];rfl
theorem YF(a:HR s=true)(g:CG s 0<9223372036854775808):L_ s=.ok ((CG s 0:Nat):Int):=by obtain⟨b,c,rfl,d,e,f,_⟩:=FI a;unfold L_ Lib.parseMag;simp only[e,f,or_self,if_false,m_];rw[OM (b::c) 0 d (by decide) (by omega)];simp only[not_false_eq_true,true_and,false_and,if_false];rw[Jl]
end
end Go.Proofs.YtebhflkemdlbkaaGreatDoor
namespace Go.Proofs
open Go.Shelf
def Tryz.M8:n_:=⟨fun|156=>98|165=>184|166=>31|169=>14|240=>59|241=>268|276=>109|277=>344|n=>n,fun|31=>36|9=>9|3=>3|4=>4|0=>0|20=>20|72=>58|76=>88|70=>55|37=>56|75=>87|127=>117|164=>225|5=>5|80=>65|n=>n,fun|n=>n⟩
theorem Tryz.ZT:af_ Y Tryz.M8:=by repeat' first|kernel_rfl|decide|(intros;kernel_rfl)|constructor
theorem Tryz.HI:Builder.Extra Y Tryz.M8:=by repeat' first|kernel_rfl|decide|(intros;kernel_rfl)|constructor
open Go.RowKit in
theorem Tryz.strings_Join_none(a:Option D_)(c:Nat)(sep:ByteArray)(w:a_):
  g_ Y 98 #[.slice a 0 c,.string sep] w fun e w'=>e=.returned (.string ⟨#[]⟩)∧w'=w:=Any.strings_Join_none Tryz.ZT Tryz.HI a c sep w
open Go.RowKit in
theorem Tryz.strings_Join(bk o c:Nat)(xs:List ByteArray)(sep:ByteArray)(w:a_)(hcells:∀(j:Nat) x,xs[j]? =V x→w.cell? ⟨bk,o+j,W⟩=V (.string x))(hbk:bk<w.heap.size)(hN:xs.length≤140737488355328)(hcap:xs.length≤c)(hlen:(N_ (xs.map (·.data.toList)) sep.data.toList).length≤140737488355328):
  g_ Y 98 #[.slice (V ⟨bk,o,W⟩) xs.length c,.string sep] w fun e w'=>e=.returned (.string ⟨(N_ (xs.map (·.data.toList)) sep.data.toList).toArray⟩)∧Below w.heap.size w w':=Any.strings_Join Tryz.ZT Tryz.HI bk o c xs sep w hcells hbk hN hcap hlen
def Tryz.S7:n_:=⟨fun|171=>28|243=>56|246=>103|283=>194|284=>195|285=>196|286=>197|129=>280|317=>279|318=>281|319=>282|320=>283|337=>349|338=>350|n=>n,fun|3=>3|9=>9|2=>2|4=>4|171=>291|0=>0|53=>254|37=>56|5=>5|173=>294|212=>353|51=>251|20=>20|213=>354|46=>175|232=>442|233=>443|n=>n,fun|17=>1|18=>4|19=>5|n=>n⟩
theorem Tryz.Aif:ac_ Y Tryz.S7:=by repeat' first|kernel_rfl|decide|(intros;kernel_rfl)|constructor
open Go.RowKit Go.Sort Go.Lib in
theorem Tryz.strconv_Itoa(n:Int)(h0: -9223372036854775808≤n)(h1:n≤9223372036854775807)(w:a_)(htab:T_ Y w "internal/strconv.uint64pow10" .u64 Y_):
  g_ Y 28 #[.int .i64 n] w fun e w'=>e=.returned (.string ⟨(o_ n).toArray⟩)∧∃k os,w'=grow (w.drewN k) os:=Any.strconv_Itoa Tryz.Aif n h0 h1 w htab
def Tryz.S9:n_:=⟨fun|172=>353|244=>391|245=>311|247=>310|279=>370|280=>371|281=>372|282=>373|287=>369|316=>400|171=>28|205=>401|321=>398|322=>399|243=>56|246=>103|283=>194|284=>195|285=>196|286=>197|129=>280|317=>279|318=>281|319=>282|320=>283|337=>349|338=>350|n=>n,fun|9=>9|3=>3|75=>87|76=>88|4=>4|5=>5|167=>422|37=>56|0=>0|85=>330|2=>2|168=>425|53=>254|175=>423|46=>175|210=>460|127=>117|145=>477|143=>475|21=>21|171=>291|173=>294|212=>353|51=>251|20=>20|213=>354|232=>442|233=>443|80=>65|n=>n,fun|15=>6|16=>7|17=>1|18=>4|19=>5|n=>n⟩
theorem Tryz.Aig:ad_ Y Tryz.S9:=by repeat' first|kernel_rfl|decide|(intros;kernel_rfl)|constructor
open Go.RowKit in
theorem Tryz.strconv_Atoi_ok(s:ByteArray)(hmax:s.size≤9223372036854775806)(v:Int)(h:L_ s.data.toList=.ok v)(w:a_):
  g_ Y 353 #[.string s] w fun e w'=>e=.returned (.tuple #[.int .i64 v,.nilIface])∧(w'=w∨∃t,w'=j_ w 5 t):=Any.strconv_Atoi_ok Tryz.Aig s hmax v h w
def Tryz.S8:n_:=⟨fun|174=>231|247=>310|245=>311|287=>369|279=>370|280=>371|281=>372|282=>373|321=>398|322=>399|316=>400|171=>28|205=>401|243=>56|246=>103|283=>194|284=>195|285=>196|286=>197|129=>280|317=>279|318=>281|319=>282|320=>283|337=>349|338=>350|n=>n,fun|9=>9|3=>3|2=>2|75=>87|85=>330|4=>4|167=>422|5=>5|53=>254|175=>423|46=>175|168=>425|37=>56|0=>0|210=>460|21=>21|127=>117|145=>477|143=>475|171=>291|173=>294|212=>353|51=>251|20=>20|213=>354|232=>442|233=>443|80=>65|n=>n,fun|15=>6|16=>7|17=>1|18=>4|19=>5|n=>n⟩
theorem Tryz.Vy:ae_ Y Tryz.S8:=by repeat' first|kernel_rfl|decide|(intros;kernel_rfl)|constructor
open Go.RowKit in
theorem Tryz.strconv_ParseInt_10_at64_ok(s:ByteArray)(hmax:s.size≤9223372036854775806)(v:Int)(h:b_ 64 s.data.toList=.ok v)(w:a_):
  g_ Y 231 #[.string s,.int .i64 10,.int .i64 64] w fun e w'=>e=.returned (.tuple #[.int .i64 v,.nilIface])∧(w'=w∨∃t,w'=j_ w 5 t):=Any.strconv_ParseInt_10_at64_ok Tryz.Vy s hmax v h w
open Go.RowKit in
theorem Tryz.strconv_ParseInt_10_at64_range(s:ByteArray)(hlim:s.size≤281474976710656)(h:b_ 64 s.data.toList=.range)(ev:d_)(w:a_)(hv:w.cell? ⟨7,0,W⟩=V ev)(hev:ev=.nilIface∨∃te pe,ev=.iface te pe):
  g_ Y 231 #[.string s,.int .i64 10,.int .i64 64] w fun e w'=>∃N,e=.returned (.tuple #[.int .i64 (P_ 64 s.data.toList),.iface 425 (.pointer (V ⟨N,0,W⟩))])∧w.heap.size≤N∧w'.heap[N]? =V (.cells #[.string ⟨#[80,97,114,115,101,73,110,116]⟩,.string s,ev] 460 (0,0))∧Below w.heap.size w w':=Any.strconv_ParseInt_10_at64_range Tryz.Vy s hlim h ev w hv hev
end Go.Proofs
namespace Go.Proofs.YtebhflkemdlbkaaGreatDoor
open Go.RowKit Go.Shelf
theorem Af5:∃a,Y.info? 58=V a∧a.size=2:=⟨(Y.info? 58).get (by kernel_rfl),by kernel_rfl,by kernel_rfl⟩
set_option maxRecDepth 100000 in
set_option maxHeartbeats 1000000 in
theorem Yo(b c:Nat)(a:a_)(f:a.cell? ⟨b,c,W⟩=V (.pointer (V ⟨b,c,W⟩))):
  g_ Y 59 #[.pointer (V ⟨b,c,W⟩)] a fun d e=>d=.returned (.tuple #[])∧e=a:=by
 obtain⟨e,d,_⟩:=Af5;go_enter t_,Z_;go_wp2;rw[Lib.run_neq_ptr_same a _ l_ d];go_wp2;go_end0;exact⟨J,J⟩
set_option maxRecDepth 100000 in
set_option maxHeartbeats 1000000 in
theorem V4(b a d:Nat)(f:TypeId)(c:a_)(l:c.cell? ⟨b,a,W⟩=V (.pointer W))(g:c.shape? b=V (f,d))(i:a<d)(j:liesAt Y Y.depth f (d/Y.cellsOf f) a 58 1=true)(m:c.frozen? ⟨b,a,W⟩=false):
  g_ Y 59 #[.pointer (V ⟨b,a,W⟩)] c fun h k=>h=.returned (.tuple #[])∧k=c.setCell ⟨b,a,W⟩ (.pointer (V ⟨b,a,W⟩)):=by
 obtain⟨n,h,k⟩:=Af5;go_enter t_,Z_;go_wp2;rw[Lib.run_to_unsafe c ⟨b,a,W⟩ l_ E_ h (by rw[k];decide) g i];simp only[k_];rw[r_];go_wp2;rw[i_ Tryz.func109 (by kernel_rfl) (by kernel_rfl) (by kernel_rfl) (e:=ab_) (by kernel_rfl)];rw[Lib.run_noEscape];simp only[k_];rw[r_];go_wp2;rw[Lib.run_from_unsafe c ⟨b,a,W⟩ E_ l_ h g j];simp only[k_];rw[r_];go_wp2;go_end0;exact⟨J,J⟩
theorem Anm{count off n:Nat}(b:off+n≤count):liesAt Y Y.depth 5 count off 5 n=true:=by
 have c:Y.cellsOf 5=1:=by kernel_rfl
 have a:Y.depth=(2*(Y.types.size+Made.depth)+1)+1:=J;rw[a];simp only[liesAt,Q_];left;rw[a];simp[rowAt,c,b,sameLayout,Nat.mod_one]
def Aeb(a:List Int):H:=a.map fun b=>b.toNat.toUInt8
theorem O9(c:a_):∀(d:List Int) (a:D_) (e:ByteArray),(∀(b:Nat) (x:Int),d[b]? =V x→c.cell? (a.add b)=V (.int .u8 x))→
  (F_ a e d.length).run Y c=.ok ⟨e.data++(Aeb d).toArray⟩ c
 |[],a,e,_=>by simp[F_,Aeb]
 |x::d,a,e,f=>by
  have h:c.cell? a=V (.int .u8 x):=by have:=f 0 x J;simpa[Addr.add]using this
  have i:=O9 c d (a.add 1) (e.push x.toNat.toUInt8) (fun b j k=>by
   have:=f (b+1) j (by simpa using k);have l:(a.add 1).add b=a.add (b+1):=by
    unfold Addr.add;by_cases g:b=0
    ·subst g;simp
    simp[g];omega
   rw[l];exact this)
  simp only[List.length_cons,F_,Sem.run_bind,run_load,h,k_];rw[i];congr 1;apply ByteArray.ext;simp[ByteArray.push,Aeb]
theorem WX(e:a_)(c b g:Nat)(j:e.shape? c=V (5,g))(a:List Int)(k:a≠[])(l:b+a.length≤g)(v:a.length≤9223372036854775807)
  (m:∀(d:Nat) (f:Int),a[d]? =V f→e.cell? ((⟨c,b,W⟩:D_).add d)=V (.int .u8 f)):
  (f_ #[117,3] 9 #[.pointer (V ⟨c,b,W⟩),.int .i64 a.length]).run Y e=.ok (.string ⟨(Aeb a).toArray⟩) (e.freeze ⟨c,b,W⟩ a.length):=by
 have o:a.length≠0:=by simpa using k
 have p:Y.cellsOf 5=1:=by kernel_rfl
 have q:=O9 e a ⟨c,b,W⟩ .empty m;have r:=Anm (count:=g/Y.cellsOf 5) (off:=b) (n:=a.length) (by rw[p];simpa using l);have s:¬ (9223372036854775807:Int)<(a.length:Int):=by omega
 obtain⟨f,h,i,t⟩:∃f h i,f_ #[117,3] 9 #[.pointer (V ⟨c,b,W⟩),.int .i64 a.length]=
   (do
    let d←asInt (.int .i64 a.length)
    if d<0 then runtimePanic f
    if d>IntKind.i64.max then unsupported h
    if d=0 then pure (.string .empty)
    else if←variablesAt ⟨c,b,W⟩ (←elemOf 117) d.toNat then do
     let u←F_ ⟨c,b,W⟩ .empty d.toNat
     freeze ⟨c,b,W⟩ d.toNat
     pure (.string u)
    else unsupported i):=⟨_,_,_,rfl⟩
 rw[t];have d:IntKind.i64.max=9223372036854775807:=J;have u:¬ (a.length:Int)<0:=by omega
 simp[asInt,asIntOf,d,s,u,o,variablesAt,j,elemOf,run_underlying Tryz.underlying117,r,q]
set_option maxRecDepth 100000 in
set_option maxHeartbeats 2000000 in
theorem UA(f g c d e h:Nat)(a:List Int)(b:a_)(l:b.cell? ⟨f,g+1,W⟩=V (.slice (V ⟨c,d,W⟩) a.length e))(m:b.shape? c=V (5,h))(i:a≠[])(s:a.length≤e)(n:d+a.length≤h)(o:a.length≤9223372036854775807)
  (p:∀(j:Nat) (k:Int),a[j]? =V k→b.cell? ((⟨c,d,W⟩:D_).add j)=V (.int .u8 k)):
  g_ Y 14 #[.pointer (V ⟨f,g,W⟩)] b fun q r=>q=.returned (.string ⟨(Aeb a).toArray⟩)∧r=b.drew.freeze ⟨c,d,W⟩ a.length:=by
 have j:a.length≠0:=by simpa using i
 have c1:b.drew.cell? ⟨f,g+1,W⟩=V (.slice (V ⟨c,d,W⟩) a.length e):=l;have k:(p_ #[56] 117 #[.slice (V ⟨c,d,W⟩) a.length e]).run Y b.drew=.ok (.pointer (V ⟨c,d,W⟩)) b.drew:=
  Lib.run_unsafeSliceData_row _ _ _ _ _ _ (by omega)
 have q:=WX b.drew c d h m a i n o p;go_enter u_,Tryz.ntmps14;go_wp2;go_region
 all_goals (go_wp2;go_ret;exact⟨J,J⟩)
set_option maxRecDepth 100000 in
set_option maxHeartbeats 2000000 in
theorem UB(c d:Nat)(a:a_)(f:a.cell? ⟨c,d+1,W⟩=V (.slice W 0 0)):
  g_ Y 14 #[.pointer (V ⟨c,d,W⟩)] a fun b e=>b=.returned (.string ⟨#[]⟩)∧e=a.drew:=by
 have g:∀(b:a_) (e:Option D_),(f_ #[117,3] 9 #[.pointer e,.int .i64 0]).run Y b=.ok (.string .empty) b:=fun b e=>Lib.run_unsafeString_none b _ _ _ e;have c1:a.drew.cell? ⟨c,d+1,W⟩=V (.slice W 0 0):=f;have h:(p_ #[56] 117 #[.slice W 0 0]).run Y a.drew=.ok (.pointer W) a.drew:=J;go_enter u_,Tryz.ntmps14;go_wp2;go_region
 all_goals (go_wp2;go_ret;exact⟨J,J⟩)
end Go.Proofs.YtebhflkemdlbkaaGreatDoor
namespace Go.Proofs.YtebhflkemdlbkaaGreatDoor
open Go.Proofs (Tryz.prog)
open Go.RowKit
section
variable{ρ:DA}{h:AH}{w w':World}{i:Nat}
theorem Apm(a:R i ρ h w)(c:Below w.heap.size w w'):R i ρ h w' where
 lt:=a.lt
 J5 b d e:=G_ (a.J5 b d e) c.size
 cont b g j k l f:=(a.cont b g j k l f).mono (fun _ _ h=>h) (fun b d e=>BX (c.block _ (a.J5 b d e))) (c.block _ (a.J5 b _ f))
 inj:=a.inj
 Ks:=a.Ks
 ngn:=a.ngn
 Uh:=a.Uh.Ak fun b m=>c.block b (a.Uh.lt m)
 off:=a.off
theorem YD(a:Below w.heap.size w w'):Step ρ h w ρ h w' where
 ext _ _ h:=h
 D2 _ _:=rfl
 n:=c_ _
 size:=a.size
 Ak b c _:=a.block b c
 sz b c:=BX (a.block b c)
 live f g b j e k d _:=⟨f,g,j,e,k,d⟩
 back _ l _ h:=⟨l,h⟩
 outer _ _ _ b _ _ e d _:=by rw[e]at d;cases d;exact⟨J,.of fun c=>a.block b c⟩
 os:=a.os
 output:=a.output
 tape:=a.tape
theorem Dy{v:d_}(b:R i ρ h w)(a:Below w.heap.size w w')(c:Fz v=true):Ue i ρ h w v h v w':=⟨ρ,VR.Fe c,Apm b a,YD a⟩
theorem Atr(f:R i ρ h w)(b:Below w.heap.size w w'){j:Nat}(z:ρ h.n=W)(s:w.heap.size≤j)(A:j<w'.heap.size):
  R i (ρ.new h.n (j,0)) ⟨h.t,h.n+1⟩ w'∧Step ρ h w (ρ.new h.n (j,0)) ⟨h.t,h.n+1⟩ w':=by
 have ext:=DA.Hp z (j,0);have k:∀a,a≠h.n→ρ.new h.n (j,0) a=ρ a:=fun a b=>by unfold DA.new;rw[Akt b]
 have F:ρ.new h.n (j,0) h.n=V (j,0):=by unfold DA.new;rw[Agd rfl]
 have o:∀a c,h.get a=V c→a≠h.n:=fun a c p K=>by have:=f.lt a c p;omega
 refine⟨⟨fun a c p=>Nat.lt_succ_of_lt (f.lt a c p),?_,?_,?_,fun L N=>ext _ _ (f.Ks L N),Nat.le_succ_of_le f.ngn,f.Uh.Ak fun a l=>b.block a (f.Uh.lt l),?_⟩,⟨ext,?_,Nat.le_succ _,b.size,fun g l _=>b.block g l,fun g l=>BX (b.block g l),?_,fun a q _ s=>⟨q,s⟩,?_,b.os,b.output,b.tape⟩⟩
 ·intro a r m
  by_cases d:a=h.n
  ·subst d;rw[F]at m;cases m;exact A
  rw[k a d]at m;exact G_ (f.J5 a r m) b.size
 ·intro a c g n e d
  rw[k a (o a c e)]at d;exact(f.cont a c g n e d).mono ext (fun a r m=>BX (b.block _ (f.J5 a r m))) (b.block _ (f.J5 a _ d))
 ·intro m r g P a0 t u e d x y
  rw[k m (o m t e)]at x;rw[k r (o r u d)]at y;exact f.inj m r g P a0 t u e d x y
 ·intro a c g n e d
  rw[k a (o a c e)]at d;exact f.off a c g n e d
 ·intro a b
  exact k a (by simp at b;omega)
 ·intro a c g n e m d _
  rw[k a (o a c e)]at d;exact⟨a,c,n,e,m,d⟩
 intro a m q g n _ e d K;have:h.get a=V (.cells q):=d;rw[e]at this;cases this;exact⟨J,.of fun l=>b.block g l⟩
theorem Auj(j:R i ρ h w){g m r:Nat}{p:AO}(t:h.get g=V p)(a7:p.rw=true)(u:ρ g=V (m,r))(x:w'.heap.size=w.heap.size)(n:∀e,e≠m→w'.heap[e]? =w.heap[e]?)(a8:Au w' m=Au w m)
  (F:w'.os=w.os) (K:w'.output=w.output) (L:w'.tape=w.tape):R i ρ (h.del g) w'∧Step ρ h w ρ (h.del g) w':=by
 have y:∀e,Au w' e=Au w e:=fun e=>by
  by_cases a:e=m
  ·simp_all
  exact BX (n e a)
 have k:∀a b,(h.del g).get a=V b→a≠g∧h.get a=V b:=by
  intro a b c;rw[AH.Ko]at c;by_cases o:a=g
  ·simp_all
  simp_all
 have z:∀{a b d l},(h.del g).get a=V b→ρ a=V (d,l)→d≠m:=by intro a b d l c f o;subst o;exact(k a b c).1 (j.inj a g d l r b p (k a b c).2 t f u)
 have N:=j.off g p m r t u;refine⟨⟨fun a b c=>j.lt a b (k a b c).2,fun a d f=>by rw[x];exact j.J5 a d f,fun a b d l c f=>(j.cont a b d l (k a b c).2 f).mono (fun _ _ h=>h) (fun g a c=>y _) (n d (z c f)),
  fun P a0 d a1 a2 a3 a4 s q=>j.inj P a0 d a1 a2 a3 a4 (k _ _ s).2 (k _ _ q).2,j.Ks,j.ngn,j.Uh.Ak fun e a5=>n e (S5 N a5),fun a b d l c f=>j.off a b d l (k a b c).2 f⟩,
  ⟨fun _ _ h=>h,fun _ _=>rfl,c_ _,Nat.le_of_eq x.symm,?_,fun e _=>y e,fun a b d l c a6 f _=>⟨a,b,l,(k a b c).2,a6,f⟩,fun a A _ c=>⟨A,(k a _ c).2⟩,?_,F,K,L⟩⟩
 ·intro e _ F
  exact n e fun o=>by simp_all
 intro a A K d l _ s q f;have o:=z q f;have F:=(k a _ q).2;rw[s]at F;cases F;exact⟨J,.of fun _=>n d o⟩
end
theorem Fl{b:Type}{a:Bool}{c:Option b}{d:b}(h:cond a c W=V d):a=true∧c=V d:=by
 cases a with
 |true=>exact⟨J,h⟩
 |false=>cases h
section
variable{ρ:DA}{h h':AH}{w:World}{args args':E}{v:Value}
theorem FR{a:FuncId}{b:Func}{f:Code}{c:Ending→a_→Prop}(g:Y.funcs[a]? =V b)(j:(b.name== "runtime.NumGoroutine")=false)(k:b.body=V f)
  (l:g_ Y a args'.toArray w c) (m:∀d w',c d w'→∃e,d=.returned e∧Ue 8 ρ h w v h' e w'):Ha 8 Y a args'.toArray ρ h w v h':=
 .inr ⟨enters_of g j k _ _,l.mono m⟩
theorem Ar8(a:R 8 ρ h w):T_ Y w "internal/strconv.uint64pow10" .u64 Y_:=by
 obtain⟨e,f,b⟩:=a.Uh;have c:Y.globalNamed "internal/strconv.uint64pow10" =V 1:=by kernel_rfl
 unfold T_ World.var?;rw[c];show(match w.heap[1]? with|some (.cells d _ _)=>V d|_=>W)=_;rw[b];rfl
theorem XS(b:VB args h=V (v,h'))(g:R 8 ρ h w)(d:Cv ρ (Au w) args args'):Ha 8 Y 28 args'.toArray ρ h w v h':=by
 have j:∀a:Int,-9223372036854775808≤a→a<9223372036854775808→Cv ρ (Au w) [.int .i64 a] args'→Ha 8 Y 28 args'.toArray ρ h w (Ql (o_ a)) h:=by
  intro a c n d;cases d with|cons _ o _ p f k=>
  cases k;cases f;refine FR Tryz.func28 (by kernel_rfl) J (Tryz.strconv_Itoa a c (by omega) w (Ar8 g)) ?_;rintro e w' ⟨rfl,l,q,rfl⟩;refine⟨_,J,Dy g ⟨J,J,J,?_,?_⟩ J⟩
  ·simp
  intro l m;simp[Go.Sort.grow,Array.getElem?_append,m]
 unfold VB at b;split at b
 ·rename_i a
  have f:=Fl b;clear b;obtain⟨c,b⟩:=f;have c:=Z c;cases b;have e:DF 30 a []=o_ (.ofNat a):=by rw[Tz 30 a [] (by omega) (by decide),R_];unfold o_;rw[Akt (by simp)];rfl
  rw[e];exact j _ (by simp) (by show(a:Int)<9223372036854775808;omega) d
 ·rename_i a
  have f:=Fl b;clear b;obtain⟨c,b⟩:=f;have c:=Z c;cases b;have e:45::DF 30 (a+1) []=o_ (.negSucc a):=by rw[Tz 30 (a+1) [] (by omega) (by decide),R_];unfold o_;rw[Agd (Int.negSucc_lt_zero a)];rfl
  rw[e];exact j _ (by omega) (by omega) d
 cases b
theorem VX(a:Pk args h=V (v,h'))(c:R 8 ρ h w)(d:Cv ρ (Au w) args args'):Ha 8 Y 178 args'.toArray ρ h w v h':=by
 unfold Pk at a;split at a
 ·rename_i j k
  cases a;cases d with|cons _ l _ m f b=>
  cases b with|cons _ n _ o g b=>
  cases b;cases f;cases g;refine .inl ⟨_,w,?_,Dy c (Below.refl _ w) J⟩;rw[RY];refine(i_ Tryz.func178 (by kernel_rfl) (by kernel_rfl) (by kernel_rfl) (e:=Extern.BytealgCount.count) (by kernel_rfl) _ w).trans ?_;rw[Lib.run_countString];rfl
 cases a
theorem VH(a:GX args h=V (v,h'))(c:R 8 ρ h w)(d:Cv ρ (Au w) args args'):Ha 8 Y 230 args'.toArray ρ h w v h':=by
 unfold GX at a;split at a
 ·rename_i j k
  cases a;cases d with|cons _ l _ m f b=>
  cases b with|cons _ n _ o g b=>
  cases b;cases f;cases g;refine .inl ⟨_,w,?_,Dy c (Below.refl _ w) J⟩;rw[Adi];refine(i_ Tryz.func230 (by kernel_rfl) (by kernel_rfl) (by kernel_rfl) (e:=M_) (by kernel_rfl) _ w).trans ?_;rw[Lib.run_indexByteString];rfl
 cases a
theorem Nt(w:a_)(a:ByteArray):Below w.heap.size w (j_ w 5 a):=by unfold j_;refine Lib.below_freeze (((Below.refl _ w).drew).alloc (c_ _) _) ?_ _;exact c_ _
theorem YG(a:VC args h=V (v,h'))(d:R 8 ρ h w)(e:Cv ρ (Au w) args args'):Ha 8 Y 353 args'.toArray ρ h w v h':=by
 unfold VC at a;split at a
 ·rename_i c
  have f:=Fl a;clear a;obtain⟨b,a⟩:=f;rw[T]at b;obtain⟨b,g⟩:=b;cases a;cases e with|cons _ n _ o j k=>
  cases k;cases j;obtain⟨_,_,_,_,_,_,p⟩:=FI b;have q:c.size=c.data.toList.length:=J;refine FR Tryz.func353 (by kernel_rfl) J (Tryz.strconv_Atoi_ok c (by omega) _ (YF b (Z g)) w) ?_;rintro r w' ⟨rfl,l⟩;refine⟨_,J,Dy d ?_ J⟩;rcases l with rfl|⟨m,rfl⟩
  ·exact Below.refl _ _
  exact Nt w m
 cases a
theorem U3(a:Ik args h=V (v,h'))(f:R 8 ρ h w)(m:Cv ρ (Au w) args args')(n:∀g,h.n≤g→g<h'.n→ρ g=W):Ha 8 Y 231 args'.toArray ρ h w v h':=by
 unfold Ik at a;split at a
 ·rename_i c g a1
  obtain⟨b,k⟩:=Fl a;clear a;have a:=k;clear k;simp only[T,beq_iff_eq]at b;obtain⟨⟨rfl,rfl⟩,b⟩:=b;cases m with|cons _ a2 _ a3 o d=>
  cases d with|cons _ a4 _ a5 p d=>
  cases d with|cons _ a6 _ a7 q d=>
  cases d;cases o;cases p;cases q;obtain⟨_,_,_,_,_,_,a8⟩:=FI b;have a9:c.size=c.data.toList.length:=J;cases e:J_ (CG c.data.toList 0) 9223372036854775808 with
  |true=>
   rw[e]at a;cases a;refine FR Tryz.func231 (by kernel_rfl) J (Tryz.strconv_ParseInt_10_at64_ok c (by omega) _ (Aci b (Z e)) w) ?_;rintro j w' ⟨rfl,r⟩;refine⟨_,J,Dy f ?_ J⟩;rcases r with rfl|⟨l,rfl⟩
   ·exact Below.refl _ _
   exact Nt w l
  |false=>
   rw[e]at a;change Q7 h (h.get 7)=V (v,h')at a;unfold Q7 at a;split at a
   ·rename_i l aa r
    cases a;have s:¬CG c.data.toList 0<9223372036854775808:=fun j=>by rw[show J_ _ _=true from v_ j]at e;cases e
    obtain⟨ab,ac,ad,t,ae,af,u⟩:=f.cont 7 _ 7 0 r (f.Ks 7 (by decide));obtain⟨x,y,z⟩:=u 0 _ J;refine FR Tryz.func231 (by kernel_rfl) J (Tryz.strconv_ParseInt_10_at64_range c (by omega) (SI b s) x w ((Fm t 0).trans y) ?_) ?_
    ·cases z
     exact .inr ⟨_,_,J⟩
    rintro j w' ⟨A,rfl,F,K,L⟩;have N:=(M.1 K).1;obtain⟨P,a0⟩:=Atr f L (n h.n (c_ _) (Nat.lt_succ_self _)) F N;refine⟨_,J,_,?_,P,a0⟩;rw[XV b];refine .tuple [.int .i64 9223372036854775807,.iface 425 (.pointer (V ⟨h.n,0,W⟩))] [_,_] (.cons _ _ _ _ (.int _ _) (.cons _ _ _ _ (.iface _ _ _ (.ptr _ _ A 0 ?_)) .nil));unfold DA.new;rw[Agd rfl]
   cases a
 cases a
theorem XR(a:VA args h=V (v,h'))(k:R 8 ρ h w)(a2:Cv ρ (Au w) args args'):Ha 8 Y 98 args'.toArray ρ h w v h':=by
 unfold VA at a;split at a
 case h_2=>cases a
 rename_i l m;split at a
 case h_2=>cases a
 rename_i ag n;have r:=Fl a;clear a;obtain⟨b,a⟩:=r;obtain⟨ah,f,N,rfl⟩:∃g a3 c,l=.slice g a3 c:=by
  unfold AH.row at n;split at n
  ·simp
  ·simp
  simp_all
 unfold Rv at a;split at a
 case h_2=>cases a
 rename_i ai s;have r:=Fl a;clear a;obtain⟨t,a⟩:=r;cases a;rw[T]at t;obtain⟨d,rfl⟩:=Zb _ _ _ s;rw[VD]at s;cases s;have a4:=Z t.1;have aj:=Z t.2;have b:=x_ b;rw[s_]at a4 b;cases a2 with|cons _ u _ ak a5 x=>
 cases x with|cons _ al _ am a6 x=>
 cases x;cases a6;have y:∀(g:Option D_) (c:Nat),d.length=0→u=.slice g 0 c→Ha 8 Y 98 #[u,.string m] ρ h w (Ql (N_ (d.map (·.data.toList)) m.data.toList)) h:=by rintro g c z rfl;obtain rfl:=List.length_eq_zero_iff.1 z;refine FR (args':=[_,_]) Tryz.func98 (by kernel_rfl) J (Tryz.strings_Join_none g c m w) ?_;rintro a7 w' ⟨rfl,rfl⟩;exact⟨_,J,Dy k (Below.refl _ _) J⟩
 cases a5 with
 |H4 c=>exact y _ _ b J
 |s0 g e c=>exact y _ _ b J
 |sl A o F K an c a8 P a9 ao=>
  have b:d.length=f:=b;by_cases a0:f=0
  ·subst a0
   exact y _ _ b J
  have e:(match h.get A with
   |some (.cells l)=>cond (Nat.ble (o+f*N) l.length) (V ((l.drop o).take (f*N))) W
   |_=>W)=V (d.map Value.string):=by
   have j:Nat.beq f 0=false:=by
    cases L:Nat.beq f 0 with
    |false=>rfl
    |true=>exact absurd (x_ L) a0
   simp only[AH.row,j,Acf]at n;exact n
  split at e
  case h_2=>cases e
  rename_i ap aa;obtain⟨a1,e⟩:=Fl e;have a1:=Z a1;injection e with e
  obtain⟨aq,ar,au,ab,av,aw,ac⟩:=k.cont A _ F K aa P;have ad:∀(p:Nat) (q:ByteArray),d[p]? =V q→w.cell? ⟨F,K+o+p,W⟩=V (.string q):=by
   intro p q z;have j:(d.map Value.string)[p]? =V (.string q):=by rw[K_,z];rfl
   rw[←e]at j;rw[H_]at j;split at j
   ·rw[I_]at j
    obtain⟨u,ae,af⟩:=ac _ _ j;cases af;rw[Fm ab,W_];exact ae
   cases j
  subst b;refine FR (args':=[_,_]) Tryz.func98 (by kernel_rfl) J (Tryz.strings_Join F (K+o) a8 d m w ad (k.J5 A _ P) (by omega) a9 (by omega)) ?_;rintro a7 w' ⟨rfl,L⟩;exact⟨_,J,Dy k L J⟩
theorem Abp{c:a_}{a:D_}{d v:d_}(e:w.cell? a=V d)(f:w.frozen? a=false)(g:v.oneCell'=true)(b:(storeCells a [v]).run Y w=.ok () c):c=w.setCell a v:=by
 have j:a.add 0=a:=by simp[Addr.add]
 simp only[storeCells,Sem.run_bind,j,run_store Y w a v _ g,e,f,C_,if_false,Result.andThen_ok,Sem.run_pure]at b;injection b with _ b
 exact b.symm
theorem VO{b c:Nat}{a:Array d_}{e:TypeId}{d:Nat×Nat}(f:w.heap[b]? =V (.cells a e d))(g:Py d a.size)(j:c<a.size):w.frozen? ⟨b,c,W⟩=false:=by unfold World.frozen?;rw[f];rcases g with h|h<;>simp<;>omega
theorem V3(b:K1 args h=V (v,h'))(m:R 8 ρ h w)(P:Cv ρ (Au w) args args'):Ha 8 Y 59 args'.toArray ρ h w v h':=by
 unfold K1 at b;split at b
 case h_2=>cases b
 rename_i aa;split at b
 case h_2=>cases b
 rename_i g e t;have n:=Fl b;clear b;obtain⟨p,b⟩:=n;cases P with|cons _ u _ ab a0 a1=>
 cases a1;cases a0 with|ptr d a f a2 k=>
 obtain⟨q,ac,l,a3,ad,x,a4⟩:=m.cont d _ f a2 t k;simp only[Q_,T,Nat.beq_eq]at p;have a5:TM g=true:=by rcases p with⟨rfl,_⟩|⟨rfl,_⟩<;>rfl
 obtain⟨rfl,a6⟩:=a4 a5;have a7:liesAt Y Y.depth g (q.size/Y.cellsOf g) a 58 1=true:=by
  rw[a6];rcases p with⟨rfl,rfl,c⟩|⟨rfl,rfl,c⟩
  ·rw[c];kernel_rfl
  rw[c];kernel_rfl
 have y:a<q.size:=by omega
 rw[h_];change (match e[a]? with
   |some (.pointer none)=>V (Value.tuple #[],h.put d (.tc g (e.set a (.pointer (V ⟨d,a,W⟩)))))
   |some (.pointer (some z))=>cond (decide ((⟨d,a,W⟩:D_)=z)) (V (Value.tuple #[],h)) W
   |_=>W)=V (v,h')at b
 split at b
 ·rename_i r
  cases b;obtain⟨u,j,s⟩:=x a _ r;cases s;rw[h_]at j;have A:w.cell? ⟨f,a,W⟩=V (.pointer W):=(Fm l a).trans j;have F:=VO l a3 y;have a8:a<e.length:=by omega
  obtain⟨ae,K,L,N⟩:=Un m t k (o:=a) (xs:=[.pointer (V ⟨d,a,W⟩)]) (xs':=[.pointer (V ⟨f,a,W⟩)]) (show a+1≤e.length by omega) (.cons _ _ _ _ (by have:=VR.ptr (sz:=Au w) d a f 0 k;rwa[h_]at this) .nil) J Y;rw[h_]at K;obtain rfl:=Abp A F J K;have a9:A5 e a [.pointer (V ⟨d,a,W⟩)]=e.set a (.pointer (V ⟨d,a,W⟩)):=by unfold A5;rw[List.set_eq_take_append_cons_drop,Agd a8];rfl
  rw[a9]at L N;refine FR (args':=[_]) t_ (by kernel_rfl) J (V4 f a q.size g w A (by simp[aa_,l]) y a7 F) ?_;rintro c w' ⟨rfl,rfl⟩;exact⟨_,J,_,.tuple [] [] .nil,L,N⟩
 ·rename_i z r
  have n:=Fl b;clear b;obtain⟨c,b⟩:=n;have c:=Acw c;subst c;cases b;obtain⟨u,j,s⟩:=x a _ r;cases s with|ptr _ _ F K A=>
  rw[k]at A;cases A;rw[h_]at j;refine FR (args':=[_]) t_ (by kernel_rfl) J (Yo f a w ((Fm l a).trans j)) ?_;rintro c w' ⟨rfl,rfl⟩;exact⟨_,J,Dy m (Below.refl _ _) J⟩
 cases b
theorem Wc:∀{a:E} {c:H},bytesOf a=V c→∃b:List Int,a=b.map (Value.int .u8)∧c=Aeb b
 |[],_,h=>by cases h;exact⟨[],J,J⟩
 |x::a,c,h=>by
  unfold bytesOf at h;split at h
  ·simp_all
  ·rename_i g k j
   injection j with f d
   subst f d;cases e:bytesOf a with
   |none=>rw[e]at h;cases h
   |some l=>
    rw[e]at h;cases h;obtain⟨b,f,d⟩:=Wc e;exact⟨g::b,by simp_all,by rw[d];rfl⟩
  cases h
theorem Sw(a:Hx args h=V (v,h'))(m:R 8 ρ h w)(a1:Cv ρ (Au w) args args'):Ha 8 Y 14 args'.toArray ρ h w v h':=by
 unfold Hx at a;split at a
 case h_2=>cases a
 rename_i al;split at a
 case h_2=>cases a
 rename_i am a2 a3;cases a1 with|cons _ r _ an a4 a5=>
 cases a5;cases a4 with|ptr a6 g s d a7=>
 obtain⟨ao,ap,aq,y,ar,au,z⟩:=(m.cont a6 _ s d a3 a7).Ld;change (match a2[g+1]? with
   |some (.slice none b _)=>cond (Nat.beq b 0) (V (Ql [],h)) W
   |some (.slice (some d) b _)=>Afl h d b (h.get d.block)
   |_=>W)=V (v,h')at a
 split at a
 ·rename_i b a8 t
  have u:=Fl a;clear a;obtain⟨_,a⟩:=u;cases a;obtain⟨r,j,k⟩:=z (g+1) _ t;cases k;refine FR (args':=[_]) u_ (by kernel_rfl) J (UB s (d+g) w ((Fm y _).trans j)) ?_;rintro a9 w' ⟨rfl,rfl⟩;exact⟨_,J,Dy m (Below.drew (Below.refl _ _)) J⟩
 ·rename_i A b a8 t
  obtain⟨r,j,k⟩:=z (g+1) _ t;unfold Afl at a;split at a
  case h_2=>cases a
  rename_i av x F;have u:=Fl a;clear a;obtain⟨K,a⟩:=u;simp only[T,Nat.beq_eq,Nat.ble_eq,Bool.not_eq_true']at K;obtain⟨L,rfl,N,aw⟩:=K;split at a
  case h_2=>cases a
  rename_i ax aa;cases a;obtain⟨c,P,rfl⟩:=Wc aa;cases k with
  |s0 _ e _=>cases L
  |sl ab e f n ay az ac a0 ad aA=>
   have ae:b=c.length:=by have:=Akv List.length P;rw[List.length_take,List.length_drop,s_]at this;change e+b≤x.length at N;change min b (x.length-e)=c.length at this;omega
   subst ae;obtain⟨c2,af,o,aB,aC,ag,_⟩:=m.cont ab _ f n F a0;change e+c.length≤x.length at N;have ah:c≠[]:=by rintro rfl;cases L
   have ai:∀(p:Nat) (q:Int),c[p]? =V q→w.cell? ((⟨f,n+e,W⟩:D_).add p)=V (.int .u8 q):=by
    intro p q aj;have l:(c.map (Value.int .u8))[p]? =V (.int .u8 q):=by simp_all
    rw[←P,H_]at l;split at l
    ·rw[I_]at l
     obtain⟨r,j,k⟩:=ag _ _ l;cases k;rw[HS,Fm o,W_];exact j
    cases l
   have l:w.shape? f=V (5,c2.size):=by simp[aa_,o]
   refine FR (args':=[_]) u_ (by kernel_rfl) J (UA s (d+g) f (n+e) ac c2.size c w ((Fm y _).trans j) l ah ad (by omega) (by omega) ai) ?_;rintro a9 w' ⟨rfl,rfl⟩;obtain⟨aj,A⟩:=Auj (w':=w.drew.freeze ⟨f,n+e,W⟩ c.length) m F J a0 (by unfold World.freeze;split<;>simp) (fun aD aE=>by
    unfold World.freeze;split
    ·rfl
    ·simp only[y_]
     rw[Jl];rfl) (by
    unfold World.freeze;split
    ·rfl
    unfold Au;simp only[y_];rw[Agd trivial];have ak:w.drew.heap[f]? =V (.cells c2 5 af):=o;rw[ak,o];rfl) (by unfold World.freeze;split<;>rfl) (by unfold World.freeze;split<;>rfl) (by unfold World.freeze;split<;>rfl)
   exact⟨_,J,ρ,.string _,aj,A⟩
 cases a
theorem Aii:Ua 8 pr known:=by
 intro f j a args h v m b ρ w args' c d n;have e:∀(k:Cw) (g:Nat) (l:E→AH→Option (d_×AH)),(k.set g (V l)).get f=V j→(f=g∧j=l)∨k.get f=V j:=by
  intro k g l o;rw[Tr.C6]at o;by_cases p:f=g
  ·simp_all
  simp_all
 unfold known at a;show Ha 8 Y f args'.toArray ρ h w v m;rcases e _ _ _ a with⟨rfl,rfl⟩|a
 ·exact YG b c d
 rcases e _ _ _ a with⟨rfl,rfl⟩|a
 ·exact U3 b c d n
 rcases e _ _ _ a with⟨rfl,rfl⟩|a
 ·exact VH b c d
 rcases e _ _ _ a with⟨rfl,rfl⟩|a
 ·exact VX b c d
 rcases e _ _ _ a with⟨rfl,rfl⟩|a
 ·exact XR b c d
 rcases e _ _ _ a with⟨rfl,rfl⟩|a
 ·exact XS b c d
 rcases e _ _ _ a with⟨rfl,rfl⟩|a
 ·exact V3 b c d
 rcases e _ _ _ a with⟨rfl,rfl⟩|a
 ·exact Sw b c d
 cases a
end
end Go.Proofs.YtebhflkemdlbkaaGreatDoor
namespace Go.Proofs.YtebhflkemdlbkaaGreatDoor
open Go.RowKit
theorem I5(b:d_)(c:E)(a:Nat):(H0 b c).get a=if a=8 then V (.ro c)else if a=7 then V (.cells [b])else W:=by show AH.get (AH.put (AH.put ⟨.nil,10⟩ 7 (.cells [b])) 8 (.ro c)) a=_;rw[AH.IW,AH.IW];rfl
theorem Arm(c:d_)(e:E):Wh (H0 c e):=by
 intro b i a;rw[I5]at a;show b<10;by_cases g:b=8
 ·omega
 rw[Akt g]at a;by_cases h:b=7
 ·omega
 rw[Akt h]at a;cases a
theorem Aoa(c:d_)(e:E):AR 4 [] (H0 c e) (fun g a=>g=.bool true∧Ext (H0 c e) a):=by
 have b:=Aip c e;cases h:Ef pr Pg 1000 60 4 [] (H0 c e)with
 |none=>rw[h]at b;cases b
 |some l=>
  rw[h]at b;obtain⟨g,a⟩:=l;have b:V (g,Nat.ble 10 a.n,[a.get 0,a.get 1,a.get 2,a.get 3,a.get 4,a.get 5,a.get 6,a.get 7,a.get 8,a.get 9])=V (.bool true,true,[W,W,W,W,W,W,W,V (.cells [c]),V (.ro e),W]):=b;simp only[Option.some.injEq,Prod.mk.injEq,List.cons.injEq,and_true]at b;obtain⟨rfl,m,n,o,r,s,t,u,v,w,x,y⟩:=b;refine⟨_,a,Ada 1000 60 _ _ _ _ h,Z m,J,fun k i=>?_⟩;have i:k<10:=i;rw[I5]
  match k,i with
  |0,_=>exact n
  |1,_=>exact o
  |2,_=>exact r
  |3,_=>exact s
  |4,_=>exact t
  |5,_=>exact u
  |6,_=>exact v
  |7,_=>exact w
  |8,_=>exact x
  |9,_=>exact y
def InW(d:a_)(b:d_)(a:List Int):Prop:=
 (a=[]∧(b=.slice W 0 0∨∃m,b=.slice (V m) 0 0))∨
 ∃(e g c:Nat) (h:List Int) (i:Array d_) (p:TypeId) (n:Nat×Nat),b=.slice (V ⟨e,g,W⟩) a.length c∧0<c∧c=a.length+h.length∧d.heap[e]? =V (.cells i p n)∧
  ∀(k:Nat) (l:Int),(a++h)[k]? =V l→i[g+k]? =V (.int .i64 l)
def Qo(b:Option (Nat×Nat))(c:Nat×Nat):DA:=fun a=>if a<8 then V (a,0)else if a=8 then b else if a=9 then V c else W
theorem Aml{b:Array d_}{c:d_}(e:b.size=1)(a:b[0]? =V c):b= #[c]:=by
 obtain⟨g⟩:=b
 match g,e with
 |[h],_=>
  have a:V h=V c:=a;injection a with a
  rw[a]
section
variable{d:World}{q:TypeId}{f j:Nat}{p:TypeId}
theorem Afc(a6:QJ d)(L:d.heap[7]? =V (.cells #[.iface q (.pointer (V ⟨f,j,W⟩))] p))(ai:f<d.heap.size){e:d_}{l:List Int}(o:InW d e l)(aj:∀a0∈l,-9223372036854775808≤a0∧a0<9223372036854775808)(m:ByteArray)(A:UInt8):
  g_ Y 3 #[.string m,e,.int .u8 A.toNat] d fun z a7=>z=.returned (.bool true)∧Below d.heap.size d a7:=by
 have aH:7<d.heap.size:=(M.1 L).1;obtain⟨w,r,a1,ak,g,a8,a9⟩:∃(w:Option (Nat×Nat)) (r:E) (a1:d_),(∀c,YV (H0 c r) a1 l)∧VR (Qo w (f,j)) (Au d) a1 e∧
   (∀b s,w=V (b,s)→∃k p K,d.heap[b]? =V (.cells k p K)∧s+r.length≤k.size∧∀(x:Nat) (e:d_),r[x]? =V e→∃n,e=.int .i64 n∧k[s+x]? =V (.int .i64 n))∧
   (∀b s,w=V (b,s)→b≠7∧b≠1):=by
  rcases o with⟨rfl,rfl|⟨ae,rfl⟩⟩|⟨b,s,F,v,k,p,K,rfl,af,ag,a,u⟩
  ·exact⟨W,[],.slice W 0 0,fun c=>.inl ⟨J,_,_,J⟩,.H4 0,fun _ _ h=>(by cases h),fun _ _ h=>(by cases h)⟩
  ·exact⟨W,[],.slice (V ⟨0,0,W⟩) 0 0,fun c=>.inl ⟨J,_,_,J⟩,.s0 _ _ _,fun _ _ h=>(by cases h),fun _ _ h=>(by cases h)⟩
  have aa:s+F≤k.size:=by have y:(l++v)[F-1]? =V ((l++v)[F-1]'(by simp;omega)):=q_ _;have a3:=(M.1 (u _ _ y)).1;omega
  have i:∃n,k[s]? =V (.int .i64 n):=by have y:(l++v)[0]? =V ((l++v)[0]'(by simp;omega)):=q_ _;exact⟨_,u 0 _ y⟩
  obtain⟨ah,i⟩:=i;refine⟨V (b,s),(l++v).map I,.slice (V ⟨8,0,W⟩) l.length 1,fun c=>.inr ⟨8,v.map I,J,?_⟩,?_,?_,?_⟩
  ·rw[I5,Agd rfl,List.map_append]
  ·exact .sl 8 0 b s l.length 1 F (by unfold Qo;rw[Akt (by decide),Agd rfl]) (by omega) (by unfold Au;rw[a];show s+0+F*1≤k.size;omega)
  ·intro h ab z
   cases z;refine⟨k,p,K,a,by rw[s_,List.length_append];omega,fun x e g=>?_⟩;rw[K_]at g;cases N:(l++v)[x]? with
   |none=>rw[N]at g;cases g
   |some n=>
    rw[N]at g;cases g;exact⟨n,J,u x n N⟩
  intro h ab z;cases z;constructor
  ·rintro rfl
   rw[L]at a;cases a
   match s,i with
   |0,i=>cases i
   |s+1,i=>simp at i
  rintro rfl;obtain⟨al,am,a5⟩:=a6;rw[a5]at a;cases a;have a2:s<20:=(M.1 i).1;have ac:∀s,s<20→∃a4,Xg[s]? =V (.int .u64 a4):=fun s a2=>⟨((10^s:Nat):Int),by unfold Xg;simp[a2]⟩;obtain⟨a4,ad⟩:=ac s a2;rw[ad]at i;cases i
 have an:(Value.iface q (.pointer (V ⟨9,0,W⟩)))=.iface q (.pointer (V ⟨9,0,W⟩)):=J;generalize a2:(Value.iface q (.pointer (V ⟨9,0,W⟩)))=c at an;have ao:VR (Qo w (f,j)) (Au d) c (.iface q (.pointer (V ⟨f,j,W⟩))):=by rw[←a2];exact .iface _ _ _ (.ptr 9 0 f j J)
 have ap:R 8 (Qo w (f,j)) (H0 c r) d:=by
  refine⟨fun b F a=>Arm c r b F a,?_,?_,?_,fun ax N=>by unfold Qo;rw[Agd N],(by decide:(8:Nat)≤10),a6,?_⟩
  ·intro b a0 o
   unfold Qo at o;split at o
   ·cases o;show b<_;omega
   split at o
   ·obtain⟨h,s⟩:=a0
    obtain⟨k,p,K,y,_⟩:=a8 h s o;exact(M.1 y).1
   split at o
   ·cases o;exact ai
   cases o
  ·intro b F h s a v
   rw[I5]at a;by_cases i:b=8
   ·rw[Agd i]at a
    cases a;subst i;obtain⟨k,p,K,y,a3,a4⟩:=a8 h s v;exact⟨k,p,K,y,a3,fun x e g=>by obtain⟨n,rfl,ac⟩:=a4 x e g;exact⟨_,ac,.int _ _⟩⟩
   rw[Akt i]at a;by_cases k:b=7
   ·rw[Agd k]at a
    cases a;subst k;cases v;refine⟨_,_,_,L,.inl (c_ _),by show 0+1≤1;omega,fun x e g=>?_⟩
    match x,g with
    |0,g=>cases g;exact⟨_,J,ao⟩
   rw[Akt k]at a;cases a
  ·intro a3 ae h af ag ah aq ar au av aw
   have ad:∀b F s,(H0 c r).get b=V F→Qo w (f,j) b=V (h,s)→(b=8∧h≠7)∨(b=7∧h=7):=by
    intro b F s a v;rw[I5]at a;by_cases i:b=8
    ·subst i
     exact .inl ⟨J,(a9 h s v).1⟩
    rw[Akt i]at a;by_cases k:b=7
    ·subst k
     cases v;exact .inr ⟨J,J⟩
    rw[Akt k]at a;cases a
   rcases ad a3 ah af ar av with⟨x,K⟩|⟨x,K⟩<;>rcases ad ae aq ag au aw with⟨a4,a5⟩|⟨a4,a5⟩
   ·rw[x,a4]
   ·exact absurd a5 K
   ·exact absurd K a5
   rw[x,a4]
  intro b F h s a v;rw[I5]at a;by_cases i:b=8
  ·subst i
   have:=(a9 h s v).2;simpa[Vt]using this
  rw[Akt i]at a;by_cases k:b=7
  ·subst k
   cases v;rfl
  rw[Akt k]at a;cases a
 obtain⟨_,y,aq,ac,rfl,ar⟩:=Anx (src:=m.data.toList) (t:=A) (Arm c r) ⟨q,_,by rw[I5,Akt (by decide),Agd rfl,←a2]⟩ (Aoa c r) (ak c) aj;obtain⟨n,au⟩:=K4 aq;have av:Cv (Qo w (f,j)) (Au d) [S m.data.toList,a1,B A] [.string m,e,.int .u8 A.toNat]:=by
  refine .cons _ _ _ _ ?_ (.cons _ _ _ _ g (.cons _ _ _ _ (.int _ _) .nil));have:S m.data.toList=.string m:=by show Value.string ⟨m.data.toList.toArray⟩=_;rw[Array.toArray_toList]
  rw[this];exact .string m
 have aw:=As7 Aii n n 3 _ _ _ _ au (Qo w (f,j)) d _ ap av fun b a3 _=>by
  have:10≤b:=a3;unfold Qo;rw[Jl,Jl,Jl]
 have N:=enters_of Tryz.func3 (by kernel_rfl) J #[.string m,e,.int .u8 A.toNat] d;rcases aw with⟨ax,aI,u,_⟩|⟨_,u⟩
 ·have N:(callFunc 3 #[.string m,e,.int .u8 A.toNat]).run Y d=_:=N
  have u:(callFunc 3 #[.string m,e,.int .u8 A.toNat]).run Y d=_:=u;rw[N]at u;cases u
 refine Calls.mono (P:=Y) u ?_;rintro z a7 ⟨ax,rfl,ay,az,aA,x⟩;cases az;refine⟨J,x.os,x.tape,x.output,x.size,fun a4 aB=>?_⟩;by_cases a5:a4=7
 ·subst a5
  have ad:(H0 c r).get 7=V (.cells [c]):=by rw[I5,Akt (by decide),Agd rfl]
  have ae:y.get 7=V (.cells [c]):=(ar 7 (show 7<10 by decide)).trans ad;obtain⟨_,aC⟩:=x.outer 7 [c] [c] 7 0 (show 7<10 by decide) ad ae J;obtain⟨aD,af,aa,aJ⟩:=aC _ _ _ L;obtain⟨c2,al,am,ag,_,_,aE⟩:=aA.cont 7 _ 7 0 ae (x.ext 7 (7,0) J);rw[af]at ag;cases ag;obtain⟨aK,aF,K⟩:=aE 0 c J;rw[←a2]at K;cases K with|iface _ _ aL K=>
  have aG:ay 9=V (f,j):=x.ext 9 (f,j) J;cases K with|ptr _ _ h ab ah=>
  rw[aG]at ah;cases ah;have z:aD= #[.iface q (.pointer (V ⟨f,j,W⟩))]:=Aml aa aF;rw[af,L,z]
 refine x.Ak a4 aB fun b F s a h v=>?_;rw[I5]at a;by_cases i:b=8
 ·rw[Agd i]at a;cases a;cases h
 rw[Akt i]at a;by_cases k:b=7
 ·subst k
  cases v;exact a5 J
 rw[Akt k]at a;cases a
end
end Go.Proofs.YtebhflkemdlbkaaGreatDoor
