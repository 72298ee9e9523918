/-
  A part of the proof of TopTexts. No conditions.
-/
import Derived.Test.YtebhflkemdlbkaaGreatDoorA1
set_option linter.unusedVariables false
set_option linter.unusedSimpArgs false
open Bool renaming false_and->U_,not_false->V_,true_and->Y_,false_or->ai_,eq_iff_iff->at_,not_true->av_,and_self->ax_
open Go renaming Value->e_,TypeId->S_,Operand->W_,Addr->X_,FuncId->ak_
open Go.IntKind renaming wrap->f_
open Go.Proofs.Tryz renaming func247->p_,func317->r_,func161->t_,func83->x_,func320->al_
open Int renaming reduceBEq->d_,emod_eq_of_lt->ap_
open List renaming length_cons->Z,length_nil->M,length_append->a_,getElem?_eq_some_iff->c_,getElem?_eq_getElem->g_,drop_eq_getElem_cons->j_,mem_singleton->q_,take_of_length_le->s_,mem_cons->u_,drop_length->w_,mem_cons_of_mem->y_,mem_of_getElem?->z_,length->A_,append_nil->B_,mem_cons_self->C_,length_map->D_,length_set->E_,take_append_of_le_length->F_,getElem?_map->G_,length_replicate->H_,mem_append->I_,map_append->J_,getElem?_drop->L_,length_drop->M_,not_mem_nil->O_,take_append_drop->Q_,nil_append->T_,append_assoc->ab_,drop_drop->ae_,drop_zero->af_,drop_eq_nil_iff->ag_,any_cons->ah_,flatten_append->aj_,take_add_one->ao_,all_eq_true->aq_,take_length->ar_,length_take->as_,map_cons->aw_,map_take->ay_
open Nat renaming reduceBEq->V,le_refl->b_,reduceLT->h_,le_trans->i_,le_succ->k_,lt_of_lt_of_le->l_,zero_le->m_,lt_succ_self->n_,lt_succ_of_lt->o_,zero_mul->K_,reduceLeDiff->N_,ble->P_,ble_eq_true_of_le->R_,add_assoc->Z_,reduceSub->aa_,le_add_left->ac_,zero_add->am_,le_succ_of_le->an_,min_eq_left->au_
open Option renaming some->Y,none->W,bind_eq_some_iff->v_,map_eq_some_iff->ad_
namespace Go.Proofs.YtebhflkemdlbkaaGreatDoor
noncomputable section
variable{a b c d:Nat}{f g h:AH}{v w:Value}{s t:List UInt8}{l m:List Value}{u:TypeId}{x y:Int}{p:List Nat}{q r:List Int}{e:Env}{o n:Option Addr}
def FH(e:Fq)(src:H)(a:PN):Option (Fn×PN):=
 (SE (PN.Ao {a.Ao Gb with P:=(a.Ao Gb).P.name.2} [40])).bind fun c=>
  bif c.2.P.is [[123]]then(e c.2).bind fun d=>Y (⟨(a.Ao Gb).P.name.1,a.P.line src,c.1,0,d.1⟩,d.2)
  else(e (AS c.2).2).bind fun d=>Y (⟨(a.Ao Gb).P.name.1,a.P.line src,c.1,(AS c.2).1,d.1⟩,d.2)
section
variable{b:Nat}{src:H}
theorem OJ{e g h i j:e_}{k:List Pm}(l:f.get a=Y (.cells [e,g,h,i,j]))(d:f.get c=Y (.cells (Bi k))):c≠a:=by
 intro m;rw[m,l]at d;injection d with d
 injection d with d
 have:=Akv A_ d;rw[Ho]at this;simp at this;omega
theorem VN{ay:Fq}(az:Aa5 b src ay)(bb:src.length<2^40){a aA:PN}{t:Fn}(aB:Wh f)(aC:St f b src a)(g:FH ay src a=Y (t,aA)):
  AR 35 [At b] f (fun e d=>(∃c,e=.agg #[S t.name,I t.line,c,I t.ret,I t.body]∧PF f d b c t.params)∧AP f d b src aA):=by
 have aD:=AP.start aB aC;have bI:=aC.lt aB;refine eF Tryz.func35 ?_;simp only[go_sem,V];have a7:=aD.new (.cells [At b]);have bc:=aD.fresh (.cells [At b]);have a8:=a7.new (.cells [S [],I 0,.slice W 0 0,I 0,I 0]);have bd:Bj ((f.new (.cells [At b])).new (.cells [S [],I 0,.slice W 0 0,I 0,I 0])) b (f.n+1):=a7.fresh (.cells [S [],I 0,.slice W 0 0,I 0,I 0]);have be:=a7.newAt bc (.cells [S [],I 0,.slice W 0 0,I 0,I 0]);refine Aa (a8.line bb) ?_;rintro _ d aE ⟨rfl,j,aF⟩;obtain⟨aG,z⟩:=a8.at be aE aF;obtain⟨aH,a9⟩:=a8.at bd aE aF;have z:d.get f.n=Y (.cells [At b]):=z.trans (by simp only[go_sem]);have a9:d.get (f.n+1)=Y (.cells [S [],I 0,.slice W 0 0,I 0,I 0]):=a9.trans (Ae _);have aa:=j.new (.cells [S [],I 0,.slice W 0 0,I 0,I 0]);have ab:=j.fresh (.cells [S [],I 0,.slice W 0 0,I 0,I 0]);have bf:=j.newAt aG (.cells [S [],I 0,.slice W 0 0,I 0,I 0]);have bg:=j.newAt aH (.cells [S [],I 0,.slice W 0 0,I 0,I 0]);obtain⟨bh,bi⟩:=aa.put ab (by have:=j.n;omega) (.cells [S [],I (a.P.line src),.slice W 0 0,I 0,I 0]);have bj:=aa.putAt ab bf (.cells [S [],I (a.P.line src),.slice W 0 0,I 0,I 0]);have bk:=aa.putAt ab bg (.cells [S [],I (a.P.line src),.slice W 0 0,I 0,I 0]);have aI:f.n<d.n:=aG.1;have bl:f.n+1<d.n:=aH.1;have k:(f.n==d.n)=false:=AE aI;have u:(f.n+1==d.n)=false:=AE bl;simp only[go_sem,V,z,aI];refine Aa (bh.Ao Gb) ?_;rintro _ ac ad ⟨rfl,bm,ae,_⟩;have aJ:=bj.Ak ad ae;have aK:=bk.Ak ad ae;have aL:=bi.Ak ad ae;have aM:ac.get f.n=Y (.cells [At b]):=aJ.2.trans (by simp only[go_sem,k,z]);have bn:ac.get (f.n+1)=Y (.cells [S [],I 0,.slice W 0 0,I 0,I 0]):=aK.2.trans (by simp only[go_sem,u,a9]);have bo:ac.get d.n=Y (.cells [S [],I (a.P.line src),.slice W 0 0,I 0,I 0]):=aL.2.trans (Ai _ _);simp only[go_sem,V,aM];refine Aa bm.name ?_;rintro _ af ag ⟨rfl,A,ah,_⟩;have aN:=aJ.1.Ak ag ah;have aO:=aK.1.Ak ag ah;have F:=aL.1.Ak ag ah;have aP:=aN.2.trans aM;have bp:=aO.2.trans bn;have bq:=F.2.trans bo;obtain⟨br,bs⟩:=A.put F.1 (by have:=j.n;omega) (.cells [S (a.Ao Gb).P.name.1,I (a.P.line src),.slice W 0 0,I 0,I 0]);have aQ:=A.putAt F.1 aN.1 (.cells [S (a.Ao Gb).P.name.1,I (a.P.line src),.slice W 0 0,I 0,I 0]);have bt:=A.putAt F.1 aO.1 (.cells [S (a.Ao Gb).P.name.1,I (a.P.line src),.slice W 0 0,I 0,I 0]);simp only[go_sem,V,bq,k,aP];have aR:(af.put d.n (.cells [S (a.Ao Gb).P.name.1,I (a.P.line src),.slice W 0 0,I 0,I 0])).get f.n=Y (.cells [At b]):=by simp only[go_sem,k,aP]
 have bu:(af.put d.n (.cells [S (a.Ao Gb).P.name.1,I (a.P.line src),.slice W 0 0,I 0,I 0])).get (f.n+1)=Y (.cells [S [],I 0,.slice W 0 0,I 0,I 0]):=by simp only[go_sem,u,bp]
 obtain⟨⟨aS,h⟩,bv,g⟩:=v_.1 (show(SE (PN.Ao {a.Ao Gb with P:=(a.Ao Gb).P.name.2} [40])).bind _=_ from g);dsimp only at g;refine Aa (Al4 br aQ aR bs (Ai _ _) k (by have:=j.n;omega) bv) ?_;rintro _ aT bJ ⟨rfl,w,aU,bw,c,bx,K⟩;have aV:=aU _ aQ (AF k);have aW:=aU _ bt (AF u);have aX:=aV.2.trans aR;have bz:=aW.2.trans bu;have bA:f.n≤af.n:=A.n;have K:PF f aT b c aS:=by
  rcases K with m|⟨n,o,e,p,q⟩
  ·exact .inl m
  exact .inr ⟨n,o,e,p,i_ bA q⟩
 simp only[go_sem,V,aX];refine Aa (w.is (l:=[[123]]) J (by show 1<2^62;decide)) ?_;rintro _ bB bC ⟨rfl,L,N⟩;have a0:aT.n≤bB.n:=i_ (k_ _) bC;have aY:=w.at aV.1 a0 N;have ai:=w.at aW.1 a0 N;have aj:=w.at bw a0 N;have aZ:=K.Ak fun ak r=>w.at r a0 N;have al:=aY.2.trans aX;have b0:=ai.2.trans bz;have b1:=aj.2.trans bx;have b2:=K.one;have am:f.n≤d.n:=j.n;cases b3:h.P.is [[123]]with
 |true=>
  simp only[b3,Aa9]at g;obtain⟨⟨s,bD⟩,an,g⟩:=v_.1 g;cases g;simp only[go_sem,V,al];refine Aa (L.as (az _ _ L.w L.r) an) ?_;rintro _ au a3 ⟨rfl,a4,a5,_⟩;have x:=ai.1.Ak a3 a5;have i:=aj.1.Ak a3 a5;have ao:=aZ.Ak fun ak r=>r.Ak a3 a5;have a1:=x.2.trans b0;have y:=i.2.trans b1;obtain⟨v,b4⟩:=a4.put i.1 am (.cells [S (a.Ao Gb).P.name.1,I (a.P.line src),c,I 0,I s]);have a2:=a4.putAt i.1 x.1 (.cells [S (a.Ao Gb).P.name.1,I (a.P.line src),c,I 0,I s]);obtain⟨a6,ap⟩:=v.put a2 (by omega) (.cells [S (a.Ao Gb).P.name.1,I (a.P.line src),c,I 0,I s]);simp only[go_sem,V,y,u,a1,b2.2.1];refine⟨⟨c,J,?_⟩,a6⟩;rcases ao with m|⟨n,o,e,p,q⟩
  ·exact .inl m
  have aq:=OJ y e;have ar:=OJ a1 e;exact .inr ⟨n,o,(Ab _ (Ag ar)).trans ((Ab _ (Ag aq)).trans e),v.putAt a2 (a4.putAt i.1 p _) _,q⟩
 |false=>
  simp only[b3,Acf]at g;obtain⟨⟨s,bD⟩,an,g⟩:=v_.1 g;cases g;simp only[go_sem,V,al];refine Aa L.typed ?_;rintro _ au a3 ⟨rfl,a4,a5,_⟩;have b5:=aY.1.Ak a3 a5;have x:=ai.1.Ak a3 a5;have i:=aj.1.Ak a3 a5;have ao:=aZ.Ak fun ak r=>r.Ak a3 a5;have b6:=b5.2.trans al;have a1:=x.2.trans b0;have y:=i.2.trans b1;obtain⟨av,b4⟩:=a4.put i.1 am (.cells [S (a.Ao Gb).P.name.1,I (a.P.line src),c,I (AS h).1,I 0]);have bK:=a4.putAt i.1 b5.1 (.cells [S (a.Ao Gb).P.name.1,I (a.P.line src),c,I (AS h).1,I 0]);have a2:=a4.putAt i.1 x.1 (.cells [S (a.Ao Gb).P.name.1,I (a.P.line src),c,I (AS h).1,I 0]);have bL:(au.put d.n (.cells [S (a.Ao Gb).P.name.1,I (a.P.line src),c,I (AS h).1,I 0])).get f.n=Y (.cells [At b]):=(Ab _ k).trans b6;have bE:(au.put d.n (.cells [S (a.Ao Gb).P.name.1,I (a.P.line src),c,I (AS h).1,I 0])).get (f.n+1)=Y (.cells [S [],I 0,.slice W 0 0,I 0,I 0]):=(Ab _ u).trans a1;have bF:PF f (au.put d.n (.cells [S (a.Ao Gb).P.name.1,I (a.P.line src),c,I (AS h).1,I 0])) b c aS:=by
   rcases ao with m|⟨n,o,e,p,q⟩
   ·exact .inl m
   exact .inr ⟨n,o,(Ab _ (Ag (OJ y e))).trans e,a4.putAt i.1 p _,q⟩
  simp only[go_sem,V,y,k,b6];refine Aa (av.as (az _ _ av.w av.r) an) ?_;rintro _ bM aw ⟨rfl,v,ax,_⟩;have ap:=a2.Ak aw ax;have a6:=b4.Ak aw ax;have bG:=bF.Ak fun ak r=>r.Ak aw ax;have b7:=ap.2.trans bE;have b8:=a6.2.trans (Ai _ _);obtain⟨b9,bN⟩:=v.put a6.1 am (.cells [S (a.Ao Gb).P.name.1,I (a.P.line src),c,I (AS h).1,I s]);have ba:=v.putAt a6.1 ap.1 (.cells [S (a.Ao Gb).P.name.1,I (a.P.line src),c,I (AS h).1,I s]);obtain⟨bH,bO⟩:=b9.put ba (by omega) (.cells [S (a.Ao Gb).P.name.1,I (a.P.line src),c,I (AS h).1,I s]);simp only[go_sem,V,b8,u,b7,b2.2.1];refine⟨⟨c,J,?_⟩,bH⟩;rcases bG with m|⟨n,o,e,p,q⟩
  ·exact .inl m
  have aq:=OJ b8 e;have ar:=OJ b7 e;exact .inr ⟨n,o,(Ab _ (Ag ar)).trans ((Ab _ (Ag aq)).trans e),b9.putAt ba (v.putAt a6.1 p _) _,q⟩
end
structure MU where
 name:H
 line:Int
 pa:Option X_
 pn:Nat
 pk:Nat
 ret:Int
 body:Int
def MU.cells(a:MU):E:=[S a.name,I a.line,.slice a.pa a.pn a.pk,I a.ret,I a.body]
def Bu:List MU→E
 |[]=>[]
 |f::a=>S f.name::I f.line::.slice f.pa f.pn f.pk::I f.ret::I f.body::Bu a
theorem Ng:∀(a b:List MU),Bu (a++b)=Bu a++Bu b
 |[],_=>rfl
 |c::a,b=>by simp[Bu,Ng a b]
theorem HB:∀a:List MU,(Bu a).length=a.length*5
 |[]=>rfl
 |b::a=>by simp[Bu,HB a];omega
theorem K3:∀(b:List MU) (a:Nat) (c:MU),b[a]? =Y c→sub? (Bu b) (a*5) 5=Y c.cells
 |[],_,_,d=>by cases d
 |x::b,0,c,d=>by
  cases d;rw[K_,BK,Bn (by rw[HB,Z];omega)];rfl
 |x::b,a+1,c,d=>by
  have e:=K3 b a c (by simpa using d);rw[show(a+1)*5=a*5+1+1+1+1+1 by omega];exact e
def Kz(a:MU):Bool:=decide ((3:Int)<a.pn)
theorem Am7(b:MU)(a:AH):AR 37 [.agg b.cells.toArray] a (fun c d=>c=.bool (Kz b)∧Ext a d):=by refine eF Tryz.func37 ?_;simp only[go_sem,V,MU.cells,Kz];exact Ext.new a _
def Th:List MU→Nat→Int
 |[],_=> -1
 |f::b,a=>bif Kz f then a else Th b (a+1)
theorem Z5:∀(a:List MU) (b:Nat),decide (0≤Th a b)=a.any Kz
 |[],_=>rfl
 |f::a,b=>by
  unfold Th;rw[ah_];cases c:Kz f with
  |true=>simp
  |false=>simpa using Z5 a (b+1)
theorem Adf(c:List MU)(u:Wh f)(h:c=[]∨(o=Y ⟨a,0,W⟩∧b=5∧f.get a=Y (.cells (Bu c))))(K:c.length<2^60):
  AR 77 [.slice o c.length b,.func (.func 37) #[] #[]] f (fun d e=>d=I (Th c 0)∧Ext f e):=by
 refine eF Tryz.func77 ?_;simp only[go_sem];refine AG (fun(d:Nat) g k=>Ext f k∧f.n≤k.n∧g.at 0=.slice o c.length b∧g.at 1=.func (.func 37) #[] #[]∧g.at 7=I c.length∧g.at 8=I d∧d≤c.length∧Th c 0=Th (c.drop d) d) (fun d=>c.length-d) ?_ 0 ?_
 ·rintro d g k ⟨l,p,q,r,m,n,L,i⟩ v
  cases j:decide ((d:Int)<c.length)with
  |false=>
   have e:d=c.length:=by have:=Adh j;omega
   subst e;simp only[go_sem,m,n,j];rw[i];exact⟨by simp[Th],l⟩
  |true=>
   have e:d<c.length:=by have:=Acw j;omega
   rcases h with rfl|⟨rfl,rfl,h⟩
   ·simp at e
   have w:=K3 c d c[d] (g_ e);have x:c.drop d=c[d]::c.drop (d+1):=j_ e;rw[x]at i;have y:=(l a (u _ _ h)).trans h;simp only[go_sem,V,q,r,m,n,j,e,y,w];refine Aa (Am7 c[d] _) ?_;rintro _ N z ⟨rfl,A⟩;have s:=l.trans p A;cases t:Kz c[d]with
   |true=>
    simp only[go_sem,V];rw[i];exact⟨by simp[Th,t],s⟩
   |false=>
    have F:f_ .i64 ((d:Int)+1)=((d+1:Nat):Int):=by rw[Ap]<;>omega
    simp only[go_sem,V,n,F];refine v (d+1) _ _ ⟨s,i_ p z,?_,?_,?_,?_,e,?_⟩ (by omega)
    ·simp only[go_sem,q]
    ·simp only[go_sem,V,r]
    ·simp only[go_sem,V,m]
    ·simp only[go_sem]
    rw[i];simp[Th,t]
 exact⟨Ext.refl f,b_ _,by simp only[go_sem],by simp only[go_sem,V],by simp only[go_sem,V],by simp only[go_sem];rfl,m_ _,by simp⟩
theorem TB(c:List MU){h:AH}{b:Nat}{a:Option X_}{k:Nat}(d:Wh h)(e:c=[]∨(a=Y ⟨b,0,W⟩∧k=5∧h.get b=Y (.cells (Bu c))))(f:c.length<2^60):
  AR 36 [.slice a c.length k,.func (.func 37) #[] #[]] h (fun g i=>g=.bool (c.any Kz)∧Ext h i):=by
 refine eF Tryz.func36 ?_;simp only[go_sem,V];refine Aa (Adf c d e f) ?_;rintro _ i j ⟨rfl,g⟩;simp only[go_sem,Z5];exact g
def Pz(d:Fq)(src:H):Nat→PN→List Fn→Option (List Fn×PN)
 |0,_,_=>W
 |f+1,a,c=>bif (a.P.e==0)&& !(a.P.kind 0)then Nl (decide (c.length<900000)) ((FH d src a).bind fun e=>Pz d src f e.2 (c++[e.1]))else Y (c,a)
def EA(src:H):Fq:=IZ (QY (BH src 40) src 40) src
inductive Aew where
 |err (pos e:Int)
 |tree (N:List Nd) (F:List Fn)
def TR(c:List Nd)(a:List Fn):Bool:=(a.any fun d=>decide (3<d.params.length))||decide (300<c.length)||decide (6<a.length)
def GO(src:H):Option Aew:=
 bif (Dc src).2.2 !=0 then Y (.err (Dc src).2.1 (Dc src).2.2)
 else Nl (!(Dc src).1.isEmpty) ((Pz (EA src) src 1000 ⟨⟨(Dc src).1,0,0,0⟩,[]⟩ []).bind fun a=>
  bif a.2.P.e !=0 then Y (.err a.2.P.pos a.2.P.e)else bif TR a.2.N a.1 then Y (.err 0 4)else Y (.tree a.2.N a.1))
section
variable{b:Nat}{src:H}
def Akz(d e:AH)(b:Nat)(a:MU)(c:Fn):Prop:=a.name=c.name∧a.line=c.line∧a.ret=c.ret∧a.body=c.body∧a.pn=c.params.length∧PF d e b (.slice a.pa a.pn a.pk) c.params
def DQ(a c:AH)(b:Nat):List MU→List Fn→Prop
 |[],[]=>True
 |v::d,e::f=>Akz a c b v e∧DQ a c b d f
 |_,_=>False
theorem DQ.Ak{d h a:AH}:∀{e:List MU} {f:List Fn},DQ d h b e f→(∀c,Bj h b c→(∃k,h.get c=Y (.cells (Bi k)))→Bj a b c∧a.get c=h.get c)→DQ d a b e f
 |[],[],_,_=>trivial
 |_::_,_::_,⟨⟨a,l,m,n,o,p⟩,q⟩,g=>⟨⟨a,l,m,n,o,by
   rcases p with r|⟨i,s,j,t,u⟩
   ·exact .inl r
   obtain⟨v,w⟩:=g i t ⟨_,j⟩;exact .inr ⟨i,s,w.trans j,v,u⟩⟩,q.Ak g⟩
 |[],_::_,h,_=>h.elim
 |_::_,[],h,_=>h.elim
theorem DQ.app{a h:AH}{v:MU}{c:Fn}(d:Akz a h b v c):∀{e:List MU} {f:List Fn},DQ a h b e f→DQ a h b (e++[v]) (f++[c])
 |[],[],_=>⟨d,trivial⟩
 |_::_,_::_,⟨g,i⟩=>⟨g,i.app d⟩
 |[],_::_,h=>h.elim
 |_::_,[],h=>h.elim
theorem DQ.len:∀{a:List MU} {c:List Fn},DQ f g b a c→a.length=c.length
 |[],[],_=>rfl
 |_::_,_::_,⟨_,d⟩=>by simp[d.len]
 |[],_::_,g=>g.elim
 |_::_,[],g=>g.elim
def FF(e d:AH)(b:Nat)(f:e_)(g:List Fn):Prop:=(g=[]∧f=.slice W 0 0)∨(∃a c,f=.slice (Y ⟨a,0,W⟩) c.length 5∧d.get a=Y (.cells (Bu c))∧Bj d b a∧e.n≤a∧c≠[]∧DQ e d b c g)
theorem FF.Ak{g h c:AH}{i:List Fn}(d:FF g h b v i)(e:∀a,Bj h b a→Bj c b a∧c.get a=h.get a):FF g c b v i:=by
 rcases d with d|⟨f,k,l,m,j,n,o,p⟩
 ·exact .inl d
 exact .inr ⟨f,k,l,(e f j).2.trans m,(e f j).1,n,o,p.Ak fun a q _=>e a q⟩
theorem FF.one{c:List Fn}(d:FF f g b v c):Aq v=[v]∧v.oneCell'=true∧∀a,IA a v v=true:=by rcases d with⟨_,rfl⟩|⟨e,h,rfl,_⟩<;>exact⟨J,J,fun a=>HW a _ _ _⟩
end
def Qv:e_:=.slice W 0 0
def T8(c a:AH)(d e:e_)(f:List Nd)(g:List Fn):Prop:=∃h b,YU a b d∧DI a b f∧FF c a h e g
def AAt(d e:AH)(a:e_):Aew→Prop
 |.err b c=>a=.tuple #[.agg #[.slice W 0 0,.slice W 0 0],I b,I c]
 |.tree f g=>∃b c,a=.tuple #[.agg #[b,c],I 0,I 0]∧T8 d e b c f g
theorem NK{c:List Pm}:Bi c≠[.slice o a b,v]:=by
 cases c with
 |nil=>exact fun d=>by cases d
 |cons e c=>exact fun d=>by cases d
theorem Ag1{a:List Pm}{c:List MU}(d:c≠[]):Bi a≠Bu c:=by
 cases c with
 |nil=>exact absurd J d
 |cons e c=>
  cases a with
  |nil=>exact fun b=>by cases b
  |cons f a=>
   cases a with
   |nil=>exact fun b=>by simp[Bi,Bu]at b
   |cons g a=>exact fun b=>by simp[Bi,Bu]at b
theorem Tn{a:List MU}:Bu a≠[v,w]:=by intro b;have:=Akv A_ b;rw[HB]at this;simp at this;omega
theorem AP.nodes{b:PN}(h:AP f g a s b):∃i c d,g.get a=Y (.cells [S s,i,I b.P.deep,I b.P.e,I b.P.pos,c])∧YU g d c∧DI g d b.N:=by obtain⟨d,j,k,_⟩:=h.r.DZ;obtain⟨l,m,all,c,e⟩:=j.op;exact⟨_,c,d,e.hb,e.KE,k⟩
theorem YU.one{b:List GH}(c:YU f b v):Aq v=[v]∧v.oneCell'=true∧∀a,IA a v v=true:=by rcases c with⟨_,rfl⟩|⟨d,_,rfl⟩<;>exact⟨J,J,fun a=>HW a _ _ _⟩
theorem DQ.many:∀{b:List MU} {c:List Fn},DQ f g a b c→b.any Kz=c.any fun d=>decide (3<d.params.length)
 |[],[],_=>rfl
 |v::b,d::c,⟨⟨_,_,_,_,h,_⟩,e⟩=>by
  rw[ah_,ah_,e.many];congr 1;unfold Kz;exact decide_eq_decide.2 (by omega)
 |[],_::_,g=>g.elim
 |_::_,[],g=>g.elim
theorem YU.slice{a:List GH}(b:YU f a v):∃c d,v=.slice c a.length d:=by rcases b with⟨rfl,rfl⟩|⟨e,_,rfl⟩<;>exact⟨_,_,J⟩
theorem St.nodes{b:PN}(g:St f a s b):∃h c d,f.get a=Y (.cells [S s,h,I b.P.deep,I b.P.e,I b.P.pos,c])∧YU f d c∧DI f d b.N:=by obtain⟨d,i,j,_⟩:=g.DZ;obtain⟨k,l,all,c,e⟩:=i.op;exact⟨_,c,d,e.hb,e.KE,j⟩
theorem DQ.lower(b:g.n≤f.n):∀{c:List MU} {d:List Fn},DQ f h a c d→DQ g h a c d
 |[],[],_=>trivial
 |_::_,_::_,⟨⟨e,i,j,k,l,m⟩,n⟩=>⟨⟨e,i,j,k,l,by
   rcases m with o|⟨p,q,r,s,t⟩
   ·exact .inl o
   exact .inr ⟨p,q,r,s,i_ b t⟩⟩,n.lower b⟩
 |[],_::_,h=>h.elim
 |_::_,[],h=>h.elim
theorem M5(am:s.length<2^40)(aP:Wh f)(F:G7 f){aQ:Aew}(m:GO s=Y aQ):AR 11 [S s] f (fun aR aS=>AAt f aS aR aQ∧Ext f aS):=by
 refine eF Tryz.func11 ?_;simp only[go_sem,V];have aT:=aP.new (.cells [Qv,Qv]);refine Aa (Ok.wf aT (Ac0 am aT (F.new aP _))) ?_;rintro _ c be ⟨aU,aV,bf,bg,rfl⟩;have bR:f.n+1≤c.n:=be;have a9:c.get f.n=Y (.cells [Qv,Qv]):=(aV f.n (n_ _)).trans (Ae _);have aW:Ext f c:=(Ext.new f _).trans (k_ _) aV;unfold GO at m;cases n:((Dc s).2.2 !=0)with
 |true=>
  simp only[n,Aa9]at m;cases m;unfold Qv at a9;simp only[go_sem,V,n,a9];exact⟨J,fun e i=>by simp only[go_sem,i,aW e i]⟩
 |false=>
  simp only[n,Acf]at m;obtain⟨aX,m⟩:=AV (show cond _ _ W=_ from m);obtain⟨⟨a3,ae⟩,bh,m⟩:=v_.1 m;dsimp only at m;have aY:(Dc s).1≠[]:=by intro ay;rw[ay]at aX;cases aX
  rcases bg with⟨ay,_⟩|⟨q,bi,aZ,bj⟩
  ·exact absurd ay aY
  subst bj;have bS:f.n+1≤q:=bi;have bk:q<c.n:=aU _ _ aZ;have bl:=aU.new (.cells [S s,.slice (Y ⟨q,0,W⟩) (Dc s).1.length 3,I 0,I 0,I 0,.slice W 0 0]);have b0:(q==c.n)=false:=AE bk;have bm:St (c.new (.cells [S s,.slice (Y ⟨q,0,W⟩) (Dc s).1.length 3,I 0,I 0,I 0,.slice W 0 0])) c.n s ⟨⟨(Dc s).1,0,0,0⟩,[]⟩:=by refine⟨aY,[],⟨q,0,BW (Dc s).1,.slice W 0 0,Ae _,?_,by simp,AF b0,(fun f=>by cases f),(fun f=>by cases f),.inl ⟨J,J⟩⟩,trivial,fun aR az=>by cases az⟩;rw[An _ b0];exact aZ
  have bn:∀e,e≤f.n→¬Uj (c.new (.cells [S s,.slice (Y ⟨q,0,W⟩) (Dc s).1.length 3,I 0,I 0,I 0,.slice W 0 0])) c.n e:=by
   intro e i g;rcases g with g|g|g|⟨j,l,g,_⟩
   ·omega
   ·rw[Ae]at g
    have:Y q=Y e:=g;cases this;omega
   ·rw[Ae]at g;cases g
   rw[Ae]at g;cases g
  have b1:=AP.start bl bm;have b2:=b1.new (.cells [Qv,Qv]);have b3:=b1.fresh (.cells [Qv,Qv]);unfold Qv at a9 b2 b3;have a1:∀{F:AH} {af:PN},AP (c.new (.cells [S s,.slice (Y ⟨q,0,W⟩) (Dc s).1.length 3,I 0,I 0,I 0,.slice W 0 0])) F c.n s af→∀e,e≤f.n→Bj F c.n e∧F.get e=c.get e:=fun{F af} o e i=>by
   have aA:Bj (c.new (.cells [S s,.slice (Y ⟨q,0,W⟩) (Dc s).1.length 3,I 0,I 0,I 0,.slice W 0 0])) c.n e:=⟨by show e<c.n+1;omega,bn e i⟩;have ag:=aA.Ak o.n o.k;exact⟨ag.1,ag.2.trans (An _ (AE (by omega)))⟩
  have aB:∀{F:AH} {af:PN},AP (c.new (.cells [S s,.slice (Y ⟨q,0,W⟩) (Dc s).1.length 3,I 0,I 0,I 0,.slice W 0 0])) F c.n s af→Ext f F:=fun{F af} o e i=>(a1 o e (by omega)).2.trans (aW e i);simp only[go_sem,V,n];refine AG (fun(o:Nat×PN×List Fn) an aa=>AP (c.new (.cells [S s,.slice (Y ⟨q,0,W⟩) (Dc s).1.length 3,I 0,I 0,I 0,.slice W 0 0])) aa c.n s o.2.1∧Bj aa c.n (c.n+1)∧(∃a2,aa.get (c.n+1)=Y (.cells [.slice W 0 0,a2])∧FF (c.new (.cells [S s,.slice (Y ⟨q,0,W⟩) (Dc s).1.length 3,I 0,I 0,I 0,.slice W 0 0])) aa c.n a2 o.2.2)∧
   an.at 2=AA f.n∧an.at 8=At c.n∧an.at 9=AA (c.n+1)∧Pz (EA s) s o.1 o.2.1 o.2.2=Y (a3,ae)∧o.2.2.length≤900000) (fun o=>o.1) ?_ (1000,⟨⟨(Dc s).1,0,0,0⟩,[]⟩,[]) ?_
  ·rintro⟨w,b4,ah⟩ an aa ⟨P,bo,⟨a2,bp,b5⟩,a4,a5,a0,r,bq⟩ aC
   dsimp only at P b5 r bq aC;cases w with
   |zero=>cases r
   |succ w=>
   simp only[Pz]at r;obtain⟨bf,bT,ao,_⟩:=P.G4;cases a6:(b4.P.e==0)with
   |false=>
    simp only[a6,U_,Acf]at r;cases r;simp only[go_sem,V,a5,ao,a6];have ai:(ae.P.e !=0)=true:=by simp only[bne,a6];rfl
    simp only[ai,Aa9]at m;cases m;have j:=(a1 P f.n (b_ _)).2.trans a9;have br:f.n<aa.n:=(a1 P f.n (b_ _)).1.1;have b6:=aB P;simp only[go_sem,ai];refine AM P.w 0x10031500001500000 ?_;simp only[go_sem,V,a4,a5,ao,j];have p:(c.n==f.n)=false:=Ag;simp only[go_sem,p,ao];refine⟨J,fun e i=>?_⟩;have aD:(e==f.n)=false:=AE i;exact(Ab _ aD).trans (b6 e i)
   |true=>
    simp only[go_sem,V,a5,ao,a6];refine Aa (P.kind 0) ?_;rintro _ a7 b7 ⟨rfl,x,b8⟩;have ab:=P.at bo b7 b8;have K:=ab.2.trans bp;have ap:=b5.Ak fun e i=>P.at i b7 b8;cases b9:b4.P.kind 0 with
    |true=>
     simp only[a6,b9,Y_,av_,Acf]at r;cases r;have ai:(ae.P.e !=0)=false:=by simp only[bne,a6];rfl
     simp only[ai,Acf]at m;obtain⟨bU,bV,p,ba,bb,bs⟩:=x.nodes;have bt:=bb.one;obtain⟨u,v,bu⟩:=bb.slice;subst bu;have bW:c.n+1<a7.n:=ab.1.1;have bv:(c.n==c.n+1)=false:=Ag;obtain⟨y,bw⟩:=x.put ab.1 (by show c.n+1≤c.n+1;omega) (.cells [.slice u p.length v,a2]);have bx:∃l o ag bc,a2=.slice o l.length ag∧(l=[]∨(o=Y ⟨bc,0,W⟩∧ag=5∧(a7.put (c.n+1) (.cells [.slice u p.length v,a2])).get bc=Y (.cells (Bu l))))∧l.any Kz=(a3.any fun w=>decide (3<w.params.length))∧l.length=a3.length∧
       FF (c.new (.cells [S s,.slice (Y ⟨q,0,W⟩) (Dc s).1.length 3,I 0,I 0,I 0,.slice W 0 0])) (a7.put (c.n+1) (.cells [.slice u p.length v,a2])) c.n a2 a3:=by
      rcases ap with⟨rfl,rfl⟩|⟨z,l,rfl,ac,aq,aE,aF,ad⟩
      ·exact⟨[],W,0,0,J,.inl J,J,J,.inl ⟨J,J⟩⟩
      have ar:z≠c.n+1:=fun n=>by
       rw[←n,ac]at K;injection K with K
       injection K with K
       exact Tn K
      have t:=(Ab (h:=a7) (.cells [.slice u p.length v,.slice (Y ⟨z,0,W⟩) l.length 5]) (Ag ar)).trans ac;refine⟨l,_,5,z,J,.inr ⟨J,J,t⟩,ad.many,ad.len,.inr ⟨z,l,J,t,x.putAt ab.1 aq _,aE,aF,ad.Ak fun e i ⟨ah,j⟩=>?_⟩⟩;have aj:e≠c.n+1:=fun n=>by
       rw[n,K]at j;injection j with j
       injection j with j
       exact NK j.symm
      exact⟨x.putAt ab.1 i _,Ab _ (Ag aj)⟩
     obtain⟨l,aG,aH,z,bz,bA,al,aI,aJ⟩:=bx;subst bz;have bX:=ap.one;have bY:=(a1 x f.n (b_ _)).2.trans a9;have br:f.n<a7.n:=(a1 x f.n (b_ _)).1.1;have b6:=aB x;simp only[go_sem,V,a5,a0,ba,ai,K,bt];have bB:=TB l (h:=a7.put (c.n+1) (.cells [.slice u p.length v,.slice aG l.length aH])) (b:=z) (a:=aG) (k:=aH) y.w bA (by omega);refine Aa (Ok.wf y.w bB) ?_;rintro _ bC aK ⟨bD,rfl,au⟩;have L:=y.ext aK bD au;obtain⟨bZ,ak⟩:=y.at bw aK au;have ak:=ak.trans (Ai _ _);have bE:=aJ.Ak fun e i=>y.at i aK au;have c0:=bs.len;have aL:decide ((300:Int)<(p.length:Nat))=decide (300<ae.N.length):=decide_eq_decide.2 (by omega);have bd:decide ((6:Int)<(l.length:Nat))=decide (6<a3.length):=decide_eq_decide.2 (by omega);unfold TR at m;have N:=(a1 L f.n (b_ _)).2.trans a9;have c4:f.n<bC.n:=(a1 L f.n (b_ _)).1.1;have av:=aB L;cases c1:(a3.any fun w=>decide (3<w.params.length))with
     |true=>
      simp only[c1,Bool.true_or,Aa9]at m;cases m;simp only[go_sem,V,a4,al,c1,N];exact⟨J,fun e i=>(Ab _ (AE i)).trans (av e i)⟩
     |false=>
     cases c2:decide (300<ae.N.length)with
     |true=>
      simp only[c1,c2,Bool.true_or,ai_,Aa9]at m;cases m;simp only[go_sem,V,a4,a0,ak,al,c1,aL,c2,N];exact⟨J,fun e i=>(Ab _ (AE i)).trans (av e i)⟩
     |false=>
     cases c3:decide (6<a3.length)with
     |true=>
      simp only[c1,c2,c3,ai_,Aa9]at m;cases m;simp only[go_sem,V,a4,a0,ak,al,c1,aL,bd,c2,c3,N];exact⟨J,fun e i=>(Ab _ (AE i)).trans (av e i)⟩
     |false=>
      simp only[c1,c2,c3,ai_,Acf]at m;cases m;simp only[go_sem,V,a4,a0,ak,al,c1,aL,bd,c2,c3,N];refine⟨⟨_,_,J,?_⟩,fun e i=>(Ab _ (AE i)).trans (av e i)⟩;have bF:=(a1 L f.n (b_ _)).1;have aM:=L.r.IK bF.2 (.cells [.slice u p.length v,.slice aG l.length aH]);obtain⟨c5,bG,bH,t,bI,bJ⟩:=aM.1.nodes;have bK:(c.n==f.n)=false:=Ag;have bL:=(au c.n (y.r.lt y.w)).trans ((Ab _ bv).trans ba);have t:=t.symm.trans ((Ab _ bK).trans bL);injection t with t
      injection t with t
      have bM:bG=.slice u p.length v:=by simp only[List.cons.injEq]at t;exact t.2.2.2.2.2.1
      subst bM;refine⟨c.n,bH,bI,bJ,?_⟩;rcases bE with aN|⟨aw,bN,a8,A,ax,aO,bO,bP⟩
      ·exact .inl aN
      have bQ:aw≠f.n:=fun n=>by
       rw[n,N]at A;injection A with A
       injection A with A
       exact Tn A.symm
      refine .inr ⟨aw,bN,a8,(Ab _ (Ag bQ)).trans A,⟨ax.1,fun g=>ax.2 ((aM.2 aw).1 g)⟩,?_,bO,(bP.lower ?_).Ak fun e i ⟨ah,j⟩=>?_⟩
      ·have:c.n+1≤aw:=aO
       omega
      ·show f.n≤c.n+1
       omega
      have aD:e≠f.n:=fun n=>by
       rw[n,N]at j;injection j with j
       injection j with j
       exact NK j.symm
      exact⟨⟨i.1,fun g=>i.2 ((aM.2 e).1 g)⟩,Ab _ (Ag aD)⟩
    |false=>
     simp only[a6,b9,Y_,V_,Aa9]at r;obtain⟨aI,r⟩:=AV (show cond _ _ W=_ from r);have aI:=Acw aI;obtain⟨⟨g,aK⟩,aA,r⟩:=v_.1 r;dsimp only at r;simp only[go_sem,V];refine AM x.w 0x13031630150 ?_;have ba:=ap.one;simp only[go_sem,V,a5,a0,K,ba.2.2];refine Aj (VN (Auv (Aaj am 40) am 40) am x.w x.r aA) ?_;rintro _ t av ⟨⟨bb,rfl,aL⟩,ag⟩;have y:=x.to av ag.w ag.r ag.k;have ai:=ab.1.Ak av ag.k;have N:=ai.2.trans K;have aJ:=ap.Ak fun e i=>i.Ak av ag.k;have aM:c.n+1<t.n:=ai.1.1;have bc:c.n+1≤a7.n:=x.n;have az:∃u p v,bb=.slice u p v∧p=g.params.length:=by
      rcases aL with⟨a8,A⟩|⟨ak,a8,_⟩
      ·exact⟨_,_,_,A,by rw[a8];rfl⟩
      exact⟨_,_,_,a8,J⟩
     obtain⟨u,p,v,rfl,bd⟩:=az;have b6:Akz (c.new (.cells [S s,.slice (Y ⟨q,0,W⟩) (Dc s).1.length 3,I 0,I 0,I 0,.slice W 0 0])) t c.n ⟨g.name,g.line,u,p,v,g.ret,g.body⟩ g:=⟨J,J,J,J,bd,by
      rcases aL with aN|⟨ak,a8,A,ax,aO⟩
      ·exact .inl aN
      exact .inr ⟨ak,a8,A,ax,i_ bc aO⟩⟩
     have L:=y.new (.cells [S g.name,I g.line,.slice u p v,I g.ret,I g.body]);rcases aJ with⟨rfl,rfl⟩|⟨z,l,rfl,ac,aq,aE,aF,ad⟩
     ·have a8:=L.new (.cells [S g.name,I g.line,.slice u p v,I g.ret,I g.body])
      have A:=fun e i=>L.newAt (d:=e) (y.newAt i (.cells [S g.name,I g.line,.slice u p v,I g.ret,I g.body])) (.cells [S g.name,I g.line,.slice u p v,I g.ret,I g.body]);have aw:=L.fresh (.cells [S g.name,I g.line,.slice u p v,I g.ret,I g.body]);obtain⟨ax,aD⟩:=a8.put (A _ ai.1) (by show c.n+1≤c.n+1;omega) (.cells [.slice W 0 0,.slice (Y ⟨t.n+1,0,W⟩) 1 5]);have ak:=fun e i=>a8.putAt (A _ ai.1) (d:=e) i (.cells [.slice W 0 0,.slice (Y ⟨t.n+1,0,W⟩) 1 5]);simp only[go_sem,V,N,aM,a0];refine aC (w,aK,[g]) _ _ ⟨ax,aD,⟨_,Ai _ _,.inr ⟨t.n+1,[⟨g.name,g.line,u,p,v,g.ret,g.body⟩],J,?_,ak _ aw,by show c.n+1≤t.n+1;omega,by simp,DQ.Ak (h:=t) ⟨b6,trivial⟩ fun e i ⟨ah,j⟩=>?_⟩⟩,?_,?_,?_,r,by simp<;>omega⟩ (by show w<w+1;omega)
      ·have aG:(t.n+1==c.n+1)=false:=Ag
       simp only[go_sem,aG];rfl
      ·have aj:e≠c.n+1:=fun n=>by
        rw[n,N]at j;injection j with j
        injection j with j
        exact NK j.symm
       have al:=i.1;exact⟨ak e (A e i),(Ab _ (Ag aj)).trans ((An _ (AE (o_ al))).trans (An _ (AE al)))⟩
      all_goals simp only[go_sem,V,a4,a5,a0]
     have ar:(c.n+1==z)=false:=Ag fun n=>by
      rw[n,ac]at N;injection N with N
      injection N with N
      exact Tn N
     have bu:=ad.len;have aO:P_ (l.length+1) 1000000=true:=Eg;have br:z<t.n:=aq.1;obtain⟨aH,bs⟩:=L.del (y.newAt aq (.cells [S g.name,I g.line,.slice u p v,I g.ret,I g.body])) aE;have a8:=aH.new (.cells (Bu l++[S g.name,I g.line,.slice u p v,I g.ret,I g.body]));have A:=fun e (au:e≠z) (i:Bj t c.n e)=>aH.newAt (d:=e) (bs e au (y.newAt i (.cells [S g.name,I g.line,.slice u p v,I g.ret,I g.body]))) (.cells (Bu l++[S g.name,I g.line,.slice u p v,I g.ret,I g.body]));have aw:=aH.fresh (.cells (Bu l++[S g.name,I g.line,.slice u p v,I g.ret,I g.body]));have aN:=A _ (AF ar) ai.1;obtain⟨ax,aD⟩:=a8.put aN (by show c.n+1≤c.n+1;omega) (.cells [.slice W 0 0,.slice (Y ⟨t.n+1,0,W⟩) (l.length+1) 5]);have ak:=fun e i=>a8.putAt aN (d:=e) i (.cells [.slice W 0 0,.slice (Y ⟨t.n+1,0,W⟩) (l.length+1) 5]);have bt:sub? (Bu l) 0 (l.length*5)=Y (Bu l):=C2 (HB l);simp only[go_sem,V,N,aM,a0,ac,br,bt,aO,ar];refine aC (w,aK,ah++[g]) _ _ ⟨ax,aD,⟨_,Ai _ _,.inr ⟨t.n+1,l++[⟨g.name,g.line,u,p,v,g.ret,g.body⟩],?_,?_,ak _ aw,by show c.n+1≤t.n+1;omega,by simp,DQ.Ak (DQ.app b6 ad) fun e i ⟨ah,j⟩=>?_⟩⟩,?_,?_,?_,r,by simp<;>omega⟩ (by show w<w+1;omega)
     ·simp
     ·have aG:(t.n+1==c.n+1)=false:=Ag
      simp only[go_sem,aG,Ng];rfl
     ·have aj:e≠c.n+1:=fun n=>by
       rw[n,N]at j;injection j with j
       injection j with j
       exact NK j.symm
      have au:e≠z:=fun n=>by
       rw[n,ac]at j;injection j with j
       injection j with j
       exact Ag1 aF j.symm
      have al:=i.1;exact⟨ak e (A e au i),(Ab _ (Ag aj)).trans ((An _ (AE (o_ al))).trans ((CL (Ag au)).trans (An _ (AE al))))⟩
     all_goals simp only[go_sem,V,a4,a5,a0]
  refine⟨b2,b3,⟨_,Ae _,.inl ⟨J,J⟩⟩,?_,?_,?_,bh,m_ _⟩<;>simp only[go_sem,V]
structure Kd(σ:Type)where
 R:σ→List Nat→AH→Prop
 lt:∀{s g h},Wh h→R s g h→∀c∈g,c<h.n
 same:∀{s g h h1},R s g h→(∀d∈g,h1.get d=h.get d)→R s g h1
def Kp(h h1:AH)(g g1:List Nat):Prop:=∀a,a<h.n→a∉g→h1.get a=h.get a∧a∉g1
theorem Kp.refl(h:AH)(g:List Nat):Kp h h g g:=fun _ _ h=>⟨J,h⟩
theorem Kp.trans{h h1 e:AH}{g g1 f:List Nat}(c:Kp h h1 g g1)(i:h.n≤h1.n)(j:Kp h1 e g1 f):Kp h e g f:=fun a b d=>
 ⟨((j a (l_ b i) (c a b d).2).1).trans (c a b d).1,(j a (l_ b i) (c a b d).2).2⟩
theorem Kp.ext{h h1:AH}(g:List Nat)(a:Ext h h1):Kp h h1 g g:=fun b c d=>⟨a b c,d⟩
section
variable{σ:Type}{T:Kd σ}
structure Hr(T:Kd σ)(hs h0:AH)(g0:List Nat)(h:AH)(g:List Nat)(s:σ):Prop where
 w:Wh h
 r:T.R s g h
 k:Kp h0 h g0 g
 n:h0.n≤h.n
 o:∀c∈g,hs.n≤c
 x:Ext hs h
 m:hs.n≤h.n
variable{hs h0 h h1:AH}{g0 g g1:List Nat}{s s1:σ}
theorem Hr.start(a:Hr T hs h0 g0 h g s):Hr T hs h g h g s:=⟨a.w,a.r,Kp.refl h g,b_ _,a.o,a.x,a.m⟩
theorem Hr.own(a:Hr T hs h0 g0 h g s):∀b∈g,b<h.n:=T.lt a.w a.r
theorem Hr.ext(a:Hr T hs h0 g0 h g s)(c:h.n≤h1.n)(e:Wh h1)(b:Ext h h1):Hr T hs h0 g0 h1 g s:=
 ⟨e,T.same a.r fun d f=>b d (a.own d f),a.k.trans a.n (Kp.ext g b),i_ a.n c,a.o,a.x.trans a.m b,i_ a.m c⟩
theorem Hr.new(b:Hr T hs h0 g0 h g s)(a:AO):Hr T hs h0 g0 (h.new a) g s:=b.ext (k_ _) (b.w.new a) (Ext.new h a)
theorem Hr.go(b:Hr T hs h0 g0 h g s)(a:Hr T hs h g h1 g1 s1):Hr T hs h0 g0 h1 g1 s1:=
 ⟨a.w,a.r,b.k.trans b.n a.k,i_ b.n a.n,a.o,a.x,a.m⟩
theorem Hr.MZ(b:Hr T hs h0 g0 h g s)(j:Wh h1)(e:h.n≤h1.n)(k:T.R s1 g1 h1)(f:∀a∈g1,a∈g∨h.n≤a)(i:∀a,a<h.n→a∉g→h1.get a=h.get a):Hr T hs h0 g0 h1 g1 s1:=by
 have l:Kp h h1 g g1:=fun a d m=>⟨i a d m,fun h2=>by
  rcases f a h2 with c|c
  ·simp_all
  omega⟩
 have n:=b.m;refine⟨j,k,b.k.trans b.n l,i_ b.n e,fun a d=>?_,fun a d=>?_,i_ b.m e⟩
 ·rcases f a d with c|c
  ·exact b.o a c
  omega
 refine(i a (by omega) fun c=>?_).trans (b.x a d);have:=b.o a c;omega
def Gf(h:AH)(g:List Nat)(a:Nat):Prop:=a<h.n∧a∉g
theorem Gf.Ak(b:Gf h g a)(d:h.n≤h1.n)(c:Kp h h1 g g1):Gf h1 g1 a∧h1.get a=h.get a:=⟨⟨l_ b.1 d,(c a b.1 b.2).2⟩,(c a b.1 b.2).1⟩
theorem Hr.free(a:Hr T hs h0 g0 h g s){c:Nat}(e:h.n≤c)(b:c<h1.n):Gf h1 g c:=⟨b,fun d=>by have:=a.own c d;omega⟩
theorem Hr.put(a:Hr T hs h0 g0 h g s){c:Nat}(e:Gf h g c)(k:h0.n≤c)(l:hs.n≤c)(f:AO):Hr T hs h0 g0 (h.put c f) g s:=by refine⟨Ar a.w e.1 f,T.same a.r fun d b=>Ab _ (Ag fun j=>e.2 (j▸b)),fun d b i=>⟨(Ab _ Ag).trans (a.k d b i).1,(a.k d b i).2⟩,a.n,a.o,fun d b=>(Ab _ Ag).trans (a.x d b),a.m⟩
theorem Hr.del(a:Hr T hs h0 g0 h g s){c:Nat}(f:Gf h g c)(j:h0.n≤c)(k:hs.n≤c):Hr T hs h0 g0 (h.del c) g s:=by refine⟨Dm a.w c,T.same a.r fun d b=>CL (Ag fun i=>f.2 (i▸b)),fun d b e=>⟨(CL Ag).trans (a.k d b e).1,(a.k d b e).2⟩,a.n,a.o,fun d b=>(CL Ag).trans (a.x d b),a.m⟩
def Jn(T:Kd σ)(hs h0:AH)(g0:List Nat)(h:AH)(g:List Nat)(s1:σ)(a:e_)(b:e_)(h1:AH):Prop:=
 b=a∧∃g1,Hr T hs h0 g0 h1 g1 s1∧Kp h h1 g g1
theorem Hr.walk(a:Hr T hs h0 g0 h g s){b:ak_}(d:Hr T hs h g h g s→AR b l h (fun e h1=>e=v∧∃g1,Hr T hs h g h1 g1 s1)):AR b l h (Jn T hs h0 g0 h g s1 v):=
 (d a.start).mono fun _ _ _ ⟨f,g1,c⟩=>⟨f,g1,a.go c,c.k⟩
theorem Hr.calls(b:Hr T hs h0 g0 h g s){c:ak_}(e:AR c l h (fun a h1=>a=v∧Ext h h1)):AR c l h (fun a h1=>a=v∧Hr T hs h0 g0 h1 g s∧Ext h h1):=
 (Ok.wf b.w e).mono fun _ _ f ⟨i,j,d⟩=>⟨j,b.ext f i d,d⟩
end
structure Bw(h:AH)(wb:Nat)(ob:Option Nat)(nv fv:e_)(out:H):Prop where
 ex:∃ap bf,h.get wb=Y (.tc 60 [nv,fv,.pointer ap,bf])∧(ap=W∨ap=Y ⟨wb,2,W⟩)∧
  ((out=[]∧bf=.slice W 0 0∧ob=W)∨(∃k,ob=Y k∧bf=.slice (Y ⟨k,0,W⟩) out.length 1∧h.get k=Y (.tc 5 (AW out))∧k≠wb∧out≠[]))
structure CE(h h1:AH)(wb:Nat)(ob ob1:Option Nat):Prop where
 n:h.n≤h1.n
 D2:∀c,c<h.n→c≠wb→ob≠Y c→h1.get c=h.get c
 buf:ob1=ob∨∃k,ob1=Y k∧h.n≤k
theorem CE.refl(a:AH)(c:Nat)(b:Option Nat):CE a a c b b:=⟨b_ _,fun _ _ _ _=>rfl,.inl J⟩
theorem CE.trans{e h1 f:AH}{g h i:Option Nat}(c:CE e h1 a g h)(d:CE h1 f a h i):CE e f a g i:=by
 refine⟨i_ c.n d.n,fun j l m n=>?_,?_⟩
 ·refine(d.D2 j (l_ l c.n) m ?_).trans (c.D2 j l m n)
  rcases c.buf with b|⟨k,b,o⟩
  ·rw[b];exact n
  rw[b];intro p;injection p with p;omega
 rcases d.buf with b|⟨k,b,o⟩
 ·rw[b];exact c.buf
 exact .inr ⟨k,b,i_ c.n o⟩
theorem Ajp{c d e:e_}(g:f.get a=Y (.tc 60 [c,d,.pointer o,e]))(i:o=W∨o=Y ⟨a,2,W⟩):
  AR 59 [.pointer (Y ⟨a,2,W⟩)] f (fun j h=>j=.tuple #[]∧h.n=f.n∧h.get a=Y (.tc 60 [c,d,.pointer (Y ⟨a,2,W⟩),e])∧∀b,b≠a→h.get b=f.get b):=by
 rcases i with rfl|rfl
 ·exact Ok.known K59 (v:=.tuple #[]) (h1:=f.put a (.tc 60 [c,d,.pointer (Y ⟨a,2,W⟩),e])) (by simp only[K1];rw[g];rfl) (b_ _) ⟨J,J,Ai _ _,fun b h=>Ab _ (Ag h)⟩
 exact Ok.known K59 (v:=.tuple #[]) (h1:=f) (by
  simp only[K1];rw[g];show cond (decide ((⟨a,2,W⟩:X_)=⟨a,2,W⟩)) (Y (Value.tuple #[],f)) W=_;rw[Aeu rfl];rfl) (b_ _) ⟨J,rfl,g,fun b h=>rfl⟩
theorem ZC(a:H):By (AW a)=true:=by rw[Di];unfold AW;rw[List.all_map];exact aq_.2 fun _ _=>rfl
theorem ZR(a:H):(AW a).length=a.length*1:=by simp[AW]
theorem Apt(a b:H):AW (a++b)=AW a++AW b:=by simp[AW]
theorem Avv{u:Option Nat}(x:Wh f)(L:Bw f a u v w s)(c:H)(y:s.length+c.length≤1000000):
  AR 31 [.pointer (Y ⟨a,2,W⟩),S c] f (fun e b=>e=.tuple #[I c.length,.nilIface]∧∃d,Bw b a d v w (s++c)∧CE f b a u d):=by
 obtain⟨g,a2,z,N,A⟩:=L.ex;have a3:=x _ _ z;refine eF Tryz.func31 ?_;simp only[go_sem];refine Aa (Ok.wf x (Ajp z N)) ?_;rintro _ b l ⟨a4,rfl,a5,n,j⟩;have a6:a<b.n:=by omega
 cases c with
 |nil=>
  rw[B_];rcases A with⟨rfl,rfl,rfl⟩|⟨e,rfl,rfl,o,k,F⟩
  ·have g:Dz b 5 1 W 0 0 (AW []) ([]:H).length (S [])=Y (.slice W 0 0,b):=LY J _ _ _ _ _
   simp only[go_sem,V,n,g];refine⟨W,⟨_,_,Ai _ _,.inr J,.inl ⟨J,J,J⟩⟩,⟨l,fun i p d _=>(Ab _ (Ag d)).trans (j i d),.inl J⟩⟩
  have g:Dz b 5 1 (Y ⟨e,0,W⟩) s.length 1 (AW []) ([]:H).length (S [])=Y (.slice (Y ⟨e,0,W⟩) s.length 1,b):=LY (QV ((j e k).trans o)) _ _ _ _ _;simp only[go_sem,V,n,g];refine⟨Y e,⟨_,_,Ai _ _,.inr J,.inr ⟨e,J,J,(Ab _ (Ag k)).trans ((j e k).trans o),k,F⟩⟩,⟨l,fun i p d _=>(Ab _ (Ag d)).trans (j i d),.inl J⟩⟩
 |cons m c=>
  have K:0<(m::c).length:=by simp
  rcases A with⟨rfl,rfl,rfl⟩|⟨e,rfl,rfl,o,k,F⟩
  ·have g:=TY (h:=b) (esz:=1) (sz:=0) (new:=AW (m::c)) ⟨(m::c).toArray⟩ K (by simpa using y) (b_ _) (by omega) (ZC _) (ZR _)
   have q:(a==b.n)=false:=Ag;have r:(b.n==a)=false:=Ag;simp only[go_sem,V,n,g,q];refine⟨Y b.n,⟨_,_,Ai _ _,.inr J,.inr ⟨b.n,J,J,(Ab _ r).trans (Ae _),by omega,by simp⟩⟩,⟨an_ l,fun i p d _=>(Ab _ (Ag d)).trans ((An _ Ag).trans (j i d)),.inr ⟨_,J,l⟩⟩⟩
  have P:=(j e k).trans o;have g:=Wq (h:=b) (sz:=1) (len:=s.length) (new:=AW (m::c)) ⟨(m::c).toArray⟩ P (ZR _) K y (b_ _) (by omega) (ZC _) (ZR _);have q:(a==b.n)=false:=Ag;have r:(b.n==a)=false:=Ag;have a0:(a==e)=false:=Ag fun t=>k t.symm;simp only[go_sem,V,n,g,q,a0];refine⟨Y b.n,⟨_,_,Ai _ _,.inr J,.inr ⟨b.n,J,by simp,(Ab _ r).trans ?_,by omega,by simp⟩⟩,⟨an_ l,fun i p d a1=>(Ab _ (Ag d)).trans ((An _ (Ag (by show i≠b.n;omega))).trans ((CL (Ag fun t=>a1 (by rw[t]))).trans (j i d))),.inr ⟨_,J,l⟩⟩⟩;rw[Apt];exact Ae _
theorem RL(a:List H)(b:Nat)(c:b<a.length):(a.take (b+1)).flatten=(a.take b).flatten++a[b]:=by rw[ao_,g_ c,aj_];simp
theorem Ai1(a:List H)(b:Nat)(c:b<a.length):((a.take b).flatten++a[b]).length≤a.flatten.length:=by rw[←RL a b c];have d:=Akv (fun e=>(List.flatten e).length) (Q_ (b+1) a);simp only[aj_,a_]at d;omega
theorem Al9{h:Option Nat}{c:List H}(p:Wh f)(y:Bw f a h v w s)(q:f.get b=Y (.cells (c.map S)))(z:b≠a)(A:h≠Y b)
  (i:s.length+c.flatten.length≤1000000) (j:c.length<2^60):
  AR 41 [AA a,.slice (Y ⟨b,0,W⟩) c.length 1] f (fun g d=>g=.tuple #[]∧∃e,Bw d a e v w (s++c.flatten)∧CE f d a h e):=by
 have F:=p _ _ q;refine eF Tryz.func41 ?_;simp only[go_sem];refine AG (fun(e:Nat×Option Nat) i j=>Wh j∧Bw j a e.2 v w (s++(c.take e.1).flatten)∧CE f j a h e.2∧i.at 0=AA a∧i.at 6=.slice (Y ⟨b,0,W⟩) c.length 1∧i.at 7=I c.length∧i.at 8=I e.1∧e.1≤c.length) (fun e=>c.length-e.1) ?_ (0,h) ?_
 ·rintro⟨d,K⟩ i j ⟨r,k,l,t,u,o,m,L⟩ x
  dsimp only at k l m L x;cases n:decide ((d:Int)<c.length)with
  |false=>
   have g:d=c.length:=by have:=Adh n;omega
   subst g;simp only[go_sem,o,m,n];rw[ar_]at k;exact⟨K,k,l⟩
  |true=>
   have g:d<c.length:=by have:=Acw n;omega
   have N:=(l.D2 b F z A).trans q;have P:nth? (c.map S) d=Y (S c[d]):=by rw[Du,G_,g_ g];rfl
   have a0:=Ai1 c d g;rw[a_]at a0;simp only[go_sem,V,t,u,o,m,n,g,N,P];refine Aa (Ok.wf r (Avv r k c[d] (by rw[a_];omega))) ?_;rintro _ a6 a7 ⟨a1,rfl,a2,a3,a4⟩;have a5:f_ .i64 ((d:Int)+1)=((d+1:Nat):Int):=by rw[Ap]<;>omega
   simp only[go_sem,V,m,a5];refine x (d+1,a2) _ _ ⟨a1,?_,l.trans a4,?_,?_,?_,?_,g⟩ (by show c.length-(d+1)<c.length-d;omega)
   ·dsimp only
    rw[RL c d g,←ab_];exact a3
   ·simp only[go_sem,t]
   ·simp only[go_sem,V,u]
   ·simp only[go_sem,V,o]
   simp only[go_sem]
 refine⟨p,by simpa using y,CE.refl f a h,?_,?_,?_,?_,m_ _⟩<;>simp only[go_sem,V]
 rfl
theorem Bw.Ak{h b:AH}{d:Option Nat}(j:Bw h a d v w s)(e:Wh h)(f:Ext h b):Bw b a d v w s:=by
 obtain⟨k,l,b,m,c⟩:=j.ex;refine⟨k,l,(f a (e _ _ b)).trans b,m,?_⟩;rcases c with c|⟨g,n,o,i,p⟩
 ·exact .inl c
 exact .inr ⟨g,n,o,(f g (e _ _ i)).trans i,p⟩
theorem Bw.lt{e:Option Nat}(h:Bw f a e v w s)(g:Wh f):a<f.n∧∀c,e=Y c→c<f.n:=by
 obtain⟨l,m,i,n,d⟩:=h.ex;refine⟨g _ _ i,fun c b=>?_⟩;rcases d with⟨_,_,d⟩|⟨o,j,p,k,q⟩
 ·rw[d]at b;cases b
 rw[j]at b;cases b;exact g _ _ k
structure Wr(h0 h:AH)(wb:Nat)(ob:Option Nat)(nv fv:e_)(out:H):Prop where
 w:Wh h
 r:Bw h wb ob nv fv out
 x:Ext h0 h
 n:h0.n≤wb
 o:∀k,ob=Y k→h0.n≤k
 hn:h0.n≤h.n
theorem CE.ext{a h1:AH}(c:a.n≤h1.n)(d:Ext a h1)(e:Nat)(b:Option Nat):CE a h1 e b b:=⟨c,fun f g _ _=>d f g,.inl J⟩
theorem Wr.ext{d c h1:AH}{e:Option Nat}(b:Wr d c a e v w s)(g:c.n≤h1.n)(h:Wh h1)(f:Ext c h1):Wr d h1 a e v w s:=
 ⟨h,b.r.Ak b.w f,b.x.trans b.hn f,b.n,b.o,i_ b.hn g⟩
theorem Wr.new{c:Option Nat}(d:Wr f g a c v w s)(b:AO):Wr f (g.new b) a c v w s:=d.ext (k_ _) (d.w.new b) (Ext.new g b)
theorem Wr.to{k c:Option Nat}(b:Wr f g a k v w s)(m:Wh h)(n:Bw h a c v w t)(d:CE g h a k c):Wr f h a c v w t:=by
 have r:=b.n;refine⟨m,n,fun e l=>(d.D2 e (l_ l b.hn) (by omega) fun o=>?_).trans (b.x e l),b.n,fun p i=>?_,i_ b.hn d.n⟩
 ·have:=b.o e o;omega
 rcases d.buf with j|⟨u,j,q⟩
 ·exact b.o p (by rw[←j];exact i)
 rw[j]at i;cases i;exact i_ b.hn q
def G6(d:AH)(a:Nat)(e f:e_)(g:Option Nat)(h:AH)(i:H)(j:e_)(b:AH):Prop:=j=.tuple #[]∧∃c,Wr d b a c e f i∧CE h b a g c
theorem Wr.put{c:Option Nat}(d:Wr f g a c v w s){parts:List H}(i:h=g.new (.cells (parts.map S)))(j:s.length+parts.flatten.length≤1000000)(k:parts.length<2^60):
  AR 41 [AA a,.slice (Y ⟨g.n,0,W⟩) parts.length 1] h (G6 f a v w c g (s++parts.flatten)):=by
 subst i;have b:=d.new (.cells (parts.map S));have l:=d.r.lt d.w;refine(Ok.wf b.w (Al9 b.w b.r (Ae _) (by omega) (fun m=>by have:=l.2 _ m;omega) j k)).mono ?_;rintro r t u ⟨n,o,p,q,e⟩;exact⟨o,p,b.to n q e,(CE.ext (k_ _) (Ext.new g _) a c).trans e⟩
def B9(i:ak_)(d:AH)(a:Nat)(e f:e_)(j:Int)(g:H):Prop:=
 ∀{b:AH} {h:Option Nat} {c:H},Wr d b a h e f c→c.length+g.length≤1000000→AR i [AA a,I j] b (G6 d a e f h b (c++g))
theorem CH(e:B9 247 f a v w x s){d:Option Nat}(h:Wr f g a d v w t)(b c:H)(p:t.length+(b.length+s.length+c.length)≤1000000):
  AR 162 [AA a,S b,I x,S c] g (G6 f a v w d g (t++(b++s++c))):=by
 refine eF Tryz.func162 ?_;simp only[go_sem,V];refine Aa (h.put (parts:=[b]) J (by simp;omega) (by show 1<2^60;decide)) ?_;rintro _ q r ⟨rfl,u,i,j⟩;simp only[go_sem,V];refine Aa (e i (by simp;omega)) ?_;rintro _ y z ⟨rfl,A,k,l⟩;simp only[go_sem,V];refine Aa (k.put (parts:=[c]) J (by simp;omega) (by show 1<2^60;decide)) ?_;rintro _ F K ⟨rfl,m,n,o⟩;simp only[go_sem];refine⟨J,m,?_,(j.trans l).trans o⟩;simpa using n
def QR:Int→Option H
 |0=>Y []
 |1=>Y [105,110,116]
 |2=>Y [98,111,111,108]
 |3=>Y [116,101,120,116]
 |4=>Y [108,105,115,116]
 |_=>W
theorem Uo(a:QR x=Y s)(b:AH):AR 44 [I x] b (fun c d=>c=S s∧Ext b d):=by
 have e:(x=0∧s=[])∨(x=1∧s=[105,110,116])∨(x=2∧s=[98,111,111,108])∨(x=3∧s=[116,101,120,116])∨(x=4∧s=[108,105,115,116]):=by unfold QR at a;split at a<;>cases a<;>simp
 refine eF Tryz.func44 ?_;have f:CW (I 3)=Y 3:=nr J;have g:CW (I 4)=Y 4:=nr J;rcases e with⟨rfl,rfl⟩|⟨rfl,rfl⟩|⟨rfl,rfl⟩|⟨rfl,rfl⟩|⟨rfl,rfl⟩<;>simp only[go_sem,h_,f,g]
 all_goals exact Ext.new b _
def Adb(b:AH)(a:Option (TypeDesc×S_))(e c f:e_):Option Nx:=
 opt a fun a=>opt (ZN e) fun d=>opt (mapA b (.map (Y d))) fun g=>Av (CJ a.1 c) (opt (Bg c f g) fun h=>Y (.val undef (b.put d (.map h)))) W
theorem Ce{a:Pr}(b:S_)(c d g:W_):Cs a u (.insert b c d g) e f=Adb f (Hw a b) (AZ e c) (AZ e d) (AZ e g):=nr J
def Axg(a:AH)(b:Nat)(c:H)(d:e_):Option AO→Option Nx
 |some (.map e)=>opt (Bg (S c) d e) fun f=>Y (.val undef (a.put b (.map f)))
 |_=>W
theorem Po(g:S_)(a:Nat)(b:H)(c:e_):Adb f (Y (.string,g)) (.map (Y a)) (S b) c=Axg f a b c (f.get a):=by
 unfold Adb;show opt (mapA f (.map (Y a))) (fun d=>opt (Bg (S b) c d) fun h=>Y (Nx.val undef (f.put a (.map h))))=_;have i:mapA f (.map (Y a))=(match f.get a with|some (.map d)=>Y d|_=>W):=J;rw[i];generalize f.get a=e;cases e with
 |none=>rfl
 |some e=>cases e<;>rfl
def At3(a:AH)(b:Nat):Option (List (e_×e_))→Option Nx
 |some c=>Y (.val undef (a.put b (.map c)))
 |none=>W
theorem Pq(d:Nat)(a:H)(b:e_)(c:List (e_×e_)):Axg f d a b (Y (.map c))=At3 f d (Bg (S a) b c):=by show opt (Bg (S a) b c) _=_;cases Bg (S a) b c<;>rfl
theorem BM(a:Nat)(b:List (e_×e_)):At3 f a (Y b)=Y (.val undef (f.put a (.map b))):=nr J
theorem ZO:Hw pr 438=Y (.string,3):=by kernel_rfl
def Aq1:List (e_×e_):=[(S [124,124],I 0)]
def Aq0:List (e_×e_):=[(S [124,124],I 0),(S [38,38],I 1)]
def Aqz:List (e_×e_):=[(S [124,124],I 0),(S [38,38],I 1),(S [60],I 2)]
def Aqy:List (e_×e_):=[(S [124,124],I 0),(S [38,38],I 1),(S [60],I 2),(S [60,61],I 2)]
def Aqx:List (e_×e_):=[(S [124,124],I 0),(S [38,38],I 1),(S [60],I 2),(S [60,61],I 2),(S [61,61],I 2)]
def Aqw:List (e_×e_):=[(S [124,124],I 0),(S [38,38],I 1),(S [60],I 2),(S [60,61],I 2),(S [61,61],I 2),(S [33,61],I 2)]
def Aqv:List (e_×e_):=[(S [124,124],I 0),(S [38,38],I 1),(S [60],I 2),(S [60,61],I 2),(S [61,61],I 2),(S [33,61],I 2),(S [43],I 3)]
def Aqu:List (e_×e_):=[(S [124,124],I 0),(S [38,38],I 1),(S [60],I 2),(S [60,61],I 2),(S [61,61],I 2),(S [33,61],I 2),(S [43],I 3),(S [45],I 3)]
def Aqt:List (e_×e_):=[(S [124,124],I 0),(S [38,38],I 1),(S [60],I 2),(S [60,61],I 2),(S [61,61],I 2),(S [33,61],I 2),(S [43],I 3),(S [45],I 3),(S [42],I 4)]
def Ah8:List (e_×e_):=[(S [124,124],I 0),(S [38,38],I 1),(S [60],I 2),(S [60,61],I 2),(S [61,61],I 2),(S [33,61],I 2),(S [43],I 3),(S [45],I 3),(S [42],I 4),(S [47],I 4)]
def KZ:List (e_×e_):=[(S [124,124],I 0),(S [38,38],I 1),(S [60],I 2),(S [60,61],I 2),(S [61,61],I 2),(S [33,61],I 2),(S [43],I 3),(S [45],I 3),(S [42],I 4),(S [47],I 4),(S [37],I 4)]
theorem Axe:Bg (S [124,124]) (I 0) []=Y Aq1:=by kernel_rfl
theorem Axd:Bg (S [38,38]) (I 1) Aq1=Y Aq0:=by kernel_rfl
theorem Axc:Bg (S [60]) (I 2) Aq0=Y Aqz:=by kernel_rfl
theorem Axb:Bg (S [60,61]) (I 2) Aqz=Y Aqy:=by kernel_rfl
theorem Axa:Bg (S [61,61]) (I 2) Aqy=Y Aqx:=by kernel_rfl
theorem Aw9:Bg (S [33,61]) (I 2) Aqx=Y Aqw:=by kernel_rfl
theorem Aw8:Bg (S [43]) (I 3) Aqw=Y Aqv:=by kernel_rfl
theorem Aw7:Bg (S [45]) (I 3) Aqv=Y Aqu:=by kernel_rfl
theorem Aw6:Bg (S [42]) (I 4) Aqu=Y Aqt:=by kernel_rfl
theorem Aw5:Bg (S [47]) (I 4) Aqt=Y Ah8:=by kernel_rfl
theorem Att:Bg (S [37]) (I 4) Ah8=Y KZ:=by kernel_rfl
theorem Ac1(a:AH):AR 407 [] a (fun c b=>c=.map (Y a.n)∧b.get a.n=Y (.map KZ)∧b.n=a.n+1∧Ext a b):=by refine eF Tryz.func407 ?_;simp only[go_sem,Ce,ZO,Po,Pq,BM,Axe,Axd,Axc,Axb,Axa,Aw9,Aw8,Aw7,Aw6,Aw5,Att];exact fun e d=>by simp only[go_sem,d]
def DO:List (H×Int):=[([124,124],0),([38,38],1),([60],2),([60,61],2),([61,61],2),([33,61],2),([43],3),([45],3),([42],4),([47],4),([37],4)]
def BN(a:H):List (H×Int)→Option Int
 |[]=>W
 |b::c=>bif a==b.1 then Y b.2 else BN a c
theorem RQ(b:H):∀c:List (H×Int),Bc (S b) (c.map fun a=>(S a.1,I a.2))=Y ((BN b c).map fun d=>I d)
 |[]=>rfl
 |a::c=>by
  have e:=RQ b c;show(match Y (b==a.1)with|some true=>Y (Y (I a.2))|some false=>Bc (S b) (c.map fun a=>(S a.1,I a.2))|none=>W)=Y ((bif b==a.1 then Y a.2 else BN b c).map fun d=>I d);cases b==a.1 with
  |true=>rfl
  |false=>exact e
theorem Adp(a:H):Bc (S a) KZ=Y ((BN a DO).map fun b=>I b):=RQ a DO
def Pa(a:Int)(b:H):Int:=bif a==7 then 5 else bif a==8 then 5 else bif a==9 then(BN b DO).getD 0 else 6
def lkK(d:AH)(a:Option (TypeDesc×S_))(b:Option e_)(e c:e_):Option e_:=
 opt a fun a=>opt (mapA d e) fun f=>opt b fun b=>Av (CJ a.1 c) (opt (Bc c f) fun g=>Y (g.getD b)) W
theorem Ul:pr.zero 3=Y (I 0):=by kernel_rfl
theorem Ke{g:Pr}(i:S_)(h a:W_){c:TypeDesc×S_}(j:Hw g i=Y c)(k:g.zero c.2=Y v):Cs g u (.lookup i h a false) e f=CF f (lkK f (Y c) (Y v) (AZ e h) (AZ e a)):=by
 show opt (Hw g i) (fun c=>opt (mapA f (AZ e h)) fun d=>opt (g.zero c.2) fun v=>Av (CJ c.1 (AZ e a)) (opt (Bc (AZ e a) d) fun b=>Y (Nx.val (CQ v false b) f)) W)=_;rw[j];show opt (mapA f (AZ e h)) (fun d=>opt (g.zero c.2) fun v=>Av (CJ c.1 (AZ e a)) (opt (Bc (AZ e a) d) fun b=>Y (Nx.val (CQ v false b) f)) W)=CF f (opt (mapA f (AZ e h)) fun d=>Av (CJ c.1 (AZ e a)) (opt (Bc (AZ e a) d) fun b=>Y (b.getD v)) W);rw[k];cases mapA f (AZ e h)with
 |none=>rfl
 |some d=>
  show Av (CJ c.1 (AZ e a)) (opt (Bc (AZ e a) d) fun b=>Y (Nx.val (CQ v false b) f)) W=CF f (Av (CJ c.1 (AZ e a)) (opt (Bc (AZ e a) d) fun b=>Y (b.getD v)) W);cases CJ c.1 (AZ e a)with
  |false=>rfl
  |true=>
   show opt (Bc (AZ e a) d) (fun b=>Y (Nx.val (CQ v false b) f))=CF f (opt (Bc (AZ e a) d) fun b=>Y (b.getD v));cases Bc (AZ e a) d<;>rfl
theorem SL(a b:W_):Cs pr u (.lookup 438 a b false) e f=CF f (lkK f (Y (.string,3)) (Y (I 0)) (AZ e a) (AZ e b)):=Ke 438 a b ZO Ul
theorem Anj(c:f.get a=Y (.map KZ)):lkK f (Y (.string,3)) (Y (I 0)) (.map (Y a)) (S s)=Y (I ((BN s DO).getD 0)):=by
 have d:mapA f (.map (Y a))=Y KZ:=by show(match f.get a with|some (.map b)=>Y b|_=>W)=_;rw[c]
 show opt (mapA f (.map (Y a))) (fun b=>opt (Bc (S s) b) fun a=>Y (a.getD (I 0)))=_;rw[d];show opt (Bc (S s) KZ) (fun a=>Y (a.getD (I 0)))=_;rw[Adp];show Y (((BN s DO).map fun e=>I e).getD (I 0))=_;cases BN s DO<;>rfl
theorem Vu(a d e:Int)(b:H)(g:Option X_)(h i:Nat)(o:Wh f):AR 383 [.agg #[I a,I d,I e,S b,.slice g h i]] f (fun p q=>p=I (Pa a b)∧Ext f q):=by
 refine eF Tryz.func383 ?_;have r:=o.new (.cells [I a,I d,I e,S b,.slice g h i]);unfold Pa;cases c:(a==7)with
 |true=>
  simp only[go_sem,V,c];exact Ext.new f _
 |false=>
 cases j:(a==8)with
 |true=>
  simp only[go_sem,V,c,j];exact Ext.new f _
 |false=>
 cases l:(a==9)with
 |false=>
  simp only[go_sem,V,c,j,l];exact Ext.new f _
 |true=>
  simp only[go_sem,V,c,j,l];refine AM r 0x10103d00b15018 ?_;simp only[go_sem,V];refine Aj (Ac1 _) ?_;rintro _ m t ⟨rfl,k,u,n⟩;have k:m.get (f.n+1)=Y (.map KZ):=k;have s:m.get f.n=Y (.cells [I a,I d,I e,S b,.slice g h i]):=(n f.n (n_ _)).trans (Ae _);simp only[go_sem,V,SL,Anj k,s];exact(Ext.new f _).trans (k_ _) n
theorem KW:∀(c:List GH) (b:Nat) (a:GH),c[b]? =Y a→sub? (Bf c) (b*5) 5=Y [I a.kind,I a.line,I a.n,S a.name,a.lv]
 |[],_,_,d=>by cases d
 |x::c,0,a,d=>by
  cases d;rw[K_,BK,Bn (by simp[Bf])];rfl
 |x::c,b+1,a,d=>by
  have e:=KW c b a (by simpa using d);rw[show(b+1)*5=b*5+1+1+1+1+1 by omega];exact e
theorem DI.at{a:AH}:∀{b:List GH} {c:List Nd} (_:DI a b c) {i:Nat} {n:Nd},c[i]? =Y n→∃v,b[i]? =Y v∧v.kind=n.kind∧v.line=n.line∧v.n=n.n∧v.name=n.name∧L3 a v.lv n.l
 |[],[],_,_,_,a=>by cases a
 |v::b,n::c,⟨e,f,g,h,j,_⟩,0,d,a=>by cases a;exact⟨v,J,e,f,g,h,j⟩
 |v::b,n::c,⟨_,_,_,_,_,e⟩,i+1,d,a=>by simpa using DI.at e (i:=i) (n:=d) (by simpa using a)
 |[],_::_,a,_,_,_=>a.elim
 |_::_,[],a,_,_,_=>a.elim
theorem L3.slice(a:L3 f v q):∃b c,v=.slice b q.length c:=by rcases a with⟨rfl,rfl⟩|⟨d,rfl,_⟩<;>exact⟨_,_,J⟩
theorem Wr.node{z:Option Nat}(m:Wr f g a z v w s)(n:Wh f){e:List GH}{h:List Nd}(A:YU f e v)(o:DI f e h){c:Nd}(p:h[b]? =Y c):
  ∃i k l,v=.slice (Y ⟨i,0,W⟩) h.length 5∧g.get i=Y (.cells (Bf e))∧b<h.length∧sub? (Bf e) (b*5) 5=Y [I c.kind,I c.line,I c.n,S c.name,.slice k c.l.length l]∧(c.l=[]∨∃j,k=Y ⟨j,0,W⟩∧l=1∧g.get j=Y (.cells (c.l.map fun d=>I d))):=by
 obtain⟨F,q,K,L,N,P,r⟩:=o.at p;obtain⟨k,l,t⟩:=r.slice;have a0:=o.len;have a1:b<h.length:=by have:=(c_.1 p).1;exact this
 have u:=KW e b F q;rw[K,L,N,P,t]at u;rcases A with⟨rfl,_⟩|⟨i,x,a2⟩
 ·cases q
 refine⟨i,k,l,by rw[a2,a0],(m.x i (n _ _ x)).trans x,a1,u,?_⟩;rcases r with⟨d,_⟩|⟨j,d,y⟩
 ·exact .inl d
 rw[t]at d;injection d with d _ a3
 exact .inr ⟨j,d,a3,(m.x j (n _ _ y)).trans y⟩
theorem Ax3(u:Wh f){k:List GH}{l:List Nd}(x:YU f k v)(y:DI f k l){c:Nd}(z:l[b]? =Y c)(e:Int)(m:B9 247 f a v w b s)
  {h:Option Nat} (d:Wr f g a h v w t) (n:t.length+(bif decide (e≤Pa c.kind c.name)then s else[40]++s++[41]).length≤1000000):
  AR 382 [AA a,I b,I e] g (G6 f a v w h g (t++bif decide (e≤Pa c.kind c.name)then s else[40]++s++[41])):=by
 obtain⟨a8,A,F,rfl,K,L,N,_⟩:=d.node u x y z;obtain⟨a9,aa,P,_⟩:=d.r.ex;refine eF Tryz.func382 ?_;simp only[go_sem,V,P,K,L,N];refine Aa (Ok.wf d.w (Vu c.kind c.line c.n c.name A c.l.length F d.w)) ?_;rintro _ ab o ⟨a0,rfl,p⟩;have q:=d.ext o a0 p;have r:=CE.ext o p a h;cases g:decide (e≤Pa c.kind c.name)with
 |true=>
  simp only[g,Aa9]at n;simp only[go_sem,V,g];refine Aa (m q (by omega)) ?_;rintro _ a1 a2 ⟨rfl,t,i,j⟩;simp only[go_sem];exact⟨J,t,i,r.trans j⟩
 |false=>
  simp only[g,Acf,a_,Z,M]at n;simp only[go_sem,V,g];refine Aa (q.put (parts:=[[40]]) J (by simp;omega) (by show 1<2^60;decide)) ?_;rintro _ a1 a2 ⟨rfl,t,i,j⟩;simp only[go_sem,V];refine Aa (m i (by simp;omega)) ?_;rintro _ ac ad ⟨rfl,ae,a3,a4⟩;simp only[go_sem,V];refine Aa (a3.put (parts:=[[41]]) J (by simp;omega) (by show 1<2^60;decide)) ?_;rintro _ af ag ⟨rfl,a5,a6,a7⟩;simp only[go_sem];refine⟨J,a5,?_,((r.trans j).trans a4).trans a7⟩;simpa using a6
def Cm:Nat→List H→H
 |_,[]=>[]
 |0,a::b=>a++Cm 1 b
 |_+1,a::b=>[44]++a++Cm 1 b
theorem Xa(b:Nat)(a:List H):Cm (b+1) a=Cm 1 a:=by cases a<;>rfl
def Uc(j:ak_)(k:Array e_)(f l:AH)(b:Nat)(m:Option Nat)(g h:e_)(n:List H):Prop:=
 ∀(i:Nat) (c:H),n[i]? =Y c→∀{a:AH} {d:Option Nat} {e:H},Wr f a b d g h e→CE l a b m d→e.length+c.length≤1000000→AR j ([I i]++k.toList) a (G6 f b g h d a (e++c))
theorem Agj{t:ak_}{u:Array e_}{b:List H}{l:Option Nat}(P:Uc t u f g a l v w b)(a4:Wr f g a l v w s)(ae:s.length+((Cm 0 b).length+2)≤1000000)(af:b.length<2^60):
  AR 42 [AA a,I b.length,.func (.func t) #[] u] g (G6 f a v w l g (s++([40]++Cm 0 b++[41]))):=by
 refine eF Tryz.func42 ?_;simp only[go_sem,V];refine Aa (a4.put (parts:=[[40]]) J (by simp;omega) (by show 1<2^60;decide)) ?_;rintro _ ag ah ⟨rfl,a5,a6,a7⟩;simp only[go_sem,V];refine AG (fun(d:Nat×Option Nat×H) j x=>Wr f x a d.2.1 v w (s++[40]++d.2.2)∧CE g x a l d.2.1∧d.2.2++Cm d.1 (b.drop d.1)=Cm 0 b∧j.at 0=AA a∧j.at 2=.func (.func t) #[] u∧j.at 10=I b.length∧j.at 11=I d.1∧d.1≤b.length) (fun d=>b.length-d.1) ?_ (0,a5,[]) ?_
 ·rintro⟨c,ai,y⟩ j x ⟨m,h,e,n,o,p,k,a8⟩ z
  dsimp only at m h e k a8 z;cases q:decide ((c:Int)<b.length)with
  |false=>
   have i:c=b.length:=by have:=Adh q;omega
   subst i;simp only[go_sem,V,n,p,k,q];rw[w_]at e;have F:y=Cm 0 b:=by simpa[Cm]using e
   subst F;refine Aa (m.put (parts:=[[41]]) J (by simp;omega) (by show 1<2^60;decide)) ?_;rintro _ a9 aa ⟨rfl,a0,A,r⟩;simp only[go_sem];refine⟨J,a0,?_,h.trans r⟩;simpa using A
  |true=>
   have i:c<b.length:=by have:=Acw q;omega
   simp only[go_sem,V,p,k,q];have ab:b.drop c=b[c]::b.drop (c+1):=j_ i;have a1:b[c]? =Y b[c]:=g_ i;rw[ab]at e;have a2:f_ .i64 ((c:Int)+1)=((c+1:Nat):Int):=by rw[Ap]<;>omega
   have a3:=Akv A_ e;cases c with
   |zero=>
    have F:decide ((0:Int)<((0:Nat):Int))=false:=J;simp only[Cm,a_]at a3;simp only[Cm]at e;simp only[go_sem,V,o,F];refine Aa (P 0 _ a1 m h (by simp;omega)) ?_;rintro _ ac ad ⟨rfl,K,L,N⟩;simp only[go_sem,V,k,a2];refine z (1,K,y++b[0]) _ _ ⟨by simpa using L,h.trans N,by simpa using e,?_,?_,?_,?_,i⟩ (by show b.length-1<b.length-0;omega)
    ·simp only[go_sem,n]
    ·simp only[go_sem,V,o]
    ·simp only[go_sem,V,p]
    simp only[go_sem]
   |succ c=>
    have F:decide ((0:Int)<((c+1:Nat):Int))=true:=Gu;simp only[Cm,a_,Z,M]at a3;simp only[Cm]at e;simp only[go_sem,V,n,F];refine Aa (m.put (parts:=[[44]]) J (by simp;omega) (by show 1<2^60;decide)) ?_;rintro _ a9 aa ⟨rfl,a0,A,r⟩;simp only[go_sem,V,o];refine Aa (P (c+1) _ a1 A (h.trans r) (by simp;omega)) ?_;rintro _ ac ad ⟨rfl,K,L,N⟩;simp only[go_sem,V,k,a2];refine z (c+1+1,K,y++[44]++b[c+1]) _ _ ⟨by simpa using L,(h.trans r).trans N,?_,?_,?_,?_,?_,i⟩ (by show b.length-(c+1+1)<b.length-(c+1);omega)
    ·rw[←e]
     simp[Xa]
    ·simp only[go_sem,n]
    ·simp only[go_sem,V,o]
    ·simp only[go_sem,V,p]
    simp only[go_sem]
 refine⟨by simpa using a6,a7,by simp,?_,?_,?_,?_,m_ _⟩<;>simp only[go_sem,V]
 rfl
theorem Aah(c:H):∀a:List (H×Int),(∀b∈a,0≤b.2∧b.2≤6)→0≤(BN c a).getD 0∧(BN c a).getD 0≤6
 |[],_=>⟨Int.le_refl 0,by show(0:Int)≤6;decide⟩
 |b::a,d=>by
  unfold BN;cases c==b.1 with
  |true=>exact d b (C_ ..)
  |false=>exact Aah c a fun e f=>d e (y_ _ f)
theorem Atu(a:Int)(b:H):0≤Pa a b∧Pa a b≤6:=by
 unfold Pa;cases a==7 with
 |true=>show(0:Int)≤5∧(5:Int)≤6;exact⟨by decide,by decide⟩
 |false=>
 cases a==8 with
 |true=>show(0:Int)≤5∧(5:Int)≤6;exact⟨by decide,by decide⟩
 |false=>
 cases a==9 with
 |true=>exact Aah b DO (by decide)
 |false=>show(0:Int)≤6∧(6:Int)≤6;exact⟨by decide,by decide⟩
theorem Aoq{d B b h:Nat}{i:Option Nat}{m:List H}{n:Nd}(r:Wh f)(s:g.get B=Y (.cells [AA d]))(t:g.get b=Y (.cells [I n.kind,I n.line,I n.n,S n.name,.slice (Y ⟨h,0,W⟩) n.l.length 1]))(j:B<g.n∧B≠d∧i≠Y B)(k:b<g.n∧b≠d∧i≠Y b)
  (o:f.get h=Y (.cells (n.l.map fun a=>I a))) (u:∀(c:Nat) (e:H),m[c]? =Y e→∃a,n.l[c]? =Y a∧B9 247 f d v w a e):
  Uc 319 #[AA B,AA b] f g d i v w m:=by
 intro c e x a2 a3 a4 l p y;obtain⟨a,q,z⟩:=u c e x;have A:c<n.l.length:=(c_.1 q).1;have F:nth? (n.l.map fun a=>I a) c=Y (I a):=by rw[Du,G_,q];rfl
 have K:=(p.D2 B j.1 j.2.1 j.2.2).trans s;have L:=(p.D2 b k.1 k.2.1 k.2.2).trans t;have N:=(l.x h (r _ _ o)).trans o;refine eF Tryz.func319 ?_;simp only[go_sem];refine AM l.w 0x13100101 ?_;simp only[go_sem,V,K,L,N,A,F];refine Aj (z l y) ?_;rintro _ a5 a6 ⟨rfl,P,a0,a1⟩;simp only[go_sem];exact⟨J,P,a0,a1⟩
inductive Xp where
 |int (n:Nat)
 |bool (b:Bool)
 |text (s:H)
 |var (x:H)
 |index (x:H) (e:Xp)
 |len (e:Xp)
 |neg (e:Xp)
 |no (e:Xp)
 |bin (s:H) (a b:Xp)
inductive Rg where
 |input
 |new (e:Xp)
 |call (f:H) (l:List Xp)
 |expr (e:Xp)
mutual
inductive Sm where
 |lt (x:H) (r:Rg)
 |set (x:H) (r:Rg)
 |put (x:H) (a b:Xp)
 |run (f:H) (l:List Xp)
 |print (e:Xp)
 |Fa
 |ret (e:Xp)
 |Kv (e:Xp) (b:Bl)
 |KD (e:Xp) (b:Bl)
 |FP (e:Xp) (b c:Bl)
inductive Bl where
 |nil
 |cons (s:Sm) (r:Bl)
end
structure Fd where
 name:H
 params:List Pm
 ret:Int
 body:Bl
abbrev nd(a:Int)(b:Int)(c:H)(d:List Int):Nd:=⟨a,0,b,c,d⟩
def Xp.sz:Xp→Nat
 |.int _|.bool _|.text _|.var _=>1
 |.index _ a|.len a|.neg a|.no a=>a.sz+1
 |.bin _ a b=>a.sz+b.sz+1
def Dq:List Xp→Nat
 |[]=>0
 |e::a=>e.sz+Dq a
def Rg.sz:Rg→Nat
 |.input=>1
 |.new a=>a.sz+1
 |.call _ b=>Dq b+1
 |.expr a=>a.sz
mutual
def Sm.sz:Sm→Nat
 |.lt _ a=>a.sz+1
 |.set _ a=>a.sz+1
 |.put _ a b=>a.sz+b.sz+1
 |.run _ a=>Dq a+2
 |.print a=>a.sz+1
 |.Fa=>1
 |.ret a=>a.sz+1
 |.Kv a b=>a.sz+(b.sz+1)+1
 |.KD a b=>a.sz+(b.sz+1)+1
 |.FP a b c=>a.sz+(b.sz+1)+(c.sz+1)+1
def Bl.sz:Bl→Nat
 |.nil=>0
 |.cons a b=>a.sz+b.sz
end
abbrev top(a b:Nat):Int:=((a+b-1:Nat):Int)
def Xp.fl:Xp→Nat→List Nd
 |.int a,_=>[nd 1 a [] []]
 |.bool c,_=>[nd 2 (if c then 1 else 0) [] []]
 |.text d,_=>[nd 3 0 d []]
 |.var e,_=>[nd 4 0 e []]
 |.index e b,a=>b.fl a++[nd 5 0 e [top a b.sz]]
 |.len b,a=>b.fl a++[nd 6 0 [] [top a b.sz]]
 |.neg b,a=>b.fl a++[nd 7 0 [] [top a b.sz]]
 |.no b,a=>b.fl a++[nd 8 0 [] [top a b.sz]]
 |.bin d b c,a=>b.fl a++c.fl (a+b.sz)++[nd 9 0 d [top a b.sz,top (a+b.sz) c.sz]]
def Tq:List Xp→Nat→List Nd
 |[],_=>[]
 |e::b,a=>e.fl a++Tq b (a+e.sz)
def AB:List Xp→Nat→List Int
 |[],_=>[]
 |e::b,a=>top a e.sz::AB b (a+e.sz)
def Rg.fl:Rg→Nat→List Nd
 |.input,_=>[nd 19 0 [] []]
 |.new b,a=>b.fl a++[nd 20 0 [] [top a b.sz]]
 |.call d c,a=>Tq c a++[nd 21 0 d (AB c a)]
 |.expr b,a=>b.fl a
mutual
def Sm.fl:Sm→Nat→List Nd
 |.lt b c,a=>c.fl a++[nd 10 0 b [top a c.sz]]
 |.set b c,a=>c.fl a++[nd 11 0 b [top a c.sz]]
 |.put b d c,a=>d.fl a++c.fl (a+d.sz)++[nd 12 0 b [top a d.sz,top (a+d.sz) c.sz]]
 |.run d b,a=>Tq b a++[nd 21 0 d (AB b a)]++[nd 13 0 [] [top a (Dq b+1)]]
 |.print b,a=>b.fl a++[nd 14 0 [] [top a b.sz]]
 |.Fa,_=>[nd 17 0 [] []]
 |.ret b,a=>b.fl a++[nd 17 0 [] [top a b.sz]]
 |.Kv b c,a=>b.fl a++(c.fl (a+b.sz)++[nd 18 0 [] (c.AB (a+b.sz))])++[nd 16 0 [] [top a b.sz,top (a+b.sz) (c.sz+1)]]
 |.KD b c,a=>b.fl a++(c.fl (a+b.sz)++[nd 18 0 [] (c.AB (a+b.sz))])++[nd 15 0 [] [top a b.sz,top (a+b.sz) (c.sz+1)]]
 |.FP b c d,a=>b.fl a++(c.fl (a+b.sz)++[nd 18 0 [] (c.AB (a+b.sz))])++(d.fl (a+b.sz+(c.sz+1))++[nd 18 0 [] (d.AB (a+b.sz+(c.sz+1)))])++
   [nd 15 0 [] [top a b.sz,top (a+b.sz) (c.sz+1),top (a+b.sz+(c.sz+1)) (d.sz+1)]]
def Bl.fl:Bl→Nat→List Nd
 |.nil,_=>[]
 |.cons a c,b=>a.fl b++c.fl (b+a.sz)
def Bl.AB:Bl→Nat→List Int
 |.nil,_=>[]
 |.cons a c,b=>top b a.sz::c.AB (b+a.sz)
end
def Az:List Fd→Nat→List Nd
 |[],_=>[]
 |f::b,a=>f.body.fl a++[nd 18 0 [] (f.body.AB a)]++Az b (a+(f.body.sz+1))
def AK:List Fd→Nat→List Fn
 |[],_=>[]
 |f::b,a=>⟨f.name,0,f.params,f.ret,top a (f.body.sz+1)⟩::AK b (a+(f.body.sz+1))
theorem Xp.Ey:∀a:Xp,1≤a.sz
 |.int _|.bool _|.text _|.var _=>b_ 1
 |.index _ a|.len a|.neg a|.no a=>ac_ 1 _
 |.bin _ b c=>ac_ 1 _
theorem Rg.Ey:∀a:Rg,1≤a.sz
 |.input=>b_ 1
 |.new _|.call _ _=>ac_ 1 _
 |.expr b=>b.Ey
theorem Sm.Ey(a:Sm):1≤a.sz:=by cases a<;>simp only[Sm.sz]<;>omega
theorem Xp.Af:∀(b:Xp) (a:Nat),(b.fl a).length=b.sz
 |.int _,_|.bool _,_|.text _,_|.var _,_=>rfl
 |.index _ b,a|.len b,a|.neg b,a|.no b,a=>by simp only[Xp.fl,Xp.sz,a_,b.Af a,Z,M]
 |.bin _ c d,a=>by simp only[Xp.fl,Xp.sz,a_,c.Af a,d.Af,Z,M]
theorem DX:∀(a:List Xp) (b:Nat),(Tq a b).length=Dq a
 |[],_=>rfl
 |e::a,b=>by simp only[Tq,Dq,a_,e.Af b,DX a]
theorem DB:∀(a:List Xp) (b:Nat),(AB a b).length=a.length
 |[],_=>rfl
 |e::a,b=>by simp only[AB,Z,DB a]
theorem Rg.Af:∀(c:Rg) (a:Nat),(c.fl a).length=c.sz
 |.input,_=>rfl
 |.new b,a=>by simp only[Rg.fl,Rg.sz,a_,b.Af a,Z,M]
 |.call _ d,a=>by simp only[Rg.fl,Rg.sz,a_,DX d a,Z,M]
 |.expr b,a=>b.Af a
mutual
theorem Sm.Af:∀(d:Sm) (a:Nat),(d.fl a).length=d.sz
 |.lt _ b,a|.set _ b,a=>by simp only[Sm.fl,Sm.sz,a_,b.Af a,Z,M]
 |.put _ b c,a=>by simp only[Sm.fl,Sm.sz,a_,b.Af a,c.Af,Z,M]
 |.run _ b,a=>by simp only[Sm.fl,Sm.sz,a_,DX b a,Z,M]
 |.print b,a|.ret b,a=>by simp only[Sm.fl,Sm.sz,a_,b.Af a,Z,M]
 |.Fa,_=>rfl
 |.Kv b c,a|.KD b c,a=>by simp only[Sm.fl,Sm.sz,a_,b.Af a,c.Af,Z,M]
 |.FP b c e,a=>by simp only[Sm.fl,Sm.sz,a_,b.Af a,c.Af,e.Af,Z,M]
theorem Bl.Af:∀(b:Bl) (a:Nat),(b.fl a).length=b.sz
 |.nil,_=>rfl
 |.cons c d,a=>by simp only[Bl.fl,Bl.sz,a_,c.Af a,d.Af]
end
def A2(b:List Nd)(c:Nat)(d:List Nd):Prop:=∃a e,b=a++d++e∧a.length=c
theorem A2.left{b:List Nd}{c d:List Nd}(e:A2 b a (c++d)):A2 b a c:=by obtain⟨f,g,i,h⟩:=e;exact⟨f,d++g,by simp_all,h⟩
theorem A2.right{c:List Nd}{b d:List Nd}(e:A2 c a (b++d)):A2 c (a+b.length) d:=by obtain⟨f,g,h,i⟩:=e;exact⟨f++b,g,by simp_all,by simp_all⟩
theorem A2.at{b:List Nd}{c:Nd}{d:List Nd}(e:A2 b a (c::d)):b[a]? =Y c:=by obtain⟨h,i,f,g⟩:=e;subst g;rw[f];simp
def Xp.DM:Xp→Int
 |.neg _|.no _=>5
 |.bin a _ _=>(BN a DO).getD 0
 |_=>6
def YI(b c:Int)(a:H):H:=bif decide (b≤c)then a else[40]++a++[41]
def F3(a:Int):Int:=bif a==2 then a+1 else a
def Xp.tx:Xp→H
 |.int a=>DF 30 a []
 |.bool c=>bif c then FV else Ec
 |.text b=>[34]++b++[34]
 |.var d=>d
 |.index d a=>(d++[91])++a.tx++[93]
 |.len a=>(LD++[40])++a.tx++[41]
 |.neg a=>[45]++YI 5 a.DM a.tx
 |.no a=>[33]++YI 5 a.DM a.tx
 |.bin b a c=>YI (F3 ((BN b DO).getD 0)) a.DM a.tx++b++YI ((BN b DO).getD 0+1) c.DM c.tx
def Rg.tx:Rg→H
 |.input=>GZ
 |.new a=>(Cb++[40])++a.tx++[41]
 |.call b c=>b++([40]++Cm 0 (c.map Xp.tx)++[41])
 |.expr a=>a.tx
mutual
def Sm.tx:Sm→H
 |.lt a b=>(MB++[32]++a++[61])++b.tx++[59,10]
 |.set a b=>(a++[61])++b.tx++[59,10]
 |.put a c b=>((a++[91])++c.tx++[93,61])++([]++b.tx++[59,10])
 |.run a c=>[]++(a++([40]++Cm 0 (c.map Xp.tx)++[41]))++[59,10]
 |.print a=>(F9++[32])++a.tx++[59,10]
 |.Fa=>BZ++[59,10]
 |.ret a=>BZ++([32]++a.tx++[])++[59,10]
 |.Kv a b=>((E6++[32])++a.tx++[])++([123,10]++b.tx++[125,10])
 |.KD a b=>((NT++[32])++a.tx++[])++([123,10]++b.tx++[125,10])
 |.FP a b c=>((NT++[32])++a.tx++[])++([123,10]++b.tx++[125,10])++Ed++([123,10]++c.tx++[125,10])
def Bl.tx:Bl→H
 |.nil=>[]
 |.cons a b=>a.tx++b.tx
end
def EY(a:Int):H:=(QR a).getD []
def Nz(a:Pm):H:=a.1++[32]++EY a.2
def Fd.tx(a:Fd):H:=(Gb++[32]++a.name)++([40]++Cm 0 (a.params.map Nz)++[41])++EY a.ret++([123,10]++a.body.tx++[125,10])
def Db:List Fd→H
 |[]=>[]
 |f::a=>f.tx++Db a
end
end Go.Proofs.YtebhflkemdlbkaaGreatDoor
namespace Go.Proofs.YtebhflkemdlbkaaGreatDoor
noncomputable section
def AU(a:Nd):Nd:={a with line:=0}
theorem A2.last{N:List Nd}{a n:Nat}{b:List Nd}{c:Nd}(e:A2 N a (b++[c]))(g:b.length=n):N[a+n]? =Y c:=by subst g;exact e.right.at
theorem Uz{a N:List Nd}(g:a.map AU=N){b:Nat}{c:Nd}(e:N[b]? =Y c):∃h,a[b]? =Y {c with line:=h}:=by subst g;rw[G_]at e;obtain⟨i,k,l⟩:=ad_.1 e;refine⟨i.line,?_⟩;rw[k,←l];rfl
def Fx(a:AH)(f:e_)(N:List Nd):Prop:=∃b c,YU a b f∧DI a b c∧c.map AU=N
theorem Fx.node{h0 h:AH}{f:e_}{N:List Nd}(t:Fx h0 f N)(w0:Wh h0)(b:Ext h0 h)(y:h0.n≤h.n){i:Nat}{a:Nd}(q:N[i]? =Y a):
  ∃c k n l m,f=.slice (Y ⟨c,0,W⟩) N.length 5∧h.get c=Y (.cells (Bf k))∧c<h.n∧i<N.length∧sub? (Bf k) (i*5) 5=Y [I a.kind,I n,I a.n,S a.name,.slice l a.l.length m]∧
   (a.l=[]∨∃e,l=Y ⟨e,0,W⟩∧m=1∧h.get e=Y (.cells (a.l.map fun b=>I b))∧h0.get e=Y (.cells (a.l.map fun b=>I b))):=by
 obtain⟨k,z,A,r,s⟩:=t;obtain⟨n,F⟩:=Uz s q;obtain⟨K,u,L,P,a0,a1,v⟩:=r.at F;obtain⟨l,m,w⟩:=v.slice;have a2:N.length=z.length:=by rw[←s,D_]
 have a3:=r.len;have a4:i<N.length:=(c_.1 q).1;have x:=KW k i K u;rw[L,P,a0,a1,w]at x;rcases A with⟨rfl,_⟩|⟨c,o,a5⟩
 ·cases u
 have a6:=(b c (w0 _ _ o)).trans o;refine⟨c,k,n,l,m,by rw[a5,a2,a3],a6,l_ (w0 _ _ o) y,a4,x,?_⟩;rcases v with⟨g,_⟩|⟨e,g,p⟩
 ·exact .inl g
 rw[w]at g;injection g with g _ a7
 exact .inr ⟨e,g,a7,(b e (w0 _ _ p)).trans p,p⟩
theorem DU{l:List Int}{i:Nat}{x:Int}(a:l[i]? =Y x):nth? (l.map fun x=>I x) i=Y (I x):=by rw[Du,G_,a];rfl
theorem Z1(a:Nat)(c:a<9223372036854775808):Pure 28 [I a] (S (DF 30 a [])):=fun b=>Ok.known K28 (v:=S (DF 30 a [])) (h1:=b) (by
  show cond (Nat.blt a 9223372036854775808) (Y (S (DF 30 a []),b)) W=_;rw[show Nat.blt a 9223372036854775808=true from R_ c];rfl) (b_ _) ⟨J,rfl⟩
theorem PB(a:Bool):Pure 318 [.bool a] (S (bif a then FV else Ec)):=fun b=>by
 refine eF Tryz.func318 ?_;simp only[go_sem];refine Aa (P:=fun c e=>c=S (bif a then FV else Ec)∧e=b) (eF Tryz.func381 ?_) ?_
 ·cases a<;>simp only[go_sem,Aa9,Acf,FV,Ec]
 rintro _ _ _ ⟨rfl,rfl⟩;simp only[go_sem]
section
variable{h0:AH}{d:Nat}{f j:Value}{N:List Nd}
theorem Wr.D7{b:AH}{q:Option Nat}{r:H}(c:Wr h0 b d q f j r)(w0:Wh h0)(t:Fx h0 f N){k:Nat}{a:Nd}(s:N[k]? =Y a):
  ∃e g l h i m n,f=.slice (Y ⟨e,0,W⟩) N.length 5∧b.get e=Y (.cells (Bf g))∧e<b.n∧k<N.length∧sub? (Bf g) (k*5) 5=Y [I a.kind,I l,I a.n,S a.name,.slice h a.l.length i]∧
   (a.l=[]∨∃o,h=Y ⟨o,0,W⟩∧i=1∧b.get o=Y (.cells (a.l.map fun p=>I p))∧h0.get o=Y (.cells (a.l.map fun p=>I p)))∧
   b.get d=Y (.tc 60 [f,j,.pointer m,n])∧d<b.n:=by
 obtain⟨e,g,l,h,i,o,p,u,v,w,x⟩:=t.node w0 c.x c.hn s;obtain⟨m,n,y,_⟩:=c.r.ex;exact⟨e,g,l,h,i,m,n,o,p,u,v,w,x,y,(c.r.lt c.w).1⟩
theorem Wr.ND{a:AH}{e:Option Nat}{g:H}(h:Wr h0 a d e f j g)(b c B:AO):Wr h0 (((a.new b).new c).put (a.n+1) B) d e f j g∧CE a (((a.new b).new c).put (a.n+1) B) d e e:=by
 have i:Ext a (((a.new b).new c).put (a.n+1) B):=fun n l=>by simp only[go_sem,l]
 have m:Wh (((a.new b).new c).put (a.n+1) B):=Ar (Am (Am h.w b) c) (by simp only[go_sem];omega) B;have k:a.n≤(((a.new b).new c).put (a.n+1) B).n:=by simp only[go_sem];omega
 exact⟨h.ext k m i,CE.ext k i d e⟩
variable(w0:Wh h0)(t:Fx h0 f N)
include w0 t
theorem Arr(a b:Nat)(g:a<2^63)(h:A2 N b ((Xp.int a).fl b)):B9 247 h0 d f j (b:Int) (Xp.int a).tx:=by intro y z A c i;obtain⟨F,K,k,l,m,L,P,rfl,n,o,p,q,a0,r,s⟩:=c.D7 w0 t h.at;obtain⟨e,u⟩:=c.ND (.cells [AA d]) (.cells [I 0,I 0,I 0,S [],.slice W 0 0]) (.cells [I 1,I k,I a,S [],.slice l ([]:List Int).length m]);refine eF p_ ?_;simp only[go_sem,V,r,n,p,q,s,o];refine AM e.w 0x131631015 ?_;simp only[go_sem,V];refine Aj (Z1 a g _) ?_;rintro _ _ _ ⟨rfl,rfl⟩;simp only[go_sem,V];refine Aj (e.put (parts:=[DF 30 a []]) J (by simpa[Xp.tx]using i) (by show 1<2^60;decide)) ?_;rintro _ a1 a2 ⟨rfl,v,w,x⟩;simp only[go_sem];exact⟨J,v,by simpa[Xp.tx]using w,u.trans x⟩
theorem Ak4(a:Bool)(b:Nat)(g:A2 N b ((Xp.bool a).fl b)):B9 247 h0 d f j (b:Int) (Xp.bool a).tx:=by
 intro y z A c h;obtain⟨F,K,i,k,l,L,P,rfl,m,n,o,p,a0,q,r⟩:=c.D7 w0 t (g.at);obtain⟨e,s⟩:=c.ND (.cells [AA d]) (.cells [I 0,I 0,I 0,S [],.slice W 0 0]) (.cells [I 2,I i,I (if a then 1 else 0),S [],.slice k ([]:List Int).length l]);refine eF p_ ?_;simp only[go_sem,V,d_,q,m,o,p,r,n];refine AM e.w 0x1316301015 ?_;simp only[go_sem,V];have u:((if a=true then(1:Int)else 0)==1)=a:=by cases a<;>rfl
 rw[u];refine Aj (PB a _) ?_;rintro _ _ _ ⟨rfl,rfl⟩;simp only[go_sem,V];refine Aj (e.put (parts:=[bif a then FV else Ec]) J (by simpa[Xp.tx]using h) (by show 1<2^60;decide)) ?_;rintro _ a1 a2 ⟨rfl,v,w,x⟩;simp only[go_sem];exact⟨J,v,by simpa[Xp.tx]using w,s.trans x⟩
theorem Ak3(a:H)(b:Nat)(e:A2 N b ((Xp.text a).fl b)):B9 247 h0 d f j (b:Int) (Xp.text a).tx:=by intro x y z c g;obtain⟨A,F,h,i,k,K,L,rfl,l,m,n,o,P,p,q⟩:=c.D7 w0 t (e.at);obtain⟨r,s⟩:=c.ND (.cells [AA d]) (.cells [I 0,I 0,I 0,S [],.slice W 0 0]) (.cells [I 3,I h,I 0,S a,.slice i ([]:List Int).length k]);refine eF p_ ?_;simp only[go_sem,V,d_,p,l,n,o,q,m];refine Aa (r.put (parts:=[[34],a,[34]]) J (by simpa[Xp.tx,Z_]using g) (by show 3<2^60;decide)) ?_;rintro _ a0 a1 ⟨rfl,u,v,w⟩;simp only[go_sem];exact⟨J,u,by simpa[Xp.tx]using v,s.trans w⟩
theorem Aro(a:H)(b:Nat)(e:A2 N b ((Xp.var a).fl b)):B9 247 h0 d f j (b:Int) (Xp.var a).tx:=by intro x y z c g;obtain⟨A,F,h,i,k,K,L,rfl,l,m,n,o,P,p,q⟩:=c.D7 w0 t (e.at);obtain⟨r,s⟩:=c.ND (.cells [AA d]) (.cells [I 0,I 0,I 0,S [],.slice W 0 0]) (.cells [I 4,I h,I 0,S a,.slice i ([]:List Int).length k]);refine eF p_ ?_;simp only[go_sem,V,d_,p,l,n,o,q,m];refine Aa (r.put (parts:=[a]) J (by simpa[Xp.tx]using g) (by show 1<2^60;decide)) ?_;rintro _ a0 a1 ⟨rfl,u,v,w⟩;simp only[go_sem];exact⟨J,u,by simpa[Xp.tx]using v,s.trans w⟩
theorem Ae0(c:H)(a:Xp)(b:Nat)(k:A2 N b ((Xp.index c a).fl b))(l:B9 247 h0 d f j (top b a.sz) a.tx)(a4:c.length≤1000):B9 247 h0 d f j ((b+a.sz:Nat):Int) (Xp.index c a).tx:=by
 intro m a5 a6 e n;obtain⟨a7,a8,o,q,r,a9,aa,rfl,s,u,v,w,g,z,A⟩:=e.D7 w0 t (k.last (a.Af b));obtain⟨h,F⟩:=e.ND (.cells [AA d]) (.cells [I 0,I 0,I 0,S [],.slice W 0 0]) (.cells [I 5,I o,I 0,S c,.slice q [top b a.sz].length r]);rcases g with g|⟨K,rfl,rfl,L,_⟩
 ·cases g
 have i:m.get K=Y (.cells [I (top b a.sz)]):=L;have P:=e.w _ _ i;refine eF p_ ?_;simp only[go_sem,V,d_,z,s,v,w,A,u];refine AM h.w 0x1310100101 ?_;have a0:=DG (p:=pr) (t:=9) (x:=.tmp 53) (y:=.const (S [91])) c [91] (by simp;omega);simp only[go_sem,V,a0,i,P,Z,M];refine Aj (CH l h (c++[91]) [93] (by simp[Xp.tx]at n;simp;omega)) ?_;rintro _ ab ac ⟨rfl,a1,a2,a3⟩;simp only[go_sem];exact⟨J,a1,by simpa[Xp.tx]using a2,F.trans a3⟩
theorem Arq(a:Xp)(b:Nat)(i:A2 N b ((Xp.len a).fl b))(k:B9 247 h0 d f j (top b a.sz) a.tx):B9 247 h0 d f j ((b+a.sz:Nat):Int) (Xp.len a).tx:=by
 intro l P a0 c m;obtain⟨a1,a2,n,o,p,a3,a4,rfl,q,r,s,u,e,v,w⟩:=c.D7 w0 t (i.last (a.Af b));obtain⟨g,x⟩:=c.ND (.cells [AA d]) (.cells [I 0,I 0,I 0,S [],.slice W 0 0]) (.cells [I 6,I n,I 0,S [],.slice o [top b a.sz].length p]);rcases e with e|⟨y,rfl,rfl,z,_⟩
 ·cases e
 have h:l.get y=Y (.cells [I (top b a.sz)]):=z;have A:=c.w _ _ h;refine eF p_ ?_;simp only[go_sem,V,d_,v,q,s,u,w,r];refine AM g.w 0x1310101 ?_;simp only[go_sem,V,h,A,Z,M];refine Aj (CH k g [108,101,110,40] [41] (by simp[Xp.tx,LD]at m;simp;omega)) ?_;rintro _ a5 a6 ⟨rfl,F,K,L⟩;simp only[go_sem];exact⟨J,F,by simpa[Xp.tx,LD]using K,x.trans L⟩
omit w0 t in
theorem Xp.root:∀(c:Xp) (b:Nat),A2 N b (c.fl b)→∃e,N[b+c.sz-1]? =Y e∧Pa e.kind e.name=c.DM
 |.int _,_,a=>⟨_,a.at,J⟩
 |.bool _,_,a=>⟨_,a.at,J⟩
 |.text _,_,a=>⟨_,a.at,J⟩
 |.var _,_,a=>⟨_,a.at,J⟩
 |.index _ c,b,a=>⟨_,a.last (c.Af b),J⟩
 |.len c,b,a=>⟨_,a.last (c.Af b),J⟩
 |.neg c,b,a=>⟨_,a.last (c.Af b),J⟩
 |.no c,b,a=>⟨_,a.last (c.Af b),J⟩
 |.bin i g h,b,a=>⟨_,a.last (by rw[a_,g.Af b,h.Af]),J⟩
theorem R8{a:Xp}{b:Nat}(k:A2 N b (a.fl b))(l:B9 247 h0 d f j (top b a.sz) a.tx)(c:Int){e:AH}{h:Option Nat}{g:H}(m:Wr h0 e d h f j g)(i:g.length+(YI c a.DM a.tx).length≤1000000):
  AR 382 [AA d,I (top b a.sz),I c] e (G6 h0 d f j h e (g++YI c a.DM a.tx)):=by
 obtain⟨u,n,o⟩:=a.root b k;obtain⟨v,w,p,q,r⟩:=t;obtain⟨x,s⟩:=Uz r n;rw[←o]at i⊢;exact Ax3 w0 p q s c l m i
theorem Aby{a:Xp}{e:Nat}(p:A2 N e (a.fl e))(g:B9 247 h0 d f j (top e a.sz) a.tx){h:Int}{c:Nat}(m:h0.get c=Y (.cells [I (top e a.sz)])){b:AH}{i:Option Nat}{k:H}(l:Wr h0 b d i f j k)(q:k.length+(Xp.neg a).tx.length≤1000000):
  AR 320 [AA d,.agg #[I 7,I h,I 0,S [],.slice (Y ⟨c,0,W⟩) 1 1]] b (G6 h0 d f j i b (k++(Xp.neg a).tx)):=by
 have r:=l.r.lt l.w;have s:=l.new (.cells [I 7,I h,I 0,S [],.slice (Y ⟨c,0,W⟩) 1 1]);have u:=CE.ext (k_ b.n) (Ext.new b (.cells [I 7,I h,I 0,S [],.slice (Y ⟨c,0,W⟩) 1 1])) d i;simp only[Xp.tx,a_,Z,M]at q;refine eF al_ ?_;simp only[go_sem,V];refine Aa (s.put (parts:=[[45]]) J (by simp;omega) (by show 1<2^60;decide)) ?_;rintro _ A F ⟨rfl,K,n,o⟩;have v:=(o.D2 b.n (n_ _) (by omega) (fun g=>by have:=r.2 _ g;omega)).trans (Ae _);have w:=(n.x c (w0 _ _ m)).trans m;simp only[go_sem,V,v,w];refine Aa (R8 w0 t p g 5 n (by simp;omega)) ?_;rintro _ L P ⟨rfl,x,y,z⟩;simp only[go_sem];exact⟨J,x,by simpa[Xp.tx]using y,(u.trans o).trans z⟩
theorem Arp(a:Xp)(b:Nat)(e:A2 N b ((Xp.neg a).fl b))(h:B9 247 h0 d f j (top b a.sz) a.tx):B9 247 h0 d f j ((b+a.sz:Nat):Int) (Xp.neg a).tx:=by
 intro z A F g i;obtain⟨K,L,k,P,a0,a1,a2,rfl,l,m,n,o,c,p,q⟩:=g.D7 w0 t (e.last (a.Af b));rcases c with c|⟨r,rfl,rfl,a3,s⟩
 ·cases c
 obtain⟨u,v⟩:=g.ND (.cells [AA d]) (.cells [I 0,I 0,I 0,S [],.slice W 0 0]) (.cells [I 7,I k,I 0,S [],.slice (Y ⟨r,0,W⟩) 1 1]);refine eF p_ ?_;simp only[go_sem,V,d_,p,l,n,o,q,m,Z,M];refine Aa (Aby w0 t e.left h s u i) ?_;rintro _ a4 a5 ⟨rfl,w,x,y⟩;simp only[go_sem];exact⟨J,w,x,v.trans y⟩
theorem Af6{a:Xp}{e:Nat}(p:A2 N e (a.fl e))(g:B9 247 h0 d f j (top e a.sz) a.tx){h:Int}{c:Nat}(m:h0.get c=Y (.cells [I (top e a.sz)])){b:AH}{i:Option Nat}{k:H}(l:Wr h0 b d i f j k)(q:k.length+(Xp.no a).tx.length≤1000000):
  AR 320 [AA d,.agg #[I 8,I h,I 0,S [],.slice (Y ⟨c,0,W⟩) 1 1]] b (G6 h0 d f j i b (k++(Xp.no a).tx)):=by
 have r:=l.r.lt l.w;have s:=l.new (.cells [I 8,I h,I 0,S [],.slice (Y ⟨c,0,W⟩) 1 1]);have u:=CE.ext (k_ b.n) (Ext.new b (.cells [I 8,I h,I 0,S [],.slice (Y ⟨c,0,W⟩) 1 1])) d i;simp only[Xp.tx,a_,Z,M]at q;refine eF al_ ?_;simp only[go_sem,V,d_];refine Aa (s.put (parts:=[[33]]) J (by simp;omega) (by show 1<2^60;decide)) ?_;rintro _ A F ⟨rfl,K,n,o⟩;have v:=(o.D2 b.n (n_ _) (by omega) (fun g=>by have:=r.2 _ g;omega)).trans (Ae _);have w:=(n.x c (w0 _ _ m)).trans m;simp only[go_sem,V,v,w];refine Aa (R8 w0 t p g 5 n (by simp;omega)) ?_;rintro _ L P ⟨rfl,x,y,z⟩;simp only[go_sem];exact⟨J,x,by simpa[Xp.tx]using y,(u.trans o).trans z⟩
theorem Avt(a:Xp)(b:Nat)(e:A2 N b ((Xp.no a).fl b))(h:B9 247 h0 d f j (top b a.sz) a.tx):B9 247 h0 d f j ((b+a.sz:Nat):Int) (Xp.no a).tx:=by
 intro z A F g i;obtain⟨K,L,k,P,a0,a1,a2,rfl,l,m,n,o,c,p,q⟩:=g.D7 w0 t (e.last (a.Af b));rcases c with c|⟨r,rfl,rfl,a3,s⟩
 ·cases c
 obtain⟨u,v⟩:=g.ND (.cells [AA d]) (.cells [I 0,I 0,I 0,S [],.slice W 0 0]) (.cells [I 8,I k,I 0,S [],.slice (Y ⟨r,0,W⟩) 1 1]);refine eF p_ ?_;simp only[go_sem,V,d_,p,l,n,o,q,m,Z,M];refine Aa (Af6 w0 t e.left h s u i) ?_;rintro _ a4 a5 ⟨rfl,w,x,y⟩;simp only[go_sem];exact⟨J,w,x,v.trans y⟩
theorem Abz{a:H}{h i:Xp}{q r:Nat}(a6:A2 N q (h.fl q))(a7:A2 N r (i.fl r))(a8:B9 247 h0 d f j (top q h.sz) h.tx)(a9:B9 247 h0 d f j (top r i.sz) i.tx){s:Int}{c:Nat}
  (k:h0.get c=Y (.cells [I (top q h.sz),I (top r i.sz)])) {b:AH} {u:Option Nat} {e:H} (x:Wr h0 b d u f j e) (m:e.length+(Xp.bin a h i).tx.length≤1000000):
  AR 320 [AA d,.agg #[I 9,I s,I 0,S a,.slice (Y ⟨c,0,W⟩) 2 1]] b (G6 h0 d f j u b (e++(Xp.bin a h i).tx)):=by
 have v:=x.r.lt x.w;have y:=x.new (.cells [I 9,I s,I 0,S a,.slice (Y ⟨c,0,W⟩) 2 1]);have aa:=CE.ext (k_ b.n) (Ext.new b (.cells [I 9,I s,I 0,S a,.slice (Y ⟨c,0,W⟩) 2 1])) d u;refine eF al_ ?_;simp only[go_sem,V,d_];refine Aa (Ok.wf y.w (Vu 9 s 0 a (Y ⟨c,0,W⟩) 2 1 y.w)) ?_;rintro _ ad z ⟨ae,rfl,A⟩;have F:=y.ext z ae A;have ab:=CE.ext z A d u;have l:=(A b.n (n_ _)).trans (Ae _);have ac:=(F.x c (w0 _ _ k)).trans k;have w:b.n<ad.n:=z;have af:=Atu 9 a;have ag:Pa 9 a=(BN a DO).getD 0:=J;simp only[Xp.tx,←ag]at m⊢;generalize Pa 9 a=e at af m⊢;have K:f_ .i64 (e+1)=e+1:=by rw[Ap]<;>omega
 simp only[a_]at m;cases c2:(e==2)with
 |true=>
  simp only[F3,c2,Aa9]at m⊢;simp only[go_sem,V,c2,K,l,ac];refine Aa (R8 w0 t a6 a8 (e+1) F (by omega)) ?_;rintro _ ah ai ⟨rfl,aj,L,n⟩;have P:=(n.D2 b.n w (by omega) (fun g=>by have:=v.2 _ g;omega)).trans l;simp only[go_sem,V,P];refine Aa (L.put (parts:=[a]) J (by simp;omega) (by show 1<2^60;decide)) ?_;rintro _ ak al ⟨rfl,am,o,a0⟩;have p:=n.trans a0;have a1:=(p.D2 b.n w (by omega) (fun g=>by have:=v.2 _ g;omega)).trans l;have a2:=(o.x c (w0 _ _ k)).trans k;simp only[go_sem,h_,a1,K,a2];refine Aa (R8 w0 t a7 a9 (e+1) o (by simp;omega)) ?_;rintro _ an ao ⟨rfl,a3,a4,a5⟩;simp only[go_sem];exact⟨J,a3,by simpa using a4,(aa.trans ab).trans (p.trans a5)⟩
 |false=>
  simp only[F3,c2,Acf]at m⊢;simp only[go_sem,V,c2,l,ac];refine Aa (R8 w0 t a6 a8 e F (by omega)) ?_;rintro _ ah ai ⟨rfl,aj,L,n⟩;have P:=(n.D2 b.n w (by omega) (fun g=>by have:=v.2 _ g;omega)).trans l;simp only[go_sem,V,P];refine Aa (L.put (parts:=[a]) J (by simp;omega) (by show 1<2^60;decide)) ?_;rintro _ ak al ⟨rfl,am,o,a0⟩;have p:=n.trans a0;have a1:=(p.D2 b.n w (by omega) (fun g=>by have:=v.2 _ g;omega)).trans l;have a2:=(o.x c (w0 _ _ k)).trans k;simp only[go_sem,h_,a1,K,a2];refine Aa (R8 w0 t a7 a9 (e+1) o (by simp;omega)) ?_;rintro _ an ao ⟨rfl,a3,a4,a5⟩;simp only[go_sem];exact⟨J,a3,by simpa using a4,(aa.trans ab).trans (p.trans a5)⟩
theorem Ars(e:H)(a c:Xp)(b:Nat)(g:A2 N b ((Xp.bin e a c).fl b))(k:B9 247 h0 d f j (top b a.sz) a.tx)(l:B9 247 h0 d f j (top (b+a.sz) c.sz) c.tx):B9 247 h0 d f j ((b+(a.sz+c.sz):Nat):Int) (Xp.bin e a c).tx:=by
 intro K L P i m;obtain⟨a0,a1,n,a2,a3,a4,a5,rfl,o,p,q,r,h,s,u⟩:=i.D7 w0 t (g.last (by rw[a_,a.Af b,c.Af]));rcases h with h|⟨v,rfl,rfl,a6,w⟩
 ·cases h
 obtain⟨x,y⟩:=i.ND (.cells [AA d]) (.cells [I 0,I 0,I 0,S [],.slice W 0 0]) (.cells [I 9,I n,I 0,S e,.slice (Y ⟨v,0,W⟩) 2 1]);refine eF p_ ?_;simp only[go_sem,V,d_,s,o,q,r,u,p,Z,M];refine Aa (Abz w0 t g.left.left (by have:=g.left.right;rwa[a.Af b]at this) k l w x m) ?_;rintro _ a7 a8 ⟨rfl,z,A,F⟩;simp only[go_sem];exact⟨J,z,A,y.trans F⟩
end
variable{a b c d:Nat}{f g h:AH}{v w:Value}{s t:List UInt8}{l m:List Value}{u:TypeId}{x y:Int}{p:List Nat}{q r:List Int}{e:Env}{o n:Option Addr}
def DN(a:H):Prop:=(∃b c,a=b::c∧Co b=true)∧a.all A9=true∧HT a=false∧a.length≤8
def WN(a:H):Prop:=a.all B8=true∧a.length≤12
def Xp.A6:Xp→Prop
 |.int a=>a<9223372036854775808
 |.bool _=>True
 |.text b=>WN b
 |.var c=>DN c
 |.index c a=>DN c∧a.A6
 |.len a|.neg a|.no a=>a.A6
 |.bin b a c=>(BN b DO).isSome=true∧a.A6∧c.A6
def G0:List Xp→Prop
 |[]=>True
 |e::a=>e.A6∧G0 a
def Rg.A6:Rg→Prop
 |.input=>True
 |.new a=>a.A6
 |.call b c=>DN b∧G0 c
 |.expr a=>a.A6
mutual
def Sm.A6:Sm→Prop
 |.lt a b|.set a b=>DN a∧b.A6
 |.put a c b=>DN a∧c.A6∧b.A6
 |.run a c=>DN a∧G0 c
 |.print a=>a.A6
 |.Fa=>True
 |.ret a=>a.A6
 |.Kv a b|.KD a b=>a.A6∧b.A6
 |.FP a b c=>a.A6∧b.A6∧c.A6
def Bl.A6:Bl→Prop
 |.nil=>True
 |.cons a b=>a.A6∧b.A6
end
def KS(a:Pm):Prop:=DN a.1∧1≤a.2∧a.2≤4
def Fd.A6(a:Fd):Prop:=DN a.name∧(∀b∈a.params,KS b)∧a.params.length≤3∧0≤a.ret∧a.ret≤4∧a.body.A6
def D6(a:List Fd):Prop:=(∀b∈a,b.A6)∧a.length≤6∧(Az a 0).length≤300
theorem LP:∀(k a:Nat) (b:H),(DF k a b).length≤k+b.length
 |0,_,b=>by simp[DF]
 |k+1,a,b=>by
  unfold DF;cases Nat.blt a 10 with
  |true=>simp only[Aa9,Z];omega
  |false=>
   simp only[Acf];have:=LP k (a/10) ((48+a%10).toUInt8::b);simp only[Z]at this;omega
theorem RO{c:H}{g:Int}:∀{d:List (H×Int)},BN c d=Y g→(∀b∈d,b.1.length≤2)→c.length≤2
 |[],a,_=>by cases a
 |b::d,a,e=>by
  unfold BN at a;cases f:c==b.1 with
  |true=>rw[eq_of_beq f];exact e b (C_ ..)
  |false=>rw[f]at a;exact RO a fun h i=>e h (y_ _ i)
theorem Af7(a:(BN s DO).isSome=true):s.length≤2:=by obtain⟨c,b⟩:=Option.isSome_iff_exists.1 a;exact RO b (by decide)
theorem NX(a b:Int)(c:H):(YI a b c).length≤c.length+2:=by unfold YI;cases decide (a≤b)<;>simp
theorem Xp.BQ:∀{e:Xp},e.A6→e.tx.length≤40*e.sz
 |.int a,_=>by
  have:=LP 30 a [];simp only[Xp.tx,Xp.sz,M]at this⊢;omega
 |.bool b,_=>by cases b<;>simp[Xp.tx,Xp.sz,FV,Ec]
 |.text d,a=>by have:=a.2;simp[Xp.tx,Xp.sz];omega
 |.var f,a=>by have:=a.2.2.2;simp[Xp.tx,Xp.sz];omega
 |.index f e,a=>by
  have h:=a.1.2.2.2;have c:=BQ a.2;simp[Xp.tx,Xp.sz];omega
 |.len e,a=>by have c:=BQ (e:=e) a;simp[Xp.tx,Xp.sz,LD];omega
 |.neg e,a=>by
  have c:=BQ (e:=e) a;have f:=NX 5 e.DM e.tx;simp[Xp.tx,Xp.sz];omega
 |.no e,a=>by
  have c:=BQ (e:=e) a;have f:=NX 5 e.DM e.tx;simp[Xp.tx,Xp.sz];omega
 |.bin d g b,a=>by
  have h:=Af7 a.1;have c:=BQ a.2.1;have f:=BQ a.2.2;have i:=NX (F3 ((BN d DO).getD 0)) g.DM g.tx;have j:=NX ((BN d DO).getD 0+1) b.DM b.tx;simp[Xp.tx,Xp.sz];omega
theorem OF:∀{a:List Xp},G0 a→(Cm 0 (a.map Xp.tx)).length≤41*Dq a∧(Cm 1 (a.map Xp.tx)).length≤41*Dq a
 |[],_=>⟨b_ _,b_ _⟩
 |e::a,b=>by
  have c:=Xp.BQ b.1;have d:=OF b.2;have f:=e.Ey;simp only[aw_,Cm,Dq,a_,Z,M];omega
theorem Rg.BQ:∀{b:Rg},b.A6→b.tx.length≤50*b.sz
 |.input,_=>by simp[Rg.tx,Rg.sz,GZ]
 |.new e,a=>by have c:=Xp.BQ (e:=e) a;simp[Rg.tx,Rg.sz,Cb];omega
 |.call d f,a=>by
  have g:=a.1.2.2.2;have c:=(OF a.2).1;simp[Rg.tx,Rg.sz];omega
 |.expr e,a=>by have c:=Xp.BQ (e:=e) a;simp[Rg.tx,Rg.sz];omega
mutual
theorem Sm.BQ:∀{c:Sm},c.A6→c.tx.length≤60*c.sz
 |.lt h f,a=>by have d:=a.1.2.2.2;have b:=Rg.BQ a.2;simp[Sm.tx,Sm.sz,MB];omega
 |.set h f,a=>by have d:=a.1.2.2.2;have b:=Rg.BQ a.2;simp[Sm.tx,Sm.sz];omega
 |.put h i f,a=>by have d:=a.1.2.2.2;have b:=Xp.BQ a.2.1;have g:=Xp.BQ a.2.2;simp[Sm.tx,Sm.sz];omega
 |.run h i,a=>by have d:=a.1.2.2.2;have b:=(OF a.2).1;simp[Sm.tx,Sm.sz];omega
 |.print e,a=>by have b:=Xp.BQ (e:=e) a;simp[Sm.tx,Sm.sz,F9];omega
 |.Fa,_=>by simp[Sm.tx,Sm.sz,BZ]
 |.ret e,a=>by have b:=Xp.BQ (e:=e) a;simp[Sm.tx,Sm.sz,BZ];omega
 |.Kv e f,a=>by have b:=Xp.BQ a.1;have g:=Bl.BQ a.2;simp[Sm.tx,Sm.sz,E6];omega
 |.KD e f,a=>by have b:=Xp.BQ a.1;have g:=Bl.BQ a.2;simp[Sm.tx,Sm.sz,NT];omega
 |.FP e f d,a=>by have b:=Xp.BQ a.1;have g:=Bl.BQ a.2.1;have h:=Bl.BQ a.2.2;simp[Sm.tx,Sm.sz,NT,Ed];omega
theorem Bl.BQ:∀{a:Bl},a.A6→a.tx.length≤60*a.sz
 |.nil,_=>b_ _
 |.cons c d,b=>by have e:=Sm.BQ b.1;have f:=Bl.BQ b.2;simp[Bl.tx,Bl.sz];omega
end
theorem QQ(a:Int):(EY a).length≤4:=by unfold EY QR;split<;>simp
theorem Zx:∀{a:List Pm},(∀b∈a,KS b)→(Cm 0 (a.map Nz)).length≤20*a.length∧(Cm 1 (a.map Nz)).length≤20*a.length
 |[],_=>⟨b_ _,b_ _⟩
 |b::a,c=>by
  have f:=(c b (C_ ..)).1.2.2.2;have g:=Zx fun d e=>c d (y_ _ e);have h:=QQ b.2;simp only[aw_,Cm,Nz,a_,Z,M];omega
theorem Fd.BQ{a:Fd}(b:a.A6):a.tx.length≤60*a.body.sz+100:=by have c:=b.1.2.2.2;have d:=(Zx b.2.1).1;have e:=b.2.2.1;have f:=QQ a.ret;have g:=Bl.BQ b.2.2.2.2.2;simp[Fd.tx,Gb];omega
theorem IP:∀(a:List Fd) (b:Nat),(Az a b).length=(a.map fun f=>f.body.sz+1).sum
 |[],_=>rfl
 |f::c,b=>by simp[Az,IP c,Bl.Af];omega
theorem MP:∀{a:List Fd},(∀f∈a,f.A6)→(Db a).length≤60*(a.map fun f=>f.body.sz+1).sum+100*a.length
 |[],_=>b_ _
 |f::e,b=>by
  have g:=Fd.BQ (b f (C_ ..));have h:=MP fun c d=>b c (y_ _ d);simp[Db];omega
end
end Go.Proofs.YtebhflkemdlbkaaGreatDoor
namespace Go.Proofs.YtebhflkemdlbkaaGreatDoor
noncomputable section
section
variable{h0:AH}{c:Nat}{d g:Value}{N:List Nd}
variable(w0:Wh h0)(t:Fx h0 d N)
include w0 t
theorem Gg:∀(e:Xp),e.A6→∀(a:Nat),A2 N a (e.fl a)→B9 247 h0 c d g (top a e.sz) e.tx
 |.int h,f,a,b=>Arr w0 t h a (by have:h<9223372036854775808:=f;omega) b
 |.bool i,_,a,b=>Ak4 w0 t i a b
 |.text h,_,a,b=>Ak3 w0 t h a b
 |.var h,_,a,b=>Aro w0 t h a b
 |.index h e,f,a,b=>Ae0 w0 t h e a b (Gg e f.2 a b.left) (by have:=f.1.2.2.2;omega)
 |.len e,f,a,b=>Arq w0 t e a b (Gg e f a b.left)
 |.neg e,f,a,b=>Arp w0 t e a b (Gg e f a b.left)
 |.no e,f,a,b=>Avt w0 t e a b (Gg e f a b.left)
 |.bin j h i,f,a,b=>Ars w0 t j h i a b (Gg h f.2.1 a b.left.left) (Gg i f.2.2 (a+h.sz) (by have:=b.left.right;rwa[h.Af a]at this))
theorem Agm(a:Nat)(e:A2 N a (Rg.input.fl a)):B9 247 h0 c d g (a:Int) Rg.input.tx:=by intro w x y b f;obtain⟨z,A,h,i,j,F,K,rfl,k,l,m,n,L,o,p⟩:=b.D7 w0 t (e.at);obtain⟨q,r⟩:=b.ND (.cells [AA c]) (.cells [I 0,I 0,I 0,S [],.slice W 0 0]) (.cells [I 19,I h,I 0,S [],.slice i ([]:List Int).length j]);refine eF p_ ?_;simp only[go_sem,V,d_,o,k,m,n,p,l];refine Aa (q.put (parts:=[GZ]) J (by simpa[Rg.tx]using f) (by show 1<2^60;decide)) ?_;rintro _ P a0 ⟨rfl,s,u,v⟩;simp only[go_sem];exact⟨J,s,by simpa[Rg.tx]using u,r.trans v⟩
theorem Ata(a:Xp)(b:Nat)(k:A2 N b ((Rg.new a).fl b))(l:B9 247 h0 c d g (top b a.sz) a.tx):B9 247 h0 c d g ((b+a.sz:Nat):Int) (Rg.new a).tx:=by
 intro m K L e n;obtain⟨P,a0,o,a1,a2,a3,a4,rfl,p,q,r,s,f,u,v⟩:=e.D7 w0 t (k.last (a.Af b));rcases f with f|⟨h,rfl,rfl,w,_⟩
 ·cases f
 have i:m.get h=Y (.cells [I (top b a.sz)]):=w;have x:=e.w _ _ i;obtain⟨j,y⟩:=e.ND (.cells [AA c]) (.cells [I 0,I 0,I 0,S [],.slice W 0 0]) (.cells [I 20,I o,I 0,S [],.slice (Y ⟨h,0,W⟩) 1 1]);refine eF p_ ?_;simp only[go_sem,V,d_,u,p,r,s,v,q,Z,M];refine AM j.w 0x1310101 ?_;simp only[go_sem,V,i,x];refine Aj (CH l j [110,101,119,40] [41] (by simp[Rg.tx,Cb]at n;simp;omega)) ?_;rintro _ a5 a6 ⟨rfl,z,A,F⟩;simp only[go_sem];exact⟨J,z,by simpa[Rg.tx,Cb]using A,y.trans F⟩
omit w0 t in
theorem Y6:∀(b:List Xp) (a f:Nat) (t:H),(b.map Xp.tx)[f]? =Y t→∃e h,b[f]? =Y e∧e.tx=t∧(AB b a)[f]? =Y (top h e.sz)∧∀{N:List Nd},A2 N a (Tq b a)→A2 N h (e.fl h)
 |[],_,_,_,i=>by cases i
 |e::b,a,0,t,i=>by
  cases i;exact⟨e,a,J,J,J,fun j=>j.left⟩
 |e::b,a,f+1,t,i=>by
  obtain⟨k,h,l,m,n,o⟩:=Y6 b (a+e.sz) f t (by simpa using i);exact⟨k,h,l,m,n,fun j=>o (by have:=j.right;rwa[e.Af a]at this)⟩
omit w0 t in
theorem Aaa:∀{b:List Xp} {h:Nat} {e:Xp},G0 b→b[h]? =Y e→e.A6
 |e::b,0,_,f,a=>by cases a;exact f.1
 |e::b,h+1,_,f,a=>Aaa f.2 a
 |[],_,_,_,a=>by cases a
theorem Al7(h:H)(a:List Xp)(F:G0 a)(K:a.length<2^60)(b:Nat)(s:A2 N b ((Rg.call h a).fl b)):B9 247 h0 c d g ((b+Dq a:Nat):Int) (Rg.call h a).tx:=by
 intro e ai aj j L;obtain⟨P,ak,p,u,v,al,am,rfl,a0,a1,a2,a3,q,a4,a5⟩:=j.D7 w0 t (s.last (DX a b));have r:=j.r.lt j.w;obtain⟨a6,a7⟩:=j.ND (.cells [AA c]) (.cells [I 0,I 0,I 0,S [],.slice W 0 0]) (.cells [I 21,I p,I 0,S h,.slice u (AB a b).length v]);refine eF p_ ?_;simp only[Rg.tx,a_,Z,M]at L;simp only[go_sem,V,d_,a4,a0,a2,a3,a5,a1];refine Aa (a6.put (parts:=[h]) J (by simp;omega) (by show 1<2^60;decide)) ?_;rintro _ k a8 ⟨rfl,w,a9,l⟩;have an:e.n+2≤k.n:=by have:=a8;simp only[go_sem]at this;omega
 have x:k.get e.n=Y (.cells [AA c]):=(l.D2 e.n (by simp only[go_sem]) (by omega) (fun f=>by have:=r.2 _ f;omega)).trans (by simp only[go_sem]);have y:k.get (e.n+1)=Y (.cells [I 21,I p,I 0,S h,.slice u (AB a b).length v]):=(l.D2 (e.n+1) (by simp only[go_sem];omega) (by omega) (fun f=>by have:=r.2 _ f;omega)).trans (by simp only[go_sem]);simp only[go_sem,V,x,y];have z:∀i,i<2→w≠Y (e.n+i):=fun i m f=>by
  rcases l.buf with o|⟨aa,o,A⟩
  ·rw[o]at f;have:=r.2 _ f;omega
  rw[o]at f;cases f;simp only[go_sem]at A;omega
 have aa:Uc 319 #[AA e.n,AA (e.n+1)] h0 k c w (.slice (Y ⟨P,0,W⟩) N.length 5) g (a.map Xp.tx):=by
  rcases q with q|⟨ao,rfl,rfl,ap,ab⟩
  ·have ac:a=[]:=by
    have:(AB a b).length=0:=by show(A_ (nd 21 0 h (AB a b)).l)=0;rw[q];rfl
    rw[DB]at this;exact List.length_eq_zero_iff.1 this
   subst ac;intro i A m;cases m
  refine Aoq (n:=⟨21,p,0,h,AB a b⟩) w0 x y ⟨by omega,by omega,z 0 (by omega)⟩ ⟨by omega,by omega,z 1 (by omega)⟩ ab fun i A m=>?_;obtain⟨ac,ad,ae,af,ag,ah⟩:=Y6 a b i A m;exact⟨_,ag,af▸Gg w0 t ac (Aaa F ae) ad (ah s.left)⟩
 have A:=Agj aa a9 (by simp;omega) (by simpa using K);rw[D_]at A;rw[DB];refine Aa A ?_;rintro _ o ae ⟨rfl,ab,ac,ad⟩;simp only[go_sem];exact⟨J,ab,by simpa[Rg.tx]using ac,(a7.trans l).trans ad⟩
theorem Agl:∀(h:Rg),h.A6→∀(a:Nat),h.sz<2^60→A2 N a (h.fl a)→B9 247 h0 c d g (top a h.sz) h.tx
 |.input,_,a,_,b=>Agm w0 t a b
 |.new f,i,a,_,b=>Ata w0 t f a b (Gg w0 t f i a b.left)
 |.call j e,i,a,k,b=>Al7 w0 t j e i.2 (by
   have l:∀e:List Xp,e.length≤Dq e:=fun e=>by
    induction e with
    |nil=>exact b_ _
    |cons f e m=>have:=f.Ey;simp only[Dq,Z];omega
   have:=l e;simp only[Rg.sz]at k;omega) a b
 |.expr f,i,a,_,b=>Gg w0 t f i a b
end
section
variable{h0:AH}{c:Nat}{f d:Value}{N:List Nd}
def Aa6(h0:AH)(c:Nat)(f d:e_):Bl→Nat→Prop
 |.nil,_=>True
 |.cons a e,b=>B9 83 h0 c f d (top b a.sz) a.tx∧Aa6 h0 c f d e (b+a.sz)
def Jk(a:Bl):H:=[123,10]++a.tx++[125,10]
theorem Bl.DB:∀(b:Bl) (a:Nat),(b.AB a).length≤b.sz
 |.nil,_=>b_ _
 |.cons e g,a=>by
  have h:=g.DB (a+e.sz);have i:=e.Ey;simp only[Bl.AB,Bl.sz,Z];omega
theorem Gm{b e:E}{g h:Nat}(i:sub? b g h=Y e)(a:Nat)(j:a<h):nth? b (g+a)=e[a]? :=by obtain⟨_,k⟩:=IE _ _ _ _ i;rw[k,Du,List.getElem?_take,Agd j,L_]
variable(w0:Wh h0)(t:Fx h0 f N)
include w0 t
theorem P5(a:Bl)(b:Nat)(aq:a.sz<2^60)(a2:A2 N b (a.fl b++[nd 18 0 [] (a.AB b)]))(a3:Aa6 h0 c f d a b):B9 45 h0 c f d ((b+a.sz:Nat):Int) (Jk a):=by
 intro a4 a5 a6 a7 a8;have ar:=a.DB b;simp only[Jk,a_,Z,M]at a8;refine eF Tryz.func45 ?_;simp only[go_sem,V];refine Aa (a7.put (parts:=[[123,10]]) J (by simp;omega) (by show 1<2^60;decide)) ?_;rintro _ au av ⟨rfl,a9,y,aa⟩;obtain⟨z,ab,aw,A,F,ax,ay,rfl,ac,az,h,ad,i,ae,K⟩:=y.D7 w0 t (a2.last (a.Af b));have af:nth? (Bf ab) ((b+a.sz)*5+4)=Y (.slice A (a.AB b).length F):=Gm ad 4 (by decide);simp only[go_sem,V,ae,ac,h,af];refine AG (fun(e:Nat×Bl×Nat×Option Nat×H) j m=>Wr h0 m c e.2.2.2.1 (.slice (Y ⟨z,0,W⟩) N.length 5) d (a6++[123,10]++e.2.2.2.2)∧CE a4 m c a5 e.2.2.2.1∧e.2.2.2.2++e.2.1.tx=a.tx∧Aa6 h0 c (.slice (Y ⟨z,0,W⟩) N.length 5) d e.2.1 e.2.2.1∧
  (a.AB b).drop e.1=e.2.1.AB e.2.2.1∧e.1≤(a.AB b).length∧j.at 0=AA c∧j.at 17=.slice A (a.AB b).length F∧j.at 18=I (a.AB b).length∧j.at 19=I e.1) (fun e=>(a.AB b).length-e.1) ?_ (0,a,b,a9,[]) ?_
 ·rintro⟨g,n,r,aA,ag⟩ j m ⟨o,s,k,u,l,ah,v,L,w,p⟩ P
  dsimp only at o s k u l p ah P;cases n with
  |nil=>
   have h:g=(a.AB b).length:=by have:=Akv A_ l;simp only[Bl.AB,M_,M]at this;omega
   have x:decide ((g:Int)<(a.AB b).length)=false:=Gv;simp only[Bl.tx,B_]at k;subst k;simp only[go_sem,V,v,w,p,x];refine Aa (o.put (parts:=[[125,10]]) J (by simp;omega) (by show 1<2^60;decide)) ?_;rintro _ ai aj ⟨rfl,q,a0,a1⟩;simp only[go_sem];exact⟨J,q,by simpa[Jk]using a0,s.trans a1⟩
  |cons q n=>
   have h:g<(a.AB b).length:=by have:=Akv A_ l;simp only[Bl.AB,M_,Z]at this;omega
   have x:decide ((g:Int)<(a.AB b).length)=true:=Gu;have ai:(a.AB b)[g]? =Y (top r q.sz):=by have:=Akv (fun a0:List Int=>a0[0]?) l;simpa[L_,Bl.AB]using this
   have aj:=Akv A_ k;simp only[Bl.tx,a_]at aj;rcases i with i|⟨a0,rfl,rfl,_,a1⟩
   ·have i:a.AB b=[]:=i
    rw[i]at h;cases h
   have ak:m.get a0=Y (.cells ((a.AB b).map fun al=>I al)):=(o.x a0 (w0 _ _ a1)).trans a1;have am:=DU ai;have K:f_ .i64 ((g:Int)+1)=((g+1:Nat):Int):=by rw[Ap]<;>omega
   simp only[go_sem,V,v,L,w,p,x,ak,h,am];refine Aa (u.1 o (by simp;omega)) ?_;rintro _ aB aC ⟨rfl,an,ao,ap⟩;simp only[go_sem,V,p,K];refine P (g+1,n,r+q.sz,an,ag++q.tx) _ _ ⟨by simpa using ao,s.trans ap,by simpa[Bl.tx]using k,u.2,?_,h,?_,?_,?_,?_⟩ (by show(a.AB b).length-(g+1)<(a.AB b).length-g;omega)
   ·show(a.AB b).drop (g+1)=n.AB (r+q.sz)
    rw[←ae_,l];rfl
   ·simp only[go_sem,v]
   ·simp only[go_sem,V,L]
   ·simp only[go_sem,V,w]
   simp only[go_sem]
 refine⟨by simpa using y,aa,by simp,a3,J,m_ _,?_,?_,?_,?_⟩<;>simp only[go_sem,V]
 rfl
end
section
variable{h0:AH}{d:Nat}{g i:Value}{N:List Nd}
theorem Wr.P3{a:AH}{c:Option Nat}{e:H}(f:Wr h0 a d c g i e)(b B:AO):Wr h0 ((a.new b).put a.n B) d c g i e∧CE a ((a.new b).put a.n B) d c c:=by
 have h:Ext a ((a.new b).put a.n B):=fun m k=>by simp only[go_sem,k]
 have l:Wh ((a.new b).put a.n B):=Ar (Am f.w b) (by simp only[go_sem]) B;have j:a.n≤((a.new b).put a.n B).n:=by simp only[go_sem];omega
 exact⟨f.ext j l h,CE.ext j h d c⟩
theorem CE.box{a b:AH}{j k:Option Nat}(e:CE a b d j k){c:Nat}(l:c<a.n)(n:c≠d)(m:j≠Y c):b.get c=a.get c∧c<b.n∧k≠Y c:=by
 refine⟨e.D2 c l n m,l_ l e.n,fun f=>?_⟩;rcases e.buf with h|⟨o,h,p⟩
 ·exact m (h▸f)
 rw[h]at f;cases f;omega
variable(w0:Wh h0)(t:Fx h0 g N)
include w0 t
theorem Av8(b:H)(a2:b.length≤1000)(a:Rg)(c:Nat)(l:A2 N c ((Sm.lt b a).fl c))(m:B9 247 h0 d g i (top c a.sz) a.tx):B9 83 h0 d g i ((c+a.sz:Nat):Int) (Sm.lt b a).tx:=by
 intro n a3 a4 e o;have a5:=e.r.lt e.w;obtain⟨a6,a7,q,a8,a9,aa,ab,rfl,r,ac,s,u,f,v,ad⟩:=e.D7 w0 t (l.last (a.Af c));rcases f with f|⟨h,rfl,rfl,w,z⟩
 ·cases f
 have j:n.get h=Y (.cells [I (top c a.sz)]):=w;have ae:h0.get h=Y (.cells [I (top c a.sz)]):=z;have A:=e.w _ _ j;obtain⟨k,F⟩:=e.P3 (.cells [I 0,I 0,I 0,S [],.slice W 0 0]) (.cells [I 10,I q,I 0,S b,.slice (Y ⟨h,0,W⟩) 1 1]);refine eF x_ ?_;simp only[go_sem,V,v,r,s,u,Z,M];have K:=DG (p:=pr) (t:=9) (x:=.const (S [108,101,116,32])) (y:=.tmp 23) [108,101,116,32] b (by simp;omega);have L:=DG (p:=pr) (t:=9) (x:=.tmp 24) (y:=.const (S [61])) (108::101::116::32::b) [61] (by simp;omega);refine AM k.w 0x13101000100 ?_;simp only[go_sem,V,j,A,K,L];refine Aj (CH m k ([108,101,116,32]++b++[61]) [59,10] (by simp[Sm.tx,MB]at o;simp;omega)) ?_;rintro _ af ag ⟨rfl,P,a0,a1⟩;simp only[go_sem];exact⟨J,P,by simpa[Sm.tx,MB]using a0,F.trans a1⟩
theorem As0(c:H)(a1:c.length≤1000)(a:Rg)(b:Nat)(m:A2 N b ((Sm.set c a).fl b))(n:B9 247 h0 d g i (top b a.sz) a.tx):B9 83 h0 d g i ((b+a.sz:Nat):Int) (Sm.set c a).tx:=by
 intro o a2 a3 e q;have a4:=e.r.lt e.w;obtain⟨a5,a6,r,a7,a8,a9,aa,rfl,s,ab,u,v,f,w,ac⟩:=e.D7 w0 t (m.last (a.Af b));rcases f with f|⟨h,rfl,rfl,z,A⟩
 ·cases f
 have j:o.get h=Y (.cells [I (top b a.sz)]):=z;have ad:h0.get h=Y (.cells [I (top b a.sz)]):=A;have F:=e.w _ _ j;obtain⟨k,K⟩:=e.P3 (.cells [I 0,I 0,I 0,S [],.slice W 0 0]) (.cells [I 11,I r,I 0,S c,.slice (Y ⟨h,0,W⟩) 1 1]);refine eF x_ ?_;simp only[go_sem,V,d_,w,s,u,v,Z,M];have l:=DG (p:=pr) (t:=9) (x:=.tmp 35) (y:=.const (S [61])) c [61] (by simp;omega);have ae:=l;refine AM k.w 0x1310100100 ?_;simp only[go_sem,V,j,F,l];refine Aj (CH n k (c++[61]) [59,10] (by simp[Sm.tx]at q;simp;omega)) ?_;rintro _ af ag ⟨rfl,L,P,a0⟩;simp only[go_sem];exact⟨J,L,by simpa[Sm.tx,MB]using P,K.trans a0⟩
theorem As3(f:H)(ab:f.length≤1000)(a e:Xp)(b:Nat)(u:A2 N b ((Sm.put f a e).fl b))(v:B9 247 h0 d g i (top b a.sz) a.tx)(w:B9 247 h0 d g i (top (b+a.sz) e.sz) e.tx):B9 83 h0 d g i ((b+(a.sz+e.sz):Nat):Int) (Sm.put f a e).tx:=by
 intro l ac ad h m;have z:=h.r.lt h.w;obtain⟨ae,af,A,ag,ah,ai,aj,rfl,F,ak,K,L,k,P,al⟩:=h.D7 w0 t (u.last (by rw[a_,a.Af b,e.Af]));rcases k with k|⟨j,rfl,rfl,a0,a1⟩
 ·cases k
 have n:l.get j=Y (.cells [I (top b a.sz),I (top (b+a.sz) e.sz)]):=a0;have o:h0.get j=Y (.cells [I (top b a.sz),I (top (b+a.sz) e.sz)]):=a1;have a2:=h.w _ _ n;obtain⟨q,a3⟩:=h.P3 (.cells [I 0,I 0,I 0,S [],.slice W 0 0]) (.cells [I 12,I A,I 0,S f,.slice (Y ⟨j,0,W⟩) 2 1]);refine eF x_ ?_;simp only[go_sem,V,d_,P,F,K,L,Z,M];have a4:=DG (p:=pr) (t:=9) (x:=.tmp 46) (y:=.const (S [91])) f [91] (by simp;omega);refine AM q.w 0x1310100100 ?_;simp only[go_sem,h_,n,a2,a4];refine Aj (CH v q (f++[91]) [93,61] (by simp[Sm.tx]at m;simp;omega)) ?_;rintro _ am an ⟨rfl,ao,r,s⟩;obtain⟨a5,ap,aq⟩:=s.box (c:=l.n) (by simp only[go_sem]) (by omega) (fun a6=>by have:=z.2 _ a6;omega);have a7:=(r.x j (w0 _ _ o)).trans o;simp only[go_sem,h_,a5,a7];refine Aa (CH w r [] [59,10] (by simp[Sm.tx]at m;simp;omega)) ?_;rintro _ ar au ⟨rfl,a8,a9,aa⟩;simp only[go_sem];exact⟨J,a8,by simpa[Sm.tx]using a9,(a3.trans s).trans aa⟩
theorem As1(e:H)(a:List Xp)(b:Nat)(k:A2 N b ((Sm.run e a).fl b))(l:B9 247 h0 d g i (top b (Dq a+1)) (Rg.call e a).tx):B9 83 h0 d g i ((b+(Dq a+1):Nat):Int) (Sm.run e a).tx:=by
 intro m L P c o;have a0:=c.r.lt c.w;obtain⟨a1,a2,p,a3,a4,a5,a6,rfl,q,a7,r,s,f,u,a8⟩:=c.D7 w0 t (k.last (n:=Dq a+1) (by rw[a_,DX a b];rfl));rcases f with f|⟨h,rfl,rfl,v,w⟩
 ·cases f
 have j:m.get h=Y (.cells [I (top b (Dq a+1))]):=v;have a9:h0.get h=Y (.cells [I (top b (Dq a+1))]):=w;have x:=c.w _ _ j;obtain⟨y,z⟩:=c.P3 (.cells [I 0,I 0,I 0,S [],.slice W 0 0]) (.cells [I 13,I p,I 0,S [],.slice (Y ⟨h,0,W⟩) 1 1]);refine eF x_ ?_;simp only[go_sem,V,d_,u,q,r,s,Z,M];simp only[go_sem,V,j,x];refine Aa (CH l y [] [59,10] (by simp[Sm.tx,Rg.tx]at o⊢ <;>omega)) ?_;rintro _ aa ab ⟨rfl,A,F,K⟩;simp only[go_sem];exact⟨J,A,by simpa[Sm.tx,Rg.tx]using F,z.trans K⟩
theorem Af2(a:Xp)(b:Nat)(j:A2 N b ((Sm.print a).fl b))(k:B9 247 h0 d g i (top b a.sz) a.tx):B9 83 h0 d g i ((b+a.sz:Nat):Int) (Sm.print a).tx:=by
 intro l F K c m;have L:=c.r.lt c.w;obtain⟨P,a0,n,a1,a2,a3,a4,rfl,o,a5,p,q,e,r,a6⟩:=c.D7 w0 t (j.last (a.Af b));rcases e with e|⟨f,rfl,rfl,s,u⟩
 ·cases e
 have h:l.get f=Y (.cells [I (top b a.sz)]):=s;have a7:h0.get f=Y (.cells [I (top b a.sz)]):=u;have v:=c.w _ _ h;obtain⟨w,x⟩:=c.P3 (.cells [I 0,I 0,I 0,S [],.slice W 0 0]) (.cells [I 14,I n,I 0,S [],.slice (Y ⟨f,0,W⟩) 1 1]);refine eF x_ ?_;simp only[go_sem,V,d_,r,o,p,q,Z,M];simp only[go_sem,V,h,v];refine Aa (CH k w [112,114,105,110,116,32] [59,10] (by simp[Sm.tx,F9]at m;simp;omega)) ?_;rintro _ a8 a9 ⟨rfl,y,z,A⟩;simp only[go_sem];exact⟨J,y,by simpa[Sm.tx,F9]using z,x.trans A⟩
theorem Alx(b:Nat)(h:A2 N b (Sm.Fa.fl b)):B9 83 h0 d g i (b:Int) Sm.Fa.tx:=by intro j K L a e;have k:=a.r.lt a.w;obtain⟨P,a0,l,m,n,a1,a2,rfl,o,a3,p,q,a4,r,a5⟩:=a.D7 w0 t (h.at);obtain⟨s,u⟩:=a.P3 (.cells [I 0,I 0,I 0,S [],.slice W 0 0]) (.cells [I 17,I l,I 0,S [],.slice m 0 n]);refine eF x_ ?_;simp only[go_sem,V,d_,r,o,p,q,M];refine Aa (s.put (parts:=[[114,101,116,117,114,110]]) J (by simp[Sm.tx,BZ]at e;simp;omega) (by show 1<2^60;decide)) ?_;rintro _ a6 a7 ⟨rfl,a8,v,f⟩;obtain⟨w,a9,aa⟩:=f.box (c:=j.n) (by simp only[go_sem]) (by omega) (fun x=>by have:=k.2 _ x;omega);have y:decide ((0:Int)<((0:Nat):Int))=false:=J;simp only[go_sem,V,w];refine Cq ?_;simp only[go_sem,V,y];refine Aa (v.put (parts:=[[59,10]]) J (by simp[Sm.tx,BZ]at e;simp;omega) (by show 1<2^60;decide)) ?_;rintro _ ab ac ⟨rfl,z,A,F⟩;simp only[go_sem];exact⟨J,z,by simpa[Sm.tx,BZ]using A,(u.trans f).trans F⟩
theorem As2(a:Xp)(b:Nat)(p:A2 N b ((Sm.ret a).fl b))(h:B9 247 h0 d g i (top b a.sz) a.tx):B9 83 h0 d g i ((b+a.sz:Nat):Int) (Sm.ret a).tx:=by
 intro l a7 a8 e j;have q:=e.r.lt e.w;obtain⟨a9,aa,r,ab,ac,ad,ae,rfl,s,af,u,v,k,w,ag⟩:=e.D7 w0 t (p.last (a.Af b));rcases k with k|⟨f,rfl,rfl,x,y⟩
 ·cases k
 have z:l.get f=Y (.cells [I (top b a.sz)]):=x;have m:h0.get f=Y (.cells [I (top b a.sz)]):=y;have ah:=e.w _ _ z;obtain⟨A,F⟩:=e.P3 (.cells [I 0,I 0,I 0,S [],.slice W 0 0]) (.cells [I 17,I r,I 0,S [],.slice (Y ⟨f,0,W⟩) 1 1]);refine eF x_ ?_;simp only[go_sem,V,d_,w,s,u,v,Z,M];refine Aa (A.put (parts:=[[114,101,116,117,114,110]]) J (by simp[Sm.tx,BZ]at j;simp;omega) (by show 1<2^60;decide)) ?_;rintro _ ai aj ⟨rfl,ak,n,o⟩;obtain⟨K,al,am⟩:=o.box (c:=l.n) (by simp only[go_sem]) (by omega) (fun h=>by have:=q.2 _ h;omega);have L:=(n.x f (w0 _ _ m)).trans m;have P:decide ((0:Int)<((1:Nat):Int))=true:=J;have a0:decide ((1:Int)<((1:Nat):Int))=false:=J;have a1:f_ .i64 ((0:Int)+1)=1:=by rw[Ap]<;>omega
 simp only[go_sem,V,K];refine Cq ?_;simp only[go_sem,h_,P,L];refine Aa (CH h n [32] [] (by simp[Sm.tx,BZ]at j;simp;omega)) ?_;rintro _ an ao ⟨rfl,ap,a2,a3⟩;simp only[go_sem,V,a1];refine Cq ?_;simp only[go_sem,V,a0];refine Aa (a2.put (parts:=[[59,10]]) J (by simp[Sm.tx,BZ]at j;simp;omega) (by show 1<2^60;decide)) ?_;rintro _ aq ar ⟨rfl,a4,a5,a6⟩;simp only[go_sem];exact⟨J,a4,by simpa[Sm.tx,BZ]using a5,((F.trans o).trans a3).trans a6⟩
theorem Asz(a:Xp)(e:Bl)(b:Nat)(s:A2 N b ((Sm.Kv a e).fl b))(j:B9 247 h0 d g i (top b a.sz) a.tx)(u:B9 45 h0 d g i (top (b+a.sz) (e.sz+1)) (Jk e)):B9 83 h0 d g i ((b+(a.sz+(e.sz+1)):Nat):Int) (Sm.Kv a e).tx:=by
 intro l a6 a7 f m;have v:=f.r.lt f.w;obtain⟨a8,a9,w,aa,ab,ac,ad,rfl,x,ae,y,z,k,A,af⟩:=f.D7 w0 t (s.last (n:=a.sz+(e.sz+1)) (by simp only[a_,a.Af b,e.Af,Z,M]));rcases k with k|⟨h,rfl,rfl,F,K⟩
 ·cases k
 have o:l.get h=Y (.cells [I (top b a.sz),I (top (b+a.sz) (e.sz+1))]):=F;have p:h0.get h=Y (.cells [I (top b a.sz),I (top (b+a.sz) (e.sz+1))]):=K;have L:=f.w _ _ o;obtain⟨P,a0⟩:=f.P3 (.cells [I 0,I 0,I 0,S [],.slice W 0 0]) (.cells [I 16,I w,I 0,S [],.slice (Y ⟨h,0,W⟩) 2 1]);refine eF x_ ?_;simp only[go_sem,V,d_,A,x,y,z,Z,M];simp only[go_sem,h_,o,L];refine Aa (CH j P [119,104,105,108,101,32] [] (by simp[Sm.tx,E6]at m;simp;omega)) ?_;rintro _ ag ah ⟨rfl,ai,q,r⟩;obtain⟨a1,aj,ak⟩:=r.box (c:=l.n) (by simp only[go_sem]) (by omega) (fun j=>by have:=v.2 _ j;omega);have a2:=(q.x h (w0 _ _ p)).trans p;simp only[go_sem,h_,a1,a2];refine Aa (u q (by simp[Sm.tx,E6]at m;simp[Jk];omega)) ?_;rintro _ al am ⟨rfl,a3,a4,a5⟩;simp only[go_sem];exact⟨J,a3,by simpa[Sm.tx,E6,Jk]using a4,(a0.trans r).trans a5⟩
theorem As5(a:Xp)(e:Bl)(b:Nat)(w:A2 N b ((Sm.KD a e).fl b))(k:B9 247 h0 d g i (top b a.sz) a.tx)(x:B9 45 h0 d g i (top (b+a.sz) (e.sz+1)) (Jk e)):B9 83 h0 d g i ((b+(a.sz+(e.sz+1)):Nat):Int) (Sm.KD a e).tx:=by
 intro l aa ab f o;have y:=f.r.lt f.w;obtain⟨ac,ad,z,ae,af,ag,ah,rfl,A,ai,F,K,m,L,aj⟩:=f.D7 w0 t (w.last (n:=a.sz+(e.sz+1)) (by simp only[a_,a.Af b,e.Af,Z,M]));rcases m with m|⟨h,rfl,rfl,P,a0⟩
 ·cases m
 have p:l.get h=Y (.cells [I (top b a.sz),I (top (b+a.sz) (e.sz+1))]):=P;have j:h0.get h=Y (.cells [I (top b a.sz),I (top (b+a.sz) (e.sz+1))]):=a0;have a1:=f.w _ _ p;obtain⟨a2,a3⟩:=f.P3 (.cells [I 0,I 0,I 0,S [],.slice W 0 0]) (.cells [I 15,I z,I 0,S [],.slice (Y ⟨h,0,W⟩) 2 1]);refine eF x_ ?_;simp only[go_sem,V,d_,L,A,F,K,Z,M];simp only[go_sem,h_,p,a1];refine Aa (CH k a2 [105,102,32] [] (by simp[Sm.tx,NT]at o;simp;omega)) ?_;rintro _ ak al ⟨rfl,am,q,r⟩;obtain⟨s,a4,a5⟩:=r.box (c:=l.n) (by simp only[go_sem]) (by omega) (fun k=>by have:=y.2 _ k;omega);have a6:=(q.x h (w0 _ _ j)).trans j;simp only[go_sem,h_,s,a6];refine Aa (x q (by simp[Sm.tx,NT]at o;simp[Jk];omega)) ?_;rintro _ an ao ⟨rfl,a7,u,v⟩;obtain⟨a8,ap,aq⟩:=v.box (c:=l.n) a4 (by omega) a5;have ar:=(u.x h (w0 _ _ j)).trans j;have a9:decide ((0:Int)<((0:Nat):Int))=false:=J;simp only[go_sem,V,a8,s,Nat.sub_self,b_];refine Cq ?_;simp only[go_sem,V,a9];exact⟨J,a7,by simpa[Sm.tx,NT,Jk]using u,(a3.trans r).trans v⟩
theorem As4(a:Xp)(e c:Bl)(b:Nat)(w:A2 N b ((Sm.FP a e c).fl b))(l:B9 247 h0 d g i (top b a.sz) a.tx)(x:B9 45 h0 d g i (top (b+a.sz) (e.sz+1)) (Jk e))(y:B9 45 h0 d g i (top (b+a.sz+(e.sz+1)) (c.sz+1)) (Jk c)):B9 83 h0 d g i ((b+(a.sz+(e.sz+1)+(c.sz+1)):Nat):Int) (Sm.FP a e c).tx:=by
 intro m ai aj f j;have z:=f.r.lt f.w;obtain⟨ak,al,A,am,an,ao,ap,rfl,F,aq,K,L,o,P,ar⟩:=f.D7 w0 t (w.last (n:=a.sz+(e.sz+1)+(c.sz+1)) (by simp only[a_,a.Af b,e.Af,c.Af,Z,M]));rcases o with o|⟨h,rfl,rfl,a0,a1⟩
 ·cases o
 have p:m.get h=Y (.cells [I (top b a.sz),I (top (b+a.sz) (e.sz+1)),I (top (b+a.sz+(e.sz+1)) (c.sz+1))]):=a0;have k:h0.get h=Y (.cells [I (top b a.sz),I (top (b+a.sz) (e.sz+1)),I (top (b+a.sz+(e.sz+1)) (c.sz+1))]):=a1;have a2:=f.w _ _ p;obtain⟨a3,a4⟩:=f.P3 (.cells [I 0,I 0,I 0,S [],.slice W 0 0]) (.cells [I 15,I A,I 0,S [],.slice (Y ⟨h,0,W⟩) 3 1]);refine eF x_ ?_;simp only[go_sem,V,d_,P,F,K,L,Z,M];simp only[go_sem,h_,p,a2];refine Aa (CH l a3 [105,102,32] [] (by simp[Sm.tx,NT]at j;simp;omega)) ?_;rintro _ au av ⟨rfl,aw,q,r⟩;obtain⟨s,a5,a6⟩:=r.box (c:=m.n) (by simp only[go_sem]) (by omega) (fun l=>by have:=z.2 _ l;omega);have a7:=(q.x h (w0 _ _ k)).trans k;simp only[go_sem,h_,s,a7];refine Aa (x q (by simp[Sm.tx,NT]at j;simp[Jk];omega)) ?_;rintro _ ax ay ⟨rfl,az,u,v⟩;obtain⟨a8,aA,aB⟩:=v.box (c:=m.n) a5 (by omega) a6;have a9:=(u.x h (w0 _ _ k)).trans k;have aa:decide ((0:Int)<((1:Nat):Int))=true:=J;have ab:decide ((1:Int)<((1:Nat):Int))=false:=J;have ac:f_ .i64 ((0:Int)+1)=1:=by rw[Ap]<;>omega
 simp only[go_sem,V,a8,s,N_,aa_,b_];refine Cq ?_;simp only[go_sem,h_,aa,a9];refine Aa (u.put (parts:=[[101,108,115,101]]) J (by simp[Sm.tx,NT,Ed]at j;simp[Jk];omega) (by show 1<2^60;decide)) ?_;rintro _ aC aD ⟨rfl,aE,ad,ae⟩;simp only[go_sem,V];refine Aa (y ad (by simp[Sm.tx,NT,Ed]at j;simp[Jk];omega)) ?_;rintro _ aF aG ⟨rfl,af,ag,ah⟩;simp only[go_sem,V,ac];refine Cq ?_;simp only[go_sem,V,ab];exact⟨J,af,by simpa[Sm.tx,NT,Ed,Jk]using ag,(((a4.trans r).trans v).trans ae).trans ah⟩
end
set_option linter.unusedSectionVars false
theorem GN:∀(c:List Pm) (a:Nat) (b:Pm),c[a]? =Y b→sub? (Bi c) (a*2) 2=Y [S b.1,I b.2]
 |[],_,_,e=>by cases e
 |x::c,0,b,e=>by
  cases e;rw[K_,BK,Bn (by simp[Bi])];rfl
 |x::c,a+1,b,e=>by
  have f:=GN c a b (by simpa using e);rw[show(a+1)*2=a*2+1+1 by omega];exact f
section
variable{h0:AH}{d:Nat}{g j:Value}{N:List Nd}
variable(w0:Wh h0)(t:Fx h0 g N)
include w0 t
mutual
theorem Av7:∀(m:Sm),m.A6→∀(a:Nat),m.sz<2^60→A2 N a (m.fl a)→B9 83 h0 d g j (top a m.sz) m.tx
 |.lt b e,f,a,h,c=>Av8 w0 t b (by have:=f.1.2.2.2;omega) e a c (Agl w0 t e f.2 a (by simp only[Sm.sz]at h;omega) c.left)
 |.set b e,f,a,h,c=>As0 w0 t b (by have:=f.1.2.2.2;omega) e a c (Agl w0 t e f.2 a (by simp only[Sm.sz]at h;omega) c.left)
 |.put b i e,f,a,h,c=>As3 w0 t b (by have:=f.1.2.2.2;omega) i e a c (Gg w0 t i f.2.1 a c.left.left) (Gg w0 t e f.2.2 (a+i.sz) (by have:=c.left.right;rwa[i.Af a]at this))
 |.run b i,f,a,h,c=>As1 w0 t b i a c (Agl w0 t (.call b i) f a (by simp only[Sm.sz,Rg.sz]at h⊢;omega) c.left)
 |.print b,f,a,h,c=>Af2 w0 t b a c (Gg w0 t b f a c.left)
 |.Fa,_,a,_,c=>Alx w0 t a c
 |.ret b,f,a,h,c=>As2 w0 t b a c (Gg w0 t b f a c.left)
 |.Kv b e,f,a,h,c=>by
  have i:e.sz<2^60:=by simp only[Sm.sz]at h;omega
  have k:A2 N (a+b.sz) (e.fl (a+b.sz)++[nd 18 0 [] (e.AB (a+b.sz))]):=by have:=c.left.right;rwa[b.Af a]at this
  exact Asz w0 t b e a c (Gg w0 t b f.1 a c.left.left) (P5 w0 t e (a+b.sz) i k (MO e f.2 (a+b.sz) i k.left))
 |.KD b e,f,a,h,c=>by
  have i:e.sz<2^60:=by simp only[Sm.sz]at h;omega
  have k:A2 N (a+b.sz) (e.fl (a+b.sz)++[nd 18 0 [] (e.AB (a+b.sz))]):=by have:=c.left.right;rwa[b.Af a]at this
  exact As5 w0 t b e a c (Gg w0 t b f.1 a c.left.left) (P5 w0 t e (a+b.sz) i k (MO e f.2 (a+b.sz) i k.left))
 |.FP b e l,f,a,h,c=>by
  have i:e.sz<2^60:=by simp only[Sm.sz]at h;omega
  have n:l.sz<2^60:=by simp only[Sm.sz]at h;omega
  have k:A2 N (a+b.sz) (e.fl (a+b.sz)++[nd 18 0 [] (e.AB (a+b.sz))]):=by have:=c.left.left.right;rwa[b.Af a]at this
  have o:A2 N (a+b.sz+(e.sz+1)) (l.fl (a+b.sz+(e.sz+1))++[nd 18 0 [] (l.AB (a+b.sz+(e.sz+1)))]):=by have:=c.left.right;simp only[a_,b.Af a,e.Af,Z,M]at this;rwa[←Z_]at this
  exact As4 w0 t b e l a c (Gg w0 t b f.1 a c.left.left.left) (P5 w0 t e (a+b.sz) i k (MO e f.2.1 (a+b.sz) i k.left)) (P5 w0 t l _ n o (MO l f.2.2 _ n o.left))
theorem MO:∀(b:Bl),b.A6→∀(a:Nat),b.sz<2^60→A2 N a (b.fl a)→Aa6 h0 d g j b a
 |.nil,_,_,_,_=>trivial
 |.cons c i,e,a,f,h=>⟨Av7 c e.1 a (by simp only[Bl.sz]at f;omega) h.left,MO i e.2 (a+c.sz) (by simp only[Bl.sz]at f;omega) (by have:=h.right;rwa[c.Af a]at this)⟩
end
theorem Axx(a:Bl)(f:a.A6)(b:Nat)(c:a.sz<2^60)(e:A2 N b (a.fl b++[nd 18 0 [] (a.AB b)])):B9 45 h0 d g j ((b+a.sz:Nat):Int) (Jk a):=
 P5 w0 t a b c e (MO w0 t a f b c e.left)
omit w0 t in
theorem Ad2{e:AH}{B c:Nat}{obs:Option Nat}{r:Option X_}{s:Nat}{b:List Pm}{K:H}{L P a0:Int}(w0:Wh h0)(a1:e.get B=Y (.cells [AA d]))(a2:e.get c=Y (.cells [S K,I L,.slice r b.length s,I P,I a0]))(i:B<e.n∧B≠d∧obs≠Y B)(k:c<e.n∧c≠d∧obs≠Y c)
  (a3:b=[]∨∃f,r=Y ⟨f,0,W⟩∧s=2∧h0.get f=Y (.cells (Bi b))) (a4:∀a∈b,KS a):
  Uc 43 #[AA B,AA c] h0 e d obs g j (b.map Nz):=by
 intro l t u h a5 al m n a6;rw[G_]at u;obtain⟨a,o,rfl⟩:=ad_.1 u;have a7:l<b.length:=(c_.1 o).1;rcases a3 with rfl|⟨f,rfl,rfl,p⟩
 ·cases o
 have v:=a4 a (z_ o);have a8:QR a.2=Y (EY a.2):=by
  have a9:=v.2.1;have aa:=v.2.2;have:a.2=1∨a.2=2∨a.2=3∨a.2=4:=by omega
  unfold EY;rcases this with h|h|h|h<;>rw[h]<;>rfl
 have w:=(n.D2 B i.1 i.2.1 i.2.2).trans a1;have x:=(n.D2 c k.1 k.2.1 k.2.2).trans a2;have ab:=(m.x f (w0 _ _ p)).trans p;have y:=GN b l a o;have z:nth? (Bi b) (l*2)=Y (S a.1):=Gm y 0 (by decide);have ac:nth? (Bi b) (l*2+1)=Y (I a.2):=Gm y 1 (by decide);refine eF Tryz.func43 ?_;simp only[go_sem];refine AM m.w 0x131631000101500015015 ?_;simp only[go_sem,V,w,x,ab,a7,z,ac];refine Aj (Ok.wf m.w (Uo a8 h)) ?_;rintro _ a9 A ⟨ad,rfl,q⟩;have F:=m.ext A ad q;have ae:=CE.ext A q d a5;have af:=(q B (l_ i.1 n.n)).trans w;have ag:=(q c (l_ k.1 n.n)).trans x;have ah:=(F.x f (w0 _ _ p)).trans p;simp only[go_sem,V,af,ag,ah,z];refine Aj (F.put (parts:=[a.1,[32],EY a.2]) J (by simpa[Nz,Z_]using a6) (by show 3<2^60;decide)) ?_;rintro _ aa am ⟨rfl,ai,aj,ak⟩;simp only[go_sem];exact⟨J,ai,by simpa[Nz]using aj,ae.trans ak⟩
omit w0 t in
theorem Ae4{a:Int}(b:0≤a)(c:a≤4):QR a=Y (EY a):=by
 have:a=0∨a=1∨a=2∨a=3∨a=4:=by omega
 unfold EY;rcases this with h|h|h|h|h<;>rw[h]<;>rfl
theorem Axq(a:Fd)(f:a.A6){e:Nat}(a8:a.body.sz<2^60)(a9:A2 N e (a.body.fl e++[nd 18 0 [] (a.body.AB e)])){l:Int}{h:Option X_}{i:Nat}(aa:a.params=[]∨∃A,h=Y ⟨A,0,W⟩∧i=2∧h0.get A=Y (.cells (Bi a.params)))
  {b:AH} {q:Option Nat} {n:H} (m:Wr h0 b d q g j n) (k:n.length+a.tx.length≤1000000):
  AR 13 [AA d,.agg #[S a.name,I l,.slice h a.params.length i,I a.ret,I ((e+a.body.sz:Nat):Int)]] b (G6 h0 d g j q b (n++a.tx)):=by
 have F:=m.r.lt m.w;obtain⟨av,aw,ax,_⟩:=m.r.ex;have ab:=(m.new (.cells [AA d])).new (.cells [S a.name,I l,.slice h a.params.length i,I a.ret,I ((e+a.body.sz:Nat):Int)]);have ac:=(Ext.new b (.cells [AA d])).trans (k_ _) (Ext.new (b.new (.cells [AA d])) (.cells [S a.name,I l,.slice h a.params.length i,I a.ret,I ((e+a.body.sz:Nat):Int)]));have ad:=CE.ext (i_ (k_ b.n) (k_ _)) ac d q;simp only[Fd.tx,a_,Z,M]at k;refine eF Tryz.func13 ?_;simp only[go_sem,V];refine Aa (ab.put (parts:=[[102,110,32],a.name]) J (by simp[Gb]at k⊢;omega) (by show 2<2^60;decide)) ?_;rintro _ K ay ⟨rfl,ae,af,r⟩;obtain⟨ag,L,P⟩:=r.box (c:=b.n) (by simp only[go_sem]) (by omega) (fun s=>by have:=F.2 _ s;omega);obtain⟨ah,a0,a1⟩:=r.box (c:=b.n+1) (by simp only[go_sem];omega) (by omega) (fun s=>by have:=F.2 _ s;omega);have u:K.get b.n=Y (.cells [AA d]):=ag.trans (by simp only[go_sem]);have v:K.get (b.n+1)=Y (.cells [S a.name,I l,.slice h a.params.length i,I a.ret,I ((e+a.body.sz:Nat):Int)]):=ah.trans (by simp only[go_sem]);simp only[go_sem,V,u,v];have a2:=Agj (Ad2 (obs:=ae) w0 u v ⟨L,by omega,P⟩ ⟨a0,by omega,a1⟩ aa f.2.1) af (by simp[Gb]at k⊢;omega) (by have:=f.2.2.1;rw[D_];omega);rw[D_]at a2;refine Aa a2 ?_;rintro _ ai az ⟨rfl,aj,w,x⟩;obtain⟨n,a3,ak⟩:=x.box L (by omega) P;obtain⟨o,a4,al⟩:=x.box a0 (by omega) a1;rw[u]at n;rw[v]at o;simp only[go_sem];refine AM w.w 0x131631015 ?_;simp only[go_sem,V,n,o];refine Aj (Ok.wf w.w (Uo (Ae4 f.2.2.2.1 f.2.2.2.2.1) ai)) ?_;rintro _ aA a5 ⟨am,rfl,p⟩;have an:=w.ext a5 am p;have y:=CE.ext a5 p d aj;have ao:=(p _ a3).trans n;have aB:=(p _ a4).trans o;simp only[go_sem,V,ao];refine Aj (an.put (parts:=[EY a.ret]) J (by simp[Gb]at k⊢;omega) (by show 1<2^60;decide)) ?_;rintro _ aC aD ⟨rfl,aE,ap,z⟩;obtain⟨a6,aF,aG⟩:=(y.trans z).box a3 (by omega) ak;obtain⟨a7,aH,aI⟩:=(y.trans z).box a4 (by omega) al;rw[n]at a6;rw[o]at a7;simp only[go_sem,V,a6,a7];refine Aa (Axx w0 t a.body f.2.2.2.2.2 e a8 a9 ap (by simp[Gb]at k;simp[Jk];omega)) ?_;rintro _ aJ aK ⟨rfl,aq,ar,au⟩;simp only[go_sem];exact⟨J,aq,by simpa[Fd.tx,Gb,Jk]using ar,((((ad.trans r).trans x).trans y).trans z).trans au⟩
end
variable{a b c d:Nat}{f g h:AH}{v w:Value}{s t:List UInt8}{l m:List Value}{u:TypeId}{x y:Int}{p:List Nat}{q r:List Int}{e:Env}{o n:Option Addr}
def O3:e_:=.slice W 0 0
def Mb(d:AH)(e:e_)(f:List Fn):Prop:=
 ∃c:List MU,((c=[]∧e=.slice W 0 0)∨(∃g,e=.slice (Y ⟨g,0,W⟩) c.length 5∧d.get g=Y (.cells (Bu c))))∧c.length=f.length∧
  ∀(h:Nat) (b:Fn),f[h]? =Y b→∃a,c[h]? =Y a∧a.name=b.name∧a.ret=b.ret∧a.body=b.body∧a.pn=b.params.length∧((b.params=[]∧a.pa=W)∨∃i,a.pa=Y ⟨i,0,W⟩∧a.pk=2∧d.get i=Y (.cells (Bi b.params)))
theorem Mb.nil{c:List Fn}(d:Mb f v c)(e:c=[]):v=.slice W 0 0∨∃b,v=.slice (Y ⟨b,0,W⟩) 0 5:=by
 obtain⟨h,a,g,_⟩:=d;subst e;rcases a with⟨_,a⟩|⟨b,a,_⟩
 ·exact .inl a
 rw[g]at a;exact .inr ⟨b,a⟩
theorem Mb.slice{b:List Fn}(d:Mb f v b):∃e g,v=.slice e b.length g:=by
 obtain⟨i,a,c,_⟩:=d;rcases a with⟨h,a⟩|⟨j,a,_⟩
 ·subst h;exact⟨W,0,by rw[a,←c];rfl⟩
 exact⟨_,_,by rw[a,c]⟩
theorem Mb.node{h:List Fn}(q:Mb f v h)(j:Wh f)(m:Ext f g)(r:f.n≤g.n){b:Fn}(n:h[a]? =Y b):
  ∃c e l i k,v=.slice (Y ⟨c,0,W⟩) h.length 5∧g.get c=Y (.cells (Bu e))∧c<g.n∧a<h.length∧sub? (Bu e) (a*5) 5=Y [S b.name,I l,.slice i b.params.length k,I b.ret,I b.body]∧
   ((b.params=[]∧i=W)∨∃d,i=Y ⟨d,0,W⟩∧k=2∧g.get d=Y (.cells (Bi b.params))∧f.get d=Y (.cells (Bi b.params))):=by
 obtain⟨e,s,t,u⟩:=q;obtain⟨i,o,w,x,y,z,A⟩:=u a b n;have p:=K3 e a i o;simp only[MU.cells,w,x,y,z]at p;rcases s with⟨rfl,_⟩|⟨c,F,k⟩
 ·cases o
 refine⟨c,e,i.line,i.pa,i.pk,by rw[F,t],(m c (j _ _ k)).trans k,l_ (j _ _ k) r,(c_.1 n).1,p,?_⟩;rcases A with K|⟨d,L,N,l⟩
 ·exact .inl K
 exact .inr ⟨d,L,N,(m d (j _ _ l)).trans l,l⟩
theorem Aad:∀(f:List Fd) (b e:Nat) (a:Fd),f[e]? =Y a→∃c,(AK f b)[e]? =Y ⟨a.name,0,a.params,a.ret,((c+a.body.sz:Nat):Int)⟩∧∀{i:List Nd},A2 i b (Az f b)→A2 i c (a.body.fl c++[nd 18 0 [] (a.body.AB c)])
 |[],_,_,_,d=>by cases d
 |g::j,b,0,a,d=>by
  cases d;exact⟨b,J,fun h=>h.left⟩
 |g::j,b,e+1,a,d=>by
  obtain⟨c,k,l⟩:=Aad j (b+(g.body.sz+1)) e a (by simpa using d);refine⟨c,k,fun h=>l ?_⟩;have:=h.right;simp only[a_,g.body.Af,Z,M]at this;exact this
theorem JR:∀(a:List Fd) (b:Nat),(AK a b).length=a.length
 |[],_=>rfl
 |f::c,b=>by simp[AK,JR c]
theorem MQ:∀(b a:List Fd),Db (b++a)=Db b++Db a
 |[],_=>rfl
 |f::c,a=>by simp[Db,MQ c a]
theorem XQ{b:Nat}:∀{a:List Nat},b∈a→b≤a.sum
 |y::a,h=>by
  rcases u_.1 h with rfl|h
  ·simp
  have:=XQ h;simp;omega
theorem R1:∀a:H,bytesOf (AW a)=Y a
 |[]=>rfl
 |c::a=>by
  show(match bytesOf (AW a)with|some a=>Y ((c.toNat:Int).toNat.toUInt8::a)|none=>W)=_;rw[R1 a];simp
theorem Abl{e:Option Nat}{h i:e_}(c:Wr f g a e h i s)(j:s.length≤1000000):AR 14 [.pointer (Y ⟨a,2,W⟩)] g (fun k l=>k=S s∧Ext f l):=by
 obtain⟨w,x,d,_,m⟩:=c.r.ex;rcases m with⟨rfl,rfl,_⟩|⟨b,n,rfl,o,_,p⟩
 ·exact Ok.known K14 (v:=S []) (h1:=g) (by simp only[Hx,d];rfl) (b_ _) ⟨J,c.x⟩
 have y:=c.o b n;refine Ok.known K14 (v:=S s) (h1:=g.del b) ?_ (b_ _) ⟨J,fun q r=>(CL Ag).trans (c.x q r)⟩;have t:Nat.beq s.length 0=false:=by
  cases s with
  |nil=>exact absurd J p
  |cons _ _=>rfl
 have z:=ZR s;simp only[Hx,d];show Afl g ⟨b,0,W⟩ s.length (g.get b)=_;rw[o];show cond (!Nat.beq s.length 0&&(true&&(P_ (0+s.length) (AW s).length&&P_ s.length 1000000))) (match bytesOf (((AW s).drop 0).take s.length)with|some u=>Y (Ql u,g.del b)|none=>W) W=_;rw[t,R_ (show 0+s.length≤(AW s).length by omega),R_ j,af_,s_ (by omega),R1];rfl
theorem Aff{a:List Fd}(m:Wh f)(k:D6 a)(s:Fx f v (Az a 0))(t:Mb f w (AK a 0)):
  AR 7 [.agg #[v,w]] f (fun b u=>b=S (Db a)∧Ext f u):=by
 obtain⟨e,g,n⟩:=t.slice;refine eF Tryz.func7 ?_;subst n;have F:v.oneCell'=true∧Aq v=[v]:=by obtain⟨c,d,b,_⟩:=s;have:=b.one;exact⟨this.2.1,this.1⟩
 simp only[go_sem,V,F.1];have K:=JR a 0;have am:a.length≤6:=k.2.1;have an:=MP k.1;have ao:(a.map fun c=>c.body.sz+1).sum≤300:=by have:=k.2.2;rwa[IP]at this
 have L:A2 (Az a 0) 0 (Az a 0):=⟨[],[],by simp,J⟩;have N:Wh (((f.new (.cells [v,.slice e (AK a 0).length g])).new (.tc 60 [.slice W 0 0,.slice W 0 0,.pointer W,.slice W 0 0])).put (f.n+1) (.tc 60 [v,.slice e (AK a 0).length g,.pointer W,.slice W 0 0])):=
  Ar (Am (Am m _) _) (by simp only[go_sem];omega) _
 have P:Wr f (((f.new (.cells [v,.slice e (AK a 0).length g])).new (.tc 60 [.slice W 0 0,.slice W 0 0,.pointer W,.slice W 0 0])).put (f.n+1) (.tc 60 [v,.slice e (AK a 0).length g,.pointer W,.slice W 0 0])) (f.n+1) W v (.slice e (AK a 0).length g) []:=
  ⟨N,⟨W,_,by simp only[go_sem],.inl J,.inl ⟨J,J,J⟩⟩,fun h b=>by simp only[go_sem,b],by omega,fun i d=>(by cases d),by simp only[go_sem];omega⟩
 refine AG (fun(d:Nat×Option Nat) i x=>Wr f x (f.n+1) d.2 v (.slice e (AK a 0).length g) (Db (a.take d.1))∧d.1≤a.length∧i.at 3=AA (f.n+1)∧i.at 9=.slice e (AK a 0).length g∧i.at 10=I a.length∧i.at 11=I d.1) (fun d=>a.length-d.1) ?_ (0,W) ?_
 ·rintro⟨b,ap⟩ i x ⟨h,a0,o,y,p,l⟩ z
  dsimp only at h a0 l z;by_cases A:b<a.length
  ·have q:decide ((b:Int)<a.length)=true:=Gu
   have j:a[b]? =Y a[b]:=g_ A;generalize aq:a[b]=c at j;obtain⟨a1,a2,a3⟩:=Aad a 0 b c j;obtain⟨ar,au,a4,a5,a6,n,a7,av,r,a8,a9⟩:=t.node m h.x h.hn a2;injection n with aa _ ab
   subst aa ab;have ac:=k.1 c (z_ j);have ad:c.body.sz<2^60:=by have u:c.body.sz+1≤(a.map fun c=>c.body.sz+1).sum:=XQ (List.mem_map.2 ⟨c,z_ j,J⟩);omega
   have ae:a.take (b+1)=a.take b++[c]:=by rw[ao_,j];rfl
   have u:Db (a.take (b+1))=Db (a.take b)++c.tx:=by rw[ae,MQ];simp[Db]
   have af:(Db (a.take (b+1))).length≤(Db a).length:=by have:=Akv (fun ag=>(Db ag).length) (Q_ (b+1) a);simp only[MQ,a_]at this;omega
   rw[u,a_]at af;have ag:f_ .i64 ((b:Int)+1)=((b+1:Nat):Int):=by rw[Ap]<;>omega
   simp only[go_sem,V,o,y,p,l,q,r,a7,a8];have ah:=h.P3 (.cells [S [],I 0,.slice W 0 0,I 0,I 0]) (.cells [S c.name,I a4,.slice a5 c.params.length a6,I c.ret,I ((a1+c.body.sz:Nat):Int)]);refine Aa (Axq m s c ac ad (a3 L) (by
    rcases a9 with d|⟨ai,aj,ak,_,al⟩
    ·exact .inl d.1
    exact .inr ⟨ai,aj,ak,al⟩) ah.1 (by omega)) ?_
   rintro _ ak al ⟨rfl,ai,aj,aw⟩;simp only[go_sem,V,l,ag];refine z (b+1,ai) _ _ ⟨by rw[u];exact aj,A,?_,?_,?_,?_⟩ (by show a.length-(b+1)<a.length-b;omega)
   ·simp only[go_sem,V,o]
   ·simp only[go_sem,V,y]
   ·simp only[go_sem,V,p]
   simp only[go_sem]
  have r:b=a.length:=by omega
  subst r;have q:decide (((a.length:Nat):Int)<a.length)=false:=Gv;simp only[go_sem,V,o,p,l,q];rw[ar_]at h;refine Aa (Abl h (by omega)) ?_;rintro _ u _ ⟨rfl,j⟩;simp only[go_sem];exact j
 refine⟨P,m_ _,?_,?_,?_,?_⟩<;>simp only[go_sem,V,K]
 rfl
structure Vr where
 name:H
 type:Int
 slot:Int
structure Ay where
 e:Int
 pos:Int
 types:List Int
 Ac:List Int
 fns:List Int
 size:List Int
 fn:Int
 vars:List Vr
 sz:Int
def Ay.ask(a:Ay)(b:Bool)(er c:Int):Ay:=bif !b&&(a.e==0)then{a with e:=er,pos:=c}else a
def Ay.AD(a:Ay)(b:Nat):Ay:={a with fns:=a.fns.set b a.fn}
def Ay.typeAt(a:Ay)(b:Nat)(c:Int):Ay:={a with types:=a.types.set b c}
def Ay.CZ(a:Ay)(b:Nat)(c:Int):Ay:={a with Ac:=a.Ac.set b c}
def Ay.put(s:Ay)(a:H)(t:Int):Ay:={s with vars:=s.vars++[⟨a,t,s.sz⟩],sz:=s.sz+1}
def B7(a:H):List Vr→Option Vr
 |[]=>W
 |v::b=>bif v.name==a then Y v else B7 a b
def Ay.named(a:Ay)(d:H)(b:Nat):Int×Ay:=
 match B7 d a.vars with
 |some c=>(c.type,a.CZ b c.slot)
 |none=>(0,(a.ask false 40 b).CZ b 0)
def Ay.Gq(a:Ay)(b:Nat)(c:Ay→Int×Ay):Int×Ay:=
 bif a.e !=0 then(0,a)else((c (a.AD b)).1,(c (a.AD b)).2.typeAt b (c (a.AD b)).1)
def YB(sg:H)(a:Int):Int:=
 bif sg==[124,124]||sg==[38,38]then(bif a==2 then 2 else 0)
 else bif sg==[60]||sg==[60,61]then(bif a==1 then 2 else 0)
 else bif sg==[61,61]||sg==[33,61]then(bif a==1||a==2||a==3 then 2 else 0)
 else bif sg==[43]then(bif a==1||a==3 then a else 0)
 else(bif a==1 then a else 0)
def Xp.ck:Xp→Nat→Ay→Int×Ay
 |.int _,b,a=>a.Gq b fun a=>(1,a)
 |.bool _,b,a=>a.Gq b fun a=>(2,a)
 |.text _,b,a=>a.Gq b fun a=>(3,a)
 |.var d,b,a=>a.Gq b fun a=>a.named d b
 |.index d c,b,a=>a.Gq (b+c.sz) fun a=>
  (1,(c.ck b (a.named d (b+c.sz)).2).2.ask (((a.named d (b+c.sz)).1==4)&&((c.ck b (a.named d (b+c.sz)).2).1==1)) 42 ((b+c.sz:Nat):Int))
 |.len c,b,a=>a.Gq (b+c.sz) fun a=>(1,(c.ck b a).2.ask ((c.ck b a).1==3||(c.ck b a).1==4) 42 ((b+c.sz:Nat):Int))
 |.neg c,b,a=>a.Gq (b+c.sz) fun a=>(1,(c.ck b a).2.ask ((c.ck b a).1==1) 42 ((b+c.sz:Nat):Int))
 |.no c,b,a=>a.Gq (b+c.sz) fun a=>(2,(c.ck b a).2.ask ((c.ck b a).1==2) 42 ((b+c.sz:Nat):Int))
 |.bin sg c d,b,a=>a.Gq (b+(c.sz+d.sz)) fun a=>
  ((bif (c.ck b a).1==(d.ck (b+c.sz) (c.ck b a).2).1 then YB sg (c.ck b a).1 else 0),
   (d.ck (b+c.sz) (c.ck b a).2).2.ask ((bif (c.ck b a).1==(d.ck (b+c.sz) (c.ck b a).2).1 then YB sg (c.ck b a).1 else 0) !=0) 42 ((b+(c.sz+d.sz):Nat):Int))
def LX:List Xp→Nat→Ay→List Int×Ay
 |[],_,a=>([],a)
 |e::c,b,a=>((e.ck b a).1::(LX c (b+e.sz) (e.ck b a).2).1,(LX c (b+e.sz) (e.ck b a).2).2)
def K6(b:Int):List Int→List Pm→Ay→Ay
 |c::d,e::f,a=>K6 b d f (a.ask (c==e.2) 42 b)
 |_,_,a=>a
def findF(a:H):List Fn→Option Fn
 |[]=>W
 |f::b=>bif f.name==a then Y f else findF a b
def LS(e:List Fn)(f:H)(a:List Xp)(b:Nat)(c:Ay):Int×Ay:=
 match findF f e with
 |none=>(0,c.ask false 40 ((b+Dq a:Nat):Int))
 |some d=>(d.ret,K6 ((b+Dq a:Nat):Int) (LX a b c).1 d.params ((LX a b c).2.ask (a.length==d.params.length) 43 ((b+Dq a:Nat):Int)))
def Rg.ck(e:List Fn):Rg→Nat→Ay→Int×Ay
 |.input,b,a=>a.Gq b fun a=>(1,a)
 |.new c,b,a=>a.Gq (b+c.sz) fun a=>(4,(c.ck b a).2.ask ((c.ck b a).1==1) 42 ((b+c.sz:Nat):Int))
 |.call f d,b,a=>a.Gq (b+Dq d) fun a=>LS e f d b a
 |.expr c,b,a=>c.ck b a
def Fv(a:List Fn)(b:Ay):Int:=match a[b.fn.toNat]? with
 |some c=>c.ret
 |none=>0
def Ay.LC(a:Ay)(c:H)(d:Int)(b:Nat):Ay:=
 ((((a.ask (d !=0) 42 b).ask (!(B7 c a.vars).isSome) 41 b).ask (decide (a.sz<24)) 4 b).CZ b a.sz).put c d
def Ay.CN(a:Ay)(b:Nat)(c:Ay→Ay):Ay:={c (a.AD b)with vars:=(c (a.AD b)).vars.take a.vars.length}
mutual
def Sm.ck(e:List Fn):Sm→Nat→Ay→Ay
 |.lt f c,a,b=>(c.ck e a (b.AD (a+c.sz))).2.LC f (c.ck e a (b.AD (a+c.sz))).1 (a+c.sz)
 |.set f c,a,b=>(c.ck e a ((b.AD (a+c.sz)).named f (a+c.sz)).2).2.ask ((c.ck e a ((b.AD (a+c.sz)).named f (a+c.sz)).2).1==((b.AD (a+c.sz)).named f (a+c.sz)).1) 42 ((a+c.sz:Nat):Int)
 |.put f c d,a,b=>
  (d.ck (a+c.sz) (c.ck a ((b.AD (a+(c.sz+d.sz))).named f (a+(c.sz+d.sz))).2).2).2.ask
   ((((b.AD (a+(c.sz+d.sz))).named f (a+(c.sz+d.sz))).1==4)&&((c.ck a ((b.AD (a+(c.sz+d.sz))).named f (a+(c.sz+d.sz))).2).1==1)&&((d.ck (a+c.sz) (c.ck a ((b.AD (a+(c.sz+d.sz))).named f (a+(c.sz+d.sz))).2).2).1==1)) 42 ((a+(c.sz+d.sz):Nat):Int)
 |.run f c,a,b=>(Rg.ck e (.call f c) a (b.AD (a+(Dq c+1)))).2
 |.print c,a,b=>(c.ck a (b.AD (a+c.sz))).2.ask ((c.ck a (b.AD (a+c.sz))).1 !=4) 42 ((a+c.sz:Nat):Int)
 |.Fa,a,b=>(b.AD a).ask (false==(Fv e b !=0)) 43 (a:Int)
 |.ret c,a,b=>
  (c.ck a ((b.AD (a+c.sz)).ask (true==(Fv e b !=0)) 43 ((a+c.sz:Nat):Int))).2.ask
   ((c.ck a ((b.AD (a+c.sz)).ask (true==(Fv e b !=0)) 43 ((a+c.sz:Nat):Int))).1==Fv e b) 42 ((a+c.sz:Nat):Int)
 |.Kv c d,a,b=>
  let f:=(c.ck a (b.AD (a+(c.sz+(d.sz+1))))).2.ask ((c.ck a (b.AD (a+(c.sz+(d.sz+1))))).1==2) 42 ((a+(c.sz+(d.sz+1)):Nat):Int)
  bif f.e==0 then f.CN (a+c.sz+d.sz) (fun b=>d.ck e (a+c.sz) b)else f
 |.KD c d,a,b=>
  let f:=(c.ck a (b.AD (a+(c.sz+(d.sz+1))))).2.ask ((c.ck a (b.AD (a+(c.sz+(d.sz+1))))).1==2) 42 ((a+(c.sz+(d.sz+1)):Nat):Int)
  bif f.e==0 then f.CN (a+c.sz+d.sz) (fun b=>d.ck e (a+c.sz) b)else f
 |.FP c d g,a,b=>
  let f:=(c.ck a (b.AD (a+(c.sz+(d.sz+1)+(g.sz+1))))).2.ask ((c.ck a (b.AD (a+(c.sz+(d.sz+1)+(g.sz+1))))).1==2) 42 ((a+(c.sz+(d.sz+1)+(g.sz+1)):Nat):Int)
  let h:=bif f.e==0 then f.CN (a+c.sz+d.sz) (fun b=>d.ck e (a+c.sz) b)else f
  bif h.e==0 then h.CN (a+c.sz+(d.sz+1)+g.sz) (fun b=>g.ck e (a+c.sz+(d.sz+1)) b)else h
def Bl.ck(b:List Fn):Bl→Nat→Ay→Ay
 |.nil,_,a=>a
 |.cons c e,d,a=>e.ck b (d+c.sz) (bif a.e==0 then c.ck b d a else a)
end
def E0(c:Int):List Pm→Ay→Ay
 |[],a=>a
 |b::d,a=>E0 c d ((a.ask (!(B7 b.1 a.vars).isSome) 41 c).put b.1 b.2)
def VQ(f:List Fn)(g:Nat)(a:Fd)(b:Nat)(c:Ay):Ay:=
 let d:=E0 ((b+a.body.sz:Nat):Int) a.params {c with fn:=g,vars:=[],sz:=0}
 let e:=bif d.e==0 then d.CN (b+a.body.sz) (fun c=>a.body.ck f b c)else d
 {e with size:=e.size++[e.sz]}
def HP(b:List Fn):Nat→List Fd→Nat→Ay→Ay
 |_,[],_,a=>a
 |c,d::f,e,a=>HP b (c+1) f (e+(d.body.sz+1)) (bif a.e==0 then VQ b c d e a else a)
def KA:H:=[109,97,105,110]
def DP:List Fn→List H→Bool→Ay→Ay
 |[],_,a,b=>b.ask a 44 0
 |f::c,seen,a,b=>DP c (f.name::seen) (a||(f.name==KA&&(f.params.length==0)&&(f.ret==0))) (b.ask (!seen.contains f.name) 41 f.body)
def ck0(a:Nat):Ay:=⟨0,0,List.replicate a 0,List.replicate a (-1),List.replicate a 0,[],0,[],0⟩
def Aw(a:List Fd):Ay:=HP (AK a 0) 0 a 0 (DP (AK a 0) [] false (ck0 (Az a 0).length))
structure Lc where
 cb:Nat
 tb:Nat
 sb:Nat
 fb:Nat
 m:Nat
structure Lc.Ok(L:Lc):Prop where
 ct:(L.tb==L.cb)=false
 cs:(L.sb==L.cb)=false
 cf:(L.fb==L.cb)=false
 ts:(L.sb==L.tb)=false
 tf:(L.fb==L.tb)=false
 sf:(L.fb==L.sb)=false
theorem EW(h:(a==b)=false):(b==a)=false:=Ag fun c=>AF h c.symm
def Bt:List Vr→E
 |[]=>[]
 |v::a=>S v.name::I v.type::I v.slot::Bt a
theorem D3:∀(a b:List Vr),Bt (a++b)=Bt a++Bt b
 |[],_=>rfl
 |c::a,b=>by simp[Bt,D3 a b]
theorem FU:∀a:List Vr,(Bt a).length=a.length*3
 |[]=>rfl
 |b::a=>by simp[Bt,FU a];omega
theorem IB:∀(c:List Vr) (all:E) (b:Nat) (a:Vr),c[b]? =Y a→sub? (Bt c++all) (b*3) 3=Y [S a.name,I a.type,I a.slot]
 |[],_,_,_,h=>by cases h
 |x::c,all,0,a,h=>by
  cases h;rw[K_,BK,Bn (by simp[Bt])];rfl
 |x::c,all,b+1,a,h=>by
  have e:=IB c all b a (by simpa using h);rw[show(b+1)*3=b*3+1+1+1 by omega];exact e
def L1(h:AH)(c:e_)(a:List Vr)(e:List Nat):Prop:=
 (a=[]∧c=.slice W 0 0∧e=[])∨(∃b all,c=.slice (Y ⟨b,0,W⟩) a.length 3∧e=[b]∧h.get b=Y (.cells (Bt a++all)))
def QK(h:AH)(c:e_)(a:List Int)(e:List Nat):Prop:=
 (a=[]∧c=.slice W 0 0∧e=[])∨(∃b,c=.slice (Y ⟨b,0,W⟩) a.length 1∧e=[b]∧h.get b=Y (.cells (a.map fun i=>I i)))
def AJ(L:Lc)(nv fv a b:e_)(s:Ay):E:=
 [I s.e,I s.pos,nv,fv,.slice (Y ⟨L.tb,0,W⟩) s.types.length 1,.slice (Y ⟨L.sb,0,W⟩) s.Ac.length 1,.slice (Y ⟨L.fb,0,W⟩) s.fns.length 1,a,I s.fn,b,I s.sz]
def Acv(L:Lc)(b:List Nat):Prop:=∀a∈b,a≠L.cb∧a≠L.tb∧a≠L.sb∧a≠L.fb
structure Ayp(L:Lc)(nv fv:e_)(s:Ay)(g:List Nat)(h:AH):Prop where
 ex:∃zv vv zs vs,g=L.cb::L.tb::L.sb::L.fb::(zs++vs)∧h.get L.cb=Y (.cells (AJ L nv fv zv vv s))∧h.get L.tb=Y (.cells (s.types.map fun x=>I x))∧h.get L.sb=Y (.cells (s.Ac.map fun x=>I x))∧
  h.get L.fb=Y (.cells (s.fns.map fun x=>I x))∧QK h zv s.size zs∧L1 h vv s.vars vs∧Acv L zs∧Acv L vs∧(∀c∈zs,c∉vs)∧s.types.length=L.m∧s.Ac.length=L.m∧s.fns.length=L.m
theorem QK.lt{h:AH}(c:QK h v q p)(e:Wh h):∀a∈p,a<h.n:=by
 rcases c with⟨_,_,rfl⟩|⟨j,_,rfl,i⟩
 ·intro a b;cases b
 intro a b;rcases q_.1 b with rfl;exact e _ _ i
theorem L1.lt{h:AH}{c:List Vr}(e:L1 h v c p)(i:Wh h):∀a∈p,a<h.n:=by
 rcases e with⟨_,_,rfl⟩|⟨k,_,_,rfl,j⟩
 ·intro a b;cases b
 intro a b;rcases q_.1 b with rfl;exact i _ _ j
theorem QK.same{h h1:AH}(a:QK h v q p)(e:∀b∈p,h1.get b=h.get b):QK h1 v q p:=by
 rcases a with a|⟨c,i,rfl,j⟩
 ·exact .inl a
 exact .inr ⟨c,i,J,(e c (q_.2 J)).trans j⟩
theorem L1.same{h h1:AH}{b:List Vr}(a:L1 h v b p)(i:∀c∈p,h1.get c=h.get c):L1 h1 v b p:=by
 rcases a with a|⟨e,all,j,rfl,k⟩
 ·exact .inl a
 exact .inr ⟨e,all,j,J,(i e (q_.2 J)).trans k⟩
theorem QK.one{h:AH}(a:QK h v q p):Aq v=[v]∧v.oneCell'=true:=by rcases a with⟨_,rfl,_⟩|⟨b,rfl,_⟩<;>exact⟨J,J⟩
theorem L1.one{h:AH}{a:List Vr}(b:L1 h v a p):Aq v=[v]∧v.oneCell'=true:=by rcases b with⟨_,rfl,_⟩|⟨c,_,rfl,_⟩<;>exact⟨J,J⟩
theorem L1.slice{h:AH}{a:List Vr}(b:L1 h v a p):∃c e,v=.slice c a.length e:=by rcases b with⟨rfl,rfl,_⟩|⟨i,_,rfl,_⟩<;>exact⟨_,_,J⟩
def BB(L:Lc)(nv fv:e_):Kd Ay where
 R s g h:=Ayp L nv fv s g h
 lt:=by
  rintro s g h b ⟨m,n,o,p,rfl,a,i,d,j,k,l,_⟩ c e;simp only[u_,I_]at e;rcases e with rfl|rfl|rfl|rfl|e|e
  ·exact b _ _ a
  ·exact b _ _ i
  ·exact b _ _ d
  ·exact b _ _ j
  ·exact k.lt b c e
  exact l.lt b c e
 same:=by rintro s g h q ⟨m,n,o,p,rfl,a,i,d,j,k,l,e⟩ b;refine⟨m,n,o,p,rfl,(b _ (by simp)).trans a,(b _ (by simp)).trans i,(b _ (by simp)).trans d,(b _ (by simp)).trans j,k.same fun c a=>b c (by simp[a]),l.same fun c a=>b c (by simp[a]),e⟩
section
variable{L:Lc}{nv fv:Value}{d h0 h:AH}{f g:List Nat}{s:Ay}
theorem Hr.Ajo(n:L.Ok)(c:Hr (BB L nv fv) d h0 f h g s):∃e k o p,k=.slice o s.vars.length p∧h.get L.cb=Y (.cells (AJ L nv fv e k s))∧L.cb<h.n∧Aq e=[e]∧e.oneCell'=true∧
  ∀i j,Wh j→h.n≤j.n→j.get L.cb=Y (.cells (AJ L nv fv e k i))→(∀a,a<h.n→a≠L.cb→j.get a=h.get a)→
   i.types=s.types→i.Ac=s.Ac→i.fns=s.fns→i.size=s.size→i.vars=s.vars→Hr (BB L nv fv) d h0 f j g i:=by
 obtain⟨e,k,A,F,rfl,b,r,t,u,m,q,v,w,K,N⟩:=c.r;obtain⟨o,p,P⟩:=q.slice;refine⟨e,k,o,p,P,b,c.w _ _ b,m.one.1,m.one.2,fun i j a0 a1 a2 l x y z a3 a4=>c.MZ a0 a1 ?_ (fun a b=>.inl b) fun a j a5=>l a j fun a6=>a5 (by simp[a6])⟩;refine⟨e,k,A,F,J,a2,?_,?_,?_,?_,?_,v,w,K,by rw[x,y,z];exact N⟩
 ·rw[x];exact(l _ (c.w _ _ r) (AF n.ct)).trans r
 ·rw[y];exact(l _ (c.w _ _ t) (AF n.cs)).trans t
 ·rw[z];exact(l _ (c.w _ _ u) (AF n.cf)).trans u
 ·rw[a3];exact m.same fun a b=>l a (m.lt c.w a b) (v a b).1
 rw[a4];exact q.same fun a b=>l a (q.lt c.w a b) (w a b).1
theorem BJ(n:L.Ok)(a:Hr (BB L nv fv) d h0 f h g s)(j:Bool)(b c:Int):AR 79 [AA L.cb,.bool j,I b,I c] h (Jn (BB L nv fv) d h0 f h g (s.ask j b c) (.tuple #[])):=by
 refine a.walk fun a=>?_;obtain⟨q,r,t,u,rfl,k,l,_,_,o⟩:=a.Ajo n;refine eF Tryz.func79 ?_;unfold AJ at k;cases j with
 |true=>
  simp only[go_sem,V,av_];exact⟨_,a⟩
 |false=>
  cases i:(s.e==0)with
  |false=>
   simp only[go_sem,V,V_,k,i];refine⟨g,?_⟩;simpa only[Ay.ask,i,Bool.and_false,Acf]using a
  |true=>
   simp only[go_sem,V,V_,k,i];have p:s.ask false b c={s with e:=b,pos:=c}:=by simp only[Ay.ask,i,V_,ax_,Aa9]
   rw[p];exact⟨_,o _ _ (Ar (Ar a.w l _) l _) (b_ _) (Ai _ _) (fun v _ m=>by rw[Ab _ (Ag m),Ab _ (Ag m)]) J J J J J⟩
theorem Gj(c:Int)(e:a<q.length):spl? (q.map fun b=>I b) a [I c]=Y ((q.set a c).map fun b=>I b):=by rw[Hj (by simp;omega),Om _ (by simpa using e),List.map_set]
theorem Hr.B4(a:Hr (BB L nv fv) d h0 f h g s):∃c e i,h.get L.cb=Y (.cells (AJ L nv fv c (.slice e s.vars.length i) s))∧L.cb<h.n∧h.get L.tb=Y (.cells (s.types.map fun b=>I b))∧L.tb<h.n∧
  h.get L.sb=Y (.cells (s.Ac.map fun b=>I b))∧L.sb<h.n∧h.get L.fb=Y (.cells (s.fns.map fun b=>I b))∧L.fb<h.n∧s.types.length=L.m∧s.Ac.length=L.m∧s.fns.length=L.m:=by
 obtain⟨c,p,q,r,t,j,k,l,m,u,n,v,w,x,o⟩:=a.r;obtain⟨e,i,rfl⟩:=n.slice;exact⟨c,e,i,j,a.w _ _ j,k,a.w _ _ k,l,a.w _ _ l,m,a.w _ _ m,o⟩
theorem Hr.PU(e:L.Ok)(c:Hr (BB L nv fv) d h0 f h g s)(i:Nat)(j:Int):
  Hr (BB L nv fv) d h0 f (h.put L.tb (.cells ((s.types.set i j).map fun a=>I a))) g (s.typeAt i j)∧Hr (BB L nv fv) d h0 f (h.put L.sb (.cells ((s.Ac.set i j).map fun a=>I a))) g (s.CZ i j)∧
  Hr (BB L nv fv) d h0 f (h.put L.fb (.cells ((s.fns.set i j).map fun a=>I a))) g {s with fns:=s.fns.set i j}:=by
 obtain⟨o,p,q,r,rfl,a,t,u,v,w,x,k,l,y,z,A,F⟩:=c.r;refine⟨c.MZ (Ar c.w (c.w _ _ t) _) (b_ _) ⟨o,p,q,r,J,?_,Ai _ _,?_,?_,?_,?_,k,l,y,?_⟩ (fun b a=>.inl a) fun b _ m=>Ab _ (Ag fun n=>m (by simp[n])),
  c.MZ (Ar c.w (c.w _ _ u) _) (b_ _) ⟨o,p,q,r,J,?_,?_,Ai _ _,?_,?_,?_,k,l,y,?_⟩ (fun b a=>.inl a) fun b _ m=>Ab _ (Ag fun n=>m (by simp[n])),
  c.MZ (Ar c.w (c.w _ _ v) _) (b_ _) ⟨o,p,q,r,J,?_,?_,?_,Ai _ _,?_,?_,k,l,y,?_⟩ (fun b a=>.inl a) fun b _ m=>Ab _ (Ag fun n=>m (by simp[n]))⟩
 ·rw[Ab _ (EW e.ct),a];simp only[AJ,Ay.typeAt,E_]
 ·exact(Ab _ e.ts).trans u
 ·exact(Ab _ e.tf).trans v
 ·exact w.same fun b a=>Ab _ (Ag (k b a).2.1)
 ·exact x.same fun b a=>Ab _ (Ag (l b a).2.1)
 ·simp only[Ay.typeAt,E_];exact⟨z,A,F⟩
 ·rw[Ab _ (EW e.cs),a];simp only[AJ,Ay.CZ,E_]
 ·exact(Ab _ (EW e.ts)).trans t
 ·exact(Ab _ e.sf).trans v
 ·exact w.same fun b a=>Ab _ (Ag (k b a).2.2.1)
 ·exact x.same fun b a=>Ab _ (Ag (l b a).2.2.1)
 ·simp only[Ay.CZ,E_];exact⟨z,A,F⟩
 ·rw[Ab _ (EW e.cf),a];simp only[AJ,E_]
 ·exact(Ab _ (EW e.tf)).trans t
 ·exact(Ab _ (EW e.sf)).trans u
 ·exact w.same fun b a=>Ab _ (Ag (k b a).2.2.2)
 ·exact x.same fun b a=>Ab _ (Ag (l b a).2.2.2)
 simp only[E_];exact⟨z,A,F⟩
theorem NM(n:L.Ok){m:List Nd}(o:Wh d)(p:Fx d nv m)(c:Hr (BB L nv fv) d h0 f h g s){b:Nd}(q:m[a]? =Y b):
  ∃l e i,(b.l=[]∨∃j,e=Y ⟨j,0,W⟩∧i=1∧d.get j=Y (.cells (b.l.map fun r=>I r)))∧
   AR 160 [AA L.cb,I a] h (fun t k=>t=.agg #[I b.kind,I l,I b.n,S b.name,.slice e b.l.length i]∧Hr (BB L nv fv) d h0 f k g s∧Ext h k):=by
 obtain⟨K,N,l,e,i,rfl,r,t,u,v,w⟩:=p.node o c.x c.m q;obtain⟨P,a0,a1,a2,rfl,k,x,_,_,a3⟩:=c.Ajo n;unfold AJ at k;refine⟨l,e,i,?_,c.calls ?_⟩
 ·rcases w with y|⟨j,z,A,_,F⟩
  ·exact .inl y
  exact .inr ⟨j,z,A,F⟩
 refine eF Tryz.func160 ?_;simp only[go_sem,V,k,x,r,t,u,v];exact fun j k=>by simp only[go_sem,k]
theorem Qy(c:H)(b:Vr){h:AH}(e:h.get a=Y (.cells [S c]))(i:a<h.n):AR 159 [.agg #[S b.name,I b.type,I b.slot],AA a] h (fun j k=>j=.bool (b.name==c)∧Ext h k):=by refine eF Tryz.func159 ?_;simp only[go_sem,V,e,i];exact Ext.new h _
def Tg(a:H):List Vr→Nat→Int
 |[],_=> -1
 |v::c,b=>bif v.name==a then b else Tg a c (b+1)
theorem Ade(i:H)(c:List Vr){h:AH}{b:Nat}(n:Wh h)(A:L1 h v c p)(w:h.get b=Y (.cells [S i]))(ac:c.length<2^60):
  AR 158 [v,.func (.func 159) #[] #[AA b]] h (fun j a=>j=I (Tg i c 0)∧Ext h a):=by
 obtain⟨a0,a1,x⟩:=A.slice;refine eF Tryz.func158 ?_;subst x;simp only[go_sem];refine AG (fun(a:Nat) k o=>Ext h o∧Wh o∧h.n≤o.n∧k.at 0=.slice a0 c.length a1∧k.at 1=.func (.func 159) #[] #[AA b]∧k.at 7=I c.length∧k.at 8=I a∧a≤c.length∧Tg i c 0=Tg i (c.drop a) a) (fun a=>c.length-a) ?_ 0 ?_
 ·rintro a k o ⟨l,a2,q,F,K,y,z,ad,m⟩ a3
  cases r:decide ((a:Int)<c.length)with
  |false=>
   have e:a=c.length:=by have:=Adh r;omega
   subst e;simp only[go_sem,y,z,r];rw[w_]at m;exact⟨by rw[m];rfl,l⟩
  |true=>
   have e:a<c.length:=by have:=Acw r;omega
   have t:c[a]? =Y c[a]:=g_ e;generalize c[a]=j at t;have a4:c.drop a=j::c.drop (a+1):=by rw[j_ e];congr 1;exact Option.some_inj.1 ((g_ e).symm.trans t)
   rw[a4]at m;have a5:f_ .i64 ((a:Int)+1)=((a+1:Nat):Int):=by rw[Ap]<;>omega
   rcases A with⟨rfl,_⟩|⟨a6,all,x,_,N⟩
   ·cases t
   injection x with a7 _ a8
   subst a7 a8;have a9:=(l a6 (n _ _ N)).trans N;have u:=IB c all a j t;simp only[go_sem,V,F,K,y,z,r,e,a9,u];refine Aa (Ok.wf a2 (Qy i j ((l b (n _ _ w)).trans w) (l_ (n _ _ w) q))) ?_;rintro _ ae aa ⟨ab,rfl,P⟩;cases u:(j.name==i)with
   |true=>
    simp only[go_sem,V];refine⟨?_,l.trans q P⟩;rw[m];simp only[Tg,u,Aa9]
   |false=>
    simp only[go_sem,V,z,a5];refine a3 (a+1) _ _ ⟨l.trans q P,ab,i_ q aa,?_,?_,?_,?_,e,?_⟩ (by omega)
    ·simp only[go_sem,F]
    ·simp only[go_sem,V,K]
    ·simp only[go_sem,V,y]
    ·simp only[go_sem]
    rw[m];simp only[Tg,u,Acf]
 refine⟨Ext.refl h,n,b_ _,?_,?_,?_,?_,m_ _,J⟩<;>simp only[go_sem,V]
 rfl
theorem RC(b:H):∀(a:List Vr) (c:Nat),(B7 b a=W∧Tg b a c= -1)∨(∃e v,B7 b a=Y v∧Tg b a c=((c+e:Nat):Int)∧a[e]? =Y v)
 |[],_=>.inl ⟨J,J⟩
 |v::a,c=>by
  unfold B7 Tg;cases m:(v.name==b)with
  |true=>exact .inr ⟨0,v,J,J,J⟩
  |false=>
   rcases RC b a (c+1)with⟨i,j⟩|⟨e,k,i,j,l⟩
   ·exact .inl ⟨by simpa using i,by simpa using j⟩
   exact .inr ⟨e+1,k,by simpa using i,by rw[Acf,j];congr 1;omega,by simpa using l⟩
def Up:Option Vr→e_
 |some a=>.agg #[S a.name,I a.type,I a.slot]
 |none=>.agg #[S [],I 0,I 0]
theorem Ts(a3:L.Ok)(e:Hr (BB L nv fv) d h0 f h g s)(c:H)(y:s.vars.length<2^60):
  AR 80 [AA L.cb,S c] h (fun m a=>m=.tuple #[Up (B7 c s.vars),.bool (B7 c s.vars).isSome]∧Hr (BB L nv fv) d h0 f a g s∧Ext h a):=by
 refine e.calls ?_;obtain⟨a4,a5,a6,a7,rfl,a,a8,a9,aa,ab,j,ac,ad,ae,af⟩:=e.r;have r:=e.w _ _ a;obtain⟨ag,ah,ai⟩:=j.slice;unfold AJ at a;have z:=(e.w.new (.cells [S c])).new (.cells [S [],I 0,I 0]);have t:=(Ext.new h (.cells [S c])).trans (k_ _) (Ext.new (h.new (.cells [S c])) (.cells [S [],I 0,I 0]));refine eF Tryz.func80 ?_;simp only[go_sem,V,a,r];refine Aa (Ade c s.vars (b:=h.n) z (j.same fun i a=>t i (j.lt e.w i a)) (by simp only[go_sem]) y) ?_;rintro _ n A ⟨rfl,u⟩;have aj:h.n+2≤n.n:=by simpa only[go_sem]using A
 have k:Ext h n:=t.trans (by simp only[go_sem];omega) u;have v:n.get (h.n+1)=Y (.cells [S [],I 0,I 0]):=(u _ (by simp only[go_sem];omega)).trans (by simp only[go_sem]);have w:=(k _ r).trans a;rcases RC c s.vars 0 with⟨o,p⟩|⟨q,m,o,p,l⟩
 ·have x:decide ((-1:Int)<0)=true:=J
  rw[p,o];simp only[go_sem,V,x,v];refine⟨J,fun i a=>?_⟩;simp only[go_sem,a,k i a]
 have F:decide (((q:Nat):Int)<0)=false:=Gv;rw[p,o];rcases j with⟨K,_⟩|⟨N,all,P,_,x⟩
 ·rw[K]at l;cases l
 rw[P]at w;have a0:q<s.vars.length:=(c_.1 l).1;have a1:=(k N (e.w _ _ x)).trans x;have a2:=IB s.vars all q m l;simp only[go_sem,V,am_,F,w,v,a0,a1,a2];refine⟨J,fun i a=>?_⟩;simp only[go_sem,a,k i a]
end
section
variable{L:Lc}{d f:Value}{j h0 h:AH}{k g:List Nat}{s:Ay}
theorem Hr.Ajn{p vv vv1:e_}{i m:List Nat}{nb:Nat}{c:AH}{e:Ay}(q:L.Ok)(l:Hr (BB L d f) j h0 k h g s)(hg:g=L.cb::L.tb::L.sb::L.fb::(i++m))
  (v:h.get L.tb=Y (.cells (s.types.map fun b=>I b))) (w:h.get L.sb=Y (.cells (s.Ac.map fun b=>I b))) (x:h.get L.fb=Y (.cells (s.fns.map fun b=>I b)))
  (r:QK h p s.size i) (y:Acv L i) (u:Acv L m) (N:∀a∈i,a∉m) (n:s.types.length=L.m∧s.Ac.length=L.m∧s.fns.length=L.m) (t:L.cb<h.n)
  (P:Wh c) (a0:h.n≤c.n) (a1:c.get L.cb=Y (.cells (AJ L d f p vv1 e))) (a2:L1 c vv1 e.vars [nb]) (K:h.n≤nb) (o:∀a,a<h.n→a≠L.cb→a∉m→c.get a=h.get a)
  (z:e.types=s.types) (A:e.Ac=s.Ac) (F:e.fns=s.fns) (a3:e.size=s.size):Hr (BB L d f) j h0 k c (L.cb::L.tb::L.sb::L.fb::(i++[nb])) e:=by
 subst hg;have a4:=l.w _ _ v;have a5:=l.w _ _ w;have a6:=l.w _ _ x;have t:∀a,(a=L.cb∨a=L.tb∨a=L.sb∨a=L.fb)→a∉m:=fun a b n=>by
  have:=u a n;rcases b with h|h|h|h
  ·exact this.1 h
  ·exact this.2.1 h
  ·exact this.2.2.1 h
  exact this.2.2.2 h
 refine l.MZ P a0 ⟨p,vv1,i,[nb],J,a1,?_,?_,?_,?_,a2,y,?_,?_,by rw[z,A,F];exact n⟩ ?_ fun a c K=>o a c (fun u=>K (by simp[u])) (fun u=>K (by simp[u]))
 ·rw[z];exact(o _ a4 (AF q.ct) (t _ (.inr (.inl J)))).trans v
 ·rw[A];exact(o _ a5 (AF q.cs) (t _ (.inr (.inr (.inl J))))).trans w
 ·rw[F];exact(o _ a6 (AF q.cf) (t _ (.inr (.inr (.inr J))))).trans x
 ·rw[a3];exact r.same fun a b=>o a (r.lt l.w a b) (y a b).1 (N a b)
 ·intro a b
  rcases q_.1 b with rfl
  exact⟨by omega,by omega,by omega,by omega⟩
 ·intro a b n
  rcases q_.1 n with rfl
  have:=r.lt l.w a b;omega
 intro a b;simp only[u_,I_,O_,or_false]at b⊢;rcases b with h|h|h|h|h|h
 ·exact .inl (.inl h)
 ·exact .inl (.inr (.inl h))
 ·exact .inl (.inr (.inr (.inl h)))
 ·exact .inl (.inr (.inr (.inr (.inl h))))
 ·exact .inl (.inr (.inr (.inr (.inr (.inl h)))))
 exact .inr (by omega)
theorem Zt(u:L.Ok)(a:Hr (BB L d f) j h0 k h g s)(e:H)(i:Int)(a7:s.vars.length<100000)(a8:0≤s.sz)(a9:s.sz<100000):AR 81 [AA L.cb,S e,I i] h (Jn (BB L d f) j h0 k h g (s.put e i) (.tuple #[])):=by
 refine a.walk fun a=>?_;obtain⟨m,vv,aa,ab,hg,c,v,w,x,y,a1,z,o,A,F⟩:=a.r;have n:=a.w _ _ c;have K:f_ .i64 (s.sz+1)=s.sz+1:=by rw[Ap]<;>omega
 have ac:=D3 s.vars [⟨e,i,s.sz⟩];refine eF Tryz.func81 ?_;simp only[go_sem];refine AM a.w 0x130032010000010000 ?_;unfold AJ at c;rcases a1 with⟨N,rfl,rfl⟩|⟨l,all,rfl,rfl,P⟩
 ·simp only[go_sem,V,c,n,K]
  have p:=Ar (Ar (Am (Am a.w (.cells [S e,I i,I s.sz])) (.cells [S e,I i,I s.sz])) (b:=L.cb) (by simp only[go_sem];omega) (.cells [I s.e,I s.pos,d,f,.slice (Y ⟨L.tb,0,W⟩) s.types.length 1,.slice (Y ⟨L.sb,0,W⟩) s.Ac.length 1,.slice (Y ⟨L.fb,0,W⟩) s.fns.length 1,m,I s.fn,.slice (Y ⟨h.n+1,0,W⟩) 1 3,I s.sz])) (b:=L.cb) (by simp only[go_sem];omega) (.cells [I s.e,I s.pos,d,f,.slice (Y ⟨L.tb,0,W⟩) s.types.length 1,.slice (Y ⟨L.sb,0,W⟩) s.Ac.length 1,.slice (Y ⟨L.fb,0,W⟩) s.fns.length 1,m,I s.fn,.slice (Y ⟨h.n+1,0,W⟩) 1 3,I (s.sz+1)]);refine⟨_,a.Ajn (vv:=.slice W 0 0) (vv1:=.slice (Y ⟨h.n+1,0,W⟩) 1 3) (nb:=h.n+1) u (hg:=hg) v w x y z o A F n p (by simp only[go_sem];omega) ?_ ?_ (by omega) ?_ J J J J⟩
  ·simp only[go_sem];rfl
  ·refine .inr ⟨h.n+1,[],?_,J,?_⟩
   ·simp only[Ay.put,N];rfl
   have q:(h.n+1==L.cb)=false:=Ag;simp only[go_sem,q,Ay.put,N,B_,T_];rfl
  intro a0 c r _;simp only[go_sem,c,Ag r]
 have a2:sub? (Bt s.vars++all) 0 (s.vars.length*3)=Y (Bt s.vars):=by rw[E7 (by rw[a_,FU];omega),af_,F_ (by rw[FU];omega),s_ (by rw[FU];omega)]
 have a3:P_ (s.vars.length+1) 1000000=true:=Eg;have a4:=a.w _ _ P;have a5:(L.cb==l)=false:=Ag (fun t=>(o l (by simp)).1 t.symm);simp only[go_sem,V,c,n,P,a4,a2,a3,a5,K];have p:=Ar (Ar (Am (Dm (Am a.w (.cells [S e,I i,I s.sz])) l) (.cells (Bt s.vars++[S e,I i,I s.sz]))) (b:=L.cb) (by simp only[go_sem];omega) (.cells [I s.e,I s.pos,d,f,.slice (Y ⟨L.tb,0,W⟩) s.types.length 1,.slice (Y ⟨L.sb,0,W⟩) s.Ac.length 1,.slice (Y ⟨L.fb,0,W⟩) s.fns.length 1,m,I s.fn,.slice (Y ⟨h.n+1,0,W⟩) (s.vars.length+1) 3,I s.sz])) (b:=L.cb) (by simp only[go_sem];omega) (.cells [I s.e,I s.pos,d,f,.slice (Y ⟨L.tb,0,W⟩) s.types.length 1,.slice (Y ⟨L.sb,0,W⟩) s.Ac.length 1,.slice (Y ⟨L.fb,0,W⟩) s.fns.length 1,m,I s.fn,.slice (Y ⟨h.n+1,0,W⟩) (s.vars.length+1) 3,I (s.sz+1)]);refine⟨_,a.Ajn (vv:=.slice (Y ⟨l,0,W⟩) s.vars.length 3) (vv1:=.slice (Y ⟨h.n+1,0,W⟩) (s.vars.length+1) 3) (nb:=h.n+1) u (hg:=hg) v w x y z o A F n p (by simp only[go_sem];omega) ?_ ?_ (by omega) ?_ J J J J⟩
 ·simp only[go_sem];rfl
 ·refine .inr ⟨h.n+1,[],?_,J,?_⟩
  ·simp only[Ay.put,a_,Z,M]
  have q:(h.n+1==L.cb)=false:=Ag;simp only[go_sem,q,Ay.put,B_,D3];rfl
 intro a0 c r q;have a6:(a0==l)=false:=Ag fun t=>q (by simp[t]);simp only[go_sem,c,Ag r,a6]
theorem Kk(m:L.Ok){a1:List Nd}(a3:Wh j)(a4:Fx j d a1)(q:Hr (BB L d f) j h0 k h g s){o:Nd}(a5:a1[a]? =Y o)(ak:a<L.m)(al:s.vars.length<100000):
  AR 243 [AA L.cb,I a] h (Jn (BB L d f) j h0 k h g (s.named o.name a).2 (I (s.named o.name a).1)):=by
 refine q.walk fun q=>?_;obtain⟨am,an,ao,_,a6⟩:=NM m a3 a4 q a5;refine eF Tryz.func243 ?_;simp only[go_sem,V];refine Aa a6 ?_;rintro _ h1 ap ⟨rfl,a7,aq⟩;simp only[go_sem,V];refine Aa (Ts m a7 o.name (by omega)) ?_;rintro _ b ar ⟨rfl,n,au⟩;unfold Ay.named;cases a2:B7 o.name s.vars with
 |some e=>
  simp only[go_sem,V,Up];have r:=n.ext (h1:=(b.new (.cells [S [],I 0,I 0])).put b.n (.cells [S e.name,I e.type,I e.slot])) (by simp only[go_sem];omega) (Ar (Am n.w _) (by simp only[go_sem]) _) (fun c i=>by simp only[go_sem,i]);refine Aa (BJ m r true 40 a) ?_;rintro _ t u ⟨rfl,a8,l,v⟩;have w:=n.free (c:=b.n) (h1:=(b.new (.cells [S [],I 0,I 0])).put b.n (.cells [S e.name,I e.type,I e.slot])) (b_ _) (by simp only[go_sem]);obtain⟨x,y⟩:=w.Ak u v;have z:t.get b.n=Y (.cells [S e.name,I e.type,I e.slot]):=y.trans (by simp only[go_sem]);obtain⟨a9,aa,ab,i,ac,ad,ae,A,af,a2,ag,ah,ai,aj⟩:=l.B4;have F:=(l.PU m a e.slot).2.1;have p:a<(s.ask true 40 a).Ac.length:=by omega
  have K:=Gj e.slot p;have N:(b.n==L.sb)=false:=Ag fun P=>x.2 (by obtain⟨_,_,_,_,a0,_⟩:=l.r;rw[a0,P];simp);unfold AJ at i;simp only[go_sem];refine AM l.w 0x13010010000 ?_;simp only[go_sem,V,i,A,p,K,z,N];exact⟨_,F⟩
 |none=>
  simp only[go_sem,V,Up];have r:=n.ext (h1:=(b.new (.cells [S [],I 0,I 0])).put b.n (.cells [S [],I 0,I 0])) (by simp only[go_sem];omega) (Ar (Am n.w _) (by simp only[go_sem]) _) (fun c i=>by simp only[go_sem,i]);refine Aa (BJ m r false 40 a) ?_;rintro _ t u ⟨rfl,a8,l,v⟩;have w:=n.free (c:=b.n) (h1:=(b.new (.cells [S [],I 0,I 0])).put b.n (.cells [S [],I 0,I 0])) (b_ _) (by simp only[go_sem]);obtain⟨x,y⟩:=w.Ak u v;have z:t.get b.n=Y (.cells [S [],I 0,I 0]):=y.trans (by simp only[go_sem]);obtain⟨a9,aa,ab,i,ac,ad,ae,A,af,a2,ag,ah,ai,aj⟩:=l.B4;have F:=(l.PU m a 0).2.1;have p:a<(s.ask false 40 a).Ac.length:=by omega
  have K:=Gj 0 p;have N:(b.n==L.sb)=false:=Ag fun P=>x.2 (by obtain⟨_,_,_,_,a0,_⟩:=l.r;rw[a0,P];simp);unfold AJ at i;simp only[go_sem];refine AM l.w 0x13010010000 ?_;simp only[go_sem,V,i,A,p,K,z,N];exact⟨_,F⟩
end
def Ti(a:Int):List Int→Nat→Int
 |[],_=> -1
 |x::c,b=>bif a==x then b else Ti a c (b+1)
def Gs(a:Int):List Int→Bool
 |[]=>false
 |x::b=>a==x||Gs a b
theorem Adg(e:Int)(b:List Int)(p:f.get a=Y (.cells (b.map fun l=>I l)))(x:b.length<2^62):AR 406 [.slice (Y ⟨a,0,W⟩) b.length 1,I e] f (fun s t=>s=I (Ti e b 0)∧t=f):=by
 refine eF Tryz.func406 ?_;simp only[go_sem];refine AG (fun(c:Nat) g q=>q=f∧g.at 0=.slice (Y ⟨a,0,W⟩) b.length 1∧g.at 1=I e∧g.at 7=I b.length∧g.at 8=I c∧c≤b.length∧Ti e b 0=Ti e (b.drop c) c) (fun c=>b.length-c) ?_ 0 ?_
 ·rintro c g q ⟨rfl,m,n,i,o,y,j⟩ u
  cases h:decide ((c:Int)<b.length)with
  |false=>
   have d:c=b.length:=by simp at h;omega
   subst d;simp only[go_sem,i,o,h];rw[j];simp[Ti]
  |true=>
   have d:c<b.length:=by simp at h;omega
   have r:=OY (fun l=>I l) b c b[c] (g_ d);have v:b.drop c=b[c]::b.drop (c+1):=j_ d;rw[v]at j;cases k:(e==b[c])with
   |true=>
    simp only[go_sem,V,m,n,i,o,h,d,p,r,k];rw[j];simp[Ti,k]
   |false=>
    have w:f_ .i64 ((c:Int)+1)=((c+1:Nat):Int):=by rw[Ap]<;>omega
    simp only[go_sem,V,m,n,i,o,h,d,p,r,k,w];refine u (c+1) _ _ ⟨J,?_,?_,?_,?_,d,?_⟩ (by omega)
    ·simp only[go_sem,m]
    ·simp only[go_sem,V,n]
    ·simp only[go_sem,V,i]
    ·simp only[go_sem]
    rw[j];simp[Ti,k]
 exact⟨J,by simp only[go_sem],by simp only[go_sem,V],by simp only[go_sem,V],by simp only[go_sem];rfl,m_ _,by simp⟩
theorem Z8(a:Int):∀(b:List Int) (c:Nat),decide (0≤Ti a b c)=Gs a b
 |[],_=>rfl
 |x::b,c=>by
  unfold Ti Gs;cases d:(a==x)with
  |true=>simp
  |false=>simpa using Z8 a b (c+1)
theorem Et(c:Int)(b:List Int)(d:f.get a=Y (.cells (b.map fun e=>I e)))(g:b.length<2^62):AR 380 [.slice (Y ⟨a,0,W⟩) b.length 1,I c] f (fun h i=>h=.bool (Gs c b)∧i=f):=by refine eF Tryz.func380 ?_;simp only[go_sem,V];refine Aa (Adg c b d g) ?_;rintro _ _ _ ⟨rfl,rfl⟩;simp only[go_sem,Z8]
theorem At0(d:Int)(c:List Int)(e:f.get b=Y (.cells [I d]))(g:f.get a=Y (.cells (c.map fun h=>I h)))(i:c.length<2^62):AR 405 [.slice (Y ⟨a,0,W⟩) c.length 1,AA b] f (fun j k=>j=.bool (Gs d c)∧k=f):=by refine eF Tryz.func405 ?_;simp only[go_sem,V,e];refine Aa (Et d c g i) ?_;rintro _ _ _ ⟨rfl,rfl⟩;simp only[go_sem]
theorem Auw(sg:H)(a:Int)(d:AH):AR 378 [S sg,I a] d (fun j k=>j=I (YB sg a)∧Ext d k):=by
 refine eF Tryz.func378 ?_;have t:=Ext.new d (.cells [I a]);have e:∀(c:List Int),c.length<2^62→AR 405 [.slice (Y ⟨d.n+1,0,W⟩) c.length 1,AA d.n] ((d.new (.cells [I a])).new (.cells (c.map fun h=>I h))) (fun j k=>j=.bool (Gs a c)∧k=(d.new (.cells [I a])).new (.cells (c.map fun h=>I h))):=fun c q=>
  At0 a c (by simp only[go_sem]) (by simp only[go_sem]) q
 have f:∀(c:List Int),Ext d ((d.new (.cells [I a])).new (.cells (c.map fun h=>I h))):=fun c u r=>by simp only[go_sem,r]
 have l:Gs a [1]=(a==1):=by simp[Gs]
 have n:Gs a [2]=(a==2):=by simp[Gs]
 have o:Gs a [1,2,3]=(a==1||a==2||a==3):=by simp[Gs,Bool.or_assoc]
 have s:Gs a [1,3]=(a==1||a==3):=by simp[Gs]
 unfold YB;cases c1:(sg==[124,124]||sg==[38,38])with
 |true=>
  have b:(sg==[124,124])=true∨(sg==[38,38])=true:=by simpa using c1
  cases c2:(sg==[124,124])with
  |true=>
   simp only[go_sem,V,c2];refine Aa (e [2] (by show 1<2^62;decide)) ?_;rintro _ _ _ ⟨rfl,rfl⟩;rw[n];cases(a==2)<;>simp only[go_sem,Aa9,Acf]<;>exact f [2]
  |false=>
   have i:(sg==[38,38])=true:=by simpa[c2]using b
   simp only[go_sem,V,c2,i];refine Aa (e [2] (by show 1<2^62;decide)) ?_;rintro _ _ _ ⟨rfl,rfl⟩;rw[n];cases(a==2)<;>simp only[go_sem,Aa9,Acf]<;>exact f [2]
 |false=>
  have b:(sg==[124,124])=false∧(sg==[38,38])=false:=by simpa using c1
  cases c3:(sg==[60]||sg==[60,61])with
  |true=>
   cases g:(sg==[60])with
   |true=>
    simp only[go_sem,V,b.1,b.2,g];refine Aa (e [1] (by show 1<2^62;decide)) ?_;rintro _ _ _ ⟨rfl,rfl⟩;rw[l];cases(a==1)<;>simp only[go_sem,Aa9,Acf]<;>exact f [1]
   |false=>
    have i:(sg==[60,61])=true:=by simpa[g]using c3
    simp only[go_sem,V,b.1,b.2,g,i];refine Aa (e [1] (by show 1<2^62;decide)) ?_;rintro _ _ _ ⟨rfl,rfl⟩;rw[l];cases(a==1)<;>simp only[go_sem,Aa9,Acf]<;>exact f [1]
  |false=>
   have g:(sg==[60])=false∧(sg==[60,61])=false:=by simpa using c3
   cases p:(sg==[61,61]||sg==[33,61])with
   |true=>
    cases m:(sg==[61,61])with
    |true=>
     simp only[go_sem,V,b.1,b.2,g.1,g.2,m];refine Aa (e [1,2,3] (by show 3<2^62;decide)) ?_;rintro _ _ _ ⟨rfl,rfl⟩;rw[o];cases(a==1||a==2||a==3)<;>simp only[go_sem,Aa9,Acf]<;>exact f [1,2,3]
    |false=>
     have i:(sg==[33,61])=true:=by simpa[m]using p
     simp only[go_sem,V,b.1,b.2,g.1,g.2,m,i];refine Aa (e [1,2,3] (by show 3<2^62;decide)) ?_;rintro _ _ _ ⟨rfl,rfl⟩;rw[o];cases(a==1||a==2||a==3)<;>simp only[go_sem,Aa9,Acf]<;>exact f [1,2,3]
   |false=>
    have i:(sg==[61,61])=false∧(sg==[33,61])=false:=by simpa using p
    cases m:(sg==[43])with
    |true=>
     simp only[go_sem,V,b.1,b.2,g.1,g.2,i.1,i.2,m];refine Aa (e [1,3] (by show 2<2^62;decide)) ?_;rintro _ _ _ ⟨rfl,rfl⟩;rw[s];cases(a==1||a==3)<;>simp only[go_sem,V,Aa9,Acf]<;>exact f [1,3]
    |false=>
     simp only[go_sem,V,b.1,b.2,g.1,g.2,i.1,i.2,m];refine Aa (e [1] (by show 1<2^62;decide)) ?_;rintro _ _ _ ⟨rfl,rfl⟩;rw[l];cases(a==1)<;>simp only[go_sem,V,Aa9,Acf]<;>exact f [1]
def Axh(a:AH)(b:Nat)(c:Int)(d:e_):Option AO→Option Nx
 |some (.map e)=>opt (Bg (I c) d e) fun f=>Y (.val undef (a.put b (.map f)))
 |_=>W
theorem C4(g:S_)(a:Nat)(b:Int)(c:e_):Adb f (Y (.int .i64,g)) (.map (Y a)) (I b) c=Axh f a b c (f.get a):=by
 unfold Adb;show opt (mapA f (.map (Y a))) (fun d=>opt (Bg (I b) c d) fun h=>Y (Nx.val undef (f.put a (.map h))))=_;have i:mapA f (.map (Y a))=(match f.get a with|some (.map d)=>Y d|_=>W):=J;rw[i];generalize f.get a=e;cases e with
 |none=>rfl
 |some e=>cases e<;>rfl
theorem C5(d:Nat)(a:Int)(b:e_)(c:List (e_×e_)):Axh f d a b (Y (.map c))=At3 f d (Bg (I a) b c):=by show opt (Bg (I a) b c) _=_;cases Bg (I a) b c<;>rfl
def Ajl(a:e_×e_):Option (List (e_×e_))→Option (List (e_×e_))
 |some b=>Y (a::b)
 |none=>W
theorem Cg(a:e_×e_)(b:List (e_×e_)):Ajl a (Y b)=Y (a::b):=nr J
theorem B0(a b:e_):Bg a b []=Y [(a,b)]:=nr J
theorem B1(a b:Int)(c e:e_)(d:List (e_×e_)):Bg (I a) c ((I b,e)::d)=bif a==b then Y ((I a,c)::d)else Ajl (I b,e) (Bg (I a) c d):=by
 show(match sameKey (I a) (I b)with|some true=>Y ((I a,c)::d)|some false=>(match Bg (I a) c d with|some f=>Y ((I b,e)::f)|none=>W)|none=>W)=_;have:sameKey (I a) (I b)=Y (a==b):=J;rw[this];cases(a==b)with
 |true=>rfl
 |false=>simp only[Acf];cases Bg (I a) c d<;>rfl
theorem Aqp:Hw pr 430=Y (.int .i64,429):=by kernel_rfl
theorem Jz(b:AH):AR 379 [] b (fun h a=>h=.map (Y b.n)∧Ext b a∧b.n<a.n∧∃c d e f g,(c<a.n∧d<a.n∧e<a.n∧f<a.n∧g<a.n)∧
  a.get b.n=Y (.map [(I 6,.agg #[I 1,.slice (Y ⟨c,0,W⟩) 2 1]),(I 7,.agg #[I 1,.slice (Y ⟨d,0,W⟩) 1 1]),(I 8,.agg #[I 2,.slice (Y ⟨e,0,W⟩) 1 1]),(I 20,.agg #[I 4,.slice (Y ⟨f,0,W⟩) 1 1]),(I 5,.agg #[I 1,.slice (Y ⟨g,0,W⟩) 1 1])])∧
  a.get c=Y (.cells [I 3,I 4])∧a.get d=Y (.cells [I 1])∧a.get e=Y (.cells [I 2])∧a.get f=Y (.cells [I 1])∧a.get g=Y (.cells [I 1])):=by
 refine eF Tryz.func379 ?_;simp only[go_sem,V,d_,Ce,Aqp,C4,C5,BM,B0,B1,Acf,Cg];refine⟨fun j i=>by simp only[go_sem,i],b.n+1,b.n+2,b.n+3,b.n+4,b.n+5,⟨by omega,by omega,by omega,by omega,by omega⟩,J,?_,?_,?_,?_,?_⟩<;>simp only[go_sem,V]
structure Ny(L:Lc)(nv fv:e_)(hs:AH)(x:Int)(c:Ay→Int×Ay):Prop where
 run:∀{h0 h:AH} {g0 g:List Nat} {s:Ay},Hr (BB L nv fv) hs h0 g0 h g s→s.vars.length<100000→AR 244 [AA L.cb,I x] h (Jn (BB L nv fv) hs h0 g0 h g (c s).2 (I (c s).1))
 vars:∀s,(c s).2.vars=s.vars
def Br:List (Ay→Int×Ay)→Ay→List Int×Ay
 |[],s=>([],s)
 |c::a,s=>((c s).1::(Br a (c s).2).1,(Br a (c s).2).2)
theorem I0:∀(a:List (Ay→Int×Ay)) (s:Ay),(Br a s).1.length=a.length
 |[],_=>rfl
 |c::a,s=>by simp[Br,I0 a]
def Qd(h0 h:AH)(g:List Nat)(c:e_)(b:List Int):Prop:=(b=[]∧c=.slice W 0 0)∨(∃a,c=.slice (Y ⟨a,0,W⟩) b.length 1∧h.get a=Y (.cells (b.map fun d=>I d))∧Gf h g a∧h0.n≤a)
theorem Qd.Ak{h0 h a:AH}{g c:List Nat}(b:Qd h0 h g v q)(d:h.n≤a.n)(e:Kp h a g c):Qd h0 a c v q:=by
 rcases b with b|⟨f,i,j,k,l⟩
 ·exact .inl b
 obtain⟨m,n⟩:=k.Ak d e;exact .inr ⟨f,i,n.trans j,m,l⟩
theorem Qd.slice{h0 h:AH}{g:List Nat}(a:Qd h0 h g v q):∃b c,v=.slice b q.length c:=by rcases a with⟨rfl,rfl⟩|⟨d,rfl,_⟩<;>exact⟨_,_,J⟩
section
variable{L:Lc}{nv fv:Value}{hs h0 h:AH}{g0 g:List Nat}{s:Ay}
def Iz(hs:AH)(c:Option X_)(d:Nat)(a:List Int):Prop:=a=[]∨∃b,c=Y ⟨b,0,W⟩∧d=1∧hs.get b=Y (.cells (a.map fun e=>I e))
theorem Ei(aq:Wh hs)(N:Hr (BB L nv fv) hs h0 g0 h g s)(d:List (Ay→Int×Ay)){af ag ah:Int}{l:List Int}(a0:Iz hs o a l)(ar:l.length=d.length)(aL:l.length<900000)
  (au:∀(b:Nat) (j:Int) (e:Ay→Int×Ay),l[b]? =Y j→d[b]? =Y e→Ny L nv fv hs j e) (av:s.vars.length<100000):
  AR 245 [AA L.cb,.agg #[I af,I ag,I ah,S t,.slice o l.length a]] h (fun y n=>∃k,Hr (BB L nv fv) hs h0 g0 n k (Br d s).2∧Qd h n k y (Br d s).1∧Kp h n g k):=by
 refine Ok.mono (P:=fun y n=>∃k,Hr (BB L nv fv) hs h g n k (Br d s).2∧Qd h n k y (Br d s).1) ?_ fun y n _ ⟨k,ai,aw⟩=>⟨k,N.go ai,aw,ai.k⟩;have ax:=N.start;have ay:=ax.new (.cells [I af,I ag,I ah,S t,.slice o l.length a]);have aM:=N.m;refine eF Tryz.func245 ?_;simp only[go_sem,V];refine AG (fun(f:Nat×Ay×List Int×List Nat) u a1=>Hr (BB L nv fv) hs h g a1 f.2.2.2 f.2.1∧Qd h a1 f.2.2.2 (u.at 5) f.2.2.1∧f.2.2.1.length=f.1∧f.2.1.vars=s.vars∧f.1≤l.length∧f.2.2.1++(Br (d.drop f.1) f.2.1).1=(Br d s).1∧(Br (d.drop f.1) f.2.1).2=(Br d s).2∧
  u.at 0=AA L.cb∧u.at 9=.slice o l.length a∧u.at 10=I l.length∧u.at 11=I f.1) (fun f=>l.length-f.1) ?_ (0,s,[],g) ?_
 ·rintro⟨b,i,p,az⟩ u a1 ⟨z,a2,a3,a4,aA,q,r,a5,a6,A,x⟩ a7
  dsimp only at z a2 a3 a4 aA q r x a7;cases F:decide ((b:Int)<l.length)with
  |false=>
   have m:b=l.length:=by have:=Adh F;omega
   have a8:d.drop b=[]:=by rw[m,ar,w_]
   rw[a8]at q r;simp only[go_sem,V,A,x,F];refine⟨az,r▸z,?_⟩;rw[←q];simpa[Br]using a2
  |true=>
   have m:b<l.length:=by have:=Acw F;omega
   have a9:l[b]? =Y l[b]:=g_ m;have aj:b<d.length:=by omega
   have ak:d[b]? =Y d[b]:=g_ aj;have a8:d.drop b=d[b]::d.drop (b+1):=j_ aj;rw[a8]at q r;generalize d[b]=e at ak q r;generalize l[b]=j at a9;have al:=au b j e a9 ak;have am:f_ .i64 ((b:Int)+1)=((b+1:Nat):Int):=by rw[Ap]<;>omega
   have aB:=DU a9;rcases a0 with a0|⟨aC,rfl,rfl,an⟩
   ·rw[a0]at m;cases m
   have aD:=(z.x aC (aq _ _ an)).trans an;simp only[go_sem,V,a5,a6,A,x,F,m,aD,aB];refine Aa (al.run z (by rw[a4];exact av)) ?_;rintro _ v aE ⟨rfl,K,w,aF⟩;have aG:=a2.Ak aE aF;have ao:(e i).2.vars=s.vars:=(al.vars i).trans a4;rcases aG with⟨aa,ab⟩|⟨ap,aa,ab,ac,aH⟩
   ·subst aa
    have aI:b=0:=by simpa using a3.symm
    subst aI;have ad:=(w.new (.cells [I (e i).1])).new (.cells [I (e i).1]);have ae:Gf ((v.new (.cells [I (e i).1])).new (.cells [I (e i).1])) K (v.n+1):=w.free (by omega) (by simp only[go_sem];omega);simp only[go_sem,V,x,ab,am];refine a7 (1,(e i).2,[(e i).1],K) _ _ ⟨ad,.inr ⟨v.n+1,?_,?_,ae,?_⟩,J,ao,m,by simpa[Br]using q,by simpa[Br]using r,?_,?_,?_,?_⟩ (by omega)
    ·simp only[go_sem,V];rfl
    ·simp only[go_sem];rfl
    ·have:=w.n;omega
    ·simp only[go_sem,a5]
    ·simp only[go_sem,V,a6]
    ·simp only[go_sem,V,A]
    simp only[go_sem]
   have aI:take? (p.map fun j=>I j) p.length=Y (p.map fun j=>I j):=by rw[Bn (by simp),s_ (by simp)]
   have aJ:P_ (p.length+1) 1000000=true:=Eg;have ad:=((w.new (.cells [I (e i).1])).del (c:=ap) ⟨o_ ac.1,ac.2⟩ aH (by omega)).new (.cells ((p.map fun j=>I j)++[I (e i).1]));have ae:Gf (((v.new (.cells [I (e i).1])).del ap).new (.cells ((p.map fun j=>I j)++[I (e i).1]))) K (v.n+1):=w.free (by omega) (by simp only[go_sem];omega);have aK:=ac.1;simp only[go_sem,V,x,aa,ab,aK,aI,aJ,am];refine a7 (b+1,(e i).2,p++[(e i).1],K) _ _ ⟨ad,.inr ⟨v.n+1,?_,?_,ae,?_⟩,by simp[a3],ao,m,by simpa[Br]using q,by simpa[Br]using r,?_,?_,?_,?_⟩ (by show l.length-(b+1)<l.length-b;omega)
   ·simp only[go_sem,V,a_];rfl
   ·simp only[go_sem,J_];rfl
   ·have:=w.n;omega
   ·simp only[go_sem,a5]
   ·simp only[go_sem,V,a6]
   ·simp only[go_sem,V,A]
   simp only[go_sem]
 refine⟨ay,.inl ⟨J,?_⟩,J,J,m_ _,J,J,?_,?_,?_,?_⟩<;>simp only[go_sem,V]
 rfl
end
section
variable{L:Lc}{d f:Value}{b:AH}
def DY(L:Lc)(d f:e_)(b:AH)(j:Nat)(a:Nd)(c:Ay→Int×Ay):Prop:=
 ∀{h0 h:AH} {k g:List Nat} {s:Ay} {l:Int} {e:Option X_} {i:Nat},Hr (BB L d f) b h0 k h g s→s.vars.length<100000→Iz b e i a.l→
  AR 317 [AA L.cb,.agg #[I a.kind,I l,I a.n,S a.name,.slice e a.l.length i],I j] h (Jn (BB L d f) b h0 k h g (c s).2 (I (c s).1))
variable{h0 h:AH}{k g:List Nat}{s:Ay}{N:List Nd}
theorem At5(j:L.Ok)(r:Wh b)(t:Fx b d N){l:Nd}(u:N[a]? =Y l)(a4:a<L.m){c:Ay→Int×Ay}(v:DY L d f b a l c)(e:Hr (BB L d f) b h0 k h g s)(w:s.vars.length<100000):
  AR 244 [AA L.cb,I a] h (Jn (BB L d f) b h0 k h g (s.Gq a c).2 (I (s.Gq a c).1)):=by
 refine e.walk fun e=>?_;obtain⟨a5,a6,a7,i,a8,a9,aa,ab,ac,x,ad,ae,af,ag⟩:=e.B4;unfold AJ at i;refine eF Tryz.func244 ?_;unfold Ay.Gq;cases m:(s.e !=0)with
 |true=>
  simp only[go_sem,i,m,Aa9];exact⟨g,e⟩
 |false=>
  have n:a<s.fns.length:=by omega
  have y:=Gj s.fn n;have z:Hr (BB L d f) b h g (h.put L.fb (.cells ((s.fns.set a s.fn).map fun A=>I A))) g (s.AD a):=(e.PU j a s.fn).2.2;simp only[go_sem,i,m,Acf];refine AM e.w 0x1301000010000 ?_;simp only[go_sem,V,i,x,n,y];obtain⟨ah,ai,aj,F,K⟩:=NM j r t z u;refine Aa K ?_;rintro _ ak al ⟨rfl,P,am⟩;simp only[go_sem,V];refine Aa (v P w F) ?_;rintro _ an ao ⟨rfl,a0,o,ap⟩;obtain⟨aq,ar,au,p,av,a1,aw,ax,ay,az,aA,aB,aC,aD⟩:=o.B4;unfold AJ at p;have q:a<(c (s.AD a)).2.types.length:=by omega
  have a2:=Gj (c (s.AD a)).1 q;have a3:=(o.PU j a (c (s.AD a)).1).1;simp only[go_sem,V,p,a1,q,a2];exact⟨a0,a3⟩
theorem Abh(e:Nat)(c:Int):DY L d f b e (nd 1 c [] []) fun s=>(1,s):=by intro h0 h k g s i j l a n o;refine a.walk fun a=>?_;refine eF r_ ?_;have m:=a.new (.cells [I 1,I i,I c,S [],.slice j 0 l]);simp only[go_sem,V,M];exact⟨g,m⟩
theorem Uv(c:Nat):DY L d f b c (nd 19 0 [] []) fun s=>(1,s):=by intro h0 h k g s e i j a m n;refine a.walk fun a=>?_;refine eF r_ ?_;have l:=a.new (.cells [I 19,I e,I 0,S [],.slice i 0 j]);simp only[go_sem,V,d_,M];exact⟨g,l⟩
theorem WT(e:Nat)(c:Int):DY L d f b e (nd 2 c [] []) fun s=>(2,s):=by intro h0 h k g s i j l a n o;refine a.walk fun a=>?_;refine eF r_ ?_;have m:=a.new (.cells [I 2,I i,I c,S [],.slice j 0 l]);simp only[go_sem,V,d_,M];exact⟨g,m⟩
theorem WR(e:Nat)(c:H):DY L d f b e (nd 3 0 c []) fun s=>(3,s):=by intro h0 h k g s i j l a n o;refine a.walk fun a=>?_;refine eF r_ ?_;have m:=a.new (.cells [I 3,I i,I 0,S c,.slice j 0 l]);simp only[go_sem,V,d_,M];exact⟨g,m⟩
theorem Abd(i:L.Ok)(j:Wh b)(l:Fx b d N)(a:Nat)(c:H)(m:N[a]? =Y (nd 4 0 c []))(n:a<L.m):DY L d f b a (nd 4 0 c []) fun s=>s.named c a:=by intro h0 h k g s o p q e r w;refine e.walk fun e=>?_;refine eF r_ ?_;have t:=e.new (.cells [I 4,I o,I 0,S c,.slice p 0 q]);simp only[go_sem,V,d_,M];refine Aa (Kk i j l t m n r) ?_;rintro _ x y ⟨rfl,u,v,z⟩;simp only[go_sem];exact⟨u,v⟩
theorem Abi(w:L.Ok)(F:Wh b)(m:Nat)(sg:H)(o p:Int)(a e:Ay→Int×Ay)(K:Ny L d f b o a)(P:Ny L d f b p e):
  DY L d f b m (nd 9 0 sg [o,p]) fun s=>((bif (a s).1==(e (a s).2).1 then YB sg (a s).1 else 0),(e (a s).2).2.ask ((bif (a s).1==(e (a s).2).1 then YB sg (a s).1 else 0) !=0) 42 (m:Int)):=by
 intro h0 h k g s x y z n a0 a1;refine n.walk fun n=>?_;refine eF r_ ?_;have a2:=n.new (.cells [I 9,I x,I 0,S sg,.slice y 2 z]);simp only[go_sem,V,d_,Z,M];refine Aa (Ei F a2 [a,e] (l:=[o,p]) a1 J (by show 2<900000;decide) (fun a3 al c h1 i=>?_) a0) ?_
 ·match a3 with
  |0=>cases h1;cases i;exact K
  |1=>cases h1;cases i;exact P
 rintro am i a4 ⟨an,j,a5,a6⟩;rcases a5 with⟨a7,_⟩|⟨a8,rfl,a9,aa,ao⟩
 ·cases a7
 have ab:=n.free (c:=h.n) (h1:=h.new (.cells [I 9,I x,I 0,S sg,.slice y 2 z])) (b_ _) (by simp only[go_sem]);obtain⟨ac,ad⟩:=ab.Ak a4 a6;have q:=ad.trans (Ae _);have r:i.get a8=Y (.cells [I (a s).1,I (e (a s).2).1]):=a9;have A:Br [a,e] s=([(a s).1,(e (a s).2).1],(e (a s).2).2):=J;rw[A]at j;have ae:=ac.1;have ap:(i.n==h.n)=false:=Ag;simp only[go_sem,V,q,A,Z,M];refine AM j.w 0x10100100 ?_;simp only[go_sem,h_,r];cases aq:((a s).1==(e (a s).2).1)with
 |true=>
  simp only[go_sem];refine AM j.w 0x10310010 ?_;simp only[go_sem,h_,q,r];refine Aj (Ok.wf j.w (Auw sg (a s).1 i)) ?_;rintro _ ar af ⟨ag,rfl,t⟩;have ah:=j.ext af ag t;have au:=(t _ ae).trans q;have av:=(t _ aa.1).trans r;simp only[go_sem,h_];refine Aa (BJ w ah (YB sg (a s).1 !=0) 42 m) ?_;rintro _ ai aj ⟨rfl,u,v,ak⟩;simp only[go_sem,V];exact⟨u,v⟩
 |false=>
  simp only[go_sem,V,Acf];refine Aa (BJ w j ((0:Int) !=0) 42 m) ?_;rintro _ ai aj ⟨rfl,u,v,ak⟩;simp only[go_sem,V];exact⟨u,v⟩
end
def Tl(a:e_):Option (Option e_)→Option e_
 |some b=>Y (b.getD a)
 |none=>W
def lkI(a:e_)(b:Int):Option AO→Option e_
 |some (.map c)=>Tl a (Bc (I b) c)
 |_=>W
theorem IS(a:e_)(b:Int)(c:List (e_×e_)):lkI a b (Y (.map c))=Tl a (Bc (I b) c):=nr J
theorem Io(b a:e_):Tl b (Y (Y a))=Y a:=nr J
theorem IQ(h:S_)(a:Nat)(c:Int)(d:e_):lkK g (Y (.int .i64,h)) (Y d) (.map (Y a)) (I c)=lkI d c (g.get a):=by
 have i:mapA g (.map (Y a))=(match g.get a with|some (.map b)=>Y b|_=>W):=J;show opt (mapA g (.map (Y a))) (fun b=>opt (Bc (I c) b) fun a=>Y (a.getD d))=_;rw[i];cases g.get a with
 |none=>rfl
 |some j=>
  cases j with
  |map b=>
   show opt (Bc (I c) b) (fun a=>Y (a.getD d))=Tl d (Bc (I c) b);cases Bc (I c) b<;>rfl
  |cells e=>rfl
  |tc k e=>rfl
  |iter k l=>rfl
  |ro e=>rfl
theorem BC(a:e_):Bc a []=Y W:=nr J
theorem BD(a b:Int)(c:e_)(d:List (e_×e_)):Bc (I a) ((I b,c)::d)=bif a==b then Y (Y c)else Bc (I a) d:=by show(match sameKey (I a) (I b)with|some true=>Y (Y c)|some false=>Bc (I a) d|none=>W)=_;have:sameKey (I a) (I b)=Y (a==b):=J;rw[this];cases(a==b)<;>rfl
theorem Ak2:pr.zero 429=Y (.agg #[I 0,.slice W 0 0]):=by kernel_rfl
theorem Fc(a b:W_):Cs pr u (.lookup 430 a b false) e g=CF g (lkK g (Y (.int .i64,429)) (Y (.agg #[I 0,.slice W 0 0])) (AZ e a) (AZ e b)):=Ke 430 a b Aqp Ak2
section
variable{L:Lc}{p A:Value}{f:AH}{N:List Nd}
theorem Abg(P:L.Ok)(a0:Wh f)(i:Nat)(j:Int)(c:Ay→Int×Ay)(a1:Ny L p A f j c):
  DY L p A f i (nd 6 0 [] [j]) fun a=>(1,(c a).2.ask ((c a).1==3||(c a).1==4) 42 (i:Int)):=by
 intro aC q aD aE a r s t h a2 a3;refine h.walk fun h=>?_;refine eF r_ ?_;have a4:=h.new (.cells [I 6,I r,I 0,S [],.slice s 1 t]);have a5:=h.free (c:=q.n) (h1:=q.new (.cells [I 6,I r,I 0,S [],.slice s 1 t])) (b_ _) (by simp only[go_sem]);simp only[go_sem,V,d_,Z,M];refine Aa (Ei a0 a4 [c] (l:=[j]) a3 J (by show 1<900000;decide) (fun a6 aF aG h1 d=>?_) a2) ?_
 ·match a6 with
  |0=>cases h1;cases d;exact a1
 rintro aH d a7 ⟨a8,e,a9,aa⟩;rcases a9 with⟨ab,_⟩|⟨u,rfl,ac,ad,aI⟩
 ·cases ab
 obtain⟨ae,af⟩:=a5.Ak a7 aa;have k:=af.trans (Ae _);have ag:d.get u=Y (.cells [I (c a).1]):=ac;have v:Br [c] a=([(c a).1],(c a).2):=J;rw[v]at e;have ah:=ae.1;have ai:=ad.1;simp only[go_sem,V,d_,k,v,Z,M];have aJ:=Ar (b:=d.n) (Am e.w (.cells [I 0,.slice W 0 0])) (by simp only[go_sem]) (.cells [I 1,.slice W 0 0]);refine AM e.w 0x105b103d00b104e15018 ?_;simp only[go_sem,V,k];refine Aj (Ok.wf (Am e.w (.cells [I 0,.slice W 0 0])) (Jz _)) ?_;rintro _ g w ⟨aj,rfl,x,aK,m,aL,aM,aN,aO,⟨aP,aQ,aR,aS,aT⟩,ak,n,aU,aV,aW,aX⟩;have al:d.n+1≤g.n:=w;have o:=(Ext.new d (.cells [I 0,.slice W 0 0])).trans (k_ _) x;have am:=(o _ ah).trans k;have an:=(o _ ai).trans ag;have y:g.get d.n=Y (.cells [I 0,.slice W 0 0]):=(x _ (n_ _)).trans (Ae _);have z:d.n<g.n:=al;have ao:g.get (d.n+1)=_:=ak;simp only[go_sem,V,d_,Fc,IQ,ao,IS,BD,BC,Aa9,Acf,Io,am,y];have ap:=(e.ext (i_ (k_ _) w) aj o);have F:=e.free (c:=d.n) (h1:=g) (b_ _) z;have K:=ap.put F (by have:=e.n;omega) (by have:=e.m;omega) (.cells [I 1,.slice (Y ⟨m,0,W⟩) 2 1]);have aq:(u==d.n)=false:=Ag;have ar:(m==d.n)=false:=Ag fun au=>by rw[au,y]at n;cases n
 refine AM K.w 0x10eb00bb0d810010000000 ?_;simp only[go_sem,V,an,aq];refine Aj (Et (c a).1 [3,4] (by simp only[go_sem,ar];exact n) (by show 2<2^62;decide)) ?_;rintro _ _ _ ⟨rfl,rfl⟩;have av:Gs (c a).1 [3,4]=((c a).1==3||(c a).1==4):=by simp[Gs]
 rw[av];simp only[go_sem,V,Aa9];refine Aj (BJ P K ((c a).1==3||(c a).1==4) 42 i) ?_;rintro _ aY aw ⟨rfl,ax,ay,az⟩;have aA:Gf (g.put d.n (.cells [I 1,.slice (Y ⟨m,0,W⟩) 2 1])) a8 d.n:=⟨z,F.2⟩;have aB:=(aA.Ak aw az).2.trans (Ai _ _);simp only[go_sem,V,aB];exact⟨ax,ay⟩
theorem Abf(P:L.Ok)(a0:Wh f)(i:Nat)(j:Int)(c:Ay→Int×Ay)(a1:Ny L p A f j c):
  DY L p A f i (nd 7 0 [] [j]) fun d=>(1,(c d).2.ask ((c d).1==1) 42 (i:Int)):=by
 intro aC q aD aE d r s t h a2 a3;refine h.walk fun h=>?_;refine eF r_ ?_;have a4:=h.new (.cells [I 7,I r,I 0,S [],.slice s 1 t]);have a5:=h.free (c:=q.n) (h1:=q.new (.cells [I 7,I r,I 0,S [],.slice s 1 t])) (b_ _) (by simp only[go_sem]);simp only[go_sem,V,d_,Z,M];refine Aa (Ei a0 a4 [c] (l:=[j]) a3 J (by show 1<900000;decide) (fun a6 aF aG h1 a=>?_) a2) ?_
 ·match a6 with
  |0=>cases h1;cases a;exact a1
 rintro aH a a7 ⟨a8,e,a9,aa⟩;rcases a9 with⟨ab,_⟩|⟨u,rfl,ac,ad,aI⟩
 ·cases ab
 obtain⟨ae,af⟩:=a5.Ak a7 aa;have k:=af.trans (Ae _);have ag:a.get u=Y (.cells [I (c d).1]):=ac;have v:Br [c] d=([(c d).1],(c d).2):=J;rw[v]at e;have ah:=ae.1;have ai:=ad.1;simp only[go_sem,V,d_,k,v,Z,M];have aJ:=Ar (b:=a.n) (Am e.w (.cells [I 0,.slice W 0 0])) (by simp only[go_sem]) (.cells [I 1,.slice W 0 0]);refine AM e.w 0x105b103d00b104e15018 ?_;simp only[go_sem,V,k];refine Aj (Ok.wf (Am e.w (.cells [I 0,.slice W 0 0])) (Jz _)) ?_;rintro _ g w ⟨aj,rfl,x,aK,aL,m,aM,aN,aO,⟨aP,aQ,aR,aS,aT⟩,ak,aU,n,aV,aW,aX⟩;have al:a.n+1≤g.n:=w;have o:=(Ext.new a (.cells [I 0,.slice W 0 0])).trans (k_ _) x;have am:=(o _ ah).trans k;have an:=(o _ ai).trans ag;have y:g.get a.n=Y (.cells [I 0,.slice W 0 0]):=(x _ (n_ _)).trans (Ae _);have z:a.n<g.n:=al;have ao:g.get (a.n+1)=_:=ak;simp only[go_sem,V,d_,Fc,IQ,ao,IS,BD,BC,Aa9,Acf,Io,am,y];have ap:=(e.ext (i_ (k_ _) w) aj o);have F:=e.free (c:=a.n) (h1:=g) (b_ _) z;have K:=ap.put F (by have:=e.n;omega) (by have:=e.m;omega) (.cells [I 1,.slice (Y ⟨m,0,W⟩) 1 1]);have aq:(u==a.n)=false:=Ag;have ar:(m==a.n)=false:=Ag fun au=>by rw[au,y]at n;cases n
 refine AM K.w 0x10eb00bb0d810010000000 ?_;simp only[go_sem,V,an,aq];refine Aj (Et (c d).1 [1] (by simp only[go_sem,ar];exact n) (by show 1<2^62;decide)) ?_;rintro _ _ _ ⟨rfl,rfl⟩;have av:Gs (c d).1 [1]=((c d).1==1):=by simp[Gs]
 rw[av];simp only[go_sem,V,Aa9];refine Aj (BJ P K ((c d).1==1) 42 i) ?_;rintro _ aY aw ⟨rfl,ax,ay,az⟩;have aA:Gf (g.put a.n (.cells [I 1,.slice (Y ⟨m,0,W⟩) 1 1])) a8 a.n:=⟨z,F.2⟩;have aB:=(aA.Ak aw az).2.trans (Ai _ _);simp only[go_sem,V,aB];exact⟨ax,ay⟩
theorem Afk(P:L.Ok)(a0:Wh f)(i:Nat)(j:Int)(c:Ay→Int×Ay)(a1:Ny L p A f j c):
  DY L p A f i (nd 8 0 [] [j]) fun d=>(2,(c d).2.ask ((c d).1==2) 42 (i:Int)):=by
 intro aC q aD aE d r s t h a2 a3;refine h.walk fun h=>?_;refine eF r_ ?_;have a4:=h.new (.cells [I 8,I r,I 0,S [],.slice s 1 t]);have a5:=h.free (c:=q.n) (h1:=q.new (.cells [I 8,I r,I 0,S [],.slice s 1 t])) (b_ _) (by simp only[go_sem]);simp only[go_sem,V,d_,Z,M];refine Aa (Ei a0 a4 [c] (l:=[j]) a3 J (by show 1<900000;decide) (fun a6 aF aG h1 a=>?_) a2) ?_
 ·match a6 with
  |0=>cases h1;cases a;exact a1
 rintro aH a a7 ⟨a8,e,a9,aa⟩;rcases a9 with⟨ab,_⟩|⟨u,rfl,ac,ad,aI⟩
 ·cases ab
 obtain⟨ae,af⟩:=a5.Ak a7 aa;have k:=af.trans (Ae _);have ag:a.get u=Y (.cells [I (c d).1]):=ac;have v:Br [c] d=([(c d).1],(c d).2):=J;rw[v]at e;have ah:=ae.1;have ai:=ad.1;simp only[go_sem,V,d_,k,v,Z,M];have aJ:=Ar (b:=a.n) (Am e.w (.cells [I 0,.slice W 0 0])) (by simp only[go_sem]) (.cells [I 2,.slice W 0 0]);refine AM e.w 0x105b103d00b104e15018 ?_;simp only[go_sem,V,k];refine Aj (Ok.wf (Am e.w (.cells [I 0,.slice W 0 0])) (Jz _)) ?_;rintro _ g w ⟨aj,rfl,x,aK,aL,aM,m,aN,aO,⟨aP,aQ,aR,aS,aT⟩,ak,aU,aV,n,aW,aX⟩;have al:a.n+1≤g.n:=w;have o:=(Ext.new a (.cells [I 0,.slice W 0 0])).trans (k_ _) x;have am:=(o _ ah).trans k;have an:=(o _ ai).trans ag;have y:g.get a.n=Y (.cells [I 0,.slice W 0 0]):=(x _ (n_ _)).trans (Ae _);have z:a.n<g.n:=al;have ao:g.get (a.n+1)=_:=ak;simp only[go_sem,V,d_,Fc,IQ,ao,IS,BD,BC,Aa9,Acf,Io,am,y];have ap:=(e.ext (i_ (k_ _) w) aj o);have F:=e.free (c:=a.n) (h1:=g) (b_ _) z;have K:=ap.put F (by have:=e.n;omega) (by have:=e.m;omega) (.cells [I 2,.slice (Y ⟨m,0,W⟩) 1 1]);have aq:(u==a.n)=false:=Ag;have ar:(m==a.n)=false:=Ag fun au=>by rw[au,y]at n;cases n
 refine AM K.w 0x10eb00bb0d810010000000 ?_;simp only[go_sem,V,an,aq];refine Aj (Et (c d).1 [2] (by simp only[go_sem,ar];exact n) (by show 1<2^62;decide)) ?_;rintro _ _ _ ⟨rfl,rfl⟩;have av:Gs (c d).1 [2]=((c d).1==2):=by simp[Gs]
 rw[av];simp only[go_sem,V,Aa9];refine Aj (BJ P K ((c d).1==2) 42 i) ?_;rintro _ aY aw ⟨rfl,ax,ay,az⟩;have aA:Gf (g.put a.n (.cells [I 2,.slice (Y ⟨m,0,W⟩) 1 1])) a8 a.n:=⟨z,F.2⟩;have aB:=(aA.Ak aw az).2.trans (Ai _ _);simp only[go_sem,V,aB];exact⟨ax,ay⟩
theorem Abe(P:L.Ok)(a0:Wh f)(i:Nat)(j:Int)(c:Ay→Int×Ay)(a1:Ny L p A f j c):
  DY L p A f i (nd 20 0 [] [j]) fun d=>(4,(c d).2.ask ((c d).1==1) 42 (i:Int)):=by
 intro aC q aD aE d r s t h a2 a3;refine h.walk fun h=>?_;refine eF r_ ?_;have a4:=h.new (.cells [I 20,I r,I 0,S [],.slice s 1 t]);have a5:=h.free (c:=q.n) (h1:=q.new (.cells [I 20,I r,I 0,S [],.slice s 1 t])) (b_ _) (by simp only[go_sem]);simp only[go_sem,V,d_,Z,M];refine Aa (Ei a0 a4 [c] (l:=[j]) a3 J (by show 1<900000;decide) (fun a6 aF aG h1 a=>?_) a2) ?_
 ·match a6 with
  |0=>cases h1;cases a;exact a1
 rintro aH a a7 ⟨a8,e,a9,aa⟩;rcases a9 with⟨ab,_⟩|⟨u,rfl,ac,ad,aI⟩
 ·cases ab
 obtain⟨ae,af⟩:=a5.Ak a7 aa;have k:=af.trans (Ae _);have ag:a.get u=Y (.cells [I (c d).1]):=ac;have v:Br [c] d=([(c d).1],(c d).2):=J;rw[v]at e;have ah:=ae.1;have ai:=ad.1;simp only[go_sem,V,d_,k,v,Z,M];have aJ:=Ar (b:=a.n) (Am e.w (.cells [I 0,.slice W 0 0])) (by simp only[go_sem]) (.cells [I 4,.slice W 0 0]);refine AM e.w 0x105b103d00b104e15018 ?_;simp only[go_sem,V,k];refine Aj (Ok.wf (Am e.w (.cells [I 0,.slice W 0 0])) (Jz _)) ?_;rintro _ g w ⟨aj,rfl,x,aK,aL,aM,aN,m,aO,⟨aP,aQ,aR,aS,aT⟩,ak,aU,aV,aW,n,aX⟩;have al:a.n+1≤g.n:=w;have o:=(Ext.new a (.cells [I 0,.slice W 0 0])).trans (k_ _) x;have am:=(o _ ah).trans k;have an:=(o _ ai).trans ag;have y:g.get a.n=Y (.cells [I 0,.slice W 0 0]):=(x _ (n_ _)).trans (Ae _);have z:a.n<g.n:=al;have ao:g.get (a.n+1)=_:=ak;simp only[go_sem,V,d_,Fc,IQ,ao,IS,BD,BC,Aa9,Acf,Io,am,y];have ap:=(e.ext (i_ (k_ _) w) aj o);have F:=e.free (c:=a.n) (h1:=g) (b_ _) z;have K:=ap.put F (by have:=e.n;omega) (by have:=e.m;omega) (.cells [I 4,.slice (Y ⟨m,0,W⟩) 1 1]);have aq:(u==a.n)=false:=Ag;have ar:(m==a.n)=false:=Ag fun au=>by rw[au,y]at n;cases n
 refine AM K.w 0x10eb00bb0d810010000000 ?_;simp only[go_sem,V,an,aq];refine Aj (Et (c d).1 [1] (by simp only[go_sem,ar];exact n) (by show 1<2^62;decide)) ?_;rintro _ _ _ ⟨rfl,rfl⟩;have av:Gs (c d).1 [1]=((c d).1==1):=by simp[Gs]
 rw[av];simp only[go_sem,V,Aa9];refine Aj (BJ P K ((c d).1==1) 42 i) ?_;rintro _ aY aw ⟨rfl,ax,ay,az⟩;have aA:Gf (g.put a.n (.cells [I 4,.slice (Y ⟨m,0,W⟩) 1 1])) a8 a.n:=⟨z,F.2⟩;have aB:=(aA.Ak aw az).2.trans (Ai _ _);simp only[go_sem,V,aB];exact⟨ax,ay⟩
theorem Uw(o:L.Ok)(a2:Wh f)(ae:Fx f p N)(e:Nat)(j:Int)(g:H)(af:N[e]? =Y (nd 5 0 g [j]))(ag:e<L.m)(c:Ay→Int×Ay)(ah:Ny L p A f j c):
  DY L p A f e (nd 5 0 g [j]) fun a=>(1,(c (a.named g e).2).2.ask (((a.named g e).1==4)&&((c (a.named g e).2).1==1)) 42 (e:Int)):=by
 intro aO q aP aQ a a3 a4 a5 k r ai;refine k.walk fun k=>?_;refine eF r_ ?_;have s:=k.new (.cells [I 5,I a3,I 0,S g,.slice a4 1 a5]);have m:=k.free (c:=q.n) (h1:=q.new (.cells [I 5,I a3,I 0,S g,.slice a4 1 a5])) (b_ _) (by simp only[go_sem]);simp only[go_sem,V,d_,Z,M];refine Aa (Kk o a2 ae s af ag r) ?_;rintro _ h1 aj ⟨rfl,aR,s,ak⟩;obtain⟨m,al⟩:=m.Ak aj ak;have a6:=al.trans (Ae _);have am:(a.named g e).2.vars=a.vars:=by unfold Ay.named;cases B7 g a.vars<;>simp only[Ay.CZ,Ay.ask]<;>cases(!false&&a.e==0)<;>rfl
 rw[←am]at r;generalize (a.named g e).1=an at*
 generalize (a.named g e).2=a at*
 have aS:q.n<h1.n:=m.1;simp only[go_sem,V,a6];refine Aa (Ei a2 s [c] (l:=[j]) ai J (by show 1<900000;decide) (fun ao aT aU h1 d=>?_) r) ?_
 ·match ao with
  |0=>cases h1;cases d;exact ah
 rintro aV d ap ⟨a7,h,aq,ar⟩;rcases aq with⟨au,_⟩|⟨a8,rfl,av,aw,aW⟩
 ·cases au
 obtain⟨ax,ay⟩:=m.Ak ap ar;have t:=ay.trans a6;have az:d.get a8=Y (.cells [I (c a).1]):=av;have a9:Br [c] a=([(c a).1],(c a).2):=J;rw[a9]at h;have aA:=ax.1;have aB:=aw.1;simp only[go_sem,V,d_,t,a9,Z,M];have aX:=Ar (b:=d.n) (Am h.w (.cells [I 0,.slice W 0 0])) (by simp only[go_sem]) (.cells [I 1,.slice W 0 0]);refine AM h.w 0x105b103d00b104e15018 ?_;simp only[go_sem,V,t];refine Aj (Ok.wf (Am h.w (.cells [I 0,.slice W 0 0])) (Jz _)) ?_;rintro _ i aa ⟨aC,rfl,ab,aY,aZ,b0,b1,b2,n,⟨b3,b4,b5,b6,b7⟩,aD,b8,b9,ba,bb,u⟩;have aE:d.n+1≤i.n:=aa;have v:=(Ext.new d (.cells [I 0,.slice W 0 0])).trans (k_ _) ab;have aF:=(v _ aA).trans t;have aG:=(v _ aB).trans az;have ac:i.get d.n=Y (.cells [I 0,.slice W 0 0]):=(ab _ (n_ _)).trans (Ae _);have w:d.n<i.n:=aE;have aH:i.get (d.n+1)=_:=aD;simp only[go_sem,V,d_,Fc,IQ,aH,IS,BD,BC,Aa9,Acf,Io,aF,ac];have aI:=(h.ext (i_ (k_ _) aa) aC v);have x:=h.free (c:=d.n) (h1:=i) (b_ _) w;have y:=aI.put x (by have:=h.n;omega) (by have:=h.m;omega) (.cells [I 1,.slice (Y ⟨n,0,W⟩) 1 1]);have aJ:(a8==d.n)=false:=Ag;have aK:(n==d.n)=false:=Ag fun aL=>by rw[aL,ac]at u;cases u
 refine AM y.w 0x10eb00bb0d810010000000 ?_;cases ad:(an==4)with
 |true=>
  simp only[go_sem,V,aG,aJ,ad];refine Aj (Et (c a).1 [1] (by simp only[go_sem,aK];exact u) (by show 1<2^62;decide)) ?_;rintro _ _ _ ⟨rfl,rfl⟩;have aM:Gs (c a).1 [1]=((c a).1==1):=by simp[Gs]
  rw[aM];simp only[go_sem,V,Aa9];refine Aj (BJ o y ((c a).1==1) 42 e) ?_;rintro _ aN z ⟨rfl,F,K,P⟩;have a0:Gf (i.put d.n (.cells [I 1,.slice (Y ⟨n,0,W⟩) 1 1])) a7 d.n:=⟨w,x.2⟩;have a1:=(a0.Ak z P).2.trans (Ai _ _);simp only[go_sem,V,a1];exact⟨F,K⟩
 |false=>
  simp only[go_sem,V,ad,Acf,U_];refine Aj (BJ o y false 42 e) ?_;rintro _ aN z ⟨rfl,F,K,P⟩;have a0:Gf (i.put d.n (.cells [I 1,.slice (Y ⟨n,0,W⟩) 1 1])) a7 d.n:=⟨w,x.2⟩;have a1:=(a0.Ak z P).2.trans (Ai _ _);simp only[go_sem,V,a1];exact⟨F,K⟩
end
theorem BO(a:Ay)(b:Bool)(e f:Int):(a.ask b e f).vars=a.vars:=by unfold Ay.ask;cases(!b&&a.e==0)<;>rfl
theorem FB(a:Ay)(b:H)(e:Nat):(a.named b e).2.vars=a.vars:=by unfold Ay.named;cases B7 b a.vars<;>simp only[Ay.CZ,BO]
theorem Ff{b:Ay}{e:Ay→Int×Ay}(f:∀b,(e b).2.vars=b.vars):(b.Gq a e).2.vars=b.vars:=by
 unfold Ay.Gq;cases b.e !=0 with
 |true=>rfl
 |false=>exact f _
theorem Xp.Dv:∀(b:Xp) (a:Nat) (e:Ay),(b.ck a e).2.vars=e.vars
 |.int _,_,_|.bool _,_,_|.text _,_,_=>Ff fun _=>rfl
 |.var f,a,_=>Ff fun e=>FB e f a
 |.index f b,a,_=>Ff fun e=>by rw[BO,b.Dv,FB]
 |.len b,a,_|.neg b,a,_|.no b,a,_=>Ff fun e=>by rw[BO,b.Dv]
 |.bin sg f h,a,_=>Ff fun e=>by rw[BO,h.Dv,f.Dv]
def Gr(a:Fn→Bool):List Fn→Nat→Int
 |[],_=> -1
 |f::e,b=>bif a f then b else Gr a e (b+1)
theorem MF{c e:AH}{d:e_}{b:List Fn}(p:ak_)(q:Array e_)(k:Fn→Bool)(u:Mb c d b)(a1:Wh c)(a2:Ext c e)(v:c.n≤e.n)(a3:Wh e)(ag:b.length<2^60)
  (a4:∀{f:AH} {h:Fn} {w:Int} {x:Option X_} {y:Nat},Ext e f→Wh f→e.n≤f.n→AR p ([.agg #[S h.name,I w,.slice x h.params.length y,I h.ret,I h.body]]++q.toList) f (fun a i=>a=.bool (k h)∧Ext f i)):
  AR 77 [d,.func (.func p) #[] q] e (fun a i=>a=I (Gr k b 0)∧Ext e i):=by
 obtain⟨a5,a6,r⟩:=u.slice;refine eF Tryz.func77 ?_;subst r;simp only[go_sem];refine AG (fun(a:Nat) l f=>Ext e f∧Wh f∧e.n≤f.n∧l.at 0=.slice a5 b.length a6∧l.at 1=.func (.func p) #[] q∧l.at 7=I b.length∧l.at 8=I a∧a≤b.length∧Gr k b 0=Gr k (b.drop a) a) (fun a=>b.length-a) ?_ 0 ?_
 ·rintro a l f ⟨m,z,n,A,F,s,t,ah,i⟩ a7
  cases o:decide ((a:Int)<b.length)with
  |false=>
   have j:a=b.length:=by have:=Adh o;omega
   subst j;simp only[go_sem,s,t,o];rw[w_]at i;exact⟨by rw[i];rfl,m⟩
  |true=>
   have j:a<b.length:=by have:=Acw o;omega
   have K:b[a]? =Y b[a]:=g_ j;have a8:b.drop a=b[a]::b.drop (a+1):=j_ j;rw[a8]at i;generalize b[a]=h at K i;have a9:f_ .i64 ((a:Int)+1)=((a+1:Nat):Int):=by rw[Ap]<;>omega
   obtain⟨ai,aj,w,x,y,r,aa,ak,_,ab,_⟩:=u.node a1 (a2.trans v m) (i_ v n) K;injection r with ac _ ad
   subst ac ad;simp only[go_sem,V,A,F,s,t,o,j,aa,ab];refine Aa (Ok.wf z (a4 m z n)) ?_;rintro _ al ae ⟨af,rfl,P⟩;cases a0:k h with
   |true=>
    simp only[go_sem,V];refine⟨?_,m.trans n P⟩;rw[i];simp only[Gr,a0,Aa9]
   |false=>
    simp only[go_sem,V,t,a9];refine a7 (a+1) _ _ ⟨m.trans n P,af,i_ n ae,?_,?_,?_,?_,j,?_⟩ (by omega)
    ·simp only[go_sem,A]
    ·simp only[go_sem,V,F]
    ·simp only[go_sem,V,s]
    ·simp only[go_sem]
    rw[i];simp only[Gr,a0,Acf]
 refine⟨Ext.refl e,a3,b_ _,?_,?_,?_,?_,m_ _,J⟩<;>simp only[go_sem,V]
 rfl
theorem RE(b:H):∀(a:List Fn) (f:Nat),(findF b a=W∧Gr (fun e=>e.name==b) a f= -1)∨(∃h e,findF b a=Y e∧Gr (fun e=>e.name==b) a f=((f+h:Nat):Int)∧a[h]? =Y e)
 |[],_=>.inl ⟨J,J⟩
 |v::a,f=>by
  unfold findF Gr;cases m:(v.name==b)with
  |true=>exact .inr ⟨0,v,J,J,J⟩
  |false=>
   rcases RE b a (f+1)with⟨i,j⟩|⟨h,k,i,j,l⟩
   ·exact .inl ⟨by simpa using i,by simpa using j⟩
   exact .inr ⟨h+1,k,by simpa using i,by rw[Acf,j];congr 1;omega,by simpa using l⟩
section
variable{L:Lc}{g d:Value}{c:AH}{N:List Nd}
theorem Gc(h:L.Ok)(i:Wh c)(j:Fx c g N){f:Nd}(k:N[a]? =Y f)(l:a<L.m){e:Ay→Int×Ay}(m:DY L g d c a f e)(n:∀b,(e b).2.vars=b.vars):Ny L g d c a (fun b=>b.Gq a e):=
 ⟨fun o p=>At5 h i j k l m o p,fun _=>Ff n⟩
theorem Gi(f:L.Ok)(h:Wh c)(j:Fx c g N)(k:N.length=L.m):∀(b:Xp) (a:Nat),A2 N a (b.fl a)→Ny L g d c (top a b.sz) (fun m=>b.ck a m)
 |.int i,a,e=>Gc f h j e.at (by rw[←k];exact(c_.1 e.at).1) (Abh a i) (fun _=>rfl)
 |.bool o,a,e=>Gc f h j e.at (by rw[←k];exact(c_.1 e.at).1) (WT a _) (fun _=>rfl)
 |.text m,a,e=>Gc f h j e.at (by rw[←k];exact(c_.1 e.at).1) (WR a m) (fun _=>rfl)
 |.var n,a,e=>by
  have i:=e.at;have l:a<L.m:=by rw[←k];exact(c_.1 i).1
  exact Gc f h j i l (Abd f h j a n i l) (fun m=>FB m n a)
 |.index n b,a,e=>by
  have i:=e.last (b.Af a);have l:a+b.sz<L.m:=by rw[←k];exact(c_.1 i).1
  exact Gc f h j i l (Uw f h j (a+b.sz) _ n i l _ (Gi f h j k b a e.left)) (fun m=>by rw[BO,b.Dv,FB])
 |.len b,a,e=>by
  have i:=e.last (b.Af a);have l:a+b.sz<L.m:=by rw[←k];exact(c_.1 i).1
  exact Gc f h j i l (Abg f h (a+b.sz) _ _ (Gi f h j k b a e.left)) (fun m=>by rw[BO,b.Dv])
 |.neg b,a,e=>by
  have i:=e.last (b.Af a);have l:a+b.sz<L.m:=by rw[←k];exact(c_.1 i).1
  exact Gc f h j i l (Abf f h (a+b.sz) _ _ (Gi f h j k b a e.left)) (fun m=>by rw[BO,b.Dv])
 |.no b,a,e=>by
  have i:=e.last (b.Af a);have l:a+b.sz<L.m:=by rw[←k];exact(c_.1 i).1
  exact Gc f h j i l (Afk f h (a+b.sz) _ _ (Gi f h j k b a e.left)) (fun m=>by rw[BO,b.Dv])
 |.bin sg n o,a,e=>by
  have i:N[a+(n.sz+o.sz)]? =_:=e.last (by rw[a_,n.Af a,o.Af]);have l:a+(n.sz+o.sz)<L.m:=by rw[←k];exact(c_.1 i).1
  exact Gc f h j i l (Abi f h (a+(n.sz+o.sz)) sg _ _ _ _ (Gi f h j k n a e.left.left) (Gi f h j k o (a+n.sz) (by have:=e.left.right;rwa[n.Af a]at this))) (fun m=>by rw[BO,o.Dv,n.Dv])
end
theorem Yl(d:H){h:AH}{e f i:Int}(j:h.get a=Y (.cells [I e,I f,I i,S d,v]))(l:a<h.n){c:Fn}:
  AR 404 ([.agg #[S c.name,I x,.slice o c.params.length b,I c.ret,I c.body]]++(#[AA a]:Array e_).toList) h (fun m n=>m=.bool (c.name==d)∧Ext h n):=by
 refine eF Tryz.func404 ?_;simp only[go_sem,V,j,l];exact Ext.new h _
theorem R9(c:Int):∀(a:List Int) (b:List Pm) (s:Ay),(K6 c a b s).vars=s.vars
 |[],_,_=>rfl
 |_::_,[],_=>rfl
 |d::a,e::b,s=>by rw[K6,R9 c a b,BO]
theorem Nu:∀(a:List (Ay→Int×Ay)) (s:Ay),(∀c∈a,∀s,(c s).2.vars=s.vars)→(Br a s).2.vars=s.vars
 |[],_,_=>rfl
 |c::a,s,h=>by
  show(Br a (c s).2).2.vars=s.vars;rw[Nu a _ fun b d=>h b (y_ _ d),h c (C_ ..)]
def LR(F:List Fn)(c:H)(a:List (Ay→Int×Ay))(b:Nat)(s:Ay):Int×Ay:=
 match findF c F with
 |none=>(0,s.ask false 40 b)
 |some g=>(g.ret,K6 b (Br a s).1 g.params ((Br a s).2.ask (a.length==g.params.length) 43 b))
theorem PZ{F:List Fn}{b:List (Ay→Int×Ay)}(h:∀c∈b,∀s,(c s).2.vars=s.vars)(s:Ay):(LR F t b a s).2.vars=s.vars:=by
 unfold LR;split
 ·exact BO ..
 rw[R9,BO,Nu b s h]
section
variable{L:Lc}{nv fv:Value}{k h0 h:AH}{g0 g:List Nat}{s:Ay}{F:List Fn}
theorem Aj0(a0:L.Ok)(a1:Wh k)(ao:Mb k fv F)(aZ:F.length<2^60)(f:Nat)(q:H)(r:List Int)(d:List (Ay→Int×Ay))(b0:r.length=d.length)(b1:r.length<900000)
  (ab:∀(n:Nat) (e:Int) (c:Ay→Int×Ay),r[n]? =Y e→d[n]? =Y c→Ny L nv fv k e c)
  (K:Hr (BB L nv fv) k h0 g0 h g s) (b2:s.vars.length<100000) (b3:Iz k o a r):
  AR 377 [AA L.cb,.agg #[I 21,I x,I 0,S q,.slice o r.length a],I f] h (Jn (BB L nv fv) k h0 g0 h g (LR F q d f s).2 (I (LR F q d f s).1)):=by
 refine K.walk fun K=>?_;have N:=K.new (.cells [I 21,I x,I 0,S q,.slice o r.length a]);have ap:=K.free (c:=h.n) (h1:=h.new (.cells [I 21,I x,I 0,S q,.slice o r.length a])) (b_ _) (by simp only[go_sem]);obtain⟨bP,bQ,bR,aq,b4,_⟩:=K.B4;unfold AJ at aq;refine eF Tryz.func377 ?_;simp only[go_sem,V,aq,b4];refine Aa (Ok.wf N.w (MF 404 #[AA h.n] (fun g=>g.name==q) ao a1 N.x N.m N.w aZ (fun{a2} {bS} {bT} {y} {v} ac ar b5=>Yl q ((ac _ (n_ _)).trans (Ae _)) b5))) ?_;rintro _ b6 au ⟨b7,rfl,av⟩;have aw:=N.ext au b7 av;have b8:=(av h.n (n_ _)).trans (Ae _);have b9:Gf b6 g h.n:=⟨l_ ap.1 au,ap.2⟩;unfold LR;rcases RE q F 0 with⟨ad,ae⟩|⟨n,b,ad,ae,ba⟩
 ·rw[ad,ae]
  have i:decide ((0:Int)≤ -1)=false:=J;have m:decide ((-1:Int)<0)=true:=J;simp only[go_sem,V,i];refine Aa (BJ a0 aw false 40 f) ?_;rintro _ z ax ⟨rfl,af,j,ay⟩;simp only[go_sem,V,m];exact⟨af,j⟩
 rw[ad,ae];have bU:decide ((0:Int)≤((0+n:Nat):Int))=true:=Gu;have az:decide (((0+n:Nat):Int)<0)=false:=Gv;simp only[go_sem,V];refine Aa (BJ a0 aw true 40 f) ?_;rintro _ z ax ⟨rfl,af,j,ay⟩;have bb:s.ask true 40 f=s:=J;rw[bb]at j;obtain⟨bc,aA⟩:=b9.Ak ax ay;rw[b8]at aA;obtain⟨bV,bW,bX,aB,bY,_⟩:=j.B4;unfold AJ at aB;obtain⟨bd,bZ,aC,y,v,rfl,be,c0,bf,bg,aD⟩:=ao.node a1 j.x j.m ba;simp only[am_]at az⊢;simp only[go_sem,V,az,aB,be,bf,bg];have bh:=bc.1;have bi:=(j.new (.cells [S [],I 0,.slice W 0 0,I 0,I 0])).put (c:=z.n) (j.free (b_ _) (by simp only[go_sem])) j.n j.m (.cells [S b.name,I aC,.slice y b.params.length v,I b.ret,I b.body]);have bj:Gf ((z.new (.cells [S [],I 0,.slice W 0 0,I 0,I 0])).put z.n (.cells [S b.name,I aC,.slice y b.params.length v,I b.ret,I b.body])) af z.n:=j.free (b_ _) (by simp only[go_sem]);simp only[go_sem,V,bh,aA];refine Aa (Ei a1 bi d (l:=r) b3 b0 b1 ab b2) ?_;rintro c4 c5 bk ⟨c6,aE,ag,bl⟩;obtain⟨aF,bm⟩:=bj.Ak bk bl;have aG:=bm.trans (Ai _ _);obtain⟨bn,bo,bp⟩:=ag.slice;subst bp;rw[I0]at ag;have c7:=aF.1;simp only[go_sem];refine AM aE.w 0x130011010000 ?_;simp only[go_sem,V,aG,I0];have bq:(((d.length:Nat):Int)==((b.params.length:Nat):Int))=(d.length==b.params.length):=by rw[at_];simp;omega
 rw[bq];refine Aj (BJ a0 aE (d.length==b.params.length) 43 f) ?_;rintro _ P aH ⟨rfl,aI,br,aJ⟩;have bs:=ag.Ak aH aJ;obtain⟨bt,ah⟩:=aF.Ak aH aJ;rw[aG]at ah;simp only[go_sem,V,ah];have bu:(if((b.params.length:Nat):Int)<((d.length:Nat):Int)then((b.params.length:Nat):Int)else((d.length:Nat):Int))=((min d.length b.params.length:Nat):Int):=by split<;>omega
 rw[bu];have ai:min d.length b.params.length≤b.params.length:=Nat.min_le_right _ _;have c8:min d.length b.params.length≤d.length:=Nat.min_le_left _ _;have c9:min d.length b.params.length<900000:=by omega
 generalize ca:min d.length b.params.length=i at*
 have cb:(Br d s).1.length=d.length:=I0 d s;generalize (Br d s).1=p at*
 have bv:Av true (CF P (JV y b.params.length v (Y 2) (Y 0) (CW (.int .i64 (i:Int))) (Y b.params.length))) W=Y (.val (.slice y i v) P):=by
  rcases aD with⟨A,m⟩|⟨aj,A,m,_⟩
  ·have t:i=0:=by rw[A]at ai;exact Nat.le_zero.1 ai
   subst t;rw[A,m];show Av true (CF P (JV W 0 v (Y 2) (Y 0) (Y 0) (Y 0))) W=_;rw[RV];rfl
  subst A m;simp only[go_sem,ai,m_,b_,K_,Nat.sub_zero]
 have bw:∀n ak,p[n]? =Y ak→nth? (p.map fun e=>I e) n=Y (I ak):=fun n ak bx=>DU bx;rw[bv];simp only[go_sem];generalize cc:(Br d s).2.ask (d.length==b.params.length) 43 f=aK at*
 refine AG (fun(m:Nat×Ay×List Nat) t a2=>Hr (BB L nv (.slice (Y ⟨bd,0,W⟩) F.length 5)) k h g a2 m.2.2 m.2.1∧Kp P a2 aI m.2.2∧P.n≤a2.n∧m.1≤i∧K6 f (p.drop m.1) (b.params.drop m.1) m.2.1=K6 f p b.params aK∧
  t.at 0=AA L.cb∧t.at 2=I f∧t.at 8=AA z.n∧t.at 9=.slice bn d.length bo∧t.at 60=.slice y i v∧t.at 61=I i∧t.at 62=I m.1) (fun m=>i-m.1) ?_ (0,aK,aI) ?_
 ·rintro⟨e,aL,bz⟩ t a3 ⟨u,a4,a5,ac,w,aM,aN,aO,aP,aQ,al,a6⟩ aR
  dsimp only at u a4 ac w a6 aR;have bA:=bs.Ak a5 a4;obtain⟨cd,aS⟩:=bt.Ak a5 a4;rw[ah]at aS;cases a7:decide ((e:Int)<i)with
  |false=>
   have am:e=i:=by have:=Adh a7;omega
   have a9:K6 f (p.drop e) (b.params.drop e) aL=aL:=by
    have:p.drop e=[]∨b.params.drop e=[]:=by
     rcases Nat.le_total d.length b.params.length with a8|a8
     ·left;rw[ag_];omega
     right;rw[ag_];omega
    rcases this with a8|a8<;>rw[a8]
    ·rfl
    cases p.drop e<;>rfl
   rw[a9]at w;simp only[go_sem,V,aO,al,a6,a7,aS];rw[←w];exact⟨bz,u⟩
  |true=>
   have am:e<i:=by have:=Acw a7;omega
   have a8:e<p.length:=by omega
   have a9:e<b.params.length:=by omega
   have aT:=g_ a8;have aU:=g_ a9;rw[j_ a8,j_ a9]at w;generalize p[e]=aV at w aT;generalize b.params[e]=aa at w aU;rcases aD with⟨A,_⟩|⟨aj,rfl,rfl,_,aW⟩
   ·rw[A]at a9;cases a9
   have aX:=(u.x aj (a1 _ _ aW)).trans aW;have bB:=GN b.params e aa aU;have ce:aj<a3.n:=u.w _ _ aX;rcases bA with⟨an,_⟩|⟨cf,an,bC,bD,_⟩
   ·rw[an]at a8;cases a8
   injection an with bE _ bF
   subst bE bF;have bG:=bw e aV aT;have bH:e<d.length:=by omega
   have bI:=bD.1;have aY:=(u.new (.cells [S [],I 0])).put (c:=a3.n) (u.free (b_ _) (by simp only[go_sem])) u.n u.m (.cells [S aa.1,I aa.2]);have ar:f_ .i64 ((e:Int)+1)=((e+1:Nat):Int):=by rw[Ap]<;>omega
   simp only[go_sem,V,aQ,al,a6,a7,am,aX,bB];refine AM aY.w 0x1300101000000 ?_;simp only[go_sem,V,aM,aN,aP,bH,bC,bI,bG];refine Aj (BJ a0 aY (aV==aa.2) 42 f) ?_;rintro _ bJ bK ⟨rfl,bL,bM,bN⟩;simp only[go_sem,V,a6,ar];refine aR (e+1,_,bL) _ _ ⟨bM,?_,?_,am,w,?_,?_,?_,?_,?_,?_,?_⟩ (by show i-(e+1)<i-e;omega)
   ·refine(a4.trans a5 ?_).trans (i_ a5 ?_) bN
    ·intro c ab bO
     have:c≠a3.n:=by omega
     exact⟨by simp only[go_sem,ab],bO⟩
    simp only[go_sem];omega
   ·have:a3.n+1≤bJ.n:=by simpa only[go_sem]using bK
    omega
   ·simp only[go_sem,aM]
   ·simp only[go_sem,V,aN]
   ·simp only[go_sem,V,aO]
   ·simp only[go_sem,V,aP]
   ·simp only[go_sem,V,aQ]
   ·simp only[go_sem,V,al]
   simp only[go_sem]
 refine⟨br,Kp.refl _ _,b_ _,m_ _,J,?_,?_,?_,?_,?_,?_,?_⟩<;>simp only[go_sem,V]
 rfl
end
def kids:List Xp→Nat→List (Ay→Int×Ay)
 |[],_=>[]
 |e::b,a=>(fun s=>e.ck a s)::kids b (a+e.sz)
theorem Ph:∀(a:List Xp) (b:Nat),(kids a b).length=a.length
 |[],_=>rfl
 |e::a,b=>by simp[kids,Ph a]
theorem Pj:∀(b:List Xp) (a:Nat) (s:Ay),Br (kids b a) s=LX b a s
 |[],_,_=>rfl
 |e::b,a,s=>by
  show((e.ck a s).1::(Br (kids b (a+e.sz)) (e.ck a s).2).1,(Br (kids b (a+e.sz)) (e.ck a s).2).2)=_;rw[Pj b];rfl
theorem MD:∀(b:List Xp) (c:Nat),∀a∈kids b c,∀s,(a s).2.vars=s.vars
 |[],_,a,h=>by cases h
 |e::b,c,a,h=>by
  rcases u_.1 h with rfl|h
  ·exact fun s=>e.Dv c s
  exact MD b _ a h
theorem P0(F:List Fn)(a:H)(b:List Xp)(c:Nat)(s:Ay):LR F a (kids b c) (c+Dq b) s=LS F a b c s:=by unfold LR LS;rw[Pj,Ph]<;>cases findF a F<;>rfl
theorem P9(s:Ay)(a:Bool)(b c:Int):(s.ask a b c).sz=s.sz:=by unfold Ay.ask;cases(!a&&s.e==0)<;>rfl
section
variable{L:Lc}{o q:Value}{d:AH}{N:List Nd}{F:List Fn}
theorem ZY(m:L.Ok)(n:Wh d)(p:Fx d o N)(r:N.length=L.m):∀(b:List Xp) (a:Nat),A2 N a (Tq b a)→∀(i:Nat) (c:Int) (f:Ay→Int×Ay),(AB b a)[i]? =Y c→(kids b a)[i]? =Y f→Ny L o q d c f
 |[],_,_,_,_,_,h,_=>by cases h
 |e::b,a,j,0,c,f,k,l=>by
  cases k;cases l;exact Gi m n p r e a j.left
 |e::b,a,j,i+1,c,f,k,l=>ZY m n p r b (a+e.sz) (by have:=j.right;rwa[e.Af a]at this) i c f (by simpa[AB]using k) (by simpa[kids]using l)
theorem WS(k:L.Ok)(l:Wh d)(m:Mb d q F)(n:F.length<2^60)(e:Nat)(b:H)(a:List Int)(c:List (Ay→Int×Ay))(p:a.length=c.length)(r:a.length<900000)
  (t:∀(f:Nat) (i:Int) (j:Ay→Int×Ay),a[f]? =Y i→c[f]? =Y j→Ny L o q d i j):DY L o q d e (nd 21 0 b a) (LR F b c e):=by
 intro h0 h g0 g s i j u f v w;refine f.walk fun f=>?_;refine eF r_ ?_;have x:=f.new (.cells [I 21,I i,I 0,S b,.slice j a.length u]);simp only[go_sem,V,d_];refine Aa (Aj0 k l m n e b a c p r t x v w) ?_;rintro _ A K ⟨rfl,y,z,P⟩;simp only[go_sem];exact⟨y,z⟩
theorem Ago(f:L.Ok)(i:Wh d)(j:Fx d o N)(k:N.length=L.m)(t:Mb d q F)(u:F.length<2^60)(w:L.m<900000):∀(p:Rg) (a:Nat),A2 N a (p.fl a)→Ny L o q d (top a p.sz) (fun s=>p.ck F a s)
 |.input,a,c=>Gc f i j c.at (by rw[←k];exact(c_.1 c.at).1) (Uv a) (fun _=>rfl)
 |.new e,a,c=>by
  have l:=c.last (e.Af a);have m:a+e.sz<L.m:=by rw[←k];exact(c_.1 l).1
  exact Gc f i j l m (Abe f i (a+e.sz) _ _ (Gi f i j k e a c.left)) (fun s=>by rw[BO,e.Dv])
 |.call n b,a,c=>by
  have l:=c.last (DX b a);have m:a+Dq b<L.m:=by rw[←k];exact(c_.1 l).1
  have x:b.length≤Dq b:=by
   clear l m c;induction b with
   |nil=>exact b_ _
   |cons e b r=>have:=e.Ey;simp only[Dq,Z];omega
  have r:=Gc f i j l m (WS f i t u (a+Dq b) n (AB b a) (kids b a) (by rw[DB,Ph]) (by rw[DB];omega) (ZY f i j k b a c.left)) (PZ (MD b a));have v:(fun s:Ay=>s.Gq (a+Dq b) (LR F n (kids b a) (a+Dq b)))=fun s=>(Rg.call n b).ck F a s:=by funext s;show s.Gq _ _=s.Gq _ _;congr 1;funext s;exact P0 F n b a s
  rw[v]at r;exact r
 |.expr e,a,c=>Gi f i j k e a c
theorem Rg.Dv(F:List Fn):∀(c:Rg) (a:Nat) (s:Ay),(c.ck F a s).2.vars=s.vars
 |.input,_,_=>Ff fun _=>rfl
 |.new b,a,_=>Ff fun s=>by rw[BO,b.Dv]
 |.call f e,a,_=>Ff fun s=>by rw[←P0];exact PZ (MD e a) s
 |.expr b,a,s=>b.Dv a s
variable{h0 h:AH}{g0 g:List Nat}{s:Ay}
theorem Atv(i:L.Ok)(af:Wh d)(a:Nat)(aR:a<L.m)(e:H)(v:Int)(c:Ay→Int×Ay)(a1:Ny L o q d v c){w:Int}{a2:Option X_}{a3:Nat}(j:Hr (BB L o q) d h0 g0 h g s)(x:Iz d a2 a3 [v])
  (aS:s.vars.length<99999) (aT:0≤(c s).2.sz) (aU:(c s).2.sz<99999):
  AR 242 [AA L.cb,.agg #[I 10,I w,I 0,S e,.slice a2 1 a3],I a] h (Jn (BB L o q) d h0 g0 h g ((c s).2.LC e (c s).1 a) (.tuple #[])):=by
 refine j.walk fun j=>?_;rcases x with x|⟨p,rfl,rfl,a4⟩
 ·cases x
 have ag:=j.new (.cells [I 10,I w,I 0,S e,.slice (Y ⟨p,0,W⟩) 1 1]);have ah:=j.free (c:=h.n) (h1:=h.new (.cells [I 10,I w,I 0,S e,.slice (Y ⟨p,0,W⟩) 1 1])) (b_ _) (by simp only[go_sem]);have a5:h.get p=Y (.cells [I v]):=(j.x p (af _ _ a4)).trans a4;have ai:=j.w _ _ a5;refine eF Tryz.func242 ?_;simp only[go_sem,V,a5,ai];refine Aa (a1.run ag (by omega)) ?_;rintro _ aV aj ⟨rfl,a6,ak,al⟩;obtain⟨y,am⟩:=ah.Ak aj al;have a7:=am.trans (Ae _);have a8:(c s).2.vars=s.vars:=a1.vars s;generalize (c s).1=k at*
 generalize (c s).2=b at*
 simp only[go_sem,V,a7];refine Aa (Ts i ak e (by rw[a8];omega)) ?_;rintro _ f an ⟨rfl,r,ao⟩;have ap:=(ao _ y.1).trans a7;have a9:Gf f a6 h.n:=⟨l_ y.1 an,y.2⟩;have aq:=a9.1;obtain⟨l,m,n,ar⟩:∃l m n,Up (B7 e b.vars)=.agg #[S l,I m,I n]:=by
  cases B7 e b.vars with
  |none=>exact⟨_,_,_,J⟩
  |some aW=>exact⟨_,_,_,J⟩
 rw[ar];have au:=(r.new (.cells [S [],I 0,I 0])).put (c:=f.n) (r.free (b_ _) (by simp only[go_sem])) r.n r.m (.cells [S l,I m,I n]);have av:Gf ((f.new (.cells [S [],I 0,I 0])).put f.n (.cells [S l,I m,I n])) a6 h.n:=⟨by simp only[go_sem];omega,a9.2⟩;have aw:((f.new (.cells [S [],I 0,I 0])).put f.n (.cells [S l,I m,I n])).get h.n=_:=(show _=f.get h.n by simp only[go_sem,aq]).trans ap;simp only[go_sem,V];refine Aa (BJ i au (k !=0) 42 a) ?_;rintro _ aX ax ⟨rfl,aY,ay,az⟩;obtain⟨aA,aa⟩:=av.Ak ax az;rw[aw]at aa;simp only[go_sem,V];refine Aa (BJ i ay (!(B7 e b.vars).isSome) 41 a) ?_;rintro _ aZ aB ⟨rfl,b0,z,aC⟩;obtain⟨aD,ab⟩:=aA.Ak aB aC;rw[aa]at ab;have ac:((b.ask (k !=0) 42 a).ask (!(B7 e b.vars).isSome) 41 a).sz=b.sz:=by rw[P9,P9]
 have aE:((b.ask (k !=0) 42 a).ask (!(B7 e b.vars).isSome) 41 a).vars=s.vars:=by rw[BO,BO,a8]
 unfold Ay.LC;generalize ((b.ask (k !=0) 42 a).ask (!(B7 e b.vars).isSome) 41 a)=A at*
 obtain⟨b1,b2,b3,K,b4,_⟩:=z.B4;unfold AJ at K;rw[ac]at K;simp only[go_sem];refine AM z.w 0x13001000000 ?_;simp only[go_sem,V,K];refine Aj (BJ i z (decide (b.sz<24)) 4 a) ?_;rintro _ b5 aF ⟨rfl,b6,t,aG⟩;obtain⟨aH,ad⟩:=aD.Ak aF aG;rw[ab]at ad;have P:(A.ask (decide (b.sz<24)) 4 a).sz=b.sz:=by rw[P9,ac]
 have aI:(A.ask (decide (b.sz<24)) 4 a).vars=s.vars:=by rw[BO,aE]
 generalize A.ask (decide (b.sz<24)) 4 a=u at*
 simp only[go_sem];obtain⟨b7,b8,b9,a0,ba,bb,bc,aJ,bd,be,bf,bg,bh,bi⟩:=t.B4;unfold AJ at a0;rw[P]at a0;have ae:a<u.Ac.length:=by omega
 have aK:=Gj b.sz ae;have aL:=(t.PU i a b.sz).2.1;have aM:(h.n==L.sb)=false:=Ag fun aN=>aH.2 (by obtain⟨_,_,_,_,aO,_⟩:=t.r;rw[aO,aN];simp);refine AM t.w 0x1301000010000 ?_;simp only[go_sem,V,a0,aJ,ae,aK,ad,aM];refine Aa (Zt i aL e k (by show u.vars.length<_;rw[aI];omega) (by show 0≤u.sz;rw[P];omega) (by show u.sz<_;rw[P];omega)) ?_;rintro _ bj bk ⟨rfl,aP,aQ,bl⟩;simp only[go_sem];exact⟨aP,aQ⟩
end
def Jg(a b:Ay):Prop:=b.vars=a.vars∧b.sz=a.sz∧b.fn=a.fn∧b.size=a.size
theorem Jg.refl(a:Ay):Jg a a:=⟨J,J,J,J⟩
theorem Jg.trans{b c d:Ay}(a:Jg b c)(k:Jg c d):Jg b d:=⟨k.1.trans a.1,k.2.1.trans a.2.1,k.2.2.1.trans a.2.2.1,k.2.2.2.trans a.2.2.2⟩
theorem BA(a:Ay)(b:Bool)(c d:Int):Jg a (a.ask b c d):=by unfold Ay.ask;cases(!b&&a.e==0)<;>exact⟨J,J,J,J⟩
theorem Ki(a:Ay)(b:H)(c:Nat):Jg a (a.named b c).2:=by
 unfold Ay.named;cases B7 b a.vars with
 |some d=>exact⟨J,J,J,J⟩
 |none=>exact(BA a false 40 c).trans ⟨J,J,J,J⟩
theorem Hy{b:Ay}{c:Ay→Int×Ay}(d:∀b,Jg b (c b).2):Jg b (b.Gq a c).2:=by
 unfold Ay.Gq;cases b.e !=0 with
 |true=>exact Jg.refl b
 |false=>exact(show Jg b (b.AD a)from⟨J,J,J,J⟩).trans ((d _).trans ⟨J,J,J,J⟩)
theorem Xp.C0:∀(c:Xp) (b:Nat) (a:Ay),Jg a (c.ck b a).2
 |.int _,_,_|.bool _,_,_|.text _,_,_=>Hy fun a=>Jg.refl a
 |.var d,b,_=>Hy fun a=>Ki a d b
 |.index d c,b,_=>Hy fun a=>((Ki a d _).trans (c.C0 b _)).trans (BA ..)
 |.len c,b,_|.neg c,b,_|.no c,b,_=>Hy fun a=>(c.C0 b a).trans (BA ..)
 |.bin sg d e,b,_=>Hy fun a=>((d.C0 b a).trans (e.C0 _ _)).trans (BA ..)
theorem Sb:∀(b:List Xp) (c:Nat) (a:Ay),Jg a (LX b c a).2
 |[],_,a=>Jg.refl a
 |e::b,c,a=>(e.C0 c a).trans (Sb b _ _)
theorem Wk(d:Int):∀(b:List Int) (c:List Pm) (a:Ay),Jg a (K6 d b c a)
 |[],_,a=>Jg.refl a
 |_::_,[],a=>Jg.refl a
 |e::b,f::c,a=>(BA a _ _ _).trans (Wk d b c _)
theorem Aea(b:List Fn)(c:H)(d:List Xp)(e:Nat)(a:Ay):Jg a (LS b c d e a).2:=by
 unfold LS;cases findF c b with
 |none=>exact BA ..
 |some f=>exact((Sb d e a).trans (BA ..)).trans (Wk ..)
theorem Rg.C0(d:List Fn):∀(e:Rg) (b:Nat) (a:Ay),Jg a (e.ck d b a).2
 |.input,_,_=>Hy fun a=>Jg.refl a
 |.new c,b,_=>Hy fun a=>(c.C0 b a).trans (BA ..)
 |.call f g,b,_=>Hy fun a=>Aea d f g b a
 |.expr c,b,a=>c.C0 b a
theorem Dk(a:Ay)(b:Nat):Jg a (a.AD b):=⟨J,J,J,J⟩
def Ma(c:Nat)(a b:Ay):Prop:=a.sz≤b.sz∧b.sz≤a.sz+c∧a.vars.length≤b.vars.length∧b.vars.length≤a.vars.length+c∧b.fn=a.fn∧b.size=a.size
theorem Jg.Kr{a b:Ay}(c:Jg a b)(d:Nat):Ma d a b:=by obtain⟨e,h,f,g⟩:=c;refine⟨?_,?_,?_,?_,f,g⟩<;>(try rw[e])<;>omega
theorem Ma.trans{c d e:Ay}(f:Ma a c d)(k:Ma b d e):Ma (a+b) c e:=by obtain⟨h1,l,m,n,g,h⟩:=f;obtain⟨o,p,q,r,i,j⟩:=k;exact⟨by omega,by omega,by omega,by omega,i.trans g,j.trans h⟩
theorem Ma.le{a b:Ay}{c n:Nat}(d:Ma c a b)(g:c≤n):Ma n a b:=by obtain⟨h,i,j,k,e,f⟩:=d;exact⟨by omega,by omega,by omega,by omega,e,f⟩
theorem Aia(a:Ay)(c:H)(d:Int)(b:Nat):Ma 1 a (a.LC c d b):=by
 obtain⟨e,h,f,g⟩:=((BA a (d !=0) 42 b).trans (BA _ (!(B7 c a.vars).isSome) 41 b)).trans (BA _ (decide (a.sz<24)) 4 b);unfold Ay.LC;generalize ((a.ask (d !=0) 42 b).ask (!(B7 c a.vars).isSome) 41 b).ask (decide (a.sz<24)) 4 b=i at*
 simp only[Ma,Ay.put,Ay.CZ,a_,Z,M];rw[e];exact⟨by omega,by omega,by omega,by omega,f,g⟩
theorem FK{a:Ay}{b m:Nat}{c:Ay→Ay}(d:∀a,Ma m a (c a)):Ma m a (a.CN b c):=by obtain⟨e,f,g,j,h,i⟩:=d (a.AD b);have k:a.vars.length≤(c (a.AD b)).vars.length:=g;unfold Ay.CN;refine⟨e,f,?_,?_,h,i⟩<;>simp only[as_]<;>omega
theorem JW{c:Bool}{b d e:Ay}(f:Ma a b d)(g:Ma a b e):Ma a b (bif c then d else e):=by cases c<;>assumption
mutual
theorem Sm.Dw(e:List Fn):∀(h:Sm) (a:Nat) (b:Ay),Ma h.sz b (h.ck e a b)
 |.lt c d,a,b=>((((Dk b _).trans (d.C0 e a _)).Kr d.sz).trans (Aia _ c _ _)).le (b_ _)
 |.set c d,a,b=>((((Dk b _).trans (Ki _ c _)).trans (d.C0 e a _)).trans (BA ..)).Kr _
 |.put c f d,a,b=>(((((Dk b _).trans (Ki _ c _)).trans (f.C0 a _)).trans (d.C0 _ _)).trans (BA ..)).Kr _
 |.run c f,a,b=>((Dk b _).trans (Rg.C0 e (.call c f) a _)).Kr _
 |.print c,a,b=>(((Dk b _).trans (c.C0 a _)).trans (BA ..)).Kr _
 |.Fa,a,b=>((Dk b _).trans (BA ..)).Kr _
 |.ret c,a,b=>((((Dk b _).trans (BA ..)).trans (c.C0 a _)).trans (BA ..)).Kr _
 |.Kv c d,a,b=>by
  have g:=(((Dk b (a+(c.sz+(d.sz+1)))).trans (c.C0 a _)).trans (BA _ ((c.ck a (b.AD (a+(c.sz+(d.sz+1))))).1==2) 42 ((a+(c.sz+(d.sz+1)):Nat):Int))).Kr 0;refine(g.trans (JW (FK (m:=d.sz) fun b=>d.Dw e (a+c.sz) b) ((Jg.refl _).Kr d.sz))).le ?_;simp only[Sm.sz];omega
 |.KD c d,a,b=>by
  have g:=(((Dk b (a+(c.sz+(d.sz+1)))).trans (c.C0 a _)).trans (BA _ ((c.ck a (b.AD (a+(c.sz+(d.sz+1))))).1==2) 42 ((a+(c.sz+(d.sz+1)):Nat):Int))).Kr 0;refine(g.trans (JW (FK (m:=d.sz) fun b=>d.Dw e (a+c.sz) b) ((Jg.refl _).Kr d.sz))).le ?_;simp only[Sm.sz];omega
 |.FP c d f,a,b=>by
  have g:=(((Dk b (a+(c.sz+(d.sz+1)+(f.sz+1)))).trans (c.C0 a _)).trans (BA _ ((c.ck a (b.AD (a+(c.sz+(d.sz+1)+(f.sz+1))))).1==2) 42 ((a+(c.sz+(d.sz+1)+(f.sz+1)):Nat):Int))).Kr 0;refine((g.trans (JW (FK (m:=d.sz) fun b=>d.Dw e (a+c.sz) b) ((Jg.refl _).Kr d.sz))).trans (JW (FK (m:=f.sz) fun b=>f.Dw e (a+c.sz+(d.sz+1)) b) ((Jg.refl _).Kr f.sz))).le ?_;simp only[Sm.sz];omega
theorem Bl.Dw(b:List Fn):∀(d:Bl) (c:Nat) (a:Ay),Ma d.sz a (d.ck b c a)
 |.nil,_,a=>(Jg.refl a).Kr 0
 |.cons e f,c,a=>(JW (e.Dw b c a) ((Jg.refl a).Kr e.sz)).trans (f.Dw b _ _)
end
def G8(F:List Fn)(a:Nat)(s:Ay):Prop:=0≤s.sz∧s.sz+a<90000∧s.vars.length+a<90000∧0≤s.fn∧s.fn<F.length
theorem G8.Kr{F:List Fn}{s c:Ay}(h:G8 F (a+b) s)(g:Ma a s c):G8 F b c:=by obtain⟨d,e,f,i,j⟩:=h;obtain⟨k,l,m,n,o,_⟩:=g;exact⟨by omega,by omega,by omega,by omega,by omega⟩
theorem G8.le{F:List Fn}{a n:Nat}{s:Ay}(h:G8 F a s)(e:n≤a):G8 F n s:=by obtain⟨b,f,i,c,d⟩:=h;exact⟨b,by omega,by omega,c,d⟩
structure Au8(L:Lc)(nv fv:e_)(hs:AH)(N:List Nd)(F:List Fn)(x:Nat)(c:Ay→Ay)(m:Nat):Prop where
 run:∃n,N[x]? =Y n∧∀{h0 h:AH} {g0 g:List Nat} {s:Ay} {ln:Int} {la:Option X_} {lk:Nat},Hr (BB L nv fv) hs h0 g0 h g s→G8 F m s→Iz hs la lk n.l→
  AR 161 [AA L.cb,.agg #[I n.kind,I ln,I n.n,S n.name,.slice la n.l.length lk],I x] h (Jn (BB L nv fv) hs h0 g0 h g (c s) (.tuple #[]))
 Kr:∀s,Ma m s (c s)
def Qf(L:Lc)(nv fv:e_)(hs:AH)(N:List Nd)(F:List Fn):Bl→Nat→Prop
 |.nil,_=>True
 |.cons s b,a=>Au8 L nv fv hs N F (a+s.sz-1) (fun c=>s.ck F a c) s.sz∧Qf L nv fv hs N F b (a+s.sz)
section
variable{L:Lc}{nv fv:Value}{hs h0 h:AH}{g0 g:List Nat}{s:Ay}{N:List Nd}{F:List Fn}
theorem Hr.Auo(k:L.Ok)(i:Hr (BB L nv fv) hs h0 g0 h g s)(j:a≤s.vars.length):∃d b c,h.get L.cb=Y (.cells (AJ L nv fv d (.slice b s.vars.length c) s))∧L.cb<h.n∧
  JV b s.vars.length c (Y 3) (Y 0) (Y a) (Y s.vars.length)=Y (.slice b a c)∧
  Hr (BB L nv fv) hs h0 g0 (h.put L.cb (.cells (AJ L nv fv d (.slice b a c) s))) g {s with vars:=s.vars.take a}:=by
 obtain⟨d,u,n,l,rfl,e,v,w,x,y,z,o,p,A,K⟩:=i.r;have q:=i.w _ _ e;have r:∀b c,u=.slice b s.vars.length c→L1 h (.slice b a c) (s.vars.take a) l→JV b s.vars.length c (Y 3) (Y 0) (Y a) (Y s.vars.length)=Y (.slice b a c)→
   ∃d b c,h.get L.cb=Y (.cells (AJ L nv fv d (.slice b s.vars.length c) s))∧L.cb<h.n∧JV b s.vars.length c (Y 3) (Y 0) (Y a) (Y s.vars.length)=Y (.slice b a c)∧
    Hr (BB L nv fv) hs h0 g0 (h.put L.cb (.cells (AJ L nv fv d (.slice b a c) s))) (L.cb::L.tb::L.sb::L.fb::(n++l)) {s with vars:=s.vars.take a}:=by
  intro b c m t P;subst m;refine⟨d,b,c,e,q,P,i.MZ (Ar i.w q _) (b_ _) ⟨d,.slice b a c,n,l,J,Ai _ _,?_,?_,?_,?_,?_,o,p,A,K⟩ (fun f e=>.inl e) fun f _ a0=>Ab _ (Ag fun a1=>a0 (by simp[a1]))⟩
  ·exact(Ab _ k.ct).trans v
  ·exact(Ab _ k.cs).trans w
  ·exact(Ab _ k.cf).trans x
  ·exact y.same fun f e=>Ab _ (Ag (o f e).1)
  exact t.same fun f e=>Ab _ (Ag (p f e).1)
 rcases z with⟨f,P,m⟩|⟨t,all,f,m,a0⟩
 ·have a1:a=0:=by rw[f]at j;exact Nat.le_zero.1 j
  subst a1;refine r W 0 (by rw[P,f];rfl) (.inl ⟨by simp,J,m⟩) ?_;rw[f];rfl
 refine r (Y ⟨t,0,W⟩) 3 f (.inr ⟨t,Bt (s.vars.drop a)++all,?_,m,?_⟩) ?_
 ·rw[as_,au_ j]
 ·rw[a0,←ab_,←D3,Q_]
 rw[Es (m_ _) j (b_ _),K_,Nat.add_zero,Nat.sub_zero]
theorem Aee(n:L.Ok)(K:Wh hs)(a6:Fx hs nv N)(aj:N.length=L.m)(a:Bl)(b:Nat)(aJ:a.sz<80000)(ak:A2 N b (a.fl b++[nd 18 0 [] (a.AB b)]))(al:Qf L nv fv hs N F a b)
  (o:Hr (BB L nv fv) hs h0 g0 h g s) (am:G8 F a.sz s):
  AR 82 [AA L.cb,I ((b+a.sz:Nat):Int)] h (Jn (BB L nv fv) hs h0 g0 h g (s.CN (b+a.sz) (fun s=>a.ck F b s)) (.tuple #[])):=by
 refine o.walk fun o=>?_;have a7:=ak.last (a.Af b);have aK:b+a.sz<L.m:=by rw[←aj];exact(c_.1 a7).1
 have aL:=a.DB b;obtain⟨aM,aN,aO,a8,aP,aQ,aR,aS,aT,an,aU,aV,aW,aX⟩:=o.B4;unfold AJ at a8;have a9:b+a.sz<s.fns.length:=by omega
 have ao:=Gj s.fn a9;have ap:Hr (BB L nv fv) hs h g (h.put L.fb (.cells ((s.fns.set (b+a.sz) s.fn).map fun P=>I P))) g (s.AD (b+a.sz)):=(o.PU n (b+a.sz) s.fn).2.2;refine eF Tryz.func82 ?_;simp only[go_sem];refine AM o.w 0x1301000010000 ?_;have aq:(L.cb==L.fb)=false:=EW n.cf;simp only[go_sem,V,a8,an,a9,ao,aq];obtain⟨aY,ar,au,av,aw⟩:=NM n K a6 ap a7;refine Aa aw ?_;rintro _ aZ b0 ⟨rfl,ax,b1⟩;simp only[go_sem];have ay:G8 F a.sz (s.AD (b+a.sz)):=am;have az:Ma (a.sz-a.sz) (s.AD (b+a.sz)) (s.AD (b+a.sz)):=(Jg.refl _).Kr _;refine AG (fun(c:Nat×Bl×Nat×Ay×List Nat) l a0=>Hr (BB L nv fv) hs h g a0 c.2.2.2.2 c.2.2.2.1∧Qf L nv fv hs N F c.2.1 c.2.2.1∧(a.AB b).drop c.1=c.2.1.AB c.2.2.1∧c.1≤(a.AB b).length∧c.2.1.ck F c.2.2.1 c.2.2.2.1=a.ck F b (s.AD (b+a.sz))∧
  c.2.1.sz≤a.sz∧G8 F c.2.1.sz c.2.2.2.1∧Ma (a.sz-c.2.1.sz) (s.AD (b+a.sz)) c.2.2.2.1∧l.at 0=AA L.cb∧l.at 4=I s.vars.length∧l.at 26=.slice ar (a.AB b).length au∧l.at 27=I (a.AB b).length∧l.at 28=I c.1) (fun c=>(a.AB b).length-c.1) ?_ (0,a,b,s.AD (b+a.sz),g) ?_
 ·rintro⟨e,d,j,i,aa⟩ l a0 ⟨m,w,p,aA,x,ab,q,r,t,a1,y,u,v⟩ a2
  dsimp only at m w p aA x ab q r v a2;obtain⟨b2,b3,b4,a3,b5,_⟩:=m.B4;unfold AJ at a3;cases d with
  |nil=>
   have k:e=(a.AB b).length:=by have:=Akv A_ p;simp only[Bl.AB,M_,M]at this;omega
   have z:decide ((e:Int)<(a.AB b).length)=false:=Gv;have A:i=a.ck F b (s.AD (b+a.sz)):=x;have a5:s.vars.length≤i.vars.length:=r.2.2.1;obtain⟨ae,af,ag,f,ah,ac,a4⟩:=m.Auo n a5;unfold AJ at f;simp only[go_sem,V,t,a1,u,v,z,f,ac];refine⟨aa,?_⟩;have ad:s.CN (b+a.sz) (fun s=>a.ck F b s)={i with vars:=i.vars.take s.vars.length}:=by rw[A];rfl
   rw[ad];exact a4
  |cons f d=>
   have k:e<(a.AB b).length:=by have:=Akv A_ p;simp only[Bl.AB,M_,Z]at this;omega
   have z:decide ((e:Int)<(a.AB b).length)=true:=Gu;have aB:(a.AB b)[e]? =Y (top j f.sz):=by have:=Akv (fun A:List Int=>A[0]?) p;simpa[L_,Bl.AB]using this
   have ac:(a.AB b).drop (e+1)=d.AB (j+f.sz):=by rw[←ae_,p];rfl
   have ad:f_ .i64 ((e:Int)+1)=((e+1:Nat):Int):=by rw[Ap]<;>omega
   have ae:=DU aB;have aC:=av;rcases aC with c|⟨af,rfl,rfl,ag⟩
   ·have c:a.AB b=[]:=c
    rw[c]at k;cases k
   have ah:a0.get af=Y (.cells ((a.AB b).map fun P=>I P)):=(m.x af (K _ _ ag)).trans ag;obtain⟨⟨b6,aD,aE⟩,ai⟩:=w.1;simp only[Bl.sz]at ab q r;cases A:(i.e==0)with
   |false=>
    simp only[go_sem,V,t,y,u,v,z,ah,k,ae,a3,A,ad];have a5:d.ck F (j+f.sz) i=a.ck F b (s.AD (b+a.sz)):=by have:=x;simp only[Bl.ck,A,Acf]at this;exact this
    refine a2 (e+1,d,j+f.sz,i,aa) _ _ ⟨m,w.2,ac,k,a5,(by show d.sz≤a.sz;omega),q.le (by show d.sz≤f.sz+d.sz;omega),r.le (by show a.sz-(f.sz+d.sz)≤a.sz-d.sz;omega),?_,?_,?_,?_,?_⟩ (by show(a.AB b).length-(e+1)<(a.AB b).length-e;omega)
    ·simp only[go_sem,t]
    ·simp only[go_sem,V,a1]
    ·simp only[go_sem,V,y]
    ·simp only[go_sem,V,u]
    simp only[go_sem]
   |true=>
    simp only[go_sem,V,t,y,u,v,z,ah,k,ae,a3,A];obtain⟨b7,b8,b9,aF,aG⟩:=NM n K a6 m aD;refine Aa aG ?_;rintro _ ba bb ⟨rfl,aH,bc⟩;simp only[go_sem,V];refine Aa (aE aH (q.le (by omega)) aF) ?_;rintro _ bd be ⟨rfl,aI,a4,bf⟩;simp only[go_sem,V,v,ad];have a5:d.ck F (j+f.sz) (f.ck F j i)=a.ck F b (s.AD (b+a.sz)):=by have:=x;simp only[Bl.ck,A,Aa9]at this;exact this
    refine a2 (e+1,d,j+f.sz,f.ck F j i,aI) _ _ ⟨a4,w.2,ac,k,a5,(by show d.sz≤a.sz;omega),q.Kr (ai i),(r.trans (ai i)).le (by show a.sz-(f.sz+d.sz)+f.sz≤a.sz-d.sz;omega),?_,?_,?_,?_,?_⟩ (by show(a.AB b).length-(e+1)<(a.AB b).length-e;omega)
    ·simp only[go_sem,t]
    ·simp only[go_sem,V,a1]
    ·simp only[go_sem,V,y]
    ·simp only[go_sem,V,u]
    simp only[go_sem]
 refine⟨ax,al,J,m_ _,J,b_ _,ay,az,?_,?_,?_,?_,?_⟩<;>simp only[go_sem,V]
 rfl
end
theorem EM{F:List Fn}{s:Ay}(h:G8 F a s):s.vars.length<90000:=by have:=h.2.2.1;omega
section
variable{L:Lc}{o k:Value}{e h0 h:AH}{p g:List Nat}{s:Ay}{N:List Nd}{F:List Fn}
theorem Hr.Qm(i:L.Ok)(d:Hr (BB L o k) e h0 p h g s)(a:Nat)(B:AO):Hr (BB L o k) e h0 p ((h.new B).put L.fb (.cells ((s.fns.set a s.fn).map fun b=>I b))) g (s.AD a)∧
  Gf ((h.new B).put L.fb (.cells ((s.fns.set a s.fn).map fun b=>I b))) g h.n∧((h.new B).put L.fb (.cells ((s.fns.set a s.fn).map fun b=>I b))).get h.n=Y B:=by
 obtain⟨l,m,n,q,r,t,u,v,w,x,y,_⟩:=d.B4;have j:(h.n==L.fb)=false:=Ag;have f:=d.free (c:=h.n) (h1:=h.new B) (b_ _) (by simp only[go_sem]);exact⟨((d.new B).PU i a s.fn).2.2,⟨f.1,f.2⟩,by rw[Ab _ j];exact Ae _⟩
theorem R7(a b:Bool):Cu pr .eql 4 (.tmp 28) (.tmp 30) (.bool a) (.bool b)=Y (.bool (a==b)):=by cases a<;>cases b<;>kernel_rfl
theorem UW(u:L.Ok)(r:Wh e)(v:Mb e k F)(d:Nat)(b:Hr (BB L o k) e h0 p h g s)(f:G8 F 0 s):
  AR 246 [AA L.cb,.agg #[I 17,I x,I 0,S [],.slice n 0 a],I d] h (Jn (BB L o k) e h0 p h g (s.ask (false==(Fv F s !=0)) 43 d) (.tuple #[])):=by
 refine b.walk fun b=>?_;have i:=b.new (.cells [I 17,I x,I 0,S [],.slice n 0 a]);have w:=b.free (c:=h.n) (h1:=h.new (.cells [I 17,I x,I 0,S [],.slice n 0 a])) (b_ _) (by simp only[go_sem]);have y:s.fn=((s.fn.toNat:Nat):Int):=by have:=f.2.2.2.1;omega
 have z:s.fn.toNat<F.length:=by have:=f.2.2.2.2;omega
 have j:=g_ z;generalize F[s.fn.toNat]=m at j;have A:Fv F s=m.ret:=by unfold Fv;rw[j]
 rw[A];obtain⟨af,K,ag,ah,ai,rfl,P,a0,a1,a2,_⟩:=v.node r b.x b.m j;have a3:nth? (Bu K) (s.fn.toNat*5+3)=Y (I m.ret):=Gm a2 3 (by decide);obtain⟨aj,ak,al,q,a4,_⟩:=b.B4;unfold AJ at q;rw[y]at q;have t:decide ((0:Int)<((0:Nat):Int))=false:=J;refine eF Tryz.func246 ?_;simp only[go_sem];refine AM i.w 0x101001000100000 ?_;simp only[go_sem,V,q,a4,P,a0,a1,a3];refine AM i.w 0x1300000110000 ?_;simp only[go_sem,V,t,R7];refine Aj (BJ u i (false==(m.ret !=0)) 43 d) ?_;rintro _ a5 a6 ⟨rfl,am,a7,a8⟩;obtain⟨an,a9⟩:=w.Ak a6 a8;have aa:=a9.trans (Ae _);have ab:Iz e n a ([]:List Int):=.inl J;simp only[go_sem,V,aa];refine Aa (Ei r a7 [] (l:=[]) ab J (by show 0<900000;decide) (fun ao ap c h1 a5=>by cases h1) (by rw[BO];have:=EM f;omega)) ?_;rintro aq ar au ⟨ac,ad,ae,av⟩;rcases ae with⟨_,rfl⟩|⟨aw,rfl,_⟩
 all_goals
  simp only[go_sem];refine Cq ?_;simp only[go_sem,V,Br,M,t];exact⟨ac,ad⟩
theorem UU(t:L.Ok)(u:Wh e)(z:Mb e k F)(b:Nat)(i:Int)(c:Ay→Int×Ay)(A:Ny L o k e i c)(f:Hr (BB L o k) e h0 p h g s)(j:G8 F 0 s)(K:Iz e n a [i]):
  AR 246 [AA L.cb,.agg #[I 17,I x,I 0,S [],.slice n 1 a],I b] h (Jn (BB L o k) e h0 p h g ((c (s.ask (true==(Fv F s !=0)) 43 b)).2.ask ((c (s.ask (true==(Fv F s !=0)) 43 b)).1==Fv F s) 42 b) (.tuple #[])):=by
 refine f.walk fun f=>?_;have m:=f.new (.cells [I 17,I x,I 0,S [],.slice n 1 a]);have P:=f.free (c:=h.n) (h1:=h.new (.cells [I 17,I x,I 0,S [],.slice n 1 a])) (b_ _) (by simp only[go_sem]);have a0:s.fn=((s.fn.toNat:Nat):Int):=by have:=j.2.2.2.1;omega
 have a1:s.fn.toNat<F.length:=by have:=j.2.2.2.2;omega
 have q:=g_ a1;generalize F[s.fn.toNat]=d at q;have a2:Fv F s=d.ret:=by unfold Fv;rw[q]
 rw[a2];obtain⟨au,a3,av,aw,ax,rfl,a4,a5,a6,a7,_⟩:=z.node u f.x f.m q;have a8:nth? (Bu a3) (s.fn.toNat*5+3)=Y (I d.ret):=Gm a7 3 (by decide);obtain⟨ay,az,aA,r,a9,_⟩:=f.B4;unfold AJ at r;rw[a0]at r;have v:decide ((0:Int)<((1:Nat):Int))=true:=J;refine eF Tryz.func246 ?_;simp only[go_sem];refine AM m.w 0x101001000100000 ?_;simp only[go_sem,V,r,a9,a4,a5,a6,a8];refine AM m.w 0x1300000110000 ?_;simp only[go_sem,V,v,R7];refine Aj (BJ t m (true==(d.ret !=0)) 43 b) ?_;rintro _ w aa ⟨rfl,aB,ab,ac⟩;obtain⟨aC,ad⟩:=P.Ak aa ac;have ae:=ad.trans (Ae _);simp only[go_sem,V,ae];refine Aa (Ei u ab [c] (l:=[i]) K J (by show 1<900000;decide) (fun af aD aE h1 w=>?_) (by rw[BO];have:=EM j;omega)) ?_
 ·match af with
  |0=>cases h1;cases w;exact A
 rintro aF ag aG ⟨aH,y,ah,aI⟩;rcases ah with⟨ai,_⟩|⟨aj,rfl,ak,aJ,aK⟩
 ·cases ai
 have al:ag.get aj=Y (.cells [I (c (s.ask (true==(d.ret !=0)) 43 b)).1]):=ak;have am:Br [c] (s.ask (true==(d.ret !=0)) 43 b)=([(c (s.ask (true==(d.ret !=0)) 43 b)).1],(c (s.ask (true==(d.ret !=0)) 43 b)).2):=J;rw[am]at y⊢;generalize (c (s.ask (true==(d.ret !=0)) 43 b)).1=an at*
 generalize (c (s.ask (true==(d.ret !=0)) 43 b)).2=aL at*
 have ao:decide ((1:Int)<((1:Nat):Int))=false:=J;have ap:f_ .i64 ((0:Int)+1)=1:=by rw[Ap]<;>omega
 simp only[go_sem,Z,M];refine Cq ?_;simp only[go_sem,V,v,al];refine Aa (BJ t y (an==d.ret) 42 b) ?_;rintro _ aM aN ⟨rfl,aq,ar,aO⟩;simp only[go_sem,V,ap];refine Cq ?_;simp only[go_sem,V,ao];exact⟨aq,ar⟩
end
structure YZ(L:Lc)(nv fv:e_)(hs:AH)(F:List Fn)(x:Int)(c:Ay→Ay)(m:Nat):Prop where
 run:∀{h0 h:AH} {g0 g:List Nat} {s:Ay},Hr (BB L nv fv) hs h0 g0 h g s→G8 F m s→AR 82 [AA L.cb,I x] h (Jn (BB L nv fv) hs h0 g0 h g (c s) (.tuple #[]))
 Kr:∀s,Ma m s (c s)
def SmC(L:Lc)(nv fv:e_)(hs:AH)(F:List Fn)(d:Nat)(a:Nd)(e:Ay→Ay)(f:Nat):Prop:=
 ∀{h0 h:AH} {g0 g:List Nat} {s:Ay} {i:Int} {b:Option X_} {c:Nat},Hr (BB L nv fv) hs h0 g0 h g s→G8 F f s→Iz hs b c a.l→
  AR 161 [AA L.cb,.agg #[I a.kind,I i,I a.n,S a.name,.slice b a.l.length c],I d] h (Jn (BB L nv fv) hs h0 g0 h g (e s) (.tuple #[]))
section
variable{L:Lc}{nv fv:Value}{hs h0 h:AH}{g0 g:List Nat}{s:Ay}{N:List Nd}{F:List Fn}
theorem Ash(k:L.Ok)(r:Wh hs)(a:Nat)(t:a<L.m)(c:H)(d:Int)(b:Ay→Int×Ay)(u:Ny L nv fv hs d b)(v:∀s,Jg s (b s).2)(l:Nat)(a3:1≤l):
  SmC L nv fv hs F a (nd 10 0 c [d]) (fun s=>(b (s.AD a)).2.LC c (b (s.AD a)).1 a) l:=by
 intro h0 h g0 g s m a4 a5 e j f;refine e.walk fun e=>?_;rcases f with f|⟨i,rfl,rfl,n⟩
 ·cases f
 have f:Iz hs (Y ⟨i,0,W⟩) 1 [d]:=.inr ⟨i,J,J,n⟩;have a6:hs.get i=Y (.cells [I d]):=n;obtain⟨w,a7,a8⟩:=e.Qm k a (.cells [I 10,I m,I 0,S c,.slice (Y ⟨i,0,W⟩) 1 1]);obtain⟨a9,aa,ab,o,x,ac,ad,ae,af,y,z,ag,ah,ai⟩:=e.B4;unfold AJ at o;have A:=e.new (.cells [I 10,I m,I 0,S c,.slice (Y ⟨i,0,W⟩) 1 1]);have p:a<s.fns.length:=by omega
 have K:=Gj s.fn p;have P:(h.n==L.fb)=false:=Ag;have aj:s.vars.length<90000:=EM j;refine eF t_ ?_;simp only[go_sem];refine AM A.w 0x1301000010000 ?_;simp only[go_sem,V,o,x,y,z,p,K,P,Z,M];have a0:=(v (s.AD a)).2.1;have q:(b (s.AD a)).2.sz=s.sz:=a0;refine Aa (Atv k r a t c d b u w f (by show s.vars.length<_;omega) (by rw[q];exact j.1) (by rw[q];have:=j.2.1;omega)) ?_;rintro _ ak al ⟨rfl,a1,a2,am⟩;simp only[go_sem];exact⟨a1,a2⟩
theorem Asd(l:L.Ok)(i:Wh hs)(w:Fx hs nv N)(a:Nat)(x:a<L.m)(b:H)(e:Int)(y:N[a]? =Y (nd 11 0 b [e]))(j:Ay→Int×Ay)(z:Ny L nv fv hs e j)(A:Nat):
  SmC L nv fv hs F a (nd 11 0 b [e]) (fun s=>(j ((s.AD a).named b a).2).2.ask ((j ((s.AD a).named b a).2).1==((s.AD a).named b a).1) 42 a) A:=by
 intro h0 h g0 g s o am an f K k;refine f.walk fun f=>?_;rcases k with k|⟨c,rfl,rfl,p⟩
 ·cases k
 have k:Iz hs (Y ⟨c,0,W⟩) 1 [e]:=.inr ⟨c,J,J,p⟩;have d:hs.get c=Y (.cells [I e]):=p;obtain⟨P,a0,a1⟩:=f.Qm l a (.cells [I 11,I o,I 0,S b,.slice (Y ⟨c,0,W⟩) 1 1]);obtain⟨ao,ap,aq,q,a2,ar,au,av,aw,a3,a4,ax,ay,az⟩:=f.B4;unfold AJ at q;have a5:=f.new (.cells [I 11,I o,I 0,S b,.slice (Y ⟨c,0,W⟩) 1 1]);have r:a<s.fns.length:=by omega
 have a6:=Gj s.fn r;have a7:(h.n==L.fb)=false:=Ag;have aA:s.vars.length<90000:=EM K;refine eF t_ ?_;simp only[go_sem];refine AM a5.w 0x1301000010000 ?_;simp only[go_sem,V,d_,q,a2,a3,a4,r,a6,a7,Z,M];refine Aa (Kk l i w P y x (by show s.vars.length<_;omega)) ?_;rintro _ aB a8 ⟨rfl,aC,m,a9⟩;obtain⟨aa,n⟩:=a0.Ak a8 a9;rw[a1]at n;have ab:((s.AD a).named b a).2.vars=s.vars:=FB ..;simp only[]at*
 generalize ((s.AD a).named b a).1=ac at*
 generalize ((s.AD a).named b a).2=ad at*
 have ae:=(m.x c (i _ _ d)).trans d;simp only[go_sem];refine AM m.w 0x10cb0a808b0b809810100000 ?_;simp only[go_sem,V,n,ae];refine Aj (z.run m (by rw[ab];omega)) ?_;rintro _ aD af ⟨rfl,aE,t,ag⟩;obtain⟨ah,u⟩:=aa.Ak af ag;rw[n]at u;have aF:=(t.x c (i _ _ d)).trans d;simp only[go_sem,V];refine Aj (BJ l t ((j ad).1==ac) 42 a) ?_;rintro _ aG ai ⟨rfl,aj,v,ak⟩;obtain⟨aH,al⟩:=ah.Ak ai ak;rw[u]at al;have aI:=(v.x c (i _ _ d)).trans d;simp only[go_sem];exact⟨aj,v⟩
theorem Asg(j:L.Ok)(w:Wh hs)(a4:Fx hs nv N)(a:Nat)(a5:a<L.m)(c:H)(f i:Int)(a6:N[a]? =Y (nd 12 0 c [f,i]))(b d:Ay→Int×Ay)(a7:Ny L nv fv hs f b)(a8:Ny L nv fv hs i d)(a9:Nat):
  SmC L nv fv hs F a (nd 12 0 c [f,i]) (fun s=>(d (b ((s.AD a).named c a).2).2).2.ask ((((s.AD a).named c a).1==4)&&((b ((s.AD a).named c a).2).1==1)&&((d (b ((s.AD a).named c a).2).2).1==1)) 42 a) a9:=by
 intro h0 h g0 g s x aB aC k aa m;refine k.walk fun k=>?_;rcases m with m|⟨n,rfl,rfl,y⟩
 ·cases m
 have m:Iz hs (Y ⟨n,0,W⟩) 1 [f,i]:=.inr ⟨n,J,J,y⟩;have aD:hs.get n=Y (.cells [I f,I i]):=y;obtain⟨ab,ac,ad⟩:=k.Qm j a (.cells [I 12,I x,I 0,S c,.slice (Y ⟨n,0,W⟩) 2 1]);obtain⟨aE,aF,aG,z,ae,aH,aI,aJ,aK,af,ag,aL,aM,aN⟩:=k.B4;unfold AJ at z;have ah:=k.new (.cells [I 12,I x,I 0,S c,.slice (Y ⟨n,0,W⟩) 2 1]);have A:a<s.fns.length:=by omega
 have ai:=Gj s.fn A;have aj:(h.n==L.fb)=false:=Ag;have aO:s.vars.length<90000:=EM aa;refine eF t_ ?_;simp only[go_sem];refine AM ah.w 0x1301000010000 ?_;simp only[go_sem,V,d_,z,ae,af,ag,A,ai,aj,Z,M];refine Aa (Kk j w a4 ab a6 a5 (by show s.vars.length<_;omega)) ?_;rintro _ aP ak ⟨rfl,aQ,al,am⟩;obtain⟨aR,K⟩:=ac.Ak ak am;rw[ad]at K;have an:((s.AD a).named c a).2.vars=s.vars:=FB ..;simp only[]at*
 generalize ((s.AD a).named c a).1=ao at*
 generalize ((s.AD a).named c a).2=e at*
 simp only[go_sem,V,K];refine Aa (Ei w al [b,d] (l:=[f,i]) m J (by show 2<900000;decide) (fun ap aS P a0 a1=>?_) (by rw[an];omega)) ?_
 ·match ap with
  |0=>cases a0;cases a1;exact a7
  |1=>cases a0;cases a1;exact a8
 rintro aT aq aU ⟨aV,o,ar,aW⟩;rcases ar with⟨P,_⟩|⟨au,rfl,av,a2,aX⟩
 ·cases P
 have r:aq.get au=Y (.cells [I (b e).1,I (d (b e).2).1]):=av;have aw:Br [b,d] e=([(b e).1,(d (b e).2).1],(d (b e).2).2):=J;rw[aw]at o⊢;generalize (d (b e).2).1=ax at*
 generalize (d (b e).2).2=aY at*
 generalize (b e).1=ay at*
 simp only[go_sem,Z,M];refine AM o.w 0x13000100000100000000 ?_;cases c1:(ao==4)with
 |false=>
  simp only[go_sem,V,c1,Acf,U_];refine Aj (BJ j o false 42 a) ?_;rintro _ a3 t ⟨rfl,p,q,u⟩;simp only[go_sem];exact⟨p,q⟩
 |true=>
  cases c2:(ay==1)with
  |false=>
   simp only[go_sem,h_,r,c1,c2,Acf,Aa9,Y_,U_];refine Aj (BJ j o false 42 a) ?_;rintro _ a3 t ⟨rfl,p,q,u⟩;obtain⟨az,v⟩:=a2.Ak t u;have aA:=v.trans r;simp only[go_sem];exact⟨p,q⟩
  |true=>
   simp only[go_sem,h_,r,c1,c2,Aa9,Y_,ax_];refine Aj (BJ j o (ax==1) 42 a) ?_;rintro _ a3 t ⟨rfl,p,q,u⟩;obtain⟨az,v⟩:=a2.Ak t u;have aA:=v.trans r;simp only[go_sem];exact⟨p,q⟩
theorem Ase(n:L.Ok)(o:Wh hs)(a:Nat)(a2:a<L.m)(b:Int)(f:Ay→Int×Ay)(p:Ny L nv fv hs b f)(q:Nat):
  SmC L nv fv hs F a (nd 13 0 [] [b]) (fun s=>(f (s.AD a)).2) q:=by
 intro h0 h g0 g s i a3 a4 c r d;refine c.walk fun c=>?_;rcases d with d|⟨e,rfl,rfl,j⟩
 ·cases d
 have d:Iz hs (Y ⟨e,0,W⟩) 1 [b]:=.inr ⟨e,J,J,j⟩;have a5:hs.get e=Y (.cells [I b]):=j;obtain⟨t,a6,a7⟩:=c.Qm n a (.cells [I 13,I i,I 0,S [],.slice (Y ⟨e,0,W⟩) 1 1]);obtain⟨a8,a9,aa,k,u,ab,ac,ad,ae,v,w,af,ag,ah⟩:=c.B4;unfold AJ at k;have x:=c.new (.cells [I 13,I i,I 0,S [],.slice (Y ⟨e,0,W⟩) 1 1]);have m:a<s.fns.length:=by omega
 have y:=Gj s.fn m;have z:(h.n==L.fb)=false:=Ag;have ai:s.vars.length<90000:=EM r;refine eF t_ ?_;simp only[go_sem];refine AM x.w 0x1301000010000 ?_;simp only[go_sem,V,d_,k,u,v,w,m,y,z,Z,M];refine Aa (Ei o t [f] (l:=[b]) d J (by show 1<900000;decide) (fun A aj ak K P=>?_) (by show s.vars.length<_;omega)) ?_
 ·match A with
  |0=>cases K;cases P;exact p
 rintro al am an ⟨a0,a1,ao,ap⟩;simp only[go_sem];exact⟨a0,a1⟩
theorem Afr(l:L.Ok)(e:Wh hs)(d:Nat)(ac:d<L.m)(f:Int)(i:Ay→Int×Ay)(v:Ny L nv fv hs f i)(w:Nat):
  SmC L nv fv hs F d (nd 14 0 [] [f]) (fun s=>(i (s.AD d)).2.ask ((i (s.AD d)).1 !=4) 42 d) w:=by
 intro h0 h g0 g s m ad ae c x j;refine c.walk fun c=>?_;rcases j with j|⟨a,rfl,rfl,n⟩
 ·cases j
 have j:Iz hs (Y ⟨a,0,W⟩) 1 [f]:=.inr ⟨a,J,J,n⟩;have b:hs.get a=Y (.cells [I f]):=n;obtain⟨k,y,z⟩:=c.Qm l d (.cells [I 14,I m,I 0,S [],.slice (Y ⟨a,0,W⟩) 1 1]);obtain⟨af,ag,ah,o,A,ai,aj,ak,al,K,P,am,an,ao⟩:=c.B4;unfold AJ at o;have a0:=c.new (.cells [I 14,I m,I 0,S [],.slice (Y ⟨a,0,W⟩) 1 1]);have p:d<s.fns.length:=by omega
 have a1:=Gj s.fn p;have q:(h.n==L.fb)=false:=Ag;have ap:s.vars.length<90000:=EM x;refine eF t_ ?_;simp only[go_sem];refine AM a0.w 0x1301000010000 ?_;simp only[go_sem,V,d_,o,A,K,P,p,a1,q,Z,M];have aq:=(k.x a (e _ _ b)).trans b;refine AM k.w 0x10bb008b0a810100000 ?_;have a2:=c.w _ _ ((c.x a (e _ _ b)).trans b);have a3:(a==L.fb)=false:=Ag fun ar=>by
  have t:=c.o L.fb (by obtain⟨_,_,_,_,r,_⟩:=c.r;rw[r];simp);have u:=e _ _ b;omega
 have a4:=(c.x a (e _ _ b)).trans b;simp only[go_sem,V,a4,a2,a3,q];refine Aj (v.run k (by show s.vars.length<_;omega)) ?_;rintro _ au a5 ⟨rfl,av,r,a6⟩;obtain⟨a7,t⟩:=y.Ak a5 a6;rw[z]at t;have aw:=(r.x a (e _ _ b)).trans b;simp only[go_sem,V];refine Aj (BJ l r ((i (s.AD d)).1 !=4) 42 d) ?_;rintro _ ax a8 ⟨rfl,a9,u,aa⟩;obtain⟨ay,ab⟩:=a7.Ak a8 aa;rw[t]at ab;have az:=(u.x a (e _ _ b)).trans b;simp only[go_sem];exact⟨a9,u⟩
theorem All(c:L.Ok)(l:Wh hs)(m:Mb hs fv F)(a:Nat)(y:a<L.m)(n:Nat):
  SmC L nv fv hs F a (nd 17 0 [] []) (fun s=>(s.AD a).ask (false==(Fv F s !=0)) 43 a) n:=by
 intro h0 h g0 g s d e f b i z;refine b.walk fun b=>?_;obtain⟨o,A,K⟩:=b.Qm c a (.cells [I 17,I d,I 0,S [],.slice e 0 f]);obtain⟨P,a0,a1,j,p,a2,a3,a4,a5,q,r,a6,a7,a8⟩:=b.B4;unfold AJ at j;have t:=b.new (.cells [I 17,I d,I 0,S [],.slice e 0 f]);have k:a<s.fns.length:=by omega
 have u:=Gj s.fn k;have v:(h.n==L.fb)=false:=Ag;have a9:s.vars.length<90000:=EM i;refine eF t_ ?_;simp only[go_sem];refine AM t.w 0x1301000010000 ?_;simp only[go_sem,V,d_,j,p,q,r,k,u,v,M];refine Aa (UW c l m a o (show G8 F 0 (s.AD a)from i.le (m_ _))) ?_;rintro _ aa ab ⟨rfl,w,x,ac⟩;simp only[go_sem];exact⟨w,x⟩
theorem Asf(i:L.Ok)(o:Wh hs)(p:Mb hs fv F)(a:Nat)(P:a<L.m)(b:Int)(f:Ay→Int×Ay)(q:Ny L nv fv hs b f)(r:Nat):
  SmC L nv fv hs F a (nd 17 0 [] [b]) (fun s=>(f ((s.AD a).ask (true==(Fv F s !=0)) 43 a)).2.ask ((f ((s.AD a).ask (true==(Fv F s !=0)) 43 a)).1==Fv F s) 42 a) r:=by
 intro h0 h g0 g s j a0 a1 c k d;refine c.walk fun c=>?_;rcases d with d|⟨e,rfl,rfl,l⟩
 ·cases d
 have d:Iz hs (Y ⟨e,0,W⟩) 1 [b]:=.inr ⟨e,J,J,l⟩;have a2:hs.get e=Y (.cells [I b]):=l;obtain⟨t,a3,a4⟩:=c.Qm i a (.cells [I 17,I j,I 0,S [],.slice (Y ⟨e,0,W⟩) 1 1]);obtain⟨a5,a6,a7,m,u,a8,a9,aa,ab,v,w,ac,ad,ae⟩:=c.B4;unfold AJ at m;have x:=c.new (.cells [I 17,I j,I 0,S [],.slice (Y ⟨e,0,W⟩) 1 1]);have n:a<s.fns.length:=by omega
 have y:=Gj s.fn n;have z:(h.n==L.fb)=false:=Ag;have af:s.vars.length<90000:=EM k;refine eF t_ ?_;simp only[go_sem];refine AM x.w 0x1301000010000 ?_;simp only[go_sem,V,d_,m,u,v,w,n,y,z,Z,M];refine Aa (UU i o p a b f q t (show G8 F 0 (s.AD a)from k.le (m_ _)) d) ?_;rintro _ ag ah ⟨rfl,A,K,ai⟩;simp only[go_sem];exact⟨A,K⟩
theorem Asb(q:L.Ok)(f:Wh hs)(a:Nat)(av:a<L.m)(i j:Int)(c:Ay→Int×Ay)(r:Ay→Ay)(k:Nat)(a6:Ny L nv fv hs i c)(a7:∀s,Jg s (c s).2)(a8:YZ L nv fv hs F j r k)(t:Nat)(aw:k≤t):
  SmC L nv fv hs F a (nd 16 0 [] [i,j]) (fun s=>bif ((c (s.AD a)).2.ask ((c (s.AD a)).1==2) 42 a).e==0 then r ((c (s.AD a)).2.ask ((c (s.AD a)).1==2) 42 a)else(c (s.AD a)).2.ask ((c (s.AD a)).1==2) 42 a) t:=by
 intro h0 h g0 g s u ax ay e v l;refine e.walk fun e=>?_;rcases l with l|⟨b,rfl,rfl,w⟩
 ·cases l
 have l:Iz hs (Y ⟨b,0,W⟩) 1 [i,j]:=.inr ⟨b,J,J,w⟩;have d:hs.get b=Y (.cells [I i,I j]):=w;obtain⟨o,a9,aa⟩:=e.Qm q a (.cells [I 16,I u,I 0,S [],.slice (Y ⟨b,0,W⟩) 2 1]);obtain⟨az,aA,aB,x,ab,aC,aD,aE,aF,ac,ad,aG,aH,aI⟩:=e.B4;unfold AJ at x;have ae:=e.new (.cells [I 16,I u,I 0,S [],.slice (Y ⟨b,0,W⟩) 2 1]);have y:a<s.fns.length:=by omega
 have af:=Gj s.fn y;have z:(h.n==L.fb)=false:=Ag;have aJ:s.vars.length<90000:=EM v;refine eF t_ ?_;simp only[go_sem];refine AM ae.w 0x1301000010000 ?_;simp only[go_sem,V,d_,x,ab,ac,ad,y,af,z,Z,M];have aK:=(o.x b (f _ _ d)).trans d;refine AM o.w 0x10bb008b0a810100000 ?_;have ag:=e.w _ _ ((e.x b (f _ _ d)).trans d);have ah:(b==L.fb)=false:=Ag fun aL=>by
  have p:=e.o L.fb (by obtain⟨_,_,_,_,m,_⟩:=e.r;rw[m];simp);have A:=f _ _ d;omega
 have ai:=(e.x b (f _ _ d)).trans d;simp only[go_sem,ai,ag,ah,z,h_];refine Aj (a6.run o (by show s.vars.length<_;omega)) ?_;rintro _ aM aj ⟨rfl,aN,A,ak⟩;obtain⟨al,K⟩:=a9.Ak aj ak;rw[aa]at K;have aO:=(A.x b (f _ _ d)).trans d;simp only[go_sem,h_];refine Aj (BJ q A ((c (s.AD a)).1==2) 42 a) ?_;rintro _ P am ⟨rfl,an,m,ao⟩;obtain⟨aP,a0⟩:=al.Ak am ao;rw[K]at a0;have a1:=(m.x b (f _ _ d)).trans d;have ap:G8 F k ((c (s.AD a)).2.ask ((c (s.AD a)).1==2) 42 a):=(v.le (n:=0+k) (by omega)).Kr ((((Dk s a).trans (a7 _)).trans (BA ..)).Kr 0);simp only[]at*
 generalize (c (s.AD a)).2.ask ((c (s.AD a)).1==2) 42 a=aq at*
 obtain⟨aQ,aR,aS,p,aT,_⟩:=m.B4;unfold AJ at p;have aU:JV (Y ⟨b,0,W⟩) 2 1 (Y 1) (Y 1) (Y 2) (Y 2)=Y (.slice (Y ⟨b,1,W⟩) 1 1):=by kernel_rfl
 have a2:decide ((0:Int)<((1:Nat):Int))=true:=J;have a3:decide ((1:Int)<((1:Nat):Int))=false:=J;have a4:f_ .i64 ((0:Int)+1)=1:=by rw[Ap]<;>omega
 have aV:Av true (CF P (Y (Value.slice (Y ⟨b,1,W⟩) 1 1))) W=Y (.val (.slice (Y ⟨b,1,W⟩) 1 1) P):=J;simp only[go_sem,a0,h_,N_,aa_];refine Cq ?_;cases a5:(aq.e==0)with
 |true=>
  simp only[go_sem,a2,a1,p,a5,h_,Aa9];refine Aa (a8.run m ap) ?_;rintro _ aW aX ⟨rfl,ar,au,aY⟩;simp only[go_sem,V,a4];refine Cq ?_;simp only[go_sem,V,a3];exact⟨ar,au⟩
 |false=>
  simp only[go_sem,a2,a1,p,a5,h_,Acf,a4];refine Cq ?_;simp only[go_sem,V,a3];exact⟨an,m⟩
theorem Asj(q:L.Ok)(f:Wh hs)(a:Nat)(av:a<L.m)(i j:Int)(c:Ay→Int×Ay)(r:Ay→Ay)(k:Nat)(a6:Ny L nv fv hs i c)(a7:∀s,Jg s (c s).2)(a8:YZ L nv fv hs F j r k)(t:Nat)(aw:k≤t):
  SmC L nv fv hs F a (nd 15 0 [] [i,j]) (fun s=>bif ((c (s.AD a)).2.ask ((c (s.AD a)).1==2) 42 a).e==0 then r ((c (s.AD a)).2.ask ((c (s.AD a)).1==2) 42 a)else(c (s.AD a)).2.ask ((c (s.AD a)).1==2) 42 a) t:=by
 intro h0 h g0 g s u ax ay e v l;refine e.walk fun e=>?_;rcases l with l|⟨b,rfl,rfl,w⟩
 ·cases l
 have l:Iz hs (Y ⟨b,0,W⟩) 1 [i,j]:=.inr ⟨b,J,J,w⟩;have d:hs.get b=Y (.cells [I i,I j]):=w;obtain⟨o,a9,aa⟩:=e.Qm q a (.cells [I 15,I u,I 0,S [],.slice (Y ⟨b,0,W⟩) 2 1]);obtain⟨az,aA,aB,x,ab,aC,aD,aE,aF,ac,ad,aG,aH,aI⟩:=e.B4;unfold AJ at x;have ae:=e.new (.cells [I 15,I u,I 0,S [],.slice (Y ⟨b,0,W⟩) 2 1]);have y:a<s.fns.length:=by omega
 have af:=Gj s.fn y;have z:(h.n==L.fb)=false:=Ag;have aJ:s.vars.length<90000:=EM v;refine eF t_ ?_;simp only[go_sem];refine AM ae.w 0x1301000010000 ?_;simp only[go_sem,V,d_,x,ab,ac,ad,y,af,z,Z,M];have aK:=(o.x b (f _ _ d)).trans d;refine AM o.w 0x10bb008b0a810100000 ?_;have ag:=e.w _ _ ((e.x b (f _ _ d)).trans d);have ah:(b==L.fb)=false:=Ag fun aL=>by
  have p:=e.o L.fb (by obtain⟨_,_,_,_,m,_⟩:=e.r;rw[m];simp);have A:=f _ _ d;omega
 have ai:=(e.x b (f _ _ d)).trans d;simp only[go_sem,ai,ag,ah,z,h_];refine Aj (a6.run o (by show s.vars.length<_;omega)) ?_;rintro _ aM aj ⟨rfl,aN,A,ak⟩;obtain⟨al,K⟩:=a9.Ak aj ak;rw[aa]at K;have aO:=(A.x b (f _ _ d)).trans d;simp only[go_sem,h_];refine Aj (BJ q A ((c (s.AD a)).1==2) 42 a) ?_;rintro _ P am ⟨rfl,an,m,ao⟩;obtain⟨aP,a0⟩:=al.Ak am ao;rw[K]at a0;have a1:=(m.x b (f _ _ d)).trans d;have ap:G8 F k ((c (s.AD a)).2.ask ((c (s.AD a)).1==2) 42 a):=(v.le (n:=0+k) (by omega)).Kr ((((Dk s a).trans (a7 _)).trans (BA ..)).Kr 0);simp only[]at*
 generalize (c (s.AD a)).2.ask ((c (s.AD a)).1==2) 42 a=aq at*
 obtain⟨aQ,aR,aS,p,aT,_⟩:=m.B4;unfold AJ at p;have aU:JV (Y ⟨b,0,W⟩) 2 1 (Y 1) (Y 1) (Y 2) (Y 2)=Y (.slice (Y ⟨b,1,W⟩) 1 1):=by kernel_rfl
 have a2:decide ((0:Int)<((1:Nat):Int))=true:=J;have a3:decide ((1:Int)<((1:Nat):Int))=false:=J;have a4:f_ .i64 ((0:Int)+1)=1:=by rw[Ap]<;>omega
 have aV:Av true (CF P (Y (Value.slice (Y ⟨b,1,W⟩) 1 1))) W=Y (.val (.slice (Y ⟨b,1,W⟩) 1 1) P):=J;simp only[go_sem,a0,h_,N_,aa_];refine Cq ?_;cases a5:(aq.e==0)with
 |true=>
  simp only[go_sem,a2,a1,p,a5,h_,Aa9];refine Aa (a8.run m ap) ?_;rintro _ aW aX ⟨rfl,ar,au,aY⟩;simp only[go_sem,V,a4];refine Cq ?_;simp only[go_sem,V,a3];exact⟨ar,au⟩
 |false=>
  simp only[go_sem,a2,a1,p,a5,h_,Acf,a4];refine Cq ?_;simp only[go_sem,V,a3];exact⟨an,m⟩
theorem Asi(P:L.Ok)(f:Wh hs)(a:Nat)(aH:a<L.m)(j k l:Int)(e:Ay→Int×Ay)(m a0:Ay→Ay)(o i:Nat)(ah:Ny L nv fv hs j e)(ai:∀s,Jg s (e s).2)(a1:YZ L nv fv hs F k m o)(aj:YZ L nv fv hs F l a0 i)(a2:Nat)(aI:o+i≤a2):
  SmC L nv fv hs F a (nd 15 0 [] [j,k,l]) (fun s=>
   let b:=(e (s.AD a)).2.ask ((e (s.AD a)).1==2) 42 a
   let c:=bif b.e==0 then m b else b
   bif c.e==0 then a0 c else c) a2:=by
 intro h0 h g0 g s a3 aJ aK d a4 p;refine d.walk fun d=>?_;rcases p with p|⟨c,rfl,rfl,a5⟩
 ·cases p
 have p:Iz hs (Y ⟨c,0,W⟩) 1 [j,k,l]:=.inr ⟨c,J,J,a5⟩;have b:hs.get c=Y (.cells [I j,I k,I l]):=a5;obtain⟨v,ak,al⟩:=d.Qm P a (.cells [I 15,I a3,I 0,S [],.slice (Y ⟨c,0,W⟩) 3 1]);obtain⟨aL,aM,aN,a6,am,aO,aP,aQ,aR,an,ao,aS,aT,aU⟩:=d.B4;unfold AJ at a6;have ap:=d.new (.cells [I 15,I a3,I 0,S [],.slice (Y ⟨c,0,W⟩) 3 1]);have a7:a<s.fns.length:=by omega
 have aq:=Gj s.fn a7;have a8:(h.n==L.fb)=false:=Ag;have aV:s.vars.length<90000:=EM a4;refine eF t_ ?_;simp only[go_sem];refine AM ap.w 0x1301000010000 ?_;simp only[go_sem,V,d_,a6,am,an,ao,a7,aq,a8,Z,M];have aW:=(v.x c (f _ _ b)).trans b;refine AM v.w 0x10bb008b0a810100000 ?_;have ar:=d.w _ _ ((d.x c (f _ _ b)).trans b);have au:(c==L.fb)=false:=Ag fun aX=>by
  have r:=d.o L.fb (by obtain⟨_,_,_,_,q,_⟩:=d.r;rw[q];simp);have t:=f _ _ b;omega
 have av:=(d.x c (f _ _ b)).trans b;simp only[go_sem,av,ar,au,a8,h_];refine Aj (ah.run v (by show s.vars.length<_;omega)) ?_;rintro _ aY aw ⟨rfl,aZ,a9,ax⟩;obtain⟨ay,aa⟩:=ak.Ak aw ax;rw[al]at aa;have b0:=(a9.x c (f _ _ b)).trans b;simp only[go_sem,h_];refine Aj (BJ P a9 ((e (s.AD a)).1==2) 42 a) ?_;rintro _ b1 az ⟨rfl,aA,q,aB⟩;obtain⟨b2,ab⟩:=ay.Ak az aB;rw[aa]at ab;have w:=(q.x c (f _ _ b)).trans b;have ac:G8 F (o+i) ((e (s.AD a)).2.ask ((e (s.AD a)).1==2) 42 a):=(a4.le (n:=0+(o+i)) (by omega)).Kr ((((Dk s a).trans (ai _)).trans (BA ..)).Kr 0);simp only[]at*
 generalize (e (s.AD a)).2.ask ((e (s.AD a)).1==2) 42 a=r at*
 obtain⟨b3,b4,b5,t,b6,_⟩:=q.B4;unfold AJ at t;have ad:decide ((0:Int)<((2:Nat):Int))=true:=J;have x:decide ((1:Int)<((2:Nat):Int))=true:=J;have y:decide ((2:Int)<((2:Nat):Int))=false:=J;have ae:f_ .i64 ((0:Int)+1)=1:=by rw[Ap]<;>omega
 have z:f_ .i64 ((1:Int)+1)=2:=by rw[Ap]<;>omega
 simp only[go_sem,ab,h_,N_,aa_];refine Cq ?_;cases A:(r.e==0)with
 |true=>
  simp only[go_sem,ad,w,t,A,h_,Aa9];refine Aa (a1.run q (ac.le (by omega))) ?_;rintro _ b7 b8 ⟨rfl,aC,u,b9⟩;have af:=(u.x c (f _ _ b)).trans b;have aD:G8 F i (m r):=ac.Kr (a1.Kr r);generalize m r=aE at*
  obtain⟨ba,bb,bc,K,bd,_⟩:=u.B4;unfold AJ at K;simp only[go_sem,V,ae];refine Cq ?_;cases ag:(aE.e==0)with
  |true=>
   simp only[go_sem,x,af,K,ag,h_,Aa9];refine Aa (aj.run u aD) ?_;rintro _ be bf ⟨rfl,aF,aG,bg⟩;simp only[go_sem,V,z];refine Cq ?_;simp only[go_sem,V,y];exact⟨aF,aG⟩
  |false=>
   simp only[go_sem,x,af,K,ag,h_,Acf,z];refine Cq ?_;simp only[go_sem,V,y];exact⟨aC,u⟩
 |false=>
  simp only[go_sem,ad,w,t,A,h_,Acf,ae];refine Cq ?_;simp only[go_sem,x,w,t,A,h_,z];refine Cq ?_;simp only[go_sem,V,y];exact⟨aA,q⟩
end
end
end Go.Proofs.YtebhflkemdlbkaaGreatDoor
namespace Go.Proofs.YtebhflkemdlbkaaGreatDoor
noncomputable section
set_option linter.unusedSectionVars false
section
variable{L:Lc}{t u:Value}{p:AH}{N:List Nd}{F:List Fn}
variable(g:L.Ok)(w0:Wh p)(j:Fx p t N)(d:N.length=L.m)(o:Mb p u F)(q:F.length<2^60)(a0:L.m<80000)
theorem FN{a:Nat}{b:Nd}{c:Ay→Ay}{e:Nat}(h:N[a]? =Y b)(i:SmC L t u p F a b c e)(k:∀f,Ma e f (c f)):Au8 L t u p N F a c e:=⟨⟨b,h,i⟩,k⟩
include g w0 j d o q a0
theorem LV(a:Bl)(b:Nat)(e:A2 N b (a.fl b++[nd 18 0 [] (a.AB b)]))(f:Qf L t u p N F a b):YZ L t u p F (top b (a.sz+1)) (fun c=>c.CN (b+a.sz) (fun c=>a.ck F b c)) a.sz:=by
 have h:=e.last (a.Af b);have l:b+a.sz<L.m:=by rw[←d];exact(c_.1 h).1
 exact⟨fun i k=>Aee g w0 j d a b (by omega) e f i k,fun c=>FK fun c=>a.Dw F b c⟩
mutual
theorem Av9:∀(f:Sm) (a:Nat),A2 N a (f.fl a)→Au8 L t u p N F (a+f.sz-1) (fun r=>f.ck F a r) f.sz
 |.lt k b,a,e=>by
  have h:=e.last (b.Af a);have i:a+b.sz<L.m:=by rw[←d];exact(c_.1 h).1
  exact FN h (Ash g w0 (a+b.sz) i k _ _ (Ago g w0 j d o q (by omega) b a e.left) (fun f=>b.C0 F a f) _ (by simp only[Sm.sz];omega)) (fun f=>Sm.Dw F (.lt k b) a f)
 |.set k b,a,e=>by
  have h:=e.last (b.Af a);have i:a+b.sz<L.m:=by rw[←d];exact(c_.1 h).1
  exact FN h (Asd g w0 j (a+b.sz) i k _ h _ (Ago g w0 j d o q (by omega) b a e.left) _) (fun f=>Sm.Dw F (.set k b) a f)
 |.put k b c,a,e=>by
  have h:N[a+(b.sz+c.sz)]? =_:=e.last (by rw[a_,b.Af a,c.Af]);have i:a+(b.sz+c.sz)<L.m:=by rw[←d];exact(c_.1 h).1
  exact FN h (Asg g w0 j (a+(b.sz+c.sz)) i k _ _ h _ _ (Gi g w0 j d b a e.left.left) (Gi g w0 j d c (a+b.sz) (by have:=e.left.right;rwa[b.Af a]at this)) _) (fun f=>Sm.Dw F (.put k b c) a f)
 |.run k b,a,e=>by
  have h:N[a+(Dq b+1)]? =_:=e.last (by rw[a_,DX b a];rfl);have i:a+(Dq b+1)<L.m:=by rw[←d];exact(c_.1 h).1
  exact FN h (Ase g w0 (a+(Dq b+1)) i _ _ (Ago g w0 j d o q (by omega) (.call k b) a e.left) _) (fun f=>Sm.Dw F (.run k b) a f)
 |.print b,a,e=>by
  have h:=e.last (b.Af a);have i:a+b.sz<L.m:=by rw[←d];exact(c_.1 h).1
  exact FN h (Afr g w0 (a+b.sz) i _ _ (Gi g w0 j d b a e.left) _) (fun f=>Sm.Dw F (.print b) a f)
 |.Fa,a,e=>by
  have h:=e.at;have i:a<L.m:=by rw[←d];exact(c_.1 h).1
  exact FN h (All g w0 o a i _) (fun f=>Sm.Dw F .Fa a f)
 |.ret b,a,e=>by
  have h:=e.last (b.Af a);have i:a+b.sz<L.m:=by rw[←d];exact(c_.1 h).1
  exact FN h (Asf g w0 o (a+b.sz) i _ _ (Gi g w0 j d b a e.left) _) (fun f=>Sm.Dw F (.ret b) a f)
 |.Kv b c,a,e=>by
  have h:N[a+(b.sz+(c.sz+1))]? =_:=e.last (n:=b.sz+(c.sz+1)) (by simp only[a_,b.Af a,c.Af,Z,M]);have i:a+(b.sz+(c.sz+1))<L.m:=by rw[←d];exact(c_.1 h).1
  have l:A2 N (a+b.sz) (c.fl (a+b.sz)++[nd 18 0 [] (c.AB (a+b.sz))]):=by have:=e.left.right;rwa[b.Af a]at this
  exact FN h (Asb g w0 (a+(b.sz+(c.sz+1))) i _ _ _ _ c.sz (Gi g w0 j d b a e.left.left) (fun f=>b.C0 a f) (LV g w0 j d o q a0 c (a+b.sz) l (R4 c (a+b.sz) l.left)) _ (by simp only[Sm.sz];omega)) (fun f=>Sm.Dw F (.Kv b c) a f)
 |.KD b c,a,e=>by
  have h:N[a+(b.sz+(c.sz+1))]? =_:=e.last (n:=b.sz+(c.sz+1)) (by simp only[a_,b.Af a,c.Af,Z,M]);have i:a+(b.sz+(c.sz+1))<L.m:=by rw[←d];exact(c_.1 h).1
  have l:A2 N (a+b.sz) (c.fl (a+b.sz)++[nd 18 0 [] (c.AB (a+b.sz))]):=by have:=e.left.right;rwa[b.Af a]at this
  exact FN h (Asj g w0 (a+(b.sz+(c.sz+1))) i _ _ _ _ c.sz (Gi g w0 j d b a e.left.left) (fun f=>b.C0 a f) (LV g w0 j d o q a0 c (a+b.sz) l (R4 c (a+b.sz) l.left)) _ (by simp only[Sm.sz];omega)) (fun f=>Sm.Dw F (.KD b c) a f)
 |.FP b c k,a,e=>by
  have h:N[a+(b.sz+(c.sz+1)+(k.sz+1))]? =_:=e.last (n:=b.sz+(c.sz+1)+(k.sz+1)) (by simp only[a_,b.Af a,c.Af,k.Af,Z,M]);have i:a+(b.sz+(c.sz+1)+(k.sz+1))<L.m:=by rw[←d];exact(c_.1 h).1
  have l:A2 N (a+b.sz) (c.fl (a+b.sz)++[nd 18 0 [] (c.AB (a+b.sz))]):=by have:=e.left.left.right;rwa[b.Af a]at this
  have m:A2 N (a+b.sz+(c.sz+1)) (k.fl (a+b.sz+(c.sz+1))++[nd 18 0 [] (k.AB (a+b.sz+(c.sz+1)))]):=by have:=e.left.right;simp only[a_,b.Af a,c.Af,Z,M]at this;rwa[←Z_]at this
  exact FN h (Asi g w0 (a+(b.sz+(c.sz+1)+(k.sz+1))) i _ _ _ _ _ _ c.sz k.sz (Gi g w0 j d b a e.left.left.left) (fun f=>b.C0 a f) (LV g w0 j d o q a0 c (a+b.sz) l (R4 c (a+b.sz) l.left)) (LV g w0 j d o q a0 k _ m (R4 k _ m.left)) _ (by simp only[Sm.sz];omega)) (fun f=>Sm.Dw F (.FP b c k) a f)
theorem R4:∀(c:Bl) (a:Nat),A2 N a (c.fl a)→Qf L t u p N F c a
 |.nil,_,_=>trivial
 |.cons b f,a,e=>⟨Av9 b a e.left,R4 f (a+b.sz) (by have:=e.right;rwa[b.Af a]at this)⟩
end
theorem AAl(a:Bl)(b:Nat)(e:A2 N b (a.fl b++[nd 18 0 [] (a.AB b)])):YZ L t u p F (top b (a.sz+1)) (fun c=>c.CN (b+a.sz) (fun c=>a.ck F b c)) a.sz:=
 LV g w0 j d o q a0 a b e (R4 g w0 j d o q a0 a b e.left)
end
variable{a b c d:Nat}{f g h:AH}{v w:Value}{s t:List UInt8}{l m:List Value}{u:TypeId}{x y:Int}{p:List Nat}{q r:List Int}{e:Env}{o n:Option Addr}
section
variable{L:Lc}{d f:Value}{j h0 h:AH}{o g:List Nat}{s:Ay}{N:List Nd}{F:List Fn}
theorem Hr.AAg(l:L.Ok)(e:Hr (BB L d f) j h0 o h g s)(p:Int):∃i m,Aq i=[i]∧h.get L.cb=Y (.cells (AJ L d f i m s))∧L.cb<h.n∧
  ∀c,Wh c→h.n≤c.n→c.get L.cb=Y (.cells (AJ L d f i (.slice W 0 0) {s with fn:=p,vars:=[],sz:=0}))→(∀a,a<h.n→a≠L.cb→c.get a=h.get a)→
   ∃b,Hr (BB L d f) j h0 o c b {s with fn:=p,vars:=[],sz:=0}∧∀a∈b,a∈g:=by
 obtain⟨i,m,q,P,rfl,b,r,t,u,n,a0,v,a1,a2,w⟩:=e.r;refine⟨i,m,n.one.1,b,e.w _ _ b,fun c x y z k=>⟨L.cb::L.tb::L.sb::L.fb::(q++[]),e.MZ x y ⟨i,.slice W 0 0,q,[],J,z,?_,?_,?_,?_,.inl ⟨J,J,J⟩,v,(fun a b=>by cases b),(fun a _ b=>by cases b),w⟩ (fun a b=>.inl ?_) (fun a c A=>k a c fun K=>A (by simp[K])),fun a b=>?_⟩⟩
 ·exact(k _ (e.w _ _ r) (AF l.ct)).trans r
 ·exact(k _ (e.w _ _ t) (AF l.cs)).trans t
 ·exact(k _ (e.w _ _ u) (AF l.cf)).trans u
 ·exact n.same fun a b=>k a (n.lt e.w a b) (v a b).1
 ·simp only[B_,u_,I_]at b⊢
  rcases b with h|h|h|h|h
  ·exact .inl h
  ·exact .inr (.inl h)
  ·exact .inr (.inr (.inl h))
  ·exact .inr (.inr (.inr (.inl h)))
  exact .inr (.inr (.inr (.inr (.inl h))))
 simp only[B_,u_,I_]at b⊢;rcases b with h|h|h|h|h
 ·exact .inl h
 ·exact .inr (.inl h)
 ·exact .inr (.inr (.inl h))
 ·exact .inr (.inr (.inr (.inl h)))
 exact .inr (.inr (.inr (.inr (.inl h))))
theorem Hr.TC{zv1 vv:e_}{l i:List Nat}{nb:Nat}{c:AH}{e:Ay}(q:L.Ok)(k:Hr (BB L d f) j h0 o h g s)(P:g=L.cb::L.tb::L.sb::L.fb::(l++i))
  (u:h.get L.tb=Y (.cells (s.types.map fun b=>I b))) (v:h.get L.sb=Y (.cells (s.Ac.map fun b=>I b))) (w:h.get L.fb=Y (.cells (s.fns.map fun b=>I b)))
  (r:L1 h vv s.vars i) (p:Acv L l) (x:Acv L i) (a0:∀a∈l,a∉i) (m:s.types.length=L.m∧s.Ac.length=L.m∧s.fns.length=L.m) (t:L.cb<h.n)
  (a1:Wh c) (a2:h.n≤c.n) (a3:c.get L.cb=Y (.cells (AJ L d f zv1 vv e))) (a4:QK c zv1 e.size [nb]) (K:h.n≤nb) (n:∀a,a<h.n→a≠L.cb→a∉l→c.get a=h.get a)
  (y:e.types=s.types) (z:e.Ac=s.Ac) (A:e.fns=s.fns) (a5:e.vars=s.vars):Hr (BB L d f) j h0 o c (L.cb::L.tb::L.sb::L.fb::([nb]++i)) e:=by
 subst P;have a6:=k.w _ _ u;have a7:=k.w _ _ v;have a8:=k.w _ _ w;have t:∀a,(a=L.cb∨a=L.tb∨a=L.sb∨a=L.fb)→a∉l:=fun a b m=>by
  have:=p a m;rcases b with h|h|h|h
  ·exact this.1 h
  ·exact this.2.1 h
  ·exact this.2.2.1 h
  exact this.2.2.2 h
 refine k.MZ a1 a2 ⟨zv1,vv,[nb],i,J,a3,?_,?_,?_,a4,?_,?_,x,?_,by rw[y,z,A];exact m⟩ ?_ fun a c K=>n a c (fun p=>K (by simp[p])) (fun p=>K (by simp[p]))
 ·rw[y];exact(n _ a6 (AF q.ct) (t _ (.inr (.inl J)))).trans u
 ·rw[z];exact(n _ a7 (AF q.cs) (t _ (.inr (.inr (.inl J))))).trans v
 ·rw[A];exact(n _ a8 (AF q.cf) (t _ (.inr (.inr (.inr J))))).trans w
 ·rw[a5];exact r.same fun a b=>n a (r.lt k.w a b) (x a b).1 (fun p=>a0 a p b)
 ·intro a b
  rcases q_.1 b with rfl
  exact⟨by omega,by omega,by omega,by omega⟩
 ·intro a b m
  rcases q_.1 b with rfl
  have:=r.lt k.w a m;omega
 intro a b;simp only[u_,I_,O_,or_false]at b⊢;rcases b with h|h|h|h|h|h
 ·exact .inl (.inl h)
 ·exact .inl (.inr (.inl h))
 ·exact .inl (.inr (.inr (.inl h)))
 ·exact .inl (.inr (.inr (.inr (.inl h))))
 ·exact .inr (by omega)
 exact .inl (.inr (.inr (.inr (.inr (.inr h)))))
theorem Kb(a:Int):∀(b:List Pm) (s:Ay),Ma b.length s (E0 a b s)
 |[],s=>(Jg.refl s).Kr 0
 |c::b,s=>by
  have e:Ma 1 s ((s.ask (!(B7 c.1 s.vars).isSome) 41 a).put c.1 c.2):=by obtain⟨e,l,i,k⟩:=BA s (!(B7 c.1 s.vars).isSome) 41 a;simp only[Ma,Ay.put,a_,Z,M];rw[e];exact⟨by omega,by omega,by omega,by omega,i,k⟩
  refine(e.trans (Kb a b _)).le ?_;simp only[Z];omega
theorem Aue(a3:L.Ok)(aT:Wh j)(l:Nat)(bg:l<F.length)(z:H)(A:Int)(e:List Pm)(i:Nat)(b:Bl)(aM:YZ L d f j F (top i (b.sz+1)) (fun s=>s.CN (i+b.sz) (fun s=>b.ck F i s)) b.sz)(bh:b.sz<80000)(bi:e.length<1000){K:Option X_}
  (aU:(e=[]∧K=W)∨∃aa,K=Y ⟨aa,0,W⟩∧a=2∧j.get aa=Y (.cells (Bi e))) (k:s.size.length<90000) (ac:Hr (BB L d f) j h0 o h g s):
  AR 40 [AA L.cb,I l,.agg #[S z,I x,.slice K e.length a,I A,I ((i+b.sz:Nat):Int)]] h (Jn (BB L d f) j h0 o h g (VQ F l ⟨z,e,A,b⟩ i s) (.tuple #[])):=by
 refine ac.walk fun ac=>?_;obtain⟨y,vv,bj,t,aV,aW⟩:=ac.AAg a3 (l:Int);unfold AJ at t;have aX:=ac.free (c:=h.n) (h1:=h.new (.cells [S z,I x,.slice K e.length a,I A,I ((i+b.sz:Nat):Int)])) (b_ _) (by simp only[go_sem]);refine eF Tryz.func40 ?_;have aN:(h.n==L.cb)=false:=Ag;obtain⟨ax,aY,aZ⟩:=aW ((((h.new (.cells [S z,I x,.slice K e.length a,I A,I ((i+b.sz:Nat):Int)])).put L.cb (.cells [I s.e,I s.pos,d,f,.slice (Y ⟨L.tb,0,W⟩) s.types.length 1,.slice (Y ⟨L.sb,0,W⟩) s.Ac.length 1,.slice (Y ⟨L.fb,0,W⟩) s.fns.length 1,y,I l,vv,I s.sz])).put L.cb (.cells [I s.e,I s.pos,d,f,.slice (Y ⟨L.tb,0,W⟩) s.types.length 1,.slice (Y ⟨L.sb,0,W⟩) s.Ac.length 1,.slice (Y ⟨L.fb,0,W⟩) s.fns.length 1,y,I l,.slice W 0 0,I s.sz])).put L.cb (.cells [I s.e,I s.pos,d,f,.slice (Y ⟨L.tb,0,W⟩) s.types.length 1,.slice (Y ⟨L.sb,0,W⟩) s.Ac.length 1,.slice (Y ⟨L.fb,0,W⟩) s.fns.length 1,y,I l,.slice W 0 0,I 0]))
  (Ar (Ar (Ar (Am ac.w _) (by simp only[go_sem];omega) _) (by simp only[go_sem];omega) _) (by simp only[go_sem];omega) _) (by simp only[go_sem];omega) (by rw[Ai];rfl) (fun c t q=>by simp only[go_sem,t,Ag q])
 have b0:Gf ((((h.new (.cells [S z,I x,.slice K e.length a,I A,I ((i+b.sz:Nat):Int)])).put L.cb (.cells [I s.e,I s.pos,d,f,.slice (Y ⟨L.tb,0,W⟩) s.types.length 1,.slice (Y ⟨L.sb,0,W⟩) s.Ac.length 1,.slice (Y ⟨L.fb,0,W⟩) s.fns.length 1,y,I l,vv,I s.sz])).put L.cb (.cells [I s.e,I s.pos,d,f,.slice (Y ⟨L.tb,0,W⟩) s.types.length 1,.slice (Y ⟨L.sb,0,W⟩) s.Ac.length 1,.slice (Y ⟨L.fb,0,W⟩) s.fns.length 1,y,I l,.slice W 0 0,I s.sz])).put L.cb (.cells [I s.e,I s.pos,d,f,.slice (Y ⟨L.tb,0,W⟩) s.types.length 1,.slice (Y ⟨L.sb,0,W⟩) s.Ac.length 1,.slice (Y ⟨L.fb,0,W⟩) s.fns.length 1,y,I l,.slice W 0 0,I 0])) ax h.n:=⟨by simp only[go_sem],fun b1=>aX.2 (aZ _ b1)⟩;have b2:((((h.new (.cells [S z,I x,.slice K e.length a,I A,I ((i+b.sz:Nat):Int)])).put L.cb (.cells [I s.e,I s.pos,d,f,.slice (Y ⟨L.tb,0,W⟩) s.types.length 1,.slice (Y ⟨L.sb,0,W⟩) s.Ac.length 1,.slice (Y ⟨L.fb,0,W⟩) s.fns.length 1,y,I l,vv,I s.sz])).put L.cb (.cells [I s.e,I s.pos,d,f,.slice (Y ⟨L.tb,0,W⟩) s.types.length 1,.slice (Y ⟨L.sb,0,W⟩) s.Ac.length 1,.slice (Y ⟨L.fb,0,W⟩) s.fns.length 1,y,I l,.slice W 0 0,I s.sz])).put L.cb (.cells [I s.e,I s.pos,d,f,.slice (Y ⟨L.tb,0,W⟩) s.types.length 1,.slice (Y ⟨L.sb,0,W⟩) s.Ac.length 1,.slice (Y ⟨L.fb,0,W⟩) s.fns.length 1,y,I l,.slice W 0 0,I 0])).get h.n=Y (.cells [S z,I x,.slice K e.length a,I A,I ((i+b.sz:Nat):Int)]):=by simp only[go_sem,aN]
 simp only[go_sem,V,t,aV,aN];generalize ((((h.new (.cells [S z,I x,.slice K e.length a,I A,I ((i+b.sz:Nat):Int)])).put L.cb (.cells [I s.e,I s.pos,d,f,.slice (Y ⟨L.tb,0,W⟩) s.types.length 1,.slice (Y ⟨L.sb,0,W⟩) s.Ac.length 1,.slice (Y ⟨L.fb,0,W⟩) s.fns.length 1,y,I l,vv,I s.sz])).put L.cb (.cells [I s.e,I s.pos,d,f,.slice (Y ⟨L.tb,0,W⟩) s.types.length 1,.slice (Y ⟨L.sb,0,W⟩) s.Ac.length 1,.slice (Y ⟨L.fb,0,W⟩) s.fns.length 1,y,I l,.slice W 0 0,I s.sz])).put L.cb (.cells [I s.e,I s.pos,d,f,.slice (Y ⟨L.tb,0,W⟩) s.types.length 1,.slice (Y ⟨L.sb,0,W⟩) s.Ac.length 1,.slice (Y ⟨L.fb,0,W⟩) s.fns.length 1,y,I l,.slice W 0 0,I 0]))=h1 at*
 have b3:G8 F (b.sz+e.length) {s with fn:=(l:Int),vars:=[],sz:=0}:=⟨by show(0:Int)≤0;omega,by show(0:Int)+((b.sz+e.length:Nat):Int)<90000;omega,by show 0+(b.sz+e.length)<90000;omega,by show(0:Int)≤(l:Int);omega,by show(l:Int)<(F.length:Int);omega⟩;have aO:=Kb ((i+b.sz:Nat):Int) e {s with fn:=(l:Int),vars:=[],sz:=0};refine AG (fun(w:Nat×Ay×List Nat) v ay=>Hr (BB L d f) j h g ay w.2.2 w.2.1∧Kp h1 ay ax w.2.2∧h1.n≤ay.n∧w.1≤e.length∧E0 ((i+b.sz:Nat):Int) (e.drop w.1) w.2.1=E0 ((i+b.sz:Nat):Int) e {s with fn:=(l:Int),vars:=[],sz:=0}∧Ma w.1 {s with fn:=(l:Int),vars:=[],sz:=0} w.2.1∧
  v.at 0=AA L.cb∧v.at 5=AA h.n∧v.at 21=.slice K e.length a∧v.at 22=I e.length∧v.at 23=I w.1) (fun w=>e.length-w.1) ?_ (0,{s with fn:=(l:Int),vars:=[],sz:=0},ax) ?_
 ·rintro⟨p,k,a5⟩ v m ⟨r,az,aA,b4,ad,ae,P,aB,aP,au,af⟩ aQ
  dsimp only at r az b4 ad ae af aQ;obtain⟨av,aC⟩:=b0.Ak aA az;rw[b2]at aC;obtain⟨bk,bl,bm,aw,b5,_⟩:=r.B4;unfold AJ at aw;cases ag:decide ((p:Int)<e.length)with
  |false=>
   have ab:p=e.length:=by have:=Adh ag;omega
   have aD:k=E0 ((i+b.sz:Nat):Int) e {s with fn:=(l:Int),vars:=[],sz:=0}:=by rw[←ad,ab,w_];rfl
   have b6:G8 F b.sz k:=aD▸(b3.le (n:=e.length+b.sz) (by omega)).Kr aO;have aR:k.size=s.size:=aD▸aO.2.2.2.2.2;have b7:VQ F l ⟨z,e,A,b⟩ i s={(bif k.e==0 then k.CN (i+b.sz) (fun s=>b.ck F i s)else k)with size:=(bif k.e==0 then k.CN (i+b.sz) (fun s=>b.ck F i s)else k).size++[(bif k.e==0 then k.CN (i+b.sz) (fun s=>b.ck F i s)else k).sz]}:=by rw[aD];rfl
   rw[b7];cases aS:(k.e==0)with
   |true=>
    simp only[go_sem,V,P,aB,au,af,ag,aw,aS,aC,Aa9];refine Aa (aM.run r b6) ?_;rintro _ a4 ba ⟨rfl,bb,a0,bc⟩;have b8:(k.CN (i+b.sz) fun s=>b.ck F i s).size.length<90000:=by rw[(aM.Kr k).2.2.2.2.2,aR];omega
    generalize (k.CN (i+b.sz) fun s=>b.ck F i s)=ah at*
    simp only[go_sem];obtain⟨b9,ai,bd,be,aj,u,ak,al,am,aE,an,a6,ao,ap,aq⟩:=a0.r;have a1:=a0.w _ _ u;unfold AJ at u;refine AM a0.w 0x13000321000100000 ?_;rcases aE with⟨a2,aF,a7⟩|⟨a8,a2,a7,ar⟩
    ·subst aF
     simp only[go_sem,V,P,u,a1];refine⟨_,a0.TC (vv:=ai) (zv1:=.slice (Y ⟨a4.n+1,0,W⟩) 1 1) (nb:=a4.n+1) a3 aj ak al am an a6 ao ap aq a1 (Ar (Am (Am a0.w _) _) (by simp only[go_sem];omega) _) (by simp only[go_sem];omega) (by simp only[go_sem];rfl) (.inr ⟨a4.n+1,?_,J,?_⟩) (by omega) ?_ J J J J⟩
     ·show _=Value.slice _ (_++[_]).length 1
      rw[a2];rfl
     ·have a9:(a4.n+1==L.cb)=false:=Ag
      show _=Y (AO.cells ((_++[_]).map _));rw[a2];simp only[go_sem,a9,T_];rfl
     intro c t q _;simp only[go_sem,t,Ag q]
    subst a2;have aG:=a0.w _ _ ar;have aH:(L.cb==a8)=false:=Ag (fun v=>(a6 a8 (by rw[a7];simp)).1 v.symm);have aI:P_ (ah.size.length+1) 1000000=true:=Eg;have aJ:take? (ah.size.map fun p=>I p) ah.size.length=Y (ah.size.map fun p=>I p):=by rw[Bn (by simp),s_ (by simp)]
    simp only[go_sem,V,P,u,a1,ar,aG,aH,aI,aJ];refine⟨_,a0.TC (vv:=ai) (zv1:=.slice (Y ⟨a4.n+1,0,W⟩) (ah.size.length+1) 1) (nb:=a4.n+1) a3 aj ak al am an a6 ao ap aq a1 (Ar (Am (Dm (Am a0.w _) _) _) (by simp only[go_sem];omega) _) (by simp only[go_sem];omega) (by simp only[go_sem];rfl) (.inr ⟨a4.n+1,?_,J,?_⟩) (by omega) ?_ J J J J⟩
    ·show _=Value.slice _ (_++[_]).length 1
     rw[a_];rfl
    ·have a9:(a4.n+1==L.cb)=false:=Ag
     show _=Y (AO.cells ((_++[_]).map _));simp only[go_sem,a9,J_];rfl
    intro c t q aK;have aL:(c==a8)=false:=Ag fun v=>aK (by rw[a7,v];simp);simp only[go_sem,t,Ag q,aL]
   |false=>
    simp only[go_sem,P,au,af,ag,aw,aS,Acf];have b8:k.size.length<90000:=by rw[aR];omega
    clear aw b5;obtain⟨b9,ai,a4,ah,aj,u,ak,al,am,aE,an,a6,ao,ap,aq⟩:=r.r;have a1:=r.w _ _ u;unfold AJ at u;refine AM r.w 0x13000321000100000 ?_;rcases aE with⟨a2,aF,a7⟩|⟨a8,a2,a7,ar⟩
    ·subst aF
     simp only[go_sem,V,P,u,a1];refine⟨_,r.TC (vv:=ai) (zv1:=.slice (Y ⟨m.n+1,0,W⟩) 1 1) (nb:=m.n+1) a3 aj ak al am an a6 ao ap aq a1 (Ar (Am (Am r.w _) _) (by simp only[go_sem];omega) _) (by simp only[go_sem];omega) (by simp only[go_sem];rfl) (.inr ⟨m.n+1,?_,J,?_⟩) (by omega) ?_ J J J J⟩
     ·show _=Value.slice _ (_++[_]).length 1
      rw[a2];rfl
     ·have a9:(m.n+1==L.cb)=false:=Ag
      show _=Y (AO.cells ((_++[_]).map _));rw[a2];simp only[go_sem,a9,T_];rfl
     intro c t q _;simp only[go_sem,t,Ag q]
    subst a2;have aG:=r.w _ _ ar;have aH:(L.cb==a8)=false:=Ag (fun v=>(a6 a8 (by rw[a7];simp)).1 v.symm);have aI:P_ (k.size.length+1) 1000000=true:=Eg;have aJ:take? (k.size.map fun p=>I p) k.size.length=Y (k.size.map fun p=>I p):=by rw[Bn (by simp),s_ (by simp)]
    simp only[go_sem,V,P,u,a1,ar,aG,aH,aI,aJ];refine⟨_,r.TC (vv:=ai) (zv1:=.slice (Y ⟨m.n+1,0,W⟩) (k.size.length+1) 1) (nb:=m.n+1) a3 aj ak al am an a6 ao ap aq a1 (Ar (Am (Dm (Am r.w _) _) _) (by simp only[go_sem];omega) _) (by simp only[go_sem];omega) (by simp only[go_sem];rfl) (.inr ⟨m.n+1,?_,J,?_⟩) (by omega) ?_ J J J J⟩
    ·show _=Value.slice _ (_++[_]).length 1
     rw[a_];rfl
    ·have a9:(m.n+1==L.cb)=false:=Ag
     show _=Y (AO.cells ((_++[_]).map _));simp only[go_sem,a9,J_];rfl
    intro c t q aK;have aL:(c==a8)=false:=Ag fun v=>aK (by rw[a7,v];simp);simp only[go_sem,t,Ag q,aL]
  |true=>
   have ab:p<e.length:=by have:=Acw ag;omega
   have a7:=g_ ab;rw[j_ ab]at ad;generalize e[p]=q at ad a7;rcases aU with⟨w,_⟩|⟨aa,rfl,rfl,al⟩
   ·rw[w]at a7;cases a7
   have ar:=(r.x aa (aT _ _ al)).trans al;have aD:=GN e p q a7;have aE:f_ .i64 ((p:Int)+1)=((p+1:Nat):Int):=by rw[Ap]<;>omega
   have bn:k.vars.length≤p:=by have h1:=ae.2.2.2.1;simpa using h1
   have aF:0≤k.sz:=ae.1;have bo:k.sz≤p:=by have h1:k.sz≤(0:Int)+(p:Int):=ae.2.1;omega
   have a0:=(r.new (.cells [S [],I 0])).put (c:=m.n) (r.free (b_ _) (by simp only[go_sem])) r.n r.m (.cells [S q.1,I q.2]);have am:Gf ((m.new (.cells [S [],I 0])).put m.n (.cells [S q.1,I q.2])) a5 m.n:=r.free (b_ _) (by simp only[go_sem]);have aG:Gf ((m.new (.cells [S [],I 0])).put m.n (.cells [S q.1,I q.2])) a5 h.n:=⟨o_ av.1,av.2⟩;have aH:=av.1;simp only[go_sem,V,P,aP,au,af,ag,ab,ar,aD];refine Aa (Ts a3 a0 q.1 (by omega)) ?_;rintro _ u aI ⟨rfl,a8,a9⟩;have bp:m.n+1≤u.n:=by simpa only[go_sem]using aI
   have aJ:u.get m.n=Y (.cells [S q.1,I q.2]):=(a9 _ am.1).trans (Ai _ _);have an:u.get h.n=Y (.cells [S z,I x,.slice (Y ⟨aa,0,W⟩) e.length 2,I A,I ((i+b.sz:Nat):Int)]):=(a9 _ aG.1).trans ((show _=m.get h.n by simp only[go_sem,aH]).trans aC);have ah:Gf u a5 m.n:=⟨by omega,am.2⟩;have ai:Gf u a5 h.n:=⟨by omega,av.2⟩;obtain⟨a1,a2,a4,aK⟩:∃a1 a2 a4,Up (B7 q.1 k.vars)=.agg #[S a1,I a2,I a4]:=by
    cases B7 q.1 k.vars with
    |none=>exact⟨_,_,_,J⟩
    |some a6=>exact⟨_,_,_,J⟩
   rw[aK];have ao:=(a8.new (.cells [S [],I 0,I 0])).put (c:=u.n) (a8.free (b_ _) (by simp only[go_sem])) a8.n a8.m (.cells [S a1,I a2,I a4]);have aL:Gf ((u.new (.cells [S [],I 0,I 0])).put u.n (.cells [S a1,I a2,I a4])) a5 m.n:=⟨o_ ah.1,ah.2⟩;have aR:Gf ((u.new (.cells [S [],I 0,I 0])).put u.n (.cells [S a1,I a2,I a4])) a5 h.n:=⟨o_ ai.1,ai.2⟩;have aS:=ah.1;have ap:=ai.1;simp only[go_sem,V];refine AM ao.w 0x131000000 ?_;simp only[go_sem,V,P,aB,ap,an];refine Aj (BJ a3 ao (!(B7 q.1 k.vars).isSome) 41 ((i+b.sz:Nat):Int)) ?_;rintro _ a6 aj ⟨rfl,b6,b7,ak⟩;obtain⟨bq,b8⟩:=aL.Ak aj ak;obtain⟨br,b9⟩:=aR.Ak aj ak;have ba:a6.get m.n=Y (.cells [S q.1,I q.2]):=b8.trans ((show _=u.get m.n by simp only[go_sem,aS]).trans aJ);have bs:a6.get h.n=Y (.cells [S z,I x,.slice (Y ⟨aa,0,W⟩) e.length 2,I A,I ((i+b.sz:Nat):Int)]):=b9.trans ((show _=u.get h.n by simp only[go_sem,ap]).trans an);simp only[go_sem,V,P,ba];refine Aa (Zt a3 b7 q.1 q.2 (by rw[BO];omega) (by rw[P9];exact aF) (by rw[P9];omega)) ?_;rintro _ bt bu ⟨rfl,bb,bc,bd⟩;simp only[go_sem,V,af,aE];have be:Kp m a6 a5 b6:=by
    intro c t bf;have aq:c<u.n:=by omega
    have:=ak c (o_ aq) bf;refine⟨this.1.trans ((show _=u.get c by simp only[go_sem,aq]).trans ((a9 c (o_ t)).trans (by simp only[go_sem,t]))),this.2⟩
   have aq:m.n≤a6.n:=by
    have:u.n+1≤a6.n:=by simpa only[go_sem]using aj
    omega
   refine aQ (p+1,_,bb) _ _ ⟨bc,(az.trans aA be).trans (i_ aA aq) bd,by omega,ab,ad,?_,?_,?_,?_,?_,?_⟩ (by show e.length-(p+1)<e.length-p;omega)
   ·exact ae.trans (Kb ((i+b.sz:Nat):Int) [q] k)
   ·simp only[go_sem,P]
   ·simp only[go_sem,V,aB]
   ·simp only[go_sem,V,aP]
   ·simp only[go_sem,V,au]
   simp only[go_sem]
 refine⟨aY,Kp.refl _ _,b_ _,m_ _,J,(Jg.refl _).Kr 0,?_,?_,?_,?_,?_⟩<;>simp only[go_sem,V]
 rfl
end
def Qu(a:List H):List (e_×e_):=a.map fun b=>(S b,.bool true)
def T3(a:H):List H→List H
 |[]=>[a]
 |n::b=>bif a==n then a::b else n::T3 a b
def Tj(a:H):List H→Bool
 |[]=>false
 |n::b=>a==n||Tj a b
theorem XH(a b:H)(c f:e_)(e:List (e_×e_)):Bg (S a) c ((S b,f)::e)=bif a==b then Y ((S a,c)::e)else Ajl (S b,f) (Bg (S a) c e):=by
 show(match sameKey (S a) (S b)with|some true=>Y ((S a,c)::e)|some false=>(match Bg (S a) c e with|some i=>Y ((S b,f)::i)|none=>W)|none=>W)=_;have:sameKey (S a) (S b)=Y (a==b):=J;rw[this];cases(a==b)with
 |true=>rfl
 |false=>simp only[Acf];cases Bg (S a) c e<;>rfl
theorem Aai(a b:H)(c:e_)(e:List (e_×e_)):Bc (S a) ((S b,c)::e)=bif a==b then Y (Y c)else Bc (S a) e:=by show(match sameKey (S a) (S b)with|some true=>Y (Y c)|some false=>Bc (S a) e|none=>W)=_;have:sameKey (S a) (S b)=Y (a==b):=J;rw[this];cases(a==b)<;>rfl
theorem Ahl(a:H):∀b,Bg (S a) (.bool true) (Qu b)=Y (Qu (T3 a b))
 |[]=>rfl
 |n::b=>by
  have h:=Ahl a b;show Bg (S a) (.bool true) ((S n,.bool true)::Qu b)=Y (Qu (bif a==n then a::b else n::T3 a b));rw[XH,h];cases a==n<;>rfl
theorem ZJ(a:H):∀b,Bc (S a) (Qu b)=Y (bif Tj a b then Y (.bool true)else W)
 |[]=>rfl
 |n::b=>by
  have h:=ZJ a b;show Bc (S a) ((S n,.bool true)::Qu b)=Y (bif (a==n||Tj a b)then Y (.bool true)else W);rw[Aai,h];cases a==n<;>rfl
theorem VL(b a:H):∀c,Tj a (T3 b c)=(a==b||Tj a c)
 |[]=>rfl
 |n::c=>by
  unfold T3;cases e:b==n with
  |true=>
   have:=eq_of_beq e;subst this;simp[Tj]
  |false=>
   simp only[Acf,Tj];rw[VL b a c];cases a==n<;>cases a==b<;>rfl
def lkS(a:e_)(b:H):Option AO→Option e_
 |some (.map c)=>Tl a (Bc (S b) c)
 |_=>W
theorem Anh(a:e_)(b:H)(c:List (e_×e_)):lkS a b (Y (.map c))=Tl a (Bc (S b) c):=nr J
theorem Ani{h:AH}(i:S_)(a:Nat)(c:H)(e:e_):lkK h (Y (.string,i)) (Y e) (.map (Y a)) (S c)=lkS e c (h.get a):=by
 have j:mapA h (.map (Y a))=(match h.get a with|some (.map b)=>Y b|_=>W):=J;show opt (mapA h (.map (Y a))) (fun b=>opt (Bc (S c) b) fun a=>Y (a.getD e))=_;rw[j];cases h.get a with
 |none=>rfl
 |some k=>
  cases k with
  |map b=>
   show opt (Bc (S c) b) (fun a=>Y (a.getD e))=Tl e (Bc (S c) b);cases Bc (S c) b<;>rfl
  |cells f=>rfl
  |tc l f=>rfl
  |iter s l=>rfl
  |ro f=>rfl
theorem Lt{a:Pr}{h:AH}(b:S_)(c f i:W_):Cs a u (.mapUpdate b c f i) e h=Adb h (Hw a b) (AZ e c) (AZ e f) (AZ e i):=nr J
theorem Aqq:Hw pr 178=Y (.string,4):=by kernel_rfl
theorem Avs:pr.zero 4=Y (.bool false):=by kernel_rfl
theorem SM{h:AH}(a b:W_):Cs pr u (.lookup 178 a b false) e h=CF h (lkK h (Y (.string,4)) (Y (.bool false)) (AZ e a) (AZ e b)):=Ke 178 a b Aqq Avs
section
variable{L:Lc}{nv fv:Value}{d h0 h:AH}{g0 g:List Nat}{s:Ay}{F:List Fn}
theorem Adk(a9:L.Ok)(al:Wh d)(aa:Mb d fv F)(aQ:F.length<2^60)(t:Hr (BB L nv fv) d h0 g0 h g s):
  AR 39 [AA L.cb,fv] h (Jn (BB L nv fv) d h0 g0 h g (DP F [] false s) (.tuple #[])):=by
 refine t.walk fun t=>?_;obtain⟨ab,ac,ad⟩:=aa.slice;have am:=t.new (.map []);have an:Gf (h.new (.map [])) g h.n:=t.free (b_ _) (by simp only[go_sem]);refine eF Tryz.func39 ?_;have aR:=ad;subst ad;simp only[go_sem,V];refine AG (fun(e:Nat×Ay×List Nat×List H×List H×Bool) k K=>Hr (BB L nv (.slice ab F.length ac)) d h g K e.2.2.1 e.2.1∧Gf K e.2.2.1 h.n∧K.get h.n=Y (.map (Qu e.2.2.2.1))∧(∀b,Tj b e.2.2.2.1=e.2.2.2.2.1.contains b)∧e.1≤F.length∧
  DP (F.drop e.1) e.2.2.2.2.1 e.2.2.2.2.2 e.2.1=DP F [] false s∧k.at 0=AA L.cb∧k.at 4=.map (Y h.n)∧k.at 5=.bool e.2.2.2.2.2∧k.at 9=.slice ab F.length ac∧k.at 10=I F.length∧k.at 11=I e.1) (fun e=>F.length-e.1) ?_ (0,s,g,[],[],false) ?_
 ·rintro⟨b,ao,ae,m,seen,N⟩ k i ⟨f,v,P,a0,ap,n,o,p,a1,u,q,l⟩ af
  dsimp only at f v P a0 ap n a1 l af;obtain⟨aS,aT,aU,aV,aW,_⟩:=f.B4;cases w:decide ((b:Int)<F.length)with
  |false=>
   have r:b=F.length:=by have:=Adh w;omega
   rw[r,w_]at n;simp only[go_sem,V,o,a1,q,l,w];refine Aa (BJ a9 f N 44 0) ?_;rintro _ j y ⟨rfl,a,x,z⟩;simp only[go_sem];exact⟨a,n▸x⟩
  |true=>
   have r:b<F.length:=by have:=Acw w;omega
   have ag:=g_ r;rw[j_ r]at n;generalize F[b]=a at n ag;obtain⟨aq,aX,a2,a3,a4,ar,au,aY,_,av,_⟩:=aa.node al f.x f.m ag;injection ar with aw _ ax
   subst aw ax;have x:=(f.new (.cells [S [],I 0,.slice W 0 0,I 0,I 0])).put (c:=i.n) (f.free (b_ _) (by simp only[go_sem])) f.n f.m (.cells [S a.name,I a2,.slice a3 a.params.length a4,I a.ret,I a.body]);have ay:Gf ((i.new (.cells [S [],I 0,.slice W 0 0,I 0,I 0])).put i.n (.cells [S a.name,I a2,.slice a3 a.params.length a4,I a.ret,I a.body])) ae i.n:=f.free (b_ _) (by simp only[go_sem]);have az:Gf ((i.new (.cells [S [],I 0,.slice W 0 0,I 0,I 0])).put i.n (.cells [S a.name,I a2,.slice a3 a.params.length a4,I a.ret,I a.body])) ae h.n:=⟨o_ v.1,v.2⟩;have ah:=v.1;have y:f_ .i64 ((b:Int)+1)=((b+1:Nat):Int):=by rw[Ap]<;>omega
   have aA:Tl (.bool false) (Bc (S a.name) (Qu m))=Y (.bool (seen.contains a.name)):=by rw[ZJ,a0];cases seen.contains a.name<;>rfl
   simp only[go_sem,V,u,q,l,w,r,au,av];refine AM x.w 0x131001100000 ?_;simp only[go_sem,V,o,p,SM,Ani,ah,P,Anh,aA];refine Aj (BJ a9 x (!seen.contains a.name) 41 a.body) ?_;rintro _ a5 ai ⟨rfl,aB,aC,aj⟩;obtain⟨aZ,aD⟩:=ay.Ak ai aj;obtain⟨a6,aE⟩:=az.Ak ai aj;have z:a5.get i.n=_:=aD.trans (Ai _ _);have aF:a5.get h.n=_:=aE.trans ((show _=i.get h.n by simp only[go_sem,ah]).trans P);have aG:=aC.put (c:=h.n) a6 (b_ _) t.m (.map (Qu (T3 a.name m)));have a7:(i.n==h.n)=false:=Ag;have aH:=Ahl a.name m;have aI:∀b,Tj b (T3 a.name m)=(a.name::seen).contains b:=by intro j;rw[VL,a0,List.contains_cons]
   simp only[go_sem,V,p,a1,z,aF,Lt,Aqq,Po,Pq,aH,BM];have ak:∀a8:Nat,(((a8:Nat):Int)==0)=(a8==0):=fun a8=>by rw[at_];simp
   have next:∀(A:Bool) (j:Env),A=(N||(a.name==KA&&(a.params.length==0)&&(a.ret==0)))→j.at 0=AA L.cb→j.at 4=.map (Y h.n)→j.at 5=.bool A→j.at 9=.slice (Y ⟨aq,0,W⟩) F.length 5→j.at 10=I F.length→j.at 11=I ((b+1:Nat):Int)→_:=
    fun A j aJ aK aL aM aN aO aP=>af (b+1,ao.ask (!seen.contains a.name) 41 a.body,aB,T3 a.name m,a.name::seen,A) j (a5.put h.n (.map (Qu (T3 a.name m)))) ⟨aG,⟨a6.1,a6.2⟩,Ai _ _,aI,r,by rw[aJ];exact n,aK,aL,aM,aN,aO,aP⟩ (by show F.length-(b+1)<F.length-b;omega)
   cases N with
   |true=>
    simp only[go_sem,V,l,y,Aa9];refine next true _ (by simp) ?_ ?_ ?_ ?_ ?_ ?_<;>simp only[go_sem,V,o,p,u,q]
   |false=>
    cases c1:(a.name==[109,97,105,110])with
    |false=>
     simp only[go_sem,V,l,z,y,a7,c1,Acf];refine next false _ (by simp[KA,c1]) ?_ ?_ ?_ ?_ ?_ ?_<;>simp only[go_sem,V,o,p,u,q]
    |true=>
     cases c2:(a.params.length==0)with
     |false=>
      simp only[go_sem,V,l,z,y,a7,c1,ak,c2,Aa9,Acf];refine next false _ (by simp[c2]) ?_ ?_ ?_ ?_ ?_ ?_<;>simp only[go_sem,V,o,p,u,q]
     |true=>
      simp only[go_sem,V,l,z,y,a7,c1,ak,c2,Aa9,Acf];refine next (a.ret==0) _ (by simp[KA,c1,c2]) ?_ ?_ ?_ ?_ ?_ ?_<;>simp only[go_sem,V,o,p,u,q]
 refine⟨am,an,Ae _,fun b=>rfl,m_ _,J,?_,?_,?_,?_,?_,?_⟩<;>simp only[go_sem,V]
 rfl
end
abbrev U(a:Int):e_:=.int .u64 a
theorem Akj(b c:W_)(a:Nat)(d:a<4294967296):Cu pr .and 254 b c (U a) (U 4294967295)=Y (U a):=by
 have e:Cu pr .and 254 b c (U a) (U 4294967295)=Y (U (f_ .u64 ((BitVec.ofInt 64 (a:Int)&&&BitVec.ofInt 64 4294967295).toNat:Int))):=J;rw[e];have f:(BitVec.ofInt 64 (a:Int)&&&BitVec.ofInt 64 4294967295).toNat=a:=by
  rw[BitVec.toNat_and];have g:(BitVec.ofInt 64 (a:Int)).toNat=a:=by rw[BitVec.toNat_ofInt];omega
  have h:(BitVec.ofInt 64 (4294967295:Int)).toNat=2^32-1:=by decide
  rw[g,h,Nat.and_two_pow_sub_one_eq_mod,Nat.mod_eq_of_lt d]
 rw[f];congr 2;show(a:Int)%_=a;rw[ap_ (by omega)];show(a:Int)<(2:Int)^64;omega
theorem Af8(b c:W_)(a:Nat)(e:a<4294967296):Cu pr .shr 254 b c (U a) (U 32)=Y (U 0):=by have d:Cu pr .shr 254 b c (U a) (U 32)=Y (U ((a:Int).fdiv (2^32))):=J;rw[d];congr 2;have:(a:Int).fdiv (2^32)=(a:Int)/2^32:=Int.fdiv_eq_ediv_of_nonneg _ (by decide);rw[this];omega
theorem Aqe(a:Int)(b:0≤a)(c:a<2^63):f_ .u64 a=a:=by show a%_=a;rw[ap_ b];show a<(2:Int)^64;omega
theorem Atq(c:Nat)(d:c<4294967296):Pure 78 [U 1,U c] (.tuple #[U 0,U c]):=fun q=>by
 have r:f_ .u64 (0:Int)=0:=J;have e:f_ .u64 (c:Int)=c:=Aqe _ (by omega) (by omega);have f:f_ .u64 (1*(c:Int))=c:=by rw[Int.one_mul];exact e
 have g:f_ .u64 (1*0:Int)=0:=J;have h:f_ .u64 (0*(c:Int))=0:=by rw[Int.zero_mul];rfl
 have i:f_ .u64 (0*(0:Int))=0:=J;have j:f_ .u64 (0+0:Int)=0:=J;have k:∀a b,Cu pr .and 254 a b (U 1) (U 4294967295)=Y (U 1):=fun a b=>Akj a b 1 (by decide);have l:∀a b,Cu pr .and 254 a b (U 0) (U 4294967295)=Y (U 0):=fun a b=>Akj a b 0 (by decide);have m:∀a b,Cu pr .and 254 a b (U c) (U 4294967295)=Y (U c):=fun a b=>Akj a b c d;have n:∀a b,Cu pr .shr 254 a b (U 1) (U 32)=Y (U 0):=fun a b=>Af8 a b 1 (by decide);have o:∀a b,Cu pr .shr 254 a b (U 0) (U 32)=Y (U 0):=fun a b=>Af8 a b 0 (by decide);have p:∀a b,Cu pr .shr 254 a b (U c) (U 32)=Y (U 0):=fun a b=>Af8 a b c d;refine eF Tryz.func78 ?_;simp only[go_sem,V];refine di Tryz.func157 J J J ?_;simp only[go_sem,V,k,l,m,n,o,p,f,g,h,i,j]
theorem Ab4{b:Nat}(p:Wh f)(q:f.get b=Y (.cells [I (-1)]))(c:Nat)(ad:c<1000000):AR 38 [.slice (Y ⟨b,0,W⟩) 1 1,I c] f (fun j i=>j=.slice (Y ⟨f.n,0,W⟩) c 1∧i.get f.n=Y (.cells ((List.replicate c (-1:Int)).map fun d=>I d))∧Ext f i∧f.n<i.n):=by
 have y:=p _ _ q;refine eF Tryz.func38 ?_;have i:decide ((c:Int)<0)=false:=Gv;have K:f_ .u64 ((1:Nat):Int)=1:=J;have ae:f_ .u64 (1:Int)=1:=J;have L:f_ .u64 (c:Int)=c:=Aqe _ (by omega) (by omega);simp only[go_sem,V,i,K,L];refine Aa (Atq c (by omega) f) ?_;rintro _ af _ ⟨rfl,r⟩;have r:=r.symm;subst r;have N:decide ((0:Int)<0)=false:=J;have P:decide ((9223372036854775807:Int)<(c:Int))=false:=Gv;have a0:f_ .i64 (c:Int)=c:=by rw[Ap]<;>omega
 have a1:P_ c 1000000=true:=Eg;simp only[go_sem,V,N,P,a0,a1];have ag:DZ [I 0] c=(List.replicate c (0:Int)).map fun d=>I d:=by rw[J9];simp
 have y:=p _ _ q;cases c with
 |zero=>
  have s:Nat.min 1 0=0:=J;have a:decide ((0:Int)<((0:Nat):Int))=false:=J;rw[s];simp only[go_sem];refine Cq ?_;simp only[go_sem,V,a];exact⟨J,fun t g=>by simp only[go_sem,g]⟩
 |succ c=>
  have s:Nat.min 1 (c+1)=1:=au_ (by omega);have a2:cpV (f.new (.cells (DZ [I 0] (c+1)))) 1 (Y 1) (Y ⟨f.n,0,W⟩) (.slice (Y ⟨b,0,W⟩) 1 1)=Y (.int .i64 ((1:Nat):Int),(f.new (.cells (DZ [I 0] (c+1)))).put f.n (.cells (I (-1)::DZ [I 0] c))):=
   Yg (m:=1) (part:=[I (-1)]) (by omega) (b_ _) (ls:=[I (-1)]) (by simp only[go_sem,y];exact q) J (ld:=DZ [I 0] (c+1)) (by simp only[go_sem]) (by simp only[go_sem]) J
  rw[s,a2];simp only[go_sem];refine AG (fun(a:Nat) u e=>1≤a∧a≤c+1∧e.n=f.n+1∧Wh e∧Ext f e∧e.get f.n=Y (.cells ((List.replicate a (-1:Int)++List.replicate (c+1-a) 0).map fun d=>I d))∧u.at 7=.slice (Y ⟨f.n,0,W⟩) (c+1) 1∧u.at 8=I a) (fun a=>c+1-a) ?_ 1 ?_
  ·rintro a u e ⟨ah,v,a3,z,A,w,l,x⟩ a4
   cases o:decide ((a:Int)<((c+1:Nat):Int))with
   |false=>
    have F:a=c+1:=by have:=Adh o;omega
    subst F;simp only[go_sem,V,l,x,o];refine⟨?_,A,by omega⟩;rw[w,Nat.sub_self];simp
   |true=>
    have F:a<c+1:=by have:=Acw o;omega
    have ai:a≤c+1:=v;have a5:JV (Y ⟨f.n,0,W⟩) (c+1) 1 (Y 1) (Y a) (Y (c+1)) (Y (c+1))=Y (.slice (Y ⟨f.n,a,W⟩) (c+1-a) 1):=by rw[Es v (b_ _) (b_ _)];simp
    have a6:JV (Y ⟨f.n,0,W⟩) (c+1) 1 (Y 1) (Y 0) (Y a) (Y (c+1))=Y (.slice (Y ⟨f.n,0,W⟩) a 1):=by rw[Es (m_ _) v (b_ _)];simp
    have a7:Nat.min a (c+1-a)=min a (c+1-a):=J;have a8:sub? ((List.replicate a (-1:Int)++List.replicate (c+1-a) 0).map fun d=>I d) 0 (min a (c+1-a)*1)=Y ((List.replicate (min a (c+1-a)) (-1:Int)).map fun d=>I d):=by rw[E7 (by simp;omega)];congr 1;rw[af_,←ay_,Nat.mul_one,F_ (by simp;omega),List.take_replicate];congr 2;omega
    have a9:spl? ((List.replicate a (-1:Int)++List.replicate (c+1-a) 0).map fun d=>I d) a ((List.replicate (min a (c+1-a)) (-1:Int)).map fun d=>I d)=Y ((List.replicate (a+min a (c+1-a)) (-1:Int)++List.replicate (c+1-(a+min a (c+1-a))) 0).map fun d=>I d):=by rw[Hj (by simp;omega)];congr 1;unfold A5;rw[←ay_,←List.map_drop,←J_,←J_];congr 1;rw[F_ (by simp),s_ (by simp),D_,H_,List.drop_append,List.drop_of_length_le (by simp),T_,H_,List.drop_replicate,←ab_,List.replicate_append_replicate];congr 2;omega
    have aa:By ((List.replicate (min a (c+1-a)) (-1:Int)).map fun d=>I d)=true:=by rw[Di,List.all_map];exact aq_.2 fun _ _=>rfl
    have ab:=Yg (h:=e) (n:=min a (c+1-a)) (m:=a) (k:=1) (db:=f.n) (dp:=a) (sb:=f.n) (so:=0) (by omega) (by omega) w a8 w a9 aa;have ac:f_ .i64 ((a:Int)+((min a (c+1-a):Nat):Int))=((a+min a (c+1-a):Nat):Int):=by rw[Ap]<;>omega
    simp only[go_sem,V,l,x,o];refine AM z 0x10030000000 ?_;have aj:∀j,Av true (CF e (Y j)) W=Y (.val j e):=fun _=>rfl;simp only[go_sem,V,l,x,a5,a6,am_,a7,ab,ac];refine a4 (a+min a (c+1-a)) _ _ ⟨by omega,by omega,a3,Ar z (by omega) _,fun t g=>?_,Ai _ _,?_,?_⟩ (by omega)
    ·have:=AF (AE g)
     rw[Ab _ (Ag this)];exact A t g
    ·simp only[go_sem,V,l]
    simp only[go_sem]
  refine⟨b_ _,by omega,by simp only[go_sem],Ar (Am p _) (by simp only[go_sem]) _,fun t g=>by simp only[go_sem,g],?_,?_,?_⟩<;>simp only[go_sem,V]
  rw[J9];simp
def DH(d:AH)(b:e_)(a:List Int):Prop:=(a=[]∧b=.slice W 0 0)∨(∃c,b=.slice (Y ⟨c,0,W⟩) a.length 1∧d.get c=Y (.cells (a.map fun e=>I e)))
structure PrA(h:AH)(n:Nat)(tv sv gv zv:e_)(s:Ay):Prop where
 t:DH h tv s.types
 sl:DH h sv s.Ac
 g:DH h gv s.fns
 z:DH h zv s.size
 len:s.types.length=n∧s.Ac.length=n∧s.fns.length=n
def Xx:e_:=.agg #[.slice W 0 0,.slice W 0 0,.slice W 0 0,.slice W 0 0,.slice W 0 0,.slice W 0 0]
def CkV(g:AH)(h:Nat)(i j:e_)(a:Ay)(b:e_):Prop:=
 (a.e≠0∧b=.tuple #[Xx,I a.pos,I a.e])∨(a.e=0∧∃c d e f,PrA g h c d e f a∧b=.tuple #[.agg #[i,j,c,d,e,f],I 0,I 0])
theorem Af4(e:List Fn)(d:Nat)(a:Fd)(c:Nat)(b:Ay):(VQ e d a c b).size.length=b.size.length+1:=by
 have f:=Kb ((c+a.body.sz:Nat):Int) a.params {b with fn:=(d:Int),vars:=[],sz:=0};unfold VQ;simp only[a_,Z,M];congr 1;cases(E0 ((c+a.body.sz:Nat):Int) a.params {b with fn:=(d:Int),vars:=[],sz:=0}).e==0 with
 |true=>
  have g:Ma a.body.sz (E0 ((c+a.body.sz:Nat):Int) a.params {b with fn:=(d:Int),vars:=[],sz:=0}) ((E0 ((c+a.body.sz:Nat):Int) a.params {b with fn:=(d:Int),vars:=[],sz:=0}).CN (c+a.body.sz) (fun b=>a.body.ck e c b)):=FK fun b=>a.body.Dw e c b;simp only[Aa9];rw[g.2.2.2.2.2,f.2.2.2.2.2]
 |false=>simp only[Acf];rw[f.2.2.2.2.2]
theorem Pu:∀(c:List Fn) (d:List H) (b:Bool) (a:Ay),(DP c d b a).size=a.size
 |[],_,b,a=>(BA a b 44 0).2.2.2
 |f::c,d,b,a=>by rw[DP,Pu c];exact(BA ..).2.2.2
theorem V5{a:List Fd}(F:Wh f)(ae:D6 a)(aq:Fx f v (Az a 0))(a2:Mb f w (AK a 0)):
  AR 12 [.agg #[v,w]] f (fun d u=>CkV u (Az a 0).length v w (Aw a) d∧Ext f u):=by
 obtain⟨m,n,af⟩:=a2.slice;obtain⟨j,k,aV⟩:∃j k,v=.slice j (Az a 0).length k:=by obtain⟨e,g,a3,d,ag⟩:=aq;obtain⟨j,k,s⟩:=a3.slice;refine⟨j,k,?_⟩;rw[s,d.len,←ag,D_]
 have ag:A2 (Az a 0) 0 (Az a 0):=⟨[],[],by simp,J⟩;have bG:=JR a 0;have bH:a.length≤6:=ae.2.1;have bI:(Az a 0).length≤300:=ae.2.2;have aW:P_ (Az a 0).length 1000000=true:=Eg;have aX:Aw a=HP (AK a 0) 0 a 0 (DP (AK a 0) [] false (ck0 (Az a 0).length)):=J;refine eF Tryz.func12 ?_;subst aV af;generalize a3:(Az a 0).length=d at*
 simp only[go_sem,V];have ah:=(F.new (.cells [.slice j d k,.slice m (AK a 0).length n])).new (.cells [O3,O3,O3,O3,O3,O3]);unfold O3 at ah;refine AM ah 0x1016008805b160680216015 ?_;have aY:HV (IA 4) (DZ [I 0] d) (DZ [I 0] d)=true:=by rw[J9];exact Ur _ fun F a4=>by rw[List.eq_of_mem_replicate a4];simp only[go_sem]
 simp only[go_sem,V,aW,aY];have ar:Wh (((((f.new (.cells [.slice j d k,.slice m (AK a 0).length n])).new (.cells [.slice W 0 0,.slice W 0 0,.slice W 0 0,.slice W 0 0,.slice W 0 0,.slice W 0 0])).new (.cells (DZ [I 0] d))).new (.cells [I (-1)])).new (.cells (DZ [I 0] d))):=Am (Am (Am ah _) _) _;have aZ:Ext f (((((f.new (.cells [.slice j d k,.slice m (AK a 0).length n])).new (.cells [.slice W 0 0,.slice W 0 0,.slice W 0 0,.slice W 0 0,.slice W 0 0,.slice W 0 0])).new (.cells (DZ [I 0] d))).new (.cells [I (-1)])).new (.cells (DZ [I 0] d))):=fun q o=>by simp only[go_sem,o]
 refine Aj (Ok.wf ar (Ab4 (b:=f.n+3) ar (by simp only[go_sem,V]) d (by omega))) ?_;rintro bJ i b0 ⟨b1,rfl,b2,N,b3⟩;have bK:f.n+5≤i.n:=by simpa only[go_sem]using b0
 have bL:f.n+5<i.n:=by simpa only[go_sem]using b3
 have b4:i.get (f.n+5)=Y (.cells ((List.replicate d (-1:Int)).map fun h=>I h)):=by simpa only[go_sem]using b2
 have au:i.get f.n=Y (.cells [.slice j d k,.slice m (AK a 0).length n]):=(N _ (by simp only[go_sem]<;>omega)).trans (by simp only[go_sem]);have b5:i.get (f.n+1)=Y (.cells [.slice W 0 0,.slice W 0 0,.slice W 0 0,.slice W 0 0,.slice W 0 0,.slice W 0 0]):=(N _ (by simp only[go_sem]<;>omega)).trans (by simp only[go_sem,V]);have av:i.get (f.n+2)=Y (.cells (DZ [I 0] d)):=(N _ (by simp only[go_sem]<;>omega)).trans (by simp only[go_sem,V]);have aw:i.get (f.n+4)=Y (.cells (DZ [I 0] d)):=(N _ (by simp only[go_sem]<;>omega)).trans (by simp only[go_sem]);have b6:f.n<i.n:=by omega
 simp only[go_sem,V,au,av,aw,b6];have b7:Ext f i:=aZ.trans (by simp only[go_sem];omega) N
 let e:Lc:=⟨i.n,f.n+2,f.n+5,f.n+4,d⟩
 have ax:e.cb=i.n:=J;have ay:e.tb=f.n+2:=J;have az:e.sb=f.n+5:=J;have aA:e.fb=f.n+4:=J;have b8:e.m=d:=J;have ai:e.Ok:=⟨Ag,Ag,Ag,Ag,Ag,Ag⟩;have aB:DZ [I 0] d=(List.replicate d (0:Int)).map fun h=>I h:=by rw[J9];simp
 have b9:=b1.new (.cells [I 0,I 0,.slice j d k,.slice m (AK a 0).length n,.slice (Y ⟨f.n+2,0,W⟩) d 1,.slice (Y ⟨f.n+5,0,W⟩) d 1,.slice (Y ⟨f.n+4,0,W⟩) d 1,.slice W 0 0,I 0,.slice W 0 0,I 0]);have ba:Ayp e (.slice j d k) (.slice m (AK a 0).length n) (ck0 d) [e.cb,e.tb,e.sb,e.fb] (i.new (.cells [I 0,I 0,.slice j d k,.slice m (AK a 0).length n,.slice (Y ⟨f.n+2,0,W⟩) d 1,.slice (Y ⟨f.n+5,0,W⟩) d 1,.slice (Y ⟨f.n+4,0,W⟩) d 1,.slice W 0 0,I 0,.slice W 0 0,I 0])):=by
  refine⟨.slice W 0 0,.slice W 0 0,[],[],J,?_,?_,?_,?_,.inl ⟨J,J,J⟩,.inl ⟨J,J,J⟩,(fun q o=>by cases o),(fun q o=>by cases o),(fun q o=>by cases o),?_⟩
  ·rw[ax,Ae]
   simp only[AJ,ck0,H_,ay,az,aA]
  ·rw[ay,An _ Ag,av,aB];rfl
  ·rw[az,An _ Ag,b4];rfl
  ·rw[aA,An _ Ag,aw,aB];rfl
  refine⟨?_,?_,?_⟩<;>simp only[ck0,H_,b8]
 have bb:Ext f (i.new (.cells [I 0,I 0,.slice j d k,.slice m (AK a 0).length n,.slice (Y ⟨f.n+2,0,W⟩) d 1,.slice (Y ⟨f.n+5,0,W⟩) d 1,.slice (Y ⟨f.n+4,0,W⟩) d 1,.slice W 0 0,I 0,.slice W 0 0,I 0])):=b7.trans (by omega) (Ext.new i _);have bc:Hr (BB e (.slice j d k) (.slice m (AK a 0).length n)) f (i.new (.cells [I 0,I 0,.slice j d k,.slice m (AK a 0).length n,.slice (Y ⟨f.n+2,0,W⟩) d 1,.slice (Y ⟨f.n+5,0,W⟩) d 1,.slice (Y ⟨f.n+4,0,W⟩) d 1,.slice W 0 0,I 0,.slice W 0 0,I 0])) [e.cb,e.tb,e.sb,e.fb] (i.new (.cells [I 0,I 0,.slice j d k,.slice m (AK a 0).length n,.slice (Y ⟨f.n+2,0,W⟩) d 1,.slice (Y ⟨f.n+5,0,W⟩) d 1,.slice (Y ⟨f.n+4,0,W⟩) d 1,.slice W 0 0,I 0,.slice W 0 0,I 0])) [e.cb,e.tb,e.sb,e.fb] (ck0 d):=by refine⟨b9,ba,Kp.refl _ _,b_ _,fun q o=>?_,bb,by simp only[go_sem];omega⟩;simp only[u_,O_,or_false]at o;omega
 have aC:∀q,q<f.n+2→q∉[e.cb,e.tb,e.sb,e.fb]:=fun q o bd=>by
  simp only[u_,O_,or_false]at bd;omega
 have be:Gf (i.new (.cells [I 0,I 0,.slice j d k,.slice m (AK a 0).length n,.slice (Y ⟨f.n+2,0,W⟩) d 1,.slice (Y ⟨f.n+5,0,W⟩) d 1,.slice (Y ⟨f.n+4,0,W⟩) d 1,.slice W 0 0,I 0,.slice W 0 0,I 0])) [e.cb,e.tb,e.sb,e.fb] f.n:=⟨by simp only[go_sem];omega,aC _ (by omega)⟩;have bf:Gf (i.new (.cells [I 0,I 0,.slice j d k,.slice m (AK a 0).length n,.slice (Y ⟨f.n+2,0,W⟩) d 1,.slice (Y ⟨f.n+5,0,W⟩) d 1,.slice (Y ⟨f.n+4,0,W⟩) d 1,.slice W 0 0,I 0,.slice W 0 0,I 0])) [e.cb,e.tb,e.sb,e.fb] (f.n+1):=⟨by simp only[go_sem];omega,aC _ (by omega)⟩;have bg:(i.new (.cells [I 0,I 0,.slice j d k,.slice m (AK a 0).length n,.slice (Y ⟨f.n+2,0,W⟩) d 1,.slice (Y ⟨f.n+5,0,W⟩) d 1,.slice (Y ⟨f.n+4,0,W⟩) d 1,.slice W 0 0,I 0,.slice W 0 0,I 0])).get f.n=_:=(An _ Ag).trans au;have bh:(i.new (.cells [I 0,I 0,.slice j d k,.slice m (AK a 0).length n,.slice (Y ⟨f.n+2,0,W⟩) d 1,.slice (Y ⟨f.n+5,0,W⟩) d 1,.slice (Y ⟨f.n+4,0,W⟩) d 1,.slice W 0 0,I 0,.slice W 0 0,I 0])).get (f.n+1)=_:=(An _ Ag).trans b5;generalize (i.new (.cells [I 0,I 0,.slice j d k,.slice m (AK a 0).length n,.slice (Y ⟨f.n+2,0,W⟩) d 1,.slice (Y ⟨f.n+5,0,W⟩) d 1,.slice (Y ⟨f.n+4,0,W⟩) d 1,.slice W 0 0,I 0,.slice W 0 0,I 0]))=bi at*
 refine Aa (Adk ai F a2 (by omega) bc) ?_;rintro _ aD aE ⟨rfl,aF,bj,aG⟩;obtain⟨bM,aH⟩:=be.Ak aE aG;obtain⟨bk,aI⟩:=bf.Ak aE aG;rw[bg]at aH;rw[bh]at aI;have bl:(DP (AK a 0) [] false (ck0 d)).size=[]:=Pu ..;simp only[go_sem,V,aH];refine AG (fun(l:Nat×Nat×Ay×List Nat) s aj=>Hr (BB e (.slice j d k) (.slice m (AK a 0).length n)) f bi [e.cb,e.tb,e.sb,e.fb] aj l.2.2.2 l.2.2.1∧Kp aD aj aF l.2.2.2∧aD.n≤aj.n∧l.1≤a.length∧HP (AK a 0) l.1 (a.drop l.1) l.2.1 l.2.2.1=Aw a∧A2 (Az a 0) l.2.1 (Az (a.drop l.1) l.2.1)∧(AK a 0).drop l.1=AK (a.drop l.1) l.2.1∧l.2.2.1.size.length≤l.1∧
  s.at 2=AA (f.n+1)∧s.at 6=AA i.n∧s.at 28=.slice m (AK a 0).length n∧s.at 29=I (AK a 0).length∧s.at 30=I l.1) (fun l=>a.length-l.1) ?_ (0,0,DP (AK a 0) [] false (ck0 d),aF) ?_
 ·rintro⟨h,p,t,a5⟩ s P ⟨r,a6,ak,bm,x,a7,a8,bn,a9,z,aa,K,L⟩ al
  dsimp only at r a6 bm x a7 a8 bn L al;obtain⟨bo,am⟩:=bk.Ak ak a6;rw[aI]at am;obtain⟨bN,bO,bP,bQ,bp,y,bq,br,bs,aJ,bR,bS,bT,bU,bt⟩:=r.r;have an:=r.w _ _ y;unfold AJ at y;rw[ax]at y an;by_cases ab:h<a.length
  ·have a0:decide ((h:Int)<((AK a 0).length:Int))=true:=Gu
   have ao:=g_ ab;have aK:a.drop h=a[h]::a.drop (h+1):=j_ ab;generalize a[h]=g at ao aK;rw[aK]at x a7 a8;have a4:f_ .i64 ((h:Int)+1)=((h+1:Nat):Int):=by rw[Ap]<;>omega
   have bu:(AK a 0)[h]? =Y ⟨g.name,0,g.params,g.ret,((p+g.body.sz:Nat):Int)⟩:=by have ac:((AK a 0).drop h)[0]? =(AK (g::a.drop (h+1)) p)[0]? :=Akv (fun A:List Fn=>A[0]?) a8;rw[L_,Nat.add_zero]at ac;exact ac
   obtain⟨bV,bW,aL,aM,aN,af,aO,bX,aP,aQ,bv⟩:=a2.node F r.x r.m bu;injection af with A _ a1
   subst A a1;have bw:=ae.1 g (z_ ao);have bY:g.body.sz+1≤d:=by have u:g.body.sz+1≤(a.map fun g=>g.body.sz+1).sum:=XQ (List.mem_map.2 ⟨g,z_ ao,J⟩);rw[←IP a 0,a3]at u;exact u
   have bx:A2 (Az a 0) p (g.body.fl p++[nd 18 0 [] (g.body.AB p)]):=a7.left;have bz:=AAl ai F aq (by rw[a3]) a2 (by omega) (by show d<80000;omega) g.body p bx;have aR:A2 (Az a 0) (p+(g.body.sz+1)) (Az (a.drop (h+1)) (p+(g.body.sz+1))):=by have:=a7.right;simp only[a_,g.body.Af,Z,M]at this;exact this
   have aS:(AK a 0).drop (h+1)=AK (a.drop (h+1)) (p+(g.body.sz+1)):=by rw[←ae_,a8];rfl
   have aT:=(r.new (.cells [S [],I 0,.slice W 0 0,I 0,I 0])).put (c:=P.n) (r.free (b_ _) (by simp only[go_sem])) r.n r.m (.cells [S g.name,I aL,.slice aM g.params.length aN,I g.ret,I ((p+g.body.sz:Nat):Int)]);have aU:Kp P ((P.new (.cells [S [],I 0,.slice W 0 0,I 0,I 0])).put P.n (.cells [S g.name,I aL,.slice aM g.params.length aN,I g.ret,I ((p+g.body.sz:Nat):Int)])) a5 a5:=fun q o bA=>⟨by simp only[go_sem,o],bA⟩;cases u:(t.e==0)with
   |true=>
    simp only[go_sem,V,z,aa,K,L,a0,aP,aO,aQ,y,an,u];refine Aa (Aue ai F h (by omega) g.name g.ret g.params p g.body bz (by omega) (by have:=bw.2.2.1;omega) (by
     rcases bv with l|⟨ap,A,a1,_,ad⟩
     ·exact .inl l
     exact .inr ⟨ap,A,a1,ad⟩) (by omega) aT) ?_
    rintro _ bB bC ⟨rfl,bD,bE,bF⟩;have bZ:P.n+1≤bB.n:=by simpa only[go_sem]using bC
    simp only[go_sem,V,L,a4];have ap:HP (AK a 0) (h+1) (a.drop (h+1)) (p+(g.body.sz+1)) (VQ (AK a 0) h g p t)=Aw a:=by have:=x;simp only[HP,u,Aa9]at this;exact this
    refine al (h+1,p+(g.body.sz+1),VQ (AK a 0) h g p t,bD) _ _ ⟨bE,(a6.trans ak aU).trans (by simp only[go_sem];omega) bF,by omega,ab,ap,aR,aS,by rw[Af4];omega,?_,?_,?_,?_,?_⟩ (by show a.length-(h+1)<a.length-h;omega)
    ·simp only[go_sem,V,a9]
    ·simp only[go_sem,V,z]
    ·simp only[go_sem,V,aa]
    ·simp only[go_sem,V,K]
    simp only[go_sem]
   |false=>
    simp only[go_sem,V,z,aa,K,L,a0,aP,aO,aQ,y,an,u,a4];have ap:HP (AK a 0) (h+1) (a.drop (h+1)) (p+(g.body.sz+1)) t=Aw a:=by have:=x;simp only[HP,u,Acf]at this;exact this
    refine al (h+1,p+(g.body.sz+1),t,a5) _ _ ⟨aT,a6.trans ak aU,by simp only[go_sem];omega,ab,ap,aR,aS,by show t.size.length≤h+1;omega,?_,?_,?_,?_,?_⟩ (by show a.length-(h+1)<a.length-h;omega)
    ·simp only[go_sem,V,a9]
    ·simp only[go_sem,V,z]
    ·simp only[go_sem,V,aa]
    ·simp only[go_sem,V,K]
    simp only[go_sem]
  have a4:h=a.length:=by omega
  subst a4;have a0:decide (((a.length:Nat):Int)<((AK a 0).length:Int))=false:=Gv;rw[w_]at x;have x:t=Aw a:=x;rw[←x];cases u:(t.e !=0)with
  |true=>
   have g:t.e≠0:=by simpa using u
   have ao:(i.n==f.n+1)=false:=Ag;simp only[go_sem,V,z,K,L,a0,y,u];refine AM r.w 0x10031500001500000 ?_;simp only[go_sem,V,a9,z,y,am,ao];exact⟨.inl ⟨g,J⟩,fun q o=>(Ab _ Ag).trans (r.x q o)⟩
  |false=>
   have ac:t.e=0:=by simpa using u
   simp only[go_sem,V,a9,z,K,L,a0,y,u,am,aJ.one];have g:∀q∈a5,(q==f.n+1)=false:=fun q o=>Ag fun s=>bo.2 (s▸o);rw[bp]at g;refine⟨.inr ⟨ac,_,_,_,_,⟨.inr ⟨e.tb,J,?_⟩,.inr ⟨e.sb,J,?_⟩,.inr ⟨e.fb,J,?_⟩,?_,bt⟩,J⟩,fun q o=>(Ab _ Ag).trans (r.x q o)⟩
   ·exact(Ab _ (g _ (by simp))).trans bq
   ·exact(Ab _ (g _ (by simp))).trans br
   ·exact(Ab _ (g _ (by simp))).trans bs
   rcases aJ with⟨A,a1,ad⟩|⟨ao,A,ad,ap⟩
   ·exact .inl ⟨A,a1⟩
   exact .inr ⟨ao,A,(Ab _ (g _ (by rw[ad];simp))).trans ap⟩
 refine⟨bj,Kp.refl _ _,b_ _,m_ _,aX.symm,ag,J,?_,?_,?_,?_,?_,?_⟩
 ·rw[bl];exact b_ _
 all_goals simp only[go_sem,V]
 rfl
end
end Go.Proofs.YtebhflkemdlbkaaGreatDoor
