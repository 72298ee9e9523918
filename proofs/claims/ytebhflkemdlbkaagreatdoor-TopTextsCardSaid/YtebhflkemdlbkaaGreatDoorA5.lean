/-
  A part of the proof of TopTexts. No conditions.
-/
import Derived.Test.YtebhflkemdlbkaaGreatDoorA4
import Derived.Test.YtebhflkemdlbkaaGreatDoorA1
set_option linter.unusedVariables false
set_option linter.unusedSimpArgs false
open Bool renaming or_eq_false_iff->g_,and_eq_true->i_,and_eq_false_iff->x_,and_false->A_
open Go renaming Value->C_
open Go.IntKind renaming wrap->L_
open Int renaming le_refl->F_
open List renaming append_assoc->V,cons_ne_nil->T,length_append->a_,cons_append->b_,singleton_append->c_,length_map->d_,mem_cons_of_mem->h_,length->j_,length_cons->k_,mem_cons_self->l_,length_take->m_,mem_cons->n_,append_nil->o_,take_of_length_le->p_,all_cons->t_,not_mem_nil->u_,length_singleton->w_,map_append->z_,mem_singleton->B_,mem_append->D_,nil_append->E_,take_left->G_,take_succ_cons->I_,drop_succ_cons->J_,drop_zero->P_,drop_drop->Q_,map_cons->S_,any_cons->T_
open List.cons renaming injEq->O_
open Nat renaming le_refl->W,reduceBEq->M,ble_eq_true_of_le->f_,zero_add->q_,lt_succ_self->r_,zero_le->s_,blt->v_,le_trans->y_,le_of_ble_eq_true->H_,succ_pos->K_,le_max_right->N_,add_assoc->R_
open Option renaming some->Y,none->e_
open UInt8 renaming ofNat_toNat->M_
namespace Go.Proofs.YtebhflkemdlbkaaGreatDoor
noncomputable section
variable{a b c d:Nat}{f g h:AH}{v w:Value}{s t:List UInt8}{l m:List Value}{u:TypeId}{x y:Int}{p:List Nat}{q r:List Int}{e:Env}{o n:Option Addr}
theorem Lm(a:UInt8→Bool):∀b:H,(b.take (runN a b)).all a=true
 |[]=>rfl
 |c::d=>by
  unfold runN;have:=Lm a d;cases e:a c with
  |true=>simp only[Aa9,I_,t_,e,this];rfl
  |false=>rfl
theorem H9{a:UInt8→Bool}{b:UInt8}(c:a b=true):runN a (b::s)=runN a s+1:=by rw[show runN a (b::s)=bif a b then runN a s+1 else 0 from rfl,c];rfl
theorem Aum{b:UInt8}(a:A3 b=true):EI b=true:=by unfold A3 at a;unfold EI;rw[i_]at a⊢;have c:=Acw a.1;have d:=Acw a.2;exact⟨Eg,Eg⟩
theorem Aa0{b d:UInt8→Bool}(e:∀c,b c=true→d c=true):∀{a:H},a.all b=true→a.all d=true
 |[],_=>rfl
 |c::a,f=>by simp_all
theorem Ado{b:UInt8}(a:(A8 (b::s)).2.2=0)(i:Int):Sh {(A8 (b::s)).1 with pos:=i}∧1≤(A8 (b::s)).2.1.toNat:=by
 unfold A8 at a⊢;simp only at a⊢;cases f:A3 b with
 |true=>
  rw[f,Aa9]at a;rw[Aa9];unfold Dt at a⊢;simp only at a⊢;cases c:decide (19<runN A3 (b::s))|| !v_ (CG ((b::s).take (runN A3 (b::s))) 0) 9223372036854775808 with
  |true=>rw[c,Aa9]at a;cases a
  |false=>
   rw[Acf];rw[g_]at c;refine⟨⟨fun _=>⟨?_,?_⟩,fun a=>(by cases a),fun a=>(by cases a)⟩,?_⟩
   ·unfold HR
    have d:KQ ((b::s).take (runN A3 (b::s)))=true:=by unfold KQ;have:=Adh c.1;exact f_ (by rw[m_];omega)
    rw[Aa0 (fun _=>Aum) (Lm A3 (b::s)),d,H9 f];rfl
   ·simp_all
   rw[H9 f];show 1≤(((runN A3 s+1:Nat):Int)).toNat;omega
 |false=>
 rw[f,Acf]at a;rw[Acf];cases c:Co b with
 |true=>
  rw[c,Aa9]at a;rw[Aa9];have g:A9 b=true:=by unfold A9;rw[c];rfl
  unfold Hu at a⊢;simp only at a⊢;cases d:HT ((b::s).take (runN A9 (b::s)))with
  |true=>
   refine⟨⟨fun a=>(by cases a),fun a=>(by cases a),fun a=>(by cases a)⟩,?_⟩;rw[Aa9,H9 g];show 1≤(((runN A9 s+1:Nat):Int)).toNat;omega
  |false=>
   rw[d,Acf]at a;rw[Acf];cases e:decide (8<runN A9 (b::s))with
   |true=>rw[e,Aa9]at a;cases a
   |false=>
    have h:=Adh e;refine⟨⟨fun a=>(by cases a),fun a=>(by cases a),fun _=>⟨⟨b,s.take (runN A9 s),?_,c⟩,Lm _ _,d,?_⟩⟩,?_⟩
    ·show(b::s).take (runN A9 (b::s))=_
     rw[H9 g,I_]
    ·show((b::s).take (runN A9 (b::s))).length≤8
     rw[m_];omega
    rw[Acf,H9 g];show 1≤(((runN A9 s+1:Nat):Int)).toNat;omega
 |false=>
 rw[c,Acf]at a;rw[Acf];cases d:(b.toNat:Int)==34 with
 |true=>
  rw[d,Aa9]at a;rw[Aa9];unfold Hg at a⊢;simp only[J_,P_]at a⊢;cases e:(b::s)[runN B8 s+1]? with
  |none=>rw[e]at a;cases a
  |some j=>
   rw[e]at a;simp only at a⊢;cases g:(j.toNat:Int) !=34 with
   |true=>rw[g,Aa9]at a;cases a
   |false=>
    rw[g,Acf]at a;rw[Acf];cases h:decide (12<runN B8 s)with
    |true=>rw[h,Aa9]at a;cases a
    |false=>
     have k:=Adh h;refine⟨⟨fun a=>(by cases a),fun _=>⟨Lm _ _,?_⟩,fun a=>(by cases a)⟩,?_⟩
     ·show(s.take (runN B8 s)).length≤12
      rw[m_];omega
     show 1≤((runN B8 s:Int)+2).toNat;omega
 |false=>
 rw[d,Acf]at a;rw[Acf];unfold FW at a⊢;cases e:decide (1<(b::s).length)&&CT ((b::s).take 2) HX with
 |true=>exact⟨⟨fun a=>(by cases a),fun a=>(by cases a),fun a=>(by cases a)⟩,Nat.le_succ 1⟩
 |false=>
  rw[e,Acf]at a;rw[Acf];simp only at a⊢;cases g:decide (0≤Ft b Ib 0)with
  |true=>exact⟨⟨fun a=>(by cases a),fun a=>(by cases a),fun a=>(by cases a)⟩,W 1⟩
  |false=>rw[g,Acf]at a;cases a
theorem NP(src:H):∀(k a:Nat) (b:List Tok),(∀m∈b,Sh m)→(Ga src k a b).2.2=0→TI (Ga src k a b).1∧(Ga src k a b).1.length≤b.length+(src.length-a)+1
 |0,a,b,_,h=>by cases h
 |k+1,a,b,g,h=>by
  unfold Ga at h⊢;cases i:src.drop a with
  |nil=>exact⟨⟨b,⟨0,[],a⟩,J,J,g⟩,by simp⟩
  |cons e j=>
   have r:a<src.length:=by
    rcases Nat.lt_or_ge a src.length with h|h
    ·exact h
    rw[List.drop_eq_nil_of_le h]at i;cases i
   rw[i]at h;simp only at h⊢;cases n:FL e with
   |true=>
    rw[n,Aa9]at h;rw[Aa9];obtain⟨c,l⟩:=NP src k (a+1) b g h;exact⟨c,by omega⟩
   |false=>
    rw[n,Acf]at h;rw[Acf];cases o:De (e::j) Eo with
    |true=>
     rw[o,Aa9]at h;rw[Aa9];obtain⟨c,l⟩:=NP src k _ b g h;exact⟨c,by omega⟩
    |false=>
     rw[o,Acf]at h;rw[Acf];cases f:(A8 (e::j)).2.2 !=0 with
     |true=>
      rw[f,Aa9]at h;simp only at h;rw[h]at f;cases f
     |false=>
      rw[f,Acf]at h;rw[Acf];have p:(A8 (e::j)).2.2=0:=by simp_all
      obtain⟨q,s⟩:=Ado p a;obtain⟨c,l⟩:=NP src k _ _ (fun m d=>by
       rcases D_.1 d with d|d
       ·simp_all
       rw[B_]at d;subst d;exact q) h
      rw[a_,w_]at l;exact⟨c,by omega⟩
theorem Ann{src:H}(a:(Dc src).2.2=0):TI (Dc src).1∧(Dc src).1.length≤601:=by
 unfold Dc at a⊢;cases b:decide (600<src.length)with
 |true=>rw[b,Aa9]at a;cases a
 |false=>
  rw[b,Acf]at a;rw[Acf];obtain⟨c,d⟩:=NP src _ _ _ (fun _ a=>by cases a) a;have:=Adh b;exact⟨c,by simp at d;omega⟩
theorem Z3(c:H):∀(b:List H) (a:Nat),IV c b a= -1∨((a:Int)≤IV c b a∧IV c b a<a+b.length)
 |[],_=>.inl J
 |x::b,a=>by
  unfold IV;cases(c==x)with
  |true=>simp only[Aa9,k_];omega
  |false=>
   have:=Z3 c b (a+1);simp only[Acf,k_];omega
theorem Y4{a:PN}(b:TI a.P.Ax):Gn 0 0 a (AS a).2∧(AS a).2.N=a.N∧((AS a).2.P.e=0→(AS a).2.P.Ax.length+1=a.P.Ax.length∧1≤(AS a).1∧(AS a).1≤4):=by
 unfold AS;cases f:a.P.kind 4&& !(typeOf a.P.next.text==0)with
 |true=>
  rw[i_]at f;obtain⟨g,h,_⟩:=GG f.1 (by decide);obtain⟨d,e,c,i,_⟩:=Hh b g h;refine⟨⟨d,fun _=>by rw[Aa9];show a.take.N.length+a.take.P.Ax.length≤_;rw[c];omega⟩,c,fun _=>⟨i,?_⟩⟩;have j:typeOf a.P.next.text≠0:=by simp_all
  have k:=Z3 a.P.next.text KL 0;have l:KL.length=4:=J;show 1≤typeOf a.P.next.text∧typeOf a.P.next.text≤4;unfold typeOf at j⊢;omega
 |false=>
  obtain⟨d,e,c⟩:=HD b (show(20:Int)≠0 by decide);exact⟨⟨d,fun b=>absurd b e⟩,c,fun b=>absurd b e⟩
theorem ON{c:PN}(o:c.P.Ax.length≤900):∀(f:Nat) (d:Bool) (a:PN) (b:List Pm),(cond d (a.P.Ax.length+2) 1)≤f→(d=true→b.length+a.P.Ax.length≤1000)→Gn 0 0 c a→a.N=c.N→(d=true→a.P.e=0)→(a.P.e=0→∀e∈b,KS e)→
  ∃j g,DT f d a b=Y (j,g)∧Gn 0 0 c g∧g.N=c.N∧(g.P.e=0→∀e∈j,KS e)
 |0,d,a,b,m,_,_,_,_,_=>by cases d<;>simp at m
 |f+1,false,a,b,_,_,k,n,_,p=>⟨b,a,J,k,n,p⟩
 |f+1,true,a,b,m,q,k,n,z,p=>by
  rw[Aa9]at m;have q:=q J;have a0:=z J;obtain⟨r,A,s⟩:=NN k.g.ti;obtain⟨c1,c2,c3⟩:=Y4 r.g.ti;have t:Gn 0 0 c (AS a.named).2:=(k.trans r (W _) (W _) (W _)).trans c1 (W _) (W _) (W _);have u:(AS a.named).2.N=c.N:=c2.trans (A.trans n);have v:(AS a.named).2.P.e=0→∀e∈b++[(a.P.name.1,(AS a.named).1)],KS e:=fun h e i=>by
   obtain⟨F,w,x⟩:=c3 h;obtain⟨K,y⟩:=s (c1.g.er h);rcases D_.1 i with i|i
   ·simp_all
   rw[B_]at i;subst i;exact⟨y,w,x⟩
  unfold DT;rw[Aa9,Bo Gu];show∃j g,DT f ((AS a.named).2.P.is [[44]]) (bif (AS a.named).2.P.is [[44]]then(AS a.named).2.take else(AS a.named).2) (b++[(a.P.name.1,(AS a.named).1)])=Y (j,g)∧_;cases l:(AS a.named).2.P.is [[44]]with
  |false=>exact ON o f false _ _ (by rw[Acf];omega) (fun h=>by cases h) t u (fun h=>by cases h) v
  |true=>
   obtain⟨L,N,P,a1⟩:=LI c1.g.ti l;obtain⟨F,w,x⟩:=c3 (Ca l).1;obtain⟨K,y⟩:=s (c1.g.er (Ca l).1);refine ON o f true (AS a.named).2.take _ ?_ (fun _=>?_) (t.trans L (W _) (W _) (W _)) (P.trans u) (fun _=>N) fun _=>v (Ca l).1
   ·rw[Aa9];omega
   simp only[a_,w_];omega
theorem Awf{a:PN}(c:TI a.P.Ax)(g:a.P.Ax.length≤900):∃d b,SE a=Y (d,b)∧Gn 0 0 a b∧b.N=a.N∧(b.P.e=0→∀c∈d,KS c):=by
 unfold SE;cases h:a.P.is [[41]]with
 |true=>
  obtain⟨f,j,i,k⟩:=LI c h;exact⟨[],_,J,f,i,fun _ _ e=>by cases e⟩
 |false=>
  have i:∃d b,DT 1000 (a.P.e==0) a []=Y (d,b)∧Gn 0 0 a b∧b.N=a.N∧(b.P.e=0→∀c∈d,KS c):=by
   cases f:a.P.e==0 with
   |false=>exact⟨[],a,J,Gn.refl c,J,fun _ _ e=>by cases e⟩
   |true=>exact ON g 1000 true a [] (by rw[Aa9];omega) (fun _=>by simp;omega) (Gn.refl c) J (fun _=>eq_of_beq f) fun _ _ e=>by cases e
  obtain⟨d,b,l,f,j,k⟩:=i;obtain⟨c1,c2,c3⟩:=EJ f.g.ti [41];exact⟨d,b.Ao [41],by simp_all,f.trans c1 (W _) (W _) (W _),c2.trans j,fun e=>k (c1.g.er e)⟩
section
variable{src:H}
theorem X1{a:PN}(h:Jm 1 (cS 1+1) a)(t:a.P.deep=0):∃f c,FH (EA src) src a=Y (f,c)∧Gx 1 (cS 1+1) a c∧(c.P.e=0→∃b:Fd,DN b.name∧(∀h∈b.params,KS h)∧0≤b.ret∧b.ret≤4∧b.body.A6∧b.body.dp+1≤16∧EO f=⟨b.name,0,b.params,b.ret,top a.N.length (b.body.sz+1)⟩∧
  c.N.map AU=a.N.map AU++(b.body.fl a.N.length++[nd 18 0 [] (b.body.AB a.N.length)])∧b.body.sz+2+c.P.Ax.length≤a.P.Ax.length):=by
 have ac:=h.l;obtain⟨u,K,L⟩:=EJ h.ti Gb;obtain⟨n,N,P⟩:=NN u.g.ti;obtain⟨c1,c2,c3⟩:=EJ n.g.ti [40];have v:Gn 0 0 a ((a.Ao Gb).named.Ao [40]):=(u.trans n (W _) (W _) (W _)).trans c1 (W _) (W _) (W _);have ad:=v.g.le;obtain⟨o,e,a0,k,a1,a2⟩:=Awf c1.g.ti (by omega);have w:Gn 0 0 a e:=v.trans k (W _) (W _) (W _);have x:e.N=a.N:=a1.trans (c2.trans (N.trans K));unfold FH;show∃f c,(SE ((a.Ao Gb).named.Ao [40])).bind _=Y (f,c)∧_;rw[a0];show∃f c,(bif e.P.is [[123]]then(EA src e).bind fun g=>Y ((⟨(a.Ao Gb).P.name.1,a.P.line src,o,0,g.1⟩:Fn),g.2)
  else(EA src (AS e).2).bind fun g=>Y ((⟨(a.Ao Gb).P.name.1,a.P.line src,o,(AS e).1,g.1⟩:Fn),g.2))=Y (f,c)∧_
 have y:∀(i:PN) (l:Int),Gn 0 0 a i→i.N=a.N→i.P.Ax.length≤(a.Ao Gb).P.Ax.length→(i.P.e=0→e.P.e=0∧0≤l∧l≤4)→∃f c,((EA src i).bind fun g=>Y ((⟨(a.Ao Gb).P.name.1,a.P.line src,o,l,g.1⟩:Fn),g.2))=Y (f,c)∧Gx 1 (cS 1+1) a c∧(c.P.e=0→∃b:Fd,DN b.name∧(∀h∈b.params,KS h)∧0≤b.ret∧b.ret≤4∧b.body.A6∧b.body.dp+1≤16∧EO f=⟨b.name,0,b.params,b.ret,top a.N.length (b.body.sz+1)⟩∧
   c.N.map AU=a.N.map AU++(b.body.fl a.N.length++[nd 18 0 [] (b.body.AB a.N.length)])∧b.body.sz+2+c.P.Ax.length≤a.P.Ax.length):=by
  intro i l m a3 ae a4;have z:=m.g.dp;have af:=h.on m (d0:=1) (d:=cS 1+1) (by omega) (by omega) (by omega);obtain⟨ag,c,a5,q,a6⟩:=Aj7 (src:=src) i (by simp_all) (by omega);rw[z,t]at q;refine⟨_,c,by rw[a5];rfl,m.g.trans m.n q (by omega) (by omega) (W _),fun j=>?_⟩;obtain⟨r,a7,p⟩:=a6 j;obtain⟨s,a8,a9⟩:=a4 (q.er j);have A:=p.n;have F:=p.x;have aa:=p.d;have ah:=p.l;have ai:=m.g.le;rw[a3]at A F;rw[z,t]at aa;have aj:=L (n.g.er (c1.g.er (k.g.er s)));have ab:=P (c1.g.er (k.g.er s));exact⟨⟨(a.Ao Gb).P.name.1,o,l,r⟩,ab.2,a2 s,a8,a9,a7,by show r.dp+1≤16;omega,by show Fn.mk _ _ _ _ _=_;rw[F],A,by show r.sz+2+_≤_;omega⟩
 have p:e.P.Ax.length≤(a.Ao Gb).P.Ax.length:=y_ k.g.le (y_ c1.g.le n.g.le);cases s:e.P.is [[123]]with
 |true=>exact y e 0 w x p fun j=>⟨j,F_ _,by decide⟩
 |false=>
  obtain⟨m,q,r⟩:=Y4 k.g.ti;exact y _ _ (w.trans m (W _) (W _) (W _)) (q.trans x) (y_ m.g.le p) fun j=>⟨m.g.er j,by omega,(r j).2.2⟩
def Axr(a:Fd):Prop:=DN a.name∧(∀b∈a.params,KS b)∧0≤a.ret∧a.ret≤4∧a.body.A6∧a.body.dp+1≤16
theorem KU:∀(c a:List Fd) (b:Nat),Az (c++a) b=Az c b++Az a (b+Kx c)
 |[],_,_=>rfl
 |f::d,a,b=>by simp only[b_,Az,Kx,KU d a,V,R_]
theorem PA:∀(c a:List Fd) (b:Nat),AK (c++a) b=AK c b++AK a (b+Kx c)
 |[],_,_=>rfl
 |f::d,a,b=>by simp only[b_,AK,Kx,PA d a,R_]
theorem Sv:∀(b a:List Fd),Kx (b++a)=Kx b+Kx a
 |[],_=>by simp[Kx]
 |f::c,a=>by simp only[b_,Kx,Sv c a];omega
theorem Aq6:∀(f:Nat) (a:PN) (e:List Fn),(a.P.e=0→a.P.Ax.length+2≤f)→1≤f→(a.P.e=0→e.length+a.P.Ax.length≤1000)→TI a.P.Ax→a.P.deep=0→a.P.Ax.length≤900→(a.P.e=0→∃b:List Fd,(∀g∈b,Axr g)∧a.N.map AU=Az b 0∧e.map EO=AK b 0∧Kx b+a.P.Ax.length≤900)→
  ∃G d,Pz (EA src) src f a e=Y (G,d)∧(d.P.e=0→∃b:List Fd,(∀g∈b,Axr g)∧d.N.map AU=Az b 0∧G.map EO=AK b 0)
 |0,_,_,_,c,_,_,_,_,_=>absurd c (by decide)
 |f+1,a,e,k,_,l,s,m,t,n=>by
  unfold Pz;cases o:(a.P.e==0)&& !(a.P.kind 0)with
  |false=>exact⟨e,a,J,fun c=>by obtain⟨b,h,i,j,_⟩:=n c;exact⟨b,h,i,j⟩⟩
  |true=>
   rw[i_]at o;have i:a.P.e=0:=eq_of_beq o.1;obtain⟨b,a1,p,u,a2⟩:=n i;have k:=k i;have l:=l i;have q:a.N.length=Kx b:=by have:=Akv j_ p;rw[d_,ES]at this;exact this
   have v:Jm 1 (cS 1+1) a:=⟨s,by omega,by omega,t,fun _=>by have:cS 1=340:=rfl;omega,fun c=>absurd i c⟩;obtain⟨g,d,w,j,x⟩:=X1 (src:=src) v m;rw[Aa9,Bo Gu,w];have y:d.P.e=0→d.P.Ax.length+1≤a.P.Ax.length:=fun c=>by omega
   have a3:=j.le;refine Aq6 f d (e++[g]) (fun c=>by omega) (by omega) (fun c=>by have:=y c;simp;omega) j.ti (j.dp.trans m) (by omega) fun c=>?_;obtain⟨r,z,A,F,K,L,N,P,a0,a4⟩:=x c;refine⟨b++[r],fun a5 h=>?_,?_,?_,?_⟩
   ·rcases D_.1 h with h|h
    ·simp_all
    rw[B_]at h;subst h;exact⟨z,A,F,K,L,N⟩
   ·rw[a0,p,KU,q,q_];simp[Az]
   ·rw[z_,u,PA,q_,←q]
    show _++[EO g]=_;rw[P];rfl
   rw[Sv];show Kx b+(r.body.sz+1+0)+_≤_;omega
theorem Ach(src:H):(∃h e,GO src=Y (.err h e)∧e≠0)∨∃f g a,GO src=Y (.tree f g)∧f.map AU=Az a 0∧g.map EO=AK a 0∧D6 a∧∀b∈a,b.body.dp+1≤16:=by
 unfold GO;cases a6:(Dc src).2.2 !=0 with
 |true=>exact .inl ⟨_,_,J,by simp_all⟩
 |false=>
  rw[Acf];have v:(Dc src).2.2=0:=by simp_all
  obtain⟨n,a7⟩:=Ann v;have w:(!(Dc src).1.isEmpty)=true:=by obtain⟨c,d,e,_⟩:=n;rw[e];cases c<;>rfl
  rw[Bo w];obtain⟨G,c,x,y⟩:=Aq6 (src:=src) 1000 ⟨⟨(Dc src).1,0,0,0⟩,[]⟩ [] (fun _=>by show(Dc src).1.length+2≤1000;omega) (by decide) (fun _=>by show 0+(Dc src).1.length≤1000;omega) n J (by show(Dc src).1.length≤900;omega) fun _=>⟨[],(fun _ z=>by cases z),J,J,by show 0+(Dc src).1.length≤900;omega⟩;rw[x];show(∃h e,(bif c.P.e !=0 then Y (Aew.err c.P.pos c.P.e)else bif TR c.N G then Y (.err 0 4)else Y (.tree c.N G))=Y (.err h e)∧_)∨∃f g a,(bif c.P.e !=0 then Y (Aew.err c.P.pos c.P.e)else bif TR c.N G then Y (.err 0 4)else Y (.tree c.N G))=Y (.tree f g)∧_;cases a8:c.P.e !=0 with
  |true=>exact .inl ⟨_,_,J,by simp_all⟩
  |false=>
   rw[Acf];cases i:TR c.N G with
   |true=>exact .inl ⟨_,_,J,by decide⟩
   |false=>
    obtain⟨a,o,p,j⟩:=y (by simp_all);unfold TR at i;rw[g_,g_]at i;obtain⟨⟨A,q⟩,r⟩:=i;have q:=Adh q;have r:=Adh r;have F:=Akv j_ p;have s:=Akv j_ j;rw[d_]at F s;rw[F5]at s;refine .inr ⟨_,_,a,J,p,j,⟨fun b d=>?_,by omega,by omega⟩,fun b d=>(o b d).2.2.2.2.2⟩;obtain⟨K,L,N,P,a0,a9⟩:=o b d;refine⟨K,L,?_,N,P,a0⟩;have a1:∀(a:List Fd) (t:Nat) (G:List Fn),G.map EO=AK a t→(G.any fun u=>decide (3<u.params.length))=false→∀b∈a,b.params.length≤3:=by
     intro a;induction a with
     |nil=>intro _ _ _ _ b d;cases d
     |cons u aa a2=>
      intro t G k l b d;cases G with
      |nil=>cases k
      |cons a3 G=>
       rw[S_]at k;injection k with a4 a5
       rw[T_,g_]at l;rcases n_.1 d with rfl|d
       ·have:=Adh l.1
        have m:=Akv Fn.params a4;have m:a3.params=b.params:=m;rw[←m];omega
       exact a2 _ G a5 l.2 b d
    exact a1 a 0 G j A b d
end
abbrev Tk:=Int×H
inductive Lx:H→List Tk→Prop
 |nil:Lx [] []
 |blank {c:UInt8} {r:H} {l:List Tk}:FL c=true→Lx r l→Lx (c::r) l
 |tok {c:UInt8} {q r:H} {t:Tok} {l:List Tk}:FL c=false→De (c::q++r) Eo=false→A8 (c::q++r)=(t,(((c::q).length:Nat):Int),0)→Lx r l→Lx (c::q++r) ((t.kind,t.text)::l)
abbrev Tm(b:List Tok):List Tk:=b.map fun a=>(a.kind,a.text)
theorem Ano(j:H){k:List Tk}(o:Lx s k):∀(a b:Nat) (c:List Tok),j.drop b=s→s.length<a→∃d,Ga j a b c=(c++d,0,0)∧Tm d=k++[(0,[])]:=by
 induction o with
 |nil=>
  intro a b c f g;cases a with
  |zero=>cases g
  |succ a=>
   unfold Ga;rw[f];exact⟨[⟨0,[],b⟩],J,J⟩
 | @blank e i k l p m=>
  intro a b c f g;cases a with
  |zero=>cases g
  |succ a=>
   unfold Ga;rw[f];simp only[l,Aa9];refine m a (b+1) c ?_ (by simp_all);rw[←Q_,f];rfl
 | @tok e h i n k l q r p m=>
  intro a b c f g;cases a with
  |zero=>cases g
  |succ a=>
   unfold Ga;rw[f];show∃d,(bif FL e then _ else bif De (e::h++i) Eo then _ else bif (A8 (e::h++i)).2.2 !=0 then _ else Ga j a (b+(A8 (e::h++i)).2.1.toNat) (c++[{(A8 (e::h++i)).1 with pos:=b}]))=(c++d,0,0)∧_;rw[l,q,r];show∃d,Ga j a (b+(((e::h).length:Nat):Int).toNat) (c++[{n with pos:=b}])=(c++d,0,0)∧_;obtain⟨d,t,u⟩:=m a (b+(e::h).length) (c++[{n with pos:=b}]) (by rw[←Q_,f,List.drop_left]) (by rw[a_,k_]at g;omega);exact⟨{n with pos:=b}::d,by simp_all,by simp_all⟩
def Nw(b:H):Prop:=∀a c,b=a::c→A9 a=false
def Ns(b:H):Prop:=∀a c,b=a::c→a≠61∧a≠47
theorem Ll{f:UInt8→Bool}{d:H}(g:∀c a,d=c::a→f c=false):∀{b:H},b.all f=true→runN f (b++d)=b.length
 |[],_=>by
  cases d with
  |nil=>rfl
  |cons c a=>
   rw[E_,show runN f (c::a)=bif f c then runN f a+1 else 0 from rfl,g c a rfl];rfl
 |c::b,e=>by
  rw[t_,i_]at e;rw[b_,H9 e.1,Ll g e.2];rfl
theorem XL{a:UInt8}(c:Co a=true):FL a=false∧A3 a=false∧(a==47)=false:=by
 have d:∀b:_root_.Fin 256,Co (UInt8.ofNat b.val)=true→FL (UInt8.ofNat b.val)=false∧A3 (UInt8.ofNat b.val)=false∧(UInt8.ofNat b.val==47)=false:=by decide+kernel
 have:=d ⟨a.toNat,a.toNat_lt⟩;simp only[M_]at this;exact this c
theorem RU{a:UInt8}(c:EI a=true):FL a=false∧A3 a=true∧(a==47)=false:=by
 have d:∀b:_root_.Fin 256,EI (UInt8.ofNat b.val)=true→FL (UInt8.ofNat b.val)=false∧A3 (UInt8.ofNat b.val)=true∧(UInt8.ofNat b.val==47)=false:=by decide+kernel
 have:=d ⟨a.toNat,a.toNat_lt⟩;simp only[M_]at this;exact this c
theorem WE{b:UInt8}(a:A9 b=false):A3 b=false:=by unfold A9 at a;rw[g_,g_]at a;exact a.1.2
theorem Ig{a:UInt8}(c:(a==47)=false):De (a::s) Eo=false:=by
 unfold De Eo;cases s with
 |nil=>rfl
 |cons b s=>
  rw[x_];refine .inr ?_;show([a,b]==[47,47])=false;show(a==47&&([b]==[47]))=false;rw[c];rfl
theorem Lx.word{c:H}{e:List Tk}(g:∃a b,s=a::b∧Co a=true)(h:s.all A9=true)(d:HT s=true∨s.length≤8)(i:Nw c)(j:Lx c e):Lx (s++c) ((bif HT s then(4:Int)else 3,s)::e):=by
 obtain⟨a,b,rfl,f⟩:=g;obtain⟨k,l,m⟩:=XL f;have n:=Ll i h;have o:((a::b)++c).take (a::b).length=a::b:=G_;have p:A8 (a::b++c)=((⟨bif HT (a::b)then 4 else 3,a::b,0⟩:Tok),(((a::b).length:Nat):Int),0):=by
  show(bif A3 a then _ else bif Co a then Hu (a::b++c)else _)=_;rw[l,f];show Hu (a::b++c)=_;unfold Hu;simp only[n,o];cases q:HT (a::b)with
  |true=>rfl
  |false=>
   rcases d with d|d
   ·simp_all
   rw[Acf,Gv];rfl
 have:=Lx.tok (t:=⟨bif HT (a::b)then 4 else 3,a::b,0⟩) k (Ig m) p j;exact this
theorem Lx.name{r:H}{a:List Tk}(b:DN s)(c:Nw r)(d:Lx r a):Lx (s++r) ((3,s)::a):=by obtain⟨e,f,g,h⟩:=b;have:=Lx.word e f (.inr h) c d;rw[g]at this;exact this
theorem Lx.w4{x:H}{r:H}{a:List Tk}(d:∃b e,x=b::e∧Co b=true)(f:x.all A9=true)(c:HT x=true)(g:Nw r)(h:Lx r a):Lx (x++r) ((4,x)::a):=by have:=Lx.word d f (.inl c) g h;rw[c]at this;exact this
theorem Ye(a:s.all EI=true):s.all A3=true:=Aa0 (fun _ a=>(RU a).2.1) a
theorem Lx.int{c:H}{d:List Tk}(e:s≠[])(g:s.all EI=true)(u:s.length≤19)(h:CG s 0<9223372036854775808)(i:Nw c)(j:Lx c d):Lx (s++c) ((1,s)::d):=by
 cases s with
 |nil=>exact absurd J e
 |cons a b=>
  have k:EI a=true:=by simp_all
  obtain⟨l,m,n⟩:=RU k;have o:=Ll (f:=A3) (fun a b p=>WE (i a b p)) (Ye g);have q:((a::b)++c).take (a::b).length=a::b:=G_;have r:A8 (a::b++c)=((⟨1,a::b,0⟩:Tok),(((a::b).length:Nat):Int),0):=by show(bif A3 a then Dt (a::b++c)else _)=_;rw[m];show Dt (a::b++c)=_;unfold Dt;simp only[o,q];rw[Gv,show v_ (CG (a::b) 0) 9223372036854775808=true from f_ h];rfl
  exact Lx.tok (t:=⟨1,a::b,0⟩) l (Ig n) r j
theorem Lx.text{a:H}{c:List Tk}(d:WN s)(e:Lx a c):Lx (34::(s++34::a)) ((2,s)::c):=by
 have f:runN B8 (s++34::a)=s.length:=Ll (fun j k b=>by cases b;rfl) d.1;have g:A8 (34::(s++[34])++a)=((⟨2,s,0⟩:Tok),(((34::(s++[34])).length:Nat):Int),0):=by
  have b:(34::(s++[34])++a:H)=34::(s++34::a):=by simp
  rw[b];show Hg (34::(s++34::a))=_;unfold Hg;have h:(34::(s++34::a):H)[s.length+1]? =Y 34:=by simp
  simp only[J_,P_,f,h];have i:(s++34::a).take s.length=s:=G_;rw[i];show(bif decide (12<s.length)then _ else _)=_;rw[Aey (by have:=d.2;omega),Acf];congr 2;simp;omega
 have:=Lx.tok (t:=⟨2,s,0⟩) (by decide) (Ig J) g e;simpa using this
theorem Lx.s1{c:UInt8}{l:List Tk}(m:c∈Ib)(f:c=60∨c=61∨c=33∨c=47→Ns s)(h:Lx s l):Lx (c::s) ((5,[c])::l):=by
 have n:∀c∈Ib,FL c=false∧A3 c=false∧Co c=false∧((c.toNat:Int)==34)=false∧decide (0≤Ft c Ib 0)=true∧c≠124∧c≠38:=by decide+kernel
 obtain⟨o,p,q,r,u,v,w⟩:=n c m;have x:De (c::[]++s) Eo=false:=by
  cases s with
  |nil=>cases d:(c==47)<;>simp[De,Eo]
  |cons a s=>
   cases d:(c==47)with
   |false=>exact Ig d
   |true=>
    have:=(f (.inr (.inr (.inr (eq_of_beq d)))) a s J).2;unfold De Eo;rw[x_];refine .inr ?_;show(c==47&&(a==47&&true))=false;rw[show(a==47)=false by simp_all,d];rfl
 have g:(decide (1<(c::s).length)&&CT ((c::s).take 2) HX)=false:=by
  cases s with
  |nil=>rfl
  |cons a s=>
   rw[x_];refine .inr ?_;show CT [c,a] HX=false;have b:HX=[[124,124],[38,38],[60,61],[61,61],[33,61]]:=by decide+kernel
   rw[b];have k:a≠61∨(c≠60∧c≠61∧c≠33):=by
    by_cases e:a=61
    ·refine .inr ⟨fun b=>?_,fun b=>?_,fun b=>?_⟩
     ·exact(f (.inl b) a s J).1 e
     ·exact(f (.inr (.inl b)) a s J).1 e
     exact(f (.inr (.inr (.inl b))) a s J).1 e
    simp_all
   simp only[CT,g_];have e:∀i j:UInt8,(c≠i∨a≠j)→([c,a]==[i,j])=false:=by
    intro i j h;cases d:([c,a]==[i,j])with
    |false=>rfl
    |true=>
     have:=eq_of_beq d;injection this with y g
     injection g with g
     rcases h with h|h
     ·simp_all
     simp_all
   exact⟨e _ _ (.inl v),e _ _ (.inl w),e _ _ (k.elim .inr fun h=>.inl h.1),e _ _ (k.elim .inr fun h=>.inl h.2.1),e _ _ (k.elim .inr fun h=>.inl h.2.2),trivial⟩
 have a:A8 (c::[]++s)=((⟨5,[c],0⟩:Tok),(((c::([]:H)).length:Nat):Int),0):=by show(bif A3 c then _ else bif Co c then _ else bif (c.toNat:Int)==34 then _ else FW (c::s))=_;rw[p,q,r];show FW (c::s)=_;unfold FW;rw[g,Acf];show(bif decide (0≤Ft c Ib 0)then _ else _)=_;rw[u];rfl
 exact Lx.tok (t:=⟨5,[c],0⟩) o x a h
theorem Lx.s2{a b:UInt8}{d:List Tk}(c:[a,b]∈HX)(f:Lx s d):Lx (a::b::s) ((5,[a,b])::d):=by
 have e:HX=[[124,124],[38,38],[60,61],[61,61],[33,61]]:=by decide+kernel
 have g:CT [a,b] HX=true:=by rw[e]at c⊢;simp only[n_,O_,u_,or_false,and_true]at c;rcases c with⟨rfl,rfl⟩|⟨rfl,rfl⟩|⟨rfl,rfl⟩|⟨rfl,rfl⟩|⟨rfl,rfl⟩<;>decide
 have h:FL a=false∧A3 a=false∧Co a=false∧((a.toNat:Int)==34)=false∧(a==47)=false:=by rw[e]at c;simp only[n_,O_,u_,or_false,and_true]at c;rcases c with⟨rfl,rfl⟩|⟨rfl,rfl⟩|⟨rfl,rfl⟩|⟨rfl,rfl⟩|⟨rfl,rfl⟩<;>decide+kernel
 obtain⟨i,j,k,l,m⟩:=h;have n:A8 (a::[b]++s)=((⟨5,[a,b],0⟩:Tok),(((a::[b]).length:Nat):Int),0):=by
  show(bif A3 a then _ else bif Co a then _ else bif (a.toNat:Int)==34 then _ else FW (a::b::s))=_;rw[j,k,l];show FW (a::b::s)=_;unfold FW;rw[show(decide (1<(a::b::s).length)&&CT ((a::b::s).take 2) HX)=true by
   rw[i_];exact⟨Aeu (by simp),g⟩]
  rfl
 exact Lx.tok (t:=⟨5,[a,b],0⟩) i (Ig m) n f
theorem Lx.sp{a:List Tk}(b:Lx s a):Lx (32::s) a:=Lx.blank (by decide) b
theorem Lx.nl{a:List Tk}(b:Lx s a):Lx (10::s) a:=Lx.blank (by decide) b
theorem MK(a:Nat)(b:a<10):((48+a).toUInt8).toNat=48+a:=by show(48+a)%256=48+a;omega
theorem PM:∀(k a:Nat) (b:H),a<10^k→0<k→CG (DF k a b) 0=CG b a
 |0,_,_,_,c=>by cases c
 |k+1,a,b,c,_=>by
  unfold DF;cases d:v_ a 10 with
  |true=>
   have e:a<10:=H_ d;show CG b (10*0+(((48+a).toUInt8).toNat-48))=_;rw[MK a e];congr 1;omega
  |false=>
   have e:¬a<10:=fun c=>by rw[show v_ a 10=true from f_ c]at d;cases d
   have f:0<k:=by
    cases k with
    |zero=>simp at c;omega
    |succ k=>exact K_ _
   rw[Acf,PM k (a/10) _ (by omega) f];show CG b (10*(a/10)+(((48+a%10).toUInt8).toNat-48))=_;rw[MK _ (by omega)];congr 1;omega
theorem NU:∀(k a:Nat) (d:H),d.all EI=true→(DF k a d).all EI=true
 |0,_,_,b=>b
 |k+1,a,d,b=>by
  have e:∀c,c<10→EI ((48+c).toUInt8)=true:=fun c f=>by
   unfold EI;rw[MK c f,i_];exact⟨Eg,Eg⟩
  unfold DF;cases g:v_ a 10 with
  |true=>
   have h:a<10:=H_ g;rw[Aa9,t_,e a h,b];rfl
  |false=>
   rw[Acf];exact NU k _ _ (by rw[t_,e _ (by omega),b];rfl)
theorem Tx:∀(k a:Nat) (b:H),0<k→DF k a b≠[]
 |0,_,_,c=>by cases c
 |k+1,a,b,_=>by
  unfold DF;cases v_ a 10 with
  |true=>exact T _ _
  |false=>
   rw[Acf];cases k with
   |zero=>exact T _ _
   |succ k=>exact Tx _ _ _ (K_ _)
theorem Ty:∀(d e a:Nat) (b:H),a<10^d→0<d→(DF e a b).length≤b.length+d
 |0,_,_,_,_,c=>by cases c
 |d+1,0,a,b,_,_=>by unfold DF;omega
 |d+1,e+1,a,b,c,_=>by
  unfold DF;cases f:v_ a 10 with
  |true=>rw[Aa9,k_];omega
  |false=>
   have h:¬a<10:=fun c=>by rw[show v_ a 10=true from f_ c]at f;cases f
   have g:0<d:=by
    cases d with
    |zero=>simp at c;omega
    |succ d=>exact K_ _
   rw[Acf];have:=Ty d e (a/10) ((48+a%10).toUInt8::b) (by omega) g;rw[k_]at this;omega
theorem Lx.num{b:List Tk}(e:a<9223372036854775808)(c:Nw s)(d:Lx s b):Lx (DF 30 a []++s) ((1,DF 30 a [])::b):=by have f:CG (DF 30 a []) 0=a:=PM 30 a [] (by omega) (by decide);have g:=Ty 19 30 a [] (by omega) (by decide);exact Lx.int (Tx _ _ _ (by decide)) (NU _ _ _ J) (by omega) (by omega) c d
abbrev sg(a:UInt8):Tk:=(5,[a])
def YJ(b c:Int)(a:List Tk):List Tk:=if b≤c then a else sg 40::(a++[sg 41])
def Xp.tk:Xp→List Tk
 |.int a=>[(1,DF 30 a [])]
 |.bool c=>[(4,bif c then FV else Ec)]
 |.text b=>[(2,b)]
 |.var d=>[(3,d)]
 |.index d a=>(3,d)::sg 91::(a.tk++[sg 93])
 |.len a=>(4,LD)::sg 40::(a.tk++[sg 41])
 |.neg a=>sg 45::YJ 5 a.DM a.tk
 |.no a=>sg 33::YJ 5 a.DM a.tk
 |.bin b a c=>YJ (F3 ((BN b DO).getD 0)) a.DM a.tk++(5,b)::YJ ((BN b DO).getD 0+1) c.DM c.tk
def CV:Nat→List (List Tk)→List Tk
 |_,[]=>[]
 |0,a::b=>a++CV 1 b
 |_+1,a::b=>sg 44::(a++CV 1 b)
def Rg.tk:Rg→List Tk
 |.input=>[(4,GZ)]
 |.new a=>(4,Cb)::sg 40::(a.tk++[sg 41])
 |.call b c=>(3,b)::sg 40::(CV 0 (c.map Xp.tk)++[sg 41])
 |.expr a=>a.tk
abbrev Ui(a:List Tk):List Tk:=sg 123::(a++[sg 125])
mutual
def Sm.tk:Sm→List Tk
 |.lt a b=>(4,MB)::(3,a)::sg 61::(b.tk++[sg 59])
 |.set a b=>(3,a)::sg 61::(b.tk++[sg 59])
 |.put a c b=>(3,a)::sg 91::(c.tk++sg 93::sg 61::(b.tk++[sg 59]))
 |.run a c=>(3,a)::sg 40::(CV 0 (c.map Xp.tk)++[sg 41,sg 59])
 |.print a=>(4,F9)::(a.tk++[sg 59])
 |.Fa=>[(4,BZ),sg 59]
 |.ret a=>(4,BZ)::(a.tk++[sg 59])
 |.Kv a b=>(4,E6)::(a.tk++Ui b.tk)
 |.KD a b=>(4,NT)::(a.tk++Ui b.tk)
 |.FP a b c=>(4,NT)::(a.tk++Ui b.tk++(4,Ed)::Ui c.tk)
def Bl.tk:Bl→List Tk
 |.nil=>[]
 |.cons a b=>a.tk++b.tk
end
def N3(a:Int):List Tk:=if a=0 then[]else[(4,EY a)]
def pmK(a:Pm):List Tk:=[(3,a.1),(4,EY a.2)]
def Fd.tk(a:Fd):List Tk:=(4,Gb)::(3,a.name)::sg 40::(CV 0 (a.params.map pmK)++sg 41::(N3 a.ret++Ui a.body.tk))
def Aa1:List Fd→List Tk
 |[]=>[]
 |f::a=>f.tk++Aa1 a
theorem Ds{a:UInt8}(b:A9 a=false):Nw (a::s):=fun c d e=>by simp_all
theorem OZ{a:UInt8}(b:a≠61∧a≠47):Ns (a::s):=fun c d e=>by simp_all
theorem Ac2{a:UInt8}(b:Co a=true):a≠61∧a≠47:=by constructor<;>(rintro rfl;revert b;decide+kernel)
theorem Aul{a:UInt8}(b:EI a=true):a≠61∧a≠47:=by constructor<;>(rintro rfl;revert b;decide+kernel)
theorem S2(a:DN s):Ns (s++t):=by obtain⟨⟨c,d,rfl,b⟩,_⟩:=a;exact OZ (Ac2 b)
theorem Xp.N8:∀{c:Xp},c.A6→∀a,Ns (c.tx++a)
 |.int d,_,a=>by
  have b:=NU 30 d [] rfl;have e:=Tx 30 d [] (by decide);show Ns (DF 30 d []++a);cases hd:DF 30 d []with
  |nil=>exact absurd hd e
  |cons f g=>
   rw[hd,t_,i_]at b;exact OZ (Aul b.1)
 |.bool d,_,a=>by cases d<;>exact OZ (by decide)
 |.text e,_,a=>OZ (by decide)
 |.var f,b,a=>S2 b
 |.index f c,b,a=>by
  show Ns (f++[91]++c.tx++[93]++a);rw[V,V,V];exact S2 b.1
 |.len c,b,a=>OZ (by decide)
 |.neg c,b,a=>OZ (by decide)
 |.no c,b,a=>OZ (by decide)
 |.bin e f d,b,a=>by
  show Ns (YI _ f.DM f.tx++e++YI _ d.DM d.tx++a);unfold YI;cases decide (F3 ((BN e DO).getD 0)≤f.DM)with
  |true=>
   rw[Aa9,V,V];exact Xp.N8 b.2.1 _
  |false=>exact OZ (by decide)
theorem Are{e:Xp}(c:e.A6)(a:Int)(b:H):Ns (YI a e.DM e.tx++b):=by
 unfold YI;cases decide (a≤e.DM)with
 |true=>exact Xp.N8 c b
 |false=>exact OZ (by decide)
theorem Kq{c:H}:∀{d:List (H×Int)},(BN c d).isSome=true→∃b∈d,c=b.1
 |[],a=>by cases a
 |b::d,a=>by
  unfold BN at a;cases e:c==b.1 with
  |true=>exact⟨b,l_ ..,eq_of_beq e⟩
  |false=>
   rw[e]at a;obtain⟨f,g,h⟩:=Kq a;exact⟨f,h_ _ g,h⟩
theorem Al0(c:(BN s DO).isSome=true)(d:H):Nw (s++d):=by
 have e:∀a∈DO,(a.1.head?.map A9)=Y false:=by decide+kernel
 obtain⟨a,f,rfl⟩:=Kq c;have:=e a f;cases b:a.1 with
 |nil=>rw[b]at this;cases this
 |cons g h=>
  rw[b]at this;injection this with this
  exact Ds this
theorem Lx.sign{c:List Tk}(e:(BN s DO).isSome=true)(b:Ns t)(a:Lx t c):Lx (s++t) ((5,s)::c):=by
 have:s=[124,124]∨s=[38,38]∨s=[60]∨s=[60,61]∨s=[61,61]∨s=[33,61]∨s=[43]∨s=[45]∨s=[42]∨s=[47]∨s=[37]:=by obtain⟨f,d,rfl⟩:=Kq e;simp only[DO,n_,u_,or_false]at d;rcases d with rfl|rfl|rfl|rfl|rfl|rfl|rfl|rfl|rfl|rfl|rfl<;>simp
 rcases this with rfl|rfl|rfl|rfl|rfl|rfl|rfl|rfl|rfl|rfl|rfl
 ·exact Lx.s2 (by decide+kernel) a
 ·exact Lx.s2 (by decide+kernel) a
 ·exact Lx.s1 (by decide+kernel) (fun _=>b) a
 ·exact Lx.s2 (by decide+kernel) a
 ·exact Lx.s2 (by decide+kernel) a
 ·exact Lx.s2 (by decide+kernel) a
 ·exact Lx.s1 (by decide+kernel) (fun _=>b) a
 ·exact Lx.s1 (by decide+kernel) (fun _=>b) a
 ·exact Lx.s1 (by decide+kernel) (fun _=>b) a
 ·exact Lx.s1 (by decide+kernel) (fun _=>b) a
 exact Lx.s1 (by decide+kernel) (fun _=>b) a
theorem Lx.oL{a:UInt8}{b:List Tk}(d:a∈Ib)(e:a≠60∧a≠61∧a≠33∧a≠47)(c:Lx s b):Lx (a::s) (sg a::b):=
 Lx.s1 d (fun c=>by simp_all) c
theorem Lx.cl{c:UInt8}{a:List Tk}(b:c=40∨c=41∨c=91∨c=93∨c=123∨c=125∨c=44∨c=59∨c=45)(d:Lx s a):Lx (c::s) (sg c::a):=by rcases b with rfl|rfl|rfl|rfl|rfl|rfl|rfl|rfl|rfl<;>exact Lx.oL (by decide+kernel) (by decide) d
theorem TU{a:Xp}{m:Int}{b:List Tk}(d:∀s b,Nw s→Lx s b→Lx (a.tx++s) (a.tk++b))(g:Nw s)(e:Lx s b):Lx (YI m a.DM a.tx++s) (YJ m a.DM a.tk++b):=by
 unfold YI YJ;cases f:decide (m≤a.DM)with
 |true=>rw[Aa9,Agd (Acw f)];exact d s b g e
 |false=>
  rw[Acf,Akt (Adh f)];have h:=Lx.cl (c:=40) (.inl J) (d (41::s) (sg 41::b) (Ds (by decide+kernel)) (Lx.cl (.inr (.inl J)) e));simpa using h
theorem Xp.lx:∀{e:Xp},e.A6→∀(a:H) (b:List Tk),Nw a→Lx a b→Lx (e.tx++a) (e.tk++b)
 |.int h,d,a,b,g,f=>Lx.num d g f
 |.bool j,_,a,b,g,f=>by
  cases j
  ·exact Lx.w4 (x:=Ec) ⟨_,_,J,by decide+kernel⟩ (by decide+kernel) (by decide+kernel) g f
  exact Lx.w4 (x:=FV) ⟨_,_,J,by decide+kernel⟩ (by decide+kernel) (by decide+kernel) g f
 |.text i,d,a,b,g,f=>by
  have:=Lx.text d f;simpa[Xp.tx,Xp.tk]using this
 |.var k,d,a,b,g,f=>Lx.name d g f
 |.index k e,d,a,b,g,f=>by
  have h:=Lx.name (r:=91::(e.tx++93::a)) d.1 (Ds (by decide+kernel)) (Lx.cl (.inr (.inr (.inl J))) (Xp.lx d.2 (93::a) (sg 93::b) (Ds (by decide+kernel)) (Lx.cl (.inr (.inr (.inr (.inl J)))) f)));simpa[Xp.tx,Xp.tk]using h
 |.len e,d,a,b,g,f=>by
  have h:=Lx.w4 (x:=LD) (r:=40::(e.tx++41::a)) ⟨_,_,J,by decide+kernel⟩ (by decide+kernel) (by decide+kernel) (Ds (by decide+kernel)) (Lx.cl (.inl J) (Xp.lx (e:=e) d (41::a) (sg 41::b) (Ds (by decide+kernel)) (Lx.cl (.inr (.inl J)) f)));simpa[Xp.tx,Xp.tk]using h
 |.neg e,d,a,b,g,f=>by
  have h:=Lx.cl (c:=45) (.inr (.inr (.inr (.inr (.inr (.inr (.inr (.inr J)))))))) (TU (m:=5) (fun a b=>Xp.lx (e:=e) d a b) g f);simpa[Xp.tx,Xp.tk]using h
 |.no e,d,a,b,g,f=>by
  have h:=Lx.s1 (c:=33) (by decide+kernel) (fun _=>Are (e:=e) d 5 a) (TU (m:=5) (fun a b=>Xp.lx (e:=e) d a b) g f);simpa[Xp.tx,Xp.tk]using h
 |.bin i n j,d,a,b,g,f=>by
  have h:=TU (m:=(BN i DO).getD 0+1) (fun a b=>Xp.lx d.2.2 a b) g f;have k:=Lx.sign d.1 (Are d.2.2 _ a) h;have l:=TU (m:=F3 ((BN i DO).getD 0)) (fun a b=>Xp.lx d.2.1 a b) (Al0 d.1 _) k;simpa[Xp.tx,Xp.tk]using l
theorem SF:∀(a:List Xp),G0 a→∀(b:H) (d:List Tk),Lx b d→(∀g k,b=g::k→A9 g=false)→Lx (Cm 0 (a.map Xp.tx)++b) (CV 0 (a.map Xp.tk)++d)∧Lx (Cm 1 (a.map Xp.tx)++b) (CV 1 (a.map Xp.tk)++d)
 |[],_,b,d,f,_=>⟨f,f⟩
 |e::a,h,b,d,f,i=>by
  have l:=(SF a h.2 b d f i).2;have m:Nw (Cm 1 (a.map Xp.tx)++b):=by
   cases a with
   |nil=>exact i
   |cons j a=>exact Ds (by decide+kernel)
  have j:=Xp.lx h.1 _ _ m l;have n:=Lx.cl (c:=44) (.inr (.inr (.inr (.inr (.inr (.inr (.inl J))))))) j;exact⟨by simpa[Cm,CV]using j,by simpa[Cm,CV]using n⟩
theorem Rg.lx{c:Rg}(d:c.A6)(a:H)(b:List Tk)(h:Nw a)(f:Lx a b):Lx (c.tx++a) (c.tk++b):=by
 cases c with
 |input=>exact Lx.w4 (x:=GZ) ⟨_,_,J,by decide+kernel⟩ (by decide+kernel) (by decide+kernel) h f
 |new e=>
  have g:=Lx.w4 (x:=Cb) (r:=40::(e.tx++41::a)) ⟨_,_,J,by decide+kernel⟩ (by decide+kernel) (by decide+kernel) (Ds (by decide+kernel)) (Lx.cl (.inl J) (Xp.lx (e:=e) d (41::a) (sg 41::b) (Ds (by decide+kernel)) (Lx.cl (.inr (.inl J)) f)));simpa[Rg.tx,Rg.tk]using g
 |call k i=>
  have g:=(SF i d.2 (41::a) (sg 41::b) (Lx.cl (.inr (.inl J)) f) (Ds (by decide+kernel))).1;have j:=Lx.name (r:=40::(Cm 0 (i.map Xp.tx)++41::a)) d.1 (Ds (by decide+kernel)) (Lx.cl (.inl J) g);simpa[Rg.tx,Rg.tk]using j
 |expr e=>exact Xp.lx d a b h f
theorem Rg.N8{a:Rg}(c:a.A6)(b:H):Ns (a.tx++b):=by
 cases a with
 |input=>exact OZ (by decide)
 |new d=>exact OZ (by decide)
 |call e f=>
  show Ns (e++_++b);rw[V];exact S2 c.1
 |expr d=>exact Xp.N8 c b
theorem JZ{b a:List Tk}(d:Lx t a)(e:∀t a,Lx t a→Lx (s++t) (b++a)):Lx ([123,10]++s++[125,10]++t) (Ui b++a):=by have f:=Lx.cl (c:=123) (.inr (.inr (.inr (.inr (.inl J))))) (Lx.nl (e _ _ (Lx.cl (c:=125) (.inr (.inr (.inr (.inr (.inr (.inl J)))))) (Lx.nl d))));simpa using f
theorem Arz(b:s=MB∨s=F9∨s=E6∨s=NT∨s=Ed∨s=BZ∨s=Gb):(∃a c,s=a::c∧Co a=true)∧s.all A9=true∧HT s=true:=by rcases b with rfl|rfl|rfl|rfl|rfl|rfl|rfl<;>exact⟨⟨_,_,J,by decide+kernel⟩,by decide+kernel,by decide+kernel⟩
theorem Lx.kw{x a:H}{c:List Tk}(b:x=MB∨x=F9∨x=E6∨x=NT∨x=Ed∨x=BZ∨x=Gb)(d:Nw a)(e:Lx a c):Lx (x++a) ((4,x)::c):=
 Lx.w4 (Arz b).1 (Arz b).2.1 (Arz b).2.2 d e
theorem Lx.end{a:List Tk}(b:Lx s a):Lx (59::10::s) (sg 59::a):=Lx.cl (.inr (.inr (.inr (.inr (.inr (.inr (.inr (.inl J)))))))) (Lx.nl b)
mutual
theorem Sm.lx:∀{i:Sm},i.A6→∀(d:H) (f:List Tk),Lx d f→Lx (i.tx++d) (i.tk++f)
 |.lt k j,a,d,f,b=>by
  have g:=Lx.s1 (c:=61) (by decide+kernel) (fun _=>Rg.N8 a.2 _) (Rg.lx a.2 _ _ (Ds (by decide+kernel)) b.end);have h:=Lx.kw (.inl J) (Ds (by decide+kernel)) (Lx.sp (Lx.name a.1 (Ds (by decide+kernel)) g));simpa[Sm.tx,Sm.tk]using h
 |.set k j,a,d,f,b=>by
  have g:=Lx.s1 (c:=61) (by decide+kernel) (fun _=>Rg.N8 a.2 _) (Rg.lx a.2 _ _ (Ds (by decide+kernel)) b.end);have h:=Lx.name a.1 (Ds (by decide+kernel)) g;simpa[Sm.tx,Sm.tk]using h
 |.put k l j,a,d,f,b=>by
  have g:=Lx.s1 (c:=61) (by decide+kernel) (fun _=>Xp.N8 a.2.2 _) (Xp.lx a.2.2 _ _ (Ds (by decide+kernel)) b.end);have h:=Lx.name a.1 (Ds (by decide+kernel)) (Lx.cl (c:=91) (.inr (.inr (.inl J))) (Xp.lx a.2.1 _ _ (Ds (by decide+kernel)) (Lx.cl (c:=93) (.inr (.inr (.inr (.inl J)))) g)));simpa[Sm.tx,Sm.tk]using h
 |.run k l,a,d,f,b=>by
  have g:=(SF l a.2 _ _ (Lx.cl (c:=41) (.inr (.inl J)) b.end) (Ds (by decide+kernel))).1;have h:=Lx.name a.1 (Ds (by decide+kernel)) (Lx.cl (c:=40) (.inl J) g);simpa[Sm.tx,Sm.tk]using h
 |.print e,a,d,f,b=>by
  have g:=Lx.kw (.inr (.inl J)) (Ds (by decide+kernel)) (Lx.sp (Xp.lx (e:=e) a _ _ (Ds (by decide+kernel)) b.end));simpa[Sm.tx,Sm.tk]using g
 |.Fa,a,d,f,b=>by
  have g:=Lx.kw (x:=BZ) (.inr (.inr (.inr (.inr (.inr (.inl J)))))) (Ds (by decide+kernel)) b.end;simpa[Sm.tx,Sm.tk]using g
 |.ret e,a,d,f,b=>by
  have g:=Lx.kw (x:=BZ) (.inr (.inr (.inr (.inr (.inr (.inl J)))))) (Ds (by decide+kernel)) (Lx.sp (Xp.lx (e:=e) a _ _ (Ds (by decide+kernel)) b.end));simpa[Sm.tx,Sm.tk]using g
 |.Kv e j,a,d,f,b=>by
  have g:=Lx.kw (x:=E6) (.inr (.inr (.inl J))) (Ds (by decide+kernel)) (Lx.sp (Xp.lx a.1 _ _ (Ds (by decide+kernel)) (JZ b fun d f b=>Bl.lx a.2 d f b)));simpa[Sm.tx,Sm.tk]using g
 |.KD e j,a,d,f,b=>by
  have g:=Lx.kw (x:=NT) (.inr (.inr (.inr (.inl J)))) (Ds (by decide+kernel)) (Lx.sp (Xp.lx a.1 _ _ (Ds (by decide+kernel)) (JZ b fun d f b=>Bl.lx a.2 d f b)));simpa[Sm.tx,Sm.tk]using g
 |.FP e j k,a,d,f,b=>by
  have h:=Lx.kw (x:=Ed) (.inr (.inr (.inr (.inr (.inl J))))) (Ds (by decide+kernel)) (JZ b fun d f b=>Bl.lx a.2.2 d f b);have g:=Lx.kw (x:=NT) (.inr (.inr (.inr (.inl J)))) (Ds (by decide+kernel)) (Lx.sp (Xp.lx a.1 _ _ (Ds (by decide+kernel)) (JZ h fun d f b=>Bl.lx a.2.1 d f b)));simpa[Sm.tx,Sm.tk]using g
theorem Bl.lx:∀{c:Bl},c.A6→∀(a:H) (b:List Tk),Lx a b→Lx (c.tx++a) (c.tk++b)
 |.nil,_,a,b,d=>d
 |.cons g c,e,a,b,d=>by
  have f:=Sm.lx e.1 _ _ (Bl.lx e.2 a b d);simpa[Bl.tx,Bl.tk]using f
end
theorem Y3(d:1≤x)(e:x≤4){a:List Tk}(b:Nw s)(c:Lx s a):Lx (EY x++s) ((4,EY x)::a):=by
 have:x=1∨x=2∨x=3∨x=4:=by omega
 rcases this with rfl|rfl|rfl|rfl<;>exact Lx.w4 ⟨_,_,J,by decide+kernel⟩ (by decide+kernel) (by decide+kernel) b c
theorem Ag0:∀(a:List Pm),(∀f∈a,KS f)→∀(b:H) (d:List Tk),Lx b d→Nw b→Lx (Cm 0 (a.map Nz)++b) (CV 0 (a.map pmK)++d)∧Lx (Cm 1 (a.map Nz)++b) (CV 1 (a.map pmK)++d)
 |[],_,b,d,e,_=>⟨e,e⟩
 |f::a,g,b,d,e,h=>by
  have j:=(Ag0 a (fun k l=>g k (h_ _ l)) b d e h).2;have m:Nw (Cm 1 (a.map Nz)++b):=by
   cases a with
   |nil=>exact h
   |cons i a=>exact Ds (by decide+kernel)
  obtain⟨n,o,p⟩:=g f (l_ ..);have i:=Lx.name n (Ds (by decide+kernel)) (Lx.sp (Y3 o p m j));have q:=Lx.cl (c:=44) (.inr (.inr (.inr (.inr (.inr (.inr (.inl J))))))) i;exact⟨by simpa[Cm,CV,Nz,pmK]using i,by simpa[Cm,CV,Nz,pmK]using q⟩
theorem Fd.lx{a:Fd}(g:a.A6){b:List Tk}(d:Lx s b):Lx (a.tx++s) (a.tk++b):=by
 obtain⟨h,i,n,o,j,k⟩:=g;have f:=JZ d fun s b d=>Bl.lx k s b d;have l:Lx (EY a.ret++([123,10]++a.body.tx++[125,10]++s)) (N3 a.ret++(Ui a.body.tk++b)):=by
  unfold N3;by_cases e:a.ret=0
  ·rw[Agd e,e];exact f
  rw[Akt e];exact Y3 (by omega) j (Ds (by decide+kernel)) f
 have e:=(Ag0 a.params i _ _ (Lx.cl (c:=41) (.inr (.inl J)) l) (Ds (by decide+kernel))).1;have m:=Lx.kw (x:=Gb) (.inr (.inr (.inr (.inr (.inr (.inr J)))))) (Ds (by decide+kernel)) (Lx.sp (Lx.name h (Ds (by decide+kernel)) (Lx.cl (c:=40) (.inl J) e)));simpa[Fd.tx,Fd.tk]using m
theorem Wu:∀{a:List Fd},(∀f∈a,f.A6)→Lx (Db a) (Aa1 a)
 |[],_=>Lx.nil
 |f::e,b=>Fd.lx (b f (l_ ..)) (Wu fun c d=>b c (h_ _ d))
structure Ah(s:PN)(l:List Tk):Prop where
 e:s.P.e=0
 t:Tm s.P.Ax=l
section
variable{s:PN}{k:Int}{t:H}{r:List Tk}
theorem Ah.next(e:Ah s ((k,t)::r)):∃a b,s.P.Ax=a::b∧a.kind=k∧a.text=t∧Tm b=r:=by
 have c:=e.t;cases d:s.P.Ax with
 |nil=>rw[d]at c;cases c
 |cons a b=>
  rw[d]at c;injection c with f g
  injection f with h i
  exact⟨a,b,J,h,i,g⟩
theorem Ah.kind(b:Ah s ((k,t)::r))(a:Int):s.P.kind a=(k==a):=by obtain⟨c,f,d,e,g,h⟩:=b.next;unfold PS.kind PS.next;rw[d,b.e];show(c.kind==a)=_;rw[e]
theorem Ah.text(a:Ah s ((k,t)::r)):s.P.next.text=t:=by obtain⟨d,e,b,f,c,g⟩:=a.next;unfold PS.next;rw[b];exact c
theorem Ah.is(b:Ah s ((k,t)::r))(l:List H):s.P.is l=(((k==5)||(k==4))&&CT t l):=by obtain⟨a,f,c,d,e,g⟩:=b.next;unfold PS.is PS.next;rw[c,b.e];show(true&&((a.kind==5)||(a.kind==4))&&CT a.text l)=_;rw[d,e,Bool.true_and]
theorem Ah.take(c:Ah s ((k,t)::r))(f:r≠[]):Ah s.take r:=by
 obtain⟨i,a,g,j,l,d⟩:=c.next;refine⟨c.e,?_⟩;have h:s.take.P.Ax=a:=by
  show(match s.P.Ax with
   |t::e::b=>e::b
   |b=>b)=_
  rw[g];cases a with
  |nil=>exact absurd d.symm f
  |cons e a=>rfl
 rw[h];exact d
theorem Ah.Ao(a:Ah s ((k,t)::r))(b:k=5∨k=4):s.Ao t=s.take:=by
 have:s.P.is [t]=true:=by rw[a.is];rcases b with rfl|rfl<;>simp[CT]
 show({s with P:=s.P.Ao t}:PN)={s with P:=s.P.take};unfold PS.Ao;rw[this];rfl
theorem Ah.deep(a:Ah s r)(b:Int):Ah (s.deep b) r:=⟨a.e,a.t⟩
theorem Ah.put(a:Ah s r)(b:Nd):Ah (s.put b) r:=⟨a.e,a.t⟩
end
structure Ou(s t:PN)(x:Int)(m:List Nd)(k:Nat)(r:List Tk):Prop where
 a:Ah t r
 d:t.P.deep=s.P.deep
 n:t.N.map AU=s.N.map AU++m
 x:x=top s.N.length k
 ln:m.length=k
theorem Ou.len{s t:PN}{c:List Nd}{k:Nat}{r:List Tk}(a:Ou s t x c k r):t.N.length=s.N.length+k:=by have b:=Akv j_ a.n;rw[d_,a_,d_,a.ln]at b;exact b
theorem CP{t:PN}(a:t.N.length<900000)(nd:Nd):BS t nd=Y ((t.N.length:Int),t.put nd):=by unfold BS Nl;rw[Aeu a];rfl
theorem Ou.put{s t:PN}{l:List Nd}{k:Nat}{r:List Tk}{nd:Nd}(b:Ah t r)(d:t.P.deep=s.P.deep)(a:t.N.map AU=s.N.map AU++l)(e:l.length+1=k):Ou s (t.put nd) (t.N.length:Int) (l++[AU nd]) k r:=by
 have c:=Akv j_ a;rw[d_,a_,d_]at c;refine⟨b.put nd,d,?_,?_,by simp_all⟩
 ·show(t.N++[nd]).map AU=_
  rw[z_,a,V];rfl
 show(t.N.length:Int)=((s.N.length+k-1:Nat):Int);congr 1;omega
def Fo(b:Nat)(r:List Tk):Prop:=∀k t c,r=(k,t)::c→∀a,b≤a→a≤4→CT t (Bz a)=false
theorem Fo.mono{r:List Tk}(c:Fo a r)(d:a≤b):Fo b r:=fun k t e f g h i=>c k t e f g (y_ d h) i
section
variable{src:H}
def Wz(src:H)(d:List Tk)(a:Xp)(e:Nat):Prop:=∀(k b:Nat) (s:PN) (r:List Tk),Ah s (d++r)→r≠[]→Fo 0 r∨True→(e:Int)+s.P.deep≤16→0≤s.P.deep→16≤k+s.P.deep→17≤b+s.P.deep→s.N.length+a.sz≤800→(∀k t f,r=(k,t)::f→t≠[91])→
 ∃c t,B3 (BH src k) src b s=Y (c,t)∧Ou s t c (a.fl s.N.length) a.sz r
def Chn(src:H)(e:List Tk)(b:Xp)(f:Nat)(a:Nat):Prop:=∀(k:Nat) (s:PN) (r:List Tk),Ah s (e++r)→r≠[]→Fo (5-a) r→(f:Int)+s.P.deep≤16→0≤s.P.deep→16≤k+s.P.deep→s.N.length+b.sz≤800→(∀k t g,r=(k,t)::g→t≠[91])→
 ∃c d t,c≤b.sz∧Ee (B3 (BH src k) src 40) src (a+1) s=KB (Ee (B3 (BH src k) src 40) src a) (Bz (4-a)) (((4-a:Nat):Int)==2) (s.P.line src) (1000-c) d t∧Ou s t d (b.fl s.N.length) b.sz r
def WA(src:H)(d:List Tk)(a:Xp)(e:Nat)(b:Nat):Prop:=∀(k:Nat) (s:PN) (r:List Tk),Ah s (d++r)→r≠[]→Fo (5-b) r→(e:Int)+s.P.deep≤16→0≤s.P.deep→16≤k+s.P.deep→s.N.length+a.sz≤800→(∀k t f,r=(k,t)::f→t≠[91])→
 ∃c t,Ee (B3 (BH src k) src 40) src b s=Y (c,t)∧Ou s t c (a.fl s.N.length) a.sz r
theorem Chn.fin{c:List Tk}{d:Xp}(A:b≤4)(j:Chn src c d a b):WA src c d a (b+1):=by
 intro k s r l e f m n o p q;obtain⟨g,u,t,F,v,h⟩:=j k s r l e (f.mono (by omega)) m n o p q;refine⟨u,t,?_,h⟩;rw[v];obtain⟨i,w⟩:∃i,1000-g=i+1:=⟨1000-g-1,by omega⟩;rw[w];unfold KB;have:t.P.is (Bz (4-b))=false:=by
  cases r with
  |nil=>exact absurd J e
  |cons x r=>
   obtain⟨y,z⟩:=x;rw[h.a.is,f y z r rfl (4-b) (by omega) (by omega),A_]
 rw[this];rfl
theorem WA.up{c:List Tk}{d:Xp}(e:WA src c d a b):Chn src c d a b:=by intro k s r f g h i j l m n;obtain⟨o,t,p,q⟩:=e k s r f g h i j l m n;exact⟨0,o,t,s_ _,by unfold Ee;rw[p];rfl,q⟩
theorem WA.all{c:List Tk}{d:Xp}{e b:Nat}(f:WA src c d e b):∀a,b+a≤5→WA src c d e (b+a)
 |0,_=>f
 |a+1,g=>(WA.all f a (by omega)).up.fin (by show b+a≤4;omega)
theorem Wz.chd{b:List Tk}{c:Xp}(d:Wz src b c a):WA src b c a 0:=by intro k s r e f m g h i j l;exact d k 40 s r e f (.inr trivial) g h i (by omega) j l
theorem NS{j:List Tk}{d:Xp}(f:WA src j d a 5)(h b:UInt8)(x:∀c,c≤4→CT [b] (Bz c)=false)(n:b≠91){k:Nat}{s:PN}{r:List Tk}(l:Ah s (sg h::(j++sg b::r)))(o:r≠[])(y:(a:Int)+1+s.P.deep≤16)(p:0≤s.P.deep)(z:16≤k+s.P.deep)(A:s.N.length+d.sz≤800)(F:1≤k):
  ∃g t,D9 (BH src k) [h] [b] s=Y (g,t)∧Ou s t g (d.fl s.N.length) d.sz r:=by
 have q:s.P.is [[h]]=true:=by rw[l.is];simp[CT]
 have u:=(l.deep (s.P.deep+1)).take (by simp);obtain⟨c,rfl⟩:∃c,k=c+1:=⟨k-1,by omega⟩;have v:(s.deep (s.P.deep+1)).take.P.deep=s.P.deep+1:=J;have K:(s.deep (s.P.deep+1)).take.N=s.N:=J;obtain⟨g,t,i,e⟩:=f c _ (sg b::r) u (by simp) (fun k t i d c _ L=>by simp_all) (by omega) (by omega) (by omega) (by simp_all) (fun k t i d=>by cases d;intro f;injection f with f;exact n f);have m:=e.d;rw[v]at m;have w:t.Ao [b]=t.take:=e.a.Ao (.inl J);refine⟨g,t.take.deep (t.take.P.deep-1),?_,⟨(e.a.take o).deep _,?_,e.n,e.x,e.ln⟩⟩
 ·unfold D9
  rw[q,Aa9,Bo (C1 p (by omega)),Gv,Acf];show(Ee (B3 (BH src c) src 40) src 5 _).bind _=_;rw[i];show Nl (BY (t.Ao [b]).P.deep) (Y (g,(t.Ao [b]).deep ((t.Ao [b]).P.deep-1)))=_;rw[w,Bo (by show BY t.P.deep=true;rw[m];exact C1 (by omega) (by omega))]
 show t.P.deep-1=_;omega
theorem Ams(a:UInt8)(c:a=41∨a=93):∀b,b≤4→CT [a] (Bz b)=false:=by rcases c with rfl|rfl<;>decide+kernel
theorem Wz.paren{d:List Tk}{e:Xp}(g:WA src d e a 5):Wz src (sg 40::(d++[sg 41])) e (a+1):=by intro k c s r b h _ f i j q l _;have f:((a+1:Nat):Int)+s.P.deep≤16:=f;obtain⟨c,rfl⟩:∃m,c=m+1:=⟨c-1,by omega⟩;rw[b_,V,c_]at b;obtain⟨n,t,o,p⟩:=NS g 40 41 (Ams 41 (.inl J)) (by decide) b h (by omega) i j l (by omega);refine⟨n,t,?_,p⟩;unfold B3;rw[b.is,show CT [40] [[33]]=false by decide,A_,Acf,b.is,show CT [40] [[45]]=false by decide,A_,Acf];unfold Iw;rw[b.kind,b.kind,b.kind,b.is,b.is,b.is,show CT [40] [FV]=false by decide,show CT [40] [Ec]=false by decide,show CT [40] [LD]=false by decide];exact o
theorem VE{a:Xp}{m:Int}(d:5≤m)(e:5≤a.DM→Wz src a.tk a a.dp)(c:WA src a.tk a a.dp 5)(f:m≤a.DM→5≤a.DM):Wz src (YJ m a.DM a.tk) a (L9 m a.DM a.dp):=by
 unfold YJ L9;by_cases b:m≤a.DM
 ·simp_all
 rw[Akt b,Akt b];exact Wz.paren c
theorem Pf{e:Xp}{s:PN}{k:Int}{t:H}{r:List Tk}{nd:Nd}(c:Ah s ((k,t)::r))(d:r≠[])(i:s.N.length+e.sz≤800)(f:e.sz=1)(g:e.fl s.N.length=[AU nd]):∃a b,BS s.take nd=Y (a,b)∧Ou s b a (e.fl s.N.length) e.sz r:=by have h:s.take.N=s.N:=J;refine⟨_,_,CP (by rw[h];omega) nd,?_⟩;rw[g,f];exact Ou.put (l:=[]) (c.take d) J (by simp_all) J
theorem Ip{c:List Tk}{b:Xp}{d:H}{e:List Tk}(i:c=(x,d)::e)(j:(((x==5)||(x==4))&&CT d [[33]])=false)(l:(((x==5)||(x==4))&&CT d [[45]])=false)
  (m:∀(k:Nat) (s:PN) (r:List Tk),Ah s (c++r)→r≠[]→(a:Int)+s.P.deep≤16→0≤s.P.deep→16≤k+s.P.deep→s.N.length+b.sz≤800→(∀k t e,r=(k,t)::e→t≠[91])→∃f t,Iw (BH src k) src s=Y (f,t)∧Ou s t f (b.fl s.N.length) b.sz r):Wz src c b a:=by
 intro k f s r h n _ o p q y u v;obtain⟨f,rfl⟩:∃w,f=w+1:=⟨f-1,by omega⟩;have g:=h;rw[i,b_]at g;unfold B3;rw[g.is,j,Acf,g.is,l,Acf];exact m k s r h n o p q u v
theorem RS{e:Xp}{g:UInt8}{mk:Xp}{d:List Tk}(o:(g=33∧x=8)∨(g=45∧x=7))(p:mk.sz=e.sz+1)(q:∀k,mk.fl k=e.fl k++[nd x 0 [] [top k e.sz]])(u:Wz src d e a):Wz src (sg g::d) mk (a+1):=by
 intro k b s r f i _ j v N P a0 w;obtain⟨b,rfl⟩:∃y,b=y+1:=⟨b-1,by omega⟩;rw[b_]at f;have j:((a+1:Nat):Int)+s.P.deep≤16:=j;have z:(s.deep (s.P.deep+1)).take.P.deep=s.P.deep+1:=J;have l:(s.deep (s.P.deep+1)).take.N=s.N:=J;have A:d++r≠[]:=by cases d with
  |nil=>exact i
  |cons _ _=>exact T _ _
 have F:=(f.deep (s.P.deep+1)).take A;obtain⟨h,t,K,c⟩:=u k b _ r F i (.inr trivial) (by omega) (by omega) (by omega) (by omega) (by rw[l];omega) w;have m:=c.d;have L:=c.len;rw[z]at m;rw[l]at L;have n:Jo (B3 (BH src k) src b) x (s.P.line src) s=Y ((t.N.length:Int),(t.deep (t.P.deep-1)).put ⟨x,s.P.line src,0,[],[h]⟩):=by unfold Jo;rw[Bo (C1 v (by omega)),Gv,Acf,K];show Nl (BY t.P.deep) (BS (t.deep (t.P.deep-1)) _)=_;rw[Bo (by rw[m];exact C1 (by omega) (by omega)),CP (by show t.N.length<_;omega)];rfl
 refine⟨(t.N.length:Int),(t.deep (t.P.deep-1)).put ⟨x,s.P.line src,0,[],[h]⟩,?_,?_⟩;rotate_left
 ·rw[q,p]
  have:=Ou.put (s:=s) (t:=t.deep (t.P.deep-1)) (nd:=⟨x,s.P.line src,0,[],[h]⟩) (k:=e.sz+1) (c.a.deep _) (by show t.P.deep-1=_;omega) c.n (by rw[e.Af]);rw[c.x]at this⊢;exact this
 unfold B3;rw[f.is,f.is];rcases o with⟨rfl,rfl⟩|⟨rfl,rfl⟩
 ·exact n
 exact n
theorem Ah7{s:H}(f:(BN s DO).isSome=true):∃a:Nat,(BN s DO).getD 0=a∧a≤4∧CT s (Bz a)=true:=by
 have g:∀b∈DO,∀c,BN b.1 DO=Y c→∃a,a≤4∧c=((a:Nat):Int)∧CT b.1 (Bz a)=true:=by
  intro b e;simp only[DO,n_,u_,or_false]at e;rcases e with rfl|rfl|rfl|rfl|rfl|rfl|rfl|rfl|rfl|rfl|rfl<;>(intro c d;have d:=Option.some.inj d;subst d)
  ·exact⟨0,by decide,J,by decide+kernel⟩
  ·exact⟨1,by decide,J,by decide+kernel⟩
  ·exact⟨2,by decide,J,by decide+kernel⟩
  ·exact⟨2,by decide,J,by decide+kernel⟩
  ·exact⟨2,by decide,J,by decide+kernel⟩
  ·exact⟨2,by decide,J,by decide+kernel⟩
  ·exact⟨3,by decide,J,by decide+kernel⟩
  ·exact⟨3,by decide,J,by decide+kernel⟩
  ·exact⟨4,by decide,J,by decide+kernel⟩
  ·exact⟨4,by decide,J,by decide+kernel⟩
  exact⟨4,by decide,J,by decide+kernel⟩
 obtain⟨b,e,rfl⟩:=Kq f;obtain⟨c,d⟩:=Option.isSome_iff_exists.1 f;obtain⟨a,h,j,i⟩:=g b e c d;exact⟨a,by simp_all,h,i⟩
theorem sign_one{s:H}(d:CT s (Bz a)=true)(e:a≤4)(f:b≤4)(i:a≠b):CT s (Bz b)=false:=by
 cases g:CT s (Bz b)with
 |false=>rfl
 |true=>
  have h:=SA e d;have c:=SA f g;rw[h]at c;injection c with c
  omega
theorem Axy{g h:Xp}{d:H}{v j:List Tk}(F:c≤4)(w:CT d (Bz c)=true)(K:Chn src v g a (4-c))(L:WA src j h b (4-c))(k:Nat)(s:PN)(r:List Tk)(N:Ah s (v++(5,d)::(j++r)))(x:r≠[])(a9:Fo (c+1) r)(aa:((max a b:Nat):Int)+s.P.deep≤16)(P:0≤s.P.deep)(a0:16≤k+s.P.deep)(ab:s.N.length+(g.sz+h.sz+1)≤800)(a1:∀k t l,r=(k,t)::l→t≠[91])(ac:d≠[91]):
  ∃i e t,i≤g.sz+h.sz+1∧Ee (B3 (BH src k) src 40) src (4-c+1) s=(bif ((c:Int)==2)then Y (e,t)else KB (Ee (B3 (BH src k) src 40) src (4-c)) (Bz c) ((c:Int)==2) (s.P.line src) (1000-i) e t)∧Ou s t e ((Xp.bin d g h).fl s.N.length) (Xp.bin d g h).sz r:=by
 have a2:4-(4-c)=c:=by omega
 have ad:5-(4-c)=c+1:=by omega
 have a3:j++r≠[]:=by cases j with
  |nil=>exact x
  |cons _ _=>exact T _ _
 obtain⟨i,e,t,ae,l,f⟩:=K k s ((5,d)::(j++r)) N (T _ _) (fun af ag ah y o ai a4=>by cases y;exact sign_one w F a4 (by omega)) (by omega) P a0 (by omega) (fun k t l y=>by simp_all);rw[a2]at l;have z:=f.len;have aj:=f.d;obtain⟨p,m,a5,n⟩:=L k t.take r (f.a.take a3) x (by simp_all) (by show _+t.P.deep≤_;omega) (by show 0≤t.P.deep;omega) (by show _≤_+t.P.deep;omega) (by show t.N.length+_≤_;omega) a1;have a6:=n.len;have A:t.take.N=t.N:=J;rw[A]at a6;have a7:=CP (t:=m) (by omega) ⟨9,s.P.line src,0,d,[e,p]⟩;obtain⟨o,a8⟩:∃o,1000-i=o+1:=⟨1000-i-1,by omega⟩;refine⟨i+1,(m.N.length:Int),m.put ⟨9,s.P.line src,0,d,[e,p]⟩,by omega,?_,?_⟩
 ·rw[l,a8]
  show(bif t.P.is (Bz c)then _ else _)=_;have q:t.P.is (Bz c)=true:=by rw[f.a.is,w];rfl
  rw[q,Aa9,a5];show(BS m ⟨9,s.P.line src,0,t.P.next.text,[e,p]⟩).bind _=_;rw[f.a.text,a7,show 1000-(i+1)=o by omega];rfl
 have q:=n.x;have u:=n.n;rw[A]at q u;rw[f.n,z,V]at u;rw[z]at q;have:=Ou.put (s:=s) (t:=m) (nd:=⟨9,s.P.line src,0,d,[e,p]⟩) (k:=g.sz+h.sz+1) n.a (n.d.trans f.d) u (by rw[a_,g.Af,h.Af]);rw[f.x,q]at this⊢;exact this
structure Xc(src:H)(e:Xp):Prop where
 f:5≤e.DM→Wz src e.tk e e.dp
 c:∀d:Nat,d≤5→(5:Int)≤e.DM+d→WA src e.tk e e.dp d
 n:∀d:Nat,d≤4→(4:Int)≤e.DM+d→(e.DM=2→d≠2)→Chn src e.tk e e.dp d
theorem Xc.JE{a:Xp}(d:Wz src a.tk a a.dp)(f:5≤a.DM):Xc src a:=by
 have e:∀b:Nat,b≤5→WA src a.tk a a.dp b:=fun b c=>by
  have:=(Wz.chd d).all b (by omega);rwa[q_]at this
 exact⟨fun _=>d,fun b c _=>e b c,fun b c _ _=>(e b (by omega)).up⟩
theorem Xc.item{a:Xp}(e:Xc src a)(f:0≤a.DM)(c:Int)(b:Nat)(g:b≤4)(h:(5:Int)≤c+b):WA src (YJ c a.DM a.tk) a (L9 c a.DM a.dp) b:=by
 unfold YJ L9;by_cases d:c≤a.DM
 ·rw[Agd d,Agd d];exact e.c b (by omega) (by omega)
 rw[Akt d,Akt d];have:=(Wz.chd (Wz.paren (e.c 5 (W _) (by omega)))).all b (by omega);rwa[q_]at this
theorem JM{e:Xp}(a:e.A6):0≤e.DM:=by
 cases e with
 |bin s b c=>
  obtain⟨d,f,_,_⟩:=Ah7 a.1;show 0≤(BN s DO).getD 0;omega
 |_=>simp[Xp.DM]
theorem JS:∀{e:Xp},e.A6→Xc src e
 |.int d,c=>Xc.JE (Ip J J J fun k s r a f l p q g u=>by
   have b:CG (DF 30 d []) 0=d:=PM 30 d [] (by have:d<9223372036854775808:=c;omega) (by decide);have K:HR (DF 30 d [])=true:=by
    have L:KQ (DF 30 d [])=true:=by have x:d<9223372036854775808:=c;have A:=Ty 19 30 d [] (by omega) (by decide);unfold KQ;exact f_ (y_ A (by decide))
    unfold HR;rw[NU 30 d [] rfl,L];cases n:DF 30 d []with
    |nil=>exact absurd n (Tx 30 d [] (by decide))
    |cons _ _=>rfl
   have a:Ah s ((1,DF 30 d [])::r):=a;unfold Iw;rw[a.kind,a.text,K,b];rw[show v_ d 9223372036854775808=true from f_ c];exact Pf (e:=.int d) a f g J J) (by simp[Xp.DM])
 |.bool h,c=>Xc.JE (Ip J (by cases h<;>decide) (by cases h<;>decide) fun k s r a f l p q g u=>by
   have a:Ah s ((4,bif h then FV else Ec)::r):=a;unfold Iw;rw[a.kind,a.kind,a.kind,a.is,a.is];cases h with
   |false=>exact Pf (e:=.bool false) a f g J J
   |true=>exact Pf (e:=.bool true) a f g J J) (by simp[Xp.DM])
 |.text t,c=>Xc.JE (Ip J J J fun k s r a f l p q g u=>by
   have a:Ah s ((2,t)::r):=a;unfold Iw;rw[a.kind,a.kind,a.text];exact Pf (e:=.text t) a f g J J) (by simp[Xp.DM])
 |.var j,c=>Xc.JE (Ip J J J fun k s r a f l p q g u=>by
   have a:Ah s ((3,j)::r):=a;have y:s.take.P.is [[91]]=false:=by
    cases r with
    |nil=>exact absurd J f
    |cons b r=>
     obtain⟨o,i⟩:=b;rw[(a.take f).is];have:(i==[91])=false:=by simp_all
     simp[CT,this]
   unfold Iw;rw[a.kind,a.kind,a.kind,a.text,y];exact Pf (e:=.var j) a f g J J) (by simp[Xp.DM])
 |.index j e,c=>Xc.JE (Ip J J J fun k s r a f l p q g u=>by
   have a:Ah s ((3,j)::sg 91::(e.tk++[sg 93]++r)):=a;rw[V,c_]at a;have w:=a.take (T _ _);have y:s.take.P.is [[91]]=true:=by rw[w.is];rfl
   have l:((e.dp+1:Nat):Int)+s.P.deep≤16:=l;have g:s.N.length+(e.sz+1)≤800:=g;obtain⟨b,t,v,i⟩:=NS ((JS c.2).c 5 (W _) (by have:=JM c.2;omega)) 91 93 (Ams 93 (.inr J)) (by decide) (k:=k) w f (by show _+s.P.deep≤_;omega) p q (by show s.N.length+_≤_;omega) (by omega);have z:=i.len;have F:s.take.N=s.N:=J;have o:=i.x;have x:=i.n;rw[F]at z o x;unfold Iw;rw[a.kind,a.kind,a.kind,a.text,y];refine⟨(t.N.length:Int),t.put ⟨5,s.P.line src,0,j,[b]⟩,?_,?_⟩
   ·show(D9 (BH src k) [91] [93] s.take).bind _=_
    rw[v];exact CP (t:=t) (by omega) _
   have:=Ou.put (s:=s) (t:=t) (nd:=⟨5,s.P.line src,0,j,[b]⟩) (k:=e.sz+1) i.a i.d x (by rw[e.Af]);rw[o]at this⊢;exact this) (by simp[Xp.DM])
 |.len e,c=>Xc.JE (Ip J (by decide) (by decide) fun k s r a f l p q g u=>by
   have a:Ah s ((4,LD)::sg 40::(e.tk++[sg 41]++r)):=a;rw[V,c_]at a;have w:=a.take (T _ _);have l:((e.dp+1:Nat):Int)+s.P.deep≤16:=l;have g:s.N.length+(e.sz+1)≤800:=g;obtain⟨b,t,v,i⟩:=NS ((JS (e:=e) c).c 5 (W _) (by have:=JM (e:=e) c;omega)) 40 41 (Ams 41 (.inl J)) (by decide) (k:=k) w f (by show _+s.P.deep≤_;omega) p q (by show s.N.length+_≤_;omega) (by omega);have z:=i.len;have F:s.take.N=s.N:=J;have o:=i.x;have x:=i.n;rw[F]at z o x;unfold Iw;rw[a.kind,a.kind,a.kind,a.is,a.is,a.is];refine⟨(t.N.length:Int),t.put ⟨6,s.P.line src,0,[],[b]⟩,?_,?_⟩
   ·show(D9 (BH src k) [40] [41] s.take).bind _=_
    rw[v];exact CP (t:=t) (by omega) _
   have:=Ou.put (s:=s) (t:=t) (nd:=⟨6,s.P.line src,0,[],[b]⟩) (k:=e.sz+1) i.a i.d x (by rw[e.Af]);rw[o]at this⊢;exact this) (by simp[Xp.DM])
 |.neg e,c=>by
  have b:=JS (e:=e) c;exact Xc.JE (RS (e:=e) (.inr ⟨J,J⟩) J (fun _=>rfl) (VE (m:=5) (F_ _) b.f (b.c 5 (W _) (by have:=JM (e:=e) c;omega)) fun n=>n)) (by simp[Xp.DM])
 |.no e,c=>by
  have b:=JS (e:=e) c;exact Xc.JE (RS (e:=e) (.inl ⟨J,J⟩) J (fun _=>rfl) (VE (m:=5) (F_ _) b.f (b.c 5 (W _) (by have:=JM (e:=e) c;omega)) fun n=>n)) (by simp[Xp.DM])
 |.bin o a h,c=>by
  obtain⟨b,N,a0,a1⟩:=Ah7 c.1;have a2:=JS c.2.1;have a7:=JS c.2.2;have af:=JM c.2.1;have a8:=JM c.2.2;have a3:(Xp.bin o a h).DM=b:=N;have a9:=a7.item a8 ((b:Int)+1) (4-b) (by omega) (by omega);have aa:F3 (b:Int)=if b=2 then 3 else(b:Int):=by
   unfold F3;by_cases n:b=2
   ·simp_all
   rw[Akt n,show((b:Int)==2)=false by simp;omega,Acf]
  have ab:Chn src (YJ (F3 b) a.DM a.tk) a (L9 (F3 b) a.DM a.dp) (4-b):=by
   by_cases n:F3 (b:Int)≤a.DM
   ·unfold YJ L9
    rw[Agd n,Agd n];rw[aa]at n;refine a2.n (4-b) (by omega) ?_ ?_
    ·omega
    omega
   unfold YJ L9;rw[Akt n,Akt n];have:=(Wz.chd (Wz.paren (a2.c 5 (W _) (by omega)))).all (4-b) (by omega);rw[q_]at this;exact this.up
  have ac:o≠[91]:=by
   rintro rfl;revert a1;have:∀b≤4,¬CT [91] (Bz b)=true:=by decide+kernel
   exact this b a0
  have P:∀(k:Nat) (s:PN) (r:List Tk),Ah s ((Xp.bin o a h).tk++r)→r≠[]→Fo (b+1) r→((Xp.bin o a h).dp:Int)+s.P.deep≤16→0≤s.P.deep→16≤k+s.P.deep→s.N.length+(Xp.bin o a h).sz≤800→(∀k t v,r=(k,t)::v→t≠[91])→
    ∃d j t,d≤a.sz+h.sz+1∧Ee (B3 (BH src k) src 40) src (4-b+1) s=(bif ((b:Int)==2)then Y (j,t)else KB (Ee (B3 (BH src k) src 40) src (4-b)) (Bz b) ((b:Int)==2) (s.P.line src) (1000-d) j t)∧Ou s t j ((Xp.bin o a h).fl s.N.length) (Xp.bin o a h).sz r:=by
   intro k s r y f z w F L a4 a5;unfold Xp.tk at y;unfold Xp.dp at w;rw[N,V,b_]at y;rw[N]at w;exact Axy a0 a1 ab a9 k s r y f z w F L a4 a5 ac
  have L:5-(4-b)=b+1:=by omega
  have a4:4-(4-b)=b:=by omega
  have ad:WA src (Xp.bin o a h).tk (Xp.bin o a h) (Xp.bin o a h).dp (4-b+1):=by
   by_cases F:b=2
   ·intro k s r y f z l p q g u
    obtain⟨d,j,t,_,v,i⟩:=P k s r y f (z.mono (by omega)) l p q g u;refine⟨j,t,?_,i⟩;rw[v,F];rfl
   refine Chn.fin (by omega) ?_;intro k s r y f z l p q g u;rw[L]at z;obtain⟨d,j,t,x,v,i⟩:=P k s r y f z l p q g u;refine⟨d,j,t,x,?_,i⟩;rw[v,a4,show((b:Int)==2)=false by simp;omega];rfl
  have a5:∀w:Nat,w≤5→(5:Int)≤(Xp.bin o a h).DM+w→WA src (Xp.bin o a h).tk (Xp.bin o a h) (Xp.bin o a h).dp w:=by intro w K A;rw[a3]at A;have:=ad.all (w-(4-b+1)) (by omega);rwa[show 4-b+1+(w-(4-b+1))=w by omega]at this
  refine⟨fun n=>by omega,a5,fun w K A F=>?_⟩;by_cases a6:(5:Int)≤(Xp.bin o a h).DM+w
  ·exact(a5 w (by omega) a6).up
  rw[a3]at A a6 F;have ae:w=4-b:=by omega
  subst ae;intro k s r y f z l p q g u;rw[L]at z;obtain⟨d,j,t,x,v,i⟩:=P k s r y f z l p q g u;refine⟨d,j,t,x,?_,i⟩;have ag:b≠2:=fun n=>by omega
  rw[v,a4,show((b:Int)==2)=false by simp;omega];rfl
theorem Aol{a:Xp}(c:a.A6){k:Nat}{s:PN}{r:List Tk}(e:Ah s (a.tk++r))(f:r≠[])(g:Fo 0 r)(h:(a.dp:Int)+s.P.deep≤16)(i:0≤s.P.deep)(n:17≤k+s.P.deep)(j:s.N.length+a.sz≤800)(l:∀k t m,r=(k,t)::m→t≠[91]):∃d t,BH src k s=Y (d,t)∧Ou s t d (a.fl s.N.length) a.sz r:=by obtain⟨b,rfl⟩:∃b,k=b+1:=⟨k-1,by omega⟩;exact(JS c).c 5 (W _) (by have:=JM c;omega) b s r e f g h i (by omega) j l
end
structure Hd(l:List Tk):Prop where
 w:∀t q,l=(4,t)::q→t=FV∨t=Ec∨t=LD
 c:∀x q,l≠(3,x)::sg 40::q
 s:∀t q,l=(5,t)::q→t=[40]∨t=[45]∨t=[33]
 n:∀k t q,l=(k,t)::q→k≠0
theorem Hd.sign{c:UInt8}(f:c=40∨c=45∨c=33)(b:List Tk):Hd (sg c::b):=by
 refine⟨fun d b a=>?_,fun h b a=>?_,fun d b a=>?_,fun i d b a=>?_⟩<;>(injection a with a j;injection a with e g)
 ·cases e
 ·cases e
 ·subst g;rcases f with rfl|rfl|rfl<;>simp
 omega
theorem Hd.word(d:s=FV∨s=Ec∨s=LD)(b:List Tk):Hd ((4,s)::b):=by
 refine⟨fun s b a=>?_,fun e b a=>?_,fun s b a=>?_,fun f s b a=>?_⟩<;>(injection a with a g;injection a with c h)
 ·simp_all
 ·cases c
 ·cases c
 omega
theorem Xp.Av1:∀a:Xp,a.tk≠[]
 |.int _|.bool _|.text _|.var _|.index _ _|.len _|.neg _|.no _=>T _ _
 |.bin _ _ _=>by unfold Xp.tk;simp
theorem Hd.other{a:List Tk}(d:x=1∨x=2∨(x=3∧∀c,a≠sg 40::c)):Hd ((x,s)::a):=by
 refine⟨fun s a b=>?_,fun e a b=>?_,fun s a b=>?_,fun x s a b=>?_⟩<;>(injection b with b f;injection b with g h)
 ·omega
 ·simp_all
 ·omega
 omega
theorem Xp.hd:∀{e:Xp},e.A6→∀(a:List Tk),(∀b,a≠sg 40::b)→Hd (e.tk++a)
 |.int c,_,a,_=>Hd.other (.inl J)
 |.bool d,_,a,_=>by cases d<;>exact Hd.word (by simp) _
 |.text c,_,a,_=>Hd.other (.inr (.inl J))
 |.var g,_,a,f=>Hd.other (.inr (.inr ⟨J,f⟩))
 |.index g e,_,a,_=>Hd.other (.inr (.inr ⟨J,fun b e=>by simp_all⟩))
 |.len e,_,a,_=>Hd.word (by simp) _
 |.neg e,_,a,_=>Hd.sign (by simp) _
 |.no e,_,a,_=>Hd.sign (by simp) _
 |.bin c g d,h,a,f=>by
  have i:c≠[40]:=by rintro rfl;have:=h.1;revert this;decide+kernel
  show Hd (YJ _ g.DM g.tk++(5,c)::_++a);rw[V];unfold YJ;split
  ·exact Xp.hd h.2.1 _ fun b e=>by simp_all
  exact Hd.sign (.inl J) _
theorem Auc{a:UInt8}(h:a=41∨a=44∨a=59∨a=123∨a=93)(d:List Tk):Fo 0 (sg a::d):=by
 have e:∀a∈[(41:UInt8),44,59,123,93],∀b≤4,CT [a] (Bz b)=false:=by decide+kernel
 intro i j d c b _ f;injection c with c
 injection c with k g
 subst g;exact e a (by simp_all) b f
theorem Azl{a:UInt8}(f:a≠91)(c:List Tk):∀d b e,sg a::c=(d,b)::e→b≠[91]:=by simp_all
section
variable{src:H}
theorem Ya{e:Xp}(h:e.A6){a:PN}{b:UInt8}{c:List Tk}(d:b=41∨b=44∨b=59∨b=123∨b=93)(i:Ah a (e.tk++sg b::c))(j:(e.dp:Int)+a.P.deep≤16)(k:0≤a.P.deep)(l:a.N.length+e.sz≤800):∃f g,BH src 40 a=Y (f,g)∧Ou a g f (e.fl a.N.length) e.sz (sg b::c):=
 Aol h i (T _ _) (Auc d c) j k (by omega) l (Azl (by rcases d with rfl|rfl|rfl|rfl|rfl<;>decide) c)
structure Oa(s t:PN)(l:List Xp)(r:List Tk):Prop where
 a:Ah t r
 d:t.P.deep=s.P.deep
 n:t.N.map AU=s.N.map AU++Tq l s.N.length
theorem Oa.len{a b:PN}{c:List Xp}{e:List Tk}(f:Oa a b c e):b.N.length=a.N.length+Dq c:=by have d:=Akv j_ f.n;rw[d_,a_,d_,DX]at d;exact d
theorem Akf:∀(d:List Xp) (b:Xp),b.A6→G0 d→∀(g:Nat) (a:PN) (f:List Int) (h:List Tk),d.length+2≤g→f.length+d.length≤10000→Ah a (CV 0 ((b::d).map Xp.tk)++sg 41::h)→((LO (b::d):Nat):Int)+a.P.deep≤16→0≤a.P.deep→a.N.length+Dq (b::d)≤800→
  ∃c,Fw (BH src 40) g true a f=Y (f++AB (b::d) a.N.length,c)∧Oa a c (b::d) (sg 41::h)
 |[],b,k,_,0,a,f,h,o,_,_,_,_,_=>by omega
 |[],b,k,_,g+1,a,f,h,o,t,i,l,p,m=>by
  have i:Ah a (b.tk++[]++sg 41::h):=i;rw[o_]at i;have l:((max b.dp 0:Nat):Int)+a.P.deep≤16:=l;have m:a.N.length+(b.sz+0)≤800:=m;obtain⟨n,c,q,e⟩:=Ya (src:=src) k (.inl J) i (by omega) p (by omega);refine⟨c,?_,⟨e.a,e.d,by rw[e.n];simp[Tq]⟩⟩;unfold Fw;rw[Aa9,Bo Gu,q];show Fw _ g (c.P.is [[44]]) _ _=_;rw[e.a.is,show CT [41] [[44]]=false by decide,A_,Acf];obtain⟨j,rfl⟩:∃j,g=j+1:=⟨g-1,by omega⟩;show Y (f++[n],c)=Y (f++AB [b] a.N.length,c);rw[e.x];rfl
 |j::d,b,k,r,0,a,f,h,o,_,_,_,_,_=>by omega
 |j::d,b,k,r,g+1,a,f,h,o,t,i,l,p,m=>by
  have i:Ah a (b.tk++sg 44::(j.tk++CV 1 (d.map Xp.tk))++sg 41::h):=i;rw[V,b_]at i;have l:((max b.dp (LO (j::d)):Nat):Int)+a.P.deep≤16:=l;have m:a.N.length+(b.sz+Dq (j::d))≤800:=m;obtain⟨n,c,q,e⟩:=Ya (src:=src) k (.inr (.inl J)) i (by omega) p (by omega);have u:=e.len;have F:=e.d;have x:j.tk++CV 1 (d.map Xp.tk)++sg 41::h≠[]:=by simp
  have y:=e.a.take x;obtain⟨z,A,s⟩:=Akf d j r.1 r.2 g c.take (f++[n]) h (by simp_all) (by simp at t⊢;omega) y (by show _+c.P.deep≤_;omega) (by show 0≤c.P.deep;omega) (by show c.N.length+_≤_;omega);have v:c.take.N=c.N:=J;have w:=s.n;rw[v,e.n,u,V]at w;refine⟨z,?_,⟨s.a,s.d.trans e.d,w⟩⟩;unfold Fw;rw[Aa9,Bo Gu,q];show Fw _ g (c.P.is [[44]]) _ _=_;rw[e.a.is];show Fw _ g true c.take (f++[n])=_;rw[A,v,u,e.x];simp[AB]
theorem Aj1{g:H}{b:List Xp}(k:G0 b){a:PN}{r:List Tk}(p:r≠[])(i:Ah a ((3,g)::sg 40::(CV 0 (b.map Xp.tk)++sg 41::r)))(y:((LO b:Nat):Int)+a.P.deep≤16)(z:0≤a.P.deep)(q:a.N.length+(Dq b+1)≤800):
  ∃j d,JX (BH src 40) src a=Y (j,d)∧Ou a d j (Tq b a.N.length++[nd 21 0 g (AB b a.N.length)]) (Dq b+1) r:=by
 have u:=i.take (T _ _);have A:CV 0 (b.map Xp.tk)++sg 41::r≠[]:=by simp
 have e:=u.take A;have v:a.P.name=(g,a.P.take):=by unfold PS.name;rw[i.kind,i.text];rfl
 have F:PN.Ao {a with P:=a.P.name.2} [40]=a.take.take:=by rw[v];exact u.Ao (.inl J)
 unfold JX;show∃j d,(bif (PN.Ao {a with P:=a.P.name.2} [40]).P.is [[41]]then BS (PN.Ao {a with P:=a.P.name.2} [40]).take ⟨21,a.P.line src,0,a.P.name.1,[]⟩
  else(Fw (BH src 40) 1000 ((PN.Ao {a with P:=a.P.name.2} [40]).P.e==0) (PN.Ao {a with P:=a.P.name.2} [40]) []).bind fun r=>BS (r.2.Ao [41]) ⟨21,a.P.line src,0,a.P.name.1,r.1⟩)=Y (j,d)∧_
 rw[F,v];have m:a.take.take.N=a.N:=J;cases b with
 |nil=>
  have e:Ah a.take.take (sg 41::r):=e;rw[e.is];refine⟨_,_,CP (by show a.N.length<_;omega) _,?_⟩;exact Ou.put (s:=a) (l:=[]) (e.take p) J (by rw[o_];rfl) J
 |cons c b=>
  have K:a.take.take.P.is [[41]]=false:=by
   have n:=Xp.hd k.1 (CV 1 (b.map Xp.tk)++sg 41::r) (by
    intro f c;cases b with
    |nil=>injection c with c;injection c with o h;cases h
    |cons h b=>injection c with c;injection c with o h;cases h)
   have h:Ah a.take.take (c.tk++CV 1 (b.map Xp.tk)++sg 41::r):=e;rw[V]at h;cases o:c.tk++(CV 1 (b.map Xp.tk)++sg 41::r)with
   |nil=>rw[o]at h;have:=h.t;have w:=i.t;simp at o
   |cons L f=>
    obtain⟨w,x⟩:=L;rw[o]at h n;rw[h.is];by_cases N:w=5
    ·subst N
     rcases n.s x f rfl with rfl|rfl|rfl<;>rfl
    by_cases q:w=4
    ·subst q
     rcases n.w x f rfl with rfl|rfl|rfl<;>rfl
    simp_all
  rw[K,Acf];have o:a.take.take.P.e=0:=e.e;obtain⟨d,f,h⟩:=Akf (src:=src) b c k.1 k.2 1000 a.take.take [] r (by have:=WV (c::b);simp at this;omega) (by have:=WV (c::b);simp at this⊢;omega) e y z (by rw[m];omega);have w:=h.len;rw[m]at w;rw[o];have x:d.Ao [41]=d.take:=h.a.Ao (.inl J);have n:=h.n;rw[m]at n f;refine⟨(d.N.length:Int),d.take.put ⟨21,a.P.line src,0,g,AB (c::b) a.N.length⟩,?_,?_⟩
  ·show(Fw (BH src 40) 1000 true a.take.take []).bind _=_
   rw[f];show BS (d.Ao [41]) _=_;rw[x];exact CP (t:=d.take) (by show d.N.length<_;omega) _
  exact Ou.put (s:=a) (t:=d.take) (nd:=⟨21,a.P.line src,0,g,AB (c::b) a.N.length⟩) (h.a.take p) h.d n (by rw[DX])
theorem Al6{m:Rg}(r:m.A6){a:PN}{h:List Tk}(b:Ah a (m.tk++sg 59::h))(x:(m.dp:Int)+a.P.deep≤16)(y:0≤a.P.deep)(j:a.N.length+m.sz≤800):∃n c,JB (BH src 40) src a=Y (n,c)∧Ou a c n (m.fl a.N.length) m.sz (sg 59::h):=by
 unfold JB;cases m with
 |input=>
  have b:Ah a ((4,GZ)::sg 59::h):=b;rw[b.is];have j:a.N.length+1≤800:=j;refine⟨_,_,CP (by show a.N.length<_;omega) _,?_⟩;exact Ou.put (s:=a) (l:=[]) (b.take (T _ _)) J (by rw[o_];rfl) J
 |new f=>
  have b:Ah a ((4,Cb)::sg 40::(f.tk++[sg 41]++sg 59::h)):=b;rw[V,c_]at b;have i:=b.take (T _ _);have q:a.take.Ao [40]=a.take.take:=i.Ao (.inl J);have u:=i.take (by simp);have j:a.N.length+(f.sz+1)≤800:=j;obtain⟨n,c,d,g⟩:=Ya (src:=src) (e:=f) r (.inl J) u x y (by show a.N.length+_≤_;omega);have v:a.take.take.N=a.N:=J;have w:=g.len;have o:=g.n;have p:=g.x;rw[v]at w o p;have z:c.Ao [41]=c.take:=g.a.Ao (.inl J);rw[b.is,b.is];refine⟨(c.N.length:Int),c.take.put ⟨20,a.P.line src,0,[],[n]⟩,?_,?_⟩
  ·show(BH src 40 (a.take.Ao [40])).bind _=_
   rw[q,d];show BS (c.Ao [41]) _=_;rw[z];exact CP (t:=c.take) (by show c.N.length<_;omega) _
  have:=Ou.put (s:=a) (t:=c.take) (nd:=⟨20,a.P.line src,0,[],[n]⟩) (k:=f.sz+1) (g.a.take (T _ _)) g.d o (by rw[f.Af]);rw[p]at this⊢;exact this
 |call p q=>
  have b:Ah a ((3,p)::sg 40::(CV 0 (q.map Xp.tk)++[sg 41]++sg 59::h)):=b;rw[V,c_]at b;have z:EV a=Y true:=by
   unfold EV;obtain⟨a0,d,A,a1,a2,i⟩:=b.next;rw[b.kind];cases d with
   |nil=>cases i
   |cons g d=>
    injection i with o v
    injection o with o u
    show(match a.P.Ax with
     |_::c::_=>Y ((c.kind==5)&&(c.text==[40]))
     |_=>e_)=_
    rw[A];show Y ((g.kind==5)&&(g.text==[40]))=_;rw[o,u];rfl
  rw[b.is,b.is,z];exact Aj1 r.2 (T _ _) b x y j
 |expr f=>
  have u:=Xp.hd r (sg 59::h) (fun d f=>by simp_all);have b:Ah a (f.tk++sg 59::h):=b;obtain⟨o,d,v⟩:∃o d,f.tk++sg 59::h=o::d:=by
   cases v:f.tk++sg 59::h with
   |nil=>simp at v
   |cons o d=>exact⟨o,d,J⟩
  obtain⟨F,K⟩:=o;have p:=b;rw[v]at p u;have N:a.P.is [GZ]=false∧a.P.is [Cb]=false:=by
   rw[p.is,p.is];by_cases q:F=5
   ·subst q
    rcases u.s K d rfl with rfl|rfl|rfl<;>decide
   by_cases j:F=4
   ·subst j
    rcases u.w K d rfl with rfl|rfl|rfl<;>decide
   simp_all
  have z:EV a=Y false:=by
   unfold EV;rw[p.kind];cases L:F==3 with
   |false=>rfl
   |true=>
    have L:=eq_of_beq L;subst L;obtain⟨a0,w,A,a1,a2,i⟩:=p.next;show(match a.P.Ax with
     |_::c::_=>Y ((c.kind==5)&&(c.text==[40]))
     |_=>e_)=_
    rw[A];cases w with
    |nil=>
     have i:[]=d:=i;subst i;have P:=Akv j_ v;rw[a_,k_,k_]at P;exact absurd (List.eq_nil_of_length_eq_zero (by simp at P;omega)) f.Av1
    |cons g w=>
     show Y ((g.kind==5)&&(g.text==[40]))=_;have i:(g.kind,g.text)::Tm w=d:=i;cases q:(g.kind==5)&&(g.text==[40])with
     |false=>rfl
     |true=>
      rw[i_]at q;have P:g.kind=5:=eq_of_beq q.1;have a3:g.text=[40]:=eq_of_beq q.2;rw[P,a3]at i;exact absurd (by simp_all) (u.c K (Tm w))
  rw[N.1,N.2,z];exact Ya r (.inr (.inr (.inl J))) b x y j
end
def Ne(c:List Tk):Prop:=∀a b d,c=(a,b)::d→a=3∨a=0∨b≠Ed
theorem Sm.hd(d:Sm)(g:List Tk):∃a b h,d.tk++g=(a,b)::h∧(a=3∨(a=4∧b≠Ed∧b≠[125])):=by
 cases d with
 |lt f c=>exact⟨_,_,_,J,.inr ⟨J,by decide,by decide⟩⟩
 |set f c=>exact⟨_,_,_,J,.inl J⟩
 |put f i c=>exact⟨_,_,_,J,.inl J⟩
 |run f i=>exact⟨_,_,_,J,.inl J⟩
 |print e=>exact⟨_,_,_,J,.inr ⟨J,by decide,by decide⟩⟩
 |Fa=>exact⟨_,_,_,J,.inr ⟨J,by decide,by decide⟩⟩
 |ret e=>exact⟨_,_,_,J,.inr ⟨J,by decide,by decide⟩⟩
 |Kv e c=>exact⟨_,_,_,J,.inr ⟨J,by decide,by decide⟩⟩
 |KD e c=>exact⟨_,_,_,J,.inr ⟨J,by decide,by decide⟩⟩
 |FP e c f=>exact⟨_,_,_,J,.inr ⟨J,by decide,by decide⟩⟩
theorem Bl.ne(b:Bl)(c:List Tk):Ne (b.tk++sg 125::c):=by
 cases b with
 |nil=>
  intro f g h a;injection a with a k
  injection a with i d
  subst d;exact .inr (.inr (by decide))
 |cons j b=>
  intro f g h a;have a:j.tk++b.tk++sg 125::c=(f,g)::h:=a;rw[V]at a;obtain⟨m,n,o,l,e⟩:=j.hd (b.tk++sg 125::c);rw[l]at a;injection a with a k
  injection a with i d
  subst i d;rcases e with e|⟨_,e,_⟩
  ·omega
  simp_all
theorem Ne.is{b:PN}{a:List Tk}(h:Ne a)(d:a≠[])(e:Ah b a):b.P.is [Ed]=false:=by
 cases a with
 |nil=>exact absurd J d
 |cons f a=>
  obtain⟨g,c⟩:=f;rw[e.is];rcases h g c a rfl with rfl|rfl|h
  ·rfl
  ·rfl
  have:(c==Ed)=false:=by simp_all
  simp[CT,this]
section
variable{src:H}
def Blc(src:H)(f:Fq)(b:Bl):Prop:=∀(a:PN) (c:List Tk),Ah a (Ui b.tk++c)→c≠[]→((b.dp+1:Nat):Int)+a.P.deep≤16→0≤a.P.deep→a.N.length+(b.sz+1)≤800→∃d e,f a=Y (d,e)∧Ou a e d (b.fl a.N.length++[nd 18 0 [] (b.AB a.N.length)]) (b.sz+1) c
theorem Agb{b:Rg}(m:b.A6){s:PN}{g:List Tk}(n:g≠[])(e h:Int)(f:H)(i:Ah s (sg 61::(b.tk++sg 59::g)))(o:(b.dp:Int)+s.P.deep≤16)(p:0≤s.P.deep)(x:s.N.length+(b.sz+1)≤800):∃d a,Lg (BH src 40) src e h f s=Y (d,a)∧Ou s a d (b.fl s.N.length++[nd e 0 f [top s.N.length b.sz]]) (b.sz+1) g:=by
 have q:s.Ao [61]=s.take:=i.Ao (.inl J);obtain⟨d,a,r,c⟩:=Al6 (src:=src) m (i.take (by simp)) o p (by show s.N.length+_≤_;omega);have u:s.take.N=s.N:=J;have v:=c.len;have j:=c.n;have l:=c.x;rw[u]at v j l;have w:a.Ao [59]=a.take:=c.a.Ao (.inl J);refine⟨(a.N.length:Int),a.take.put ⟨e,h,0,f,[d]⟩,?_,?_⟩
 ·unfold Lg
  rw[q,r];show BS (a.Ao [59]) _=_;rw[w];exact CP (t:=a.take) (by show a.N.length<_;omega) _
 have:=Ou.put (s:=s) (t:=a.take) (nd:=⟨e,h,0,f,[d]⟩) (k:=b.sz+1) (c.a.take n) c.d j (by rw[b.Af]);rw[l]at this⊢;exact this
theorem Agc{b:Xp}(m:b.A6){s f:PN}{c:List Tk}(n:c≠[])(o:Ah f (b.tk++sg 59::c))(i:f.N=s.N)(p:f.P.deep=s.P.deep)(v:(b.dp:Int)+s.P.deep≤16)(w:0≤s.P.deep)(x:s.N.length+(b.sz+1)≤800)(g h:Int):∃e a,((BH src 40 f).bind fun c=>BS (c.2.Ao [59]) ⟨g,h,0,[],[c.1]⟩)=Y (e,a)∧Ou s a e (b.fl s.N.length++[nd g 0 [] [top s.N.length b.sz]]) (b.sz+1) c:=by
 obtain⟨e,a,q,d⟩:=Ya (src:=src) m (.inr (.inr (.inl J))) o (by omega) (by omega) (by rw[i];omega);have r:=d.len;have j:=d.n;have l:=d.x;rw[i]at r j l;have u:a.Ao [59]=a.take:=d.a.Ao (.inl J);refine⟨(a.N.length:Int),a.take.put ⟨g,h,0,[],[e]⟩,?_,?_⟩
 ·rw[q]
  show BS (a.Ao [59]) _=_;rw[u];exact CP (t:=a.take) (by show a.N.length<_;omega) _
 have:=Ou.put (s:=s) (t:=a.take) (nd:=⟨g,h,0,[],[e]⟩) (k:=b.sz+1) (d.a.take n) (d.d.trans p) j (by rw[b.Af]);rw[l]at this⊢;exact this
theorem WO{l:Fq}{a:Xp}(q:a.A6){b:Bl}(t:Blc src l b){s d:PN}{r:List Tk}(u:r≠[])(j:Ah d (a.tk++(Ui b.tk++r)))(m:d.N=s.N)(v:d.P.deep=s.P.deep)(F:((max a.dp (b.dp+1):Nat):Int)+s.P.deep≤16)(K:0≤s.P.deep)(L:s.N.length+(a.sz+(b.sz+1))≤800):
  ∃h e i c,BH src 40 d=Y (h,e)∧l e=Y (i,c)∧Ah c r∧c.P.deep=s.P.deep∧h=top s.N.length a.sz∧i=top (s.N.length+a.sz) (b.sz+1)∧c.N.map AU=s.N.map AU++(a.fl s.N.length++(b.fl (s.N.length+a.sz)++[nd 18 0 [] (b.AB (s.N.length+a.sz))]))∧c.N.length=s.N.length+(a.sz+(b.sz+1)):=by
 have j:Ah d (a.tk++sg 123::(b.tk++[sg 125]++r)):=j;obtain⟨h,e,w,f⟩:=Ya (src:=src) q (.inr (.inr (.inr (.inl J)))) j (by omega) (by omega) (by rw[m];omega);have k:=f.len;have n:=f.n;have o:=f.x;have x:=f.d.trans v;rw[m]at k n o;obtain⟨i,c,y,g⟩:=t e r f.a u (by omega) (by omega) (by omega);have z:=g.len;have A:=g.n;have p:=g.x;rw[n,k]at A;rw[k]at p z;exact⟨h,e,i,c,w,y,g.a,g.d.trans x,o,p,by simp_all,by omega⟩
theorem Ly{a:PN}{c:List Tk}(b:Ah a ((3,s)::c)):a.P.name=(s,a.P.take):=by unfold PS.name;rw[b.kind,b.text];rfl
theorem V6{a:PN}{g:List Tk}(j:t≠[40])(c:Ah a ((3,s)::(5,t)::g)):EV a=Y false:=by
 unfold EV;obtain⟨k,d,h,l,m,e⟩:=c.next;rw[c.kind];cases d with
 |nil=>cases e
 |cons f d=>
  injection e with b n
  injection b with b i
  show(match a.P.Ax with
   |_::t::_=>Y ((t.kind==5)&&(t.text==[40]))
   |_=>e_)=_
  rw[h];show Y ((f.kind==5)&&(f.text==[40]))=_;rw[b,i,show(t==[40])=false by simp_all];rfl
theorem Ad8{a:PN}{h:List Tk}(c:Ah a ((3,s)::sg 40::h)):EV a=Y true:=by
 unfold EV;obtain⟨k,d,i,l,m,e⟩:=c.next;rw[c.kind];cases d with
 |nil=>cases e
 |cons f d=>
  injection e with b n
  injection b with b j
  show(match a.P.Ax with
   |_::g::_=>Y ((g.kind==5)&&(g.text==[40]))
   |_=>e_)=_
  rw[i];show Y ((f.kind==5)&&(f.text==[40]))=_;rw[b,j];rfl
def Stc(src:H)(f:Fq)(b:Sm):Prop:=∀(a:PN) (c:List Tk),Ah a (b.tk++c)→c≠[]→Ne c→(b.dp:Int)+a.P.deep≤16→0≤a.P.deep→a.N.length+b.sz≤800→∃d e,f a=Y (d,e)∧Ou a e d (b.fl a.N.length) b.sz c
theorem Asa{L:Fq}{F:Sm}(u:F.A6)(a4:∀c:Bl,(∃d q,F=.Kv d c∨F=.KD d c∨F=.FP d c q∨F=.FP d q c)→Blc src L c):Stc src (EP (BH src 40) L src) F:=by
 intro a m b w a8 o y j;unfold EP;cases F with
 |lt i v=>
  have b:Ah a ((4,MB)::(3,i)::sg 61::(v.tk++[sg 59]++m)):=b;rw[V,c_]at b;have n:=b.take (T _ _);have x:=n.take (T _ _);rw[b.is,Ly n];obtain⟨g,f,p,h⟩:=Agb (src:=src) u.2 w 10 (a.P.line src) i (s:=a.take.take) x o y j;exact⟨g,f,p,h.a,h.d,h.n,h.x,h.ln⟩
 |set i v=>
  have b:Ah a ((3,i)::sg 61::(v.tk++[sg 59]++m)):=b;rw[V,c_]at b;rw[b.is,b.is,b.is,b.is,b.is];have n:=b.take (T _ _);show∃g f,HM (BH src 40) src (a.P.line src) a=Y (g,f)∧_;unfold HM;rw[V6 (by decide) b,Ly b];show∃g f,(bif a.take.P.is [[91]]then _ else Lg (BH src 40) src 11 (a.P.line src) i a.take)=Y (g,f)∧_;have z:a.take.P.is [[91]]=false:=by rw[n.is];rfl
  rw[z];obtain⟨g,f,p,h⟩:=Agb (src:=src) u.2 w 11 (a.P.line src) i n o y j;exact⟨g,f,p,h.a,h.d,h.n,h.x,h.ln⟩
 |put i x c=>
  have b:Ah a ((3,i)::sg 91::(x.tk++sg 93::sg 61::(c.tk++[sg 59])++m)):=b;simp only[V,b_,E_]at b;have n:=b.take (T _ _);have o:((max (x.dp+1) c.dp:Nat):Int)+a.P.deep≤16:=o;have j:a.N.length+(x.sz+c.sz+1)≤800:=j;have z:a.take.P.is [[91]]=true:=by rw[n.is];rfl
  obtain⟨g,f,p,h⟩:=NS (src:=src) ((JS u.2.1).c 5 (W _) (by have:=JM u.2.1;omega)) 91 93 (Ams 93 (.inr J)) (by decide) (k:=40) n (T _ _) (by show _+a.P.deep≤_;omega) y (by show(16:Int)≤_+a.P.deep;omega) (by show a.N.length+_≤_;omega) (by omega);have a5:a.take.N=a.N:=J;have N:=h.len;have P:=h.n;have a0:=h.x;have a9:f.P.deep=a.P.deep:=h.d;rw[a5]at N P a0;have a2:f.Ao [61]=f.take:=h.a.Ao (.inl J);obtain⟨a1,A,K,v⟩:=Ya (src:=src) u.2.2 (.inr (.inr (.inl J))) (h.a.take (by simp)) (by show _+f.P.deep≤_;omega) (by show 0≤f.P.deep;omega) (by show f.N.length+_≤_;omega);have aa:f.take.N=f.N:=J;have ab:=v.len;have a3:=v.n;have a6:=v.x;rw[aa]at ab a3 a6;rw[P,N,V]at a3;rw[N]at a6;have a7:A.Ao [59]=A.take:=v.a.Ao (.inl J);rw[b.is,b.is,b.is,b.is,b.is];show∃g f,HM (BH src 40) src (a.P.line src) a=Y (g,f)∧_;unfold HM;rw[V6 (by decide) b,Ly b];refine⟨(A.N.length:Int),A.take.put ⟨12,a.P.line src,0,i,[g,a1]⟩,?_,?_⟩
  ·show(bif a.take.P.is [[91]]then(D9 (BH src 40) [91] [93] a.take).bind _ else _)=_
   rw[z,Aa9,p];show(BH src 40 (f.Ao [61])).bind _=_;rw[a2,K];show BS (A.Ao [59]) _=_;rw[a7];exact CP (t:=A.take) (by show A.N.length<_;omega) _
  have:=Ou.put (s:=a) (t:=A.take) (nd:=⟨12,a.P.line src,0,i,[g,a1]⟩) (k:=x.sz+c.sz+1) (v.a.take w) (v.d.trans a9) a3 (by rw[a_,x.Af,c.Af]);rw[a0,a6]at this⊢;exact this
 |run a3 A=>
  have b:Ah a ((3,a3)::sg 40::(CV 0 (A.map Xp.tk)++[sg 41,sg 59]++m)):=b;rw[V]at b;have j:a.N.length+(Dq A+2)≤800:=j;obtain⟨g,f,p,h⟩:=Aj1 (src:=src) (r:=sg 59::m) u.2 (T _ _) b o y (by omega);have N:=h.len;have a7:f.Ao [59]=f.take:=h.a.Ao (.inl J);rw[b.is,b.is,b.is,b.is,b.is];show∃g f,HM (BH src 40) src (a.P.line src) a=Y (g,f)∧_;unfold HM;rw[Ad8 b];refine⟨(f.N.length:Int),f.take.put ⟨13,a.P.line src,0,[],[g]⟩,?_,?_⟩
  ·show(JX (BH src 40) src a).bind _=_
   rw[p];show BS (f.Ao [59]) _=_;rw[a7];exact CP (t:=f.take) (by show f.N.length<_;omega) _
  have:=Ou.put (s:=a) (t:=f.take) (nd:=⟨13,a.P.line src,0,[],[g]⟩) (k:=Dq A+2) (h.a.take w) h.d h.n (by rw[h.ln]);rw[h.x]at this⊢;exact this
 |print d=>
  have b:Ah a ((4,F9)::(d.tk++[sg 59]++m)):=b;rw[V]at b;rw[b.is,b.is];exact Agc (s:=a) u w (b.take (by simp)) J J o y j 14 _
 |Fa=>
  have b:Ah a ((4,BZ)::sg 59::m):=b;have n:=b.take (T _ _);rw[b.is,b.is,b.is,b.is,b.is,n.is];have a2:a.take.Ao [59]=a.take.take:=n.Ao (.inl J);have j:a.N.length+1≤800:=j;refine⟨(a.N.length:Int),a.take.take.put ⟨17,a.P.line src,0,[],[]⟩,?_,?_⟩
  ·show BS (a.take.Ao [59]) _=_
   rw[a2];exact CP (t:=a.take.take) (by show a.N.length<_;omega) _
  exact Ou.put (s:=a) (t:=a.take.take) (l:=[]) (n.take w) J (by rw[o_];rfl) J
 |ret d=>
  have b:Ah a ((4,BZ)::(d.tk++[sg 59]++m)):=b;rw[V,c_]at b;have n:=b.take (by simp);have z:a.take.P.is [[59]]=false:=by
   have h:=Xp.hd (e:=d) u (sg 59::m) (fun p d=>by simp_all);obtain⟨x,p,A⟩:∃x p,d.tk++sg 59::m=x::p:=by
    cases A:d.tk++sg 59::m with
    |nil=>simp at A
    |cons x p=>exact⟨x,p,J⟩
   obtain⟨a2,a3⟩:=x;rw[A]at n h;rw[n.is];by_cases a6:a2=5
   ·subst a6
    rcases h.s a3 p rfl with rfl|rfl|rfl<;>decide
   by_cases j:a2=4
   ·subst j
    rcases h.w a3 p rfl with rfl|rfl|rfl<;>decide
   simp_all
  rw[b.is,b.is,b.is,b.is,b.is,z];exact Agc (s:=a) u w n J J o y j 17 _
 |Kv d c=>
  have b:Ah a ((4,E6)::(d.tk++Ui c.tk++m)):=b;rw[V]at b;have o:((max d.dp (c.dp+1):Nat):Int)+a.P.deep≤16:=o;have j:a.N.length+(d.sz+(c.sz+1)+1)≤800:=j;obtain⟨i,f,g,h,p,K,n,v,x,A,a2,a6⟩:=WO (src:=src) (s:=a) u.1 (a4 c ⟨d,c,.inl J⟩) w (b.take (by simp)) J J o y (by omega);rw[b.is,b.is,b.is];refine⟨(h.N.length:Int),h.put ⟨16,a.P.line src,0,[],[i,g]⟩,?_,?_⟩
  ·show(BH src 40 a.take).bind _=_
   rw[p];show(L f).bind _=_;rw[K];exact CP (t:=h) (by omega) _
  have:=Ou.put (s:=a) (t:=h) (nd:=⟨16,a.P.line src,0,[],[i,g]⟩) (k:=d.sz+(c.sz+1)+1) n v a2 (by simp[d.Af,c.Af]);rw[x,A]at this⊢;exact this
 |KD d c=>
  have b:Ah a ((4,NT)::(d.tk++Ui c.tk++m)):=b;rw[V]at b;have o:((max d.dp (c.dp+1):Nat):Int)+a.P.deep≤16:=o;have j:a.N.length+(d.sz+(c.sz+1)+1)≤800:=j;obtain⟨i,f,g,h,p,K,n,v,x,A,a2,a6⟩:=WO (src:=src) (s:=a) u.1 (a4 c ⟨d,c,.inr (.inl J)⟩) w (b.take (by simp)) J J o y (by omega);have z:=a8.is w n;rw[b.is,b.is,b.is,b.is];refine⟨(h.N.length:Int),h.put ⟨15,a.P.line src,0,[],[i,g]⟩,?_,?_⟩
  ·show(BH src 40 a.take).bind _=_
   rw[p];show(L f).bind _=_;rw[K];show(bif h.P.is [Ed]then _ else BS h _)=_;rw[z];exact CP (t:=h) (by omega) _
  have:=Ou.put (s:=a) (t:=h) (nd:=⟨15,a.P.line src,0,[],[i,g]⟩) (k:=d.sz+(c.sz+1)+1) n v a2 (by simp[d.Af,c.Af]);rw[x,A]at this⊢;exact this
 |FP d c q=>
  have b:Ah a ((4,NT)::(d.tk++Ui c.tk++(4,Ed)::Ui q.tk++m)):=b;rw[V,V,b_]at b;have o:((max d.dp (max (c.dp+1) (q.dp+1)):Nat):Int)+a.P.deep≤16:=o;have j:a.N.length+(d.sz+(c.sz+1)+(q.sz+1)+1)≤800:=j;obtain⟨i,f,g,h,p,K,n,v,x,A,a2,a6⟩:=WO (src:=src) (s:=a) (r:=(4,Ed)::(Ui q.tk++m)) u.1 (a4 c ⟨d,q,.inr (.inr (.inl J))⟩) (T _ _) (b.take (by simp)) J J (by omega) y (by omega);have z:h.P.is [Ed]=true:=by rw[n.is];decide
  obtain⟨a1,a7,a9,a3⟩:=a4 q ⟨d,c,.inr (.inr (.inr J))⟩ h.take m (n.take (by simp)) w (by show _+h.P.deep≤_;omega) (by show 0≤h.P.deep;omega) (by show h.N.length+_≤_;omega);have a5:h.take.N=h.N:=J;have P:=a3.n;have a0:=a3.x;have N:=a3.len;rw[a5,a2,a6,V]at P;rw[a5,a6]at a0 N;have aa:a.N.length+(d.sz+(c.sz+1))=a.N.length+d.sz+(c.sz+1):=by omega
  rw[aa]at P a0;rw[b.is,b.is,b.is,b.is];refine⟨(a7.N.length:Int),a7.put ⟨15,a.P.line src,0,[],[i,g,a1]⟩,?_,?_⟩
  ·show(BH src 40 a.take).bind _=_
   rw[p];show(L f).bind _=_;rw[K];show(bif h.P.is [Ed]then(L h.take).bind _ else _)=_;rw[z,Aa9,a9];exact CP (t:=a7) (by omega) _
  have:=Ou.put (s:=a) (t:=a7) (nd:=⟨15,a.P.line src,0,[],[i,g,a1]⟩) (k:=d.sz+(c.sz+1)+(q.sz+1)+1)
   (l:=d.fl a.N.length++(c.fl (a.N.length+d.sz)++[nd 18 0 [] (c.AB (a.N.length+d.sz))])++(q.fl (a.N.length+d.sz+(c.sz+1))++[nd 18 0 [] (q.AB (a.N.length+d.sz+(c.sz+1)))])) a3.a (a3.d.trans v) (by rw[P]) (by simp[d.Af,c.Af,q.Af];omega)
  rw[x,A,a0]at this⊢;exact this
theorem Ze{i:Fq}{D:Nat}(o:∀c:Sm,c.A6→c.dp≤D→Stc src i c):∀(b:Bl),b.A6→b.dp≤D→∀(g:Nat) (a:PN) (f:List Int) (d:List Tk),b.sz+1≤g→f.length+b.sz≤10000→Ah a (b.tk++sg 125::d)→(b.dp:Int)+a.P.deep≤16→0≤a.P.deep→a.N.length+b.sz≤800→
  ∃h,Fy i g a f=Y (f++b.AB a.N.length,h)∧Ah h (sg 125::d)∧h.P.deep=a.P.deep∧h.N.map AU=a.N.map AU++b.fl a.N.length
 |b,_,_,0,_,_,_,k,_,_,_,_,_=>by omega
 |.nil,_,_,g+1,a,f,d,k,l,e,m,p,n=>by
  have e:Ah a (sg 125::d):=e;refine⟨a,?_,e,J,by simp[Bl.fl]⟩;unfold Fy;rw[e.is,e.e];show Y (f,a)=Y (f++[],a);rw[o_]
 |.cons c b,q,r,g+1,a,f,d,k,l,e,m,p,n=>by
  have e:Ah a (c.tk++b.tk++sg 125::d):=e;rw[V]at e;have m:((max c.dp b.dp:Nat):Int)+a.P.deep≤16:=m;have n:a.N.length+(c.sz+b.sz)≤800:=n;have r:max c.dp b.dp≤D:=r;have k:c.sz+b.sz+1≤g+1:=k;have l:f.length+(c.sz+b.sz)≤10000:=l;have P:=c.Ey;obtain⟨s,h,x,j⟩:=o c q.1 (by omega) a (b.tk++sg 125::d) e (by simp) (b.ne d) (by omega) p (by omega);have t:=j.len;have y:=j.d;obtain⟨z,u,A,F,v⟩:=Ze o b q.2 (by omega) g h (f++[s]) d (by omega) (by simp;omega) j.a (by omega) (by omega) (by omega);rw[j.n,t,V]at v;refine⟨z,?_,A,F.trans y,v⟩;have K:a.P.is [[125]]=false:=by
   obtain⟨a0,L,u,N,w⟩:=c.hd (b.tk++sg 125::d);rw[N]at e;rw[e.is];rcases w with rfl|⟨_,_,w⟩
   ·rfl
   have:(L==[125])=false:=by simp_all
   simp[CT,this]
  unfold Fy;rw[e.e,K];show(bif true then Nl (decide (f.length<900000)) ((i a).bind fun d=>Fy i g d.2 (f++[d.1]))else _)=_;rw[Aa9,Bo Gu,x];show Fy i g h (f++[s])=_;rw[u,t,j.x];simp[Bl.AB]
theorem Aas{g:Fq}{c:Bl}(m:∀e:Sm,e.A6→e.dp≤c.dp→Stc src g e)(n:c.A6):Blc src (IZ g src) c:=by
 intro a h d o w p x;have d:Ah a (sg 123::(c.tk++[sg 125]++h)):=d;rw[V,c_]at d;have q:a.P.is [[123]]=true:=by rw[d.is];rfl
 have r:=(d.deep (a.P.deep+1)).take (by simp);have u:(a.deep (a.P.deep+1)).take.P.deep=a.P.deep+1:=J;have i:(a.deep (a.P.deep+1)).take.N=a.N:=J;obtain⟨b,j,k,l,f⟩:=Ze m c n (W _) 1000 (a.deep (a.P.deep+1)).take [] h (by omega) (by simp;omega) r (by omega) (by omega) (by rw[i];omega);rw[i]at j f;rw[u]at l;have y:b.N.length=a.N.length+c.sz:=by have:=Akv j_ f;rw[d_,a_,d_,c.Af]at this;exact this
 have v:b.Ao [125]=b.take:=k.Ao (.inl J);refine⟨(b.N.length:Int),(b.take.deep (b.take.P.deep-1)).put ⟨18,a.P.line src,0,[],c.AB a.N.length⟩,?_,?_⟩
 ·unfold IZ
  rw[q,Aa9,Bo (C1 p (by omega)),Gv,Acf,j];show Nl (BY (b.Ao [125]).P.deep) (BS ((b.Ao [125]).deep ((b.Ao [125]).P.deep-1)) _)=_;rw[v,Bo (by show BY b.P.deep=true;rw[l];exact C1 (by omega) (by omega))];exact CP (t:=b.take.deep (b.take.P.deep-1)) (by show b.N.length<_;omega) _
 exact Ou.put (s:=a) (t:=b.take.deep (b.take.P.deep-1)) (nd:=⟨18,a.P.line src,0,[],c.AB a.N.length⟩) ((k.take o).deep _) (by show b.P.deep-1=_;omega) f (by rw[c.Af])
theorem Zh:∀(k:Nat) (b:Sm),b.A6→b.dp<k→Stc src (QY (BH src 40) src k) b
 |0,_,_,d=>absurd d (Nat.not_lt_zero _)
 |k+1,b,c,d=>by
  refine Asa c fun a g=>?_;have h:a.A6∧a.dp+1≤b.dp:=by
   obtain⟨e,f,rfl|rfl|rfl|rfl⟩:=g
   ·exact⟨c.2,N_ _ _⟩
   ·exact⟨c.2,N_ _ _⟩
   ·exact⟨c.2.1,by show a.dp+1≤max e.dp (max (a.dp+1) (f.dp+1));omega⟩
   exact⟨c.2.2,by show a.dp+1≤max e.dp (max (f.dp+1) (a.dp+1));omega⟩
  exact Aas (fun e f i=>Zh k e f (by omega)) h.1
theorem Wi{a:Bl}(b:a.A6)(e:a.dp<40):Blc src (EA src) a:=Aas (fun c d f=>Zh 40 c d (by omega)) b
theorem Aa7(a:1≤x)(b:x≤4):typeOf (EY x)=x:=by
 have:x=1∨x=2∨x=3∨x=4:=by omega
 rcases this with rfl|rfl|rfl|rfl<;>decide+kernel
theorem Afb{a:PN}{c:List Tk}(d:1≤x)(e:x≤4)(b:Ah a ((4,EY x)::c)):AS a=(x,a.take):=by unfold AS;rw[b.kind,b.text,Aa7 d e,show(x==0)=false by simp;omega];rfl
theorem U7:∀(b:List Pm) (c:Pm),KS c→(∀g∈b,KS g)→∀(d:Nat) (a:PN) (h:List Pm) (e:List Tk),b.length+2≤d→h.length+b.length≤10000→Ah a (CV 0 ((c::b).map pmK)++sg 41::e)→
  ∃f,DT d true a h=Y (h++c::b,f)∧Ah f (sg 41::e)∧f.P.deep=a.P.deep∧f.N=a.N
 |_,_,_,_,0,_,_,_,r,_,_=>by omega
 |b,c,n,o,d+1,a,h,e,r,l,j=>by
  have s:∃g,CV 1 (b.map pmK)++sg 41::e=g∧g≠[]:=⟨_,J,by simp⟩;obtain⟨g,i,t⟩:=s;have j:Ah a ((3,c.1)::(4,EY c.2)::(CV 1 (b.map pmK)++sg 41::e)):=j;rw[i]at j;have p:=j.take (T _ _);have k:=p.take t;have q:=Ly j;have u:AS {a with P:=a.P.name.2}=(c.2,a.take.take):=by rw[q];exact Afb n.2.1 n.2.2 p
  unfold DT;rw[Aa9,Bo Gu];show∃f,DT d ((AS {a with P:=a.P.name.2}).2.P.is [[44]]) (bif (AS {a with P:=a.P.name.2}).2.P.is [[44]]then(AS {a with P:=a.P.name.2}).2.take else(AS {a with P:=a.P.name.2}).2) (h++[(a.P.name.1,(AS {a with P:=a.P.name.2}).1)])=Y (_,f)∧_;rw[u,q];cases b with
  |nil=>
   have i:sg 41::e=g:=i;subst i;obtain⟨m,rfl⟩:∃m,d=m+1:=⟨d-1,by omega⟩;rw[k.is];exact⟨a.take.take,J,k,J,J⟩
  |cons m b=>
   have i:sg 44::(pmK m++CV 1 (b.map pmK))++sg 41::e=g:=i;subst i;have v:a.take.take.P.is [[44]]=true:=by rw[k.is];rfl
   have w:=k.take (by simp);rw[v];obtain⟨f,x,y,z,A⟩:=U7 b m (o m (l_ ..)) (fun F l=>o F (h_ _ l)) d a.take.take.take (h++[(c.1,c.2)]) e (by simp_all) (by simp at l⊢;omega) w;refine⟨f,?_,y,z,A⟩;show DT d true a.take.take.take (h++[(c.1,c.2)])=_;rw[x];simp
theorem Awg{b:List Pm}(g:∀k∈b,KS k)(h:b.length≤3){a:PN}{e:List Tk}(i:e≠[])(c:Ah a (CV 0 (b.map pmK)++sg 41::e)):∃d,SE a=Y (b,d)∧Ah d e∧d.P.deep=a.P.deep∧d.N=a.N:=by
 unfold SE;cases b with
 |nil=>
  have c:Ah a (sg 41::e):=c;rw[c.is];exact⟨a.take,J,c.take i,J,J⟩
 |cons f b=>
  have l:a.P.is [[41]]=false:=by have c:Ah a ((3,f.1)::(4,EY f.2)::(CV 1 (b.map pmK)++sg 41::e)):=c;rw[c.is];rfl
  have m:=c.e;obtain⟨d,n,j,o,p⟩:=U7 b f (g f (l_ ..)) (fun q r=>g q (h_ _ r)) 1000 a [] e (by simp at h;omega) (by simp at h⊢;omega) c;rw[l,m];refine⟨d.take,?_,j.take i,o,p⟩;show(DT 1000 true a []).bind _=_;rw[n];show Y (f::b,d.Ao [41])=_;rw[j.Ao (.inl J)]
theorem X2{a:Fd}(x:a.A6)(a7:a.body.dp+1≤16){c:PN}{e:List Tk}(r:e≠[])(i:Ah c (a.tk++e))(y:c.P.deep=0)(z:c.N.length+(a.body.sz+1)≤800):
  ∃m b,FH (EA src) src c=Y (m,b)∧Ah b e∧b.P.deep=0∧b.N.map AU=c.N.map AU++(a.body.fl c.N.length++[nd 18 0 [] (a.body.AB c.N.length)])∧EO m=⟨a.name,0,a.params,a.ret,top c.N.length (a.body.sz+1)⟩:=by
 obtain⟨a8,A,F,a9,K,s⟩:=x;have i:Ah c ((4,Gb)::(3,a.name)::sg 40::(CV 0 (a.params.map pmK)++sg 41::(N3 a.ret++Ui a.body.tk)++e)):=i;rw[V,b_,V]at i;have t:=i.take (T _ _);have u:=t.take (T _ _);have L:=u.take (by simp);have v:c.Ao Gb=c.take:=i.Ao (.inr J);have w:=Ly t;have N:PN.Ao {c.Ao Gb with P:=(c.Ao Gb).P.name.2} [40]=c.take.take.take:=by rw[v,w];exact u.Ao (.inl J)
 have a0:N3 a.ret++(Ui a.body.tk++e)≠[]:=by simp
 obtain⟨b,a1,d,a2,a3⟩:=Awg A F a0 L;have o:b.N=c.N:=a3;have n:b.P.deep=0:=a2.trans y;unfold FH;rw[N,a1];show∃m j,(bif b.P.is [[123]]then(EA src b).bind fun f=>Y ((⟨(c.Ao Gb).P.name.1,c.P.line src,a.params,0,f.1⟩:Fn),f.2)else(EA src (AS b).2).bind fun f=>Y ((⟨(c.Ao Gb).P.name.1,c.P.line src,a.params,(AS b).1,f.1⟩:Fn),f.2))=Y (m,j)∧_;rw[v,w];by_cases p:a.ret=0
 ·have d:Ah b (Ui a.body.tk++e):=by unfold N3 at d;rw[Agd p]at d;exact d
  have q:b.P.is [[123]]=true:=by have d:Ah b (sg 123::(a.body.tk++[sg 125]++e)):=d;rw[d.is];rfl
  obtain⟨a4,j,f,g⟩:=Wi (src:=src) s (by omega) b e d r (by omega) (by omega) (by simp_all);have k:=g.n;have l:=g.x;rw[o]at k l;rw[q,Aa9,f];exact⟨_,j,J,g.a,g.d.trans n,k,by show Fn.mk _ _ _ _ _=_;rw[l,p]⟩
 have d:Ah b ((4,EY a.ret)::(Ui a.body.tk++e)):=by unfold N3 at d;rw[Akt p]at d;exact d
 have q:b.P.is [[123]]=false:=by
  rw[d.is];have:a.ret=1∨a.ret=2∨a.ret=3∨a.ret=4:=by omega
  rcases this with h|h|h|h<;>rw[h]<;>decide+kernel
 have a5:=Afb (by omega) K d;obtain⟨a4,j,f,g⟩:=Wi (src:=src) s (by omega) b.take e (d.take (by simp)) r (by show _+b.P.deep≤_;rw[n];omega) (by show 0≤b.P.deep;rw[n];exact F_ _) (by show b.N.length+_≤_;rw[o];exact z);have k:=g.n;have l:=g.x;have a6:b.take.N=c.N:=o;rw[a6]at k l;rw[q,Acf,a5,f];exact⟨_,j,J,g.a,g.d.trans n,k,by show Fn.mk _ _ _ _ _=_;rw[l]⟩
theorem Aq7:∀(c d:List Fd),(∀e∈c,e.A6∧e.body.dp+1≤16)→∀(g:Nat) (a:PN) (f:List Fn),c.length+1≤g→f.length+c.length≤10000→Ah a (Aa1 c++[(0,[])])→a.P.deep=0→a.N.length+Kx c≤800→a.N.length=Kx d→a.N.map AU=Az d 0→f.map EO=AK d 0→
  ∃G h,Pz (EA src) src g a f=Y (G,h)∧h.P.e=0∧h.N.map AU=Az (d++c) 0∧G.map EO=AK (d++c) 0
 |c,d,_,0,_,_,q,_,_,_,_,_,_,_=>by omega
 |[],d,_,g+1,a,f,_,_,b,_,_,_,j,k=>by
  have b:Ah a [(0,[])]:=b;rw[o_];refine⟨f,a,?_,b.e,j,k⟩;unfold Pz;rw[b.e,b.kind];rfl
 |e::c,d,l,g+1,a,f,q,r,b,s,m,n,j,k=>by
  obtain⟨t,u⟩:=l e (l_ ..);have b:Ah a (e.tk++Aa1 c++[(0,[])]):=b;rw[V]at b;have m:a.N.length+(e.body.sz+1+Kx c)≤800:=m;obtain⟨i,h,v,w,x,o,y⟩:=X2 (src:=src) t u (by simp) b s (by omega);have N:h.N.length=a.N.length+(e.body.sz+1):=by have:=Akv j_ o;simp only[d_,a_,e.body.Af,w_]at this;exact this
  obtain⟨G,z,A,F,P,a0⟩:=Aq7 c (d++[e]) (fun i K=>l i (h_ _ K)) g h (f++[i]) (by simp_all) (by simp at r⊢;omega) w x (by omega) (by rw[Sv];show _=Kx d+(e.body.sz+1+0);omega) (by rw[o,j,KU,n,q_];simp[Az]) (by
   rw[z_,k,PA,q_,←n];show _++[EO i]=_;rw[y];rfl)
  refine⟨G,z,?_,F,by simp_all,by simp_all⟩;unfold Pz;have L:a.P.kind 0=false:=by have b:Ah a ((4,Gb)::_):=b;rw[b.kind];rfl
  rw[b.e,L];show(bif true then Nl (decide (f.length<900000)) ((FH (EA src) src a).bind fun p=>Pz (EA src) src g p.2 (f++[p.1]))else _)=_;rw[Aa9,Bo Gu,v];exact A
end
theorem Xj{a:List Fd}(o:D6 a)(p:∀b∈a,b.body.dp+1≤16)(a0:(Db a).length≤600):∃k l,GO (Db a)=Y (.tree k l)∧k.map AU=Az a 0∧l.map EO=AK a 0:=by
 obtain⟨h,a1,a2⟩:=o;obtain⟨c,q,m⟩:=Ano (Db a) (Wu h) ((Db a).length+1) 0 [] rfl (r_ _);have r:Dc (Db a)=(c,0,0):=by unfold Dc;rw[Gv,Acf,q];rfl
 have a3:=ES a 0;obtain⟨G,d,s,t,i,f⟩:=Aq7 (src:=Db a) a [] (fun b g=>⟨h b g,p b g⟩) 1000 ⟨⟨c,0,0,0⟩,[]⟩ [] (by omega) (by simp;omega) ⟨J,m⟩ J (by show 0+Kx a≤800;omega) J J J;rw[E_]at i f;have u:(!c.isEmpty)=true:=by
  cases c with
  |nil=>simp at m
  |cons _ _=>rfl
 refine⟨d.N,G,?_,i,f⟩;unfold GO;rw[r];show(bif ((0:Int) !=0)then _ else Nl (!c.isEmpty) _)=_;rw[show((0:Int) !=0)=false from rfl,Acf,Bo u];show(Pz (EA (Db a)) (Db a) 1000 ⟨⟨c,0,0,0⟩,[]⟩ []).bind _=_;rw[s];show(bif d.P.e !=0 then _ else bif TR d.N G then _ else Y (Aew.tree d.N G))=_;rw[t,show((0:Int) !=0)=false from rfl,Acf];have v:=Akv j_ i;have n:=Akv j_ f;rw[d_]at v n;rw[F5]at n;have w:∀(a:List Fd) (j:Nat) (G:List Fn),G.map EO=AK a j→(∀b∈a,b.params.length≤3)→(G.any fun x=>decide (3<x.params.length))=false:=by
  intro a;induction a with
  |nil=>intro j G e _;cases G with
   |nil=>rfl
   |cons _ _=>cases e
  |cons b a y=>
   intro j G e z;cases G with
   |nil=>cases e
   |cons A G=>
    rw[S_]at e;injection e with F K
    have L:A.params=b.params:=Akv Fn.params F;rw[T_,L,y _ G K fun N P=>z N (h_ _ P),Aey (by simp_all)];rfl
 have e:TR d.N G=false:=by unfold TR;rw[w a 0 G f fun b g=>(h b g).2.2.1,Gv,Gv];rfl
 rw[e];rfl
theorem Xk(a:¬s.length≤600):GO s=Y (.err 0 4):=by unfold GO Dc;rw[Gu];rfl
theorem Ab0{h:AH}(src:H):AR 5 [S src] h (fun c d=>c=S (src.take 700)∧d=h):=by
 refine eF Tryz.func5 ?_;cases a:decide ((700:Int)<(src.length:Int))with
 |true=>
  have b:700≤src.length:=by have:=Acw a;omega
  have e:CW (.int .i64 700)=Y 700:=J;have f:Aun src (Y 0) (Y 700)=Y (S (src.take 700)):=by show Av (Nat.ble 0 700&&Nat.ble 700 src.length) _ e_=_;rw[f_ b];rfl
  simp only[go_sem,a,e,f];done
 |false=>
  have b:src.length≤700:=by have:=Adh a;omega
  simp only[go_sem,a];rw[p_ b]
def Lb:Nat→List (Int×C_)→List (Int×C_)
 |0,a=>a
 |_+1,[]=>[]
 |n+1,b::a=>(0,b.2)::Lb n a
theorem QM{b:Nat→Prop}{h:AH}:∀{n:Nat} {c:List (Int×C_)} {d:List Sn},EC b h c d→EC b h (Lb n c) d
 |0,_,_,a=>a
 |_+1,[],[],a=>a
 |n+1,_::_,_::_,⟨e,a⟩=>⟨e,QM a⟩
 |_+1,[],_::_,h=>h.elim
 |_+1,_::_,[],h=>h.elim
theorem QN:∀{n:Nat} {c:List (Int×C_)},c.length≤n→∀b∈Lb n c,b.1=0
 |0,[],_,b,a=>by cases a
 |0,_::_,h,_,_=>by simp_all
 |_+1,[],_,b,a=>by cases a
 |n+1,d::c,h,b,a=>by
  rcases n_.1 a with rfl|a
  ·rfl
  exact QN (by simp_all) b a
theorem QL{e:Nat→Prop}{h:AH}:∀{i:Nat} {b:List (Int×C_)} {a:List Sn},EC e h b a→i<a.length→spl? (Fs (Lb i b) a) (i*3+1) [I 0]=Y (Fs (Lb (i+1) b) a)
 |0,c::b,d::a,_,_=>by
  show spl? (S d.name::I c.1::c.2::Fs b a) (0+1) [I 0]=Y (S d.name::I 0::c.2::Fs b a);rw[DK,DJ,GD,F4];rfl
 |i+1,c::b,d::a,⟨_,f⟩,j=>by
  have g:=QL (i:=i) f (by simp_all);rw[show(i+1)*3+1=i*3+1+1+1+1 by omega];show spl? (S d.name::I 0::c.2::Fs (Lb i b) a) (i*3+1+1+1+1) [I 0]=Y (S d.name::I 0::c.2::Fs (Lb (i+1) b) a);rw[DK,DK,DK,g];rfl
 |_,[],[],_,h=>by cases h
 |_,[],_::_,h,_=>h.elim
 |_,_::_,[],h,_=>h.elim
def QH(n m:Nat)(h:AH)(d:C_)(b:List Sn):Prop:=(b=[]∧d=.slice e_ 0 0)∨∃a e,d=.slice (Y ⟨a,0,e_⟩) b.length 3∧n≤a∧a<m∧h.get a=Y (.cells (Fs e b))∧EC (fun c=>c≠a∧n≤c∧c<m) h e b
theorem Ap4.bound{n:Nat}{h:AH}{b:List Sn}(a:Ap4 n h v b)(c:Wh h):QH n h.n h v b:=by
 rcases a with a|⟨f,g,j,k,d,l⟩
 ·exact .inl a
 exact .inr ⟨f,g,j,k,c _ _ d,d,l.imp fun p q o e=>⟨J,e.1,e.2,c _ _ o⟩⟩
theorem QH.Ak{n m:Nat}{h b:AH}{e:List Sn}(c:QH n m h v e)(f:∀a,n≤a→a<m→b.get a=h.get a):QH n m b v e:=by
 rcases c with c|⟨g,k,l,b,j,o,p⟩
 ·exact .inl c
 exact .inr ⟨g,k,l,b,j,(f g b j).trans o,p.imp fun a q r d=>⟨f a d.2.1 d.2.2,d⟩⟩
structure Zd(n m:Nat)(Z h:AH)(cs:C_)(L:List Sn)(i:Nat):Prop where
 w:Wh h
 hn:h.n=Z.n
 r:(L=[]∧QH n m Z cs L∧h=Z)∨∃b us s l,L=s::l∧cs=.slice (Y ⟨b,0,e_⟩) L.length 3∧n≤b∧b<m∧Z.get b=Y (.cells (Fs us L))∧EC (fun c=>c≠b∧n≤c∧c<m) Z us L∧h.get b=Y (.cells (Fs (Lb i us) L))∧∀c,c≠b→h.get c=Z.get c
theorem Acz{n:Int}(m:List H):Y (AO.cells (m.map S))≠Y (.cells (S s::I n::l)):=by
 intro a;injection a with a
 injection a with a
 rcases m with _|⟨b,_|⟨c,m⟩⟩
 ·cases a
 ·simp_all
 simp_all
section
variable{n m i:Nat}{Z h:AH}{cs:Value}{L:List Sn}
theorem Zd.start(c:Wh Z)(a:QH n m Z cs L):Zd n m Z Z cs L 0:=by
 refine⟨c,J,?_⟩;cases L with
 |nil=>exact .inl ⟨J,a,J⟩
 |cons d e=>
  rcases a with⟨a,_⟩|⟨f,g,j,k,l,b,o⟩
  ·cases a
  exact .inr ⟨f,g,d,e,J,j,k,l,b,o,b,fun _ _=>rfl⟩
theorem Zd.other(a:Zd n m Z h cs L i){c:Nat}(e:c<n∨m≤c):h.get c=Z.get c:=by
 rcases a.r with⟨_,_,b⟩|⟨f,g,j,k,_,_,l,o,_,_,_,d⟩
 ·rw[b]
 exact d c (by omega)
theorem Zd.Al3(e:Zd n m Z h cs L i){a:List H}(f:L6 Z v a):L6 h v a:=by
 rcases e.r with⟨_,_,b⟩|⟨p,c,q,r,rfl,_,s,u,g,j,_,k⟩
 ·simp_all
 refine f.Wd fun l o d=>k l fun b=>?_;rw[b,g]at d;cases c with
 |nil=>exact j
 |cons w c=>exact Acz o d.symm
theorem Zd.done(q:Zd n m Z h cs L i)(u:L.length≤i)(d:∀a,n≤a→a<m→f.get a=h.get a):YS f cs L:=by
 rcases q.r with⟨rfl,e,rfl⟩|⟨b,g,v,w,x,j,k,l,p,c,r,s⟩
 ·rcases e with e|⟨b,g,j,k,l,p,c⟩
  ·exact .inl e
  cases g with
  |nil=>exact .inr ⟨b,[],j,(d b k l).trans p,(fun y o=>by cases o),trivial⟩
  |cons _ _=>exact c.elim
 exact .inr ⟨b,Lb i g,j,(d b k l).trans r,QN (by have:=c.len;omega),(QM c).imp fun a y z o=>⟨(d a o.2.1 o.2.2).trans (s a o.1),trivial⟩⟩
theorem Zd.Ara(a:Zd n m Z h cs L i):∃a c,cs=.slice a L.length c:=by
 rcases a.r with⟨rfl,d,_⟩|⟨e,f,g,j,_,b,_⟩
 ·rcases d with⟨_,b⟩|⟨e,f,b,_⟩
  ·simp_all
  simp_all
 simp_all
theorem Zd.next(b:Zd n m Z h cs L i)(d:i<L.length):∃a c e,cs=.slice (Y ⟨a,0,e_⟩) L.length 3∧a<h.n∧h.get a=Y (.cells c)∧spl? c (i*3+1) [I 0]=Y e∧Zd n m Z (h.put a (.cells e)) cs L (i+1):=by
 rcases b.r with⟨rfl,_⟩|⟨a,o,p,c,q,f,r,s,u,g,j,v⟩
 ·cases d
 have k:=b.w _ _ j;exact⟨a,_,_,f,k,j,QL g d,Ar b.w k _,b.hn,.inr ⟨a,o,p,c,q,f,r,s,u,g,Ai _ _,fun w l=>(Ab _ (Ag l)).trans (v w l)⟩⟩
end
def YV(h:AH)(a:C_)(xs:List Int):Prop:=(xs=[]∧∃c d,a=.slice c 0 d)∨(∃b e,a=.slice (Y ⟨b,0,e_⟩) xs.length 1∧h.get b=Y (.ro (xs.map I++e)))
theorem YV.slice{h:AH}{xs:List Int}(a:YV h v xs):∃a b,v=.slice a xs.length b:=by
 rcases a with⟨rfl,a,b,rfl⟩|⟨c,d,rfl,_⟩
 ·simp
 simp
theorem YV.ext{h h1:AH}{xs:List Int}(a:YV h v xs)(d:Wh h)(e:Ext h h1):YV h1 v xs:=by
 rcases a with a|⟨b,f,g,c⟩
 ·exact .inl a
 exact .inr ⟨b,f,g,(e b (d _ _ c)).trans c⟩
theorem Nn(a:List Fd)(L:List (List Int))(d:∀f g,(KK (Aw a) a f g).length≤400):∀(b:List Sp) (e:List Int),∀c∈(Ci a L b e).1,c.vars.length≤400
 |[],_,_,h=>by cases h
 |x::b,e,c,h=>by
  rcases n_.1 h with rfl|h
  ·show(Ev _ _ _ _).1.length≤400
   rw[Md];exact d _ _
  exact Nn a L d b _ c h
theorem Air{a:List Fd}(o:D6 a)(p:(Aw a).e=0){xs:List Int}(q:xs.length≤50000)(t:Nat)(y:t≤200):
  ∃(m d n:Nat) (b c:Ms),Ih a=m∧m<(Bh a).2.length∧(Aw a).size[m]? =Y (d:Int)∧d≤100000∧(∀i∈(Bh a).1,i.ok)∧Hb (Bh a).2 (Aw a).size [] (Bh a).1 n (Je (Bh a).2 (Aw a).size m)=Y b∧To (Bh a).2 (Aw a).size xs (Bh a).1 t b c∧(∀e∈BR (Bh a).1 c.Ba,e.in' a.length (Az a 0).length)∧c.out.length≤100000:=by
 obtain⟨d,r,z,A⟩:=Axu o p;obtain⟨m,s⟩:∃m:Nat,Ih a=m:=⟨(Ih a).toNat,by omega⟩;have e:m<a.length:=by omega
 obtain⟨n,b,f,F,g⟩:=An4 d e;have j:m<(Aw a).size.length:=by rw[d.zl];exact e
 have u:=d.zb _ (List.getElem_mem j);have k:=List.getElem?_eq_getElem j;generalize (Aw a).size[m]=v at u k;have w:=OE n f (s_ _);obtain⟨c,l,x⟩:=Av0 d q (t:=(t:Int)) (by omega) t b ⟨g.iv.mono (s_ _),g.at'⟩ w (by omega) (by omega) (by omega);exact⟨m,v.toNat,n,b,c,s,by rw[d.el];exact e,by rw[k];congr 1;omega,by omega,r,f,l,Afy x,l.wl2.o⟩
section
variable{h:AH}{src:H}{xs:List Int}{xv:Value}{t:UInt8}
theorem Anx(am:Wh h)(bh:G7 h)(bO:AR 4 [] h (fun a9 u=>a9=.bool true∧Ext h u))(aa:YV h xv xs)(bP:∀ab∈xs,-9223372036854775808≤ab∧ab<9223372036854775808):
  AR 3 [S src,xv,B t] h (fun a9 u=>a9=.bool true∧Ext h u):=by
 obtain⟨a1,a2,bQ⟩:=aa.slice;subst bQ;refine eF Tryz.func3 ?_;simp only[go_sem];refine Aa (Ok.wf am bO) ?_;rintro _ u aK ⟨an,rfl,ao⟩;simp only[go_sem];refine Aa (Ab0 src) ?_;rintro _ u _ ⟨rfl,rfl⟩;have aL:(src.take 700).length<2^40:=by rw[m_];omega
 generalize src.take 700=bi at aL;have bj:=bh.ext am ao;simp only[go_sem];rcases Ach bi with⟨dn,b,aM,y⟩|⟨dp,dq,a,aM,ac,bR,q,bS⟩
 ·refine Aa (Ok.wf an (On aL an bj aM y)) ?_
  rintro _ g bT ⟨ad,rfl,ap⟩;have d:(b !=0)=true:=by simp_all
  unfold Xx;simp only[go_sem,M,d];exact((ao.trans aK ap).CS _).CR _
 refine Aa (Ok.wf an (M0 aL an bj aM ac bR q)) ?_;rintro _ g bT ⟨ad,⟨aN,ab,rfl,bk,bl⟩,ap⟩;by_cases y:(Aw a).e=0
 ·have aO:=bk y
  clear bk bl;have aP:((Aw a).e !=0)=false:=by simp_all
  obtain⟨bU,dr,ds,dt,bm,du,rfl,bn,bo,aq⟩:=id aO;obtain⟨v,ae,w,bp⟩:∃v ae w,bU=.slice v ae w:=by obtain⟨d,e,ac,f,j⟩:=bn;obtain⟨v,w,b⟩:=ac.slice;exact⟨v,_,w,b⟩
  obtain⟨bV,bW,ar⟩:=bo.slice;obtain⟨bX,bY,bq⟩:=aq.t.sl;obtain⟨bZ,c0,c4⟩:=aq.sl.sl;obtain⟨a3,c5,c6⟩:=aq.g.sl;obtain⟨c7,c8,c9⟩:=aq.z.sl;subst bp ar bq c4 c6 c9;simp only[go_sem,M,aP];generalize br:[Value.slice v ae w,.slice bV (AK a 0).length bW,.slice bX (Aw a).types.length bY,.slice bZ (Aw a).Ac.length c0,.slice a3 (Aw a).fns.length c5,.slice c7 (Aw a).size.length c8]=a4 at aO;generalize au:(g.new (.cells [.slice e_ 0 0,.slice e_ 0 0,.slice e_ 0 0,.slice e_ 0 0,.slice e_ 0 0,.slice e_ 0 0])).put g.n (.cells a4)=af;have aQ:Wh af:=by rw[←au];exact Ar (Am ad _) (r_ _) _
  have dv:af.n=g.n+1:=by rw[←au];rfl
  have av:Ext g af:=fun l x=>by rw[←au];simp only[go_sem,x]
  have ca:af.get g.n=Y (.cells a4):=by rw[←au];exact Ai _ _
  have cb:Ext h af:=(ao.trans aK ap).trans (by omega) av;refine Aa (Ok.wf aQ (Aff aQ q (bn.ext ad av) (bo.ext ad av))) ?_;rintro _ bs dw ⟨ag,rfl,aR⟩;simp only[go_sem];have bt:(Db a).length<2^40:=by
   have u:=MP q.1;have g:=q.2.1;have bs:(a.map fun k=>k.body.sz+1).sum≤300:=by have:=q.2.2;rwa[IP]at this
   omega
  have aS:Ext h bs:=cb.trans (by omega) aR;have bu:=bh.ext am aS;have cc:=(aR g.n (by omega)).trans ca;by_cases bv:(Db a).length≤600
  ·obtain⟨dx,dy,cd,ce,cf⟩:=Xj q bS bv
   refine Aa (Ok.wf ag (M0 bt ag bu cd ce cf q)) ?_;rintro _ r cg ⟨aw,⟨dz,l,rfl,bw,_⟩,ah⟩;have aT:=bw y;clear bw;have aU:decide ((600:Int)<((Db a).length:Int))=false:=Gv;obtain⟨ch,dA,dB,dC,dD,dE,rfl,ci,cj,ax⟩:=id aT;obtain⟨ck,cl,cm,cn⟩:∃v ae w,ch=.slice v ae w:=by obtain⟨d,e,ac,f,j⟩:=ci;obtain⟨v,w,b⟩:=ac.slice;exact⟨v,_,w,b⟩
   obtain⟨co,cp,cq⟩:=cj.slice;obtain⟨cr,ct,cu⟩:=ax.t.sl;obtain⟨cv,cw,cx⟩:=ax.sl.sl;obtain⟨cy,cz,cA⟩:=ax.g.sl;obtain⟨cB,cC,cD⟩:=ax.z.sl;subst cn cq cu cx cA cD;have cF:((Aw a).e !=0)=false:=by omega
   simp only[go_sem,M,aU,cF];generalize bx:[Value.slice ck cl cm,.slice co (AK a 0).length cp,.slice cr (Aw a).types.length ct,.slice cv (Aw a).Ac.length cw,.slice cy (Aw a).fns.length cz,.slice cB (Aw a).size.length cC]=a5 at aT;generalize ay:(r.new (.cells [.slice e_ 0 0,.slice e_ 0 0,.slice e_ 0 0,.slice e_ 0 0,.slice e_ 0 0,.slice e_ 0 0])).put r.n (.cells a5)=z;have az:Wh z:=by rw[←ay];exact Ar (Am aw _) (r_ _) _
   have dF:z.n=r.n+1:=by rw[←ay];rfl
   have aA:Ext r z:=fun l x=>by rw[←ay];simp only[go_sem,x]
   have cG:z.get r.n=Y (.cells a5):=by rw[←ay];exact Ai _ _
   have bz:Ext h z:=(aS.trans (by omega) ah).trans (by omega) aA;have cH:=(aA g.n (by omega)).trans ((ah g.n (by omega)).trans cc);have cI:E3 z a (.agg a4.toArray):=(((aO.ext ad av).ext aQ aR).ext ag ah).ext aw aA;have cJ:E3 z a (.agg a5.toArray):=aT.ext aw aA;have dG:a4.length=6:=by rw[←br];rfl
   have dH:a5.length=6:=by rw[←bx];rfl
   clear br bx;refine Uf (fun b A=>A=z∧b.at 0=S bi∧b.at 1=.slice a1 (xs.take 5).length a2∧b.at 2=B t∧b.at 7=.bool true∧b.at 8=AA g.n∧b.at 12=AA r.n) ?_ ?_ ?_
   ·intro f
    have e:5≤xs.length:=by have:=Acw f;omega
    have k:(xs.take 5).length=5:=by simp_all
    have aV:CW (.int .i64 5)=Y 5:=J;rw[k];obtain⟨j,p,rfl,rfl,_⟩:∃s d,a1=Y ⟨s,0,e_⟩∧a2=1∧h.get s=Y (.ro (xs.map I++d)):=by
     rcases aa with⟨rfl,_⟩|⟨s,d,b,ai⟩
     ·cases e
     simp_all
    have o:JV (Y ⟨j,0,e_⟩) xs.length 1 (Y 1) (Y 0) (Y 5) (Y xs.length)=Y (.slice (Y ⟨j,0,e_⟩) 5 1):=Es (s_ _) e (W _) j 0;simp only[go_sem,M,aV,o];done
   ·intro f
    have e:¬5<xs.length:=by have:=Adh f;omega
    rw[p_ (by omega)];simp only[go_sem,M];done
   rintro b A ⟨rfl,dI,bA,bB,F,cK,cL⟩;have bC:Ub A (.slice a1 (xs.take 5).length a2) (xs.take 5):=by
    refine⟨?_,fun ab aa=>bP ab (List.mem_of_mem_take aa),by rw[m_];omega⟩;rcases aa with⟨rfl,a6,K,b⟩|⟨s,d,b,ai⟩
    ·simp
    injection b with bp ar bq
    exact .inr ⟨s,(xs.drop 5).map I++d,by simp_all,by rw[bz s (am _ _ ai),ai,←V,←z_,List.take_append_drop]⟩
   obtain⟨m,K,n,dJ,d,cM,cN,cO,cP,cQ,cR,bD,cT,bE⟩:=Air q y (xs:=xs.take 5) (by rw[m_];omega) (t.toNat%101) (by omega);have aW:∀{a7:AH} {aN:C_},Wh a7→E3 a7 a aN→Ub a7 (.slice a1 (xs.take 5).length a2) (xs.take 5)→AR 8 [aN,.agg #[S [],.slice a1 (xs.take 5).length a2,.slice e_ 0 0,.slice e_ 0 0],I ((t.toNat%101:Nat):Int)] a7 (fun a9 u=>VwA a7.n u a9 (Ci a d.heap.lists (BR (Bh a).1 d.Ba) []).1 d.out d.CA d.status d.Jp∧Ext a7 u):=
    fun f j k=>Au0 f q y j k (by omega) cM cN cO cP cQ cR bD cT bE
   have cU:(Ci a d.heap.lists (BR (Bh a).1 d.Ba) []).1.length≤1000:=by rw[IY,KP];exact bD.wl2.l
   have bF:∀l∈(Ci a d.heap.lists (BR (Bh a).1 d.Ba) []).1,l.vars.length≤100000:=fun l x=>by have:=Nn a d.heap.lists (fun cV cW=>(Sl q y cV cW).2) _ _ l x;omega
   generalize (Ci a d.heap.lists (BR (Bh a).1 d.Ba) []).1=L at aW cU bF;have bG:∀l bH:Operand,Cu pr .rem 3 l bH (.int .i64 t.toNat) (.int .i64 101)=Y (I ((t.toNat%101:Nat):Int)):=fun l bH=>by
    rw[Aat rfl,Int.tmod_eq_emod_of_nonneg (by omega)];rfl
   have bI:L_ .i64 (t.toNat:Int)=t.toNat:=by have:=t.toNat_lt;rw[Ap]<;>omega
   have cX:take? a4 6=Y a4:=by rw[Bn (by omega),p_ (by omega)]
   have cY:take? a5 6=Y a5:=by rw[Bn (by omega),p_ (by omega)]
   have dK:g.n<A.n:=by omega
   have cZ:r.n<A.n:=by omega
   simp only[go_sem,M,bA,bB,cK,cH,bG,bI,cX];refine Aa (Ok.wf az (aW az cI bC)) ?_;rintro _ e aV ⟨aB,⟨d0,d1,rfl,d2,bJ⟩,d3⟩;have c1:QH A.n e.n e d0 L:=d2.bound aB;obtain⟨aX,aY,rfl⟩:=(Zd.start aB c1).Ara;obtain⟨aZ,b0,b1,rfl⟩:∃a6 aj K,d1=.slice a6 aj K:=by
    rcases bJ with⟨_,a6,K,rfl⟩|⟨s,rfl,_⟩
    ·simp
    simp
   simp only[go_sem,M];generalize aC:(e.new (.cells [.slice e_ 0 0,.slice e_ 0 0,I 0,I 0,I 0])).put e.n (.cells [.slice aX L.length aY,.slice aZ b0 b1,I d.CA,I d.status,I d.Jp])=j;have b2:Wh j:=by rw[←aC];exact Ar (Am aB _) (r_ _) _
   have dL:j.n=e.n+1:=by rw[←aC];rfl
   have b3:Ext e j:=fun l x=>by rw[←aC];simp only[go_sem,x]
   have bm:j.get e.n=Y (.cells [.slice aX L.length aY,.slice aZ b0 b1,I d.CA,I d.status,I d.Jp]):=by rw[←aC];exact Ai _ _
   have aD:Ext A j:=d3.trans aV b3;have d4:=(aD r.n cZ).trans cG;have dM:r.n<j.n:=by omega
   simp only[go_sem,M,bA,bB,cL,d4,bG,bI,cY];have d5:Ub j (.slice a1 (xs.take 5).length a2) (xs.take 5):=bC.ext az aD;refine Aa (Ok.wf b2 (aW b2 (cJ.ext az aD) d5)) ?_;rintro _ f d6 ⟨aE,⟨d7,d8,rfl,d9,bK⟩,da⟩;have c2:QH j.n f.n f d7 L:=d9.bound aE;obtain⟨ak,al,rfl⟩:=(Zd.start aE c2).Ara;obtain⟨b4,b5,b6,rfl⟩:∃a6 aj K,d8=.slice a6 aj K:=by
    rcases bK with⟨_,a6,K,rfl⟩|⟨s,rfl,_⟩
    ·simp
    simp
   simp only[go_sem,M];generalize aF:(f.new (.cells [.slice e_ 0 0,.slice e_ 0 0,I 0,I 0,I 0])).put f.n (.cells [.slice ak L.length al,.slice b4 b5 b6,I d.CA,I d.status,I d.Jp])=Z;have db:Wh Z:=by rw[←aF];exact Ar (Am aE _) (r_ _) _
   have dN:Z.n=f.n+1:=by rw[←aF];rfl
   have b7:Ext f Z:=fun l x=>by rw[←aF];simp only[go_sem,x]
   have dc:Z.get f.n=Y (.cells [.slice ak L.length al,.slice b4 b5 b6,I d.CA,I d.status,I d.Jp]):=by rw[←aF];exact Ai _ _
   have aG:Ext j Z:=da.trans d6 b7;have dd:=(aG e.n (by omega)).trans bm;have de:Ext h Z:=(bz.trans (by omega) aD).trans (by omega) aG;have df:=Zd.start db (c1.Ak fun c _ N=>((aG c (by omega)).trans (b3 c N)));have ar:QH j.n f.n Z (.slice ak L.length al) L:=c2.Ak fun c _ N=>b7 c N;have dh:L6 Z (.slice aZ b0 b1) d.out:=(bJ.ext aB b3).ext b2 aG;have dj:L6 Z (.slice b4 b5 b6) d.out:=bK.ext aE b7;refine AG (fun(i:Nat) b aH=>Zd A.n e.n Z aH (.slice aX L.length aY) L i∧i≤L.length∧b.at 7=.bool true∧b.at 15=AA e.n∧b.at 16=AA f.n∧b.at 17=I i) (fun i=>L.length-i) ?_ 0 ?_
   ·rintro i b aH ⟨o,dO,F,P,a8,bL⟩ b8
    have a3:=(o.other (c:=e.n) (.inr (W _))).trans dd;have dP:=o.w _ _ a3;have dQ:=o.hn;cases a0:decide ((i:Int)<L.length)with
    |false=>
     have aI:i=L.length:=by have:=Adh a0;omega
     simp only[go_sem,M,P,bL,a3,a0];have dk:=(o.other (c:=f.n) (.inr (by omega))).trans dc;have dl:QH j.n f.n aH (.slice ak L.length al) L:=ar.Ak fun c N _=>o.other (.inr (by omega));refine AG (fun(k:Nat) b D=>Zd j.n f.n aH D (.slice ak L.length al) L k∧k≤L.length∧b.at 7=.bool true∧b.at 15=AA e.n∧b.at 16=AA f.n∧b.at 18=I k) (fun k=>L.length-k) ?_ 0 ?_
     ·rintro k b D ⟨p,dR,F,P,a8,bM⟩ b8
      have b9:=(p.other (c:=f.n) (.inr (W _))).trans dk;have dS:=p.w _ _ b9;have bN:=(p.other (c:=e.n) (.inl (by omega))).trans a3;have dT:=p.w _ _ bN;cases a0:decide ((k:Int)<L.length)with
      |false=>
       have aJ:k=L.length:=by have:=Adh a0;omega
       simp only[go_sem,M,F,P,a8,bM,b9,bN,a0];refine Aa (Agg p.w (o.done (by omega) fun c _ N=>p.other (.inl (by omega))) (p.done (by omega) fun _ _ _=>rfl) (p.Al3 (o.Al3 dh)) (p.Al3 (o.Al3 dj)) bE (by omega) bF) ?_;rintro _ bb _ ⟨rfl,ba⟩;simp only[go_sem,M];exact fun c N=>(ba c (by omega)).trans ((p.other (.inl (by omega))).trans ((o.other (.inl (by omega))).trans (de c N)))
      |true=>
       have aJ:k<L.length:=by simp_all
       obtain⟨s,aj,dm,ba,ai,bb,bc,bd⟩:=p.next aJ;injection ba with be _ bf
       subst be bf;have bg:L_ .i64 ((k:Int)+1)=((k+1:Nat):Int):=by rw[Ap]<;>omega
       simp only[go_sem,M,a8,bM,b9,a0,aJ,bb,bc,bg];refine b8 (k+1) _ _ ⟨bd,aJ,?_,?_,?_,?_⟩ (by omega)<;>simp only[go_sem,M,F,P,a8]
     refine⟨Zd.start o.w dl,s_ _,?_,?_,?_,?_⟩<;>simp only[go_sem,M,F,P,a8]
     rfl
    |true=>
     have aI:i<L.length:=by simp_all
     obtain⟨s,aj,dm,ba,ai,bb,bc,bd⟩:=o.next aI;injection ba with be _ bf
     subst be bf;have bg:L_ .i64 ((i:Int)+1)=((i+1:Nat):Int):=by rw[Ap]<;>omega
     simp only[go_sem,M,P,bL,a3,a0,aI,bb,bc,bg];refine b8 (i+1) _ _ ⟨bd,aI,?_,?_,?_,?_⟩ (by omega)<;>simp only[go_sem,M,F,P,a8]
   refine⟨df,s_ _,?_,?_,?_,?_⟩<;>simp only[go_sem,M,F]
   rfl
  refine Aa (Ok.wf ag (On bt ag bu (Xk bv) (by decide))) ?_;rintro _ r cg ⟨aw,rfl,ah⟩;have aU:decide ((600:Int)<((Db a).length:Int))=true:=Gu;have d:((4:Int)==4)=true:=J;unfold Xx;simp only[go_sem,M,aU,d];exact((aS.trans (by omega) ah).CS _).CR _
 rw[bl y];have aP:((Aw a).e !=0)=true:=by simp_all
 unfold Xx;simp only[go_sem,M,aP];exact((ao.trans aK ap).CS _).CR _
end
theorem P1{f:Pr}{j g:Cw}(m:∀a,g.get a=e_→j.get a=e_)(o:∀a h,g.get a=Y h→∀c d e,h c d=Y e→BE f j a c d=Y e)(k:Nat):∀n,Le (Ef f g k n) (BE f j)
 |0=>fun a c d e b=>by cases b
 |n+1=>fun a c d e b=>by
  simp only[Ef]at b;cases i:g.get a with
  |some h=>
   simp only[i]at b;exact o a h i c d e b
  |none=>
   simp only[i]at b;cases l:f.fn.get a with
   |none=>simp only[l]at b;cases b
   |some p=>
    simp only[l]at b;exact PY (m a i) l (P4 (P1 m o k n) (W k) b)
def Aik:E→AH→Option (C_×AH)
 |[.string a,.string d],b=>(match d.data.toList with
  |[c]=>cond (Mj a.data.toList) (Y (.slice (Y ⟨b.n,0,e_⟩) (Cy c false a.data.toList []).length 1,b.new (.cells ((Cy c false a.data.toList []).map Ql)))) e_
  |_=>e_)
 |_,_=>e_
def Pg:Cw:=known.set 110 (Y Aik)
theorem Ada(g h:Nat):Le (Ef pr Pg g h) (BE pr known):=by
 refine P1 (fun e b=>?_) (fun e p c q k r a=>?_) g h
 ·unfold Pg at b
  rw[Tr.C6]at b;by_cases d:e=110
  ·rw[Agd d]at b;cases b
  rw[Akt d]at b;exact b
 unfold Pg at c;rw[Tr.C6]at c;by_cases d:e=110
 ·rw[Agd d]at c
  cases c;subst d;unfold Aik at a;split at a
  ·rename_i i l
   split at a
   ·rename_i j m
    cases f:Mj i.data.toList with
    |false=>rw[f]at a;cases a
    |true=>
     rw[f]at a;cases a;obtain⟨s,t,n,_,rfl,rfl⟩:=H3 i.data.toList j f k;have o:l=⟨[j].toArray⟩:=by rw[←m]
     rw[o];exact n
   cases a
  cases a
 rw[Akt d]at c;exact No c a
end
end Go.Proofs.YtebhflkemdlbkaaGreatDoor
