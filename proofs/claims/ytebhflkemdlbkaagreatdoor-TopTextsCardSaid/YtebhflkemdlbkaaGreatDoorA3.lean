/-
  A part of the proof of TopTexts. No conditions.
-/
import Derived.Test.YtebhflkemdlbkaaGreatDoorA2
set_option linter.unusedVariables false
set_option linter.unusedSimpArgs false
open Bool renaming or_false->q_,and_eq_true->G_
open Go renaming Value->i_,TypeId->V_,FuncId->ad_
open Go.IntKind renaming wrap->l_
open Go.Proofs.Tryz renaming func267->r_,func182->w_,func254->K_,func343->P_,func253->Y_,func255->Z_,func256->aa_,func266->ah_,func257->ak_
open Int renaming reduceBEq->b_,toNat_natCast->M_
open List renaming length_append->Y,length_cons->W,length_nil->Z,getElem?_eq_getElem->c_,mem_singleton->d_,getD_eq_getElem?_getD->f_,getElem?_eq_some_iff->g_,mem_append->h_,nodup_cons->j_,nodup_append->k_,mem_cons->m_,append_assoc->o_,length_map->v_,nil_append->x_,cons_append->y_,getD->B_,eq_nil_of_length_eq_zero->C_,length_replicate->D_,mem_of_getElem?->F_,length_set->H_,getElem?_append_left->I_,getElem?_map->L_,length_take->N_,getElem?_append_right->R_,drop_eq_getElem_cons->T_,mem_or_eq_of_mem_set->U_,drop_length->W_,eq_of_mem_replicate->X_,take_left'->ab_,take_of_length_le->ac_,singleton_append->ae_,take_append_drop->af_,reverse_reverse->ag_,not_mem_nil->al_,length_drop->an_,all_eq_true->ao_,append_nil->ap_,map_cons->aq_
open List.cons renaming injEq->t_
open Nat renaming reduceBEq->V,lt_succ_self->a_,le_refl->e_,lt_of_lt_of_le->n_,zero_le->p_,reduceLT->u_,le_succ->z_,ble->A_,le_trans->E_,zero_add->J_,ble_eq_true_of_le->O_,min_eq_left->Q_,lt_succ_of_lt->S_,eq_zero_or_pos->ai_,sub_zero->aj_,min_eq_right->am_
open Option renaming some->T,none->M
open Option.some renaming injEq->s_
namespace Go.Proofs.YtebhflkemdlbkaaGreatDoor
noncomputable section
variable{a b c d:Nat}{f g h:AH}{v w:Value}{s t:List UInt8}{l m:List Value}{u:TypeId}{x y:Int}{p:List Nat}{q r:List Int}{e:Env}{o n:Option Addr}
def EO(a:Fn):Fn:={a with line:=0}
theorem T8.tre{e m:List Nd}{a n:List Fn}(p:T8 f g v w e a)(q:e.map AU=m)(r:a.map EO=n):Fx g v m∧Mb g w n:=by
 obtain⟨a5,s,t,u,x⟩:=p;refine⟨⟨s,e,t,u,q⟩,?_⟩;subst r;rcases x with⟨rfl,rfl⟩|⟨y,h,rfl,o,_,_,z,d⟩
 ·exact⟨[],.inl ⟨J,J⟩,J,fun c i b=>by cases b⟩
 refine⟨h,.inr ⟨y,J,o⟩,by rw[v_];exact d.len,?_⟩;clear o z;induction h generalizing a with
 |nil=>cases a with
  |nil=>intro c i b;cases b
  |cons i a=>exact d.elim
 |cons A h F=>cases a with
  |nil=>exact d.elim
  |cons i a=>
   obtain⟨⟨K,a6,L,N,P,a0⟩,a1⟩:=d;intro c a2 b;cases c with
   |zero=>
    cases b;refine⟨A,J,K,L,N,P,?_⟩;rcases a0 with⟨j,k⟩|⟨a3,j,k,_⟩
    ·injection k with l _ _
     exact .inl ⟨j,l⟩
    injection j with l _ a4
    exact .inr ⟨a3,l,a4,k⟩
   |succ c=>
    obtain⟨j,k,l⟩:=F a1 c a2 (by simpa using b);exact⟨j,by simpa using k,l⟩
def BI(b:Nat)(a:Ay):Prop:=a.e=0∨a.e=44∨(0≤a.pos∧a.pos<b)
theorem B5{s:Ay}(f:BI a s)(d:Bool)(e c:Int)(b:e=44∨(0≤c∧c<a)):BI a (s.ask d e c):=by
 unfold Ay.ask;cases(!d&&s.e==0)with
 |true=>
  rcases b with b|b
  ·exact .inr (.inl b)
  exact .inr (.inr b)
 |false=>exact f
theorem Kj{s:Ay}(b:BI a s)(c:H){i:Nat}(d:i<a):BI a (s.named c i).2:=by
 unfold Ay.named;cases B7 c s.vars with
 |some e=>exact b
 |none=>exact B5 b false 40 i (.inr ⟨by omega,by omega⟩)
theorem Hz{c:Ay}(d:BI a c){e:Ay→Int×Ay}(f:∀c,BI a c→BI a (e c).2):BI a (c.Gq b e).2:=by
 unfold Ay.Gq;cases c.e !=0 with
 |true=>exact d
 |false=>exact f _ d
theorem Xp.Ch:∀(e:Xp) (c:Nat) (f:Ay),c+e.sz≤a→BI a f→BI a (e.ck c f).2
 |.int _,_,_,_,b|.bool _,_,_,_,b|.text _,_,_,_,b=>Hz b fun _ b=>b
 |.var g,c,_,d,b=>Hz b fun f b=>Kj b g (by simp only[Xp.sz]at d;omega)
 |.index g e,c,_,d,b=>by
  simp only[Xp.sz]at d;exact Hz b fun f b=>B5 (e.Ch c _ (by omega) (Kj b g (by omega))) _ _ _ (.inr ⟨by omega,by omega⟩)
 |.len e,c,_,d,b|.neg e,c,_,d,b|.no e,c,_,d,b=>by
  simp only[Xp.sz]at d;exact Hz b fun f b=>B5 (e.Ch c _ (by omega) b) _ _ _ (.inr ⟨by omega,by omega⟩)
 |.bin sg g h,c,_,d,b=>by
  simp only[Xp.sz]at d;exact Hz b fun f b=>B5 (h.Ch _ _ (by omega) (g.Ch c _ (by omega) b)) _ _ _ (.inr ⟨by omega,by omega⟩)
theorem Sc{d:Nat}:∀(a:List Xp) (b:Nat) (c:Ay),b+Dq a≤d→BI d c→BI d (LX a b c).2
 |[],_,_,_,f=>f
 |e::a,b,c,g,f=>by
  simp only[Dq]at g;exact Sc a _ _ (by omega) (e.Ch b c (by omega) f)
theorem Wm{b:Nat}{c:Int}(g:0≤c∧c<b):∀(d:List Int) (e:List Pm) (f:Ay),BI b f→BI b (K6 c d e f)
 |[],_,_,a=>a
 |_::_,[],_,a=>a
 |h::d,i::e,f,a=>Wm g d e _ (B5 a _ _ _ (.inr g))
theorem Rg.Ch(g:List Fn):∀(h:Rg) (c:Nat) (d:Ay),c+h.sz≤a→BI a d→BI a (h.ck g c d).2
 |.input,_,_,_,b=>Hz b fun _ b=>b
 |.new f,c,_,e,b=>by
  simp only[Rg.sz]at e;exact Hz b fun d b=>B5 (f.Ch c _ (by omega) b) _ _ _ (.inr ⟨by omega,by omega⟩)
 |.call i j,c,_,e,b=>by
  simp only[Rg.sz]at e;refine Hz b fun d b=>?_;unfold LS;cases findF i g with
  |none=>exact B5 b _ _ _ (.inr ⟨by omega,by omega⟩)
  |some k=>exact Wm ⟨by omega,by omega⟩ _ _ _ (B5 (Sc j c d (by omega) b) _ _ _ (.inr ⟨by omega,by omega⟩))
 |.expr f,c,d,e,b=>f.Ch c d e b
theorem G5{b:Ay}(d:BI a b){i:Nat}{c:Ay→Ay}(e:∀b,BI a b→BI a (c b)):BI a (b.CN i c):=e (b.AD i) d
theorem cond_pos{b:Bool}{c d:Ay}(e:BI a c)(f:BI a d):BI a (bif b then c else d):=by cases b<;>assumption
theorem Ah9{b:Ay}(d:BI a b)(e:H)(f:Int){i:Nat}(g:i<a):BI a (b.LC e f i):=by have c:(0:Int)≤i∧(i:Int)<a:=⟨by omega,by omega⟩;exact B5 (B5 (B5 d _ _ _ (.inr c)) _ _ _ (.inr c)) (decide (b.sz<24)) 4 i (.inr c)
mutual
theorem Sm.Ch(j:List Fn):∀(m:Sm) (c:Nat) (e:Ay),c+m.sz≤a→BI a e→BI a (m.ck j c e)
 |.lt k d,c,e,h,g=>by
  simp only[Sm.sz]at h;exact Ah9 (i:=c+d.sz) (d.Ch j c (e.AD (c+d.sz)) (by omega) g) k _ (by omega)
 |.set k d,c,e,h,g=>by
  simp only[Sm.sz]at h;exact B5 (d.Ch j c _ (by omega) (Kj (s:=e.AD (c+d.sz)) (i:=c+d.sz) g k (by omega))) _ _ ((c+d.sz:Nat):Int) (.inr ⟨by omega,by omega⟩)
 |.put k d f,c,e,h,g=>by
  simp only[Sm.sz]at h;exact B5 (f.Ch _ _ (by omega) (d.Ch c _ (by omega) (Kj (s:=e.AD (c+(d.sz+f.sz))) (i:=c+(d.sz+f.sz)) g k (by omega)))) _ _ ((c+(d.sz+f.sz):Nat):Int) (.inr ⟨by omega,by omega⟩)
 |.run k d,c,e,h,g=>by
  simp only[Sm.sz]at h;exact Rg.Ch j (.call k d) c (e.AD (c+(Dq d+1))) (by simp only[Rg.sz];omega) g
 |.print d,c,e,h,g=>by
  simp only[Sm.sz]at h;exact B5 (d.Ch c (e.AD (c+d.sz)) (by omega) g) _ _ ((c+d.sz:Nat):Int) (.inr ⟨by omega,by omega⟩)
 |.Fa,c,e,h,g=>by
  simp only[Sm.sz]at h;exact B5 (s:=e.AD c) g _ _ (c:Int) (.inr ⟨by omega,by omega⟩)
 |.ret d,c,e,h,g=>by
  simp only[Sm.sz]at h;exact B5 (d.Ch c _ (by omega) (B5 (s:=e.AD (c+d.sz)) g (true==(Fv j e !=0)) 43 ((c+d.sz:Nat):Int) (.inr ⟨by omega,by omega⟩))) _ _ ((c+d.sz:Nat):Int) (.inr ⟨by omega,by omega⟩)
 |.Kv d f,c,e,h,g=>by
  simp only[Sm.sz]at h;have l:BI a ((d.ck c (e.AD (c+(d.sz+(f.sz+1))))).2.ask ((d.ck c (e.AD (c+(d.sz+(f.sz+1))))).1==2) 42 ((c+(d.sz+(f.sz+1)):Nat):Int)):=B5 (d.Ch c (e.AD (c+(d.sz+(f.sz+1)))) (by omega) g) _ _ _ (.inr ⟨by omega,by omega⟩);exact cond_pos (G5 (i:=c+d.sz+f.sz) l fun e g=>f.Ch j (c+d.sz) e (by omega) g) l
 |.KD d f,c,e,h,g=>by
  simp only[Sm.sz]at h;have l:BI a ((d.ck c (e.AD (c+(d.sz+(f.sz+1))))).2.ask ((d.ck c (e.AD (c+(d.sz+(f.sz+1))))).1==2) 42 ((c+(d.sz+(f.sz+1)):Nat):Int)):=B5 (d.Ch c (e.AD (c+(d.sz+(f.sz+1)))) (by omega) g) _ _ _ (.inr ⟨by omega,by omega⟩);exact cond_pos (G5 (i:=c+d.sz+f.sz) l fun e g=>f.Ch j (c+d.sz) e (by omega) g) l
 |.FP d f k,c,e,h,g=>by
  simp only[Sm.sz]at h;have l:BI a ((d.ck c (e.AD (c+(d.sz+(f.sz+1)+(k.sz+1))))).2.ask ((d.ck c (e.AD (c+(d.sz+(f.sz+1)+(k.sz+1))))).1==2) 42 ((c+(d.sz+(f.sz+1)+(k.sz+1)):Nat):Int)):=B5 (d.Ch c (e.AD (c+(d.sz+(f.sz+1)+(k.sz+1)))) (by omega) g) _ _ _ (.inr ⟨by omega,by omega⟩);have n:=cond_pos (b:=((d.ck c (e.AD (c+(d.sz+(f.sz+1)+(k.sz+1))))).2.ask ((d.ck c (e.AD (c+(d.sz+(f.sz+1)+(k.sz+1))))).1==2) 42 ((c+(d.sz+(f.sz+1)+(k.sz+1)):Nat):Int)).e==0) (G5 (i:=c+d.sz+f.sz) l fun e g=>f.Ch j (c+d.sz) e (by omega) g) l;exact cond_pos (G5 (i:=c+d.sz+(f.sz+1)+k.sz) n fun e g=>k.Ch j (c+d.sz+(f.sz+1)) e (by omega) g) n
theorem Bl.Ch(e:List Fn):∀(f:Bl) (b:Nat) (c:Ay),b+f.sz≤a→BI a c→BI a (f.ck e b c)
 |.nil,_,_,_,d=>d
 |.cons g h,b,c,i,d=>by
  simp only[Bl.sz]at i;exact h.Ch e (b+g.sz) _ (by omega) (cond_pos (g.Ch e b c (by omega) d) d)
end
theorem Q8{a:Nat}{b:Int}(f:0≤b∧b<a):∀(c:List Pm) (d:Ay),BI a d→BI a (E0 b c d)
 |[],_,e=>e
 |g::c,d,e=>Q8 f c _ (B5 e _ _ _ (.inr f))
theorem Aoh(f:List Fn)(g:Nat)(b:Fd)(d:Nat)(c:Ay)(i:d+(b.body.sz+1)≤a)(e:BI a c):BI a (VQ f g b d c):=by have h:BI a (E0 ((d+b.body.sz:Nat):Int) b.params {c with fn:=(g:Int),vars:=[],sz:=0}):=Q8 ⟨by omega,by omega⟩ b.params _ e;exact cond_pos (G5 h fun c e=>b.body.Ch f d c (by omega) e) h
theorem VP{d:Nat}(e:List Fn):∀(i:List Fd) (g a:Nat) (b:Ay),a+(Az i a).length≤d→BI d b→BI d (HP e g i a b)
 |[],_,_,_,_,c=>c
 |f::h,g,a,b,j,c=>by
  have k:(Az (f::h) a).length=f.body.sz+1+(Az h (a+(f.body.sz+1))).length:=by simp only[Az,Y,f.body.Af,W,Z]
  exact VP e h _ _ _ (by omega) (cond_pos (Aoh e g f a b (by omega) c) c)
theorem Pv{c:Nat}:∀(a:List Fn) (g:List H) (d:Bool) (b:Ay),(∀f∈a,0≤f.body∧f.body<c)→BI c b→BI c (DP a g d b)
 |[],_,d,b,_,e=>B5 e _ _ _ (.inl J)
 |f::a,g,d,b,h,e=>Pv a _ _ _ (fun i j=>h i (List.mem_cons_of_mem _ j)) (B5 e _ _ _ (.inr (h f (List.mem_cons_self ..))))
theorem RI:∀(e:List Fd) (a b:Nat),a+(Az e a).length≤b→∀f∈AK e a,0≤f.body∧f.body<b
 |[],_,_,_,f,c=>by cases c
 |f::c,a,b,h,g,d=>by
  have i:(Az (f::c) a).length=f.body.sz+1+(Az c (a+(f.body.sz+1))).length:=by simp only[Az,Y,f.body.Af,W,Z]
  rcases m_.1 d with rfl|d
  ·have:(top a (f.body.sz+1))=((a+f.body.sz:Nat):Int):=J
   show 0≤top a (f.body.sz+1)∧top a (f.body.sz+1)<b;rw[this];exact⟨by omega,by omega⟩
  exact RI c _ b (by omega) g d
theorem Akl(a:List Fd):BI (Az a 0).length (Aw a):=
 VP _ a 0 0 _ (by omega) (Pv _ _ _ _ (RI a 0 _ (by omega)) (.inl J))
def E3(b:AH)(a:List Fd)(i:i_):Prop:=∃c d e f g h,i=.agg #[c,d,e,f,g,h]∧Fx b c (Az a 0)∧Mb b d (AK a 0)∧PrA b (Az a 0).length e f g h (Aw a)
theorem DH.ext{a h1:AH}(b:DH a v q)(e:Wh a)(f:Ext a h1):DH h1 v q:=by
 rcases b with b|⟨c,g,d⟩
 ·exact .inl b
 exact .inr ⟨c,g,(f c (e _ _ d)).trans d⟩
theorem DI.ext{a h1:AH}(d:Wh a)(e:Ext a h1):∀{b:List GH} {c:List Nd},DI a b c→DI h1 b c
 |[],[],_=>trivial
 |v::b,p::c,⟨h,i,j,k,l,m⟩=>by
  refine⟨h,i,j,k,?_,DI.ext d e m⟩;rcases l with n|⟨f,o,g⟩
  ·exact .inl n
  exact .inr ⟨f,o,(e f (d _ _ g)).trans g⟩
 |[],_::_,a=>a.elim
 |_::_,[],a=>a.elim
theorem Fx.ext{a h1:AH}{b:List Nd}(g:Fx a v b)(c:Wh a)(d:Ext a h1):Fx h1 v b:=by
 obtain⟨h,i,j,k,l⟩:=g;refine⟨h,i,?_,k.ext c d,l⟩;rcases j with m|⟨e,f,n⟩
 ·exact .inl m
 exact .inr ⟨e,(d e (c _ _ f)).trans f,n⟩
theorem Mb.ext{b h1:AH}{e:List Fn}(j:Mb b v e)(f:Wh b)(g:Ext b h1):Mb h1 v e:=by
 obtain⟨k,l,m,n⟩:=j;refine⟨k,?_,m,fun o p q=>?_⟩
 ·rcases l with c|⟨h,d,a⟩
  ·exact .inl c
  exact .inr ⟨h,d,(g h (f _ _ a)).trans a⟩
 obtain⟨r,d,a,s,t,u,w⟩:=n o p q;refine⟨r,d,a,s,t,u,?_⟩;rcases w with c|⟨h,x,y,i⟩
 ·exact .inl c
 exact .inr ⟨h,x,y,(g h (f _ _ i)).trans i⟩
theorem PrA.ext{e h1:AH}{f g h i:i_}{j:Ay}(b:PrA e a f g h i j)(c:Wh e)(d:Ext e h1):PrA h1 a f g h i j:=⟨b.t.ext c d,b.sl.ext c d,b.g.ext c d,b.z.ext c d,b.len⟩
theorem E3.ext{a h1:AH}{d:List Fd}(e:E3 a d v)(b:Wh a)(c:Ext a h1):E3 h1 d v:=by obtain⟨f,g,h,i,j,k,l,m,n,o⟩:=e;exact⟨f,g,h,i,j,k,l,m.ext b c,n.ext b c,o.ext b c⟩
def But(c d:AH):Prop:=∀b a,c.get b=T a→T a≠T (.cells [.slice M 0 0,.slice M 0 0,.slice M 0 0,.slice M 0 0,.slice M 0 0,.slice M 0 0])→d.get b=T a
theorem Aw0:T (AO.cells (q.map fun b=>I b))≠T (.cells [.slice M 0 0,.slice M 0 0,.slice M 0 0,.slice M 0 0,.slice M 0 0,.slice M 0 0]):=by
 intro a;injection a with a
 injection a with a
 cases q with
 |nil=>cases a
 |cons b q=>injection a with a _;cases a
theorem Awy{b:List GH}:T (AO.cells (Bf b))≠T (.cells [.slice M 0 0,.slice M 0 0,.slice M 0 0,.slice M 0 0,.slice M 0 0,.slice M 0 0]):=by
 intro a;injection a with a
 injection a with a
 cases b with
 |nil=>cases a
 |cons c b=>injection a with a _;cases a
theorem Awz{b:List MU}:T (AO.cells (Bu b))≠T (.cells [.slice M 0 0,.slice M 0 0,.slice M 0 0,.slice M 0 0,.slice M 0 0,.slice M 0 0]):=by
 intro a;injection a with a
 injection a with a
 cases b with
 |nil=>cases a
 |cons c b=>injection a with a _;cases a
theorem Awx{b:List Pm}:T (AO.cells (Bi b))≠T (.cells [.slice M 0 0,.slice M 0 0,.slice M 0 0,.slice M 0 0,.slice M 0 0,.slice M 0 0]):=by
 intro a;injection a with a
 injection a with a
 cases b with
 |nil=>cases a
 |cons c b=>injection a with a _;cases a
theorem DH.Wd(a:DH f v q)(c:But f g):DH g v q:=by
 rcases a with a|⟨b,d,e⟩
 ·exact .inl a
 exact .inr ⟨b,d,c b _ e Aw0⟩
theorem DI.Wd{a d:AH}(e:But a d):∀{b:List GH} {c:List Nd},DI a b c→DI d b c
 |[],[],_=>trivial
 |v::b,p::c,⟨g,h,i,j,k,l⟩=>by
  refine⟨g,h,i,j,?_,DI.Wd e l⟩;rcases k with m|⟨f,n,o⟩
  ·exact .inl m
  exact .inr ⟨f,n,e f _ o Aw0⟩
 |[],_::_,a=>a.elim
 |_::_,[],a=>a.elim
theorem E3.Wd{b:List Fd}{i j k l m n:i_}(p:Fx f i (Az b 0))(q:Mb f j (AK b 0))(c:PrA f (Az b 0).length k l m n (Aw b))(a:But f g):E3 g b (.agg #[i,j,k,l,m,n]):=by
 refine⟨i,j,k,l,m,n,J,?_,?_,⟨c.t.Wd a,c.sl.Wd a,c.g.Wd a,c.z.Wd a,c.len⟩⟩
 ·obtain⟨r,s,t,u,v⟩:=p
  refine⟨r,s,?_,u.Wd a,v⟩;rcases t with d|⟨o,e,h⟩
  ·exact .inl d
  exact .inr ⟨o,a o _ e Awy,h⟩
 obtain⟨r,s,t,u⟩:=q;refine⟨r,?_,t,fun v w x=>?_⟩
 ·rcases s with d|⟨o,e,h⟩
  ·exact .inl d
  exact .inr ⟨o,e,a o _ h Awz⟩
 obtain⟨y,e,h,z,A,F,K⟩:=u v w x;refine⟨y,e,h,z,A,F,?_⟩;rcases K with d|⟨o,L,N,P⟩
 ·exact .inl d
 exact .inr ⟨o,L,N,a o _ P Awx⟩
theorem On(h:s.length<2^40)(c:Wh f)(i:G7 f)(j:GO s=T (.err x y))(k:y≠0):AR 6 [S s] f (fun l m=>l=.tuple #[Xx,I x,I y]∧Ext f m):=by
 have d:=c.new (.cells [.slice M 0 0,.slice M 0 0,.slice M 0 0,.slice M 0 0,.slice M 0 0,.slice M 0 0]);have n:(y !=0)=true:=by simpa using k
 refine eF Tryz.func6 ?_;simp only[go_sem,V];refine Aa (Ok.wf d (M5 h d (i.new c _) j)) ?_;rintro t a o ⟨u,rfl,e⟩;have v:f.n+1≤a.n:=o;have p:=(e f.n (a_ _)).trans (Ae _);have q:(f.n==a.n)=false:=Ag;simp only[go_sem,V,n,p,q];refine⟨J,fun g b=>?_⟩;have r:(g==a.n)=false:=Ag;simp only[go_sem,b,r];exact((e g (S_ b)).trans (An _ (AE b)))
theorem M0(al:s.length<2^40)(a7:Wh f)(am:G7 f){a8:List Nd}{a9:List Fn}{a:List Fd}(an:GO s=T (.tree a8 a9))(z:a8.map AU=Az a 0)(ao:a9.map EO=AK a 0)(ap:D6 a):
  AR 6 [S s] f (fun j d=>(∃c aa,j=.tuple #[c,I aa,I (Aw a).e]∧((Aw a).e=0→E3 d a c)∧((Aw a).e≠0→c=Xx))∧Ext f d):=by
 have ab:=a7.new (.cells [.slice M 0 0,.slice M 0 0,.slice M 0 0,.slice M 0 0,.slice M 0 0,.slice M 0 0]);have A:((0:Int) !=0)=false:=J;refine eF Tryz.func6 ?_;simp only[go_sem,V];refine Aa (Ok.wf ab (M5 al ab (am.new a7 _) an)) ?_;rintro aP e aq ⟨m,⟨F,ac,rfl,ar⟩,ad⟩;obtain⟨u,K⟩:=ar.tre z ao;have aQ:f.n+1≤e.n:=aq;have au:=(ad f.n (a_ _)).trans (Ae _);obtain⟨o,p,L⟩:∃o p,F=.slice o (Az a 0).length p:=by obtain⟨i,g,z,c,d⟩:=u;obtain⟨o,p,n⟩:=z.slice;refine⟨o,p,?_⟩;rw[n,c.len,←d,v_]
 obtain⟨av,aw,ax⟩:=K.slice;have ay:Ext f e:=(Ext.new f _).trans (z_ _) ad;have v:Ext e ((e.new (.cells [.slice M 0 0,.slice M 0 0])).put e.n (.cells [F,ac])):=fun g d=>by simp only[go_sem,d]
 have ae:Wh ((e.new (.cells [.slice M 0 0,.slice M 0 0])).put e.n (.cells [F,ac])):=Ar (Am m _) (by simp only[go_sem]) _;have az:=u.ext m v;have aA:=K.ext m v;have aB:=V5 ae ap az aA;subst L ax;simp only[go_sem,V,A];refine Aa (Ok.wf ae aB) ?_;rintro aR c aC ⟨af,aD,N⟩;have aS:e.n+1≤c.n:=by simpa only[go_sem]using aC
 have aE:c.get e.n=T (.cells [.slice o (Az a 0).length p,.slice av (AK a 0).length aw]):=(N _ (by simp only[go_sem])).trans (by simp only[go_sem]);have r:c.get f.n=T (.cells [.slice M 0 0,.slice M 0 0,.slice M 0 0,.slice M 0 0,.slice M 0 0,.slice M 0 0]):=(N _ (by simp only[go_sem];omega)).trans ((v _ (by omega)).trans au);have w:Ext e c:=v.trans (by simp only[go_sem];omega) N;have P:Ext f c:=ay.trans (by omega) w;have a0:(f.n==c.n)=false:=Ag;have aF:(e.n==c.n)=false:=Ag;have aG:(e.n==f.n)=false:=Ag;have aT:(c.n==f.n)=false:=Ag;have aU:f.n<c.n:=by omega
 rcases aD with⟨k,rfl⟩|⟨k,a1,a2,a3,a4,h,rfl⟩
 ·have a5:((Aw a).e==0)=false:=by simpa using k
  unfold Xx;cases x:((Aw a).e==44)with
  |true=>
   simp only[go_sem,V,a5,x,r,a0];refine⟨⟨_,_,J,fun f=>absurd f k,fun _=>rfl⟩,fun g d=>?_⟩;have l:(g==c.n)=false:=Ag;simp only[go_sem,d,l];exact P g d
  |false=>
   rcases Akl a with q|q|⟨aV,aW⟩
   ·exact absurd q k
   ·rw[q]at x;cases x
   have aH:(Aw a).pos=(((Aw a).pos.toNat:Nat):Int):=by omega
   have ag:=c_ (show(Aw a).pos.toNat<(Az a 0).length by omega);generalize (Az a 0)[(Aw a).pos.toNat]=aX at ag;obtain⟨ah,i,aI,aY,aZ,L,y,aJ,aK,ai,_⟩:=u.node m w (by omega) ag;injection L with aL _ aM
   subst aL aM;have aj:nth? (Bf i) ((Aw a).pos.toNat*5+1)=T (I aI):=Gm ai 1 (by decide);rw[aH];simp only[go_sem,V,a5,x];have aN:=Ar (b:=c.n) (Am af (.cells [.slice M 0 0,.slice M 0 0,.slice M 0 0,.slice M 0 0,.slice M 0 0,.slice M 0 0])) (by simp only[go_sem]) (.cells [.slice M 0 0,.slice M 0 0,.slice M 0 0,.slice M 0 0,.slice M 0 0,.slice M 0 0]);refine AM aN 0x10030150001500 ?_;have a6:(ah==f.n)=false:=Ag fun n=>by
    rw[n,r]at y;have:=Akv (fun ak:Option AO=>match ak with|some (.cells t)=>t.length|_=>0) y;simp only[W,Z]at this;have b0:(Bf i).length=i.length*5:=by
     clear this y aj ai;induction i with
     |nil=>rfl
     |cons aa t aO=>simp[Bf,aO];omega
    omega
   have aa:ah<c.n:=aJ;have aO:e.n<c.n:=by omega
   simp only[go_sem,V,r,aE,a0,aF,aG,y,aa,aK,aj,a6];refine⟨⟨_,_,J,fun f=>absurd f k,fun _=>rfl⟩,fun g d=>?_⟩;have l:(g==c.n)=false:=Ag;simp only[go_sem,d,l];exact P g d
 have a5:((Aw a).e==0)=true:=by rw[k];rfl
 have ag:=h.z;have x:a4.oneCell'=true∧Aq a4=[a4]∧a1.oneCell'=true∧Aq a1=[a1]∧a2.oneCell'=true∧Aq a2=[a2]∧a3.oneCell'=true∧Aq a3=[a3]:=by
  have i:∀{f:AH} {j:i_} {t:List Int},DH f j t→j.oneCell'=true∧Aq j=[j]:=fun{f j t} y=>by
   rcases y with⟨_,rfl⟩|⟨aa,rfl,_⟩<;>exact⟨J,J⟩
  exact⟨(i h.z).1,(i h.z).2,(i h.t).1,(i h.t).2,(i h.sl).1,(i h.sl).2,(i h.g).1,(i h.g).2⟩
 obtain⟨i,ah,j,ai,t,aj,y,aH⟩:=x;have aa:((0:Int)==0)=true:=J;rw[k];simp only[go_sem,V,aa,r,a0,i,j,t,y];refine⟨⟨_,0,J,fun _=>E3.Wd (u.ext m w) (K.ext m w) h fun g ak d A=>?_,fun f=>absurd J f⟩,fun g d=>?_⟩
 ·have l:(g==f.n)=false:=Ag fun n=>A (by rw[←d,n,r])
  have a6:(g==c.n)=false:=Ag fun n=>by have:=af _ _ d;omega
  simp only[go_sem,l,a6];exact d
 have l:(g==c.n)=false:=Ag;simp only[go_sem,d,l];exact P g d
structure AY where
 op:Int
 a:Int
 b:Int
 s:H
abbrev ins(a b:Int):AY:=⟨a,b,0,[]⟩
def Jj(b:List AY)(c:Nat)(d:Int):List AY:=match b[c]? with
 |some e=>b.set c {e with a:=d}
 |none=>b
abbrev Bb(a:List Int)(b:Nat):Int:=a.getD b 0
section
variable(A:Ay)(F:List Fn)
def Xp.co:Xp→Nat→List AY→List AY
 |.int a,_,b=>b++[ins 2 a]
 |.bool d,_,b=>b++[ins 3 (if d then 1 else 0)]
 |.text e,_,b=>b++[⟨4,0,0,e⟩]
 |.var _,a,b=>b++[⟨5,Bb A.Ac a,Bb A.types a,[]⟩]
 |.index _ c,a,b=>c.co a b++[ins 11 (max (Bb A.Ac (a+c.sz)) 0)]
 |.len c,a,b=>c.co a b++[ins 10 (max (Bb A.Ac (a+c.sz)) 0)]
 |.neg c,a,b=>c.co a b++[ins 8 (max (Bb A.Ac (a+c.sz)) 0)]
 |.no c,a,b=>c.co a b++[ins 9 (max (Bb A.Ac (a+c.sz)) 0)]
 |.bin e c d,a,b=>
  bif e==[38,38]then Jj (d.co (a+c.sz) (c.co a b++[ins 18 0])) (c.co a b).length (d.co (a+c.sz) (c.co a b++[ins 18 0])).length
  else bif e==[124,124]then Jj (d.co (a+c.sz) (c.co a b++[ins 19 0])) (c.co a b).length (d.co (a+c.sz) (c.co a b++[ins 19 0])).length
  else d.co (a+c.sz) (c.co a b)++[⟨7,0,0,e⟩]
def Sa:List Xp→Nat→List AY→List AY
 |[],_,a=>a
 |e::c,b,a=>Sa c (b+e.sz) (e.co A b a)
def Rg.co:Rg→Nat→List AY→List AY
 |.input,_,a=>a++[ins 14 0]
 |.new c,b,a=>c.co A b a++[ins 13 (max (Bb A.Ac (b+c.sz)) 0)]
 |.call e d,b,a=>Sa A d b a++[⟨20,Gr (fun f=>f.name==e) F 0,d.length,[]⟩]
 |.expr c,b,a=>c.co A b a
def Jr(a c:List AY→List AY)(e:Option Int)(b:List AY):List AY:=
 Jj (match e with
  |some d=>c (a b++[ins 17 0])++[ins 16 d]
  |none=>c (a b++[ins 17 0])) (a b).length (match e with
  |some d=>c (a b++[ins 17 0])++[ins 16 d]
  |none=>c (a b++[ins 17 0])).length
def KN(a d b:List AY→List AY)(c:List AY):List AY:=
 let c1:=d (a c++[ins 17 0])
 let c2:=Jj (c1++[ins 16 0]) (a c).length ((c1++[ins 16 0]).length:Nat)
 Jj (b c2) c1.length (b c2).length
mutual
def Sm.co:Sm→Nat→List AY→List AY
 |.lt _ c,a,b=>c.co A F a (b++[ins 1 ((a+c.sz:Nat):Int)])++[ins 6 (Bb A.Ac (a+c.sz))]
 |.set _ c,a,b=>c.co A F a (b++[ins 1 ((a+c.sz:Nat):Int)])++[ins 6 (Bb A.Ac (a+c.sz))]
 |.put _ c d,a,b=>d.co A (a+c.sz) (c.co A a (b++[ins 1 ((a+(c.sz+d.sz):Nat):Int)]))++[ins 12 (Bb A.Ac (a+(c.sz+d.sz)))]
 |.run e c,a,b=>Rg.co A F (.call e c) a (b++[ins 1 ((a+(Dq c+1):Nat):Int)])++[ins 23 0]
 |.print c,a,b=>c.co A a (b++[ins 1 ((a+c.sz:Nat):Int)])++[ins 15 0]
 |.Fa,a,b=>b++[ins 1 (a:Int)]++[ins 22 0]
 |.ret c,a,b=>c.co A a (b++[ins 1 ((a+c.sz:Nat):Int)])++[ins 21 0]
 |.Kv c d,a,b=>Jr (fun b=>c.co A a b) (fun b=>d.co (a+c.sz) b) (T (b.length:Int)) (b++[ins 1 ((a+(c.sz+(d.sz+1)):Nat):Int)])
 |.KD c d,a,b=>Jr (fun b=>c.co A a b) (fun b=>d.co (a+c.sz) b) M (b++[ins 1 ((a+(c.sz+(d.sz+1)):Nat):Int)])
 |.FP c d e,a,b=>KN (fun b=>c.co A a b) (fun b=>d.co (a+c.sz) b) (fun b=>e.co (a+c.sz+(d.sz+1)) b) (b++[ins 1 ((a+(c.sz+(d.sz+1)+(e.sz+1)):Nat):Int)])
def Bl.co:Bl→Nat→List AY→List AY
 |.nil,_,a=>a
 |.cons b d,c,a=>d.co (c+b.sz) (b.co c a)
end
def Tp:List Fd→Nat→List AY→List Int→List AY×List Int
 |[],_,a,b=>(a,b)
 |f::d,c,a,b=>Tp d (c+(f.body.sz+1)) (f.body.co A F c a++[ins 22 f.ret]) (b++[(a.length:Int)])
end
def Bh(a:List Fd):List AY×List Int:=Tp (Aw a) (AK a 0) a 0 [] []
def Ih(a:List Fd):Int:=Gr (fun b=>b.name==KA) (AK a 0) 0
def BP:List AY→E
 |[]=>[]
 |x::a=>I x.op::I x.a::I x.b::S x.s::BP a
theorem Nc:∀(a b:List AY),BP (a++b)=BP a++BP b
 |[],_=>rfl
 |c::a,b=>by simp[BP,Nc a b]
theorem JP:∀a:List AY,(BP a).length=a.length*4
 |[]=>rfl
 |b::a=>by simp[BP,JP a];omega
theorem Pt:∀(c:List AY) (b:Nat) (a:AY),c[b]? =T a→sub? (BP c) (b*4) 4=T [I a.op,I a.a,I a.b,S a.s]
 |[],_,_,h=>by cases h
 |x::c,0,a,h=>by
  cases h;rw[Nat.zero_mul,BK,Bn (by simp[BP])];rfl
 |x::c,b+1,a,h=>by
  have e:=Pt c b a (by simpa using h);rw[show(b+1)*4=b*4+1+1+1+1 by omega];exact e
theorem Na:∀(b:List AY) (c:Nat) (i:AY) (e:Int),b[c]? =T i→spl? (BP b) (c*4+1) [I e]=T (BP (b.set c {i with a:=e}))
 |[],_,_,_,h=>by cases h
 |q::b,0,i,e,h=>by
  cases h;show spl? (BP (q::b)) 1 [I e]=_;simp only[BP,DK,DJ,GD,F4,EU,List.set]
 |q::b,c+1,i,e,h=>by
  have j:=Na b c i e (by simpa using h);rw[show(c+1)*4+1=c*4+1+1+1+1+1 by omega];simp only[BP,DK,j,EU,List.set]
def YW(h:AH)(b:i_)(s:List AY)(c:List Nat):Prop:=(s=[]∧b=.slice M 0 0∧c=[])∨(∃a,b=.slice (T ⟨a,0,M⟩) s.length 4∧c=[a]∧h.get a=T (.cells (BP s)))
structure CoR(cb:Nat)(nv fv tv sv gv zv:i_)(s:List AY)(g:List Nat)(h:AH):Prop where
 ex:∃iv bs,g=cb::bs∧h.get cb=T (.cells [nv,fv,tv,sv,gv,zv,iv])∧YW h iv s bs∧cb∉bs
theorem YW.lt{h:AH}{zv:i_}{c:List AY}(e:YW h zv c p)(i:Wh h):∀a∈p,a<h.n:=by
 rcases e with⟨_,_,rfl⟩|⟨k,_,rfl,j⟩
 ·intro a b;cases b
 intro a b;rcases d_.1 b with rfl;exact i _ _ j
theorem YW.same{h h1:AH}{zv:i_}{b:List AY}(a:YW h zv b p)(i:∀c∈p,h1.get c=h.get c):YW h1 zv b p:=by
 rcases a with a|⟨e,j,rfl,k⟩
 ·exact .inl a
 exact .inr ⟨e,j,J,(i e (d_.2 J)).trans k⟩
def I6(cb:Nat)(nv fv tv sv gv zv:i_):Kd (List AY)where
 R s g h:=CoR cb nv fv tv sv gv zv s g h
 lt:=by
  rintro s g h i ⟨j,k,rfl,a,b,_⟩ c e;rcases m_.1 e with rfl|e
  ·exact i _ _ a
  exact b.lt i c e
 same:=by rintro s g h l ⟨j,k,rfl,a,b,i⟩ e;exact⟨j,k,rfl,(e _ (by simp)).trans a,b.same fun c a=>e c (by simp[a]),i⟩
section
variable{cb:Nat}{nv fv tv sv gv zv:Value}{d h0 h:AH}{f g:List Nat}{s:List AY}
theorem Hr.Arb{iv:i_}{a:AH}{s1:List AY}{iv1:i_}{nb:Nat}(j:Hr (I6 cb nv fv tv sv gv zv) d h0 f h g s)(k:g=cb::p)(t:cb<h.n)(l:Wh a)(m:h.n≤a.n)
  (n:a.get cb=T (.cells [nv,fv,tv,sv,gv,zv,iv1])) (o:YW a iv1 s1 [nb]) (c:h.n≤nb) (q:∀b,b<h.n→b≠cb→b∉p→a.get b=h.get b):Hr (I6 cb nv fv tv sv gv zv) d h0 f a [cb,nb] s1:=by
 subst k;refine j.MZ l m ⟨iv1,[nb],J,n,o,fun r=>?_⟩ (fun b e=>?_) fun b a i=>q b a (fun c=>i (by simp[c])) (fun c=>i (by simp[c]))
 ·rcases d_.1 r with rfl;omega
 simp only[m_,al_,or_false]at e⊢;rcases e with h|h
 ·exact .inl (.inl h)
 exact .inr (by omega)
theorem Hr.FJ(b:Hr (I6 cb nv fv tv sv gv zv) d h0 f h g s):∃c e,h.get cb=T (.cells [nv,fv,tv,sv,gv,zv,.slice c s.length e])∧cb<h.n:=by
 obtain⟨k,l,m,a,i,_⟩:=b.r;rcases i with⟨rfl,rfl,_⟩|⟨j,rfl,_⟩
 ·exact⟨M,0,a,b.w _ _ a⟩
 exact⟨T ⟨j,0,M⟩,4,a,b.w _ _ a⟩
theorem Hr.V1(c:Hr (I6 cb nv fv tv sv gv zv) d h0 f h g s)(y:s.length<100000)(a:AY):
  (s=[]∧h.get cb=T (.cells [nv,fv,tv,sv,gv,zv,.slice M 0 0])∧cb<h.n∧
   ∃e,Hr (I6 cb nv fv tv sv gv zv) d h0 f (((h.new (.cells [I a.op,I a.a,I a.b,S a.s])).new (.cells [I a.op,I a.a,I a.b,S a.s])).put cb (.cells [nv,fv,tv,sv,gv,zv,.slice (T ⟨h.n+1,0,M⟩) 1 4])) e (s++[a]))∨
  (∃b,h.get cb=T (.cells [nv,fv,tv,sv,gv,zv,.slice (T ⟨b,0,M⟩) s.length 4])∧cb<h.n∧h.get b=T (.cells (BP s))∧b<h.n∧(cb==b)=false∧A_ (s.length+1) 1000000=true∧sub? (BP s) 0 (s.length*4)=T (BP s)∧
   ∃e,Hr (I6 cb nv fv tv sv gv zv) d h0 f ((((h.new (.cells [I a.op,I a.a,I a.b,S a.s])).del b).new (.cells (BP s++[I a.op,I a.a,I a.b,S a.s]))).put cb (.cells [nv,fv,tv,sv,gv,zv,.slice (T ⟨h.n+1,0,M⟩) (s.length+1) 4])) e (s++[a])):=by
 obtain⟨iv,z,l,e,p,q⟩:=c.r;have i:=c.w _ _ e;have m:(h.n+1==cb)=false:=Ag;rcases p with⟨rfl,rfl,rfl⟩|⟨b,rfl,rfl,n⟩
 ·refine .inl ⟨J,e,i,_,c.Arb (iv:=.slice M 0 0) (iv1:=.slice (T ⟨h.n+1,0,M⟩) 1 4) (nb:=h.n+1) (s1:=[a]) l i (Ar (Am (Am c.w _) _) (by simp only[go_sem];omega) _) (by simp only[go_sem];omega) (by simp only[go_sem]) (.inr ⟨h.n+1,J,J,?_⟩) (by omega) ?_⟩
  ·simp only[go_sem,m];rfl
  intro o e j _;simp only[go_sem,e,Ag j]
 have r:=c.w _ _ n;have t:(cb==b)=false:=Ag fun k=>q (by simp[k]);have u:A_ (s.length+1) 1000000=true:=Eg;have v:sub? (BP s) 0 (s.length*4)=T (BP s):=C2 (JP s);refine .inr ⟨b,e,i,n,r,t,u,v,_,c.Arb (iv:=.slice (T ⟨b,0,M⟩) s.length 4) (iv1:=.slice (T ⟨h.n+1,0,M⟩) (s.length+1) 4) (nb:=h.n+1) (s1:=s++[a]) l i (Ar (Am (Dm (Am c.w _) _) _) (by simp only[go_sem];omega) _) (by simp only[go_sem];omega) (by simp only[go_sem]) (.inr ⟨h.n+1,?_,J,?_⟩) (by omega) ?_⟩
 ·rw[Y];rfl
 ·simp only[go_sem,m,Nc];rfl
 intro o e j w;have x:(o==b)=false:=Ag fun k=>w (by rw[k];simp);simp only[go_sem,e,Ag j,x]
theorem Bd(a:Hr (I6 cb nv fv tv sv gv zv) d h0 f h g s)(b c:Int)(k:s.length<100000:=by omega):AR 95 [AA cb,I b,I c] h (Jn (I6 cb nv fv tv sv gv zv) d h0 f h g (s++[ins b c]) (I s.length)):=by
 refine a.walk fun a=>?_;have r:l_ .i64 (((s.length:Int)+1)-1)=s.length:=by rw[Ap]<;>omega
 have l:l_ .i64 (((s.length+1:Nat):Int)-1)=s.length:=by rw[Ap]<;>omega
 have t:l_ .i64 ((1:Int)-1)=0:=by rw[Ap]<;>omega
 refine eF Tryz.func95 ?_;rcases a.V1 k (ins b c)with⟨rfl,e,i,j⟩|⟨u,e,i,m,n,o,p,q,j⟩
 ·simp only[go_sem,V,e,i]
  exact⟨J,j⟩
 simp only[go_sem,V,e,i,m,n,o,p,q,l];exact j
theorem Kn(b:Hr (I6 cb nv fv tv sv gv zv) d h0 f h g s)(c:Nat)(i:c<s.length):AR 340 [AA cb,I c] h (Jn (I6 cb nv fv tv sv gv zv) d h0 f h g (Jj s c s.length) (.tuple #[])):=by
 refine b.walk fun b=>?_;obtain⟨y,z,p,e,q,m⟩:=b.r;have A:=b.w _ _ e;rcases q with⟨rfl,_⟩|⟨j,rfl,rfl,n⟩
 ·cases i
 have k:=c_ i;generalize s[c]=o at k;have r:=Na s c o s.length k;have t:Jj s c s.length=s.set c {o with a:=(s.length:Int)}:=by unfold Jj;rw[k]
 have u:=b.w _ _ n;have v:(cb==j)=false:=Ag fun l=>m (by simp[l]);refine eF Tryz.func340 ?_;simp only[go_sem];refine AM b.w 0x13001100001000 ?_;simp only[go_sem,V,e,n,i,r];refine⟨g,?_⟩;rw[t];subst p;refine b.MZ (Ar b.w u _) (e_ _) ⟨_,[j],J,(Ab _ v).trans e,.inr ⟨j,by rw[H_],J,Ai _ _⟩,m⟩ (fun w e=>.inl e) fun w _ x=>Ab _ (Ag fun l=>x (by simp[l]))
theorem Bv{l:List Nd}(m:Wh d)(n:Fx d nv l)(c:Hr (I6 cb nv fv tv sv gv zv) d h0 f h g s){b:Nd}(o:l[a]? =T b):
  ∃j e i,Iz d e i b.l∧AR 181 [AA cb,I a] h (fun p k=>p=.agg #[I b.kind,I j,I b.n,S b.name,.slice e b.l.length i]∧Hr (I6 cb nv fv tv sv gv zv) d h0 f k g s∧Ext h k):=by
 obtain⟨F,K,j,e,i,rfl,p,q,r,t,u⟩:=n.node m c.x c.m o;obtain⟨L,N,k,v⟩:=c.FJ;refine⟨j,e,i,?_,c.calls ?_⟩
 ·rcases u with w|⟨x,y,z,_,A⟩
  ·exact .inl w
  exact .inr ⟨x,y,z,A⟩
 refine eF Tryz.func181 ?_;simp only[go_sem,V,k,v,p,q,r,t];exact fun w k=>by simp only[go_sem,k]
end
def lkT(h:AH)(a:Option (TypeDesc×V_))(b:Option i_)(d c:i_):Option i_:=
 opt a fun a=>opt (mapA h d) fun e=>opt b fun b=>Av (CJ a.1 c) (opt (Bc c e) fun f=>T (CQ b true f)) M
theorem OU{f:Pr}{h:AH}(j:V_)(i a:Operand){c:TypeDesc×V_}(k:Hw f j=T c)(l:f.zero c.2=T v):Cs f u (.lookup j i a true) e h=CF h (lkT h (T c) (T v) (AZ e i) (AZ e a)):=by
 show opt (Hw f j) (fun c=>opt (mapA h (AZ e i)) fun d=>opt (f.zero c.2) fun v=>Av (CJ c.1 (AZ e a)) (opt (Bc (AZ e a) d) fun b=>T (Nx.val (CQ v true b) h)) M)=_;rw[k];show opt (mapA h (AZ e i)) (fun d=>opt (f.zero c.2) fun v=>Av (CJ c.1 (AZ e a)) (opt (Bc (AZ e a) d) fun b=>T (Nx.val (CQ v true b) h)) M)=CF h (opt (mapA h (AZ e i)) fun d=>Av (CJ c.1 (AZ e a)) (opt (Bc (AZ e a) d) fun b=>T (CQ v true b)) M);rw[l];cases mapA h (AZ e i)with
 |none=>rfl
 |some d=>
  show Av (CJ c.1 (AZ e a)) (opt (Bc (AZ e a) d) fun b=>T (Nx.val (CQ v true b) h)) M=CF h (Av (CJ c.1 (AZ e a)) (opt (Bc (AZ e a) d) fun b=>T (CQ v true b)) M);cases CJ c.1 (AZ e a)with
  |false=>rfl
  |true=>
   show opt (Bc (AZ e a) d) (fun b=>T (Nx.val (CQ v true b) h))=CF h (opt (Bc (AZ e a) d) fun b=>T (CQ v true b));cases Bc (AZ e a) d<;>rfl
def Ais(a:i_):Option (Option i_)→Option i_
 |some b=>T (CQ a true b)
 |none=>M
def Ang(a b:i_):Option AO→Option i_
 |some (.map c)=>Ais a (Bc b c)
 |_=>M
theorem Dj(a b:i_)(c:List (i_×i_)):Ang a b (T (.map c))=Ais a (Bc b c):=nr J
theorem FG(b a:i_):Ais b (T (T a))=T (.tuple #[a,.bool true]):=nr J
theorem E1(a:i_):Ais a (T M)=T (.tuple #[a,.bool false]):=nr J
theorem ZQ{h:AH}{e:TypeDesc}(i:V_)(a:Nat)(b:i_)(d:i_)(j:CJ e b=true):lkT h (T (e,i)) (T d) (.map (T a)) b=Ang d b (h.get a):=by
 have k:mapA h (.map (T a))=(match h.get a with|some (.map c)=>T c|_=>M):=J;show opt (mapA h (.map (T a))) (fun c=>Av (CJ e b) (opt (Bc b c) fun a=>T (CQ d true a)) M)=_;rw[k,j];cases h.get a with
 |none=>rfl
 |some l=>
  cases l with
  |map c=>
   show opt (Bc b c) (fun a=>T (CQ d true a))=Ais d (Bc b c);cases Bc b c<;>rfl
  |cells f=>rfl
  |tc m f=>rfl
  |iter s m=>rfl
  |ro f=>rfl
theorem EL{h:AH}(d:V_)(a:Nat)(b:Int)(c:i_):lkT h (T (.int .i64,d)) (T c) (.map (T a)) (I b)=Ang c (I b) (h.get a):=ZQ d a (I b) c J
theorem Anf{h:AH}(d:V_)(a:Nat)(b:H)(c:i_):lkT h (T (.string,d)) (T c) (.map (T a)) (S b)=Ang c (S b) (h.get a):=ZQ d a (S b) c J
theorem GV:Hw pr 119=T (.int .i64,3):=by kernel_rfl
theorem BG{h:AH}(a b:Operand):Cs pr u (.lookup 119 a b true) e h=CF h (lkT h (T (.int .i64,3)) (T (I 0)) (AZ e a) (AZ e b)):=OU 119 a b GV Ul
theorem Qr{h:AH}(a b:Operand):Cs pr u (.lookup 438 a b true) e h=CF h (lkT h (T (.string,3)) (T (I 0)) (AZ e a) (AZ e b)):=OU 438 a b ZO Ul
theorem Vm{a:Int}(b:List AY):T (AO.cells [I x,I y,I a,S t,v])≠T (.cells (BP b)):=by
 intro h;injection h with h
 injection h with h
 have:=Akv List.length h;rw[JP]at this;simp only[W,Z]at this;omega
structure Fu(cb:Nat)(nv fv tv sv gv zv:i_)(hs:AH)(fn:ad_)(x:Int)(c:List AY→List AY)(m:Nat):Prop where
 run:∀{h0 h:AH} {g0 g:List Nat} {s:List AY},Hr (I6 cb nv fv tv sv gv zv) hs h0 g0 h g s→s.length+m<90000→AR fn [AA cb,I x] h (Jn (I6 cb nv fv tv sv gv zv) hs h0 g0 h g (c s) (.tuple #[]))
 len:∀s,s.length≤(c s).length∧(c s).length≤s.length+m
section
variable{cb:Nat}{nv fv tv sv gv zv:Value}{hs h0 h:AH}{g0 g:List Nat}{s:List AY}{N:List Nd}{A:Ay}
theorem Hr.QD{d:Type}{e:Kd d}{s:d}(a:Hr e hs h0 g0 h g s)(b B:AO):Hr e hs h0 g0 ((h.new b).put h.n B) g s∧Gf ((h.new b).put h.n B) g h.n∧((h.new b).put h.n B).get h.n=T B:=
 ⟨(a.new b).put (c:=h.n) (a.free (e_ _) (by simp only[go_sem])) a.n a.m B,a.free (e_ _) (by simp only[go_sem]),Ai _ _⟩
theorem Hr.Gd{j:Type}{k:Kd j}{s:j}(i:Hr k hs h0 g0 h g s)(a B b c d e f:AO):Hr k hs h0 g0 ((((((((h.new a).put h.n B).new (.map [])).put (h.n+1) b).put (h.n+1) c).put (h.n+1) d).put (h.n+1) e).put (h.n+1) f) g s∧Gf ((((((((h.new a).put h.n B).new (.map [])).put (h.n+1) b).put (h.n+1) c).put (h.n+1) d).put (h.n+1) e).put (h.n+1) f) g h.n∧(((((((((h.new a).put h.n B).new (.map [])).put (h.n+1) b).put (h.n+1) c).put (h.n+1) d).put (h.n+1) e).put (h.n+1) f)).get h.n=T B:=by
 have l:Ext h ((((((((h.new a).put h.n B).new (.map [])).put (h.n+1) b).put (h.n+1) c).put (h.n+1) d).put (h.n+1) e).put (h.n+1) f):=fun o m=>by simp only[go_sem,m]
 have n:Wh ((((((((h.new a).put h.n B).new (.map [])).put (h.n+1) b).put (h.n+1) c).put (h.n+1) d).put (h.n+1) e).put (h.n+1) f):=Ar (Ar (Ar (Ar (Ar (Am (Ar (Am i.w a) (by simp only[go_sem]) B) _) (by simp only[go_sem]<;>omega) _) (by simp only[go_sem]<;>omega) _) (by simp only[go_sem]<;>omega) _) (by simp only[go_sem]<;>omega) _) (by simp only[go_sem]<;>omega) _;exact⟨i.ext (by simp only[go_sem]<;>omega) n l,i.free (e_ _) (by simp only[go_sem]<;>omega),by simp only[go_sem]⟩
theorem Aie(b:Int)(d:Nat)(c:Hr (I6 cb nv fv tv sv gv zv) hs h0 g0 h g s)(j:s.length<90000):AR 343 [AA cb,.agg #[I 1,I x,I b,S [],.slice o 0 a],I d] h (Jn (I6 cb nv fv tv sv gv zv) hs h0 g0 h g (s++[ins 2 b]) (.tuple #[])):=by refine c.walk fun c=>?_;have e:=c.new (.cells [I 1,I x,I b,S [],.slice o 0 a]);refine eF P_ ?_;simp only[go_sem,V];refine Aa (Bd e 2 b) ?_;rintro _ k l ⟨rfl,f,i,m⟩;simp only[go_sem];exact⟨f,i⟩
theorem Ac7(b:Int)(d:Nat)(c:Hr (I6 cb nv fv tv sv gv zv) hs h0 g0 h g s)(j:s.length<90000):AR 343 [AA cb,.agg #[I 2,I x,I b,S [],.slice o 0 a],I d] h (Jn (I6 cb nv fv tv sv gv zv) hs h0 g0 h g (s++[ins 3 b]) (.tuple #[])):=by refine c.walk fun c=>?_;have e:=c.new (.cells [I 2,I x,I b,S [],.slice o 0 a]);refine eF P_ ?_;simp only[go_sem,V,b_];refine Aa (Bd e 3 b) ?_;rintro _ k l ⟨rfl,f,i,m⟩;simp only[go_sem];exact⟨f,i⟩
theorem XP(c:Nat)(b:Hr (I6 cb nv fv tv sv gv zv) hs h0 g0 h g s)(i:s.length<90000):AR 343 [AA cb,.agg #[I 19,I x,I 0,S [],.slice o 0 a],I c] h (Jn (I6 cb nv fv tv sv gv zv) hs h0 g0 h g (s++[ins 14 0]) (.tuple #[])):=by refine b.walk fun b=>?_;have d:=b.new (.cells [I 19,I x,I 0,S [],.slice o 0 a]);refine eF P_ ?_;simp only[go_sem,V,b_];refine Aa (Bd d 14 0) ?_;rintro _ j k ⟨rfl,e,f,l⟩;simp only[go_sem];exact⟨e,f⟩
theorem Ac6(c:H)(m:Nat)(d:Hr (I6 cb nv fv tv sv gv zv) hs h0 g0 h g s)(v:s.length<90000):AR 343 [AA cb,.agg #[I 3,I x,I 0,S c,.slice o 0 a],I m] h (Jn (I6 cb nv fv tv sv gv zv) hs h0 g0 h g (s++[⟨4,0,0,c⟩]) (.tuple #[])):=by
 refine d.walk fun d=>?_;have k:=d.new (.cells [I 3,I x,I 0,S c,.slice o 0 a]);refine eF P_ ?_;simp only[go_sem,V,b_];obtain⟨w,y,z,e⟩:=d.FJ;refine AM k.w 0x13003201010000 ?_;rcases k.V1 (by omega) ⟨4,0,0,c⟩with⟨rfl,b,n,i⟩|⟨j,b,n,f,p,r,t,u,i⟩
 ·rw[An _ (AE e)]at b
  simp only[go_sem,V,b,e];exact i
 have l:j<h.n:=by
  rcases Nat.lt_or_ge j h.n with q|q
  ·exact q
  have:j=h.n:=by simp only[go_sem]at p;omega
  subst this;rw[Ae]at f;exact absurd f (Vm _)
 rw[An _ (AE e)]at b;rw[An _ (AE l)]at f;simp only[go_sem,V,b,e,f,l,r,t,u];exact i
theorem Aid(u:Wh hs)(a2:DH hs tv A.types)(a3:DH hs sv A.Ac)(v:H)(b:Nat)(d:b<A.types.length)(e:b<A.Ac.length)(c:Hr (I6 cb nv fv tv sv gv zv) hs h0 g0 h g s)(ab:s.length<90000):AR 343 [AA cb,.agg #[I 4,I y,I 0,S v,.slice o 0 a],I b] h (Jn (I6 cb nv fv tv sv gv zv) hs h0 g0 h g (s++[⟨5,Bb A.Ac b,Bb A.types b,[]⟩]) (.tuple #[])):=by
 refine c.walk fun c=>?_;have w:=c.new (.cells [I 4,I y,I 0,S v,.slice o 0 a]);refine eF P_ ?_;simp only[go_sem,V,b_];obtain⟨ac,ad,ae,j⟩:=c.FJ;rcases a2 with⟨m,_⟩|⟨a4,rfl,z⟩
 ·rw[m]at d;cases d
 rcases a3 with⟨m,_⟩|⟨a5,rfl,F⟩
 ·rw[m]at e;cases e
 have n:=(c.x a4 (u _ _ z)).trans z;have p:=(c.x a5 (u _ _ F)).trans F;have K:=c.w _ _ n;have L:=c.w _ _ p;have P:=DU (l:=A.types) (i:=b) (x:=Bb A.types b) (by rw[c_ d];simp[Bb,B_,d]);have a0:=DU (l:=A.Ac) (i:=b) (x:=Bb A.Ac b) (by rw[c_ e];simp[Bb,B_,e]);refine AM w.w 0x1300320100100001001000010000 ?_;rcases w.V1 (by omega) ⟨5,Bb A.Ac b,Bb A.types b,[]⟩with⟨rfl,f,a6,r⟩|⟨t,f,a6,k,a7,a8,a9,aa,r⟩
 ·rw[An _ (AE j)]at f
  simp only[go_sem,V,f,j,n,K,p,L,d,e,P,a0];exact r
 have a1:t<h.n:=by
  rcases Nat.lt_or_ge t h.n with q|q
  ·exact q
  have:t=h.n:=by simp only[go_sem]at a7;omega
  subst this;rw[Ae]at k;exact absurd k (Vm _)
 rw[An _ (AE j)]at f;rw[An _ (AE a1)]at k;simp only[go_sem,V,f,j,k,a1,a8,a9,aa,n,K,p,L,d,e,P,a0];exact r
theorem Arx(d:Wh hs)(e:Fx hs nv N)(b:Nat)(a:Int)(f:N[b]? =T (nd 1 a [] [])):Fu cb nv fv tv sv gv zv hs 267 b (fun i=>i++[ins 2 a]) 3:=by refine⟨fun{h0 h g0 g s} c r=>?_,fun s=>by simp only[Y,W,Z];omega⟩;refine c.walk fun c=>?_;obtain⟨j,k,l,t,m⟩:=Bv d e c f;refine eF r_ ?_;simp only[go_sem,V];refine Aa m ?_;rintro _ u v ⟨rfl,n,w⟩;obtain⟨o,x,y⟩:=n.Gd (.cells [I 0,I 0,I 0,S [],.slice M 0 0]) (.cells [I 1,I j,I a,S [],.slice k 0 l]) (.map [(I 6,I 10)]) (.map [(I 6,I 10),(I 7,I 8)]) (.map [(I 6,I 10),(I 7,I 8),(I 8,I 9)]) (.map [(I 6,I 10),(I 7,I 8),(I 8,I 9),(I 20,I 13)]) (.map [(I 6,I 10),(I 7,I 8),(I 8,I 9),(I 20,I 13),(I 5,I 11)]);simp only[go_sem,V,b_,Ce,GV,C4,C5,BM,B0,B1,Acf,Aa9,Cg,BG,EL,Dj,BD,BC,E1,Z];refine Aa (Aie a b o (by omega)) ?_;rintro _ z F ⟨rfl,p,q,K⟩;simp only[go_sem];exact⟨p,q⟩
theorem Ak7(d:Wh hs)(e:Fx hs nv N)(b:Nat)(a:Int)(f:N[b]? =T (nd 2 a [] [])):Fu cb nv fv tv sv gv zv hs 267 b (fun i=>i++[ins 3 a]) 3:=by refine⟨fun{h0 h g0 g s} c r=>?_,fun s=>by simp only[Y,W,Z];omega⟩;refine c.walk fun c=>?_;obtain⟨j,k,l,t,m⟩:=Bv d e c f;refine eF r_ ?_;simp only[go_sem,V];refine Aa m ?_;rintro _ u v ⟨rfl,n,w⟩;obtain⟨o,x,y⟩:=n.Gd (.cells [I 0,I 0,I 0,S [],.slice M 0 0]) (.cells [I 2,I j,I a,S [],.slice k 0 l]) (.map [(I 6,I 10)]) (.map [(I 6,I 10),(I 7,I 8)]) (.map [(I 6,I 10),(I 7,I 8),(I 8,I 9)]) (.map [(I 6,I 10),(I 7,I 8),(I 8,I 9),(I 20,I 13)]) (.map [(I 6,I 10),(I 7,I 8),(I 8,I 9),(I 20,I 13),(I 5,I 11)]);simp only[go_sem,V,b_,Ce,GV,C4,C5,BM,B0,B1,Acf,Aa9,Cg,BG,EL,Dj,BD,BC,E1,Z];refine Aa (Ac7 a b o (by omega)) ?_;rintro _ z F ⟨rfl,p,q,K⟩;simp only[go_sem];exact⟨p,q⟩
theorem Ae1(c:Wh hs)(d:Fx hs nv N)(a:Nat)(e:N[a]? =T (nd 19 0 [] [])):Fu cb nv fv tv sv gv zv hs 267 a (fun f=>f++[ins 14 0]) 3:=by refine⟨fun{h0 h g0 g s} b q=>?_,fun s=>by simp only[Y,W,Z];omega⟩;refine b.walk fun b=>?_;obtain⟨i,j,k,r,l⟩:=Bv c d b e;refine eF r_ ?_;simp only[go_sem,V];refine Aa l ?_;rintro _ t u ⟨rfl,m,v⟩;obtain⟨n,w,x⟩:=m.Gd (.cells [I 0,I 0,I 0,S [],.slice M 0 0]) (.cells [I 19,I i,I 0,S [],.slice j 0 k]) (.map [(I 6,I 10)]) (.map [(I 6,I 10),(I 7,I 8)]) (.map [(I 6,I 10),(I 7,I 8),(I 8,I 9)]) (.map [(I 6,I 10),(I 7,I 8),(I 8,I 9),(I 20,I 13)]) (.map [(I 6,I 10),(I 7,I 8),(I 8,I 9),(I 20,I 13),(I 5,I 11)]);simp only[go_sem,V,b_,Ce,GV,C4,C5,BM,B0,B1,Acf,Aa9,Cg,BG,EL,Dj,BD,BC,E1,Z];refine Aa (XP a n (by omega)) ?_;rintro _ y z ⟨rfl,o,p,F⟩;simp only[go_sem];exact⟨o,p⟩
theorem Ak5(d:Wh hs)(e:Fx hs nv N)(b:Nat)(a:H)(f:N[b]? =T (nd 3 0 a [])):Fu cb nv fv tv sv gv zv hs 267 b (fun i=>i++[⟨4,0,0,a⟩]) 3:=by refine⟨fun{h0 h g0 g s} c r=>?_,fun s=>by simp only[Y,W,Z];omega⟩;refine c.walk fun c=>?_;obtain⟨j,k,l,t,m⟩:=Bv d e c f;refine eF r_ ?_;simp only[go_sem,V];refine Aa m ?_;rintro _ u v ⟨rfl,n,w⟩;obtain⟨o,x,y⟩:=n.Gd (.cells [I 0,I 0,I 0,S [],.slice M 0 0]) (.cells [I 3,I j,I 0,S a,.slice k 0 l]) (.map [(I 6,I 10)]) (.map [(I 6,I 10),(I 7,I 8)]) (.map [(I 6,I 10),(I 7,I 8),(I 8,I 9)]) (.map [(I 6,I 10),(I 7,I 8),(I 8,I 9),(I 20,I 13)]) (.map [(I 6,I 10),(I 7,I 8),(I 8,I 9),(I 20,I 13),(I 5,I 11)]);simp only[go_sem,V,b_,Ce,GV,C4,C5,BM,B0,B1,Acf,Aa9,Cg,BG,EL,Dj,BD,BC,E1,Z];refine Aa (Ac6 a b o (by omega)) ?_;rintro _ z F ⟨rfl,p,q,K⟩;simp only[go_sem];exact⟨p,q⟩
theorem Art(d:Wh hs)(e:Fx hs nv N)(a:Nat)(b:H)(f:N[a]? =T (nd 4 0 b []))(i:DH hs tv A.types)(j:DH hs sv A.Ac)(k:a<A.types.length)(l:a<A.Ac.length):Fu cb nv fv tv sv gv zv hs 267 a (fun m=>m++[⟨5,Bb A.Ac a,Bb A.types a,[]⟩]) 3:=by refine⟨fun{h0 h g0 g s} c w=>?_,fun s=>by simp only[Y,W,Z];omega⟩;refine c.walk fun c=>?_;obtain⟨n,o,p,x,q⟩:=Bv d e c f;refine eF r_ ?_;simp only[go_sem,V];refine Aa q ?_;rintro _ y z ⟨rfl,r,F⟩;obtain⟨t,K,L⟩:=r.Gd (.cells [I 0,I 0,I 0,S [],.slice M 0 0]) (.cells [I 4,I n,I 0,S b,.slice o 0 p]) (.map [(I 6,I 10)]) (.map [(I 6,I 10),(I 7,I 8)]) (.map [(I 6,I 10),(I 7,I 8),(I 8,I 9)]) (.map [(I 6,I 10),(I 7,I 8),(I 8,I 9),(I 20,I 13)]) (.map [(I 6,I 10),(I 7,I 8),(I 8,I 9),(I 20,I 13),(I 5,I 11)]);simp only[go_sem,V,b_,Ce,GV,C4,C5,BM,B0,B1,Acf,Aa9,Cg,BG,EL,Dj,BD,BC,E1,Z];refine Aa (Aid d i j b a k l t (by omega)) ?_;rintro _ P a0 ⟨rfl,u,v,a1⟩;simp only[go_sem];exact⟨u,v⟩
theorem Arw(d:Wh hs)(v:Fx hs nv N)(a:Nat)(e:Int)(w:N[a]? =T (nd 6 0 [] [e]))(y:DH hs sv A.Ac)(b:a<A.Ac.length)(o:List AY→List AY)(p:Nat)(f:Fu cb nv fv tv sv gv zv hs 267 e o p):Fu cb nv fv tv sv gv zv hs 267 a (fun z=>o z++[ins 10 (max (Bb A.Ac a) 0)]) (p+3):=by
 refine⟨fun{h0 h g0 g s} j a8=>?_,fun s=>by have:=f.len s;simp only[Y,W,Z];omega⟩;refine j.walk fun j=>?_;obtain⟨F,a9,aa,k,K⟩:=Bv d v j w;rcases k with k|⟨m,rfl,rfl,L⟩
 ·cases k
 have q:hs.get m=T (.cells [I e]):=L;refine eF r_ ?_;simp only[go_sem,V];refine Aa K ?_;rintro _ ab ac ⟨rfl,n,ad⟩;obtain⟨P,ae,af⟩:=n.Gd (.cells [I 0,I 0,I 0,S [],.slice M 0 0]) (.cells [I 6,I F,I 0,S [],.slice (T ⟨m,0,M⟩) 1 1]) (.map [(I 6,I 10)]) (.map [(I 6,I 10),(I 7,I 8)]) (.map [(I 6,I 10),(I 7,I 8),(I 8,I 9)]) (.map [(I 6,I 10),(I 7,I 8),(I 8,I 9),(I 20,I 13)]) (.map [(I 6,I 10),(I 7,I 8),(I 8,I 9),(I 20,I 13),(I 5,I 11)]);have r:=(n.x m (d _ _ q)).trans q;have a0:=n.w _ _ r;simp only[go_sem,V,b_,Ce,GV,C4,C5,BM,B0,B1,Acf,Aa9,Cg,BG,EL,Dj,BD,BC,FG,Z,W,r,a0];refine Aa (f.run P (by omega)) ?_;rintro _ ag ah ⟨rfl,ai,c,aj⟩;have ak:=f.len s;rcases y with⟨a1,_⟩|⟨a2,rfl,t⟩
 ·rw[a1]at b;cases b
 have u:=(c.x a2 (d _ _ t)).trans t;have al:=c.w _ _ u;have a3:=DU (l:=A.Ac) (i:=a) (x:=Bb A.Ac a) (by rw[c_ b];simp[Bb,B_,b]);obtain⟨am,an,a4,ao⟩:=c.FJ;have a5:(if(0:Int)>Bb A.Ac a then(0:Int)else Bb A.Ac a)=max (Bb A.Ac a) 0:=by split<;>omega
 simp only[go_sem,V,a4,u,b,a3,a5];refine Aa (Bd c 10 (max (Bb A.Ac a) 0)) ?_;rintro _ ap aq ⟨rfl,a6,a7,ar⟩;simp only[go_sem];exact⟨a6,a7⟩
theorem Arv(d:Wh hs)(v:Fx hs nv N)(a:Nat)(e:Int)(w:N[a]? =T (nd 7 0 [] [e]))(y:DH hs sv A.Ac)(b:a<A.Ac.length)(o:List AY→List AY)(p:Nat)(f:Fu cb nv fv tv sv gv zv hs 267 e o p):Fu cb nv fv tv sv gv zv hs 267 a (fun z=>o z++[ins 8 (max (Bb A.Ac a) 0)]) (p+3):=by
 refine⟨fun{h0 h g0 g s} j a8=>?_,fun s=>by have:=f.len s;simp only[Y,W,Z];omega⟩;refine j.walk fun j=>?_;obtain⟨F,a9,aa,k,K⟩:=Bv d v j w;rcases k with k|⟨m,rfl,rfl,L⟩
 ·cases k
 have q:hs.get m=T (.cells [I e]):=L;refine eF r_ ?_;simp only[go_sem,V];refine Aa K ?_;rintro _ ab ac ⟨rfl,n,ad⟩;obtain⟨P,ae,af⟩:=n.Gd (.cells [I 0,I 0,I 0,S [],.slice M 0 0]) (.cells [I 7,I F,I 0,S [],.slice (T ⟨m,0,M⟩) 1 1]) (.map [(I 6,I 10)]) (.map [(I 6,I 10),(I 7,I 8)]) (.map [(I 6,I 10),(I 7,I 8),(I 8,I 9)]) (.map [(I 6,I 10),(I 7,I 8),(I 8,I 9),(I 20,I 13)]) (.map [(I 6,I 10),(I 7,I 8),(I 8,I 9),(I 20,I 13),(I 5,I 11)]);have r:=(n.x m (d _ _ q)).trans q;have a0:=n.w _ _ r;simp only[go_sem,V,b_,Ce,GV,C4,C5,BM,B0,B1,Acf,Aa9,Cg,BG,EL,Dj,BD,BC,FG,Z,W,r,a0];refine Aa (f.run P (by omega)) ?_;rintro _ ag ah ⟨rfl,ai,c,aj⟩;have ak:=f.len s;rcases y with⟨a1,_⟩|⟨a2,rfl,t⟩
 ·rw[a1]at b;cases b
 have u:=(c.x a2 (d _ _ t)).trans t;have al:=c.w _ _ u;have a3:=DU (l:=A.Ac) (i:=a) (x:=Bb A.Ac a) (by rw[c_ b];simp[Bb,B_,b]);obtain⟨am,an,a4,ao⟩:=c.FJ;have a5:(if(0:Int)>Bb A.Ac a then(0:Int)else Bb A.Ac a)=max (Bb A.Ac a) 0:=by split<;>omega
 simp only[go_sem,V,a4,u,b,a3,a5];refine Aa (Bd c 8 (max (Bb A.Ac a) 0)) ?_;rintro _ ap aq ⟨rfl,a6,a7,ar⟩;simp only[go_sem];exact⟨a6,a7⟩
theorem Avu(d:Wh hs)(v:Fx hs nv N)(a:Nat)(e:Int)(w:N[a]? =T (nd 8 0 [] [e]))(y:DH hs sv A.Ac)(b:a<A.Ac.length)(o:List AY→List AY)(p:Nat)(f:Fu cb nv fv tv sv gv zv hs 267 e o p):Fu cb nv fv tv sv gv zv hs 267 a (fun z=>o z++[ins 9 (max (Bb A.Ac a) 0)]) (p+3):=by
 refine⟨fun{h0 h g0 g s} j a8=>?_,fun s=>by have:=f.len s;simp only[Y,W,Z];omega⟩;refine j.walk fun j=>?_;obtain⟨F,a9,aa,k,K⟩:=Bv d v j w;rcases k with k|⟨m,rfl,rfl,L⟩
 ·cases k
 have q:hs.get m=T (.cells [I e]):=L;refine eF r_ ?_;simp only[go_sem,V];refine Aa K ?_;rintro _ ab ac ⟨rfl,n,ad⟩;obtain⟨P,ae,af⟩:=n.Gd (.cells [I 0,I 0,I 0,S [],.slice M 0 0]) (.cells [I 8,I F,I 0,S [],.slice (T ⟨m,0,M⟩) 1 1]) (.map [(I 6,I 10)]) (.map [(I 6,I 10),(I 7,I 8)]) (.map [(I 6,I 10),(I 7,I 8),(I 8,I 9)]) (.map [(I 6,I 10),(I 7,I 8),(I 8,I 9),(I 20,I 13)]) (.map [(I 6,I 10),(I 7,I 8),(I 8,I 9),(I 20,I 13),(I 5,I 11)]);have r:=(n.x m (d _ _ q)).trans q;have a0:=n.w _ _ r;simp only[go_sem,V,b_,Ce,GV,C4,C5,BM,B0,B1,Acf,Aa9,Cg,BG,EL,Dj,BD,BC,FG,Z,W,r,a0];refine Aa (f.run P (by omega)) ?_;rintro _ ag ah ⟨rfl,ai,c,aj⟩;have ak:=f.len s;rcases y with⟨a1,_⟩|⟨a2,rfl,t⟩
 ·rw[a1]at b;cases b
 have u:=(c.x a2 (d _ _ t)).trans t;have al:=c.w _ _ u;have a3:=DU (l:=A.Ac) (i:=a) (x:=Bb A.Ac a) (by rw[c_ b];simp[Bb,B_,b]);obtain⟨am,an,a4,ao⟩:=c.FJ;have a5:(if(0:Int)>Bb A.Ac a then(0:Int)else Bb A.Ac a)=max (Bb A.Ac a) 0:=by split<;>omega
 simp only[go_sem,V,a4,u,b,a3,a5];refine Aa (Bd c 9 (max (Bb A.Ac a) 0)) ?_;rintro _ ap aq ⟨rfl,a6,a7,ar⟩;simp only[go_sem];exact⟨a6,a7⟩
theorem Aru(d:Wh hs)(v:Fx hs nv N)(a:Nat)(e:Int)(w:N[a]? =T (nd 20 0 [] [e]))(y:DH hs sv A.Ac)(b:a<A.Ac.length)(o:List AY→List AY)(p:Nat)(f:Fu cb nv fv tv sv gv zv hs 267 e o p):Fu cb nv fv tv sv gv zv hs 267 a (fun z=>o z++[ins 13 (max (Bb A.Ac a) 0)]) (p+3):=by
 refine⟨fun{h0 h g0 g s} j a8=>?_,fun s=>by have:=f.len s;simp only[Y,W,Z];omega⟩;refine j.walk fun j=>?_;obtain⟨F,a9,aa,k,K⟩:=Bv d v j w;rcases k with k|⟨m,rfl,rfl,L⟩
 ·cases k
 have q:hs.get m=T (.cells [I e]):=L;refine eF r_ ?_;simp only[go_sem,V];refine Aa K ?_;rintro _ ab ac ⟨rfl,n,ad⟩;obtain⟨P,ae,af⟩:=n.Gd (.cells [I 0,I 0,I 0,S [],.slice M 0 0]) (.cells [I 20,I F,I 0,S [],.slice (T ⟨m,0,M⟩) 1 1]) (.map [(I 6,I 10)]) (.map [(I 6,I 10),(I 7,I 8)]) (.map [(I 6,I 10),(I 7,I 8),(I 8,I 9)]) (.map [(I 6,I 10),(I 7,I 8),(I 8,I 9),(I 20,I 13)]) (.map [(I 6,I 10),(I 7,I 8),(I 8,I 9),(I 20,I 13),(I 5,I 11)]);have r:=(n.x m (d _ _ q)).trans q;have a0:=n.w _ _ r;simp only[go_sem,V,b_,Ce,GV,C4,C5,BM,B0,B1,Acf,Aa9,Cg,BG,EL,Dj,BD,BC,FG,Z,W,r,a0];refine Aa (f.run P (by omega)) ?_;rintro _ ag ah ⟨rfl,ai,c,aj⟩;have ak:=f.len s;rcases y with⟨a1,_⟩|⟨a2,rfl,t⟩
 ·rw[a1]at b;cases b
 have u:=(c.x a2 (d _ _ t)).trans t;have al:=c.w _ _ u;have a3:=DU (l:=A.Ac) (i:=a) (x:=Bb A.Ac a) (by rw[c_ b];simp[Bb,B_,b]);obtain⟨am,an,a4,ao⟩:=c.FJ;have a5:(if(0:Int)>Bb A.Ac a then(0:Int)else Bb A.Ac a)=max (Bb A.Ac a) 0:=by split<;>omega
 simp only[go_sem,V,a4,u,b,a3,a5];refine Aa (Bd c 13 (max (Bb A.Ac a) 0)) ?_;rintro _ ap aq ⟨rfl,a6,a7,ar⟩;simp only[go_sem];exact⟨a6,a7⟩
theorem Ae2(d:Wh hs)(w:Fx hs nv N)(a:Nat)(o:H)(e:Int)(y:N[a]? =T (nd 5 0 o [e]))(z:DH hs sv A.Ac)(b:a<A.Ac.length)(p:List AY→List AY)(q:Nat)(f:Fu cb nv fv tv sv gv zv hs 267 e p q):Fu cb nv fv tv sv gv zv hs 267 a (fun F=>p F++[ins 11 (max (Bb A.Ac a) 0)]) (q+3):=by
 refine⟨fun{h0 h g0 g s} j a9=>?_,fun s=>by have:=f.len s;simp only[Y,W,Z];omega⟩;refine j.walk fun j=>?_;obtain⟨K,aa,ab,k,L⟩:=Bv d w j y;rcases k with k|⟨m,rfl,rfl,P⟩
 ·cases k
 have r:hs.get m=T (.cells [I e]):=P;refine eF r_ ?_;simp only[go_sem,V];refine Aa L ?_;rintro _ ac ad ⟨rfl,n,ae⟩;obtain⟨a0,af,ag⟩:=n.Gd (.cells [I 0,I 0,I 0,S [],.slice M 0 0]) (.cells [I 5,I K,I 0,S o,.slice (T ⟨m,0,M⟩) 1 1]) (.map [(I 6,I 10)]) (.map [(I 6,I 10),(I 7,I 8)]) (.map [(I 6,I 10),(I 7,I 8),(I 8,I 9)]) (.map [(I 6,I 10),(I 7,I 8),(I 8,I 9),(I 20,I 13)]) (.map [(I 6,I 10),(I 7,I 8),(I 8,I 9),(I 20,I 13),(I 5,I 11)]);have t:=(n.x m (d _ _ r)).trans r;have a1:=n.w _ _ t;simp only[go_sem,V,b_,Ce,GV,C4,C5,BM,B0,B1,Acf,Aa9,Cg,BG,EL,Dj,BD,BC,FG,Z,W,t,a1];refine Aa (f.run a0 (by omega)) ?_;rintro _ ah ai ⟨rfl,aj,c,ak⟩;have al:=f.len s;rcases z with⟨a2,_⟩|⟨a3,rfl,u⟩
 ·rw[a2]at b;cases b
 have v:=(c.x a3 (d _ _ u)).trans u;have am:=c.w _ _ v;have a4:=DU (l:=A.Ac) (i:=a) (x:=Bb A.Ac a) (by rw[c_ b];simp[Bb,B_,b]);obtain⟨an,ao,a5,ap⟩:=c.FJ;have a6:(if(0:Int)>Bb A.Ac a then(0:Int)else Bb A.Ac a)=max (Bb A.Ac a) 0:=by split<;>omega
 simp only[go_sem,V,a5,v,b,a4,a6];refine Aa (Bd c 11 (max (Bb A.Ac a) 0)) ?_;rintro _ aq ar ⟨rfl,a7,a8,au⟩;simp only[go_sem];exact⟨a7,a8⟩
end
theorem Aw4:Bg (S [38,38]) (I 18) []=T [(S [38,38],I 18)]:=by kernel_rfl
theorem Aw3:Bg (S [124,124]) (I 19) [(S [38,38],I 18)]=T [(S [38,38],I 18),(S [124,124],I 19)]:=by kernel_rfl
theorem GK(a:List AY)(b:Nat)(c:Int):(Jj a b c).length=a.length:=by
 unfold Jj;cases a[b]? with
 |none=>rfl
 |some e=>exact H_
def Aek(s:H)(a c:List AY→List AY)(b:List AY):List AY:=
 bif s==[38,38]then Jj (c (a b++[ins 18 0])) (a b).length (c (a b++[ins 18 0])).length
 else bif s==[124,124]then Jj (c (a b++[ins 19 0])) (a b).length (c (a b++[ins 19 0])).length
 else c (a b)++[⟨7,0,0,s⟩]
section
variable{cb:Nat}{nv fv tv sv gv zv:Value}{hs h0 h:AH}{d g:List Nat}{s:List AY}{N:List Nd}{A:Ay}{F:List Fn}
theorem Akb{sg:H}{e f:List AY→List AY}(j:Fu cb nv fv tv sv gv zv hs 267 x e a)(i:Fu cb nv fv tv sv gv zv hs 267 y f b)(c:List AY):c.length≤(Aek sg e f c).length∧(Aek sg e f c).length≤c.length+(a+b+3):=by
 have m:=j.len c;have k:=i.len (e c++[ins 18 0]);have l:=i.len (e c++[ins 19 0]);have n:=i.len (e c);simp only[Y,W,Z]at k l;unfold Aek;cases sg==[38,38]with
 |true=>simp only[Aa9,GK];omega
 |false=>
  cases sg==[124,124]with
  |true=>simp only[Aa9,Acf,GK];omega
  |false=>simp only[Acf,Y,W,Z];omega
theorem Apb(m:Wh hs)(sg:H)(a3 a4:Int){i a5:List AY→List AY}(a6:Fu cb nv fv tv sv gv zv hs 267 a3 i a)(j:Fu cb nv fv tv sv gv zv hs 267 a4 a5 b)(e:hs.get c=T (.cells [I a3,I a4]))
  (k:Hr (I6 cb nv fv tv sv gv zv) hs h0 d h g s) (f:s.length+(a+b+3)<90000):
  AR 341 [AA cb,.agg #[I 9,I x,I 0,S sg,.slice (T ⟨c,0,M⟩) 2 1]] h (Jn (I6 cb nv fv tv sv gv zv) hs h0 d h g (Aek sg i a5 s) (.tuple #[])):=by
 refine k.walk fun k=>?_;have ad:=k.new (.cells [I 9,I x,I 0,S sg,.slice (T ⟨c,0,M⟩) 2 1]);have ae:Gf (h.new (.cells [I 9,I x,I 0,S sg,.slice (T ⟨c,0,M⟩) 2 1])) g h.n:=k.free (e_ _) (by simp only[go_sem]);have a7:=(k.x c (m _ _ e)).trans e;have af:=k.w _ _ a7;have au:=a6.len s;refine eF Tryz.func341 ?_;simp only[go_sem,u_,a7,af];refine Aa (a6.run ad (by omega)) ?_;rintro _ f ag ⟨rfl,ah,q,ai⟩;obtain⟨r,aj⟩:=ae.Ak ag ai;have v:=aj.trans (Ae _);have a8:=r.1;have a9:=(q.x c (m _ _ e)).trans e;have ak:=q.w _ _ a9;have al:Wh (((f.new (.map [])).put f.n (.map [(S [38,38],I 18)])).put f.n (.map [(S [38,38],I 18),(S [124,124],I 19)])):=Ar (Ar (Am q.w _) (by simp only[go_sem]) _) (by simp only[go_sem]) _;have aa:Ext f (((f.new (.map [])).put f.n (.map [(S [38,38],I 18)])).put f.n (.map [(S [38,38],I 18),(S [124,124],I 19)])):=fun av n=>by simp only[go_sem,n]
 have t:=q.ext (by simp only[go_sem];omega) al aa;have w:Gf (((f.new (.map [])).put f.n (.map [(S [38,38],I 18)])).put f.n (.map [(S [38,38],I 18),(S [124,124],I 19)])) ah h.n:=⟨S_ r.1,r.2⟩;have y:=(aa _ r.1).trans v;simp only[go_sem,V,Ce,ZO,Po,Pq,Aw4,Aw3,BM,a8,v,Qr,Anf,Dj,Aai,BC];unfold Aek;cases c1:(sg==[38,38])with
 |true=>
  simp only[go_sem,V,Aa9,FG];refine Aa (Bd t 18 0) ?_;rintro _ am z ⟨rfl,an,o,K⟩;obtain⟨ao,p⟩:=w.Ak z K;rw[y]at p;have L:=(o.x c (m _ _ e)).trans e;have u:=j.len (i s++[ins 18 0]);simp only[Y,W,Z]at u;simp only[go_sem,u_,p,L];refine Aa (j.run o (by simp only[Y,W,Z];omega)) ?_;rintro _ ab P ⟨rfl,ac,l,a0⟩;simp only[go_sem,V];refine Aa (Kn l (i s).length (by omega)) ?_;rintro _ ap aq ⟨rfl,a1,a2,ar⟩;simp only[go_sem];exact⟨a1,a2⟩
 |false=>
  cases c2:(sg==[124,124])with
  |true=>
   simp only[go_sem,V,Aa9,Acf,FG];refine Aa (Bd t 19 0) ?_;rintro _ am z ⟨rfl,an,o,K⟩;obtain⟨ao,p⟩:=w.Ak z K;rw[y]at p;have L:=(o.x c (m _ _ e)).trans e;have u:=j.len (i s++[ins 19 0]);simp only[Y,W,Z]at u;simp only[go_sem,u_,p,L];refine Aa (j.run o (by simp only[Y,W,Z];omega)) ?_;rintro _ ab P ⟨rfl,ac,l,a0⟩;simp only[go_sem,V];refine Aa (Kn l (i s).length (by omega)) ?_;rintro _ ap aq ⟨rfl,a1,a2,ar⟩;simp only[go_sem];exact⟨a1,a2⟩
  |false=>
   have ao:=(t.x c (m _ _ e)).trans e;simp only[go_sem,u_,Acf,E1,a8,v,a9,ak];refine Aa (j.run t (by omega)) ?_;rintro _ ab P ⟨rfl,ac,l,a0⟩;obtain⟨ap,p⟩:=w.Ak P a0;rw[y]at p;have u:=j.len (i s);simp only[go_sem];refine AM l.w 0x13003201010000 ?_;rcases l.V1 (by omega) ⟨7,0,0,sg⟩with⟨K,n,z,o⟩|⟨aq,n,z,L,a1,a2,am,an,o⟩
   ·rw[K]at o⊢
    simp only[go_sem,V,n,z,p];exact o
   simp only[go_sem,V,n,z,L,a1,a2,am,an,p];exact o
theorem Ary(j:Wh hs)(q:Fx hs nv N)(k:Nat)(sg:H)(c e:Int)(r:N[k]? =T (nd 9 0 sg [c,e])){l m:List AY→List AY}(n:Fu cb nv fv tv sv gv zv hs 267 c l a)(o:Fu cb nv fv tv sv gv zv hs 267 e m b):Fu cb nv fv tv sv gv zv hs 267 k (Aek sg l m) (a+b+3):=by
 refine⟨fun{h0 h d g s} f L=>?_,fun s=>Akb n o s⟩;refine f.walk fun f=>?_;obtain⟨t,P,a0,i,u⟩:=Bv j q f r;rcases i with i|⟨p,rfl,rfl,v⟩
 ·cases i
 have w:hs.get p=T (.cells [I c,I e]):=v;refine eF r_ ?_;simp only[go_sem,V];refine Aa u ?_;rintro _ a1 a2 ⟨rfl,x,a3⟩;obtain⟨y,a4,a5⟩:=x.Gd (.cells [I 0,I 0,I 0,S [],.slice M 0 0]) (.cells [I 9,I t,I 0,S sg,.slice (T ⟨p,0,M⟩) 2 1]) (.map [(I 6,I 10)]) (.map [(I 6,I 10),(I 7,I 8)]) (.map [(I 6,I 10),(I 7,I 8),(I 8,I 9)]) (.map [(I 6,I 10),(I 7,I 8),(I 8,I 9),(I 20,I 13)]) (.map [(I 6,I 10),(I 7,I 8),(I 8,I 9),(I 20,I 13),(I 5,I 11)]);simp only[go_sem,V,b_,Ce,GV,C4,C5,BM,B0,B1,Acf,Aa9,Cg,BG,EL,Dj,BD,BC,E1,Z,W];refine Aa (Apb j sg c e n o w y (by omega)) ?_;rintro _ a6 a7 ⟨rfl,z,K,a8⟩;simp only[go_sem];exact⟨z,K⟩
def GL:List (List AY→List AY)→List AY→List AY
 |[],s=>s
 |c::a,s=>GL a (c s)
inductive Hf(cb:Nat)(nv fv tv sv gv zv:i_)(hs:AH)(fn:ad_):List Int→List (List AY→List AY)→Nat→Prop
 |nil:Hf cb nv fv tv sv gv zv hs fn [] [] 0
 |cons {x:Int} {c:List AY→List AY} {m:Nat} {l:List Int} {cs:List (List AY→List AY)} {n:Nat}:Fu cb nv fv tv sv gv zv hs fn x c m→Hf cb nv fv tv sv gv zv hs fn l cs n→Hf cb nv fv tv sv gv zv hs fn (x::l) (c::cs) (m+n)
theorem Hf.len{e:ad_}{b:List (List AY→List AY)}(f:Hf cb nv fv tv sv gv zv hs e q b a):∀s,s.length≤(GL b s).length∧(GL b s).length≤s.length+a:=by
 induction f with
 |nil=>intro s;exact⟨e_ _,e_ _⟩
 |cons h _ i=>
  intro s;have j:=h.len s;rename_i c _ _ _ _ _;have k:=i (c s);show _≤(GL _ (c s)).length∧_;simp only[GL];omega
theorem Fi(a2:Wh hs){k:ad_}{l:List (List AY→List AY)}(a3:Hf cb nv fv tv sv gv zv hs k q l a)(a4:Iz hs o b q)(ai:q.length<900000)(r:Hr (I6 cb nv fv tv sv gv zv) hs h0 d h g s)(a5:s.length+a<90000):
  AR 180 [.slice o q.length b,.func (.func k) #[AA cb] #[]] h (Jn (I6 cb nv fv tv sv gv zv) hs h0 d h g (GL l s) (.tuple #[])):=by
 refine r.walk fun r=>?_;refine eF Tryz.func180 ?_;simp only[go_sem];refine AG (fun(c:Nat×List AY×List Nat×List (List AY→List AY)×Nat) j w=>Hr (I6 cb nv fv tv sv gv zv) hs h g w c.2.2.1 c.2.1∧Hf cb nv fv tv sv gv zv hs k (q.drop c.1) c.2.2.2.1 c.2.2.2.2∧GL c.2.2.2.1 c.2.1=GL l s∧c.1≤q.length∧c.2.1.length+c.2.2.2.2<90000∧
  j.at 1=.func (.func k) #[AA cb] #[]∧j.at 6=.slice o q.length b∧j.at 7=I q.length∧j.at 8=I c.1) (fun c=>q.length-c.1) ?_ (0,s,g,l,a) ?_
 ·rintro⟨e,t,a6,aj,ak⟩ j w ⟨m,i,u,a7,a8,x,y,v,n⟩ z
  dsimp only at m i u a7 a8 n z;cases p:decide ((e:Int)<q.length)with
  |false=>
   have f:e=q.length:=by have:=Adh p;omega
   rw[f,W_]at i;cases i;simp only[go_sem,v,n,p];exact⟨a6,u▸m⟩
  |true=>
   have f:e<q.length:=by have:=Acw p;omega
   have K:q[e]? =T q[e]:=c_ f;rw[T_ f]at i;generalize q[e]=al at K i;cases i with
   |cons L a9=>
    rename_i P am aa a0;have ab:=DU K;have ac:=a4;rcases ac with c|⟨ad,rfl,rfl,a1⟩
    ·rw[c]at f;cases f
    have ae:=(m.x ad (a2 _ _ a1)).trans a1;have af:l_ .i64 ((e:Int)+1)=((e+1:Nat):Int):=by rw[Ap]<;>omega
    have an:=L.len t;simp only[go_sem,V,x,y,v,n,p,f,ae,ab];refine Aa (L.run m (by omega)) ?_;rintro _ ao ap ⟨rfl,ag,ah,aq⟩;simp only[go_sem,V,n,af];refine z (e+1,P t,ag,aa,a0) _ _ ⟨ah,a9,u,f,by show(P t).length+a0<90000;omega,?_,?_,?_,?_⟩ (by show q.length-(e+1)<q.length-e;omega)
    ·simp only[go_sem,V,x]
    ·simp only[go_sem,V,y]
    ·simp only[go_sem,V,v]
    simp only[go_sem]
 refine⟨r,a3,J,p_ _,a5,?_,?_,?_,?_⟩<;>simp only[go_sem,V]
 rfl
theorem Ym(e:H){h:AH}{f i j:Int}(k:h.get a=T (.cells [I f,I i,I j,S e,v]))(l:a<h.n){c:Fn}:
  AR 388 ([.agg #[S c.name,I x,.slice o c.params.length b,I c.ret,I c.body]]++(#[AA a]:Array i_).toList) h (fun m n=>m=.bool (c.name==e)∧Ext h n):=by
 refine eF Tryz.func388 ?_;simp only[go_sem,V,k,l];exact Ext.new h _
theorem Ajz(m:Wh hs)(w:Mb hs fv F)(y:F.length<2^60)(c:H){n:List (List AY→List AY)}(p:Hf cb nv fv tv sv gv zv hs 267 q n a)(z:q.length<900000)(K:Iz hs o b q)
  (f:Hr (I6 cb nv fv tv sv gv zv) hs h0 d h g s) (L:s.length+a<90000):
  AR 342 [AA cb,.agg #[I 21,I x,I 0,S c,.slice o q.length b]] h (Jn (I6 cb nv fv tv sv gv zv) hs h0 d h g (GL n s++[⟨20,Gr (fun g=>g.name==c) F 0,q.length,[]⟩]) (.tuple #[])):=by
 refine f.walk fun f=>?_;have P:=f.new (.cells [I 21,I x,I 0,S c,.slice o q.length b]);have a0:Gf (h.new (.cells [I 21,I x,I 0,S c,.slice o q.length b])) g h.n:=f.free (e_ _) (by simp only[go_sem]);refine eF Tryz.func342 ?_;simp only[go_sem,V];refine Aa (Fi m p K z P L) ?_;rintro _ af a1 ⟨rfl,ag,e,a2⟩;obtain⟨j,a3⟩:=a0.Ak a1 a2;have r:=a3.trans (Ae _);obtain⟨ah,ai,a4,aj⟩:=e.FJ;have ak:=p.len s;simp only[go_sem,V,a4];refine Aa (Ok.wf e.w (MF 388 #[AA h.n] (fun g=>g.name==c) w m e.x e.m e.w y (fun{al} {am} {an} {ao} {ap} a5 aq a6=>Ym c ((a5 _ j.1).trans r) (n_ j.1 a6)))) ?_;rintro _ ar a7 ⟨a8,rfl,t⟩;have u:=e.ext a7 a8 t;have v:=(t _ j.1).trans r;simp only[go_sem];refine AM u.w 0x1300320110010000 ?_;rcases u.V1 (by omega) ⟨20,Gr (fun g=>g.name==c) F 0,q.length,[]⟩with⟨a9,k,l,i⟩|⟨au,k,l,aa,ab,ac,ad,ae,i⟩
 ·rw[a9]at i⊢
  simp only[go_sem,V,k,l,v];exact i
 simp only[go_sem,V,k,l,aa,ab,ac,ad,ae,v];exact i
theorem Ak6(e:Wh hs)(k:Fx hs nv N)(l:Mb hs fv F)(m:F.length<2^60)(f:Nat)(b:H)(n:N[f]? =T (nd 21 0 b q)){i:List (List AY→List AY)}(j:Hf cb nv fv tv sv gv zv hs 267 q i a)(o:q.length<900000):
  Fu cb nv fv tv sv gv zv hs 267 f (fun s=>GL i s++[⟨20,Gr (fun g=>g.name==b) F 0,q.length,[]⟩]) (a+3):=by
 refine⟨fun{h0 h d g s} c K=>?_,fun s=>by have:=j.len s;simp only[Y,W,Z];omega⟩;refine c.walk fun c=>?_;obtain⟨p,r,t,u,v⟩:=Bv e k c n;refine eF r_ ?_;simp only[go_sem,V];refine Aa v ?_;rintro _ L P ⟨rfl,w,a0⟩;obtain⟨x,a1,a2⟩:=w.Gd (.cells [I 0,I 0,I 0,S [],.slice M 0 0]) (.cells [I 21,I p,I 0,S b,.slice r q.length t]) (.map [(I 6,I 10)]) (.map [(I 6,I 10),(I 7,I 8)]) (.map [(I 6,I 10),(I 7,I 8),(I 8,I 9)]) (.map [(I 6,I 10),(I 7,I 8),(I 8,I 9),(I 20,I 13)]) (.map [(I 6,I 10),(I 7,I 8),(I 8,I 9),(I 20,I 13),(I 5,I 11)]);simp only[go_sem,V,b_,Ce,GV,C4,C5,BM,B0,B1,Acf,Aa9,Cg,BG,EL,Dj,BD,BC,E1];refine Aa (Ajz e l m b j o u x (by omega)) ?_;rintro _ a3 a4 ⟨rfl,y,z,a5⟩;simp only[go_sem];exact⟨y,z⟩
end
end
end Go.Proofs.YtebhflkemdlbkaaGreatDoor
namespace Go.Proofs.YtebhflkemdlbkaaGreatDoor
noncomputable section
theorem Fu.le{cb:Nat}{p K v t gv zv:i_}{j:AH}{a:ad_}{b:Int}{c:List AY→List AY}{d n:Nat}(e:Fu cb p K v t gv zv j a b c d)(h:d≤n):Fu cb p K v t gv zv j a b c n:=
 ⟨fun f i=>e.run f (by omega),fun s=>by have:=e.len s;omega⟩
section
variable{cb:Nat}{p K v t gv zv:Value}{j h0 h:AH}{g0 g:List Nat}{s:List AY}{N:List Nd}{A:Ay}{F:List Fn}
section
variable(w0:Wh j)(L:Fx j p N)(hT:DH j v A.types)(P:DH j t A.Ac)(a0:A.types.length=N.length)(a9:A.Ac.length=N.length)
include w0 L hT P a0 a9
theorem Gh:∀(b:Xp) (a:Nat),A2 N a (b.fl a)→Fu cb p K v t gv zv j 267 (top a b.sz) (fun k=>b.co A a k) (3*b.sz)
 |.int d,a,c=>Arx w0 L a d c.at
 |.bool f,a,c=>Ak7 w0 L a _ c.at
 |.text e,a,c=>Ak5 w0 L a e c.at
 |.var e,a,c=>by
  have i:a<N.length:=(g_.1 c.at).1;exact Art w0 L a e c.at hT P (by omega) (by omega)
 |.index e b,a,c=>by
  have d:=c.last (b.Af a);have i:a+b.sz<N.length:=(g_.1 d).1;exact(Ae2 w0 L (a+b.sz) e _ d P (by omega) _ _ (Gh b a c.left)).le (by simp only[Xp.sz];omega)
 |.len b,a,c=>by
  have d:=c.last (b.Af a);have i:a+b.sz<N.length:=(g_.1 d).1;exact(Arw w0 L (a+b.sz) _ d P (by omega) _ _ (Gh b a c.left)).le (by simp only[Xp.sz];omega)
 |.neg b,a,c=>by
  have d:=c.last (b.Af a);have i:a+b.sz<N.length:=(g_.1 d).1;exact(Arv w0 L (a+b.sz) _ d P (by omega) _ _ (Gh b a c.left)).le (by simp only[Xp.sz];omega)
 |.no b,a,c=>by
  have d:=c.last (b.Af a);have i:a+b.sz<N.length:=(g_.1 d).1;exact(Avu w0 L (a+b.sz) _ d P (by omega) _ _ (Gh b a c.left)).le (by simp only[Xp.sz];omega)
 |.bin sg e f,a,c=>by
  have d:N[a+(e.sz+f.sz)]? =_:=c.last (by rw[Y,e.Af a,f.Af]);exact(Ary w0 L (a+(e.sz+f.sz)) sg _ _ d (Gh e a c.left.left) (Gh f (a+e.sz) (by have:=c.left.right;rwa[e.Af a]at this))).le (by simp only[Xp.sz];omega)
def ZZ(A:Ay):List Xp→Nat→List (List AY→List AY)
 |[],_=>[]
 |e::b,a=>(fun c=>e.co A a c)::ZZ A b (a+e.sz)
omit w0 L hT P a0 a9 in
theorem Rt:∀(b:List Xp) (a:Nat) (s:List AY),GL (ZZ A b a) s=Sa A b a s
 |[],_,_=>rfl
 |e::b,a,s=>Rt b (a+e.sz) (e.co A a s)
theorem Aax:∀(a:List Xp) (b:Nat),A2 N b (Tq a b)→Hf cb p K v t gv zv j 267 (AB a b) (ZZ A a b) (3*Dq a)
 |[],_,_=>.nil
 |e::a,b,c=>by
  have d:=Hf.cons (Gh w0 L hT P a0 a9 e b c.left) (Aax a (b+e.sz) (by have:=c.right;rwa[e.Af b]at this));have:3*Dq (e::a)=3*e.sz+3*Dq a:=by simp only[Dq];omega
  rw[this];exact d
omit w0 L hT P a0 a9 in
theorem Y9:∀a:List Xp,a.length≤Dq a
 |[]=>e_ _
 |e::a=>by have:=e.Ey;have:=Y9 a;simp only[Dq,W];omega
theorem Agn(m:Mb j K F)(o:F.length<2^60)(u:N.length<80000):∀(f:Rg) (a:Nat),A2 N a (f.fl a)→Fu cb p K v t gv zv j 267 (top a f.sz) (fun i=>f.co A F a i) (3*f.sz)
 |.input,a,b=>Ae1 w0 L a b.at
 |.new d,a,b=>by
  have e:=b.last (d.Af a);have q:a+d.sz<N.length:=(g_.1 e).1;exact(Aru w0 L (a+d.sz) _ e P (by omega) _ _ (Gh w0 L hT P a0 a9 d a b.left)).le (by simp only[Rg.sz];omega)
 |.call k c,a,b=>by
  have e:=b.last (DX c a);have q:a+Dq c<N.length:=(g_.1 e).1;have w:=Y9 c;have l:=(Ak6 (cb:=cb) (gv:=gv) (zv:=zv) w0 L m o (a+Dq c) k e (Aax w0 L hT P a0 a9 c a b.left) (by rw[DB];omega)).le (n:=3*(Dq c+1)) (by omega);have r:(fun s=>GL (ZZ A c a) s++[⟨20,Gr (fun g=>g.name==k) F 0,(AB c a).length,[]⟩])=fun i=>(Rg.call k c).co A F a i:=by funext i;rw[Rt,DB];rfl
  rw[r]at l;exact l
 |.expr d,a,b=>Gh w0 L hT P a0 a9 d a b
end
theorem Av5(w0:Wh j)(L:Fx j p N)(a:Nat)(k:H)(m:Int)(w:N[a]? =T (nd 10 0 k [m]))(P:DH j t A.Ac)(b:a<A.Ac.length){n:List (List AY→List AY)}{o:Nat}(d:Hf cb p K v t gv zv j 267 [m] n o):Fu cb p K v t gv zv j 182 a (fun y=>GL n (y++[ins 1 a])++[ins 6 (Bb A.Ac a)]) (o+3):=by
 refine⟨fun{h0 h g0 g s} e an=>?_,fun s=>by have:=d.len (s++[ins 1 a]);simp only[Y,W,Z]at*;omega⟩;refine e.walk fun e=>?_;obtain⟨z,a1,a2,a3,a4⟩:=Bv w0 L e w;refine eF w_ ?_;simp only[go_sem,V];refine Aa a4 ?_;rintro _ ao ap ⟨rfl,a5,aq⟩;obtain⟨a6,a7,a8⟩:=a5.QD (.cells [I 0,I 0,I 0,S [],.slice M 0 0]) (.cells [I 10,I z,I 0,S k,.slice a1 1 a2]);simp only[go_sem,V,W,Z];refine Aa (Bd a6 1 a) ?_;rintro _ ar aa ⟨rfl,au,ab,ac⟩;obtain⟨ad,f⟩:=a7.Ak aa ac;rw[a8]at f;simp only[go_sem,V,b_,f];have ae:=d.len (s++[ins 1 a]);simp only[Y,W,Z]at ae;refine Aa (Fi w0 d a3 (by show 1<900000;decide) ab (by simp only[Y,W,Z];omega)) ?_;rintro _ av af ⟨rfl,aw,c,ag⟩;obtain⟨ax,q⟩:=ad.Ak af ag;rw[f]at q;rcases P with⟨ah,_⟩|⟨ai,rfl,r⟩
 ·rw[ah]at b;cases b
 have u:=(c.x ai (w0 _ _ r)).trans r;have ay:=c.w _ _ u;have aj:=DU (l:=A.Ac) (i:=a) (x:=Bb A.Ac a) (by rw[c_ b];simp[Bb,B_,b]);obtain⟨az,aA,ak,aB⟩:=c.FJ;simp only[go_sem,V,q,ak,u,b,aj];refine Aa (Bd c 6 (Bb A.Ac a)) ?_;rintro _ aC aD ⟨rfl,al,am,aE⟩;simp only[go_sem];exact⟨al,am⟩
theorem Ast(w0:Wh j)(L:Fx j p N)(a:Nat)(k:H)(m:Int)(w:N[a]? =T (nd 11 0 k [m]))(P:DH j t A.Ac)(b:a<A.Ac.length){n:List (List AY→List AY)}{o:Nat}(d:Hf cb p K v t gv zv j 267 [m] n o):Fu cb p K v t gv zv j 182 a (fun y=>GL n (y++[ins 1 a])++[ins 6 (Bb A.Ac a)]) (o+3):=by
 refine⟨fun{h0 h g0 g s} e an=>?_,fun s=>by have:=d.len (s++[ins 1 a]);simp only[Y,W,Z]at*;omega⟩;refine e.walk fun e=>?_;obtain⟨z,a1,a2,a3,a4⟩:=Bv w0 L e w;refine eF w_ ?_;simp only[go_sem,V];refine Aa a4 ?_;rintro _ ao ap ⟨rfl,a5,aq⟩;obtain⟨a6,a7,a8⟩:=a5.QD (.cells [I 0,I 0,I 0,S [],.slice M 0 0]) (.cells [I 11,I z,I 0,S k,.slice a1 1 a2]);simp only[go_sem,V,W,Z];refine Aa (Bd a6 1 a) ?_;rintro _ ar aa ⟨rfl,au,ab,ac⟩;obtain⟨ad,f⟩:=a7.Ak aa ac;rw[a8]at f;simp only[go_sem,V,b_,f];have ae:=d.len (s++[ins 1 a]);simp only[Y,W,Z]at ae;refine Aa (Fi w0 d a3 (by show 1<900000;decide) ab (by simp only[Y,W,Z];omega)) ?_;rintro _ av af ⟨rfl,aw,c,ag⟩;obtain⟨ax,q⟩:=ad.Ak af ag;rw[f]at q;rcases P with⟨ah,_⟩|⟨ai,rfl,r⟩
 ·rw[ah]at b;cases b
 have u:=(c.x ai (w0 _ _ r)).trans r;have ay:=c.w _ _ u;have aj:=DU (l:=A.Ac) (i:=a) (x:=Bb A.Ac a) (by rw[c_ b];simp[Bb,B_,b]);obtain⟨az,aA,ak,aB⟩:=c.FJ;simp only[go_sem,V,b_,q,ak,u,b,aj];refine Aa (Bd c 6 (Bb A.Ac a)) ?_;rintro _ aC aD ⟨rfl,al,am,aE⟩;simp only[go_sem];exact⟨al,am⟩
theorem Asw(w0:Wh j)(L:Fx j p N)(a:Nat)(k:H)(m:Int)(n:Int)(y:N[a]? =T (nd 12 0 k [m,n]))(P:DH j t A.Ac)(b:a<A.Ac.length){o:List (List AY→List AY)}{q:Nat}(d:Hf cb p K v t gv zv j 267 [m,n] o q):Fu cb p K v t gv zv j 182 a (fun z=>GL o (z++[ins 1 a])++[ins 12 (Bb A.Ac a)]) (q+3):=by
 refine⟨fun{h0 h g0 g s} e ao=>?_,fun s=>by have:=d.len (s++[ins 1 a]);simp only[Y,W,Z]at*;omega⟩;refine e.walk fun e=>?_;obtain⟨a1,a2,a3,a4,a5⟩:=Bv w0 L e y;refine eF w_ ?_;simp only[go_sem,V];refine Aa a5 ?_;rintro _ ap aq ⟨rfl,a6,ar⟩;obtain⟨a7,a8,aa⟩:=a6.QD (.cells [I 0,I 0,I 0,S [],.slice M 0 0]) (.cells [I 12,I a1,I 0,S k,.slice a2 2 a3]);simp only[go_sem,V,W,Z];refine Aa (Bd a7 1 a) ?_;rintro _ au ab ⟨rfl,av,ac,ad⟩;obtain⟨ae,f⟩:=a8.Ak ab ad;rw[aa]at f;simp only[go_sem,V,b_,f];have af:=d.len (s++[ins 1 a]);simp only[Y,W,Z]at af;refine Aa (Fi w0 d a4 (by show 2<900000;decide) ac (by simp only[Y,W,Z];omega)) ?_;rintro _ aw ag ⟨rfl,ax,c,ah⟩;obtain⟨ay,r⟩:=ae.Ak ag ah;rw[f]at r;rcases P with⟨ai,_⟩|⟨aj,rfl,u⟩
 ·rw[ai]at b;cases b
 have w:=(c.x aj (w0 _ _ u)).trans u;have az:=c.w _ _ w;have ak:=DU (l:=A.Ac) (i:=a) (x:=Bb A.Ac a) (by rw[c_ b];simp[Bb,B_,b]);obtain⟨aA,aB,al,aC⟩:=c.FJ;simp only[go_sem,V,b_,r,al,w,b,ak];refine Aa (Bd c 12 (Bb A.Ac a)) ?_;rintro _ aD aE ⟨rfl,am,an,aF⟩;simp only[go_sem];exact⟨am,an⟩
theorem Asu(w0:Wh j)(L:Fx j p N)(a:Nat)(e:Int)(l:N[a]? =T (nd 13 0 [] [e])){f:List (List AY→List AY)}{i:Nat}(b:Hf cb p K v t gv zv j 267 [e] f i):Fu cb p K v t gv zv j 182 a (fun m=>GL f (m++[ins 1 a])++[ins 23 0]) (i+3):=by refine⟨fun{h0 h g0 g s} c ac=>?_,fun s=>by have:=b.len (s++[ins 1 a]);simp only[Y,W,Z]at*;omega⟩;refine c.walk fun c=>?_;obtain⟨n,o,q,r,u⟩:=Bv w0 L c l;refine eF w_ ?_;simp only[go_sem,V];refine Aa u ?_;rintro _ ad ae ⟨rfl,w,af⟩;obtain⟨x,y,z⟩:=w.QD (.cells [I 0,I 0,I 0,S [],.slice M 0 0]) (.cells [I 13,I n,I 0,S [],.slice o 1 q]);simp only[go_sem,V,W,Z];refine Aa (Bd x 1 a) ?_;rintro _ ag a1 ⟨rfl,ah,a2,a3⟩;obtain⟨a4,d⟩:=y.Ak a1 a3;rw[z]at d;simp only[go_sem,V,b_,d];have a5:=b.len (s++[ins 1 a]);simp only[Y,W,Z]at a5;refine Aa (Fi w0 b r (by show 1<900000;decide) a2 (by simp only[Y,W,Z];omega)) ?_;rintro _ ai a6 ⟨rfl,aj,a7,a8⟩;obtain⟨ak,k⟩:=a4.Ak a6 a8;rw[d]at k;simp only[go_sem,V,b_,k];refine Aa (Bd a7 23 0) ?_;rintro _ al am ⟨rfl,aa,ab,an⟩;simp only[go_sem];exact⟨aa,ab⟩
theorem Af1(w0:Wh j)(L:Fx j p N)(a:Nat)(e:Int)(l:N[a]? =T (nd 14 0 [] [e])){f:List (List AY→List AY)}{i:Nat}(b:Hf cb p K v t gv zv j 267 [e] f i):Fu cb p K v t gv zv j 182 a (fun m=>GL f (m++[ins 1 a])++[ins 15 0]) (i+3):=by refine⟨fun{h0 h g0 g s} c ac=>?_,fun s=>by have:=b.len (s++[ins 1 a]);simp only[Y,W,Z]at*;omega⟩;refine c.walk fun c=>?_;obtain⟨n,o,q,r,u⟩:=Bv w0 L c l;refine eF w_ ?_;simp only[go_sem,V];refine Aa u ?_;rintro _ ad ae ⟨rfl,w,af⟩;obtain⟨x,y,z⟩:=w.QD (.cells [I 0,I 0,I 0,S [],.slice M 0 0]) (.cells [I 14,I n,I 0,S [],.slice o 1 q]);simp only[go_sem,V,W,Z];refine Aa (Bd x 1 a) ?_;rintro _ ag a1 ⟨rfl,ah,a2,a3⟩;obtain⟨a4,d⟩:=y.Ak a1 a3;rw[z]at d;simp only[go_sem,V,b_,d];have a5:=b.len (s++[ins 1 a]);simp only[Y,W,Z]at a5;refine Aa (Fi w0 b r (by show 1<900000;decide) a2 (by simp only[Y,W,Z];omega)) ?_;rintro _ ai a6 ⟨rfl,aj,a7,a8⟩;obtain⟨ak,k⟩:=a4.Ak a6 a8;rw[d]at k;simp only[go_sem,V,b_,k];refine Aa (Bd a7 15 0) ?_;rintro _ al am ⟨rfl,aa,ab,an⟩;simp only[go_sem];exact⟨aa,ab⟩
theorem Asv(w0:Wh j)(L:Fx j p N)(a:Nat)(e:Int)(l:N[a]? =T (nd 17 0 [] [e])){f:List (List AY→List AY)}{i:Nat}(b:Hf cb p K v t gv zv j 267 [e] f i):Fu cb p K v t gv zv j 182 a (fun m=>GL f (m++[ins 1 a])++[ins 21 0]) (i+3):=by refine⟨fun{h0 h g0 g s} c ad=>?_,fun s=>by have:=b.len (s++[ins 1 a]);simp only[Y,W,Z]at*;omega⟩;refine c.walk fun c=>?_;obtain⟨n,o,q,r,u⟩:=Bv w0 L c l;refine eF w_ ?_;simp only[go_sem,V];refine Aa u ?_;rintro _ ae af ⟨rfl,w,ag⟩;obtain⟨x,y,z⟩:=w.QD (.cells [I 0,I 0,I 0,S [],.slice M 0 0]) (.cells [I 17,I n,I 0,S [],.slice o 1 q]);simp only[go_sem,V,W,Z];refine Aa (Bd x 1 a) ?_;rintro _ ah a1 ⟨rfl,ai,a2,a3⟩;obtain⟨a4,d⟩:=y.Ak a1 a3;rw[z]at d;simp only[go_sem,V,b_,d];have a5:=b.len (s++[ins 1 a]);simp only[Y,W,Z]at a5;refine Aa (Fi w0 b r (by show 1<900000;decide) a2 (by simp only[Y,W,Z];omega)) ?_;rintro _ aj a6 ⟨rfl,ak,a7,a8⟩;obtain⟨al,k⟩:=a4.Ak a6 a8;rw[d]at k;have aa:decide ((0:Int)<((1:Nat):Int))=true:=J;simp only[go_sem,V,b_,k,aa];refine Aa (Bd a7 21 0) ?_;rintro _ am an ⟨rfl,ab,ac,ao⟩;simp only[go_sem];exact⟨ab,ac⟩
theorem Alw(w0:Wh j)(L:Fx j p N)(a:Nat)(k:N[a]? =T (nd 17 0 [] [])){e:List (List AY→List AY)}{f:Nat}(b:Hf cb p K v t gv zv j 267 [] e f):Fu cb p K v t gv zv j 182 a (fun l=>GL e (l++[ins 1 a])++[ins 22 0]) (f+3):=by refine⟨fun{h0 h g0 g s} c ac=>?_,fun s=>by have:=b.len (s++[ins 1 a]);simp only[Y,W,Z]at*;omega⟩;refine c.walk fun c=>?_;obtain⟨m,n,o,q,r⟩:=Bv w0 L c k;refine eF w_ ?_;simp only[go_sem,V];refine Aa r ?_;rintro _ ad ae ⟨rfl,u,af⟩;obtain⟨w,x,y⟩:=u.QD (.cells [I 0,I 0,I 0,S [],.slice M 0 0]) (.cells [I 17,I m,I 0,S [],.slice n 0 o]);simp only[go_sem,V,Z];refine Aa (Bd w 1 a) ?_;rintro _ ag z ⟨rfl,ah,a1,a2⟩;obtain⟨a3,d⟩:=x.Ak z a2;rw[y]at d;simp only[go_sem,V,b_,d];have a4:=b.len (s++[ins 1 a]);simp only[Y,W,Z]at a4;refine Aa (Fi w0 b q (by show 0<900000;decide) a1 (by simp only[Y,W,Z];omega)) ?_;rintro _ ai a5 ⟨rfl,aj,a6,a7⟩;obtain⟨ak,i⟩:=a3.Ak a5 a7;rw[d]at i;have a8:decide ((0:Int)<((0:Nat):Int))=false:=J;simp only[go_sem,V,b_,i,a8];refine Aa (Bd a6 22 0) ?_;rintro _ al am ⟨rfl,aa,ab,an⟩;simp only[go_sem];exact⟨aa,ab⟩
theorem QU{b c:List AY→List AY}{e f:Nat}(i:∀s:List AY,s.length≤(b s).length∧(b s).length≤s.length+e)(k:∀s:List AY,s.length≤(c s).length∧(c s).length≤s.length+f)(d:Option Int)(a:List AY):a.length≤(Jr b c d a).length∧(Jr b c d a).length≤a.length+(e+f+3):=by
 have m:=i a;have l:=k (b a++[ins 17 0]);simp only[Y,W,Z]at l;unfold Jr;rw[GK];cases d with
 |none=>dsimp only;omega
 |some n=>simp only[Y,W,Z];omega
theorem WQ{b c d:List AY→List AY}{e f i:Nat}(k:∀s:List AY,s.length≤(b s).length∧(b s).length≤s.length+e)(l:∀s:List AY,s.length≤(c s).length∧(c s).length≤s.length+f)(m:∀s:List AY,s.length≤(d s).length∧(d s).length≤s.length+i)(a:List AY):a.length≤(KN b c d a).length∧(KN b c d a).length≤a.length+(e+f+i+3):=by have q:=k a;have n:=l (b a++[ins 17 0]);have o:=m (Jj (c (b a++[ins 17 0])++[ins 16 0]) (b a).length ((c (b a++[ins 17 0])++[ins 16 0]).length:Nat));simp only[Y,W,Z,GK]at n o;unfold KN;simp only[GK,Y,W,Z];omega
theorem Afg(w0:Wh j)(i k:Int){c l:List AY→List AY}{m n:Nat}(o:Fu cb p K v t gv zv j 267 i c m)(q:Fu cb p K v t gv zv j 94 k l n){e:Int}{a:Nat}(d:j.get a=T (.cells [I i,I k]))(mk:Int)
  (b:Hr (I6 cb p K v t gv zv) j h0 g0 h g s) (f:s.length+(m+n+3)<90000):AR 266 [AA cb,.agg #[I 16,I e,I 0,S [],.slice (T ⟨a,0,M⟩) 2 1],I mk] h (Jn (I6 cb p K v t gv zv) j h0 g0 h g (Jr c l (T mk) s) (.tuple #[])):=by
 refine b.walk fun b=>?_;have x:=b.new (.cells [I 16,I e,I 0,S [],.slice (T ⟨a,0,M⟩) 2 1]);have y:Gf (h.new (.cells [I 16,I e,I 0,S [],.slice (T ⟨a,0,M⟩) 2 1])) g h.n:=b.free (e_ _) (by simp only[go_sem]);have r:=(b.x a (w0 _ _ d)).trans d;have z:=b.w _ _ r;have aj:=o.len s;have a1:=q.len (c s++[ins 17 0]);simp only[Y,W,Z]at a1;refine eF ah_ ?_;simp only[go_sem,u_,r,z];refine Aa (o.run x (by omega)) ?_;rintro _ ak a2 ⟨rfl,al,a3,a4⟩;obtain⟨a5,a6⟩:=y.Ak a2 a4;have a7:=a6.trans (Ae _);simp only[go_sem];refine Aa (Bd a3 17 0) ?_;rintro _ am a8 ⟨rfl,an,u,aa⟩;obtain⟨ab,f⟩:=a5.Ak a8 aa;rw[a7]at f;have ac:=(u.x a (w0 _ _ d)).trans d;simp only[go_sem,u_,f,ac];refine Aa (q.run u (by simp only[Y,W,Z];omega)) ?_;rintro _ ao ad ⟨rfl,ap,ae,af⟩;obtain⟨aq,w⟩:=ab.Ak ad af;rw[f]at w;simp only[go_sem,V,w];refine Aa (Bd ae 16 mk) ?_;rintro _ ar au ⟨rfl,av,ag,aw⟩;simp only[go_sem,V];refine Aa (Kn ag (c s).length (by simp only[Y,W,Z];omega)) ?_;rintro _ ax ay ⟨rfl,ah,ai,az⟩;simp only[go_sem];exact⟨ah,ai⟩
theorem Ass(w0:Wh j)(L:Fx j p N)(a:Nat)(b c:Int)(r:N[a]? =T (nd 16 0 [] [b,c])){f i:List AY→List AY}{k l:Nat}(m:Fu cb p K v t gv zv j 267 b f k)(n:Fu cb p K v t gv zv j 94 c i l):Fu cb p K v t gv zv j 182 a (fun o=>Jr f i (T (o.length:Int)) (o++[ins 1 a])) (k+l+6):=by
 refine⟨fun{h0 h g0 g s} d aa=>?_,fun s=>by have:=QU m.len n.len (T (s.length:Int)) (s++[ins 1 a]);simp only[Y,W,Z]at*;omega⟩;refine d.walk fun d=>?_;obtain⟨u,ab,ac,e,w⟩:=Bv w0 L d r;rcases e with e|⟨x,rfl,rfl,y⟩
 ·cases e
 refine eF w_ ?_;simp only[go_sem,V];refine Aa w ?_;rintro _ ad ae ⟨rfl,z,af⟩;obtain⟨a1,a2,a3⟩:=z.QD (.cells [I 0,I 0,I 0,S [],.slice M 0 0]) (.cells [I 16,I u,I 0,S [],.slice (T ⟨x,0,M⟩) 2 1]);simp only[go_sem,V,W,Z];refine Aa (Bd a1 1 a) ?_;rintro _ ag a4 ⟨rfl,ah,a5,a6⟩;obtain⟨ai,q⟩:=a2.Ak a4 a6;rw[a3]at q;simp only[go_sem,V,b_,Acf,q];refine Aa (Afg w0 b c m n y s.length a5 (by simp only[Y,W,Z];omega)) ?_;rintro _ aj ak ⟨rfl,a7,a8,al⟩;simp only[go_sem];exact⟨a7,a8⟩
theorem Afj(w0:Wh j)(i k:Int){c l:List AY→List AY}{m n:Nat}(o:Fu cb p K v t gv zv j 267 i c m)(q:Fu cb p K v t gv zv j 94 k l n){e:Int}{a:Nat}(d:j.get a=T (.cells [I i,I k]))(mk:Int)
  (b:Hr (I6 cb p K v t gv zv) j h0 g0 h g s) (f:s.length+(m+n+3)<90000):AR 266 [AA cb,.agg #[I 15,I e,I 0,S [],.slice (T ⟨a,0,M⟩) 2 1],I mk] h (Jn (I6 cb p K v t gv zv) j h0 g0 h g (Jr c l M s) (.tuple #[])):=by
 refine b.walk fun b=>?_;have x:=b.new (.cells [I 15,I e,I 0,S [],.slice (T ⟨a,0,M⟩) 2 1]);have y:Gf (h.new (.cells [I 15,I e,I 0,S [],.slice (T ⟨a,0,M⟩) 2 1])) g h.n:=b.free (e_ _) (by simp only[go_sem]);have r:=(b.x a (w0 _ _ d)).trans d;have z:=b.w _ _ r;have aj:=o.len s;have a1:=q.len (c s++[ins 17 0]);simp only[Y,W,Z]at a1;refine eF ah_ ?_;simp only[go_sem,u_,r,z];refine Aa (o.run x (by omega)) ?_;rintro _ ak a2 ⟨rfl,al,a3,a4⟩;obtain⟨a5,a6⟩:=y.Ak a2 a4;have a7:=a6.trans (Ae _);simp only[go_sem];refine Aa (Bd a3 17 0) ?_;rintro _ am a8 ⟨rfl,an,u,aa⟩;obtain⟨ab,f⟩:=a5.Ak a8 aa;rw[a7]at f;have ac:=(u.x a (w0 _ _ d)).trans d;simp only[go_sem,u_,f,ac];refine Aa (q.run u (by simp only[Y,W,Z];omega)) ?_;rintro _ ao ad ⟨rfl,ap,ae,af⟩;obtain⟨aq,w⟩:=ab.Ak ad af;rw[f]at w;have ag:decide ((2:Int)<((2:Nat):Int))=false:=J;simp only[go_sem,V,b_,w,ag];refine Aa (Kn ae (c s).length (by omega)) ?_;rintro _ ar au ⟨rfl,ah,ai,av⟩;simp only[go_sem];exact⟨ah,ai⟩
theorem Asy(w0:Wh j)(L:Fx j p N)(a:Nat)(b c:Int)(q:N[a]? =T (nd 15 0 [] [b,c])){f i:List AY→List AY}{k l:Nat}(m:Fu cb p K v t gv zv j 267 b f k)(n:Fu cb p K v t gv zv j 94 c i l):Fu cb p K v t gv zv j 182 a (fun r=>Jr f i M (r++[ins 1 a])) (k+l+6):=by
 refine⟨fun{h0 h g0 g s} d aa=>?_,fun s=>by have:=QU m.len n.len M (s++[ins 1 a]);simp only[Y,W,Z]at*;omega⟩;refine d.walk fun d=>?_;obtain⟨u,ab,ac,e,w⟩:=Bv w0 L d q;rcases e with e|⟨x,rfl,rfl,y⟩
 ·cases e
 refine eF w_ ?_;simp only[go_sem,V];refine Aa w ?_;rintro _ ad ae ⟨rfl,z,af⟩;obtain⟨a1,a2,a3⟩:=z.QD (.cells [I 0,I 0,I 0,S [],.slice M 0 0]) (.cells [I 15,I u,I 0,S [],.slice (T ⟨x,0,M⟩) 2 1]);simp only[go_sem,V,W,Z];refine Aa (Bd a1 1 a) ?_;rintro _ ag a4 ⟨rfl,ah,a5,a6⟩;obtain⟨ai,o⟩:=a2.Ak a4 a6;rw[a3]at o;simp only[go_sem,V,Aa9,o];refine Aa (Afj w0 b c m n y s.length a5 (by simp only[Y,W,Z];omega)) ?_;rintro _ aj ak ⟨rfl,a7,a8,al⟩;simp only[go_sem];exact⟨a7,a8⟩
theorem Afi(w0:Wh j)(l m n:Int){a e o:List AY→List AY}{q r u:Nat}(w:Fu cb p K v t gv zv j 267 l a q)(x:Fu cb p K v t gv zv j 94 m e r)(y:Fu cb p K v t gv zv j 94 n o u){f:Int}{b:Nat}(c:j.get b=T (.cells [I l,I m,I n]))(mk:Int)
  (d:Hr (I6 cb p K v t gv zv) j h0 g0 h g s) (i:s.length+(q+r+u+3)<90000):AR 266 [AA cb,.agg #[I 15,I f,I 0,S [],.slice (T ⟨b,0,M⟩) 3 1],I mk] h (Jn (I6 cb p K v t gv zv) j h0 g0 h g (KN a e o s) (.tuple #[])):=by
 refine d.walk fun d=>?_;have a5:=d.new (.cells [I 15,I f,I 0,S [],.slice (T ⟨b,0,M⟩) 3 1]);have a6:Gf (h.new (.cells [I 15,I f,I 0,S [],.slice (T ⟨b,0,M⟩) 3 1])) g h.n:=d.free (e_ _) (by simp only[go_sem]);have z:=(d.x b (w0 _ _ c)).trans c;have a7:=d.w _ _ z;have aC:=w.len s;have a8:=x.len (a s++[ins 17 0]);have aa:=y.len (Jj (e (a s++[ins 17 0])++[ins 16 0]) (a s).length ((e (a s++[ins 17 0])++[ins 16 0]).length:Nat));simp only[Y,W,Z,GK]at a8 aa;refine eF ah_ ?_;simp only[go_sem,u_,z,a7];refine Aa (w.run a5 (by omega)) ?_;rintro _ aD ab ⟨rfl,aE,ac,ad⟩;obtain⟨ae,af⟩:=a6.Ak ab ad;have ag:=af.trans (Ae _);simp only[go_sem];refine Aa (Bd ac 17 0) ?_;rintro _ aF ah ⟨rfl,aG,a1,ai⟩;obtain⟨aj,i⟩:=ae.Ak ah ai;rw[ag]at i;have ak:=(a1.x b (w0 _ _ c)).trans c;simp only[go_sem,u_,i,ak];refine Aa (x.run a1 (by simp only[Y,W,Z];omega)) ?_;rintro _ aH al ⟨rfl,aI,am,an⟩;obtain⟨ao,k⟩:=aj.Ak al an;rw[i]at k;have ap:decide ((2:Int)<((3:Nat):Int))=true:=J;simp only[go_sem,V,b_,k,ap];refine Aa (Bd am 16 0) ?_;rintro _ aJ aq ⟨rfl,aK,ar,au⟩;obtain⟨av,a2⟩:=ao.Ak aq au;rw[k]at a2;simp only[go_sem,V];refine Aa (Kn ar (a s).length (by simp only[Y,W,Z];omega)) ?_;rintro _ aL aw ⟨rfl,aM,a3,ax⟩;obtain⟨aN,a4⟩:=av.Ak aw ax;rw[a2]at a4;have ay:=(a3.x b (w0 _ _ c)).trans c;simp only[go_sem,u_,a4,ay];refine Aa (y.run a3 (by simp only[GK,Y,W,Z];omega)) ?_;rintro _ aO aP ⟨rfl,aQ,az,aR⟩;simp only[go_sem,V];refine Aa (Kn az (e (a s++[ins 17 0])).length (by simp only[Y,W,Z]at*;omega)) ?_;rintro _ aS aT ⟨rfl,aA,aB,aU⟩;simp only[go_sem];exact⟨aA,aB⟩
theorem Asx(w0:Wh j)(L:Fx j p N)(a:Nat)(b c d:Int)(x:N[a]? =T (nd 15 0 [] [b,c,d])){i k l:List AY→List AY}{m n o:Nat}(q:Fu cb p K v t gv zv j 267 b i m)(r:Fu cb p K v t gv zv j 94 c k n)(u:Fu cb p K v t gv zv j 94 d l o):Fu cb p K v t gv zv j 182 a (fun y=>KN i k l (y++[ins 1 a])) (m+n+o+6):=by
 refine⟨fun{h0 h g0 g s} e ae=>?_,fun s=>by have:=WQ q.len r.len u.len (s++[ins 1 a]);simp only[Y,W,Z]at*;omega⟩;refine e.walk fun e=>?_;obtain⟨z,af,ag,f,a1⟩:=Bv w0 L e x;rcases f with f|⟨a2,rfl,rfl,a3⟩
 ·cases f
 refine eF w_ ?_;simp only[go_sem,V];refine Aa a1 ?_;rintro _ ah ai ⟨rfl,a4,aj⟩;obtain⟨a5,a6,a7⟩:=a4.QD (.cells [I 0,I 0,I 0,S [],.slice M 0 0]) (.cells [I 15,I z,I 0,S [],.slice (T ⟨a2,0,M⟩) 3 1]);simp only[go_sem,V,W,Z];refine Aa (Bd a5 1 a) ?_;rintro _ ak a8 ⟨rfl,al,aa,ab⟩;obtain⟨am,w⟩:=a6.Ak a8 ab;rw[a7]at w;simp only[go_sem,V,Aa9,w];refine Aa (Afi w0 b c d q r u a3 s.length aa (by simp only[Y,W,Z];omega)) ?_;rintro _ an ao ⟨rfl,ac,ad,ap⟩;simp only[go_sem];exact⟨ac,ad⟩
theorem Aj6(w0:Wh j)(L:Fx j p N)(c:Nat){a:List Int}(i:N[c]? =T (nd 18 0 [] a)){d:List (List AY→List AY)}{e:Nat}(f:Hf cb p K v t gv zv j 182 a d e)(k:a.length<900000):Fu cb p K v t gv zv j 94 c (GL d) e:=by refine⟨fun{h0 h g0 g s} b l=>?_,f.len⟩;refine b.walk fun b=>?_;obtain⟨u,w,x,m,n⟩:=Bv w0 L b i;refine eF Tryz.func94 ?_;simp only[go_sem,V];refine Aa n ?_;rintro _ y z ⟨rfl,o,a1⟩;simp only[go_sem,V];refine Aa (Fi w0 f m k o l) ?_;rintro _ a2 a3 ⟨rfl,q,r,a4⟩;simp only[go_sem];exact⟨q,r⟩
end
set_option linter.unusedSectionVars false
def R6(A:Ay)(F:List Fn):Bl→Nat→List (List AY→List AY)
 |.nil,_=>[]
 |.cons s b,a=>(fun c=>s.co A F a c)::R6 A F b (a+s.sz)
theorem R5(A:Ay)(F:List Fn):∀(e:Bl) (a:Nat) (s:List AY),GL (R6 A F e a) s=e.co A F a s
 |.nil,_,_=>rfl
 |.cons b c,a,s=>by
  show GL (R6 A F c (a+b.sz)) (b.co A F a s)=c.co A F (a+b.sz) (b.co A F a s);exact R5 A F c _ _
section
variable{cb:Nat}{u fv tv sv gv zv:Value}{hs h0 h:AH}{g0 g:List Nat}{s:List AY}{N:List Nd}{A:Ay}{F:List Fn}
section
variable(w0:Wh hs)(d:Fx hs u N)(y:DH hs tv A.types)(j:DH hs sv A.Ac)(i:A.types.length=N.length)(L:A.Ac.length=N.length)(K:Mb hs fv F)(hF:F.length<2^60)(a0:N.length<80000)
include w0 d y j i L K hF a0
theorem P6(a:Bl)(b:Nat)(k:A2 N b (a.fl b++[nd 18 0 [] (a.AB b)]))(l:Hf cb u fv tv sv gv zv hs 182 (a.AB b) (R6 A F a b) (10*a.sz)):Fu cb u fv tv sv gv zv hs 94 (top b (a.sz+1)) (fun c=>a.co A F b c) (10*a.sz):=by
 have e:=k.last (a.Af b);have n:b+a.sz<N.length:=(g_.1 e).1;have:=a.DB b;have f:=Aj6 w0 d (b+a.sz) e l (by omega);have m:GL (R6 A F a b)=fun c=>a.co A F b c:=by funext c;exact R5 A F a b c
 rw[m]at f;exact f
mutual
theorem Av6:∀(m:Sm) (a:Nat),A2 N a (m.fl a)→Fu cb u fv tv sv gv zv hs 182 (top a m.sz) (fun k=>m.co A F a k) (10*m.sz)
 |.lt l b,a,e=>by
  have f:=e.last (b.Af a);have o:a+b.sz<N.length:=(g_.1 f).1;exact(Av5 w0 d (a+b.sz) l _ f j (by omega) (.cons (Agn w0 d y j i L K hF a0 b a e.left) .nil)).le (by simp only[Sm.sz];omega)
 |.set l b,a,e=>by
  have f:=e.last (b.Af a);have o:a+b.sz<N.length:=(g_.1 f).1;exact(Ast w0 d (a+b.sz) l _ f j (by omega) (.cons (Agn w0 d y j i L K hF a0 b a e.left) .nil)).le (by simp only[Sm.sz];omega)
 |.put l b c,a,e=>by
  have f:N[a+(b.sz+c.sz)]? =_:=e.last (by rw[Y,b.Af a,c.Af]);have o:a+(b.sz+c.sz)<N.length:=(g_.1 f).1;exact(Asw w0 d (a+(b.sz+c.sz)) l _ _ f j (by omega) (.cons (Gh w0 d y j i L b a e.left.left) (.cons (Gh w0 d y j i L c (a+b.sz) (by have:=e.left.right;rwa[b.Af a]at this)) .nil))).le (by simp only[Sm.sz];omega)
 |.run l b,a,e=>by
  have f:N[a+(Dq b+1)]? =_:=e.last (by rw[Y,DX b a];rfl);exact(Asu w0 d (a+(Dq b+1)) _ f (.cons (Agn w0 d y j i L K hF a0 (.call l b) a e.left) .nil)).le (by simp only[Sm.sz,Rg.sz];omega)
 |.print b,a,e=>by
  have f:=e.last (b.Af a);exact(Af1 w0 d (a+b.sz) _ f (.cons (Gh w0 d y j i L b a e.left) .nil)).le (by simp only[Sm.sz];omega)
 |.Fa,a,e=>(Alw w0 d a e.at .nil).le (by simp only[Sm.sz];omega)
 |.ret b,a,e=>by
  have f:=e.last (b.Af a);exact(Asv w0 d (a+b.sz) _ f (.cons (Gh w0 d y j i L b a e.left) .nil)).le (by simp only[Sm.sz];omega)
 |.Kv b c,a,e=>by
  have f:N[a+(b.sz+(c.sz+1))]? =_:=e.last (n:=b.sz+(c.sz+1)) (by simp only[Y,b.Af a,c.Af,W,Z]);have l:A2 N (a+b.sz) (c.fl (a+b.sz)++[nd 18 0 [] (c.AB (a+b.sz))]):=by have:=e.left.right;rwa[b.Af a]at this
  exact(Ass w0 d (a+(b.sz+(c.sz+1))) _ _ f (Gh w0 d y j i L b a e.left.left) (P6 w0 d y j i L K hF a0 c (a+b.sz) l (R3 c (a+b.sz) l.left))).le (by simp only[Sm.sz];omega)
 |.KD b c,a,e=>by
  have f:N[a+(b.sz+(c.sz+1))]? =_:=e.last (n:=b.sz+(c.sz+1)) (by simp only[Y,b.Af a,c.Af,W,Z]);have l:A2 N (a+b.sz) (c.fl (a+b.sz)++[nd 18 0 [] (c.AB (a+b.sz))]):=by have:=e.left.right;rwa[b.Af a]at this
  exact(Asy w0 d (a+(b.sz+(c.sz+1))) _ _ f (Gh w0 d y j i L b a e.left.left) (P6 w0 d y j i L K hF a0 c (a+b.sz) l (R3 c (a+b.sz) l.left))).le (by simp only[Sm.sz];omega)
 |.FP b c k,a,e=>by
  have f:N[a+(b.sz+(c.sz+1)+(k.sz+1))]? =_:=e.last (n:=b.sz+(c.sz+1)+(k.sz+1)) (by simp only[Y,b.Af a,c.Af,k.Af,W,Z]);have l:A2 N (a+b.sz) (c.fl (a+b.sz)++[nd 18 0 [] (c.AB (a+b.sz))]):=by have:=e.left.left.right;rwa[b.Af a]at this
  have o:A2 N (a+b.sz+(c.sz+1)) (k.fl (a+b.sz+(c.sz+1))++[nd 18 0 [] (k.AB (a+b.sz+(c.sz+1)))]):=by have:=e.left.right;simp only[Y,b.Af a,c.Af,W,Z]at this;rwa[←Nat.add_assoc]at this
  exact(Asx w0 d (a+(b.sz+(c.sz+1)+(k.sz+1))) _ _ _ f (Gh w0 d y j i L b a e.left.left.left) (P6 w0 d y j i L K hF a0 c (a+b.sz) l (R3 c (a+b.sz) l.left)) (P6 w0 d y j i L K hF a0 k _ o (R3 k _ o.left))).le (by simp only[Sm.sz];omega)
theorem R3:∀(c:Bl) (a:Nat),A2 N a (c.fl a)→Hf cb u fv tv sv gv zv hs 182 (c.AB a) (R6 A F c a) (10*c.sz)
 |.nil,_,_=>.nil
 |.cons b e,a,f=>by
  have k:=Hf.cons (Av6 b a f.left) (R3 e (a+b.sz) (by have:=f.right;rwa[b.Af a]at this));have:10*(Bl.cons b e).sz=10*b.sz+10*e.sz:=by simp only[Bl.sz];omega
  rw[this];exact k
end
end
def InA(h:AH)(b:i_)(a:List AY):Prop:=(a=[]∧b=.slice M 0 0)∨(∃c,b=.slice (T ⟨c,0,M⟩) a.length 4∧h.get c=T (.cells (BP a)))
theorem InA.ext{h h1:AH}{b:i_}{c:List AY}(a:InA h b c)(k:Wh h)(l:Ext h h1):InA h1 b c:=by
 rcases a with a|⟨e,m,f⟩
 ·exact .inl a
 exact .inr ⟨e,m,(l e (k _ _ f)).trans f⟩
theorem DH.one{h:AH}{a:i_}{b:List Int}(c:DH h a b):a.oneCell'=true∧Aq a=[a]:=by rcases c with⟨_,rfl⟩|⟨e,rfl,_⟩<;>exact⟨J,J⟩
theorem Yn{h:AH}{a:Fn}{b:Int}{c:Option Addr}{e:Nat}:
  AR 250 ([.agg #[S a.name,I b,.slice c a.params.length e,I a.ret,I a.body]]++(#[]:Array i_).toList) h (fun f k=>f=.bool (a.name==KA)∧Ext h k):=by
 refine eF Tryz.func250 ?_;simp only[go_sem,V];exact⟨J,Ext.new h _⟩
theorem Ana{a:List Fd}{b:i_}(c:Wh h)(f:D6 a)(k:E3 h a b):AR 171 [b] h (fun l m=>l=I (Ih a)∧Ext h m):=by obtain⟨u,fv,tv,sv,gv,zv,rfl,p,K,n⟩:=k;have q:=JR a 0;have r:a.length≤6:=f.2.1;have e:=Ext.new h (.cells [u,fv,tv,sv,gv,zv]);refine eF Tryz.func171 ?_;simp only[go_sem,V];refine Aa (MF 250 #[] (fun g=>g.name==KA) K c e (by simp only[go_sem];omega) (Am c _) (by omega) (fun{t} {v} {w} {n} {x} z P a1=>Yn)) ?_;rintro _ a2 a3 ⟨rfl,o⟩;simp only[go_sem];exact⟨J,e.trans (by simp only[go_sem];omega) o⟩
theorem Yk{b:List Fd}{aN:i_}(al:Wh h)(aO:D6 b)(b9:E3 h b aN):AR 53 [aN] h (fun ba p=>(∃a8 aP,ba=.agg #[a8,aP]∧InA p a8 (Bh b).1∧DH p aP (Bh b).2)∧Ext h p):=by
 obtain⟨u,fv,tv,sv,gv,zv,rfl,ar,K,x⟩:=b9;obtain⟨a9,aa,au⟩:=K.slice;have j:A2 (Az b 0) 0 (Az b 0):=⟨[],[],by simp,J⟩;have bb:=JR b 0;have bD:b.length≤6:=aO.2.1;have bE:(Az b 0).length≤300:=aO.2.2;have bc:u.oneCell'=true∧Aq u=[u]:=by obtain⟨e,f,a,_⟩:=ar;have:=a.one;exact⟨this.2.1,this.1⟩
 obtain⟨bd,bF⟩:=bc;obtain⟨be,bG⟩:=x.t.one;obtain⟨bf,bH⟩:=x.sl.one;obtain⟨bg,bI⟩:=x.g.one;obtain⟨bh,bJ⟩:=x.z.one;refine eF Tryz.func53 ?_;subst au;simp only[go_sem,V,bd,be,bf,bg,bh];generalize ad:((((h.new (.cells [u,.slice a9 (AK b 0).length aa,tv,sv,gv,zv])).new (.cells [.slice M 0 0,.slice M 0 0])).new (.cells [.slice M 0 0,.slice M 0 0,.slice M 0 0,.slice M 0 0,.slice M 0 0,.slice M 0 0,.slice M 0 0])).put (h.n+2) (.cells [u,.slice a9 (AK b 0).length aa,tv,sv,gv,zv,.slice M 0 0]))=p at*
 have bi:Wh p:=ad▸Ar (Am (Am (Am al _) _) _) (by simp only[go_sem];omega) _;have bj:Ext h p:=ad▸fun e P=>by simp only[go_sem,P]
 have bK:p.n=h.n+3:=by rw[←ad];simp only[go_sem]
 have bk:p.get (h.n+1)=T (.cells [.slice M 0 0,.slice M 0 0]):=by rw[←ad];simp only[go_sem,V]
 have bl:p.get (h.n+2)=T (.cells [u,.slice a9 (AK b 0).length aa,tv,sv,gv,zv,.slice M 0 0]):=by rw[←ad];simp only[go_sem]
 have bm:Hr (I6 (h.n+2) u (.slice a9 (AK b 0).length aa) tv sv gv zv) h p [h.n+2] p [h.n+2] []:=
  ⟨bi,⟨_,[],J,bl,.inl ⟨J,J,J⟩,fun h=>by cases h⟩,Kp.refl _ _,e_ _,fun e P=>by rcases d_.1 P with rfl;omega,bj,by omega⟩
 have bn:Gf p [h.n+2] (h.n+1):=⟨by omega,fun bo=>by rcases d_.1 bo with m;omega⟩;refine AG (fun(m:Nat×Nat×List AY×List Int×List Nat) w am=>Hr (I6 (h.n+2) u (.slice a9 (AK b 0).length aa) tv sv gv zv) h p [h.n+2] am m.2.2.2.2 m.2.2.1∧Qd p am m.2.2.2.2 (w.at 4) m.2.2.2.1∧Gf am m.2.2.2.2 (h.n+1)∧am.get (h.n+1)=T (.cells [.slice M 0 0,.slice M 0 0])∧m.1≤b.length∧
  Tp (Aw b) (AK b 0) (b.drop m.1) m.2.1 m.2.2.1 m.2.2.2.1=Bh b∧A2 (Az b 0) m.2.1 (Az (b.drop m.1) m.2.1)∧m.2.1+(Az (b.drop m.1) m.2.1).length=(Az b 0).length∧(AK b 0).drop m.1=AK (b.drop m.1) m.2.1∧m.2.2.1.length≤10*m.2.1∧m.2.2.2.1.length=m.1∧
  w.at 2=AA (h.n+1)∧w.at 3=AA (h.n+2)∧w.at 11=.slice a9 (AK b 0).length aa∧w.at 12=I b.length∧w.at 13=I m.1) (fun m=>b.length-m.1) ?_ (0,0,[],[],[h.n+2]) ?_
 ·rintro⟨f,k,e,o,a1⟩ w l ⟨v,ae,a2,ab,bp,a4,an,aQ,ao,bq,av,aw,a5,ap,af,ac⟩ ax
  dsimp only at v ae a2 ab bp a4 an aQ ao bq av ac ax;obtain⟨bL,bM,aR,aS⟩:=v.FJ;by_cases aq:f<b.length
  ·have i:decide ((f:Int)<(b.length:Int))=true:=Gu
   have br:=c_ aq;have aT:b.drop f=b[f]::b.drop (f+1):=T_ aq;generalize b[f]=a at br aT;rw[aT]at a4 an ao aQ;have aU:l_ .i64 ((f:Int)+1)=((f+1:Nat):Int):=by rw[Ap]<;>omega
   have hF:(AK b 0)[f]? =T ⟨a.name,0,a.params,a.ret,((k+a.body.sz:Nat):Int)⟩:=by have h0:((AK b 0).drop f)[0]? =(AK (a::b.drop (f+1)) k)[0]? :=Akv (fun aV:List Fn=>aV[0]?) ao;rw[List.getElem?_drop,Nat.add_zero]at h0;exact h0
   obtain⟨bs,bN,q,r,t,au,aW,bO,aX,aY,bP⟩:=K.node al v.x v.m hF;injection au with z _ n
   subst z n;have bQ:(Az (a::b.drop (f+1)) k).length=a.body.sz+1+(Az (b.drop (f+1)) (k+(a.body.sz+1))).length:=by simp only[Az,Y,a.body.Af,W,Z]
   have aZ:A2 (Az b 0) k (a.body.fl k++[nd 18 0 [] (a.body.AB k)]):=an.left;have b0:A2 (Az b 0) (k+(a.body.sz+1)) (Az (b.drop (f+1)) (k+(a.body.sz+1))):=by have:=an.right;simp only[Y,a.body.Af,W,Z]at this;exact this
   have b1:(AK b 0).drop (f+1)=AK (b.drop (f+1)) (k+(a.body.sz+1)):=by rw[←List.drop_drop,ao];rfl
   have ay:Fu (h.n+2) u (.slice (T ⟨bs,0,M⟩) (AK b 0).length 5) tv sv gv zv h 94 (top k (a.body.sz+1)) (fun e=>a.body.co (Aw b) (AK b 0) k e) (10*a.body.sz):=
    P6 al ar x.t x.sl (x.len.1) (x.len.2.1) K (by omega) (by omega) a.body k aZ (R3 al ar x.t x.sl (x.len.1) (x.len.2.1) K (by omega) (by omega) a.body k aZ.left)
   have bR:=ay.len e;have b2:=(v.new (.cells [S [],I 0,.slice M 0 0,I 0,I 0])).put (c:=l.n) (v.free (e_ _) (by simp only[go_sem])) v.n v.m (.cells [S a.name,I q,.slice r a.params.length t,I a.ret,I ((k+a.body.sz:Nat):Int)]);have b3:Kp l ((l.new (.cells [S [],I 0,.slice M 0 0,I 0,I 0])).put l.n (.cells [S a.name,I q,.slice r a.params.length t,I a.ret,I ((k+a.body.sz:Nat):Int)])) a1 a1:=fun e P az=>⟨by simp only[go_sem,P],az⟩;have bS:=ae.Ak (by simp only[go_sem];omega) b3;have b4:Gf ((l.new (.cells [S [],I 0,.slice M 0 0,I 0,I 0])).put l.n (.cells [S a.name,I q,.slice r a.params.length t,I a.ret,I ((k+a.body.sz:Nat):Int)])) a1 l.n:=v.free (e_ _) (by simp only[go_sem]);have bT:=Ai (h:=l.new (.cells [S [],I 0,.slice M 0 0,I 0,I 0])) l.n (.cells [S a.name,I q,.slice r a.params.length t,I a.ret,I ((k+a.body.sz:Nat):Int)]);have b5:Tp (Aw b) (AK b 0) (b.drop (f+1)) (k+(a.body.sz+1)) (a.body.co (Aw b) (AK b 0) k e++[ins 22 a.ret]) (o++[(e.length:Int)])=Bh b:=a4;have bU:=(b3 _ a2.1 a2.2).1.trans ab;have bV:(l.new (.cells [S [],I 0,.slice M 0 0,I 0,I 0])).n=l.n+1:=J;have b6:=a2.1;rcases ae with⟨z,n⟩|⟨a3,z,n,b7,b8⟩
   ·subst z
    have aA:=(b2.new (.cells [I (e.length:Int)])).new (.cells [I (e.length:Int)]);have aB:Gf ((((l.new (.cells [S [],I 0,.slice M 0 0,I 0,I 0])).put l.n (.cells [S a.name,I q,.slice r a.params.length t,I a.ret,I ((k+a.body.sz:Nat):Int)])).new (.cells [I (e.length:Int)])).new (.cells [I (e.length:Int)])) a1 l.n:=⟨by simp only[go_sem]<;>omega,b4.2⟩;have aC:((((l.new (.cells [S [],I 0,.slice M 0 0,I 0,I 0])).put l.n (.cells [S a.name,I q,.slice r a.params.length t,I a.ret,I ((k+a.body.sz:Nat):Int)])).new (.cells [I (e.length:Int)])).new (.cells [I (e.length:Int)])).get l.n=T (.cells [S a.name,I q,.slice r a.params.length t,I a.ret,I ((k+a.body.sz:Nat):Int)]):=by simp only[go_sem]
    have aD:Gf ((((l.new (.cells [S [],I 0,.slice M 0 0,I 0,I 0])).put l.n (.cells [S a.name,I q,.slice r a.params.length t,I a.ret,I ((k+a.body.sz:Nat):Int)])).new (.cells [I (e.length:Int)])).new (.cells [I (e.length:Int)])) a1 (h.n+1):=⟨by simp only[go_sem];omega,a2.2⟩;have aE:((((l.new (.cells [S [],I 0,.slice M 0 0,I 0,I 0])).put l.n (.cells [S a.name,I q,.slice r a.params.length t,I a.ret,I ((k+a.body.sz:Nat):Int)])).new (.cells [I (e.length:Int)])).new (.cells [I (e.length:Int)])).get (h.n+1)=T (.cells [.slice M 0 0,.slice M 0 0]):=by simp only[go_sem,b6,ab]
    have aF:Qd p ((((l.new (.cells [S [],I 0,.slice M 0 0,I 0,I 0])).put l.n (.cells [S a.name,I q,.slice r a.params.length t,I a.ret,I ((k+a.body.sz:Nat):Int)])).new (.cells [I (e.length:Int)])).new (.cells [I (e.length:Int)])) a1 (.slice (T ⟨l.n+2,0,M⟩) 1 1) ([]++[(e.length:Int)]):=.inr ⟨l.n+2,J,by simp only[go_sem,x_,List.map],v.free (by omega) (by simp only[go_sem];omega),by have:=v.n;omega⟩;simp only[go_sem,V,a5,ap,af,ac,i,aX,aW,aY,aR,aS,n];refine Aa (ay.run aA (by omega)) ?_;rintro _ bt a6 ⟨rfl,bu,aG,a7⟩;obtain⟨bv,ag⟩:=aB.Ak a6 a7;obtain⟨aH,ah⟩:=aD.Ak a6 a7;rw[aC]at ag;rw[aE]at ah;have aI:=aF.Ak a6 a7;simp only[go_sem,V,a5,ag];refine Aa (Bd aG 22 a.ret) ?_;rintro _ bw ai ⟨rfl,aJ,aK,aj⟩;obtain⟨aL,ak⟩:=aH.Ak ai aj;rw[ah]at ak;have aM:=aI.Ak ai aj;simp only[go_sem,V,ac,aU];refine ax (f+1,k+(a.body.sz+1),a.body.co (Aw b) (AK b 0) k e++[ins 22 a.ret],[]++[(e.length:Int)],aJ) _ _ ⟨aK,?_,aL,ak,aq,b5,b0,?_,b1,?_,?_,?_,?_,?_,?_,?_⟩ (by show b.length-(f+1)<b.length-f;omega)
    ·simp only[go_sem,V]
     exact aM
    ·show k+(a.body.sz+1)+(Az (b.drop (f+1)) (k+(a.body.sz+1))).length=(Az b 0).length
     omega
    ·show(a.body.co (Aw b) (AK b 0) k e++[ins 22 a.ret]).length≤10*(k+(a.body.sz+1))
     simp only[Y,W,Z];omega
    ·show([]++[(e.length:Int)]).length=f+1
     simp[av]
    ·simp only[go_sem,V,aw]
    ·simp only[go_sem,V,a5]
    ·simp only[go_sem,V,ap]
    ·simp only[go_sem,V,af]
    simp only[go_sem]
   have bx:=b7.1;have bz:take? (o.map fun f=>I f) o.length=T (o.map fun f=>I f):=by rw[Bn (by simp),ac_ (by simp)]
   have bA:A_ (o.length+1) 1000000=true:=Eg;have bB:(l.n==a3)=false:=Ag;have bC:(h.n+1==a3)=false:=Ag fun w=>by
    rw[←w,ab]at n;injection n with n
    injection n with n
    cases o with
    |nil=>cases n
    |cons bW aV=>injection n with n _;cases n
   have aA:=((b2.new (.cells [I (e.length:Int)])).del (c:=a3) ⟨by simp only[go_sem];omega,b7.2⟩ b8 (by omega)).new (.cells ((o.map fun f=>I f)++[I (e.length:Int)]));have aB:Gf (((((l.new (.cells [S [],I 0,.slice M 0 0,I 0,I 0])).put l.n (.cells [S a.name,I q,.slice r a.params.length t,I a.ret,I ((k+a.body.sz:Nat):Int)])).new (.cells [I (e.length:Int)])).del a3).new (.cells ((o.map fun f=>I f)++[I (e.length:Int)]))) a1 l.n:=⟨by simp only[go_sem]<;>omega,b4.2⟩;have aC:(((((l.new (.cells [S [],I 0,.slice M 0 0,I 0,I 0])).put l.n (.cells [S a.name,I q,.slice r a.params.length t,I a.ret,I ((k+a.body.sz:Nat):Int)])).new (.cells [I (e.length:Int)])).del a3).new (.cells ((o.map fun f=>I f)++[I (e.length:Int)]))).get l.n=T (.cells [S a.name,I q,.slice r a.params.length t,I a.ret,I ((k+a.body.sz:Nat):Int)]):=by simp only[go_sem,bB]
   have aD:Gf (((((l.new (.cells [S [],I 0,.slice M 0 0,I 0,I 0])).put l.n (.cells [S a.name,I q,.slice r a.params.length t,I a.ret,I ((k+a.body.sz:Nat):Int)])).new (.cells [I (e.length:Int)])).del a3).new (.cells ((o.map fun f=>I f)++[I (e.length:Int)]))) a1 (h.n+1):=⟨by simp only[go_sem];omega,a2.2⟩;have aE:(((((l.new (.cells [S [],I 0,.slice M 0 0,I 0,I 0])).put l.n (.cells [S a.name,I q,.slice r a.params.length t,I a.ret,I ((k+a.body.sz:Nat):Int)])).new (.cells [I (e.length:Int)])).del a3).new (.cells ((o.map fun f=>I f)++[I (e.length:Int)]))).get (h.n+1)=T (.cells [.slice M 0 0,.slice M 0 0]):=by simp only[go_sem,b6,bC,ab]
   have aF:Qd p (((((l.new (.cells [S [],I 0,.slice M 0 0,I 0,I 0])).put l.n (.cells [S a.name,I q,.slice r a.params.length t,I a.ret,I ((k+a.body.sz:Nat):Int)])).new (.cells [I (e.length:Int)])).del a3).new (.cells ((o.map fun f=>I f)++[I (e.length:Int)]))) a1 (.slice (T ⟨l.n+2,0,M⟩) (o.length+1) 1) (o++[(e.length:Int)]):=.inr ⟨l.n+2,by rw[Y];rfl,by simp only[go_sem,List.map_append,List.map],v.free (by omega) (by simp only[go_sem];omega),by have:=v.n;omega⟩;simp only[go_sem,V,a5,ap,af,ac,i,aX,aW,aY,aR,aS,z,n,bx,bz,bA];refine Aa (ay.run aA (by omega)) ?_;rintro _ bt a6 ⟨rfl,bu,aG,a7⟩;obtain⟨bv,ag⟩:=aB.Ak a6 a7;obtain⟨aH,ah⟩:=aD.Ak a6 a7;rw[aC]at ag;rw[aE]at ah;have aI:=aF.Ak a6 a7;simp only[go_sem,V,a5,ag];refine Aa (Bd aG 22 a.ret) ?_;rintro _ bw ai ⟨rfl,aJ,aK,aj⟩;obtain⟨aL,ak⟩:=aH.Ak ai aj;rw[ah]at ak;have aM:=aI.Ak ai aj;simp only[go_sem,V,ac,aU];refine ax (f+1,k+(a.body.sz+1),a.body.co (Aw b) (AK b 0) k e++[ins 22 a.ret],o++[(e.length:Int)],aJ) _ _ ⟨aK,?_,aL,ak,aq,b5,b0,?_,b1,?_,?_,?_,?_,?_,?_,?_⟩ (by show b.length-(f+1)<b.length-f;omega)
   ·simp only[go_sem,V]
    exact aM
   ·show k+(a.body.sz+1)+(Az (b.drop (f+1)) (k+(a.body.sz+1))).length=(Az b 0).length
    omega
   ·show(a.body.co (Aw b) (AK b 0) k e++[ins 22 a.ret]).length≤10*(k+(a.body.sz+1))
    simp only[Y,W,Z];omega
   ·show(o++[(e.length:Int)]).length=f+1
    simp[av]
   ·simp only[go_sem,V,aw]
   ·simp only[go_sem,V,a5]
   ·simp only[go_sem,V,ap]
   ·simp only[go_sem,V,af]
   simp only[go_sem]
  have a3:f=b.length:=by omega
  have i:decide ((f:Int)<(b.length:Int))=false:=Gv;rw[a3,W_]at a4;have a4:(e,o)=Bh b:=a4;obtain⟨a8,ag,az,P,q,_⟩:=v.r;have r:a8.oneCell'=true∧Aq a8=[a8]:=by rcases q with⟨_,rfl,_⟩|⟨a,rfl,_⟩<;>exact⟨J,J⟩
  have t:(w.at 4).oneCell'=true∧Aq (w.at 4)=[w.at 4]:=by rcases ae with⟨_,m⟩|⟨a,m,_⟩<;>rw[m]<;>exact⟨J,J⟩
  have ah:=a2.1;simp only[go_sem,V,aw,a5,af,ac,i,P,r.1,r.2,t.1,t.2,ab];rw[←a4];have a6:=v.x;refine⟨⟨_,_,J,?_,?_⟩,fun e P=>(Ab _ Ag).trans (a6 e P)⟩
  ·rcases q with⟨z,n,_⟩|⟨a,z,n,a7⟩
   ·exact .inl ⟨z,n⟩
   exact .inr ⟨a,z,(Ab _ (Ag fun w=>a2.2 (by rw[az,n,←w];simp))).trans a7⟩
  rcases ae with m|⟨a,z,n,_,b8⟩
  ·exact .inl m
  exact .inr ⟨a,z,(Ab _ Ag).trans n⟩
 refine⟨bm,.inl ⟨J,?_⟩,bn,bk,p_ _,J,j,by simp,J,by simp,J,?_,?_,?_,?_,?_⟩
 all_goals simp only[go_sem,V,bb]
 rfl
end
variable{a b c d:Nat}{f g h:AH}{v w:Value}{s t:List UInt8}{l m:List Value}{u:TypeId}{x y:Int}{p:List Nat}{q r:List Int}{e:Env}{o n:Option Addr}
structure Vl where
 k:Int
 a:Int
 s:H
abbrev vl(a:Vl):i_:=.agg #[I a.k,I a.a,S a.s]
structure Vl.ok(v:Vl):Prop where
 lo: -9223372036854775808≤v.a
 hi:v.a<9223372036854775808
 sl:v.s.length≤100000
abbrev vz(a:Int):Vl:=⟨a,0,[]⟩
abbrev HU(a:Int):Vl:=⟨1,a,[]⟩
abbrev Kw(a:Bool):Vl:=⟨2,cond a 1 0,[]⟩
abbrev Ae6(a:H):Vl:=⟨3,0,a⟩
abbrev wr(a:Int):Int:=l_ .i64 a
def D8:Int→H
 |.ofNat a=>DF 30 a []
 |.negSucc a=>45::DF 30 (a+1) []
theorem Aqf(a:Int): -9223372036854775808≤wr a∧wr a<9223372036854775808:=by unfold wr;rw[IntKind.wrap_i64];omega
def Vl.may(a:Vl):Bool:=
 cond (a.k==3) (cond (a.a==0) (decide ((a.s.length:Int)≤40)) false)
  (cond (a.k==2) (cond (decide (1<a.a)) false (cond (decide (a.a<0)) false (a.s==[])))
   (cond (a.k==4) (cond (decide (a.a<0)) false (a.s==[]))
    (cond (a.k==1) (a.s==[]) false)))
def Vl.word(a:Vl):H:=
 cond (a.k==1) (D8 a.a) (cond (a.k==2) (cond (a.a==1) FV Ec) (cond (a.k==3) a.s (cond (a.k==4) [108,105,115,116] [])))
def Vl.quoted(a:Vl):H:=cond (a.k==3) (34::a.s++[34]) a.word
def Mr(a:H)(b c:Int):Vl×Int:=
 cond (a==[60]) (Kw (decide (b<c)),0) (cond (a==[60,61]) (Kw (decide (b≤c)),0) (vz 0,0))
def Acn(b:H)(c a:Int):Vl×Int:=
 cond (b==[43]) (HU (wr (c+a)),0) (cond (b==[45]) (HU (wr (c-a)),0) (cond (b==[42]) (HU (wr (c*a)),0)
  (cond (b==[47]) (cond (a==0) (vz 0,1) (HU (wr (c.tdiv a)),0)) (cond (b==[37]) (cond (a==0) (vz 0,1) (HU (c.tmod a),0)) (Mr b c a)))))
def R2(a:H)(b c:Bool):Vl×Int:=
 cond (a==[124,124]) (Kw (cond b true c),0) (cond (a==[38,38]) (Kw (cond b c false),0) (vz 0,0))
def QT(c:H)(a b:H):Vl×Int:=
 cond (c==[43]) (cond (decide (40<(a.length:Int)+b.length)) (vz 0,6) (Ae6 (a++b),0)) (vz 0,0)
def TQ(c:H)(a b:Vl):Vl×Int:=
 cond (cond (cond (a.k==b.k) (decide (1≤a.k)) false) (decide (a.k≤4)) false)
  (cond (c==[61,61]) (Kw (cond (a.a==b.a) (a.s==b.s) false),0)
   (cond (c==[33,61]) (Kw (cond (a.a !=b.a) true (!(a.s==b.s))),0)
    (cond (a.k==1) (Acn c a.a b.a) (cond (a.k==2) (R2 c (a.a==1) (b.a==1)) (cond (a.k==3) (QT c a.s b.s) (vz 0,0))))))
  (vz 0,0)
def Q3(b:H)(a:Vl):Vl:=
 cond (cond (b==[45]) (a.k==1) false) (HU (wr (0-a.a))) (cond (cond (b==[33]) (a.k==2) false) (Kw (a.a !=1)) (vz 0))
theorem Ext.CR{h b:AH}(c:Ext h b)(d:AO)(g:h.n≤a:=by first|omega|(simp only[go_sem];omega)):Ext h (b.put a d):=fun e f=>(Ab _ Ag).trans (c e f)
theorem Ext.CS{h a:AH}(b:Ext h a)(c:AO)(f:h.n≤a.n:=by first|omega|(simp only[go_sem];omega)):Ext h (a.new c):=fun d e=>(An _ Ag).trans (b d e)
theorem Ext.Cb{h a:AH}{c:AO}(d:Ext (h.new c) a):Ext h a:=fun e b=>(d e (S_ b)).trans (An _ (AE b))
theorem Ext.Lp{h b c:AH}{f:AO}(g:Ext (h.put a f) c)(k:b.n≤a)(i:b.n≤h.n)(j:Ext b h):Ext b c:=fun d e=>(g d (n_ e i)).trans ((Ab _ Ag).trans (j d e))
section
variable{h:AH}
abbrev K8(a:ad_)(b:E)(h:AH)(c:i_):Prop:=AR a b h (fun d e=>d=c∧Ext h e)
theorem Pn(b:Int)(c: -9223372036854775808≤b)(d:b<9223372036854775808):AR 28 [I b] h (fun e c=>e=S (D8 b)∧c=h):=by
 cases b with
 |ofNat a=>exact Z1 a (by simp only[Int.ofNat_eq_natCast]at d;omega) h
 |negSucc a=>
  refine Ok.known K28 (v:=S (D8 (.negSucc a))) (h1:=h) ?_ (e_ _) ⟨J,J⟩;show cond (Nat.blt a 9223372036854775808) (T (S (45::DF 30 (a+1) []),h)) M=_;rw[show Nat.blt a 9223372036854775808=true from Eg];rfl
theorem La(a:Int):AR 165 [I a] h (fun b c=>b=vl (vz a)∧Ext h c):=by
 refine eF Tryz.func165 ?_;simp only[go_sem,V]
 (intro e d;simp only[go_sem,d];done)
theorem Ahw(b:Vl)(k:b.ok):AR 166 [vl b] h (fun j i=>j=.bool b.may∧Ext h i):=by
 refine eF Tryz.func166 ?_;unfold Vl.may;cases c:b.k==3
 ·cases e:b.k==2
  ·cases g:b.k==4
   ·cases i:b.k==1
    ·simp only[go_sem,V,i,e,c,g]
     (intro d a;simp only[go_sem,a];done)
    simp only[go_sem,V,i,e,c,g]
    (intro d a;simp only[go_sem,a];done)
   cases f:decide (b.a<0)
   ·simp only[go_sem,V,e,c,g,f]
    (intro d a;simp only[go_sem,a];done)
   simp only[go_sem,V,e,c,g,f]
   (intro d a;simp only[go_sem,a];done)
  cases f:decide (b.a<0)
  ·cases g:decide (1<b.a)
   ·simp only[go_sem,V,e,c,f,g]
    (intro d a;simp only[go_sem,a];done)
   simp only[go_sem,V,e,c,g]
   (intro d a;simp only[go_sem,a];done)
  cases g:decide (1<b.a)
  ·simp only[go_sem,V,e,c,f,g]
   (intro d a;simp only[go_sem,a];done)
  simp only[go_sem,V,e,c,g]
  (intro d a;simp only[go_sem,a];done)
 cases f:b.a==0
 ·simp only[go_sem,V,c,f]
  (intro d a;simp only[go_sem,a];done)
 simp only[go_sem,V,c,f]
 (intro d a;simp only[go_sem,a];done)
theorem GY(a:Int):K8 322 [I a] h (vl (HU a)):=by
 refine eF Tryz.func322 ?_;simp only[go_sem,V]
 (intro c b;simp only[go_sem,b];done)
theorem Uu(a:H):K8 324 [S a] h (vl (Ae6 a)):=by
 refine eF Tryz.func324 ?_;simp only[go_sem,V]
 (intro c b;simp only[go_sem,b];done)
theorem EN(a:Bool):K8 323 [.bool a] h (vl (Kw a)):=by
 refine eF Tryz.func323 ?_;simp only[go_sem,V];refine Aa (La 2) ?_;rintro _ c f ⟨rfl,b⟩;have g:h.n<c.n:=f;have d:=(b h.n (a_ _)).trans (Ae _);have e:(h.n==c.n)=false:=Ag;cases a
 ·simp only[go_sem,V,d,e]
  try refine⟨J,?_⟩
  repeat first|exact b.Cb|exact Ext.refl _|refine Ext.CR ?_ _|refine Ext.CS ?_ _
 simp only[go_sem,V,d,e]
 try refine⟨J,?_⟩
 repeat first|exact b.Cb|exact Ext.refl _|refine Ext.CR ?_ _|refine Ext.CS ?_ _
theorem N1(a:Vl)(g:a.ok):K8 249 [vl a] h (S a.word):=by
 refine eF Tryz.func249 ?_;unfold Vl.word;cases c:a.k==1
 ·cases d:a.k==2
  ·cases e:a.k==3
   ·cases i:a.k==4
    ·simp only[go_sem,V,c,d,e,i]
     (intro f b;simp only[go_sem,b];done)
    simp only[go_sem,V,c,d,e,i]
    (intro f b;simp only[go_sem,b];done)
   simp only[go_sem,V,c,d,e]
   (intro f b;simp only[go_sem,b];done)
  simp only[go_sem,V,c,d];refine Aa (PB _ _) ?_;rintro _ _ _ ⟨rfl,rfl⟩;simp only[go_sem]
  try refine⟨J,?_⟩
  repeat first|exact Ext.refl _|refine Ext.CR ?_ _|refine Ext.CS ?_ _
 simp only[go_sem,V,c];refine Aa (Pn _ g.lo g.hi) ?_;rintro _ _ _ ⟨rfl,rfl⟩;simp only[go_sem]
 (intro f b;simp only[go_sem,b];done)
theorem Ab6(a:Vl)(b:a.ok):K8 168 [vl a] h (S a.quoted):=by
 refine eF Tryz.func168 ?_;unfold Vl.quoted;have f:=fun c d e=>DG (p:=pr) (t:=c) (x:=d) (y:=e) [34] a.s (by have:=b.sl;simp only[W,Z];omega);have g:=fun c d e=>DG (p:=pr) (t:=c) (x:=d) (y:=e) ([34]++a.s) [34] (by have:=b.sl;simp only[Y,W,Z];omega);simp only[y_,x_]at f g;cases i:a.k==3
 ·simp only[go_sem,V,i]
  refine Aa (N1 a b) ?_;rintro _ k _ ⟨rfl,j⟩;simp only[go_sem];exact j.Cb
 simp only[go_sem,V,i,f,g]
 (intro k j;simp only[go_sem,j];done)
theorem Ag5(a:H)(c d:Int):K8 408 [S a,I c,I d] h (.tuple #[vl (Mr a c d).1,I (Mr a c d).2]):=by
 refine eF Tryz.func408 ?_;unfold Mr;cases c1:a==[60]
 ·cases c2:a==[60,61]
  ·simp only[go_sem,V,c1,c2]
   try refine⟨J,?_⟩
   repeat first|exact Ext.refl _|refine Ext.CR ?_ _|refine Ext.CS ?_ _
  simp only[go_sem,V,c1,c2];refine Aa (EN _) ?_;rintro _ e f ⟨rfl,b⟩;have i:h.n<e.n:=f;have g:=(b h.n (a_ _)).trans (Ae _);simp only[go_sem,V,g]
  try refine⟨J,?_⟩
  repeat first|exact b.Cb|exact Ext.refl _|refine Ext.CR ?_ _|refine Ext.CS ?_ _
 simp only[go_sem,V,c1];refine Aa (EN _) ?_;rintro _ e f ⟨rfl,b⟩;have i:h.n<e.n:=f;have g:=(b h.n (a_ _)).trans (Ae _);simp only[go_sem,V,g]
 try refine⟨J,?_⟩
 repeat first|exact b.Cb|exact Ext.refl _|refine Ext.CR ?_ _|refine Ext.CS ?_ _
end
section
variable{p:Pr}{t:TypeId}{x y:Operand}{k:IntKind}{n m:Int}
theorem Apa(a:(m==0)=false):Cu p .quo t x y (.int k n) (.int k m)=T (.int k (k.wrap (n.tdiv m))):=Eh (by show cond (m==0) M _=_;rw[a];rfl)
theorem Aat(a:(m==0)=false):Cu p .rem t x y (.int k n) (.int k m)=T (.int k (n.tmod m)):=Eh (by show cond (m==0) M _=_;rw[a];rfl)
attribute [go_sem] Apa Aat
end
section
variable{h:AH}
theorem Xs(e:H)(x y:Int):K8 384 [S e,I x,I y] h (.tuple #[vl (Acn e x y).1,I (Acn e x y).2]):=by
 refine eF Tryz.func384 ?_;unfold Acn;cases c1:e==[43]
 ·cases c2:e==[45]
  ·cases c3:e==[42]
   ·cases f:e==[47]
    ·cases g:e==[37]
     ·simp only[go_sem,V,c1,c2,c3,f,g]
      refine Aa (Ag5 _ _ _) ?_;rintro _ b c ⟨rfl,a⟩;have i:h.n<b.n:=c;have d:=(a (h.n) (a_ _)).trans (Ae _);simp only[go_sem,V,d]
      try refine⟨J,?_⟩
      repeat first|exact a.Cb|exact Ext.refl _|refine Ext.CR ?_ _|refine Ext.CS ?_ _
     cases j:y==0
     ·simp only[go_sem,V,c1,c2,c3,f,g,j]
      refine Aa (GY _) ?_;rintro _ b c ⟨rfl,a⟩;have i:h.n<b.n:=c;have d:=(a (h.n) (a_ _)).trans (Ae _);simp only[go_sem,V,d]
      try refine⟨J,?_⟩
      repeat first|exact a.Cb|exact Ext.refl _|refine Ext.CR ?_ _|refine Ext.CS ?_ _
     simp only[go_sem,V,c1,c2,c3,f,g,j]
     try refine⟨J,?_⟩
     repeat first|exact Ext.refl _|refine Ext.CR ?_ _|refine Ext.CS ?_ _
    have g:(e==[37])=false:=by have:=eq_of_beq f;subst this;rfl
    cases j:y==0
    ·simp only[go_sem,V,c1,c2,c3,f,g,j]
     refine Aa (GY _) ?_;rintro _ b c ⟨rfl,a⟩;have i:h.n<b.n:=c;have d:=(a (h.n) (a_ _)).trans (Ae _);simp only[go_sem,V,d]
     try refine⟨J,?_⟩
     repeat first|exact a.Cb|exact Ext.refl _|refine Ext.CR ?_ _|refine Ext.CS ?_ _
    simp only[go_sem,V,c1,c2,c3,f,g,j]
    try refine⟨J,?_⟩
    repeat first|exact Ext.refl _|refine Ext.CR ?_ _|refine Ext.CS ?_ _
   simp only[go_sem,V,c1,c2,c3];refine Aa (GY _) ?_;rintro _ b c ⟨rfl,a⟩;have i:h.n<b.n:=c;have d:=(a (h.n) (a_ _)).trans (Ae _);simp only[go_sem,V,d]
   try refine⟨J,?_⟩
   repeat first|exact a.Cb|exact Ext.refl _|refine Ext.CR ?_ _|refine Ext.CS ?_ _
  simp only[go_sem,V,c1,c2];refine Aa (GY _) ?_;rintro _ b c ⟨rfl,a⟩;have i:h.n<b.n:=c;have d:=(a (h.n) (a_ _)).trans (Ae _);simp only[go_sem,V,d]
  try refine⟨J,?_⟩
  repeat first|exact a.Cb|exact Ext.refl _|refine Ext.CR ?_ _|refine Ext.CS ?_ _
 simp only[go_sem,V,c1];refine Aa (GY _) ?_;rintro _ b c ⟨rfl,a⟩;have i:h.n<b.n:=c;have d:=(a (h.n) (a_ _)).trans (Ae _);simp only[go_sem,V,d]
 try refine⟨J,?_⟩
 repeat first|exact a.Cb|exact Ext.refl _|refine Ext.CR ?_ _|refine Ext.CS ?_ _
theorem Ao5(e:H)(x y:Bool):K8 385 [S e,.bool x,.bool y] h (.tuple #[vl (R2 e x y).1,I (R2 e x y).2]):=by
 refine eF Tryz.func385 ?_;unfold R2;cases c1:e==[124,124]
 ·cases c2:e==[38,38]
  ·simp only[go_sem,V,c1,c2]
   try refine⟨J,?_⟩
   repeat first|exact Ext.refl _|refine Ext.CR ?_ _|refine Ext.CS ?_ _
  cases x
  ·simp only[go_sem,V,c1,c2]
   refine Aa (EN _) ?_;rintro _ b c ⟨rfl,a⟩;have f:h.n<b.n:=c;have d:=(a (h.n) (a_ _)).trans (Ae _);simp only[go_sem,V,d]
   try refine⟨J,?_⟩
   repeat first|exact a.Cb|exact Ext.refl _|refine Ext.CR ?_ _|refine Ext.CS ?_ _
  simp only[go_sem,V,c1,c2];refine Aa (EN _) ?_;rintro _ b c ⟨rfl,a⟩;have f:h.n<b.n:=c;have d:=(a (h.n) (a_ _)).trans (Ae _);simp only[go_sem,V,d]
  try refine⟨J,?_⟩
  repeat first|exact a.Cb|exact Ext.refl _|refine Ext.CR ?_ _|refine Ext.CS ?_ _
 cases x
 ·simp only[go_sem,V,c1]
  refine Aa (EN _) ?_;rintro _ b c ⟨rfl,a⟩;have f:h.n<b.n:=c;have d:=(a (h.n) (a_ _)).trans (Ae _);simp only[go_sem,V,d]
  try refine⟨J,?_⟩
  repeat first|exact a.Cb|exact Ext.refl _|refine Ext.CR ?_ _|refine Ext.CS ?_ _
 simp only[go_sem,V,c1];refine Aa (EN _) ?_;rintro _ b c ⟨rfl,a⟩;have f:h.n<b.n:=c;have d:=(a (h.n) (a_ _)).trans (Ae _);simp only[go_sem,V,d]
 try refine⟨J,?_⟩
 repeat first|exact a.Cb|exact Ext.refl _|refine Ext.CR ?_ _|refine Ext.CS ?_ _
theorem Afe(a x y:H)(l:x.length≤100000)(o:y.length≤100000):K8 386 [S a,S x,S y] h (.tuple #[vl (QT a x y).1,I (QT a x y).2]):=by
 refine eF Tryz.func386 ?_;unfold QT;have d:=fun t e f=>DG (p:=pr) (t:=t) (x:=e) (y:=f) x y (by omega);have b:l_ .i64 ((x.length:Int)+y.length)=(x.length:Int)+y.length:=by rw[Ap]<;>omega
 cases c1:a==[43]
 ·simp only[go_sem,V,c1]
  try refine⟨J,?_⟩
  repeat first|exact Ext.refl _|refine Ext.CR ?_ _|refine Ext.CS ?_ _
 cases c2:decide (40<(x.length:Int)+y.length)
 ·simp only[go_sem,V,c1,c2,b,d]
  refine Aa (Uu _) ?_;rintro _ g i ⟨rfl,c⟩;have q:h.n<g.n:=i;have j:=(c (h.n) (a_ _)).trans (Ae _);simp only[go_sem,V,j]
  try refine⟨J,?_⟩
  repeat first|exact c.Cb|exact Ext.refl _|refine Ext.CR ?_ _|refine Ext.CS ?_ _
 simp only[go_sem,V,c1,c2,b]
 try refine⟨J,?_⟩
 repeat first|exact Ext.refl _|refine Ext.CR ?_ _|refine Ext.CS ?_ _
theorem UN(a:H)(x:Vl):K8 329 [S a,vl x] h (vl (Q3 a x)):=by
 refine eF Tryz.func329 ?_;unfold Q3;cases c1:a==[45]
 ·cases c2:a==[33]
  ·simp only[go_sem,V,c1,c2]
   try refine⟨J,?_⟩
   repeat first|exact Ext.refl _|refine Ext.CR ?_ _|refine Ext.CS ?_ _
  cases f:x.k==2
  ·simp only[go_sem,V,c1,c2,f]
   try refine⟨J,?_⟩
   repeat first|exact Ext.refl _|refine Ext.CR ?_ _|refine Ext.CS ?_ _
  simp only[go_sem,V,c1,c2,f];refine Aa (EN _) ?_;rintro _ c d ⟨rfl,b⟩;have g:h.n+1<c.n:=d;have e:=(b (h.n+1) (a_ _)).trans (Ae _);simp only[go_sem,V,e]
  try refine⟨J,?_⟩
  repeat first|exact b.Cb.Cb|exact Ext.refl _|refine Ext.CR ?_ _|refine Ext.CS ?_ _
 cases f:x.k==1
 ·have c2:(a==[33])=false:=by have:=eq_of_beq c1;subst this;rfl
  simp only[go_sem,V,c1,f,c2]
  try refine⟨J,?_⟩
  repeat first|exact Ext.refl _|refine Ext.CR ?_ _|refine Ext.CS ?_ _
 simp only[go_sem,V,c1,f];refine Aa (GY _) ?_;rintro _ c d ⟨rfl,b⟩;have g:h.n+1<c.n:=d;have e:=(b (h.n+1) (a_ _)).trans (Ae _);simp only[go_sem,V,e]
 try refine⟨J,?_⟩
 repeat first|exact b.Cb.Cb|exact Ext.refl _|refine Ext.CR ?_ _|refine Ext.CS ?_ _
theorem Apk(j:H)(x y:Vl)(r:x.ok)(s:y.ok):K8 328 [S j,vl x,vl y] h (.tuple #[vl (TQ j x y).1,I (TQ j x y).2]):=by
 refine eF Tryz.func328 ?_;unfold TQ;cases e:x.k==y.k
 ·simp only[go_sem,V,e]
  try refine⟨J,?_⟩
  repeat first|exact Ext.refl _|refine Ext.CR ?_ _|refine Ext.CS ?_ _
 cases f:decide (1≤x.k)
 ·simp only[go_sem,V,e,f]
  try refine⟨J,?_⟩
  repeat first|exact Ext.refl _|refine Ext.CR ?_ _|refine Ext.CS ?_ _
 cases g:decide (x.k≤4)
 ·simp only[go_sem,V,e,f,g]
  try refine⟨J,?_⟩
  repeat first|exact Ext.refl _|refine Ext.CR ?_ _|refine Ext.CS ?_ _
 cases c1:j==[61,61]
 ·cases c2:j==[33,61]
  ·cases l:x.k==1
   ·cases o:x.k==2
    ·cases q:x.k==3
     ·simp only[go_sem,V,e,f,g,c1,c2,l,o,q]
      try refine⟨J,?_⟩
      repeat first|exact Ext.refl _|refine Ext.CR ?_ _|refine Ext.CS ?_ _
     simp only[go_sem,V,e,f,g,c1,c2,l,o,q];refine Aa (Afe _ _ _ r.sl s.sl) ?_;rintro _ b c ⟨rfl,a⟩;have i:h.n+2<b.n:=c;have d:=(a (h.n+2) (a_ _)).trans (Ae _);simp only[go_sem,V,d]
     try refine⟨J,?_⟩
     repeat first|exact a.Cb.Cb.Cb|exact Ext.refl _|refine Ext.CR ?_ _|refine Ext.CS ?_ _
    simp only[go_sem,V,e,f,g,c1,c2,l,o];refine Aa (Ao5 _ _ _) ?_;rintro _ b c ⟨rfl,a⟩;have i:h.n+2<b.n:=c;have d:=(a (h.n+2) (a_ _)).trans (Ae _);simp only[go_sem,V,d]
    try refine⟨J,?_⟩
    repeat first|exact a.Cb.Cb.Cb|exact Ext.refl _|refine Ext.CR ?_ _|refine Ext.CS ?_ _
   simp only[go_sem,V,e,f,g,c1,c2,l];refine Aa (Xs _ _ _) ?_;rintro _ b c ⟨rfl,a⟩;have i:h.n+2<b.n:=c;have d:=(a (h.n+2) (a_ _)).trans (Ae _);simp only[go_sem,V,d]
   try refine⟨J,?_⟩
   repeat first|exact a.Cb.Cb.Cb|exact Ext.refl _|refine Ext.CR ?_ _|refine Ext.CS ?_ _
  cases l:x.a !=y.a
  ·simp only[go_sem,V,e,f,g,c1,c2,l]
   refine Aa (EN _) ?_;rintro _ b c ⟨rfl,a⟩;have i:h.n+2<b.n:=c;have d:=(a (h.n+2) (a_ _)).trans (Ae _);simp only[go_sem,V,d]
   try refine⟨J,?_⟩
   repeat first|exact a.Cb.Cb.Cb|exact Ext.refl _|refine Ext.CR ?_ _|refine Ext.CS ?_ _
  simp only[go_sem,V,e,f,g,c1,c2,l];refine Aa (EN _) ?_;rintro _ b c ⟨rfl,a⟩;have i:h.n+2<b.n:=c;have d:=(a (h.n+2) (a_ _)).trans (Ae _);simp only[go_sem,V,d]
  try refine⟨J,?_⟩
  repeat first|exact a.Cb.Cb.Cb|exact Ext.refl _|refine Ext.CR ?_ _|refine Ext.CS ?_ _
 cases l:x.a==y.a
 ·simp only[go_sem,V,e,f,g,c1,l]
  refine Aa (EN _) ?_;rintro _ b c ⟨rfl,a⟩;have i:h.n+2<b.n:=c;have d:=(a (h.n+2) (a_ _)).trans (Ae _);simp only[go_sem,V,d]
  try refine⟨J,?_⟩
  repeat first|exact a.Cb.Cb.Cb|exact Ext.refl _|refine Ext.CR ?_ _|refine Ext.CS ?_ _
 simp only[go_sem,V,e,f,g,c1,l];refine Aa (EN _) ?_;rintro _ b c ⟨rfl,a⟩;have i:h.n+2<b.n:=c;have d:=(a (h.n+2) (a_ _)).trans (Ae _);simp only[go_sem,V,d]
 try refine⟨J,?_⟩
 repeat first|exact a.Cb.Cb.Cb|exact Ext.refl _|refine Ext.CR ?_ _|refine Ext.CS ?_ _
theorem Kf{n:Int}(a: -9223372036854775808≤n)(b:n<9223372036854775808):(HU n).ok:=⟨a,b,p_ _⟩
theorem Ahg(n:Int):(HU (wr n)).ok:=⟨(Aqf n).1,(Aqf n).2,p_ _⟩
theorem JD(a:Bool):(Kw a).ok:=by cases a<;>exact⟨by decide,by decide,p_ _⟩
theorem Jb(k:Int):(vz k).ok:=⟨(by decide:(-9223372036854775808:Int)≤0),(by decide:(0:Int)<9223372036854775808),p_ _⟩
theorem Ack(a:H)(x y:Int):(Mr a x y).1.ok:=by unfold Mr;cases a==[60]<;>cases a==[60,61]<;>simp only[Aa9,Acf]<;>first|exact JD _|exact Jb _
theorem Y7(x y:Int)(h:0≤x):0≤x.tmod y∧x.tmod y≤x:=by
 refine⟨Int.tmod_nonneg y h,?_⟩;have a:=Int.natAbs_tmod x y;have b:(x.tmod y).natAbs≤x.natAbs:=by rw[a];exact Nat.mod_le _ _
 omega
theorem Y8(x y:Int)(b: -9223372036854775808≤x)(c:x<9223372036854775808): -9223372036854775808≤x.tmod y∧x.tmod y<9223372036854775808:=by
 by_cases h:0≤x
 ·have:=Y7 x y h
  omega
 have a:=Y7 (-x) y (by omega);rw[Int.neg_tmod]at a;omega
theorem Amn(a:H)(x y:Int)(b: -9223372036854775808≤x)(c:x<9223372036854775808):(Acn a x y).1.ok:=by
 unfold Acn;cases a==[43]<;>cases a==[45]<;>cases a==[42]<;>cases a==[47]<;>cases a==[37]<;>cases d:y==0<;>simp only[Aa9,Acf]<;>first
  |exact Ahg _
  |exact Jb _
  |exact Ack _ _ _
  |skip
 all_goals exact Kf (Y8 x y b c).1 (Y8 x y b c).2
theorem Ahi(a:H)(x y:Bool):(R2 a x y).1.ok:=by unfold R2;cases a==[124,124]<;>cases a==[38,38]<;>simp only[Aa9,Acf]<;>first|exact JD _|exact Jb _
theorem Ahh(a x y:H):(QT a x y).1.ok:=by
 unfold QT;cases a==[43]<;>cases b:decide (40<(x.length:Int)+y.length)<;>simp only[Aa9,Acf]<;>first
  |exact Jb _
  |(refine⟨(by decide:(-9223372036854775808:Int)≤0),(by decide:(0:Int)<9223372036854775808),?_⟩
    have:=Adh b;simp only[Y];omega)
theorem Amo(a:H)(x y:Vl)(b:x.ok)(c:y.ok):(TQ a x y).1.ok:=by
 unfold TQ;cases x.k==y.k<;>cases decide (1≤x.k)<;>cases decide (x.k≤4)<;>simp only[Aa9,Acf]<;>first
  |exact Jb _
  |skip
 cases a==[61,61]<;>cases a==[33,61]<;>simp only[Aa9,Acf]<;>first
  |exact JD _
  |skip
 cases x.k==1<;>cases x.k==2<;>cases x.k==3<;>simp only[Aa9,Acf]<;>first
  |exact Jb _
  |exact Amn _ _ _ b.lo b.hi
  |exact Ahi _ _ _
  |exact Ahh _ _ _
theorem Vc(a:H)(x:Vl):(Q3 a x).ok:=by
 unfold Q3;cases a==[45]<;>cases x.k==1<;>cases a==[33]<;>cases x.k==2<;>simp only[Aa9,Acf]<;>first
  |exact Ahg _
  |exact JD _
  |exact Jb _
end
structure Hs where
 cells:List Int
 ends:List Nat
def Hs.fr(s:Hs):Nat→Nat
 |0=>0
 |a+1=>s.ends.getD a 0
def Hs.to(s:Hs)(a:Nat):Nat:=s.ends.getD a 0
structure Hs.ok(s:Hs):Prop where
 inc:∀i,i<s.ends.length→s.fr i≤s.to i
 le:∀i,i<s.ends.length→s.to i≤s.cells.length
 sm:s.cells.length+s.ends.length≤40
 rg:∀x∈s.cells,-9223372036854775808≤x∧x<9223372036854775808
def Ro(h:AH)(c:i_)(a:List Int)(e:List Nat):Prop:=(a=[]∧c=.slice M 0 0∧e=[])∨(∃b,c=.slice (T ⟨b,0,M⟩) a.length 1∧e=[b]∧h.get b=T (.cells (a.map I)))
theorem Ro.lt{h:AH}(c:Ro h v q p)(e:Wh h):∀a∈p,a<h.n:=by
 rcases c with⟨_,_,rfl⟩|⟨i,_,rfl,f⟩
 ·intro a b;cases b
 intro a b;rcases d_.1 b with rfl;exact e _ _ f
theorem Ro.same{h h1:AH}(a:Ro h v q p)(e:∀b∈p,h1.get b=h.get b):Ro h1 v q p:=by
 rcases a with a|⟨c,f,rfl,i⟩
 ·exact .inl a
 exact .inr ⟨c,f,J,(e c (d_.2 J)).trans i⟩
def Hs.Gt(s:Hs):List Int:=s.ends.map Int.ofNat
def Hs.base(id:Int)(s:Hs)(d:i_):i_:=
 cond (decide (id<1)) (.slice M 0 0) (cond (decide ((s.ends.length:Int)<id)) (.slice M 0 0) (match d with
  |.slice a _ b=>.slice (QG (s.fr (id-1).toNat*1) a) (s.to (id-1).toNat-s.fr (id-1).toNat) b
  |_=>.slice M 0 0))
section
variable{h:AH}{hb:Nat}{d m:Value}{g b2:List Nat}{s:Hs}
theorem NO(q:Wh h)(c:h.get hb=T (.cells [d,m]))(r:Ro h d s.cells g)(w:Ro h m s.Gt b2)(t:s.ok)(id:Int)(P: -9223372036854775808≤id)(a0:id<9223372036854775808):
  AR 175 [AA hb,I id] h (fun a b=>a=s.base id d∧b=h):=by
 have a1:=q _ _ c;have l:s.Gt.length=s.ends.length:=by simp[Hs.Gt]
 refine eF Tryz.func175 ?_;unfold Hs.base;cases c1:decide (id<1)
 ·have hid:=Adh c1
  obtain⟨a,rfl⟩:∃a:Nat,id=a+1:=⟨(id-1).toNat,by omega⟩;rcases w with⟨x,rfl,rfl⟩|⟨a2,rfl,rfl,i⟩
  ·have b:s.ends.length=0:=by rw[←l,x];rfl
   have c2:decide (((0:Nat):Int)<(a:Int)+1)=true:=Gu;have c3:decide ((s.ends.length:Int)<(a:Int)+1)=true:=by rw[b];exact c2
   rw[c3];simp only[go_sem,V,c,c1,c2];done
  cases c2:decide ((s.ends.length:Int)<(a:Int)+1)
  ·rw[←l]at c2
   have n:a<s.ends.length:=by have:=Adh c2;omega
   have j:a<s.Gt.length:=by omega
   have e:nth? (s.Gt.map I) a=T (I (s.to a:Nat)):=by refine DU ?_;unfold Hs.Gt Hs.to;rw[L_,f_,c_ n];rfl
   have a3:=q _ _ i;have k:l_ .i64 ((a:Int)+1-1)=a:=by rw[Ap]<;>omega
   have f:=t.le a n;have y:=t.inc a n;have z:((a:Int)+1-1).toNat=a:=by omega
   rw[z];cases a with
   |zero=>
    have c3:decide ((1:Int)<((0:Nat):Int)+1)=false:=by decide
    have b:s.fr 0=0:=J;rw[b];rcases r with⟨o,rfl,rfl⟩|⟨A,rfl,rfl,F⟩
    ·have:s.to 0=0:=by rw[o]at f;simpa using f
     rw[this]at e⊢;simp only[go_sem,V,c,c1,c2,c3,j,i,e,k,QG,J_];done
    simp only[go_sem,V,c,c1,c2,c3,j,i,e,k,p_,f,e_,QG,J_];done
   |succ b=>
    have c3:decide ((1:Int)<((b+1:Nat):Int)+1)=true:=Gu;have u:l_ .i64 (((b+1:Nat):Int)+1-2)=b:=by rw[Ap]<;>omega
    have K:b<s.ends.length:=by omega
    have v:b<s.Gt.length:=by omega
    have p:nth? (s.Gt.map I) b=T (I (s.fr (b+1):Nat)):=by refine DU ?_;unfold Hs.Gt;rw[L_];show(s.ends[b]?).map Int.ofNat=T ((s.ends.getD b 0:Nat):Int);rw[f_,c_ K];rfl
    rcases r with⟨o,rfl,rfl⟩|⟨A,rfl,rfl,F⟩
    ·have L:s.to (b+1)=0:=by rw[o]at f;simpa using f
     have N:s.fr (b+1)=0:=by omega
     rw[L]at e⊢;rw[N]at p⊢;simp only[go_sem,V,c,c1,c2,c3,j,v,i,e,p,k,u,QG,J_];done
    simp only[go_sem,V,c,c1,c2,c3,j,v,i,e,p,k,u,y,f,e_,QG,J_];done
  rw[←l]at c2;simp only[go_sem,V,c,c1,c2];done
 simp only[go_sem,V,c1];done
def Hs.Ii(s:Hs)(id:Int):Nat:=cond (decide (id<1)) 0 (cond (decide ((s.ends.length:Int)<id)) 0 (s.to (id-1).toNat-s.fr (id-1).toNat))
theorem Ro.slice{h:AH}(a:Ro h v q p):∃b c,v=.slice b q.length c:=by
 rcases a with⟨rfl,rfl,_⟩|⟨e,rfl,_⟩
 ·exact⟨M,0,J⟩
 exact⟨_,_,J⟩
theorem K5(c:Ro h d s.cells g)(id:Int):∃a b,s.base id d=.slice a (s.Ii id) b:=by
 obtain⟨a,b,rfl⟩:=c.slice;unfold Hs.base Hs.Ii;cases decide (id<1)
 ·cases decide ((s.ends.length:Int)<id)
  ·exact⟨_,_,J⟩
  exact⟨M,0,J⟩
 exact⟨M,0,J⟩
theorem ZS(a:s.ok)(id:Int):s.Ii id≤s.cells.length:=by
 unfold Hs.Ii;cases c1:decide (id<1)
 ·cases c2:decide ((s.ends.length:Int)<id)
  ·have b:=Adh c1
   have c:=Adh c2;have:=a.le (id-1).toNat (by omega);show s.to (id-1).toNat-s.fr (id-1).toNat≤_;omega
  exact p_ _
 exact p_ _
theorem Aau(j:Ro h d s.cells g)(c:s.ok)(id:Int)(e:Nat)(a:e<s.Ii id):∃b f,d=.slice (T ⟨b,0,M⟩) s.cells.length 1∧g=[b]∧h.get b=T (.cells (s.cells.map I))∧f=s.fr (id-1).toNat∧
  s.base id d=.slice (T ⟨b,f,M⟩) (s.Ii id) 1∧f+e<s.cells.length:=by
 have i:=ZS c id;rcases j with⟨k,_,_⟩|⟨b,rfl,rfl,hb⟩
 ·rw[k]at i;simp only[Z]at i;omega
 refine⟨b,_,J,J,hb,J,?_,?_⟩
 ·revert a
  unfold Hs.base Hs.Ii;cases decide (id<1)
  ·cases decide ((s.ends.length:Int)<id)
   ·intro _
    simp only[Acf,QG,J_,Nat.mul_one]
   intro a;cases a
  intro a;cases a
 revert a;unfold Hs.Ii;cases c1:decide (id<1)
 ·cases c2:decide ((s.ends.length:Int)<id)
  ·have l:=Adh c1
   have n:=Adh c2;have:=c.le (id-1).toNat (by omega);have:=c.inc (id-1).toNat (by omega);intro a;change e<s.to (id-1).toNat-s.fr (id-1).toNat at a;omega
  intro a;cases a
 intro a;cases a
def Hs.get(s:Hs)(id i:Int):Int×Int:=cond (cond (decide (i<0)) true (decide ((s.Ii id:Int)≤i))) (0,2) (s.cells.getD (s.fr (id-1).toNat+i.toNat) 0,0)
def Hs.put(s:Hs)(id a b:Int):Hs×Int:=cond (cond (decide (a<0)) true (decide ((s.Ii id:Int)≤a))) (s,2) (⟨s.cells.set (s.fr (id-1).toNat+a.toNat) b,s.ends⟩,0)
def Hs.make(s:Hs)(a:Int):Hs×Int×Int:=
 cond (cond (decide (a<0)) true (decide (16<a))) (s,0,7)
  (cond (decide (40<(s.ends.length:Int)+s.cells.length+a+1)) (s,0,4)
   (⟨s.cells++List.replicate a.toNat 0,s.ends++[s.cells.length+a.toNat]⟩,(s.ends.length+1:Nat),0))
theorem An8(b:Wh h)(c:h.get hb=T (.cells [d,m]))(a:Ro h d s.cells g)(e:Ro h m s.Gt b2)(f:s.ok)(id:Int)(i: -9223372036854775808≤id)(j:id<9223372036854775808):
  AR 330 [AA hb,I id] h (fun k l=>k=I (s.Ii id)∧l=h):=by
 obtain⟨l,n,k⟩:=K5 a id;refine eF Tryz.func330 ?_;simp only[go_sem,V];refine Aa (NO b c a e f id i j) ?_;rintro _ _ _ ⟨rfl,rfl⟩;rw[k];simp only[go_sem];done
theorem An9(f:Wh h)(l:h.get hb=T (.cells [d,m]))(c:Ro h d s.cells g)(n:Ro h m s.Gt b2)(i:s.ok)(id a:Int)(o: -9223372036854775808≤id)(p:id<9223372036854775808):
  AR 331 [AA hb,I id,I a] h (fun b e=>b=.tuple #[I (s.get id a).1,I (s.get id a).2]∧e=h):=by
 obtain⟨t,u,e⟩:=K5 c id;refine eF Tryz.func331 ?_;simp only[go_sem,V];refine Aa (NO f l c n i id o p) ?_;rintro _ _ _ ⟨rfl,rfl⟩;unfold Hs.get;cases c1:decide (a<0)
 ·cases c2:decide ((s.Ii id:Int)≤a)
  ·have v:=Adh c1
   have w:=Adh c2;obtain⟨b,rfl⟩:∃b:Nat,a=b:=⟨a.toNat,by omega⟩;have j:b<s.Ii id:=by omega
   obtain⟨x,y,rfl,rfl,k,rfl,e,q⟩:=Aau c i id b j;have r:nth? (s.cells.map I) (s.fr (id-1).toNat+b)=T (I (s.cells.getD (s.fr (id-1).toNat+b) 0)):=by refine DU ?_;rw[f_,c_ q];rfl
   have z:=f _ _ k;rw[e,M_];simp only[go_sem,V,c1,c2,j,k,r];done
  rw[e];simp only[go_sem,V,c1,c2];done
 simp only[go_sem,V,c1];done
end
def HpR(hb:Nat)(s:Hs)(g:List Nat)(h:AH):Prop:=
 ∃c e a b,g=hb::(a++b)∧(hb::(a++b)).Nodup∧h.get hb=T (.cells [c,e])∧Ro h c s.cells a∧Ro h e s.Gt b∧s.ok
def WD(hb:Nat):Kd Hs where
 R s g h:=HpR hb s g h
 lt:=by
  rintro s g h e ⟨j,k,l,m,rfl,_,a,f,i,_⟩ c b;rcases m_.1 b with rfl|b
  ·exact e _ _ a
  rcases h_.1 b with b|b
  ·exact f.lt e c b
  exact i.lt e c b
 same:=by rintro s g h o ⟨j,k,l,m,rfl,e,a,f,i,n⟩ b;exact⟨j,k,l,m,rfl,e,(b _ (by simp)).trans a,f.same fun c a=>b c (by simp[a]),i.same fun c a=>b c (by simp[a]),n⟩
theorem UG(e:Int→i_):∀(a:List Int) (b:Nat) (c:Int),b<a.length→spl? (a.map e) b [e c]=T ((a.set b c).map e)
 |[],_,_,h=>by cases h
 |y::a,0,c,_=>by simp only[aq_,List.set,DJ,GD,F4,EU]
 |y::a,b+1,c,h=>by
  simp only[aq_,List.set,DK,UG e a b c (by simpa using h),EU]
theorem At2:Z2 (pr.CY 3)=true:=by kernel_rfl
theorem Aze:AX pr 22=T 3:=by kernel_rfl
theorem Awa:pr.size 3=T 1:=by kernel_rfl
theorem Agt:∀n,DZ (Aq (I 0)) n=(List.replicate n (0:Int)).map I
 |0=>rfl
 |n+1=>by
  show Aq (I 0)++DZ (Aq (I 0)) n=_;rw[Agt n];rfl
theorem Ag6{a e:Type}(b:a)(c:a→Option e):opt (T b) c=c b:=rfl
theorem Ard{b:Type}(a c:b):Av true a c=a:=rfl
section
variable{h:AH}
theorem TS(f:V_)(c:Option Addr)(b e a:Nat)(i:b+a≤1000000):
  Bx pr h .append [22,3] f [.slice c b e,I a]=CB h 1 c b e ((List.replicate a (0:Int)).map I) a:=by
 have j:Bx pr h .append [22,3] f [.slice c b e,I a]=Mc pr h [22,3] (.slice c b e) (.int .i64 (Int.ofNat a)):=nr J;rw[j];unfold Mc;dsimp only;have k:(A_ 1 1&&A_ 1 1000&&A_ (b+a) 1000000)=true:=by rw[O_ i];decide
 rw[At2,Ard,Aze,Ag6,Awa,Ag6,Ul,Ag6];rw[k,Ard,Agt]
theorem OW:∀a:List Int,By (a.map I)=true
 |[]=>rfl
 |_::a=>OW a
theorem Aez(k:Wh h){f:List Nat}(l:Ro h v q f)(a:Nat)(n:q.length+a≤1000)(o:V_):
  ∃i j c m,Bx pr h .append [22,3] o [v,I a]=T (.slice i (q.length+a) j,c)∧Ro c (.slice i (q.length+a) j) (q++List.replicate a 0) m∧Wh c∧h.n≤c.n∧(∀b,b<h.n→b∉f→c.get b=h.get b)∧((m=f∧c=h)∨(∃e,m=[e]∧h.n≤e)):=by
 rcases ai_ a with rfl|m
 ·obtain⟨i,j,c⟩:=l.slice
  refine⟨i,j,h,f,?_,?_,k,e_ _,fun _ _ _=>rfl,.inl ⟨J,J⟩⟩
  ·rw[c,TS _ _ _ _ _ (by omega)]
   rfl
  rw[List.replicate_zero,ap_,Nat.add_zero,←c];exact l
 rcases l with⟨rfl,rfl,rfl⟩|⟨e,rfl,rfl,hb⟩
 ·refine⟨T ⟨h.n,0,M⟩,1,_,[h.n],?_,.inr ⟨h.n,?_,J,Ae _⟩,k.new _,z_ _,fun b i _=>An _ (AE i),.inr ⟨_,J,e_ _⟩⟩
  ·rw[TS _ _ _ _ _ (by simp only[Z]at n;omega)]
   rw[T1 m (by simp only[Z]at n;omega) (by omega) (by omega) (OW _) (by simp)];simp
  simp
 refine⟨T ⟨h.n,0,M⟩,1,(h.del e).new (.cells ((q++List.replicate a 0).map I)),[h.n],?_,.inr ⟨h.n,?_,J,Ae _⟩,(k.del _).new _,z_ _,fun b i j=>?_,.inr ⟨_,J,e_ _⟩⟩
 ·rw[TS _ _ _ _ _ (by omega)]
  rw[HH hb (by simp) m (by omega) (by omega) (by omega) (OW _) (by simp)];simp
 ·simp
 have:(b==e)=false:=Ag fun c=>j (by simp[c]);exact(An (h:=h.del e) _ (AE i)).trans (CL this)
theorem Hs.ok.make{s:Hs}(ok:s.ok)(b:Nat)(m:s.cells.length+s.ends.length+b+1≤40):(⟨s.cells++List.replicate b 0,s.ends++[s.cells.length+b]⟩:Hs).ok:=by
 have e:∀a,a<s.ends.length→(⟨s.cells++List.replicate b 0,s.ends++[s.cells.length+b]⟩:Hs).to a=s.to a:=fun a c=>by
  show(s.ends++[s.cells.length+b]).getD a 0=s.ends.getD a 0;rw[f_,f_,I_ c]
 have j:∀a,a≤s.ends.length→(⟨s.cells++List.replicate b 0,s.ends++[s.cells.length+b]⟩:Hs).fr a=s.fr a:=fun a c=>by
  cases a with
  |zero=>rfl
  |succ f=>exact e f c
 have i:(⟨s.cells++List.replicate b 0,s.ends++[s.cells.length+b]⟩:Hs).to s.ends.length=s.cells.length+b:=by show(s.ends++[s.cells.length+b]).getD s.ends.length 0=_;rw[f_,R_ (e_ _),Nat.sub_self];rfl
 have n:s.fr s.ends.length≤s.cells.length:=by
  cases h:s.ends.length with
  |zero=>exact p_ _
  |succ f=>exact ok.le f (by omega)
 refine⟨fun a c=>?_,fun a c=>?_,?_,fun k l=>?_⟩
 ·rw[Y,W,Z]at c
  rw[j a (by omega)];by_cases h:a<s.ends.length
  ·rw[e a h];exact ok.inc a h
  obtain rfl:a=s.ends.length:=by omega
  rw[i];omega
 ·rw[Y,W,Z]at c
  simp only[Y,D_];by_cases h:a<s.ends.length
  ·rw[e a h];have:=ok.le a h;omega
  obtain rfl:a=s.ends.length:=by omega
  rw[i];omega
 ·simp only[Y,D_,W,Z];omega
 rcases h_.1 l with f|f
 ·exact ok.rg k f
 rw[X_ f];omega
section
variable{hb:Nat}{p h0:AH}{d g:List Nat}{s:Hs}
theorem An6(a:Hr (WD hb) p h0 d h g s)(id b c:Int)(w: -9223372036854775808≤c)(x:c<9223372036854775808)(y: -9223372036854775808≤id)(z:id<9223372036854775808):
  AR 332 [AA hb,I id,I b,I c] h (Jn (WD hb) p h0 d h g (s.put id b c).1 (I (s.put id b c).2)):=by
 refine a.walk fun a=>?_;obtain⟨a5,A,a6,F,q,i,j,l,r,e⟩:=a.r;obtain⟨a7,a8,m⟩:=K5 l id;refine eF Tryz.func332 ?_;simp only[go_sem,V];refine Aa (NO a.w j l r e id y z) ?_;rintro _ _ _ ⟨rfl,rfl⟩;unfold Hs.put;cases c1:decide (b<0)
 ·cases c2:decide ((s.Ii id:Int)≤b)
  ·have a9:=Adh c1
   have aa:=Adh c2;obtain⟨k,rfl⟩:∃k:Nat,b=k:=⟨b.toNat,by omega⟩;have t:k<s.Ii id:=by omega
   obtain⟨n,ab,rfl,rfl,u,rfl,m,K⟩:=Aau l e id k t;have L:=UG I s.cells _ c K;have N:=a.w _ _ u;rw[m,M_];simp only[go_sem,V,c1,c2,t,u,L];have P:(hb==n)=false:=Ag fun f=>by subst f;simp at i
   refine⟨g,a.MZ (Ar a.w N _) (e_ _) ⟨_,A,[n],F,q,i,(Ab _ P).trans j,.inr ⟨n,by rw[H_],J,Ai _ _⟩,r.same fun v a0=>Ab _ (Ag fun f=>?_),⟨e.inc,fun b a1=>?_,?_,fun a2 a3=>?_⟩⟩ (fun v j=>.inl j) fun v _ a4=>Ab _ (Ag fun f=>a4 (by rw[q];simp[f]))⟩
   ·subst f;simp at i;exact i.2.1 a0
   ·rw[H_];exact e.le b a1
   ·rw[H_];exact e.sm
   rcases U_ a3 with o|o
   ·exact e.rg a2 o
   rw[o];exact⟨w,x⟩
  rw[m];simp only[go_sem,V,c1,c2];exact⟨g,a⟩
 simp only[go_sem,V,c1];exact⟨g,a⟩
theorem Vo(r:Hr (WD hb) p h0 d h g s){v3:i_}{k o b:List Nat}{c nb:Nat}(q:g=hb::(k++o))(l:(hb::(k++o)).Nodup)(a0:hb<h.n)(e:s.cells.length+s.ends.length+c+1≤40)(t:s.ok)
  (u:Wh f) (v:h.n≤f.n) (w:f.get hb=T (.cells [v3,.slice (T ⟨nb,0,M⟩) (s.ends.length+1) 1])) (x:Ro f v3 (s.cells++List.replicate c 0) b)
  (y:f.get nb=T (.cells (s.Gt.map I++[I (s.cells.length+c:Nat)]))) (m:b=k∨(∃i,b=[i]∧h.n≤i)) (z:h.n≤nb) (A:nb∉b) (n:∀j,j<h.n→j∉g→f.get j=h.get j):
  ∃g1,Hr (WD hb) p h0 d f g1 ⟨s.cells++List.replicate (c:Int).toNat 0,s.ends++[s.cells.length+(c:Int).toNat]⟩:=by
 rw[M_];have a1:s.Gt.length=s.ends.length:=by simp[Hs.Gt]
 have F:hb∉b:=by
  rcases m with rfl|⟨i,rfl,hb⟩
  ·intro e;simp[e]at l
  intro e;rcases d_.1 e with rfl;omega
 have K:b.Nodup:=by
  rcases m with rfl|⟨i,rfl,hb⟩
  ·rw[j_,k_]at l;exact l.2.1
  simp
 refine⟨_,r.MZ (g1:=hb::(b++[nb])) u v ⟨_,_,b,[nb],J,?_,w,x,.inr ⟨nb,?_,J,?_⟩,t.make c e⟩ (fun j L=>?_) n⟩
 ·rw[j_,k_]
  refine⟨fun a=>?_,K,by simp,fun a2 n a3 N=>?_⟩
  ·rcases h_.1 a with a|a
   ·exact F a
   rcases d_.1 a with rfl;omega
  rcases d_.1 N with rfl
  intro P;subst P;exact A n
 ·simp[Hs.Gt]
 ·rw[y];simp[Hs.Gt]
 rcases m_.1 L with rfl|a
 ·exact .inl (by rw[q];simp)
 rcases h_.1 a with a|a
 ·rcases m with rfl|⟨i,rfl,hb⟩
  ·exact .inl (by rw[q];simp[a])
  rcases d_.1 a with rfl;exact .inr hb
 rcases d_.1 a with rfl;exact .inr z
theorem Am8(e:Hr (WD hb) p h0 d h g s)(k:Int)(ay: -9223372036854775808≤k)(az:k<9223372036854775808):
  AR 334 [AA hb,I k] h (Jn (WD hb) p h0 d h g (s.make k).1 (.tuple #[I (s.make k).2.1,I (s.make k).2.2])):=by
 refine e.walk fun e=>?_;obtain⟨aA,aB,ab,aC,t,j,z,ac,L,a2⟩:=e.r;have N:s.Gt.length=s.ends.length:=by simp[Hs.Gt]
 have aD:=a2.sm;have a3:=e.w _ _ z;unfold Hs.make;refine eF Tryz.func334 ?_;cases c1:decide (k<0)
 ·cases c2:decide (16<k)
  ·have P:=Adh c1
   have u:=Adh c2;obtain⟨i,rfl⟩:∃i:Nat,k=i:=⟨k.toNat,by omega⟩;simp only[go_sem,V,c1,c2];refine AM e.w 0x10000001100011000 ?_;obtain⟨aE,aF,a4⟩:=ac.slice;obtain⟨aG,aH,a0⟩:=L.slice;rw[N]at a0;have ak:l_ .i64 ((s.ends.length:Int)+s.cells.length)=(s.ends.length:Int)+s.cells.length:=by rw[Ap]<;>omega
   have al:l_ .i64 ((s.ends.length:Int)+s.cells.length+i)=(s.ends.length:Int)+s.cells.length+i:=by rw[Ap]<;>omega
   have am:l_ .i64 ((s.ends.length:Int)+s.cells.length+i+1)=(s.ends.length:Int)+s.cells.length+i+1:=by rw[Ap]<;>omega
   rw[a4,a0]at z;simp only[go_sem,V,z,ak,al,am];cases c3:decide (40<(s.ends.length:Int)+s.cells.length+i+1)
   ·have m:=Adh c3
    have aI:=a4;obtain⟨ad,ae,f,n,af,w,o,an,a1,ag⟩:=Aez e.w ac i (by omega) 22;rw[a4]at af;simp only[go_sem,V,z,af];rw[YX (O_ an)];have A:hb<f.n:=by omega
    have ah:=(a1 hb a3 (fun b=>by simp[b]at j)).trans z;simp only[go_sem,V,ah];have aJ:l_ .i64 ((s.cells.length+i:Nat):Int)=((s.cells.length+i:Nat):Int):=by rw[Ap]<;>omega
    refine AM (Ar o A _) 0x1300321100010000 ?_;have ao:=L.same (h1:=f) fun a l=>a1 a (L.lt e.w a l) fun b=>by
     simp only[j_,k_]at j;exact j.2.2.2 a b a l J
    rcases ao with⟨ai,F,x⟩|⟨K,F,x,aj⟩
    ·have a5:s.ends.length=0:=by rw[←N,ai];rfl
     rw[a0,a5]at F;injection F with a6 ap a7
     subst a6;subst a7;rw[a5]at ah⊢;simp only[go_sem,V,A];have a8:f.n+1∉n:=fun b=>by have:=w.lt o _ b;omega
     have y:n=ab∨∃r,n=[r]∧h.n≤r:=by rcases ag with⟨q,_⟩|q;exact .inl q;exact .inr q
     have a9:hb∉n:=by
      rcases y with rfl|⟨r,rfl,hb⟩
      ·intro b;simp[b]at j
      intro b;rcases d_.1 b with rfl;omega
     have aq:(hb==f.n+1)=false:=Ag;have aa:(f.n+1==hb)=false:=Ag;refine Vo e t j a3 (by omega) a2 (nb:=f.n+1) (v3:=.slice ad (s.cells.length+i) ae) (Ar (Am (Am (Ar o A _) _) _) (by simp only[go_sem];omega) _) (by simp only[go_sem];omega) (by rw[a5];exact Ai _ _) (w.same fun a l=>?_) ?_ y (by omega) a8 fun a P u=>?_
     ·have m:=w.lt o a l
      have v:(a==hb)=false:=Ag fun c=>a9 (by rw[←c];exact l);simp only[go_sem,m,v]
     ·rw[ai]
      simp only[go_sem,aa];rfl
     have m:a<f.n:=by omega
     have v:(a==hb)=false:=Ag fun c=>u (by rw[t];simp[c]);simp only[go_sem,m,v];exact a1 a P fun h=>u (by rw[t];simp[h])
    rw[a0,N]at F;injection F with a6 ap a7
    subst a6;subst a7;have ar:=o _ _ aj;have au:(K==hb)=false:=Ag fun c=>by subst c;simp[x]at j
    have av:(hb==K)=false:=Ag fun c=>by subst c;simp[x]at j
    have aw:A_ s.ends.length 999999=true:=Eg;have ax:sub? (s.Gt.map I) 0 s.ends.length=T (s.Gt.map I):=C2 (by rw[v_,N]);simp only[go_sem,V,A,aj,ar,au,av,aw,ax];have a8:f.n+1∉n:=fun b=>by have:=w.lt o _ b;omega
    have y:n=ab∨∃r,n=[r]∧h.n≤r:=by rcases ag with⟨q,_⟩|q;exact .inl q;exact .inr q
    have a9:hb∉n:=by
     rcases y with rfl|⟨r,rfl,hb⟩
     ·intro b;simp[b]at j
     intro b;rcases d_.1 b with rfl;omega
    have aq:(hb==f.n+1)=false:=Ag;have aa:(f.n+1==hb)=false:=Ag;have aK:(f.n+1==K)=false:=Ag;refine Vo e t j a3 (by omega) a2 (nb:=f.n+1) (v3:=.slice ad (s.cells.length+i) ae) (Ar (Am (Dm (Am (Ar o A _) _) _) _) (by simp only[go_sem];omega) _) (by simp only[go_sem];omega) (Ai _ _) (w.same fun a l=>?_) ?_ y (by omega) a8 fun a P u=>?_
    ·have m:=w.lt o a l
     have v:(a==hb)=false:=Ag fun c=>a9 (by rw[←c];exact l);have a5:(a==K)=false:=Ag fun c=>by
      subst c;rcases y with rfl|⟨r,rfl,hb⟩
      ·simp only[x,j_,k_]at j
       exact j.2.2.2 a l a (by simp) J
      rcases d_.1 l with rfl
      have:=L.lt e.w a (by rw[x];simp);omega
     simp only[go_sem,m,v,a5]
    ·simp only[go_sem,aa]
    have m:a<f.n:=by omega
    have v:(a==hb)=false:=Ag fun c=>u (by rw[t];simp[c]);have a5:(a==K)=false:=Ag fun c=>u (by rw[t,x];simp[c]);simp only[go_sem,m,v,a5];exact a1 a P fun h=>u (by rw[t];simp[h])
   simp only[go_sem,V];exact⟨g,e⟩
  simp only[go_sem,V,c1,c2];exact⟨g,e⟩
 simp only[go_sem,V,c1];exact⟨g,e⟩
end
end
def AL:List Vl→E
 |[]=>[]
 |x::a=>I x.k::I x.a::S x.s::AL a
theorem EZ:∀(a b:List Vl),AL (a++b)=AL a++AL b
 |[],_=>rfl
 |c::a,b=>by simp[AL,EZ a b]
theorem Ck:∀a:List Vl,(AL a).length=a.length*3
 |[]=>rfl
 |b::a=>by simp[AL,Ck a];omega
theorem GI:∀(c:List Vl) (e:E) (b:Nat) (a:Vl),c[b]? =T a→sub? (AL c++e) (b*3) 3=T [I a.k,I a.a,S a.s]
 |[],_,_,_,h=>by cases h
 |x::c,e,0,a,h=>by
  cases h;rw[Nat.zero_mul,BK,Bn (by simp[AL])];rfl
 |x::c,e,b+1,a,h=>by
  have i:=GI c e b a (by simpa using h);rw[show(b+1)*3=b*3+1+1+1 by omega];exact i
theorem MX:∀(a:List Vl) (b:Nat) (c:Vl),b<a.length→spl? (AL a) (b*3) [I c.k,I c.a,S c.s]=T (AL (a.set b c))
 |[],_,_,h=>by cases h
 |q::a,0,c,h=>by
  show spl? (AL (q::a)) 0 _=_;simp only[AL,DJ,GD,F4,EU,List.set]
 |q::a,b+1,c,h=>by
  have e:=MX a b c (by simpa using h);rw[show(b+1)*3=b*3+1+1+1 by omega];simp only[AL,DK,e,EU,List.set]
theorem MY(a c:List Vl)(b:E):sub? (AL a++b) 0 (a.length*3)=T (AL a):=by rw[BK,Bn (by simp[Ck])];rw[←Ck,ab_];rfl
structure Cf where
 AI:List Vl
 fn:Int
 pc:Int
 mark:Int
 Ac:List Vl
 sb:Nat
def Vp(h:AH)(c:i_)(a:List Vl)(e:List Nat):Prop:=(a=[]∧c=.slice M 0 0∧e=[])∨(∃b i,c=.slice (T ⟨b,0,M⟩) a.length 3∧e=[b]∧h.get b=T (.cells (AL a++i)))
def Vx(h:AH)(a:Nat)(c:i_)(b:List Vl)(e:List Nat):Prop:=c=.slice (T ⟨a,0,M⟩) b.length 3∧e=[a]∧h.get a=T (.cells (AL b))
structure Cf.ok(f:Cf):Prop where
 v:∀x∈f.AI,x.ok
 s:∀x∈f.Ac,x.ok
 vl:f.AI.length≤100000
def CfR(cb:Nat)(f:Cf)(g:List Nat)(h:AH):Prop:=
 ∃c e a b,g=cb::(a++b)∧(cb::(a++b)).Nodup∧h.get cb=T (.cells [c,I f.fn,I f.pc,I f.mark,e])∧Vp h c f.AI a∧Vx h f.sb e f.Ac b∧f.ok
theorem Vp.lt{h:AH}{c:List Vl}(e:Vp h v c p)(i:Wh h):∀a∈p,a<h.n:=by
 rcases e with⟨_,_,rfl⟩|⟨k,_,_,rfl,j⟩
 ·intro a b;cases b
 intro a b;rcases d_.1 b with rfl;exact i _ _ j
theorem Vp.same{h h1:AH}{b:List Vl}(a:Vp h v b p)(i:∀c∈p,h1.get c=h.get c):Vp h1 v b p:=by
 rcases a with a|⟨e,j,k,rfl,l⟩
 ·exact .inl a
 exact .inr ⟨e,j,k,J,(i e (d_.2 J)).trans l⟩
theorem Vx.lt{h:AH}{c:List Vl}(e:Vx h a v c p)(i:Wh h):∀b∈p,b<h.n:=by obtain⟨_,rfl,j⟩:=e;intro b k;rcases d_.1 k with rfl;exact i _ _ j
theorem Vx.same{h h1:AH}{b:List Vl}(e:Vx h a v b p)(i:∀c∈p,h1.get c=h.get c):Vx h1 a v b p:=by obtain⟨j,rfl,k⟩:=e;exact⟨j,J,(i a (d_.2 J)).trans k⟩
def Qh(cb:Nat):Kd Cf where
 R e g h:=CfR cb e g h
 lt:=by
  rintro e g h i ⟨l,m,n,p,rfl,_,a,j,k,_⟩ c b;rcases m_.1 b with rfl|b
  ·exact i _ _ a
  rcases h_.1 b with b|b
  ·exact j.lt i c b
  exact k.lt i c b
 same:=by rintro e g h r ⟨l,m,n,p,rfl,i,a,j,k,q⟩ b;exact⟨l,m,n,p,rfl,i,(b _ (by simp)).trans a,j.same fun c a=>b c (by simp[a]),k.same fun c a=>b c (by simp[a]),q⟩
section
variable{h:AH}{cb:Nat}{o h0:AH}{d g:List Nat}{f:Cf}
theorem Ajq(m:Hr (Qh cb) o h0 d h g f){n c:List Nat}{nb:Nat}{l:List Vl}{r:E}{b:AH}(k:g=cb::(n++c))(u:(cb::(n++c)).Nodup)(a1:cb<h.n)(p:Vx h f.sb v f.Ac c)(w:Wh b)(x:h.n≤b.n)
  (y:b.get cb=T (.cells [.slice (T ⟨nb,0,M⟩) l.length 3,I f.fn,I f.pc,I f.mark,v])) (z:b.get nb=T (.cells (AL l++r))) (A:h.n≤nb) (s:∀a,a<h.n→a≠cb→a∉n→b.get a=h.get a) (F:∀e∈l,e.ok) (K:l.length≤100000) (L:f.ok):
  ∃g1,Hr (Qh cb) o h0 d b g1 {f with AI:=l}:=by
 have i:=u;rw[j_,k_]at i;refine⟨_,m.MZ (g1:=cb::([nb]++c)) w x ⟨_,v,[nb],c,J,?_,y,.inr ⟨nb,r,J,J,z⟩,p.same fun a e=>s a (p.lt m.w a e) (fun j=>?_) (fun b=>?_),⟨F,L.s,K⟩⟩ (fun a e=>?_) fun a N t=>s a N (fun j=>t (by rw[k];simp[j])) (fun j=>t (by rw[k];simp[j]))⟩
 ·have P:nb∉c:=fun q=>by have:=p.lt m.w _ q;omega
  have a0:cb≠nb:=by omega
  simp only[ae_,j_,m_,not_or];refine⟨⟨a0,fun q=>i.1 (by simp[q])⟩,P,i.2.2.1⟩
 ·subst j;exact i.1 (by simp[e])
 ·exact i.2.2.2 a b a e J
 simp only[ae_,m_]at e;rcases e with rfl|rfl|b
 ·exact .inl (by rw[k];simp)
 ·exact .inr A
 exact .inl (by rw[k];simp[b])
theorem Ajr(n:Hr (Qh cb) o h0 d h g f){j m:List Vl}{c:AH}(q:f.AI=j++m)(t:g=cb::([a]++p))(u:(cb::([a]++p)).Nodup)(w:h.get a=T (.cells (AL f.AI++l)))(x:Vx h f.sb v f.Ac p)(y:Wh c)(z:h.n≤c.n)
  (A:c.get cb=T (.cells [.slice (T ⟨a,0,M⟩) j.length 3,I f.fn,I f.pc,I f.mark,v])) (e:∀b,b<h.n→b≠cb→c.get b=h.get b) (r:f.ok):
  ∃g1,Hr (Qh cb) o h0 d c g1 {f with AI:=j}:=by
 have s:=u;rw[j_]at s;have F:=n.w _ _ w;refine⟨g,n.MZ (g1:=g) y z ⟨_,v,[a],p,t,u,A,.inr ⟨a,AL m++l,J,J,?_⟩,x.same fun b k=>e b (x.lt n.w b k) (fun i=>?_),⟨fun K e=>r.v K (by rw[q];simp[e]),r.s,?_⟩⟩ (fun b k=>.inl k) fun b L N=>e b L fun i=>N (by rw[t];simp[i])⟩
 ·rw[e a F fun i=>s.1 (by simp[i]),w,q,EZ,o_]
 ·subst i;exact s.1 (by simp[k])
 have:=r.vl;rw[q,Y]at this;show j.length≤_;omega
theorem SH(a:Hr (Qh cb) o h0 d h g f)(c:Vl)(z:c.ok)(a2:f.AI.length<100000):AR 321 [AA cb,vl c] h (Jn (Qh cb) o h0 d h g {f with AI:=f.AI++[c]} (.tuple #[])):=by
 refine a.walk fun a=>?_;obtain⟨a3,a4,a5,a6,u,i,m,A,v,n⟩:=a.r;have j:=a.w _ _ m;have w:∀p∈f.AI++[c],p.ok:=fun p e=>by
  rcases h_.1 e with e|e
  ·exact n.v p e
  rcases d_.1 e with rfl;exact z
 refine eF Tryz.func321 ?_;simp only[go_sem];refine AM (a.w.new _) 0x130032110000 ?_;rcases A with⟨b,rfl,rfl⟩|⟨k,F,rfl,rfl,x⟩
 ·simp only[go_sem,V,m,j]
  have q:(h.n+2==cb)=false:=Ag;refine Ajq a (l:=f.AI++[c]) (r:=[]) (nb:=h.n+2) u i j v (Ar (Am (Am (Am a.w _) _) _) (by simp only[go_sem];omega) _) (by simp only[go_sem];omega) (by rw[b];exact Ai _ _) ?_ (by omega) (fun y s t _=>?_) w (by simp;omega) n
  ·rw[b]
   simp only[go_sem,q];rfl
  simp only[go_sem,s,Ag t]
 have K:A_ (f.AI.length+1) 1000000=true:=Eg;have L:=a.w _ _ x;have N:=MY f.AI [] F;have P:(cb==k)=false:=Ag fun b=>by subst b;simp at i
 have a7:(k==cb)=false:=Ag fun b=>by subst b;simp at i
 simp only[go_sem,V,m,j,K,x,L,N,P];have q:(h.n+2==cb)=false:=Ag;have a8:(h.n+2==k)=false:=Ag;refine Ajq a (l:=f.AI++[c]) (r:=[]) (nb:=h.n+2) u i j v (Ar (Am (Dm (Am (Am a.w _) _) _) _) (by simp only[go_sem];omega) _) (by simp only[go_sem];omega) (by rw[Y];exact Ai _ _) ?_ (by omega) (fun y s t a0=>?_) w (by simp;omega) n
 ·simp only[go_sem,q,EZ]
  rfl
 have a1:(y==k)=false:=Ag fun b=>a0 (by simp[b]);simp only[go_sem,s,Ag t,a1]
theorem ZV(c:Wh h)(e:CfR cb f g h){b:Vl}{a:List Vl}(i:f.AI=a++[b]):K8 335 [AA cb] h (vl b):=by
 obtain⟨v,w,x,y,z,A,j,m,F,n⟩:=e;have p:=c _ _ j;have K:f.AI.length=a.length+1:=by rw[i];simp
 have L:=n.vl;rcases m with⟨k,rfl,rfl⟩|⟨N,e,rfl,rfl,l⟩
 ·rw[i]at k;simp at k
 refine eF Tryz.func335 ?_;have q:=c _ _ l;have r:l_ .i64 ((f.AI.length:Int)-1)=a.length:=by rw[Ap]<;>omega
 have s:a.length<f.AI.length:=by omega
 have t:f.AI[a.length]? =T b:=by rw[i];simp
 have u:=GI f.AI e a.length b t;simp only[go_sem,V];refine AM (c.new _) 0x13100110001000 ?_;simp only[go_sem,V,j,p,r,s,l,q,u]
 try refine⟨J,?_⟩
 repeat first|exact Ext.refl _|refine Ext.CR ?_ _|refine Ext.CS ?_ _
theorem Agz(a:Hr (Qh cb) o h0 d h g f){i:Vl}{b:List Vl}(e:f.AI=b++[i]):AR 326 [AA cb] h (Jn (Qh cb) o h0 d h g {f with AI:=b} (vl i)):=by
 refine a.walk fun a=>?_;have j:=a.new (.cells [I 0,I 0,S []]);obtain⟨a6,a7,a8,a9,v,w,k,x,y,l⟩:=a.r;have aa:f.AI.length=b.length+1:=by rw[e];simp
 have ab:=l.vl;rcases x with⟨n,rfl,rfl⟩|⟨ac,ad,rfl,rfl,p⟩
 ·rw[e]at n;simp at n
 have z:=a.w _ _ k;have ae:=a.w _ _ p;refine eF Tryz.func326 ?_;simp only[go_sem,V];refine Aa (Ok.wf j.w (ZV j.w j.r e)) ?_;rintro _ c A ⟨q,rfl,r⟩;have af:h.n<c.n:=A;have s:=r.Cb;have F:=(r h.n (a_ _)).trans (Ae _);have K:=(s cb z).trans k;have L:cb<c.n:=by omega
 have N:l_ .i64 ((f.AI.length:Int)-1)=b.length:=by rw[Ap]<;>omega
 have P:b.length≤f.AI.length:=by omega
 have a0:(h.n==c.n)=false:=Ag;have a1:(c.n==cb)=false:=Ag;have a2:(h.n==cb)=false:=Ag;simp only[go_sem,V];refine AM (Ar (Am q _) (by simp only[go_sem]) _) 0x1300001100010000 ?_;simp only[go_sem,V,K,L,N,P,p_,e_,F,a0,a1,a2];rw[aj_];have a3:(cb==h.n)=false:=Ag;refine Ajr a (m:=[i]) e v w p y (Ar (Ar (Ar (Am q _) (by simp only[go_sem]) _) (by simp only[go_sem];omega) _) (by simp only[go_sem];omega) _) (by simp only[go_sem];omega) ?_ (fun t u a4=>?_) l
 ·simp only[go_sem,a3]
 have a5:t<c.n:=by omega
 simp only[go_sem,u,a5,Ag a4];exact s t u
theorem Tv{a B C:AO}{b:AH}(c:Ext (((h.new a).new B).put (h.n+1) C) b):Ext h b:=c.Lp (by omega) (by simp only[go_sem];omega) ((Ext.new h a).trans (z_ _) (Ext.new _ B))
theorem Ane(m:Wh h)(t:CfR cb f g h){b:Vl}(k:f.Ac[a]? =T b)(e:Int):K8 325 [AA cb,I a,I e] h (vl (cond (cond (b.k==e) b.may false) b (vz e))):=by
 obtain⟨L,N,P,a0,a1,a2,n,a3,⟨rfl,rfl,p⟩,u⟩:=t;have v:=m _ _ n;have w:=m _ _ p;have x:b.ok:=u.s b (F_ k);have y:a<f.Ac.length:=(g_.1 k).1;have q:=GI f.Ac [] a b k;rw[ap_]at q;refine eF Tryz.func325 ?_;simp only[go_sem,V,n,v,p,w,y,q];cases c1:b.k==e
 ·simp only[go_sem,V]
  refine Aa (La e) ?_;rintro _ j l ⟨rfl,c⟩;have z:h.n+1<j.n:=l;have i:=(c h.n (by show h.n<h.n+1+1;omega)).trans (Ab _ Ag);simp only[go_sem]at i;have r:h.n<j.n:=by omega
  simp only[go_sem,V,i]
  try refine⟨J,?_⟩
  repeat first|exact(Tv c)|exact Ext.refl _|refine Ext.CR ?_ _|refine Ext.CS ?_ _
 simp only[go_sem,V];refine Aa (Ahw b x) ?_;rintro _ j l ⟨rfl,c⟩;have z:h.n+1<j.n:=l;have i:=(c h.n (by show h.n<h.n+1+1;omega)).trans (Ab _ Ag);have A:=(c (h.n+1) (by show h.n+1<h.n+1+1;omega)).trans (Ai _ _);simp only[go_sem]at i;have r:h.n<j.n:=by omega
 cases c2:b.may
 ·simp only[go_sem,V]
  refine Aa (La e) ?_;rintro _ F a4 ⟨rfl,s⟩;have K:=(s h.n r).trans i;have a5:h.n<F.n:=by omega
  simp only[go_sem,V,K]
  try refine⟨J,?_⟩
  repeat first|exact((Tv c).trans (by omega) s)|exact Ext.refl _|refine Ext.CR ?_ _|refine Ext.CS ?_ _
 simp only[go_sem,V,A,i]
 try refine⟨J,?_⟩
 repeat first|exact(Tv c)|exact Ext.refl _|refine Ext.CR ?_ _|refine Ext.CS ?_ _
end
structure Pc where
 nv:i_
 fv:i_
 tv:i_
 sv:i_
 gv:i_
 zv:i_
 iv:i_
 ev:i_
structure Mo where
 Hc:List Nat
 hb:Nat
 out:List H
 CA:Int
 status:Int
 Jp:Int
 time:Int
structure Ms where
 Ba:List (Nat×Cf)
 hb:Nat
 heap:Hs
 out:List H
 CA:Int
 status:Int
 Jp:Int
 time:Int
def Ms.own(s:Ms):Mo:=⟨(s.Ba.map (·.1)).reverse,s.hb,s.out,s.CA,s.status,s.Jp,s.time⟩
def Pp(h:AH)(d:i_)(a:List Nat)(e:List Nat):Prop:=(a=[]∧d=.slice M 0 0∧e=[])∨(∃b r,d=.slice (T ⟨b,0,M⟩) a.length 1∧e=[b]∧h.get b=T (.cells (a.map AA++r)))
def So(h:AH)(d:i_)(a:List H)(e:List Nat):Prop:=(a=[]∧d=.slice M 0 0∧e=[])∨(∃b,d=.slice (T ⟨b,0,M⟩) a.length 1∧e=[b]∧h.get b=T (.cells (a.map S)))
theorem Pp.lt{h:AH}{d:List Nat}{b:List Nat}(e:Pp h v d b)(f:Wh h):∀c∈b,c<h.n:=by
 rcases e with⟨_,_,rfl⟩|⟨l,_,_,rfl,k⟩
 ·intro c a;cases a
 intro c a;rcases d_.1 a with rfl;exact f _ _ k
theorem Pp.same{h h1:AH}{d:List Nat}{a:List Nat}(b:Pp h v d a)(f:∀c∈a,h1.get c=h.get c):Pp h1 v d a:=by
 rcases b with b|⟨e,r,k,rfl,l⟩
 ·exact .inl b
 exact .inr ⟨e,r,k,J,(f e (d_.2 J)).trans l⟩
theorem So.lt{h:AH}{d:List H}{b:List Nat}(e:So h v d b)(f:Wh h):∀c∈b,c<h.n:=by
 rcases e with⟨_,_,rfl⟩|⟨l,_,rfl,k⟩
 ·intro c a;cases a
 intro c a;rcases d_.1 a with rfl;exact f _ _ k
theorem So.same{h h1:AH}{d:List H}{a:List Nat}(b:So h v d a)(f:∀c∈a,h1.get c=h.get c):So h1 v d a:=by
 rcases b with b|⟨e,k,rfl,l⟩
 ·exact .inl b
 exact .inr ⟨e,k,J,(f e (d_.2 J)).trans l⟩
def AN(c:Pc)(a b:i_)(s:Mo):E:=[c.nv,c.fv,c.tv,c.sv,c.gv,c.zv,c.iv,c.ev,a,AA s.hb,b,I s.CA,I s.status,I s.Jp,I s.time]
def MoR(mb:Nat)(c:Pc)(s:Mo)(g:List Nat)(h:AH):Prop:=
 ∃d e a b,g=mb::(a++b)∧(mb::(a++b)).Nodup∧h.get mb=T (.cells (AN c d e s))∧Pp h d s.Hc a∧So h e s.out b
def MoK(mb:Nat)(c:Pc):Kd Mo where
 R s g h:=MoR mb c s g h
 lt:=by
  rintro s g h d ⟨k,l,m,n,rfl,_,a,e,f⟩ c b;rcases m_.1 b with rfl|b
  ·exact d _ _ a
  rcases h_.1 b with b|b
  ·exact e.lt d c b
  exact f.lt d c b
 same:=by rintro s g h h1 ⟨k,l,m,n,rfl,d,a,e,f⟩ b;exact⟨k,l,m,n,rfl,d,(b _ (by simp)).trans a,e.same fun c a=>b c (by simp[a]),f.same fun c a=>b c (by simp[a])⟩
def MT:List (Nat×Cf)→List Nat→AH→Prop
 |[],g,_=>g=[]
 |p::d,g,h=>∃a b,g=a++b∧CfR p.1 p.2 a h∧MT d b h
theorem MT.lt{h:AH}(b:Wh h):∀{d:List (Nat×Cf)} {g:List Nat},MT d g h→∀c∈g,c<h.n
 |[],_,r,c,a=>by cases r;cases a
 |p::d,_,⟨l,m,e,f,k⟩,c,a=>by
  subst e;rcases h_.1 a with a|a
  ·exact(Qh p.1).lt b f c a
  exact MT.lt b k c a
theorem MT.same{h h1:AH}:∀{a:List (Nat×Cf)} {g:List Nat},MT a g h→(∀c∈g,h1.get c=h.get c)→MT a g h1
 |[],_,r,_=>r
 |p::a,_,⟨f,k,b,l,m⟩,e=>⟨f,k,b,(Qh p.1).same l fun c d=>e c (by rw[b];simp[d]),MT.same m fun c d=>e c (by rw[b];simp[d])⟩
def WC(mb:Nat)(c:Pc)(s:Ms)(g:List Nat)(h:AH):Prop:=
 ∃a b d,g=a++b++d∧g.Nodup∧MoR mb c s.own a h∧HpR s.hb s.heap b h∧MT s.Ba d h
def D1(mb:Nat)(c:Pc):Kd Ms where
 R s g h:=WC mb c s g h
 lt:=by
  rintro s g h d ⟨l,m,n,rfl,_,e,f,k⟩ b a;rcases h_.1 a with a|a
  ·rcases h_.1 a with a|a
   ·exact(MoK mb c).lt d e b a
   exact(WD s.hb).lt d f b a
  exact k.lt d b a
 same:=by rintro s g h h1 ⟨l,m,n,rfl,a,e,f,k⟩ b;exact⟨l,m,n,rfl,a,(MoK mb c).same e fun d a=>b d (by simp[a]),(WD s.hb).same f fun d a=>b d (by simp[a]),k.same fun d a=>b d (by simp[a])⟩
section
variable{σ τ:Type}{A:Kd σ}{u:Kd τ}{j h0 h h1:AH}{t p q r i:List Nat}{s:τ}{a0 a1:σ}
theorem Hr.Zz(a:Hr u j h0 t h (p++q++r) s)(b:A.R a0 q h):Hr A j h q h q a0:=
 ⟨a.w,b,Kp.refl h q,e_ _,fun c d=>a.o c (by simp[d]),a.x,a.m⟩
theorem Hr.ZA(f:Hr u j h0 t h (p++q++r) s)(b:(p++q++r).Nodup)(d:Hr A j h q h1 i a1)(F:i.Nodup):(p++i++r).Nodup∧(∀c∈p++r,h1.get c=h.get c)∧Kp h h1 (p++q++r) (p++i++r)∧
  (∀n,u.R n (p++i++r) h1→Hr u j h0 t h1 (p++i++r) n):=by
 have v:∀c∈p++r,c<h.n:=fun c a=>f.own c (by
  rcases h_.1 a with h|h
  ·simp[h]
  simp[h])
 have w:∀c∈p++r,c∉q:=fun c a x=>by
  rw[o_,k_]at b;rw[k_]at b;rcases h_.1 a with h|h
  ·exact b.2.2 c h c (by simp[x]) J
  exact b.2.1.2.2 c x c h J
 have y:∀c∈p++r,c∉i:=fun c a=>(d.k c (v c a) (w c a)).2;have z:Kp h h1 (p++q++r) (p++i++r):=fun c a l=>by
  simp only[h_,not_or]at l;have:=d.k c a l.1.2;refine⟨this.1,?_⟩;simp only[h_,not_or];exact⟨⟨l.1.1,this.2⟩,l.2⟩
 refine⟨?_,fun c a=>(d.k c (v c a) (w c a)).1,z,fun n K=>⟨d.w,K,f.k.trans f.n z,E_ f.n d.n,fun c a=>?_,d.x,d.m⟩⟩
 ·rw[o_,k_,k_]at b⊢
  refine⟨b.1,⟨F,b.2.1.2.1,fun k m L e o=>?_⟩,fun k m L e o=>?_⟩
  ·subst o;exact y k (by simp[e]) m
  subst o;rcases h_.1 e with e|e
  ·exact y k (by simp[m]) e
  exact b.2.2 k m k (by simp[e]) J
 simp only[h_]at a;rcases a with(a|a)|a
 ·exact f.o c (by simp[a])
 ·exact d.o c a
 exact f.o c (by simp[a])
end
section
variable{mb:Nat}{c:Pc}{j h0 h:AH}{t g:List Nat}{s:Ms}
theorem Hr.Od(k:Hr (D1 mb c) j h0 t h g s){cb:Nat}{f:Cf}{l:List (Nat×Cf)}(w:s.Ba=(cb,f)::l):
  ∃q,Hr (Qh cb) j h q h q f∧(∀x∈q,x∈g)∧∀h1 i b,Hr (Qh cb) j h q h1 i b→∃a,Hr (D1 mb c) j h0 t h1 a {s with Ba:=(cb,b)::l}∧Kp h h1 g a:=by
 obtain⟨y,z,a7,F,a,K,L,e⟩:=k.r;rw[w]at e;obtain⟨q,m,n,e,N⟩:=e;have P:g=(y++z)++q++m:=by rw[F,n];simp
 subst P;refine⟨q,k.Zz (A:=Qh cb) e,fun x a2=>by simp[a2],fun h1 i b o=>?_⟩;have a3:i.Nodup:=by obtain⟨_,_,_,_,n,a,_⟩:=o.r;rw[n];exact a
 obtain⟨a4,v,a5,a6⟩:=k.ZA a o a3;refine⟨_,a6 {s with Ba:=(cb,b)::l} ⟨y,z,i++m,by simp,a4,?_,?_,i,m,J,o.r,N.same fun d a=>v d (by simp[a])⟩,a5⟩
 ·have:Ms.own {s with Ba:=(cb,b)::l}=s.own:=by unfold Ms.own;rw[w];rfl
  rw[this];exact(MoK mb c).same K fun d a=>v d (by simp[a])
 exact(WD s.hb).same L fun d a=>v d (by simp[a])
theorem Hr.Aq5(b:Hr (D1 mb c) j h0 t h g s):
  ∃q,Hr (WD s.hb) j h q h q s.heap∧(∀f∈q,f∈g)∧∀h1 i a,Hr (WD s.hb) j h q h1 i a→∃d,Hr (D1 mb c) j h0 t h1 d {s with heap:=a}∧Kp h h1 g d:=by
 obtain⟨l,m,n,o,a,v,w,x⟩:=b.r;subst o;refine⟨m,b.Zz (A:=WD s.hb) w,fun f y=>by simp[y],fun h1 i z d=>?_⟩;have F:i.Nodup:=by obtain⟨_,_,_,_,K,a,_⟩:=d.r;rw[K];exact a
 obtain⟨L,k,N,P⟩:=b.ZA a d F;exact⟨_,P {s with heap:=z} ⟨l,i,n,J,L,(MoK mb c).same v fun e a=>k e (by simp[a]),d.r,x.same fun e a=>k e (by simp[a])⟩,N⟩
theorem Hr.Awn(d:Hr (D1 mb c) j h0 t h g s):
  ∃q,Hr (MoK mb c) j h q h q s.own∧(∀k∈q,k∈g)∧∀h1 i a,a.hb=s.hb→a.heap=s.heap→a.Ba=s.Ba→Hr (MoK mb c) j h q h1 i a.own→∃b,Hr (D1 mb c) j h0 t h1 b a∧Kp h h1 g b:=by
 obtain⟨l,m,n,v,b,w,x,y⟩:=d.r;have z:g=[]++l++(m++n):=by rw[v];simp
 subst z;refine⟨l,d.Zz (A:=MoK mb c) w,fun k F=>by simp[F],fun h1 i a K L N e=>?_⟩;have P:i.Nodup:=by obtain⟨_,_,_,_,a2,b,_⟩:=e.r;rw[a2];exact b
 obtain⟨a3,o,a4,a5⟩:=d.ZA b e P;refine⟨_,a5 a ⟨i,m,n,by simp,a3,e.r,?_,?_⟩,a4⟩
 ·rw[K,L];exact(WD s.hb).same x fun f b=>o f (by simp[b])
 rw[N];exact y.same fun f b=>o f (by simp[b])
end
section
variable{mb:Nat}{c:Pc}{j h0 h:AH}{i g:List Nat}{s:Ms}{cb:Nat}{f:Cf}{l:List (Nat×Cf)}
theorem WC.own{s:Ms}(k:WC mb c s g h):∃a b d e,h.get mb=T (.cells (AN c a b s.own))∧Pp h a s.own.Hc d∧So h b s.out e:=by obtain⟨p,q,r,t,u,⟨a,b,d,e,v,w,m,n,o⟩,_,_⟩:=k;exact⟨a,b,d,e,m,n,o⟩
theorem Lr(a:s.Ba=(cb,f)::l):s.own.Hc=(l.map (·.1)).reverse++[cb]∧s.own.Hc.length=l.length+1:=by unfold Ms.own;rw[a];simp
theorem Oc(d:Wh h)(e:WC mb c s g h)(m:s.Ba=(cb,f)::l)(w:l.length<100000):AR 251 [AA mb] h (fun n o=>n=AA cb∧o=h):=by
 obtain⟨x,y,z,A,a,p,F⟩:=e.own;obtain⟨q,b⟩:=Lr m;have K:=d _ _ a;rcases p with⟨r,rfl,rfl⟩|⟨L,e,rfl,rfl,k⟩
 ·rw[r]at b;cases b
 have N:=d _ _ k;have t:l_ .i64 (((l.length+1:Nat):Int)-1)=l.length:=by rw[Ap]<;>omega
 have u:nth? (s.own.Hc.map AA++e) l.length=T (AA cb):=by rw[Du,I_ (by rw[v_,b];exact a_ _),L_,q,R_ (by simp)];simp
 rw[b]at a;have v:l.length<l.length+1:=a_ _;unfold AN at a;refine eF Tryz.func251 ?_;simp only[go_sem];refine AM d 0x10100110001000 ?_;simp only[go_sem,V,a,t,k,u,v];done
theorem Hr.Mq(e:Hr (D1 mb c) j h0 i h g s){cv ov:i_}(b:h.get mb=T (.cells (AN c cv ov s.own)))(a:Ms)(u:a.hb=s.hb)(v:a.heap=s.heap)(n:a.Ba=s.Ba)(w:a.out=s.out):
  ∃d,Hr (D1 mb c) j h0 i (h.put mb (.cells (AN c cv ov a.own))) d a∧Kp h (h.put mb (.cells (AN c cv ov a.own))) g d:=by
 obtain⟨x,o,_,y⟩:=e.Awn;refine y _ x a u v n ?_;obtain⟨p,q,z,A,r,t,F,K,L⟩:=o.r;have N:=e.w _ _ b;rw[F]at b;have P:p=cv∧q=ov:=by unfold AN at b;simp only[s_,AO.cells.injEq,t_]at b;exact⟨b.2.2.2.2.2.2.2.2.1,b.2.2.2.2.2.2.2.2.2.2.1⟩
 obtain⟨rfl,rfl⟩:=P;have k:=t;rw[j_]at k;have a0:a.own.Hc=s.own.Hc:=by unfold Ms.own;rw[n]
 have a1:a.own.out=s.own.out:=w;refine o.MZ (Ar e.w N _) (e_ _) ⟨p,q,z,A,r,t,Ai _ _,?_,?_⟩ (fun c b=>.inl b) fun c _ a2=>Ab _ (Ag fun d=>a2 (by rw[r];simp[d]))
 ·rw[a0];exact K.same fun c m=>Ab _ (Ag fun d=>k.1 (by rw[←d];simp[m]))
 rw[a1];exact L.same fun c m=>Ab _ (Ag fun d=>k.1 (by rw[←d];simp[m]))
theorem Ahv(d:WC mb c s g h)(e:s.Ba=(cb,f)::l):(mb==cb)=false∧(cb==mb)=false:=by
 obtain⟨q,r,t,k,a,⟨u,v,w,x,m,_⟩,_,b⟩:=d;rw[e]at b;obtain⟨y,z,n,⟨_,_,_,_,o,_⟩,_⟩:=b;have:mb≠cb:=fun p=>by
  subst p;rw[k,m,n,o]at a;simp at a
 exact⟨Ag this,Ag (Ne.symm this)⟩
theorem TF(d:Hr (Qh cb) j h0 i h g f){vs ss:i_}{p:Int}(a:h.get cb=T (.cells [vs,I p,I f.pc,I f.mark,ss]))(n mark:Int):
  ∃b,Hr (Qh cb) j h0 i (h.put cb (.cells [vs,I p,I n,I mark,ss])) b {f with pc:=n,mark:=mark}:=by
 obtain⟨z,A,r,t,o,q,u,v,w,e⟩:=d.r;have x:=d.w _ _ a;rw[u]at a;cases a;have k:=q;rw[j_]at k;exact⟨g,d.MZ (Ar d.w x _) (e_ _) ⟨vs,ss,r,t,o,q,Ai _ _,v.same fun c m=>Ab _ (Ag fun b=>k.1 (by rw[←b];simp[m])),
  w.same fun c m=>Ab _ (Ag fun b=>k.1 (by rw[←b];simp[m])),⟨e.v,e.s,e.vl⟩⟩ (fun c a=>.inl a) fun c _ y=>Ab _ (Ag fun b=>y (by rw[o];simp[b]))⟩
theorem Aup(b:Hr (Qh cb) j h0 i h g f){vs ss:i_}{p:Int}(a:h.get cb=T (.cells [vs,I p,I f.pc,I f.mark,ss])):
  ∃d,Hr (Qh cb) j h0 i (h.put cb (.cells [.slice M 0 0,I p,I f.pc,I f.mark,ss])) d {f with AI:=[]}:=by
 obtain⟨x,y,z,k,m,n,o,A,q,r⟩:=b.r;have t:=b.w _ _ a;rw[o]at a;cases a;have d:=n;rw[j_,k_]at d;refine⟨cb::([]++k),b.MZ (Ar b.w t _) (e_ _) ⟨_,ss,[],k,J,?_,Ai _ _,.inl ⟨J,J,J⟩,
  q.same fun c u=>Ab _ (Ag fun e=>d.1 (by rw[←e];simp[u])),⟨fun _ v=>(by cases v),r.s,p_ _⟩⟩ (fun c a=>.inl ?_) fun c _ w=>Ab _ (Ag fun e=>w (by rw[m];simp[e]))⟩
 ·rw[x_,j_]
  exact⟨fun e=>d.1 (by simp[e]),d.2.2.1⟩
 rw[m];rcases m_.1 a with rfl|a
 ·simp
 simp at a;simp[a]
theorem WC.top(m:WC mb c s g h)(n:s.Ba=(cb,f)::l):∃a b d e,h.get cb=T (.cells [a,I f.fn,I f.pc,I f.mark,b])∧Vp h a f.AI d∧Vx h f.sb b f.Ac e∧f.ok:=by obtain⟨t,u,v,w,x,_,_,k⟩:=m;rw[n]at k;obtain⟨y,z,A,⟨a,b,d,e,F,_,o,p,q,r⟩,_⟩:=k;exact⟨a,b,d,e,o,p,q,r⟩
abbrev Dn(mb:Nat)(c:Pc)(j h0:AH)(i:List Nat)(h:AH)(g:List Nat)(a:Ms)(b:i_):i_→AH→Prop:=Jn (D1 mb c) j h0 i h g a b
def Ms.stops(s:Ms)(a b:Int)(cb:Nat)(f:Cf)(l:List (Nat×Cf)):Ms:={s with status:=a,Jp:=b,Ba:=(cb,{f with pc:=f.mark,AI:=[]})::l}
theorem Js(a:Hr (D1 mb c) j h0 i h g s)(b:s.Ba=(cb,f)::l)(t:l.length<100000)(d e:Int):AR 333 [AA mb,I d,I e] h (Dn mb c j h0 i h g (s.stops d e cb f l) (.tuple #[])):=by refine a.walk fun a=>?_;obtain⟨cv,ov,P,a0,k,_,_⟩:=a.r.own;obtain⟨o,q,a1,a2,m,_,_,a3⟩:=a.r.top b;obtain⟨a4,n⟩:=Ahv a.r b;have a5:=a.w _ _ k;have a6:=a.w _ _ m;refine eF Tryz.func333 ?_;simp only[go_sem];refine Aa (Oc a.w a.r b t) ?_;rintro _ _ _ ⟨rfl,rfl⟩;have r:=k;unfold AN at r;simp only[go_sem,V,r,m,n];obtain⟨a7,u,_⟩:=a.Mq k {s with status:=d} rfl J J J;obtain⟨a8,v,_⟩:=u.Mq (cv:=cv) (ov:=ov) (Ai _ _) {s with status:=d,Jp:=e} rfl J J J;obtain⟨a9,w,_,x⟩:=v.Od (cb:=cb) (f:=f) (l:=l) b;obtain⟨aa,y⟩:=TF w (vs:=o) (ss:=q) (p:=f.fn) ((Ab _ n).trans ((Ab _ n).trans m)) f.mark f.mark;obtain⟨ab,z,_⟩:=x _ _ _ y;obtain⟨ac,A,_,F⟩:=z.Od (cb:=cb) J;obtain⟨ad,K⟩:=Aup A (vs:=o) (ss:=q) (p:=f.fn) (Ai _ _);obtain⟨L,N,_⟩:=F _ _ _ K;exact⟨L,N⟩
def Ms.Fg(s:Ms)(b:Vl)(a:Int)(cb:Nat)(f:Cf)(l:List (Nat×Cf)):Ms:=cond (a !=0) (s.stops 3 a cb f l) {s with Ba:=(cb,{f with AI:=f.AI++[b]})::l}
theorem Pw(e:Hr (D1 mb c) j h0 i h g s)(b:s.Ba=(cb,f)::l)(n:l.length<100000)(p:f.AI.length<100000)(v:Vl)(q:v.ok)(d:Int):AR 327 [AA mb,vl v,I d] h (Dn mb c j h0 i h g (s.Fg v d cb f l) (.tuple #[])):=by
 refine e.walk fun e=>?_;have a:=e.new (.cells [I v.k,I v.a,S v.s]);refine eF Tryz.func327 ?_;unfold Ms.Fg;cases o:d !=0
 ·simp only[go_sem,V,o]
  refine AM a.w 0x105b0001b104d0 ?_;simp only[go_sem,V];refine Aj (Oc a.w a.r b n) ?_;rintro _ _ _ ⟨rfl,rfl⟩;obtain⟨z,A,F,K,r,_,_,L⟩:=a.r.top b;have N:=a.w _ _ r;simp only[go_sem,V];obtain⟨P,t,_,u⟩:=a.Od b;refine Aj (SH t v q p) ?_;rintro _ w x ⟨rfl,a0,y,_⟩;simp only[go_sem];obtain⟨k,m,_⟩:=u _ _ _ y;exact⟨k,m⟩
 simp only[go_sem,V,o];refine Aa (Js a b n 3 d) ?_;rintro _ w x ⟨rfl,k,m,_⟩;simp only[go_sem];exact⟨k,m⟩
end
section
variable{mb:Nat}{c:Pc}{hs h0 h:AH}{g0 g:List Nat}{s:Ms}{cb:Nat}{f:Cf}{l:List (Nat×Cf)}
theorem Hr.Azi(o:Hr (D1 mb c) hs h0 g0 h g s)(y:s.Ba=(cb,f)::l)(j:h.get mb=T (.cells (AN c (.slice (T ⟨a,0,M⟩) (l.length+1) 1) v s.own))):
  ∃b,Hr (D1 mb c) hs h0 g0 (h.put mb (.cells (AN c (.slice (T ⟨a,0,M⟩) l.length 1) v s.own))) b {s with Ba:=l}:=by
 obtain⟨p,k,z,q,i,⟨L,r,ac,N,t,A,P,a0,a1⟩,a2,F⟩:=o.r;have a3:=o.w _ _ j;rw[P]at j;have a4:L=.slice (T ⟨a,0,M⟩) (l.length+1) 1∧r=v:=by unfold AN at j;simp only[s_,AO.cells.injEq,t_]at j;exact⟨j.2.2.2.2.2.2.2.2.1,j.2.2.2.2.2.2.2.2.2.2.1⟩
 obtain⟨rfl,rfl⟩:=a4;obtain⟨a5,ad⟩:=Lr y;rcases a0 with⟨_,e,_⟩|⟨ae,a6,e,rfl,a7⟩
 ·cases e
 injection e with m _ _
 injection m with m
 injection m with m _ _
 subst m;rw[y]at F;obtain⟨af,u,w,ag,a8⟩:=F;have ah:∀b∈p++k++z,b∉[mb]→(b==mb)=false:=fun b _ d=>Ag fun e=>d (by simp[e]);have x:=A;rw[j_]at x;have n:∀b,b≠mb→(h.put mb (.cells (AN c (.slice (T ⟨a,0,M⟩) l.length 1) r s.own))).get b=h.get b:=fun b d=>Ab _ (Ag d);have K:∀b∈k++z,b≠mb:=fun b d e=>by
  subst e;rw[q,t]at i;rw[o_,k_]at i;exact i.2.2 b (by simp) b d J
 have a9:(p++k++u).Nodup:=by rw[q,w,k_]at i;rw[k_];refine⟨i.1,?_,fun b d aa ab=>i.2.2 b d aa (by simp[ab])⟩;have:=i.2.1;rw[k_]at this;exact this.2.1
 refine⟨p++k++u,o.MZ (Ar o.w a3 _) (e_ _) ⟨p,k,u,J,a9,⟨.slice (T ⟨a,0,M⟩) l.length 1,r,[a],N,t,A,Ai _ _,.inr ⟨a,AA cb::a6,?_,J,?_⟩,a1.same fun b d=>n b fun e=>x.1 (by rw[←e];simp[d])⟩,(WD s.hb).same a2 fun b d=>n b (K b (by simp[d])),a8.same fun b d=>n b (K b (by rw[w];simp[d]))⟩ (fun b d=>.inl ?_) fun b _ aa=>n b fun e=>aa (by rw[q,t];simp[e])⟩
 ·unfold Ms.own;simp
 ·rw[n a fun e=>x.1 (by simp[e]),a7,a5]
  unfold Ms.own;simp
 rw[q,w];simp only[h_]at d⊢;rcases d with(d|d)|d<;>simp[d]
def Ms.ends(s:Ms)(a:Vl):List (Nat×Cf)→Ms
 |[]=>{s with Ba:=[],status:=2}
 |(cb,f)::l=>{s with Ba:=(cb,{f with AI:=f.AI++[a]})::l}
theorem Aal(d:Hr (D1 mb c) hs h0 g0 h g s)(p:s.Ba=(cb,f)::l)(t:l.length<100000)(u:∀j∈l,j.2.AI.length<100000)(a:Vl)(v:a.ok):AR 336 [AA mb,vl a] h (Dn mb c hs h0 g0 h g (s.ends a l) (.tuple #[])):=by
 refine d.walk fun d=>?_;have e:=d.new (.cells [I a.k,I a.a,S a.s]);obtain⟨cv,ov,a1,a2,i,w,a3⟩:=e.r.own;obtain⟨a4,k⟩:=Lr p;rcases w with⟨x,rfl,rfl⟩|⟨y,a5,rfl,rfl,a6⟩
 ·rw[x]at k;cases k
 have a7:=e.w _ _ i;have z:l_ .i64 (((l.length+1:Nat):Int)-1)=l.length:=by rw[Ap]<;>omega
 rw[k]at i;obtain⟨a8,b⟩:=e.Azi p i;have q:=i;have A:l.length≤l.length+1:=z_ _;unfold AN at q b;refine eF Tryz.func336 ?_;simp only[go_sem];refine AM e.w 0x1300001100010000 ?_;simp only[go_sem,V,q,z,A,p_,e_,aj_];cases l with
 |nil=>
  have m:(((0:Nat):Int)==0)=true:=J;simp only[go_sem,Z,m];obtain⟨n,o,_⟩:=b.Mq (cv:=.slice (T ⟨y,0,M⟩) 0 1) (ov:=ov) (Ai _ _) (s.ends a []) J J J J;exact⟨n,o⟩
 |cons j l=>
  obtain⟨F,K⟩:=j;have m:(((l.length+1:Nat):Int)==0)=false:=beq_eq_false_iff_ne.2 (by omega);rw[W]at b;simp only[go_sem,W,m];refine AM b.w 0x105b0001b104d0 ?_;have a9:mb<h.n:=by obtain⟨_,_,_,_,r,_⟩:=d.r.own;exact d.w _ _ r
  have r:(h.n==mb)=false:=Ag;simp only[go_sem,V,r];refine Aj (Oc b.w b.r J (by simp only[W]at t;omega)) ?_;rintro _ _ _ ⟨rfl,rfl⟩;obtain⟨aa,ab,ac,ad,L,_,_,ae⟩:=b.r.top J;obtain⟨af,ag⟩:=Ahv b.r J;have ah:=b.w _ _ L;have ai:h.n<(h.new (.cells [I a.k,I a.a,S a.s])).n:=a_ _;obtain⟨aj,N,_,P⟩:=b.Od J;simp only[go_sem,V,r];refine Aj (SH N a v (u (F,K) (by simp))) ?_;rintro _ ak al ⟨rfl,am,a0,_⟩;simp only[go_sem];obtain⟨n,o,_⟩:=P _ _ _ a0;exact⟨n,o⟩
end
structure Cd(hs:AH)(c:Pc)(code:List AY)(en zs:List Int):Prop where
 w:Wh hs
 i:InA hs c.iv code
 e:DH hs c.ev en
 z:DH hs c.zv zs
def copyV(l a:List Vl):List Vl:=a.take l.length++l.drop a.length
theorem Aql:∀n,DZ [I 0,I 0,S []] n=AL (List.replicate n (vz 0))
 |0=>rfl
 |n+1=>by
  show[I 0,I 0,S []]++DZ [I 0,I 0,S []] n=_;rw[Aql n];rfl
theorem Y1:∀l:List Vl,HV (IA 4) (AL l) (AL l)=true
 |[]=>rfl
 |x::l=>by simp only[AL,go_sem,Y1 l]
theorem Atb(a:Nat):DZ [.int .i64 0,.int .i64 0,.string ⟨#[]⟩] a=AL (List.replicate a (vz 0)):=Aql a
theorem Mv:∀l:List Vl,By (AL l)=true
 |[]=>rfl
 |_::l=>Mv l
theorem N4(l a:List Vl)(b:a.length≤l.length):spl? (AL l) 0 (AL a)=T (AL (a++l.drop a.length)):=by
 rw[Hj (by rw[Ck,Ck];omega)];unfold A5;rw[EZ];congr 1;rw[List.take_zero,x_,J_,Ck];congr 1;induction a generalizing l with
 |nil=>simp
 |cons e a d=>
  cases l with
  |nil=>cases b
  |cons i l=>
   have:=d l (by simpa using b);rw[W,show(a.length+1)*3=a.length*3+1+1+1 by omega];exact this
section
variable{mb:Nat}{c:Pc}{hs h0 h:AH}{g0 g:List Nat}{s:Ms}{cb:Nat}{f:Cf}{l:List (Nat×Cf)}{code:List AY}{en zs:List Int}
theorem Hr.Awv(t:Hr (D1 mb c) hs h0 g0 h g s){cb nb sb:Nat}{f:Cf}{h1:AH}(n:h.get mb=T (.cells (AN c v w s.own)))(u:Pp h v s.own.Hc p)
  (a2:Wh h1) (a3:h.n≤h1.n) (a4:h1.get mb=T (.cells (AN c (.slice (T ⟨nb,0,M⟩) (s.Ba.length+1) 1) w s.own))) (a5:h1.get nb=T (.cells (s.own.Hc.map AA++[AA cb])))
  (a6:h1.get cb=T (.cells [.slice M 0 0,I f.fn,I f.pc,I f.mark,.slice (T ⟨sb,0,M⟩) f.Ac.length 3])) (a7:h1.get sb=T (.cells (AL f.Ac))) (a8:f.AI=[]) (x:f.sb=sb) (a9:f.ok)
  (aa:h.n≤cb) (ab:h.n≤nb) (ac:h.n≤sb) (ad:cb≠nb) (K:cb≠sb) (ae:nb≠sb) (o:∀a,a<h.n→a≠mb→a∉p→h1.get a=h.get a):
  ∃b,Hr (D1 mb c) hs h0 g0 h1 b {s with Ba:=(cb,f)::s.Ba}:=by
 obtain⟨af,i,e,q,ag,⟨ah,L,ai,j,k,aA,aj,ak,al⟩,am,an⟩:=t.r;have aB:=t.w _ _ n;rw[aj]at n;have ao:ah=v∧L=w:=by unfold AN at n;simp only[s_,AO.cells.injEq,t_]at n;exact⟨n.2.2.2.2.2.2.2.2.1,n.2.2.2.2.2.2.2.2.2.2.1⟩
 obtain⟨rfl,rfl⟩:=ao;have ap:ai=p:=by
  rcases ak with⟨_,b,rfl⟩|⟨r,y,b,rfl,_⟩<;>rcases u with⟨_,d,rfl⟩|⟨z,A,d,rfl,_⟩
  ·rfl
  ·rw[b]at d;cases d
  ·rw[b]at d;cases d
  rw[b]at d;injection d with m _ _
  injection m with m
  injection m with m _ _
  rw[m]
 subst ap;have r:∀a∈af++i++e,a<h.n:=fun a o=>t.own a (by rw[q];exact o);have y:=ag;rw[q,k]at y;simp only[o_,y_,j_,k_,h_,not_or]at y;obtain⟨⟨aC,z,N,P⟩,aD,⟨a0,⟨aq,ar,au⟩,av⟩,A⟩:=y;have aw:∀a∈j,h1.get a=h.get a:=fun a d=>o a (r a (by rw[k];simp[d])) (fun b=>z (by rw[←b];exact d)) (fun b=>A a b a (.inl d) J);have ax:∀a∈i,h1.get a=h.get a:=fun a d=>o a (r a (by simp[d])) (fun b=>N (by rw[←b];exact d)) (fun b=>A a b a (.inr (.inl d)) J);have ay:∀a∈e,h1.get a=h.get a:=fun a d=>o a (r a (by simp[d])) (fun b=>P (by rw[←b];exact d)) (fun b=>A a b a (.inr (.inr d)) J);refine⟨(mb::([nb]++j))++i++((cb::([]++[sb]))++e),t.MZ a2 a3 ⟨_,_,_,J,?_,⟨_,L,[nb],j,J,?_,a4,.inr ⟨nb,[],?_,J,?_⟩,al.same aw⟩,(WD s.hb).same am ax,_,e,J,⟨_,_,[],[sb],J,?_,a6,.inl ⟨a8,J,J⟩,⟨by rw[x],by rw[x],by rw[x];exact a7⟩,a9⟩,an.same ay⟩ (fun a d=>?_) fun a m a1=>o a m (fun b=>a1 (by rw[q,k];simp[b])) (fun b=>a1 (by rw[q,k];simp[b]))⟩
 ·have F:∀a∈mb::(j++i++e),a<h.n:=fun a d=>r a (by
   rw[k];simp only[y_,o_,m_,h_]at d⊢;rcases d with h|h|h|h<;>simp[h])
  have u:((mb::([nb]++j))++i++((cb::([]++[sb]))++e)).Perm (nb::cb::sb::(mb::(j++i++e))):=by refine List.perm_iff_count.2 fun a=>?_;simp only[x_,y_,o_,List.count_cons,List.count_append];omega
  have az:(mb::(j++i++e)).Nodup:=by simp only[o_,j_,k_,h_,not_or];exact⟨⟨z,N,P⟩,a0,⟨aq,ar,au⟩,av⟩
  rw[u.nodup_iff];refine j_.2 ⟨fun h1=>?_,j_.2 ⟨fun h1=>?_,j_.2 ⟨fun h1=>?_,az⟩⟩⟩
  ·rcases m_.1 h1 with h1|h1
   ·exact ad h1.symm
   rcases m_.1 h1 with h1|h1
   ·exact ae h1
   have:=F _ h1;omega
  ·rcases m_.1 h1 with h1|h1
   ·exact K h1
   have:=F _ h1;omega
  have:=F _ h1;omega
 ·simp only[y_,x_,j_,m_,not_or]
  refine⟨⟨by omega,z⟩,fun h1=>?_,a0⟩;have:=r nb (by rw[k];simp[h1]);omega
 ·unfold Ms.own;simp
 ·rw[a5];unfold Ms.own;simp
 ·simp only[x_,j_,d_,List.nodup_nil,and_true];exact⟨K,by simp⟩
 simp only[y_,x_,o_,m_,h_]at d;rw[q,k];simp only[y_,o_,m_,h_];rcases d with h|h|h|h|h|h|h<;>simp[h,aa,ab,ac]
theorem WC.Azj{s:Ms}(i:WC mb c s g h)(b:h.get mb=T (.cells (AN c v w s.own)))(m:Pp h v s.own.Hc p):mb∉p∧∀j∈p,j∈g:=by
 obtain⟨A,F,K,n,L,⟨o,q,r,N,t,k,u,x,P⟩,a0,a1⟩:=i;rw[u]at b;have y:o=v∧q=w:=by unfold AN at b;simp only[s_,AO.cells.injEq,t_]at b;exact⟨b.2.2.2.2.2.2.2.2.1,b.2.2.2.2.2.2.2.2.2.2.1⟩
 obtain⟨rfl,rfl⟩:=y;have z:r=p:=by
  rcases x with⟨_,e,rfl⟩|⟨a2,i,e,rfl,_⟩<;>rcases m with⟨_,a,rfl⟩|⟨a3,a4,a,rfl,_⟩
  ·rfl
  ·rw[e]at a;cases a
  ·rw[e]at a;cases a
  rw[e]at a;injection a with d _ _
  injection d with d
  injection d with d _ _
  rw[d]
 subst z;rw[j_]at k;exact⟨fun a=>k.1 (by simp[a]),fun j d=>by rw[n,t];simp[d]⟩
def WB(h:AH)(g:List Nat)(b:i_)(l:List Vl):Prop:=(l=[]∧∃d e,b=.slice d 0 e)∨(∃a i,b=.slice (T ⟨a,0,M⟩) l.length 3∧h.get a=T (.cells (AL l++i))∧a∉g)
theorem RZ(l:List Vl):copyV l []=l:=by simp[copyV]
theorem Sj(l:List Vl)(b:E)(a:Nat)(e:a≤l.length):sub? (AL l++b) 0 (a*3)=T (AL (l.take a)):=by have d:=MY (l.take a) [] (AL (l.drop a)++b);rw[N_,Q_ e]at d;rw[←d,←o_,←EZ,af_]
theorem Aow{d:AH}{sl args:List Vl}(e:Wh d)(hs:d.get a=T (.cells (AL sl)))(o:WB d [a] v args):
  ∃j b,Bx pr d .copy [123,123] 3 [.slice (T ⟨a,0,M⟩) sl.length 3,v]=T (I j,b)∧b.n=d.n∧Wh b∧b.get a=T (.cells (AL (copyV sl args)))∧∀i,i≠a→b.get i=d.get i:=by
 rcases o with⟨rfl,t,u,rfl⟩|⟨w,p,rfl,q,x⟩
 ·refine⟨0,d,?_,J,e,by rw[RZ];exact hs,fun _ _=>rfl⟩
  rw[TT,Yd,show Nat.min 0 sl.length=0 from Nat.zero_min _];rfl
 by_cases j:Nat.min args.length sl.length=0
 ·refine⟨0,d,?_,J,e,?_,fun _ _=>rfl⟩
  ·rw[TT,Yd,j];rfl
  have:copyV sl args=sl:=by
   unfold copyV;rcases Nat.le_total args.length sl.length with b|b
   ·have:args.length=0:=by rw[←j];exact(Q_ b).symm
    rw[C_ this];simp
   have:sl.length=0:=by rw[←j];exact(am_ b).symm
   rw[C_ this];simp
  rw[this];exact hs
 have m:Nat.min args.length sl.length≤args.length:=Nat.min_le_left _ _;have y:Nat.min args.length sl.length≤sl.length:=Nat.min_le_right _ _;have n:=N4 sl (args.take (Nat.min args.length sl.length)) (by rw[N_];omega);have r:args.take (Nat.min args.length sl.length)++sl.drop (args.take (Nat.min args.length sl.length)).length=copyV sl args:=by
  unfold copyV;rw[N_];rcases Nat.le_total args.length sl.length with b|b
  ·have k:Nat.min args.length sl.length=args.length:=Q_ b
   rw[k,Nat.min_self,List.take_length,ac_ b]
  have k:Nat.min args.length sl.length=sl.length:=am_ b;rw[k,Q_ b,W_,List.drop_eq_nil_of_le b]
 rw[r]at n;have b:=e _ _ hs;refine⟨Nat.min args.length sl.length,d.put a (.cells (AL (copyV sl args))),?_,J,Ar e b _,Ai _ _,fun i k=>Ab _ (Ag k)⟩;rw[TT,Yd];exact Yg (Nat.pos_of_ne_zero j) m q (Sj args p _ m) hs n (Mv _)
theorem Wj(i:Hr (D1 mb c) hs h0 g0 h g s)(n:Cd hs c code en zs)(az:s.Ba.length<1000)(a6:en[a]? =T x)(a7:zs[a]? =T (b:Int))(aA:b≤100000){k:List Vl}(ad:WB h g v k)(ae:∀j∈k,j.ok):
  AR 170 [AA mb,I a,v] h (fun d h1=>∃cb sb,Dn mb c hs h0 g0 h g {s with Ba:=(cb,⟨[],a,x,x,copyV (List.replicate b (vz 0)) k,sb⟩)::s.Ba} (.tuple #[]) d h1):=by
 obtain⟨aB,a8,aC,aD,p,af,aE⟩:=i.r.own;have ag:=i.w _ _ p;refine eF Tryz.func170 ?_;have A:=p;unfold AN at A;have F:a<en.length:=(g_.1 a6).1;have K:a<zs.length:=(g_.1 a7).1;have ah:=DU a6;have ai:=DU a7;have q:=i.w;rcases n.e.ext n.w i.x with⟨u,_⟩|⟨aF,o,m⟩
 ·rw[u]at F;cases F
 rcases n.z.ext n.w i.x with⟨u,_⟩|⟨aG,w,r⟩
 ·rw[u]at K;cases K
 have aH:=q _ _ m;have aI:=q _ _ r;rw[o,w]at A;simp only[go_sem];refine AM q 0x102021001000010010000100100000 ?_;have aj:A_ b 1000000=true:=Eg;have aJ:(A_ 1 3&&A_ 3 1000)=true:=by decide
 have ak:=Y1 (List.replicate b (vz 0));simp only[go_sem,V,A,m,r,ah,ai,F,K,aj,Atb,ak];have aK:(h.n+1==h.n)=false:=Ag;have a9:(⟨[],a,x,x,copyV (List.replicate b (vz 0)) k,h.n⟩:Cf).ok:=by
  refine⟨fun _ d=>(by cases d),fun j d=>?_,p_ _⟩;rcases h_.1 d with d|d
  ·exact ae j (List.mem_of_mem_take d)
  rw[X_ (List.mem_of_mem_drop d)];exact Jb 0
 have aa:(copyV (List.replicate b (vz 0)) k).length=b:=by unfold copyV;simp only[Y,N_,an_,D_];omega
 have al:WB ((h.new (.cells (AL (List.replicate b (vz 0))))).new (.cells [.slice M 0 0,I a,I x,I x,.slice (T ⟨h.n,0,M⟩) b 3])) [h.n] v k:=by
  rcases ad with u|⟨e,y,o,m,w⟩
  ·exact .inl u
  have L:=q _ _ m;refine .inr ⟨e,y,o,?_,fun d=>by rcases d_.1 d with rfl;omega⟩;simp only[go_sem,L];exact m
 obtain⟨aL,d,c1,c2,c3,ab,t⟩:=Aow (sl:=List.replicate b (vz 0)) (args:=k) (Am (Am q (.cells (AL (List.replicate b (vz 0))))) (.cells [.slice M 0 0,I a,I x,I x,.slice (T ⟨h.n,0,M⟩) b 3])) (by simp only[go_sem]) al;rw[D_]at c1;have am:=(t mb (by omega)).trans ((An _ (Ag (by simp only[go_sem];omega))).trans ((An _ (AE ag)).trans p));have ac:mb<d.n:=by rw[c2];simp only[go_sem];omega
 have aM:d.n=h.n+2:=c2;have N:=am;unfold AN at N;rw[c1];simp only[go_sem];rw[YX (O_ (by rw[c2];exact e_ _))];rcases af with⟨P,rfl,rfl⟩|⟨e,y,rfl,rfl,z⟩
 ·simp only[go_sem,V,N,ac]
  have an:s.Ba.length=0:=by have:=Akv List.length P;unfold Ms.own at this;simpa using this
  have a0:(d.n+1==mb)=false:=Ag;have a1:(h.n+1==mb)=false:=Ag;have a2:(h.n==mb)=false:=Ag;have a3:h.n<d.n:=by omega
  have a4:h.n+1<d.n:=by omega
  refine Exists.elim (i.start.Awv (f:=⟨[],a,x,x,copyV (List.replicate b (vz 0)) k,h.n⟩) (cb:=h.n+1) (nb:=d.n+1) (sb:=h.n) p (.inl ⟨P,J,J⟩) (h1:=((d.new (.cells [.pointer (T ⟨h.n+1,0,M⟩)])).new (.cells [.pointer (T ⟨h.n+1,0,M⟩)])).put mb (.cells (AN c (.slice (T ⟨d.n+1,0,M⟩) 1 1) a8 s.own))) (Ar (Am (Am c3 _) _) (by simp only[go_sem];omega) _) (by simp only[go_sem];omega)
   (by rw[an];exact Ai _ _) (by rw[P];simp only[go_sem,a0];rfl) ?_ ?_ J J a9 (by omega) (by omega) (e_ _) (by omega) (by omega) (by omega) (fun j o m w=>?_)) fun a5 e=>?_
  ·have:=(t (h.n+1) (by omega)).trans (Ae (h:=h.new _) _)
   simp only[go_sem,a1,a4,aa];exact this
  ·simp only[go_sem,a2,a3]
   exact ab
  ·have r:j<d.n:=by omega
   simp only[go_sem,r,Ag m];exact(t j (by omega)).trans ((An _ (Ag (by simp only[go_sem];omega))).trans (An _ (AE o)))
  exact⟨h.n+1,h.n,J,a5,i.go e,e.k⟩
 have an:s.own.Hc.length=s.Ba.length:=by unfold Ms.own;simp
 have L:=q _ _ z;have ao:=(t e (by omega)).trans ((An _ (Ag (by simp only[go_sem];omega))).trans ((An _ (AE L)).trans z));have ap:A_ s.own.Hc.length 999999=true:=Eg;have aq:sub? (s.own.Hc.map AA++y) 0 s.own.Hc.length=T (s.own.Hc.map AA):=by rw[BK,Bn (by simp),ab_ (by simp)]
 have ar:e<d.n:=by omega
 obtain⟨au,aN⟩:=i.r.Azj p (.inr ⟨e,y,J,J,z⟩);have av:(mb==e)=false:=Ag fun x=>au (by simp[x]);simp only[go_sem,V,N,ac,ap,ao,ar,aq,av];have aO:(d.n+1==e)=false:=Ag;have a0:(d.n+1==mb)=false:=Ag;have a1:(h.n+1==mb)=false:=Ag;have a2:(h.n==mb)=false:=Ag;have a3:h.n<d.n:=by omega
 have a4:h.n+1<d.n:=by omega
 have aw:(h.n+1==e)=false:=Ag;have ax:(h.n==e)=false:=Ag;refine Exists.elim (i.start.Awv (f:=⟨[],a,x,x,copyV (List.replicate b (vz 0)) k,h.n⟩) (cb:=h.n+1) (nb:=d.n+1) (sb:=h.n) p (.inr ⟨e,y,J,J,z⟩) (h1:=(((d.new (.cells [.pointer (T ⟨h.n+1,0,M⟩)])).del e).new (.cells (s.own.Hc.map AA++[.pointer (T ⟨h.n+1,0,M⟩)]))).put mb (.cells (AN c (.slice (T ⟨d.n+1,0,M⟩) (s.own.Hc.length+1) 1) a8 s.own))) (Ar (Am (Dm (Am c3 _) _) _) (by simp only[go_sem];omega) _) (by simp only[go_sem];omega)
  (by rw[an];exact Ai _ _) (by simp only[go_sem,a0]) ?_ ?_ J J a9 (by omega) (by omega) (e_ _) (by omega) (by omega) (by omega) (fun j o m w=>?_)) fun a5 n=>?_
 ·have:=(t (h.n+1) (by omega)).trans (Ae (h:=h.new _) _)
  simp only[go_sem,a1,a4,aw,aa];exact this
 ·simp only[go_sem,a2,a3,ax]
  exact ab
 ·have r:j<d.n:=by omega
  have ay:(j==e)=false:=Ag fun x=>w (by simp[x]);simp only[go_sem,r,Ag m,ay];exact(t j (by omega)).trans ((An _ (Ag (by simp only[go_sem];omega))).trans (An _ (AE o)))
 exact⟨h.n+1,h.n,J,a5,i.go n,n.k⟩
end
abbrev LL(i:AY):i_:=.agg #[I i.op,I i.a,I i.b,S i.s]
structure AY.ok(i:AY):Prop where
 lo:i.op=2→ -9223372036854775808≤i.a
 hi:i.op=2→i.a<9223372036854775808
 sl:i.op=4→i.s.length≤100000
def Cf.load(f:Cf)(a:Nat)(b:Int):Vl:=cond (cond ((f.Ac.getD a (vz 0)).k==b) (f.Ac.getD a (vz 0)).may false) (f.Ac.getD a (vz 0)) (vz b)
def Cf.push(f:Cf)(a:Vl):Cf:={f with AI:=f.AI++[a]}
section
variable{mb:Nat}{c:Pc}{o h0 h:AH}{m g:List Nat}{s:Ms}{cb:Nat}{f:Cf}{l:List (Nat×Cf)}{i:AY}
theorem OX(d:f.ok)(a:Nat)(b:Int):(f.load a b).ok:=by
 unfold Cf.load;have e:(f.Ac.getD a (vz 0)).ok:=by
  rw[f_];cases j:f.Ac[a]? with
  |none=>exact Jb 0
  |some k=>exact d.s k (F_ j)
 cases cond ((f.Ac.getD a (vz 0)).k==b) (f.Ac.getD a (vz 0)).may false
 ·exact Jb b
 exact e
theorem Hr.Dx(j:Hr (D1 mb c) o h0 m h g s){d:ad_}{e:E}(k:AR d e h (fun b a=>b=v∧Ext h a)):AR d e h (fun b a=>b=v∧Hr (D1 mb c) o h0 m a g s∧Ext h a):=j.calls k
theorem Lq(b:Hr (D1 mb c) o h0 m h g s)(d:s.Ba=(cb,f)::l)(e:f.AI.length<100000)(a:Vl)(j:a.ok):AR 321 [AA cb,vl a] h (Dn mb c o h0 m h g {s with Ba:=(cb,f.push a)::l} (.tuple #[])):=by obtain⟨u,k,_,n⟩:=b.Od d;refine(SH k a j e).mono ?_;rintro _ v _ ⟨rfl,w,p,_⟩;obtain⟨q,r,t⟩:=n _ _ _ p;exact⟨J,q,r,t⟩
theorem Azh(d:Hr (D1 mb c) o h0 m h g s){a:Vl}{b:List Vl}(e:s.Ba=(cb,f)::l)(j:f.AI=b++[a]):AR 326 [AA cb] h (Dn mb c o h0 m h g {s with Ba:=(cb,{f with AI:=b})::l} (vl a)):=by obtain⟨u,k,_,n⟩:=d.Od e;refine(Agz k j).mono ?_;rintro _ v _ ⟨rfl,w,p,_⟩;obtain⟨q,r,t⟩:=n _ _ _ p;exact⟨J,q,r,t⟩
theorem Ah0(j:Wh h)(k:WC mb c s g h)(n:s.Ba=(cb,f)::l)(d:a<f.Ac.length)(b:Int):K8 325 [AA cb,I a,I b] h (vl (f.load a b)):=by obtain⟨q,r,t,u,v,_,_,e⟩:=k;rw[n]at e;obtain⟨w,x,y,p,_⟩:=e;have:=Ane j p (c_ d) b;unfold Cf.load;rw[f_,c_ d];exact this
def U1(i:AY)(f:Cf):Vl:=cond (i.op==2) (HU i.a) (cond (i.op==3) (Kw (i.a==1)) (cond (i.op==4) (Ae6 i.s) (f.load i.a.toNat i.b)))
theorem Acb(a:Hr (D1 mb c) o h0 m h g s)(b:(i.op==2)=false)(d:(i.op==3)=false)(e:(i.op==4)=false)(j:(i.op==5)=false):AR 252 [AA mb,AA cb,LL i] h (Dn mb c o h0 m h g s (.bool false)):=by refine a.walk fun a=>?_;have k:=a.new (.cells [I i.op,I i.a,I i.b,S i.s]);refine eF Tryz.func252 ?_;simp only[go_sem,V,b,d,e,j];exact⟨g,k⟩
theorem Aca(t:Hr (D1 mb c) o h0 m h g s)(q:s.Ba=(cb,f)::l)(y:f.AI.length<100000)(A:i.ok)(a0:i.op=2∨i.op=3∨i.op=4∨(i.op=5∧∃u:Nat,i.a=u∧u<f.Ac.length)):
  AR 252 [AA mb,AA cb,LL i] h (Dn mb c o h0 m h g {s with Ba:=(cb,f.push (U1 i f))::l} (.bool true)):=by
 refine t.walk fun t=>?_;have r:=t.new (.cells [I i.op,I i.a,I i.b,S i.s]);obtain⟨a4,a5,a6,a7,v,_,_,a1⟩:=t.r.top q;have z:=t.w _ _ v;have w:=r.w;have a8:(cb==h.n)=false:=Ag;refine eF Tryz.func252 ?_;unfold U1;rcases a0 with e|e|e|⟨e,u,N,a2⟩
 ·have a:(i.op==2)=true:=by rw[e];rfl
  simp only[go_sem,V,a];refine AM w 0x13310000 ?_;simp only[go_sem,V];refine Aj (r.Dx (GY i.a)) ?_;rintro _ F d ⟨rfl,b,j⟩;have k:=(j cb (by simp only[go_sem];omega)).trans ((An _ (AE z)).trans v);have K:=b.w _ _ k;simp only[go_sem,V];refine Aj (Lq b q y _ (Kf (A.lo e) (A.hi e))) ?_;rintro _ a d ⟨rfl,n,p,_⟩;simp only[go_sem];exact⟨n,p⟩
 ·have a:(i.op==2)=false:=by rw[e];rfl
  have x:(i.op==3)=true:=by rw[e];rfl
  simp only[go_sem,V,a,x];refine AM w 0x133010000 ?_;simp only[go_sem,V];refine Aj (r.Dx (EN _)) ?_;rintro _ F d ⟨rfl,b,j⟩;have k:=(j cb (by simp only[go_sem];omega)).trans ((An _ (AE z)).trans v);have K:=b.w _ _ k;simp only[go_sem,V];refine Aj (Lq b q y _ (JD _)) ?_;rintro _ a d ⟨rfl,n,p,_⟩;simp only[go_sem];exact⟨n,p⟩
 ·have a:(i.op==2)=false:=by rw[e];rfl
  have x:(i.op==3)=false:=by rw[e];rfl
  have L:(i.op==4)=true:=by rw[e];rfl
  simp only[go_sem,V,a,x,L];refine AM w 0x13310000 ?_;simp only[go_sem,V];refine Aj (r.Dx (Uu _)) ?_;rintro _ F d ⟨rfl,b,j⟩;have k:=(j cb (by simp only[go_sem];omega)).trans ((An _ (AE z)).trans v);have K:=b.w _ _ k;simp only[go_sem,V];refine Aj (Lq b q y _ ⟨(by decide:(-9223372036854775808:Int)≤0),(by decide:(0:Int)<9223372036854775808),A.sl e⟩) ?_;rintro _ a d ⟨rfl,n,p,_⟩;simp only[go_sem];exact⟨n,p⟩
 have a:(i.op==2)=false:=by rw[e];rfl
 have x:(i.op==3)=false:=by rw[e];rfl
 have L:(i.op==4)=false:=by rw[e];rfl
 have a3:(i.op==5)=true:=by rw[e];rfl
 simp only[go_sem,V,a,x,L,a3];refine AM w 0x13310100000 ?_;simp only[go_sem,V];have P:=Ah0 w r.r q a2 i.b;rw[←N]at P;rw[show i.a.toNat=u by rw[N];rfl];refine Aj (r.Dx P) ?_;rintro _ F d ⟨rfl,b,j⟩;have k:=(j cb (by simp only[go_sem];omega)).trans ((An _ (AE z)).trans v);have K:=b.w _ _ k;simp only[go_sem,V];refine Aj (Lq b q y _ (OX a1 u i.b)) ?_;rintro _ a d ⟨rfl,n,p,_⟩;simp only[go_sem];exact⟨n,p⟩
end
section
variable{mb:Nat}{c:Pc}{j h0 h:AH}{d g:List Nat}{s:Ms}{cb:Nat}{f:Cf}{l:List (Nat×Cf)}{i:AY}
theorem Al8(a:Hr (D1 mb c) j h0 d h g s)(b:(i.op==7)=false)(e:(i.op==8)=false)(k:(i.op==9)=false)(m:(i.op==10)=false):AR 253 [AA mb,AA cb,LL i] h (Dn mb c j h0 d h g s (.bool false)):=by refine a.walk fun a=>?_;have n:=a.new (.cells [I i.op,I i.a,I i.b,S i.s]);refine eF Y_ ?_;simp only[go_sem,V,b,e,k,m];exact⟨g,n⟩
def Cf.val(f:Cf)(a:List Vl):Cf:={f with AI:=a}
def Ms.top(s:Ms)(cb:Nat)(f:Cf)(l:List (Nat×Cf)):Ms:={s with Ba:=(cb,f)::l}
theorem KR(a:Hr (D1 mb c) j h0 d h g s){v:Vl}{vs:List Vl}(b:s.Ba=(cb,f)::l)(e:f.AI=vs++[v]):AR 326 [AA cb] h (Dn mb c j h0 d h g (s.top cb (f.val vs) l) (vl v)):=Azh a b e
theorem GP(b:f.ok){a:Vl}{e:List Vl}(k:f.AI=e++[a]):a.ok:=b.v a (by rw[k];simp)
theorem Zs(b:Hr (D1 mb c) j h0 d h g s)(m:s.Ba=(cb,f)::l){k:Vl}{n:List Vl}(o:f.AI=n++[k])(w:i.op=8∨i.op=9):
  AR 253 [AA mb,AA cb,LL i] h (Dn mb c j h0 d h g (s.top cb ((f.val n).push (Q3 (cond (i.op==8) [45] [33]) k)) l) (.bool true)):=by
 refine b.walk fun b=>?_;have p:=b.new (.cells [I i.op,I i.a,I i.b,S i.s]);obtain⟨ac,ad,ae,af,A,_,_,F⟩:=b.r.top m;have ag:=b.w _ _ A;have x:=p.w;have ah:(cb==h.n)=false:=Ag;have y:n.length<100000:=by have:=F.vl;rw[o,Y,W]at this;omega
 have z:(i.op==7)=false:=by rcases w with e|e<;>rw[e]<;>rfl
 refine eF Y_ ?_;rcases w with e|e
 ·have q:(i.op==8)=true:=by rw[e];rfl
  simp only[go_sem,V,z,q];refine AM x 0x1333000000 ?_;simp only[go_sem,V];refine Aj (KR p m o) ?_;rintro _ K L ⟨rfl,N,r,P⟩;simp only[go_sem];refine Aj (r.Dx (UN [45] k)) ?_;rintro _ a0 a1 ⟨rfl,a,a2⟩;obtain⟨a3,a4,a5,a6,t,_,_,a7⟩:=a.r.top J;have a8:=a.w _ _ t;simp only[go_sem,V];refine Aj (Lq a J y _ (Vc _ _)) ?_;rintro _ a9 aa ⟨rfl,u,v,_⟩;simp only[go_sem];exact⟨u,v⟩
 have q:(i.op==8)=false:=by rw[e];rfl
 have ab:(i.op==9)=true:=by rw[e];rfl
 simp only[go_sem,V,z,q,ab];refine AM x 0x1333000000 ?_;simp only[go_sem,V];refine Aj (KR p m o) ?_;rintro _ K L ⟨rfl,N,r,P⟩;simp only[go_sem];refine Aj (r.Dx (UN [33] k)) ?_;rintro _ a0 a1 ⟨rfl,a,a2⟩;obtain⟨a3,a4,a5,a6,t,_,_,a7⟩:=a.r.top J;have a8:=a.w _ _ t;simp only[go_sem,V];refine Aj (Lq a J y _ (Vc _ _)) ?_;rintro _ a9 aa ⟨rfl,u,v,_⟩;simp only[go_sem];exact⟨u,v⟩
theorem Agv(b:Hr (D1 mb c) j h0 d h g s)(t:s.Ba=(cb,f)::l)(F:l.length<100000){e a:Vl}{k:List Vl}(m:f.AI=k++[e]++[a])(K:i.op=7):
  AR 253 [AA mb,AA cb,LL i] h (Dn mb c j h0 d h g ((s.top cb (f.val k) l).Fg (TQ i.s e a).1 (TQ i.s e a).2 cb (f.val k) l) (.bool true)):=by
 refine b.walk fun b=>?_;have u:=b.new (.cells [I i.op,I i.a,I i.b,S i.s]);obtain⟨ag,ah,ai,aj,L,_,_,p⟩:=b.r.top t;have ak:=b.w _ _ L;have al:=u.w;have am:(cb==h.n)=false:=Ag;have N:k.length<100000:=by have:=p.vl;rw[m,Y,Y,W]at this;omega
 have P:(i.op==7)=true:=by rw[K];rfl
 have w:e.ok:=p.v e (by rw[m];simp);have x:a.ok:=p.v a (by rw[m];simp);refine eF Y_ ?_;simp only[go_sem,V,P];refine Aa (KR u t m) ?_;rintro _ h1 a0 ⟨rfl,a1,n,a2⟩;have y:=(a2 h.n (a_ _) (fun a3=>by have:=b.own _ a3;omega));have a4:h.n<h1.n:=a0;have z:=y.1.trans (Ae _);have q:(h.n==h1.n)=false:=Ag;simp only[go_sem,V];have a5:=n.new (.cells [I 0,I 0,S []]);have o:=a5.put (c:=h1.n) (n.free (e_ _) (a_ _)) (E_ b.n (Nat.le_of_lt a4)) (E_ n.m (e_ _)) (.cells [I a.k,I a.a,S a.s]);refine AM o.w 0x130008b06b107d0001500 ?_;obtain⟨an,ao,ap,aq,a6,_,_,ar⟩:=o.r.top J;have au:=o.w _ _ a6;simp only[go_sem,V,z,q];refine Aj (KR (vs:=k) (v:=e) o J J) ?_;rintro _ r a7 ⟨rfl,av,a8,A⟩;have aw:h1.n+1≤r.n:=a7;have a9:=(n.free (h1:=h1.new (.cells [])) (e_ _) (a_ _)).2;have aa:h.n∉a1:=y.2;have ab:=(A h1.n (a_ _) a9).1.trans (Ai _ _);have ac:=(A h.n (by show h.n<h1.n+1;omega) aa).1.trans ((Ab _ q).trans ((An _ q).trans z));have ax:h1.n<r.n:=by omega
 have ay:h.n<r.n:=by omega
 simp only[go_sem,V,ab,ac];refine Aj (a8.Dx (Apk i.s e a w x)) ?_;rintro _ az aA ⟨rfl,ad,aB⟩;simp only[go_sem,V];refine Aj (Pw ad J F N _ (Amo _ _ _ w x) _) ?_;rintro _ aC aD ⟨rfl,ae,af,_⟩;simp only[go_sem];exact⟨ae,af⟩
theorem Axj(b:Wh h)(e:WC mb c s g h)(id:Int)(a: -9223372036854775808≤id)(k:id<9223372036854775808):AR 330 [AA s.hb,I id] h (fun m a=>m=I (s.heap.Ii id)∧a=h):=by obtain⟨r,t,u,v,w,_,⟨x,y,z,A,_,_,n,o,p,q⟩,_⟩:=e;exact An8 b n o p q id a k
theorem LM(a:WC mb c s g h):s.heap.ok:=by obtain⟨e,k,m,n,o,_,⟨p,q,r,t,_,_,u,v,w,b⟩,_⟩:=a;exact b
def Atw(b:Hs)(a:Vl):Nat:=cond (a.k==4) (b.Ii a.a) a.s.length
theorem Agu(k:Hr (D1 mb c) j h0 d h g s)(x:s.Ba=(cb,f)::l){b:Vl}{o:List Vl}(p:f.AI=o++[b])(m:i.op=10):
  AR 253 [AA mb,AA cb,LL i] h (Dn mb c j h0 d h g (s.top cb ((f.val o).push (HU (Atw s.heap b))) l) (.bool true)):=by
 refine k.walk fun k=>?_;have y:=k.new (.cells [I i.op,I i.a,I i.b,S i.s]);obtain⟨ag,ah,ai,aj,F,_,_,z⟩:=k.r.top x;have ak:=k.w _ _ F;have al:=y.w;have am:(cb==h.n)=false:=Ag;have A:o.length<100000:=by have:=z.vl;rw[p,Y,W]at this;omega
 have q:=GP z p;have K:(i.op==7)=false:=by rw[m];rfl
 have L:(i.op==8)=false:=by rw[m];rfl
 have N:(i.op==9)=false:=by rw[m];rfl
 have P:(i.op==10)=true:=by rw[m];rfl
 refine eF Y_ ?_;simp only[go_sem,V,K,L,N,P];refine Aa (KR y x p) ?_;rintro _ a0 a1 ⟨rfl,an,r,ao⟩;simp only[go_sem,V];have a2:=r.new (.cells [I 0,I 0,S []]);have a:=a2.put (c:=a0.n) (r.free (e_ _) (a_ _)) (E_ k.n (Nat.le_of_lt a1)) (E_ r.m (e_ _)) (.cells [I b.k,I b.a,S b.s]);unfold Atw;cases ap:b.k==4
 ·simp only[go_sem]
  refine AM a.w 0x1330000 ?_;simp only[go_sem,V];refine Aj (a.Dx (GY _)) ?_;rintro _ a3 a4 ⟨rfl,e,a5⟩;obtain⟨a6,a7,a8,a9,t,_,_,aa⟩:=e.r.top J;have ab:=e.w _ _ t;simp only[go_sem,V];refine Aj (Lq e J A _ (Kf (by omega) (by have:=q.sl;omega))) ?_;rintro _ ac ad ⟨rfl,u,v,_⟩;simp only[go_sem];exact⟨u,v⟩
 simp only[go_sem];refine AM a.w 0x103101000 ?_;obtain⟨aq,ar,au,av,w,_,_⟩:=a.r.own;have aw:=a.w _ _ w;have ae:=ZS (LM a.r) b.a;have af:=(LM a.r).sm;change s.heap.Ii b.a≤s.heap.cells.length at ae;change s.heap.cells.length+s.heap.ends.length≤40 at af;unfold AN at w;simp only[go_sem,V,w];refine Aj (Axj a.w a.r b.a q.lo q.hi) ?_;rintro _ _ _ ⟨rfl,rfl⟩;simp only[go_sem];refine AM a.w 0x1330000 ?_;simp only[go_sem,V];refine Aj (a.Dx (GY _)) ?_;rintro _ a3 a4 ⟨rfl,e,a5⟩;obtain⟨a6,a7,a8,a9,t,_,_,aa⟩:=e.r.top J;have ab:=e.w _ _ t;simp only[go_sem,V];refine Aj (Lq e J A _ (Kf (n:=((s.heap.Ii b.a:Nat):Int)) (by omega) (by omega))) ?_;rintro _ ac ad ⟨rfl,u,v,_⟩;simp only[go_sem];exact⟨u,v⟩
end
section
variable{mb:Nat}{c:Pc}{o h0 h:AH}{m g:List Nat}{s:Ms}{cb:Nat}{f:Cf}{l:List (Nat×Cf)}{i:AY}
theorem Afm(a:Hr (D1 mb c) o h0 m h g s)(b:(i.op==6)=false)(d:(i.op==23)=false)(e:(i.op==11)=false)(j:(i.op==12)=false)(k:(i.op==13)=false):AR 254 [AA mb,AA cb,LL i] h (Dn mb c o h0 m h g s (.bool false)):=by refine a.walk fun a=>?_;have n:=a.new (.cells [I i.op,I i.a,I i.b,S i.s]);refine eF K_ ?_;simp only[go_sem,V,b,d,e,j,k];exact⟨g,n⟩
theorem Aoy(b:Hr (Qh cb) o h0 m h g f){j:Nat}(d:Vl)(t:d.ok):
  ∃a,Hr (Qh cb) o h0 m (h.put f.sb (.cells (AL (f.Ac.set j d)))) a {f with Ac:=f.Ac.set j d}:=by
 obtain⟨u,N,v,P,q,r,e,w,⟨rfl,rfl,x⟩,k⟩:=b.r;have y:=b.w _ _ x;have n:=r;rw[j_,k_]at n;have z:cb≠f.sb:=fun a=>n.1 (by simp[a]);refine⟨g,b.MZ (Ar b.w y _) (e_ _) ⟨u,_,v,[f.sb],q,r,(Ab _ (Ag z)).trans e,w.same fun c A=>Ab _ (Ag fun a=>?_),⟨by simp,J,Ai _ _⟩,⟨k.v,fun F K=>?_,k.vl⟩⟩ (fun c e=>.inl e) fun c _ L=>Ab _ (Ag fun a=>L (by rw[q];simp[a]))⟩
 ·exact n.2.2.2 c A f.sb (by simp) a
 rcases U_ K with p|p
 ·exact k.s F p
 rw[p];exact t
theorem Abm(b:Hr (D1 mb c) o h0 m h g s)(t:s.Ba=(cb,f)::l){d:Vl}{u:List Vl}(v:f.AI=u++[d])(y:i.op=6)(p:i.a=a)(w:a<f.Ac.length):
  AR 254 [AA mb,AA cb,LL i] h (Dn mb c o h0 m h g (s.top cb {f with AI:=u,Ac:=f.Ac.set a d} l) (.bool true)):=by
 refine b.walk fun b=>?_;have x:=b.new (.cells [I i.op,I i.a,I i.b,S i.s]);obtain⟨ae,af,ag,ah,q,_,⟨z,ai,A⟩,F⟩:=b.r.top t;rw[z]at q;have K:=b.w _ _ q;have aj:=b.w _ _ A;have L:=x.w;have ak:(cb==h.n)=false:=Ag;have N:=GP F v;have P:(i.op==6)=true:=by rw[y];rfl
 refine eF K_ ?_;simp only[go_sem,V,P];refine AM L 0x130300015015000 ?_;simp only[go_sem,V,q,K,p];rw[←p];refine Aj (KR x t v) ?_;rintro _ e a0 ⟨rfl,al,k,a1⟩;obtain⟨a2,am,an,ao,n,_,⟨a3,ap,r⟩,aq⟩:=k.r.top J;rw[a3]at n;have ar:=k.w _ _ n;have a4:=k.w _ _ r;have a5:=(a1 h.n (a_ _) (fun a6=>by have:=b.own _ a6;omega));have au:h.n<e.n:=a0;have a7:=a5.1.trans (Ae _);have a8:=MX f.Ac a d w;change e.get f.sb=T (.cells (AL f.Ac))at r;change f.sb<e.n at a4;change e.get cb=T (.cells [a2,I f.fn,I f.pc,I f.mark,.slice (T ⟨f.sb,0,M⟩) f.Ac.length 3])at n;simp only[go_sem,V,n,a7,p,r,a8,w];obtain⟨av,a9,_,aa⟩:=k.Od J;obtain⟨aw,ab⟩:=Aoy (j:=a) a9 d N;obtain⟨ac,ad,_⟩:=aa _ _ _ ab;exact⟨ac,ad⟩
theorem Abo(a:Hr (D1 mb c) o h0 m h g s)(b:s.Ba=(cb,f)::l){j:Vl}{d:List Vl}(k:f.AI=d++[j])(e:i.op=23):
  AR 254 [AA mb,AA cb,LL i] h (Dn mb c o h0 m h g (s.top cb (f.val d) l) (.bool true)):=by
 refine a.walk fun a=>?_;have n:=a.new (.cells [I i.op,I i.a,I i.b,S i.s]);obtain⟨v,w,x,y,p,_,_,z⟩:=a.r.top b;have A:=a.w _ _ p;have F:(cb==h.n)=false:=Ag;have q:(i.op==6)=false:=by rw[e];rfl
 have r:(i.op==23)=true:=by rw[e];rfl
 refine eF K_ ?_;simp only[go_sem,V,q,r];refine Aa (KR n b k) ?_;rintro _ K L ⟨rfl,t,u,N⟩;simp only[go_sem];exact⟨t,u⟩
theorem Axk(d:Wh h)(e:WC mb c s g h)(id a:Int)(b: -9223372036854775808≤id)(j:id<9223372036854775808):AR 331 [AA s.hb,I id,I a] h (fun k b=>k=.tuple #[I (s.heap.get id a).1,I (s.heap.get id a).2]∧b=h):=by obtain⟨t,u,v,w,x,_,⟨y,z,A,F,_,_,n,p,q,r⟩,_⟩:=e;exact An9 d n p q r id a b j
theorem At9{s:Hs}(b:s.ok)(id a:Int): -9223372036854775808≤(s.get id a).1∧(s.get id a).1<9223372036854775808:=by
 unfold Hs.get;cases cond (decide (a<0)) true (decide ((s.Ii id:Int)≤a))
 ·show-9223372036854775808≤s.cells.getD _ 0∧s.cells.getD _ 0<9223372036854775808
  rw[f_];cases d:s.cells[s.fr (id-1).toNat+a.toNat]? with
  |none=>exact⟨by decide,by decide⟩
  |some e=>exact b.rg e (F_ d)
 exact⟨(by decide:(-9223372036854775808:Int)≤0),(by decide:(0:Int)<9223372036854775808)⟩
theorem Abq(b:Hr (D1 mb c) o h0 m h g s)(q:s.Ba=(cb,f)::l)(N:l.length<100000){d:Vl}{e:List Vl}(r:f.AI=e++[d])(t:i.op=11)(P:i.a=a)(a0:a<f.Ac.length):
  AR 254 [AA mb,AA cb,LL i] h (Dn mb c o h0 m h g ((s.top cb (f.val e) l).Fg (HU (s.heap.get (f.load a 4).a d.a).1) (s.heap.get (f.load a 4).a d.a).2 cb (f.val e) l) (.bool true)):=by
 refine b.walk fun b=>?_;have k:=b.new (.cells [I i.op,I i.a,I i.b,S i.s]);obtain⟨ac,ad,ae,af,w,_,_,u⟩:=b.r.top q;obtain⟨ag,ah,ai,aj,x,_,_⟩:=b.r.own;have y:=b.w _ _ x;have a1:=b.w _ _ w;have ak:=GP u r;have z:=OX u a 4;have a2:e.length<100000:=by have:=u.vl;rw[r,Y,W]at this;omega
 have a3:(i.op==6)=false:=by rw[t];rfl
 have a4:(i.op==23)=false:=by rw[t];rfl
 have a5:(i.op==11)=true:=by rw[t];rfl
 have al:(cb==h.n)=false:=Ag;have v:=x;unfold AN at v;refine eF K_ ?_;simp only[go_sem,V,a3,a4,a5];refine AM k.w 0x100000300cb007b0009810025000 ?_;simp only[go_sem,V,v,y];have A:=Ah0 k.w k.r q a0 4;rw[←P]at A;refine Aj (k.Dx A) ?_;rintro _ n F ⟨rfl,a6,K⟩;have a7:=(K mb (by simp only[go_sem];omega)).trans ((An _ (AE y)).trans v);have am:mb<n.n:=by have:h.n+1≤n.n:=F;omega
 have an:=(K cb (by simp only[go_sem];omega)).trans ((An _ (AE a1)).trans w);have ao:cb<n.n:=by have:h.n+1≤n.n:=F;omega
 simp only[go_sem,V,a7];refine Aj (KR a6 q r) ?_;rintro _ ap aq ⟨rfl,ar,j,au⟩;obtain⟨av,aw,ax,ay,p,_,_⟩:=j.r.own;have az:=j.w _ _ p;unfold AN at p;have a8:(s.top cb (f.val e) l).own.hb=s.own.hb:=J;rw[a8]at p;simp only[go_sem,V,p];refine Aj (Axk j.w j.r (f.load a 4).a d.a z.lo z.hi) ?_;rintro _ _ _ ⟨rfl,rfl⟩;simp only[go_sem,V];refine Aa (j.Dx (GY _)) ?_;rintro _ aA aB ⟨rfl,a9,aC⟩;simp only[go_sem,V];have L:=At9 (LM b.r) (f.load a 4).a d.a;refine Aa (Pw a9 J N a2 _ (Kf L.1 L.2) _) ?_;rintro _ aD aE ⟨rfl,aa,ab,_⟩;simp only[go_sem];exact⟨aa,ab⟩
end
section
variable{mb:Nat}{c:Pc}{m h0 h:AH}{e g:List Nat}{s:Ms}{cb:Nat}{f:Cf}{l:List (Nat×Cf)}{i:AY}
def Ms.hp(s:Ms)(a:Hs):Ms:={s with heap:=a}
theorem Axi(d:Hr (D1 mb c) m h0 e h g s)(id b a:Int)(j: -9223372036854775808≤a)(k:a<9223372036854775808)(n: -9223372036854775808≤id)(o:id<9223372036854775808):
  AR 332 [AA s.hb,I id,I b,I a] h (Dn mb c m h0 e h g (s.hp (s.heap.put id b a).1) (I (s.heap.put id b a).2)):=by
 obtain⟨w,p,_,q⟩:=d.Aq5;refine(An6 p id b a j k n o).mono ?_;rintro _ x _ ⟨rfl,y,r,_⟩;obtain⟨t,u,v⟩:=q _ _ _ r;exact⟨J,t,u,v⟩
theorem At7(b:Hr (D1 mb c) m h0 e h g s)(a:Int)(d: -9223372036854775808≤a)(j:a<9223372036854775808):
  AR 334 [AA s.hb,I a] h (Dn mb c m h0 e h g (s.hp (s.heap.make a).1) (.tuple #[I (s.heap.make a).2.1,I (s.heap.make a).2.2])):=by
 obtain⟨t,k,_,n⟩:=b.Aq5;refine(Am8 k a d j).mono ?_;rintro _ u _ ⟨rfl,v,o,_⟩;obtain⟨p,q,r⟩:=n _ _ _ o;exact⟨J,p,q,r⟩
def Ms.IX(s:Ms)(a:Int)(cb:Nat)(f:Cf)(l:List (Nat×Cf)):Ms:=cond (a !=0) (s.stops 3 a cb f l) s
theorem Abn(n:Hr (D1 mb c) m h0 e h g s)(y:s.Ba=(cb,f)::l)(a0:l.length<100000){d b:Vl}{j:List Vl}(q:f.AI=j++[b]++[d])(o:i.op=12)(a1:i.a=a)(a2:a<f.Ac.length):
  AR 254 [AA mb,AA cb,LL i] h (Dn mb c m h0 e h g (((s.top cb (f.val j) l).hp (s.heap.put (f.load a 4).a b.a d.a).1).IX (s.heap.put (f.load a 4).a b.a d.a).2 cb (f.val j) l) (.bool true)):=by
 refine n.walk fun n=>?_;have a3:=n.new (.cells [I i.op,I i.a,I i.b,S i.s]);obtain⟨am,an,ao,ap,a4,_,_,r⟩:=n.r.top y;have aq:=n.w _ _ a4;have z:=GP r q;have ar:b.ok:=r.v b (by rw[q];simp);have A:=OX r a 4;have a5:(i.op==6)=false:=by rw[o];rfl
 have a6:(i.op==23)=false:=by rw[o];rfl
 have a7:(i.op==11)=false:=by rw[o];rfl
 have a8:(i.op==12)=true:=by rw[o];rfl
 have au:(cb==h.n)=false:=Ag;refine eF K_ ?_;simp only[go_sem,V,a5,a6,a7,a8];refine Aa (KR a3 y q) ?_;rintro _ t a9 ⟨rfl,av,k,aa⟩;have ab:=(aa h.n (a_ _) (fun ac=>by have:=n.own _ ac;omega));have aw:h.n<t.n:=a9;have ad:=ab.1.trans (Ae _);obtain⟨ax,ay,az,aA,F,_,_⟩:=k.r.own;obtain⟨aB,aC,aD,aE,K,_,_,aF⟩:=k.r.top J;have ae:=k.w _ _ F;have af:=k.w _ _ K;have u:=F;unfold AN at u;have L:AR 325 [AA cb,I a,I 4] t (fun d p=>d=vl (f.load a 4)∧Ext t p):=Ah0 (f:=f.val (j++[b])) k.w k.r J a2 4;rw[←a1]at L;simp only[go_sem];refine AM k.w 0x100fb00cb007b0e80009810025000 ?_;simp only[go_sem,V,u,ad];refine Aj (k.Dx L) ?_;rintro _ p aG ⟨rfl,ag,N⟩;have ah:=(N mb ae).trans u;have aH:mb<p.n:=by omega
 have aI:=(N cb af).trans K;have aJ:cb<p.n:=by omega
 simp only[go_sem,V,ah];refine Aj (KR (v:=b) (vs:=j) ag J J) ?_;rintro _ aK aL ⟨rfl,aM,w,aN⟩;obtain⟨aO,aP,aQ,aR,x,_,_⟩:=w.r.own;have aS:=w.w _ _ x;unfold AN at x;simp only[go_sem,V,x];refine⟨J,?_⟩;refine Aj (Axi w (f.load a 4).a b.a d.a z.lo z.hi A.lo A.hi) ?_;rintro _ aT aU ⟨rfl,ai,P,aV⟩;simp only[go_sem];unfold Ms.IX;have aj:(((s.top cb (f.val (j++[b])) l).top cb ((f.val (j++[b])).val j) l).heap.put (f.load a 4).a b.a d.a).2=(s.heap.put (f.load a 4).a b.a d.a).2:=J;rw[aj];cases aW:(s.heap.put (f.load a 4).a b.a d.a).2 !=0
 ·simp only[go_sem]
  exact⟨ai,P⟩
 simp only[go_sem,V];refine Aa (Js P J a0 3 _) ?_;rintro _ aX aY ⟨rfl,ak,al,aZ⟩;simp only[go_sem];exact⟨ak,al⟩
theorem W0(b:Hr (D1 mb c) m h0 e h g s)(p:s.Ba=(cb,f)::l)(y:l.length<100000){a:Vl}{d:List Vl}(n:f.AI=d++[a])(j:i.op=13):
  AR 254 [AA mb,AA cb,LL i] h (Dn mb c m h0 e h g (((s.top cb (f.val d) l).hp (s.heap.make a.a).1).Fg ⟨4,(s.heap.make a.a).2.1,[]⟩ (s.heap.make a.a).2.2 cb (f.val d) l) (.bool true)):=by
 refine b.walk fun b=>?_;have q:=b.new (.cells [I i.op,I i.a,I i.b,S i.s]);obtain⟨a5,a6,a7,a8,z,_,_,r⟩:=b.r.top p;obtain⟨a9,aa,ab,ac,t,_,_⟩:=b.r.own;have A:=b.w _ _ t;have ad:=b.w _ _ z;have u:=GP r n;have F:d.length<100000:=by have:=r.vl;rw[n,Y,W]at this;omega
 have K:(i.op==6)=false:=by rw[j];rfl
 have L:(i.op==23)=false:=by rw[j];rfl
 have N:(i.op==11)=false:=by rw[j];rfl
 have P:(i.op==12)=false:=by rw[j];rfl
 have a0:(i.op==13)=true:=by rw[j];rfl
 have ae:(cb==h.n)=false:=Ag;have w:=t;unfold AN at w;have x: -9223372036854775808≤(s.heap.make a.a).2.1∧(s.heap.make a.a).2.1<9223372036854775808:=by have k:=(LM b.r).sm;unfold Hs.make;cases cond (decide (a.a<0)) true (decide (16<a.a))<;>cases decide (40<(s.heap.ends.length:Int)+s.heap.cells.length+a.a+1)<;>simp only[Aa9,Acf]<;>omega
 refine eF K_ ?_;simp only[go_sem,V,K,L,N,P,a0];refine AM q.w 0x10000030300015000 ?_;simp only[go_sem,V,w,A];refine Aj (KR q p n) ?_;rintro _ af ag ⟨rfl,ah,o,ai⟩;obtain⟨aj,ak,al,am,k,_,_⟩:=o.r.own;have an:=o.w _ _ k;unfold AN at k;have a1:(s.top cb (f.val d) l).own.hb=s.own.hb:=J;rw[a1]at k;simp only[go_sem,V,k];refine Aj (At7 o a.a u.lo u.hi) ?_;rintro _ ao ap ⟨rfl,aq,a2,ar⟩;simp only[go_sem,V];refine Aa (Pw (v:=⟨4,(s.heap.make a.a).2.1,[]⟩) a2 J y F ⟨x.1,x.2,p_ _⟩ _) ?_;rintro _ au av ⟨rfl,a3,a4,aw⟩;simp only[go_sem];exact⟨a3,a4⟩
end
theorem Aej:Cu pr .eql 4 (.tmp 37) (.tmp 40) (.bool false) (.bool false)=T (.bool true):=by kernel_rfl
theorem Aei:Cu pr .eql 4 (.tmp 37) (.tmp 40) (.bool false) (.bool true)=T (.bool false):=by kernel_rfl
theorem Aeh:Cu pr .eql 4 (.tmp 37) (.tmp 40) (.bool true) (.bool false)=T (.bool false):=by kernel_rfl
theorem Aeg:Cu pr .eql 4 (.tmp 37) (.tmp 40) (.bool true) (.bool true)=T (.bool true):=by kernel_rfl
theorem bq0:(false==true)=false:=rfl
theorem bq1:(true==true)=true:=rfl
theorem bq2:(true==false)=false:=rfl
theorem bq3:(false==false)=true:=rfl
section
variable{mb:Nat}{c:Pc}{m h0 h:AH}{j g:List Nat}{s:Ms}{cb:Nat}{f:Cf}{l:List (Nat×Cf)}{i:AY}
theorem An0(a:Hr (D1 mb c) m h0 j h g s)(b:(i.op==16)=false)(d:(i.op==17)=false)(e:(i.op==18)=false)(k:(i.op==19)=false):AR 255 [AA mb,AA cb,LL i] h (Dn mb c m h0 j h g s (.bool false)):=by refine a.walk fun a=>?_;have n:=a.new (.cells [I i.op,I i.a,I i.b,S i.s]);refine eF Z_ ?_;simp only[go_sem,V,b,d,e,k];exact⟨g,n⟩
def Cf.go(f:Cf)(a:Int):Cf:={f with pc:=a}
theorem Hr.pcM(d:Hr (D1 mb c) m h0 j h g s)(e:s.Ba=(cb,f)::l)(k:h.get cb=T (.cells [v,I f.fn,I f.pc,I f.mark,w]))(a:Int):∃b,Hr (D1 mb c) m h0 j (h.put cb (.cells [v,I f.fn,I a,I f.mark,w])) b (s.top cb (f.go a) l)∧Kp h (h.put cb (.cells [v,I f.fn,I a,I f.mark,w])) g b:=by obtain⟨t,n,_,o⟩:=d.Od e;obtain⟨u,p⟩:=TF n k a f.mark;obtain⟨b,q,r⟩:=o _ _ _ p;exact⟨b,q,r⟩
theorem Aq3(d:Wh h)(e:WC mb c s g h)(k:s.Ba=(cb,f)::l){a:Vl}{n:List Vl}(o:f.AI=n++[a]):K8 335 [AA cb] h (vl a):=by obtain⟨q,r,t,u,v,_,_,b⟩:=e;rw[k]at b;obtain⟨w,x,y,p,_⟩:=b;exact ZV d p o
theorem An2(a:Hr (D1 mb c) m h0 j h g s)(e:s.Ba=(cb,f)::l)(k:i.op=16):
  AR 255 [AA mb,AA cb,LL i] h (Dn mb c m h0 j h g (s.top cb (f.go i.a) l) (.bool true)):=by
 refine a.walk fun a=>?_;have b:=a.new (.cells [I i.op,I i.a,I i.b,S i.s]);obtain⟨q,r,t,u,d,_,_,v⟩:=b.r.top e;have w:=b.w _ _ d;have n:(i.op==16)=true:=by rw[k];rfl
 refine eF Z_ ?_;simp only[go_sem,V,n,d];obtain⟨o,p,_⟩:=b.pcM e d i.a;exact⟨o,p⟩
theorem An1(a:Hr (D1 mb c) m h0 j h g s)(n:s.Ba=(cb,f)::l){d:Vl}{e:List Vl}(q:f.AI=e++[d])(o:i.op=17):
  AR 255 [AA mb,AA cb,LL i] h (Dn mb c m h0 j h g (s.top cb (cond (d.a==0) ((f.val e).go i.a) (f.val e)) l) (.bool true)):=by
 refine a.walk fun a=>?_;have r:=a.new (.cells [I i.op,I i.a,I i.b,S i.s]);obtain⟨P,a0,a1,a2,t,_,_,a3⟩:=a.r.top n;have a4:=a.w _ _ t;have a5:(cb==h.n)=false:=Ag;have u:(i.op==16)=false:=by rw[o];rfl
 have v:(i.op==17)=true:=by rw[o];rfl
 refine eF Z_ ?_;simp only[go_sem,V,u,v];refine Aa (KR r n q) ?_;rintro _ w x ⟨rfl,y,b,z⟩;have A:=(z h.n (a_ _) (fun F=>by have:=a.own _ F;omega));have a6:h.n<w.n:=x;have K:=A.1.trans (Ae _);obtain⟨a7,a8,a9,aa,k,_,_,ab⟩:=b.r.top J;have ac:=b.w _ _ k;cases p:d.a==0
 ·simp only[go_sem,p]
  exact⟨y,b⟩
 simp only[go_sem,V,p,k,K];obtain⟨L,N,_⟩:=b.pcM J k i.a;exact⟨L,N⟩
theorem Ru(p:Hr (D1 mb c) m h0 j h g s)(a:s.Ba=(cb,f)::l){u:Vl}{F:List Vl}(v:f.AI=F++[u])(w:i.op=18∨i.op=19):
  AR 255 [AA mb,AA cb,LL i] h (Dn mb c m h0 j h g (s.top cb (cond ((u.a==1)==(i.op==19)) (f.go i.a) (f.val F)) l) (.bool true)):=by
 refine p.walk fun p=>?_;have b:=p.new (.cells [I i.op,I i.a,I i.b,S i.s]);obtain⟨aa,ab,ac,ad,N,_,_,ae⟩:=b.r.top a;have af:=b.w _ _ N;have ag:(cb==h.n)=false:=Ag (by have:=p.r.top a;obtain⟨_,_,_,_,P,_⟩:=this;have:=p.w _ _ P;omega);have K:(i.op==16)=false:=by rcases w with e|e<;>rw[e]<;>rfl
 have L:(i.op==17)=false:=by rcases w with e|e<;>rw[e]<;>rfl
 refine eF Z_ ?_;rcases w with e|e
 ·have x:(i.op==18)=true:=by rw[e];rfl
  have q:(i.op==19)=false:=by rw[e];rfl
  simp only[go_sem,V,K,L,x,q];refine AM b.w 0x10980003b015068000 ?_;simp only[go_sem,V,q];refine Aj (b.Dx (Aq3 b.w b.r a v)) ?_;rintro _ y z ⟨rfl,d,A⟩;have a0:h.n<y.n:=z;have r:=(A h.n (a_ _)).trans (Ae _);obtain⟨a1,a2,a3,a4,k,_,_,a5⟩:=d.r.top a;have a6:=d.w _ _ k;cases t:u.a==1
  ·simp only[go_sem,V,t,k,r,Aej,bq3]
   obtain⟨n,o,_⟩:=d.pcM a k i.a;exact⟨n,o⟩
  simp only[go_sem,V,t,r,Aeh,bq2];refine Aa (KR d a v) ?_;rintro _ a7 a8 ⟨rfl,n,o,a9⟩;simp only[go_sem];exact⟨n,o⟩
 have x:(i.op==18)=false:=by rw[e];rfl
 have q:(i.op==19)=true:=by rw[e];rfl
 simp only[go_sem,V,K,L,x,q];refine AM b.w 0x10980003b015068000 ?_;simp only[go_sem,V,q];refine Aj (b.Dx (Aq3 b.w b.r a v)) ?_;rintro _ y z ⟨rfl,d,A⟩;have a0:h.n<y.n:=z;have r:=(A h.n (a_ _)).trans (Ae _);obtain⟨a1,a2,a3,a4,k,_,_,a5⟩:=d.r.top a;have a6:=d.w _ _ k;cases t:u.a==1
 ·simp only[go_sem,V,t,r,Aei,bq0]
  refine Aa (KR d a v) ?_;rintro _ a7 a8 ⟨rfl,n,o,a9⟩;simp only[go_sem];exact⟨n,o⟩
 simp only[go_sem,V,t,k,r,Aeg,bq1];obtain⟨n,o,_⟩:=d.pcM a k i.a;exact⟨n,o⟩
end
theorem Ar2:pr.CY 123=T (.slice 151):=by kernel_rfl
theorem Atk:Cu pr .eql 123 (.tmp 3) (.const (.slice M 0 0)) (.slice M 0 0) (.slice M 0 0)=T (.bool true):=by kernel_rfl
theorem Alv(d e:Operand)(a:Addr)(b c:Nat):Cu pr .eql 123 d e (.slice (T a) b c) (.slice M 0 0)=T (.bool false):=by have f:Cu pr .eql 123 d e (.slice (T a) b c) (.slice M 0 0)=ED pr .eql 123 d e (.slice (T a) b c) (.slice M 0 0):=J;rw[f];unfold ED;have i:(Fz (.slice (T a) b c)&&Fz (.slice M 0 0))=false:=J;rw[i,Ar2];rfl
section
variable{h:AH}{g:List Nat}
theorem PT(i:Wh h)(j:∀k∈g,k<h.n){v:i_}{args:List Vl}(m:(args=[]∧v=.slice M 0 0)∨(∃a c d,v=.slice (T ⟨a,c,M⟩) args.length 3∧h.get a=T (.cells d)∧sub? d c (args.length*3)=T (AL args)))(u:args.length≤100000):
  AR 90 [v] h (fun f e=>WB e g f args∧Ext h e):=by
 refine eF Tryz.func90 ?_;rcases m with⟨rfl,rfl⟩|⟨a,c,d,rfl,e,o⟩
 ·simp only[go_sem,Atk]
  exact⟨.inl ⟨J,_,_,J⟩,Ext.refl h⟩
 have p:=i _ _ e;simp only[go_sem,V,Alv];rcases ai_ args.length with q|f
 ·have r:=C_ q
  subst r;simp only[go_sem,Z];exact⟨.inl ⟨J,_,_,J⟩,Ext.new h _⟩
 rw[JA _ _ _ _ f,An _ (AE p),e,II,o];have r:=HH (h:=h.new (.cells [])) (sz:=3) (len:=0) (n:=args.length) (b:=h.n) (l:=[]) (new:=AL args) (Ae _) J f (by omega) (by omega) (by omega) (Mv args) (Ck args);simp only[go_sem,r];refine⟨.inr ⟨h.n+1,[],by simp,?_,fun s=>by have:=j _ s;omega⟩,fun w t=>?_⟩
 ·simp only[go_sem]
 simp only[go_sem,t]
end
theorem Uq(l a:List Vl)(b:E):sub? (AL (l++a)++b) (l.length*3) (a.length*3)=T (AL a):=by rw[E7 (by simp only[Y,Ck];omega),EZ,o_];rw[List.drop_left' (Ck l),ab_ (Ck a)]
section
variable{mb:Nat}{c:Pc}{j h0 h:AH}{o g:List Nat}{s:Ms}{cb:Nat}{f:Cf}{l:List (Nat×Cf)}{i:AY}{code:List AY}{t zs:List Int}
theorem Aoz(a:Hr (D1 mb c) j h0 o h g s)(b:(i.op==20)=false)(d:(i.op==21)=false)(e:(i.op==22)=false):AR 256 [AA mb,AA cb,LL i] h (Dn mb c j h0 o h g s (.bool false)):=by refine a.walk fun a=>?_;have k:=a.new (.cells [I i.op,I i.a,I i.b,S i.s]);refine eF aa_ ?_;simp only[go_sem,V,b,d,e];exact⟨g,k⟩
theorem Ao1(a:Hr (D1 mb c) j h0 o h g s)(d:s.Ba=(cb,f)::l)(n:l.length<100000)(p:∀q∈l,q.2.AI.length<100000){b:Vl}{e:List Vl}(k:f.AI=e++[b])(m:i.op=21):
  AR 256 [AA mb,AA cb,LL i] h (Dn mb c j h0 o h g ((s.top cb (f.val e) l).ends b l) (.bool true)):=by
 refine a.walk fun a=>?_;have r:=a.new (.cells [I i.op,I i.a,I i.b,S i.s]);obtain⟨K,L,N,P,u,_,_,v⟩:=a.r.top d;have a0:=a.w _ _ u;have w:=GP v k;have a1:(cb==h.n)=false:=Ag;have x:(i.op==20)=false:=by rw[m];rfl
 have y:(i.op==21)=true:=by rw[m];rfl
 refine eF aa_ ?_;simp only[go_sem,V,x,y];refine Aa (KR r d k) ?_;rintro _ a2 a3 ⟨rfl,a4,z,a5⟩;simp only[go_sem,V];refine Aa (Aal z J n p b w) ?_;rintro _ a6 a7 ⟨rfl,A,F,a8⟩;simp only[go_sem];exact⟨A,F⟩
theorem Ao0(a:Hr (D1 mb c) j h0 o h g s)(d:s.Ba=(cb,f)::l)(e:l.length<100000)(k:∀m∈l,m.2.AI.length<100000)(b:i.op=22):
  AR 256 [AA mb,AA cb,LL i] h (Dn mb c j h0 o h g (s.ends (vz i.a) l) (.bool true)):=by
 refine a.walk fun a=>?_;have n:=a.new (.cells [I i.op,I i.a,I i.b,S i.s]);have p:(i.op==20)=false:=by rw[b];rfl
 have q:(i.op==21)=false:=by rw[b];rfl
 have r:(i.op==22)=true:=by rw[b];rfl
 refine eF aa_ ?_;simp only[go_sem,V,p,q,r];refine Aa (n.Dx (La i.a)) ?_;rintro _ x y ⟨rfl,u,z⟩;simp only[go_sem,V];refine Aa (Aal u d e k _ (Jb _)) ?_;rintro _ A F ⟨rfl,v,w,K⟩;simp only[go_sem];exact⟨v,w⟩
def YY(s:Ms)(t zs:List Int)(a:Nat)(d:List Vl)(cb:Nat)(f:Cf)(l:List (Nat×Cf))(b:Ms):Prop:=
 (7≤l.length∧b=s.stops 3 3 cb f l)∨(l.length<7∧∃e k,b={s with Ba:=(e,⟨[],a,Bb t a,Bb t a,copyV (List.replicate (Bb zs a).toNat (vz 0)) d,k⟩)::s.Ba})
theorem AAf(d:Hr (Qh cb) j h0 o h g f){e n:List Vl}(p:f.AI=e++n)(k:h.get cb=T (.cells [.slice (T ⟨a,0,M⟩) f.AI.length 3,I f.fn,I f.pc,I f.mark,v])):
  ∃b,Hr (Qh cb) j h0 o (h.put cb (.cells [.slice (T ⟨a,0,M⟩) e.length 3,I f.fn,I f.pc,I f.mark,v])) b (f.val e):=by
 obtain⟨F,K,L,N,q,r,m,u,w,x⟩:=d.r;have y:=d.w _ _ m;rw[m]at k;simp only[s_,AO.cells.injEq,t_,true_and,and_true]at k;obtain⟨rfl,rfl⟩:=k;rcases u with⟨_,b,_⟩|⟨P,a0,b,rfl,z⟩
 ·cases b
 injection b with b _ _
 injection b with b
 injection b with b _ _
 subst b;exact Ajr d p q r z w (Ar d.w y _) (e_ _) (Ai _ _) (fun c _ A=>Ab _ (Ag A)) x
theorem Ao2(z:Hr (D1 mb c) j h0 o h g s)(aI:Cd j c code t zs)(ac:s.Ba=(cb,f)::l)(aW:l.length<100){d m:List Vl}(P:f.AI=d++m)(av:i.op=20)(aw:i.b=m.length)(ax:i.a=a)(ay:t[a]? =T x)(az:zs[a]? =T (b:Int))(aJ:b≤100000):
  AR 256 [AA mb,AA cb,LL i] h (fun r k=>∃e,YY (s.top cb (f.val d) l) t zs a m cb (f.val d) l e∧Dn mb c j h0 o h g e (.bool true) r k):=by
 obtain⟨aX,aY,aZ,aK⟩:=i;simp only at av aw ax;subst av aw ax;have u:=z.start.new (.cells [I 20,I a,I m.length,S aK]);obtain⟨b0,aA,b1,b2,a2,aL,b3,aB⟩:=z.r.top ac;have ad:=z.w _ _ a2;have b4:(cb==h.n)=false:=Ag;have aM:((20:Int)==20)=true:=J;have b5:f.AI.length=d.length+m.length:=by rw[P,Y]
 have b6:=aB.vl;have aN:l_ .i64 ((f.AI.length:Int)-m.length)=d.length:=by rw[Ap]<;>omega
 have aO:l_ .i64 (((0:Nat):Int)-((0:Nat):Int))=((0:Nat):Int):=by rw[Ap]<;>omega
 have aP:∀p∈m,p.ok:=fun p aQ=>aB.v p (by rw[P];simp[aQ]);have aC:cb∈g:=by obtain⟨y,A,F,q,L,_,_,n⟩:=z.r;rw[ac]at n;obtain⟨aD,w,K,⟨_,_,_,_,v,_⟩,_⟩:=n;rw[q,K,v];simp
 have ae:∀{A:i_} {F:AH} {w:List Nat},Hr (D1 mb c) j h g F w (s.top cb (f.val d) l)→WB F w A m→∃a0 a3,F.get mb=T (.cells (AN c a0 a3 (s.top cb (f.val d) l).own))∧(∃p af,a0=.slice p (l.length+1) af)∧mb<F.n∧
   (l.length<7→AR 170 [AA mb,I a,A] F (fun r k=>∃e,YY (s.top cb (f.val d) l) t zs a m cb (f.val d) l e∧Dn mb c j h0 o h g e (.tuple #[]) r k))∧
   (7≤l.length→AR 333 [AA mb,I 3,I 3] F (fun r k=>∃e,YY (s.top cb (f.val d) l) t zs a m cb (f.val d) l e∧Dn mb c j h0 o h g e (.tuple #[]) r k)):=by
  intro A F w y a4;obtain⟨a0,a3,a9,aa,a1,ag,ab⟩:=y.r.own;have L:=(Lr (s:=s.top cb (f.val d) l) J).2;refine⟨a0,a3,a1,?_,y.w _ _ a1,fun N=>?_,fun N=>?_⟩
  ·rcases ag with⟨x,_⟩|⟨ah,aE,x,_⟩
   ·rw[x]at L;cases L
   exact⟨_,_,by rw[x,L]⟩
  ·refine(Wj y aI (by show l.length+1<1000;omega) ay az aJ a4 aP).mono ?_
   rintro r a5 _ ⟨a6,a7,rfl,q,n,v⟩;refine⟨_,.inr ⟨N,a6,a7,J⟩,J,q,?_⟩;have a8:Bb t a=x:=by unfold Bb;rw[f_,ay];rfl
   have K:Bb zs a=b:=by unfold Bb;rw[f_,az];rfl
   rw[a8,K,M_];exact⟨z.go n,n.k⟩
  refine(Js y (cb:=cb) (f:=f.val d) (l:=l) J (by omega) 3 3).mono ?_;rintro r a5 _ ⟨rfl,q,n,v⟩;exact⟨_,.inl ⟨N,J⟩,J,q,z.go n,n.k⟩
 refine eF aa_ ?_;simp only[go_sem,V,aM];refine AM u.w 0x10010110000 ?_;rcases aL with⟨a1,rfl,rfl⟩|⟨ah,aE,rfl,rfl,aF⟩
 ·rw[P,List.append_eq_nil_iff]at a1
  obtain⟨rfl,rfl⟩:=a1;simp only[go_sem,V,a2,ad,Z,aO];refine Aa (Ok.wf u.w (PT (g:=g) u.w u.own (.inl ⟨J,J⟩) (p_ _))) ?_;rintro A k K ⟨a6,a4,r⟩;have ai:=u.ext K a6 r;have a7:=(r cb (by simp only[go_sem];omega)).trans ((An _ (AE ad)).trans a2);have aR:cb<k.n:=by have:h.n+1≤k.n:=K;omega
  simp only[go_sem,V,a7];obtain⟨aD,aj,_,b⟩:=ai.Od ac;have aG:f.val []=f:=by unfold Cf.val;rw[show([]:List Vl)=f.AI by rw[P];rfl]
  rw[aG]at ae⊢;obtain⟨ag,ak⟩:=TF aj a7 f.pc f.mark;obtain⟨w,y,al⟩:=b _ _ _ ak;have am:WB (k.put cb (.cells [.slice M 0 0,I f.fn,I f.pc,I f.mark,aA])) w A []:=by
   rcases a4 with p|⟨L,an,r,a8,a9⟩
   ·exact .inl p
   have ao:(L==cb)=false:=Ag fun x=>a9 (by rw[x];exact aC);exact .inr ⟨L,an,r,(Ab _ ao).trans a8,(al L (a6 _ _ a8) a9).2⟩
  have a1:=(r h.n (a_ _)).trans (Ae _);have aS:h.n<k.n:=K;have ap:(h.n==cb)=false:=Ag;obtain⟨a0,a3,aa,⟨p,af,rfl⟩,aT,aq,ar⟩:=ae y am;unfold AN at aa;simp only[go_sem,aa];cases ab:decide ((8:Int)≤((l.length+1:Nat):Int))
  ·have:=Adh ab
   simp only[go_sem,V,a1,ap];refine Aa (aq (by omega)) ?_;rintro _ a5 au ⟨e,N,rfl,q,n,v⟩;simp only[go_sem];exact⟨e,N,J,q,n,v⟩
  have:=Acw ab;simp only[go_sem];refine Aa (ar (by omega)) ?_;rintro _ a5 au ⟨e,N,rfl,q,n,v⟩;simp only[go_sem];exact⟨e,N,J,q,n,v⟩
 have aG:d.length≤f.AI.length:=by omega
 have aU:f.AI.length-d.length=m.length:=by omega
 have aV:=z.w _ _ aF;have aH:=Uq d m aE;rw[←P]at aH;simp only[go_sem,V,a2,ad,aN,aG,e_,aU];refine Aa (Ok.wf u.w (PT (g:=g) (args:=m) u.w u.own (.inr ⟨ah,_,_,J,(An _ (AE aV)).trans aF,aH⟩) (by omega))) ?_;rintro A k K ⟨a6,a4,r⟩;have ai:=u.ext K a6 r;have a7:=(r cb (by simp only[go_sem];omega)).trans ((An _ (AE ad)).trans a2);have aR:cb<k.n:=by have:h.n+1≤k.n:=K;omega
 simp only[go_sem,V,a7,aG,p_,e_,aj_];obtain⟨aD,aj,_,b⟩:=ai.Od ac;obtain⟨ag,ak⟩:=AAf aj P a7;obtain⟨w,y,al⟩:=b _ _ _ ak;have am:WB (k.put cb (.cells [.slice (T ⟨ah,0,M⟩) d.length 3,I f.fn,I f.pc,I f.mark,aA])) w A m:=by
  rcases a4 with p|⟨L,an,r,a8,a9⟩
  ·exact .inl p
  have ao:(L==cb)=false:=Ag fun x=>a9 (by rw[x];exact aC);exact .inr ⟨L,an,r,(Ab _ ao).trans a8,(al L (a6 _ _ a8) a9).2⟩
 have a1:=(r h.n (a_ _)).trans (Ae _);have aS:h.n<k.n:=K;have ap:(h.n==cb)=false:=Ag;obtain⟨a0,a3,aa,⟨p,af,rfl⟩,aT,aq,ar⟩:=ae y am;unfold AN at aa;simp only[go_sem,aa];cases ab:decide ((8:Int)≤((l.length+1:Nat):Int))
 ·have:=Adh ab
  simp only[go_sem,V,a1,ap];refine Aa (aq (by omega)) ?_;rintro _ a5 au ⟨e,N,rfl,q,n,v⟩;simp only[go_sem];exact⟨e,N,J,q,n,v⟩
 have:=Acw ab;simp only[go_sem];refine Aa (ar (by omega)) ?_;rintro _ a5 au ⟨e,N,rfl,q,n,v⟩;simp only[go_sem];exact⟨e,N,J,q,n,v⟩
end
structure Ub(hs:AH)(v:i_)(xs:List Int):Prop where
 r:(xs=[]∧∃a k,v=.slice a 0 k)∨(∃b r,v=.slice (T ⟨b,0,M⟩) xs.length 1∧hs.get b=T (.ro (xs.map I++r)))
 k:∀x∈xs,-9223372036854775808≤x∧x<9223372036854775808
 l:xs.length≤100000
section
variable{mb:Nat}{c:Pc}{hs h0 h:AH}{m g:List Nat}{s:Ms}{cb:Nat}{f:Cf}{l:List (Nat×Cf)}{i:AY}{xs:List Int}{p:Value}
theorem Ub.slice{h:AH}(d:Ub h p xs):∃a b,p=.slice a xs.length b:=by
 rcases d.r with⟨rfl,a,b,rfl⟩|⟨e,j,rfl,_⟩
 ·exact⟨a,b,J⟩
 exact⟨_,_,J⟩
theorem Alh(a:Hr (D1 mb c) hs h0 m h g s)(b:(i.op==14)=false)(d:(i.op==15)=false):AR 257 [AA mb,AA cb,LL i,p] h (Dn mb c hs h0 m h g s (.tuple #[])):=by refine a.walk fun a=>?_;have e:=a.new (.cells [I i.op,I i.a,I i.b,S i.s]);refine eF ak_ ?_;simp only[go_sem,V,b,d];exact⟨g,e⟩
def Ms.At4(s:Ms)(a:Int):Ms:={s with CA:=a}
theorem Alj(a:Hr (D1 mb c) hs h0 m h g s)(N:Wh hs)(n:Ub hs p xs)(o:s.Ba=(cb,f)::l)(P:l.length<100000)(a0:f.AI.length<100000)(a1:i.op=14){j:Nat}(q:s.CA=j)(ag:j≤100000):
  AR 257 [AA mb,AA cb,LL i,p] h (Dn mb c hs h0 m h g (cond (decide ((xs.length:Int)≤s.CA)) (s.stops 1 0 cb f l) ((s.top cb (f.push (HU (Bb xs j))) l).At4 (s.CA+1))) (.tuple #[])):=by
 refine a.walk fun a=>?_;have r:=a.new (.cells [I i.op,I i.a,I i.b,S i.s]);obtain⟨ah,ai,aj,ak,x,_,_,al⟩:=a.r.top o;obtain⟨am,an,ao,ap,y,_,_⟩:=a.r.own;have t:=a.w _ _ y;have a2:=a.w _ _ x;have aq:(cb==h.n)=false:=Ag;have ar:(mb==h.n)=false:=Ag;have z:(i.op==14)=true:=by rw[a1];rfl
 have d:=y;unfold AN at d;have a3:s.own.CA=s.CA:=J;rw[a3]at d;obtain⟨au,av,u⟩:=n.slice;refine eF ak_ ?_;cases c1:decide ((xs.length:Int)≤s.CA)
 ·have aw:=Adh c1
  have b:j<xs.length:=by omega
  rcases n.r with⟨u,_⟩|⟨a4,a5,rfl,A⟩
  ·rw[u]at b;cases b
  have F:=(a.x a4 (N _ _ A)).trans A;have a6:=a.w _ _ F;have a7:nth? (xs.map I++a5) j=T (I (Bb xs j)):=by rw[Du,I_ (by rw[v_];exact b),L_];unfold Bb;rw[f_,c_ b];rfl
  simp only[go_sem,V,z,d,t,c1];refine AM r.w 0x1331010000000 ?_;rw[q]at d;simp only[go_sem,V,d,t,F,a6,a7,b];have K:=n.k (Bb xs j) (by unfold Bb;rw[f_,c_ b];exact List.getElem_mem b);refine Aj (r.Dx (GY (Bb xs j))) ?_;rintro _ a8 L ⟨rfl,e,a9⟩;have aa:=(a9 cb (by simp only[go_sem];omega)).trans ((An _ (AE a2)).trans x);have ax:=e.w _ _ aa;simp only[go_sem,V];refine Aj (Lq e o a0 _ (Kf K.1 K.2)) ?_;rintro _ ay L ⟨rfl,az,v,_⟩;obtain⟨aA,aB,aC,aD,w,_,_⟩:=v.r.own;have aE:=v.w _ _ w;have k:=w;unfold AN at k;have ab:Ms.own {s with Ba:=(cb,f.push (HU (Bb xs j)))::l}=(s.top cb (f.push (HU (Bb xs j))) l).own:=J;rw[ab]at k;have ac:(s.top cb (f.push (HU (Bb xs j))) l).own.CA=(j:Int):=q;rw[ac]at k;have ad:l_ .i64 ((j:Int)+1)=s.CA+1:=by rw[q,Ap]<;>omega
  simp only[go_sem,V,k,ad];obtain⟨ae,af,_⟩:=v.Mq w ((s.top cb (f.push (HU (Bb xs j))) l).At4 (s.CA+1)) J J J J;exact⟨ae,af⟩
 rw[u];simp only[go_sem,V,z,d,t,c1];refine Aa (Js r o P 1 0) ?_;rintro _ a8 L ⟨rfl,b,e,k⟩;simp only[go_sem];exact⟨b,e⟩
def Ms.outs(s:Ms)(a:List H):Ms:={s with out:=a}
theorem Hr.Awo(u:Hr (D1 mb c) hs h0 m h g s){d:AH}{nb:Nat}(e:H)(q:h.get mb=T (.cells (AN c v w s.own)))(a2:Wh d)(a3:h.n≤d.n)
  (a4:d.get mb=T (.cells (AN c v (.slice (T ⟨nb,0,M⟩) (s.out.length+1) 1) s.own))) (a5:d.get nb=T (.cells (s.out.map S++[S e]))) (a6:h.n≤nb) (x:∀a,a<h.n→a≠mb→(∀n y,w≠.slice (T ⟨a,0,M⟩) y n)→d.get a=h.get a):
  ∃o,Hr (D1 mb c) hs h0 m d o (s.outs (s.out++[e])):=by
 obtain⟨ad,A,_,n⟩:=u.Awn;refine(fun⟨o,a,_⟩=>⟨o,a⟩:(∃o,Hr (D1 mb c) hs h0 m d o (s.outs (s.out++[e]))∧Kp h d g o)→_) ?_;obtain⟨K,L,N,a7,z,a8,P,F,a9⟩:=A.r;rw[P]at q;have aa:K=v∧L=w:=by unfold AN at q;simp only[s_,AO.cells.injEq,t_]at q;exact⟨q.2.2.2.2.2.2.2.2.1,q.2.2.2.2.2.2.2.2.2.2.1⟩
 obtain⟨rfl,rfl⟩:=aa;have r:=a8;rw[j_,k_]at r;have a0:∀a,a∉a7→∀n y,L≠.slice (T ⟨a,0,M⟩) y n:=fun a x n y j=>by
  rcases a9 with⟨_,b,_⟩|⟨A,b,rfl,_⟩
  ·rw[j]at b;cases b
  rw[j]at b;injection b with b _ _
  injection b with b
  injection b with b _ _
  exact x (by simp[b])
 have ae:=u.w _ _ P;refine n d (mb::(N++[nb])) (s.outs (s.out++[e])) J J J (A.MZ a2 a3 ⟨K,_,N,[nb],J,?_,a4,F.same fun a k=>x a (F.lt u.w a k) (fun j=>r.1 (by rw[←j];simp[k])) (a0 a fun b=>r.2.2.2 a k a b J),.inr ⟨nb,?_,J,?_⟩⟩ (fun a k=>?_) fun a ab a1=>x a ab (fun j=>a1 (by rw[z];simp[j])) (a0 a fun b=>a1 (by rw[z];simp[b])))
 ·rw[j_,k_]
  refine⟨fun t=>?_,r.2.1,by simp,fun a k af ac j=>?_⟩
  ·rcases h_.1 t with t|t
   ·exact r.1 (by simp[t])
   rcases d_.1 t with rfl;omega
  rcases d_.1 ac with rfl
  have:=F.lt u.w a k;omega
 ·show Value.slice (T ⟨nb,0,M⟩) (s.out.length+1) 1=.slice (T ⟨nb,0,M⟩) (s.out++[e]).length 1
  rw[Y];rfl
 ·rw[a5]
  show T (AO.cells (s.out.map S++[S e]))=T (.cells ((s.out++[e]).map S));simp
 rcases m_.1 k with rfl|b
 ·exact .inl (by rw[z];simp)
 rcases h_.1 b with b|b
 ·exact .inl (by rw[z];simp[b])
 rcases d_.1 b with rfl;exact .inr a6
end
section
variable{mb:Nat}{c:Pc}{hs h0 h:AH}{g0 g:List Nat}{s:Ms}{cb:Nat}{f:Cf}{l:List (Nat×Cf)}{i:AY}{xs:List Int}{xv:Value}
theorem Awj(k:Hr (D1 mb c) hs h0 g0 h g s){t:Vl}{d:List Vl}(u:s.Ba=(cb,f)::l)(x:f.AI=d++[t]):AR 326 [AA cb] h (fun y m=>Dn mb c hs h0 g0 h g (s.top cb (f.val d) l) (vl t) y m∧m.get mb=h.get mb):=by
 obtain⟨n,v,a6,z,a,w,F,e⟩:=k.r;rw[u]at e;obtain⟨K,o,p,e,L⟩:=e;have N:g=(n++v)++K++o:=by rw[z,p];simp
 subst N;have P:=k.Zz (A:=Qh cb) e;refine(Agz P x).mono ?_;rintro _ m _ ⟨rfl,q,r,_⟩;have a0:q.Nodup:=by obtain⟨_,_,_,_,p,a,_⟩:=r.r;rw[p];exact a
 obtain⟨a1,j,a2,a3⟩:=k.ZA a r a0;have a4:mb∈n:=by obtain⟨_,_,_,_,a5,_⟩:=w;rw[a5];simp
 refine⟨⟨J,_,a3 (s.top cb (f.val d) l) ⟨n,v,q++o,by simp,a1,?_,?_,q,o,J,r.r,L.same fun b a=>j b (by simp[a])⟩,a2⟩,j mb (by simp[a4])⟩
 ·have:Ms.own (s.top cb (f.val d) l)=s.own:=by unfold Ms.own Ms.top;rw[u];rfl
  rw[this];exact(MoK mb c).same w fun b a=>j b (by simp[a])
 exact(WD s.hb).same F fun b a=>j b (by simp[a])
theorem WC.Azk{s:Ms}(m:WC mb c s g h)(j:h.get mb=T (.cells (AN c v (.slice (T ⟨a,0,M⟩) b d) s.own))):mb≠a:=by
 obtain⟨t,u,w,x,y,⟨z,n,A,F,K,o,p,L,q⟩,N,P⟩:=m;rw[p]at j;have k:n=.slice (T ⟨a,0,M⟩) b d:=by unfold AN at j;simp only[s_,AO.cells.injEq,t_]at j;exact j.2.2.2.2.2.2.2.2.2.2.1
 rcases q with⟨_,e,_⟩|⟨a0,e,rfl,_⟩
 ·rw[k]at e;cases e
 rw[k]at e;injection e with e _ _
 injection e with e
 injection e with e _ _
 subst e;intro r;subst r;simp at o
theorem Ali(d:Hr (D1 mb c) hs h0 g0 h g s)(w:s.Ba=(cb,f)::l)(ak:l.length<100000){n:Vl}{y:List Vl}(z:f.AI=y++[n])(a7:i.op=15)(al:∃a8 a9 aa,xv=.slice a8 a9 aa):
  AR 257 [AA mb,AA cb,LL i,xv] h (Dn mb c hs h0 g0 h g (cond (decide ((24:Int)≤s.out.length)) (s.stops 3 5 cb f l) ((s.top cb (f.val y) l).outs (s.out++[n.word]))) (.tuple #[])):=by
 refine d.walk fun d=>?_;have o:=d.new (.cells [I i.op,I i.a,I i.b,S i.s]);obtain⟨az,aA,aB,aC,am,_,_,A⟩:=d.r.top w;obtain⟨an,ab,aD,aE,F,_,ac⟩:=o.r.own;have aF:=d.w;have p:mb<h.n:=by obtain⟨_,_,_,_,a,_⟩:=d.r.own;exact d.w _ _ a
 have aG:=d.w _ _ am;have ad:=GP A z;have aH:(cb==h.n)=false:=Ag;have aI:(mb==h.n)=false:=Ag;have K:(i.op==14)=false:=by rw[a7];rfl
 have L:(i.op==15)=true:=by rw[a7];rfl
 have ao:h.get mb=T (.cells (AN c an ab s.own)):=(An _ (AE p)).symm.trans F;have q:=ao;unfold AN at q;refine eF ak_ ?_;cases c1:decide ((24:Int)≤s.out.length)
 ·have x:=Adh c1
  rcases ac with⟨r,rfl,rfl⟩|⟨t,rfl,rfl,aJ⟩
  ·rw[r]at c1
   have c2:decide ((24:Int)≤((0:Nat):Int))=false:=c1;simp only[go_sem,V,K,L,q,p,c2];refine AM o.w 0x130032633000250000 ?_;simp only[go_sem,V,q,p];refine Aj (Awj o w z) ?_;rintro _ ae af ⟨⟨rfl,N,j,ag⟩,P⟩;have k:=P.trans F;have m:=k;unfold AN at m;have u:=j.w _ _ k;simp only[go_sem,m];refine Aj (j.Dx (N1 n ad)) ?_;rintro _ b ap ⟨rfl,e,v⟩;have a0:=(v mb u).trans m;have a1:mb<b.n:=by omega
   simp only[go_sem,V,a0,a1];have a4:(s.top cb (f.val y) l).out=[]:=r;have a2:(b.n+1==mb)=false:=Ag;exact e.Awo (nb:=b.n+1) n.word ((v mb u).trans k) (Ar (Am (Am e.w _) _) (by simp only[go_sem];omega) _) (by simp only[go_sem];omega) (by rw[a4];exact Ai _ _) (by rw[a4];simp only[go_sem,a2];rfl) (by omega) fun ah x a3 _=>by simp only[go_sem,x,Ag a3]
  have c2:decide ((24:Int)≤((s.out.length:Nat):Int))=false:=c1;have aq:A_ s.out.length 999999=true:=Eg;have ar:sub? (s.out.map S) 0 s.out.length=T (s.out.map S):=C2 (by simp);simp only[go_sem,V,K,L,q,p,c2];refine AM o.w 0x130032633000250000 ?_;simp only[go_sem,V,q,p];refine Aj (Awj o w z) ?_;rintro _ ae af ⟨⟨rfl,N,j,ag⟩,P⟩;have k:=P.trans F;have m:=k;unfold AN at m;have u:=j.w _ _ k;simp only[go_sem,m];refine Aj (j.Dx (N1 n ad)) ?_;rintro _ b ap ⟨rfl,e,v⟩;have a0:=(v mb u).trans m;have a1:mb<b.n:=by omega
  obtain⟨aK,au,aL,aM,a4,_,av⟩:=e.r.own;have a5:=(v mb u).trans k;have ai:au=.slice (T ⟨t,0,M⟩) s.out.length 1:=by rw[a5]at a4;simp only[AN,s_,AO.cells.injEq,t_]at a4;exact a4.2.2.2.2.2.2.2.2.2.2.1.symm
  have aj:b.get t=T (.cells (s.out.map S)):=by
   rcases av with⟨_,a,_⟩|⟨aw,a,_,a6⟩
   ·rw[ai]at a;cases a
   rw[ai]at a;injection a with a _ _
   injection a with a
   injection a with a _ _
   rw[a];exact a6
  have aw:=e.w _ _ aj;have ax:(mb==t)=false:=Ag (e.r.Azk a5);simp only[go_sem,V,a0,a1,aq,aj,aw,ar,ax];have a2:(b.n+1==mb)=false:=Ag;have aN:(b.n+1==t)=false:=Ag;exact e.Awo (nb:=b.n+1) n.word a5 (Ar (Am (Dm (Am e.w _) _) _) (by simp only[go_sem];omega) _) (by simp only[go_sem];omega) (Ai _ _) (by simp only[go_sem,a2];rfl) (by omega) fun ah x a3 a6=>by
   have ay:(ah==t)=false:=Ag fun r=>a6 1 s.out.length (by rw[r]);simp only[go_sem,x,Ag a3,ay]
 obtain⟨a8,a9,aa,rfl⟩:=al;have e:∃b A,ab=.slice b s.out.length A:=by
  rcases ac with⟨r,rfl,_⟩|⟨t,rfl,_⟩
  ·exact⟨M,0,by rw[r];rfl⟩
  exact⟨_,_,J⟩
 obtain⟨b,k,rfl⟩:=e;simp only[go_sem,V,K,L,q,p,c1];refine Aa (Js o w ak 3 5) ?_;rintro _ ae af ⟨rfl,N,j,ag⟩;simp only[go_sem];exact⟨N,j⟩
end
def Cf.er(a:Cf):Cf:={a with sb:=0}
def QA(a:Nat×Cf):Nat×Cf:=(0,a.2.er)
def Ms.er(a:Ms):Ms:={a with Ba:=a.Ba.map QA,hb:=0}
def HL{a:Type}(b:Cf)(d:Vl→Cf→Option a):Option a:=match b.AI.reverse with
 |[]=>M
 |v::e=>d v (b.val e.reverse)
def CK(a:AY)(b:Cf):Bool:=decide (0≤a.a)&&decide (a.a.toNat<b.Ac.length)
section
variable(c zs xs:List Int)
def Wa(f:Ms)(a:AY)(e:Nat)(b:Cf)(d:List (Nat×Cf)):Option Ms:=
 cond (decide (0≤a.a)&&(decide (a.a.toNat<c.length)&&(decide (a.a.toNat<zs.length)&&(decide (0≤a.b)&&(decide (a.b.toNat≤b.AI.length)&&(decide (0≤Bb zs a.a.toNat)&&decide (Bb zs a.a.toNat≤100000)))))))
  (T (cond (decide (7≤d.length)) ((f.top e (b.val (b.AI.take (b.AI.length-a.b.toNat))) d).stops 3 3 e (b.val (b.AI.take (b.AI.length-a.b.toNat))) d)
   {f with Ba:=(0,⟨[],a.a,Bb c a.a.toNat,Bb c a.a.toNat,copyV (List.replicate (Bb zs a.a.toNat).toNat (vz 0)) (b.AI.drop (b.AI.length-a.b.toNat)),0⟩)::(e,b.val (b.AI.take (b.AI.length-a.b.toNat)))::d})) M
def exec(a:AY)(b:Ms)(g:Nat)(d:Cf)(f:List (Nat×Cf)):Option Ms:=
 cond (a.op==2||(a.op==3||a.op==4)) (T (b.top g (d.push (U1 a d)) f))
 (cond (a.op==5) (cond (CK a d) (T (b.top g (d.push (U1 a d)) f)) M)
 (cond (a.op==7) (HL d fun j e=>HL e fun k i=>T ((b.top g i f).Fg (TQ a.s k j).1 (TQ a.s k j).2 g i f))
 (cond (a.op==8||a.op==9) (HL d fun h e=>T (b.top g (e.push (Q3 (cond (a.op==8) [45] [33]) h)) f))
 (cond (a.op==10) (HL d fun h e=>T (b.top g (e.push (HU (Atw b.heap h))) f))
 (cond (a.op==6) (cond (CK a d) (HL d fun h e=>T (b.top g {e with Ac:=d.Ac.set a.a.toNat h} f)) M)
 (cond (a.op==23) (HL d fun _ e=>T (b.top g e f))
 (cond (a.op==11) (cond (CK a d) (HL d fun h e=>T ((b.top g e f).Fg (HU (b.heap.get (d.load a.a.toNat 4).a h.a).1) (b.heap.get (d.load a.a.toNat 4).a h.a).2 g e f)) M)
 (cond (a.op==12) (cond (CK a d) (HL d fun h e=>HL e fun l i=>T (((b.top g i f).hp (b.heap.put (d.load a.a.toNat 4).a l.a h.a).1).IX (b.heap.put (d.load a.a.toNat 4).a l.a h.a).2 g i f)) M)
 (cond (a.op==13) (HL d fun h e=>T (((b.top g e f).hp (b.heap.make h.a).1).Fg ⟨4,(b.heap.make h.a).2.1,[]⟩ (b.heap.make h.a).2.2 g e f))
 (cond (a.op==16) (T (b.top g (d.go a.a) f))
 (cond (a.op==17) (HL d fun h e=>T (b.top g (cond (h.a==0) (e.go a.a) e) f))
 (cond (a.op==18||a.op==19) (HL d fun h e=>T (b.top g (cond ((h.a==1)==(a.op==19)) (d.go a.a) e) f))
 (cond (a.op==20) (Wa c zs b a g d f)
 (cond (a.op==21) (HL d fun h e=>T ((b.top g e f).ends h f))
 (cond (a.op==22) (T (b.ends (vz a.a) f))
 (cond (a.op==14) (T (cond (decide ((xs.length:Int)≤b.CA)) (b.stops 1 0 g d f) ((b.top g (d.push (HU (Bb xs b.CA.toNat))) f).At4 (b.CA+1))))
 (cond (a.op==15) (HL d fun h e=>T (cond (decide ((24:Int)≤b.out.length)) (b.stops 3 5 g d f) ((b.top g e f).outs (b.out++[h.word]))))
 (T b))))))))))))))))))
def Ms.fit(a:Ms)(b:Cf):Bool:=decide (0≤b.pc)&&(decide (b.pc≤100000)&&(decide (a.Ba.length<100)&&(a.Ba.all (fun d=>decide (d.2.AI.length<1000))&&(decide (0≤a.CA)&&decide (a.CA≤50000)))))
variable(code:List AY)
def Ky(b:Ms):Option Ms:=match b.Ba with
 |[]=>M
 |(d,a)::e=>cond (b.fit a) (match code[a.pc.toNat]? with
  |none=>M
  |some f=>exec c zs xs f (b.top d (a.go (a.pc+1)) e) d (a.go (a.pc+1)) e) M
def Hb:Nat→Ms→Option Ms
 |0,_=>M
 |n+1,a=>cond (a.status==0) (match a.Ba with
  |[]=>M
  |(_,b)::_=>(match code[b.pc.toNat]? with
   |none=>M
   |some d=>cond (d.op==1) (cond (a.fit b) (T a) M) (match Ky c zs xs code a with
    |none=>M
    |some e=>Hb n e))) (T a)
end
theorem A0{e:Type}{d:Cf}{f:Vl→Cf→Option e}{g:e}(a:HL d f=T g):∃h b,d.AI=h++[b]∧f b (d.val h)=T g:=by
 unfold HL at a;split at a
 ·cases a
 rename_i b i j;refine⟨i.reverse,b,?_,a⟩;have:=Akv List.reverse j;rw[ag_,List.reverse_cons]at this;exact this
theorem Df{b:Type}{f:Cf}{a:Vl→Cf→Option b}{vs:List Vl}{v:Vl}(d:f.AI=vs++[v]):HL f a=a v (f.val vs):=by unfold HL;rw[d,List.reverse_append];show a v (f.val vs.reverse.reverse)=_;rw[ag_]
section
variable{mb:Nat}{c:Pc}{b h0 h:AH}{k g:List Nat}{s d:Ms}{cb:Nat}{f:Cf}{l:List (Nat×Cf)}{code:List AY}{en zs xs:List Int}{xv:Value}{i:AY}
abbrev Aex(mb:Nat)(c:Pc)(b h0:AH)(k:List Nat)(h:AH)(g:List Nat)(d:Ms)(e:i_)(j:i_)(m:AH):Prop:=∃a:Ms,a.er=d∧Dn mb c b h0 k h g a e j m
theorem HA(h:CK i f=true):∃a:Nat,i.a=a∧a<f.Ac.length:=by unfold CK at h;rw[G_]at h;have j:=Acw h.1;have e:=Acw h.2;exact⟨i.a.toNat,by omega,e⟩
theorem Adu(m:Hr (D1 mb c) b h0 k h g s)(n:s.Ba=(cb,f)::l)(o:f.AI.length<100000)(p:i.ok)(q:i.op=2∨i.op=3∨i.op=4∨i.op=5)(a:exec en zs xs i s.er 0 f.er (l.map QA)=T d):
  AR 252 [AA mb,AA cb,LL i] h (Aex mb c b h0 k h g d (.bool true)):=by
 have r:d=({s with Ba:=(cb,f.push (U1 i f))::l}:Ms).er∧(i.op=2∨i.op=3∨i.op=4∨(i.op=5∧∃j:Nat,i.a=j∧j<f.Ac.length)):=by
  unfold exec at a;rcases q with e|e|e|e
  ·rw[e]at a;cases a;exact⟨J,.inl e⟩
  ·rw[e]at a;cases a;exact⟨J,.inr (.inl e)⟩
  ·rw[e]at a;cases a;exact⟨J,.inr (.inr (.inl e))⟩
  rw[e]at a;change cond (CK i f.er) _ M=_ at a;cases b:CK i f.er
  ·rw[b]at a;cases a
  rw[b]at a;cases a;exact⟨J,.inr (.inr (.inr ⟨e,HA (f:=f) b⟩))⟩
 obtain⟨rfl,t⟩:=r;exact(Aca m n o p t).mono fun u v _ g=>⟨_,J,g⟩
theorem Adv(n:Hr (D1 mb c) b h0 k h g s)(o:s.Ba=(cb,f)::l)(t:i.op=16∨i.op=17∨i.op=18∨i.op=19)(a:exec en zs xs i s.er 0 f.er (l.map QA)=T d):
  AR 255 [AA mb,AA cb,LL i] h (Aex mb c b h0 k h g d (.bool true)):=by
 unfold exec at a;rcases t with e|e|e|e
 ·rw[e]at a;cases a
  exact(An2 n o e).mono fun p q _ g=>⟨_,J,g⟩
 ·simp only[e,b_,q_,Acf,Aa9]at a
  obtain⟨r,j,m,a⟩:=A0 a;cases a;refine(An1 n o m e).mono fun p q _ g=>⟨_,?_,g⟩;cases j.a==0<;>rfl
 ·simp only[e,b_,q_,Acf,Aa9]at a
  obtain⟨r,j,m,a⟩:=A0 a;cases a;refine(Ru n o m (.inl e)).mono fun p q _ g=>⟨_,?_,g⟩;rw[e];cases j.a==1<;>rfl
 simp only[e,b_,q_,Bool.or_true,Acf,Aa9]at a;obtain⟨r,j,m,a⟩:=A0 a;cases a;refine(Ru n o m (.inr e)).mono fun p q _ g=>⟨_,?_,g⟩;rw[e];cases j.a==1<;>rfl
theorem PG(s:Ms)(e:Vl)(a:Int)(cb:Nat)(f:Cf)(l:List (Nat×Cf)):(s.Fg e a cb f l).er=s.er.Fg e a 0 f.er (l.map QA):=by unfold Ms.Fg;cases a !=0<;>rfl
theorem Adz(s:Ms)(a:Int)(cb:Nat)(f:Cf)(l:List (Nat×Cf)):(s.IX a cb f l).er=s.er.IX a 0 f.er (l.map QA):=by unfold Ms.IX;cases a !=0<;>rfl
theorem Adt(m:Hr (D1 mb c) b h0 k h g s)(n:s.Ba=(cb,f)::l)(u:l.length<100000)(v:i.op=7∨i.op=8∨i.op=9∨i.op=10)(a:exec en zs xs i s.er 0 f.er (l.map QA)=T d):
  AR 253 [AA mb,AA cb,LL i] h (Aex mb c b h0 k h g d (.bool true)):=by
 unfold exec at a;rcases v with e|e|e|e
 ·simp only[e,b_,q_,Acf,Aa9]at a
  obtain⟨o,w,j,a⟩:=A0 a;obtain⟨r,t,x,a⟩:=A0 a;cases a;have y:o=r++[t]:=x;have z:f.AI=r++[t]++[w]:=by rw[←y];exact j
  exact(Agv m n u z e).mono fun p q _ g=>⟨_,PG _ _ _ _ _ _,g⟩
 ·simp only[e,b_,q_,Acf,Aa9]at a
  obtain⟨o,r,j,a⟩:=A0 a;cases a;refine(Zs m n j (.inl e)).mono fun p q _ g=>⟨_,?_,g⟩;rw[e];rfl
 ·simp only[e,b_,q_,Bool.or_true,Acf,Aa9]at a
  obtain⟨o,r,j,a⟩:=A0 a;cases a;refine(Zs m n j (.inr e)).mono fun p q _ g=>⟨_,?_,g⟩;rw[e];rfl
 simp only[e,b_,q_,Acf,Aa9]at a;obtain⟨o,r,j,a⟩:=A0 a;cases a;exact(Agu m n j e).mono fun p q _ g=>⟨_,J,g⟩
theorem X9(n:Hr (D1 mb c) b h0 k h g s)(o:s.Ba=(cb,f)::l)(v:l.length<100000)(z:i.op=6∨i.op=23∨i.op=11∨i.op=12∨i.op=13)(a:exec en zs xs i s.er 0 f.er (l.map QA)=T d):
  AR 254 [AA mb,AA cb,LL i] h (Aex mb c b h0 k h g d (.bool true)):=by
 unfold exec at a;rcases z with e|e|e|e|e
 ·simp only[e,b_,q_,Acf,Aa9]at a
  cases b:CK i f.er
  ·rw[b]at a;cases a
  rw[b,Aa9]at a;obtain⟨w,m,p⟩:=HA b;obtain⟨q,r,j,a⟩:=A0 a;cases a;refine(Abm n o j e m p).mono fun t u _ g=>⟨_,?_,g⟩;rw[m];rfl
 ·simp only[e,b_,q_,Acf,Aa9]at a
  obtain⟨q,r,j,a⟩:=A0 a;cases a;exact(Abo n o j e).mono fun t u _ g=>⟨_,J,g⟩
 ·simp only[e,b_,q_,Acf,Aa9]at a
  cases b:CK i f.er
  ·rw[b]at a;cases a
  rw[b,Aa9]at a;obtain⟨w,m,p⟩:=HA b;obtain⟨q,r,j,a⟩:=A0 a;cases a;refine(Abq n o v j e m p).mono fun t u _ g=>⟨_,?_,g⟩;rw[m];exact PG _ _ _ _ _ _
 ·simp only[e,b_,q_,Acf,Aa9]at a
  cases b:CK i f.er
  ·rw[b]at a;cases a
  rw[b,Aa9]at a;obtain⟨w,m,p⟩:=HA b;obtain⟨q,r,j,a⟩:=A0 a;obtain⟨x,y,A,a⟩:=A0 a;cases a;have F:q=x++[y]:=A;have K:f.AI=x++[y]++[r]:=by rw[←F];exact j
  refine(Abn n o v K e m p).mono fun t u _ g=>⟨_,?_,g⟩;rw[m];exact Adz _ _ _ _ _
 simp only[e,b_,q_,Acf,Aa9]at a;obtain⟨q,r,j,a⟩:=A0 a;cases a;exact(W0 n o v j e).mono fun t u _ g=>⟨_,PG _ _ _ _ _ _,g⟩
end
section
variable{mb:Nat}{c:Pc}{m h0 h:AH}{g0 g:List Nat}{s s':Ms}{cb:Nat}{f:Cf}{l:List (Nat×Cf)}{code:List AY}{o zs xs:List Int}{xv:Value}{i:AY}
theorem Aak(s:Ms)(a:Vl)(l:List (Nat×Cf)):(s.ends a l).er=s.er.ends a (l.map QA):=by cases l<;>rfl
theorem Adw(b:Hr (D1 mb c) m h0 g0 h g s)(u:Cd m c code o zs)(d:s.Ba=(cb,f)::l)(v:l.length<100)(k:∀w∈l,w.2.AI.length<100000)(x:i.op=20∨i.op=21∨i.op=22)(a:exec o zs xs i s.er 0 f.er (l.map QA)=T s'):
  AR 256 [AA mb,AA cb,LL i] h (Aex mb c m h0 g0 h g s' (.bool true)):=by
 unfold exec at a;rcases x with e|e|e
 ·simp only[e,b_,q_,Acf,Aa9]at a
  unfold Wa at a;obtain⟨n,a⟩:=AV a;simp only[G_,decide_eq_true_eq]at n;obtain⟨c1,c2,c3,P,y,z,a0⟩:=n;have j:f.AI=f.AI.take (f.AI.length-i.b.toNat)++f.AI.drop (f.AI.length-i.b.toNat):=(af_ _ _).symm;have a1:i.b.toNat≤f.AI.length:=y;have A:i.b=(f.AI.drop (f.AI.length-i.b.toNat)).length:=by rw[an_];omega
  have p:i.a=(i.a.toNat:Int):=by omega
  have F:o[i.a.toNat]? =T (Bb o i.a.toNat):=by unfold Bb;rw[f_,c_ c2];rfl
  have K:zs[i.a.toNat]? =T (((Bb zs i.a.toNat).toNat:Nat):Int):=by rw[Int.toNat_of_nonneg z];unfold Bb;rw[f_,c_ c3];rfl
  cases a;refine(Ao2 b u d v j e A p F K (by omega)).mono fun q r _ g=>?_;obtain⟨L,N,g⟩:=g;refine⟨L,?_,g⟩;rcases N with⟨t,rfl⟩|⟨t,a2,a3,rfl⟩
  ·have:decide (7≤(l.map QA).length)=true:=Aeu (by rw[v_];exact t)
   rw[this,Aa9];rfl
  have:decide (7≤(l.map QA).length)=false:=Aey (by rw[v_];omega);rw[this,Acf,←p];rfl
 ·simp only[e,b_,q_,Acf,Aa9]at a
  obtain⟨n,p,j,a⟩:=A0 a;cases a;exact(Ao1 b d (by omega) k j e).mono fun q r _ g=>⟨(s.top cb (f.val n) l).ends p l,Aak _ _ _,g⟩
 simp only[e,b_,q_,Acf,Aa9]at a;cases a;exact(Ao0 b d (by omega) k e).mono fun q r _ g=>⟨_,Aak _ _ _,g⟩
theorem Ads(k:Hr (D1 mb c) m h0 g0 h g s)(u:Wh m)(n:Ub m xv xs)(p:s.Ba=(cb,f)::l)(ad:l.length<100)(v:f.AI.length<100000)(ae:0≤s.CA)(af:s.CA≤100000)(w:i.op≠2∧i.op≠3∧i.op≠4∧i.op≠5∧i.op≠7∧i.op≠8∧i.op≠9∧i.op≠10∧i.op≠6∧i.op≠23∧i.op≠11∧i.op≠12∧i.op≠13∧i.op≠16∧i.op≠17∧i.op≠18∧i.op≠19∧i.op≠20∧i.op≠21∧i.op≠22)(b:exec o zs xs i s.er 0 f.er (l.map QA)=T s'):
  AR 257 [AA mb,AA cb,LL i,xv] h (Aex mb c m h0 g0 h g s' (.tuple #[])):=by
 have a:∀{q:Int},i.op≠q→(i.op==q)=false:=fun h=>beq_eq_false_iff_ne.2 h;obtain⟨x,y,z,A,F,K,L,N,P,a0,a1,a2,a3,a4,a5,a6,a7,a8,a9,aa⟩:=w;unfold exec at b;simp only[a x,a y,a z,a A,a F,a K,a L,a N,a P,a a0,a a1,a a2,a a3,a a4,a a5,a a6,a a7,a a8,a a9,a aa,Bool.false_or,Acf]at b;cases d:i.op==14
 ·rw[d,Acf]at b
  cases e:i.op==15
  ·rw[e,Acf]at b
   cases b;exact(Alh k d e).mono fun r t _ g=>⟨_,J,g⟩
  rw[e,Aa9]at b;obtain⟨ag,ah,ab,b⟩:=A0 b;cases b;obtain⟨ai,aj,ac⟩:=n.slice;refine(Ali k p (by omega) ab (eq_of_beq e) ⟨_,_,_,ac⟩).mono fun r t _ g=>⟨_,?_,g⟩;have:s.er.out=s.out:=J;rw[this];cases decide ((24:Int)≤s.out.length)<;>rfl
 rw[d,Aa9]at b;cases b;refine(Alj (j:=s.CA.toNat) k u n p (by omega) v (eq_of_beq d) (by omega) (by omega)).mono fun r t _ g=>⟨_,?_,g⟩;have:s.er.CA=s.CA:=J;rw[this];cases decide ((xs.length:Int)≤s.CA)<;>rfl
end
section
variable{mb:Nat}{c:Pc}{t h0 h:AH}{g0 g:List Nat}{s s2:Ms}{cb:Nat}{f:Cf}{l:List (Nat×Cf)}{code:List AY}{o zs xs:List Int}{xv:Value}
theorem Aab(a4:Cd t c code o zs)(bj:∀b∈code,b.ok)(bk:Ub t xv xs)(i:Nat)(ai:Hr (D1 mb c) t h0 g0 h g s)(d:Hb o zs xs code i s.er=T s2):
  AR 172 [AA mb,xv] h (fun a e=>∃m:Ms,m.er=s2∧Dn mb c t h0 g0 h g m (.tuple #[]) a e):=by
 refine eF Tryz.func172 ?_;simp only[go_sem];refine AG (fun(a:Nat×Ms×List Nat) aj bl=>Hr (D1 mb c) t h g bl a.2.2 a.2.1∧Hb o zs xs code a.1 a.2.1.er=T s2∧aj.at 0=AA mb∧aj.at 1=xv) (fun a=>a.1) ?_ (i,s,g) ?_
 ·rintro⟨i,s,au⟩ aj e ⟨j,d,k,x⟩ F
  cases i with
  |zero=>cases d
  |succ i=>
  obtain⟨bX,bY,bZ,c0,av,_,_⟩:=j.r.own;have c4:=j.w _ _ av;have K:=av;unfold AN at K;have bm:s.own.status=s.status:=J;rw[bm]at K;unfold Hb at d;have bn:s.er.status=s.status:=J;rw[bn]at d;cases a5:s.status==0
  ·rw[a5]at d
   cases d;simp only[go_sem,k,K,a5];exact⟨s,J,J,au,ai.go j,j.k⟩
  rw[a5,Aa9]at d;cases a0:s.Ba with
  |nil=>
   have:s.er.Ba=[]:=by unfold Ms.er;rw[a0];rfl
   rw[this]at d;cases d
  |cons y l=>
  obtain⟨cb,f⟩:=y;have L:s.er.Ba=(0,f.er)::l.map QA:=by unfold Ms.er;rw[a0];rfl
  rw[L]at d;simp only at d;have a6:f.er.pc=f.pc:=J;rw[a6]at d;cases z:code[f.pc.toNat]? with
  |none=>rw[z]at d;cases d
  |some b=>
  rw[z]at d;simp only at d;have ak:s.er.fit f.er=true:=by
   cases N:b.op==1
   ·rw[N,Acf]at d
    unfold Ky at d;rw[L]at d;simp only at d;cases n:s.er.fit f.er
    ·rw[n]at d;cases d
    rfl
   rw[N,Aa9]at d;cases n:s.er.fit f.er
   ·rw[n]at d;cases d
   rfl
  have al:=ak;unfold Ms.fit at al;simp only[G_,decide_eq_true_eq]at al;obtain⟨aw,bo,ax,a7,bp,ay⟩:=al;have a8:=(g_.1 z).1;obtain⟨a1,am⟩:∃a1:Nat,f.pc=a1:=⟨f.pc.toNat,by rw[a6]at aw;omega⟩;have az:f.pc.toNat=a1:=by omega
  rw[az]at z a8;have aA:l.length<100:=by rw[L]at ax;simp at ax;omega
  have bq:InA e c.iv code:=a4.i.ext a4.w j.x;rcases bq with⟨a,_⟩|⟨c5,n,aB⟩
  ·rw[a]at a8;cases a8
  have c6:=j.w _ _ aB;rw[n]at K;have br:=Pt code a1 b z;obtain⟨bs,bt,c7,c8,a2,_,_,c9⟩:=j.r.top a0;have aC:=j.w _ _ a2;have bu:l_ .i64 (f.pc+1)=f.pc+1:=by rw[Ap]<;>(rw[a6]at aw bo;omega)
  rw[am]at a2;simp only[go_sem,k,K,a5];refine Aa (Oc j.w j.r a0 (by omega)) ?_;rintro _ e _ ⟨rfl,rfl⟩;simp only[go_sem];refine AM j.w 0x13210100010000 ?_;simp only[go_sem,V,k,K,a2,aB,a8,br];have bv:=j.new (.cells [I 0,I 0,I 0,S []]);have an:=bv.put (c:=e.n) (j.free (e_ _) (a_ _)) (E_ j.n (e_ _)) (E_ j.m (e_ _)) (.cells [I b.op,I b.a,I b.b,S b.s]);cases N:b.op==1
  ·rw[N,Acf]at d
   have aD:(cb==e.n)=false:=Ag;have bw:l_ .i64 ((a1:Int)+1)=f.pc+1:=by rw[←am];exact bu
   simp only[go_sem,V,a2,aC,aD,bw];have aE:=(Ab (h:=e.new (.cells [I 0,I 0,I 0,S []])) (.cells [I b.op,I b.a,I b.b,S b.s]) aD).trans ((An _ (AE aC)).trans a2);rw[←am]at aE;obtain⟨bx,aF,bz⟩:=an.pcM a0 aE (f.pc+1);have ca:b.op≠1:=beq_eq_false_iff_ne.1 N;have bA:(e.n==cb)=false:=Ag;have aG:(((e.new (.cells [I 0,I 0,I 0,S []])).put e.n (.cells [I b.op,I b.a,I b.b,S b.s])).put cb (.cells [bs,I f.fn,I (f.pc+1),I f.mark,bt])).get e.n=T (.cells [I b.op,I b.a,I b.b,S b.s]):=(Ab _ bA).trans (Ai _ _);have aH:e.n∉bx:=(bz e.n (a_ _) (fun bB=>by have:=j.own _ bB;omega)).2;have bC:=bj b (F_ z);have aI:f.AI.length<100000:=by simp only[ao_,decide_eq_true_eq]at a7;have:=a7 (0,f.er) (by rw[L];simp);change f.AI.length<1000 at this;omega
   have bD:∀y∈l,y.2.AI.length<100000:=fun y bE=>by
    simp only[ao_,decide_eq_true_eq]at a7;have:=a7 (QA y) (by rw[L];simp only[m_,List.mem_map];exact .inr ⟨y,bE,J⟩);change y.2.AI.length<1000 at this;omega
   cases A:Ky o zs xs code s.er with
   |none=>rw[A]at d;cases d
   |some bF=>
   rw[A]at d;simp only at d;have P:exec o zs xs b (s.top cb (f.go (f.pc+1)) l).er 0 (f.go (f.pc+1)).er (l.map QA)=T bF:=by unfold Ky at A;rw[L]at A;simp only at A;rw[ak,Aa9,a6,az,z]at A;exact A
   simp only[k];by_cases aJ:b.op=2∨b.op=3∨b.op=4∨b.op=5
   ·refine Aa (Adu aF J aI bC aJ P) ?_
    rintro _ r u ⟨m,n,rfl,p,q,v⟩;have w:=v e.n (a_ _) aH;have a9:=w.1.trans aG;have aa:e.n<r.n:=n_ (a_ _) u;simp only[go_sem,V];exact F (i,m,p) _ _ ⟨q,by rw[n];exact d,by simp only[go_sem,k],by simp only[go_sem,V,x]⟩ (a_ i)
   have ab:=aJ;have aK:(b.op==2)=false:=beq_eq_false_iff_ne.2 fun a=>ab (by simp[a]);have aL:(b.op==3)=false:=beq_eq_false_iff_ne.2 fun a=>ab (by simp[a]);have aM:(b.op==4)=false:=beq_eq_false_iff_ne.2 fun a=>ab (by simp[a]);have aN:(b.op==5)=false:=beq_eq_false_iff_ne.2 fun a=>ab (by simp[a]);refine Aa (Acb aF aK aL aM aN) ?_;rintro _ bG bH ⟨rfl,cc,aO,bI⟩;have aP:=bI e.n (a_ _) aH;have ao:=aP.1.trans aG;have aQ:=aP.2;have ac:e.n<bG.n:=n_ (a_ _) bH;simp only[go_sem,V,k,ao];by_cases aR:b.op=7∨b.op=8∨b.op=9∨b.op=10
   ·refine Aa (Adt aO J (by omega) aR P) ?_
    rintro _ r u ⟨m,n,rfl,p,q,v⟩;have w:=v e.n (ac) aQ;have a9:=w.1.trans ao;have aa:e.n<r.n:=n_ (ac) u;simp only[go_sem,V];exact F (i,m,p) _ _ ⟨q,by rw[n];exact d,by simp only[go_sem,k],by simp only[go_sem,V,x]⟩ (a_ i)
   have ad:=aR;have aS:(b.op==7)=false:=beq_eq_false_iff_ne.2 fun a=>ad (by simp[a]);have aT:(b.op==8)=false:=beq_eq_false_iff_ne.2 fun a=>ad (by simp[a]);have aU:(b.op==9)=false:=beq_eq_false_iff_ne.2 fun a=>ad (by simp[a]);have aV:(b.op==10)=false:=beq_eq_false_iff_ne.2 fun a=>ad (by simp[a]);refine Aa (Al8 aO aS aT aU aV) ?_;rintro _ bJ bK ⟨rfl,cd,aW,bL⟩;have aX:=bL e.n (ac) aQ;have ap:=aX.1.trans ao;have aY:=aX.2;have ae:e.n<bJ.n:=n_ (ac) bK;simp only[go_sem,V,k,ap];by_cases aZ:b.op=6∨b.op=23∨b.op=11∨b.op=12∨b.op=13
   ·refine Aa (X9 aW J (by omega) aZ P) ?_
    rintro _ r u ⟨m,n,rfl,p,q,v⟩;have w:=v e.n (ae) aY;have a9:=w.1.trans ap;have aa:e.n<r.n:=n_ (ae) u;simp only[go_sem,V];exact F (i,m,p) _ _ ⟨q,by rw[n];exact d,by simp only[go_sem,k],by simp only[go_sem,V,x]⟩ (a_ i)
   have a3:=aZ;have b0:(b.op==6)=false:=beq_eq_false_iff_ne.2 fun a=>a3 (by simp[a]);have b1:(b.op==23)=false:=beq_eq_false_iff_ne.2 fun a=>a3 (by simp[a]);have b2:(b.op==11)=false:=beq_eq_false_iff_ne.2 fun a=>a3 (by simp[a]);have b3:(b.op==12)=false:=beq_eq_false_iff_ne.2 fun a=>a3 (by simp[a]);have b4:(b.op==13)=false:=beq_eq_false_iff_ne.2 fun a=>a3 (by simp[a]);refine Aa (Afm aW b0 b1 b2 b3 b4) ?_;rintro _ bM bN ⟨rfl,ce,b5,bO⟩;have b6:=bO e.n (ae) aY;have aq:=b6.1.trans ap;have b7:=b6.2;have af:e.n<bM.n:=n_ (ae) bN;simp only[go_sem,V,k,aq];by_cases b8:b.op=16∨b.op=17∨b.op=18∨b.op=19
   ·refine Aa (Adv b5 J b8 P) ?_
    rintro _ r u ⟨m,n,rfl,p,q,v⟩;have w:=v e.n (af) b7;have a9:=w.1.trans aq;have aa:e.n<r.n:=n_ (af) u;simp only[go_sem,V];exact F (i,m,p) _ _ ⟨q,by rw[n];exact d,by simp only[go_sem,k],by simp only[go_sem,V,x]⟩ (a_ i)
   have ag:=b8;have b9:(b.op==16)=false:=beq_eq_false_iff_ne.2 fun a=>ag (by simp[a]);have ba:(b.op==17)=false:=beq_eq_false_iff_ne.2 fun a=>ag (by simp[a]);have bb:(b.op==18)=false:=beq_eq_false_iff_ne.2 fun a=>ag (by simp[a]);have bc:(b.op==19)=false:=beq_eq_false_iff_ne.2 fun a=>ag (by simp[a]);refine Aa (An0 b5 b9 ba bb bc) ?_;rintro _ bP bQ ⟨rfl,cf,bd,bR⟩;have be:=bR e.n (af) b7;have ar:=be.1.trans aq;have bf:=be.2;have ah:e.n<bP.n:=n_ (af) bQ;simp only[go_sem,V,k,ar];by_cases bg:b.op=20∨b.op=21∨b.op=22
   ·refine Aa (Adw bd a4 J aA bD bg P) ?_
    rintro _ r u ⟨m,n,rfl,p,q,v⟩;have w:=v e.n (ah) bf;have a9:=w.1.trans ar;have aa:e.n<r.n:=n_ (ah) u;simp only[go_sem,V];exact F (i,m,p) _ _ ⟨q,by rw[n];exact d,by simp only[go_sem,k],by simp only[go_sem,V,x]⟩ (a_ i)
   have w:=bg;have a9:(b.op==20)=false:=beq_eq_false_iff_ne.2 fun a=>w (by simp[a]);have aa:(b.op==21)=false:=beq_eq_false_iff_ne.2 fun a=>w (by simp[a]);have bh:(b.op==22)=false:=beq_eq_false_iff_ne.2 fun a=>w (by simp[a]);refine Aa (Aoz bd a9 aa bh) ?_;rintro _ bS bT ⟨rfl,cg,bU,bV⟩;have bi:=bV e.n (ah) bf;have bW:=bi.1.trans ar;have ch:=bi.2;have ci:e.n<bS.n:=n_ (ah) bT;simp only[go_sem,V,k,x,bW];refine Aa (Ads bU a4.w bk J aA aI bp (by have:s.er.CA=s.CA:=rfl;rw[this]at ay;exact Int.le_trans ay (by decide)) ⟨by intro a;simp[a]at aK,by intro a;simp[a]at aL,by intro a;simp[a]at aM,by intro a;simp[a]at aN,by intro a;simp[a]at aS,by intro a;simp[a]at aT,by intro a;simp[a]at aU,by intro a;simp[a]at aV,by intro a;simp[a]at b0,by intro a;simp[a]at b1,by intro a;simp[a]at b2,by intro a;simp[a]at b3,by intro a;simp[a]at b4,by intro a;simp[a]at b9,by intro a;simp[a]at ba,by intro a;simp[a]at bb,by intro a;simp[a]at bc,by intro a;simp[a]at a9,by intro a;simp[a]at aa,by intro a;simp[a]at bh⟩ P) ?_;rintro _ r u ⟨m,n,rfl,p,q,v⟩;simp only[go_sem];exact F (i,m,p) _ _ ⟨q,by rw[n];exact d,by simp only[go_sem,k],by simp only[go_sem,V,x]⟩ (a_ i)
  rw[N,Aa9,ak,Aa9]at d;cases d;simp only[go_sem];exact⟨s,J,J,au,ai.go an,an.k⟩
 exact⟨ai.start,d,J,J⟩
end
def Jt(e zs xs:List Int)(code:List AY)(d:Nat)(s:Ms):Option Ms:=
 cond (cond (s.status==2) true (s.status==3)) (T s) (match s.Ba with
  |[]=>M
  |(cb,f)::l=>cond (decide (0≤f.pc)&&(decide (f.pc≤100000)&&decide (s.Ba.length<100))) (match Hb e zs xs code d {s with status:=0,Ba:=(cb,{f with mark:=f.pc,pc:=f.pc+1})::l}with
   |none=>M
   |some a=>cond (decide (0≤a.time)&&decide (a.time≤100000)) (T (cond (a.status !=1) {a with time:=a.time+1} a)) M) M)
section
variable{mb:Nat}{c:Pc}{b h0 h:AH}{g0 g:List Nat}{s s2:Ms}{cb:Nat}{f:Cf}{l:List (Nat×Cf)}{code:List AY}{e zs xs:List Int}{xv:Value}
theorem Hr.Aqo(j:Hr (D1 mb c) b h0 g0 h g s)(k:s.Ba=(cb,f)::l)(m:h.get cb=T (.cells [v,I f.fn,I f.pc,I f.mark,w]))(a d:Int):∃i,Hr (D1 mb c) b h0 g0 (h.put cb (.cells [v,I f.fn,I a,I d,w])) i (s.top cb {f with pc:=a,mark:=d} l)∧Kp h (h.put cb (.cells [v,I f.fn,I a,I d,w])) g i:=by obtain⟨t,n,_,o⟩:=j.Od k;obtain⟨u,p⟩:=TF n m a d;obtain⟨i,q,r⟩:=o _ _ _ p;exact⟨i,q,r⟩
theorem Afn(a1:Cd b c code e zs)(a2:∀a3∈code,a3.ok)(a4:Ub b xv xs)(t:Nat)(i:Hr (D1 mb c) b h0 g0 h g s)(a:Jt e zs xs code t s.er=T s2):
  AR 416 [AA mb,xv] h (fun j u=>∃d:Ms,d.er=s2∧Dn mb c b h0 g0 h g d (.tuple #[]) j u):=by
 obtain⟨am,an,ao,ap,v,_,_⟩:=i.r.own;have aq:=i.w _ _ v;have m:=v;unfold AN at m;have a5:s.own.status=s.status:=J;rw[a5]at m;refine eF Tryz.func416 ?_;unfold Jt at a;have a6:s.er.status=s.status:=J;rw[a6]at a;cases j:s.status==2
 ·cases p:s.status==3
  ·rw[j,p,Acf,Acf]at a
   cases k:s.Ba with
   |nil=>
    have:s.er.Ba=[]:=by unfold Ms.er;rw[k];rfl
    rw[this]at a;cases a
   |cons a7 l=>
   obtain⟨cb,f⟩:=a7;have a8:s.er.Ba=(0,f.er)::l.map QA:=by unfold Ms.er;rw[k];rfl
   rw[a8]at a;simp only at a;obtain⟨F,a⟩:=AV a;simp only[G_,decide_eq_true_eq]at F;obtain⟨a9,aa,ab⟩:=F;have ac:f.er.pc=f.pc:=J;rw[ac]at a9 aa a;have ar:l.length<100:=by rw[W,v_]at ab;omega
   obtain⟨au,w,av⟩:=i.start.Mq v {s with status:=0} rfl J J J;obtain⟨aw,ax,ay,az,x,_,_,aA⟩:=i.r.top k;have aB:=i.w _ _ x;obtain⟨aC,K⟩:=Ahv i.r k;have ad:l_ .i64 (f.pc+1)=f.pc+1:=by rw[Ap]<;>omega
   simp only[go_sem,V,m,j,p];refine Aa (Oc w.w w.r k (by omega)) ?_;rintro _ u _ ⟨rfl,rfl⟩;simp only[go_sem,V,x,K,ad];obtain⟨aD,ae,aE⟩:=w.Aqo (cb:=cb) (f:=f) (l:=l) k ((Ab _ K).trans x) f.pc f.pc;obtain⟨aF,af,aG⟩:=ae.Aqo J (Ai _ _) (f.pc+1) f.pc;cases y:Hb e zs xs code t {s.er with status:=0,Ba:=(0,{f.er with mark:=f.pc,pc:=f.pc+1})::l.map QA}with
   |none=>rw[y]at a;cases a
   |some q=>
   rw[y]at a;simp only at a;obtain⟨ag,a⟩:=AV a;simp only[G_,decide_eq_true_eq]at ag;cases a;refine Aa (Aab a1 a2 a4 t af y) ?_;rintro _ L aH ⟨d,n,rfl,ah,o,aI⟩;obtain⟨N,P,aJ,aK,z,_,_⟩:=o.r.own;have aL:=o.w _ _ z;have r:=z;unfold AN at r;have a0:d.own.status=q.status:=by rw[←n];rfl
   rw[a0]at r;have ai:d.own.time=q.time:=by rw[←n];rfl
   simp only[go_sem,r];cases u:q.status !=1
   ·simp only[go_sem]
    exact⟨d,n,J,ah,i.go o,o.k⟩
   have aj:l_ .i64 (d.own.time+1)=d.time+1:=by
    rw[ai,Ap]
    ·rw[←n];rfl
    ·omega
    omega
   simp only[go_sem,V,r,aj];obtain⟨ak,A,_⟩:=o.Mq z {d with time:=d.time+1} rfl J J J;have al:(L.put mb (.cells (AN c N P (Ms.own {d with time:=d.time+1}))))=L.put mb (.cells [c.nv,c.fv,c.tv,c.sv,c.gv,c.zv,c.iv,c.ev,N,AA d.own.hb,P,I d.own.CA,I q.status,I d.own.Jp,I (d.time+1)]):=by rw[←a0];rfl
   rw[al]at A;exact⟨{d with time:=d.time+1},by rw[←n];rfl,J,ak,i.go A,A.k⟩
  rw[j,p,Acf,Aa9]at a;cases a;simp only[go_sem,V,m,j,p];exact⟨s,J,J,g,i.go i.start,i.start.k⟩
 rw[j,Aa9,Aa9]at a;cases a;simp only[go_sem,V,m,j];exact⟨s,J,J,g,i.go i.start,i.start.k⟩
end
theorem An7{h:AH}:AR 169 [] h (fun a b=>a=AA h.n∧b=h.new (.cells [.slice M 0 0,.slice M 0 0])):=by refine eF Tryz.func169 ?_;simp only[go_sem]
theorem Ahq{h:AH}{mb:Nat}{c:Pc}(e:Wh h)(b:AH)(a:Ext b h)(f:b.n≤h.n){hb:Nat}(g:h.get mb=T (.cells [c.nv,c.fv,c.tv,c.sv,c.gv,c.zv,c.iv,c.ev,.slice M 0 0,AA hb,.slice M 0 0,I 0,I 0,I 0,I 0]))(i:h.get hb=T (.cells [.slice M 0 0,.slice M 0 0]))(j:mb≠hb)(m:b.n≤mb)(n:b.n≤hb):
  Hr (D1 mb c) b h [mb,hb] h [mb,hb] ⟨[],hb,⟨[],[]⟩,[],0,0,0,0⟩:=by
 refine⟨e,⟨[mb],[hb],[],J,by simpa using j,⟨_,_,[],[],J,by simp,g,.inl ⟨J,J,J⟩,.inl ⟨J,J,J⟩⟩,⟨_,_,[],[],J,by simp,i,.inl ⟨J,J,J⟩,.inl ⟨J,J,J⟩,⟨fun k d=>(by cases d),fun k d=>(by cases d),by simp,fun l a=>(by cases a)⟩⟩,J⟩,Kp.refl _ _,e_ _,fun l a=>?_,a,f⟩;simp only[m_,al_,or_false]at a;rcases a with rfl|rfl<;>assumption
theorem DH.sl{h:AH}(b:DH h v q):∃a c,v=.slice a q.length c:=by
 rcases b with⟨rfl,rfl⟩|⟨a,rfl,_⟩
 ·exact⟨M,0,J⟩
 exact⟨_,_,J⟩
section
variable{h:AH}
def Je(b c:List Int)(a:Nat):Ms:=⟨[(0,⟨[],a,Bb b a,Bb b a,List.replicate (Bb c a).toNat (vz 0),0⟩)],0,⟨[],[]⟩,[],0,0,0,0⟩
theorem Atm{e:List Fd}{A:List AY}{a9:Ms}(a2:Wh h)(aa:D6 e)(a3:E3 h e v)(ab:Bh e=(A,q))(ai:(Aw e).size=r)(aj:Ih e=a)(ak:a<q.length)(ac:r[a]? =T (b:Int))(al:b≤100000)(am:∀an∈A,an.ok)
  (ad:Hb q r [] A d (Je q r a)=T a9):
  AR 86 [v] h (fun l f=>∃g i j k a4,l=AA i∧Ext h g∧h.n≤g.n∧Cd g j A q r∧k.er=a9∧Hr (D1 i j) g f a4 f a4 k∧Ext h f):=by
 obtain⟨ao,aQ,aR,aS,aT,aU,rfl,ap,aq,K⟩:=id a3;obtain⟨g,j,i,ar⟩:∃g j i,ao=.slice g j i:=by obtain⟨l,m,k,n,o⟩:=ap;obtain⟨g,i,F⟩:=k.slice;exact⟨g,_,i,F⟩
 obtain⟨k,l,au⟩:=aq.slice;obtain⟨m,n,av⟩:=K.t.sl;obtain⟨o,p,aw⟩:=K.sl.sl;obtain⟨s,t,ax⟩:=K.g.sl;obtain⟨u,w,ay⟩:=K.z.sl;subst ar au av aw ax ay;have L:=Ext.new h (.cells [.slice g j i,.slice k (AK e 0).length l,.slice m (Aw e).types.length n,.slice o (Aw e).Ac.length p,.slice s (Aw e).fns.length t,.slice u (Aw e).size.length w]);have N:=a2.new (.cells [.slice g j i,.slice k (AK e 0).length l,.slice m (Aw e).types.length n,.slice o (Aw e).Ac.length p,.slice s (Aw e).fns.length t,.slice u (Aw e).size.length w]);refine eF Tryz.func86 ?_;simp only[go_sem];refine AM N 0x1026033125 ?_;simp only[go_sem,V];refine Aj (Ok.wf N (Yk N aa (a3.ext a2 L))) ?_;rintro _ f az ⟨a5,⟨aA,aV,rfl,a6,a7⟩,P⟩;have aB:h.n+1≤f.n:=az;have ae:=(P h.n (a_ _)).trans (Ae _);have aC:h.n<f.n:=aB;simp only[go_sem,V,ae];refine Aj An7 ?_;rintro _ _ _ ⟨rfl,rfl⟩;obtain⟨x,y,z,aD⟩:∃x y z,aA=.slice x y z:=by
  rcases a6 with⟨_,F⟩|⟨a0,F,_⟩
  ·exact⟨_,_,_,F⟩
  exact⟨_,_,_,F⟩
 obtain⟨F,a0,aE⟩:=a7.sl;subst aD aE;simp only[go_sem,V,ae,aC];have af:=(a3.ext a2 L).ext N P;have ag:=Ahq (c:=⟨.slice g j i,.slice k (AK e 0).length l,.slice m (Aw e).types.length n,.slice o (Aw e).Ac.length p,.slice s (Aw e).fns.length t,.slice u (Aw e).size.length w,.slice x y z,.slice F (Bh e).2.length a0⟩) (mb:=f.n+1) (hb:=f.n) (h:=(f.new (.cells [.slice M 0 0,.slice M 0 0])).new (.cells [.slice g j i,.slice k (AK e 0).length l,.slice m (Aw e).types.length n,.slice o (Aw e).Ac.length p,.slice s (Aw e).fns.length t,.slice u (Aw e).size.length w,.slice x y z,.slice F (Bh e).2.length a0,.slice M 0 0,AA f.n,.slice M 0 0,I 0,I 0,I 0,I 0]))
  (Am (Am a5 _) _) f ((Ext.new f _).trans (z_ _) (Ext.new _ _)) (by simp only[go_sem];omega) (by simp only[go_sem]) (by simp only[go_sem]) (by omega) (by omega) (e_ _)
 have aF:Ext f ((f.new (.cells [.slice M 0 0,.slice M 0 0])).new (.cells [.slice g j i,.slice k (AK e 0).length l,.slice m (Aw e).types.length n,.slice o (Aw e).Ac.length p,.slice s (Aw e).fns.length t,.slice u (Aw e).size.length w,.slice x y z,.slice F (Bh e).2.length a0,.slice M 0 0,AA f.n,.slice M 0 0,I 0,I 0,I 0,I 0])):=(Ext.new f _).trans (z_ _) (Ext.new _ _);have aW:h.n<f.n+1+1:=by omega
 have a8:Cd f ⟨.slice g j i,.slice k (AK e 0).length l,.slice m (Aw e).types.length n,.slice o (Aw e).Ac.length p,.slice s (Aw e).fns.length t,.slice u (Aw e).size.length w,.slice x y z,.slice F (Bh e).2.length a0⟩ A q r:=by
  obtain⟨_,_,_,_,_,_,a1,_,_,ah⟩:=af;injection a1 with a1
  simp only[Array.mk.injEq,t_]at a1;obtain⟨_,_,_,_,_,aG,_⟩:=a1;refine⟨a5,?_,?_,?_⟩
  ·rw[ab]at a6;exact a6
  ·rw[ab]at a7⊢;exact a7
  rw[←ai];have:=ah.z;rw[←aG]at this;exact this
 refine Aa (ag.Dx (Ana ag.w aa (af.ext a5 aF))) ?_;rintro _ aX aY ⟨rfl,aG,aZ⟩;simp only[go_sem,V];rw[aj];have aH:q[a]? =T (Bb q a):=by unfold Bb;rw[f_,c_ ak];rfl
 refine Aa (Wj aG a8 (by show 0<1000;omega) aH ac al (.inl ⟨J,_,_,J⟩) (fun _ a1=>by cases a1)) ?_;rintro _ b0 b1 ⟨aI,aJ,rfl,a4,aK,b2⟩;simp only[go_sem,V];have aL:(Bb r a).toNat=b:=by unfold Bb;rw[f_,ac];rfl
 have aM:Je q r a=Ms.er ⟨[(aI,⟨[],a,Bb q a,Bb q a,copyV (List.replicate b (vz 0)) [],aJ⟩)],f.n,⟨[],[]⟩,[],0,0,0,0⟩:=by unfold Je;rw[aL,RZ];rfl
 rw[aM]at ad;refine Aa (Aab (xs:=[]) a8 am ⟨.inl ⟨J,M,0,J⟩,fun _ a1=>(by cases a1),p_ _⟩ d aK ad) ?_;rintro _ b3 b4 ⟨aN,aO,rfl,aP,ah,b5⟩;simp only[go_sem,V];exact⟨f,f.n+1,_,aN,aP,J,L.trans (z_ _) P,by omega,a8,aO,ah.start,(L.trans (z_ _) P).trans (by omega) ah.x⟩
end
end
end Go.Proofs.YtebhflkemdlbkaaGreatDoor
