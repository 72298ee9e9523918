/-
  A part of the proof of TopTexts. No conditions.
-/
import Derived.Test.YtebhflkemdlbkaaGreatDoorA3
import Derived.Test.YtebhflkemdlbkaaGreatDoorA2
set_option linter.unusedVariables false
set_option linter.unusedSimpArgs false
open Bool renaming and_eq_true->r_,or_false->D_,or_eq_true->aj_,eq_iff_iff->at_
open Classical renaming byContradiction->ae_
open Go renaming Value->k_,Operand->V_,TypeId->ao_
open Go.IntKind renaming wrap->w_
open Int renaming reduceBEq->u_,le_refl->C_,toNat_natCast->U_
open List renaming length_append->M,length_cons->a_,getElem?_eq_getElem->b_,length_map->d_,mem_append->e_,mem_singleton->f_,append_assoc->g_,eq_nil_of_length_eq_zero->h_,mem_cons->j_,length_nil->l_,cons_append->m_,getElem?_eq_some_iff->o_,mem_cons_of_mem->p_,length_take->s_,getD_eq_getElem?_getD->t_,mem_cons_self->v_,length_singleton->y_,mem_of_getElem?->z_,getElem?_append_right->A_,not_mem_nil->E_,getElem?_append_left->F_,length->G_,take_add_one->H_,getElem_mem->J_,take_length->K_,take_of_length_le->L_,append_nil->M_,getElem?_cons_zero->N_,getElem?_map->P_,drop_eq_getElem_cons->R_,getElem?_cons_succ->T_,mem_map->Z_,map_append->aa_,take_append_of_le_length->ab_,mem_reverse->ag_,getElem?_eq_none->ak_,getElem?_append->al_,mem_of_mem_take->am_,map_cons->an_,getElem?_drop->ap_,length_drop->aq_,map_reverse->ar_,length_set->as_,mem_range->au_
open Nat renaming reduceBEq->V,le_refl->Y,zero_le->c_,lt_succ_self->i_,le_succ->n_,lt_of_lt_of_le->q_,le_trans->x_,le_add_right->B_,add_assoc->I_,min_eq_left->O_,lt_or_ge->Q_,zero_add->S_,ble->W_,ble_eq_true_of_le->X_,not_lt_zero->Y_,mul_one->ac_,eq_zero_or_pos->ad_,le_of_lt->af_,zero_mul->ah_,add_sub_cancel_left->ai_
open Option renaming some->W,none->Z
namespace Go.Proofs.YtebhflkemdlbkaaGreatDoor
noncomputable section
variable{a b c d:Nat}{f g h:AH}{v w:Value}{s t:List UInt8}{l m:List Value}{u:TypeId}{x y:Int}{p:List Nat}{q r:List Int}{e:Env}{o n:Option Addr}
inductive NF(nf nn z:Nat)(K:Nat→Prop)(w:Nat→Nat)(hi p:Nat):AY→Prop
 |push (op a b:Int) (s:H):op=2∨op=3∨op=4∨op=14→w (p+1)=w p+1→NF nf nn z K w hi p ⟨op,a,b,s⟩
 |load (a b:Int) (s:H):0≤a→a.toNat<z→w (p+1)=w p+1→NF nf nn z K w hi p ⟨5,a,b,s⟩
 |bin (a b:Int) (s:H):w p=w (p+1)+1→1≤w (p+1)→NF nf nn z K w hi p ⟨7,a,b,s⟩
 |una (op a b:Int) (s:H):op=8∨op=9∨op=10∨op=13→1≤w p→w (p+1)=w p→NF nf nn z K w hi p ⟨op,a,b,s⟩
 |store (a b:Int) (s:H):0≤a→a.toNat<z→w p=w (p+1)+1→NF nf nn z K w hi p ⟨6,a,b,s⟩
 |pop (op a b:Int) (s:H):op=23∨op=15→w p=w (p+1)+1→NF nf nn z K w hi p ⟨op,a,b,s⟩
 |index (a b:Int) (s:H):0≤a→a.toNat<z→1≤w p→w (p+1)=w p→NF nf nn z K w hi p ⟨11,a,b,s⟩
 |put (a b:Int) (s:H):0≤a→a.toNat<z→w p=w (p+1)+2→NF nf nn z K w hi p ⟨12,a,b,s⟩
 |jump (t:Nat) (b:Int) (s:H):p<t→t≤hi→w t=w p→NF nf nn z K w hi p ⟨16,t,b,s⟩
 |back (t:Nat) (b:Int) (s:H):K t→w p=0→NF nf nn z K w hi p ⟨16,t,b,s⟩
 |skip (t:Nat) (b:Int) (s:H):p<t→t≤hi→w p=w (p+1)+1→w t=w (p+1)→NF nf nn z K w hi p ⟨17,t,b,s⟩
 |early (op:Int) (t:Nat) (b:Int) (s:H):op=18∨op=19→p<t→t≤hi→w p=w (p+1)+1→w t=w p→NF nf nn z K w hi p ⟨op,t,b,s⟩
 |call (a b:Int) (s:H):0≤a→a.toNat<nf→0≤b→b.toNat≤w p→w p+1=w (p+1)+b.toNat→NF nf nn z K w hi p ⟨20,a,b,s⟩
 |ret (a b:Int) (s:H):1≤w p→NF nf nn z K w hi p ⟨21,a,b,s⟩
 |none (a b:Int) (s:H):NF nf nn z K w hi p ⟨22,a,b,s⟩
 |mark (a b:Int) (s:H):0≤a→a.toNat<nn→w p=0→w (p+1)=0→NF nf nn z K w hi p ⟨1,a,b,s⟩
section
variable{nf nn z:Nat}{K:Nat→Prop}
theorem NF.mono{p q:Nat→Nat}{r:AY}(h:NF nf nn z K p a c r)(o:a≤b)(s:c<a)(l:∀m,c≤m→m≤a→q m=p m):NF nf nn z K q b c r:=by
 have t:=l c (Y _) (af_ s);have v:=l (c+1) (n_ _) s;cases h with
 |push n h f g d e=>exact .push _ _ _ _ d (by omega)
 |load h f g d e i=>exact .load _ _ _ d e (by omega)
 |bin h f g d e=>exact .bin _ _ _ (by omega) (by omega)
 |una n h f g d e i=>exact .una _ _ _ _ d (by omega) (by omega)
 |store h f g d e i=>exact .store _ _ _ d e (by omega)
 |pop n h f g d e=>exact .pop _ _ _ _ d (by omega)
 |index h f g d e i k=>exact .index _ _ _ d e (by omega) (by omega)
 |put h f g d e i=>exact .put _ _ _ d e (by omega)
 |jump j f g d e i=>exact .jump j f g d (x_ e o) (by rw[t,l j (af_ d) e];exact i)
 |back j f g d e=>exact .back j f g d (by omega)
 |skip j f g d e i k=>exact .skip j f g d (x_ e o) (by omega) (by rw[v,l j (af_ d) e];exact k)
 |early n j f g w d e i k=>exact .early n j f g w d (x_ e o) (by omega) (by rw[t,l j (af_ d) e];exact k)
 |call h f g d e i k j=>exact .call _ _ _ d e i (by omega) (by omega)
 |ret h f g d=>exact .ret _ _ _ (by omega)
 |none h f g=>exact .none _ _ _
 |mark h f g d e i k=>exact .mark _ _ _ d e (by omega) (by omega)
variable(nf nn z K)in
def Sg(e:Nat→Nat)(a:Nat)(b:List AY):Prop:=∀c d,b[c]? =W d→NF nf nn z K e (a+b.length) (a+c) d
variable(nf nn z K)in
def Sx(a:Nat)(d:List AY)(e f:Nat):Prop:=∃b:Nat→Nat,b a=e∧b (a+d.length)=f∧(∀c,a≤c→c≤a+d.length→b c+a≤e+c)∧Sg nf nn z K b a d
theorem Sx.nil(b a:Nat):Sx nf nn z K b [] a a:=⟨fun _=>a,J,J,fun c d _=>by simp_all,fun e f g=>by simp_all⟩
theorem Sx.app{n h k f:Nat}{b g:List AY}(q:Sx nf nn z K n b h k)(r:Sx nf nn z K (n+b.length) g k f):Sx nf nn z K n (b++g) h f:=by
 obtain⟨c,L,s,m,t⟩:=q;obtain⟨d,v,w,x,y⟩:=r;have o:∀a,a≤n+b.length→(if a<n+b.length then c a else d a)=c a:=by
  intro a i;split
  ·rfl
  have:a=n+b.length:=by omega
  rw[this,v,s]
 have l:∀a,n+b.length≤a→(if a<n+b.length then c a else d a)=d a:=fun a i=>Jl;refine⟨fun a=>if a<n+b.length then c a else d a,?_,?_,?_,?_⟩
 ·simp_all
 ·rw[M,←I_]
  exact(l _ (by omega)).trans w
 ·intro a e j
  rw[M]at j;have p:=m (n+b.length) (by omega) (Y _);by_cases i:a≤n+b.length
  ·show(if a<n+b.length then c a else d a)+n≤h+a
   rw[o a i];exact m a e i
  show(if a<n+b.length then c a else d a)+n≤h+a;rw[l a (by omega)];have N:=x a (by omega) (by omega);omega
 intro e p j;rw[al_]at j;rw[M];split at j
 ·exact(t e p j).mono (by omega) (by omega) fun a _ f=>o a f
 rename_i N;have P:e-b.length<g.length:=by
  rcases Q_ (e-b.length) g.length with h|h
  ·exact h
  simp_all
 have:=y _ p j;rw[show n+b.length+(e-b.length)=n+e by omega]at this;exact this.mono (by omega) (by omega) fun a k _=>l a (by omega)
theorem Sx.cons{k:AY}{l:List AY}(o:Sx nf nn z K (a+1) l c d)(v:c≤b+1)(p:∀h:Nat→Nat,h a=b→h (a+1)=c→h (a+1+l.length)=d→NF nf nn z K h (a+1+l.length) a k):Sx nf nn z K a (k::l) b d:=by
 obtain⟨i,q,m,r,s⟩:=o;have j:∀e,a+1≤e→(if e=a then b else i e)=i e:=fun e n=>Jl;refine⟨fun e=>if e=a then b else i e,Agd J,?_,?_,?_⟩
 ·rw[a_,show a+(l.length+1)=a+1+l.length by omega]
  exact(j _ (by omega)).trans m
 ·intro e g f
  rw[a_]at f;show(if e=a then b else i e)+a≤b+e;by_cases n:e=a
  ·simp_all
  rw[Akt n];have:=r e (by omega) (by omega);omega
 intro f t g;rw[a_,show a+(l.length+1)=a+1+l.length by omega];cases f with
 |zero=>
  rw[N_]at g;cases g;exact p _ (Agd J) ((j _ (Y _)).trans q) ((j _ (by omega)).trans m)
 |succ f=>
  rw[T_]at g;have w:f<l.length:=(o_.1 g).1;have:=s f t g;rw[show a+1+f=a+(f+1)by omega]at this;exact this.mono (Y _) (by omega) fun e c _=>j e (by omega)
theorem Sx.one{e:AY}(f:c≤b+1)(g:∀d:Nat→Nat,d a=b→d (a+1)=c→NF nf nn z K d (a+1) a e):Sx nf nn z K a [e] b c:=
 Sx.cons (Sx.nil _ c) f fun d h i _=>g d h i
theorem Sx.fork{e f:List AY}(v:Sx nf nn z K (a+1) e 0 0)(w:Sx nf nn z K (a+1+e.length+1) f 0 0)(k:b=a+1+e.length+1)(l:c=a+1+e.length+1+f.length):
  Sx nf nn z K a (ins 17 b::(e++ins 16 c::f)) 1 0:=by
 subst k l;obtain⟨g,x,y,L,N⟩:=v;obtain⟨h,P,q,a0,a1⟩:=w;have p:(ins 17 (a+1+e.length+1:Nat)::(e++ins 16 (a+1+e.length+1+f.length:Nat)::f)).length=1+e.length+1+f.length:=by simp only[a_,M];omega
 have a2:∀d,d=a→(if d=a then 1 else if d≤a+1+e.length then g d else h d)=1:=fun d r=>Agd r;have o:∀d,a<d→d≤a+1+e.length→(if d=a then 1 else if d≤a+1+e.length then g d else h d)=g d:=fun d k l=>by rw[Jl,Agd l]
 have m:∀d,a+1+e.length<d→(if d=a then 1 else if d≤a+1+e.length then g d else h d)=h d:=fun d k=>by rw[Jl,Jl]
 refine⟨fun d=>if d=a then 1 else if d≤a+1+e.length then g d else h d,a2 a J,?_,?_,?_⟩
 ·rw[p]
  show(if a+(1+e.length+1+f.length)=a then 1 else if a+(1+e.length+1+f.length)≤a+1+e.length then g (a+(1+e.length+1+f.length))else h (a+(1+e.length+1+f.length)))=0;rw[m _ (by omega),show a+(1+e.length+1+f.length)=a+1+e.length+1+f.length by omega];exact q
 ·intro d n j
  rw[p]at j;show(if d=a then 1 else if d≤a+1+e.length then g d else h d)+a≤1+d;by_cases r:d=a
  ·simp_all
  by_cases i:d≤a+1+e.length
  ·rw[o d (by omega) i]
   have:=L d (by omega) i;omega
  rw[m d (by omega)];have:=a0 d (by omega) (by omega);omega
 intro n s j;rw[p];cases n with
 |zero=>
  rw[N_]at j;cases j;refine .skip _ _ _ (by omega) (by omega) ?_ ?_
  ·simp_all
  show(if a+1+e.length+1=a then 1 else if a+1+e.length+1≤a+1+e.length then g (a+1+e.length+1)else h (a+1+e.length+1))=(if a+0+1=a then 1 else if a+0+1≤a+1+e.length then g (a+0+1)else h (a+0+1));rw[m _ (by omega),o _ (by omega) (by omega),show a+0+1=a+1 by omega,x,P]
 |succ i=>
  rw[T_,al_]at j;split at j
  ·have:=N i s j
   rw[show a+1+i=a+(i+1)by omega]at this;exact this.mono (by omega) (by omega) fun d k l=>o d (by omega) l
  rename_i a3;cases t:i-e.length with
  |zero=>
   have a4:i=e.length:=by omega
   rw[t,N_]at j;cases j;refine .jump _ _ _ (by omega) (by omega) ?_;show(if a+1+e.length+1+f.length=a then 1 else if a+1+e.length+1+f.length≤a+1+e.length then g (a+1+e.length+1+f.length)else h (a+1+e.length+1+f.length))=(if a+(i+1)=a then 1 else if a+(i+1)≤a+1+e.length then g (a+(i+1))else h (a+(i+1)));rw[m _ (by omega),o _ (by omega) (by omega),q,show a+(i+1)=a+1+e.length by omega,y]
  |succ n=>
   rw[t,T_]at j;have a4:n<f.length:=(o_.1 j).1;have:=a1 n s j;rw[show a+1+e.length+1+n=a+(i+1)by omega]at this;exact this.mono (by omega) (by omega) fun d k _=>m d (by omega)
end
def Pl(u:List Int)(z a:Nat):Prop:=0≤Bb u a∧(Bb u a).toNat<z
section
variable(u:List Int)(z:Nat)
def Xp.sl:Xp→Nat→Prop
 |.var _,a=>Pl u z a
 |.index _ b,a=>b.sl a∧Pl u z (a+b.sz)
 |.len b,a|.neg b,a|.no b,a=>b.sl a
 |.bin _ b c,a=>b.sl a∧c.sl (a+b.sz)
 |_,_=>True
def Aly:List Xp→Nat→Prop
 |[],_=>True
 |e::b,a=>e.sl u z a∧Aly b (a+e.sz)
variable(F:List Fn)
def Rg.sl:Rg→Nat→Prop
 |.new b,a|.expr b,a=>b.sl u z a
 |.call c d,a=>Aly u z d a∧0≤Gr (fun b=>b.name==c) F 0∧(Gr (fun b=>b.name==c) F 0).toNat<F.length
 |_,_=>True
mutual
def Sm.sl:Sm→Nat→Prop
 |.lt _ b,a|.set _ b,a=>b.sl u z F a∧Pl u z (a+b.sz)
 |.put _ b c,a=>b.sl u z a∧c.sl u z (a+b.sz)∧Pl u z (a+(b.sz+c.sz))
 |.run b d,a=>Rg.sl u z F (.call b d) a
 |.print b,a|.ret b,a=>b.sl u z a
 |.Fa,_=>True
 |.Kv b c,a|.KD b c,a=>b.sl u z a∧c.sl (a+b.sz)
 |.FP b c d,a=>b.sl u z a∧c.sl (a+b.sz)∧d.sl (a+b.sz+(c.sz+1))
def Bl.sl:Bl→Nat→Prop
 |.nil,_=>True
 |.cons a c,b=>a.sl b∧c.sl (b+a.sz)
end
end
theorem Jw(c d:List AY)(e:AY)(f:Int)(g:b=c.length):Jj (c++e::d) b f=c++{e with a:=f}::d:=by subst g;unfold Jj;rw[A_ (Y _),Nat.sub_self,N_];simp only;rw[List.set_append_right _ _ (Y _),Nat.sub_self,List.set_cons_zero]
theorem Ahx{u:List Int}{z a:Nat}(b:Pl u z a):0≤max (Bb u a) 0∧(max (Bb u a) 0).toNat<z:=by rw[Int.max_eq_left b.1];exact b
section
variable{nf nn z:Nat}{K:Nat→Prop}{A:Ay}{F:List Fn}
theorem DD{b d e:Int}(c:b≠2)(f:b≠4):AY.ok ⟨b,d,e,s⟩:=⟨fun a=>absurd a c,fun a=>absurd a c,fun a=>absurd a f⟩
theorem Xp.CX:∀(e:Xp) (a:Nat),e.sl A.Ac z a→e.A6→∀(b:List AY) (c:Nat),∃d,e.co A a b=b++d∧d.length≤e.sz∧(∀i∈d,i.ok)∧Sx nf nn z K b.length d c (c+1)
 |.int h,a,_,f,b,c=>⟨_,J,Y _,by simp only[f_];rintro i rfl;exact⟨fun _=>by simp,fun _=>by have f:h<9223372036854775808:=f;show(h:Int)<_;omega,fun c=>by cases c⟩,Sx.one (Y _) fun n g o=>.push _ _ _ _ (.inl J) (by omega)⟩
 |.bool p,a,_,_,b,c=>⟨_,J,Y _,by simp only[f_];rintro i rfl;exact DD (by decide) (by decide),Sx.one (Y _) fun n g o=>.push _ _ _ _ (.inr (.inl J)) (by omega)⟩
 |.text r,a,_,f,b,c=>⟨_,J,Y _,by simp only[f_];rintro i rfl;exact⟨fun c=>(by cases c),fun c=>(by cases c),fun _=>by have:=f.2;show r.length≤_;omega⟩,Sx.one (Y _) fun n g o=>.push _ _ _ _ (.inr (.inr (.inl J))) (by omega)⟩
 |.var i,a,h,_,b,c=>⟨_,J,Y _,by simp only[f_];rintro i rfl;exact DD (by decide) (by decide),Sx.one (Y _) fun n g o=>.load _ _ _ h.1 h.2 (by omega)⟩
 |.index i e,a,h,f,b,c=>by
  obtain⟨d,g,o,w,l⟩:=e.CX a h.1 f.2 b c;refine⟨d++[ins 11 (max (Bb A.Ac (a+e.sz)) 0)],by rw[Xp.co,g,g_],by simp[Xp.sz];omega,?_,l.app (Sx.one (n_ _) fun n s t=>.index _ _ _ (Ahx h.2).1 (Ahx h.2).2 (by omega) (by omega))⟩;simp only[e_,f_];rintro i (q|rfl)
  ·simp_all
  exact DD (by decide) (by decide)
 |.len e,a,h,f,b,c=>by
  obtain⟨d,g,o,w,l⟩:=e.CX a h f b c;refine⟨d++[ins 10 (max (Bb A.Ac (a+e.sz)) 0)],by rw[Xp.co,g,g_],by simp[Xp.sz];omega,?_,l.app (Sx.one (n_ _) fun n s t=>.una _ _ _ _ (.inr (.inr (.inl J))) (by omega) (by omega))⟩;simp only[e_,f_];rintro i (q|rfl)
  ·simp_all
  exact DD (by decide) (by decide)
 |.neg e,a,h,f,b,c=>by
  obtain⟨d,g,o,w,l⟩:=e.CX a h f b c;refine⟨d++[ins 8 (max (Bb A.Ac (a+e.sz)) 0)],by rw[Xp.co,g,g_],by simp[Xp.sz];omega,?_,l.app (Sx.one (n_ _) fun n s t=>.una _ _ _ _ (.inl J) (by omega) (by omega))⟩;simp only[e_,f_];rintro i (q|rfl)
  ·simp_all
  exact DD (by decide) (by decide)
 |.no e,a,h,f,b,c=>by
  obtain⟨d,g,o,w,l⟩:=e.CX a h f b c;refine⟨d++[ins 9 (max (Bb A.Ac (a+e.sz)) 0)],by rw[Xp.co,g,g_],by simp[Xp.sz];omega,?_,l.app (Sx.one (n_ _) fun n s t=>.una _ _ _ _ (.inr (.inl J)) (by omega) (by omega))⟩;simp only[e_,f_];rintro i (q|rfl)
  ·simp_all
  exact DD (by decide) (by decide)
 |.bin r j p,a,h,f,b,c=>by
  obtain⟨d,g,o,w,l⟩:=j.CX a h.1 f.2.1 b c;have early:∀m:Int,m=18∨m=19→∃k,Jj (p.co A (a+j.sz) (j.co A a b++[ins m 0])) (j.co A a b).length (p.co A (a+j.sz) (j.co A a b++[ins m 0])).length=b++k∧k.length≤j.sz+p.sz+1∧(∀i∈k,i.ok)∧Sx nf nn z K b.length k c (c+1):=by
   intro m y;obtain⟨k,x,L,N,v⟩:=p.CX (a+j.sz) h.2 f.2.2 (j.co A a b++[ins m 0]) c;rw[x,g,g_ (b++d),List.singleton_append,Jw _ _ _ _ rfl];refine⟨d++(⟨m,((b++d++ins m 0::k).length:Nat),0,[]⟩::k),by simp,by simp;omega,?_,l.app ?_⟩
   ·simp only[e_,j_]
    rintro i (q|rfl|q)
    ·simp_all
    ·rcases y with rfl|rfl<;>exact DD (by decide) (by decide)
    simp_all
   have P:(j.co A a b++[ins m 0]).length=b.length+d.length+1:=by rw[g];simp;omega
   have a0:(b++d++ins m 0::k).length=b.length+d.length+1+k.length:=by simp;omega
   rw[P]at v;rw[a0];exact v.cons (by omega) fun n s t a1=>.early _ _ _ _ y (by omega) (Y _) (by omega) (by omega)
  have y:(Xp.bin r j p).sz=j.sz+p.sz+1:=J;rw[y];unfold Xp.co;cases P:r==[38,38]
  ·cases a0:r==[124,124]
   ·obtain⟨k,x,L,N,v⟩:=p.CX (a+j.sz) h.2 f.2.2 (j.co A a b) (c+1)
    simp only[Acf];rw[x,g];rw[g,M]at v;refine⟨d++(k++[⟨7,0,0,r⟩]),by simp,by simp;omega,?_,l.app (v.app (Sx.one (by omega) fun n s t=>.bin _ _ _ (by omega) (by omega)))⟩;simp only[e_,f_];rintro i (q|q|rfl)
    ·simp_all
    ·simp_all
    exact DD (by decide) (by decide)
   simp_all
  simp_all
theorem Wn:∀(a:List Xp) (c:Nat),Aly A.Ac z a c→G0 a→∀(d:List AY) (b:Nat),∃f,Sa A a c d=d++f∧f.length≤Dq a∧(∀g∈f,g.ok)∧Sx nf nn z K d.length f b (b+a.length)
 |[],c,_,_,d,b=>⟨[],by simp[Sa],Y _,by simp,Sx.nil _ _⟩
 |e::a,c,h,i,d,b=>by
  obtain⟨f,j,p,q,l⟩:=e.CX (nf:=nf) (nn:=nn) (K:=K) c h.1 i.1 d b;obtain⟨m,n,r,s,k⟩:=Wn a (c+e.sz) h.2 i.2 (e.co A c d) (b+1);refine⟨f++m,by rw[Sa,n,j,g_],by simp[Dq];omega,?_,?_⟩
  ·simp only[e_]
   rintro g (o|o)
   ·simp_all
   simp_all
  rw[j,M]at k;rw[a_,show b+(a.length+1)=b+1+a.length by omega];exact l.app k
theorem Rg.CX(d:Rg)(b:Nat)(e:d.sl A.Ac z F b)(j:d.A6)(n:F.length≤nf)(c:List AY)(f:Nat):∃a,d.co A F b c=c++a∧a.length≤d.sz∧(∀g∈a,g.ok)∧Sx nf nn z K c.length a f (f+1):=by
 cases d with
 |input=>exact⟨_,J,Y _,by simp only[f_];rintro g rfl;exact DD (by decide) (by decide),Sx.one (Y _) fun l h m=>.push _ _ _ _ (.inr (.inr (.inr J))) (by omega)⟩
 |new i=>
  obtain⟨a,h,m,o,k⟩:=i.CX (nf:=nf) (nn:=nn) (K:=K) b e j c f;refine⟨a++[ins 13 (max (Bb A.Ac (b+i.sz)) 0)],by rw[Rg.co,h,g_],by simp[Rg.sz];omega,?_,k.app (Sx.one (n_ _) fun l p q=>.una _ _ _ _ (.inr (.inr (.inr J))) (by omega) (by omega))⟩;simp only[e_,f_];rintro g (r|rfl)
  ·simp_all
  exact DD (by decide) (by decide)
 |call s a=>
  obtain⟨t,h,m,o,k⟩:=Wn (nf:=nf) (nn:=nn) (K:=K) a b e.1 j.2 c f;refine⟨t++[⟨20,Gr (fun v=>v.name==s) F 0,a.length,[]⟩],by rw[Rg.co,h,g_],by simp[Rg.sz];omega,?_,k.app (Sx.one (by omega) fun l p q=>.call _ _ _ e.2.1 (q_ e.2.2 n) (by omega) (by omega) (by omega))⟩;simp only[e_,f_];rintro g (r|rfl)
  ·simp_all
  exact DD (by decide) (by decide)
 |expr i=>exact i.CX b e j c f
def Hk(K:Nat→Prop)(c:Nat)(d:List AY):Prop:=∀a b,d[a]? =W b→b.op=1→K (c+a)
theorem Hk.cons{c:AY}{l:List AY}(d:Hk K a (c::l)):Hk K (a+1) l:=fun b e g f=>by
 have:=d (b+1) e (by simp_all) f;rwa[show a+(b+1)=a+1+b by omega]at this
theorem Hk.left{b d:List AY}(e:Hk K a (b++d)):Hk K a b:=fun f g c h=>
 e f g (by rw[F_ (o_.1 c).1];exact c) h
theorem Hk.right{b c:List AY}(d:Hk K a (b++c)):Hk K (a+b.length) c:=fun e f g h=>by
 have:=d (b.length+e) f (by rw[A_ (by omega),ai_];exact g) h;rwa[←I_]at this
theorem Sx.marked{b:List AY}(c:Sx nf nn z K (a+1) b 0 0)(d:0≤x)(e:x.toNat<nn):Sx nf nn z K a (ins 1 x::b) 0 0:=
 c.cons (c_ _) fun _ f g _=>.mark _ _ _ d e f g
mutual
theorem Sm.CX(x:F.length≤nf):∀(N:Sm) (a:Nat),N.sl A.Ac z F a→N.A6→a+N.sz≤nn→∀b:List AY,∃p d,N.co A F a b=b++ins 1 p::d∧d.length+1≤2*N.sz∧(∀a1∈d,a1.ok)∧(Hk K b.length (ins 1 p::d)→Sx nf nn z K b.length (ins 1 p::d) 0 0)
 |.lt a1 c,a,h,j,m,b=>by
  simp only[Sm.sz]at m⊢;obtain⟨d,k,r,v,i⟩:=c.CX (nn:=nn) (K:=K) a h.1 j.2 x (b++[ins 1 ((a+c.sz:Nat):Int)]) 0;refine⟨((a+c.sz:Nat):Int),d++[ins 6 (Bb A.Ac (a+c.sz))],by rw[Sm.co,k];simp,by simp;omega,?ok,fun _=>Sx.marked ?_ (by omega) (by omega)⟩
  case ok=>
   intro s g;simp only[e_,j_,E_,or_false]at g;rcases g with g|rfl
   ·simp_all
   exact DD (by decide) (by decide)
  rw[M]at i;exact i.app (Sx.one (by omega) fun t q n=>.store _ _ _ h.2.1 h.2.2 (by omega))
 |.set a1 c,a,h,j,m,b=>by
  simp only[Sm.sz]at m⊢;obtain⟨d,k,r,v,i⟩:=c.CX (nn:=nn) (K:=K) a h.1 j.2 x (b++[ins 1 ((a+c.sz:Nat):Int)]) 0;refine⟨((a+c.sz:Nat):Int),d++[ins 6 (Bb A.Ac (a+c.sz))],by rw[Sm.co,k];simp,by simp;omega,?ok,fun _=>Sx.marked ?_ (by omega) (by omega)⟩
  case ok=>
   intro s g;simp only[e_,j_,E_,or_false]at g;rcases g with g|rfl
   ·simp_all
   exact DD (by decide) (by decide)
  rw[M]at i;exact i.app (Sx.one (by omega) fun t q n=>.store _ _ _ h.2.1 h.2.2 (by omega))
 |.put a1 p e,a,h,j,m,b=>by
  simp only[Sm.sz]at m⊢;obtain⟨d,k,r,v,i⟩:=p.CX (nf:=nf) (nn:=nn) (K:=K) a h.1 j.2.1 (b++[ins 1 ((a+(p.sz+e.sz):Nat):Int)]) 0;obtain⟨f,w,a2,a3,o⟩:=e.CX (nf:=nf) (nn:=nn) (K:=K) (a+p.sz) h.2.1 j.2.2 (p.co A a (b++[ins 1 ((a+(p.sz+e.sz):Nat):Int)])) 1;refine⟨((a+(p.sz+e.sz):Nat):Int),d++(f++[ins 12 (Bb A.Ac (a+(p.sz+e.sz)))]),by rw[Sm.co,w,k];simp,by simp;omega,?ok,fun _=>Sx.marked ?_ (by omega) (by omega)⟩
  case ok=>
   intro s g;simp only[e_,j_,E_,or_false]at g;rcases g with g|g|rfl
   ·simp_all
   ·simp_all
   exact DD (by decide) (by decide)
  rw[k,M]at o;rw[M]at i o;exact i.app (o.app (Sx.one (by omega) fun t q n=>.put _ _ _ h.2.2.1 h.2.2.2 (by omega)))
 |.run c d,a,h,j,m,b=>by
  simp only[Sm.sz]at m⊢;obtain⟨f,k,r,v,i⟩:=Rg.CX (nn:=nn) (K:=K) (.call c d) a h j x (b++[ins 1 ((a+(Dq d+1):Nat):Int)]) 0;simp only[Rg.sz]at r;refine⟨((a+(Dq d+1):Nat):Int),f++[ins 23 0],by rw[Sm.co,k];simp,by simp;omega,?ok,fun _=>Sx.marked ?_ (by omega) (by omega)⟩
  case ok=>
   intro s g;simp only[e_,j_,E_,or_false]at g;rcases g with g|rfl
   ·simp_all
   exact DD (by decide) (by decide)
  rw[M]at i;exact i.app (Sx.one (by omega) fun t q n=>.pop _ _ _ _ (.inl J) (by omega))
 |.print c,a,h,j,m,b=>by
  simp only[Sm.sz]at m⊢;obtain⟨f,k,r,v,i⟩:=c.CX (nf:=nf) (nn:=nn) (K:=K) a h j (b++[ins 1 ((a+c.sz:Nat):Int)]) 0;refine⟨((a+c.sz:Nat):Int),f++[ins 15 0],by rw[Sm.co,k];simp,by simp;omega,?ok,fun _=>Sx.marked ?_ (by omega) (by omega)⟩
  case ok=>
   intro s g;simp only[e_,j_,E_,or_false]at g;rcases g with g|rfl
   ·simp_all
   exact DD (by decide) (by decide)
  rw[M]at i;exact i.app (Sx.one (by omega) fun t q n=>.pop _ _ _ _ (.inr J) (by omega))
 |.Fa,a,h,j,m,b=>by
  simp only[Sm.sz]at m⊢;exact⟨(a:Int),[ins 22 0],by rw[Sm.co];simp,by simp,(by simp only[f_];rintro s rfl;exact DD (by decide) (by decide)),fun _=>Sx.marked (Sx.one (by omega) fun t q n=>.none _ _ _) (by omega) (by omega)⟩
 |.ret c,a,h,j,m,b=>by
  simp only[Sm.sz]at m⊢;obtain⟨f,k,r,v,i⟩:=c.CX (nf:=nf) (nn:=nn) (K:=K) a h j (b++[ins 1 ((a+c.sz:Nat):Int)]) 0;refine⟨((a+c.sz:Nat):Int),f++[ins 21 0],by rw[Sm.co,k];simp,by simp;omega,?ok,fun _=>Sx.marked ?_ (by omega) (by omega)⟩
  case ok=>
   intro s g;simp only[e_,j_,E_,or_false]at g;rcases g with g|rfl
   ·simp_all
   exact DD (by decide) (by decide)
  rw[M]at i;exact i.app (Sx.one (by omega) fun t q n=>.ret _ _ _ (by omega))
 |.Kv c e,a,h,j,m,b=>by
  simp only[Sm.sz]at m⊢;obtain⟨d,k,r,v,i⟩:=c.CX (nf:=nf) (nn:=nn) (K:=K) a h.1 j.1 (b++[ins 1 ((a+(c.sz+(e.sz+1)):Nat):Int)]) 0;obtain⟨f,w,a2,a3,_,o⟩:=e.CX x (a+c.sz) h.2 j.2 (by omega) (c.co A a (b++[ins 1 ((a+(c.sz+(e.sz+1)):Nat):Int)])++[ins 17 0]);have P:(b++[ins 1 ((a+(c.sz+(e.sz+1)):Nat):Int)]++d++ins 17 0::(f++[ins 16 b.length])).length=b.length+1+d.length+1+(f.length+1):=by simp;omega
  refine⟨((a+(c.sz+(e.sz+1)):Nat):Int),d++(ins 17 ((b.length+1+d.length+1+(f.length+1):Nat):Int)::(f++[ins 16 b.length])),?_,by simp;omega,?ok,fun y=>Sx.marked ?_ (by omega) (by omega)⟩
  case ok=>
   intro s g;simp only[e_,j_,E_,or_false]at g;rcases g with g|rfl|g|rfl
   ·simp_all
   ·exact DD (by decide) (by decide)
   ·simp_all
   exact DD (by decide) (by decide)
  ·rw[Sm.co]
   unfold Jr;simp only;rw[w,k];rw[show b++[ins 1 ((a+(c.sz+(e.sz+1)):Nat):Int)]++d++[ins 17 0]++f++[ins 16 (b.length:Int)]=b++[ins 1 ((a+(c.sz+(e.sz+1)):Nat):Int)]++d++ins 17 0::(f++[ins 16 b.length])by simp,Jw _ _ _ _ rfl,P];simp
  have a5:=y 0 _ J J;rw[M,y_]at i;refine i.app ?_;have a0:(c.co A a (b++[ins 1 ((a+(c.sz+(e.sz+1)):Nat):Int)])++[ins 17 0]).length=b.length+1+d.length+1:=by rw[k];simp;omega
  rw[a0]at o;have L:=(y.cons.right).cons.left;refine Sx.cons (l:=f++[ins 16 b.length]) ((o L).app (Sx.one (by omega) fun t q n=>.back _ _ _ a5 q)) (c_ _) fun t q n a4=>.skip _ _ _ (by omega) (by simp) (by omega) ?_;rw[n,←a4];simp
 |.KD c e,a,h,j,m,b=>by
  simp only[Sm.sz]at m⊢;obtain⟨d,k,r,v,i⟩:=c.CX (nf:=nf) (nn:=nn) (K:=K) a h.1 j.1 (b++[ins 1 ((a+(c.sz+(e.sz+1)):Nat):Int)]) 0;obtain⟨f,w,a2,a3,_,o⟩:=e.CX x (a+c.sz) h.2 j.2 (by omega) (c.co A a (b++[ins 1 ((a+(c.sz+(e.sz+1)):Nat):Int)])++[ins 17 0]);have P:(b++[ins 1 ((a+(c.sz+(e.sz+1)):Nat):Int)]++d++ins 17 0::f).length=b.length+1+d.length+1+f.length:=by simp;omega
  refine⟨((a+(c.sz+(e.sz+1)):Nat):Int),d++(ins 17 ((b.length+1+d.length+1+f.length:Nat):Int)::f),?_,by simp;omega,?ok,fun y=>Sx.marked ?_ (by omega) (by omega)⟩
  case ok=>
   intro s g;simp only[e_,j_]at g;rcases g with g|rfl|g
   ·simp_all
   ·exact DD (by decide) (by decide)
   simp_all
  ·rw[Sm.co]
   unfold Jr;simp only;rw[w,k];rw[show b++[ins 1 ((a+(c.sz+(e.sz+1)):Nat):Int)]++d++[ins 17 0]++f=b++[ins 1 ((a+(c.sz+(e.sz+1)):Nat):Int)]++d++ins 17 0::f by simp,Jw _ _ _ _ rfl,P];simp
  rw[M,y_]at i;refine i.app ?_;have a0:(c.co A a (b++[ins 1 ((a+(c.sz+(e.sz+1)):Nat):Int)])++[ins 17 0]).length=b.length+1+d.length+1:=by rw[k];simp;omega
  rw[a0]at o;have L:=(y.cons.right).cons;refine Sx.cons (l:=f) (o L) (c_ _) fun t q n a4=>.skip _ _ _ (by omega) (by simp) (by omega) ?_;rw[n,←a4]
 |.FP c e n,a,h,j,m,b=>by
  simp only[Sm.sz]at m⊢;obtain⟨d,k,r,v,i⟩:=c.CX (nf:=nf) (nn:=nn) (K:=K) a h.1 j.1 (b++[ins 1 ((a+(c.sz+(e.sz+1)+(n.sz+1)):Nat):Int)]) 0;obtain⟨f,w,a2,a3,_,o⟩:=e.CX x (a+c.sz) h.2.1 j.2.1 (by omega) (c.co A a (b++[ins 1 ((a+(c.sz+(e.sz+1)+(n.sz+1)):Nat):Int)])++[ins 17 0]);have P:(b++[ins 1 ((a+(c.sz+(e.sz+1)+(n.sz+1)):Nat):Int)]++d++[ins 17 0]++f++[ins 16 0]).length=b.length+1+d.length+1+f.length+1:=by simp;omega
  have a4:Jj (e.co A F (a+c.sz) (c.co A a (b++[ins 1 ((a+(c.sz+(e.sz+1)+(n.sz+1)):Nat):Int)])++[ins 17 0])++[ins 16 0]) (c.co A a (b++[ins 1 ((a+(c.sz+(e.sz+1)+(n.sz+1)):Nat):Int)])).length ((e.co A F (a+c.sz) (c.co A a (b++[ins 1 ((a+(c.sz+(e.sz+1)+(n.sz+1)):Nat):Int)])++[ins 17 0])++[ins 16 0]).length:Nat)=
    b++ins 1 ((a+(c.sz+(e.sz+1)+(n.sz+1)):Nat):Int)::(d++ins 17 ((b.length+1+d.length+1+f.length+1:Nat):Int)::f)++[ins 16 0]:=by
   rw[w,k,P];rw[show b++[ins 1 ((a+(c.sz+(e.sz+1)+(n.sz+1)):Nat):Int)]++d++[ins 17 0]++f++[ins 16 0]=b++[ins 1 ((a+(c.sz+(e.sz+1)+(n.sz+1)):Nat):Int)]++d++ins 17 0::(f++[ins 16 0])by simp,Jw _ _ _ _ rfl];simp
  obtain⟨q,a5,a6,a7,_,t⟩:=n.CX x (a+c.sz+(e.sz+1)) h.2.2 j.2.2 (by omega) (b++ins 1 ((a+(c.sz+(e.sz+1)+(n.sz+1)):Nat):Int)::(d++ins 17 ((b.length+1+d.length+1+f.length+1:Nat):Int)::f)++[ins 16 0]);refine⟨((a+(c.sz+(e.sz+1)+(n.sz+1)):Nat):Int),d++(ins 17 ((b.length+1+d.length+1+f.length+1:Nat):Int)::(f++ins 16 ((b.length+1+d.length+1+f.length+1+q.length:Nat):Int)::q)),?_,by simp;omega,?ok,fun y=>Sx.marked ?_ (by omega) (by omega)⟩
  case ok=>
   intro s g;simp only[e_,j_]at g;rcases g with g|rfl|g|rfl|g
   ·simp_all
   ·exact DD (by decide) (by decide)
   ·simp_all
   ·exact DD (by decide) (by decide)
   simp_all
  ·rw[Sm.co]
   unfold KN;simp only;rw[a4,a5,w,k];rw[show b++ins 1 ((a+(c.sz+(e.sz+1)+(n.sz+1)):Nat):Int)::(d++ins 17 ((b.length+1+d.length+1+f.length+1:Nat):Int)::f)++[ins 16 0]++q=b++ins 1 ((a+(c.sz+(e.sz+1)+(n.sz+1)):Nat):Int)::(d++ins 17 ((b.length+1+d.length+1+f.length+1:Nat):Int)::f)++ins 16 0::q by simp,Jw _ _ _ _ (by simp)];simp;omega
  rw[M,y_]at i;refine i.app ?_;have a0:(c.co A a (b++[ins 1 ((a+(c.sz+(e.sz+1)+(n.sz+1)):Nat):Int)])++[ins 17 0]).length=b.length+1+d.length+1:=by rw[k];simp;omega
  rw[a0]at o;have g:(b++ins 1 ((a+(c.sz+(e.sz+1)+(n.sz+1)):Nat):Int)::(d++ins 17 ((b.length+1+d.length+1+f.length+1:Nat):Int)::f)++[ins 16 0]).length=b.length+1+d.length+1+f.length+1:=by simp_all
  rw[g]at t;have L:=(y.cons.right).cons;exact Sx.fork (o L.left) (t L.right.cons) J J
theorem Bl.CX(i:F.length≤nf):∀(d:Bl) (b:Nat),d.sl A.Ac z F b→d.A6→b+d.sz≤nn→∀c:List AY,∃a,d.co A F b c=c++a∧a.length≤2*d.sz∧(∀o∈a,o.ok)∧(a=[]∨∃e f,a=ins 1 e::f)∧(Hk K c.length a→Sx nf nn z K c.length a 0 0)
 |.nil,b,_,_,_,c=>⟨[],by simp[Bl.co],c_ _,by simp,.inl J,fun _=>Sx.nil _ _⟩
 |.cons h p,b,j,k,q,c=>by
  simp only[Bl.sz]at q⊢;obtain⟨e,a,l,t,v,r⟩:=h.CX i b j.1 k.1 (by omega) c;obtain⟨f,s,w,x,_,m⟩:=p.CX i (b+h.sz) j.2 k.2 (by omega) (h.co A F b c);refine⟨(ins 1 e::a)++f,by rw[Bl.co,s,l,g_],by simp;omega,?_,.inr ⟨e,a++f,J⟩,fun n=>?_⟩
  ·intro y g
   simp only[e_,j_]at g;rcases g with(rfl|g)|g
   ·exact DD (by decide) (by decide)
   ·simp_all
   simp_all
  rw[l,M]at m;exact(r n.left).app (m n.right)
end
end
structure Ayj(nf nn:Nat)(code:List AY)(lo hi z:Nat):Prop where
 lt:lo<hi
 le:hi≤code.length
 fst:∃x,code[lo]? =W x∧(x.op=1∨x.op=22)
 lst:∃x,code[hi-1]? =W x∧x.op=22
 ex:∃w:Nat→Nat,w lo=0∧(∀q,lo≤q→q<hi→w q≤q)∧∀p,lo≤p→p<hi→∃x,code[p]? =W x∧NF nf nn z (fun t=>lo≤t∧t<hi∧∃x,code[t]? =W x∧x.op=1) w (hi-1) p x
def Kx:List Fd→Nat
 |[]=>0
 |f::a=>f.body.sz+1+Kx a
section
variable(u:List Int)(F:List Fn)(zs:Nat→Nat)
def fsl:List Fd→Nat→Nat→Prop
 |[],_,_=>True
 |f::c,a,b=>f.body.sl u (zs a) F b∧fsl c (a+1) (b+(f.body.sz+1))
end
theorem Aac{nf nn:Nat}{A:Ay}{F:List Fn}{zs:Nat→Nat}(s:F.length≤nf):∀(d:List Fd) (j e:Nat),fsl A.Ac F zs d j e→(∀f∈d,f.A6)→e+Kx d≤nn→∀(a:List AY) (h:List Int),
  ∃g k,Tp A F d e a h=(a++g,h++k)∧k.length=d.length∧g.length≤2*Kx d∧(∀l∈g,l.ok)∧∀b,b<d.length→∃o p:Nat,k[b]? =W (o:Int)∧Ayj nf nn (a++g) o p (zs (j+b))
 |[],_,_,_,_,_,a,h=>⟨[],[],by simp[Tp],J,c_ _,by simp,fun b m=>absurd m (Y_ _)⟩
 |f::d,j,e,t,v,a1,a,h=>by
  simp only[Kx]at a1⊢;obtain⟨c,w,af,ag,a2,q⟩:=f.body.CX (nn:=nn) (K:=fun r=>a.length≤r∧r<(f.body.co A F e a).length+1∧∃l,(Tp A F (f::d) e a h).1[r]? =W l∧l.op=1) s e t.1 (v f (v_ ..)).2.2.2.2.2 (by omega) a;obtain⟨g,k,a3,ah,ai,aj,a4⟩:=Aac (nn:=nn) (A:=A) (zs:=zs) s d (j+1) (e+(f.body.sz+1)) t.2 (fun a5 a6=>v a5 (p_ _ a6)) (by omega) (f.body.co A F e a++[ins 22 f.ret]) (h++[(a.length:Int)]);have x:Tp A F (f::d) e a h=(a++(c++ins 22 f.ret::g),h++((a.length:Int)::k)):=by rw[Tp,a3,w];simp
  rw[x]at q;have a7:(f.body.co A F e a).length=a.length+c.length:=by simp_all
  rw[a7]at q;refine⟨c++ins 22 f.ret::g,(a.length:Int)::k,x,by simp_all,by simp;omega,?_,?_⟩
  ·intro n i
   simp only[e_,j_]at i;rcases i with i|rfl|i
   ·simp_all
   ·exact DD (by decide) (by decide)
   simp_all
  have y:∀b,b<c.length→(a++(c++ins 22 f.ret::g))[a.length+b]? =c[b]? :=fun b m=>by
   rw[A_ (by omega),ai_,F_ m]
  have a8:(a++(c++ins 22 f.ret::g))[a.length+c.length]? =W (ins 22 f.ret):=by simp
  intro b m;cases b with
  |zero=>
   refine⟨a.length,a.length+c.length+1,J,by omega,by simp;omega,?_,?_,?_⟩
   ·rcases a2 with rfl|⟨i,n,rfl⟩
    ·simp
    simp
   ·simp
   obtain⟨a9,aa,ak,ab,ac⟩:=q (by
    intro b l n i;have m:=(o_.1 n).1;exact⟨by omega,by omega,l,(y b m).trans n,i⟩)
   refine⟨a9,aa,fun ad L ae=>by have:=ab ad L (by omega);omega,fun i L ae=>?_⟩;by_cases al:i<a.length+c.length
   ·have N:i-a.length<c.length:=by omega
    have n:=b_ N;have P:=y _ N;rw[show a.length+(i-a.length)=i by omega]at P;have a0:=ac _ _ n;rw[show a.length+(i-a.length)=i by omega]at a0;exact⟨_,P.trans n,a0⟩
   have:i=a.length+c.length:=by omega
   subst this;exact⟨_,a8,.none _ _ _⟩
  |succ b=>
   obtain⟨o,p,n,i⟩:=a4 b (by simp_all);refine⟨o,p,n,?_⟩;rw[w]at i;rw[show a++c++[ins 22 f.ret]++g=a++(c++ins 22 f.ret::g)by simp,show j+1+b=j+(b+1)by omega]at i;exact i
structure Nk(k n:Nat)(s t:Ay):Prop where
 len:t.Ac.length=s.Ac.length
 out:∀j,j<k∨k+n≤j→Bb t.Ac j=Bb s.Ac j
 e:t.e=0→s.e=0
 fn:t.fn=s.fn
 size:t.size=s.size
 sz:s.sz≤t.sz
 bd:t.e=0→t.sz≤s.sz∨t.sz≤24
theorem Nk.refl(b c:Nat)(a:Ay):Nk b c a a:=⟨J,fun _ _=>rfl,id,J,J,C_ _,fun _=>.inl (C_ _)⟩
theorem Nk.trans{k d f h g i:Nat}{j l m:Ay}(b:Nk f h j l)(a:Nk g i l m)(h1:k≤f)(o:f+h≤k+d)(p:k≤g)(q:g+i≤k+d):Nk k d j m where
 len:=a.len.trans b.len
 out n r:=(a.out n (by omega)).trans (b.out n (by omega))
 e c:=b.e (a.e c)
 fn:=a.fn.trans b.fn
 size:=a.size.trans b.size
 sz:=Int.le_trans b.sz a.sz
 bd c:=by have h1:=a.bd c;have o:=b.bd (a.e c);omega
theorem J1{c:Ay}{d:Bool}(a:(c.ask d x y).e=0)(e:x≠0):c.e=0∧d=true:=by
 unfold Ay.ask at a;cases d with
 |true=>exact⟨by simp_all,J⟩
 |false=>
  cases b:c.e==0 with
  |true=>rw[b]at a;exact absurd a e
  |false=>rw[b]at a;simp at a;rw[a]at b;cases b
theorem C8(a:Ay)(b:Bool)(c d:Int):(a.ask b c d).Ac=a.Ac∧(a.ask b c d).vars=a.vars∧(a.ask b c d).sz=a.sz∧(a.ask b c d).fn=a.fn∧(a.ask b c d).size=a.size:=by unfold Ay.ask;cases(!b&&(a.e==0))<;>exact⟨J,J,J,J,J⟩
theorem Nk.ask(e f:Nat)(a:Ay)(b:Bool){er:Int}(c:Int)(g:er≠0):Nk e f a (a.ask b er c):=by obtain⟨d,_,k,h,i⟩:=C8 a b er c;exact⟨by rw[d],fun _ _=>by rw[d],fun j=>(J1 j g).1,h,i,by omega,fun _=>.inl (by omega)⟩
theorem P7(c:Int)(d:b≠a):Bb (q.set a c) b=Bb q b:=by unfold Bb;rw[t_,t_,List.getElem?_set_ne (Ne.symm d)]
theorem P8(b:Int)(c:a<q.length):Bb (q.set a b) a=b:=by simp_all
theorem Nk.CZ(a c b:Nat)(d:Ay)(e:Int)(f:a≤b)(g:b<a+c):Nk a c d (d.CZ b e):=
 ⟨as_,fun h i=>P7 _ (by omega),id,J,J,C_ _,fun _=>.inl (C_ _)⟩
theorem Nk.AD(b c d:Nat)(a:Ay):Nk b c a (a.AD d):=⟨J,fun _ _=>rfl,id,J,J,C_ _,fun _=>.inl (C_ _)⟩
theorem Nk.typeAt{d e:Ay}(c:Nk a b d e)(f:Nat)(g:Int):Nk a b d (e.typeAt f g):=⟨c.len,c.out,c.e,c.fn,c.size,c.sz,c.bd⟩
def VOk(a:Ay):Prop:=0≤a.sz∧∀b∈a.vars,0≤b.slot∧b.slot<a.sz
theorem RN{c:H}{d:Vr}:∀{b:List Vr},B7 c b=W d→d∈b
 |[],a=>by cases a
 |u::b,a=>by
  unfold B7 at a;cases e:u.name==c with
  |true=>rw[e]at a;cases a;exact v_ ..
  |false=>rw[e]at a;exact p_ _ (RN a)
theorem Ahn(b:Ay)(c:H)(a:Nat):Nk a 1 b (b.named c a).2∧(b.named c a).2.vars=b.vars∧(b.named c a).2.sz=b.sz∧
  ((b.named c a).2.e=0→VOk b→a<b.Ac.length→0≤Bb (b.named c a).2.Ac a∧Bb (b.named c a).2.Ac a<b.sz):=by
 unfold Ay.named;cases e:B7 c b.vars with
 |some d=>exact⟨Nk.CZ _ _ _ _ _ (Y _) (by omega),J,J,fun _ f g=>by
   have:Bb (b.CZ a d.slot).Ac a=d.slot:=P8 _ g;rw[this];exact f.2 d (RN e)⟩
 |none=>
  have d:=C8 b false 40 a;exact⟨(Nk.ask a 1 b false a (by decide)).trans (Nk.CZ a 1 a _ 0 (Y _) (by omega)) (Y _) (Y _) (Y _) (Y _),d.2.1,d.2.2.1,fun f=>by cases(J1 (show(b.ask false 40 a).e=0 from f) (by decide)).2⟩
structure Ek(k n:Nat)(sl:List Int→Nat→Prop)(s t:Ay):Prop where
 nx:Nk k n s t
 vars:t.vars=s.vars
 sz:t.sz=s.sz
 sl:t.e=0→VOk s→k+n≤s.Ac.length→∀(T:List Int) (z:Nat),s.sz≤(z:Int)→(∀j,k≤j→j<k+n→Bb T j=Bb t.Ac j)→sl T z
theorem Ek.vok{f:List Int→Nat→Prop}{c d:Ay}(e:Ek a b f c d)(g:VOk c):VOk d:=by unfold VOk;rw[e.vars,e.sz];exact g
theorem Ek.Gq{f:List Int→Nat→Prop}{e:Ay}{q:Ay→Int×Ay}(d:Ek a b f (e.AD c) (q (e.AD c)).2):Ek a b f e (e.Gq c q).2:=by
 unfold Ay.Gq;cases g:e.e !=0 with
 |true=>exact⟨Nk.refl _ _ _,J,J,fun h=>by simp_all⟩
 |false=>exact⟨⟨d.nx.len,d.nx.out,d.nx.e,d.nx.fn,d.nx.size,d.nx.sz,d.nx.bd⟩,d.vars,d.sz,d.sl⟩
theorem Ek.leaf{g:List Int→Nat→Prop}{d:Ay}(h:Int)(i:∀e f,g e f):Ek a b g d (d.Gq c fun d=>(h,d)).2:=
 Ek.Gq (q:=fun d=>(h,d)) ⟨Nk.refl _ _ _,J,J,fun _ _ _ e f _ _=>i e f⟩
theorem Ek.ask{g:List Int→Nat→Prop}{h c:Ay}(d:Ek a b g h c)(e:Bool){er:Int}(f:Int)(i:er≠0):Ek a b g h (c.ask e er f):=by obtain⟨j,k,l,n,o⟩:=C8 c e er f;exact⟨d.nx.trans (Nk.ask a b c e f i) (Y _) (Y _) (Y _) (Y _),k.trans d.vars,l.trans d.sz,fun m=>by rw[j];exact d.sl (J1 m i).1⟩
theorem Ek.seq{k n e h f i:Nat}{j l sl:List Int→Nat→Prop}{m o p:Ay}(a:Ek e h j m o)(d:Ek f i l o p)(u:k≤e)(v:e+h≤k+n)(w:k≤f)(x:f+i≤k+n)(K:e+h≤f∨f+i≤e)(y:∀b c,j b c→l b c→sl b c):Ek k n sl m p where
 nx:=a.nx.trans d.nx u v w x
 vars:=d.vars.trans a.vars
 sz:=d.sz.trans a.sz
 sl q r L b c s t:=by have N:=a.nx.len;refine y b c (a.sl (d.nx.e q) r (by omega) b c s fun g z A=>?_) (d.sl q (a.vok r) (by omega) b c (by rw[a.sz];exact s) fun g z A=>t g (by omega) (by omega));rw[t g (by omega) (by omega)];exact d.nx.out g (by omega)
theorem Ek.imp{k n c e:Nat}{g h:List Int→Nat→Prop}{i f:Ay}(d:Ek c e g i f)(j:k≤c)(l:c+e≤k+n)(m:∀a b,g a b→h a b):Ek k n h i f where
 nx:=d.nx.trans (Nk.refl c e f) j l j l
 vars:=d.vars
 sz:=d.sz
 sl o p t a b q r:=m a b (d.sl o p (by omega) a b q fun s u v=>r s (by omega) (by omega))
theorem Ek.named(b:Ay)(c:H)(a:Nat):Ek a 1 (fun d e=>Pl d e a) b (b.named c a).2:=by obtain⟨f,g,h,i⟩:=Ahn b c a;refine⟨f,g,h,fun j k m d e n l=>?_⟩;have o:=i j k (by omega);unfold Pl;rw[l a (Y _) (by omega)];omega
theorem Xp.C7:∀(b:Xp) (a:Nat) (c:Ay),Ek a b.sz (fun d e=>b.sl d e a) c (b.ck a c).2
 |.int _,a,c=>Ek.leaf _ fun _ _=>trivial
 |.bool _,a,c=>Ek.leaf _ fun _ _=>trivial
 |.text _,a,c=>Ek.leaf _ fun _ _=>trivial
 |.var f,a,c=>Ek.Gq (q:=fun c=>c.named f a) (Ek.named _ f a)
 |.index f b,a,c=>by
  unfold Xp.ck;refine Ek.Gq (Ek.ask ?_ _ _ (by decide));exact(Ek.named _ f (a+b.sz)).seq (b.C7 a _) (k:=a) (n:=b.sz+1) (by omega) (by omega) (by omega) (by omega) (by omega) fun d e g h=>⟨h,g⟩
 |.len b,a,c=>by
  unfold Xp.ck;exact Ek.Gq (Ek.ask ((b.C7 a _).imp (k:=a) (n:=b.sz+1) (by omega) (by omega) fun d e f=>f) _ _ (by decide))
 |.neg b,a,c=>by
  unfold Xp.ck;exact Ek.Gq (Ek.ask ((b.C7 a _).imp (k:=a) (n:=b.sz+1) (by omega) (by omega) fun d e f=>f) _ _ (by decide))
 |.no b,a,c=>by
  unfold Xp.ck;exact Ek.Gq (Ek.ask ((b.C7 a _).imp (k:=a) (n:=b.sz+1) (by omega) (by omega) fun d e f=>f) _ _ (by decide))
 |.bin sg f i,a,c=>by
  unfold Xp.ck;refine Ek.Gq (Ek.ask ?_ _ _ (by decide));exact(f.C7 a _).seq (i.C7 (a+f.sz) _) (k:=a) (n:=f.sz+i.sz+1) (by omega) (by omega) (by omega) (by omega) (by omega) fun d e g h=>⟨g,h⟩
theorem Wo:∀(b:List Xp) (a:Nat) (c:Ay),Ek a (Dq b) (fun d f=>Aly d f b a) c (LX b a c).2
 |[],a,c=>⟨Nk.refl _ _ _,J,J,fun _ _ _ _ _ _ _=>trivial⟩
 |e::b,a,c=>(e.C7 a c).seq (Wo b (a+e.sz) _) (k:=a) (n:=e.sz+Dq b) (by omega) (by omega) (by omega) (by omega) (by omega) fun d f g h=>⟨g,h⟩
theorem Aav{e f:Nat}{g:List Int→Nat→Prop}{h:Ay}(i:Int):∀(c:List Int) (d:List Pm) (a:Ay),Ek e f g h a→Ek e f g h (K6 i c d a)
 |[],_,a,b=>by unfold K6;exact b
 |_::_,[],a,b=>by unfold K6;exact b
 |j::c,k::d,a,b=>by unfold K6;exact Aav i c d _ (b.ask _ _ (by decide))
theorem RP{e:H}{b:Fn}:∀{c:List Fn} (a:Nat),findF e c=W b→(a:Int)≤Gr (fun b=>b.name==e) c a∧Gr (fun b=>b.name==e) c a<a+c.length
 |[],_,d=>by cases d
 |f::c,a,d=>by
  unfold findF at d;unfold Gr;cases g:f.name==e with
  |true=>simp only[Aa9,a_];omega
  |false=>
   rw[g]at d;have:=RP (a+1) d;simp only[Acf,a_];omega
theorem Rg.C7(F:List Fn)(c:Rg)(a:Nat)(b:Ay):Ek a c.sz (fun e f=>c.sl e f F a) b (c.ck F a b).2:=by
 cases c with
 |input=>exact Ek.leaf _ fun _ _=>trivial
 |new d=>
  unfold Rg.ck;exact Ek.Gq (Ek.ask ((d.C7 a _).imp (k:=a) (n:=d.sz+1) (by omega) (by omega) fun e f g=>g) _ _ (by decide))
 |call i h=>
  unfold Rg.ck;refine Ek.Gq (q:=fun b=>LS F i h a b) ?_;unfold LS;cases j:findF i F with
  |none=>exact⟨Nk.ask _ _ _ _ _ (by decide),(C8 _ _ _ _).2.1,(C8 _ _ _ _).2.2.1,fun l=>by cases(J1 l (by decide)).2⟩
  |some l=>
   have m:=RP 0 j;exact Aav _ _ _ _ (((Wo h a _).imp (k:=a) (n:=Dq h+1) (by omega) (by omega) fun e f g=>⟨g,by omega,by omega⟩).ask _ _ (by decide))
 |expr d=>exact d.C7 a b
structure I4(k n:Nat)(sl:List Int→Nat→Prop)(s t:Ay):Prop where
 nx:Nk k n s t
 vok:t.e=0→VOk s→VOk t
 sl:t.e=0→VOk s→k+n≤s.Ac.length→∀(T:List Int) (z:Nat),t.sz≤(z:Int)→(∀j,k≤j→j<k+n→Bb T j=Bb t.Ac j)→sl T z
theorem Ek.st{d:List Int→Nat→Prop}{e f:Ay}(c:Ek a b d e f):I4 a b d e f:=
 ⟨c.nx,fun _ g=>c.vok g,fun h i j k l m=>c.sl h i j k l (by rw[←c.sz];exact m)⟩
theorem I4.seq{k n e j f l:Nat}{m o sl:List Int→Nat→Prop}{p q r:Ay}(g:I4 e j m p q)(a:I4 f l o q r)(u:k≤e)(v:e+j≤k+n)(w:k≤f)(x:f+l≤k+n)(K:e+j≤f∨f+l≤e)(y:∀b c,m b c→o b c→sl b c):I4 k n sl p r where
 nx:=g.nx.trans a.nx u v w x
 vok d h:=a.vok d (g.vok (a.nx.e d) h)
 sl d h L b c s t:=by have N:=g.nx.len;refine y b c (g.sl (a.nx.e d) h (by omega) b c (Int.le_trans a.nx.sz s) fun i z A=>?_) (a.sl d (g.vok (a.nx.e d) h) (by omega) b c s fun i z A=>t i (by omega) (by omega));rw[t i (by omega) (by omega)];exact a.nx.out i (by omega)
theorem I4.AD{e:List Int→Nat→Prop}{f g:Ay}(d:I4 a b e (f.AD c) g):I4 a b e f g:=
 ⟨⟨d.nx.len,d.nx.out,d.nx.e,d.nx.fn,d.nx.size,d.nx.sz,d.nx.bd⟩,d.vok,d.sl⟩
theorem I4.LC{t u:List Int→Nat→Prop}{m d:Ay}(y:Ek a b t m d)(g:H)(h:Int)(L:c=a+b)(z:∀i k,t i k→Pl i k c→u i k):I4 a (b+1) u m (d.LC g h c):=by
 have j:=((y.ask (h !=0) (er:=42) c (by decide)).ask (!(B7 g d.vars).isSome) (er:=41) c (by decide)).ask (decide (d.sz<24)) (er:=4) c (by decide);have v:(((d.ask (h !=0) 42 (c:Int)).ask (!(B7 g d.vars).isSome) 41 c).ask (decide (d.sz<24)) 4 c).sz=d.sz:=(C8 _ _ _ _).2.2.1.trans ((C8 _ _ _ _).2.2.1.trans (C8 _ _ _ _).2.2.1);have q:(((d.ask (h !=0) 42 (c:Int)).ask (!(B7 g d.vars).isSome) 41 c).ask (decide (d.sz<24)) 4 c).e=0→d.sz<24:=fun r=>Acw (J1 r (by decide)).2;unfold Ay.LC;generalize ((d.ask (h !=0) 42 (c:Int)).ask (!(B7 g d.vars).isSome) 41 c).ask (decide (d.sz<24)) 4 c=e at j v q⊢;rw[←v]at q⊢;have l:Nk a (b+1) m (e.CZ c e.sz):=j.nx.trans (Nk.CZ a (b+1) c e e.sz (by omega) (by omega)) (Y _) (by omega) (Y _) (Y _);have n:((e.CZ c e.sz).put g h).sz=e.sz+1:=J;refine⟨⟨l.len,l.out,l.e,l.fn,l.size,?_,fun r=>.inr ?_⟩,fun o p=>?_,fun o p N i k A K=>?_⟩
 ·have:m.sz≤e.sz:=l.sz
  rw[n];omega
 ·have:=q r
  rw[n];omega
 ·obtain⟨s,w⟩:=j.vok p
  refine⟨by omega,fun x f=>?_⟩;have f:x∈e.vars++[⟨g,h,e.sz⟩]:=f;rw[n];rcases e_.1 f with f|f
  ·have:=w x f;omega
  rw[f_]at f;subst f;exact⟨s,by show e.sz<e.sz+1;omega⟩
 have o:e.e=0:=o;rw[n]at A;have P:=j.nx.len;have x:∀f,a≤f→f<a+(b+1)→Bb i f=Bb (e.Ac.set c e.sz) f:=K;refine z i k (j.sl o p (by omega) i k (by rw[←j.sz];omega) fun f s w=>?_) ?_
 ·rw[x f s (by omega),P7 _ (by omega)]
 have:=x c (by omega) (by omega);rw[P8 _ (by omega)]at this;have a0:=(j.vok p).1;unfold Pl;omega
theorem I4.ask{i:List Int→Nat→Prop}{j c:Ay}(d:I4 a b i j c)(e:Bool){er:Int}(f:Int)(g:er≠0):I4 a b i j (c.ask e er f):=by obtain⟨l,m,k,o,p⟩:=C8 c e er f;refine⟨d.nx.trans (Nk.ask a b c e f g) (Y _) (Y _) (Y _) (Y _),fun h n=>?_,fun h=>by rw[l,k];exact d.sl (J1 h g).1⟩;have:=d.vok (J1 h g).1 n;unfold VOk at this⊢;rw[m,k];exact this
theorem I4.block{c d i:Nat}{e:List Int→Nat→Prop}{b:Ay}{f:Ay→Ay}(a:I4 c d e (b.AD i) (f (b.AD i))):I4 c d e b (b.CN i f):=
 ⟨⟨a.nx.len,a.nx.out,a.nx.e,a.nx.fn,a.nx.size,a.nx.sz,a.nx.bd⟩,fun g h=>by
  obtain⟨j,k⟩:=a.vok g h;exact⟨j,fun l m=>k l (am_ m)⟩,a.sl⟩
theorem I4.dead(g:List Int→Nat→Prop){e c:Ay}(h:Nk a b e c)(f:¬c.e=0):I4 a b g e c:=⟨h,fun d=>absurd d f,fun d=>absurd d f⟩
theorem I4.if0{k n b d c e:Nat}{h i sl:List Int→Nat→Prop}{j a l:Ay}(m:I4 b d h j a)(q:I4 c e i a l)(o:k≤b)(p:b+d≤k+n)(r:k≤c)(s:c+e≤k+n)(t:b+d≤c∨c+e≤b)(u:∀f g,h f g→i f g→sl f g):I4 k n sl j (bif a.e==0 then l else a):=by
 cases v:a.e==0 with
 |true=>exact m.seq q o p r s t u
 |false=>exact I4.dead sl (m.nx.trans (Nk.refl k n a) o p (Y _) (Y _)) (by simp_all)
theorem Ek.AD{e:List Int→Nat→Prop}{f g:Ay}(d:Ek a b e (f.AD c) g):Ek a b e f g:=⟨⟨d.nx.len,d.nx.out,d.nx.e,d.nx.fn,d.nx.size,d.nx.sz,d.nx.bd⟩,d.vars,d.sz,d.sl⟩
section
variable(F:List Fn)
mutual
theorem Sm.C7:∀(i:Sm) (k:Nat) (b:Ay),I4 k i.sz (fun d e=>i.sl d e F k) b (i.ck F k b)
 |.lt h a,k,b=>by
  unfold Sm.ck;exact I4.LC (Ek.AD (a.C7 F k (b.AD (k+a.sz)))) h _ J fun d e f g=>⟨f,g⟩
 |.set h a,k,b=>by
  unfold Sm.ck;refine(Ek.ask ?_ _ _ (by decide)).st;exact(Ek.AD (Ek.named _ h (k+a.sz))).seq (a.C7 F k _) (k:=k) (n:=a.sz+1) (by omega) (by omega) (by omega) (by omega) (by omega) fun d e f g=>⟨g,f⟩
 |.put h a c,k,b=>by
  unfold Sm.ck;refine(Ek.ask ?_ _ _ (by decide)).st;exact(Ek.AD (Ek.named _ h (k+(a.sz+c.sz)))).seq ((a.C7 k _).seq (c.C7 (k+a.sz) _) (k:=k) (n:=a.sz+c.sz) (sl:=fun d e=>a.sl d e k∧c.sl d e (k+a.sz)) (by omega) (by omega) (by omega) (by omega) (by omega) fun d e f g=>⟨f,g⟩) (k:=k) (n:=a.sz+c.sz+1) (by omega) (by omega) (by omega) (by omega) (by omega) fun d e f g=>⟨g.1,g.2,f⟩
 |.run j a,k,b=>by
  unfold Sm.ck;exact(Ek.AD ((Rg.C7 F (.call j a) k (b.AD (k+(Dq a+1)))).imp (k:=k) (n:=Dq a+2) (by omega) (by simp only[Rg.sz];omega) fun d e h=>h)).st
 |.print a,k,b=>by
  unfold Sm.ck;exact(Ek.ask (Ek.AD ((a.C7 k (b.AD (k+a.sz))).imp (k:=k) (n:=a.sz+1) (by omega) (by omega) fun d e h=>h)) _ _ (by decide)).st
 |.Fa,k,b=>by
  unfold Sm.ck;exact(Ek.ask (Ek.AD ⟨Nk.refl _ _ _,J,J,fun _ _ _ _ _ _ _=>trivial⟩) _ _ (by decide)).st
 |.ret a,k,b=>by
  unfold Sm.ck;have j:Ek k 0 (fun _ _=>True) b ((b.AD (k+a.sz)).ask (true==(Fv F b !=0)) 43 ((k+a.sz:Nat):Int)):=Ek.ask (Ek.AD ⟨Nk.refl _ _ _,J,J,fun _ _ _ _ _ _ _=>trivial⟩) _ _ (by decide);exact(Ek.ask (j.seq (a.C7 k _) (k:=k) (n:=a.sz+1) (by omega) (by omega) (by omega) (by omega) (by omega) fun d e _ h=>h) _ _ (by decide)).st
 |.Kv a c,k,b=>by
  unfold Sm.ck;exact I4.if0 (Ek.st (Ek.ask (Ek.AD (a.C7 k (b.AD (k+(a.sz+(c.sz+1)))))) _ _ (by decide))) (I4.block (c.C7 (k+a.sz) _)) (k:=k) (n:=a.sz+(c.sz+1)+1) (by omega) (by omega) (by omega) (by omega) (by omega) fun d e f g=>⟨f,g⟩
 |.KD a c,k,b=>by
  unfold Sm.ck;exact I4.if0 (Ek.st (Ek.ask (Ek.AD (a.C7 k (b.AD (k+(a.sz+(c.sz+1)))))) _ _ (by decide))) (I4.block (c.C7 (k+a.sz) _)) (k:=k) (n:=a.sz+(c.sz+1)+1) (by omega) (by omega) (by omega) (by omega) (by omega) fun d e f g=>⟨f,g⟩
 |.FP a c h,k,b=>by
  unfold Sm.ck;exact I4.if0 (I4.if0 (Ek.st (Ek.ask (Ek.AD (a.C7 k (b.AD (k+(a.sz+(c.sz+1)+(h.sz+1)))))) _ _ (by decide))) (I4.block (c.C7 (k+a.sz) _)) (k:=k) (n:=a.sz+(c.sz+1)) (sl:=fun d e=>a.sl d e k∧c.sl d e F (k+a.sz)) (by omega) (by omega) (by omega) (by omega) (by omega) fun d e f g=>⟨f,g⟩)
   (I4.block (h.C7 (k+a.sz+(c.sz+1)) _)) (k:=k) (n:=a.sz+(c.sz+1)+(h.sz+1)+1) (by omega) (by omega) (by omega) (by omega) (by omega) fun d e f g=>⟨f.1,f.2,g⟩
theorem Bl.C7:∀(e:Bl) (k:Nat) (a:Ay),I4 k e.sz (fun c d=>e.sl c d F k) a (e.ck F k a)
 |.nil,k,a=>⟨Nk.refl _ _ _,fun _ b=>b,fun _ _ _ _ _ _ _=>trivial⟩
 |.cons b f,k,a=>by
  unfold Bl.ck;have g:I4 k b.sz (fun c d=>b.sl c d F k) a (bif a.e==0 then b.ck F k a else a):=by
   cases h:a.e==0 with
   |true=>exact b.C7 k a
   |false=>exact I4.dead _ (Nk.refl _ _ _) (by simp_all)
  exact g.seq (f.C7 (k+b.sz) _) (k:=k) (n:=b.sz+f.sz) (by omega) (by omega) (by omega) (by omega) (by omega) fun c d h i=>⟨h,i⟩
end
end
theorem U5(b:Int):∀(c:List Pm) (a:Ay),VOk a→(E0 b c a).Ac=a.Ac∧(E0 b c a).size=a.size∧((E0 b c a).e=0→a.e=0)∧(E0 b c a).sz=a.sz+c.length∧VOk (E0 b c a)
 |[],a,e=>⟨J,J,id,by simp[E0],e⟩
 |f::c,a,e=>by
  obtain⟨h,i,g,q,j⟩:=C8 a (!(B7 f.1 a.vars).isSome) 41 b;have k:VOk ((a.ask (!(B7 f.1 a.vars).isSome) 41 b).put f.1 f.2):=by
   unfold VOk Ay.put;simp only[i,g];refine⟨by have:=e.1;omega,fun l d=>?_⟩;rcases e_.1 d with d|d
   ·have:=e.2 l d;omega
   rw[f_]at d;subst d;have:=e.1;simp only;omega
  obtain⟨d,l,m,n,o⟩:=U5 b c _ k;refine⟨d.trans h,l.trans j,fun p=>(J1 (m p) (by decide)).1,n.trans ?_,o⟩;show(a.ask (!(B7 f.1 a.vars).isSome) 41 b).sz+1+c.length=_;rw[g,a_];omega
theorem Aug(F:List Fn)(e:Nat)(a:Fd)(b:Nat)(c:Ay)(u:a.params.length≤24):(VQ F e a b c).Ac.length=c.Ac.length∧(∀d,d<b∨b+a.body.sz≤d→Bb (VQ F e a b c).Ac d=Bb c.Ac d)∧((VQ F e a b c).e=0→c.e=0)∧
  ∃h:Int,(VQ F e a b c).size=c.size++[h]∧((VQ F e a b c).e=0→0≤h∧h≤24∧(b+a.body.sz≤c.Ac.length→∀i,(∀d,b≤d→d<b+a.body.sz→Bb i d=Bb (VQ F e a b c).Ac d)→a.body.sl i h.toNat F b)):=by
 obtain⟨k,l,m,o,n⟩:=U5 ((b+a.body.sz:Nat):Int) a.params {c with fn:=e,vars:=[],sz:=0} ⟨C_ _,fun _ q=>by cases q⟩;unfold VQ;simp only at k l m o⊢;generalize E0 ((b+a.body.sz:Nat):Int) a.params {c with fn:=e,vars:=[],sz:=0}=f at k l m o n⊢;have g:I4 b a.body.sz (fun i h=>a.body.sl i h F b) f (bif f.e==0 then f.CN (b+a.body.sz) (fun c=>a.body.ck F b c)else f):=by
  cases j:f.e==0 with
  |true=>exact I4.block (a.body.C7 F b _)
  |false=>exact I4.dead _ (Nk.refl _ _ _) (by simp_all)
 generalize (bif f.e==0 then f.CN (b+a.body.sz) (fun c=>a.body.ck F b c)else f)=p at g⊢;refine⟨g.nx.len.trans (by rw[k]),fun d r=>(g.nx.out d r).trans (by rw[k]),fun j=>m (g.nx.e j),p.sz,by rw[g.nx.size,l],fun j=>?_⟩;have s:=g.vok j n;have v:=g.nx.bd j;refine⟨s.1,by omega,fun w i t=>g.sl j n (by simp_all) i p.sz.toNat (by omega) t⟩
theorem RJ(F:List Fn):∀(b:List Fd) (c d:Nat) (a:Ay),¬a.e=0→HP F c b d a=a
 |[],_,_,_,_=>rfl
 |f::b,c,d,a,e=>by
  unfold HP;rw[show(a.e==0)=false by simp_all,Acf];exact RJ F b _ _ a e
theorem Aae(F:List Fn):∀(e:List Fd) (d c:Nat) (a:Ay),(∀f∈e,f.params.length≤24)→c+Kx e≤a.Ac.length→a.size.length=d→
  (HP F d e c a).Ac.length=a.Ac.length∧(∀b,b<c→Bb (HP F d e c a).Ac b=Bb a.Ac b)∧((HP F d e c a).e=0→a.e=0∧∃g,(HP F d e c a).size=a.size++g∧g.length=e.length∧(∀h∈g,0≤h∧h≤24)∧
   ∀i,(∀b,c≤b→b<c+Kx e→Bb i b=Bb (HP F d e c a).Ac b)→fsl i F (fun b=>(Bb (HP F d e c a).size b).toNat) e d c)
 |[],d,c,a,_,_,_=>⟨J,fun _ _=>rfl,fun j=>⟨j,[],by simp[HP],J,(fun _ k=>by cases k),fun _ _=>trivial⟩⟩
 |f::e,d,c,a,l,v,a1=>by
  by_cases k:a.e=0
  ·unfold HP
   rw[show(a.e==0)=true by simp_all,Aa9];simp only[Kx]at v;obtain⟨m,n,w,h,o,p⟩:=Aug F d f c a (l f (v_ ..));generalize VQ F d f c a=q at m n w o p⊢;obtain⟨x,r,y⟩:=Aae F e (d+1) (c+(f.body.sz+1)) q (fun z A=>l z (p_ _ A)) (by omega) (by simp_all);refine⟨x.trans m,fun b a2=>(r b (by omega)).trans (n b (by omega)),fun j=>?_⟩;obtain⟨K,g,c1,c2,c3,L⟩:=y j;obtain⟨a3,a4,N⟩:=p K;rw[o,g_]at c1;refine⟨k,h::g,c1,by simp_all,fun a5 s=>?_,fun i t=>⟨?_,L i fun b u P=>t b (by omega) (by simp only[Kx];omega)⟩⟩
   ·rcases j_.1 s with rfl|s
    ·omega
    simp_all
   have a0:Bb (HP F (d+1) e (c+(f.body.sz+1)) q).size d=h:=by simp_all
   simp only[a0];refine N (by omega) i fun b u P=>?_;rw[t b u (by simp only[Kx];omega),r b (by omega)]
  rw[RJ F _ _ _ a k];exact⟨J,fun _ _=>rfl,fun j=>absurd j k⟩
theorem RF:∀(c:List Fn) (seen:List H) (b:Bool) (a:Ay),(DP c seen b a).Ac=a.Ac∧(DP c seen b a).size=a.size∧((DP c seen b a).e=0→a.e=0∧(b=true∨∃f∈c,(f.name==KA)=true))
 |[],seen,b,a=>⟨(C8 _ _ _ _).1,(C8 _ _ _ _).2.2.2.2,fun e=>⟨(J1 e (by decide)).1,.inl (J1 e (by decide)).2⟩⟩
 |f::c,seen,b,a=>by
  unfold DP;obtain⟨g,h,i⟩:=RF c (f.name::seen) (b||(f.name==KA&&(f.params.length==0)&&(f.ret==0))) (a.ask (!seen.contains f.name) 41 f.body);refine⟨g.trans (C8 _ _ _ _).1,h.trans (C8 _ _ _ _).2.2.2.2,fun e=>?_⟩;obtain⟨j,d⟩:=i e;refine⟨(J1 j (by decide)).1,?_⟩;rcases d with d|⟨k,l,m⟩
  ·simp only[aj_,r_]at d
   rcases d with d|d
   ·simp_all
   simp_all
  exact .inr ⟨k,p_ _ l,m⟩
theorem ES:∀(a:List Fd) (b:Nat),(Az a b).length=Kx a
 |[],_=>rfl
 |f::c,b=>by simp only[Az,Kx,M,Bl.Af,a_,l_,ES c]
theorem F5:∀(a:List Fd) (b:Nat),(AK a b).length=a.length
 |[],_=>rfl
 |f::c,b=>by simp only[AK,a_,F5 c]
theorem VK{p:Fn→Bool}:∀{l:List Fn} (a:Nat),(∃f∈l,p f=true)→(a:Int)≤Gr p l a∧Gr p l a<a+l.length
 |[],_,c=>by simp_all
 |f::l,a,c=>by
  unfold Gr;cases g:p f with
  |true=>simp only[Aa9,a_];omega
  |false=>
   have:=VK (p:=p) (l:=l) (a+1) (by
    obtain⟨d,b,e⟩:=c;rcases j_.1 b with rfl|b
    ·simp_all
    exact⟨d,b,e⟩)
   simp only[Acf,a_];omega
theorem Aa2{a:List Fd}(d:∀e∈a,e.params.length≤24)(f:(Aw a).e=0):(Aw a).size.length=a.length∧(∀b∈(Aw a).size,0≤b∧b≤24)∧fsl (Aw a).Ac (AK a 0) (fun g=>(Bb (Aw a).size g).toNat) a 0 0∧0≤Ih a∧Ih a<a.length:=by
 obtain⟨h,c,i⟩:=RF (AK a 0) [] false (ck0 (Az a 0).length);have q:(DP (AK a 0) [] false (ck0 (Az a 0).length)).Ac.length=Kx a:=by rw[h];simp[ck0,ES]
 obtain⟨r,s,j⟩:=Aae (AK a 0) a 0 0 (DP (AK a 0) [] false (ck0 (Az a 0).length)) d (by omega) (by rw[c];rfl);obtain⟨k,m,c1,c2,c3,n⟩:=j f;obtain⟨_,t⟩:=i k;rw[c]at c1;have c1:(Aw a).size=m:=c1;refine⟨by simp_all,by simp_all,n _ fun _ _ _=>rfl,?_⟩;have:=VK (p:=fun o=>o.name==KA) (l:=AK a 0) 0 (by simp_all);rw[F5]at this;unfold Ih;omega
end
end Go.Proofs.YtebhflkemdlbkaaGreatDoor
namespace Go.Proofs.YtebhflkemdlbkaaGreatDoor
noncomputable section
structure Cx(nf nn:Nat)(code:List AY)(en zs:List Int):Prop where
 el:en.length=nf
 zl:zs.length=nf
 zb:∀z∈zs,0≤z∧z≤24
 cl:code.length<1000
 fs:∀j,j<nf→∃lo hi:Nat,en[j]? =W (lo:Int)∧Ayj nf nn code lo hi (Bb zs j).toNat
def MkA(code:List AY)(m:Nat):Prop:=∃a,code[m]? =W a∧a.op=1
section
variable(nf nn:Nat)(code:List AY)(zs:List Int)
structure Fk(d:Nat)(f:Cf)(j lo hi:Nat)(w:Nat→Nat)(p m:Nat):Prop where
 fn:f.fn=(j:Int)
 jl:j<nf
 hc:hi≤code.length
 wl:∀q,lo≤q→q<hi→w q≤q
 ok:∀q,lo≤q→q<hi→∃x,code[q]? =W x∧NF nf nn (Bb zs j).toNat (fun t=>lo≤t∧t<hi∧MkA code t) w (hi-1) q x
 sl:f.Ac.length=(Bb zs j).toNat
 pc:f.pc=(p:Int)
 p1:lo≤p
 p2:p<hi
 ht:f.AI.length+d=w p
 mq:f.mark=(m:Int)
 m1:lo≤m
 m2:m<hi
 lst:∃x,code[hi-1]? =W x∧x.op=22
 mo:MkA code m∨(d=0∧∃x,code[p]? =W x∧x.op=22)
def Qe(d:Nat)(f:Cf):Prop:=∃j lo hi w p m,Fk nf nn code zs d f j lo hi w p m
def AtM(a:List (Nat×Cf)):Prop:=∃cb f l p,a=(cb,f)::l∧f.pc=((p:Nat):Int)∧MkA code p
structure Iv(ni:Nat)(Ba:List (Nat×Cf))(CA st:Int):Prop where
 fr:∀cb f l,Ba=(cb,f)::l→Qe nf nn code zs 0 f∧∀q∈l,Qe nf nn code zs 1 q.2
 n:Ba.length≤8
 i1:0≤CA
 i2:CA≤ni
 st:(st=0∧Ba≠[])∨(st=2∧Ba=[])∨((st=1∨st=3)∧AtM code Ba)
def wt(p:Nat):Nat:=match code[p]? with
 |some a=>if a.op=1 then 0 else if a.op=22 then 1 else 2*(code.length-p)
 |none=>0
def Um:List (Nat×Cf)→Nat
 |[]=>0
 |q::l=>wt code q.2.pc.toNat+Um l
end
section
variable{nf nn:Nat}{code:List AY}{en zs xs:List Int}{f:Cf}{j lo hi p m d:Nat}{w:Nat→Nat}{cb:Nat}{l:List (Nat×Cf)}
theorem Aqd(a:Nat):wt code a≤2*(code.length-a):=by
 unfold wt;split
 ·rename_i e b
  have:=(o_.1 b).1;split
  ·omega
  split<;>omega
 omega
theorem Y0{a:AY}(b:code[p]? =W a)(e:a.op≠1)(g:a.op≠22):wt code p=2*(code.length-p):=by unfold wt;rw[b];simp only[e,g,if_false]
theorem Fk.next(a:Fk nf nn code zs 0 f j lo hi w p m)(g:MkA code m){b:Cf}(e d:Nat)(h:b.fn=f.fn)(i:b.Ac.length=f.Ac.length)(k:b.mark=f.mark)(n:b.pc=(e:Int))(o:lo≤e)(q:e<hi)(r:b.AI.length+d=w e):Qe nf nn code zs d b:=
 ⟨j,lo,hi,w,e,m,h.trans a.fn,a.jl,a.hc,a.wl,a.ok,i.trans a.sl,n,o,q,r,k.trans a.mq,a.m1,a.m2,a.lst,.inl g⟩
theorem Fk.Ahy(e:Fk nf nn code zs d f j lo hi w p m){a:Nat}(g:lo≤a)(h:a<hi)(i:MkA code a):w a=0:=by obtain⟨o,k,n⟩:=e.ok a g h;obtain⟨q,b,r⟩:=i;rw[k]at b;cases b;cases n<;>simp_all<;>omega
theorem Fk.stop(a:Fk nf nn code zs 0 f j lo hi w p m)(e:MkA code m){b:Cf}(g:b.fn=f.fn)(h:b.Ac.length=f.Ac.length)(i:b.mark=f.mark)(k:b.pc=f.mark)(n:b.AI=[]):Qe nf nn code zs 0 b:=
 a.next e m 0 g h i (k.trans a.mq) a.m1 a.m2 (by rw[n,a.Ahy a.m1 a.m2 e];rfl)
def L5(nf nn:Nat)(code:List AY)(zs xs:List Int)(b:Int)(e:Nat)(a:Ms):Prop:=a.time=b∧Iv nf nn code zs xs.length a.Ba a.CA a.status∧(a.status≠0∨Um code a.Ba<e)
theorem L5.on{b:Nat}{a:Ms}{g:Cf}{e:Int}(h:a.status=0∧a.time=e)(i:a.Ba=(cb,g)::l)(n:Qe nf nn code zs 0 g)(o:∀q∈l,Qe nf nn code zs 1 q.2)(u:l.length≤7)(r:0≤a.CA)(s:a.CA≤xs.length)(t:wt code g.pc.toNat+Um code l<b):L5 nf nn code zs xs e b a:=by refine⟨h.2,⟨fun v x y k=>?_,by simp_all,r,s,.inl ⟨h.1,by simp_all⟩⟩,.inr (by rw[i];exact t)⟩;rw[i]at k;cases k;exact⟨n,o⟩
theorem L5.stop{k:Nat}{a:Ms}{b:Cf}{e:Int}(n:Fk nf nn code zs 0 f j lo hi w p m)(o:MkA code m)(g:(a.status=1∨a.status=3)∧a.time=e)(h:a.Ba=(cb,b)::l)(q:Qe nf nn code zs 0 b)(r:b.pc=f.mark)(s:∀t∈l,Qe nf nn code zs 1 t.2)(x:l.length≤7)(u:0≤a.CA)(v:a.CA≤xs.length):L5 nf nn code zs xs e k a:=by refine⟨g.2,⟨fun y z A i=>?_,by simp_all,u,v,.inr (.inr ⟨g.1,cb,b,l,m,h,r.trans n.mq,o⟩)⟩,.inl (by omega)⟩;rw[h]at i;cases i;exact⟨q,s⟩
theorem Fb{vs:List Vl}{n:Nat}(a:vs.length=n+1):∃b e,vs=b++[e]∧b.length=n:=by refine⟨vs.dropLast,vs.getLast (by intro g;rw[g]at a;cases a),(List.dropLast_concat_getLast _).symm,by simp_all⟩
variable(c:Cx nf nn code en zs)
include c
theorem Ai2{e:Ms}(g:Iv nf nn code zs xs.length e.Ba e.CA e.status)(r:xs.length≤50000)(h:e.Ba=(cb,f)::l):e.fit f=true:=by
 obtain⟨⟨j,lo,hi,w,p,m,a⟩,k⟩:=g.fr _ _ _ h;have n:=g.n;rw[h,a_]at n;have s:=c.cl;have t:=a.hc;have u:=a.p2;unfold Ms.fit;simp only[r_,decide_eq_true_eq,List.all_eq_true];refine⟨by rw[a.pc];omega,by rw[a.pc];omega,by rw[h,a_];omega,fun o i=>?_,g.i1,by have:=g.i2;omega⟩;rw[h]at i;rcases j_.1 i with rfl|i
 ·have:=a.wl p a.p1 a.p2
  have:=a.ht;simp only;omega
 obtain⟨_,_,_,_,q,_,b⟩:=k o i;have:=b.wl q b.p1 b.p2;have:=b.ht;have:=b.p2;have:=b.hc;omega
theorem Alk{t:Ms}(aa:Iv nf nn code zs xs.length t.Ba t.CA t.status)(s:t.status=0)(aw:xs.length≤50000)(ab:t.Ba=(cb,f)::l){a3:AY}(a2:code[f.pc.toNat]? =W a3)(ac:a3.op≠1):
  ∃a,Ky en zs xs code t=W a∧L5 nf nn code zs xs t.time (Um code t.Ba) a:=by
 obtain⟨⟨j,lo,hi,w,p,m,y⟩,a6⟩:=aa.fr _ _ _ ab;have ax:=aa.n;rw[ab,a_]at ax;have am:f.pc.toNat=p:=by rw[y.pc];rfl
 rw[am]at a2;have aG:=c.cl;have aH:=y.hc;have aI:=y.p2;have ay:=Ai2 c aa aw ab;have az:Ky en zs xs code t=exec en zs xs a3 (t.top cb (f.go (f.pc+1)) l) cb (f.go (f.pc+1)) l:=by unfold Ky;rw[ab];simp only[ay,Aa9,am,a2]
 rw[az];obtain⟨aJ,au,aA⟩:=y.ok p y.p1 y.p2;rw[a2]at au;cases au;have aB:Um code t.Ba=wt code p+Um code l:=by rw[ab];show wt code f.pc.toNat+Um code l=_;rw[am]
 rw[aB];have ak:l.length≤7:=by omega
 have A:(f.go (f.pc+1)).pc=((p+1:Nat):Int):=by show f.pc+1=_;rw[y.pc];omega
 have aK:=y.ht;have aL:=y.p1;have q:=aa.i1;have r:=aa.i2;have K:a3.op≠22→p+1<hi:=fun h=>by
  rcases Q_ (p+1) hi with b|b
  ·exact b
  obtain⟨F,ad,al⟩:=y.lst;rw[show hi-1=p by omega,a2]at ad;cases ad;exact absurd al h
 have ae:a3.op≠22→MkA code m:=fun h=>by
  rcases y.mo with b|⟨_,F,ad,al⟩
  ·exact b
  simp_all
 have z:a3.op≠22→∀{k:Ms} {x:Cf} (L:Nat),k.status=0∧k.time=t.time→k.Ba=(cb,x)::l→x.fn=f.fn→x.Ac.length=f.Ac.length→x.mark=f.mark→x.pc=(L:Int)→p<L→L<hi→x.AI.length=w L→0≤k.CA→k.CA≤xs.length→L5 nf nn code zs xs t.time (wt code p+Um code l) k:=by intro a k x L i a0 e P o N a5 a1 a4 a7 a8;refine L5.on i a0 (y.next (ae a) L 0 e P o N (by omega) a1 a4) a6 ak a7 a8 ?_;have b:=Aqd (code:=code) L;have u:=Y0 a2 ac a;rw[N];show wt code L+_<_;omega
 have af:a3.op≠22→∀{k:Ms} {x:Cf},(k.status=1∨k.status=3)∧k.time=t.time→k.Ba=(cb,x)::l→x.fn=f.fn→x.Ac.length=f.Ac.length→x.mark=f.mark→x.pc=f.mark→x.AI=[]→0≤k.CA→k.CA≤xs.length→L5 nf nn code zs xs t.time (wt code p+Um code l) k:=by intro a k x i a0 e P o N a5 a1 a4;exact L5.stop y (ae a) i a0 (y.stop (ae a) e P o N a5) N a6 ak a1 a4
 have an:a3.op≠22→∀{k:Ms} {x:Cf} (a7:Vl) (ao:Int),k.status=0∧k.time=t.time→x.fn=f.fn→x.Ac.length=f.Ac.length→x.mark=f.mark→x.pc=((p+1:Nat):Int)→x.AI.length+1=w (p+1)→0≤k.CA→k.CA≤xs.length→L5 nf nn code zs xs t.time (wt code p+Um code l) (k.Fg a7 ao cb x l):=by
  intro a k x a7 ao i e P o N a5 a1 a4;unfold Ms.Fg;cases ao !=0 with
  |true=>exact af a ⟨.inr J,i.2⟩ J e P o o J a1 a4
  |false=>exact z a (p+1) i J e P o N (by omega) (K a) (by simp_all) a1 a4
 have av:1≤wt code p→∀{k:Ms} (a7:Vl),k.status=0∧k.time=t.time→0≤k.CA→k.CA≤xs.length→L5 nf nn code zs xs t.time (wt code p+Um code l) (k.ends a7 l):=by
  intro ai k a7 i a0 e;cases a1:l with
  |nil=>exact⟨i.2,⟨fun _ _ _ a=>(by cases a),c_ _,a0,e,.inr (.inl ⟨J,J⟩)⟩,.inl (by show¬ (2:Int)=0;decide)⟩
  |cons L a8=>
   obtain⟨N,o⟩:=L;subst a1;obtain⟨a5,a4,ap,aq,a9,P,a⟩:=a6 (N,o) (v_ ..);have ah:MkA code P:=by
    rcases a.mo with b|⟨b,_⟩
    ·exact b
    cases b
   refine L5.on (l:=a8) (cb:=N) (g:={o with AI:=o.AI++[a7]}) i J ⟨a5,a4,ap,aq,a9,P,a.fn,a.jl,a.hc,a.wl,a.ok,a.sl,a.pc,a.p1,a.p2,?_,a.mq,a.m1,a.m2,a.lst,.inl ah⟩ (fun L ag=>a6 L (p_ _ ag)) (by simp at ak;omega) a0 e ?_
   ·have:=a.ht
    simp;omega
   show wt code o.pc.toNat+Um code a8<wt code p+(wt code o.pc.toNat+Um code a8);omega
 cases aA with
 |push ar a e o b u=>
  rcases b with rfl|rfl|rfl|rfl
  ·refine⟨_,J,?_⟩
   exact z (by simp) (p+1) ⟨s,J⟩ J J J J A (by omega) (K (by simp)) (by simp[Cf.push,Cf.go];omega) q r
  ·refine⟨_,J,?_⟩
   exact z (by simp) (p+1) ⟨s,J⟩ J J J J A (by omega) (K (by simp)) (by simp[Cf.push,Cf.go];omega) q r
  ·refine⟨_,J,?_⟩
   exact z (by simp) (p+1) ⟨s,J⟩ J J J J A (by omega) (K (by simp)) (by simp[Cf.push,Cf.go];omega) q r
  refine⟨_,J,?_⟩;cases ah:decide ((xs.length:Int)≤(t.top cb (f.go (f.pc+1)) l).CA)with
  |true=>exact af (by simp) ⟨.inl J,J⟩ J J J J J J q r
  |false=>
   have ah:¬ (xs.length:Int)≤t.CA:=Adh ah;exact z (by simp) (p+1) ⟨s,J⟩ J J J J A (by omega) (K (by simp)) (by simp[Cf.push,Cf.go];omega) (by show 0≤t.CA+1;omega) (by show t.CA+1≤_;omega)
 |load a e o b u a1=>
  have a5:CK ⟨5,a,e,o⟩ (f.go (f.pc+1))=true:=by unfold CK;simp only[r_,decide_eq_true_eq];exact⟨b,by show a.toNat<f.Ac.length;rw[y.sl];exact u⟩
  refine⟨_,(show exec en zs xs ⟨5,a,e,o⟩ _ cb (f.go (f.pc+1)) l=cond (CK ⟨5,a,e,o⟩ (f.go (f.pc+1))) (W _) Z from J).trans (by rw[a5];rfl),?_⟩;exact z (by simp) (p+1) ⟨s,J⟩ J J J J A (by omega) (K (by simp)) (by simp[Cf.push,Cf.go];omega) q r
 |bin a e o b u=>
  obtain⟨P,F,i,N⟩:=Fb (vs:=f.AI) (n:=w (p+1)) (by omega);obtain⟨ai,a9,a0,a8⟩:=Fb (vs:=P) (n:=w (p+1)-1) (by omega);subst a0;simp only[exec,u_,D_,Aa9,Acf];rw[Df (f:=f.go (f.pc+1)) i];rw[Df (f:=(f.go (f.pc+1)).val (ai++[a9])) (vs:=ai) (v:=a9) rfl];refine⟨_,J,?_⟩;exact an (by simp) _ _ ⟨s,J⟩ J J J A (by simp[Cf.val];omega) q r
 |una ar a e o b u a1=>
  obtain⟨P,F,i,N⟩:=Fb (vs:=f.AI) (n:=w p-1) (by omega);rcases b with rfl|rfl|rfl|rfl
  ·simp only[exec,u_,D_,Aa9,Acf]
   rw[Df (f:=f.go (f.pc+1)) i];refine⟨_,J,?_⟩;exact z (by simp) (p+1) ⟨s,J⟩ J J J J A (by omega) (K (by simp)) (by simp[Cf.push,Cf.val];omega) q r
  ·simp only[exec,u_,D_,Bool.or_true,Aa9,Acf]
   rw[Df (f:=f.go (f.pc+1)) i];refine⟨_,J,?_⟩;exact z (by simp) (p+1) ⟨s,J⟩ J J J J A (by omega) (K (by simp)) (by simp[Cf.push,Cf.val];omega) q r
  ·simp only[exec,u_,D_,Aa9,Acf]
   rw[Df (f:=f.go (f.pc+1)) i];refine⟨_,J,?_⟩;exact z (by simp) (p+1) ⟨s,J⟩ J J J J A (by omega) (K (by simp)) (by simp[Cf.push,Cf.val];omega) q r
  simp only[exec,u_,D_,Aa9,Acf];rw[Df (f:=f.go (f.pc+1)) i];refine⟨_,J,?_⟩;exact an (by simp) _ _ ⟨s,J⟩ J J J A (by simp[Cf.val];omega) q r
 |store a e o b u a1=>
  obtain⟨P,F,i,N⟩:=Fb (vs:=f.AI) (n:=w (p+1)) (by omega);have a5:CK ⟨6,a,e,o⟩ (f.go (f.pc+1))=true:=by unfold CK;simp only[r_,decide_eq_true_eq];exact⟨b,by show a.toNat<f.Ac.length;rw[y.sl];exact u⟩
  refine⟨_,(show exec en zs xs ⟨6,a,e,o⟩ _ cb (f.go (f.pc+1)) l=cond (CK ⟨6,a,e,o⟩ (f.go (f.pc+1))) (HL (f.go (f.pc+1)) _) Z from J).trans (by rw[a5,Aa9,Df (f:=f.go (f.pc+1)) i]),?_⟩;refine z (by simp) (p+1) ⟨s,J⟩ J J ?_ J A (by omega) (K (by simp)) N q r;show(f.Ac.set a.toNat F).length=_;rw[as_]
 |pop ar a e o b u=>
  obtain⟨P,F,i,N⟩:=Fb (vs:=f.AI) (n:=w (p+1)) (by omega);rcases b with rfl|rfl
  ·simp only[exec,u_,D_,Aa9,Acf]
   rw[Df (f:=f.go (f.pc+1)) i];refine⟨_,J,?_⟩;exact z (by simp) (p+1) ⟨s,J⟩ J J J J A (by omega) (K (by simp)) N q r
  simp only[exec,u_,D_,Aa9,Acf];rw[Df (f:=f.go (f.pc+1)) i];refine⟨_,J,?_⟩;cases decide ((24:Int)≤((t.top cb (f.go (f.pc+1)) l).out.length:Nat))with
  |true=>exact af (by simp) ⟨.inr J,J⟩ J J J J J J q r
  |false=>exact z (by simp) (p+1) ⟨s,J⟩ J J J J A (by omega) (K (by simp)) N q r
 |index a e o b u a1 aj=>
  obtain⟨P,F,i,N⟩:=Fb (vs:=f.AI) (n:=w p-1) (by omega);have a5:CK ⟨11,a,e,o⟩ (f.go (f.pc+1))=true:=by unfold CK;simp only[r_,decide_eq_true_eq];exact⟨b,by show a.toNat<f.Ac.length;rw[y.sl];exact u⟩
  refine⟨_,(show exec en zs xs ⟨11,a,e,o⟩ _ cb (f.go (f.pc+1)) l=cond (CK ⟨11,a,e,o⟩ (f.go (f.pc+1))) (HL (f.go (f.pc+1)) _) Z from J).trans (by rw[a5,Aa9,Df (f:=f.go (f.pc+1)) i]),?_⟩;exact an (by simp) _ _ ⟨s,J⟩ J J J A (by simp[Cf.val];omega) q r
 |put a e o b u a1=>
  obtain⟨P,F,i,N⟩:=Fb (vs:=f.AI) (n:=w (p+1)+1) (by omega);obtain⟨ai,a9,a0,a8⟩:=Fb (vs:=P) (n:=w (p+1)) (by omega);subst a0;have a5:CK ⟨12,a,e,o⟩ (f.go (f.pc+1))=true:=by unfold CK;simp only[r_,decide_eq_true_eq];exact⟨b,by show a.toNat<f.Ac.length;rw[y.sl];exact u⟩
  refine⟨_,(show exec en zs xs ⟨12,a,e,o⟩ _ cb (f.go (f.pc+1)) l=cond (CK ⟨12,a,e,o⟩ (f.go (f.pc+1))) (HL (f.go (f.pc+1)) _) Z from J).trans (by rw[a5,Aa9,Df (f:=f.go (f.pc+1)) i,Df (f:=(f.go (f.pc+1)).val (ai++[a9])) (vs:=ai) (v:=a9) rfl]),?_⟩;unfold Ms.IX;cases((t.top cb (f.go (f.pc+1)) l).heap.put ((f.go (f.pc+1)).load (⟨12,a,e,o⟩:AY).a.toNat 4).a a9.a F.a).2 !=0 with
  |true=>exact af (by simp) ⟨.inr J,J⟩ J J J J J J q r
  |false=>exact z (by simp) (p+1) ⟨s,J⟩ J J J J A (by omega) (K (by simp)) a8 q r
 |jump a0 e o b u a1=>exact⟨_,J,z (by simp) a0 ⟨s,J⟩ J J J J J b (by omega) (by show f.AI.length=_;omega) q r⟩
 |back a0 e o b u=>
  obtain⟨a5,a8,a9⟩:=b;refine⟨_,J,L5.on (cb:=cb) (l:=l) (g:=(f.go (f.pc+1)).go a0) ⟨s,J⟩ J (y.next (ae (by simp)) a0 0 J J J J a5 a8 (by rw[y.Ahy a5 a8 a9];show f.AI.length+0=0;omega)) a6 ak q r ?_⟩;have aj:=Y0 a2 ac (by simp);have ai:wt code a0=0:=by obtain⟨F,ad,al⟩:=a9;unfold wt;rw[ad];simp only[al,if_true]
  show wt code a0+_<_;omega
 |skip a0 e o b u a1 aj=>
  obtain⟨P,F,i,N⟩:=Fb (vs:=f.AI) (n:=w (p+1)) (by omega);simp only[exec,u_,D_,Aa9,Acf];rw[Df (f:=f.go (f.pc+1)) i];refine⟨_,J,?_⟩;cases F.a==0 with
  |true=>exact z (by simp) a0 ⟨s,J⟩ J J J J J b (by omega) (by show P.length=_;omega) q r
  |false=>exact z (by simp) (p+1) ⟨s,J⟩ J J J J A (by omega) (K (by simp)) N q r
 |early ar a0 e o b u a1 aj ai=>
  obtain⟨P,F,i,N⟩:=Fb (vs:=f.AI) (n:=w (p+1)) (by omega);rcases b with rfl|rfl
  ·simp only[exec,u_,D_,Aa9,Acf]
   rw[Df (f:=f.go (f.pc+1)) i];refine⟨_,J,?_⟩;cases(F.a==1)==false with
   |true=>exact z (by simp) a0 ⟨s,J⟩ J J J J J u (by omega) (by show f.AI.length=_;omega) q r
   |false=>exact z (by simp) (p+1) ⟨s,J⟩ J J J J A (by omega) (K (by simp)) N q r
  simp only[exec,u_,D_,Bool.or_true,Aa9,Acf];rw[Df (f:=f.go (f.pc+1)) i];refine⟨_,J,?_⟩;cases(F.a==1)==true with
  |true=>exact z (by simp) a0 ⟨s,J⟩ J J J J J u (by omega) (by show f.AI.length=_;omega) q r
  |false=>exact z (by simp) (p+1) ⟨s,J⟩ J J J J A (by omega) (K (by simp)) N q r
 |call a e o b u a1 aj ai=>
  have ad:Bb zs a.toNat∈zs:=by
   unfold Bb;have a0:a.toNat<zs.length:=by rw[c.zl];exact u
   rw[t_,b_ a0];exact J_ a0
  obtain⟨al,aM⟩:=c.zb _ ad;have ar:(decide (0≤a)&&(decide (a.toNat<en.length)&&(decide (a.toNat<zs.length)&&(decide (0≤e)&&(decide (e.toNat≤(f.go (f.pc+1)).AI.length)&&(decide (0≤Bb zs a.toNat)&&decide (Bb zs a.toNat≤100000)))))))=true:=by simp only[r_,decide_eq_true_eq];exact⟨b,by rw[c.el];exact u,by rw[c.zl];exact u,a1,by show _≤f.AI.length;omega,al,by omega⟩
  refine⟨_,(show exec en zs xs ⟨20,a,e,o⟩ _ cb (f.go (f.pc+1)) l=Wa en zs _ ⟨20,a,e,o⟩ cb (f.go (f.pc+1)) l from J).trans (by unfold Wa;rw[ar];rfl),?_⟩;cases ah:decide (7≤l.length)with
  |true=>exact af (by simp) ⟨.inr J,J⟩ J J J J J J q r
  |false=>
   have ah:=Adh ah;obtain⟨a4,ap,aN,a0⟩:=c.fs a.toNat u;obtain⟨aq,aC,aD,aE⟩:=a0.ex;obtain⟨F,a8,a9⟩:=a0.fst;have a5:Bb en a.toNat=(a4:Int):=by simp_all
   have aO:wt code a4≤1:=by
    unfold wt;rw[a8];rcases a9 with h|h
    ·simp_all
    simp[h]
   have aP:=Y0 a2 ac (by simp);have aQ:=Aqd (code:=code) (p+1);have aF:=K (by simp);refine L5.on (cb:=0) (l:=(cb,(f.go (f.pc+1)).val (f.AI.take (f.AI.length-e.toNat)))::l) (g:=⟨[],a,Bb en a.toNat,Bb en a.toNat,copyV (List.replicate (Bb zs a.toNat).toNat (vz 0)) (f.AI.drop (f.AI.length-e.toNat)),0⟩) ⟨s,J⟩ J
    ⟨a.toNat,a4,ap,aq,a4,a4,by show a=_;omega,u,a0.le,aD,aE,?_,a5,Y _,a0.lt,aC.symm,a5,Y _,a0.lt,a0.lst,?_⟩ ?_ (by simp;omega) q r ?_
   ·show(copyV (List.replicate (Bb zs a.toNat).toNat (vz 0)) (f.AI.drop (f.AI.length-e.toNat))).length=_
    unfold copyV;simp;omega
   ·rcases a9 with h|h
    ·exact .inl ⟨F,a8,h⟩
    simp_all
   ·intro L ag
    rcases j_.1 ag with rfl|ag
    ·refine y.next (ae (by simp)) (p+1) 1 J J J A (by omega) aF ?_
     show(f.AI.take (f.AI.length-e.toNat)).length+1=_;rw[s_];omega
    exact a6 L ag
   show wt code (Bb en a.toNat).toNat+(wt code (f.pc+1).toNat+Um code l)<_;rw[a5,show(f.pc+1).toNat=p+1 by rw[y.pc];omega];show wt code a4+_<_;omega
 |ret a e o b=>
  obtain⟨P,F,i,N⟩:=Fb (vs:=f.AI) (n:=w p-1) (by omega);simp only[exec,u_,D_,Aa9,Acf];rw[Df (f:=f.go (f.pc+1)) i];refine⟨_,J,?_⟩;exact av (by rw[Y0 a2 ac (by simp)];omega) F ⟨s,J⟩ q r
 |none a e o=>exact⟨_,J,av (by unfold wt;rw[a2];simp) (vz a) ⟨s,J⟩ q r⟩
 |mark a e o b u a1 aj=>exact absurd J ac
theorem OD(q:xs.length≤50000):∀(n:Nat) (a:Ms),Um code a.Ba<n→Iv nf nn code zs xs.length a.Ba a.CA a.status→∃e b,Hb en zs xs code e a=W b∧b.time=a.time∧Iv nf nn code zs xs.length b.Ba b.CA b.status∧(b.Ba=[]∨AtM code b.Ba)
 |0,a,h,_=>absurd h (Y_ _)
 |n+1,a,a3,g=>by
  have x:∀a:Ms,Iv nf nn code zs xs.length a.Ba a.CA a.status→a.status≠0→Hb en zs xs code 1 a=W a∧(a.Ba=[]∨AtM code a.Ba):=by
   intro a g r;refine⟨by unfold Hb;rw[show(a.status==0)=false by simp_all];rfl,?_⟩;rcases g.st with⟨h,_⟩|⟨_,h⟩|⟨_,h⟩
   ·omega
   ·simp_all
   simp_all
  by_cases r:a.status=0
  ·have F:a.Ba≠[]:=by
    rcases g.st with⟨_,h⟩|⟨h,_⟩|⟨h,_⟩
    ·exact h
    ·omega
    omega
   cases h:a.Ba with
   |nil=>exact absurd h F
   |cons K l=>
   obtain⟨cb,f⟩:=K;obtain⟨⟨j,lo,hi,w,p,m,i⟩,a4⟩:=g.fr cb f l h;obtain⟨s,t,_⟩:=i.ok p i.p1 i.p2;have y:f.pc.toNat=p:=by rw[i.pc];rfl
   have L:=Ai2 c g q h;by_cases u:s.op=1
   ·refine⟨1,a,?_,J,g,.inr ⟨cb,f,l,p,h,i.pc,s,t,u⟩⟩
    unfold Hb;rw[show(a.status==0)=true by simp_all,h];simp only[y,t,u,L];rfl
   obtain⟨b,N,z,v,a5⟩:=Alk c g r q h (by simp_all) u;have A:∀e,Hb en zs xs code (e+1) a=Hb en zs xs code e b:=by
    intro e;rw[show Hb en zs xs code (e+1) a=cond (a.status==0) (match a.Ba with
     |[]=>Z
     |(_,f)::_=>(match code[f.pc.toNat]? with
      |none=>Z
      |some k=>cond (k.op==1) (cond (a.fit f) (W a) Z) (match Ky en zs xs code a with
       |none=>Z
       |some b=>Hb en zs xs code e b))) (W a)from J,show(a.status==0)=true by simp_all,h]
    simp only[y,t,show(s.op==1)=false by simp_all,N,Aa9,Acf]
   by_cases P:b.status=0
   ·have a6:Um code b.Ba<Um code a.Ba:=by omega
    obtain⟨e,a0,k,o,a1,a2⟩:=OD q n b (by omega) v;exact⟨e+1,a0,(A e).trans k,o.trans z,a1,a2⟩
   obtain⟨k,o⟩:=x b v P;exact⟨2,b,(A 1).trans k,z,v,o⟩
  obtain⟨k,o⟩:=x a g r;exact⟨1,a,k,J,g,o⟩
theorem Abr(F:xs.length≤50000){b:Ms}(i:Iv nf nn code zs xs.length b.Ba b.CA b.status)(t:b.Ba=[]∨AtM code b.Ba)(a8:0≤b.time)(o:b.time≤100000):
  ∃a e,Jt en zs xs code a b=W e∧(e.time=b.time∨e.time=b.time+1)∧Iv nf nn code zs xs.length e.Ba e.CA e.status∧(e.Ba=[]∨AtM code e.Ba):=by
 cases u:cond (b.status==2) true (b.status==3)with
 |true=>exact⟨0,b,by unfold Jt;rw[u];rfl,.inl J,i,t⟩
 |false=>
  have a9:b.status≠2∧b.status≠3:=by simp_all
  have K:AtM code b.Ba:=by
   rcases t with h|h
   ·rcases i.st with⟨_,a⟩|⟨a,_⟩|⟨_,a⟩
    ·simp_all
    ·omega
    exact a
   exact h
  obtain⟨cb,f,l,p,q,L,r⟩:=K;obtain⟨⟨j,lo,hi,w,g,m,a⟩,N⟩:=i.fr cb f l q;have P:g=p:=by have:=a.pc;omega
  subst P;have v:=i.n;rw[q]at v;have aa:=a.Ahy a.p1 a.p2 r;obtain⟨a0,x,a1⟩:=a.ok g a.p1 a.p2;have a2:a0.op=1:=by obtain⟨a3,k,n⟩:=r;rw[x]at k;cases k;exact n
  have a4:g+1<hi:=by
   rcases Q_ (g+1) hi with o|o
   ·exact o
   obtain⟨a3,k,n⟩:=a.lst;have:=a.p2;rw[show hi-1=g by omega,x]at k;cases k;rw[a2]at n;cases n
  have ab:w (g+1)=0:=by cases a1<;>simp_all<;>omega
  have ac:=c.cl;have ad:=a.hc;have a5:Iv nf nn code zs xs.length ((cb,{f with mark:=f.pc,pc:=f.pc+1})::l) b.CA 0:=by refine⟨fun y z A s=>?_,v,i.i1,i.i2,.inl ⟨J,by simp⟩⟩;cases s;exact⟨⟨j,lo,hi,w,g+1,g,a.fn,a.jl,a.hc,a.wl,a.ok,a.sl,by simp_all,by have:=a.p1;omega,a4,by have:=a.ht;show f.AI.length+0=_;omega,L,a.p1,a.p2,a.lst,.inl r⟩,N⟩
  obtain⟨y,e,a6,s,z,A⟩:=OD c F _ {b with status:=0,Ba:=(cb,{f with mark:=f.pc,pc:=f.pc+1})::l} (i_ _) a5;have s:e.time=b.time:=s;have a7:Jt en zs xs code y b=W (cond (e.status !=1) {e with time:=e.time+1} e):=by
   unfold Jt;rw[u,q];simp only[Acf,a6];rw[show(decide (0≤f.pc)&&(decide (f.pc≤100000)&&decide (((cb,f)::l).length<100)))=true by
    simp only[r_,decide_eq_true_eq];have:=a.p2;omega]
   rw[show(decide (0≤e.time)&&decide (e.time≤100000))=true by
    simp only[r_,decide_eq_true_eq];omega]
   rfl
  refine⟨y,_,a7,?_⟩;cases e.status !=1 with
  |true=>exact⟨.inr (by simp_all),z,A⟩
  |false=>exact⟨.inl s,z,A⟩
end
variable{a b c d:Nat}{f g h:AH}{v w:Value}{s t:List UInt8}{l m:List Value}{u:TypeId}{x y:Int}{p:List Nat}{q r:List Int}{e:Env}{o n:Option Addr}
theorem Axu{a:List Fd}(g:D6 a)(h:(Aw a).e=0):Cx a.length (Az a 0).length (Bh a).1 (Bh a).2 (Aw a).size∧(∀i∈(Bh a).1,i.ok)∧0≤Ih a∧Ih a<a.length:=by obtain⟨d,z,K⟩:=g;obtain⟨j,k,l,m,n⟩:=Aa2 (fun o p=>by have:=(d o p).2.2.1;omega) h;have L:=ES a 0;obtain⟨e,b,q,r,N,s,t⟩:=Aac (nf:=a.length) (nn:=(Az a 0).length) (A:=Aw a) (F:=AK a 0) (zs:=fun c=>(Bb (Aw a).size c).toNat) (Nat.le_of_eq (F5 a 0)) a 0 0 l d (by omega) [] [];have u:Bh a=(e,b):=q;rw[u];refine⟨⟨r,j,k,by show e.length<1000;omega,fun c v=>?_⟩,s,m,n⟩;obtain⟨w,x,y,f⟩:=t c v;rw[S_]at f;exact⟨w,x,y,f⟩
theorem Iv.mono{nf nn c d:Nat}{code:List AY}{zs:List Int}{e:List (Nat×Cf)}(a:Iv nf nn code zs c e x y)(f:c≤d):Iv nf nn code zs d e x y:=
 ⟨a.fr,a.n,a.i1,by have:=a.i2;omega,a.st⟩
section
variable{nf nn:Nat}{code:List AY}{b zs:List Int}
structure Good(nf nn:Nat)(code:List AY)(zs:List Int)(ni:Nat)(s:Ms):Prop where
 iv:Iv nf nn code zs ni s.Ba s.CA s.status
 at':s.Ba=[]∨AtM code s.Ba
theorem An4(g:Cx nf nn code b zs)(i:a<nf):∃m d,Hb b zs [] code m (Je b zs a)=W d∧d.time=0∧Good nf nn code zs 0 d:=by
 obtain⟨e,n,o,c⟩:=g.fs a i;obtain⟨p,q,r,s⟩:=c.ex;obtain⟨j,k,t⟩:=c.fst;have l:Bb b a=(e:Int):=by unfold Bb;rw[t_,o];rfl
 have u:Iv nf nn code zs ([]:List Int).length (Je b zs a).Ba (Je b zs a).CA (Je b zs a).status:=by
  refine⟨fun v w x f=>?_,by show 1≤8;decide,C_ _,C_ _,.inl ⟨J,by show[_]≠[];simp⟩⟩;have f:[((0:Nat),(⟨[],a,Bb b a,Bb b a,List.replicate (Bb zs a).toNat (vz 0),0⟩:Cf))]=(v,w)::x:=f;cases f;refine⟨⟨a,e,n,p,e,e,J,i,c.le,r,s,List.length_replicate,l,Y _,c.lt,q.symm,l,Y _,c.lt,c.lst,?_⟩,fun z y=>by cases y⟩;rcases t with h|h
  ·exact .inl ⟨j,k,h⟩
  exact .inr ⟨J,j,k,h⟩
 obtain⟨f,d,v,w,x,y⟩:=OD g (by decide) _ (Je b zs a) (i_ _) u;exact⟨f,d,v,w,x,y⟩
end
theorem Aqg:pr.CY 36=W (.slice 9):=by kernel_rfl
theorem Awt:Cu pr .eql 36 (.tmp 3) (.const (.slice Z 0 0)) (.slice Z 0 0) (.slice Z 0 0)=W (.bool true):=by kernel_rfl
theorem Afz(d e:V_)(a:Addr)(b c:Nat):Cu pr .eql 36 d e (.slice (W a) b c) (.slice Z 0 0)=W (.bool false):=by have f:Cu pr .eql 36 d e (.slice (W a) b c) (.slice Z 0 0)=ED pr .eql 36 d e (.slice (W a) b c) (.slice Z 0 0):=J;rw[f];unfold ED;have g:(Fz (.slice (W a) b c)&&Fz (.slice Z 0 0))=false:=J;rw[g,Aqg];rfl
def L6(d:AH)(b:k_)(a:List H):Prop:=(a=[]∧∃e f,b=.slice e 0 f)∨(∃c,b=.slice (W ⟨c,0,Z⟩) a.length 1∧d.get c=W (.cells (a.map S)))
theorem Rc:∀a:List H,By (a.map S)=true
 |[]=>rfl
 |_::a=>Rc a
theorem V2{h:AH}(k:Wh h){v:k_}{l:List H}(m:(l=[]∧(v=.slice Z 0 0∨∃g d,v=.slice (W g) 0 d))∨(∃c e f,v=.slice (W ⟨c,e,Z⟩) l.length 1∧h.get c=W (.cells f)∧sub? f e (l.length*1)=W (l.map S)))(t:l.length≤100000):
  AR 46 [v] h (fun a i=>L6 i a l∧(∀c j d,a=.slice (W ⟨c,0,Z⟩) j d→h.n≤c)∧Ext h i):=by
 refine eF Tryz.func46 ?_;rcases m with⟨rfl,rfl|⟨g,d,rfl⟩⟩|⟨c,e,f,rfl,i,o⟩
 ·simp only[go_sem,Awt]
  exact⟨.inl ⟨J,_,_,J⟩,fun _ _ _ a=>(by cases a),Ext.refl h⟩
 ·simp only[go_sem,V,Afz]
  exact⟨.inl ⟨J,_,_,J⟩,fun _ _ _ a=>(by cases a;exact Y _),Ext.new h _⟩
 have p:=k _ _ i;simp only[go_sem,V,Afz];rcases ad_ l.length with q|j
 ·have r:=h_ q
  subst r;simp only[go_sem,l_];exact⟨.inl ⟨J,_,_,J⟩,fun _ _ _ a=>(by cases a;exact Y _),Ext.new h _⟩
 rw[JA _ _ _ _ j,An _ (AE p),i,II,o];have r:=HH (h:=h.new (.cells [])) (sz:=1) (len:=0) (n:=l.length) (b:=h.n) (l:=[]) (new:=l.map S) (Ae _) J j (by omega) (by omega) (by omega) (Rc l) (by simp);simp only[go_sem,r];refine⟨.inr ⟨h.n+1,by simp,?_⟩,fun _ _ _ a=>(by cases a;exact n_ _),fun u s=>?_⟩
 ·simp only[go_sem]
 simp only[go_sem,s]
theorem Avx:pr.CY 22=W (.slice 3):=by kernel_rfl
theorem Awu:Cu pr .eql 22 (.tmp 3) (.const (.slice Z 0 0)) (.slice Z 0 0) (.slice Z 0 0)=W (.bool true):=by kernel_rfl
theorem Af0(d e:V_)(a:Addr)(b c:Nat):Cu pr .eql 22 d e (.slice (W a) b c) (.slice Z 0 0)=W (.bool false):=by have f:Cu pr .eql 22 d e (.slice (W a) b c) (.slice Z 0 0)=ED pr .eql 22 d e (.slice (W a) b c) (.slice Z 0 0):=J;rw[f];unfold ED;have g:(Fz (.slice (W a) b c)&&Fz (.slice Z 0 0))=false:=J;rw[g,Avx];rfl
def CiA(d:AH)(b:k_)(a:List Int):Prop:=(a=[]∧∃e f,b=.slice e 0 f)∨(∃c,b=.slice (W ⟨c,0,Z⟩) a.length 1∧d.get c=W (.cells (a.map I)))
theorem Re:∀a:List Int,By (a.map I)=true
 |[]=>rfl
 |_::a=>Re a
theorem Ajm(m:Wh f)(o:(q=[]∧(v=.slice Z 0 0∨∃i d,v=.slice (W i) 0 d))∨(∃c e g,v=.slice (W ⟨c,e,Z⟩) q.length 1∧f.get c=W (.cells g)∧sub? g e (q.length*1)=W (q.map I)))(w:q.length≤100000):
  AR 174 [v] f (fun a j=>CiA j a q∧(∀c k d,a=.slice (W ⟨c,0,Z⟩) k d→f.n≤c)∧Ext f j):=by
 refine eF Tryz.func174 ?_;rcases o with⟨rfl,rfl|⟨i,d,rfl⟩⟩|⟨c,e,g,rfl,j,p⟩
 ·simp only[go_sem,Awu]
  exact⟨.inl ⟨J,_,_,J⟩,fun _ _ _ a=>(by cases a),Ext.refl f⟩
 ·simp only[go_sem,V,Af0]
  exact⟨.inl ⟨J,_,_,J⟩,fun _ _ _ a=>(by cases a;exact Y _),Ext.new f _⟩
 have r:=m _ _ j;simp only[go_sem,V,Af0];rcases ad_ q.length with s|k
 ·have t:=h_ s
  subst t;simp only[go_sem,l_];exact⟨.inl ⟨J,_,_,J⟩,fun _ _ _ a=>(by cases a;exact Y _),Ext.new f _⟩
 rw[JA _ _ _ _ k,An _ (AE r),j,II,p];have t:=HH (h:=f.new (.cells [])) (sz:=1) (len:=0) (n:=q.length) (b:=f.n) (l:=[]) (new:=q.map I) (Ae _) J k (by omega) (by omega) (by omega) (Re q) (by simp);simp only[go_sem,t];refine⟨.inr ⟨f.n+1,by simp,?_⟩,fun _ _ _ a=>(by cases a;exact n_ _),fun x u=>?_⟩
 ·simp only[go_sem]
 simp only[go_sem,u]
def Hs.seg(s:Hs)(a:Nat):List Int:=(s.cells.drop (s.fr a)).take (s.to a-s.fr a)
theorem Zn{s:Hs}(b:s.ok)(c:a<s.ends.length):(s.seg a).length=s.to a-s.fr a:=by have e:=b.inc a c;have f:=b.le a c;unfold Hs.seg;rw[s_,aq_];omega
section
variable{h:AH}{hb:Nat}{d v2:Value}{b1 b2:List Nat}{s:Hs}
theorem Apn(i:Ro h d s.cells b1)(c:s.ok)(e:a<s.ends.length):
  (s.seg a=[]∧(s.base ((a:Int)+1) d=.slice Z 0 0∨∃j k,s.base ((a:Int)+1) d=.slice (W j) 0 k))∨
  (∃b f g,s.base ((a:Int)+1) d=.slice (W ⟨b,f,Z⟩) (s.seg a).length 1∧h.get b=W (.cells g)∧sub? g f ((s.seg a).length*1)=W ((s.seg a).map I)):=by
 have m:=c.inc a e;have g:=c.le a e;have f:=Zn c e;have c1:decide (((a:Int)+1)<1)=false:=Gv;have c2:decide ((s.ends.length:Int)<(a:Int)+1)=false:=Gv;have c3:((a:Int)+1-1).toNat=a:=by omega
 unfold Hs.base;rw[c1,c2,c3];rcases i with⟨j,rfl,_⟩|⟨b,rfl,_,hb⟩
 ·rw[j]at g
  have k:s.to a=0:=by simpa using g
  have l:s.fr a=0:=by omega
  refine .inl ⟨h_ (by omega),.inl ?_⟩;rw[k,l];rfl
 refine .inr ⟨b,s.fr a,_,?_,hb,?_⟩
 ·rw[f]
  simp only[Acf,QG,S_,ac_]
 rw[ac_,E7 (by rw[d_,f];omega),f];unfold Hs.seg;rw[List.map_take,List.map_drop]
def CiQ(e:Nat→Prop)(h:AH)(c:k_)(a:List Int):Prop:=(a=[]∧∃f g,c=.slice f 0 g)∨(∃b,c=.slice (W ⟨b,0,Z⟩) a.length 1∧h.get b=W (.cells (a.map I))∧e b)
theorem CiQ.imp{c e:Nat→Prop}{h f:AH}{l:List Int}(b:CiQ c h v l)(g:∀a j,h.get a=W j→c a→f.get a=h.get a∧e a):CiQ e f v l:=by
 rcases b with b|⟨a,k,hb,i⟩
 ·exact .inl b
 exact .inr ⟨a,k,(g a _ hb i).1.trans hb,(g a _ hb i).2⟩
theorem CiQ.slice{c:Nat→Prop}{h:AH}(a:CiQ c h v q):∃a b,v=.slice a q.length b:=by
 rcases a with⟨rfl,a,b,rfl⟩|⟨e,rfl,_⟩
 ·exact⟨a,b,J⟩
 exact⟨_,_,J⟩
def Gz(a:Nat→Prop)(h:AH):E→List (List Int)→Prop
 |[],[]=>True
 |u::b,c::e=>CiQ a h u c∧Gz a h b e
 |_,_=>False
theorem Gz.imp{e f:Nat→Prop}{h g:AH}(i:∀a j,h.get a=W j→e a→g.get a=h.get a∧f a):∀{b:E} {c:List (List Int)},Gz e h b c→Gz f g b c
 |[],[],_=>trivial
 |_::b,_::c,⟨k,l⟩=>⟨k.imp i,Gz.imp i l⟩
 |[],_::_,h=>h.elim
 |_::_,[],h=>h.elim
theorem Gz.len{c:Nat→Prop}{h:AH}:∀{a:E} {b:List (List Int)},Gz c h a b→a.length=b.length
 |[],[],_=>rfl
 |_::a,_::b,⟨_,e⟩=>by rw[a_,a_,Gz.len e]
 |[],_::_,h=>h.elim
 |_::_,[],h=>h.elim
theorem Gz.app{Q:Nat→Prop}{h:AH}{u:k_}{c:List Int}(e:CiQ Q h u c):∀{a:E} {b:List (List Int)},Gz Q h a b→Gz Q h (a++[u]) (b++[c])
 |[],[],_=>⟨e,trivial⟩
 |_::a,_::b,⟨c1,f⟩=>⟨c1,Gz.app e f⟩
 |[],_::_,h=>h.elim
 |_::_,[],h=>h.elim
theorem Gz.one{c:Nat→Prop}{h:AH}:∀{a:E} {b:List (List Int)},Gz c h a b→By a=true
 |[],[],_=>rfl
 |u::a,_::b,⟨e,f⟩=>by
  obtain⟨g,i,rfl⟩:=e.slice;exact(show By a=true from Gz.one f)
 |[],_::_,h=>h.elim
 |_::_,[],h=>h.elim
def Wy(h:AH)(c:k_)(a:List (List Int)):Prop:=(a=[]∧c=.slice Z 0 0)∨(∃b e,c=.slice (W ⟨b,0,Z⟩) a.length 1∧h.get b=W (.cells e)∧Gz (fun f=>f≠b) h e a)
def Hs.lists(s:Hs):List (List Int):=(List.range s.ends.length).map s.seg
theorem Ah2(v:Wh h)(i:h.get hb=W (.cells [d,v2]))(a6:Ro h d s.cells b1)(N:Ro h v2 s.Gt b2)(p:s.ok):
  AR 89 [AA hb] h (fun a h1=>Wy h1 a s.lists∧Ext h h1):=by
 have ai:s.Gt.length=s.ends.length:=by simp[Hs.Gt]
 have aj:=v _ _ i;obtain⟨aC,aD,a7⟩:=N.slice;rw[ai]at a7;have a8:=i;rw[a7]at a8;refine eF Tryz.func89 ?_;simp only[go_sem,a8];have w:s.lists.length=s.ends.length:=by simp[Hs.lists]
 have aE:=p.sm;refine AG (fun(a:Nat) j f=>Ext h f∧Wh f∧h.n≤f.n∧((a=0∧j.at 3=.slice Z 0 0)∨∃b e,j.at 3=.slice (W ⟨b,0,Z⟩) a 1∧h.n≤b∧f.get b=W (.cells e)∧Gz (fun k=>k≠b) f e (s.lists.take a))∧a≤s.ends.length∧j.at 0=AA hb∧j.at 9=I s.ends.length∧j.at 10=I a) (fun a=>s.ends.length-a) ?_ 0 ?_
 ·rintro a j f ⟨m,q,ak,a9,aF,P,x,y⟩ aa
  cases z:decide ((a:Int)<s.ends.length)
  ·have n:a=s.ends.length:=by have:=Adh z;omega
   subst n;simp only[go_sem,V,x,y,z];refine⟨?_,m⟩;rcases a9 with⟨l,r⟩|⟨b,e,l,r,A,t⟩
   ·exact .inl ⟨h_ (by rw[w,l]),r⟩
   refine .inr ⟨b,e,by rw[w];exact l,A,?_⟩;rw[←w,K_]at t;exact t
  have n:a<s.ends.length:=by have:=Acw z;omega
  have ab:w_ .i64 ((a:Int)+1)=(a:Int)+1:=by rw[Ap]<;>omega
  have al:=(m hb aj).trans i;have ac:=a6.same (h1:=f) fun k i=>m k (a6.lt v k i);have am:=N.same (h1:=f) fun k i=>m k (N.lt v k i);simp only[go_sem,V,P,x,y,z,ab];refine Aa (NO q al ac am p ((a:Int)+1) (by omega) (by omega)) ?_;rintro _ _ _ ⟨rfl,rfl⟩;simp only[go_sem];refine Aa (Ok.wf q (Ajm q (Apn ac p n) (by have:=p.le a n;rw[Zn p n];omega))) ?_;rintro an u aG ⟨F,a0,ao,K⟩;have ap:∃a1 aq a2,an=.slice a1 aq a2:=by
   rcases a0 with⟨_,a1,a2,c⟩|⟨b,c,_⟩
   ·exact⟨a1,0,a2,c⟩
   exact⟨_,_,_,c⟩
  obtain⟨ad,ae,af,rfl⟩:=ap;have ag:w_ .i64 ((a:Int)+1)=((a+1:Nat):Int):=ab;have ar:s.lists[a]? =W (s.seg a):=by unfold Hs.lists;rw[P_,List.getElem?_range n];rfl
  have ah:s.lists.take (a+1)=s.lists.take a++[s.seg a]:=by rw[H_,ar];rfl
  have aH:s.ends.length-(a+1)<s.ends.length-a:=by omega
  rcases a9 with⟨l,r⟩|⟨b,e,l,r,A,t⟩
  ·subst l
   simp only[go_sem,V,r,ag,y];refine aa 1 _ _ ⟨?_,Am (Am F _) _,by simp only[go_sem];omega,.inr ⟨u.n+1,[.slice ad ae af],by simp only[go_sem,V],by omega,by simp only[go_sem],?_⟩,by omega,by simp only[go_sem,P],by simp only[go_sem,V,x],by simp only[go_sem]⟩ (by omega)
   ·try refine⟨J,?_⟩
    repeat first|exact(m.trans ak K)|exact Ext.refl _|refine Ext.CR ?_ _|refine Ext.CS ?_ _
   rw[ah];refine⟨?_,trivial⟩;rcases a0 with c|⟨b,c,hb⟩
   ·exact .inl c
   have a3:=F _ _ hb;exact .inr ⟨b,c,by simp only[go_sem,a3];exact hb,by omega⟩
  have a3:=q _ _ A;have au:=(K b a3).trans A;have av:b<u.n:=by omega
  have aw:e.length=a:=by rw[t.len,s_,w];omega
  have ax:W_ a 999999=true:=Eg;have ay:sub? e 0 a=W e:=C2 aw;simp only[go_sem,V,l,ag,y,au,av,ax,ay];have az:∀g,g<h.n→g≠b:=fun g a4=>by omega
  refine aa (a+1) _ _ ⟨fun g a4=>?_,Am (Dm (Am F _) _) _,by simp only[go_sem];omega,.inr ⟨u.n+1,e++[.slice ad ae af],by simp only[go_sem,V],by omega,by simp only[go_sem],?_⟩,by omega,by simp only[go_sem,P],by simp only[go_sem,V,x],by simp only[go_sem]⟩ (by omega)
  ·have o:g<u.n:=by omega
   simp only[go_sem,o,Ag (az g a4)];exact(K g (by omega)).trans (m g a4)
  rw[ah];refine Gz.app ?_ (t.imp fun o aI L aA=>?_)
  ·rcases a0 with c|⟨o,c,L⟩
   ·exact .inl c
   have a5:=F _ _ L;have aB:o≠b:=fun j=>by
    have:=ao o _ _ c;omega
   exact .inr ⟨o,c,by simp only[go_sem,a5,Ag aB];exact L,by omega⟩
  have a5:=q _ _ L;have c:o<u.n:=by omega
  refine⟨?_,by omega⟩;simp only[go_sem,c,Ag aA];exact K o a5
 exact⟨Ext.refl h,v,Y _,.inl ⟨J,J⟩,c_ _,J,J,J⟩
end
theorem Aws:Cu pr .eql 40 (.tmp 3) (.const (.slice Z 0 0)) (.slice Z 0 0) (.slice Z 0 0)=W (.bool true):=by kernel_rfl
section
variable{h:AH}
theorem Aox:AR 258 [.slice Z 0 0] h (fun a b=>a=.slice Z 0 0∧Ext h b):=by refine eF Tryz.func258 ?_;simp only[go_sem,Aws];exact Ext.refl h
theorem insert_nil:AR 173 [.slice Z 0 0,.slice Z 0 0] h (fun b a=>b=.slice Z 0 0∧Ext h a):=by
 refine eF Tryz.func173 ?_;simp only[go_sem];refine Aa Aox ?_;rintro _ a e ⟨rfl,c⟩;simp only[go_sem,V];refine Cq ?_;have f:decide (((0:Nat):Int)<((0:Nat):Int))=false:=by decide
 have d:decide ((0:Int)<((0:Nat):Int))=false:=by decide
 simp only[go_sem,V,d];exact c
theorem Acx:AR 88 [.slice Z 0 0,.slice Z 0 0] h (fun b a=>b=.slice Z 0 0∧Ext h a):=by refine eF Tryz.func88 ?_;simp only[go_sem,V];refine Aa insert_nil ?_;rintro _ a d ⟨rfl,c⟩;simp only[go_sem];exact c
theorem all_nil(f a:k_)(g:∃b c d,a=.slice b c d):AR 49 [.agg #[f,a,.slice Z 0 0,.slice Z 0 0]] h (fun i e=>i=.slice Z 0 0∧Ext h e):=by obtain⟨b,c,d,rfl⟩:=g;refine eF Tryz.func49 ?_;simp only[go_sem,V];refine Aa Acx ?_;rintro _ e k ⟨rfl,j⟩;simp only[go_sem];exact j.Cb
end
def I7{m:Type}(R:k_→m→Prop):E→List m→Prop
 |[],[]=>True
 |u::a,b::d=>R u b∧I7 R a d
 |_,_=>False
section
variable{m:Type}{R R':Value→m→Prop}
theorem I7.imp(a:∀b l,R b l→R' b l):∀{d:E} {e:List m},I7 R d e→I7 R' d e
 |[],[],_=>trivial
 |_::_,_::_,⟨c,f⟩=>⟨a _ _ c,I7.imp a f⟩
 |[],_::_,h=>h.elim
 |_::_,[],h=>h.elim
theorem I7.len:∀{a:E} {b:List m},I7 R a b→a.length=b.length
 |[],[],_=>rfl
 |_::_,_::_,⟨_,d⟩=>by rw[a_,a_,I7.len d]
 |[],_::_,h=>h.elim
 |_::_,[],h=>h.elim
theorem I7.app{u:k_}{a:m}(c:R u a):∀{b:E} {d:List m},I7 R b d→I7 R (b++[u]) (d++[a])
 |[],[],_=>⟨c,trivial⟩
 |_::_,_::_,⟨c1,e⟩=>⟨c1,I7.app c e⟩
 |[],_::_,h=>h.elim
 |_::_,[],h=>h.elim
end
structure Sp where
 fn:Int
 node:Int
 Ac:List Vl
def aAt(code:List AY)(a:Int):Int:=match code[a.toNat]? with
 |some b=>b.a
 |none=>0
def spO(code:List AY)(b:Int)(a:Cf):Sp:=⟨a.fn,aAt code b,a.Ac⟩
def BR(code:List AY):List (Nat×Cf)→List Sp
 |[]=>[]
 |(_,a)::d=>(d.map fun b=>spO code b.2.mark b.2).reverse++[spO code a.pc a]
def QI(e:Nat→Prop)(h:AH)(d:k_)(a:List Vl):Prop:=(a=[]∧∃f i,d=.slice f 0 i)∨(∃b j,d=.slice (W ⟨b,0,Z⟩) a.length 3∧h.get b=W (.cells (AL a++j))∧e b)
theorem QI.imp{e f:Nat→Prop}{h i:AH}{l:List Vl}(b:QI e h v l)(j:∀a n,h.get a=W n→e a→i.get a=h.get a∧f a):QI f i v l:=by
 rcases b with b|⟨a,o,p,d,k⟩
 ·exact .inl b
 exact .inr ⟨a,o,p,(j a _ d k).1.trans d,(j a _ d k).2⟩
theorem QI.slice{e:Nat→Prop}{h:AH}{d:List Vl}(a:QI e h v d):∃a b,v=.slice a d.length b:=by
 rcases a with⟨rfl,a,b,rfl⟩|⟨f,i,rfl,_⟩
 ·exact⟨a,b,J⟩
 exact⟨_,_,J⟩
def Mi:E→List Sp→E
 |v::b,a::d=>I a.fn::I a.node::v::Mi b d
 |_,_=>[]
theorem UI{R:k_→Sp→Prop}{e:k_}{a:Sp}:∀{b:E} {d:List Sp},I7 R b d→Mi (b++[e]) (d++[a])=Mi b d++[I a.fn,I a.node,e]
 |[],[],_=>rfl
 |_::_,_::_,⟨_,f⟩=>by simp only[m_,Mi,UI f]
 |[],_::_,h=>h.elim
 |_::_,[],h=>h.elim
theorem UH{R:k_→Sp→Prop}:∀{b:E} {a:List Sp},I7 R b a→(Mi b a).length=a.length*3
 |[],[],_=>rfl
 |_::_,_::_,⟨_,d⟩=>by simp only[Mi,a_,UH d];omega
 |[],_::_,h=>h.elim
 |_::_,[],h=>h.elim
def T9(h:AH)(d:k_)(a:List Sp):Prop:=(a=[]∧d=.slice Z 0 0)∨(∃b e,d=.slice (W ⟨b,0,Z⟩) a.length 3∧h.get b=W (.cells (Mi e a))∧I7 (fun f i=>QI (fun c=>c≠b) h f i.Ac) e a)
theorem KP(code:List AY):∀a:List (Nat×Cf),(BR code a).length=a.length
 |[]=>rfl
 |(_,b)::a=>by simp[BR]
theorem MT.mem{h:AH}{a:Nat×Cf}:∀{e:List (Nat×Cf)} {g:List Nat},MT e g h→a∈e→∃f d,h.get a.1=W (.cells [f,I a.2.fn,I a.2.pc,I a.2.mark,d])∧∃i,Vx h a.2.sb d a.2.Ac i
 |[],_,_,b=>by cases b
 |q::e,g,⟨n,o,p,⟨f,d,r,i,t,_,j,u,k,v⟩,l⟩,b=>by
  rcases j_.1 b with rfl|b
  ·exact⟨f,d,j,i,k⟩
  exact l.mem b
theorem Q1(code:List AY):∀{b:List (Nat×Cf)} {a:Nat} {f:Nat} {d:Cf},b.reverse[a]? =W (f,d)→(BR code b)[a]? =W (if a+1=b.length then spO code d.pc d else spO code d.mark d)
 |[],a,_,_,h=>by cases h
 |(k,l)::b,a,f,d,h=>by
  rw[List.reverse_cons]at h;unfold BR;rcases Q_ a b.length with e|e
  ·rw[F_ (by simpa using e)]at h
   rw[F_ (by simpa using e),Akt (by simp;omega),←ar_,P_,h];rfl
  have i:a-b.reverse.length=0:=by
   rcases ad_ (a-b.reverse.length)with h0|h0
   ·exact h0
   rw[A_ (by simpa using e),ak_ (by simp at h0⊢;omega)]at h;cases h
  have j:a=b.length:=by simp at i;omega
  rw[A_ (by simpa using e),i]at h;cases h;rw[A_ (by simpa using e),Agd (by simp;exact j)];simp[j]
theorem Nb:∀(b:List AY) (a:Nat) (d:AY),b[a]? =W d→nth? (BP b) (a*4+1)=W (I d.a)
 |[],_,_,h=>by cases h
 |x::b,0,_,h=>by cases h;rfl
 |x::b,a+1,d,h=>by
  rw[show(a+1)*4+1=a*4+1+1+1+1+1 by omega];exact Nb b a d (by simpa using h)
def NZ:E:=[.slice Z 0 0,.slice Z 0 0,I 0,.slice Z 0 0,I 0,I 0,I 0]
theorem Gz.Ak{f:Nat→Prop}{h i:AH}(j:∀b k,h.get b=W k→k≠.cells NZ→i.get b=h.get b):∀{d:E} {e:List (List Int)},Gz f h d e→Gz f i d e
 |[],[],_=>trivial
 |_::d,l::e,⟨c,p⟩=>by
  refine⟨?_,p.Ak j⟩;rcases c with c|⟨n,q,o,r⟩
  ·exact .inl c
  refine .inr ⟨n,q,(j n _ o fun a=>?_).trans o,r⟩;injection a with a
  cases l with
  |nil=>cases a
  |cons t l=>injection a with a _;cases a
 |[],_::_,h=>h.elim
 |_::_,[],h=>h.elim
theorem Wy.Ak{h j:AH}{d:List (List Int)}(e:Wy h v d)(f:∀i k,h.get i=W k→k≠.cells NZ→j.get i=h.get i):Wy j v d:=by
 rcases e with e|⟨l,o,p,n,a⟩
 ·exact .inl e
 refine .inr ⟨l,o,p,(f l _ n fun b=>?_).trans n,a.Ak f⟩;injection b with b
 subst b;rcases d with _|⟨q,_|⟨r,_|⟨t,d⟩⟩⟩
 ·exact a
 ·exact a.2
 ·exact a.2.2
 obtain⟨e,f,b⟩:=a.2.2.1.slice;cases b
theorem L6.Ak{h f:AH}{b:List H}(d:L6 h v b)(l:∀e i,h.get e=W i→i≠.cells NZ→f.get e=h.get e):L6 f v b:=by
 rcases d with d|⟨j,n,k⟩
 ·exact .inl d
 refine .inr ⟨j,n,(l j _ k fun a=>?_).trans k⟩;injection a with a
 cases b with
 |nil=>cases a
 |cons o b=>injection a with a _;cases a
theorem Aay{h:AH}{e:List Vl}(d:WB h (List.range a) v e):QI (fun b=>a≤b) h v e:=by
 rcases d with d|⟨b,f,i,j,k⟩
 ·exact .inl d
 exact .inr ⟨b,f,i,j,by
  rcases Q_ b a with h|h
  ·exact absurd (au_.2 h) k
  exact h⟩
section
variable{mb:Nat}{c:Pc}{hs h0 h:AH}{g0 g:List Nat}{s:Ms}{code:List AY}{en zs:List Int}
theorem UD(q:Hr (D1 mb c) hs h0 g0 h g s)(b8:Cd hs c code en zs)(K:s.out.length≤100000)(b9:s.Ba.length≤1000)(bA:∀i∈s.Ba,0≤i.2.mark∧i.2.mark.toNat<code.length∧0≤i.2.pc∧i.2.pc.toNat<code.length∧i.2.Ac.length≤100000):
  AR 50 [AA mb] h (fun aI w=>∃a am an,aI=.agg #[a,am,I s.CA,an,I s.status,I s.Jp,I s.time]∧T9 w a (BR code s.Ba)∧Wy w am s.heap.lists∧L6 w an s.out∧Ext h w):=by
 obtain⟨bB,an,cl,cm,a0,ba,bb⟩:=q.r.own;have aJ:=q.w _ _ a0;have aK:=a0;unfold AN at aK;have bC:∃aL aM,bB=.slice aL s.own.Hc.length aM:=by
  rcases ba with⟨j,rfl,_⟩|⟨k,a,rfl,_⟩
  ·exact⟨Z,0,by rw[j];rfl⟩
  exact⟨_,_,J⟩
 obtain⟨aL,aM,rfl⟩:=bC;have bD:∃aN aO,an=.slice aN s.out.length aO:=by
  rcases bb with⟨j,rfl,_⟩|⟨k,rfl,_⟩
  ·exact⟨Z,0,by rw[j];rfl⟩
  exact⟨_,_,J⟩
 obtain⟨aN,aO,rfl⟩:=bD;refine eF Tryz.func50 ?_;simp only[go_sem,V];refine AM (q.w.new _) 0x11cb1a80db04b21be250002500025000e81500025000581000 ?_;simp only[go_sem,V,aK,aJ];have ao:Ext h ((h.new (.cells [.slice Z 0 0,.slice Z 0 0,I 0,.slice Z 0 0,I 0,I 0,I 0])).new (.cells [.slice Z 0 0,.slice Z 0 0,I 0,.slice Z 0 0,I 0,I 0,I 0])):=(Ext.new h _).trans (n_ _) (Ext.new _ _);have bc:=(q.w.new (.cells [.slice Z 0 0,.slice Z 0 0,I 0,.slice Z 0 0,I 0,I 0,I 0])).new (.cells [.slice Z 0 0,.slice Z 0 0,I 0,.slice Z 0 0,I 0,I 0,I 0]);obtain⟨cn,co,cp,cq,a1,_,⟨cr,cs,ct,cu,cv,_,bd,be,bf,bE⟩,bF⟩:=q.r;have bG:=q.w _ _ bd;have bH:=Ah2 (h:=(h.new (.cells [.slice Z 0 0,.slice Z 0 0,I 0,.slice Z 0 0,I 0,I 0,I 0])).new (.cells [.slice Z 0 0,.slice Z 0 0,I 0,.slice Z 0 0,I 0,I 0,I 0])) bc ((ao s.hb bG).trans bd) (be.same fun c a0=>ao c (be.lt q.w c a0)) (bf.same fun c a0=>ao c (bf.lt q.w c a0)) bE;refine Aj (Ok.wf bc bH) ?_;rintro am w bI ⟨aP,bg,ap⟩;have aQ:Ext h w:=ao.trans (by simp only[go_sem];omega) ap;have bh:=(aQ mb aJ).trans aK;have cw:h.n+2≤w.n:=bI;have bJ:mb<w.n:=by omega
 have aR:=(ap (h.n+1) (by simp only[go_sem];omega)).trans (Ae (h:=h.new _) _);simp only[go_sem,V,bh,aR];have bK:=V2 (h:=w) aP (v:=.slice aN s.out.length aO) (l:=s.out) (by
  rcases bb with⟨j,i,_⟩|⟨k,i,_,d⟩
  ·injection i with a e b
   exact .inl ⟨j,.inl (by rw[a,e,b])⟩
  injection i with a e b
  subst a b;exact .inr ⟨k,0,_,J,(aQ k (q.w _ _ d)).trans d,by rw[ac_];exact C2 (by simp)⟩) K
 refine Aj (Ok.wf aP bK) ?_;rintro bL t cx ⟨bi,bj,_,a9⟩;have bk:=(a9 mb bJ).trans bh;have bM:mb<t.n:=by omega
 have bl:=(a9 (h.n+1) (by omega)).trans aR;have bN:∃d aS aa,bL=.slice d aS aa:=by
  rcases bj with⟨_,d,aa,i⟩|⟨k,i,_⟩
  ·exact⟨d,0,aa,i⟩
  exact⟨_,_,_,i⟩
 have bO:∃d aS aa,am=.slice d aS aa:=by
  rcases bg with⟨_,i⟩|⟨k,x,i,_⟩
  ·exact⟨_,_,_,i⟩
  exact⟨_,_,_,i⟩
 obtain⟨aq,ar,au,rfl⟩:=bN;obtain⟨av,aw,ax,rfl⟩:=bO;have b9:h.n+1<t.n:=by omega
 have bm:=(a9 h.n (by omega)).trans ((ap h.n (by simp only[go_sem])).trans ((An (h:=h.new _) _ (Ag (by simp only[go_sem];omega))).trans (Ae _)));have bP:h.n<t.n:=by omega
 simp only[go_sem,V,bk,aJ,bl];have ay:=KP code s.Ba;have y:s.own.Hc.length=s.Ba.length:=by simp[Ms.own]
 refine AG (fun(b:Nat) j o=>Wh o∧t.n≤o.n∧(∀d,d<t.n→d≠h.n+1→o.get d=t.get d)∧(∃az,o.get (h.n+1)=W (.cells [az,.slice av aw ax,I s.own.CA,.slice aq ar au,I s.own.status,I s.own.Jp,I s.own.time])∧((b=0∧az=.slice Z 0 0)∨∃k x,az=.slice (W ⟨k,0,Z⟩) b 3∧t.n≤k∧o.get k=W (.cells (Mi x ((BR code s.Ba).take b)))∧I7 (fun aT d=>QI (fun c=>c≠k∧t.n≤c) o aT d.Ac) x ((BR code s.Ba).take b)))∧
  b≤s.Ba.length∧j.at 0=AA mb∧j.at 2=AA h.n∧j.at 3=AA (h.n+1)∧j.at 37=.slice aL s.own.Hc.length aM∧j.at 38=I s.own.Hc.length∧j.at 39=I b) (fun b=>s.Ba.length-b) ?_ 0 ?_
 ·rintro b j o ⟨a2,cy,L,⟨az,a3,bn⟩,cz,ab,aA,A,aB,a4,ac⟩ bo
  have a5:Ext h o:=fun d p=>(L d (by omega) (by omega)).trans ((a9 d (by omega)).trans (aQ d p));rw[y]at aB a4;cases a1:decide ((b:Int)<s.Ba.length)
  ·have ad:b=s.Ba.length:=by have:=Adh a1;omega
   subst ad;have z:=(L h.n bP (by omega)).trans bm;have a7:h.n<o.n:=by omega
   have a8:h.n+1<o.n:=by omega
   have ah:(h.n+1==h.n)=false:=Ag;have P:w.get h.n=W (.cells NZ):=(ap h.n (by simp only[go_sem])).trans ((An (h:=h.new _) _ (Ag (by simp only[go_sem];omega))).trans (Ae _));have F:∀(n:AH),(∀a,a<h.n+1∨h.n+1<a→a≠h.n→n.get a=o.get a)→Wy n (.slice av aw ax) s.heap.lists∧L6 n (.slice aq ar au) s.out:=by
    intro n N;refine⟨bg.Ak fun a ae e K=>?_,bj.Ak fun a ae e K=>?_⟩
    ·have f:=aP _ _ e
     have r:a≠h.n:=fun j=>by rw[j,P]at e;injection e with e;exact K e.symm
     have u:a≠h.n+1:=fun j=>by rw[j,aR]at e;injection e with e;exact K e.symm
     exact(N a (by omega) r).trans ((L a (by omega) u).trans (a9 a f))
    have f:=bi _ _ e;have r:a≠h.n:=fun j=>by rw[j,bm]at e;injection e with e;exact K e.symm
    have u:a≠h.n+1:=fun j=>by rw[j,bl]at e;injection e with e;exact K e.symm
    exact(N a (by omega) r).trans (L a f u)
   rcases bn with⟨af,rfl⟩|⟨k,x,rfl,bQ,ag,a6⟩
   ·simp only[go_sem,V,aA,A,a4,ac,a1,z,a3]
    obtain⟨f,r⟩:=F (o.put h.n (.cells [.slice Z 0 0,.slice av aw ax,I s.own.CA,.slice aq ar au,I s.own.status,I s.own.Jp,I s.own.time])) fun a _ t=>Ab _ (Ag t);exact⟨_,_,_,J,.inl ⟨h_ (by rw[ay];exact af),J⟩,f,r,fun d p=>(Ab _ Ag).trans (a5 d p)⟩
   simp only[go_sem,V,aA,A,a4,ac,a1,z,a3];obtain⟨f,r⟩:=F (o.put h.n (.cells [.slice (W ⟨k,0,Z⟩) s.Ba.length 3,.slice av aw ax,I s.own.CA,.slice aq ar au,I s.own.status,I s.own.Jp,I s.own.time])) fun a _ t=>Ab _ (Ag t);rw[←ay,K_]at ag a6;refine⟨_,_,_,J,.inr ⟨k,x,by rw[ay],(Ab _ Ag).trans ag,a6.imp fun aI i aU=>aU.imp fun a ae e u=>⟨Ab _ Ag,u.1⟩⟩,f,r,fun d p=>(Ab _ Ag).trans (a5 d p)⟩
  have ad:b<s.Ba.length:=by have:=Acw a1;omega
  have N:=(L mb bM (by omega)).trans bk;have bp:mb<o.n:=by omega
  rcases ba with⟨j,_,_⟩|⟨bq,bR,ah,aV,br⟩
  ·rw[j]at y;simp at y;omega
  injection ah with ah _ bS
  subst ah bS;have bT:=q.w _ _ br;obtain⟨⟨F,f⟩,u⟩:∃i,s.Ba.reverse[b]? =W i:=⟨_,b_ (by simpa using ad)⟩;have bs:(F,f)∈s.Ba:=by simpa using z_ u
  obtain⟨cA,bU,cB,bV,bW⟩:0≤f.mark∧f.mark.toNat<code.length∧0≤f.pc∧f.pc.toNat<code.length∧f.Ac.length≤100000:=bA _ bs;obtain⟨cC,cD,bt,bX⟩:=bF.mem bs;have bY:=q.w _ _ bt;have a7:=(a5 F bY).trans bt;have bu:F<o.n:=by omega
  have bZ:=(a5 bq bT).trans br;have cF:bq<o.n:=by omega
  have c0:nth? (s.own.Hc.map AA++bR) b=W (AA F):=by rw[Du,F_ (by rw[d_,y];exact ad),P_];unfold Ms.own;rw[show(s.Ba.map (·.1)).reverse=s.Ba.reverse.map (·.1)by rw[ar_],P_,u];rfl
  have c4:w_ .i64 ((s.Ba.length:Int)-1)=(s.Ba.length:Int)-1:=by rw[Ap]<;>omega
  rw[y]at N;simp only[go_sem,V,ab,aB,a4,ac,a1,N,bZ,c0,ad,a7,c4];have c5:∃aW:Int,∃aC:Nat,∃d:AY,cond ((b:Int)==(s.Ba.length:Int)-1) f.pc f.mark=aW∧aW=aC∧code[aC]? =W d∧(BR code s.Ba)[b]? =W ⟨f.fn,d.a,f.Ac⟩:=by
   cases aD:((b:Int)==(s.Ba.length:Int)-1)
   ·have p:=b_ bU
    refine⟨f.mark,f.mark.toNat,_,J,by omega,p,?_⟩;rw[Q1 code u,Akt (by simp at aD;omega)];simp only[spO,aAt,p]
   have p:=b_ bV;refine⟨f.pc,f.pc.toNat,_,J,by omega,p,?_⟩;rw[Q1 code u,Agd (by simp at aD;omega)];simp only[spO,aAt,p]
  obtain⟨aW,aC,d,P,c6,p,c7⟩:=c5;subst c6;have aE:=(o_.1 p).1;rcases b8.i.ext b8.w q.x with⟨i,_⟩|⟨a8,ah,aV⟩
  ·rw[i]at aE;cases aE
  have c8:=q.w _ _ aV;have bv:a8<o.n:=by omega
  have aF:=(a5 a8 c8).trans aV;rw[ah]at N;have aG:=Nb code aC d p;rcases bX with⟨cG,c9,_,bw⟩
  have ca:=q.w _ _ bw;have cb:=(a5 _ ca).trans bw;subst c9;cases aD:((b:Int)==(s.Ba.length:Int)-1)
  all_goals
   rw[aD]at P;simp only[Aa9,Acf]at P;simp only[go_sem,V,a7,P];refine AM a2 0x1303160310001500015000015000150 ?_;have bx:=PT (g:=List.range o.n) a2 (fun d p=>au_.1 p) (v:=.slice (W ⟨f.sb,0,Z⟩) f.Ac.length 3) (args:=f.Ac) (.inr ⟨f.sb,0,_,J,cb,C2 (Ck f.Ac)⟩) bW;have aH:(BR code s.Ba).take (b+1)=(BR code s.Ba).take b++[⟨f.fn,d.a,f.Ac⟩]:=by rw[H_,c7];rfl
   have bz:w_ .i64 ((b:Int)+1)=((b+1:Nat):Int):=by rw[Ap]<;>omega
   rcases bn with⟨af,rfl⟩|⟨k,x,rfl,bQ,ag,a6⟩
   ·simp only[go_sem,V,ab,A,N,a7,aF,aE,aG,a3,P]
    refine Aj (Ok.wf a2 bx) ?_;rintro aT n cc ⟨ai,aX,r⟩;have aj:=Aay aX;have aY:h.n+1<n.n:=by omega
    have aZ:=(r (h.n+1) (by omega)).trans a3;have b0:=(r a8 bv).trans aF;have b1:=(r mb bp).trans N;have b2:=(r F bu).trans a7;have cd:a8<n.n:=by omega
    have ce:mb<n.n:=by omega
    have l10:F<n.n:=by omega
    obtain⟨b3,b4,rfl⟩:=aj.slice;simp only[go_sem,V,A,ac,bz,aZ,aY,b0,b1,b2,P,aG];refine bo (b+1) _ _ ⟨Ar (Am (Am ai _) _) (by simp only[go_sem];omega) _,by simp only[go_sem];omega,fun a b5 ak=>?_,⟨.slice (W ⟨n.n+1,0,Z⟩) 1 3,by simp only[go_sem],.inr ⟨n.n+1,[.slice b3 f.Ac.length b4],by rw[af],by omega,?_,?_⟩⟩,by omega,by simp only[go_sem,ab],by simp only[go_sem,V,aA],by simp only[go_sem,V,A],by simp only[go_sem,V,aB,y],by simp only[go_sem,V,a4,y],by simp only[go_sem]⟩ (by omega)
    ·have z:a<n.n:=by omega
     simp only[go_sem,Ag ak,z];exact(r a (by omega)).trans (L a b5 ak)
    ·subst af
     rw[aH];have b6:(n.n+1==h.n+1)=false:=Ag;simp only[go_sem,b6];rfl
    subst af;rw[aH];refine⟨aj.imp fun a ae e u=>?_,trivial⟩;have z:=ai _ _ e;have al:a≠h.n+1:=by omega
    simp only[go_sem,Ag al,z];exact⟨by omega,by omega⟩
   simp only[go_sem,V,ab,A,N,a7,aF,aE,aG,a3,P];refine Aj (Ok.wf a2 bx) ?_;rintro aT n cc ⟨ai,aX,r⟩;have aj:=Aay aX;have aY:h.n+1<n.n:=by omega
   have aZ:=(r (h.n+1) (by omega)).trans a3;have b0:=(r a8 bv).trans aF;have b1:=(r mb bp).trans N;have b2:=(r F bu).trans a7;have cd:a8<n.n:=by omega
   have ce:mb<n.n:=by omega
   have l10:F<n.n:=by omega
   obtain⟨b3,b4,rfl⟩:=aj.slice;have cf:=a2 _ _ ag;have cg:=(r k cf).trans ag;have ch:k<n.n:=by omega
   have ci:(h.n+1==k)=false:=Ag;have cj:W_ b 999999=true:=Eg;have ck:sub? (Mi x ((BR code s.Ba).take b)) 0 (b*3)=W (Mi x ((BR code s.Ba).take b)):=C2 (by rw[UH a6,s_,ay,O_ (by omega)]);simp only[go_sem,V,A,ac,bz,aZ,aY,cg,ch,cj,ck,b0,b1,b2,P,aG,ci];refine bo (b+1) _ _ ⟨Ar (Am (Dm (Am ai _) _) _) (by simp only[go_sem];omega) _,by simp only[go_sem];omega,fun a b5 ak=>?_,⟨.slice (W ⟨n.n+1,0,Z⟩) (b+1) 3,by simp only[go_sem],.inr ⟨n.n+1,x++[.slice b3 f.Ac.length b4],J,by omega,?_,?_⟩⟩,by omega,by simp only[go_sem,ab],by simp only[go_sem,V,aA],by simp only[go_sem,V,A],by simp only[go_sem,V,aB,y],by simp only[go_sem,V,a4,y],by simp only[go_sem]⟩ (by omega)
   ·have z:a<n.n:=by omega
    have b7:a≠k:=by omega
    simp only[go_sem,Ag ak,Ag b7,z];exact(r a (by omega)).trans (L a b5 ak)
   ·rw[aH,UI a6]
    have b6:(n.n+1==h.n+1)=false:=Ag;simp only[go_sem,b6]
   rw[aH];refine I7.app ?_ (a6.imp fun aI i aU=>aU.imp fun a ae e u=>?_)
   ·refine QI.imp (l:=f.Ac) aj fun a ae e u=>?_
    have z:=ai _ _ e;have al:a≠h.n+1:=by omega
    have b7:a≠k:=by omega
    simp only[go_sem,Ag al,Ag b7,z];exact⟨by omega,by omega⟩
   have z:=a2 _ _ e;have b6:a<n.n:=by omega
   have al:a≠h.n+1:=by omega
   simp only[go_sem,Ag al,Ag u.1,b6];exact⟨r a z,by omega,u.2⟩
 refine⟨Ar bi b9 _,Y _,fun d p a=>Ab _ (Ag a),⟨_,Ai _ _,.inl ⟨J,J⟩⟩,c_ _,?_,?_,?_,?_,?_,?_⟩<;>simp only[go_sem,V]
 rfl
end
theorem Bk{e:Type}{b:Bool}{c d a:e}(f:cond b c d=a):c=a∨d=a:=by
 cases b
 ·simp_all
 simp_all
theorem MG(a:Ms)(c:Vl)(b:Int)(d:Nat)(e:Cf)(f:List (Nat×Cf)):(a.Fg c b d e f).out=a.out:=by unfold Ms.Fg;cases b !=0<;>rfl
theorem X8(a:Ms)(b:Int)(c:Nat)(d:Cf)(e:List (Nat×Cf)):(a.IX b c d e).out=a.out:=by unfold Ms.IX;cases b !=0<;>rfl
theorem VU(a:Ms)(c:Vl)(b:List (Nat×Cf)):(a.ends c b).out=a.out:=by unfold Ms.ends;cases b<;>rfl
section
variable{en zs xs:List Int}{code:List AY}
theorem Ai8{f:AY}{c d:Ms}{g:Cf}{e:List (Nat×Cf)}(h:exec en zs xs f c a g e=W d)(b:c.out.length≤24):d.out.length≤24:=by
 unfold exec at h;rcases Bk h with h|h
 ·cases h;exact b
 rcases Bk h with h|h
 ·rcases Bk h with h|h
  ·cases h;exact b
  cases h
 rcases Bk h with h|h
 ·obtain⟨_,_,_,h⟩:=A0 h
  obtain⟨_,_,_,h⟩:=A0 h;cases h;rw[MG];exact b
 rcases Bk h with h|h
 ·obtain⟨_,_,_,h⟩:=A0 h
  cases h;exact b
 rcases Bk h with h|h
 ·obtain⟨_,_,_,h⟩:=A0 h
  cases h;exact b
 rcases Bk h with h|h
 ·rcases Bk h with h|h
  ·obtain⟨_,_,_,h⟩:=A0 h
   cases h;exact b
  cases h
 rcases Bk h with h|h
 ·obtain⟨_,_,_,h⟩:=A0 h
  cases h;exact b
 rcases Bk h with h|h
 ·rcases Bk h with h|h
  ·obtain⟨_,_,_,h⟩:=A0 h
   cases h;rw[MG];exact b
  cases h
 rcases Bk h with h|h
 ·rcases Bk h with h|h
  ·obtain⟨_,_,_,h⟩:=A0 h
   obtain⟨_,_,_,h⟩:=A0 h;cases h;rw[X8];exact b
  cases h
 rcases Bk h with h|h
 ·obtain⟨_,_,_,h⟩:=A0 h
  cases h;rw[MG];exact b
 rcases Bk h with h|h
 ·cases h;exact b
 rcases Bk h with h|h
 ·obtain⟨_,_,_,h⟩:=A0 h
  cases h;exact b
 rcases Bk h with h|h
 ·obtain⟨_,_,_,h⟩:=A0 h
  cases h;exact b
 rcases Bk h with h|h
 ·unfold Wa at h
  rcases Bk h with h|h
  ·cases h
   cases decide (7≤e.length)<;>exact b
  cases h
 rcases Bk h with h|h
 ·obtain⟨_,_,_,h⟩:=A0 h
  cases h;rw[VU];exact b
 rcases Bk h with h|h
 ·cases h;rw[VU];exact b
 rcases Bk h with h|h
 ·cases h
  cases decide ((xs.length:Int)≤c.CA)<;>exact b
 rcases Bk h with h|h
 ·obtain⟨_,_,_,h⟩:=A0 h
  cases h;cases i:decide ((24:Int)≤c.out.length)with
  |true=>exact b
  |false=>
   have:=Adh i;show(c.out++_).length≤24;simp;omega
 simp_all
theorem Abt{a b:Ms}(h:Ky en zs xs code a=W b)(c:a.out.length≤24):b.out.length≤24:=by
 unfold Ky at h;split at h
 ·cases h
 rcases Bk h with h|h
 ·split at h
  ·cases h
  exact Ai8 h c
 cases h
theorem OE:∀(n:Nat) {a b:Ms},Hb en zs xs code n a=W b→a.out.length≤24→b.out.length≤24
 |0,_,_,h,_=>by cases h
 |n+1,a,b,h,c=>by
  unfold Hb at h;rcases Bk h with h|h
  ·split at h
   ·cases h
   split at h
   ·cases h
   rcases Bk h with h|h
   ·rcases Bk h with h|h
    ·simp_all
    cases h
   split at h
   ·cases h
   rename_i e d;exact OE n h (Abt d c)
  simp_all
theorem Abs{b c:Ms}(h:Jt en zs xs code a b=W c)(d:b.out.length≤24):c.out.length≤24:=by
 unfold Jt at h;rcases Bk h with h|h
 ·simp_all
 split at h
 ·cases h
 rcases Bk h with h|h
 ·split at h
  ·cases h
  rename_i e f;rcases Bk h with h|h
  ·cases h
   have:=OE a f d;cases e.status !=1<;>exact this
  cases h
 cases h
structure Wl(code:List AY)(s:Ms):Prop where
 o:s.out.length≤100000
 l:s.Ba.length≤1000
 m:∀q∈s.Ba,0≤q.2.mark∧q.2.mark.toNat<code.length∧0≤q.2.pc∧q.2.pc.toNat<code.length∧q.2.Ac.length≤100000
theorem Wl.ZD{a:Ms}(b:Wl code a.er):Wl code a:=
 ⟨b.o,by have:=b.l;unfold Ms.er at this;rw[d_]at this;exact this,fun c d=>by
  have:=b.m (QA c) (by show QA c∈a.Ba.map QA;exact List.mem_map_of_mem d);exact this⟩
theorem Good.wl(h:Cx a b code en zs){f:Ms}(i:Good a b code zs c f)(r:f.out.length≤24):Wl code f:=by
 refine⟨by omega,by have:=i.iv.n;omega,fun j e=>?_⟩;have p:∃k,Qe a b code zs k j.2:=by
  cases d:f.Ba with
  |nil=>rw[d]at e;cases e
  |cons l g=>
   obtain⟨o,q⟩:=l;rw[d]at e;obtain⟨m,n⟩:=i.iv.fr o q g d;rcases j_.1 e with rfl|e
   ·exact⟨0,m⟩
   exact⟨1,n j e⟩
 obtain⟨k,o,s,t,u,l,v,d⟩:=p;have m:=d.pc;have n:=d.mq;have w:=d.hc;have x:=d.p2;have y:=d.m2;have q:Bb zs o∈zs:=by
  unfold Bb;have g:o<zs.length:=by rw[h.zl];exact d.jl
  rw[t_,b_ g];exact J_ g
 have z:=h.zb _ q;have g:=d.sl;exact⟨by omega,by omega,by omega,by omega,by omega⟩
inductive To(en zs xs:List Int)(code:List AY)(t:Int):Ms→Ms→Prop
 |done {s:Ms}:Wl code s→s.time=t→To en zs xs code t s s
 |stuck {s s1:Ms} (n:Nat):Wl code s→s.time≠t→Jt en zs xs code n s=W s1→s1.time=s.time→Wl code s1→To en zs xs code t s s1
 |on {s s1 s2:Ms} (n:Nat):Wl code s→s.time<t→Jt en zs xs code n s=W s1→s1.time=s.time+1→To en zs xs code t s1 s2→To en zs xs code t s s2
theorem To.wl{a b:Ms}(c:To en zs xs code x a b):Wl code a:=by cases c<;>assumption
theorem To.wl2{b a:Ms}(c:To en zs xs code x b a):Wl code a:=by induction c<;>assumption
theorem Av0(f:Cx a b code en zs)(o:xs.length≤50000){t:Int}(y:t≤100000):∀(h:Nat) (c:Ms),Good a b code zs xs.length c→c.out.length≤24→0≤c.time→c.time≤t→t-c.time≤h→∃e,To en zs xs code t c e∧Good a b code zs xs.length e:=by
 intro h;induction h with
 |zero=>intro c d g l p q;exact⟨c,.done (d.wl f g) (by omega),d⟩
 |succ h r=>
  intro c d g l p q;by_cases s:c.time=t
  ·simp_all
  obtain⟨m,e,i,z,j,k⟩:=Abr f o d.iv d.at' l (by omega);have n:=Abs i g;by_cases u:e.time=c.time
  ·exact⟨e,.stuck m (d.wl f g) s i u (Good.wl f ⟨j,k⟩ n),j,k⟩
  obtain⟨v,w,x⟩:=r e ⟨j,k⟩ n (by omega) (by omega) (by omega);exact⟨v,.on m (d.wl f g) (by omega) i (by omega) w,x⟩
end
section
variable{p:Pr}{h:AH}{e:Env}{ty:TypeId}
theorem QC(f:ao_)(a:V_)(b:String)(i:Array ao_)(d:List V_):Eu p f (.invoke a b) i d.toArray e h=KG p b (Fp e d) h (AZ e a):=nr J
theorem Ahc(a:ao_)(b:V_):Cs p ty (.makeInterface a b) e h=mfV p a h (AZ e b) (p.CY a):=by
 show Mx p a b e h=_;unfold Mx;cases p.CY a with
 |none=>rfl
 |some d=>cases d<;>rfl
theorem Ar1:pr.CY 187=W (.pointer 190):=by kernel_rfl
theorem Am5(a d:ao_)(b:k_):mfV p a h b (W (.pointer d))=W (.val (.iface a b) h):=nr J
theorem Aht:Hv pr 187 "furcate/trace.time" =W 448:=by kernel_rfl
theorem Ahu:Hv pr 187 "furcate/trace.step" =W 447:=by kernel_rfl
theorem Np{g:FuncId}{a:String}(f:Hv p u a=W g)(b:E)(d:k_):KG p a b h (.iface u d)=W (Nx.call g (d::b) h):=by show(match Hv p u a with|some g=>W (Nx.call g (d::b) h)|none=>Z)=_;rw[f]
theorem Yr(a:E)(b:k_):KG pr "furcate/trace.time" a h (.iface 187 b)=W (Nx.call 448 (b::a) h):=Np Aht a b
theorem Ys(a:E)(b:k_):KG pr "furcate/trace.step" a h (.iface 187 b)=W (Nx.call 447 (b::a) h):=Np Ahu a b
attribute [go_sem] QC Ahc Ar1 Am5 Yr Ys
end
section
variable{mb xb:Nat}{c:Pc}{j h0 h:AH}{g0 g:List Nat}{s F:Ms}{code:List AY}{en zs xs:List Int}{A:Value}{K N a3 a4 a5 a6:Value}
abbrev Ad0(K N a3 a4 a5 a6:k_)(mb:Nat)(A:k_):AO:=.cells [K,N,a3,a4,a5,a6,AA mb,A]
theorem Ss(b:Hr (D1 mb c) j h0 g0 h g s)(k:Cd j c code en zs)(a:Wl code s)(d:h.get xb=W (Ad0 K N a3 a4 a5 a6 mb A)):AR 448 [AA xb] h (fun f i=>f=I s.time∧Ext h i):=by have m:=b.w _ _ d;refine eF Tryz.func448 ?_;simp only[go_sem,d];refine Aa (UD b k a.o a.l a.m) ?_;rintro f i n ⟨o,q,r,rfl,_,_,_,l⟩;simp only[go_sem];exact l
theorem Ub.sl(a:Ub j A xs):∃b d,A=.slice b xs.length d:=by
 rcases a.r with⟨e,f,i,rfl⟩|⟨k,l,rfl,_⟩
 ·exact⟨f,i,by rw[e];rfl⟩
 exact⟨_,_,J⟩
theorem Ol(d:Hr (D1 mb c) j h0 g0 h g s)(m:Cd j c code en zs)(n:∀o∈code,o.ok)(f:Ub j A xs)(q:Jt en zs xs code a s.er=W F)(i:h.get xb=W (Ad0 K N a3 a4 a5 a6 mb A)):AR 447 [AA xb] h (fun k l=>∃b:Ms,b.er=F∧Dn mb c j h0 g0 h g b (.tuple #[]) k l):=by have w:=d.w _ _ i;obtain⟨x,y,rfl⟩:=f.sl;refine eF Tryz.func447 ?_;refine AM d.w 0x1310001000 ?_;simp only[go_sem,V,i];refine Aj (Afn m n f a d q) ?_;rintro k l z ⟨b,r,rfl,t,u,v⟩;simp only[go_sem];exact⟨b,r,J,t,u,v⟩
theorem Adm(l:Cd j c code en zs)(ae:∀ap∈code,ap.ok)(af:Ub j A xs)(m:a≤200)(n:To en zs xs code a s.er F)(P:Hr (D1 mb c) j h0 g0 h g s)(aq:h.get xb=W (Ad0 K N a3 a4 a5 a6 mb A))(ar:Gf h g xb):
  AR 87 [.iface 187 (AA xb),.slice Z 0 0,I a] h (fun d i=>∃b:Ms,b.er=F∧Dn mb c j h0 g0 h g b (I 0) d i):=by
 have au:(if(0:Int)>(a:Int)then(0:Int)else a)=a:=Jl;have av:(if(200:Int)<(a:Int)then(200:Int)else a)=a:=Jl;refine eF Tryz.func87 ?_;simp only[go_sem,V,au,av];have a0:decide ((0:Int)<((0:Nat):Int))=false:=by decide
 refine AG (fun(k:Ms×List Nat) e a1=>Hr (D1 mb c) j h g a1 k.2 k.1∧To en zs xs code a k.1.er F∧a1.get xb=W (Ad0 K N a3 a4 a5 a6 mb A)∧Gf a1 k.2 xb∧e.at 0=.iface 187 (AA xb)∧e.at 1=.slice Z 0 0∧e.at 2=I a∧e.at 7=I 0∧e.at 8=.bool false∧e.at 6=I 0) (fun k=>(a-k.1.time).toNat) ?_ (s,g) ?_
 ·rintro⟨s,ag⟩ e i ⟨o,n,a2,aw,q,t,a7,u,ah,ax⟩ ay
  have ai:=o.w _ _ a2;have az:=n.wl.ZD;simp only[go_sem];refine Cq ?_;simp only[go_sem];refine AM o.w 0x10030150000000100000 ?_;simp only[go_sem,V,q,t,u,ah,a0];refine Aa (Ok.wf o.w (Ss o l az a2)) ?_;rintro _ aj ak ⟨aA,rfl,al⟩;have v:=o.ext ak aA al;have r:=(al xb ai).trans a2;have aB:xb<aj.n:=q_ ai ak;have am:Gf aj ag xb:=⟨aB,aw.2⟩;cases m:s.time==(a:Int)
  ·have aC:s.time≠a:=by simpa using m
   simp only[go_sem,V,q,a7,m];cases n with
   |done _ h=>exact absurd h aC
   |stuck aD aE i a8 d ao=>
    refine Aa (Ol v l ae af a8 r) ?_;rintro _ aF a9 ⟨b,rfl,rfl,aa,f,ab⟩;obtain⟨w,x⟩:=am.Ak a9 ab;have d:b.time=s.time:=d;simp only[go_sem,q];refine Aa (Ok.wf f.w (Ss f l ao.ZD (x.trans r))) ?_;rintro _ an y ⟨ac,rfl,z⟩;have L:=f.ext y ac z;have ad:(b.time==s.time)=true:=by rw[d];simp
    simp only[go_sem,V,t,u,ad,a0];exact⟨b,J,J,aa,P.go L,L.k⟩
   |on aD aE i a8 d ao=>
    refine Aa (Ol v l ae af a8 r) ?_;rintro _ aF a9 ⟨b,rfl,rfl,aa,f,ab⟩;obtain⟨w,x⟩:=am.Ak a9 ab;have d:b.time=s.time+1:=d;have i:s.time<a:=i;simp only[go_sem,q];refine Aa (Ok.wf f.w (Ss f l ao.wl.ZD (x.trans r))) ?_;rintro _ an y ⟨ac,rfl,z⟩;have L:=f.ext y ac z;have ad:(b.time==s.time)=false:=by rw[d];exact beq_false_of_ne (by omega)
    have aG:xb<an.n:=q_ w.1 y;simp only[go_sem,V,ad];refine ay (b,aa) _ _ ⟨L,ao,(z xb w.1).trans (x.trans r),⟨aG,w.2⟩,?_,?_,?_,?_,?_,?_⟩ (by show(a-b.time).toNat<(a-s.time).toNat;omega)<;>simp only[go_sem,V,q,t,a7,u,ah,ax]
  have b:s.time=a:=by simpa using m
  simp only[go_sem,V,t,a7,u,m,a0];cases n with
  |done _ h=>exact⟨s,J,J,ag,P.go v,v.k⟩
  |stuck _ _ h=>exact absurd b h
  |on _ _ h=>have h:s.time<a:=h;omega
 refine⟨P.start,n,aq,ar,?_,?_,?_,?_,?_,?_⟩<;>simp only[go_sem,V]
end
section
variable{h:AH}{xs:List Int}{A:Value}
theorem Ub.ext{h j:AH}(a:Ub h A xs)(i:Wh h)(k:Ext h j):Ub j A xs:=by
 refine⟨?_,a.k,a.l⟩;rcases a.r with b|⟨d,b,e,f⟩
 ·exact .inl b
 exact .inr ⟨d,b,e,(k d (i _ _ f)).trans f⟩
theorem Q0(code:List AY)(s:Ms):BR code s.er.Ba=BR code s.Ba:=by
 unfold Ms.er;cases f:s.Ba with
 |nil=>rfl
 |cons p d=>
  obtain⟨i,a⟩:=p;show(((d.map QA).map fun b=>spO code b.2.mark b.2).reverse++[spO code a.pc a])=_;rw[List.map_map];rfl
theorem QI.Ak{i:Nat→Prop}{h k:AH}{b:List Vl}(o:∀d l,h.get d=W l→l≠.cells NZ→k.get d=h.get d)(f:QI i h v b):QI i k v b:=by
 rcases f with f|⟨m,q,e,n,r⟩
 ·exact .inl f
 cases b with
 |nil=>exact .inl ⟨J,_,_,e⟩
 |cons t b=>
  refine .inr ⟨m,q,e,(o m _ n fun a=>?_).trans n,r⟩;injection a with a
  injection a with a _
  cases a
theorem T9.Ak{h l:AH}{b:List Sp}(f:T9 h v b)(m:∀i n,h.get i=W n→n≠.cells NZ→l.get i=h.get i):T9 l v b:=by
 rcases f with f|⟨o,d,e,q,k⟩
 ·exact .inl f
 refine .inr ⟨o,d,e,(m o _ q fun a=>?_).trans q,k.imp fun r t u=>u.Ak m⟩;injection a with a
 cases b with
 |nil=>cases d with
  |nil=>cases a
  |cons _ _=>exact k
 |cons t b=>cases d with
  |nil=>exact k
  |cons r d=>injection a with a _;cases a
theorem XJ{a:List Fd}{k a9 aj L:Nat}{F aa:Ms}(P:Wh h)(ak:D6 a)(p:E3 h a v)(ab:Ub h A xs)(al:L≤200)(a0:Ih a=k)(am:k<(Bh a).2.length)(an:(Aw a).size[k]? =W (a9:Int))(ao:a9≤100000)(ac:∀ap∈(Bh a).1,ap.ok)
  (aq:Hb (Bh a).2 (Aw a).size [] (Bh a).1 aj (Je (Bh a).2 (Aw a).size k)=W F) (ar:To (Bh a).2 (Aw a).size xs (Bh a).1 L F aa):
  AR 48 [v,A,.slice Z 0 0,I L] h (fun b h1=>∃j mb c a1 l,b=.tuple #[AA mb,I 0]∧Cd j c (Bh a).1 (Bh a).2 (Aw a).size∧a1.er=aa∧Hr (D1 mb c) j h1 l h1 l a1∧Ext h h1):=by
 obtain⟨au,aT,aU,aV,aW,aX,rfl,av,aw,m⟩:=id p;obtain⟨b,i,d,ax⟩:∃b i d,au=.slice b i d:=by obtain⟨n,o,f,q,r⟩:=av;obtain⟨b,d,e⟩:=f.slice;exact⟨b,_,d,e⟩
 obtain⟨n,o,ay⟩:=aw.slice;obtain⟨q,r,az⟩:=m.t.sl;obtain⟨t,u,aA⟩:=m.sl.sl;obtain⟨w,x,aB⟩:=m.g.sl;obtain⟨y,z,aC⟩:=m.z.sl;obtain⟨ad,ae,aD⟩:=ab.sl;subst ax ay az aA aB aC aD;refine eF Tryz.func48 ?_;simp only[go_sem];have a2:=Ext.new h (.cells [.slice b i d,.slice n (AK a 0).length o,.slice q (Aw a).types.length r,.slice t (Aw a).Ac.length u,.slice w (Aw a).fns.length x,.slice y (Aw a).size.length z]);have a7:=P.new (.cells [.slice b i d,.slice n (AK a 0).length o,.slice q (Aw a).types.length r,.slice t (Aw a).Ac.length u,.slice w (Aw a).fns.length x,.slice y (Aw a).size.length z]);refine AM a7 0x101604802b038115 ?_;simp only[go_sem,V];refine Aj (Ok.wf a7 (Atm a7 ak (p.ext P a2) J J a0 am an ao ac aq)) ?_;rintro _ h1 aE ⟨aY,j,mb,c,a1,l,rfl,aF,aG,af,aH,K,ag⟩;have aI:h.n+1≤h1.n:=aE;have aJ:=(ag h.n (i_ _)).trans (Ae _);have aZ:h.n<h1.n:=aI;simp only[go_sem,V,aJ];have aK:=a2.trans (n_ _) aF;have aL:=K.new (Ad0 (.slice b i d) (.slice n (AK a 0).length o) (.slice q (Aw a).types.length r) (.slice t (Aw a).Ac.length u) (.slice w (Aw a).fns.length x) (.slice y (Aw a).size.length z) mb (.slice ad xs.length ae));have ah:=K.free (c:=h1.n) (h1:=h1.new (Ad0 (.slice b i d) (.slice n (AK a 0).length o) (.slice q (Aw a).types.length r) (.slice t (Aw a).Ac.length u) (.slice w (Aw a).fns.length x) (.slice y (Aw a).size.length z) mb (.slice ad xs.length ae))) (Y _) (i_ _);subst aH;refine Aa (Adm af ac (ab.ext P aK) al ar aL (Ae _) ah) ?_;rintro _ b0 aM ⟨aN,aO,rfl,aP,a5,ai⟩;obtain⟨aQ,a8⟩:=ah.Ak aM ai;have a8:=a8.trans (Ae _);have b1:=aQ.1;simp only[go_sem,V,a8];refine⟨j,mb,c,aN,aP,J,af,aO,a5.start,fun f aR=>?_⟩;have b2:h.n+1≤j.n:=aG;have aS:f∉l:=fun a0=>by have:=K.o f a0;omega
 exact(ai f (by show f<h1.n+1;omega) aS).1.trans ((An _ (AE (show f<h1.n by omega))).trans ((ag f (by show f<h.n+1;omega)).trans (a2 f aR)))
theorem MT.okS{h:AH}:∀{b:List (Nat×Cf)} {g:List Nat},MT b g h→∀p∈b,p.2.ok
 |[],_,_,p,a=>by cases a
 |q::b,_,⟨i,k,_,⟨_,_,_,_,_,_,_,_,_,d⟩,f⟩,p,a=>by
  rcases j_.1 a with rfl|a
  ·exact d
  exact f.okS p a
theorem Ah3{s:Hs}(d:s.ok):s.lists.length≤1000∧∀b∈s.lists,b.length≤1000∧∀a∈b,-9223372036854775808≤a∧a<9223372036854775808:=by have h:=d.sm;refine⟨by simp only[Hs.lists,d_,List.length_range];omega,fun b f=>?_⟩;obtain⟨k,_,rfl⟩:=Z_.1 f;refine⟨by simp only[Hs.seg,s_,aq_];omega,fun a i=>d.rg a (List.mem_of_mem_drop (am_ i))⟩
theorem Afx{code:List AY}{b:List (Nat×Cf)}(h:∀p∈b,p.2.ok):∀d∈BR code b,∀f∈d.Ac,f.ok:=by
 intro d a;cases b with
 |nil=>cases a
 |cons p b=>
  simp only[BR]at a;rcases e_.1 a with a|a
  ·rw[ag_]at a
   obtain⟨i,k,rfl⟩:=Z_.1 a;exact(h i (p_ _ k)).s
  rw[f_]at a;subst a;exact(h p (v_ ..)).s
theorem Aps{a:List Fd}{r d l a1:Nat}{F b:Ms}(a2:Wh h)(az:D6 a)(p:E3 h a v)(t:Ub h A xs)(aA:a1≤200)(aB:Ih a=r)(aC:r<(Bh a).2.length)(aD:(Aw a).size[r]? =W (d:Int))(aE:d≤100000)(aF:∀aG∈(Bh a).1,aG.ok)
  (a7:Hb (Bh a).2 (Aw a).size [] (Bh a).1 l (Je (Bh a).2 (Aw a).size r)=W F) (am:To (Bh a).2 (Aw a).size xs (Bh a).1 a1 F b):
  AR 16 [v,.agg #[S [],A,.slice Z 0 0,.slice Z 0 0],I a1] h (fun k i=>∃u w x,k=.agg #[u,w,I b.CA,x,I b.status,I b.Jp,I b.time]∧T9 i u (BR (Bh a).1 b.Ba)∧Wy i w b.heap.lists∧L6 i x b.out∧((∀t∈BR (Bh a).1 b.Ba,∀f∈t.Ac,f.ok)∧b.heap.ok)∧Ext h i):=by
 obtain⟨aH,b3,b4,b5,b6,b7,rfl,aI,aJ,y⟩:=id p;obtain⟨m,q,n,aK⟩:∃m q n,aH=.slice m q n:=by obtain⟨o,z,k,L,P⟩:=aI;obtain⟨m,n,e⟩:=k.slice;exact⟨m,_,n,e⟩
 obtain⟨a8,a9,aL⟩:=aJ.slice;obtain⟨aa,ab,aM⟩:=y.t.sl;obtain⟨ac,ad,aN⟩:=y.sl.sl;obtain⟨ae,af,aO⟩:=y.g.sl;obtain⟨ag,ah,aP⟩:=y.z.sl;obtain⟨z,L,aQ⟩:=t.sl;subst aK aL aM aN aO aP aQ;refine eF Tryz.func16 ?_;simp only[go_sem,V];have an:=((a2.new (.cells [.slice m q n,.slice a8 (AK a 0).length a9,.slice aa (Aw a).types.length ab,.slice ac (Aw a).Ac.length ad,.slice ae (Aw a).fns.length af,.slice ag (Aw a).size.length ah])).new (.cells [S [],.slice z xs.length L,.slice Z 0 0,.slice Z 0 0])).new (.cells [.slice Z 0 0,.slice Z 0 0,I 0,.slice Z 0 0,I 0,I 0,I 0]);refine AM an 0x10000006b04b058115015 ?_;simp only[go_sem,V];have aR:Ext h (((h.new (.cells [.slice m q n,.slice a8 (AK a 0).length a9,.slice aa (Aw a).types.length ab,.slice ac (Aw a).Ac.length ad,.slice ae (Aw a).fns.length af,.slice ag (Aw a).size.length ah])).new (.cells [S [],.slice z xs.length L,.slice Z 0 0,.slice Z 0 0])).new (.cells [.slice Z 0 0,.slice Z 0 0,I 0,.slice Z 0 0,I 0,I 0,I 0])):=fun f k=>by simp only[go_sem,k]
 refine Aj (Ok.wf an (all_nil (S []) (.slice z xs.length L) ⟨_,_,_,J⟩)) ?_;rintro _ i aS ⟨ao,rfl,P⟩;have b8:h.n+3≤i.n:=aS;have ai:=aR.trans (by simp only[go_sem];omega) P;have aT:=(P h.n (by simp only[go_sem])).trans (show _=W (AO.cells [.slice m q n,.slice a8 (AK a 0).length a9,.slice aa (Aw a).types.length ab,.slice ac (Aw a).Ac.length ad,.slice ae (Aw a).fns.length af,.slice ag (Aw a).size.length ah])by simp only[go_sem]);have aU:=(P (h.n+1) (by show h.n+1<h.n+3;omega)).trans (show _=W (AO.cells [S [],.slice z xs.length L,.slice Z 0 0,.slice Z 0 0])by simp only[go_sem,V]);have aV:=(P (h.n+2) (by show h.n+2<h.n+3;omega)).trans (show _=W (AO.cells [.slice Z 0 0,.slice Z 0 0,I 0,.slice Z 0 0,I 0,I 0,I 0])by simp only[go_sem]);have b9:h.n<i.n:=by omega
 have ba:h.n+1<i.n:=by omega
 simp only[go_sem,V,aT,aU];refine Aj (Ok.wf ao (XJ ao az (p.ext a2 ai) (t.ext a2 ai) aA aB aC aD aE aF a7 am)) ?_;rintro _ bb bc ⟨aW,j,mb,c,ap,bd,rfl,aX,aY,N,aq⟩;obtain⟨aZ,b0⟩:ap.heap.ok∧∀p∈ap.Ba,p.2.ok:=by obtain⟨aj,ak,al,_,_,_,a7,o⟩:=N.r;obtain⟨_,_,_,_,_,_,_,_,_,a0⟩:=a7;exact⟨a0,o.okS⟩
 simp only[go_sem,V];subst aY;have aj:=am.wl2.ZD;refine Aa (Ok.wf aW (UD N aX aj.o aj.l aj.m)) ?_;rintro _ a0 be ⟨bf,u,w,x,rfl,ar,au,av,aw⟩;have b1:=(ai.trans (by omega) aq).trans (by omega) aw;have ax:=(aw (h.n+2) (by omega)).trans ((aq (h.n+2) (by omega)).trans aV);have bg:h.n+2<a0.n:=by omega
 obtain⟨bh,bi,bj,rfl⟩:∃o l d,u=.slice o l d:=by
  rcases ar with⟨_,e⟩|⟨ak,al,e,_⟩
  ·exact⟨_,_,_,e⟩
  exact⟨_,_,_,e⟩
 obtain⟨bk,bl,bm,rfl⟩:∃o l d,w=.slice o l d:=by
  rcases au with⟨_,e⟩|⟨ak,al,e,_⟩
  ·exact⟨_,_,_,e⟩
  exact⟨_,_,_,e⟩
 obtain⟨bn,bo,bp,rfl⟩:∃o l d,x=.slice o l d:=by
  rcases av with⟨_,o,d,e⟩|⟨ak,e,_⟩
  ·exact⟨_,_,_,e⟩
  exact⟨_,_,_,e⟩
 simp only[go_sem,V,ax];have ak:∀(ay:AO) f al,a0.get f=W al→al≠.cells NZ→(a0.put (h.n+2) ay).get f=a0.get f:=fun ay f al k b2=>Ab _ (Ag fun e=>by
  rw[e,ax]at k;injection k with k
  exact b2 k.symm)
 exact⟨_,_,_,J,by rw[Q0];exact ar.Ak (ak _),au.Ak (ak _),av.Ak (ak _),⟨by rw[Q0];exact Afx b0,aZ⟩,fun f k=>(Ab _ Ag).trans (b1 f k)⟩
end
def Ea{a b:Type}(c:a→Option b):List a→Option b
 |[]=>Z
 |x::d=>match c x with
  |some e=>W e
  |none=>Ea c d
section
variable(A:Ay)(node:Int)
def Sm.He:Sm→Nat→List Vr→List Vr
 |.lt d b,c,a=>a++[⟨d,Bb A.types (c+b.sz-1),Bb A.Ac (c+b.sz)⟩]
 |_,_,a=>a
mutual
def Sm.CU:Sm→Nat→List Vr→Option (List Vr)
 |.Kv a b,c,d|.KD a b,c,d=>b.CU (c+a.sz) d
 |.FP a b e,c,d=>match b.CU (c+a.sz) d with
  |some f=>W f
  |none=>e.CU (c+a.sz+(b.sz+1)) d
 |_,_,_=>Z
def Bl.CU:Bl→Nat→List Vr→Option (List Vr)
 |.nil,_,_=>Z
 |.cons a d,b,c=>bif top b a.sz==node then W c else match a.CU b c with
  |some e=>W e
  |none=>d.CU (b+a.sz) (a.He A b c)
end
end
structure Ve(B:Nat)(hB:AH)(rb vb pb nb fb:Nat)(nv fv:k_)(fa ta sa ga za:Option Addr)(fn tn sn gn zn fk tk sk gk zk:Nat)(node:Int):Prop where
 p:hB.get pb=W (.cells [nv,fv,.slice ta tn tk,.slice sa sn sk,.slice ga gn gk,.slice za zn zk])
 n:hB.get nb=W (.cells [I node])
 f:hB.get fb=W (.cells [.func (.func 163) #[] #[AA vb,AA pb,AA nb,AA fb]])
 pl:pb<B
 nl:nb<B
 fl:fb<B
 vl:vb<B
 pv:pb≠vb
 nvb:nb≠vb
 fvb:fb≠vb
 pr:pb≠rb
 nr:nb≠rb
 fr:fb≠rb
 rv:rb≠vb
structure Vi(B:Nat)(hB:AH)(rb vb:Nat)(h:AH)(vs:List Vr):Prop where
 w:Wh h
 n:B≤h.n
 k:∀x,x<B→x≠vb→x≠rb→h.get x=hB.get x
 v:(vs=[]∧h.get vb=W (.cells [.slice Z 0 0]))∨∃b r,h.get vb=W (.cells [.slice (W ⟨b,0,Z⟩) vs.length 3])∧(B≤b∨b=rb)∧h.get b=W (.cells (Bt vs++r))
theorem Vi.ext{B rb vb:Nat}{hB c h1:AH}{e:List Vr}(a:Vi B hB rb vb c e)(p:vb<B)(i:c.n≤h1.n)(j:Wh h1)(b:Ext c h1):Vi B hB rb vb h1 e:=by
 have q:=a.n;refine⟨j,x_ a.n i,fun f h1 k l=>(b f (by omega)).trans (a.k f h1 k l),?_⟩;rcases a.v with⟨m,d⟩|⟨g,n,d,o,h⟩
 ·exact .inl ⟨m,(b vb (by omega)).trans d⟩
 exact .inr ⟨g,n,(b vb (by omega)).trans d,o,(b g (a.w _ _ h)).trans h⟩
def Fnd(B:Nat)(hB:AH)(rb vb:Nat)(c:List Vr)(d:Option (List Vr))(a:k_)(b:AH):Prop:=match d with
 |some e=>a=.bool true∧Vi B hB rb vb b e
 |none=>a=.bool false∧Vi B hB rb vb b c
section
variable{B:Nat}{hB:AH}{rb vb pb nb fb:Nat}{nv fv:Value}{fa ta sa ga za:Option Addr}{fn tn sn gn zn fk tk sk gk zk:Nat}{node:Int}
theorem Adj{j:List Vr}{g:Int→Option (List Vr)}{c all:List Int}(a6:vb<B)(y:all.drop b=c)(v:a<B)(z:a≠vb)(F:a≠rb)(K:hB.get a=W (.cells (all.map fun h=>I h)))(a7:c.length≤100)(L:∀h∈c,∀e,Vi B hB rb vb e j→AR 163 [I h,AA vb,AA pb,AA nb,AA fb] e (Fnd B hB rb vb j (g h)))(N:Vi B hB rb vb f j):
  AR 248 [.slice (W ⟨a,b,Z⟩) c.length 1,.func (.func 163) #[] #[AA vb,AA pb,AA nb,AA fb]] f (fun q d=>match Ea g c with
   |some r=>(∃i:Nat,q=I i)∧Vi B hB rb vb d r
   |none=>q=I (-1)∧Vi B hB rb vb d j):=by
 refine eF Tryz.func248 ?_;simp only[go_sem];refine AG (fun(d:Nat) k e=>Vi B hB rb vb e j∧Ea g c=Ea g (c.drop d)∧d≤c.length∧k.at 0=.slice (W ⟨a,b,Z⟩) c.length 1∧k.at 1=.func (.func 163) #[] #[AA vb,AA pb,AA nb,AA fb]∧k.at 7=I c.length∧k.at 8=I d) (fun d=>c.length-d) ?_ 0 ?_
 ·rintro d k e ⟨l,m,a8,w,x,s,t⟩ P
  cases n:decide ((d:Int)<c.length)
  ·have i:d=c.length:=by have:=Adh n;omega
   subst i;rw[m,List.drop_length];simp only[go_sem,s,t,n];exact l
  have i:d<c.length:=by have:=Acw n;omega
  have a0:=b_ i;have a1:=(l.k a v z F).trans K;have a9:a<e.n:=q_ v l.n;have a2:nth? (all.map fun h=>I h) (b+d)=W (I c[d]):=DU (by rw[←a0,←y,ap_]);have a3:w_ .i64 ((d:Int)+1)=((d+1:Nat):Int):=by rw[Ap]<;>omega
  have a4:c.drop d=c[d]::c.drop (d+1):=R_ i;rw[a4]at m;simp only[go_sem,V,ac_,w,x,s,t,n,a1,a2,i];refine Aa (L _ (J_ i) e l) ?_;rintro q aa ab o;cases p:g c[d]with
  |some r=>
   rw[p]at o;obtain⟨rfl,u⟩:=o;have a5:Ea g c=W r:=by rw[m];unfold Ea;rw[p]
   rw[a5];simp only[go_sem,V];exact⟨⟨d,J⟩,u⟩
  |none=>
   rw[p]at o;obtain⟨rfl,u⟩:=o;simp only[go_sem,V,t,a3];refine P (d+1) _ _ ⟨u,?_,by omega,?_,?_,?_,?_⟩ (by omega)
   ·rw[m];simp only[Ea,p]
   all_goals simp only[go_sem,V,w,x,s]
 refine⟨N,J,c_ _,?_,?_,?_,?_⟩<;>simp only[go_sem,V]
 rfl
theorem Se{a:List Vr}{res:Int→Option (List Vr)}{lb o:Nat}{l all:List Int}(h:vb<B)(i:all.drop o=l)(j:lb<B)(k:lb≠vb)(m:lb≠rb)(n:hB.get lb=W (.cells (all.map fun b=>I b)))(p:l.length≤100)(q:∀b∈l,∀e,Vi B hB rb vb e a→AR 163 [I b,AA vb,AA pb,AA nb,AA fb] e (Fnd B hB rb vb a (res b)))(r:Vi B hB rb vb f a):
  AR 164 [.slice (W ⟨lb,o,Z⟩) l.length 1,.func (.func 163) #[] #[AA vb,AA pb,AA nb,AA fb]] f (Fnd B hB rb vb a (Ea res l)):=by
 refine eF Tryz.func164 ?_;simp only[go_sem,V];refine Aa (Adj h i j k m n p q r) ?_;rintro t u v c;cases g:Ea res l with
 |some w=>
  rw[g]at c;obtain⟨⟨s,rfl⟩,d⟩:=c;have:decide ((0:Int)≤s)=true:=Gu;simp only[go_sem,this];exact⟨J,d⟩
 |none=>
  rw[g]at c;obtain⟨rfl,d⟩:=c;simp only[go_sem];exact⟨J,d⟩
theorem Bl.Y5:∀(b:Bl) (a:Nat),(b.AB a).length≤b.sz
 |.nil,_=>Y _
 |.cons c d,a=>by
  have:=d.Y5 (a+c.sz);have:=c.Ey;simp only[Bl.AB,Bl.sz,a_];omega
theorem Sm.Azd(A:Ay)(node:Int)(c:Sm)(d:Nat):∃e j g,(∃k,c.fl d=k++[nd e 0 j g]∧k.length+1=c.sz)∧
  ((∃f,c=.lt j f∧e=10∧g=[top d f.sz])∨((e==10)=false∧(e==15)=false∧(e==16)=false∧(∀i,c.CU A node d i=Z)∧∀i,c.He A d i=i)∨
   (∃a b,(c=.Kv a b∧e=16∨c=.KD a b∧e=15)∧g=[top d a.sz,top (d+a.sz) (b.sz+1)])∨∃a b h,c=.FP a b h∧e=15∧g=[top d a.sz,top (d+a.sz) (b.sz+1),top (d+a.sz+(b.sz+1)) (h.sz+1)]):=by
 cases c with
 |lt i f=>exact⟨10,i,_,⟨_,J,by rw[f.Af];rfl⟩,.inl ⟨f,J,J,J⟩⟩
 |set i f=>exact⟨11,i,_,⟨_,J,by rw[f.Af];rfl⟩,.inr (.inl ⟨J,J,J,fun _=>by simp[Sm.CU],fun _=>by simp[Sm.He]⟩)⟩
 |put i f b=>exact⟨12,i,_,⟨_,J,by rw[M,f.Af,b.Af];rfl⟩,.inr (.inl ⟨J,J,J,fun _=>by simp[Sm.CU],fun _=>by simp[Sm.He]⟩)⟩
 |run f g=>exact⟨13,[],_,⟨_,J,by rw[M,DX];rfl⟩,.inr (.inl ⟨J,J,J,fun _=>by simp[Sm.CU],fun _=>by simp[Sm.He]⟩)⟩
 |print a=>exact⟨14,[],_,⟨_,J,by rw[a.Af];rfl⟩,.inr (.inl ⟨J,J,J,fun _=>by simp[Sm.CU],fun _=>by simp[Sm.He]⟩)⟩
 |Fa=>exact⟨17,[],_,⟨[],J,J⟩,.inr (.inl ⟨J,J,J,fun _=>by simp[Sm.CU],fun _=>by simp[Sm.He]⟩)⟩
 |ret a=>exact⟨17,[],_,⟨_,J,by rw[a.Af];rfl⟩,.inr (.inl ⟨J,J,J,fun _=>by simp[Sm.CU],fun _=>by simp[Sm.He]⟩)⟩
 |Kv a b=>exact⟨16,[],_,⟨_,J,by simp[a.Af,b.Af,Sm.sz]⟩,.inr (.inr (.inl ⟨a,b,.inl ⟨J,J⟩,J⟩))⟩
 |KD a b=>exact⟨15,[],_,⟨_,J,by simp[a.Af,b.Af,Sm.sz]⟩,.inr (.inr (.inl ⟨a,b,.inr ⟨J,J⟩,J⟩))⟩
 |FP a b h=>exact⟨15,[],_,⟨_,J,by simp[a.Af,b.Af,h.Af,Sm.sz];omega⟩,.inr (.inr (.inr ⟨a,b,h,J,J,J⟩))⟩
theorem Amr(e:sub? l a b=W m)(f:c<b)(d:m[c]? =W v):nth? l (a+c)=W v:=by obtain⟨h,g⟩:=IE _ _ _ _ e;subst g;rw[Du];rw[List.getElem?_take,Agd f,ap_]at d;exact d
theorem Vi.sl{b:List Vr}(c:Vi B hB rb vb f b):∃d e,f.get vb=W (.cells [.slice d b.length e]):=by
 rcases c.v with⟨g,a⟩|⟨h,i,a,_⟩
 ·exact⟨Z,0,by rw[a,g];rfl⟩
 exact⟨_,_,a⟩
theorem DH.nth(h:DH f v q)(j:Wh f)(b:Ext f g)(k:f.n≤g.n){i:Nat}(d:i<q.length):∃a,v=.slice (W ⟨a,0,Z⟩) q.length 1∧g.get a=W (.cells (q.map fun b=>I b))∧a<g.n∧nth? (q.map fun b=>I b) i=W (I (Bb q i))∧a<f.n:=by
 rcases h with⟨rfl,_⟩|⟨a,rfl,e⟩
 ·cases d
 have c:=j _ _ e;refine⟨a,J,(b a c).trans e,q_ c k,DU ?_,c⟩;unfold Bb;rw[t_,b_ d];rfl
theorem MW(a:List Vr)(c:E):sub? (Bt a++c) 0 (a.length*3)=W (Bt a):=by have b:(Bt a).length=a.length*3:=FU a;rw[E7 (by rw[M,b];omega),List.drop_zero,←b,List.take_left]
set_option maxRecDepth 20000 in
theorem Sk(A:Ay){N:List Nd}{h0:AH}(r:Ve B hB rb vb pb nb fb nv fv fa ta sa ga za fn tn sn gn zn fk tk sk gk zk node)(a2:Wh h0)(ar:Ext h0 hB)(ag:h0.n≤B)(aR:h0.n≤vb)(aS:h0.n≤rb)(aA:Fx h0 nv N)(aJ:DH h0 (.slice ta tn tk) A.types)(aK:DH h0 (.slice sa sn sk) A.Ac)(aT:A.types.length=N.length)(aU:A.Ac.length=N.length)(aV:N.length≤300):
  ∀(m:Nat) (f:Bl) (j:Nat) (s:List Vr) (h:AH),f.sz<m→A2 N j (f.fl j++[nd 18 0 [] (f.AB j)])→s.length+f.sz≤1000→Vi B hB rb vb h s→AR 163 [I (top j (f.sz+1)),AA vb,AA pb,AA nb,AA fb] h (Fnd B hB rb vb s (f.CU A node j s))
 |0,_,_,_,_,b4,_,_,_=>absurd b4 (Y_ _)
 |m+1,f,j,s,h,b4,b5,bw,au=>by
  have aW:=r.vl;have c7:=r.rv;have bx:N[j+f.sz]? =W (nd 18 0 [] (f.AB j)):=b5.last (f.Af j);have ext:∀{v:AH} {c:List Vr},Vi B hB rb vb v c→Ext h0 v:=fun t u a8=>(t.k u (by omega) (by omega) (by omega)).trans (ar u a8);obtain⟨c8,c9,K⟩:=au.sl;have ca:=au.w _ _ K;have b6:=au.n;have b7:=(au.k pb r.pl r.pv r.pr).trans r.p;have cb:pb<h.n:=q_ r.pl b6;obtain⟨cc,bz,cd,aX,aY,b8,bA,ce,bB,bC,bD⟩:=aA.node a2 (ext au) (x_ ag b6) bx;rw[b8]at b7;have bE:top j (f.sz+1)=((j+f.sz:Nat):Int):=J;have bF:nth? (Bf bz) ((j+f.sz)*5+4)=W (.slice aX (f.AB j).length aY):=Amr bC (by decide) J;rw[bE];refine eF Tryz.func163 ?_;simp only[go_sem,V,K,b7,bA,bB,bF];refine AG (fun(x:Bl×Nat×List Vr×Nat) e v=>Vi B hB rb vb v x.2.2.1∧x.2.2.1.take s.length=s∧s.length≤x.2.2.1.length∧x.2.2.1.length+x.1.sz≤1000∧x.1.sz≤f.sz∧A2 N x.2.1 (x.1.fl x.2.1)∧(f.AB j).drop x.2.2.2=x.1.AB x.2.1∧x.2.2.2≤(f.AB j).length∧f.CU A node j s=x.1.CU A node x.2.1 x.2.2.1∧
   e.at 1=AA vb∧e.at 2=AA pb∧e.at 3=AA nb∧e.at 4=AA fb∧e.at 7=I s.length∧e.at 19=.slice aX (f.AB j).length aY∧e.at 20=I (f.AB j).length∧e.at 21=I x.2.2.2∧e.at 6=.bool false) (fun x=>(f.AB j).length-x.2.2.2) ?_ (f,j,s,0) ?_
  ·rintro⟨g,a,c,i⟩ e v ⟨t,ad,a3,a4,a5,ah,ai,b9,a6,a9,aa,aj,ak,al,am,ab,a1,aB⟩ aC
   have t:Vi B hB rb vb v c:=t;have ad:c.take s.length=s:=ad;have a3:s.length≤c.length:=a3;have a4:c.length+g.sz≤1000:=a4;have a5:g.sz≤f.sz:=a5;have ah:A2 N a (g.fl a):=ah;have ai:(f.AB j).drop i=g.AB a:=ai;have b9:i≤(f.AB j).length:=b9;have a6:f.CU A node j s=g.CU A node a c:=a6;have a1:e.at 21=I i:=a1;obtain⟨cf,cg,z⟩:=t.sl;have aL:=t.w _ _ z;have c1:=t.n;have av:=(t.k pb r.pl r.pv r.pr).trans r.p;have ba:pb<v.n:=q_ r.pl c1;cases g with
   |nil=>
    have L:i=(f.AB j).length:=by
     rcases Q_ i (f.AB j).length with h|h
     ·rw[R_ h]at ai;cases ai
     omega
    have aD:decide ((i:Int)<(f.AB j).length)=false:=Gv;rw[a6];rcases t.v with⟨aM,ac⟩|⟨aw,aN,ac,bb,aO⟩
    ·subst aM
     have k:s=[]:=h_ (Nat.le_zero.1 a3);subst k;rw[ac]at z;injection z with z
     injection z with z
     injection z with z _
     injection z with an ao ap
     subst an ap;simp only[go_sem,V,a9,al,ab,a1,aD,ac,l_];exact⟨J,Ar t.w aL _,c1,fun u b P d=>(Ab _ (Ag P)).trans (t.k u b P d),.inl ⟨J,Ai _ _⟩⟩
    rw[ac]at z;injection z with z
    injection z with z
    injection z with z _
    injection z with an ao ap
    subst an ap;have ax:=Es (sz:=3) (c_ s.length) a3 (Y c.length) aw 0;rw[ah_,Nat.sub_zero,Nat.add_zero]at ax;simp only[go_sem,V,a9,al,ab,a1,aD,ac,ax];refine⟨J,Ar t.w aL _,c1,fun u b P d=>(Ab _ (Ag P)).trans (t.k u b P d),.inr ⟨aw,Bt (c.drop s.length)++aN,Ai _ _,bb,(Ab _ Ag).trans ?_⟩⟩;rw[aO,←g_,←D3];congr 3;rw[←ad,s_,O_ a3,List.take_append_drop]
   |cons k g=>
    have L:i<(f.AB j).length:=by
     rcases Q_ i (f.AB j).length with h|h
     ·exact h
     rw[List.drop_eq_nil_of_le h]at ai;cases ai
    have bc:=R_ L;rw[ai]at bc;injection bc with a8 aE
    have aD:decide ((i:Int)<(f.AB j).length)=true:=Gu;obtain⟨y,rfl,rfl,ch,bd⟩:∃y,aX=W ⟨y,0,Z⟩∧aY=1∧h.get y=W (.cells ((f.AB j).map fun u=>I u))∧h0.get y=W (.cells ((f.AB j).map fun u=>I u)):=by
     rcases bD with e|e
     ·have e:f.AB j=[]:=e
      rw[e]at L;simp at L
     exact e
    have bG:=a2 _ _ bd;have be:=(ext t y bG).trans bd;have ci:y<v.n:=by omega
    have aZ:nth? ((f.AB j).map fun u=>I u) i=W (I (top a k.sz)):=DU (by rw[b_ L,←a8]);obtain⟨aF,w,bf,⟨cj,bH,ck⟩,bI⟩:=k.Azd A node a;have cl:=k.Ey;have bg:N[a+k.sz-1]? =W (nd aF 0 w bf):=by have b:A2 N a (k.fl a):=(show A2 N a (k.fl a++g.fl (a+k.sz))from ah).left;rw[bH]at b;have:=b.last (n:=k.sz-1) (by omega);rw[show a+(k.sz-1)=a+k.sz-1 by omega]at this;exact this
    obtain⟨cm,cn,bJ,aP,aQ,bh,bi,co,bj,bk,b0⟩:=aA.node a2 (ext t) (x_ ag c1) bg;rw[b8]at bh av;cases bh;have bl:=(t.k nb r.nl r.nvb r.nr).trans r.n;have bm:nb<v.n:=q_ r.nl c1;have aG:w_ .i64 ((i:Int)+1)=((i+1:Nat):Int):=by have:=f.Y5 j;rw[Ap]<;>omega
    have aH:A2 N (a+k.sz) (g.fl (a+k.sz)):=by have:=(show A2 N a (k.fl a++g.fl (a+k.sz))from ah).right;rwa[k.Af]at this
    have ae:Vi B hB rb vb ((v.new (.cells [I 0,I 0,I 0,S [],.slice Z 0 0])).put v.n (.cells [I aF,I bJ,I 0,S w,.slice aP bf.length aQ])) c:=t.ext aW (n_ _) (Ar (Am t.w _) (i_ _) _) fun aq bK=>by simp only[go_sem,bK]
    cases a7:top a k.sz==node
    ·simp only[go_sem,V,aa,aj,am,ab,a1,aD,be,aZ,L,av,bi,bj,bk,bl,bm,a7]
     rcases bI with⟨q,rfl,rfl,rfl⟩|⟨bL,bM,bN,bO,bP⟩|⟨b,d,bQ,rfl⟩|⟨b,d,p,rfl,rfl,rfl⟩
     ·have cp:A2 N a ((Sm.lt w q).fl a):=(show A2 N a ((Sm.lt w q).fl a++g.fl (a+(Sm.lt w q).sz))from ah).left
      have cq:a+q.sz<N.length:=(o_.1 bg).1;have cr:=q.Ey;have b1:top a (Sm.lt w q).sz=((a+q.sz:Nat):Int):=J;have bn:top a q.sz=((a+q.sz-1:Nat):Int):=J;obtain⟨a0,rfl,rfl,aI,ay⟩:∃y,aP=W ⟨y,0,Z⟩∧aQ=1∧v.get y=W (.cells ([top a q.sz].map fun u=>I u))∧h0.get y=W (.cells ([top a q.sz].map fun u=>I u)):=by
       rcases b0 with e|e
       ·cases e
       exact e
      have az:=t.w _ _ aI;obtain⟨cs,bR,bo,bp,bq,_⟩:=aJ.nth a2 (ext t) (x_ ag c1) (i:=a+q.sz-1) (by omega);obtain⟨ct,bS,br,bs,bt,_⟩:=aK.nth a2 (ext t) (x_ ag c1) (i:=a+q.sz) (by omega);injection bR with bT bU bV
      injection bS with bW bX bY
      have bu:a+q.sz-1<A.types.length:=by omega
      have bv:a+q.sz<A.Ac.length:=by omega
      rw[bT,bU,bV,bW,bX,bY]at av;refine AM ae.w 0x133201001010101010101 ?_;have cu:∀cv:Bl,(Sm.lt w q).He A a c=c++[⟨w,Bb A.types (a+q.sz-1),Bb A.Ac (a+q.sz)⟩]:=fun _=>rfl;have af:f.CU A node j s=g.CU A node (a+(Sm.lt w q).sz) (c++[⟨w,Bb A.types (a+q.sz-1),Bb A.Ac (a+q.sz)⟩]):=by
       rw[a6];show(bif top a (Sm.lt w q).sz==node then W c else match(Sm.lt w q).CU A node a c with
        |some F=>W F
        |none=>g.CU A node (a+(Sm.lt w q).sz) ((Sm.lt w q).He A a c))=_
       rw[a7];rfl
      rw[b1]at aZ a7;rcases t.v with⟨aM,ac⟩|⟨aw,aN,ac,bb,aO⟩
      ·simp only[go_sem,V,a9,aa,a1,av,ba,aL,ac,b1,bn,aI,az,bo,bp,bq,br,bs,bt,bu,bv,aG,y_,an_,List.map_nil]
       refine aC (g,a+(Sm.lt w q).sz,c++[⟨w,Bb A.types (a+q.sz-1),Bb A.Ac (a+q.sz)⟩],i+1) _ _ ⟨⟨Ar (Am (Am (Ar (Am t.w _) (i_ _) _) _) _) (by simp only[go_sem];omega) _,by simp only[go_sem];omega,fun aq an ao ap=>?_,.inr ⟨v.n+2,[],?_,by omega,?_⟩⟩,?_,by simp;omega,by have:c.length+((Sm.lt w q).sz+g.sz)≤1000:=a4;show(c++[_]).length+g.sz≤1000;simp;omega,by have:(Sm.lt w q).sz+g.sz≤f.sz:=a5;show g.sz≤f.sz;omega,aH,aE.symm,L,af,?_,?_,?_,?_,?_,?_,?_,?_,?_⟩ (by show(f.AB j).length-(i+1)<(f.AB j).length-i;omega)
       ·have b2:aq<v.n:=by omega
        simp only[go_sem,Ag ao,b2];exact t.k aq an ao ap
       ·subst aM;exact Ai _ _
       ·subst aM
        have b3:(v.n+2==vb)=false:=Ag;simp only[go_sem,b3];rfl
       ·show(c++[_]).take s.length=s
        rw[ab_ a3];exact ad
       all_goals simp only[go_sem,V,a9,aa,aj,ak,al,am,ab,aB]
      have bZ:=t.w _ _ aO;have c0:sub? (Bt c++aN) 0 (c.length*3)=W (Bt c):=MW c aN;have c4:W_ c.length 999999=true:=Eg;have c5:(vb==aw)=false:=Ag;simp only[go_sem,V,a9,aa,a1,av,ba,aL,ac,b1,bn,aI,az,bo,bp,bq,br,bs,bt,bu,bv,aG,y_,an_,List.map_nil,aO,bZ,c0,c4,c5];refine aC (g,a+(Sm.lt w q).sz,c++[⟨w,Bb A.types (a+q.sz-1),Bb A.Ac (a+q.sz)⟩],i+1) _ _ ⟨⟨Ar (Am (Dm (Am (Ar (Am t.w _) (i_ _) _) _) _) _) (by simp only[go_sem];omega) _,by simp only[go_sem];omega,fun aq an ao ap=>?_,.inr ⟨v.n+2,[],?_,by omega,?_⟩⟩,?_,by simp;omega,by have:c.length+((Sm.lt w q).sz+g.sz)≤1000:=a4;show(c++[_]).length+g.sz≤1000;simp;omega,by have:(Sm.lt w q).sz+g.sz≤f.sz:=a5;show g.sz≤f.sz;omega,aH,aE.symm,L,af,?_,?_,?_,?_,?_,?_,?_,?_,?_⟩ (by show(f.AB j).length-(i+1)<(f.AB j).length-i;omega)
      ·have b2:aq<v.n:=by omega
       have c6:aq≠aw:=by omega
       simp only[go_sem,Ag ao,Ag c6,b2];exact t.k aq an ao ap
      ·show _=W (AO.cells [.slice _ (c++[_]).length 3])
       rw[M];exact Ai _ _
      ·have b3:(v.n+2==vb)=false:=Ag
       have b2:(v.n+2==aw)=false:=Ag;show _=W (AO.cells (Bt (c++[_])++[]));rw[M_,D3];simp only[go_sem,b3];rfl
      ·show(c++[_]).take s.length=s
       rw[ab_ a3];exact ad
      all_goals simp only[go_sem,V,a9,aa,aj,ak,al,am,ab,aB]
     ·simp only[go_sem,bL]
      refine AM ae.w 0x10031010000100010 ?_;simp only[go_sem,V,a1,bM,bN,aG];have af:f.CU A node j s=g.CU A node (a+k.sz) c:=by
       rw[a6];show(bif top a k.sz==node then W c else match k.CU A node a c with
        |some F=>W F
        |none=>g.CU A node (a+k.sz) (k.He A a c))=_
       rw[a7,bO,bP];rfl
      refine aC (g,a+k.sz,c,i+1) _ _ ⟨ae,ad,a3,by have:c.length+(k.sz+g.sz)≤1000:=a4;show c.length+g.sz≤1000;omega,by have:k.sz+g.sz≤f.sz:=a5;show g.sz≤f.sz;omega,aH,aE.symm,L,af,?_,?_,?_,?_,?_,?_,?_,?_,?_⟩ (by show(f.AB j).length-(i+1)<(f.AB j).length-i;omega)<;>simp only[go_sem,V,a9,aa,aj,ak,al,am,ab,aB]
     ·obtain⟨a0,rfl,rfl,aI,ay⟩:∃y,aP=W ⟨y,0,Z⟩∧aQ=1∧v.get y=W (.cells ([top a b.sz,top (a+b.sz) (d.sz+1)].map fun u=>I u))∧h0.get y=W (.cells ([top a b.sz,top (a+b.sz) (d.sz+1)].map fun u=>I u)):=by
       rcases b0 with e|e
       ·cases e
       exact e
      have az:=a2 _ _ ay;have b2:k.fl a=b.fl a++(d.fl (a+b.sz)++[nd 18 0 [] (d.AB (a+b.sz))])++[nd aF 0 [] [top a b.sz,top (a+b.sz) (d.sz+1)]]∧k.sz=b.sz+(d.sz+1)+1∧(aF=15∨aF=16)∧k.CU A node a c=d.CU A node (a+b.sz) c∧k.He A a c=c:=by
       rcases bQ with⟨rfl,rfl⟩|⟨rfl,rfl⟩
       ·exact⟨J,J,.inr J,by simp[Sm.CU],by simp[Sm.He]⟩
       exact⟨J,J,.inl J,by simp[Sm.CU],by simp[Sm.He]⟩
      obtain⟨b3,bp,bb,ao,bn⟩:=b2;have aM:A2 N (a+b.sz) (d.fl (a+b.sz)++[nd 18 0 [] (d.AB (a+b.sz))]):=by have:=(show A2 N a (k.fl a++g.fl (a+k.sz))from ah).left;rw[b3,g_]at this;have:=this.right.left;rwa[b.Af]at this
      have aN:=Se (fb:=fb) (pb:=pb) (nb:=nb) (lb:=a0) (o:=1) (l:=[top (a+b.sz) (d.sz+1)]) (all:=[top a b.sz,top (a+b.sz) (d.sz+1)]) (res:=fun _=>d.CU A node (a+b.sz) c) aW J (by omega) (by omega) (by omega) ((ar a0 az).trans ay) (by simp) (fun u a8 P c2=>by
       rw[f_]at a8;subst a8;exact Sk A r a2 ar ag aR aS aA aJ aK aT aU aV m d (a+b.sz) c P (by have:k.sz+g.sz≤f.sz:=a5;omega) aM (by have:c.length+(k.sz+g.sz)≤1000:=a4;omega) c2) ae
      have aO:=(t.k fb r.fl r.fvb r.fr).trans r.f;have b1:fb<v.n:=q_ r.fl c1;have ax:JV (W ⟨a0,0,Z⟩) 2 1 (W 1) (W 1) (W 2) (W 2)=W (.slice (W ⟨a0,1,Z⟩) 1 1):=Es (by decide) (by decide) (by decide) a0 0;rcases bb with rfl|rfl
      all_goals
       simp only[go_sem,u_];refine AM ae.w 0x10031010000100010 ?_;simp only[go_sem,V,u_,ak,aO,b1,ax,a_,l_];refine Aj aN ?_;rintro F P bo K;cases ac:d.CU A node (a+b.sz) c with
       |some ap=>
        have an:Ea (fun _=>d.CU A node (a+b.sz) c) [top (a+b.sz) (d.sz+1)]=W ap:=by simp[Ea,ac]
        rw[an]at K;obtain⟨rfl,c2⟩:=K;have aw:f.CU A node j s=W ap:=by
         rw[a6];show(bif top a k.sz==node then W c else match k.CU A node a c with
          |some F=>W F
          |none=>g.CU A node (a+k.sz) (k.He A a c))=_
         rw[a7,ao,ac];rfl
        rw[aw];simp only[go_sem,V];exact⟨J,c2⟩
       |none=>
        have an:Ea (fun _=>d.CU A node (a+b.sz) c) [top (a+b.sz) (d.sz+1)]=Z:=by simp[Ea,ac]
        rw[an]at K;obtain⟨rfl,c2⟩:=K;have af:f.CU A node j s=g.CU A node (a+k.sz) c:=by
         rw[a6];show(bif top a k.sz==node then W c else match k.CU A node a c with
          |some F=>W F
          |none=>g.CU A node (a+k.sz) (k.He A a c))=_
         rw[a7,ao,ac,bn];rfl
        simp only[go_sem,V,a1,aG];refine aC (g,a+k.sz,c,i+1) _ _ ⟨c2,ad,a3,by have:c.length+(k.sz+g.sz)≤1000:=a4;show c.length+g.sz≤1000;omega,by have:k.sz+g.sz≤f.sz:=a5;show g.sz≤f.sz;omega,aH,aE.symm,L,af,?_,?_,?_,?_,?_,?_,?_,?_,?_⟩ (by show(f.AB j).length-(i+1)<(f.AB j).length-i;omega)<;>simp only[go_sem,V,a9,aa,aj,ak,al,am,ab,aB]
     obtain⟨a0,rfl,rfl,aI,ay⟩:∃y,aP=W ⟨y,0,Z⟩∧aQ=1∧v.get y=W (.cells ([top a b.sz,top (a+b.sz) (d.sz+1),top (a+b.sz+(d.sz+1)) (p.sz+1)].map fun u=>I u))∧h0.get y=W (.cells ([top a b.sz,top (a+b.sz) (d.sz+1),top (a+b.sz+(d.sz+1)) (p.sz+1)].map fun u=>I u)):=by
      rcases b0 with e|e
      ·cases e
      exact e
     have az:=a2 _ _ ay;have bp:(Sm.FP b d p).sz=b.sz+(d.sz+1)+(p.sz+1)+1:=J;have b2:=(show A2 N a ((Sm.FP b d p).fl a++g.fl (a+(Sm.FP b d p).sz))from ah).left;have aM:A2 N (a+b.sz) (d.fl (a+b.sz)++[nd 18 0 [] (d.AB (a+b.sz))]):=by have:A2 N a (b.fl a++(d.fl (a+b.sz)++[nd 18 0 [] (d.AB (a+b.sz))])++(p.fl (a+b.sz+(d.sz+1))++[nd 18 0 [] (p.AB (a+b.sz+(d.sz+1)))])++_):=b2;have:=this.left.left.right;rwa[b.Af]at this
     have bn:A2 N (a+b.sz+(d.sz+1)) (p.fl (a+b.sz+(d.sz+1))++[nd 18 0 [] (p.AB (a+b.sz+(d.sz+1)))]):=by have:A2 N a (b.fl a++(d.fl (a+b.sz)++[nd 18 0 [] (d.AB (a+b.sz))])++(p.fl (a+b.sz+(d.sz+1))++[nd 18 0 [] (p.AB (a+b.sz+(d.sz+1)))])++_):=b2;have:=this.left.right;simp only[M,b.Af,d.Af,y_,←I_]at this;simpa[I_]using this
     have b3:top (a+b.sz+(d.sz+1)) (p.sz+1)≠top (a+b.sz) (d.sz+1):=by show((a+b.sz+(d.sz+1)+p.sz:Nat):Int)≠((a+b.sz+d.sz:Nat):Int);omega
     let ao:Int→Option (List Vr):=fun u=>if u=top (a+b.sz) (d.sz+1)then d.CU A node (a+b.sz) c else p.CU A node (a+b.sz+(d.sz+1)) c
     have bb:Ea ao [top (a+b.sz) (d.sz+1),top (a+b.sz+(d.sz+1)) (p.sz+1)]=(Sm.FP b d p).CU A node a c:=by
      unfold Sm.CU;simp only[Ea,ao,if_true,Akt b3];cases d.CU A node (a+b.sz) c with
      |some F=>rfl
      |none=>cases p.CU A node (a+b.sz+(d.sz+1)) c<;>rfl
     have aN:=Se (fb:=fb) (pb:=pb) (nb:=nb) (lb:=a0) (o:=1) (l:=[top (a+b.sz) (d.sz+1),top (a+b.sz+(d.sz+1)) (p.sz+1)]) (all:=[top a b.sz,top (a+b.sz) (d.sz+1),top (a+b.sz+(d.sz+1)) (p.sz+1)]) (res:=ao) aW J (by omega) (by omega) (by omega) ((ar a0 az).trans ay) (by simp) (fun u a8 P c2=>by
      simp only[j_,E_,or_false]at a8;rcases a8 with rfl|rfl
      ·simp only[ao,if_true]
       exact Sk A r a2 ar ag aR aS aA aJ aK aT aU aV m d (a+b.sz) c P (by have:(Sm.FP b d p).sz+g.sz≤f.sz:=a5;omega) aM (by have:c.length+((Sm.FP b d p).sz+g.sz)≤1000:=a4;omega) c2
      simp only[ao,Akt b3];exact Sk A r a2 ar ag aR aS aA aJ aK aT aU aV m p (a+b.sz+(d.sz+1)) c P (by have:(Sm.FP b d p).sz+g.sz≤f.sz:=a5;omega) bn (by have:c.length+((Sm.FP b d p).sz+g.sz)≤1000:=a4;omega) c2) ae
     have aO:=(t.k fb r.fl r.fvb r.fr).trans r.f;have b1:fb<v.n:=q_ r.fl c1;have ax:JV (W ⟨a0,0,Z⟩) 3 1 (W 1) (W 1) (W 3) (W 3)=W (.slice (W ⟨a0,1,Z⟩) 2 1):=Es (by decide) (by decide) (by decide) a0 0;simp only[go_sem,u_];refine AM ae.w 0x10031010000100010 ?_;simp only[go_sem,V,ak,aO,b1,ax,a_,l_];refine Aj aN ?_;rintro F P bo K;cases ac:(Sm.FP b d p).CU A node a c with
     |some ap=>
      have an:Ea ao [top (a+b.sz) (d.sz+1),top (a+b.sz+(d.sz+1)) (p.sz+1)]=W ap:=bb.trans ac;rw[an]at K;obtain⟨rfl,c2⟩:=K;have aw:f.CU A node j s=W ap:=by
       rw[a6];show(bif top a (Sm.FP b d p).sz==node then W c else match(Sm.FP b d p).CU A node a c with
        |some F=>W F
        |none=>g.CU A node (a+(Sm.FP b d p).sz) ((Sm.FP b d p).He A a c))=_
       rw[a7,ac];rfl
      rw[aw];simp only[go_sem,V];exact⟨J,c2⟩
     |none=>
      have an:Ea ao [top (a+b.sz) (d.sz+1),top (a+b.sz+(d.sz+1)) (p.sz+1)]=Z:=bb.trans ac;rw[an]at K;obtain⟨rfl,c2⟩:=K;have af:f.CU A node j s=g.CU A node (a+(Sm.FP b d p).sz) c:=by
       rw[a6];show(bif top a (Sm.FP b d p).sz==node then W c else match(Sm.FP b d p).CU A node a c with
        |some F=>W F
        |none=>g.CU A node (a+(Sm.FP b d p).sz) ((Sm.FP b d p).He A a c))=_
       rw[a7,ac];rfl
      simp only[go_sem,V,a1,aG];refine aC (g,a+(Sm.FP b d p).sz,c,i+1) _ _ ⟨c2,ad,a3,by have:c.length+((Sm.FP b d p).sz+g.sz)≤1000:=a4;show c.length+g.sz≤1000;omega,by have:(Sm.FP b d p).sz+g.sz≤f.sz:=a5;show g.sz≤f.sz;omega,aH,aE.symm,L,af,?_,?_,?_,?_,?_,?_,?_,?_,?_⟩ (by show(f.AB j).length-(i+1)<(f.AB j).length-i;omega)<;>simp only[go_sem,V,a9,aa,aj,ak,al,am,ab,aB]
    have aw:f.CU A node j s=W c:=by rw[a6];show(bif top a k.sz==node then W c else _)=_;rw[a7];rfl
    rw[aw];simp only[go_sem,V,aa,aj,am,ab,a1,aD,be,aZ,L,av,bi,bj,bk,bl,bm,a7];exact⟨J,ae⟩
  refine⟨au,K_,Y _,bw,Y _,b5.left,J,c_ _,J,?_,?_,?_,?_,?_,?_,?_,?_,?_⟩<;>simp only[go_sem,V]
  rfl
end
def Cj:List Pm→Nat→List Vr
 |[],_=>[]
 |a::c,b=>⟨a.1,a.2,b⟩::Cj c (b+1)
def C9:List Fd→Nat→Nat
 |[],_=>0
 |_::_,0=>0
 |f::a,b+1=>f.body.sz+1+C9 a b
def KK(d:Ay)(a:List Fd)(b:Nat)(e:Int):List Vr:=match a[b]? with
 |some c=>(c.body.CU d e (C9 a b) (Cj c.params 0)).getD []
 |none=>[]
theorem M6:∀(a c:List Pm) (b:Nat),Cj (a++c) b=Cj a b++Cj c (b+a.length)
 |[],_,_=>rfl
 |d::a,c,b=>by simp only[m_,Cj,M6 a c,a_];rw[show b+1+a.length=b+(a.length+1)by omega]
theorem FZ:∀(a:List Pm) (b:Nat),(Cj a b).length=a.length
 |[],_=>rfl
 |c::a,b=>by simp only[Cj,a_,FZ a]
theorem Mh:∀(d:List Fd) (a b:Nat) (c:Fd),d[b]? =W c→(AK d a)[b]? =W ⟨c.name,0,c.params,c.ret,((a+C9 d b+c.body.sz:Nat):Int)⟩∧∀{i:List Nd},A2 i a (Az d a)→A2 i (a+C9 d b) (c.body.fl (a+C9 d b)++[nd 18 0 [] (c.body.AB (a+C9 d b))])
 |[],_,_,_,h=>by cases h
 |e::f,a,0,c,h=>by
  cases h;exact⟨J,fun g=>g.left⟩
 |e::f,a,b+1,c,h=>by
  obtain⟨j,k⟩:=Mh f (a+(e.body.sz+1)) b c (by simpa using h);have l:a+C9 (e::f) (b+1)=a+(e.body.sz+1)+C9 f b:=by simp only[C9];omega
  rw[l];refine⟨j,fun g=>k ?_⟩;have:=g.right;simp only[M,e.body.Af,a_,l_]at this;exact this
theorem TL:∀(c:List Fd) (b:Nat) (a:Fd),c[b]? =W a→a.body.sz+1≤Kx c
 |[],_,_,h=>by cases h
 |e::d,0,a,h=>by cases h;simp only[Kx];omega
 |e::d,b+1,a,h=>by
  have:=TL d b a (by simpa using h);simp only[Kx];omega
theorem A2.whole(a:List Nd):A2 a 0 a:=⟨[],[],by simp,J⟩
def VsA(h:AH)(b:k_)(a:List Vr):Prop:=(a=[]∧∃d e,b=.slice d 0 e)∨(∃c f,b=.slice (W ⟨c,0,Z⟩) a.length 3∧h.get c=W (.cells (Bt a++f)))
section
variable{h:AH}
theorem WG{d:List Fd}(A:Wh h)(ap:D6 d)(aE:E3 h d v){f:Fd}(aF:a<(Az d 0).length)(aG:Bb (Aw d).fns a=b)(a2:d[b]? =W f):
  AR 84 [v,I a] h (fun aq j=>VsA j aq (KK (Aw d) d b a)∧Ext h j):=by
 obtain⟨aH,ba,bb,bc,bd,be,rfl,ar,aI,n⟩:=id aE;obtain⟨s,F,t,aJ⟩:∃s F t,aH=.slice s F t:=by obtain⟨g,i,c,k,l⟩:=ar;obtain⟨s,t,e⟩:=c.slice;exact⟨s,_,t,e⟩
 obtain⟨a3,a4,aK⟩:=n.t.sl;obtain⟨a5,a6,aL⟩:=n.sl.sl;obtain⟨a7,a8,aM⟩:=n.z.sl;have au:a<(Aw d).fns.length:=by rw[n.len.2.2];exact aF
 obtain⟨a9,aN,aO,aP,av,_⟩:=n.g.nth A (Ext.refl h) (Y _) au;rw[aG]at av;obtain⟨aw,ax⟩:=Mh d 0 b f a2;rw[S_]at aw ax;obtain⟨aa,ag,ay,ab,ac,aQ,aR,aS,aT,aU,aV⟩:=aI.node A (Ext.refl h) (Y _) aw;subst aJ aQ aK aL aN aM;have aW:f.A6:=ap.1 f (z_ a2);have bf:=aW.2.2.1;have aX:=ap.2.2;refine eF Tryz.func84 ?_;simp only[go_sem,V];have aY:=(A.new (.cells [.slice s F t,.slice (W ⟨aa,0,Z⟩) (AK d 0).length 5,.slice a3 (Aw d).types.length a4,.slice a5 (Aw d).Ac.length a6,.slice (W ⟨a9,0,Z⟩) (Aw d).fns.length 1,.slice a7 (Aw d).size.length a8])).new (.cells [I a]);refine AM aY 0x1321010110100 ?_;simp only[go_sem,V,ac_,aO,aP,av,au,aR,aS,aT,aU];generalize x:(((((h.new (.cells [.slice s F t,.slice (W ⟨aa,0,Z⟩) (AK d 0).length 5,.slice a3 (Aw d).types.length a4,.slice a5 (Aw d).Ac.length a6,.slice (W ⟨a9,0,Z⟩) (Aw d).fns.length 1,.slice a7 (Aw d).size.length a8])).new (.cells [.int .i64 a])).new (.cells [.string ⟨#[]⟩,.int .i64 0,.slice Z 0 0,.int .i64 0,.int .i64 0])).put (h.n+2) (.cells [S f.name,I ay,.slice ab f.params.length ac,I f.ret,I ((C9 d b+f.body.sz:Nat):Int)])).new (.cells [.slice Z 0 0]))=o;have aZ:Wh o:=by rw[←x];exact Am (Ar (Am (Am (Am A _) _) _) (by show h.n+2<h.n+3;omega) _) _
 have bg:o.n=h.n+4:=by rw[←x];rfl
 have b0:o.get h.n=W (.cells [.slice s F t,.slice (W ⟨aa,0,Z⟩) (AK d 0).length 5,.slice a3 (Aw d).types.length a4,.slice a5 (Aw d).Ac.length a6,.slice (W ⟨a9,0,Z⟩) (Aw d).fns.length 1,.slice a7 (Aw d).size.length a8]):=by rw[←x];simp only[go_sem]
 have b1:o.get (h.n+1)=W (.cells [I a]):=by rw[←x];simp only[go_sem,V]
 have b2:o.get (h.n+2)=W (.cells [S f.name,I ay,.slice ab f.params.length ac,I f.ret,I ((C9 d b+f.body.sz:Nat):Int)]):=by rw[←x];simp only[go_sem,V]
 have b3:o.get (h.n+3)=W (.cells [.slice Z 0 0]):=by rw[←x];simp only[go_sem]
 have ah:Ext h o:=fun p q=>by rw[←x];simp only[go_sem,q]
 refine AG (fun(g:Nat) e c=>Wh c∧o.n≤c.n∧(∀k,k<h.n+3→c.get k=o.get k)∧g≤f.params.length∧((g=0∧c.get (h.n+3)=W (.cells [.slice Z 0 0]))∨∃l,c.get (h.n+3)=W (.cells [.slice (W ⟨l,0,Z⟩) g 3])∧h.n+4≤l∧c.get l=W (.cells (Bt (Cj (f.params.take g) 0))))∧
  e.at 2=AA h.n∧e.at 3=AA (h.n+1)∧e.at 5=AA (h.n+2)∧e.at 6=AA (h.n+3)∧e.at 21=.slice ab f.params.length ac∧e.at 22=I f.params.length∧e.at 23=I g) (fun g=>f.params.length-g) ?_ 0 ?_
 ·rintro g e c ⟨K,bh,u,bi,az,ai,aj,ak,y,ad,a0,al⟩ aA
  have ae:h.n+3<c.n:=by omega
  cases a1:decide ((g:Int)<f.params.length)
  ·have r:g=f.params.length:=by have:=Adh a1;omega
   subst r;have b4:=(u (h.n+2) (by omega)).trans b2;have b5:h.n+2<c.n:=by omega
   simp only[go_sem,V,ai,aj,ak,y,a0,al,a1,b4,b5];have b6:∀i,h.n+4≤i→Vi (c.n+1) ((c.new (.cells [.nilFunc])).put c.n (.cells [.func (.func 163) #[] #[AA (h.n+3),AA h.n,AA (h.n+1),AA c.n]])) i (h.n+3) ((c.new (.cells [.nilFunc])).put c.n (.cells [.func (.func 163) #[] #[AA (h.n+3),AA h.n,AA (h.n+1),AA c.n]])) (Cj f.params 0)→i≠c.n→
     AR 163 [I ((C9 d b+f.body.sz:Nat):Int),AA (h.n+3),AA h.n,AA (h.n+1),AA c.n] ((c.new (.cells [.nilFunc])).put c.n (.cells [.func (.func 163) #[] #[AA (h.n+3),AA h.n,AA (h.n+1),AA c.n]])) (Fnd (c.n+1) ((c.new (.cells [.nilFunc])).put c.n (.cells [.func (.func 163) #[] #[AA (h.n+3),AA h.n,AA (h.n+1),AA c.n]])) i (h.n+3) (Cj f.params 0) (f.body.CU (Aw d) a (C9 d b) (Cj f.params 0))):=by
    intro i L am aB;have z:f.body.sz≤300:=by have:=ES d 0;have:=TL d b f a2;omega
    have w:Ve (c.n+1) ((c.new (.cells [.nilFunc])).put c.n (.cells [.func (.func 163) #[] #[AA (h.n+3),AA h.n,AA (h.n+1),AA c.n]])) i (h.n+3) h.n (h.n+1) c.n (.slice s F t) (.slice (W ⟨aa,0,Z⟩) (AK d 0).length 5) Z a3 a5 (W ⟨a9,0,Z⟩) a7 0 (Aw d).types.length (Aw d).Ac.length (Aw d).fns.length (Aw d).size.length 0 a4 a6 1 a8 a:=by
     refine⟨?_,?_,Ai _ _,by omega,by omega,by omega,by omega,by omega,by omega,by omega,by omega,by omega,by omega,by omega⟩
     ·have:=(u h.n (by omega)).trans b0
      have q:h.n<c.n:=by omega
      simp only[go_sem,q];exact this
     have:=(u (h.n+1) (by omega)).trans b1;have q:h.n+1<c.n:=by omega
     simp only[go_sem,q];exact this
    refine Sk (h0:=h) (N:=Az d 0) (Aw d) w A (fun p q=>?_) (by omega) (by omega) (by omega) ar n.t n.sl n.len.1 n.len.2.1 aX (f.body.sz+1) f.body (C9 d b) (Cj f.params 0) _ (i_ _) (ax (A2.whole _)) (by rw[FZ];omega) am;have m:p<c.n:=by omega
    simp only[go_sem,m];exact(u p (by omega)).trans (ah p q)
   have an:∀i j ag,h.n+4≤i→Vi (c.n+1) ((c.new (.cells [.nilFunc])).put c.n (.cells [.func (.func 163) #[] #[AA (h.n+3),AA h.n,AA (h.n+1),AA c.n]])) i (h.n+3) j ag→Ext h j:=fun i j ag L z p q=>by
    refine(z.k p (by omega) (by omega) (by omega)).trans ?_;have m:p<c.n:=by omega
    simp only[go_sem,m];exact(u p (by omega)).trans (ah p q)
   have b7:KK (Aw d) d b a=(f.body.CU (Aw d) a (C9 d b) (Cj f.params 0)).getD []:=by unfold KK;rw[a2]
   rw[b7];obtain⟨i,L,aB,am⟩:∃i,h.n+4≤i∧i≠c.n∧Vi (c.n+1) ((c.new (.cells [.nilFunc])).put c.n (.cells [.func (.func 163) #[] #[AA (h.n+3),AA h.n,AA (h.n+1),AA c.n]])) i (h.n+3) ((c.new (.cells [.nilFunc])).put c.n (.cells [.func (.func 163) #[] #[AA (h.n+3),AA h.n,AA (h.n+1),AA c.n]])) (Cj f.params 0):=by
    rcases az with⟨P,m⟩|⟨l,m,aC,w⟩
    ·refine⟨c.n+100,by omega,by omega,Ar (Am K _) (i_ _) _,Y _,fun _ _ _ _=>rfl,.inl ⟨?_,?_⟩⟩
     ·rw[h_ P];rfl
     simp only[go_sem,ae];exact m
    have ao:=K _ _ w;refine⟨l,aC,by omega,Ar (Am K _) (i_ _) _,Y _,fun _ _ _ _=>rfl,.inr ⟨l,[],?_,.inr J,?_⟩⟩
    ·rw[FZ]
     simp only[go_sem,ae];exact m
    rw[K_]at w;rw[M_];simp only[go_sem,ao];exact w
   refine Aa (b6 i L am aB) ?_;rintro aq j b8 af;have bj:c.n+1≤j.n:=b8;cases aD:f.body.CU (Aw d) a (C9 d b) (Cj f.params 0)with
   |none=>
    rw[aD]at af;obtain⟨rfl,z⟩:=af;simp only[go_sem];exact⟨.inl ⟨J,_,_,J⟩,an i j _ L z⟩
   |some bk=>
    rw[aD]at af;obtain⟨rfl,z⟩:=af;have bl:h.n+3<j.n:=by omega
    rcases z.v with⟨P,m⟩|⟨l,b9,m,_,w⟩
    ·simp only[go_sem,V,y,m]
     exact⟨.inl ⟨P,_,_,J⟩,an i j _ L z⟩
    simp only[go_sem,V,y,m];exact⟨.inr ⟨l,b9,J,w⟩,an i j _ L z⟩
  have r:g<f.params.length:=by have:=Acw a1;omega
  have i:=b_ r;obtain⟨j,rfl,rfl,am,b8⟩:∃j,ab=W ⟨j,0,Z⟩∧ac=2∧h.get j=W (.cells (Bi f.params))∧h.get j=W (.cells (Bi f.params)):=by
   rcases aV with⟨e,_⟩|e
   ·have e:f.params=[]:=e
    rw[e]at r;cases r
   exact e
  have aD:=A _ _ am;have an:=(u j (by omega)).trans ((ah j aD).trans am);have b9:j<c.n:=by omega
  have aq:=GN f.params g _ i;have aB:w_ .i64 ((g:Int)+1)=((g+1:Nat):Int):=by rw[Ap]<;>omega
  rcases az with⟨P,m⟩|⟨l,m,aC,w⟩
  ·simp only[go_sem,V,y,ad,a0,al,a1,an,r,aq,m,ae,aB]
   refine aA (g+1) _ _ ⟨Ar (Am (Am (Ar (Am K _) (i_ _) _) _) _) (by simp only[go_sem];omega) _,by simp only[go_sem];omega,fun k i=>?_,r,.inr ⟨c.n+2,?_,by omega,?_⟩,?_,?_,?_,?_,?_,?_,?_⟩ (by omega)
   ·have z:k<c.n:=by omega
    have L:k≠h.n+3:=by omega
    simp only[go_sem,Ag L,z];exact u k i
   ·subst P;exact Ai _ _
   ·subst P
    have af:(c.n+2==h.n+3)=false:=Ag;rw[H_,i];simp only[go_sem,af];rfl
   all_goals simp only[go_sem,V,ai,aj,ak,y,ad,a0]
  have ao:=K _ _ w;have b4:W_ g 999999=true:=Eg;have b5:take? (Bt (Cj (f.params.take g) 0)) (g*3)=W (Bt (Cj (f.params.take g) 0)):=by have:=MW (Cj (f.params.take g) 0) [];rw[FZ,s_,O_ (by omega),M_,BK]at this;exact this
  have b6:(h.n+3==l)=false:=Ag;simp only[go_sem,V,y,ad,a0,al,a1,an,r,aq,m,ae,aB,w,ao,b4,b5,b6];refine aA (g+1) _ _ ⟨Ar (Am (Dm (Am (Ar (Am K _) (i_ _) _) _) _) _) (by simp only[go_sem];omega) _,by simp only[go_sem];omega,fun k i=>?_,r,.inr ⟨c.n+2,?_,by omega,?_⟩,?_,?_,?_,?_,?_,?_,?_⟩ (by omega)
  ·have z:k<c.n:=by omega
   have L:k≠h.n+3:=by omega
   have b7:k≠l:=by omega
   simp only[go_sem,Ag L,Ag b7,z];exact u k i
  ·exact Ai _ _
  ·have af:(c.n+2==h.n+3)=false:=Ag
   have z:(c.n+2==l)=false:=Ag;rw[H_,i,M6,D3,s_,O_ (by omega)];simp only[go_sem,af];rfl
  all_goals simp only[go_sem,V,ai,aj,ak,y,ad,a0]
 refine⟨aZ,Y _,fun _ _=>rfl,c_ _,.inl ⟨J,b3⟩,?_,?_,?_,?_,?_,?_,?_⟩<;>simp only[go_sem,V]
 rfl
end
structure E4(n:Nat)(s:Ay):Prop where
 a:∀x∈s.fns,0≤x∧x<n
 b:0≤s.fn∧s.fn<n
section
variable{n:Nat}
theorem E4.at'{c:Ay}(a:E4 n c)(e:Nat):E4 n (c.AD e):=
 ⟨fun f b=>by
  rcases List.mem_or_eq_of_mem_set b with b|rfl
  ·exact a.a f b
  exact a.b,a.b⟩
theorem E4.ask{a:Ay}(b:E4 n a)(c:Bool)(er e:Int):E4 n (a.ask c er e):=by
 unfold Ay.ask;cases(!c&&a.e==0)with
 |true=>exact⟨b.a,b.b⟩
 |false=>exact b
theorem E4.CZ{a:Ay}(b:E4 n a)(c:Nat)(e:Int):E4 n (a.CZ c e):=⟨b.a,b.b⟩
theorem E4.put{s:Ay}(a:E4 n s)(b:H)(t:Int):E4 n (s.put b t):=⟨a.a,a.b⟩
theorem E4.named{a:Ay}(b:E4 n a)(c:H)(e:Nat):E4 n (a.named c e).2:=by
 unfold Ay.named;cases B7 c a.vars with
 |some f=>exact b.CZ _ _
 |none=>exact(b.ask false 40 e).CZ _ _
theorem E4.Gq{b:Ay}(c:E4 n b){e:Ay→Int×Ay}(f:∀b,E4 n b→E4 n (e b).2):E4 n (b.Gq a e).2:=by
 unfold Ay.Gq;cases b.e !=0 with
 |true=>exact c
 |false=>exact⟨(f _ (c.at' a)).a,(f _ (c.at' a)).b⟩
theorem E4.cond{b:Bool}{a c:Ay}(e:E4 n a)(f:E4 n c):E4 n (bif b then a else c):=by cases b<;>assumption
theorem E4.block{a:Ay}(b:E4 n a){i:Nat}{c:Ay→Ay}(e:∀a,E4 n a→E4 n (c a)):E4 n (a.CN i c):=⟨(e _ (b.at' i)).a,(e _ (b.at' i)).b⟩
theorem E4.LC{a:Ay}(b:E4 n a)(c:H)(e:Int)(f:Nat):E4 n (a.LC c e f):=((((b.ask _ _ _).ask _ _ _).ask _ _ _).CZ _ _).put _ _
theorem Xp.Dl:∀(c:Xp) (b:Nat) (e:Ay),E4 n e→E4 n (c.ck b e).2
 |.int _,_,_,a|.bool _,_,_,a|.text _,_,_,a=>a.Gq fun _ a=>a
 |.var f,b,_,a=>a.Gq fun e a=>a.named f _
 |.index f c,b,_,a=>a.Gq fun e a=>(c.Dl b _ (a.named f _)).ask _ _ _
 |.len c,b,_,a|.neg c,b,_,a|.no c,b,_,a=>a.Gq fun e a=>(c.Dl b _ a).ask _ _ _
 |.bin sg f g,b,_,a=>a.Gq fun e a=>(g.Dl _ _ (f.Dl b _ a)).ask _ _ _
theorem Wp:∀(b:List Xp) (c:Nat) (a:Ay),E4 n a→E4 n (LX b c a).2
 |[],_,_,f=>f
 |e::b,c,a,f=>Wp b _ _ (e.Dl c a f)
theorem Aaw{f:Int}:∀(b:List Int) (c:List Pm) (e:Ay),E4 n e→E4 n (K6 f b c e)
 |[],_,_,a=>a
 |_::_,[],_,a=>a
 |g::b,h::c,e,a=>Aaw b c _ (a.ask _ _ _)
theorem Rg.Dl(F:List Fn):∀(f:Rg) (b:Nat) (c:Ay),E4 n c→E4 n (f.ck F b c).2
 |.input,_,_,a=>a.Gq fun _ a=>a
 |.new e,b,_,a=>a.Gq fun c a=>(e.Dl b _ a).ask _ _ _
 |.call g h,b,_,a=>by
  refine a.Gq fun c a=>?_;unfold LS;cases findF g F with
  |none=>exact a.ask _ _ _
  |some i=>exact Aaw _ _ _ ((Wp h b c a).ask _ _ _)
 |.expr e,b,c,a=>e.Dl b c a
mutual
theorem Sm.Dl(F:List Fn):∀(k:Sm) (a:Nat) (e:Ay),E4 n e→E4 n (k.ck F a e)
 |.lt c f,a,e,b=>(f.Dl F a _ (b.at' _)).LC c _ _
 |.set c f,a,e,b=>(f.Dl F a _ ((b.at' _).named c _)).ask _ _ _
 |.put c g f,a,e,b=>(f.Dl _ _ (g.Dl a _ ((b.at' _).named c _))).ask _ _ _
 |.run c g,a,e,b=>Rg.Dl F (.call c g) a _ (b.at' _)
 |.print c,a,e,b=>(c.Dl a _ (b.at' _)).ask _ _ _
 |.Fa,a,e,b=>(b.at' a).ask _ _ _
 |.ret c,a,e,b=>(c.Dl a _ ((b.at' _).ask _ _ _)).ask _ _ _
 |.Kv c f,a,e,b=>
  have g:=(c.Dl a _ (b.at' (a+(c.sz+(f.sz+1))))).ask ((c.ck a (e.AD (a+(c.sz+(f.sz+1))))).1==2) 42 ((a+(c.sz+(f.sz+1)):Nat):Int)
  E4.cond (g.block fun e b=>f.Dl F (a+c.sz) e b) g
 |.KD c f,a,e,b=>
  have g:=(c.Dl a _ (b.at' (a+(c.sz+(f.sz+1))))).ask ((c.ck a (e.AD (a+(c.sz+(f.sz+1))))).1==2) 42 ((a+(c.sz+(f.sz+1)):Nat):Int)
  E4.cond (g.block fun e b=>f.Dl F (a+c.sz) e b) g
 |.FP c f h,a,e,b=>
  have g:=(c.Dl a _ (b.at' (a+(c.sz+(f.sz+1)+(h.sz+1))))).ask ((c.ck a (e.AD (a+(c.sz+(f.sz+1)+(h.sz+1))))).1==2) 42 ((a+(c.sz+(f.sz+1)+(h.sz+1)):Nat):Int);have j:=E4.cond (g.block (i:=a+c.sz+f.sz) fun e b=>f.Dl F (a+c.sz) e b) g
  E4.cond (j.block fun e b=>h.Dl F (a+c.sz+(f.sz+1)) e b) j
theorem Bl.Dl(F:List Fn):∀(f:Bl) (a:Nat) (b:Ay),E4 n b→E4 n (f.ck F a b)
 |.nil,_,_,c=>c
 |.cons e g,a,b,c=>g.Dl F (a+e.sz) _ (E4.cond (e.Dl F a b c) c)
end
theorem U6{b:Int}:∀(a:List Pm) (c:Ay),E4 n c→E4 n (E0 b a c)
 |[],_,e=>e
 |f::a,c,e=>U6 a _ ((e.ask _ _ _).put _ _)
theorem Auh(F:List Fn){i:Nat}(k:i<n)(a:Fd)(e:Nat)(c:Ay)(f:E4 n c):E4 n (VQ F i a e c):=by have j:E4 n {c with fn:=(i:Int),vars:=[],sz:=0}:=⟨f.a,by simp,by simp_all⟩;have g:=U6 (b:=((e+a.body.sz:Nat):Int)) a.params _ j;have h:=E4.cond (b:=(E0 ((e+a.body.sz:Nat):Int) a.params {c with fn:=i,vars:=[],sz:=0}).e==0) (g.block (i:=e+a.body.sz) fun c f=>a.body.Dl F e c f) g;exact⟨h.a,h.b⟩
theorem Aaf(F:List Fn):∀(g:List Fd) (c e:Nat) (a:Ay),c+g.length≤n→E4 n a→E4 n (HP F c g e a)
 |[],_,_,_,_,b=>b
 |f::h,c,e,a,i,b=>by
  simp only[a_]at i;exact Aaf F h _ _ _ (by omega) (E4.cond (Auh F (by omega) f e a b) b)
theorem RG:∀(F:List Fn) (e:List H) (b:Bool) (a:Ay),E4 n a→E4 n (DP F e b a)
 |[],_,b,a,c=>c.ask _ _ _
 |f::F,e,b,a,c=>RG F _ _ _ (c.ask _ _ _)
end
theorem Apr(b:a<q.length):Bb q a∈q:=by simp_all
theorem Apw{P:List Fd}(g:0<P.length){i:Nat}(b:i<(Aw P).fns.length):∃a c,Bb (Aw P).fns i=((a:Nat):Int)∧P[a]? =W c:=by
 have e:E4 P.length (Aw P):=by
  refine Aaf _ P 0 0 _ (by omega) (RG _ _ _ _ ⟨fun h f=>?_,?_⟩)
  ·have:=List.eq_of_mem_replicate f
   omega
  show(0:Int)≤0∧(0:Int)<P.length;omega
 obtain⟨f,h⟩:=e.a _ (Apr b);refine⟨(Bb (Aw P).fns i).toNat,P[(Bb (Aw P).fns i).toNat],by omega,b_ (by omega)⟩
section
variable(A:Ay)(d:Int){z:Nat}{F:List Fn}
mutual
theorem Sm.KJ:∀(l:Sm) (c:Nat) (b e:List Vr),l.sl A.Ac z F c→(∀k∈b,0≤k.slot)→l.CU A d c b=W e→(∀k∈e,0≤k.slot)∧e.length≤b.length+l.sz
 |.Kv f g,c,b,e,h,i,a|.KD f g,c,b,e,h,i,a=>by
  obtain⟨j,o⟩:=g.KJ (c+f.sz) b e h.2 i a;exact⟨j,by simp only[Sm.sz];omega⟩
 |.FP f g p,c,b,e,h,i,a=>by
  simp only[Sm.CU]at a;cases m:g.CU A d (c+f.sz) b with
  |some k=>
   rw[m]at a;cases a;obtain⟨j,o⟩:=g.KJ (c+f.sz) b e h.2.1 i m;exact⟨j,by simp only[Sm.sz];omega⟩
  |none=>
   rw[m]at a;obtain⟨j,o⟩:=p.KJ (c+f.sz+(g.sz+1)) b e h.2.2 i a;exact⟨j,by simp only[Sm.sz];omega⟩
 |.lt _ _,_,_,_,_,_,a|.set _ _,_,_,_,_,_,a|.put _ _ _,_,_,_,_,_,a|.run _ _,_,_,_,_,_,a|.print _,_,_,_,_,_,a|.Fa,_,_,_,_,_,a|.ret _,_,_,_,_,_,a=>by cases a
theorem Bl.KJ:∀(j:Bl) (c:Nat) (e h:List Vr),j.sl A.Ac z F c→(∀g∈e,0≤g.slot)→j.CU A d c e=W h→(∀g∈h,0≤g.slot)∧h.length≤e.length+j.sz
 |.nil,_,_,_,_,_,a=>by cases a
 |.cons f p,c,e,h,k,b,a=>by
  simp only[Bl.CU]at a;simp only[Bl.sz];cases o:top c f.sz==d with
  |true=>rw[o]at a;cases a;exact⟨b,by omega⟩
  |false=>
   rw[o]at a;simp only[Acf]at a;cases l:f.CU A d c e with
   |some g=>
    rw[l]at a;cases a;obtain⟨m,q⟩:=f.KJ c e h k.1 b l;exact⟨m,by omega⟩
   |none=>
    rw[l]at a;have r:(f.He A c e).length≤e.length+f.sz∧∀g∈f.He A c e,0≤g.slot:=by
     cases f with
     |lt s t=>
      refine⟨by simp[Sm.He,Sm.sz],fun g i=>?_⟩;rcases e_.1 i with i|i
      ·simp_all
      rw[f_]at i;rw[i];exact k.1.2.1
     |set _ _=>exact⟨B_ _ _,b⟩
     |put _ _ _=>exact⟨B_ _ _,b⟩
     |run _ _=>exact⟨B_ _ _,b⟩
     |print _=>exact⟨B_ _ _,b⟩
     |Fa=>exact⟨B_ _ _,b⟩
     |ret _=>exact⟨B_ _ _,b⟩
     |Kv _ _=>exact⟨B_ _ _,b⟩
     |KD _ _=>exact⟨B_ _ _,b⟩
     |FP _ _ _=>exact⟨B_ _ _,b⟩
    obtain⟨m,q⟩:=p.KJ (c+f.sz) (f.He A c e) h k.2 r.2 a;exact⟨m,by omega⟩
end
end
theorem OO:∀(a:List Pm) (c:Nat),∀b∈Cj a c,0≤b.slot
 |[],_,_,h=>by cases h
 |e::a,c,b,h=>by
  rcases j_.1 h with rfl|h
  ·simp
  exact OO a _ b h
theorem Aix{j:List Int}{F:List Fn}{k:Nat→Nat}:∀(b:List Fd) (c e a:Nat) (f:Fd),fsl j F k b c e→b[a]? =W f→f.body.sl j (k (c+a)) F (e+C9 b a)
 |[],_,_,_,_,_,g=>by cases g
 |h::b,c,e,0,f,i,g=>by cases g;exact i.1
 |h::b,c,e,a+1,f,i,g=>by
  have:=Aix b (c+1) (e+(h.body.sz+1)) a f i.2 (by simp_all);simp only[C9];rw[show c+(a+1)=c+1+a by omega,show e+(h.body.sz+1+C9 b a)=e+(h.body.sz+1)+C9 b a by omega];exact this
theorem Sl{a:List Fd}(f:D6 a)(k:(Aw a).e=0)(c:Nat)(d:Int):(∀g∈KK (Aw a) a c d,0≤g.slot)∧(KK (Aw a) a c d).length≤400:=by
 obtain⟨_,_,l,_,_⟩:=Aa2 (fun b e=>by have:=(f.1 b e).2.2.1;omega) k;unfold KK;cases e:a[c]? with
 |none=>exact⟨fun g h=>by simp_all,by simp⟩
 |some b=>
  simp only;cases h:b.body.CU (Aw a) d (C9 a c) (Cj b.params 0)with
  |none=>exact⟨fun g h=>by simp_all,by simp⟩
  |some i=>
   have j:=Aix a 0 0 c b l e;rw[S_,S_]at j;obtain⟨m,o⟩:=b.body.KJ (Aw a) d _ _ i j (OO _ _) h;rw[FZ]at o;have p:=(f.1 b (z_ e)).2.2.1;have q:=TL a c b e;have r:=ES a 0;have s:=f.2.2;exact⟨m,by show i.length≤400;omega⟩
structure Sn where
 name:H
 vars:List (H×H)
def Im(a:Int):List Int→Nat→Nat
 |[],_=>0
 |k::c,b=>bif k==a then b else Im a c (b+1)
def Li(a:List Int)(b:Int):List Int:=bif Im b a 1==0 then a++[b]else a
def Il(a:H):List H→H
 |[]=>[]
 |[x]=>x
 |x::b=>x++(a++Il a b)
theorem Z0(b:H):∀a:List H,Jd b (a.map S)=W (Il b a)
 |[]=>rfl
 |[x]=>rfl
 |x::c::a=>by
  have:=Z0 b (c::a);simp only[an_]at this⊢;simp only[Jd,this,Il]
def Vs(c:List (List Int))(b:List Int)(a:Int):H×List Int:=
 bif decide (a<1)||decide ((c.length:Int)<a)then([35,48,91,93],b)
 else([35]++D8 (Im a (Li b a) 1)++[91]++Il [44] ((c.getD (a-1).toNat []).map D8)++[93],Li b a)
def GJ(c:List Vl)(a:Vr):Vl:=
 match c[a.slot.toNat]? with
 |some b=>bif b.k==a.type&&b.may then b else vz a.type
 |none=>vz a.type
def I8(d:List (List Int))(a:List Vl)(c:List Int)(b:Vr):H×List Int:=
 bif (GJ a b).k==4 then Vs d c (GJ a b).a else((GJ a b).quoted,c)
def Ev(a:List (List Int))(b:List Vl):List Vr→List Int→List (H×H)×List Int
 |[],c=>([],c)
 |v::d,c=>((v.name,(I8 a b c v).1)::(Ev a b d (I8 a b c v).2).1,(Ev a b d (I8 a b c v).2).2)
def Axp(a:List Fd)(b:Nat):H:=match a[b]? with
 |some c=>c.name
 |none=>[]
def HF(a:List Fd)(c:List (List Int))(d:List Int)(b:Sp):Sn×List Int:=
 (⟨Axp a b.fn.toNat,(Ev c b.Ac (KK (Aw a) a (Bb (Aw a).fns b.node.toNat).toNat b.node) d).1⟩,(Ev c b.Ac (KK (Aw a) a (Bb (Aw a).fns b.node.toNat).toNat b.node) d).2)
def Ci(a:List Fd)(b:List (List Int)):List Sp→List Int→List Sn×List Int
 |[],c=>([],c)
 |x::d,c=>((HF a b c x).1::(Ci a b d (HF a b c x).2).1,(Ci a b d (HF a b c x).2).2)
theorem QS(a:List (List Int))(b:List Vl)(d:Vr):∀(c:List Vr) (e:List Int),Ev a b (c++[d]) e=((Ev a b c e).1++[(d.name,(I8 a b (Ev a b c e).2 d).1)],(I8 a b (Ev a b c e).2 d).2)
 |[],_=>rfl
 |x::c,e=>by simp only[m_,Ev,QS a b d c]
theorem PW(a:List Fd)(b:List (List Int))(e:Sp):∀(c:List Sp) (d:List Int),Ci a b (c++[e]) d=((Ci a b c d).1++[(HF a b (Ci a b c d).2 e).1],(HF a b (Ci a b c d).2 e).2)
 |[],_=>rfl
 |y::c,d=>by simp only[m_,Ci,PW a b e c]
theorem Md(b:List (List Int))(c:List Vl):∀(a:List Vr) (d:List Int),(Ev b c a d).1.length=a.length
 |[],_=>rfl
 |x::a,d=>by simp only[Ev,a_,Md b c a]
theorem IY(b:List Fd)(c:List (List Int)):∀(a:List Sp) (d:List Int),(Ci b c a d).1.length=a.length
 |[],_=>rfl
 |x::a,d=>by simp only[Ci,a_,IY b c a]
structure Sp.in'(nf nn:Nat)(x:Sp):Prop where
 f:∃j:Nat,x.fn=j∧j<nf
 n:∃i:Nat,x.node=i∧i<nn
section
variable{nf nn ni:Nat}{code:List AY}{en zs:List Int}
theorem Am6{f:Nat→Prop}{g:Nat→Nat}{d:AY}(h:NF nf nn a f g b c d)(e:d.op=1):0≤d.a∧d.a.toNat<nn:=by cases h<;>first|exact⟨by simp_all,by simp_all⟩|(exfalso;simp at e;omega)|(exfalso;simp at e)
theorem Qe.at{d:Cf}(c:Qe nf nn code zs a d)(h:MkA code b)(m:((b:Nat):Int)=d.pc∨((b:Nat):Int)=d.mark):(spO code b d).in' nf nn:=by obtain⟨i,n,o,p,q,r,c⟩:=c;have s:=c.pc;have t:=c.mq;have u:=c.p1;have v:=c.p2;have w:=c.m1;have x:=c.m2;obtain⟨e,f,j⟩:=c.ok b (by omega) (by omega);obtain⟨y,g,k⟩:=h;rw[f]at g;cases g;obtain⟨z,l⟩:=Am6 j k;refine⟨⟨i,c.fn,c.jl⟩,⟨e.a.toNat,?_,l⟩⟩;show aAt code b=_;unfold aAt;rw[U_,f];show e.a=_;omega
theorem Afy{d:Ms}(g:Good nf nn code zs ni d):∀h∈BR code d.Ba,h.in' nf nn:=by
 intro h a;cases b:d.Ba with
 |nil=>rw[b]at a;cases a
 |cons e j=>
  obtain⟨k,l⟩:=e;rw[b]at a;obtain⟨m,n⟩:=g.iv.fr k l j b;simp only[BR]at a;rcases e_.1 a with a|a
  ·rw[ag_]at a
   obtain⟨o,p,rfl⟩:=Z_.1 a;have i:=n o p;obtain⟨s,t,u,v,e,q,f⟩:=id i;have r:MkA code q:=by
    rcases f.mo with c|⟨c,_⟩
    ·exact c
    cases c
   rw[f.mq];exact i.at r (.inr f.mq.symm)
  rw[f_]at a;subst a;rcases g.at' with c|⟨p,q,r,e,f,i,o⟩
  ·simp_all
  rw[b]at f;cases f;rw[i];exact m.at o (.inl i.symm)
end
theorem Ar3:pr.CY 119=W (.map 3 3):=by kernel_rfl
theorem U9(a b:V_):Cs pr u (.lookup 119 a b false) e f=CF f (lkK f (W (.int .i64,3)) (W (I 0)) (AZ e a) (AZ e b)):=Ke 119 a b GV Ul
theorem Aib{c:Pr}{d:List ao_}{e g:ao_}{b:List (k_×k_)}(h:c.CY u=W (.map e g))(i:f.get a=W (.map b)):Pe c f (u::d) (.map (W a))=W (.int .i64 b.length,f):=by show opt (c.CY u) (fun j=>opt (Pb f j (.map (W a))) fun k=>W (Value.int .i64 k,f))=_;rw[h];show opt (match f.get a with|some (.map b)=>W b.length|_=>Z) _=_;rw[i]
theorem XM{b:List (k_×k_)}(c:f.get a=W (.map b)):Pe pr f [119] (.map (W a))=W (.int .i64 b.length,f):=Aib Ar3 c
def Ja:List Int→Nat→List (k_×k_)
 |[],_=>[]
 |k::b,a=>(I k,I a)::Ja b (a+1)
theorem Q4:∀(a:List Int) (b:Nat),(Ja a b).length=a.length
 |[],_=>rfl
 |k::a,b=>by simp only[Ja,a_,Q4 a]
theorem Oy(a:Int):∀(b:List Int) (c:Nat),Tl (I 0) (Bc (I a) (Ja b c))=W (I (Im a b c))
 |[],_=>rfl
 |k::b,c=>by
  simp only[Ja,Im,BD];have:(k==a)=(a==k):=by rw[at_,beq_iff_eq,beq_iff_eq];exact eq_comm
  rw[this];cases a==k with
  |true=>rfl
  |false=>exact Oy a b (c+1)
theorem UP(c:Int):∀(b:List Int) (a:Nat),Im c b a=0→0<a→Bg (I c) (I ((b.length+a:Nat):Int)) (Ja b a)=W (Ja (b++[c]) a)
 |[],a,_,_=>by simp[Ja,B0]
 |k::b,a,d,g=>by
  simp only[Im]at d;have f:(k==c)=(c==k):=by rw[at_,beq_iff_eq,beq_iff_eq];exact eq_comm
  rw[f]at d;cases e:c==k with
  |true=>rw[e]at d;simp only[Aa9]at d;omega
  |false=>
   rw[e]at d;have:=UP c b (a+1) d (Nat.succ_pos _);simp only[Ja,B1,e,Acf,m_,a_];rw[show b.length+1+a=b.length+(a+1)by omega,this];rfl
theorem VJ(b:Int):∀(c:List Int) (a:Nat),Im b c a=0→0<a→Im b (c++[b]) a=c.length+a
 |[],a,_,_=>by simp[Im]
 |k::c,a,d,f=>by
  simp only[Im]at d;cases e:k==b with
  |true=>rw[e]at d;simp only[Aa9]at d;omega
  |false=>
   rw[e]at d;have:=VJ b c (a+1) d (Nat.succ_pos _);simp only[m_,Im,e,Acf,this,a_];omega
theorem Z7(c:Int):∀(a:List Int) (b:Nat),Im c a b≤a.length+b
 |[],_=>c_ _
 |k::a,b=>by
  simp only[Im,a_];cases k==c with
  |true=>simp only[Aa9];omega
  |false=>have:=Z7 c a (b+1);simp only[Acf];omega
theorem UQ(a:List Int)(b:Int):(Li a b).length≤a.length+1:=by unfold Li;cases Im b a 1==0<;>simp
theorem Rx(a:Int):(D8 a).length≤31:=by
 cases a with
 |ofNat a=>have:=LP 30 a [];simp only[D8,l_]at*;omega
 |negSucc a=>have:=LP 30 (a+1) [];simp only[D8,a_,l_]at*;omega
theorem Rw{m:Nat}(d:H):∀b:List H,(∀x∈b,x.length≤m)→(Il d b).length≤b.length*(m+d.length)
 |[],_=>c_ _
 |[x],c=>by have:=c x (f_.2 J);simp only[Il,a_,l_];omega
 |x::e::b,c=>by
  have h:=c x (v_ ..);have i:=Rw d (e::b) fun f g=>c f (p_ _ g);simp only[Il,M];rw[a_ (a:=x),Nat.succ_mul];omega
structure Lk(h:AH)(lb mb:Nat)(lv:k_)(ks:List Int):Prop where
 l:h.get lb=W (.cells [lv,.map (W mb)])
 m:h.get mb=W (.map (Ja ks 1))
structure LOk(L:List (List Int)):Prop where
 n:L.length≤1000
 s:∀l∈L,l.length≤1000
 r:∀l∈L,∀x∈l,-9223372036854775808≤x∧x<9223372036854775808
theorem An3(b:List H)(e:(b=[]∧w=.slice Z 0 0)∨(w=.slice (W ⟨a,0,Z⟩) b.length 1∧f.get a=W (.cells (b.map S))))(c:H)(g:b.length≤1000000)(h:(Il c b).length≤1000000):
  AR 98 [w,S c] f (fun w d=>w=S (Il c b)∧d=f):=by
 have i:f.row w=W (b.map S):=by
  rcases e with⟨rfl,rfl⟩|⟨rfl,d⟩
  ·rfl
  cases b with
  |nil=>rfl
  |cons j b=>
   rw[JA _ _ _ _ (by simp),d];simp only[UT];rw[BK,Bn (by simp),L_ (by simp)]
 refine Ok.known K98 (v:=S (Il c b)) (h1:=f) ?_ (Y _) ⟨J,J⟩;show(match f.row w with
  |some d=>cond (Nat.beq d.length (Anr w)) (Rv f d (Jd c d)) Z
  |none=>Z)=_
 rw[i];show cond (Nat.beq (b.map S).length (Anr w)) (Rv f (b.map S) (Jd c (b.map S))) Z=_;have d:Nat.beq (b.map S).length (Anr w)=true:=by rw[Nat.beq_eq,d_];rcases e with⟨rfl,rfl⟩|⟨rfl,_⟩<;>rfl
 rw[d];show Rv f (b.map S) (Jd c (b.map S))=_;rw[Z0];show cond (W_ (b.map S).length 1000000&&W_ (Il c b).length 1000000) _ Z=_;rw[X_ (by simpa using g),X_ h];rfl
theorem Aod{b:Type}{c:List b}{x d:b}(h:c[a]? =W x):c.getD a d=x:=by rw[t_,h];rfl
theorem Gz.at{a:Nat→Prop}{h:AH}:∀{b:E} {L:List (List Int)} {i:Nat} {c:List Int},Gz a h b L→L[i]? =W c→∃u,b[i]? =W u∧CiQ a h u c
 |[],[],_,_,_,h=>by cases h
 |u::_,_::_,0,_,⟨d,_⟩,h=>by cases h;exact⟨u,J,d⟩
 |_::_,_::_,i+1,_,⟨_,d⟩,h=>by simpa using Gz.at (i:=i) d (by simpa using h)
 |[],_::_,_,_,h,_=>h.elim
 |_::_,[],_,_,h,_=>h.elim
def LkS(h b:AH)(mb:Nat):Prop:=h.n≤b.n∧∀a,a<h.n→a≠mb→b.get a=h.get a
theorem Ak0{a:Pr}{b:Cw}{c:Code}{h:AH}{d:List Fr}{j k:Kt}(l:C a b c e h [] k)(m:∀x e h,k x e h→X a b x e h d j):C a b c e h d j:=by obtain⟨g,x,n,o,p,q⟩:=l;obtain⟨i,r,s,t,u,v⟩:=m x n o q;refine⟨max g i,r,s,t,Ix (Nat.le_max_right g i) d _ _ _ (fun y w=>?_) u,v⟩;cases w;exact Ct (fun _ _ _ _ h=>h) (Nat.le_max_left g i) c e h _ p
theorem Uf{b:Pr}{c:Cw}{j k:Code}{d:Bool}{h:AH}{l:List Fr}{m:Kt}(g:Env→AH→Prop)(o:d=true→C b c j e h [] fun x e h=>x=.norm∧g e h)(p:d=false→C b c k e h [] fun x e h=>x=.norm∧g e h)(n:∀e h,g e h→X b c .norm e h l m):CC b c (.bool d) j k e h l m:=
 Ays (fun i=>Ak0 (o i) fun _ e h a=>by obtain⟨rfl,a⟩:=a;exact n e h a) fun i=>Ak0 (p i) fun _ e h a=>by obtain⟨rfl,a⟩:=a;exact n e h a
section
variable{h:AH}{lb mb:Nat}{lv:Value}{f:List Int}{L:List (List Int)}{x:Int}
theorem Ah4(v:Wh h)(z:Lk h lb mb lv f)(aT:f.length≤100000000)(az:Wy h lv L)(a8:LOk L)(aU: -9223372036854775808≤x∧x<9223372036854775808):
  AR 167 [AA lb,I x] h (fun l j=>l=S (Vs L f x).1∧Lk j lb mb lv (Vs L f x).2∧LkS h j mb):=by
 have n:=z.l;have q:=z.m;have aV:=v _ _ n;have aA:=v _ _ q;have aB:(lb==mb)=false:=Ag fun d=>by rw[d,q]at n;cases n
 refine eF Tryz.func167 ?_;unfold Vs;cases c1:decide (x<1)with
 |true=>
  simp only[go_sem,V,c1];exact⟨z,Y _,fun _ _ _=>rfl⟩
 |false=>
  have aW:=Adh c1;rcases az with⟨rfl,rfl⟩|⟨a9,aC,rfl,P,aD⟩
  ·have c2:decide (((0:Nat):Int)<x)=true:=Gu
   have c3:decide (((([]:List (List Int)).length:Nat):Int)<x)=true:=c2;simp only[go_sem,V,n,c1,c2];rw[c3];exact⟨J,z,Y _,fun _ _ _=>rfl⟩
  cases c2:decide ((L.length:Int)<x)with
  |true=>
   simp only[go_sem,V,n,c1,c2];exact⟨z,Y _,fun _ _ _=>rfl⟩
  |false=>
   have aX:=Adh c2;obtain⟨a,rfl⟩:∃a:Nat,x=a+1:=⟨(x-1).toNat,by omega⟩;have ag:a<L.length:=by omega
   have A:=b_ ag;generalize L[a]=b at A;obtain⟨g,aE,o⟩:=aD.at A;have aF:=a8.s b (z_ A);have aG:=a8.r b (z_ A);have aY:=a8.n;have aH:L.getD ((a:Int)+1-1).toNat []=b:=by rw[show((a:Int)+1-1).toNat=a by omega];exact Aod A
   have aI:nth? aC a=W g:=by rw[Du];exact aE
   have aZ:=v _ _ P;have aJ:(a9==mb)=false:=Ag fun d=>by rw[d,q]at P;cases P
   obtain⟨ah,ai,aj⟩:=o.slice;have aK:=Oy ((a:Int)+1) f 1;have b0:g.oneCell'=true∧Aq g=[g]:=by rw[aj];exact⟨J,J⟩
   have aL:w_ .i64 ((a:Int)+1-1)=a:=by rw[Ap]<;>omega
   rw[aH];simp only[go_sem,V,n,c1,c2,U9,IQ,q,IS,aK];refine Uf (fun d k=>Wh k∧k.n=h.n∧k.get lb=W (.cells [.slice (W ⟨a9,0,Z⟩) L.length 1,.map (W mb)])∧k.get mb=W (.map (Ja (Li f ((a:Int)+1)) 1))∧(∀e,e≠mb→k.get e=h.get e)∧Im ((a:Int)+1) (Li f ((a:Int)+1)) 1≠0∧d.at 0=AA lb∧d.at 1=I ((a:Int)+1)) ?_ ?_ ?_
   ·intro i
    have c:Im ((a:Int)+1) f 1=0:=by have:=eq_of_beq i;omega
    have r:Li f ((a:Int)+1)=f++[(a:Int)+1]:=by unfold Li;rw[c];rfl
    have s:=UP ((a:Int)+1) f 1 c (by decide);have u:w_ .i64 (((Ja f 1).length:Nat)+1:Int)=((f.length+1:Nat):Int):=by rw[Q4,Ap]<;>omega
    have ak:=XM q;simp only[go_sem];refine AM v 0x1301100001000 ?_;simp only[go_sem,V,n,ak,Lt,GV,C4,q,C5,u,s,BM];rw[r];refine⟨Ar v aA _,(Ab _ aB).trans n,J,fun e o=>Ab _ (Ag o),?_⟩;rw[VJ _ _ _ c (by decide)];omega
   ·intro i
    have c:Im ((a:Int)+1) f 1≠0:=fun d=>by rw[d]at i;cases i
    have r:Li f ((a:Int)+1)=f:=by unfold Li;rw[Ag c];rfl
    simp only[go_sem,V];rw[r];exact⟨v,n,q,fun _ _=>trivial,c⟩
   rintro d k ⟨F,b1,aa,al,ab,b2,am,a0⟩;subst aj;have an:=(ab a9 (AF aJ)).trans P;have aM:=F _ _ aa;have b3:=F _ _ an;simp only[go_sem,V,am,a0,aa,an,aI,aL,ag];refine AG (fun(c:Nat) d K=>Wh K∧k.n≤K.n∧(∀e,e<k.n→K.get e=k.get e)∧c≤b.length∧((c=0∧d.at 5=.slice Z 0 0)∨∃i,d.at 5=.slice (W ⟨i,0,Z⟩) c 1∧k.n≤i∧K.get i=W (.cells (((b.take c).map D8).map S)))∧
    d.at 0=AA lb∧d.at 1=I ((a:Int)+1)∧d.at 44=.slice ah b.length ai∧d.at 45=I b.length∧d.at 46=I c) (fun c=>b.length-c) ?_ 0 ?_
   ·rintro c d K ⟨N,b4,w,b5,ac,ad,ae,af,a1,a2⟩ ao
    cases a3:decide ((c:Int)<b.length)with
    |false=>
     have r:c=b.length:=by have:=Adh a3;omega
     subst r;have a7:=(w lb aM).trans aa;have ap:=(w mb (F _ _ al)).trans al;have b6:=N _ _ a7;have aN:=Oy ((a:Int)+1) (Li f ((a:Int)+1)) 1;have b7:=UQ f ((a:Int)+1);have b8:=Z7 ((a:Int)+1) (Li f ((a:Int)+1)) 1;have aq:(Il [44] (b.map D8)).length≤1000000:=by
      have:=Rw (m:=31) [44] (b.map D8) fun a4 s=>by obtain⟨u,_,rfl⟩:=Z_.1 s;exact Rx u
      rw[d_]at this;have a5:b.length*(31+[(44:UInt8)].length)≤1000*32:=Nat.mul_le_mul aF (by decide);omega
     have aO:=Rx (Im ((a:Int)+1) (Li f ((a:Int)+1)) 1);generalize aP:D8 (Im ((a:Int)+1) (Li f ((a:Int)+1)) 1)=a4 at aO;generalize ar:Il [44] (b.map D8)=au at aq;have av:=fun s g l=>DG (p:=pr) (t:=s) (x:=g) (y:=l) [35] a4 (by simp only[a_,l_];omega);have aw:=fun s g l=>DG (p:=pr) (t:=s) (x:=g) (y:=l) ([35]++a4) [91] (by simp only[M,a_,l_];omega);have ax:=fun s g l=>DG (p:=pr) (t:=s) (x:=g) (y:=l) ([35]++a4++[91]) au (by simp only[M,a_,l_];omega);have ay:=fun s g l=>DG (p:=pr) (t:=s) (x:=g) (y:=l) ([35]++a4++[91]++au) [93] (by simp only[M,a_,l_];omega);simp only[m_,List.nil_append]at av aw ax ay;simp only[go_sem,V,ad,ae,a1,a2,a3,a7,U9,IQ,ap,IS,aN];refine Aa (Pn _ (by omega) (by omega)) ?_;rintro _ j _ ⟨rfl,rfl⟩;rw[aP];simp only[go_sem,V,av,aw];rw[K_]at ac;obtain⟨i,aQ,b9⟩:∃i,((b.map D8=[]∧d.at 5=Value.slice Z 0 0)∨(d.at 5=Value.slice (W ⟨i,0,Z⟩) (b.map D8).length 1∧j.get i=W (.cells ((b.map D8).map S))))∧True:=by
      rcases ac with⟨a5,u⟩|⟨i,u,aR,a6⟩
      ·exact⟨0,.inl ⟨by rw[h_ a5];rfl,u⟩,trivial⟩
      exact⟨i,.inr ⟨by rw[u,d_],a6⟩,trivial⟩
     refine Aa (An3 (b.map D8) aQ [44] (by rw[d_];omega) (by rw[ar];exact aq)) ?_;rintro _ j _ ⟨rfl,rfl⟩;rw[ar];simp only[go_sem,V,ax,ay];refine⟨⟨a7,ap⟩,by omega,fun e o aS=>?_⟩;exact(w e (by omega)).trans (ab e aS)
    |true=>
     have r:c<b.length:=by have:=Acw a3;omega
     have a4:=b_ r;generalize b[c]=a7 at a4;have ap:=aG a7 (z_ a4);obtain⟨l,rfl,rfl,s⟩:∃l,ah=W ⟨l,0,Z⟩∧ai=1∧h.get l=W (.cells (b.map I)):=by
      rcases o with⟨rfl,_⟩|⟨l,d,s,_⟩
      ·cases r
      injection d with a0 ar aq
      exact⟨l,a0,aq,s⟩
     have ax:l≠mb:=fun d=>by rw[d,q]at s;cases s
     have aq:=(ab l ax).trans s;have ar:=(w l (F _ _ aq)).trans aq;have aS:=N _ _ ar;have ay:nth? (b.map I) c=W (I a7):=DU a4;have au:w_ .i64 ((c:Int)+1)=((c+1:Nat):Int):=by rw[Ap]<;>omega
     simp only[go_sem,V,af,a1,a2,a3,ar,r,ay];refine Aa (Pn a7 ap.1 ap.2) ?_;rintro _ j _ ⟨rfl,rfl⟩;have av:(b.take (c+1)).map D8=(b.take c).map D8++[D8 a7]:=by rw[H_,a4,aa_];rfl
     rcases ac with⟨a5,u⟩|⟨i,u,aR,a6⟩
     ·simp only[go_sem,V,a2,u,au]
      refine ao (c+1) _ _ ⟨Am (Am N _) _,by simp only[go_sem];omega,fun e o=>?_,r,.inr ⟨j.n+1,?_,by omega,?_⟩,?_,?_,?_,?_,?_⟩ (by omega)
      ·have:e<j.n:=by omega
       simp only[go_sem,this];exact w e o
      ·subst a5;simp only[go_sem,V]
      ·subst a5;rw[av];simp only[go_sem];rfl
      all_goals simp only[go_sem,V,ad,ae,af,a1]
     have aN:=N _ _ a6;have aO:W_ c 999999=true:=Eg;have ak:(((b.take c).map D8).map S).length=c:=by simp;omega
     have aP:take? (((b.take c).map D8).map S) c=W (((b.take c).map D8).map S):=by rw[Bn (by omega),L_ (by omega)]
     simp only[go_sem,V,a2,u,au,a6,aN,aO,aP];refine ao (c+1) _ _ ⟨Am (Dm (Am N _) _) _,by simp only[go_sem];omega,fun e o=>?_,r,.inr ⟨j.n+1,?_,by omega,?_⟩,?_,?_,?_,?_,?_⟩ (by omega)
     ·have aQ:e<j.n:=by omega
      have aw:(e==i)=false:=Ag;simp only[go_sem,aQ,aw];exact w e o
     ·simp only[go_sem,V]
     ·have aw:(j.n+1==i)=false:=Ag
      rw[av,aa_];simp only[go_sem];rfl
     all_goals simp only[go_sem,V,ad,ae,af,a1]
   refine⟨F,Y _,fun _ _=>rfl,c_ _,.inl ⟨J,?_⟩,?_,?_,?_,?_,?_⟩<;>simp only[go_sem,V,am,a0]
   rfl
end
theorem Wy.ext{h h1:AH}{L:List (List Int)}(a:Wy h v L)(b:Wh h)(c:Ext h h1):Wy h1 v L:=by
 rcases a with a|⟨e,i,j,g,k⟩
 ·exact .inl a
 exact .inr ⟨e,i,j,(c e (b _ _ g)).trans g,k.imp fun l o m n=>⟨c l (b _ _ m),n⟩⟩
theorem QI.ext{Q:Nat→Prop}{h h1:AH}{a:List Vl}(b:QI Q h v a)(c:Wh h)(e:Ext h h1):QI Q h1 v a:=b.imp fun g k i j=>⟨e g (c _ _ i),j⟩
theorem Lk.ext{h h1:AH}{lb mb:Nat}{lv:k_}{f:List Int}(a:Lk h lb mb lv f)(b:Wh h)(c:Ext h h1):Lk h1 lb mb lv f:=⟨(c lb (b _ _ a.l)).trans a.l,(c mb (b _ _ a.m)).trans a.m⟩
theorem LkS.of{h a b:AH}{mb:Nat}(j:Ext h a)(c:h.n≤a.n)(e:LkS a b mb):LkS h b mb:=⟨x_ c e.1,fun g i k=>(e.2 g (q_ i c) k).trans (j g i)⟩
theorem Ap8{a:Pr}{c:Cw}{g:List Oper}{h:AH}{i:List Fr}{Q P:Kt}(l:DR a c g e h [] P)(m:∀b e h,P b e h→X a c b e h i Q):DR a c g e h i Q:=by obtain⟨s,b,j,k,n,o⟩:=l;obtain⟨p,q⟩:=m b j k o;have r:DV (Dp a (BE a c) g e h)=W (b,j,k):=n;exact⟨p,by rw[r];exact q⟩
def Qn(d:List Vl)(a:Vr):Bool:=match d[a.slot.toNat]? with
 |some b=>b.k==a.type&&b.may
 |none=>false
theorem Zk{d:List Vl}{a:Vr}(h:Qn d a=true):∃b,d[a.slot.toNat]? =W b∧GJ d a=b:=by
 unfold Qn at h;unfold GJ;cases c:d[a.slot.toNat]? with
 |none=>rw[c]at h;cases h
 |some b=>rw[c]at h;exact⟨b,J,by simp only at h⊢;rw[h];rfl⟩
theorem Zl{d:List Vl}{a:Vr}(h:Qn d a=false):GJ d a=vz a.type:=by
 unfold Qn at h;unfold GJ;cases b:d[a.slot.toNat]? with
 |none=>rfl
 |some c=>rw[b]at h;simp only at h⊢;rw[h];rfl
theorem Af3{d:List Vl}{v:Vr}(b:∀a∈d,a.ok):(GJ d v).ok:=by
 cases h:Qn d v with
 |true=>obtain⟨a,c,e⟩:=Zk h;rw[e];exact b a (z_ c)
 |false=>rw[Zl h];exact Jb _
section
variable{h:AH}{lb mb:Nat}{lv sv:Value}{f:List Int}{L:List (List Int)}{d:List Vl}{Q:Nat→Prop}
theorem Ae5(s:Wh h)(a6:Lk h lb mb lv f)(ae:f.length≤100000000)(af:Wy h lv L)(ag:LOk L)(a1:QI Q h sv d)(a7:∀e∈d,e.ok)(aw:d.length≤100000)(a:Vr)(ax:0≤a.slot):
  AR 85 [AA lb,sv,.agg #[S a.name,I a.type,I a.slot]] h (fun c b=>c=S (I8 L d f a).1∧Lk b lb mb lv (I8 L d f a).2∧LkS h b mb):=by
 obtain⟨a2,a3,rfl⟩:=a1.slice;refine eF Tryz.func85 ?_;simp only[go_sem,V];have ah:=Ext.new h (.cells [S a.name,I a.type,I a.slot]);have ai:=s.new (.cells [S a.name,I a.type,I a.slot]);refine Aa (Ok.wf ai (La a.type)) ?_;rintro _ b aj ⟨ak,rfl,a8⟩;have al:h.n+1≤b.n:=aj;have t:=(a8 h.n (i_ _)).trans (Ae _);have am:h.n<b.n:=al;simp only[go_sem,V];generalize y:(b.new (.cells [I 0,I 0,S []])).put b.n (.cells [I a.type,I 0,S []])=l;have z:Wh l:=by rw[←y];exact Ar (Am ak _) (i_ _) _
 have ay:l.n=b.n+1:=by rw[←y];rfl
 have A:l.get h.n=W (.cells [S a.name,I a.type,I a.slot]):=by rw[←y];simp only[go_sem,am];exact t
 have an:l.get b.n=W (.cells [I a.type,I 0,S []]):=by rw[←y];exact Ai _ _
 have a9:Ext h l:=fun u aa=>by
  have r:u<b.n:=by omega
  rw[←y];simp only[go_sem,r];exact(a8 u (Nat.lt_succ_of_lt aa)).trans (ah u aa)
 refine Ap8 (P:=fun e c m=>e=.norm∧c.at 34=.bool (Qn d a)∧Wh m∧l.n≤m.n∧Ext l m∧c.at 0=AA lb∧c.at 1=.slice a2 d.length a3∧c.at 5=AA h.n∧c.at 7=AA b.n) ?_ ?_
 ·refine AM z 0x1031010000010100100001010 ?_
  cases k:decide (a.slot<(d.length:Int))with
  |false=>
   have p:Qn d a=false:=by unfold Qn;rw[ak_ (by have:=Adh k;omega)]
   rw[p];simp only[go_sem,V,A,k];exact⟨z,Y _,Ext.refl l⟩
  |true=>
   obtain⟨j,F⟩:∃j:Nat,a.slot=j:=⟨a.slot.toNat,by omega⟩;have o:j<d.length:=by have:=Acw k;omega
   have q:=b_ o;have x:=J_ o;generalize d[j]=e at q x;have ab:=a7 e x;obtain⟨g,i,rfl,rfl,n⟩:∃g i,a2=W ⟨g,0,Z⟩∧a3=3∧h.get g=W (.cells (AL d++i)):=by
    rcases a1 with⟨rfl,_⟩|⟨g,i,c,n,_⟩
    ·cases o
    injection c with K ao a0
    exact⟨g,i,K,a0,n⟩
   have w:=(a9 g (s _ _ n)).trans n;have ap:=z _ _ w;have N:=GI d i j e q;have a4:nth? (AL d++i) (j*3)=W (I e.k):=Gm N 0 (by decide);have p:Qn d a=(e.k==a.type&&e.may):=by unfold Qn;rw[F,U_,q]
   rw[p];rw[F]at k A⊢;cases a5:e.k==a.type with
   |false=>
    simp only[go_sem,V,A,k,w,o,a4,a5];exact⟨z,Y _,Ext.refl l⟩
   |true=>
    simp only[go_sem,V,A,k,w,o,N,a4,a5];refine Aj (Ok.wf z (Ahw e ab)) ?_;rintro _ r ac ⟨ad,rfl,aq⟩;simp only[go_sem,V];exact⟨ad,ac,aq⟩
 rintro _ c m ⟨rfl,aq,a4,az,a5,t,K,ar,x⟩;simp only[go_sem,aq];have ab:=(a5 h.n (by omega)).trans A;have ac:=(a5 b.n (by omega)).trans an;have aA:h.n<m.n:=by omega
 have au:b.n<m.n:=by omega
 have ad:Ext h m:=a9.trans (by omega) a5;refine Uf (fun c r=>Wh r∧m.n≤r.n∧(∀k,k<b.n→r.get k=m.get k)∧r.get b.n=W (.cells [I (GJ d a).k,I (GJ d a).a,S (GJ d a).s])∧c.at 0=AA lb∧c.at 7=AA b.n) ?_ ?_ ?_
 ·intro p
  obtain⟨e,q,av⟩:=Zk p;rw[av];obtain⟨j,F⟩:∃j:Nat,a.slot=j:=⟨a.slot.toNat,by omega⟩;rw[F,U_]at q;have o:=(o_.1 q).1;obtain⟨g,i,rfl,rfl,n⟩:∃g i,a2=W ⟨g,0,Z⟩∧a3=3∧h.get g=W (.cells (AL d++i)):=by
   rcases a1 with⟨rfl,_⟩|⟨g,i,c,n,_⟩
   ·cases o
   injection c with K ao a0
   exact⟨g,i,K,a0,n⟩
  have w:=(ad g (s _ _ n)).trans n;have ap:=a4 _ _ w;have N:=GI d i j e q;rw[F]at ab;simp only[go_sem,V,t,K,ar,x,ab,ac,w,o,N];exact⟨Ar a4 au _,Y _,fun k a0=>Ab _ Ag⟩
 ·intro p
  rw[Zl p];simp only[go_sem,t,x];exact⟨a4,Y _,fun _ _=>trivial,ac⟩
 rintro c r ⟨n,N,p,i,t,x⟩;have ao:b.n<r.n:=by omega
 have g:Ext h r:=fun k a0=>(p k (by omega)).trans (ad k a0);have j:=Af3 (v:=a) a7;unfold I8;generalize GJ d a=u at i j;simp only[go_sem,x,i];cases ap:u.k==4 with
 |true=>
  simp only[go_sem,V,t,x,i];refine Aa (Ah4 n (a6.ext s g) ae (af.ext s g) ag ⟨j.lo,j.hi⟩) ?_;rintro _ q w ⟨rfl,o,F⟩;simp only[go_sem];exact⟨o,F.of g (by omega)⟩
 |false=>
  simp only[go_sem,V,x,i];refine Aa (Ok.wf n (Ab6 u j)) ?_;rintro _ q w ⟨F,rfl,o⟩;simp only[go_sem];exact⟨(a6.ext s g).ext n o,by omega,fun k a0 _=>(o k (by omega)).trans (g k a0)⟩
end
def C3:List (H×H)→E
 |[]=>[]
 |a::b=>S a.1::S a.2::C3 b
theorem M1:∀a b:List (H×H),C3 (a++b)=C3 a++C3 b
 |[],_=>rfl
 |c::a,b=>by simp only[m_,C3,M1 a b]
theorem Jv:∀a:List (H×H),(C3 a).length=a.length*2
 |[]=>rfl
 |b::a=>by simp only[C3,a_,Jv a];omega
def L0(Q:Nat→Prop)(h:AH)(c:k_)(a:List (H×H)):Prop:=(a=[]∧c=.slice Z 0 0)∨∃b,c=.slice (W ⟨b,0,Z⟩) a.length 2∧h.get b=W (.cells (C3 a))∧Q b
section
variable{h h1:AH}{mb:Nat}
theorem Wy.lks{L:List (List Int)}(e:Wy h v L)(m:Wh h){n:List (k_×k_)}(o:h.get mb=W (.map n))(p:∀a,a<h.n→a≠mb→h1.get a=h.get a):Wy h1 v L:=by
 have k:∀a f,h.get a=W (.cells f)→h1.get a=h.get a:=fun a f g=>p a (m _ _ g) fun b=>by rw[b,o]at g;cases g
 rcases e with e|⟨q,i,b,j,c⟩
 ·exact .inl e
 refine .inr ⟨q,i,b,(k _ _ j).trans j,?_⟩;clear j b;induction i generalizing L with
 |nil=>cases L with
  |nil=>trivial
  |cons _ _=>exact c.elim
 |cons u i r=>cases L with
  |nil=>exact c.elim
  |cons f L=>
   obtain⟨a,c⟩:=c;refine⟨?_,r c⟩;rcases a with a|⟨s,b,l,t⟩
   ·exact .inl a
   exact .inr ⟨s,b,(k _ _ l).trans l,t⟩
theorem QI.lks{Q:Nat→Prop}{f:List Vl}(c:QI Q h v f)(i:Wh h){j:List (k_×k_)}(k:h.get mb=W (.map j))(l:∀a,a<h.n→a≠mb→h1.get a=h.get a):QI Q h1 v f:=by
 rcases c with c|⟨g,m,e,b,n⟩
 ·exact .inl c
 exact .inr ⟨g,m,e,(l g (i _ _ b) fun e=>by rw[e,k]at b;cases b).trans b,n⟩
end
theorem N7(L:List (List Int))(a:List Vl):∀(b:List Vr) (d:List Int),(Ev L a b d).2.length≤d.length+b.length
 |[],d=>Y _
 |v::b,d=>by
  have h1:=N7 L a b (I8 L a d v).2;have c:(I8 L a d v).2.length≤d.length+1:=by
   unfold I8 Vs;cases(GJ a v).k==4 with
   |false=>exact n_ _
   |true=>
    simp only[Aa9];cases decide ((GJ a v).a<1)||decide ((L.length:Int)<(GJ a v).a)with
    |true=>exact n_ _
    |false=>exact UQ _ _
  simp only[Ev,a_];omega
section
variable{h:AH}{lb mb:Nat}{lv sv pv:Value}{d:List Int}{L:List (List Int)}{P:List Fd}{Q:Nat→Prop}
theorem Ajy(v:Wh h)(aX:D6 P)(bD:(Aw P).e=0)(az:E3 h P pv)(af:Lk h lb mb lv d)(cH:d.length≤90000000)(aY:Wy h lv L)(bE:LOk L)(t:Sp)(bF:t.in' P.length (Az P 0).length)(F:QI Q h sv t.Ac)(ag:∀aA∈t.Ac,aA.ok)(bG:t.Ac.length≤100000):
  AR 47 [AA lb,pv,.agg #[I t.fn,I t.node,sv]] h (fun q h1=>∃aZ u,q=.agg #[S (HF P L d t).1.name,I aZ,u]∧L0 (fun j=>h.n≤j) h1 u (HF P L d t).1.vars∧Lk h1 lb mb lv (HF P L d t).2∧LkS h h1 mb):=by
 obtain⟨bH,bI,m⟩:=t;obtain⟨⟨w,b0,bJ⟩,⟨c,r,aB⟩⟩:=bF;change bH=w at b0;change bI=c at r;subst b0 r;have aC:=b_ bJ;generalize P[w]=o at aC;obtain⟨ab,cI,b1,bK⟩:=Apw (P:=P) (by omega) (i:=c) (by obtain⟨bL,bM,bN,sv,bO,bP,_,_,_,a0⟩:=id az;rw[a0.len.2.2];exact aB);obtain⟨b2,bQ⟩:=Sl aX bD ab c;have bR:HF P L d ⟨w,c,m⟩=(⟨o.name,(Ev L m (KK (Aw P) P ab c) d).1⟩,(Ev L m (KK (Aw P) P ab c) d).2):=by unfold HF Axp;simp only[U_,b1,aC]
 rw[bR];have b3:∀{ah:AH},Wh ah→E3 ah P pv→AR 84 [pv,I c] ah (fun e h1=>VsA h1 e (KK (Aw P) P ab c)∧Ext ah h1):=fun ai bS=>WG ai aX bS aB b1 bK;generalize KK (Aw P) P ab c=f at b2 bQ b3;obtain⟨aj,ak,rfl⟩:=F.slice;obtain⟨bL,bM,bN,sv,bO,bP,rfl,bT,bU,a0⟩:=id az;obtain⟨b4,_⟩:=Mh P 0 w o aC;rw[S_]at b4;obtain⟨b5,bV,aZ,cJ,cK,b6,bW,bX,bY,bZ,cL⟩:=bU.node v (Ext.refl h) (Y _) b4;have b7:=b_ aB;generalize (Az P 0)[c]=cM at b7;obtain⟨b8,c0,p,cN,cO,aD,c4,c5,c6,c7,_⟩:=bT.node v (Ext.refl h) (Y _) b7;obtain⟨b9,ba,c8⟩:=a0.t.sl;obtain⟨bb,bc,c9⟩:=a0.sl.sl;obtain⟨bd,z,ca⟩:=a0.g.sl;obtain⟨be,bf,cb⟩:=a0.z.sl;subst b6 aD c8 c9 ca cb;have cc:nth? (Bf c0) (c*5+1)=W (I p):=Gm c7 1 (by decide);refine eF Tryz.func47 ?_;simp only[go_sem,V];generalize cd:AO.cells [.slice (W ⟨b8,0,Z⟩) (Az P 0).length 5,.slice (W ⟨b5,0,Z⟩) (AK P 0).length 5,.slice b9 (Aw P).types.length ba,.slice bb (Aw P).Ac.length bc,.slice bd (Aw P).fns.length z,.slice be (Aw P).size.length bf]=aE;have ai:Wh (((h.new aE).new (.cells [I w,I c,.slice aj m.length ak])).new (.cells [S [],I 0,.slice Z 0 0])):=((v.new _).new _).new _;refine AM ai 0x13201001010010010100 ?_;have ce:(((h.new aE).new (.cells [I w,I c,.slice aj m.length ak])).new (.cells [S [],I 0,.slice Z 0 0])).get h.n=W (.cells [.slice (W ⟨b8,0,Z⟩) (Az P 0).length 5,.slice (W ⟨b5,0,Z⟩) (AK P 0).length 5,.slice b9 (Aw P).types.length ba,.slice bb (Aw P).Ac.length bc,.slice bd (Aw P).fns.length z,.slice be (Aw P).size.length bf]):=by rw[cd];simp only[go_sem]
 have cf:nth? (Bu bV) (w*5)=W (S o.name):=Gm bZ 0 (by decide);simp only[go_sem,V,ce,bW,bX,bY,cf,c4,c5,c6,cc];generalize a1:((((h.new aE).new (.cells [I w,I c,.slice aj m.length ak])).new (.cells [S [],I 0,.slice Z 0 0])).new (.cells [S [],I 0,.slice Z 0 0])).put (h.n+3) (.cells [S o.name,I p,.slice Z 0 0])=a2;have bg:Wh a2:=by rw[←a1];exact Ar ((ai).new _) (by simp only[go_sem];omega) _
 have cP:a2.n=h.n+4:=by rw[←a1];rfl
 have cg:a2.get (h.n+1)=W (.cells [I w,I c,.slice aj m.length ak]):=by rw[←a1];simp only[go_sem,V]
 have ch:a2.get (h.n+2)=W (.cells [S [],I 0,.slice Z 0 0]):=by rw[←a1];simp only[go_sem,V]
 have ci:a2.get (h.n+3)=W (.cells [S o.name,I p,.slice Z 0 0]):=by rw[←a1];exact Ai _ _
 have bh:Ext h a2:=fun aA aF=>by rw[←a1];simp only[go_sem,aF]
 refine Aa (Ok.wf bg (b3 bg (az.ext v bh))) ?_;rintro cj n cQ ⟨bi,bj,al⟩;have aG:=bh.trans (by omega) al;have ck:=(al (h.n+1) (by omega)).trans cg;have cl:=(al (h.n+2) (by omega)).trans ch;have bk:=(al (h.n+3) (by omega)).trans ci;obtain⟨am,an,rfl⟩:∃am an,cj=.slice am f.length an:=by
  rcases bj with⟨rfl,aY,af,rfl⟩|⟨j,F,rfl,_⟩
  ·exact⟨_,_,J⟩
  exact⟨_,_,J⟩
 simp only[go_sem];have ao:=af.m;have cm:=v _ _ ao;have cR:=v _ _ af.l;refine AG (fun(c:Nat) k g=>Wh g∧n.n≤g.n∧(∀a,a<n.n→a≠mb→a≠h.n+3→g.get a=n.get a)∧c≤f.length∧Lk g lb mb lv (Ev L m (f.take c) d).2∧(∃u,g.get (h.n+3)=W (.cells [S o.name,I p,u])∧L0 (fun j=>n.n≤j) g u (Ev L m (f.take c) d).1)∧
  k.at 0=AA lb∧k.at 5=AA (h.n+1)∧k.at 6=AA (h.n+2)∧k.at 7=AA (h.n+3)∧k.at 30=.slice am f.length an∧k.at 31=I f.length∧k.at 32=I c) (fun c=>f.length-c) ?_ 0 ?_
 ·rintro c k g ⟨a3,cT,z,cU,ap,⟨u,bl,ac⟩,aH,aI,aJ,a4,aK,aq,ar⟩ bm
  have cn:h.n+3<g.n:=by omega
  have cV:h.n+2<g.n:=by omega
  have co:h.n+1<g.n:=by omega
  have aL:∀a,a<h.n→a≠mb→g.get a=h.get a:=fun a A a5=>(z a (by omega) a5 (by omega)).trans (aG a A);have cp:=(z (h.n+1) (by omega) (by omega) (by omega)).trans ck;have cq:=(z (h.n+2) (by omega) (by omega) (by omega)).trans cl;obtain⟨bn,bo,bp,rfl⟩:∃bn bo bp,u=.slice bn bo bp:=by
   rcases ac with⟨_,rfl⟩|⟨j,rfl,_⟩
   ·exact⟨_,_,_,J⟩
   exact⟨_,_,_,J⟩
  cases au:decide ((c:Int)<f.length)with
  |false=>
   have r:c=f.length:=by have:=Adh au;omega
   subst r;rw[K_]at ap ac;simp only[go_sem,V,aJ,a4,aq,ar,au,bl,cq];refine⟨p,_,J,?_,⟨(Ab _ Ag).trans ap.l,(Ab _ Ag).trans ap.m⟩,by simp only[go_sem];omega,fun a A a5=>(Ab _ Ag).trans (aL a A a5)⟩;rcases ac with aa|⟨j,k,a6,a7⟩
   ·exact .inl aa
   exact .inr ⟨j,k,(Ab _ Ag).trans a6,by omega⟩
  |true=>
   have r:c<f.length:=by have:=Acw au;omega
   have aM:=b_ r;have bq:=J_ r;generalize f[c]=e at aM bq;obtain⟨av,cr,rfl,rfl,a8⟩:∃j F,am=W ⟨j,0,Z⟩∧an=3∧n.get j=W (.cells (Bt f++F)):=by
    rcases bj with⟨rfl,_⟩|⟨j,F,k,l⟩
    ·cases r
    injection k with s b6 aD
    exact⟨j,F,s,aD,l⟩
   have cs:av≠mb:=fun k=>by
    have:=(aG mb cm).trans ao;rw[k,this]at a8;cases a8
   have ct:av≠h.n+3:=fun k=>by
    rw[k,bk]at a8;cases f with
    |nil=>cases r
    |cons l f=>simp[Bt]at a8
   have br:=(z av (bi _ _ a8) cs ct).trans a8;have cW:=a3 _ _ br;have cu:=IB f cr c e aM;have cX:(av==g.n)=false:=Ag;have bs:w_ .i64 ((c:Int)+1)=((c+1:Nat):Int):=by rw[Ap]<;>omega
   simp only[go_sem,V,aK,aq,ar,au,br,r,cu];have aw:=Ar (b:=g.n) (Am a3 (.cells [S [],I 0,I 0])) (i_ _) (.cells [S e.name,I e.type,I e.slot]);generalize aN:(g.new (.cells [S [],I 0,I 0])).put g.n (.cells [S e.name,I e.type,I e.slot])=a9 at aw;have K:Ext g a9:=fun aA aF=>by rw[←aN];simp only[go_sem,aF]
   have cY:a9.n=g.n+1:=by rw[←aN];rfl
   have bt:a9.get g.n=W (.cells [S e.name,I e.type,I e.slot]):=by rw[←aN];exact Ai _ _
   have bu:=(K _ cn).trans bl;have cv:=(K _ co).trans cp;have cw:h.n+3<a9.n:=by omega
   have cZ:h.n+1<a9.n:=by omega
   have cx:g.n<a9.n:=by omega
   have cy:=N7 L m (f.take c) d;rw[s_,O_ (by omega)]at cy;refine AM aw 0x130316031100150150 ?_;simp only[go_sem,V,aH,aI,a4,bt,bu,cv];refine Aj (Ok.wf aw (Ae5 aw (ap.ext a3 K) (by omega) ((aY.lks v ao aL).ext a3 K) bE ((F.lks v ao aL).ext a3 K) ag bG e (b2 e bq))) ?_;rintro _ l d0 ⟨aO,rfl,aP,ax⟩;have bv:=(ax.2 (h.n+3) cw (by omega)).trans bu;have bw:=(ax.2 g.n cx (by omega)).trans bt;have bx:h.n+3<l.n:=by omega
   have d1:g.n<l.n:=by omega
   have cz:f.take (c+1)=f.take c++[e]:=by rw[H_,aM];rfl
   have ay:=QS L m e (f.take c) d;rw[←cz]at ay;generalize d2:I8 L m (Ev L m (f.take c) d).2 e=x at aP ay;generalize cA:Ev L m (f.take c) d=y at ac ay;have bz:(h.n+3==l.n)=false:=Ag;have d3:y.1.length=c:=by rw[←cA,Md,s_];omega
   have bA:∀(s:AH) (q:k_),Wh s→l.n≤s.n→(∀a,a<n.n→s.get a=l.get a)→L0 (fun j=>n.n≤j) s q (y.1++[(e.name,x.1)])→h.n+3<n.n→
     Wh (s.put (h.n+3) (.cells [S o.name,I p,q]))∧n.n≤(s.put (h.n+3) (.cells [S o.name,I p,q])).n∧(∀a,a<n.n→a≠mb→a≠h.n+3→(s.put (h.n+3) (.cells [S o.name,I p,q])).get a=n.get a)∧c+1≤f.length∧Lk (s.put (h.n+3) (.cells [S o.name,I p,q])) lb mb lv (Ev L m (f.take (c+1)) d).2∧
     ∃u,(s.put (h.n+3) (.cells [S o.name,I p,q])).get (h.n+3)=W (.cells [S o.name,I p,u])∧L0 (fun j=>n.n≤j) (s.put (h.n+3) (.cells [S o.name,I p,q])) u (Ev L m (f.take (c+1)) d).1:=by
    intro s q ad aQ N ae aR;rw[ay];refine⟨Ar ad (by omega) _,by simp only[go_sem];omega,fun a A a5 ag=>?_,r,⟨?_,?_⟩,q,Ai _ _,?_⟩
    ·exact(Ab _ (Ag ag)).trans ((N a A).trans ((ax.2 a (by omega) a5).trans ((K a (by omega)).trans (z a A a5 ag))))
    ·exact(Ab _ Ag).trans ((N lb (by omega)).trans aP.l)
    ·exact(Ab _ Ag).trans ((N mb (by omega)).trans aP.m)
    rcases ae with aa|⟨j,k,a6,a7⟩
    ·exact .inl aa
    exact .inr ⟨j,k,(Ab _ Ag).trans a6,a7⟩
   rcases ac with⟨a6,a7⟩|⟨aa,a7,bB,d4⟩
   ·injection a7 with ad ae aQ
    subst ad ae aQ;simp only[go_sem,V,a4,ar,bw,bv,bx,bz,bs];have N:∀a,a<n.n→((l.new (.cells [S e.name,S x.1])).new (.cells [S e.name,S x.1])).get a=l.get a:=fun a A=>by
     have:a<l.n:=by omega
     simp only[go_sem,this]
    obtain⟨aR,aS,aT,aU,aV,aW⟩:=bA ((l.new (.cells [S e.name,S x.1])).new (.cells [S e.name,S x.1])) (.slice (W ⟨l.n+1,0,Z⟩) 1 2) (Am (Am aO _) _) (by simp only[go_sem];omega) N (.inr ⟨l.n+1,by rw[a6];rfl,by rw[a6];exact Ae _,by omega⟩) (by omega);refine bm (c+1) _ _ ⟨aR,aS,aT,aU,aV,aW,?_,?_,?_,?_,?_,?_,?_⟩ (by omega)<;>simp only[go_sem,V,aH,aI,aJ,a4,aK,aq]
   injection a7 with ad ae aQ
   subst ad ae aQ;have cB:=a3 _ _ bB;have bC:=(ax.2 aa (by omega) (by omega)).trans ((K aa cB).trans bB);have cC:=aO _ _ bC;have cD:W_ y.1.length 999999=true:=Eg;have cF:take? (C3 y.1) (y.1.length*2)=W (C3 y.1):=by rw[Bn (by rw[Jv];omega),L_ (by rw[Jv];omega)]
   have cG:(h.n+3==aa)=false:=Ag;simp only[go_sem,V,a4,ar,bw,bv,bx,bz,bs,bC,cC,cD,cF,cG];have N:∀a,a<n.n→(((l.new (.cells [S e.name,S x.1])).del aa).new (.cells (C3 y.1++[S e.name,S x.1]))).get a=l.get a:=fun a A=>by
    have ad:a<l.n:=by omega
    have ae:(a==aa)=false:=Ag;simp only[go_sem,ad,ae]
   obtain⟨aR,aS,aT,aU,aV,aW⟩:=bA (((l.new (.cells [S e.name,S x.1])).del aa).new (.cells (C3 y.1++[S e.name,S x.1]))) (.slice (W ⟨l.n+1,0,Z⟩) (y.1.length+1) 2) (Am (Dm (Am aO _) _) _) (by simp only[go_sem];omega) N (.inr ⟨l.n+1,by simp,by rw[M1];exact Ae _,by omega⟩) (by omega);refine bm (c+1) _ _ ⟨aR,aS,aT,aU,aV,aW,?_,?_,?_,?_,?_,?_,?_⟩ (by omega)<;>simp only[go_sem,V,aH,aI,aJ,a4,aK,aq]
 refine⟨bi,Y _,fun _ _ _ _=>rfl,c_ _,af.ext v aG,⟨_,bk,.inl ⟨J,J⟩⟩,?_,?_,?_,?_,?_,?_,?_⟩<;>simp only[go_sem,V]
 rfl
end
theorem Atj(b c:V_)(a:Nat):Cu pr .eql 36 b c (.slice Z 0 (a+1)) (.slice Z 0 0)=W (.bool true):=by have e:Cu pr .eql 36 b c (.slice Z 0 (a+1)) (.slice Z 0 0)=ED pr .eql 36 b c (.slice Z 0 (a+1)) (.slice Z 0 0):=J;rw[e];unfold ED;have g:(Fz (.slice Z 0 (a+1))&&Fz (.slice Z 0 0))=false:=J;rw[g,Aqg];rfl
theorem Ad7{h:AH}(n:Wh h){a:List H}(b:L6 h v a)(o:a.length≤100000):AR 46 [v] h (fun g h1=>L6 h1 g a∧Ext h h1):=by
 have i:∀{v},((a=[]∧(v=.slice Z 0 0∨∃b c,v=.slice (W b) 0 c))∨(∃e l m,v=.slice (W ⟨e,l,Z⟩) a.length 1∧h.get e=W (.cells m)∧sub? m l (a.length*1)=W (a.map S)))→AR 46 [v] h (fun g h1=>L6 h1 g a∧Ext h h1):=
  fun p=>(V2 n p o).mono fun _ _ _ k=>⟨k.1,k.2.2⟩
 rcases b with⟨k,b,c,rfl⟩|⟨e,rfl,p⟩
 ·cases b with
  |some b=>exact i (.inl ⟨k,.inr ⟨b,c,J⟩⟩)
  |none=>cases c with
   |zero=>exact i (.inl ⟨k,.inl J⟩)
   |succ c=>
    refine eF Tryz.func46 ?_;simp only[go_sem,Atj];exact⟨.inl ⟨k,_,_,J⟩,Ext.refl h⟩
 exact i (.inr ⟨e,0,_,J,p,by rw[BK,Bn (by simp),L_ (by simp)]⟩)
def Fs:List (Int×k_)→List Sn→E
 |a::b,c::e=>S c.name::I a.1::a.2::Fs b e
 |_,_=>[]
def EC(Q:Nat→Prop)(h:AH):List (Int×k_)→List Sn→Prop
 |[],[]=>True
 |a::b,c::e=>L0 Q h a.2 c.vars∧EC Q h b e
 |_,_=>False
theorem L0.imp{Q K:Nat→Prop}{h h1:AH}{l:List (H×H)}(e:∀a i,h.get a=W i→Q a→h1.get a=h.get a∧K a)(b:L0 Q h v l):L0 K h1 v l:=by
 rcases b with b|⟨a,k,c,g⟩
 ·exact .inl b
 exact .inr ⟨a,k,(e a _ c g).1.trans c,(e a _ c g).2⟩
section
variable{Q K:Nat→Prop}{h h1:AH}
theorem EC.imp(b:∀a e,h.get a=W e→Q a→h1.get a=h.get a∧K a):∀{c:List (Int×k_)} {l:List Sn},EC Q h c l→EC K h1 c l
 |[],[],_=>trivial
 |_::_,_::_,⟨g,i⟩=>⟨g.imp b,EC.imp b i⟩
 |[],_::_,h=>h.elim
 |_::_,[],h=>h.elim
theorem EC.len:∀{a:List (Int×k_)} {b:List Sn},EC Q h a b→a.length=b.length
 |[],[],_=>rfl
 |_::_,_::_,⟨_,c⟩=>by rw[a_,a_,EC.len c]
 |[],_::_,h=>h.elim
 |_::_,[],h=>h.elim
theorem EC.app{u:Int×k_}{s:Sn}(a:L0 Q h u.2 s.vars):∀{b:List (Int×k_)} {c:List Sn},EC Q h b c→EC Q h (b++[u]) (c++[s])
 |[],[],_=>⟨a,trivial⟩
 |_::_,_::_,⟨c1,e⟩=>⟨c1,EC.app a e⟩
 |[],_::_,h=>h.elim
 |_::_,[],h=>h.elim
theorem UL{a:Int×k_}{e:Sn}:∀{b:List (Int×k_)} {c:List Sn},EC Q h b c→Fs (b++[a]) (c++[e])=Fs b c++[S e.name,I a.1,a.2]
 |[],[],_=>rfl
 |_::_,_::_,⟨_,g⟩=>by simp only[m_,Fs,UL g]
 |[],_::_,h=>h.elim
 |_::_,[],h=>h.elim
theorem UK:∀{b:List (Int×k_)} {a:List Sn},EC Q h b a→(Fs b a).length=a.length*3
 |[],[],_=>rfl
 |_::_,_::_,⟨_,c⟩=>by simp only[Fs,a_,UK c];omega
 |[],_::_,h=>h.elim
 |_::_,[],h=>h.elim
end
def Ap4(c:Nat)(h:AH)(e:k_)(a:List Sn):Prop:=(a=[]∧e=.slice Z 0 0)∨∃b g,e=.slice (W ⟨b,0,Z⟩) a.length 3∧c≤b∧h.get b=W (.cells (Fs g a))∧EC (fun i=>i≠b∧c≤i) h g a
theorem T9.ext{h h1:AH}{b:List Sp}(a:T9 h v b)(c:Wh h)(e:Ext h h1):T9 h1 v b:=by
 rcases a with a|⟨g,k,l,i,m⟩
 ·exact .inl a
 exact .inr ⟨g,k,l,(e g (c _ _ i)).trans i,m.imp fun r s n=>n.imp fun o t p q=>⟨e o (c _ _ p),q⟩⟩
theorem L6.ext{h h1:AH}{b:List H}(a:L6 h v b)(g:Wh h)(i:Ext h h1):L6 h1 v b:=by
 rcases a with a|⟨c,k,e⟩
 ·exact .inl a
 exact .inr ⟨c,k,(i c (g _ _ e)).trans e⟩
theorem L6.Wd{h h1:AH}{c:List H}(a:L6 h v c)(i:∀b (k:List H),h.get b=W (.cells (k.map S))→h1.get b=h.get b):L6 h1 v c:=by
 rcases a with a|⟨e,l,g⟩
 ·exact .inl a
 exact .inr ⟨e,l,(i e _ g).trans g⟩
theorem LB(e:List H):W (AO.cells (e.map S))≠W (.cells (.slice o a b::l)):=by
 intro c;injection c with c
 injection c with c
 cases e with
 |nil=>cases c
 |cons _ _=>injection c with c _;cases c
theorem Zi{R:k_→Sp→Prop}(e:E):∀{c:E} {b:List Sp} {i:Nat} {a:Sp},I7 R c b→b[i]? =W a→∃u,R u a∧sub? (Mi c b++e) (i*3) 3=W [I a.fn,I a.node,u]
 |[],[],_,_,_,h=>by cases h
 |u::c,g::b,0,a,⟨k,_⟩,h=>by
  cases h;refine⟨u,k,?_⟩;rw[ah_,BK,Bn (by simp[Mi])];rfl
 |u::c,g::b,i+1,a,⟨_,k⟩,h=>by
  obtain⟨l,h1,m⟩:=Zi e (i:=i) k (by simpa using h);refine⟨l,h1,?_⟩;rw[show(i+1)*3=i*3+1+1+1 by omega];exact m
 |[],_::_,_,_,h,_=>h.elim
 |_::_,[],_,_,h,_=>h.elim
theorem R0(P:List Fd)(L:List (List Int))(c:∀e g,(KK (Aw P) P e g).length≤400):∀(b:List Sp) (a:List Int),(Ci P L b a).2.length≤a.length+b.length*400
 |[],a=>Y _
 |x::b,a=>by
  have h1:=R0 P L c b (HF P L a x).2;have i:=N7 L x.Ac (KK (Aw P) P (Bb (Aw P).fns x.node.toNat).toNat x.node) a;have k:=c (Bb (Aw P).fns x.node.toNat).toNat x.node;have l:(HF P L a x).2.length≤a.length+400:=by unfold HF;simp only;omega
  simp only[Ci,a_];omega
section
variable{h:AH}{fs lv ov pv:Value}{L:List (List Int)}{P:List Fd}{d:List Sp}{F:List H}{f A j tm:Int}
theorem Amp(aj:Wh h)(bd:D6 P)(be:(Aw P).e=0)(aL:E3 h P pv)(t:Wy h lv L)(bV:LOk L)(bf:T9 h fs d)(bW:∀m∈d,m.in' P.length (Az P 0).length)(ap:∀m∈d,(∀aM∈m.Ac,aM.ok)∧m.Ac.length≤100000)(cR:d.length≤1000)(a5:L6 h ov F)(bX:F.length≤100000):
  AR 15 [pv,.agg #[fs,lv,I f,ov,I A,I j,I tm]] h (fun r h1=>∃z a,r=.agg #[z,a,I f,I A,I j]∧Ap4 h.n h1 z (Ci P L d []).1∧L6 h1 a F∧Ext h h1):=by
 obtain⟨bY,cT,cU,cV,cW,cX,bZ,c0,c4,ay⟩:=id aL;obtain⟨aq,aN,ar,aO⟩:∃aq aN ar,bY=.slice aq aN ar:=by obtain⟨e,g,a,i,k⟩:=c0;obtain⟨aq,ar,c⟩:=a.slice;exact⟨aq,_,ar,c⟩
 obtain⟨c5,c6,bg⟩:=c4.slice;obtain⟨c7,c8,aP⟩:=ay.t.sl;obtain⟨c9,ca,cb⟩:=ay.sl.sl;obtain⟨cc,ae,cd⟩:=ay.g.sl;obtain⟨ce,cf,cg⟩:=ay.z.sl;obtain⟨ak,al,am,ch⟩:∃t af a3,lv=.slice t af a3:=by
  rcases t with⟨_,c⟩|⟨g,l,c,_⟩
  ·exact⟨_,_,_,c⟩
  exact⟨_,_,_,c⟩
 obtain⟨bh,bi,bj,ci⟩:∃t af a3,ov=.slice t af a3:=by
  rcases a5 with⟨_,t,a3,c⟩|⟨g,c,_⟩
  ·exact⟨_,_,_,c⟩
  exact⟨_,_,_,c⟩
 obtain⟨az,aA,cj⟩:∃t a3,fs=.slice t d.length a3:=by
  rcases bf with⟨a9,c⟩|⟨g,l,c,_⟩
  ·exact⟨Z,0,by rw[c,a9];rfl⟩
  exact⟨_,_,c⟩
 subst aO bg aP cb cd cg ch ci cj bZ;refine eF Tryz.func15 ?_;simp only[go_sem,V];generalize bk:[Value.slice aq aN ar,.slice c5 (AK P 0).length c6,.slice c7 (Aw P).types.length c8,.slice c9 (Aw P).Ac.length ca,.slice cc (Aw P).fns.length ae,.slice ce (Aw P).size.length cf]=aQ at aL;generalize aa:((((h.new (.cells aQ)).new (.cells [.slice az d.length aA,.slice ak al am,I f,.slice bh bi bj,I A,I j,I tm])).new (.cells [.slice Z 0 0,.slice Z 0 0,I 0,I 0,I 0])).new (.map [])).new (.cells [.slice ak al am,.map (W (h.n+3))])=e;have aR:Wh e:=by rw[←aa];exact((((aj.new _).new _).new _).new _).new _
 have cY:e.n=h.n+5:=by rw[←aa];rfl
 have ck:e.get h.n=W (.cells aQ):=by rw[←aa];simp only[go_sem]
 have bl:e.get (h.n+1)=W (.cells [.slice az d.length aA,.slice ak al am,I f,.slice bh bi bj,I A,I j,I tm]):=by rw[←aa];simp only[go_sem,V]
 have cl:e.get (h.n+2)=W (.cells [.slice Z 0 0,.slice Z 0 0,I 0,I 0,I 0]):=by rw[←aa];simp only[go_sem,V]
 have bm:e.get (h.n+3)=W (.map []):=by rw[←aa];simp only[go_sem,V]
 have cm:e.get (h.n+4)=W (.cells [.slice ak al am,.map (W (h.n+3))]):=by rw[←aa];simp only[go_sem]
 have bn:Ext h e:=fun aM aS=>by rw[←aa];simp only[go_sem,aS]
 have cn:h.n+1<e.n:=by omega
 refine AM aR 0x10bb09802b10ae1501501503810 ?_;simp only[go_sem,V,bl];have bo:=aR.new (.cells [.slice Z 0 0,.slice Z 0 0,I 0,I 0,I 0]);have bp:=Ext.new e (.cells [.slice Z 0 0,.slice Z 0 0,I 0,I 0,I 0]);refine Aj (Ok.wf bo (Ad7 bo ((a5.ext aj bn).ext aR bp) bX)) ?_;rintro co a6 cp ⟨bq,br,bs⟩;have cZ:e.n+1≤a6.n:=cp;have bt:Ext e a6:=bp.trans (n_ _) bs;have cq:=(bt (h.n+1) cn).trans bl;have bu:a6.get e.n=W (.cells [.slice Z 0 0,.slice Z 0 0,I 0,I 0,I 0]):=(bs e.n (i_ _)).trans (Ae _);have d0:h.n+1<a6.n:=by omega
 have cr:e.n<a6.n:=by omega
 obtain⟨v,w,x,rfl⟩:∃t af a3,co=.slice t af a3:=by
  rcases br with⟨_,t,a3,c⟩|⟨g,c,_⟩
  ·exact⟨_,_,_,c⟩
  exact⟨_,_,_,c⟩
 have cs:(h.n+1==e.n)=false:=Ag;simp only[go_sem,V,cq,bu,cs];generalize aB:a6.put e.n (.cells [.slice Z 0 0,.slice v w x,I f,I A,I j])=n;have bv:Wh n:=by rw[←aB];exact Ar bq cr _
 have d1:n.n=a6.n:=by rw[←aB];rfl
 have bw:n.get e.n=W (.cells [.slice Z 0 0,.slice v w x,I f,I A,I j]):=by rw[←aB];exact Ai _ _
 have bx:∀a,a<a6.n→a≠e.n→n.get a=a6.get a:=fun a _ i=>by rw[←aB];exact Ab _ (Ag i)
 have an:∀a,a<e.n→n.get a=e.get a:=fun a i=>(bx a (by omega) (by omega)).trans (bt a i);have ct:Ext h n:=fun a i=>(an a (by omega)).trans (bn a i);have cu:L6 n (.slice v w x) F:=by
  rcases br with a9|⟨g,c,p⟩
  ·exact .inl a9
  exact .inr ⟨g,c,(bx g (bq _ _ p) fun c=>LB F (by rw[←p,c,bu])).trans p⟩
 refine AG (fun(k:Nat) c q=>Wh q∧n.n≤q.n∧(∀a,a<n.n→a≠h.n+3→a≠e.n→q.get a=n.get a)∧k≤d.length∧Lk q (h.n+4) (h.n+3) (.slice ak al am) (Ci P L (d.take k) []).2∧
  (∃z,q.get e.n=W (.cells [z,.slice v w x,I f,I A,I j])∧((k=0∧z=.slice Z 0 0)∨∃g l,z=.slice (W ⟨g,0,Z⟩) k 3∧n.n≤g∧q.get g=W (.cells (Fs l (Ci P L (d.take k) []).1))∧EC (fun a=>a≠g∧n.n≤a) q l (Ci P L (d.take k) []).1))∧
  c.at 2=AA h.n∧c.at 4=AA (h.n+2)∧c.at 5=AA (h.n+4)∧c.at 6=AA e.n∧c.at 25=.slice az d.length aA∧c.at 26=I d.length∧c.at 27=I k) (fun k=>d.length-k) ?_ 0 ?_
 ·rintro k c q ⟨au,d2,ae,d3,bz,⟨z,bA,av⟩,aT,aU,aV,ao,aW,aC,aD⟩ bB
  have cv:e.n<q.n:=by omega
  have cw:h.n<q.n:=by omega
  have d4:h.n+2<q.n:=by omega
  have aX:Ext h q:=fun a i=>(ae a (by omega) (by omega) (by omega)).trans (ct a i);have cx:=(ae h.n (by omega) (by omega) (by omega)).trans ((an _ (by omega)).trans ck);have bC:=(ae (h.n+2) (by omega) (by omega) (by omega)).trans ((an _ (by omega)).trans cl);obtain⟨bD,bE,bF,rfl⟩:∃bD bE bF,z=.slice bD bE bF:=by
   rcases av with⟨_,rfl⟩|⟨g,l,rfl,_⟩
   ·exact⟨_,_,_,J⟩
   exact⟨_,_,_,J⟩
  cases aE:decide ((k:Int)<d.length)with
  |false=>
   have ag:k=d.length:=by have:=Adh aE;omega
   subst ag;rw[K_]at bz av;simp only[go_sem,V,aU,ao,aC,aD,aE,bA,bC];have N:L6 q (.slice v w x) F:=cu.Wd fun a y i=>by
    refine ae a (bv _ _ i) (fun c=>?_) fun c=>LB y (i.symm.trans ((Akv _ c).trans bw));rw[c,(an _ (by omega)).trans bm]at i;cases i
   refine⟨_,_,J,?_,N.Wd fun a y i=>Ab _ (Ag fun c=>LB y (i.symm.trans ((Akv _ c).trans bC))),fun a i=>(Ab _ Ag).trans (aX a i)⟩;rcases av with⟨ab,ac⟩|⟨g,l,c,ac,bG,aF⟩
   ·exact .inl ⟨by rw[h_ ab];rfl,ac⟩
   exact .inr ⟨g,l,by rw[IY];exact c,by omega,(Ab _ Ag).trans bG,aF.imp fun a a5 i o=>⟨Ab _ (Ag (by have:=o.2;omega)),o.1,by have:=o.2;omega⟩⟩
  |true=>
   have ag:k<d.length:=by have:=Acw aE;omega
   have aY:=b_ ag;have aG:=J_ ag;generalize d[k]=m at aY aG;obtain⟨cy,d5,rfl,rfl,bH,cz⟩:∃g l,az=W ⟨g,0,Z⟩∧aA=3∧h.get g=W (.cells (Mi l d))∧I7 (fun r m=>QI (fun a=>a≠g) h r m.Ac) l d:=by
    rcases bf with⟨rfl,_⟩|⟨g,l,c,p,aZ⟩
    ·cases ag
    injection c with aO bg aP
    exact⟨g,l,aO,aP,p,aZ⟩
   obtain⟨r,bI,bJ⟩:=Zi [] cz aY;rw[M_]at bJ;have bK:=(aX cy (aj _ _ bH)).trans bH;have d6:=au _ _ bK;obtain⟨b0,b1,rfl⟩:=bI.slice;have bL:w_ .i64 ((k:Int)+1)=((k+1:Nat):Int):=by rw[Ap]<;>omega
   simp only[go_sem,V,aW,aC,aD,aE,bK,ag,bJ];have aH:=Ar (b:=q.n) (Am au (.cells [I 0,I 0,.slice Z 0 0])) (i_ _) (.cells [I m.fn,I m.node,.slice b0 m.Ac.length b1]);generalize b2:(q.new (.cells [I 0,I 0,.slice Z 0 0])).put q.n (.cells [I m.fn,I m.node,.slice b0 m.Ac.length b1])=a7 at aH;have ah:Ext q a7:=fun aM aS=>by rw[←b2];simp only[go_sem,aS]
   have d7:a7.n=q.n+1:=by rw[←b2];rfl
   have cA:a7.get q.n=W (.cells [I m.fn,I m.node,.slice b0 m.Ac.length b1]):=by rw[←b2];exact Ai _ _
   have bM:=(ah _ cv).trans bA;have cB:=(ah _ cw).trans cx;have cC:e.n<a7.n:=by omega
   have d8:h.n<a7.n:=by omega
   have d9:q.n<a7.n:=by omega
   have b3:Ext h a7:=aX.trans (by omega) ah;have bN:=R0 P L (fun cD cF=>(Sl bd be cD cF).2) (d.take k) [];rw[s_,O_ (by omega)]at bN;simp only[l_]at bN;refine AM aH 0x1303163110150 ?_;have da:aQ.length=6:=by rw[←bk];rfl
   subst bk;simp only[go_sem,V,aT,aV,ao,cA,bM,cB];refine Aj (Ok.wf aH (Ajy aH bd be (aL.ext aj b3) (bz.ext au ah) (by omega) (t.ext aj b3) bV m (bW m aG) (bI.imp fun a a5 i o=>⟨b3 a (aj _ _ i),o⟩) (ap m aG).1 (ap m aG).2)) ?_;rintro _ p db ⟨aI,a4,cG,rfl,b4,b5,aJ⟩;have bO:=(aJ.2 e.n cC (by omega)).trans bM;have bP:e.n<p.n:=by omega
   obtain⟨N,a0,a1,rfl⟩:∃t af a3,cG=.slice t af a3:=by
    rcases b4 with⟨_,rfl⟩|⟨g,rfl,_⟩
    ·exact⟨_,_,_,J⟩
    exact⟨_,_,_,J⟩
   have cH:d.take (k+1)=d.take k++[m]:=by rw[H_,aY];rfl
   have aK:=PW P L m (d.take k) [];rw[←cH]at aK;generalize dc:HF P L (Ci P L (d.take k) []).2 m=a2 at b4 b5 aK;generalize cI:Ci P L (d.take k) []=ad at av aK;have bQ:ad.1.length=k:=by rw[←cI,IY,s_];omega
   have bR:(e.n==p.n)=false:=Ag;have bS:∀(y:AH) (r:k_),Wh y→p.n≤y.n→(∀a,a<n.n→y.get a=p.get a)→(∃g l,r=.slice (W ⟨g,0,Z⟩) (k+1) 3∧n.n≤g∧y.get g=W (.cells (Fs l (ad.1++[a2.1])))∧EC (fun a=>a≠g∧n.n≤a) y l (ad.1++[a2.1]))→
     Wh (y.put e.n (.cells [r,.slice v w x,I f,I A,I j]))∧n.n≤(y.put e.n (.cells [r,.slice v w x,I f,I A,I j])).n∧(∀a,a<n.n→a≠h.n+3→a≠e.n→(y.put e.n (.cells [r,.slice v w x,I f,I A,I j])).get a=n.get a)∧k+1≤d.length∧Lk (y.put e.n (.cells [r,.slice v w x,I f,I A,I j])) (h.n+4) (h.n+3) (.slice ak al am) (Ci P L (d.take (k+1)) []).2∧
     ∃z,(y.put e.n (.cells [r,.slice v w x,I f,I A,I j])).get e.n=W (.cells [z,.slice v w x,I f,I A,I j])∧((k+1=0∧z=.slice Z 0 0)∨∃g l,z=.slice (W ⟨g,0,Z⟩) (k+1) 3∧n.n≤g∧(y.put e.n (.cells [r,.slice v w x,I f,I A,I j])).get g=W (.cells (Fs l (Ci P L (d.take (k+1)) []).1))∧EC (fun a=>a≠g∧n.n≤a) (y.put e.n (.cells [r,.slice v w x,I f,I A,I j])) l (Ci P L (d.take (k+1)) []).1):=by
    rintro y r b7 b8 a8 ⟨g,l,c,aw,ai,ax⟩;rw[aK];refine⟨Ar b7 (by omega) _,by simp only[go_sem];omega,fun a i b6 ap=>?_,ag,⟨?_,?_⟩,r,Ai _ _,.inr ⟨g,l,c,aw,(Ab _ Ag).trans ai,ax.imp fun a a5 i o=>⟨Ab _ (Ag (by have:=o.2;omega)),o⟩⟩⟩
    ·exact(Ab _ (Ag ap)).trans ((a8 a i).trans ((aJ.2 a (by omega) b6).trans ((ah a (by omega)).trans (ae a i b6 ap))))
    ·exact(Ab _ Ag).trans ((a8 _ (by omega)).trans b5.l)
    exact(Ab _ Ag).trans ((a8 _ (by omega)).trans b5.m)
   have bT:L0 (fun a=>a7.n≤a∧a<p.n) p (.slice N a0 a1) a2.1.vars:=by
    rcases b4 with a9|⟨g,c,ab,ac⟩
    ·exact .inl a9
    exact .inr ⟨g,c,ab,ac,aI _ _ ab⟩
   rcases av with⟨ab,ac⟩|⟨a9,l,ac,bG,aF,b6⟩
   ·injection ac with aw ai ax
    subst aw ai ax;simp only[go_sem,V,ao,aD,bO,bP,bR,bL];have a8:∀a,a<p.n→((p.new (.cells [S a2.1.name,I a4,.slice N a0 a1])).new (.cells [S a2.1.name,I a4,.slice N a0 a1])).get a=p.get a:=fun a i=>by simp only[go_sem,i]
    obtain⟨b7,b8,b9,ba,bb,bc⟩:=bS ((p.new (.cells [S a2.1.name,I a4,.slice N a0 a1])).new (.cells [S a2.1.name,I a4,.slice N a0 a1])) (.slice (W ⟨p.n+1,0,Z⟩) 1 3) (Am (Am aI _) _) (by simp only[go_sem];omega) (fun a i=>a8 a (by omega))
     ⟨p.n+1,[(a4,.slice N a0 a1)],by rw[ab],by omega,by rw[h_ (bQ.trans ab)];exact Ae _,by rw[h_ (bQ.trans ab)];exact⟨bT.imp fun a a5 i o=>⟨a8 a o.2,by omega,by omega⟩,trivial⟩⟩
    refine bB (k+1) _ _ ⟨b7,b8,b9,ba,bb,bc,?_,?_,?_,?_,?_,?_,?_⟩ (by omega)<;>simp only[go_sem,V,aT,aU,aV,ao,aW,aC]
   injection ac with aw ai ax
   have cJ:=ai.symm;subst aw ax cJ;have cK:=au _ _ aF;have bU:=(aJ.2 a9 (by omega) (by omega)).trans ((ah a9 cK).trans aF);have cL:=aI _ _ bU;have cM:W_ k 999999=true:=Eg;have dd:=UK b6;have cN:take? (Fs l ad.1) (k*3)=W (Fs l ad.1):=by rw[Bn (by omega),L_ (by omega)]
   have cO:(e.n==a9)=false:=Ag;simp only[go_sem,V,ao,aD,bO,bP,bR,bL,bU,cL,cM,cN,cO];have a8:∀a,a<p.n→a≠a9→(((p.new (.cells [S a2.1.name,I a4,.slice N a0 a1])).del a9).new (.cells (Fs l ad.1++[S a2.1.name,I a4,.slice N a0 a1]))).get a=p.get a:=fun a i aZ=>by
    have ai:(a==a9)=false:=Ag aZ;simp only[go_sem,i,ai]
   have cP:EC (fun a=>a≠a9∧n.n≤a∧a<a7.n) p l ad.1:=b6.imp fun a a5 i o=>by
    have:=au _ _ i;exact⟨(aJ.2 a (by omega) (by omega)).trans (ah a this),o.1,o.2,by omega⟩
   have cQ:=EC.app (u:=(a4,.slice N a0 a1)) (s:=a2.1) (Q:=fun a=>a≠a9∧n.n≤a∧a<p.n) (h:=p) (bT.imp fun a a5 i o=>⟨J,by omega,by omega,o.2⟩) (cP.imp fun a a5 i o=>⟨J,o.1,o.2.1,by omega⟩);obtain⟨b7,b8,b9,ba,bb,bc⟩:=bS (((p.new (.cells [S a2.1.name,I a4,.slice N a0 a1])).del a9).new (.cells (Fs l ad.1++[S a2.1.name,I a4,.slice N a0 a1]))) (.slice (W ⟨p.n+1,0,Z⟩) (k+1) 3) (Am (Dm (Am aI _) _) _) (by simp only[go_sem];omega) (fun a i=>a8 a (by omega) (by omega))
    ⟨p.n+1,l++[(a4,.slice N a0 a1)],J,by omega,by rw[UL b6];exact Ae _,cQ.imp fun a a5 i o=>⟨a8 a o.2.2 o.1,by omega,o.2.1⟩⟩
   refine bB (k+1) _ _ ⟨b7,b8,b9,ba,bb,bc,?_,?_,?_,?_,?_,?_,?_⟩ (by omega)<;>simp only[go_sem,V,aT,aU,aV,ao,aW,aC]
 refine⟨bv,Y _,fun _ _ _ _=>rfl,c_ _,⟨(an _ (by omega)).trans cm,(an _ (by omega)).trans bm⟩,⟨_,bw,.inl ⟨J,J⟩⟩,?_,?_,?_,?_,?_,?_,?_⟩<;>simp only[go_sem,V]
 rfl
end
theorem EC.Wd{b:Nat→Prop}{h c:AH}(d:∀a i,h.get a=W (.cells (C3 i))→c.get a=h.get a):∀{e:List (Int×k_)} {f:List Sn},EC b h e f→EC b c e f
 |[],[],_=>trivial
 |_::_,_::_,⟨a,j⟩=>⟨by
  rcases a with a|⟨k,l,g,m⟩
  ·exact .inl a
  exact .inr ⟨k,l,(d _ _ g).trans g,m⟩,EC.Wd d j⟩
 |[],_::_,h=>h.elim
 |_::_,[],h=>h.elim
def VwA(c:Nat)(h:AH)(d:k_)(e:List Sn)(f:List H)(g i j:Int):Prop:=∃a b,d=.agg #[a,b,I g,I i,I j]∧Ap4 c h a e∧L6 h b f
section
variable{h:AH}{xs:List Int}{xv pv:Value}{P:List Fd}
theorem Au0{ac i:Ms}(s:Wh h)(ad:D6 P)(ar:(Aw P).e=0)(p:E3 h P pv)(t:Ub h xv xs)(au:d≤200)(av:Ih P=a)(aw:a<(Bh P).2.length)(ax:(Aw P).size[a]? =W (b:Int))(ay:b≤100000)(az:∀aA∈(Bh P).1,aA.ok)
  (aB:Hb (Bh P).2 (Aw P).size [] (Bh P).1 c (Je (Bh P).2 (Aw P).size a)=W ac) (ae:To (Bh P).2 (Aw P).size xs (Bh P).1 d ac i) (aC:∀t∈BR (Bh P).1 i.Ba,t.in' P.length (Az P 0).length) (aD:i.out.length≤100000):
  AR 8 [pv,.agg #[S [],xv,.slice Z 0 0,.slice Z 0 0],I d] h (fun e q=>VwA h.n q e (Ci P i.heap.lists (BR (Bh P).1 i.Ba) []).1 i.out i.CA i.status i.Jp∧Ext h q):=by
 obtain⟨af,ag,rfl⟩:=t.sl;obtain⟨aE,b2,b3,b4,b5,b6,rfl,aF,aG,u⟩:=id p;obtain⟨j,r,k,aH⟩:∃j r k,aE=.slice j r k:=by obtain⟨g,l,e,m,n⟩:=aF;obtain⟨j,k,f⟩:=e.slice;exact⟨j,_,k,f⟩
 obtain⟨z,A,aI⟩:=aG.slice;obtain⟨F,K,aJ⟩:=u.t.sl;obtain⟨L,N,aK⟩:=u.sl.sl;obtain⟨a0,a1,aL⟩:=u.g.sl;obtain⟨a2,a3,aM⟩:=u.z.sl;subst aH aI aJ aK aL aM;refine eF Tryz.func8 ?_;simp only[go_sem,V];have a4:=((s.new (.cells [.slice j r k,.slice z (AK P 0).length A,.slice F (Aw P).types.length K,.slice L (Aw P).Ac.length N,.slice a0 (Aw P).fns.length a1,.slice a2 (Aw P).size.length a3])).new (.cells [S [],.slice af xs.length ag,.slice Z 0 0,.slice Z 0 0])).new (.cells [.slice Z 0 0,.slice Z 0 0,I 0,I 0,I 0]);refine AM a4 0x133301115 ?_;simp only[go_sem,V];have a5:Ext h (((h.new (.cells [.slice j r k,.slice z (AK P 0).length A,.slice F (Aw P).types.length K,.slice L (Aw P).Ac.length N,.slice a0 (Aw P).fns.length a1,.slice a2 (Aw P).size.length a3])).new (.cells [S [],.slice af xs.length ag,.slice Z 0 0,.slice Z 0 0])).new (.cells [.slice Z 0 0,.slice Z 0 0,I 0,I 0,I 0])):=fun n a6=>by simp only[go_sem,a6]
 refine Aj (Ok.wf a4 (Aps a4 ad (p.ext s a5) (t.ext s a5) au av aw ax ay az aB ae)) ?_;rintro _ q aN ⟨ah,b7,b8,b9,rfl,aO,aP,aQ,⟨aR,aS⟩,a7⟩;have ba:h.n+3≤q.n:=aN;have ai:=a5.trans (by simp only[go_sem];omega) a7;have aT:=(a7 h.n (by simp only[go_sem])).trans (show _=W (AO.cells [.slice j r k,.slice z (AK P 0).length A,.slice F (Aw P).types.length K,.slice L (Aw P).Ac.length N,.slice a0 (Aw P).fns.length a1,.slice a2 (Aw P).size.length a3])by simp only[go_sem]);have aU:=(a7 (h.n+2) (by show h.n+2<h.n+3;omega)).trans (show _=W (AO.cells [.slice Z 0 0,.slice Z 0 0,I 0,I 0,I 0])by simp only[go_sem]);have bb:h.n<q.n:=by omega
 simp only[go_sem,V,aT];obtain⟨aV,aj⟩:=Ah3 aS;have a8:=ae.wl2;have aW:∀e∈BR (Bh P).1 i.Ba,(∀n∈e.Ac,n.ok)∧e.Ac.length≤100000:=fun e g=>⟨aR e g,by
  cases l:i.Ba with
  |nil=>rw[l]at g;cases g
  |cons p o=>
   rw[l]at g;simp only[BR]at g;rcases e_.1 g with g|g
   ·rw[ag_]at g
    obtain⟨a9,m,rfl⟩:=Z_.1 g;exact(a8.m a9 (by rw[l];exact p_ _ m)).2.2.2.2
   rw[f_]at g;subst g;exact(a8.m p (by rw[l];exact v_ ..)).2.2.2.2⟩
 refine Aj (Ok.wf ah (Amp ah ad ar (p.ext s ai) aP ⟨aV,fun o aa=>(aj o aa).1,fun o aa=>(aj o aa).2⟩ aO aC aW (by rw[KP];exact a8.l) aQ aD)) ?_;rintro _ ak bc ⟨bd,aX,aY,rfl,al,am,an⟩;have aZ:=ai.trans (by omega) an;have ab:=(an (h.n+2) (by omega)).trans aU;have be:h.n+2<ak.n:=by omega
 obtain⟨bf,bg,bh,rfl⟩:∃v c b,aX=.slice v c b:=by
  rcases al with⟨_,f⟩|⟨w,x,f,_⟩
  ·exact⟨_,_,_,f⟩
  exact⟨_,_,_,f⟩
 obtain⟨bi,bj,bk,rfl⟩:∃v c b,aY=.slice v c b:=by
  rcases am with⟨_,v,b,f⟩|⟨w,f,_⟩
  ·exact⟨_,_,_,f⟩
  exact⟨_,_,_,f⟩
 simp only[go_sem,V,ab];refine⟨⟨_,_,J,?_,am.Wd fun l a m=>Ab _ (Ag fun f=>LB a (m.symm.trans ((Akv _ f).trans ab)))⟩,fun n a6=>(Ab _ Ag).trans (aZ n a6)⟩;have ao:∀l y,ak.get l=W y→y≠.cells [.slice Z 0 0,.slice Z 0 0,I 0,I 0,I 0]→l≠h.n+2:=fun l y m b0 f=>by
  rw[f,ab]at m;exact b0 (Option.some.inj m).symm
 rcases al with a9|⟨w,x,f,bl,ap,b1⟩
 ·exact .inl a9
 refine .inr ⟨w,x,f,by omega,(Ab _ (Ag (ao w _ ap fun e=>?_))).trans ap,?_⟩
 ·injection e with e
  cases x with
  |nil=>cases e
  |cons bm x=>cases aq:(Ci P i.heap.lists (BR (Bh P).1 i.Ba) []).1 with
   |nil=>rw[aq]at e;cases e
   |cons n o=>rw[aq]at e;injection e with e _;cases e
 refine EC.imp (fun l y m g=>⟨J,g.1,by have:=g.2;omega⟩) (EC.Wd (fun l a m=>?_) b1);refine Ab _ (Ag (ao l _ m fun e=>?_));injection e with e
 cases a with
 |nil=>cases e
 |cons n o=>injection e with e _;cases e
end
theorem Uy{a:Pr}{c:BinOp}{b:Array Field}(d e f g:H)(i:(HC a b.toList 0&&(!a.P.stoodInHeld u&& !a.P.eqGuardType a.P.depth u))=true)(j:b.toList.length=2):Lf a c u [S d,S e] [S f,S g] (W (.struct b))=KV c ([d,e]==[f,g]):=by show Av (HC a b.toList 0&&(!a.P.stoodInHeld u&& !a.P.eqGuardType a.P.depth u)) (Av (Nat.beq 2 b.toList.length&&Nat.beq 2 b.toList.length) (KV c ([d,e]==[f,g])) Z) Z=_;rw[i,j];rfl
theorem Ao6{a:Pr}{g i:V_}(b c d e:H){f:Array Field}(j:a.CY u=W (.struct f))(k:(HC a f.toList 0&&(!a.P.stoodInHeld u&& !a.P.eqGuardType a.P.depth u))=true)(l:f.toList.length=2):
  Cu a .neq u g i (.agg #[S b,S c]) (.agg #[S d,S e])=W (.bool (!([b,c]==[d,e]))):=by
 show orElse' (Lf a .neq u [S b,S c] [S d,S e] (a.CY u)) _=_;rw[j,Uy b c d e k l];rfl
def Aub:Array Field:=match pr.CY 74 with
 |some (.struct a)=>a
 |_=> #[]
theorem Avw:pr.CY 74=W (.struct Aub):=by kernel_rfl
theorem AAe:(HC pr Aub.toList 0&&(!pr.P.stoodInHeld 74&& !pr.P.eqGuardType pr.P.depth 74))=true:=by kernel_rfl
theorem AAd:Aub.toList.length=2:=by kernel_rfl
theorem Axz(e f:V_)(a b c d:H):Cu pr .neq 74 e f (.agg #[S a,S b]) (.agg #[S c,S d])=W (.bool (!([a,b]==[c,d]))):=Ao6 a b c d Avw AAe AAd
section
variable{h:AH}
theorem Awr:∀{a:List H} {b:Nat} {c:H},a[b]? =W c→nth? (a.map S) b=W (S c):=fun{a b c} h=>by
 rw[Du,P_,h];rfl
theorem WM(k:Wh h){a:List H}(d:L6 h v a)(b:L6 h w a)(P:a.length≤1000000):AR 17 [v,w] h (fun y z=>y=.bool true∧z=h):=by
 obtain⟨m,n,rfl⟩:∃d f,v=.slice d a.length f:=by
  rcases d with⟨rfl,d,f,rfl⟩|⟨b,rfl,_⟩
  ·simp
  simp
 obtain⟨o,p,rfl⟩:∃d f,w=.slice d a.length f:=by
  rcases b with⟨rfl,d,f,rfl⟩|⟨b,rfl,_⟩
  ·simp
  simp
 refine eF Tryz.func17 ?_;have A:((a.length:Int) != (a.length:Int))=false:=by simp
 simp only[go_sem,V,A];refine AG (fun(c:Nat) e i=>i=h∧c≤a.length∧e.at 0=.slice m a.length n∧e.at 1=.slice o a.length p∧e.at 5=I c) (fun c=>a.length-c) ?_ 0 ?_
 ·rintro c e i ⟨rfl,a0,j,q,l⟩ F
  cases r:decide ((c:Int)<a.length)with
  |false=>
   simp only[go_sem,V,j,l,r]
  |true=>
   have g:c<a.length:=by simp_all
   have s:=b_ g;generalize a[c]=t at s;obtain⟨a1,rfl,rfl,u⟩:∃b,m=W ⟨b,0,Z⟩∧n=1∧i.get b=W (.cells (a.map S)):=by
    rcases d with⟨rfl,_⟩|⟨b,e,K⟩
    ·cases g
    simp_all
   obtain⟨a2,rfl,rfl,x⟩:∃b,o=W ⟨b,0,Z⟩∧p=1∧i.get b=W (.cells (a.map S)):=by
    rcases b with⟨rfl,_⟩|⟨b,e,K⟩
    ·cases g
    simp_all
   have a3:=k _ _ u;have a4:=k _ _ x;have K:=Awr s;have L:w_ .i64 ((c:Int)+1)=((c+1:Nat):Int):=by rw[Ap]<;>omega
   have N:(t==t)=true:=by simp
   simp only[go_sem,V,j,l,r];refine AM k 0x1010001000 ?_;simp only[go_sem,V,j,q,l,u,x,g,K,N,L];refine F (c+1) _ _ ⟨J,g,?_,?_,?_⟩ (by omega)<;>simp only[go_sem,V,j,q]
 refine⟨J,c_ _,?_,?_,?_⟩<;>simp only[go_sem,V]
 rfl
def YS(h:AH)(c:k_)(a:List Sn):Prop:=(a=[]∧c=.slice Z 0 0)∨∃d b,c=.slice (W ⟨d,0,Z⟩) a.length 3∧h.get d=W (.cells (Fs b a))∧(∀e∈b,e.1=0)∧EC (fun _=>True) h b a
theorem Zj{e:Nat→Prop}:∀{b:List (Int×k_)} {c:List Sn} {i:Nat} {d:Sn},EC e h b c→c[i]? =W d→∃a,b[i]? =W a∧L0 e h a.2 d.vars∧sub? (Fs b c) (i*3) 3=W [S d.name,I a.1,a.2]
 |[],[],_,_,_,h=>by cases h
 |a::b,f::c,0,d,⟨g,_⟩,h=>by
  cases h;refine⟨a,J,g,?_⟩;rw[ah_,BK,Bn (by simp[Fs])];rfl
 |a::b,f::c,i+1,d,⟨_,g⟩,h=>by
  obtain⟨j,m,k,l⟩:=Zj (i:=i) g (by simpa using h);refine⟨j,by simp_all,k,?_⟩;rw[show(i+1)*3=i*3+1+1+1 by omega];exact l
 |[],_::_,_,_,h,_=>h.elim
 |_::_,[],_,_,h,_=>h.elim
theorem Ow:∀(c:List (H×H)) (a:Nat) (b:H×H),c[a]? =W b→sub? (C3 c) (a*2) 2=W [S b.1,S b.2]
 |[],_,_,h=>by cases h
 |x::c,0,b,h=>by
  cases h;rw[ah_,BK,Bn (by simp[C3])];rfl
 |x::c,a+1,b,h=>by
  have d:=Ow c a b (by simp_all);rw[show(a+1)*2=a*2+1+1 by omega];exact d
theorem L0.slice{c:Nat→Prop}{b:List (H×H)}(a:L0 c h v b):∃a d,v=.slice a b.length d:=by
 rcases a with⟨rfl,rfl⟩|⟨e,rfl,_⟩
 ·simp
 simp
theorem YS.slice{b:List Sn}(a:YS h v b):∃a c,v=.slice a b.length c:=by
 rcases a with⟨rfl,rfl⟩|⟨d,e,rfl,_⟩
 ·simp
 simp
theorem YS.at{a:List Sn}(k:YS h v a){i:Nat}{d:Sn}(e:a[i]? =W d):∃b c f,v=.slice (W ⟨b,0,Z⟩) a.length 3∧h.get b=W (.cells (Fs c a))∧L0 (fun _=>True) h f d.vars∧sub? (Fs c a) (i*3) 3=W [S d.name,I 0,f]:=by
 rcases k with⟨rfl,_⟩|⟨b,c,l,m,n,o⟩
 ·cases e
 obtain⟨g,p,q,j⟩:=Zj o e;rw[n g (z_ p)]at j;exact⟨b,c,g.2,l,m,q,j⟩
theorem Agg(n:Wh h){c1 c2 a0 a1:k_}{e:List Sn}{g:List H}{j k l:Int}(af:YS h c1 e)(ag:YS h c2 e)(a2:L6 h a0 g)(a3:L6 h a1 g)(bb:g.length≤100000)(bc:e.length≤100000)(aK:∀a∈e,a.vars.length≤100000):
  AR 9 [.agg #[c1,a0,I j,I k,I l],.agg #[c2,a1,I j,I k,I l]] h (fun b c=>b=.bool true∧Ext h c):=by
 obtain⟨ah,a4,rfl⟩:=af.slice;obtain⟨ai,a5,rfl⟩:=ag.slice;obtain⟨aj,ak,rfl⟩:∃s c,a0=.slice s g.length c:=by
  rcases a2 with⟨rfl,s,c,rfl⟩|⟨i,rfl,_⟩
  ·simp
  simp
 obtain⟨al,am,rfl⟩:∃s c,a1=.slice s g.length c:=by
  rcases a3 with⟨rfl,s,c,rfl⟩|⟨i,rfl,_⟩
  ·simp
  simp
 refine eF Tryz.func9 ?_;simp only[go_sem,V];generalize t:(h.new (.cells [.slice ah e.length a4,.slice aj g.length ak,I j,I k,I l])).new (.cells [.slice ai e.length a5,.slice al g.length am,I j,I k,I l])=o;have an:Wh o:=by rw[←t];exact(n.new _).new _
 have bd:o.n=h.n+2:=by rw[←t];rfl
 have y:Ext h o:=fun aL p=>by rw[←t];simp only[go_sem,p]
 have ao:o.get h.n=W (.cells [.slice ah e.length a4,.slice aj g.length ak,I j,I k,I l]):=by rw[←t];simp only[go_sem]
 have ap:o.get (h.n+1)=W (.cells [.slice ai e.length a5,.slice al g.length am,I j,I k,I l]):=by rw[←t];simp only[go_sem]
 have aM:h.n<o.n:=by omega
 have aN:h.n+1<o.n:=by omega
 refine Aa (WM an (a2.ext n y) (a3.ext n y) (by omega)) ?_;rintro _ aq be ⟨rfl,rfl⟩;have aO:(j !=j)=false:=by simp
 have aP:(k !=k)=false:=by simp
 have aQ:(l !=l)=false:=by simp
 have aR:((e.length:Int) != (e.length:Int))=false:=by simp
 simp only[go_sem,V,ao,ap,aO,aP,aQ,aR];refine AG (fun(f:Nat) d b=>Wh b∧aq.n≤b.n∧Ext aq b∧f≤e.length∧d.at 2=AA h.n∧d.at 3=AA (h.n+1)∧d.at 6=I f) (fun f=>e.length-f) ?_ 0 ?_
 ·rintro f d b ⟨a6,bf,u,bg,q,v,r⟩ aS
  have ar:=(u h.n aM).trans ao;have aT:=(u (h.n+1) aN).trans ap;have bh:h.n<b.n:=by omega
  have aU:h.n+1<b.n:=by omega
  cases au:decide ((f:Int)<e.length)with
  |false=>
   simp only[go_sem,V,q,r,ar,au];exact y.trans (by omega) u
  |true=>
   have z:f<e.length:=by simp_all
   have a7:=b_ z;have av:=J_ z;generalize e[f]=a at a7 av;have bi:=aK a av;obtain⟨aw,bj,bk,a8,ax,ay,aV⟩:=af.at a7;obtain⟨a9,bl,bm,aa,az,aA,aW⟩:=ag.at a7;injection a8 with a8 _ aX
   injection aa with aa _ aY
   subst a8 aa aX aY;have ab:Ext h b:=y.trans (by omega) u;have aB:=(ab aw (n _ _ ax)).trans ax;have aC:=(ab a9 (n _ _ az)).trans az;have bn:=a6 _ _ aB;have aZ:=a6 _ _ aC;obtain⟨A,F,rfl⟩:=ay.slice;obtain⟨K,L,rfl⟩:=aA.slice;have b0:w_ .i64 ((f:Int)+1)=((f+1:Nat):Int):=by rw[Ap]<;>omega
   have b1:(a.name==a.name)=true:=by simp
   have b2:((0:Int) !=0)=false:=J;have b3:((a.vars.length:Int) != (a.vars.length:Int))=false:=by simp
   have bo:(aw==b.n)=false:=Ag;have bp:(a9==b.n)=false:=Ag;have bq:(a9==b.n+1)=false:=Ag;simp only[go_sem,V,q,v,r,ar,aT,aU,au,aB,aC,aZ,z,aV,aW,b1,b2,b3];have w:Wh ((((b.new (.cells [S [],I 0,.slice Z 0 0])).put b.n (.cells [S a.name,I 0,.slice A a.vars.length F])).new (.cells [S [],I 0,.slice Z 0 0])).put (b.n+1) (.cells [S a.name,I 0,.slice K a.vars.length L])):=
    Ar (Am (Ar (Am a6 _) (i_ _) _) _) (by simp only[go_sem];omega) _
   generalize N:(((b.new (.cells [S [],I 0,.slice Z 0 0])).put b.n (.cells [S a.name,I 0,.slice A a.vars.length F])).new (.cells [S [],I 0,.slice Z 0 0])).put (b.n+1) (.cells [S a.name,I 0,.slice K a.vars.length L])=m at w;have br:m.n=b.n+2:=by rw[←N];rfl
   have aD:Ext b m:=fun aL p=>by rw[←N];simp only[go_sem,p]
   have ac:m.get b.n=W (.cells [S a.name,I 0,.slice A a.vars.length F]):=by rw[←N];simp only[go_sem]
   have b4:m.get (b.n+1)=W (.cells [S a.name,I 0,.slice K a.vars.length L]):=by rw[←N];exact Ai _ _
   have a4:b.n<m.n:=by omega
   have a5:b.n+1<m.n:=by omega
   have aE:Ext h m:=ab.trans (by omega) aD;refine AG (fun(c:Nat) d aF=>aF=m∧c≤a.vars.length∧d.at 2=AA h.n∧d.at 3=AA (h.n+1)∧d.at 6=I f∧d.at 7=AA b.n∧d.at 8=AA (b.n+1)∧d.at 9=I c) (fun c=>a.vars.length-c) ?_ 0 ?_
   ·rintro c d aF ⟨rfl,bs,q,v,r,P,aG,ad⟩ b5
    cases aH:decide ((c:Int)<a.vars.length)with
    |false=>
     simp only[go_sem,V,r,P,ad,ac,aH,b0];refine aS (f+1) _ _ ⟨w,by omega,u.trans (by omega) aD,z,?_,?_,?_⟩ (by omega)<;>simp only[go_sem,V,q,v]
    |true=>
     have ae:c<a.vars.length:=by simp_all
     have p:=b_ ae;generalize a.vars[c]=x at p;have b6:=Ow a.vars c x p;obtain⟨b7,rfl,rfl,aI⟩:∃i,A=W ⟨i,0,Z⟩∧F=2∧h.get i=W (.cells (C3 a.vars)):=by
      rcases ay with⟨d,_⟩|⟨i,d,b8,_⟩
      ·simp_all
      simp_all
     obtain⟨b9,rfl,rfl,aJ⟩:∃i,K=W ⟨i,0,Z⟩∧L=2∧h.get i=W (.cells (C3 a.vars)):=by
      rcases aA with⟨d,_⟩|⟨i,d,b8,_⟩
      ·simp_all
      simp_all
     have c1:=(aE b7 (n _ _ aI)).trans aI;have c2:=(aE b9 (n _ _ aJ)).trans aJ;have a2:=w _ _ c1;have a3:=w _ _ c2;have b8:([x.1,x.2]==[x.1,x.2])=true:=by simp
     have ba:w_ .i64 ((c:Int)+1)=((c+1:Nat):Int):=by rw[Ap]<;>omega
     simp only[go_sem,V,P,ad,ac,aH];refine AM w 0x101001010010 ?_;simp only[go_sem,V,P,aG,ad,ac,b4,c1,c2,ae,b6,Axz,b8,ba];refine b5 (c+1) _ _ ⟨J,ae,?_,?_,?_,?_,?_,?_⟩ (by omega)<;>simp only[go_sem,V,q,v,r,P,aG]
   refine⟨J,c_ _,?_,?_,?_,?_,?_,?_⟩<;>simp only[go_sem,V,q,v,r]
   rfl
 refine⟨an,Y _,Ext.refl _,c_ _,?_,?_,?_⟩<;>simp only[go_sem,V]
 rfl
end
def Sh(a:Tok):Prop:=(a.kind=1→HR a.text=true∧CG a.text 0<9223372036854775808)∧(a.kind=2→WN a.text)∧(a.kind=3→DN a.text)
def TI(c:List Tok):Prop:=∃a b,c=a++[b]∧b.kind=0∧∀d∈a,Sh d
theorem TI.more{e:List Tok}(f:TI e)(j:(e.headD F0).kind≠0):∃a c i,e=a::c::i∧Sh a∧TI (c::i):=by
 obtain⟨b,d,rfl,g,h⟩:=f;cases b with
 |nil=>exact absurd g j
 |cons a b=>cases b with
  |nil=>exact⟨a,d,[],J,h a (v_ ..),[],d,J,g,fun _ f=>by cases f⟩
  |cons c b=>exact⟨a,c,b++[d],J,h a (v_ ..),c::b,d,J,g,fun k l=>h k (p_ _ l)⟩
structure Gx(c0 c:Nat)(s t:PN):Prop where
 ti:TI t.P.Ax
 dp:t.P.deep=s.P.deep
 er:t.P.e=0→s.P.e=0
 le:t.P.Ax.length≤s.P.Ax.length
 c2:s.P.e=0→t.N.length+t.P.Ax.length≤s.N.length+s.P.Ax.length+c
 c3:s.P.e≠0→t.N.length+t.P.Ax.length≤s.N.length+s.P.Ax.length+c0
structure Jm(c0 c:Nat)(s:PN):Prop where
 ti:TI s.P.Ax
 d0:0≤s.P.deep
 d1:s.P.deep≤16
 l:s.P.Ax.length≤900
 c2:s.P.e=0→s.N.length+s.P.Ax.length+c≤5000
 c3:s.P.e≠0→s.N.length+s.P.Ax.length+c0≤5000
theorem Gx.refl{a:PN}(b:TI a.P.Ax)(c d:Nat):Gx c d a a:=⟨b,J,id,Y _,fun _=>by omega,fun _=>by omega⟩
abbrev Cn(b a:PN):Prop:=a.P.e=0→a.N.length+a.P.Ax.length≤b.N.length+b.P.Ax.length
theorem Gx.trans{h i f j k0 k:Nat}{g d l:PN}(b:Gx h i g d)(m:Cn g d)(a:Gx f j d l)(h1:h+f≤k0)(e:i+f≤k)(n:j≤k):Gx k0 k g l where
 ti:=a.ti
 dp:=a.dp.trans b.dp
 er c:=b.er (a.er c)
 le:=x_ a.le b.le
 c2 c:=by have:=b.c2 c;have:=a.c2;have:=a.c3;have:=m;omega
 c3 c:=by have:=b.c3 c;have e:d.P.e≠0:=fun e=>c (b.er e);have:=a.c3 e;omega
theorem Jm.next{h i d0 d j c:Nat}{e f:PN}(b:Jm j c e)(a:Gx h i e f)(k:Cn e f)(m:h+d0≤j)(n:i+d0≤c)(o:d≤c):Jm d0 d f where
 ti:=a.ti
 d0:=by rw[a.dp];exact b.d0
 d1:=by rw[a.dp];exact b.d1
 l:=x_ a.le b.l
 c2 g:=by have:=b.c2 (a.er g);have:=k g;omega
 c3 g:=by have:=b.c2;have:=b.c3;have:=a.c2;have:=a.c3;omega
theorem Gx.Qi{g h:PN}(e:Gx a b g h)(i:a≤c)(j:b≤d):Gx c d g h:=
 ⟨e.ti,e.dp,e.er,e.le,fun f=>by have:=e.c2 f;omega,fun f=>by have:=e.c3 f;omega⟩
theorem Ca{a:PS}{d:List H}(c:a.is d=true):a.e=0∧(a.Ax.headD F0).kind≠0∧CT a.next.text d=true:=by
 unfold PS.is at c;simp only[r_,aj_,beq_iff_eq]at c;obtain⟨⟨e,b⟩,f⟩:=c;refine⟨e,?_,f⟩;rcases b with b|b
 ·show a.next.kind≠0
  rw[b];decide
 show a.next.kind≠0;rw[b];decide
theorem GG{a:PS}(b:a.kind x=true)(c:x≠0):a.e=0∧(a.Ax.headD F0).kind≠0∧a.next.kind=x:=by unfold PS.kind at b;simp only[r_,beq_iff_eq]at b;refine⟨b.1,?_,b.2⟩;show a.next.kind≠0;rw[b.2];exact c
theorem Hh{s:PN}(a:TI s.P.Ax)(b:s.P.e=0)(g:(s.P.Ax.headD F0).kind≠0):Gx 0 0 s s.take∧s.take.P.e=0∧s.take.N=s.N∧s.take.P.Ax.length+1=s.P.Ax.length∧Sh s.P.next:=by
 obtain⟨e,c,h,f,i,j⟩:=a.more g;have k:s.take.P.Ax=c::h:=by
  show(match s.P.Ax with
   |e::c::d=>c::d
   |d=>d)=_
  rw[f]
 have d:s.P.next=e:=by unfold PS.next;rw[f];rfl
 have l:s.take.N=s.N:=J;refine⟨⟨by simp_all,J,fun _=>b,?_,fun _=>?_,fun a=>absurd b a⟩,b,J,?_,by simp_all⟩
 ·simp_all
 ·simp_all
 simp_all
theorem LH{s:PN}{b:List H}(c:TI s.P.Ax)(a:s.P.is b=true):Gx 0 0 s s.take∧s.take.P.e=0∧s.take.N=s.N∧s.take.P.Ax.length+1=s.P.Ax.length∧Sh s.P.next:=
 Hh c (Ca a).1 (Ca a).2.1
theorem HD{a:PN}(b:TI a.P.Ax)(d:x≠0):Gx 0 0 a (a.fail x)∧¬ (a.fail x).P.e=0∧(a.fail x).N=a.N:=by
 have f:(a.fail x).P.Ax=a.P.Ax:=by show(a.P.fail x).Ax=_;unfold PS.fail;split<;>rfl
 have e:(a.fail x).P.deep=a.P.deep:=by show(a.P.fail x).deep=_;unfold PS.fail;split<;>rfl
 have c:¬ (a.fail x).P.e=0:=by
  show¬ (a.P.fail x).e=0;unfold PS.fail;split
  ·exact d
  omega
 have g:(a.fail x).N=a.N:=J;exact⟨⟨by simp_all,e,fun b=>absurd b c,by simp_all,fun _=>by simp_all,fun _=>by simp_all⟩,c,J⟩
theorem Kl{a:PN}(c:TI a.P.Ax)(b:H):Gx 0 0 a (a.Ao b)∧(a.Ao b).N=a.N∧((a.Ao b).P.e=0→(a.Ao b).P.Ax.length+1=a.P.Ax.length):=by
 cases d:a.P.is [b]with
 |true=>
  have e:a.Ao b=a.take:=by show({a with P:=a.P.Ao b}:PN)={a with P:=a.P.take};unfold PS.Ao;rw[d];rfl
  rw[e];obtain⟨f,h,g,i,_⟩:=LH c d;exact⟨f,g,fun _=>i⟩
 |false=>
  have e:a.Ao b=a.fail 20:=by show({a with P:=a.P.Ao b}:PN)={a with P:=a.P.fail 20};unfold PS.Ao;rw[d];rfl
  rw[e];obtain⟨f,h,g⟩:=HD c (show(20:Int)≠0 by decide);exact⟨f,g,fun c=>absurd c h⟩
def PN.named(a:PN):PN:={a with P:=a.P.name.2}
theorem ZL{a:PN}(b:TI a.P.Ax):Gx 0 0 a a.named∧a.named.N=a.N∧(a.named.P.e=0→a.named.P.Ax.length+1=a.P.Ax.length∧DN a.P.name.1):=by
 cases c:a.P.kind 3 with
 |true=>
  have d:=GG c (by decide);have e:a.named=a.take:=by unfold PN.named PS.name;rw[c];rfl
  have i:a.P.name.1=a.P.next.text:=by unfold PS.name;rw[c];rfl
  rw[e,i];obtain⟨f,h,g,j,k⟩:=Hh b d.1 d.2.1;exact⟨f,g,fun _=>⟨j,k.2.2 d.2.2⟩⟩
 |false=>
  have e:a.named=a.fail 20:=by unfold PN.named PS.name;rw[c];rfl
  rw[e];obtain⟨f,h,g⟩:=HD b (show(20:Int)≠0 by decide);exact⟨f,g,fun b=>absurd b h⟩
theorem Atc{a:PN}(c:TI a.P.Ax)(d:a.N.length<900000)(b:Nd):BS a b=W ((a.N.length:Int),a.put b)∧Gx 1 1 a (a.put b)∧(a.put b).P=a.P∧(a.put b).N=a.N++[b]:=by
 refine⟨by unfold BS Nl;rw[Aeu d];rfl,⟨c,J,id,Y _,fun _=>?_,fun _=>?_⟩,J,J⟩
 ·show(a.N++[b]).length+_≤_
  rw[M];show a.N.length+1+a.P.Ax.length≤_;omega
 show(a.N++[b]).length+_≤_;rw[M];show a.N.length+1+a.P.Ax.length≤_;omega
def L9(b c:Int)(a:Nat):Nat:=if b≤c then a else a+1
def Xp.dp:Xp→Nat
 |.int _|.bool _|.text _|.var _=>0
 |.index _ a|.len a=>a.dp+1
 |.neg a|.no a=>L9 5 a.DM a.dp+1
 |.bin a b c=>max (L9 (F3 ((BN a DO).getD 0)) b.DM b.dp) (L9 ((BN a DO).getD 0+1) c.DM c.dp)
theorem PI{a b l:Int}{d:Nat}(c:a≤b):L9 a l d≤L9 b l d:=by unfold L9;split<;>split<;>omega
theorem Ajh(b c:Int)(a:Nat):a≤L9 b c a:=by unfold L9;split<;>omega
theorem Auk(b c:Int)(a:Nat):L9 b c a≤a+1:=by unfold L9;split<;>omega
structure Rd(m:Int)(s t:PN)(x:Int)(e:Xp):Prop where
 g:e.A6
 n:t.N.map AU=s.N.map AU++e.fl s.N.length
 x:x=top s.N.length e.sz
 d:(L9 m e.DM e.dp:Int)+s.P.deep≤16
 l:e.sz+t.P.Ax.length≤s.P.Ax.length
theorem Rd.len{b c:PN}{a:Xp}(d:Rd x b c y a):c.N.length=b.N.length+a.sz:=by have:=Akv G_ d.n;rw[d_,M,d_,a.Af]at this;exact this
def cE(a:Int):Nat:=(10*(17-a)).toNat
def Prs(d:Int)(e:Nat)(f:Fq)(b:PN):Prop:=∃c a,f b=W (c,a)∧Gx 0 e b a∧(a.P.e=0→∃g:Xp,Rd d b a c g)
theorem Rd.cn{a b:PN}{d:Xp}(c:Rd x a b y d):b.N.length+b.P.Ax.length≤a.N.length+a.P.Ax.length:=by have:=c.len;have:=c.l;omega
theorem Gx.deep{e d:PN}(c:Gx a b (e.deep (e.P.deep+1)) d):Gx a b e (d.deep (d.P.deep-1)):=
 ⟨c.ti,by have:d.P.deep=e.P.deep+1:=c.dp;show d.P.deep-1=_;omega,c.er,c.le,c.c2,c.c3⟩
theorem C1(a:0≤x)(b:x≤17):BY x=true:=by unfold BY;rw[Aeu (by omega: -100≤x),Aeu (by omega:x≤100)];rfl
theorem Bo{c:Type}{a:Bool}{b:Option c}(d:a=true):Nl a b=b:=by rw[d];rfl
theorem TJ{d:Int}(a:0≤d)(b:d≤16):cE (d+1)+10=cE d:=by unfold cE;omega
section
variable{rec:Fq}{src:H}
def MR(rec:Fq)(b:Nat):Prop:=∀a,Jm 0 (cE a.P.deep) a→17≤b+a.P.deep→Prs 0 (cE a.P.deep) rec a
theorem Tc{k:Nat}(x:MR rec k){s:PN}(c:Jm 0 (cE (s.P.deep+1)) s)(a2:16≤k+s.P.deep)(j e:H):
  ∃h a,D9 rec j e s=W (h,a)∧Gx 0 (cE (s.P.deep+1)) s a∧(a.P.e=0→∃b:Xp,b.A6∧a.N.map AU=s.N.map AU++b.fl s.N.length∧h=top s.N.length b.sz∧(b.dp:Int)+s.P.deep+1≤16∧b.sz+a.P.Ax.length+2≤s.P.Ax.length):=by
 unfold D9;cases y:s.P.is [j]with
 |false=>
  obtain⟨f,g,_⟩:=HD c.ti (show(20:Int)≠0 by decide);exact⟨_,_,J,f.Qi (c_ _) (c_ _),fun a=>absurd a g⟩
 |true=>
  rw[Aa9,Bo (C1 c.d0 (by have:=c.d1;omega))];cases n:decide (16≤s.P.deep)with
  |true=>
   obtain⟨f,g,_⟩:=HD c.ti (show(21:Int)≠0 by decide);exact⟨_,_,J,f.Qi (c_ _) (c_ _),fun a=>absurd a g⟩
  |false=>
   have n:=Adh n;have d0:=c.d0;have z:(s.deep (s.P.deep+1)).P.is [j]=true:=y;obtain⟨o,a3,p,a4,_⟩:=LH (s:=s.deep (s.P.deep+1)) c.ti z;have l:(s.deep (s.P.deep+1)).take.P.deep=s.P.deep+1:=J;have A:Jm 0 (cE (s.P.deep+1)) (s.deep (s.P.deep+1)):=⟨c.ti,by show 0≤s.P.deep+1;omega,by show s.P.deep+1≤16;omega,c.l,c.c2,c.c3⟩;have m:Cn (s.deep (s.P.deep+1)) (s.deep (s.P.deep+1)).take:=fun _=>by rw[p];omega
   have F:=A.next o m (d0:=0) (d:=cE (s.P.deep+1)) (Y _) (c_ _) (Y _);obtain⟨h,f,K,i,q⟩:=x _ F (by rw[l];omega);rw[l]at i;have L:=o.trans m i (k0:=0) (k:=cE (s.P.deep+1)) (Y _) (c_ _) (Y _);have N:Cn (s.deep (s.P.deep+1)) f:=fun a=>by
    obtain⟨b,g⟩:=q a;have:=g.cn;have:=m (i.er a);omega
   obtain⟨r,P,t⟩:=Kl i.ti e;have u:=L.trans N r (k0:=0) (k:=cE (s.P.deep+1)) (Y _) (Y _) (c_ _);have a0:(f.Ao e).P.deep=s.P.deep+1:=u.dp;refine⟨h,(f.Ao e).deep ((f.Ao e).P.deep-1),?_,u.deep,fun a=>?_⟩
   ·rw[Acf,K]
    show Nl _ _=_;exact Bo (by rw[a0];exact C1 (by omega) (by omega))
   have a:(f.Ao e).P.e=0:=a;obtain⟨b,g⟩:=q (r.er a);have v:=g.x;have w:=g.n;have a5:=g.l;have a1:=g.d;have:=t a;have:=Ajh 0 b.DM b.dp;rw[p]at v w;rw[l]at a1;have a6:(f.Ao e).P.Ax.length+1=f.P.Ax.length:=t a;have a7:(s.deep (s.P.deep+1)).P.Ax.length=s.P.Ax.length:=J;refine⟨b,g.g,?_,v,by omega,?_⟩
   ·show(f.Ao e).N.map AU=_
    rw[P];exact w
   show b.sz+(f.Ao e).P.Ax.length+2≤_;omega
theorem Rd.of{b c:PN}{a:Xp}{nd:Nd}{l:List Nd}(f:a.A6)(d:c.N.map AU=b.N.map AU++l)(e:a.fl b.N.length=l++[AU nd])(g:(L9 x a.DM a.dp:Int)+b.P.deep≤16)(h:a.sz+c.P.Ax.length≤b.P.Ax.length):Rd x b (c.put nd) (c.N.length:Int) a:=by
 have i:=Akv G_ d;have j:=Akv G_ e;have k:=a.Ey;rw[d_,M,d_]at i;rw[a.Af,M,a_,l_]at j;refine⟨f,?_,?_,g,h⟩
 ·show(c.N++[nd]).map AU=_
  rw[aa_,d,e,g_];rfl
 show(c.N.length:Int)=((b.N.length+a.sz-1:Nat):Int);congr 1;omega
theorem HK{i e:PN}(j:Jm c d i)(f:Gx a b i e)(m:Cn i e)(n:a+1≤c∨(a=0∧c=0∧i.P.e=0))(o:b+1≤d)(nd:Nd):BS e nd=W ((e.N.length:Int),e.put nd)∧Gx c d i (e.put nd):=by
 have k:e.N.length<900000:=by have:=j.c2;have:=j.c3;have:=f.c2;have:=f.c3;by_cases g:i.P.e=0<;>omega
 obtain⟨l,h,_,_⟩:=Atc f.ti k nd;refine⟨l,h.ti,h.dp.trans f.dp,fun g=>f.er (h.er g),x_ h.le f.le,fun g=>?_,fun g=>?_⟩
 ·have:=f.c2 g
  have:=h.c2;have:=h.c3;by_cases g:e.P.e=0<;>omega
 have:=f.c3 g;have:=h.c2;have:=h.c3;by_cases g:e.P.e=0<;>omega
theorem Axt:L9 6 6 a=a:=Agd (C_ _)
theorem Ajg(b:x≤y):L9 x y a=a:=Agd b
theorem Auz{k:Nat}(a1:MR rec k){a:PN}(c:Jm 0 (cE (a.P.deep+1)+1) a)(v:16≤k+a.P.deep):Prs 6 (cE (a.P.deep+1)+1) (Iw rec src) a:=by
 have a9:=c.d1;have a5:Jm 0 (cE (a.P.deep+1)) a:=⟨c.ti,c.d0,c.d1,c.l,fun i=>by have:=c.c2 i;omega,c.c3⟩;unfold Prs Iw;have s:∀(b:Xp) (nd:Nd),a.P.e=0→(a.P.Ax.headD F0).kind≠0→b.A6→b.DM=6→b.dp=0→b.sz=1→b.fl a.N.length=[AU nd]→∃e f,BS a.take nd=W (e,f)∧Gx 0 (cE (a.P.deep+1)+1) a f∧(f.P.e=0→∃b:Xp,Rd 6 a f e b):=by intro b nd g v h q r a2 z;obtain⟨j,o,m,t,_⟩:=Hh c.ti g v;obtain⟨A,F⟩:=HK c j (fun _=>by rw[m];omega) (.inr ⟨J,J,g⟩) (by omega) nd;refine⟨_,_,A,F,fun _=>⟨b,Rd.of (l:=[]) h (by rw[m,M_]) (by rw[z];rfl) ?_ (by omega)⟩⟩;rw[q,r,Axt];omega
 have a3:∀(n:PN) (K L:H) (mk:Xp→Xp) (nd:Int→Nd),Gx 0 0 a n→n.N=a.N→n.P.e=0→n.P.Ax.length+1=a.P.Ax.length→(∀b,b.A6→(mk b).A6)→(∀b,(mk b).DM=6)→(∀b,(mk b).dp=b.dp+1)→(∀b,(mk b).sz=b.sz+1)→(∀b k,(mk b).fl k=b.fl k++[AU (nd (top k b.sz))])→
   ∃e f,((D9 rec K L n).bind fun g=>BS g.2 (nd g.1))=W (e,f)∧Gx 0 (cE (a.P.deep+1)+1) a f∧(f.P.e=0→∃b:Xp,Rd 6 a f e b):=by
  intro n K L mk nd j m o t h q r a2 z;have N:Cn a n:=fun _=>by rw[m];omega
  have g:=j.dp;have a6:=c.next j N (d0:=0) (d:=cE (n.P.deep+1)) (Y _) (c_ _) (by rw[g];omega);obtain⟨e,f,P,w,x⟩:=Tc a1 a6 (by rw[g];exact v) K L;rw[g]at w;have a7:Cn a f:=fun i=>by
   obtain⟨b,y,p,u,a0,a4⟩:=x i;have:=Akv G_ p;rw[d_,M,d_,b.Af]at this;have:=N o;omega
  have a8:=j.trans N w (k0:=0) (k:=cE (a.P.deep+1)) (Y _) (c_ _) (Y _);obtain⟨A,F⟩:=HK c a8 a7 (.inr ⟨J,J,j.er o⟩) (by omega) (nd e);refine⟨_,_,by rw[P];exact A,F,fun i=>?_⟩;obtain⟨b,y,p,u,a0,a4⟩:=x i;rw[m]at p u;refine⟨mk b,Rd.of (h b y) p (by rw[z,u]) ?_ (by rw[a2];omega)⟩;rw[q,r,Axt];rw[g]at a0;omega
 cases A:a.P.kind 1 with
 |true=>
  obtain⟨g,h,q⟩:=GG A (by decide);obtain⟨_,_,_,_,r⟩:=Hh c.ti g h;obtain⟨F,z⟩:=r.1 q;rw[Aa9,Bo (by rw[F];exact(by rw[Bool.true_and];exact X_ z))];exact s (.int (CG a.P.next.text 0)) _ g h z J J J J
 |false=>
 rw[Acf];cases F:a.P.kind 2 with
 |true=>
  obtain⟨g,h,q⟩:=GG F (by decide);obtain⟨_,_,_,_,r⟩:=Hh c.ti g h;exact s (.text a.P.next.text) _ g h (r.2.1 q) J J J J
 |false=>
 rw[Acf];cases N:a.P.kind 3 with
 |true=>
  obtain⟨g,h,q⟩:=GG N (by decide);obtain⟨j,o,m,t,r⟩:=Hh c.ti g h;rw[Aa9];cases z:a.take.P.is [[91]]with
  |true=>exact a3 a.take [91] [93] (.index a.P.next.text) (fun e=>⟨5,a.P.line src,0,a.P.next.text,[e]⟩) j m o t (fun b i=>⟨r.2.2 q,i⟩) (fun _=>rfl) (fun _=>rfl) (fun _=>rfl) fun _ _=>rfl
  |false=>exact s (.var a.P.next.text) _ g h (r.2.2 q) J J J J
 |false=>
 rw[Acf];cases z:a.P.is [FV]with
 |true=>
  obtain⟨g,h,_⟩:=Ca z;exact s (.bool true) _ g h trivial J J J J
 |false=>
 rw[Acf];cases q:a.P.is [Ec]with
 |true=>
  obtain⟨g,h,_⟩:=Ca q;exact s (.bool false) _ g h trivial J J J J
 |false=>
 rw[Acf];cases g:a.P.is [LD]with
 |true=>
  obtain⟨j,o,m,t,_⟩:=LH c.ti g;exact a3 a.take [40] [41] .len (fun e=>⟨6,a.P.line src,0,[],[e]⟩) j m o t (fun b i=>i) (fun _=>rfl) (fun _=>rfl) (fun _=>rfl) fun _ _=>rfl
 |false=>
 rw[Acf];obtain⟨e,f,P,w,x⟩:=Tc a1 a5 v [40] [41];refine⟨e,f,P,w.Qi (Y _) (n_ _),fun i=>?_⟩;obtain⟨b,y,p,u,a0,a4⟩:=x i;exact⟨b,y,p,u,by have:=Auk 6 b.DM b.dp;omega,by omega⟩
theorem VT{k:Nat}(z:MR rec k):∀(f:Nat) (a:PN),Jm 0 (cE (a.P.deep+1)+2) a→16≤k+a.P.deep→17≤f+a.P.deep→Prs 5 (cE (a.P.deep+1)+2) (B3 rec src f) a
 |0,a,c,_,P=>by have:=c.d1;omega
 |f+1,a,c,a0,P=>by
  have A:∀(m:Int) (mk:Xp→Xp),a.P.e=0→(a.P.Ax.headD F0).kind≠0→(∀b,b.A6→(mk b).A6)→(∀b,(mk b).DM=5)→(∀b,(mk b).dp=L9 5 b.DM b.dp+1)→(∀b,(mk b).sz=b.sz+1)→(∀b k,(mk b).fl k=b.fl k++[nd m 0 [] [top k b.sz]])→(∃i j,Jo (B3 rec src f) m (a.P.line src) a=W (i,j)∧Gx 0 (cE (a.P.deep+1)+2) a j∧(j.P.e=0→∃b:Xp,Rd 5 a j i b)):=by
   intro m mk r a1 a2 a3 a4 a5 a6;unfold Jo;rw[Bo (C1 c.d0 (by have:=c.d1;omega))];cases F:decide (16≤a.P.deep)with
   |true=>
    obtain⟨o,t,u⟩:=HD c.ti (show(21:Int)≠0 by decide);obtain⟨v,w⟩:=HK c o (fun e=>absurd e t) (.inr ⟨J,J,r⟩) (by omega) ⟨m,a.P.line src,0,[],[0]⟩;exact⟨_,_,v,w,fun e=>absurd e t⟩
   |false=>
    have F:=Adh F;have d0:=c.d0;obtain⟨o,t,u,ad,_⟩:=Hh (s:=a.deep (a.P.deep+1)) c.ti r a1;have p:(a.deep (a.P.deep+1)).take.P.deep=a.P.deep+1:=J;have ae:=TJ (d:=a.P.deep+1) (by omega) (by omega);have a7:Jm 0 (cE (a.P.deep+1)+1) (a.deep (a.P.deep+1)):=⟨c.ti,by show 0≤a.P.deep+1;omega,by show a.P.deep+1≤16;omega,c.l,fun e=>by have:a.P.e=0:=e;have:=c.c2 this;show a.N.length+a.P.Ax.length+_≤_;omega,c.c3⟩;have x:Cn (a.deep (a.P.deep+1)) (a.deep (a.P.deep+1)).take:=fun _=>by rw[u];omega
    have a8:=a7.next o x (d0:=0) (d:=cE (a.P.deep+1+1)+2) (Y _) (c_ _) (by omega);obtain⟨i,h,y,n,q⟩:=VT z f _ a8 (by rw[p];omega) (by rw[p];omega);rw[p]at n;have K:=o.trans x n (k0:=0) (k:=cE (a.P.deep+1)) (Y _) (c_ _) (by omega);have a9:Cn (a.deep (a.P.deep+1)) h:=fun e=>by
     obtain⟨b,g⟩:=q e;have:=g.cn;have:=x (n.er e);omega
    have aa:h.P.deep=a.P.deep+1:=K.dp;have ab:Cn a (h.deep (h.P.deep-1)):=a9;obtain⟨v,w⟩:=HK c K.deep ab (.inr ⟨J,J,r⟩) (by omega) ⟨m,a.P.line src,0,[],[i]⟩;refine⟨((h.deep (h.P.deep-1)).N.length:Int),_,?_,w,fun e=>?_⟩
    ·rw[Acf,y]
     show Nl _ _=_;rw[Bo (by rw[aa];exact C1 (by omega) (by omega))];exact v
    obtain⟨b,g⟩:=q e;have L:=g.x;have N:=g.n;have af:=g.l;have ac:=g.d;rw[u]at L N;rw[p]at ac;have ag:(a.deep (a.P.deep+1)).P.Ax.length=a.P.Ax.length:=J;refine⟨mk b,Rd.of (a2 b g.g) (l:=b.fl a.N.length) N (by rw[a6,L];rfl) ?_ ?_⟩
    ·rw[a3,a4,Ajg (C_ 5)];omega
    rw[a5];show _+h.P.Ax.length≤_;omega
  unfold Prs B3;cases p:a.P.is [[33]]with
  |true=>
   obtain⟨h,o,_⟩:=Ca p;exact A 8 .no h o (fun _ e=>e) (fun _=>rfl) (fun _=>rfl) (fun _=>rfl) fun _ _=>rfl
  |false=>
   rw[Acf];cases r:a.P.is [[45]]with
   |true=>
    obtain⟨h,o,_⟩:=Ca r;exact A 7 .neg h o (fun _ e=>e) (fun _=>rfl) (fun _=>rfl) (fun _=>rfl) fun _ _=>rfl
   |false=>
    have h:Jm 0 (cE (a.P.deep+1)+1) a:=⟨c.ti,c.d0,c.d1,c.l,fun e=>by have:=c.c2 e;omega,c.c3⟩;obtain⟨i,j,y,n,q⟩:=Auz (src:=src) z h a0;refine⟨i,j,y,n.Qi (Y _) (n_ _),fun e=>?_⟩;obtain⟨b,g⟩:=q e;exact⟨b,g.g,g.n,g.x,by have:=g.d;have:=PI (l:=b.DM) (d:=b.dp) (show(5:Int)≤6 by decide);omega,g.l⟩
end
theorem SA(h:a≤4)(c:CT s (Bz a)=true):BN s DO=W (a:Int):=by
 have d:∀a≤4,∀s∈Bz a,BN s DO=W (a:Int):=by decide
 refine d a h s ?_;have:∀b:List H,CT s b=true→s∈b:=by
  intro b;induction b with
  |nil=>intro h;cases h
  |cons f b e=>
   intro h;unfold CT at h;rw[aj_]at h;rcases h with h|h
   ·rw[eq_of_beq h];exact v_ ..
   exact p_ _ (e h)
 exact this _ c
section
variable{src:H}
theorem Ahz{z:Fq}{lv c:Nat}(A:lv≤4){g:PN}(t:Jm 0 (c+1) g)(F:∀a,a.P.deep=g.P.deep→Jm 0 c a→Prs (lv+1:Nat) c z a){line:Int}:∀(f:Nat) (m:Int) (a:PN),a.P.Ax.length<f→Gx 0 (c+1) g a→(a.P.e=0→∃b,Rd (bif ((lv:Nat):Int)==2 then 3 else(lv:Int)) g a m b)→
  ∃n h,KB z (Bz lv) (((lv:Nat):Int)==2) line f m a=W (n,h)∧Gx 0 (c+1) g h∧(h.P.e=0→∃b,Rd lv g h n b)
 |0,_,_,e,_,_=>absurd e (Y_ _)
 |f+1,m,a,ah,p,u=>by
  unfold KB;cases K:a.P.is (Bz lv)with
  |false=>
   refine⟨m,a,J,p,fun e=>?_⟩;obtain⟨b,i⟩:=u e;refine⟨b,i.g,i.n,i.x,?_,i.l⟩;have j:=i.d;have q:L9 (lv:Int) b.DM b.dp≤L9 (bif ((lv:Nat):Int)==2 then 3 else(lv:Int)) b.DM b.dp:=PI (by
    cases e:((lv:Nat):Int)==2 with
    |true=>have:=eq_of_beq e;rw[Aa9];omega
    |false=>exact C_ _)
   omega
  |true=>
   rw[Aa9];obtain⟨L,_,a6⟩:=Ca K;have v:=SA A a6;obtain⟨b,i⟩:=u L;have w:=p.er L;obtain⟨x,a7,r,ai,_⟩:=LH p.ti K;have aj:Cn g a:=fun _=>i.cn;have s:Gx 0 0 g a.take:=by refine⟨x.ti,x.dp.trans p.dp,fun _=>w,x_ x.le p.le,fun _=>?_,fun e=>absurd w e⟩;rw[r];have:=i.cn;omega
   have y:Cn g a.take:=fun _=>by rw[r];have:=i.cn;omega
   have a8:=t.next s y (d0:=0) (d:=c) (Y _) (c_ _) (n_ _);obtain⟨n,h,a9,N,P⟩:=F a.take (s.dp) a8;have aa:=s.trans y N (k0:=0) (k:=c) (Y _) (c_ _) (Y _);have ab:Cn g h:=fun e=>by
    obtain⟨j,o⟩:=P e;have:=o.cn;have:=y a7;omega
   obtain⟨ac,a0⟩:=HK t aa ab (.inr ⟨J,J,w⟩) (Y _) ⟨9,line,0,a.P.next.text,[m,n]⟩;have a1:(h.put ⟨9,line,0,a.P.next.text,[m,n]⟩).P.e=0→∃b:Xp,b.DM=(lv:Int)∧Rd (lv:Int) g (h.put ⟨9,line,0,a.P.next.text,[m,n]⟩) (h.N.length:Int) b:=fun e=>by
    obtain⟨j,o⟩:=P e;have a2:=i.len;have a3:=o.n;have a4:=o.x;have ak:=o.l;have al:=i.l;have am:=i.d;have ad:=o.d;rw[r,i.n,a2]at a3;rw[r,a2]at a4;have a5:(Xp.bin a.P.next.text b j).DM=(lv:Int):=by show(BN a.P.next.text DO).getD 0=_;rw[v];rfl
    refine⟨.bin a.P.next.text b j,a5,Rd.of (l:=b.fl g.N.length++j.fl (g.N.length+b.sz)) ⟨by rw[v];rfl,i.g,o.g⟩ (by rw[a3,g_]) ?_ ?_ ?_⟩
    ·show b.fl _++j.fl _++[nd 9 0 a.P.next.text [top g.N.length b.sz,top (g.N.length+b.sz) j.sz]]=_
     rw[←i.x,←a4];rfl
    ·rw[a5,Ajg (C_ _)]
     show((max (L9 (F3 ((BN a.P.next.text DO).getD 0)) b.DM b.dp) (L9 ((BN a.P.next.text DO).getD 0+1) j.DM j.dp):Nat):Int)+_≤_;rw[v];have ae:F3 ((W (lv:Int)).getD 0)=(bif ((lv:Nat):Int)==2 then 3 else(lv:Int)):=by
      show F3 (lv:Int)=_;unfold F3;cases e:((lv:Nat):Int)==2 with
      |true=>have:=eq_of_beq e;rw[Aa9,Aa9];omega
      |false=>rfl
     rw[ae];have af:a.take.P.deep=g.P.deep:=s.dp;rw[af]at ad;have ag:((W (lv:Int)).getD 0+1)=((lv+1:Nat):Int):=by show(lv:Int)+1=_;omega
     rw[ag];omega
    show b.sz+j.sz+1+h.P.Ax.length≤_;omega
   rw[a9];show∃n h,(BS _ _).bind _=_∧_;rw[ac];show∃a2 a3,(bif (((lv:Nat):Int)==2)then _ else _)=W (a2,a3)∧_;cases q:((lv:Nat):Int)==2 with
   |true=>
    refine⟨_,_,J,a0,fun e=>?_⟩;obtain⟨j,_,o⟩:=a1 e;exact⟨j,o⟩
   |false=>
    rw[q]at u;have a4:h.P.Ax.length≤a.take.P.Ax.length:=N.le;have:=Ahz A t F (line:=line) f (h.N.length:Int) (h.put ⟨9,line,0,a.P.next.text,[m,n]⟩) (by show h.P.Ax.length<f;omega) a0 (fun e=>by
     rw[q,Acf];obtain⟨j,_,o⟩:=a1 e;exact⟨j,o⟩)
    rw[q]at this;exact this
theorem TE{rec:Fq}{k:Nat}(h:MR rec k):∀(d:Nat),d≤5→∀(a:PN),Jm 0 (cE (a.P.deep+1)+2+d) a→17≤k+a.P.deep+1→Prs (5-d:Nat) (cE (a.P.deep+1)+2+d) (Ee (B3 rec src 40) src d) a
 |0,_,a,b,i=>by
  have:=b.d0;exact VT h 40 a b (by omega) (by omega)
 |d+1,w,a,b,i=>by
  have n:Jm 0 (cE (a.P.deep+1)+2+d) a:=⟨b.ti,b.d0,b.d1,b.l,fun e=>by have:=b.c2 e;omega,b.c3⟩;obtain⟨o,p,q,l,r⟩:=TE h d (by omega) a n i;have x:=l.le;have y:=b.l;unfold Prs Ee;rw[q];have s:5-(d+1)=4-d:=by omega
  have m:(5-d:Nat)=4-d+1:=by omega
  rw[s];refine Ahz (c:=cE (a.P.deep+1)+2+d) (lv:=4-d) (by omega) b (fun t j u=>?_) 1000 o p (by omega) (l.Qi (Y _) (n_ _)) fun e=>?_
  ·have:=TE h d (by omega) t (by rw[j];exact u) (by rw[j];exact i)
   rw[j,m]at this;exact this
  obtain⟨f,g⟩:=r e;refine⟨f,g.g,g.n,g.x,?_,g.l⟩;have v:=g.d;rw[m]at v;have z:L9 (bif ((4-d:Nat):Int)==2 then 3 else((4-d:Nat):Int)) f.DM f.dp≤L9 ((4-d+1:Nat):Int) f.DM f.dp:=PI (by
   cases e:((4-d:Nat):Int)==2 with
   |true=>have:=eq_of_beq e;rw[Aa9];omega
   |false=>rw[Acf];omega)
  omega
theorem Ai7:∀k,MR (BH src k) k
 |0,b,a,c=>by have:=a.d1;omega
 |k+1,b,a,c=>by
  have l:=TJ a.d0 a.d1;have d:Jm 0 (cE (b.P.deep+1)+2+5) b:=⟨a.ti,a.d0,a.d1,a.l,fun e=>by have:=a.c2 e;omega,a.c3⟩;obtain⟨f,g,h,i,j⟩:=TE (src:=src) (Ai7 k) 5 (Y _) b d (by omega);exact⟨f,g,h,i.Qi (Y _) (by omega),j⟩
end
structure Rz(s t:PN)(y:Int)(m:List Nd)(k q:Nat):Prop where
 n:t.N.map AU=s.N.map AU++m
 x:y=top s.N.length k
 d:(q:Int)+s.P.deep≤16
 l:k+t.P.Ax.length≤s.P.Ax.length
 ln:m.length=k
theorem Rz.cn{c d:PN}{f:List Nd}(e:Rz c d x f a b):d.N.length+d.P.Ax.length≤c.N.length+c.P.Ax.length:=by have g:=Akv G_ e.n;rw[d_,M,d_,e.ln]at g;have:=e.l;omega
theorem Rz.len{c d:PN}{g:List Nd}(e:Rz c d x g a b):d.N.length=c.N.length+a:=by have f:=Akv G_ e.n;rw[d_,M,d_,e.ln]at f;exact f
theorem Rd.z{c d:PN}{a:Xp}(b:Rd y c d x a):Rz c d x (a.fl c.N.length) a.sz a.dp:=
 ⟨b.n,b.x,by have:=b.d;have:=Ajh y a.DM a.dp;omega,b.l,a.Af _⟩
theorem Rz.put{s t:PN}{l:List Nd}{n d:Nat}{nd:Nd}(a:t.N.map AU=s.N.map AU++l)(b:l.length+1=n)(c:(d:Int)+s.P.deep≤16)(e:n+t.P.Ax.length≤s.P.Ax.length):Rz s (t.put nd) (t.N.length:Int) (l++[AU nd]) n d:=by
 have f:=Akv G_ a;rw[d_,M,d_]at f;refine⟨?_,?_,c,e,by rw[M,y_];exact b⟩
 ·show(t.N++[nd]).map AU=_
  rw[aa_,a,g_];rfl
 show(t.N.length:Int)=((s.N.length+n-1:Nat):Int);congr 1;omega
theorem Aag:∀(a b:List Xp) (c:Nat),Tq (a++b) c=Tq a c++Tq b (c+Dq a)
 |[],_,_=>rfl
 |e::a,b,c=>by simp only[m_,Tq,Dq,Aag a b,g_,I_]
theorem Ut:∀(a b:List Xp) (c:Nat),AB (a++b) c=AB a c++AB b (c+Dq a)
 |[],_,_=>rfl
 |e::a,b,c=>by simp only[m_,AB,Dq,Ut a b,I_]
theorem Za:∀(b a:List Xp),Dq (b++a)=Dq b+Dq a
 |[],a=>by simp[Dq]
 |e::b,a=>by simp only[m_,Dq,Za b a,I_]
theorem RH:∀{b c:List Xp},G0 b→G0 c→G0 (b++c)
 |[],_,_,a=>a
 |_::_,_,⟨d,e⟩,a=>⟨d,RH e a⟩
theorem WV:∀a:List Xp,a.length≤Dq a
 |[]=>Y _
 |e::a=>by have:=WV a;have:=e.Ey;simp only[Dq,a_];omega
def LO:List Xp→Nat
 |[]=>0
 |e::a=>max e.dp (LO a)
theorem VW:∀(b a:List Xp),LO (b++a)=max (LO b) (LO a)
 |[],a=>by simp[LO]
 |e::b,a=>by simp only[m_,LO,VW b a];omega
def Rg.dp:Rg→Nat
 |.input=>0
 |.new a|.expr a=>a.dp
 |.call _ a=>LO a
section
variable{rec:Fq}{src:H}
structure Ra(s t:PN)(xs:List Int)(m:List Xp):Prop where
 g:G0 m
 n:t.N.map AU=s.N.map AU++Tq m s.N.length
 x:xs=AB m s.N.length
 d:(LO m:Int)+s.P.deep≤16
 l:Dq m+t.P.Ax.length≤s.P.Ax.length
theorem Ra.len{a b:PN}{c:List Xp}(e:Ra a b q c):b.N.length=a.N.length+Dq c:=by have d:=Akv G_ e.n;rw[d_,M,d_,DX]at d;exact d
theorem Ra.cn{a b:PN}{d:List Xp}(c:Ra a b q d):b.N.length+b.P.Ax.length≤a.N.length+a.P.Ax.length:=by have:=c.len;have:=c.l;omega
theorem YK{k:Nat}(t:MR rec k){a:PN}(u:Jm 0 (cE a.P.deep) a)(v:17≤k+a.P.deep)(w:a.P.e=0):∀(f:Nat) (m:Bool) (b:PN) (e:List Int),(cond m (b.P.Ax.length+2) 1)≤f→(m=true→e.length≤1000-b.P.Ax.length)→b.P.Ax.length≤900→Gx 0 (cE a.P.deep) a b→(m=true→b.P.e=0)→(b.P.e=0→∃g,Ra a b e g)→
  ∃p c,Fw rec f m b e=W (p,c)∧Gx 0 (cE a.P.deep) a c∧(c.P.e=0→∃g,Ra a c p g)
 |0,m,b,e,x,_,_,_,_,_=>by cases m<;>simp at x
 |f+1,false,b,e,_,_,_,i,_,y=>⟨e,b,J,i,y⟩
 |f+1,true,b,e,x,A,aa,i,a0,y=>by
  rw[Aa9]at x;have a1:=a0 J;have A:=A J;obtain⟨g,h⟩:=y a1;have F:Cn a b:=fun _=>h.cn;have K:Gx 0 0 a b:=⟨i.ti,i.dp,i.er,i.le,fun _=>by have:=h.cn;omega,fun j=>absurd w j⟩;have a2:=u.next K F (d0:=0) (d:=cE a.P.deep) (Y _) (c_ _) (Y _);have q:=i.dp;obtain⟨r,c,a3,s,L⟩:=t b (by rw[q];exact a2) (by rw[q];exact v);rw[q]at s;have N:=K.trans F s (k0:=0) (k:=cE a.P.deep) (Y _) (c_ _) (Y _);have ab:=s.le;have P:c.P.e=0→∃g,Ra a c (e++[r]) g:=fun j=>by
   obtain⟨o,l⟩:=L j;have n:=h.len;have z:=l.z.d;have a4:=h.d;have a5:=l.l;have a6:=h.l;refine⟨g++[o],RH h.g ⟨l.g,trivial⟩,?_,?_,?_,?_⟩
   ·rw[l.n,h.n,Aag,←n,g_];simp[Tq]
   ·rw[h.x,Ut,←n,l.x];rfl
   ·rw[VW]
    show((max (LO g) (max o.dp 0):Nat):Int)+_≤_;rw[q]at z;omega
   rw[Za];show Dq g+(o.sz+0)+_≤_;omega
  unfold Fw;rw[Aa9,Bo Gu,a3];show∃p a4,Fw rec f (c.P.is [[44]]) (bif c.P.is [[44]]then c.take else c) (e++[r])=W (p,a4)∧_;cases z:c.P.is [[44]]with
  |false=>
   rw[Acf];exact YK t u v w f false c (e++[r]) (by rw[Acf];omega) (fun j=>by cases j) (by omega) N (fun j=>by cases j) P
  |true=>
   rw[Aa9];obtain⟨a5,a6,a7,ac,_⟩:=LH s.ti z;obtain⟨o,l⟩:=L (Ca z).1;have ad:=l.l;have ae:=o.Ey;obtain⟨a8,n⟩:=P (Ca z).1;have a9:Cn a c:=fun _=>n.cn;refine YK t u v w f true c.take (e++[r]) (by rw[Aa9];omega) (fun _=>by simp;omega) (by omega) (N.trans a9 a5 (Y _) (Y _) (c_ _)) (fun _=>a6) fun _=>⟨a8,n.g,by rw[a7];exact n.n,n.x,n.d,by have:=n.l;omega⟩
theorem Ajx{k:Nat}(a0:MR rec k){a:PN}(e:Jm 1 (cE a.P.deep+1) a)(a1:17≤k+a.P.deep)(v:a.P.e=0):
  ∃m c,JX rec src a=W (m,c)∧Gx 1 (cE a.P.deep+1) a c∧(c.P.e=0→∃b d,DN b∧G0 d∧Rz a c m (Tq d a.N.length++[nd 21 0 b (AB d a.N.length)]) (Dq d+1) (LO d)):=by
 obtain⟨p,q,a2⟩:=ZL e.ti;obtain⟨w,x,a3⟩:=Kl p.ti [40];have a4:Cn a a.named:=fun b=>by rw[q];have:=p.le;omega
 have f:=p.trans a4 w (k0:=0) (k:=0) (Y _) (Y _) (Y _);have r:Cn a (a.named.Ao [40]):=fun b=>by rw[x,q];have:=f.le;omega
 have i:(a.named.Ao [40]).N=a.N:=x.trans q;have y:(a.named.Ao [40]).P.e=0→(a.named.Ao [40]).P.Ax.length+2=a.P.Ax.length∧DN a.P.name.1:=fun b=>by
  have:=a3 b;have j:=a2 (w.er b);exact⟨by omega,j.2⟩
 unfold JX;show∃m c,(bif (a.named.Ao [40]).P.is [[41]]then BS (a.named.Ao [40]).take ⟨21,a.P.line src,0,a.P.name.1,[]⟩else(Fw rec 1000 ((a.named.Ao [40]).P.e==0) (a.named.Ao [40]) []).bind fun z=>BS (z.2.Ao [41]) ⟨21,a.P.line src,0,a.P.name.1,z.1⟩)=W (m,c)∧_;have ab:=e.d1;cases A:(a.named.Ao [40]).P.is [[41]]with
 |true=>
  obtain⟨c1,c2,c3,g,_⟩:=LH f.ti A;obtain⟨a5,j⟩:=y (Ca A).1;have s:=f.trans r c1 (k0:=0) (k:=0) (Y _) (Y _) (Y _);obtain⟨t,u⟩:=HK e s (fun _=>by rw[c3,i];omega) (.inl (Y _)) (by omega) ⟨21,a.P.line src,0,a.P.name.1,[]⟩;exact⟨_,_,t,u,fun _=>⟨a.P.name.1,[],j,trivial,Rz.put (l:=[]) (by rw[c3,i,M_]) J (by show((0:Nat):Int)+_≤_;omega) (by show 0+1+_≤_;omega)⟩⟩
 |false=>
  rw[Acf];have g:=f.dp;have ac:=e.l;have ad:=f.le;have a6:Jm 0 (cE (a.named.Ao [40]).P.deep) (a.named.Ao [40]):=by rw[g];exact⟨f.ti,by rw[g];exact e.d0,by rw[g];exact e.d1,by omega,fun b=>by have:=e.c2 v;rw[i];omega,fun b=>by have:=e.c2 v;rw[i];omega⟩
  have a7:∃n c,Fw rec 1000 ((a.named.Ao [40]).P.e==0) (a.named.Ao [40]) []=W (n,c)∧Gx 0 (cE a.P.deep) (a.named.Ao [40]) c∧(c.P.e=0→∃d,Ra (a.named.Ao [40]) c n d):=by
   cases h:(a.named.Ao [40]).P.e==0 with
   |false=>exact⟨[],_,J,Gx.refl f.ti 0 _,fun b=>by rw[b]at h;cases h⟩
   |true=>
    have o:(a.named.Ao [40]).P.e=0:=eq_of_beq h;have:=YK a0 a6 (by rw[g];exact a1) o 1000 true (a.named.Ao [40]) [] (by rw[Aa9];omega) (fun _=>by simp) (by omega) (Gx.refl f.ti 0 _) (fun _=>o) fun _=>⟨[],trivial,by simp[Tq],J,by show((0:Nat):Int)+_≤_;rw[g];omega,by show 0+_≤_;omega⟩;rw[g]at this;exact this
  obtain⟨n,c,a8,o,F⟩:=a7;have s:=f.trans r o (k0:=0) (k:=cE a.P.deep) (Y _) (c_ _) (Y _);obtain⟨c1,c2,c3⟩:=Kl o.ti [41];have K:Cn a c:=fun b=>by
   obtain⟨d,h⟩:=F b;have:=h.cn;have:=r (o.er b);omega
  have a9:=s.trans K c1 (k0:=0) (k:=cE a.P.deep) (Y _) (Y _) (c_ _);have aa:Cn a (c.Ao [41]):=fun b=>by have:=K (c1.er b);rw[c2];have:=c1.le;omega
  obtain⟨t,u⟩:=HK e a9 aa (.inl (Y _)) (Y _) ⟨21,a.P.line src,0,a.P.name.1,n⟩;refine⟨_,_,by rw[a8];exact t,u,fun b=>?_⟩;have b:(c.Ao [41]).P.e=0:=b;obtain⟨d,h⟩:=F (c1.er b);obtain⟨a5,j⟩:=y (o.er (c1.er b));have ae:=c3 b;have af:=h.l;have L:=h.d;have N:=h.n;have P:=h.x;rw[g]at L;rw[i]at N P;subst P;exact⟨a.P.name.1,d,j,h.g,Rz.put (by rw[c2];exact N) (by rw[DX]) L (by omega)⟩
theorem Aao{a:PN}(b:TI a.P.Ax):∃c,EV a=W c∧(a.P.e≠0→c=false):=by
 unfold EV;cases d:a.P.kind 3 with
 |false=>exact⟨false,J,fun _=>rfl⟩
 |true=>
  obtain⟨e,f,_⟩:=GG d (by decide);obtain⟨h,i,j,g,_,_⟩:=b.more f;rw[g];exact⟨_,J,fun b=>absurd e b⟩
theorem Al5{k:Nat}(u:MR rec k){s:PN}(b:Jm 0 (cE s.P.deep+1) s)(v:17≤k+s.P.deep):
  ∃f c,JB rec src s=W (f,c)∧Gx 0 (cE s.P.deep+1) s c∧(c.P.e=0→∃h:Rg,h.A6∧Rz s c f (h.fl s.N.length) h.sz h.dp):=by
 have a9:=b.d1;have pr:Jm 0 (cE s.P.deep) s:=⟨b.ti,b.d0,b.d1,b.l,fun a=>by have:=b.c2 a;omega,b.c3⟩;unfold JB;cases o:s.P.is [GZ]with
 |true=>
  obtain⟨p,N,m,P,_⟩:=LH b.ti o;obtain⟨w,x⟩:=HK b p (fun _=>by rw[m];omega) (.inr ⟨J,J,(Ca o).1⟩) (by omega) ⟨19,s.P.line src,0,[],[]⟩;exact⟨_,_,w,x,fun _=>⟨.input,trivial,Rz.put (l:=[]) (by rw[m,M_]) J (by show((0:Nat):Int)+_≤_;omega) (by show 1+_≤_;omega)⟩⟩
 |false=>
 rw[Acf];cases q:s.P.is [Cb]with
 |true=>
  obtain⟨p,N,m,P,_⟩:=LH b.ti q;have a0:=(Ca q).1;obtain⟨a1,a2,a3⟩:=Kl p.ti [40];have a4:Cn s s.take:=fun _=>by rw[m];omega
  have r:=p.trans a4 a1 (k0:=0) (k:=0) (Y _) (Y _) (Y _);have z:(s.take.Ao [40]).N=s.N:=a2.trans m;have y:Cn s (s.take.Ao [40]):=fun a=>by rw[z];have:=r.le;omega
  have t:=r.dp;have a5:=pr.next r y (d0:=0) (d:=cE s.P.deep) (Y _) (c_ _) (Y _);obtain⟨f,c,n,e,i⟩:=u _ (by rw[t];exact a5) (by rw[t];exact v);rw[t]at e;have a6:=r.trans y e (k0:=0) (k:=cE s.P.deep) (Y _) (c_ _) (Y _);obtain⟨c1,c2,c3⟩:=Kl e.ti [41];have A:Cn s c:=fun a=>by
   obtain⟨j,g⟩:=i a;have:=g.cn;have:=y (e.er a);omega
  have a7:=a6.trans A c1 (k0:=0) (k:=cE s.P.deep) (Y _) (Y _) (c_ _);have a8:Cn s (c.Ao [41]):=fun a=>by have:=A (c1.er a);rw[c2];have:=c1.le;omega
  obtain⟨w,x⟩:=HK b a7 a8 (.inr ⟨J,J,a0⟩) (Y _) ⟨20,s.P.line src,0,[],[f]⟩;refine⟨_,_,by rw[Aa9,n];exact w,x,fun a=>?_⟩;have a:(c.Ao [41]).P.e=0:=a;obtain⟨j,g⟩:=i (c1.er a);have aa:=c3 a;have ab:=a3 (e.er (c1.er a));have F:=g.z.n;have K:=g.x;have L:=g.z.d;have ac:=g.l;rw[z]at F K;rw[t]at L;subst K;exact⟨.new j,g.g,Rz.put (by rw[c2];exact F) (by rw[j.Af];rfl) L (by show j.sz+1+_≤_;omega)⟩
 |false=>
 rw[Acf];obtain⟨p,r,t⟩:=Aao b.ti;rw[r];show∃f c,(bif p then JX rec src s else rec s)=W (f,c)∧_;cases p with
 |true=>
  have m:s.P.e=0:=ae_ fun a=>by cases t a
  obtain⟨f,c,n,e,i⟩:=Ajx (src:=src) u ⟨b.ti,b.d0,b.d1,b.l,b.c2,fun a=>absurd m a⟩ v m;refine⟨f,c,n,⟨e.ti,e.dp,e.er,e.le,e.c2,fun a=>absurd m a⟩,fun a=>?_⟩;obtain⟨w,x,o,q,h⟩:=i a;exact⟨.call w x,⟨o,q⟩,h⟩
 |false=>
  obtain⟨f,c,n,e,i⟩:=u s pr v;refine⟨f,c,n,e.Qi (Y _) (n_ _),fun a=>?_⟩;obtain⟨j,g⟩:=i a;exact⟨.expr j,g.g,g.z⟩
end
structure Gn(c0 c:Nat)(s t:PN):Prop where
 g:Gx c0 c s t
 n:Cn s t
theorem Gn.trans{d e a f k0 k:Nat}{g h j:PN}(b:Gn d e g h)(c:Gn a f h j)(h1:d+a≤k0)(m:e+a≤k)(n:f≤k):Gn k0 k g j:=
 ⟨b.g.trans b.n c.g h1 m n,fun l=>by have:=c.n l;have:=b.n (c.g.er l);omega⟩
theorem Gn.refl{a:PN}(b:TI a.P.Ax):Gn 0 0 a a:=⟨Gx.refl b 0 0,fun _=>Y _⟩
theorem Gn.Qi{a b c k:Nat}{d e:PN}(f:Gn a b d e)(g:a≤c)(h:b≤k):Gn c k d e:=⟨f.g.Qi g h,f.n⟩
theorem Jm.on{a b d0 d c k:Nat}{e f:PN}(h:Jm c k e)(g:Gn a b e f)(j:a+d0≤c)(l:b+d0≤k)(m:d≤k):Jm d0 d f:=h.next g.g g.n j l m
theorem LI{s:PN}{b:List H}(c:TI s.P.Ax)(d:s.P.is b=true):Gn 0 0 s s.take∧s.take.P.e=0∧s.take.N=s.N∧s.take.P.Ax.length+1=s.P.Ax.length:=by obtain⟨e,f,a,g,_⟩:=LH c d;exact⟨⟨e,fun _=>by rw[a];omega⟩,f,a,g⟩
theorem EJ{a:PN}(c:TI a.P.Ax)(b:H):Gn 0 0 a (a.Ao b)∧(a.Ao b).N=a.N∧((a.Ao b).P.e=0→(a.Ao b).P.Ax.length+1=a.P.Ax.length):=by obtain⟨f,d,e⟩:=Kl c b;exact⟨⟨f,fun c=>by rw[d];have:=e c;omega⟩,d,e⟩
theorem NN{a:PN}(b:TI a.P.Ax):Gn 0 0 a a.named∧a.named.N=a.N∧(a.named.P.e=0→a.named.P.Ax.length+1=a.P.Ax.length∧DN a.P.name.1):=by obtain⟨e,c,d⟩:=ZL b;exact⟨⟨e,fun b=>by rw[c];have:=d b;omega⟩,c,d⟩
theorem Gn.ok{d e:PN}(c:Gn a b d e)(f:d.P.e=0):Gn 0 b d e:=⟨⟨c.g.ti,c.g.dp,c.g.er,c.g.le,c.g.c2,fun g=>absurd f g⟩,c.n⟩
theorem F8{d e b k:Nat}{c a:PN}(g:Jm b k c)(f:Gn d e c a)(h:d+1≤b∨(d=0∧b=0∧c.P.e=0))(j:e+1≤k)(nd:Nd):BS a nd=W ((a.N.length:Int),a.put nd)∧Gx b k c (a.put nd):=HK g f.g f.n h j nd
def Bl.snoc:Bl→Sm→Bl
 |.nil,a=>.cons a .nil
 |.cons b c,a=>.cons b (c.snoc a)
mutual
def Sm.dp:Sm→Nat
 |.lt _ a|.set _ a=>a.dp
 |.put _ a b=>max (a.dp+1) b.dp
 |.run _ a=>LO a
 |.print a|.ret a=>a.dp
 |.Fa=>0
 |.Kv a b|.KD a b=>max a.dp (b.dp+1)
 |.FP a b c=>max a.dp (max (b.dp+1) (c.dp+1))
def Bl.dp:Bl→Nat
 |.nil=>0
 |.cons a b=>max a.dp b.dp
end
theorem UJ(b:Sm):∀a:Bl,(a.snoc b).sz=a.sz+b.sz∧(∀k,(a.snoc b).fl k=a.fl k++b.fl (k+a.sz))∧(∀k,(a.snoc b).AB k=a.AB k++[top (k+a.sz) b.sz])∧(a.A6→b.A6→(a.snoc b).A6)∧(a.snoc b).dp=max a.dp b.dp
 |.nil=>⟨by simp[Bl.snoc,Bl.sz],fun k=>by simp[Bl.snoc,Bl.fl,Bl.sz],fun k=>by simp[Bl.snoc,Bl.AB,Bl.sz],fun _ c=>⟨c,trivial⟩,by simp[Bl.snoc,Bl.dp]⟩
 |.cons m d=>by
  obtain⟨e,f,g,h,j⟩:=UJ b d;refine⟨by simp only[Bl.snoc,Bl.sz,e];omega,fun k=>by simp only[Bl.snoc,Bl.fl,Bl.sz,f,g_,I_],fun k=>by simp only[Bl.snoc,Bl.AB,Bl.sz,g,m_,I_],fun c l=>⟨c.1,h c.2 l⟩,by simp only[Bl.snoc,Bl.dp,j];omega⟩
def cS(a:Int):Nat:=(20*(18-a)).toNat
theorem Aaq(a:0≤x)(b:x≤16):cS (x+1)+20=cS x:=by unfold cS;omega
theorem Arc(a:0≤x)(b:x≤16):cE x+3≤cS x:=by unfold cS cE;omega
abbrev BlR(b c:PN)(d:Int):Prop:=∃a:Bl,a.A6∧Rz b c d (a.fl b.N.length++[nd 18 0 [] (a.AB b.N.length)]) (a.sz+1) (a.dp+1)
abbrev SmR(b c:PN)(d:Int):Prop:=∃a:Sm,a.A6∧Rz b c d (a.fl b.N.length) a.sz a.dp
section
variable{rec i:Fq}{src:H}{k:Nat}
def Aqc(i:Fq)(k:Nat):Prop:=∀a,Jm 1 (cS (a.P.deep+1)+1) a→16≤k+a.P.deep→∃c b,i a=W (c,b)∧Gx 1 (cS (a.P.deep+1)+1) a b∧(b.P.e=0→BlR a b c)
theorem Aga(t:MR rec 40){s:PN}(f:Jm 1 (cE s.P.deep+2) s)(j n:Int)(l:H):
  ∃g b,Lg rec src j n l s=W (g,b)∧Gx 1 (cE s.P.deep+2) s b∧(b.P.e=0→∃a:Rg,a.A6∧Rz s b g (a.fl s.N.length++[nd j 0 l [top s.N.length a.sz]]) (a.sz+1) a.dp):=by
 have:=f.d0;obtain⟨m,u,v⟩:=EJ f.ti [61];have o:=m.g.dp;have L:=f.on m (d0:=0) (d:=cE s.P.deep+1) (by omega) (by omega) (by omega);obtain⟨g,b,w,h,p⟩:=Al5 (src:=src) t (s:=s.Ao [61]) (by simp_all) (by omega);rw[o]at h;have x:Gn 0 (cE s.P.deep+1) s b:=m.trans ⟨h,fun c=>by obtain⟨a,_,e⟩:=p c;exact e.cn⟩ (Y _) (by omega) (Y _);obtain⟨c1,c2,c3⟩:=EJ h.ti [59];have y:Gn 0 (cE s.P.deep+1) s (b.Ao [59]):=x.trans c1 (Y _) (by omega) (by omega);obtain⟨z,A⟩:=F8 f y (.inl (Y _)) (by omega) ⟨j,n,0,l,[g]⟩;refine⟨_,_,by unfold Lg;rw[w];exact z,A,fun c=>?_⟩;have c:(b.Ao [59]).P.e=0:=c;obtain⟨a,F,e⟩:=p (c1.g.er c);have N:=c3 c;have P:=v (h.er (c1.g.er c));have K:=e.n;have q:=e.x;have r:=e.d;have a0:=e.l;rw[u]at K q;rw[o]at r;subst q;exact⟨a,F,Rz.put (by simp_all) (by rw[a.Af]) r (by omega)⟩
theorem Amy(w:MR rec 40){a:PN}(h:Jm 1 (cE a.P.deep+3) a)(n:Int):∃j c,HM rec src n a=W (j,c)∧Gx 1 (cE a.P.deep+3) a c∧(c.P.e=0→SmR a c j):=by
 have af:=h.d0;have ag:=h.d1;obtain⟨a4,ah,au⟩:=Aao h.ti;unfold HM;rw[ah];show∃j c,(bif a4 then(JX rec src a).bind fun l=>BS (l.2.Ao [59]) ⟨13,n,0,[],[l.1]⟩
  else bif a.named.P.is [[91]]then(D9 rec [91] [93] a.named).bind fun l=>(rec (l.2.Ao [61])).bind fun b=>BS (b.2.Ao [59]) ⟨12,n,0,a.P.name.1,[l.1,b.1]⟩
  else Lg rec src 11 n a.P.name.1 a.named)=W (j,c)∧_
 cases a4 with
 |true=>
  have L:a.P.e=0:=ae_ fun b=>by simp_all
  have N:=h.on (Gn.refl h.ti) (d0:=1) (d:=cE a.P.deep+1) (by omega) (by omega) (by omega);obtain⟨j,c,x,e,o⟩:=Ajx (src:=src) w N (by omega) L;obtain⟨c1,c2,c3⟩:=EJ e.ti [59];have P:Gn 0 (cE a.P.deep+1) a c:=⟨⟨e.ti,e.dp,e.er,e.le,e.c2,fun b=>absurd L b⟩,fun b=>by obtain⟨m,f,_,_,g⟩:=o b;exact g.cn⟩;have p:Gn 0 (cE a.P.deep+1) a (c.Ao [59]):=P.trans c1 (Y _) (by omega) (by omega);obtain⟨a5,a0⟩:=F8 h p (.inl (Y _)) (by omega) ⟨13,n,0,[],[j]⟩;refine⟨_,_,by rw[Aa9,x];exact a5,a0,fun b=>?_⟩;have b:(c.Ao [59]).P.e=0:=b;obtain⟨m,f,r,t,g⟩:=o (c1.g.er b);have ai:=c3 b;have a6:=g.x;have q:=g.l;subst a6;exact⟨.run m f,⟨r,t⟩,Rz.put (by rw[c2];exact g.n) (by rw[g.ln];rfl) g.d (by show Dq f+2+_≤_;omega)⟩
 |false=>
  rw[Acf];obtain⟨m,a7,a8⟩:=NN h.ti;have y:=m.g.dp;cases a9:a.named.P.is [[91]]with
  |true=>
   have L:a.P.e=0:=m.g.er (Ca a9).1;obtain⟨aj,a1⟩:=a8 (Ca a9).1;have av:=TJ af ag;have N:=h.on m (d0:=0) (d:=cE (a.P.deep+1)) (by omega) (by omega) (by omega);obtain⟨j,c,x,e,o⟩:=Tc w (s:=a.named) (by simp_all) (by omega) [91] [93];rw[y]at e;have ak:c.P.e=0→∃f:Xp,f.A6∧c.N.map AU=a.N.map AU++f.fl a.N.length∧j=top a.N.length f.sz∧(f.dp:Int)+a.P.deep+1≤16∧f.sz+c.P.Ax.length+3≤a.P.Ax.length∧c.N.length=a.N.length+f.sz:=fun b=>by
    obtain⟨f,a2,r,z,a3,al⟩:=o b;rw[a7]at r z;rw[y]at a3;have:=Akv G_ r;rw[d_,M,d_,f.Af]at this;exact⟨f,a2,r,z,a3,by omega,this⟩
   have P:Gn 0 (cE (a.P.deep+1)) a c:=⟨m.g.trans m.n e (Y _) (by omega) (Y _),fun b=>by omega⟩;obtain⟨aa,ab,am⟩:=EJ e.ti [61];have p:Gn 0 (cE (a.P.deep+1)) a (c.Ao [61]):=P.trans aa (Y _) (by omega) (by omega);have ac:=p.g.dp;have aw:=h.on p (d0:=0) (d:=cE a.P.deep) (by omega) (by omega) (by omega);obtain⟨an,A,ax,t,ad⟩:=w (c.Ao [61]) (by simp_all) (by omega);rw[ac]at t;have ao:Gn 0 (cE a.P.deep) a A:=p.trans ⟨t,fun b=>by obtain⟨ay,ap⟩:=ad b;exact ap.cn⟩ (Y _) (by omega) (Y _);obtain⟨c1,c2,c3⟩:=EJ t.ti [59];have aq:Gn 0 (cE a.P.deep) a (A.Ao [59]):=ao.trans c1 (Y _) (by omega) (by omega);obtain⟨a5,a0⟩:=F8 h aq (.inl (Y _)) (by omega) ⟨12,n,0,a.P.name.1,[j,an]⟩;refine⟨((A.Ao [59]).N.length:Int),_,?_,a0,fun b=>?_⟩
   ·simp_all
   have b:(A.Ao [59]).P.e=0:=b;obtain⟨F,u⟩:=ad (c1.g.er b);obtain⟨f,a2,r,z,a3,al,ae⟩:=ak (aa.g.er (t.er (c1.g.er b)));have ai:=c3 b;have a6:=am (t.er (c1.g.er b));have q:=u.z.n;have v:=u.x;have K:=u.z.d;have ar:=u.l;rw[ab,r,ae]at q;rw[ab,ae]at v;rw[ac]at K;subst v z;refine⟨.put a.P.name.1 f F,⟨a1,a2,u.g⟩,Rz.put (by simp_all) (by rw[M,f.Af,F.Af];rfl) ?_ (by show f.sz+F.sz+1+_≤_;omega)⟩;show((max (f.dp+1) F.dp:Nat):Int)+_≤_;omega
  |false=>
   rw[Acf];have N:=h.on m (d0:=1) (d:=cE a.P.deep+2) (by omega) (by omega) (by omega);obtain⟨j,c,x,e,o⟩:=Aga (src:=src) w (s:=a.named) (by simp_all) 11 n a.P.name.1;rw[y]at e;refine⟨j,c,x,m.g.trans m.n e (by omega) (by omega) (by omega),fun b=>?_⟩;obtain⟨l,f,g⟩:=o b;obtain⟨aj,a1⟩:=a8 (e.er b);have q:=g.n;have v:=g.x;have K:=g.d;have ar:=g.l;rw[a7]at q v;rw[y]at K;exact⟨.set a.P.name.1 l,⟨a1,f⟩,q,v,K,by show l.sz+1+_≤_;omega,Sm.Af (.set a.P.name.1 l) _⟩
theorem Afh(P:MR rec 40)(a0:Aqc i k){a h:PN}(m:Jm 1 (cS a.P.deep) a)(a7:16≤k+a.P.deep)(q:Gn 0 0 a h)(a1:h.N=a.N)(a2:h.P.e=0→h.P.Ax.length+1=a.P.Ax.length):
  ∃n j o f,rec h=W (n,j)∧i j=W (o,f)∧Gn 1 (cS a.P.deep-1) a f∧(f.P.e=0→∃(b:Xp) (c:Bl),b.A6∧c.A6∧n=top a.N.length b.sz∧o=top (a.N.length+b.sz) (c.sz+1)∧f.N.map AU=a.N.map AU++(b.fl a.N.length++(c.fl (a.N.length+b.sz)++[nd 18 0 [] (c.AB (a.N.length+b.sz))]))∧
   (b.dp:Int)+a.P.deep≤16∧((c.dp+1:Nat):Int)+a.P.deep≤16∧b.sz+(c.sz+1)+f.P.Ax.length+1≤a.P.Ax.length):=by
 have u:=m.d0;have v:=m.d1;have a8:=Aaq u v;have a9:=Arc u v;have w:=q.g.dp;have aa:=m.on q (d0:=0) (d:=cE a.P.deep) (by omega) (by omega) (by omega);obtain⟨n,j,a3,r,x⟩:=P h (by simp_all) (by omega);rw[w]at r;have s:Gn 0 (cE a.P.deep) a j:=q.trans ⟨r,fun g=>by obtain⟨b,e⟩:=x g;exact e.cn⟩ (Y _) (by omega) (Y _);have y:=s.g.dp;have ab:=m.on s (d0:=1) (d:=cS (a.P.deep+1)+1) (by omega) (by omega) (by omega);obtain⟨o,f,a4,p,z⟩:=a0 j (by simp_all) (by omega);rw[y]at p;refine⟨n,j,o,f,a3,a4,s.trans ⟨p,fun g=>by obtain⟨c,_,l⟩:=z g;exact l.cn⟩ (by omega) (by omega) (by omega),fun g=>?_⟩;obtain⟨c,a5,l⟩:=z g;obtain⟨b,e⟩:=x (p.er g);have t:=e.len;have A:=e.n;have F:=e.x;have K:=e.z.d;have ac:=e.l;have a6:=l.n;have L:=l.x;have N:=l.d;have ad:=l.l;have ae:=a2 (r.er (p.er g));rw[a1]at t A F;rw[w]at K;rw[y]at N;rw[A,t]at a6;rw[t]at L;exact⟨b,c,e.g,a5,F,L,by simp_all,K,N,by omega⟩
theorem Ar9(N:MR rec 40)(af:Aqc i k){a:PN}(g:Jm 1 (cS a.P.deep) a)(aj:16≤k+a.P.deep):∃h f,EP rec i src a=W (h,f)∧Gx 1 (cS a.P.deep) a f∧(f.P.e=0→SmR a f h):=by
 have ak:=g.d0;have al:=g.d1;have aF:=Aaq ak al;have aG:=Arc ak al;unfold EP;cases ay:a.P.is [MB]with
 |true=>
  obtain⟨j,ac,y,P⟩:=LI g.ti ay;obtain⟨a3,am,a4⟩:=NN j.g.ti;have q:Gn 0 0 a a.take.named:=j.trans a3 (Y _) (Y _) (Y _);have r:=q.g.dp;have ag:=g.on q (d0:=1) (d:=cE a.P.deep+2) (by omega) (by omega) (by omega);obtain⟨h,f,w,m,o⟩:=Aga (src:=src) N (s:=a.take.named) (by simp_all) 10 (a.P.line src) a.take.P.name.1;rw[r]at m;refine⟨h,f,w,q.g.trans q.n m (by omega) (by omega) (by omega),fun c=>?_⟩;obtain⟨b,e,u⟩:=o c;obtain⟨az,p⟩:=a4 (m.er c);have z:=u.n;have F:=u.x;have K:=u.d;have an:=u.l;rw[am,y]at z F;rw[r]at K;exact⟨.lt a.take.P.name.1 b,⟨p,e⟩,z,F,K,by show b.sz+1+_≤_;omega,Sm.Af (.lt a.take.P.name.1 b) _⟩
 |false=>
 rw[Acf];cases aA:a.P.is [F9]with
 |true=>
  obtain⟨j,ac,y,P⟩:=LI g.ti aA;have r:=j.g.dp;have ag:=g.on j (d0:=0) (d:=cE a.P.deep) (by omega) (by omega) (by omega);obtain⟨h,f,w,m,o⟩:=N a.take (by simp_all) (by omega);rw[r]at m;have q:Gn 0 (cE a.P.deep) a f:=j.trans ⟨m,fun c=>by obtain⟨b,p⟩:=o c;exact p.cn⟩ (Y _) (by omega) (Y _);obtain⟨c1,c2,c3⟩:=EJ m.ti [59];have a5:Gn 0 (cE a.P.deep) a (f.Ao [59]):=q.trans c1 (Y _) (by omega) (by omega);obtain⟨x,v⟩:=F8 g a5 (.inl (Y _)) (by omega) ⟨14,a.P.line src,0,[],[h]⟩;refine⟨_,_,by rw[Aa9,w];exact x,v,fun c=>?_⟩;have c:(f.Ao [59]).P.e=0:=c;obtain⟨b,p⟩:=o (c1.g.er c);have ad:=c3 c;have z:=p.z.n;have F:=p.x;have K:=p.z.d;have an:=p.l;rw[y]at z F;rw[r]at K;subst F;exact⟨.print b,p.g,Rz.put (by simp_all) (by rw[b.Af];rfl) K (by show b.sz+1+_≤_;omega)⟩
 |false=>
 rw[Acf];cases ad:a.P.is [E6]with
 |true=>
  obtain⟨j,ac,y,P⟩:=LI g.ti ad;obtain⟨h,f,a0,A,w,m,o,ae⟩:=Afh N af g aj j y fun _=>P;obtain⟨x,v⟩:=F8 g (o.ok (Ca ad).1) (.inl (Y _)) (by omega) ⟨16,a.P.line src,0,[],[h,a0]⟩;refine⟨(A.N.length:Int),_,?_,v,fun c=>?_⟩
  ·simp_all
  obtain⟨b,e,a6,a7,a8,a9,a1,ao,ap,aq⟩:=ae c;subst a8 a9;refine⟨.Kv b e,⟨a6,a7⟩,?_⟩;have:=Rz.put (nd:=⟨16,a.P.line src,0,[],[top a.N.length b.sz,top (a.N.length+b.sz) (e.sz+1)]⟩) (n:=b.sz+(e.sz+1)+1) (d:=max b.dp (e.dp+1)) a1 (by simp[b.Af,e.Af]) (by omega) (by omega);exact this
 |false=>
 rw[Acf];cases ar:a.P.is [NT]with
 |true=>
  obtain⟨j,ac,y,P⟩:=LI g.ti ar;have aa:=(Ca ar).1;obtain⟨h,f,a0,A,w,m,o,ae⟩:=Afh N af g aj j y fun _=>P;rw[Aa9];unfold MM;rw[w];show∃ab a2,(i f).bind _=W (ab,a2)∧_;rw[m];show∃ab a2,(bif A.P.is [Ed]then(i A.take).bind fun f=>BS f.2 ⟨15,a.P.line src,0,[],[h,a0,f.1]⟩else BS A ⟨15,a.P.line src,0,[],[h,a0]⟩)=W (ab,a2)∧_;cases ah:A.P.is [Ed]with
  |false=>
   obtain⟨x,v⟩:=F8 g (o.ok aa) (.inl (Y _)) (by omega) ⟨15,a.P.line src,0,[],[h,a0]⟩;refine⟨_,_,x,v,fun c=>?_⟩;obtain⟨b,e,a6,a7,a8,a9,a1,ao,ap,aq⟩:=ae c;subst a8 a9;refine⟨.KD b e,⟨a6,a7⟩,?_⟩;have:=Rz.put (nd:=⟨15,a.P.line src,0,[],[top a.N.length b.sz,top (a.N.length+b.sz) (e.sz+1)]⟩) (n:=b.sz+(e.sz+1)+1) (d:=max b.dp (e.dp+1)) a1 (by simp[b.Af,e.Af]) (by omega) (by omega);exact this
  |true=>
   rw[Aa9];obtain⟨a3,am,a4,az⟩:=LI o.g.ti ah;obtain⟨b,e,a6,a7,a8,a9,a1,ao,ap,aq⟩:=ae (Ca ah).1;have au:A.N.length=a.N.length+(b.sz+(e.sz+1)):=by have:=Akv G_ a1;simp only[d_,M,b.Af,e.Af,y_]at this;omega
   have q:Gn 0 0 a A.take:=by refine⟨⟨a3.g.ti,a3.g.dp.trans o.g.dp,fun _=>aa,x_ a3.g.le o.g.le,fun _=>?_,fun c=>absurd aa c⟩,fun _=>?_⟩<;>rw[a4]<;>omega
   have r:=q.g.dp;have ag:=g.on q (d0:=1) (d:=cS (a.P.deep+1)+1) (by omega) (by omega) (by omega);obtain⟨ab,a2,aB,av,aw⟩:=af A.take (by simp_all) (by omega);rw[r]at av;have a5:Gn 1 (cS (a.P.deep+1)+1) a a2:=q.trans ⟨av,fun c=>by obtain⟨e,_,u⟩:=aw c;exact u.cn⟩ (Y _) (by omega) (Y _);obtain⟨x,v⟩:=F8 g (a5.ok aa) (.inl (Y _)) (by omega) ⟨15,a.P.line src,0,[],[h,a0,ab]⟩;refine⟨_,_,by rw[aB];exact x,v,fun c=>?_⟩;obtain⟨L,aC,u⟩:=aw c;have ax:=u.n;have ai:=u.x;have aD:=u.d;have aH:=u.l;rw[a4,a1,au]at ax;rw[a4,au]at ai;rw[r]at aD;have aE:a.N.length+(b.sz+(e.sz+1))=a.N.length+b.sz+(e.sz+1):=by omega
   rw[aE]at ax ai;subst a8 a9 ai;refine⟨.FP b e L,⟨a6,a7,aC⟩,?_⟩;have:=Rz.put (s:=a) (t:=a2) (nd:=⟨15,a.P.line src,0,[],[top a.N.length b.sz,top (a.N.length+b.sz) (e.sz+1),top (a.N.length+b.sz+(e.sz+1)) (L.sz+1)]⟩) (n:=b.sz+(e.sz+1)+(L.sz+1)+1) (d:=max b.dp (max (e.dp+1) (L.dp+1)))
    (l:=b.fl a.N.length++(e.fl (a.N.length+b.sz)++[nd 18 0 [] (e.AB (a.N.length+b.sz))])++(L.fl (a.N.length+b.sz+(e.sz+1))++[nd 18 0 [] (L.AB (a.N.length+b.sz+(e.sz+1)))])) (by simp_all) (by simp[b.Af,e.Af,L.Af];omega) (by omega) (by omega)
   exact this
 |false=>
 rw[Acf];cases z:a.P.is [BZ]with
 |true=>
  obtain⟨j,ac,y,P⟩:=LI g.ti z;have aa:=(Ca z).1;rw[Aa9];cases ah:a.take.P.is [[59]]with
  |true=>
   obtain⟨c1,c2,c3⟩:=EJ j.g.ti [59];have q:Gn 0 0 a (a.take.Ao [59]):=j.trans c1 (Y _) (Y _) (Y _);obtain⟨x,v⟩:=F8 g q (.inl (Y _)) (by omega) ⟨17,a.P.line src,0,[],[]⟩;refine⟨_,_,x,v,fun c=>?_⟩;have:=c3 c;exact⟨.Fa,trivial,Rz.put (l:=[]) (by simp_all) J (by show((0:Nat):Int)+_≤_;omega) (by show 1+_≤_;omega)⟩
  |false=>
   have r:=j.g.dp;have ag:=g.on j (d0:=0) (d:=cE a.P.deep) (by omega) (by omega) (by omega);obtain⟨h,f,w,m,o⟩:=N a.take (by simp_all) (by omega);rw[r]at m;have q:Gn 0 (cE a.P.deep) a f:=j.trans ⟨m,fun c=>by obtain⟨b,p⟩:=o c;exact p.cn⟩ (Y _) (by omega) (Y _);obtain⟨c1,c2,c3⟩:=EJ m.ti [59];have a5:Gn 0 (cE a.P.deep) a (f.Ao [59]):=q.trans c1 (Y _) (by omega) (by omega);obtain⟨x,v⟩:=F8 g a5 (.inl (Y _)) (by omega) ⟨17,a.P.line src,0,[],[h]⟩;refine⟨_,_,by rw[Acf,w];exact x,v,fun c=>?_⟩;have c:(f.Ao [59]).P.e=0:=c;obtain⟨b,p⟩:=o (c1.g.er c);have ad:=c3 c;have z:=p.z.n;have F:=p.x;have K:=p.z.d;have an:=p.l;rw[y]at z F;rw[r]at K;subst F;exact⟨.ret b,p.g,Rz.put (by simp_all) (by rw[b.Af];rfl) K (by show b.sz+1+_≤_;omega)⟩
 |false=>
 rw[Acf];obtain⟨h,f,w,m,o⟩:=Amy (src:=src) N (g.on (Gn.refl g.ti) (d0:=1) (d:=cE a.P.deep+3) (by omega) (by omega) (by omega)) (a.P.line src);exact⟨h,f,w,m.Qi (Y _) (by omega),o⟩
end
section
variable{src:H}
def Au7(d:Fq)(k:Nat):Prop:=∀a,Jm 1 (cS a.P.deep) a→17≤k+a.P.deep→∃c b,d a=W (c,b)∧Gx 1 (cS a.P.deep) a b∧(b.P.e=0→SmR a b c)
structure Rb(s t:PN)(xs:List Int)(b:Bl):Prop where
 g:b.A6
 n:t.N.map AU=s.N.map AU++b.fl s.N.length
 x:xs=b.AB s.N.length
 d:(b.dp:Int)+s.P.deep≤16
 l:b.sz+t.P.Ax.length≤s.P.Ax.length
theorem Rb.len{b c:PN}{a:Bl}(e:Rb b c q a):c.N.length=b.N.length+a.sz:=by have d:=Akv G_ e.n;rw[d_,M,d_,a.Af]at d;exact d
theorem Rb.cn{a b:PN}{d:Bl}(c:Rb a b q d):b.N.length+b.P.Ax.length≤a.N.length+a.P.Ax.length:=by have:=c.len;have:=c.l;omega
theorem Zc{q:Fq}{k:Nat}(r:Au7 q k){s0:PN}(n:Jm 1 (cS s0.P.deep) s0)(F:17≤k+s0.P.deep)(s:s0.P.e=0):∀(f:Nat) (a:PN) (h:List Int),(a.P.e=0→a.P.Ax.length+2≤f)→1≤f→(a.P.e=0→h.length+a.P.Ax.length≤1000)→Gx 1 (cS s0.P.deep) s0 a→(a.P.e=0→∃j,Rb s0 a h j)→
  ∃b c,Fy q f a h=W (b,c)∧Gx 1 (cS s0.P.deep) s0 c∧(c.P.e=0→∃j,Rb s0 c b j)
 |0,_,_,_,b,_,_,_=>absurd b (by decide)
 |f+1,a,h,t,_,u,l,v=>by
  unfold Fy;cases w:(a.P.e==0)&& !(a.P.is [[125]])with
  |false=>exact⟨h,a,J,l,v⟩
  |true=>
   rw[r_]at w;have o:a.P.e=0:=eq_of_beq w.1;obtain⟨j,e⟩:=v o;have t:=t o;have u:=u o;have x:Gn 0 0 s0 a:=⟨⟨l.ti,l.dp,l.er,l.le,fun _=>by have:=e.cn;omega,fun b=>absurd s b⟩,fun _=>e.cn⟩;have y:=l.dp;have a6:=n.on x (d0:=1) (d:=cS s0.P.deep) (by omega) (by have:=n.d1;unfold cS;omega) (by omega);obtain⟨K,c,L,z,p⟩:=r a (by simp_all) (by omega);rw[y]at z;have N:Gn 1 (cS s0.P.deep) s0 c:=x.trans ⟨z,fun b=>by obtain⟨m,_,g⟩:=p b;exact g.cn⟩ (Y _) (by have:=n.d1;unfold cS;omega) (Y _);rw[Aa9,Bo Gu,L];have P:c.P.e=0→c.P.Ax.length+1≤a.P.Ax.length:=fun b=>by
    obtain⟨m,_,g⟩:=p b;have:=g.l;have:=m.Ey;omega
   refine Zc r n F s f c (h++[K]) (fun b=>by omega) (by omega) (fun b=>by have:=P b;simp;omega) N.g fun b=>?_;obtain⟨m,sg,g⟩:=p b;obtain⟨a7,a0,a1,a2,a8⟩:=UJ m j;have A:=e.len;have a3:=g.n;have a4:=g.x;have a5:=g.d;have a9:=g.l;have aa:=e.l;have ab:=e.d;rw[y]at a5;refine⟨j.snoc m,a2 e.g sg,?_,?_,?_,?_⟩
   ·rw[a3,e.n,a0,←A,g_]
   ·rw[a1,e.x,←A,a4]
   ·omega
   omega
theorem Aar{t:Fq}{k:Nat}(z:Au7 t k):Aqc (IZ t src) k:=by
 intro a c a4;have A:=c.d0;have a5:=c.d1;unfold IZ;cases u:a.P.is [[123]]with
 |false=>
  obtain⟨f,g,o⟩:=HD c.ti (show(20:Int)≠0 by decide);obtain⟨j,m⟩:=F8 c ⟨f,fun b=>absurd b g⟩ (.inl (Y _)) (by omega) ⟨18,a.P.line src,0,[],[]⟩;exact⟨_,_,j,m,fun b=>absurd b g⟩
 |true=>
  have F:=(Ca u).1;rw[Aa9,Bo (C1 A (by omega))];cases v:decide (16≤a.P.deep)with
  |true=>
   obtain⟨f,g,o⟩:=HD c.ti (show(21:Int)≠0 by decide);obtain⟨j,m⟩:=F8 c ⟨f,fun b=>absurd b g⟩ (.inl (Y _)) (by omega) ⟨18,a.P.line src,0,[],[]⟩;exact⟨_,_,j,m,fun b=>absurd b g⟩
  |false=>
   have v:=Adh v;obtain⟨f,g,o,a6⟩:=LI (s:=a.deep (a.P.deep+1)) c.ti u;have p:(a.deep (a.P.deep+1)).take.P.deep=a.P.deep+1:=J;have K:Jm 1 (cS (a.P.deep+1)+1) (a.deep (a.P.deep+1)):=⟨c.ti,by show 0≤a.P.deep+1;omega,by show a.P.deep+1≤16;omega,c.l,c.c2,c.c3⟩;have L:=K.on f (d0:=1) (d:=cS (a.P.deep+1)) (by omega) (by omega) (by omega);have a7:=c.l;have a8:(a.deep (a.P.deep+1)).P.Ax.length=a.P.Ax.length:=J;obtain⟨N,e,P,q,w⟩:=Zc z (s0:=(a.deep (a.P.deep+1)).take) L (by omega) g 1000 _ [] (fun _=>by omega) (by omega) (fun _=>by simp;omega) (Gx.refl f.g.ti _ _) fun _=>⟨.nil,trivial,by simp[Bl.fl],J,by rw[p];show((0:Nat):Int)+_≤_;omega,by show 0+_≤_;omega⟩;rw[p]at q;have a0:Gn 1 (cS (a.P.deep+1)) (a.deep (a.P.deep+1)) e:=f.trans ⟨q,fun b=>by obtain⟨n,h⟩:=w b;exact h.cn⟩ (Y _) (by unfold cS;omega) (Y _);obtain⟨c1,c2,c3⟩:=EJ q.ti [125];have r:Gn 1 (cS (a.P.deep+1)) (a.deep (a.P.deep+1)) (e.Ao [125]):=a0.trans c1 (Y _) (by omega) (by omega);have a1:(e.Ao [125]).P.deep=a.P.deep+1:=r.g.dp;have a2:Gn 1 (cS (a.P.deep+1)) a ((e.Ao [125]).deep ((e.Ao [125]).P.deep-1)):=⟨r.g.deep,r.n⟩;obtain⟨j,m⟩:=F8 c (a2.ok F) (.inl (Y _)) (by omega) ⟨18,a.P.line src,0,[],N⟩;refine⟨(((e.Ao [125]).deep ((e.Ao [125]).P.deep-1)).N.length:Int),_,?_,m,fun b=>?_⟩
   ·rw[Acf,P]
    show Nl _ _=_;rw[Bo (by rw[a1];exact C1 (by omega) (by omega))];exact j
   have b:(e.Ao [125]).P.e=0:=b;obtain⟨n,h⟩:=w (c1.g.er b);have a9:=c3 b;have x:=h.n;have y:=h.x;have a3:=h.d;have aa:=h.l;rw[o]at x y;rw[p]at a3;subst y;refine⟨n,h.g,Rz.put (l:=n.fl a.N.length) ?_ (by rw[n.Af]) (by omega) (by show _+(e.Ao [125]).P.Ax.length≤_;omega)⟩;show(e.Ao [125]).N.map AU=_;rw[c2];exact x
theorem Zg{rec:Fq}(b:MR rec 40):∀k,Au7 (QY rec src k) k
 |0,c,a,d=>by have:=a.d1;omega
 |k+1,c,a,d=>Ar9 b (Aar (Zg b k)) a (by omega)
theorem Aj7:Aqc (EA src) 40:=Aar (Zg (Ai7 40) 40)
end
end
end Go.Proofs.YtebhflkemdlbkaaGreatDoor
