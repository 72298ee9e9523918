/-
  A part of the proof of TopTexts. No conditions.
-/
import Derived.Attr
import Derived.Test.YtebhflkemdlbkaaGreatDoorA0
import Derived.Test.YtebhflkemdlbkaaGreatDoorStat
set_option linter.unusedVariables false
set_option linter.unusedSimpArgs false
open Bool renaming and_eq_true->j_,and_true->I_,true_or->L_,or_true->M_,or_eq_true->Z_,not_false->ac_,true_and->ag_,eq_iff_iff->ak_,and_assoc->al_,false_or->am_,and_self->an_
open Classical renaming choose_spec->ab_
open Go renaming Value->T,TypeId->c_,Oper->e_,Operand->k_,FuncId->u_,Addr->v_,Code->y_,IntKind->B_,ResultVar->C_,TypeDesc->V_
open Go.IntKind renaming wrap->i_
open Go.Proofs.Tryz renaming func236->Y_
open Go.Value renaming oneCell'->N_
open List renaming length_cons->h_,drop_zero->m_,take_of_length_le->r_,mem_append->z_,length_nil->D_,getElem?_eq_getElem->E_,mem_singleton->G_,all_eq_true->J_,length_drop->K_,mem_cons->Q_,getD_eq_getElem?_getD->R_,drop_eq_getElem_cons->S_,getElem?_eq_some_iff->T_,nil_append->aa_,drop_drop->ad_,all_cons->af_,length_append->ah_,length_take->ai_
open Nat renaming reduceBEq->Y,ble->Z,ble_eq_true_of_le->M,le_refl->b_,lt_of_lt_of_le->d_,le_succ->f_,le_trans->g_,zero_le->l_,le_max_right->n_,le_of_ble_eq_true->o_,le_max_left->p_,beq_refl->q_,eq_of_beq_eq_true->s_,sub_zero->t_,blt->w_,lt_succ_self->x_,lt_succ_of_lt->A_,lt_trans->F_,le_of_succ_le_succ->H_,lt_irrefl->P_,succ_le_succ->U_,zero_add->W_,succ_pos->X_,not_succ_le_zero->ae_,not_lt_zero->aj_
open Option renaming some->V,none->W,bind_eq_some_iff->a_,isNone_none->O_
namespace Go.Proofs.YtebhflkemdlbkaaGreatDoor
noncomputable section
variable{a b c d:Nat}{f g h:AH}{v w:Value}{s t:List UInt8}{l m:List Value}{u:TypeId}{x y:Int}{p:List Nat}{q r:List Int}{e:Env}{o n:Option Addr}
def Le(c g:AQ):Prop:=∀a b d e,c a b d=V e→g a b d=V e
section
variable{p:Pr}{c g:AQ}
theorem G3(e:Le c g){a:Option Nx}{d:T×AH}(b:Bs c a=V d):Bs g a=V d:=by
 cases a with
 |none=>exact b
 |some a=>cases a with
  |val d a=>exact b
  |call d f a=>exact e _ _ _ _ b
theorem GB(d:AQ)(all:List e_)(a:e_)(f:List e_)(b:Env)(e:AH):
  D0 p d all (a::f) b e=Av (B2 b all a.guard)
   (opt (Bs d (Cs p a.type a.op b e)) fun h=>Av (Z e.n h.2.n) (D0 p d all f (Be b a.dst h.1) h.2) W)
   (D0 p d all f (Be b a.dst undef) e):=rfl
theorem NL(j:Le c g)(all:List e_):∀(d:List e_) (b:Env) (e:AH) (i:Env×AH),D0 p c all d b e=V i→D0 p g all d b e=V i
 |[],_,_,_,h=>h
 |f::d,b,e,i,h=>by
  rw[GB]at h⊢;cases k:B2 b all f.guard with
  |true=>
   rw[k]at h;obtain⟨a,l,m⟩:=Ad (show opt (Bs c (Cs p f.type f.op b e)) (fun a=>Av (Z e.n a.2.n) (D0 p c all d (Be b f.dst a.1) a.2) W)=V i from h);obtain⟨n,o⟩:=Al m;show opt (Bs g (Cs p f.type f.op b e)) (fun a=>Av (Z e.n a.2.n) (D0 p g all d (Be b f.dst a.1) a.2) W)=V i;rw[G3 j l];show Av (Z e.n a.2.n) (D0 p g all d (Be b f.dst a.1) a.2) W=V i;rw[n];exact NL j all d _ _ _ o
  |false=>
   rw[k]at h;exact NL j all d _ _ _ h
theorem D4(h:AQ)(all:List e_)(a:EX)(i:List EX)(b:Env)(d:AH):
  Bp p h all (a::i) b d=Av (B2 b all a.o.guard)
   (opt (Bs h (Cs p a.o.type a.o.op b d)) fun e=>Av (Z d.n e.2.n) (opt (Bp p h all i (Be b a.o.dst e.1) e.2) fun f=>V (⟨a,b,d,e.1,e.2,true⟩::f.1,f.2)) W)
   (opt (Bp p h all i (Be b a.o.dst undef) d) fun f=>V (⟨a,b,d,undef,d,false⟩::f.1,f.2)):=rfl
theorem HY(j:Le c g)(all:List e_):∀(f:List EX) (d:Env) (a:AH) (h:List Rec×Env×AH),Bp p c all f d a=V h→Bp p g all f d a=V h
 |[],_,_,_,i=>i
 |s::f,d,a,h,i=>by
  rw[D4]at i⊢;cases m:B2 d all s.o.guard with
  |true=>
   rw[m]at i;obtain⟨b,n,k⟩:=Ad (show opt (Bs c (Cs p s.o.type s.o.op d a)) (fun b=>Av (Z a.n b.2.n) (opt (Bp p c all f (Be d s.o.dst b.1) b.2) fun e=>V (⟨s,d,a,b.1,b.2,true⟩::e.1,e.2)) W)=V h from i);obtain⟨o,q⟩:=Al k;obtain⟨e,k,l⟩:=Ad q;show opt (Bs g (Cs p s.o.type s.o.op d a)) (fun b=>Av (Z a.n b.2.n) (opt (Bp p g all f (Be d s.o.dst b.1) b.2) fun e=>V (⟨s,d,a,b.1,b.2,true⟩::e.1,e.2)) W)=V h;rw[G3 j n];show Av (Z a.n b.2.n) (opt (Bp p g all f (Be d s.o.dst b.1) b.2) fun e=>V (⟨s,d,a,b.1,b.2,true⟩::e.1,e.2)) W=V h;rw[o,HY j all f _ _ _ k];exact l
  |false=>
   rw[m]at i;obtain⟨e,k,l⟩:=Ad (show opt (Bp p c all f (Be d s.o.dst undef) a) (fun e=>V (⟨s,d,a,undef,a,false⟩::e.1,e.2))=V h from i);show opt (Bp p g all f (Be d s.o.dst undef) a) (fun e=>V (⟨s,d,a,undef,a,false⟩::e.1,e.2))=V h;rw[HY j all f _ _ _ k];exact l
theorem Lo(h:Le c g){a:Rec}{S:AH}(b:FY p c a S=true):FY p g a S=true:=by
 unfold FY at b⊢;cases f:Nat.beq a.s.kind 1 with
 |true=>
  rw[f]at b;change (match Bs c (Cs p a.s.o.type a.s.o.op a.e S)with|some d=>IA 5 d.1 a.v|none=>false)=true at b;show(match Bs g (Cs p a.s.o.type a.s.o.op a.e S)with|some d=>IA 5 d.1 a.v|none=>false)=true;cases e:Bs c (Cs p a.s.o.type a.s.o.op a.e S)with
  |none=>rw[e]at b;cases b
  |some d=>rw[e]at b;rw[G3 h e];exact b
 |false=>
  rw[f]at b;exact b
theorem LZ(d:Le c g)(a:List AH):∀(b:List Rec),Ej p c a b=true→Ej p g a b=true
 |[],_=>rfl
 |x::e,b=>by
  simp only[Ej,j_,Z_,J_]at b⊢;refine⟨b.1.imp id fun f S h=>Lo d (f S h),LZ d a e b.2⟩
theorem Ajf(h:Le c g){b:List e_}{d:Env×AH}(a:Dp p c b e f=V d):Dp p g b e f=V d:=by unfold Dp at a⊢;obtain⟨i,j⟩:=Al a;obtain⟨a,k,l⟩:=Ad j;obtain⟨j,m⟩:=Al l;rw[i];show opt (Bp p g b (FQ p b) e f) (fun a=>Av (Ej p g (AT a.2.2 a.1) a.1) (V a.2) W)=V d;rw[HY h b _ _ _ _ k];show Av (Ej p g (AT a.2.2 a.1) a.1) (V a.2) W=V d;rw[LZ h _ _ j];exact m
theorem Xb(i:Le c g){d:Bool}{a:List e_}{b:Ex×Env×AH}(j:Ka p c d a e f=V b):Ka p g d a e f=V b:=by
 cases d with
 |true=>
  obtain⟨k,d,h⟩:=Ad (show DV (Dp p c a e f)=V b from j);show DV (Dp p g a e f)=V b;rw[Ajf i d];exact h
 |false=>
  obtain⟨k,d,h⟩:=Ad (show DV (D0 p c a a e f)=V b from j);show DV (D0 p g a a e f)=V b;rw[NL i a a _ _ _ d];exact h
theorem JL{h l:Env→AH→Option (Ex×Env×AH)}(m:∀b d e,h b d=V e→l b d=V e):∀(k f:Nat),k≤f→∀(b:Env) (d:AH) (e:Ex×Env×AH),EG h k b d=V e→EG l f b d=V e
 |0,_,_,_,_,_,a=>by cases a
 |k+1,0,i,_,_,_,_=>absurd i (ae_ k)
 |k+1,f+1,i,b,d,e,a=>by
  unfold EG at a⊢;cases j:h b d with
  |none=>rw[j]at a;cases a
  |some n=>
   rw[j]at a;rw[m b d n j];obtain⟨o,q,r⟩:=n;cases o with
   |norm=>exact JL m k f (H_ i) q r e a
   |out s=>exact a
   |ret=>exact a
theorem Ct(h:Le c g){k n:Nat}(i:k≤n):∀(f:y_) (b:Env) (d:AH) (e:Ex×Env×AH),A4 p c k f b d=V e→A4 p g n f b d=V e
 |.skip,_,_,_,a=>a
 |.label _,_,_,_,a=>a
 |.ret,_,_,_,a=>a
 |.exit _,_,_,_,a=>a
 |.region _ j l,b,d,e,a=>Xb h a
 |.seq l o,b,d,e,a=>by
  simp only[A4]at a⊢;cases j:A4 p c k l b d with
  |none=>rw[j]at a;cases a
  |some m=>
   rw[j]at a;rw[Ct h i l b d m j];obtain⟨q,r,s⟩:=m;cases q with
   |norm=>exact Ct h i o r s e a
   |out q=>exact a
   |ret=>exact a
 |.cond r l o,b,d,e,a=>by
  simp only[A4]at a⊢;split at a
  ·rename_i r s
   cases r with
   |true=>exact Ct h i l b d e a
   |false=>exact Ct h i o b d e a
  cases a
 |.block q f,b,d,e,a=>by
  simp only[A4]at a⊢;cases j:A4 p c k f b d with
  |none=>rw[j]at a;cases a
  |some m=>
   rw[j]at a;rw[Ct h i f b d m j];exact a
 |.loop f,b,d,e,a=>JL (fun b d e a=>Ct h i f b d e a) k n i b d e a
 |.scope f,b,d,e,a=>Ct h i f b d e a
 |.rangeFunc ..,_,_,_,a=>by simp only[A4]at a;cases a
 |.goto _,_,_,_,a=>by simp only[A4]at a;cases a
end
end
end Go.Proofs.YtebhflkemdlbkaaGreatDoor
namespace Go.Proofs.YtebhflkemdlbkaaGreatDoor
def L7(j:Nat→AQ):Prop:=∀a b,a≤b→Le (j a) (j b)
def Sup(j:Nat→AQ)(c:AQ):Prop:=∀a b d e,c a b d=V e→∃f,j f a b d=V e
section
variable{p:Pr}{j:Nat→AQ}{c:AQ}
theorem MJ(e:Sup j c){a:Option Nx}{d:T×AH}(b:Bs c a=V d):∃f,Bs (j f) a=V d:=by
 cases a with
 |none=>cases b
 |some a=>cases a with
  |val d a=>exact⟨0,b⟩
  |call d f a=>exact e _ _ _ _ b
theorem OS(l:L7 j)(n:Sup j c)(all:List e_):∀(b:List e_) (d:Env) (e:AH) (k:Env×AH),D0 p c all b d e=V k→∃g,D0 p (j g) all b d e=V k
 |[],_,_,_,h=>⟨0,h⟩
 |f::b,d,e,k,h=>by
  rw[GB]at h;cases m:B2 d all f.guard with
  |true=>
   rw[m]at h;obtain⟨a,i,o⟩:=Ad (show opt (Bs c (Cs p f.type f.op d e)) (fun a=>Av (Z e.n a.2.n) (D0 p c all b (Be d f.dst a.1) a.2) W)=V k from h);obtain⟨q,r⟩:=Al o;obtain⟨g,s⟩:=MJ n i;obtain⟨i,o⟩:=OS l n all b _ _ _ r;refine⟨max g i,?_⟩;rw[GB,m];show opt (Bs (j (max g i)) (Cs p f.type f.op d e)) (fun a=>Av (Z e.n a.2.n) (D0 p (j (max g i)) all b (Be d f.dst a.1) a.2) W)=V k;rw[G3 (l g _ (p_ _ _)) s];show Av (Z e.n a.2.n) (D0 p (j (max g i)) all b (Be d f.dst a.1) a.2) W=V k;rw[q];exact NL (l i _ (n_ _ _)) all b _ _ _ o
  |false=>
   rw[m]at h;obtain⟨i,o⟩:=OS l n all b _ _ _ h;refine⟨i,?_⟩;rw[GB,m];exact o
theorem KM(l:L7 j)(n:Sup j c)(all:List e_):∀(f:List EX) (d:Env) (a:AH) (g:List Rec×Env×AH),Bp p c all f d a=V g→∃i,Bp p (j i) all f d a=V g
 |[],_,_,_,k=>⟨0,k⟩
 |s::f,d,a,g,k=>by
  rw[D4]at k;cases m:B2 d all s.o.guard with
  |true=>
   rw[m]at k;obtain⟨b,h,o⟩:=Ad (show opt (Bs c (Cs p s.o.type s.o.op d a)) (fun b=>Av (Z a.n b.2.n) (opt (Bp p c all f (Be d s.o.dst b.1) b.2) fun e=>V (⟨s,d,a,b.1,b.2,true⟩::e.1,e.2)) W)=V g from k);obtain⟨t,r⟩:=Al o;obtain⟨e,o,q⟩:=Ad r;obtain⟨i,u⟩:=MJ n h;obtain⟨h,r⟩:=KM l n all f _ _ _ o;refine⟨max i h,?_⟩;rw[D4,m];show opt (Bs (j (max i h)) (Cs p s.o.type s.o.op d a)) (fun b=>Av (Z a.n b.2.n) (opt (Bp p (j (max i h)) all f (Be d s.o.dst b.1) b.2) fun e=>V (⟨s,d,a,b.1,b.2,true⟩::e.1,e.2)) W)=V g;rw[G3 (l i _ (p_ _ _)) u];show Av (Z a.n b.2.n) (opt (Bp p (j (max i h)) all f (Be d s.o.dst b.1) b.2) fun e=>V (⟨s,d,a,b.1,b.2,true⟩::e.1,e.2)) W=V g;rw[t,HY (l h _ (n_ _ _)) all f _ _ _ r];exact q
  |false=>
   rw[m]at k;obtain⟨e,o,q⟩:=Ad (show opt (Bp p c all f (Be d s.o.dst undef) a) (fun e=>V (⟨s,d,a,undef,a,false⟩::e.1,e.2))=V g from k);obtain⟨h,r⟩:=KM l n all f _ _ _ o;refine⟨h,?_⟩;rw[D4,m];show opt (Bp p (j h) all f (Be d s.o.dst undef) a) (fun e=>V (⟨s,d,a,undef,a,false⟩::e.1,e.2))=V g;rw[r];exact q
theorem Ab5(h:Sup j c){a:Rec}{S:AH}(b:FY p c a S=true):∃d,FY p (j d) a S=true:=by
 unfold FY at b;cases e:Nat.beq a.s.kind 1 with
 |true=>
  rw[e]at b;change (match Bs c (Cs p a.s.o.type a.s.o.op a.e S)with|some f=>IA 5 f.1 a.v|none=>false)=true at b;cases g:Bs c (Cs p a.s.o.type a.s.o.op a.e S)with
  |none=>rw[g]at b;cases b
  |some f=>
   rw[g]at b;obtain⟨d,i⟩:=MJ h g;refine⟨d,?_⟩;unfold FY;rw[e];show(match Bs (j d) (Cs p a.s.o.type a.s.o.op a.e S)with|some f=>IA 5 f.1 a.v|none=>false)=true;rw[i];exact b
 |false=>
  rw[e]at b;refine⟨0,?_⟩;unfold FY;rw[e];exact b
theorem Aaz(d:L7 j)(f:Sup j c){e:Rec}:∀(a:List AH),a.all (FY p c e)=true→∃b,a.all (FY p (j b) e)=true
 |[],_=>⟨0,J⟩
 |S::a,e=>by
  simp only[af_,j_]at e;obtain⟨b,i⟩:=Ab5 f e.1;obtain⟨g,h⟩:=Aaz d f a e.2;refine⟨max b g,?_⟩;simp only[af_,j_];refine⟨Lo (d b _ (p_ _ _)) i,?_⟩;rw[J_]at h⊢;exact fun a b=>Lo (d g _ (n_ _ _)) (h a b)
theorem Sf(a:L7 j)(h:Sup j c)(b:List AH):∀(e:List Rec),Ej p c b e=true→∃d,Ej p (j d) b e=true
 |[],_=>⟨0,J⟩
 |x::i,e=>by
  simp only[Ej,j_]at e;obtain⟨f,k⟩:=Sf a h b i e.2;cases g:(!x.w||Cl x.s)with
  |true=>
   refine⟨f,?_⟩;simp only[Ej,j_,g,L_];exact⟨trivial,k⟩
  |false=>
   rw[g,am_]at e;obtain⟨d,l⟩:=Aaz a h _ e.1;refine⟨max d f,?_⟩;simp only[Ej,j_,g,am_];refine⟨?_,LZ (a f _ (n_ _ _)) b i k⟩;rw[J_]at l⊢;exact fun b e=>Lo (a d _ (p_ _ _)) (l b e)
theorem Ad3(f:L7 j)(k:Sup j c){d:List e_}{h:Env}{i:AH}{g:Env×AH}(a:Dp p c d h i=V g):∃b,Dp p (j b) d h i=V g:=by unfold Dp at a;obtain⟨l,e⟩:=Al a;obtain⟨a,m,n⟩:=Ad e;obtain⟨o,q⟩:=Al n;obtain⟨b,n⟩:=KM f k d _ _ _ _ m;obtain⟨e,m⟩:=Sf f k _ _ o;refine⟨max b e,?_⟩;unfold Dp;rw[l];show opt (Bp p (j (max b e)) d (FQ p d) h i) (fun a=>Av (Ej p (j (max b e)) (AT a.2.2 a.1) a.1) (V a.2) W)=V g;rw[HY (f b _ (p_ _ _)) d _ _ _ _ n];show Av (Ej p (j (max b e)) (AT a.2.2 a.1) a.1) (V a.2) W=V g;rw[LZ (f e _ (n_ _ _)) _ _ m];exact q
theorem UY(k:L7 j)(l:Sup j c){g:Bool}{a:List e_}{d:Env}{e:AH}{f:Ex×Env×AH}(m:Ka p c g a d e=V f):∃b,Ka p (j b) g a d e=V f:=by
 cases g with
 |true=>
  obtain⟨n,g,h⟩:=Ad (show DV (Dp p c a d e)=V f from m);obtain⟨b,i⟩:=Ad3 k l g;refine⟨b,?_⟩;show DV (Dp p (j b) a d e)=V f;rw[i];exact h
 |false=>
  obtain⟨n,g,h⟩:=Ad (show DV (D0 p c a a d e)=V f from m);obtain⟨b,i⟩:=OS k l a a _ _ _ g;refine⟨b,?_⟩;show DV (D0 p (j b) a a d e)=V f;rw[i];exact h
theorem Rr{i:Env→AH→Option (Ex×Env×AH)}{h:Nat→Env→AH→Option (Ex×Env×AH)}
  (l:∀d g,d≤g→∀a b e,h d a b=V e→h g a b=V e) (o:∀a b e,i a b=V e→∃d,h d a b=V e):
  ∀(k:Nat) (a:Env) (b:AH) (e:Ex×Env×AH),EG i k a b=V e→∃d,EG (h d) k a b=V e
 |0,_,_,_,f=>by cases f
 |k+1,a,b,e,f=>by
  unfold EG at f;cases m:i a b with
  |none=>rw[m]at f;cases f
  |some q=>
   rw[m]at f;obtain⟨d,n⟩:=o a b q m;obtain⟨r,s,t⟩:=q;cases r with
   |norm=>
    obtain⟨g,u⟩:=Rr l o k s t e f;refine⟨max d g,?_⟩;unfold EG;rw[l d _ (p_ _ _) _ _ _ n];exact JL (fun a b e=>l g _ (n_ d g) a b e) k k (b_ k) _ _ _ u
   |out g=>
    refine⟨d,?_⟩;unfold EG;rw[n];exact f
   |ret=>
    refine⟨d,?_⟩;unfold EG;rw[n];exact f
theorem E2(h:L7 j)(k:Sup j c)(f:Nat):∀(i:y_) (b:Env) (d:AH) (e:Ex×Env×AH),A4 p c f i b d=V e→∃g,A4 p (j g) f i b d=V e
 |.skip,_,_,_,a=>⟨0,a⟩
 |.label _,_,_,_,a=>⟨0,a⟩
 |.ret,_,_,_,a=>⟨0,a⟩
 |.exit _,_,_,_,a=>⟨0,a⟩
 |.region _ l m,b,d,e,a=>UY h k a
 |.seq n q,b,d,e,a=>by
  simp only[A4]at a;cases l:A4 p c f n b d with
  |none=>rw[l]at a;cases a
  |some r=>
   rw[l]at a;obtain⟨g,o⟩:=E2 h k f n b d r l;obtain⟨m,s,t⟩:=r;cases m with
   |norm=>
    obtain⟨m,u⟩:=E2 h k f q s t e a;refine⟨max g m,?_⟩;simp only[A4];rw[Ct (h g _ (p_ g m)) (b_ f) n b d _ o];exact Ct (h m _ (n_ g m)) (b_ f) q s t e u
   |out s=>
    refine⟨g,?_⟩;simp only[A4];rw[o];exact a
   |ret=>
    refine⟨g,?_⟩;simp only[A4];rw[o];exact a
 |.cond t n q,b,d,e,a=>by
  simp only[A4]at a⊢;split at a
  ·rename_i t u
   cases t with
   |true=>exact E2 h k f n b d e a
   |false=>exact E2 h k f q b d e a
  cases a
 |.block s i,b,d,e,a=>by
  simp only[A4]at a;cases l:A4 p c f i b d with
  |none=>rw[l]at a;cases a
  |some r=>
   rw[l]at a;obtain⟨g,o⟩:=E2 h k f i b d r l;refine⟨g,?_⟩;simp only[A4];rw[o];exact a
 |.loop i,b,d,e,a=>Rr (fun g m l b d e a=>Ct (h g m l) (b_ f) i b d e a) (fun b d e a=>E2 h k f i b d e a) f b d e a
 |.scope i,b,d,e,a=>E2 h k f i b d e a
 |.rangeFunc ..,_,_,_,a=>by simp only[A4]at a;cases a
 |.goto _,_,_,_,a=>by simp only[A4]at a;cases a
noncomputable def Ad1(p:Pr)(b:Func)(a:Ex×Env×AH):Option (T×AH):=
 match a with
 |(.out _,_,_)=>W
 |(_,d,a)=>(match Ia p d a b.results.toList with
  |some [b]=>V (b,a)
  |some b=>V (.tuple b.toArray,a)
  |none=>W)
theorem JY(a:AQ)(b:Nat)(d:Func)(e:E)(f:AH){g:y_}(h:d.body=V g):
  Is p a b d e f=opt (A4 p a b g (Iq e) f) (Ad1 p d):=by
 unfold Is;rw[h];cases d:A4 p a b g (Iq e) f with
 |none=>simp only[d]
 |some a=>
  obtain⟨b,e,f⟩:=a;cases b<;>simp only[d]<;>rfl
theorem P4{c d:AQ}(k:Le c d){e f:Nat}(l:e≤f){b:Func}{g:E}{h:AH}{i:T×AH}(a:Is p c e b g h=V i):Is p d f b g h=V i:=by
 cases d:b.body with
 |none=>unfold Is at a;rw[d]at a;cases a
 |some b=>
  rw[JY _ _ _ _ _ d]at a⊢;obtain⟨d,e,f⟩:=Ad a;rw[Ct k l b _ _ d e];exact f
theorem Aed(i:L7 j)(k:Sup j c){b:Nat}{d:Func}{f:E}{g:AH}{h:T×AH}(a:Is p c b d f g=V h):∃e,Is p (j e) b d f g=V h:=by
 cases f:d.body with
 |none=>unfold Is at a;rw[f]at a;cases a
 |some d=>
  rw[JY _ _ _ _ _ f]at a;obtain⟨g,h,l⟩:=Ad a;obtain⟨e,a⟩:=E2 i k b d _ _ g h;refine⟨e,?_⟩;rw[JY _ _ _ _ _ f,a];exact l
theorem Ir(b:Cw):∀(n d e f:Nat),n≤d→e≤f→Le (Ef p b e n) (Ef p b f d)
 |0,_,_,_,_,_=>fun _ _ _ _ a=>by cases a
 |n+1,0,_,_,g,_=>absurd g (ae_ n)
 |n+1,d+1,e,f,g,h=>fun i k l m a=>by
  simp only[Ef]at a⊢;cases k:b.get i with
  |some l=>rw[k]at a;exact a
  |none=>
   rw[k]at a;cases k:p.fn.get i with
   |none=>simp only[k]at a;cases a
   |some i=>
    simp only[k]at a⊢;exact P4 (Ir b n d e f (H_ g) h) h a
open Classical in
noncomputable def BE(p:Pr)(b:Cw):AQ:=fun d e f=>if g:∃h a,Ef p b a a d e f=V h then V (Classical.choose g)else W
theorem V8{b:Cw}{k n:Nat}{d:u_}{e:E}{f:AH}{a:T×AH}(g:Ef p b k n d e f=V a):BE p b d e f=V a:=by have h:Ef p b (max k n) (max k n) d e f=V a:=Ir b n _ k _ (n_ _ _) (p_ _ _) d e f a g;have i:∃a n,Ef p b n n d e f=V a:=⟨a,_,h⟩;unfold BE;rw[dif_pos i];obtain⟨g,l⟩:=ab_ i;have i:=Ir b (max k n) (max (max k n) g) (max k n) (max (max k n) g) (p_ _ _) (p_ _ _) d e f a h;have a:=Ir b g (max (max k n) g) g (max (max k n) g) (n_ _ _) (n_ _ _) d e f _ l;rw[i]at a;cases a;rfl
theorem K4{b:Cw}{d:u_}{e:E}{f:AH}{g:T×AH}(a:BE p b d e f=V g):∃h,Ef p b h h d e f=V g:=by
 unfold BE at a;split at a
 ·rename_i b
  cases a;exact ab_ b
 cases a
theorem V9(b:Cw):L7 (fun a=>Ef p b a a):=fun a d e=>Ir b a d a d e e
theorem Ad9(a:Cw):Sup (fun b=>Ef p a b b) (BE p a):=fun _ _ _ _ d=>K4 d
theorem No{a:Cw}{b:u_}{d:E→AH→Option (T×AH)}(h:a.get b=V d){e:E}{f:AH}{g:T×AH}(i:d e f=V g):BE p a b e f=V g:=by refine V8 (k:=0) (n:=1) ?_;simp only[Ef,h];exact i
theorem PY{a:Cw}{b:u_}{d:Func}(h:a.get b=W)(i:p.fn.get b=V d){k:Nat}{e:E}{f:AH}{g:T×AH}(l:Is p (BE p a) k d e f=V g):BE p a b e f=V g:=by obtain⟨b,d⟩:=Aed (V9 a) (Ad9 a) l;refine V8 (k:=max k b) (n:=max k b+1) ?_;simp only[Ef,h,i];exact P4 (Ir a b _ b _ (n_ _ _) (n_ _ _)) (p_ _ _) d
end
end Go.Proofs.YtebhflkemdlbkaaGreatDoor
namespace Go.Proofs.YtebhflkemdlbkaaGreatDoor
noncomputable section
variable{a b c d:Nat}{f g h:AH}{v w:Value}{s t:List UInt8}{l m:List Value}{u:TypeId}{x y:Int}{p:List Nat}{q r:List Int}{e:Env}{o n:Option Addr}
theorem nr{f:Sort _}{a b:f}(h:a=b):a=b:=h
section
variable{p:Pr}{c:AQ}
theorem Xm(all:List e_):∀(l:List e_) (e:Env) (h:AH) (b:Env×AH),D0 p c all l e h=V b→h.n≤b.2.n
 |[],_,_,_,a=>by cases a;exact b_ _
 |f::l,e,h,b,a=>by
  rw[GB]at a;cases i:B2 e all f.guard with
  |true=>
   rw[i]at a;obtain⟨g,k,j⟩:=Ad (show opt (Bs c (Cs p f.type f.op e h)) (fun g=>Av (Z h.n g.2.n) (D0 p c all l (Be e f.dst g.1) g.2) W)=V b from a);obtain⟨b,f⟩:=Al j;exact g_ (o_ b) (Xm all l _ _ _ f)
  |false=>
   rw[i]at a;exact Xm all l _ _ _ a
theorem Ob(all:List e_):∀(l:List EX) (e:Env) (h:AH) (b:List Rec×Env×AH),Bp p c all l e h=V b→h.n≤b.2.2.n
 |[],_,_,_,f=>by cases f;exact b_ _
 |s::l,e,h,b,f=>by
  rw[D4]at f;cases k:B2 e all s.o.guard with
  |true=>
   rw[k]at f;obtain⟨g,j,i⟩:=Ad (show opt (Bs c (Cs p s.o.type s.o.op e h)) (fun g=>Av (Z h.n g.2.n) (opt (Bp p c all l (Be e s.o.dst g.1) g.2) fun a=>V (⟨s,e,h,g.1,g.2,true⟩::a.1,a.2)) W)=V b from f);obtain⟨m,j⟩:=Al i;obtain⟨a,g,i⟩:=Ad j;have j:b.2.2=a.2.2:=by cases i;rfl
   rw[j];exact g_ (o_ m) (Ob all l _ _ _ g)
  |false=>
   rw[k]at f;obtain⟨a,g,i⟩:=Ad (show opt (Bp p c all l (Be e s.o.dst undef) h) (fun a=>V (⟨s,e,h,undef,h,false⟩::a.1,a.2))=V b from f);have j:b.2.2=a.2.2:=by cases i;rfl
   rw[j];exact Ob all l _ _ _ g
theorem Aot{a:List e_}{e:Env}{h:AH}{b:Env×AH}(f:Dp p c a e h=V b):h.n≤b.2.n:=by unfold Dp at f;obtain⟨_,g⟩:=Al f;obtain⟨m,i,j⟩:=Ad g;obtain⟨_,k⟩:=Al j;cases k;exact Ob a _ _ _ _ i
theorem ZP{f:Env→AH→Option (Ex×Env×AH)}(j:∀e h b,f e h=V b→h.n≤b.2.2.n):∀(k:Nat) (e:Env) (h:AH) (b:Ex×Env×AH),EG f k e h=V b→h.n≤b.2.2.n
 |0,_,_,_,a=>by cases a
 |k+1,e,h,b,a=>by
  unfold EG at a;cases g:f e h with
  |none=>rw[g]at a;cases a
  |some m=>
   rw[g]at a;have i:=j e h m g;obtain⟨n,o,q⟩:=m;cases n with
   |norm=>exact g_ i (ZP j k o q b a)
   |out r=>cases a;exact i
   |ret=>cases a;exact i
theorem HE(f:Nat):∀(g:y_) (e:Env) (h:AH) (b:Ex×Env×AH),A4 p c f g e h=V b→h.n≤b.2.2.n
 |.skip,_,_,_,a=>by cases a;exact b_ _
 |.label _,_,_,_,a=>by cases a;exact b_ _
 |.ret,_,_,_,a=>by cases a;exact b_ _
 |.exit _,_,_,_,a=>by cases a;exact b_ _
 |.region _ j true,e,h,b,a=>by
  obtain⟨i,k,m⟩:=Ad (show DV (Dp p c j.toList e h)=V b from a);cases m;exact Aot k
 |.region _ j false,e,h,b,a=>by
  obtain⟨i,k,m⟩:=Ad (show DV (D0 p c j.toList j.toList e h)=V b from a);cases m;exact Xm _ _ _ _ _ k
 |.seq m n,e,h,b,a=>by
  simp only[A4]at a;cases j:A4 p c f m e h with
  |none=>rw[j]at a;cases a
  |some i=>
   rw[j]at a;have k:=HE f m e h i j;obtain⟨o,r,s⟩:=i;cases o with
   |norm=>exact g_ k (HE f n r s b a)
   |out q=>cases a;exact k
   |ret=>cases a;exact k
 |.cond t m n,e,h,b,a=>by
  simp only[A4]at a;split at a
  ·rename_i t u
   cases t with
   |true=>exact HE f m e h b a
   |false=>exact HE f n e h b a
  cases a
 |.block q g,e,h,b,a=>by
  simp only[A4]at a;cases j:A4 p c f g e h with
  |none=>rw[j]at a;cases a
  |some i=>
   rw[j]at a;have k:=HE f g e h i j;obtain⟨o,r,s⟩:=i;cases o with
   |norm=>cases a;exact k
   |out i=>
    change cond (Nat.beq q i) _ _=_ at a;cases j:Nat.beq q i<;>rw[j]at a<;>cases a<;>exact k
   |ret=>cases a;exact k
 |.loop g,e,h,b,a=>ZP (fun e h b a=>HE f g e h b a) f e h b a
 |.scope g,e,h,b,a=>HE f g e h b a
 |.rangeFunc ..,_,_,_,a=>by simp only[A4]at a;cases a
 |.goto _,_,_,_,a=>by simp only[A4]at a;cases a
end
inductive Fr:Type where
 |seq (b:y_)
 |block (i:Nat)
 |loop (q:y_)
abbrev Kt:=Ex→Env→AH→Prop
def Fin(b:Option (Ex×Env×AH))(Q:Kt):Prop:=∃a e h,b=V (a,e,h)∧Q a e h
def EB(p:Pr)(c:AQ)(b:Nat):List Fr→Option (Ex×Env×AH)→Option (Ex×Env×AH)
 |[],a=>a
 |.seq f::w,a=>EB p c b w (match a with
  |some (.norm,e,h)=>A4 p c b f e h
  |a=>a)
 |.block g::w,a=>EB p c b w (match a with
  |some (.out f,e,h)=>cond (Nat.beq g f) (V (.norm,e,h)) (V (.out f,e,h))
  |a=>a)
 |.loop f::w,a=>EB p c b w (match a with
  |some (.norm,e,h)=>EG (A4 p c b f) b e h
  |a=>a)
section
variable{p:Pr}{K:Cw}
theorem Ix{c:AQ}{o q:Nat}(m:o≤q):∀(w:List Fr) (f n:Option (Ex×Env×AH)) (g:Ex×Env×AH),(∀j,f=V j→n=V j)→EB p c o w f=V g→EB p c q w n=V g
 |[],_,_,g,i,k=>i g k
 |.seq s::w,f,n,g,i,k=>by
  refine Ix m w _ _ g (fun j a=>?_) k;cases b:f with
  |none=>rw[b]at a;cases a
  |some v=>
   rw[i v b];rw[b]at a;obtain⟨r,e,h⟩:=v;cases r with
   |norm=>exact Ct (fun _ _ _ _ h=>h) m s e h j a
   |out s=>exact a
   |ret=>exact a
 |.block s::w,f,n,g,i,k=>by
  refine Ix m w _ _ g (fun j a=>?_) k;cases b:f with
  |none=>rw[b]at a;cases a
  |some v=>
   rw[i v b];rw[b]at a;exact a
 |.loop t::w,f,n,g,i,k=>by
  refine Ix m w _ _ g (fun j a=>?_) k;cases b:f with
  |none=>rw[b]at a;cases a
  |some v=>
   rw[i v b];rw[b]at a;obtain⟨r,e,h⟩:=v;cases r with
   |norm=>exact JL (fun e h f i=>Ct (fun _ _ _ _ h=>h) m t e h f i) o q m e h j a
   |out s=>exact a
   |ret=>exact a
def C(p:Pr)(K:Cw)(b:y_)(e:Env)(h:AH)(w:List Fr)(Q:Kt):Prop:=∃a,Fin (EB p (BE p K) a w (A4 p (BE p K) a b e h)) Q
def CC(p:Pr)(K:Cw)(v:T)(b f:y_)(e:Env)(h:AH)(w:List Fr)(Q:Kt):Prop:=∃a,Fin (EB p (BE p K) a w (match v with
  |.bool g=>cond g (A4 p (BE p K) a b e h) (A4 p (BE p K) a f e h)
  |_=>W)) Q
def O(p:Pr)(K:Cw)(all l:List e_)(e:Env)(h:AH)(w:List Fr)(Q:Kt):Prop:=∃a,Fin (EB p (BE p K) a w (DV (D0 p (BE p K) all l e h))) Q
def X(p:Pr)(K:Cw)(a:Ex)(e:Env)(h:AH)(w:List Fr)(Q:Kt):Prop:=∃b,Fin (EB p (BE p K) b w (V (a,e,h))) Q
def D(p:Pr)(K:Cw)(b:Option Nx)(h:AH)(all:List e_)(d:Option Tmp)(l:List e_)(e:Env)(w:List Fr)(Q:Kt):Prop:=
 ∃f,Fin (EB p (BE p K) f w (DV (opt (Bs (BE p K) b) fun a=>Av (Z h.n a.2.n) (D0 p (BE p K) all l (Be e d a.1) a.2) W))) Q
def DR(p:Pr)(K:Cw)(a:List e_)(e:Env)(h:AH)(w:List Fr)(Q:Kt):Prop:=∃b,Fin (EB p (BE p K) b w (DV (Dp p (BE p K) a e h))) Q
variable{e:Env}{h:AH}{w:List Fr}{Q:Kt}
theorem Avf:C p K .skip e h w Q=X p K .norm e h w Q:=nr J
theorem Aqa(l:Nat):C p K (.label l) e h w Q=X p K .norm e h w Q:=nr J
theorem Ayq:C p K .ret e h w Q=X p K .ret e h w Q:=nr J
theorem Avg(a:Nat):C p K (.exit a) e h w Q=X p K (.out a) e h w Q:=nr J
theorem Ap9(a:y_):C p K (.scope a) e h w Q=C p K a e h w Q:=nr J
attribute [go_sem] Avf Aqa Ayq Avg Ap9
@[go_sem↓]theorem ABx(a b:y_):C p K (.seq a b) e h w Q=C p K a e h (.seq b::w) Q:=nr J
@[go_sem↓]theorem Azb(a:Nat)(b:y_):C p K (.block a b) e h w Q=C p K b e h (.block a::w) Q:=nr J
@[go_sem↓]theorem Ayr(b:Nat)(a:List e_):C p K (.region b a.toArray false) e h w Q=O p K a a e h w Q:=nr J
@[go_sem↓]theorem Aza(b:Nat)(a:List e_):C p K (.region b a.toArray true) e h w Q=DR p K a e h w Q:=nr J
@[go_sem↓]theorem AAy(c:k_)(a b:y_):C p K (.cond c a b) e h w Q=CC p K (AZ e c) a b e h w Q:=nr J
theorem Aqb(a b:y_):CC p K (.bool true) a b e h w Q=C p K a e h w Q:=nr J
theorem Ak1(b a:y_):CC p K (.bool false) b a e h w Q=C p K a e h w Q:=nr J
theorem Ays{a:Bool}{b f:y_}(g:a=true→C p K b e h w Q)(i:a=false→C p K f e h w Q):CC p K (.bool a) b f e h w Q:=by
 cases a with
 |true=>exact g J
 |false=>exact i J
theorem Ax9{a:Ex}:X p K a e h [] Q=Q a e h:=by refine propext ⟨fun⟨g,i,j,k,f,b⟩=>?_,fun b=>⟨0,a,e,h,J,b⟩⟩;cases f;exact b
theorem YP(a:y_):X p K .norm e h (.seq a::w) Q=C p K a e h w Q:=nr J
theorem Aet(b:y_)(a:Nat):X p K (.out a) e h (.seq b::w) Q=X p K (.out a) e h w Q:=nr J
theorem Aes(a:y_):X p K .ret e h (.seq a::w) Q=X p K .ret e h w Q:=nr J
theorem T7(a:Nat):X p K .norm e h (.block a::w) Q=X p K .norm e h w Q:=nr J
theorem Ww(a:Nat):X p K .ret e h (.block a::w) Q=X p K .ret e h w Q:=nr J
theorem Wx(a:Nat):X p K (.out a) e h (.block a::w) Q=X p K .norm e h w Q:=by unfold X;simp only[EB,q_,Aa9]
theorem T6(f:(a==b)=false):X p K (.out b) e h (.block a::w) Q=X p K (.out b) e h w Q:=by
 unfold X;have g:Nat.beq a b=false:=by cases i:Nat.beq a b with
  |false=>rfl
  |true=>rw[s_ i,beq_self_eq_true]at f;cases f
 simp only[EB,g,Acf]
theorem Wv(a:y_):X p K .norm e h (.loop a::w) Q=C p K (.loop a) e h w Q:=nr J
theorem YR(b:y_)(a:Nat):X p K (.out a) e h (.loop b::w) Q=X p K (.out a) e h w Q:=nr J
theorem YQ(a:y_):X p K .ret e h (.loop a::w) Q=X p K .ret e h w Q:=nr J
theorem Cq{b:y_}(k:C p K b e h (.loop b::w) Q):C p K (.loop b) e h w Q:=by
 obtain⟨a,m,n,o,q,r⟩:=k;refine⟨a+1,m,n,o,Ix (f_ a) w _ _ _ (fun i f=>?_) q,r⟩;show EG (A4 p (BE p K) (a+1) b) (a+1) e h=V i;unfold EG;cases g:A4 p (BE p K) a b e h with
 |none=>rw[g]at f;cases f
 |some j=>
  rw[Ct (fun _ _ _ _ h=>h) (f_ a) b e h j g];rw[g]at f;obtain⟨s,t,u⟩:=j;cases s with
  |norm=>exact JL (fun e h x y=>Ct (fun _ _ _ _ h=>h) (f_ a) b e h x y) a a (b_ a) t u i f
  |out x=>exact f
  |ret=>exact f
theorem AG{j:Type}(I:j→Env→AH→Prop)(k:j→Nat){b:y_}(n:∀a e h,I a e h→(∀f g i,I f g i→k f<k a→C p K (.loop b) g i w Q)→C p K b e h (.loop b::w) Q)(a:j)(m:I a e h):C p K (.loop b) e h w Q:=by
 have o:∀j a e h,k a<j→I a e h→C p K (.loop b) e h w Q:=by
  intro j;induction j with
  |zero=>intro a e h b _;exact absurd b (aj_ _)
  |succ j k=>
   intro a e h b m;exact Cq (n a e h m fun f g i j q=>k f g i (d_ q (Nat.le_of_lt_succ b)) j)
 exact o _ a e h (x_ _) m
theorem Ayg(all:List e_):O p K all [] e h w Q=X p K .norm e h w Q:=nr J
attribute [go_sem] Aqb Ak1 Ax9 YP Aet Aes T7 Ww Wx T6 Wv YR YQ Ayg
@[go_sem↓]theorem AAu(all a:List e_)(d:Option Tmp)(b:Op)(f:c_)(g:String)(i:Array Edge):
  O p K all (⟨d,b,f,g,i,W⟩::a) e h w Q=D p K (Cs p f b e h) h all d a e w Q:=nr J
def G(p:Pr)(K:Cw)(g:Bool)(a:e_)(all f:List e_)(e:Env)(h:AH)(w:List Fr)(Q:Kt):Prop:=
 ∃i,Fin (EB p (BE p K) i w (DV (Av g (opt (Bs (BE p K) (Cs p a.type a.op e h)) fun b=>Av (Z h.n b.2.n) (D0 p (BE p K) all f (Be e a.dst b.1) b.2) W) (D0 p (BE p K) all f (Be e a.dst undef) h)))) Q
@[go_sem↓]theorem Ayh(all b:List e_)(d:Option Tmp)(f:Op)(g:c_)(i:String)(j:Array Edge)(a:Nat×Bool):
  O p K all (⟨d,f,g,i,j,V a⟩::b) e h w Q=G p K (B2 e all (V a)) ⟨d,f,g,i,j,V a⟩ all b e h w Q:=nr J
theorem Avb(a:e_)(all b:List e_):G p K true a all b e h w Q=D p K (Cs p a.type a.op e h) h all a.dst b e w Q:=nr J
theorem Ap5(a:e_)(all b:List e_):G p K false a all b e h w Q=O p K all b (Be e a.dst undef) h w Q:=nr J
attribute [go_sem] Avb Ap5
section
variable{all l:List Oper}{d:Option Tmp}{v:Value}
theorem YX(a:Z h.n f.n=true):D p K (V (.val v f)) h all d l e w Q=O p K all l (Be e d v) f w Q:=by show(∃b,Fin (EB p (BE p K) b w (DV (Av (Z h.n f.n) (D0 p (BE p K) all l (Be e d v) f) W))) Q)=_;rw[a];rfl
theorem Avc:D p K (V (.val v h)) h all d l e w Q=O p K all l (Be e d v) h w Q:=YX (M (b_ _))
theorem Aym(a:AO):D p K (V (.val v (h.new a))) h all d l e w Q=O p K all l (Be e d v) (h.new a) w Q:=YX (M (f_ _))
theorem Ayl(a:Nat)(b:AO):D p K (V (.val v (h.put a b))) h all d l e w Q=O p K all l (Be e d v) (h.put a b) w Q:=YX (M (b_ _))
theorem Avd(a:Nat)(b:AO):D p K (V (.val v ((h.del a).new b))) h all d l e w Q=O p K all l (Be e d v) ((h.del a).new b) w Q:=YX (M (f_ _))
def Ok(p:Pr)(K:Cw)(b:u_)(f:E)(h:AH)(g:T→AH→Prop):Prop:=∃v a,BE p K b f h=V (v,a)∧h.n≤a.n∧g v a
theorem Ok.mono{b:u_}{P f:T→AH→Prop}(g:Ok p K b m h P)(i:∀v a,h.n≤a.n→P v a→f v a):Ok p K b m h f:=by obtain⟨v,a,f,b,j⟩:=g;exact⟨v,a,f,b,i v a b j⟩
theorem Aa{b:u_}{P:T→AH→Prop}(g:Ok p K b m h P)(i:∀v a,h.n≤a.n→P v a→O p K all l (Be e d v) a w Q):D p K (V (.call b m h)) h all d l e w Q:=by obtain⟨v,a,j,f,k⟩:=g;have g:=i v a f k;rw[←YX (h:=h) (M f)]at g;obtain⟨f,i⟩:=g;refine⟨f,?_⟩;show Fin (EB p (BE p K) f w (DV (opt (BE p K b m h) fun a=>Av (Z h.n a.2.n) (D0 p (BE p K) all l (Be e d a.1) a.2) W))) Q;rw[j];exact i
attribute [go_sem] Avc Aym Ayl Avd
end
def Aoo(p:Pr)(b:List C_)(a:Ex×Env×AH):Option (T×AH):=
 match a with
 |(.out _,_,_)=>W
 |(_,e,a)=>(match Ia p e a b with
  |some [v]=>V (v,a)
  |some l=>V (.tuple l.toArray,a)
  |none=>W)
def fnQ(p:Pr)(b:List C_)(f:T→AH→Prop):Kt:=fun g e h=>∃v a,Aoo p b (g,e,h)=V (v,a)∧f v a
theorem Ajd{g:Func}{b:Ex×Env×AH}{f:T×AH}(a:Ad1 p g b=V f):f.2=b.2.2:=by
 obtain⟨b,e,h⟩:=b;cases b with
 |out b=>cases a
 |norm=>
  simp only[Ad1]at a;split at a<;>first|(cases a;rfl)|cases a
 |ret=>
  simp only[Ad1]at a;split at a<;>first|(cases a;rfl)|cases a
theorem enter{f:u_}{a:Func}{b:y_}{g:List C_}{i:T→AH→Prop}(q:K.get f=W)(r:p.fn.get f=V a)(s:a.body=V b)(t:a.results=g.toArray)
  (u:C p K b (Iq m) h [] (fnQ p g i)):Ok p K f m h i:=by
 obtain⟨f,n,o,g,i,v,j,x,y⟩:=u;change A4 p (BE p K) f b (Iq m) h=V (n,o,g)at i;have m:Ad1 p a (n,o,g)=V (v,j):=by rw[←x];unfold Ad1 Aoo;rw[t]<;>rfl
 have a:=Ajd m;have n:=HE f b _ _ _ i;change j=g at a;subst a;refine⟨v,j,PY q r (k:=f) ?_,n,y⟩;rw[JY _ _ _ _ _ s,i];exact m
theorem Ok.known{a:u_}{b:E→AH→Option (T×AH)}{v:T}{h1:AH}{f:T→AH→Prop}(g:K.get a=V b)(i:b m h=V (v,h1))(j:h.n≤h1.n)(k:f v h1):Ok p K a m h f:=
 ⟨v,h1,No g i,j,k⟩
def Yc(h:AH):Option E→Option (T×AH)
 |some [v]=>V (v,h)
 |some l=>V (.tuple l.toArray,h)
 |none=>W
def EQ(b:Option (T×AH))(f:T→AH→Prop):Prop:=∃v a,b=V (v,a)∧f v a
theorem Aog{a:List C_}{b:T→AH→Prop}:fnQ p a b .ret e h=EQ (Yc h (Ia p e h a)) b:=by unfold fnQ EQ;simp only[Aoo,Yc]
theorem Ai0{a:List C_}{b:T→AH→Prop}:fnQ p a b .norm e h=EQ (Yc h (Ia p e h a)) b:=by unfold fnQ EQ;simp only[Aoo,Yc]
theorem Ap7{v:T}{a:T→AH→Prop}:EQ (V (v,h)) a=a v h:=by refine propext ⟨fun⟨f,g,b,a⟩=>?_,fun a=>⟨v,h,J,a⟩⟩;cases b;exact a
theorem Ajb(v:T):Yc h (V [v])=V (v,h):=nr J
theorem Ajc:Yc h (V [])=V (.tuple #[],h):=nr J
theorem Aja(v a:T)(l:E):Yc h (V (v::a::l))=V (.tuple (v::a::l).toArray,h):=nr J
def V0(v:T):Option E→Option E
 |some l=>V (v::l)
 |none=>W
theorem Yj(v:T)(l:E):V0 v (V l)=V (v::l):=nr J
theorem Agr:Ia p e h []=V []:=nr J
theorem Agq(a:Tmp)(b:List C_):Ia p e h (.tmp a::b)=V0 (e.at a) (Ia p e h b):=by simp only[Ia,V0];rfl
def Ajv(v:Option T)(a:Option E):Option E:=
 match v with
 |some v=>V0 v a
 |none=>W
theorem Yp(v:T)(a:Option E):Ajv (V v) a=V0 v a:=nr J
def Atd(p:Pr)(h:AH)(a:c_)(b:Option E):T→Option E
 |.pointer (some f)=>Ajv (h.ld p a f) b
 |_=>W
theorem Ab3(a:Tmp)(b:c_)(f:List C_):Ia p e h (.cell a b::f)=Atd p h b (Ia p e h f) (e.at a):=by
 simp only[Ia];cases e.at a with
 |pointer a=>
  cases a with
  |none=>rfl
  |some a=>simp only[Atd];cases h.ld p b a<;>cases Ia p e h f<;>rfl
 |_=>rfl
attribute [go_sem] Aog Ai0 Ap7 Ajb Ajc Aja Yj Agr Agq Yp Ab3
end
attribute [go_sem] Bool.and_true Bool.true_and Bool.and_false Bool.false_and Bool.or_true Bool.true_or Bool.or_false Bool.false_or Bool.not_true Bool.not_false Aa9 Acf Nat.zero_add Nat.add_zero Nat.zero_mul Nat.one_mul Nat.mul_one List.nil_append List.cons_append List.append_nil true_and and_true Option.map_some Option.map_none Option.isNone_some Option.isNone_none Option.isSome_some Option.isSome_none Nat.zero_lt_succ List.append_toArray
def SZ:List e_→Nat→Option e_
 |[],_=>W
 |a::_,0=>V a
 |_::a,n+1=>SZ a n
theorem SY:∀(a:List e_) (t:Nat),SZ a t=a[t]?
 |[],_=>rfl
 |_::_,0=>rfl
 |_::a,n+1=>by
  show SZ a n=_;rw[SY a n];simp
@[go_sem↓]theorem Avk(a:e_)(b:List e_):SZ (a::b) 0=V a:=nr J
@[go_sem↓]theorem Avl(b:e_)(a:List e_)(n:Nat):SZ (b::a) (n+1)=SZ a n:=nr J
section
variable{p:Pr}{e:Env}{h:AH}{q:TypeId}
theorem Aon(t:Tmp):AZ e (.tmp t)=e.at t:=nr J
theorem Ady(a:T):AZ e (.const a)=a:=nr J
theorem Ai9(a:u_):AZ e (.func a)=.func (.func a) #[] #[]:=nr J
theorem Ab7(a:Tmp)(b:T):Be e (V a) b=e.set a (V b):=nr J
theorem Ab8(a:T):Be e W a=e:=nr J
theorem Ax6(t:Nat)(a:T):Env.at (Tr.set e t (V a)) t=a:=by rw[Env.YH,Agd rfl]
theorem Ax5{t a:Nat}(b:T)(c:(a==t)=false):Env.at (Tr.set e t (V b)) a=e.at a:=by rw[Env.YH,Akt (fun a=>by simp_all)]
def Xu:E→Nat→T
 |[],_=>undef
 |v::_,0=>v
 |_::a,n+1=>Xu a n
theorem ZH:∀(a:E) (t:Nat),Xu a t=(a[t]?).getD undef
 |[],_=>rfl
 |_::_,0=>rfl
 |_::a,n+1=>by
  show Xu a n=_;rw[ZH a n];simp
theorem Ax4(a:E)(t:Nat):Env.at (Iq a) t=Xu a t:=by unfold Env.at Iq;rw[Tr.MH,ZH];cases a[t]? <;>rfl
theorem Aco(a:T)(b:E):Xu (a::b) 0=a:=nr J
theorem Acp(b:T)(a:E)(n:Nat):Xu (b::a) (n+1)=Xu a n:=nr J
def gdV(a:Bool):T→Bool
 |.bool b=>b==a
 |_=>false
def gdK(e:Env)(a:Bool):Option e_→Bool
 |some b=>(match b.dst with|some t=>gdV a (e.at t)|none=>false)
 |none=>false
theorem Adn(a:Bool):gdV a undef=false:=nr J
theorem XZ(a:Bool):gdV true (.bool a)=a:=by cases a<;>rfl
theorem X0(a:Bool):gdV false (.bool a)= !a:=by cases a<;>rfl
theorem Ait(a:Bool)(t:Tmp)(b:Op)(q:c_)(c:String)(d:Array Edge)(f:Option (Nat×Bool)):gdK e a (V ⟨V t,b,q,c,d,f⟩)=gdV a (e.at t):=nr J
theorem VM(all:List e_)(b:Nat)(a:Bool):B2 e all (V (b,a))=gdK e a (SZ all b):=by
 rw[SY];show(match(all[b]?).bind (·.dst)with
  |some t=>(match e.at t with|.bool c=>c==a|_=>false)
  |none=>false)=_
 unfold gdK;cases all[b]? with
 |none=>rfl
 |some d=>
  obtain⟨b,f,t,g,i,j⟩:=d;cases b with
  |none=>rfl
  |some b=>
   show(match e.at b with|.bool c=>c==a|_=>false)=gdV a (e.at b);unfold gdV;cases e.at b<;>rfl
theorem Ar0(a:T):CF h (V a)=V (.val a h):=nr J
theorem WJ(k:B_)(n:Int):Aq (.int k n)=[.int k n]:=nr J
theorem Qj(a:ByteArray):Aq (.string a)=[.string a]:=nr J
theorem WH(a:Option v_):Aq (.pointer a)=[.pointer a]:=nr J
theorem Sr(a:Option v_)(n k:Nat):Aq (.slice a n k)=[.slice a n k]:=nr J
theorem WI(a:Option Nat):Aq (.map a)=[.map a]:=nr J
theorem Us(a:Fn)(b c:Array T):Aq (.func a b c)=[.func a b c]:=nr J
theorem N6:Aq .nilFunc=[.nilFunc]:=nr J
theorem WK(a:E):Aq (.agg a.toArray)=a:=nr J
def nth?:E→Nat→Option T
 |[],_=>W
 |v::_,0=>V v
 |_::a,n+1=>nth? a n
theorem Du:∀(a:E) (t:Nat),nth? a t=a[t]?
 |[],_=>rfl
 |_::_,0=>rfl
 |_::a,n+1=>by
  show nth? a n=_;rw[Du a n];simp
theorem Acs(a:T)(b:E):nth? (a::b) 0=V a:=nr J
theorem Acu(b:T)(a:E)(n:Nat):nth? (b::a) (n+1)=nth? a n:=nr J
theorem Aj8(n:Nat):Z 0 n=true:=M (l_ n)
theorem Aka(n:Nat):Z n n=true:=M (b_ n)
theorem QE(n:Nat):Z (n+1) 0=false:=nr J
theorem Aj9(n m:Nat):Z (n+1) (m+1)=Z n m:=nr J
def Jf(a:T):Option E→Option E
 |some b=>V (a::b)
 |none=>W
theorem EU(a:T)(b:E):Jf a (V b)=V (a::b):=nr J
def take?:E→Nat→Option E
 |_,0=>V []
 |[],_+1=>W
 |v::a,n+1=>Jf v (take? a n)
def sub?:E→Nat→Nat→Option E
 |a,0,n=>take? a n
 |[],_+1,_=>W
 |_::a,b+1,n=>sub? a b n
def lay?:E→E→Option E
 |a,[]=>V a
 |[],_::_=>W
 |_::a,b::c=>Jf b (lay? a c)
def spl?:E→Nat→E→Option E
 |a,0,b=>lay? a b
 |[],_+1,_=>W
 |x::a,c+1,b=>Jf x (spl? a c b)
def EH:E→Nat→Bool
 |[],0=>true
 |_::a,n+1=>EH a n
 |_,_=>false
theorem KO(a:E):take? a 0=V []:=by cases a<;>rfl
theorem WU(a:T)(b:E)(n:Nat):take? (a::b) (n+1)=Jf a (take? b n):=nr J
theorem BK(a:E)(n:Nat):sub? a 0 n=take? a n:=by cases a<;>rfl
theorem Abk(c:T)(a:E)(b n:Nat):sub? (c::a) (b+1) n=sub? a b n:=nr J
theorem F4(a:E):lay? a []=V a:=by cases a<;>rfl
theorem GD(x a:T)(b c:E):lay? (x::b) (a::c)=Jf a (lay? b c):=nr J
theorem DJ(a b:E):spl? a 0 b=lay? a b:=by cases a<;>rfl
theorem DK(x:T)(a b:E)(c:Nat):spl? (x::a) (c+1) b=Jf x (spl? a c b):=nr J
theorem Ac4:EH [] 0=true:=nr J
theorem XN(b:T)(a:E)(n:Nat):EH (b::a) (n+1)=EH a n:=nr J
theorem LG:∀(a:E) (n:Nat),EH a n=true→a.length=n
 |[],0,_=>rfl
 |[],_+1,h=>by cases h
 |_::_,0,h=>by cases h
 |_::a,n+1,h=>by rw[h_,LG a n h]
theorem Vv:∀(a:E),EH a a.length=true
 |[]=>rfl
 |_::a=>Vv a
theorem PR{x:Option E}(h:Jf v x=V l):∃a,x=V a∧l=v::a:=by
 cases x with
 |none=>cases h
 |some a=>cases h;exact⟨a,J,J⟩
theorem Ux:∀(a:E) (n:Nat) (b:E),take? a n=V b→n≤a.length∧b=a.take n
 |a,0,b,h=>by rw[KO]at h;cases h;exact⟨l_ _,by simp⟩
 |[],n+1,b,h=>by cases h
 |v::a,n+1,b,h=>by
  obtain⟨c,d,f⟩:=PR (show Jf v (take? a n)=V b from h);obtain⟨b,f⟩:=Ux a n c d;exact⟨U_ b,by simp_all⟩
theorem IE:∀(a:E) (c n:Nat) (b:E),sub? a c n=V b→c+n≤a.length∧b=(a.drop c).take n
 |a,0,n,b,h=>by
  rw[BK]at h;obtain⟨d,f⟩:=Ux a n b h;exact⟨by omega,by simp_all⟩
 |[],c+1,n,b,h=>by cases h
 |v::a,c+1,n,b,h=>by
  obtain⟨d,f⟩:=IE a c n b h;exact⟨by simp only[h_];omega,by simp_all⟩
theorem Bn:∀{a:E} {n:Nat},n≤a.length→take? a n=V (a.take n)
 |a,0,_=>by rw[KO];simp
 |[],n+1,h=>by cases h
 |v::a,n+1,h=>by
  show Jf v (take? a n)=_;rw[Bn (H_ h)];rfl
theorem E7:∀{a:E} {b n:Nat},b+n≤a.length→sub? a b n=V ((a.drop b).take n)
 |a,0,n,h=>by rw[BK,Bn (by omega)];simp
 |[],b+1,n,h=>by simp_all
 |v::a,b+1,n,h=>by
  show sub? a b n=_;rw[E7 (by simp only[h_]at h;omega)];simp
theorem WW{b c:E}{d f g:T}(h:b.drop a=d::f::g::c):sub? b a 3=V [d,f,g]:=by
 have d:(b.drop a).length=c.length+3:=by simp_all
 rw[K_]at d;rw[E7 (by omega),h];rfl
theorem Rh{b c:E}(h:b.drop a=v::c):nth? b a=V v:=by rw[Du];have a:=Akv List.head? h;rw[List.head?_drop]at a;exact a
theorem ZU:∀(a b c:E),lay? a b=V c→b.length≤a.length∧c=b++a.drop b.length
 |a,[],c,h=>by rw[F4]at h;cases h;exact⟨l_ _,by simp⟩
 |[],_::_,c,h=>by cases h
 |x::a,d::b,c,h=>by
  obtain⟨f,g,i⟩:=PR (show Jf d (lay? a b)=V c from h);obtain⟨c,d⟩:=ZU a b f g;exact⟨U_ c,by simp_all⟩
theorem J6:∀(c:E) (b:Nat) (a d:E),spl? c b a=V d→b+a.length≤c.length∧d=A5 c b a
 |c,0,a,d,h=>by
  rw[DJ]at h;obtain⟨g,f⟩:=ZU c a d h;exact⟨by omega,by rw[f];simp[A5]⟩
 |[],b+1,a,d,h=>by cases h
 |x::c,b+1,a,d,h=>by
  obtain⟨i,g,f⟩:=PR (show Jf x (spl? c b a)=V d from h);obtain⟨j,d⟩:=J6 c b a i g;refine⟨by simp only[h_];omega,?_⟩;rw[f,d];unfold A5;rw[show b+1+a.length=(b+a.length)+1 by omega];simp
def ldV(p:Pr)(h:AH)(t:c_)(a:T):Option Nx:=
 match KH a with
 |some a=>CF h (h.ld p t a)
 |none=>W
def ldC(p:Pr)(t:c_)(x:Option AO)(b:Nat):Option T:=
 match x with
 |some (.cells a)=>part? p t a b
 |some (.tc _ a)=>part? p t a b
 |some (.ro a)=>part? p t a b
 |_=>W
theorem Ami(t:c_)(a:k_):Cs p q (.load t a) e h=ldV p h t (AZ e a):=nr J
theorem Anu(t:c_)(a b:Nat):ldV p h t (.pointer (V ⟨a,b,W⟩))=CF h (ldC p t (h.get a) b):=nr J
theorem Agx(t:c_)(a:Option E)(b c:Nat):Atd p h t a (.pointer (V ⟨b,c,W⟩))=Ajv (ldC p t (h.get b) c) a:=nr J
def Apx:Option E→Option T
 |some a=>V (.agg a.toArray)
 |none=>W
theorem Aeq(a:E):Apx (V a)=V (.agg a.toArray):=nr J
def ldK(a:E)(b:Nat):Option Bool→Option Nat→Option T
 |some false,_=>nth? a b
 |some true,some n=>Apx (sub? a b n)
 |_,_=>W
theorem Acg(a:E)(b n:Nat):M4 a b (V n)=Apx (sub? a b n):=by
 show Av (Z (b+n) a.length) (V (Value.agg ((a.drop b).take n).toArray)) W=_;cases c:Z (b+n) a.length with
 |true=>rw[E7 (o_ c)];rfl
 |false=>
  cases d:sub? a b n with
  |none=>rfl
  |some f=>
   have:=(IE a b n f d).1;rw[M this]at c;cases c
theorem Km(t:c_)(a:E)(b:Nat):ldC p t (V (.cells a)) b=ldK a b (p.agg t) (p.size t):=by
 show opt (p.agg t) (fun c=>Av c (M4 a b (p.size t)) a[b]?)=_;cases p.agg t with
 |none=>rfl
 |some c=>
  cases c with
  |false=>show a[b]? =nth? a b;rw[Du]
  |true=>
   show M4 a b (p.size t)=_;cases p.size t with
   |none=>rfl
   |some n=>exact Acg a b n
theorem Atx(t c:c_)(a:E)(b:Nat):ldC p t (V (.tc c a)) b=ldK a b (p.agg t) (p.size t):=Km t a b
theorem Aty(t:c_)(a:E)(b:Nat):ldC p t (V (.ro a)) b=ldK a b (p.agg t) (p.size t):=Km t a b
theorem Anv(a:E)(b:Nat)(n:Option Nat):ldK a b (V false) n=nth? a b:=by cases n<;>rfl
theorem Anw(a:E)(b n:Nat):ldK a b (V true) (V n)=Apx (sub? a b n):=nr J
def stV(p:Pr)(h:AH)(t:c_)(a b:T):Option Nx:=
 match KH a with
 |some a=>(match h.st p t a b with
  |some h=>V (.val undef h)
  |none=>W)
 |none=>W
def stC(p:Pr)(h:AH)(t:c_)(c d:Nat)(x:Option AO)(a:E):Option Nx:=
 match x with
 |some (.cells b)=>(match(opt (p.size t) fun n=>Av (Nat.beq a.length n) (Oh h ⟨c,d,W⟩ b a) W)with
  |some h=>V (.val undef h)
  |none=>W)
 |some (.tc f b)=>(match(opt (p.size t) fun n=>Av (Nat.beq a.length n) (storeT h ⟨c,d,W⟩ f b a) W)with
  |some h=>V (.val undef h)
  |none=>W)
 |_=>W
theorem Ag8(t:c_)(a x:k_):Cs p q (.store t a x) e h=stV p h t (AZ e a) (AZ e x):=nr J
theorem Als(t:c_)(a b:Nat)(c:T):stV p h t (.pointer (V ⟨a,b,W⟩)) c=stC p h t a b (h.get a) (Aq c):=by
 show(match h.st p t ⟨a,b,W⟩ c with|some h=>V (Nx.val undef h)|none=>W)=_;unfold AH.st stC;cases h.get a with
 |none=>rfl
 |some x=>cases x<;>rfl
theorem Om(c:T)(b:a<l.length):A5 l a [c]=l.set a c:=by
 apply List.ext_getElem?;intro b;rw[D5 l a [c] (by show a+1≤l.length;omega) b,List.getElem?_set];by_cases c:b=a
 ·simp_all
 rw[Akt (Ne.symm c)];by_cases c:b<a
 ·simp_all
 rw[Akt c,Akt (by show¬b<a+1;omega)]
def By:E→Bool
 |[]=>true
 |v::a=>v.oneCell'&&By a
theorem Xr:By []=true:=nr J
theorem M7(a:T)(b:E):By (a::b)=(a.oneCell'&&By b):=nr J
theorem Di:∀(a:E),By a=a.all N_
 |[]=>rfl
 |v::a=>by rw[M7,af_,Di a]
def stR(h:AH)(b:Nat)(a:E):Option Nat→Option E→Option Nx
 |some n,some c=>cond (EH a n&&By a) (V (.val undef (h.put b (.cells c)))) W
 |_,_=>W
theorem Iu(a:E)(n:Nat):Nat.beq a.length n=EH a n:=by
 cases b:EH a n with
 |true=>rw[LG a n b,q_]
 |false=>
  cases c:Nat.beq a.length n with
  |false=>rfl
  |true=>rw[←s_ c,Vv]at b;cases b
theorem Hj{c b:E}(d:a+b.length≤c.length):spl? c a b=V (A5 c a b):=by
 cases j:spl? c a b with
 |some i=>rw[(J6 c a b i j).2]
 |none=>
  exfalso;have o:∀(c b:E) (a:Nat),a+b.length≤c.length→spl? c a b≠W:=by
      intro c;induction c with
      |nil=>intro b a d;cases b with
       |nil=>cases a with
        |zero=>intro h;rw[DJ,F4]at h;cases h
        |succ a=>simp at d
       |cons r b=>simp at d
      |cons x c l=>intro b a d;cases a with
       |succ a=>
        intro h;have g:=l b a (by simp only[h_]at d;omega);rw[DK]at h;cases f:spl? c a b with
        |none=>exact g f
        |some i=>rw[f]at h;cases h
       |zero=>
        cases b with
        |nil=>intro h;rw[DJ,F4]at h;cases h
        |cons r b=>
         intro h;have g:=l b 0 (by simp_all);rw[DJ,GD]at h;rw[DJ]at g;cases f:lay? c b with
         |none=>exact g f
         |some i=>rw[f]at h;cases h
  exact o c b a d j
def stG(h:AH)(b:Nat)(c:E→AO)(a:E):Option Nat→Option E→Option Nx
 |some n,some d=>cond (EH a n&&By a) (V (.val undef (h.put b (c d)))) W
 |_,_=>W
theorem Afv(f:E→AO)(g b:Nat)(c a:E)(d:Option Nat):
  (match(opt d fun n=>Av (Nat.beq a.length n) (Av (Z (b+a.length) c.length&&a.all N_) (V (h.put g (f (A5 c b a)))) W) W)with
   |some h=>V (Nx.val undef h)
   |none=>W)=stG h g f a d (spl? c b a):=by
 cases d with
 |none=>cases spl? c b a<;>rfl
 |some n=>
  show(match Av (Nat.beq a.length n) _ W with|some h=>V (Nx.val undef h)|none=>W)=_;rw[Iu];cases d:Z (b+a.length) c.length with
  |true=>
   rw[Hj (o_ d)];simp only[stG];rw[Di];cases EH a n<;>cases a.all N_<;>rfl
  |false=>
   cases f:spl? c b a with
   |none=>cases EH a n<;>rfl
   |some g=>
    rw[M (J6 c b a g f).1]at d;cases d
theorem Abv(t:c_)(d b:Nat)(c a:E):stC p h t d b (V (.cells c)) a=stR h d a (p.size t) (spl? c b a):=by refine(Afv AO.cells d b c a (p.size t)).trans ?_;cases p.size t<;>cases spl? c b a<;>rfl
def stT(h:AH)(b:Nat)(c:c_)(a:E):Option Nat→Option E→Option Nx
 |some n,some d=>cond (EH a n&&By a) (V (.val undef (h.put b (.tc c d)))) W
 |_,_=>W
theorem Asr(t d:c_)(f b:Nat)(c a:E):stC p h t f b (V (.tc d c)) a=stT h f d a (p.size t) (spl? c b a):=by refine(Afv (AO.tc d) f b c a (p.size t)).trans ?_;cases p.size t<;>cases spl? c b a<;>rfl
theorem Aft(b:Nat)(c:c_)(a:E)(n:Nat)(d:E):stT h b c a (V n) (V d)=cond (EH a n&&By a) (V (.val undef (h.put b (.tc c d)))) W:=nr J
theorem Afu(b:Nat)(a:E)(n:Nat)(c:E):stR h b a (V n) (V c)=cond (EH a n&&By a) (V (.val undef (h.put b (.cells c)))) W:=nr J
theorem Vb(k:B_)(n:Int):(Value.int k n).oneCell'=true:=nr J
theorem OV(a:ByteArray):(Value.string a).oneCell'=true:=nr J
theorem Va(a:Option v_):(Value.pointer a).oneCell'=true:=nr J
theorem Qt(a:Option v_)(n k:Nat):(Value.slice a n k).oneCell'=true:=nr J
theorem SQ(a:Fn)(b c:Array T):(Value.func a b c).oneCell'=true:=nr J
theorem Ai(a:Nat)(b:AO):(h.put a b).get a=V b:=by rw[AH.IW,Agd rfl]
theorem Ae(a:AO):(h.new a).get h.n=V a:=by rw[AH.Er,Agd rfl]
theorem AF(h:(a==b)=false):a≠b:=by simp_all
theorem Ab(c:AO)(d:(b==a)=false):(h.put a c).get b=h.get b:=by rw[AH.IW,Akt (AF d)]
theorem An(b:AO)(c:(a==h.n)=false):(h.new b).get a=h.get a:=by rw[AH.Er,Akt (AF c)]
theorem CL(c:(b==a)=false):(h.del a).get b=h.get b:=by rw[AH.Ko,Akt (AF c)]
theorem Yb(h:(a==b)=true):a=b:=by simp_all
theorem XY(b:AO)(c:(a==h.n)=true):(h.new b).get a=V b:=by rw[AH.Er,Agd (Yb c)]
attribute [go_sem] Aon Ady Ai9 Ab7 Ab8 Ax6 Ax5 Ax4 Aco Acp Adn XZ X0 Ait VM Ar0 WJ Qj WH Sr WI Us N6 WK Acs Acu Aj8 Aka QE Aj9 EU KO WU BK Abk F4 GD DJ DK Ac4 XN Ami Anu Agx Aeq Km Atx Aty Anv Anw Ag8 Als Xr M7 Abv Asr Aft Afu Vb OV Va Qt SQ Ai Ae Ab An CL XY
attribute [go_sem] beq_self_eq_true
theorem Ag(h:a≠b:=by omega):(a==b)=false:=by simp_all
theorem AE{a n:Nat}(h:a<n):(a==n)=false:=Ag
theorem Aux{a n:Nat}(k:Nat)(h:a<n):(a==n+k)=false:=Ag
theorem Apl{a n:Nat}(h:a<n):(n==a)=false:=Ag
theorem YC{a n:Nat}(k:Nat)(h:a<n):(n+k==a)=false:=Ag
theorem Apz(n:Nat):n+1+1=n+2:=nr J
theorem Akr(n:Nat):n+1+2=n+3:=nr J
theorem Akq(n:Nat):n+1+3=n+4:=nr J
theorem Akp(n:Nat):n+1+4=n+5:=nr J
theorem Ako(n:Nat):n+1+5=n+6:=nr J
theorem Akn(n:Nat):n+1+6=n+7:=nr J
theorem Auy(n:Nat)(h:(a==b)=false):(n+a==n+b)=false:=Ag (by simp_all)
theorem Atn(a:Nat)(b:AO):(h.put a b).n=h.n:=nr J
theorem Atp(a:Nat):(h.del a).n=h.n:=nr J
theorem Ato(a:AO):(h.new a).n=h.n+1:=nr J
theorem Amh(x:k_):Cs p q (.move x) e h=V (.val (AZ e x) h):=nr J
theorem Acj(x:k_):Cs p q (.assign x) e h=V (.val (AZ e x) h):=nr J
def pkV(h:AH)(a b c:T):Option Nx:=
 match a with
 |.bool t=>V (.val (cond t b c) h)
 |_=>W
theorem Amg(a b c:k_):Cs p q (.pick a b c) e h=pkV h (AZ e a) (AZ e b) (AZ e c):=nr J
theorem Ag3(t:Bool)(a b:T):pkV h (.bool t) a b=V (.val (cond t a b) h):=nr J
def alV(h:AH)(t:c_)(a:Option T):Option Nx:=
 match a with
 |some a=>V (.val (.pointer (V ⟨h.n,0,W⟩)) (h.new (aoT t (Aq a))))
 |none=>W
theorem Ahf(t:c_):Cs p q (.alloc t) e h=alV h t (p.zero t):=nr J
theorem Akm(t:c_)(a:T):alV h t (V a)=V (.val (.pointer (V ⟨h.n,0,W⟩)) (h.new (aoT t (Aq a)))):=nr J
def aoC(t:c_)(a:E)(b c:Bool):AO:=Av (b||c) (.tc t a) (.cells a)
theorem Au1(t:c_)(a:E):aoT t a=aoC t a (t==58) (t==60):=nr (by
 have e:∀n,Nat.beq t n=(t==n):=fun n=>by
  rw[ak_];simp
 unfold aoT aoC TM;rw[e,e])
theorem Au3(t:c_)(a:E):aoC t a false false=.cells a:=nr J
theorem Ax7(t:c_)(a:E):aoC t a false true=.tc t a:=nr J
theorem Atf(t:c_)(x:k_):Cs p q (.box t x) e h=V (.val (.pointer (V ⟨h.n,0,W⟩)) (h.new (.cells (Aq (AZ e x))))):=nr J
def bdV(h:AH)(x:Option E):Option Nx:=
 match x with
 |some a=>V (.val (.agg a.toArray) h)
 |none=>W
def bdK(h:AH)(a:List (Nat×T)):Option (List (Nat×Nat)×E)→Option Nx
 |some (b,c)=>bdV h (Ew b c a)
 |none=>W
theorem Akd(a:List (Nat×T))(b:List (Nat×Nat))(c:E):bdK h a (V (b,c))=bdV h (Ew b c a):=nr J
theorem Ahe(t:c_)(c:List (Nat×k_)):Cs p q (.build t c.toArray) e h=bdK h (Cp e c) (LW p t):=by
 show opt (DS p t) (fun d=>opt (p.zero t) fun b=>opt (FO p d) fun a=>opt (Ew a (Aq b) (Cp e c)) fun f=>V (Nx.val (.agg f.toArray) h))=_;unfold LW;cases DS p t with
 |none=>rfl
 |some d=>
  show opt (p.zero t) (fun b=>opt (FO p d) fun a=>opt (Ew a (Aq b) (Cp e c)) fun f=>V (Nx.val (.agg f.toArray) h))=bdK h (Cp e c) (opt (p.zero t) fun b=>opt (FO p d) fun a=>V (a,Aq b));cases p.zero t with
  |none=>rfl
  |some b=>
   show opt (FO p d) (fun a=>opt (Ew a (Aq b) (Cp e c)) fun f=>V (Nx.val (.agg f.toArray) h))=bdK h (Cp e c) (opt (FO p d) fun a=>V (a,Aq b));cases FO p d with
   |none=>rfl
   |some a=>
    show opt (Ew a (Aq b) (Cp e c)) (fun f=>V (Nx.val (.agg f.toArray) h))=bdV h (Ew a (Aq b) (Cp e c));cases Ew a (Aq b) (Cp e c)<;>rfl
theorem Akc(a:E):bdV h (V a)=V (.val (.agg a.toArray) h):=nr J
theorem Xi:Cp e []=[]:=nr J
theorem U2(a:Nat)(x:k_)(b:List (Nat×k_)):Cp e ((a,x)::b)=(a,AZ e x)::Cp e b:=nr J
theorem Adr(a:List (Nat×Nat))(b:E):Ew a b []=V b:=by cases a<;>rfl
def Xv:List (Nat×Nat)→Nat→Option (Nat×Nat)
 |[],_=>W
 |v::_,0=>V v
 |_::a,n+1=>Xv a n
theorem ZI:∀(a:List (Nat×Nat)) (t:Nat),Xv a t=a[t]?
 |[],_=>rfl
 |_::_,0=>rfl
 |_::a,n+1=>by
  show Xv a n=_;rw[ZI a n];simp
theorem Acq(a:Nat×Nat)(b:List (Nat×Nat)):Xv (a::b) 0=V a:=nr J
theorem Acr(b:Nat×Nat)(a:List (Nat×Nat))(n:Nat):Xv (b::a) (n+1)=Xv a n:=nr J
def Aq9(f:List (Nat×Nat))(a b:E)(g:List (Nat×T)):Option (Nat×Nat)→Option E
 |some (c,d)=>cond (Nat.beq b.length d&&Z (c+d) a.length) (Ew f (A5 a c b) g) W
 |none=>W
theorem X7(a:List (Nat×Nat))(c:E)(b:Nat)(d:T)(f:List (Nat×T)):
  Ew a c ((b,d)::f)=Aq9 a c (Aq d) f (Xv a b):=by
 rw[ZI];cases a with
 |nil=>rfl
 |cons c a=>
  show(match(c::a)[b]? with|some (d,f)=>_|none=>W)=_;cases(c::a)[b]? with
  |none=>rfl
  |some x=>rfl
def Aq8(a:List (Nat×Nat))(b:List (Nat×T))(c:Bool):Option E→Option E
 |some d=>cond c (Ew a d b) W
 |none=>W
theorem X6(f:List (Nat×Nat))(b a:E)(c d:Nat)(g:List (Nat×T)):Aq9 f b a g (V (c,d))=Aq8 f g (EH a d) (spl? b c a):=by
 show cond (Nat.beq a.length d&&Z (c+d) b.length) (Ew f (A5 b c a) g) W=_;rw[Iu];cases f:EH a d with
 |false=>cases spl? b c a<;>rfl
 |true=>
  have g:=LG a d f;subst g;cases d:Z (c+a.length) b.length with
  |true=>
   rw[Hj (o_ d)];rfl
  |false=>
   cases f:spl? b c a with
   |none=>rfl
   |some g=>
    rw[M (J6 b c a g f).1]at d;cases d
theorem X5(a:List (Nat×Nat))(b:List (Nat×T))(c:Bool)(d:E):Aq8 a b c (V d)=cond c (Ew a d b) W:=nr J
def bsV(h:AH)(n a:Nat)(x:Option E):Option Nx:=
 match x with
 |some b=>Av (Z 1 n&&Z a 1000&&Z n 1000) (V (.val (.slice (V ⟨h.n,0,W⟩) a n) (h.new (.cells b)))) W
 |none=>W
def bsK(h:AH)(a:Nat)(b:List (Nat×T)):Option (Nat×E)→Option Nx
 |some (n,c)=>bsV h n a (Eb n (DZ c a) b)
 |none=>W
theorem Aj5(a:Nat)(b:List (Nat×T))(n:Nat)(c:E):bsK h a b (V (n,c))=bsV h n a (Eb n (DZ c a) b):=nr J
theorem Qs(t:c_)(a:Nat)(d:List (Nat×k_)):Cs p q (.buildSlice t a d.toArray) e h=bsK h a (Cp e d) (TK p t):=by
 show opt (AX p t) (fun b=>opt (p.zero b) fun c=>opt (p.size b) fun n=>opt (Eb n (DZ (Aq c) a) (Cp e d)) fun f=>
  Av (Z 1 n&&Z a 1000&&Z n 1000) (V (Nx.val (Value.slice (V ⟨h.n,0,W⟩) a n) (h.new (.cells f)))) W)=_
 unfold TK;cases AX p t with
 |none=>rfl
 |some b=>
  show opt (p.zero b) (fun c=>opt (p.size b) fun n=>opt (Eb n (DZ (Aq c) a) (Cp e d)) fun f=>
   Av (Z 1 n&&Z a 1000&&Z n 1000) (V (Nx.val (Value.slice (V ⟨h.n,0,W⟩) a n) (h.new (.cells f)))) W)=bsK h a (Cp e d) (opt (p.zero b) fun c=>opt (p.size b) fun n=>V (n,Aq c))
  cases p.zero b with
  |none=>rfl
  |some c=>
   show opt (p.size b) (fun n=>opt (Eb n (DZ (Aq c) a) (Cp e d)) fun f=>
    Av (Z 1 n&&Z a 1000&&Z n 1000) (V (Nx.val (Value.slice (V ⟨h.n,0,W⟩) a n) (h.new (.cells f)))) W)=bsK h a (Cp e d) (opt (p.size b) fun n=>V (n,Aq c))
   cases p.size b with
   |none=>rfl
   |some n=>
    show opt (Eb n (DZ (Aq c) a) (Cp e d)) (fun f=>Av (Z 1 n&&Z a 1000&&Z n 1000) (V (Nx.val (Value.slice (V ⟨h.n,0,W⟩) a n) (h.new (.cells f)))) W)=bsV h n a (Eb n (DZ (Aq c) a) (Cp e d));cases Eb n (DZ (Aq c) a) (Cp e d)<;>rfl
theorem Aj4{n a:Nat}(b:(Z 1 n&&Z a 1000&&Z n 1000)=true):bsV h n a (V l)=V (.val (.slice (V ⟨h.n,0,W⟩) a n) (h.new (.cells l))):=by show Av (Z 1 n&&Z a 1000&&Z n 1000) _ _=_;rw[b]
theorem Ags(a:E):DZ a 0=[]:=nr J
theorem UX(a:E)(n:Nat):DZ a (n+1)=a++DZ a n:=nr J
theorem Adq(b:Nat)(a:E):Eb b a []=V a:=by unfold Eb;rfl
def fsR(a:Nat)(b:List (Nat×T))(c:Bool):Option E→Option E
 |some d=>cond c (Eb a d b) W
 |none=>W
theorem Aiy(a:Nat)(b:List (Nat×T))(c:Bool)(d:E):fsR a b c (V d)=cond c (Eb a d b) W:=nr J
theorem X4(a d:Nat)(c:E)(b:T)(f:List (Nat×T)):Eb a c ((d,b)::f)=fsR a f (EH (Aq b) a) (spl? c (d*a) (Aq b)):=by
 show cond (Nat.beq (Aq b).length a&&Z (d*a+a) c.length) (Eb a (A5 c (d*a) (Aq b)) f) W=_;rw[Iu];cases f:EH (Aq b) a with
 |false=>cases spl? c (d*a) (Aq b)<;>rfl
 |true=>
  have g:=LG (Aq b) a f;cases f:Z (d*a+a) c.length with
  |true=>
   rw[Hj (by simp_all)];rfl
  |false=>
   cases i:spl? c (d*a) (Aq b)with
   |none=>rfl
   |some a=>
    have:=(J6 c _ _ a i).1;rw[g]at this;rw[M this]at f;cases f
def faV(p:Pr)(h:AH)(t:c_)(c:Nat)(d:T):Option Nx:=
 opt (DS p t) fun f=>opt (KH d) fun a=>opt f[c]? fun b=>opt (p.size b.type) fun k=>
  Av (Z 1 k) (V (Nx.val (Value.pointer (V ⟨a.block,a.off+b.offset,W⟩)) h)) W
theorem SO(t:c_)(x:k_)(a:Nat):Cs p q (.fieldAddr t x a) e h=faV p h t a (AZ e x):=nr J
def faK(h:AH)(a b:Nat):Option Nat→Option Nx
 |some c=>V (.val (.pointer (V ⟨a,b+c,W⟩)) h)
 |none=>W
theorem Ai6(a b c:Nat):faK h a b (V c)=V (.val (.pointer (V ⟨a,b+c,W⟩)) h):=nr J
theorem Aok(t:c_)(d b c:Nat):faV p h t d (.pointer (V ⟨b,c,W⟩))=faK h b c (Cr p t d):=by
 unfold faV Cr;cases DS p t with
 |none=>rfl
 |some f=>
  show opt f[d]? (fun a=>opt (p.size a.type) fun k=>Av (Z 1 k) (V (Nx.val (Value.pointer (V ⟨b,c+a.offset,W⟩)) h)) W)=faK h b c (opt f[d]? fun a=>opt (p.size a.type) fun k=>Av (Z 1 k) (V a.offset) W);cases f[d]? with
  |none=>rfl
  |some a=>
   show opt (p.size a.type) (fun k=>Av (Z 1 k) (V (Nx.val (Value.pointer (V ⟨b,c+a.offset,W⟩)) h)) W)=faK h b c (opt (p.size a.type) fun k=>Av (Z 1 k) (V a.offset) W);cases p.size a.type with
   |none=>rfl
   |some k=>
    show Av (Z 1 k) (V (Nx.val (Value.pointer (V ⟨b,c+a.offset,W⟩)) h)) W=faK h b c (Av (Z 1 k) (V a.offset) W);cases Z 1 k<;>rfl
def fdV(p:Pr)(h:AH)(t:c_)(b:Nat)(c:T):Option Nx:=
 opt (DS p t) fun d=>opt (Apy c) fun f=>opt d[b]? fun a=>CF h (part? p a.type f a.offset)
theorem Ahd(t:c_)(x:k_)(a:Nat):Cs p q (.field t x a) e h=fdV p h t a (AZ e x):=nr J
def fdK(p:Pr)(h:AH)(b:E):Option (c_×Nat)→Option Nx
 |some (a,c)=>CF h (ldK b c (p.agg a) (p.size a))
 |none=>W
theorem Ai5(b:E)(a:c_)(c:Nat):fdK p h b (V (a,c))=CF h (ldK b c (p.agg a) (p.size a)):=nr J
theorem Aoi(t:c_)(c:Nat)(b:E):fdV p h t c (.agg b.toArray)=fdK p h b (fdO p t c):=by
 unfold fdV fdO;cases DS p t with
 |none=>rfl
 |some d=>
  show opt d[c]? (fun a=>CF h (part? p a.type b a.offset))=fdK p h b (opt d[c]? fun a=>V (a.type,a.offset));cases d[c]? with
  |none=>rfl
  |some a=>
   show CF h (part? p a.type b a.offset)=CF h (ldK b a.offset (p.agg a.type) (p.size a.type));rw[←Km];rfl
theorem SN(t:c_)(x a:k_):Cs p q (.indexAddr t x a) e h=CF h (IU p t (AZ e x) (AZ e a)):=nr J
theorem Ahb(t:c_)(x a:k_):Cs p q (.index t x a) e h=CF h (Tf p t (AZ e x) (AZ e a)):=nr J
def iaK(b c d a:Nat):Option Nat→Option Nat→Option T
 |some k,some n=>Av (w_ n d&&Nat.beq k a) (V (.pointer (V ⟨b,c+n*a,W⟩))) W
 |_,_=>W
theorem Te(t:c_)(c a:Nat)(b:T)(d f:Nat):IU p t (.slice (V ⟨d,f,W⟩) c a) b=iaK d f c a (Qg p t) (CW b):=by
 unfold IU Qg;cases CW b with
 |none=>cases opt (AX p t) fun b=>p.size b<;>rfl
 |some n=>
  show opt (AX p t) (fun e=>opt (p.size e) fun k=>Av (w_ n c&&Nat.beq k a) (V (Value.pointer (V ⟨d,f+n*a,W⟩))) W)=iaK d f c a (opt (AX p t) fun b=>p.size b) (V n);cases AX p t with
  |none=>rfl
  |some b=>
   show opt (p.size b) (fun k=>Av (w_ n c&&Nat.beq k a) (V (Value.pointer (V ⟨d,f+n*a,W⟩))) W)=iaK d f c a (p.size b) (V n);cases p.size b<;>rfl
theorem At6{n b:Nat}(f:n<b)(c d a:Nat):iaK c d b a (V a) (V n)=V (.pointer (V ⟨c,d+n*a,W⟩)):=by show Av (w_ n b&&Nat.beq a a) _ _=_;rw[q_,show w_ n b=true by simp_all];rfl
def ixK(a:H):Option V_→Option Nat→Option T
 |some .string,some n=>Ps a n
 |_,_=>W
theorem Adc(t:c_)(a:T)(b:H):Tf p t (.string ⟨b.toArray⟩) a=ixK b (p.CY t) (CW a):=by
 unfold Tf;cases CW a with
 |none=>cases p.CY t with
  |none=>rfl
  |some a=>cases a<;>rfl
 |some n=>
  show(match p.CY t with|some .string=>Ps b n|_=>W)=_;cases p.CY t with
  |none=>rfl
  |some a=>cases a<;>rfl
def ixR:Option UInt8→Option T
 |some a=>V (.int .u8 a.toNat)
 |none=>W
theorem Atz(a:H)(n:Nat):ixK a (V .string) (V n)=ixR a[n]? :=by show opt a[n]? (fun b=>V (Value.int .u8 b.toNat))=_;cases a[n]? <;>rfl
theorem Ail(a:UInt8):ixR (V a)=V (.int .u8 a.toNat):=nr J
theorem XA(k:B_)(n:Nat):CW (.int k (n:Int))=V n:=nr J
theorem Amx(k:B_):CW (.int k 0)=V 0:=nr J
theorem Amw(k:B_):CW (.int k 1)=V 1:=nr J
theorem Amv(k:B_):CW (.int k 2)=V 2:=nr J
theorem Atg(a:BinOp)(t:c_)(x y:k_)(b:c_):Cs p q (.binOp a t x y b) e h=CF h (Cu p a t x y (AZ e x) (AZ e y)):=nr J
theorem Eh{a:BinOp}{t:c_}{x y:k_}{k:B_}{n m:Int}(b:ME a k n m=V v):Cu p a t x y (.int k n) (.int k m)=V v:=by show orElse' (Av (decide (k=k)) (ME a k n m) W) _=_;rw[Aeu rfl];show orElse' (ME a k n m) _=_;rw[b];rfl
attribute [go_sem] AE Aux Apl YC Apz Akr Akq Akp Ako Akn Auy Atn Atp Ato Amh Acj Amg Ag3 Ahf Akm Au1 Au3 Ax7 Atf Akd Ahe Akc Xi U2 Adr Acq Acr X7 X6 X5 Aj5 Qs Aj4 Ags UX Adq Aiy X4 SO Ai6 Aok Ahd Ai5 Aoi SN Ahb Te At6 Adc Atz Ail XA Amx Amw Amv Atg
section
variable{t:TypeId}{x y:Operand}{k:IntKind}{n m:Int}
theorem Apj:Cu p .add t x y (.int k n) (.int k m)=V (.int k (k.wrap (n+m))):=Eh J
theorem Ao7:Cu p .sub t x y (.int k n) (.int k m)=V (.int k (k.wrap (n-m))):=Eh J
theorem Apd:Cu p .mul t x y (.int k n) (.int k m)=V (.int k (k.wrap (n*m))):=Eh J
theorem Api:Cu p .eql t x y (.int k n) (.int k m)=V (.bool (n==m)):=Eh J
theorem Apc:Cu p .neq t x y (.int k n) (.int k m)=V (.bool (n !=m)):=Eh J
theorem Ape:Cu p .lss t x y (.int k n) (.int k m)=V (.bool (decide (n<m))):=Eh J
theorem Apf:Cu p .leq t x y (.int k n) (.int k m)=V (.bool (decide (n≤m))):=Eh J
theorem Apg:Cu p .gtr t x y (.int k n) (.int k m)=V (.bool (decide (m<n))):=Eh J
theorem Aph:Cu p .geq t x y (.int k n) (.int k m)=V (.bool (decide (m≤n))):=Eh J
theorem Ao9(a b:H):Cu p .eql t x y (.string ⟨a.toArray⟩) (.string ⟨b.toArray⟩)=V (.bool (a==b)):=nr J
theorem Ao8(a b:H):Cu p .neq t x y (.string ⟨a.toArray⟩) (.string ⟨b.toArray⟩)=V (.bool (!(a==b))):=nr J
theorem DG(a b:H)(c:a.length+b.length≤1000000000):Cu p .add t x y (.string ⟨a.toArray⟩) (.string ⟨b.toArray⟩)=V (.string ⟨(a++b).toArray⟩):=by show Av (Z (a.length+b.length) 1000000000) _ _=_;rw[M c]
attribute [go_sem] Apj Ao7 Apd Api Apc Ape Apf Apg Aph Ao9 Ao8
end
theorem Awp(a:UnOp)(t:c_)(x:k_):Cs p q (.unOp a t x) e h=CF h (unA a (AZ e x)):=nr J
theorem Ar5(a:Bool):unA .not (.bool a)=V (.bool (!a)):=nr J
theorem Ar6(k:B_)(n:Int):unA .neg (.int k n)=V (.int k (k.wrap (0-n))):=nr J
def ncV(p:Pr)(h:AH)(a:T):Option Nx:=
 match a with
 |.pointer (some a)=>V (.val (.pointer (V a)) h)
 |.func (.func b) x a=>V (.val (.func (.func b) x a) h)
 |.func (.method b) x a=>cond (FC p b x.toList) (V (.val (.func (.method b) x a) h)) W
 |_=>W
theorem U8(x:k_):Cs p q (.nilCheck x) e h=ncV p h (AZ e x):=nr J
theorem Amu(a:v_):ncV p h (.pointer (V a))=V (.val (.pointer (V a)) h):=nr J
def cvV(p:Pr)(a:c_)(h:AH)(b:T)(c d:Option V_):Option Nx:=opt c fun _=>opt d fun f=>KF p f a b h
theorem Xq(b a:c_)(x:k_):Cs p q (.convert b a x) e h=cvV p a h (AZ e x) (p.CY b) (p.CY a):=nr J
theorem Aou(a:c_)(b:V_)(k c:B_)(n:Int):cvV p a h (.int c n) (V b) (V (.int k))=V (.val (.int k (k.wrap n)) h):=nr J
theorem Amj(a:Fn)(first b:List k_):Cs p q (.makeFunc a first.toArray b.toArray) e h=V (.val (.func a ((Fp e first).toArray) ((Fp e b).toArray)) h):=by
 have b:∀a:List k_,Fp e a=a.map (AZ e):=by
  intro a;induction a with
  |nil=>rfl
  |cons x a c=>show AZ e x::Fp e a=_;rw[c];rfl
 rw[b,b];rfl
theorem Aem:Fp e []=[]:=nr J
theorem YL(x:k_)(a:List k_):Fp e (x::a)=AZ e x::Fp e a:=nr J
def mfV(p:Pr)(t:c_)(h:AH)(a:T):Option V_→Option Nx
 |some (.interface _)=>W
 |some _=>V (.val (.iface t a) h)
 |none=>W
theorem Xn(t:c_):Cs p q (.makeMap t W) e h=V (.val (.map (V h.n)) (h.new (.map []))):=nr J
def exV(h:AH)(a:Nat)(b:T):Option Nx:=
 match b with
 |.tuple b=>CF h b.toList[a]?
 |_=>W
theorem Xo(x:k_)(a:Nat):Cs p q (.extract x a) e h=exV h a (AZ e x):=nr J
theorem Adx(a:Nat)(b:E):exV h a (.tuple b.toArray)=CF h (nth? b a):=by rw[Du];rfl
theorem Amk(a:Call):Cs p q (.call a) e h=Eu p q a.callee a.argTypes a.args e h:=nr J
theorem TH(t:c_)(a:k_)(c:Array c_)(b:List k_):Eu p t (.value a) c b.toArray e h=Nq (Fp e b) h (AZ e a):=nr J
theorem PX(t:c_)(a:Builtin)(b:List c_)(c:List k_):Eu p t (.builtin a) b.toArray c.toArray e h=HG (Bx p h a b t (Fp e c)):=nr J
theorem Yv(a:E)(b:u_)(first c:E):Nq a h (.func (.func b) first.toArray c.toArray)=V (.call b (first++(a++c)) h):=nr J
theorem Yw(a:T)(b:AH):HG (V (a,b))=V (.val a b):=nr J
theorem Ax2(a:List c_)(t:c_)(b:T):Bx p h .len a t [b]=Pe p h a b:=nr J
def lnK(h:AH)(n:Nat):Option V_→Option (T×AH)
 |some .string=>V (.int .i64 n,h)
 |_=>W
theorem Ah1(n:Nat):lnK h n (V .string)=V (.int .i64 n,h):=nr J
theorem Anp(t:c_)(b:List c_)(a:H):Pe p h (t::b) (.string ⟨a.toArray⟩)=lnK h a.length (p.CY t):=by
 show opt (p.CY t) (fun b=>opt (Pb h b (.string ⟨a.toArray⟩)) fun n=>V (Value.int .i64 n,h))=_;cases p.CY t with
 |none=>rfl
 |some b=>cases b<;>rfl
theorem Ac3{t:c_}{b:List c_}{n k:Nat}(a:Cc p t=true):Pe p h (t::b) (.slice o n k)=V (.int .i64 n,h):=by
 unfold Cc at a;show opt (p.CY t) _=_;split at a
 ·rename_i c b;rw[b];rfl
 cases a
theorem Ax1(c:List c_)(t:c_)(k:B_)(a b:Int):Bx p h .max c t [.int k a,.int k b]=V (.int k (if b>a then b else a),h):=nr J
theorem Ax0(c:List c_)(t:c_)(k:B_)(a b:Int):Bx p h .min c t [.int k a,.int k b]=V (.int k (if b<a then b else a),h):=nr J
theorem Ake(a:List c_)(t:c_)(b:T)(c:Option v_)(n k:Nat):Bx p h .append a t [b,.slice c n k]=Gy p h a b (.slice c n k):=nr J
theorem YE(a:List c_)(t:c_)(b:T)(c:ByteArray):Bx p h .append a t [b,.string c]=Gy p h a b (.string c):=nr J
def apK(h:AH)(b:Option v_)(c d:Nat)(a:Option E)(n:Option Nat):Option Nat→Option (T×AH)
 |some f=>opt a fun a=>opt n fun n=>CB h f b c d a n
 |none=>W
theorem Qb(t f:c_)(g:Option v_)(i j:Nat)(x:T):Gy p h [t,f] (.slice g i j) x=opt (Qc p t f) fun a=>opt (AX p t) fun e=>opt (EF h x) fun c=>opt (K0 x) fun n=>Dz h e a g i j c n x:=by
 show opt (p.CY f) (fun d=>Av (JH d) (opt (AX p t) fun e=>opt (p.size e) fun a=>opt (p.zero e) fun _=>opt (EF h x) fun c=>opt (K0 x) fun n=>Dz h e a g i j c n x) W)=_;unfold Qc;cases p.CY f with
 |none=>rfl
 |some d=>
  show Av (JH d) (opt (AX p t) fun e=>opt (p.size e) fun a=>opt (p.zero e) fun _=>opt (EF h x) fun c=>opt (K0 x) fun n=>Dz h e a g i j c n x) W=opt (Av (JH d) (opt (AX p t) fun e=>opt (p.size e) fun a=>opt (p.zero e) fun _=>V a) W) _;cases JH d with
  |false=>rfl
  |true=>
   cases l:AX p t with
   |none=>rfl
   |some b=>
    show opt (p.size b) (fun a=>opt (p.zero b) fun _=>_)=opt (opt (p.size b) fun a=>opt (p.zero b) fun _=>V a) _;cases p.size b with
    |none=>rfl
    |some a=>cases p.zero b<;>rfl
theorem Aeo(t b:c_)(c a:Option v_)(d f m k:Nat):Gy p h [t,b] (.slice c d f) (.slice a m k)=apK h c d f (EF h (.slice a m k)) (K0 (.slice a m k)) (Qc p t b):=by
 rw[Qb];cases a:Qc p t b with
 |none=>rfl
 |some b=>
  cases b:AX p t with
  |none=>
   unfold Qc at a;rw[b]at a;obtain⟨_,_,a⟩:=Ad a;obtain⟨_,a⟩:=Al a;cases a
  |some a=>rfl
def apS(h:AH)(b:Option v_)(c d:Nat)(a:ByteArray):Option Nat→Option c_→Option (T×AH)
 |some f,some e=>Dz h e f b c d (AW a.data.toList) a.data.toList.length (.string a)
 |_,_=>W
theorem Aen(t a:c_)(b:Option v_)(c d:Nat)(f:ByteArray):Gy p h [t,a] (.slice b c d) (.string f)=apS h b c d f (Qc p t a) (AX p t):=by rw[Qb];cases Qc p t a<;>cases AX p t<;>rfl
theorem Akg(b:Option v_)(c d:Nat)(a:H)(f:Nat)(e:c_):apS h b c d ⟨a.toArray⟩ (V f) (V e)=Dz h e f b c d (AW a) a.length (.string ⟨a.toArray⟩):=nr J
def UT(a k:Nat):Option AO→Option E
 |some (.cells b)=>sub? b a k
 |_=>W
theorem II(a:E)(b k:Nat):UT b k (V (.cells a))=sub? a b k:=nr J
theorem JA(f c a d:Nat)(g:0<a):h.row (.slice (V ⟨f,c,W⟩) a d)=UT c (a*d) (h.get f):=by
 show cond (Nat.beq a 0) (V []) (match h.get f with|some (.cells b)=>cond (Z (c+a*d) b.length) (V ((b.drop c).take (a*d))) W|_=>W)=_;rw[show Nat.beq a 0=false by cases a with|zero=>exact absurd g (P_ 0)|succ n=>rfl];show(match h.get f with|some (.cells b)=>cond (Z (c+a*d) b.length) (V ((b.drop c).take (a*d))) W|_=>W)=_;cases h.get f with
 |none=>rfl
 |some x=>
  cases x with
  |cells b=>
   show cond (Z (c+a*d) b.length) (V ((b.drop c).take (a*d))) W=sub? b c (a*d);cases f:Z (c+a*d) b.length with
   |true=>rw[E7 (o_ f)];rfl
   |false=>
    cases g:sub? b c (a*d)with
    |none=>rfl
    |some a=>
     rw[M (IE b _ _ a g).1]at f;cases f
  |map a=>rfl
  |tc a b=>rfl
  |iter a k=>rfl
  |ro b=>rfl
theorem Agi(a:Option v_)(b:Nat):h.row (.slice a 0 b)=V []:=by cases a<;>rfl
theorem row_one(a b c:Nat):h.row (.slice (V ⟨a,b,W⟩) 1 c)=UT b (1*c) (h.get a):=JA a b 1 c Nat.one_pos
theorem Vk(a:Option v_)(n b:Nat):EF h (.slice a n b)=h.row (.slice a n b):=nr J
theorem Ans(a:Option v_)(n b:Nat):K0 (.slice a n b)=V n:=nr J
theorem Aki(a:Option v_)(b c d n:Nat)(f:E):apK h a b c (V f) (V n) (V d)=CB h d a b c f n:=nr J
theorem TZ(d:Nat)(a:Option v_)(b c:Nat)(f:E):CB h d a b c f 0=V (.slice a b c,h):=nr J
theorem Ael{n:Nat}(a:0<n):Nat.beq n 0=false:=by cases n with
 |zero=>exact absurd a (P_ 0)
 |succ n=>rfl
theorem T1{a b n:Nat}(c:0<n)(j:n≤1000000)(d:1≤a)(f:a≤1000)(g:By l=true)(i:l.length=n*a):
  CB h a W 0 b l n=V (.slice (V ⟨h.n,0,W⟩) n a,h.new (.cells l)):=by
 unfold CB;rw[Ael c,i,←Di,g,q_,M d,M f,M (show 0+n≤1000000 by omega)];simp only[O_,M_,an_,W_];rfl
theorem HH{sz len n b:Nat}{l new:E}(a:h.get b=V (.cells l))(o:l.length=len*sz)(c:0<n)(d:len+n≤1000000)(f:1≤sz)(g:sz≤1000)(i:By new=true)(j:new.length=n*sz):
  CB h sz (V ⟨b,0,W⟩) len sz new n=V (.slice (V ⟨h.n,0,W⟩) (len+n) sz,(h.del b).new (.cells (l++new))):=by
 unfold CB;rw[Ael c,j,←Di,i,q_,q_,M f,M g,M d];have c:h.J8 (V ⟨b,0,W⟩) (len*sz)=V l:=by show(match h.get b with|some (.cells l)=>Av (Z (0+len*sz) l.length) (V ((l.drop 0).take (len*sz))) W|_=>W)=_;rw[a];show Av (Z (0+len*sz) l.length) _ _=_;rw[Eg];show V _=_;rw[m_,r_ (by omega)]
 rw[c];rfl
theorem LY(c:Of h o=true)(d a b:Nat)(f:E)(g:ByteArray):Dz h 5 d o a b f 0 (.string g)=V (.slice o a b,h):=by show Av (true&&Of h o) _ _=_;rw[c];rfl
theorem TY{esz sz n:Nat}{new:E}(a:ByteArray)(b:0<n)(i:n≤1000000)(c:1≤esz)(d:esz≤1000)(f:By new=true)(g:new.length=n*esz):
  Dz h 5 esz W 0 sz new n (.string a)=V (.slice (V ⟨h.n,0,W⟩) n esz,h.new (.tc 5 new)):=by
 show I1 h 5 esz W 0 sz new n=_;unfold I1;rw[Ael b,g,←Di,f,q_,M c,M d,M (show 0+n≤1000000 by omega)];simp only[O_,M_,an_,W_];rfl
theorem QV(c:h.get a=V (.tc u l)):Of h (V ⟨a,b,W⟩)=true:=by show(match h.get a with|some (.tc _ _)=>true|_=>false)=true;rw[c]
theorem Wq{sz len n b:Nat}{a new:E}(d:ByteArray)(c:h.get b=V (.tc 5 a))(r:a.length=len*sz)(f:0<n)(g:len+n≤1000000)(i:1≤sz)(j:sz≤1000)(l:By new=true)(o:new.length=n*sz):
  Dz h 5 sz (V ⟨b,0,W⟩) len sz new n (.string d)=V (.slice (V ⟨h.n,0,W⟩) (len+n) sz,(h.del b).new (.tc 5 (a++new))):=by
 show Av (true&&Of h (V ⟨b,0,W⟩)) _ _=_;rw[QV c];show I1 h 5 sz (V ⟨b,0,W⟩) len sz new n=_;unfold I1;rw[Ael f,o,←Di,l,q_,q_,M i,M j,M g];have d:Ln h 5 (V ⟨b,0,W⟩) (len*sz)=V a:=by show(match h.get b with|some (.tc f a)=>Av (Nat.beq f 5&&Z (0+len*sz) a.length) (V ((a.drop 0).take (len*sz))) W|_=>W)=_;rw[c];show Av (true&&Z (0+len*sz) a.length) _ _=_;rw[Eg];show V _=_;rw[m_,r_ (by omega)]
 rw[d];rfl
def apR(h:AH)(a b c:Nat)(d:E)(n:Nat)(f:Bool):Option E→Option (T×AH)
 |some g=>cond f (V (.slice (V ⟨h.n,0,W⟩) (b+n) c,(h.del a).new (.cells (g++d)))) W
 |none=>W
theorem Akh(a b c:Nat)(d:E)(n:Nat)(f:E):apR h a b c d n true (V f)=V (.slice (V ⟨h.n,0,W⟩) (b+n) c,(h.del a).new (.cells (f++d))):=nr J
theorem T0{n:Nat}(g:0<n)(f c b a:Nat)(d:E):CB h a (V ⟨f,c,W⟩) b a d n=
  apR h f b a d n (Z (b+n) 1000000&&(Z 1 a&&(Z a 1000&&(By d&&EH d (n*a))))) (UT c (b*a) (h.get f)):=by
 unfold CB;rw[Ael g,←Di,←Iu,q_];have j:h.J8 (V ⟨f,c,W⟩) (b*a)=UT c (b*a) (h.get f):=by
  show(match h.get f with|some (.cells g)=>Av (Z (c+b*a) g.length) (V ((g.drop c).take (b*a))) W|_=>W)=_;cases h.get f with
  |none=>rfl
  |some x=>
   cases x with
   |cells g=>
    show Av (Z (c+b*a) g.length) (V ((g.drop c).take (b*a))) W=sub? g c (b*a);cases i:Z (c+b*a) g.length with
    |true=>rw[E7 (o_ i)]
    |false=>
     cases l:sub? g c (b*a)with
     |none=>rfl
     |some o=>
      rw[M (IE g _ _ o l).1]at i;cases i
   |map i=>rfl
   |tc i g=>rfl
   |iter i k=>rfl
   |ro g=>rfl
 rw[j];have g:(Z (b+n) 1000000&&(true||(V (⟨f,c,W⟩:v_)).isNone)&&Z 1 a&&Z a 1000&&By d&&Nat.beq d.length (n*a))=(Z (b+n) 1000000&&(Z 1 a&&(Z a 1000&&(By d&&Nat.beq d.length (n*a))))):=by simp only[L_,I_,al_]
 show Av (Z (b+n) 1000000&&(true||(V (⟨f,c,W⟩:v_)).isNone)&&Z 1 a&&Z a 1000&&By d&&Nat.beq d.length (n*a)) (opt (UT c (b*a) (h.get f)) fun i=>V (Value.slice (V ⟨h.n,0,W⟩) (b+n) a,(h.del f).new (.cells (i++d)))) W=_;rw[g];cases(Z (b+n) 1000000&&(Z 1 a&&(Z a 1000&&(By d&&Nat.beq d.length (n*a)))))<;>cases UT c (b*a) (h.get f)<;>rfl
theorem Ws{n:Nat}(d:0<n)(c a:Nat)(b:E):CB h a W 0 c b n=
  cond (Z n 1000000&&(Z 1 a&&(Z a 1000&&(By b&&EH b (n*a))))) (V (.slice (V ⟨h.n,0,W⟩) n a,h.new (.cells b))) W:=by
 unfold CB;rw[Ael d,←Di,←Iu];have d:(Z (0+n) 1000000&&(Nat.beq a c||(W:Option v_).isNone)&&Z 1 a&&Z a 1000&&By b&&Nat.beq b.length (n*a))=(Z n 1000000&&(Z 1 a&&(Z a 1000&&(By b&&Nat.beq b.length (n*a))))):=by simp only[O_,M_,I_,al_,W_]
 show Av (Z (0+n) 1000000&&(Nat.beq a c||(W:Option v_).isNone)&&Z 1 a&&Z a 1000&&By b&&Nat.beq b.length (n*a)) (V (Value.slice (V ⟨h.n,0,W⟩) (0+n) a,h.new (.cells ([]++b)))) W=_;rw[d,W_,aa_];cases(Z n 1000000&&(Z 1 a&&(Z a 1000&&(By b&&Nat.beq b.length (n*a)))))<;>rfl
theorem C2{n:Nat}(a:l.length=n):sub? l 0 n=V l:=by rw[E7 (by omega),m_,r_ (by omega)]
attribute [go_sem] Awp Ar5 Ar6 U8 Amu Xq Aou Amj Aem YL Xn Xo Adx Amk TH PX Yv Yw Ax2 Ah1 Anp Ac3 Ax1 Ax0 Ake YE Aeo Aen Akg II Agi row_one Vk Ans Aki TZ Akh T0 Ws
attribute [go_sem] Nat.zero_lt_one
theorem Aha(t:c_)(x:k_)(c a b:Option k_):Cs p q (.slice t x c a b) e h=Av (b.isNone||a.isSome) (CF h (Ov p t (AZ e x) (c.map (AZ e)) (a.map (AZ e)) (b.map (AZ e)))) W:=nr J
def ssK(a:H)(b c:Option T):Option V_→Option T
 |some .string=>Ot a b c
 |_=>W
theorem Abw(t:c_)(a:H)(b c:Option T):Ov p t (.string ⟨a.toArray⟩) b c W=ssK a b c (p.CY t):=by
 show(match p.CY t,(W:Option T)with|some .string,W=>Ot a b c|_,_=>W)=_;cases p.CY t with
 |none=>rfl
 |some a=>cases a<;>rfl
def Aun(c:H):Option Nat→Option Nat→Option T
 |some a,some b=>Av (Z a b&&Z b c.length) (V (.string ⟨((c.drop a).take (b-a)).toArray⟩)) W
 |_,_=>W
theorem Afw(a:H)(b c:Option T):ssK a b c (V .string)=Aun a (bound b 0) (bound c a.length):=by show opt (bound b 0) (fun d=>opt (bound c a.length) fun f=>Av (Z d f&&Z f a.length) (V (Value.string ⟨((a.drop d).take (f-d)).toArray⟩)) W)=_;cases bound b 0<;>cases bound c a.length<;>rfl
theorem Aov(c:a≤b)(d:b≤s.length):Aun s (V a) (V b)=V (.string ⟨((s.drop a).take (b-a)).toArray⟩):=by show Av (Z a b&&Z b s.length) _ _=_;rw[M c,M d];rfl
theorem Yz(a:Nat):bound W a=V a:=nr J
theorem Yy(a:T)(b:Nat):bound (V a) b=CW a:=nr J
def JV(d:Option v_)(f a:Nat):Option Nat→Option Nat→Option Nat→Option Nat→Option T
 |some k,some b,some c,some m=>Av (Nat.beq k a||d.isNone) (Av (Z b c&&Z c m&&Z m f) (V (.slice (QG (b*a) d) (c-b) a)) W) W
 |_,_,_,_=>W
theorem Abx(t:c_)(c:Option v_)(a b:Nat)(d f g:Option T):Ov p t (.slice c a b) d f g=JV c a b (Qg p t) (bound d 0) (bound f a) (bound g a):=by
 show opt (AX p t) (fun e=>opt (p.size e) fun n=>Av (Nat.beq n b||c.isNone) (Sz c a b d f g) W)=_;unfold Qg;cases AX p t with
 |none=>rfl
 |some i=>
  show opt (p.size i) (fun n=>Av (Nat.beq n b||c.isNone) (Sz c a b d f g) W)=JV c a b (p.size i) (bound d 0) (bound f a) (bound g a);cases p.size i with
  |none=>rfl
  |some k=>
   show Av (Nat.beq k b||c.isNone) (opt (bound d 0) fun i=>opt (bound f a) fun j=>opt (bound g a) fun m=>Av (Z i j&&Z j m&&Z m a) (V (Value.slice (QG (i*b) c) (j-i) b)) W) W=_;cases bound d 0 with
   |none=>cases Nat.beq k b||c.isNone<;>rfl
   |some d=>
    cases bound f a with
    |none=>cases Nat.beq k b||c.isNone<;>rfl
    |some d=>
     cases bound g a with
     |none=>cases Nat.beq k b||c.isNone<;>rfl
     |some m=>rfl
theorem Es{c b a m sz:Nat}(g:b≤a)(i:a≤m)(j:m≤c)(d f:Nat):JV (V ⟨d,f,W⟩) c sz (V sz) (V b) (V a) (V m)=V (.slice (V ⟨d,f+b*sz,W⟩) (a-b) sz):=by show Av (Nat.beq sz sz||false) (Av (Z b a&&Z a m&&Z m c) _ W) W=_;rw[q_,M g,M i,M j];rfl
theorem RV(a k:Nat):JV W 0 a (V k) (V 0) (V 0) (V 0)=V (.slice W 0 a):=by show Av (Nat.beq k a||true) _ W=_;rw[M_];rfl
attribute [go_sem] Aha Abw Afw Aov Yz Yy Abx Es RV
end
def Wh(h:AH):Prop:=∀a b,h.get a=V b→a<h.n
theorem Wh.new{h:AH}(d:Wh h)(a:AO):Wh (h.new a):=by
 intro a f b;rw[AH.Er]at b;show a<h.n+1;by_cases g:a=h.n
 ·omega
 rw[Akt g]at b;have:=d a f b;omega
theorem Wh.put{h:AH}(d:Wh h){b:AO}(g:h.get a=V b)(f:AO):Wh (h.put a f):=by
 intro c i b;rw[AH.IW]at b;show c<h.n;by_cases f:c=a
 ·subst f;exact d _ _ g
 rw[Akt f]at b;exact d c i b
theorem Wh.del{h:AH}(d:Wh h)(b:Nat):Wh (h.del b):=by
 intro c f a;rw[AH.Ko]at a;show c<h.n;by_cases g:c=b
 ·simp_all
 rw[Akt g]at a;exact d c f a
theorem Wh.none{h:AH}(a:Wh h):h.get h.n=W:=by
 cases b:h.get h.n with
 |none=>rfl
 |some d=>exact absurd (a _ _ b) (P_ _)
section
variable{p:Pr}{h h1 h2:AH}{e:Env}{v:Value}{A:TypeId}
theorem JO(a:Op):kindOf p a=0∨kindOf p a=1∨kindOf p a=2∨kindOf p a=3:=by
 cases a with
 |convert a b d=>simp only[kindOf];split<;>simp
 |call c=>simp only[kindOf];split<;>simp
 |_=>first|exact .inl J|exact .inr (.inl J)|exact .inr (.inr (.inl J))|exact .inr (.inr (.inr J))
def Akx(h S:AH):Prop:=∀a b,h.get a=V b→S.get a=V b
theorem Ant{S:AH}(f:Akx h S){b:v_}{v:T}(a:h.ld p u b=V v):S.ld p u b=V v:=by
 unfold AH.ld at a⊢;cases d:h.get b.block with
 |none=>rw[d]at a;cases a
 |some b=>rw[d]at a;rw[f _ _ d];exact a
theorem M9{b:Op}(l:kindOf p b=1){S:AH}(s:Akx h S)(a:Cs p A b e h=V (.val v h1)):Cs p A b e S=V (.val v S):=by
 cases b with
 |load g m=>
  change Lu p g m e h=_ at a;show Lu p g m e S=_;unfold Lu at a⊢;cases d:KH (AZ e m)with
  |none=>rw[d]at a;cases a
  |some b=>
   rw[d]at a;change CF h (h.ld p g b)=_ at a;show CF S (S.ld p g b)=_;cases d:h.ld p g b with
   |none=>rw[d]at a;cases a
   |some k=>rw[d]at a;cases a;rw[Ant s d];rfl
 |lookup g q r f=>
  change IL p g q r f e h=_ at a;show IL p g q r f e S=_;obtain⟨i,u,a⟩:=Ad a;obtain⟨j,b,a⟩:=Ad a;obtain⟨n,w,a⟩:=Ad a;obtain⟨x,a⟩:=Al a;obtain⟨n,y,a⟩:=Ad a;cases a;have z:mapA S (AZ e q)=V j:=by
   cases t:AZ e q with
   |map n=>
    rw[t]at b;cases n with
    |none=>exact b
    |some n=>
     change (match h.get n with|some (.map j)=>V j|_=>W)=_ at b;show(match S.get n with|some (.map j)=>V j|_=>W)=_;cases o:h.get n with
     |none=>rw[o]at b;cases b
     |some F=>rw[o]at b;rw[s _ _ o];exact b
   |_=>rw[t]at b;cases b
  unfold IL;rw[u];show opt (mapA S (AZ e q)) _=_;rw[z];show opt (p.zero i.2) _=_;rw[w];show Av (CJ i.1 (AZ e r)) _ _=_;rw[x];show opt (Bc (AZ e r) j) _=_;rw[y]
 |call c=>
  change Eu p A c.callee c.argTypes c.args e h=_ at a;show Eu p A c.callee c.argTypes c.args e S=_;simp only[kindOf]at l;have r:∀f j t,(f=.len∨f=.min∨f=.max)→HG (Bx p h f j A t)=V (.val v h1)→HG (Bx p S f j A t)=V (.val v S):=by
   intro f j t u b;unfold Bx at b;split at b
   ·rename_i k
    show HG (Pe p S j k)=_;cases j with
    |nil=>cases b
    |cons g j=>
     change HG (opt (p.CY g) fun i=>opt (Pb h i k) fun j=>V (.int .i64 j,h))=_ at b;show HG (opt (p.CY g) fun i=>opt (Pb S i k) fun j=>V (.int .i64 j,S))=_;cases t:p.CY g with
     |none=>rw[t]at b;cases b
     |some i=>
      rw[t]at b;change HG (opt (Pb h i k) fun j=>V (.int .i64 j,h))=_ at b;show HG (opt (Pb S i k) fun j=>V (.int .i64 j,S))=_;cases d:Pb h i k with
      |none=>rw[d]at b;cases b
      |some j=>
       rw[d]at b;cases b;have g:Pb S i k=V j:=by
        unfold Pb at d⊢;split at d<;>first|exact d|skip
        rename_i n;cases o:h.get n with
        |none=>rw[o]at d;cases d
        |some F=>rw[o]at d;simp only[s _ _ o];exact d
       rw[g];rfl
   ·simp_all
   ·simp_all
   ·rename_i m f
    show HG (XC S m f)=_;unfold XC at b⊢;split at b
    ·cases b;rfl
    cases b
   ·rename_i m f
    show HG (XF S m f)=_;unfold XF at b⊢;split at b
    ·cases b;rfl
    cases b
   cases b
  split at l
  ·rename_i b;rw[b]at a⊢;exact r _ _ _ (.inl J) a
  ·rename_i b;rw[b]at a⊢;exact r _ _ _ (.inr (.inl J)) a
  ·rename_i b;rw[b]at a⊢;exact r _ _ _ (.inr (.inr J)) a
  cases l
 |convert a i q=>
  simp only[kindOf]at l;split at l<;>cases l
 |_=>cases l
theorem QX{a:v_}(b:Wh h)(d:h.get a.block=V (.cells l))(f:Oh h a l m=V h1):Wh h1:=by obtain⟨_,h2⟩:=Al f;cases h2;exact b.put d _
theorem Av4{d:v_}(f:Wh h)(a:h.st p u d v=V h1):Wh h1:=by
 unfold AH.st at a;cases b:h.get d.block with
 |none=>rw[b]at a;cases a
 |some d=>
  rw[b]at a;cases d with
  |cells d=>
   obtain⟨g,_,a⟩:=Ad a;obtain⟨_,a⟩:=Al a;exact QX f b a
  |tc i d=>
   obtain⟨g,_,a⟩:=Ad a;obtain⟨_,a⟩:=Al a;obtain⟨_,a⟩:=Al a;cases a;exact f.put b _
  |map b=>cases a
  |iter b f=>cases a
  |ro d=>cases a
theorem Ry{b d f:k_}(g:Wh h)(a:Lv p u b d f e h=V (.val v h1)):Wh h1:=by
 obtain⟨b,_,a⟩:=Ad a;obtain⟨d,b,a⟩:=Ad a;obtain⟨f,b,a⟩:=Ad a;obtain⟨_,a⟩:=Al a;obtain⟨i,_,a⟩:=Ad a;cases a;change (match h.get d with|some (.map f)=>V f|_=>W)=_ at b;cases a:h.get d with
 |none=>rw[a]at b;cases b
 |some b=>exact g.put a _
theorem K7{d f g i:Nat}(b:Wh h)(a:CB h d o f g l i=V (v,h1)):Wh h1:=by
 unfold CB at a;rw[FT]at a;split at a
 ·simp_all
 obtain⟨_,a⟩:=Al a;obtain⟨_,_,a⟩:=Ad a;cases a;refine Wh.new ?_ _;cases o with
 |none=>exact b
 |some a=>exact b.del _
theorem YN{e:c_}{d f g i:Nat}(b:Wh h)(a:I1 h e d o f g l i=V (v,h1)):Wh h1:=by
 unfold I1 at a;rw[FT]at a;split at a
 ·simp_all
 obtain⟨_,a⟩:=Al a;obtain⟨_,_,a⟩:=Ad a;cases a;refine Wh.new ?_ _;cases o with
 |none=>exact b
 |some a=>exact b.del _
theorem YM{e:c_}{d f g i:Nat}(b:Wh h)(a:Dz h e d o f g l i w=V (v,h1)):Wh h1:=by
 unfold Dz at a;split at a
 ·rw[FT]at a
  split at a
  ·exact YN b a
  exact K7 b a
 exact K7 b a
theorem Yx{d:Builtin}{f:List c_}(b:Wh h)(a:Bx p h d f u l=V (v,h1)):Wh h1:=by
 unfold Bx at a;split at a
 ·unfold Pe at a
  split at a
  ·obtain⟨_,_,a⟩:=Ad a
   obtain⟨_,_,a⟩:=Ad a;cases a;exact b
  cases a
 ·unfold TX at a
  split at a
  ·unfold Mc at a
   split at a
   ·obtain⟨_,a⟩:=Al a
    obtain⟨_,_,a⟩:=Ad a;obtain⟨_,_,a⟩:=Ad a;obtain⟨_,_,a⟩:=Ad a;obtain⟨_,a⟩:=Al a;exact K7 b a
   cases a
  unfold Gy at a;split at a
  ·rename_i d f g u i _
   obtain⟨_,_,a⟩:=Ad a;obtain⟨_,a⟩:=Al a;obtain⟨_,_,a⟩:=Ad a;obtain⟨_,_,a⟩:=Ad a;obtain⟨_,_,a⟩:=Ad a;obtain⟨_,_,a⟩:=Ad a;obtain⟨_,_,a⟩:=Ad a;exact YM b a
  cases a
 ·unfold Aan at a
  split at a
  ·obtain⟨_,_,a⟩:=Ad a
   obtain⟨_,_,a⟩:=Ad a;obtain⟨_,_,a⟩:=Ad a;rw[FT]at a;split at a
   ·simp_all
   obtain⟨f,_,a⟩:=Ad a;obtain⟨_,_,a⟩:=Ad a;cases d:h.get f.block with
   |none=>rw[d]at a;cases a
   |some f=>
    rw[d]at a;cases f with
    |cells f=>
     obtain⟨i,g,a⟩:=Ad a;cases a;exact QX b d g
    |map b=>cases a
    |tc b f=>cases a
    |iter b d=>cases a
    |ro f=>cases a
  cases a
 ·unfold XC at a
  split at a
  ·simp_all
  cases a
 ·unfold XF at a
  split at a
  ·simp_all
  cases a
 cases a
theorem Vz{b:Op}(f:kindOf p b=3)(d:Wh h)(a:Cs p A b e h=V (.val v h1)):Wh h1:=by
 cases b with
 |store g i b=>
  change JF p g i b e h=_ at a;unfold JF at a;split at a
  ·split at a
   ·rename_i j k;cases a;exact Av4 d k
   cases a
  cases a
 |insert g k l b=>exact Ry d a
 |mapUpdate g k l b=>exact Ry d a
 |next b g=>
  change ZE b g e h=_ at a;obtain⟨_,a⟩:=Al a;obtain⟨i,_,a⟩:=Ad a;obtain⟨_,a⟩:=Al a;split at a
  ·rename_i g k i
   unfold Rj at a;split at a
   ·simp_all
   obtain⟨_,a⟩:=Al a;cases a;exact d.put i _
  cases a
 |call c=>
  change Eu p A c.callee c.argTypes c.args e h=_ at a;unfold Eu at a;split at a
  ·rename_i k _
   cases i:Bx p h k c.argTypes.toList A (Fp e c.args.toList)with
   |none=>rw[i]at a;cases a
   |some k=>
    rw[i]at a;obtain⟨l,j⟩:=k;cases a;exact Yx d i
  ·unfold Nq at a
   split at a<;>cases a
  unfold KG at a;split at a
  ·split at a<;>cases a
  cases a
 |convert g a b=>
  simp only[kindOf]at f;split at f<;>cases f
 |_=>cases f
theorem Ath{f:Op}(b:Wh h)(d:Cs p A f e h=V (.val v h1)):Wh h1:=by
 rcases JO (p:=p) f with a|a|a|a
 ·rw[(Ij a h v h1 d).1];exact b
 ·obtain⟨g,f⟩:=GF a d
  cases f;exact b
 ·obtain⟨f,g,_⟩:=Ep a h v h1 d
  rw[g];exact b.new f
 exact Vz a b d
def WfC(c:AQ):Prop:=∀a b h v h1,c a b h=V (v,h1)→Wh h→Wh h1
variable{c:AQ}
theorem PJ(l:WfC c){f:Op}{y:T×AH}(i:Wh h)(a:Bs c (Cs p A f e h)=V y):Wh y.2:=by
 cases b:Cs p A f e h with
 |none=>rw[b]at a;cases a
 |some d=>
  rw[b]at a;cases d with
  |val v h1=>cases a;exact Ath i b
  |call m n h1=>
   have o:h1=h:=by
    have d:kindOf p f=3:=Classical.byContradiction fun d=>JN d b;cases f with
    |call c=>
     change Eu p A c.callee c.argTypes c.args e h=_ at b;unfold Eu at b;split at b
     ·rename_i g _
      cases f:Bx p h g c.argTypes.toList A (Fp e c.args.toList)with
      |none=>rw[f]at b;cases b
      |some y=>rw[f]at b;cases b
     ·unfold Nq at b
      split at b<;>cases b
      rfl
     unfold KG at b;split at b
     ·split at b<;>cases b
      rfl
     cases b
    |store g j f=>
     change JF p g j f e h=_ at b;unfold JF at b;split at b
     ·split at b<;>cases b
     cases b
    |insert g q r f=>
     obtain⟨k,_,a⟩:=Ad b;obtain⟨s,t,a⟩:=Ad a;obtain⟨u,w,a⟩:=Ad a;obtain⟨_,a⟩:=Al a;obtain⟨x,_,a⟩:=Ad a;cases a
    |mapUpdate g q r f=>
     obtain⟨k,_,a⟩:=Ad b;obtain⟨s,t,a⟩:=Ad a;obtain⟨u,w,a⟩:=Ad a;obtain⟨_,a⟩:=Al a;obtain⟨x,_,a⟩:=Ad a;cases a
    |next f g=>
     obtain⟨_,a⟩:=Al (show Av g _ W=_ from b);obtain⟨j,_,a⟩:=Ad a;obtain⟨_,a⟩:=Al a;split at a
     ·unfold Rj at a
      split at a
      ·cases a
      obtain⟨_,a⟩:=Al a;cases a
     cases a
    |convert g k f=>
     simp only[kindOf]at d;split at d<;>cases d
    |_=>cases d
   subst o;exact l m n _ _ _ a i
theorem SJ(j:WfC c)(all:List e_):∀(b:List e_) (e:Env) (h:AH) (d:Env×AH),D0 p c all b e h=V d→Wh h→Wh d.2
 |[],_,_,_,a,f=>by cases a;exact f
 |g::b,e,h,d,a,f=>by
  rw[GB]at a;cases k:B2 e all g.guard with
  |true=>
   rw[k]at a;obtain⟨i,l,h2⟩:=Ad (show opt (Bs c (Cs p g.type g.op e h)) (fun i=>Av (Z h.n i.2.n) (D0 p c all b (Be e g.dst i.1) i.2) W)=V d from a);obtain⟨g,d⟩:=Al h2;exact SJ j all b _ _ _ d (PJ j f l)
  |false=>
   rw[k]at a;exact SJ j all b _ _ _ a f
theorem Me(j:WfC c)(all:List e_):∀(f:List EX) (e:Env) (h:AH) (b:List Rec×Env×AH),Bp p c all f e h=V b→Wh h→Wh b.2.2
 |[],_,_,_,d,i=>by cases d;exact i
 |s::f,e,h,b,d,i=>by
  rw[D4]at d;cases m:B2 e all s.o.guard with
  |true=>
   rw[m]at d;obtain⟨g,n,h2⟩:=Ad (show opt (Bs c (Cs p s.o.type s.o.op e h)) (fun g=>Av (Z h.n g.2.n) (opt (Bp p c all f (Be e s.o.dst g.1) g.2) fun a=>V (⟨s,e,h,g.1,g.2,true⟩::a.1,a.2)) W)=V b from d);obtain⟨g,l⟩:=Al h2;obtain⟨a,g,k⟩:=Ad l;have l:b.2.2=a.2.2:=by cases k;rfl
   rw[l];exact Me j all f _ _ _ g (PJ j i n)
  |false=>
   rw[m]at d;obtain⟨a,g,k⟩:=Ad (show opt (Bp p c all f (Be e s.o.dst undef) h) (fun a=>V (⟨s,e,h,undef,h,false⟩::a.1,a.2))=V b from d);have l:b.2.2=a.2.2:=by cases k;rfl
   rw[l];exact Me j all f _ _ _ g i
theorem Aje(f:WfC c){a:List e_}{b:Env×AH}(d:Dp p c a e h=V b)(g:Wh h):Wh b.2:=by unfold Dp at d;obtain⟨_,h1⟩:=Al d;obtain⟨d,b,h2⟩:=Ad h1;obtain⟨_,d⟩:=Al h2;cases d;exact Me f a _ _ _ _ b g
theorem Vq{d:Env→AH→Option (Ex×Env×AH)}(i:∀e h b,d e h=V b→Wh h→Wh b.2.2):∀(k:Nat) (e:Env) (h:AH) (b:Ex×Env×AH),EG d k e h=V b→Wh h→Wh b.2.2
 |0,_,_,_,a,_=>by cases a
 |k+1,e,h,b,a,l=>by
  unfold EG at a;cases f:d e h with
  |none=>rw[f]at a;cases a
  |some j=>
   rw[f]at a;have g:=i e h j f l;obtain⟨m,n,h1⟩:=j;cases m with
   |norm=>exact Vq i k n h1 b a g
   |out o=>cases a;exact g
   |ret=>cases a;exact g
theorem F7(g:WfC c)(f:Nat):∀(i:y_) (e:Env) (h:AH) (d:Ex×Env×AH),A4 p c f i e h=V d→Wh h→Wh d.2.2
 |.skip,_,_,_,a,b=>by cases a;exact b
 |.label _,_,_,_,a,b=>by cases a;exact b
 |.ret,_,_,_,a,b=>by cases a;exact b
 |.exit _,_,_,_,a,b=>by cases a;exact b
 |.region _ k true,e,h,d,a,b=>by
  obtain⟨j,l,h2⟩:=Ad (show DV (Dp p c k.toList e h)=V d from a);cases h2;exact Aje g l b
 |.region _ k false,e,h,d,a,b=>by
  obtain⟨j,l,h2⟩:=Ad (show DV (D0 p c k.toList k.toList e h)=V d from a);cases h2;exact SJ g _ _ _ _ _ l b
 |.seq m n,e,h,d,a,b=>by
  simp only[A4]at a;cases k:A4 p c f m e h with
  |none=>rw[k]at a;cases a
  |some j=>
   rw[k]at a;have l:=F7 g f m e h j k b;obtain⟨o,r,h1⟩:=j;cases o with
   |norm=>exact F7 g f n r h1 d a l
   |out q=>cases a;exact l
   |ret=>cases a;exact l
 |.cond s m n,e,h,d,a,b=>by
  simp only[A4]at a;split at a
  ·rename_i s t
   cases s with
   |true=>exact F7 g f m e h d a b
   |false=>exact F7 g f n e h d a b
  cases a
 |.block q i,e,h,d,a,b=>by
  simp only[A4]at a;cases k:A4 p c f i e h with
  |none=>rw[k]at a;cases a
  |some j=>
   rw[k]at a;have l:=F7 g f i e h j k b;obtain⟨o,r,h1⟩:=j;cases o with
   |norm=>cases a;exact l
   |out j=>
    change cond (Nat.beq q j) _ _=_ at a;cases k:Nat.beq q j<;>rw[k]at a<;>cases a<;>exact l
   |ret=>cases a;exact l
 |.loop i,e,h,d,a,b=>Vq (fun e h d a b=>F7 g f i e h d a b) f e h d a b
 |.scope i,e,h,d,a,b=>F7 g f i e h d a b
 |.rangeFunc ..,_,_,_,a,_=>by simp only[A4]at a;cases a
 |.goto _,_,_,_,a,_=>by simp only[A4]at a;cases a
def WfK(b:Cw):Prop:=∀d a,b.get d=V a→∀f h v h1,a f h=V (v,h1)→Wh h→Wh h1
theorem Wb{b:Cw}(i:WfK b)(d:Nat):∀n,WfC (Ef p b d n)
 |0,_,_,_,_,_,a,_=>by cases a
 |n+1,f,k,h,v,h1,a,j=>by
  simp only[Ef]at a;cases g:b.get f with
  |some b=>rw[g]at a;exact i f b g k h v h1 a j
  |none=>
   rw[g]at a;cases b:p.fn.get f with
   |none=>simp only[b]at a;cases a
   |some f=>
    simp only[b]at a;cases b:f.body with
    |none=>unfold Is at a;rw[b]at a;cases a
    |some f=>
     rw[JY _ _ _ _ _ b]at a;obtain⟨b,g,h2⟩:=Ad a;have a:=Ajd h2;change h1=b.2.2 at a;rw[a];exact F7 (Wb i d n) d f _ _ _ g j
theorem V7{a:Cw}(b:WfK a):WfC (BE p a):=fun d f h v h1 g i=>by
 obtain⟨a,j⟩:=K4 g;exact Wb b a a d f h v h1 j i
theorem Q2(f g:List Nat):∀(d:List e_) (b:Nat) (a:EX),a∈Oq p f g d b→b≤a.i∧d[a.i-b]? =V a.o∧a.kind=kindOf p a.o.op
 |[],_,_,d=>by cases d
 |j::i,b,a,d=>by
  unfold Oq at d;rcases Q_.1 d with d|d
  ·simp_all
  obtain⟨h1,h2,j⟩:=Q2 f g i (b+1) a d;refine⟨by omega,?_,j⟩;rw[show a.i-b=(a.i-(b+1))+1 by omega];simpa using h2
theorem OP(d:List EX):∀(n f:Nat) (b:EX),b∈Mt d n f→b∈d
 |0,_,_,a=>by cases a
 |n+1,f,b,a=>by
  unfold Mt at a;rcases z_.1 a with a|a
  ·simp_all
  rcases z_.1 a with a|a
  ·simp_all
  exact OP d n (f+1) b a
theorem Ni{b:List e_}{a:EX}(d:a∈FQ p b):b[a.i]? =V a.o∧a.kind=kindOf p a.o.op:=by obtain⟨_,h2,f⟩:=Q2 _ _ b 0 a (OP _ _ _ a d);exact⟨by omega,f⟩
theorem Ad4{a:Op}(f:kindOf p a≠3){d:T×AH}(b:Bs c (Cs p A a e h)=V d):Cs p A a e h=V (.val d.1 d.2):=by
 cases d:Cs p A a e h with
 |none=>rw[d]at b;cases b
 |some a=>
  rw[d]at b;cases a with
  |val v h1=>cases b;rfl
  |call a b h1=>exact(JN f d).elim
end
structure Pd:Type where
 o:e_
 kind:Nat
 hi:Nat
 e:Env
 n0:Nat
 v:T
 x:Option AO
def HJ(p:Pr)(b:AH)(a:Pd):Prop:=(a.kind=1→Cs p a.o.type a.o.op a.e b=V (.val a.v b))∧(a.kind=2→b.get a.n0=a.x)
def Ug(p:Pr)(a:AH)(n:Nat):List Pd→Prop
 |[]=>True
 |q::r=>(Z n q.hi=true→HJ p a q)∧Ug p a n r
theorem Zy{p:Pr}{a:AH}{n:Nat}:∀{d:List Pd},Ug p a n d→∀b∈d,n≤b.hi→HJ p a b
 |[],_,_,a,_=>by cases a
 |x::d,h,b,a,f=>by
  rcases Q_.1 a with a|a
  ·subst a;exact h.1 (M f)
  exact Zy h.2 b a f
abbrev Da:=Nat×Nat×Nat
def J3(o:e_)(A hi n:Nat)(e:Env)(h:AH)(v:T)(a:AH)(z:List Pd):List Pd:=
 Av (Z hi n||Nat.beq A 0) z (⟨o,A,hi,e,h.n,v,a.get h.n⟩::z)
def okP(A:Nat)(h:AH)(v:T)(a:AH):Prop:=(A=1→IA 5 v v=true)∧(A=2→QF (a.get h.n) (a.get h.n)=true)
def TG(p:Pr)(c:AQ)(all:List e_):List Da→Nat→List Pd→Env→AH→(Env→AH→Prop)→Prop
 |[],_,_,e,h,R=>R e h
 |(a,A,hi)::r,n,z,e,h,R=>∃o,SZ all a=V o∧
   (B2 e all o.guard=true→∃v a,Bs c (Cs p o.type o.op e h)=V (v,a)∧h.n≤a.n∧okP A h v a∧
    ((A=3∧Ug p a (n+1) z∧TG p c all r (n+1) z (Be e o.dst v) a R)∨(A≠3∧TG p c all r n (J3 o A hi n e h v a z) (Be e o.dst v) a R)))∧
   (B2 e all o.guard=false→(A=3∧TG p c all r (n+1) z (Be e o.dst undef) h R)∨(A≠3∧TG p c all r n z (Be e o.dst undef) h R))
def G2:List EX→Nat→Bool
 |[],_=>true
 |x::r,n=>Av (Cl x) (G2 r (n+1)) ((Nat.beq x.kind 0||Nat.beq x.lo n)&&G2 r n)
def daB:List EX→List Da→Bool
 |[],[]=>true
 |x::a,(b,A,hi)::d=>Nat.beq x.i b&&Nat.beq x.kind A&&(Nat.beq (A%3) 0||Nat.beq x.hi hi)&&daB a d
 |_,_=>false
def Aam(p:Pr)(a:List e_)(b:List Da):Bool:=PH p a&&(G2 (FQ p a) 0&&daB (FQ p a) b)
section
variable{p:Pr}{c:AQ}
def Akw(p:Pr)(a:Pd):Prop:=a.kind=kindOf p a.o.op∧(a.kind=1∨(a.kind=2∧∃o,a.x=V o))
theorem Oi{a:Pd}{h S:AH}(b:Akw p a)(d:Akx h S)(f:HJ p h a):HJ p S a:=by
 refine⟨fun a=>M9 (b.1.symm.trans a) d (f.1 a),fun a=>?_⟩;rcases b.2 with i|⟨_,o,g⟩
 ·omega
 have b:=f.2 a;rw[g]at b⊢;exact d _ _ b
theorem Jq(a3:WfC c)(all:List e_):∀(k:List EX) (t:List Da) (n:Nat) (z:List Pd) (e:Env) (h:AH) (R:Env→AH→Prop),
  (∀x∈k,x.kind=kindOf p x.o.op∧all[x.i]? =V x.o)→G2 k n=true→daB k t=true→Wh h→(∀a∈z,Akw p a∧(n≤a.hi→HJ p h a))→TG p c all t n z e h R→
  ∃b r,Bp p c all k e h=V (b,r)∧R r.1 r.2∧(∀w:List AH,w.length=n→Ej p c (w++AT r.2 b) b=true)∧
   (∃S ad,AT r.2 b=S::ad∧Akx h S)∧(∀a∈z,∀(j:Nat) S,(AT r.2 b)[j]? =V S→n+j≤a.hi→HJ p S a)
 |[],t,n,z,e,h,R,_,_,f,_,F,g=>by
  cases t with
  |cons l t=>cases f
  |nil=>
   refine⟨[],(e,h),J,g,fun _ _=>rfl,⟨h,[],J,fun _ _ m=>m⟩,fun a d j S L u=>?_⟩;cases j with
   |zero=>cases L;exact(F a d).2 u
   |succ j=>cases L
 |x::k,t,n,z,e,h,R,i,s,f,a7,F,g=>by
  obtain⟨ae,q⟩:=i x (by simp);have a8:∀l∈k,l.kind=kindOf p l.o.op∧all[l.i]? =V l.o:=fun l a9=>i l (by simp_all);cases t with
  |nil=>cases f
  |cons l t=>
   obtain⟨i,A,hi⟩:=l;simp only[daB,j_]at f;obtain⟨⟨⟨i,N⟩,aj⟩,aa⟩:=f;have P:=s_ i;have ab:=s_ N;unfold TG at g;obtain⟨o,f,ah,i⟩:=g;rw[SY,←P,q]at f;have f:=Option.some.inj f;subst f;unfold G2 at s;rw[D4];cases a6:B2 e all x.o.guard with
   |false=>
    have a4:=i a6;cases i:Cl x with
    |true=>
     have ac:A=3:=by rw[←ab];exact s_ i
     rw[i]at s;obtain⟨_,P⟩|⟨f,_⟩:=a4
     ·obtain⟨b,r,g,a0,a1,_,N⟩:=Jq a3 all k t (n+1) z _ _ R a8 s aa a7 (fun a d=>⟨(F a d).1,fun a5=>(F a d).2 (Nat.le_of_succ_le a5)⟩) P
      have q:AT r.2 (⟨x,e,h,undef,h,false⟩::b)=h::AT r.2 b:=by show Av (Cl x) _ _=_;rw[i]
      refine⟨⟨x,e,h,undef,h,false⟩::b,r,?_,a0,fun w a2=>?_,⟨h,AT r.2 b,q,fun _ _ m=>m⟩,fun a d j S L u=>?_⟩
      ·simp_all
      ·rw[q,show w++h::AT r.2 b=(w++[h])++AT r.2 b by simp]
       simp only[Ej,ac_,L_,ag_];exact a1 _ (by simp_all)
      rw[q]at L;cases j with
      |zero=>cases L;exact(F a d).2 u
      |succ j=>exact N a d j S (by simp_all) (by omega)
     omega
    |false=>
     have ac:A≠3:=by intro f;unfold Cl at i;rw[ab,f]at i;cases i
     rw[i]at s;change ((Nat.beq x.kind 0||Nat.beq x.lo n)&&G2 k n)=true at s;rw[j_]at s;obtain⟨f,_⟩|⟨_,P⟩:=a4
     ·omega
     obtain⟨b,r,g,a0,a1,af,N⟩:=Jq a3 all k t n z _ _ R a8 s.2 aa a7 F P;have q:AT r.2 (⟨x,e,h,undef,h,false⟩::b)=AT r.2 b:=by show Av (Cl x) _ _=_;rw[i]
     refine⟨⟨x,e,h,undef,h,false⟩::b,r,?_,a0,fun w a2=>?_,?_,?_⟩
     ·simp_all
     ·rw[q]
      simp only[Ej,ac_,L_,ag_];exact a1 _ a2
     ·simp_all
     rw[q];exact N
   |true=>
    obtain⟨v,g,a9,ak,ag,a4⟩:=ah a6;have ah:Wh g:=PJ (y:=(v,g)) a3 a7 a9;have ai:∀b r,Bp p c all k (Be e x.o.dst v) g=V (b,r)→
      Av true (opt (Bs c (Cs p x.o.type x.o.op e h)) fun l=>Av (Z h.n l.2.n) (opt (Bp p c all k (Be e x.o.dst l.1) l.2) fun a6=>V (⟨x,e,h,l.1,l.2,true⟩::a6.1,a6.2)) W)
       (opt (Bp p c all k (Be e x.o.dst undef) h) fun a6=>V (⟨x,e,h,undef,h,false⟩::a6.1,a6.2))=V (⟨x,e,h,v,g,true⟩::b,r):=by
     intro b r l;show opt (Bs c (Cs p x.o.type x.o.op e h)) _=_;rw[a9];show Av (Z h.n g.n) _ _=_;rw[M ak];show opt (Bp p c all k (Be e x.o.dst v) g) _=_;rw[l]
    cases i:Cl x with
    |true=>
     have ac:A=3:=by rw[←ab];exact s_ i
     rw[i]at s;obtain⟨_,a6,P⟩|⟨f,_⟩:=a4
     ·obtain⟨b,r,l,a0,a1,_,N⟩:=Jq a3 all k t (n+1) z _ _ R a8 s aa ah (fun a d=>⟨(F a d).1,fun a5=>Zy a6 a d a5⟩) P
      have q:AT r.2 (⟨x,e,h,v,g,true⟩::b)=h::AT r.2 b:=by show Av (Cl x) _ _=_;rw[i]
      refine⟨_,r,ai b r l,a0,fun w a2=>?_,⟨h,AT r.2 b,q,fun _ _ m=>m⟩,fun a d j S L u=>?_⟩
      ·rw[q,show w++h::AT r.2 b=(w++[h])++AT r.2 b by simp]
       simp only[Ej,i,M_,L_,ag_];exact a1 _ (by simp_all)
      rw[q]at L;cases j with
      |zero=>cases L;exact(F a d).2 u
      |succ j=>exact N a d j S (by simp_all) (by omega)
     omega
    |false=>
     have L:A≠3:=by intro f;unfold Cl at i;rw[ab,f]at i;cases i
     have ac:kindOf p x.o.op≠3:=by omega
     rw[i]at s;change ((Nat.beq x.kind 0||Nat.beq x.lo n)&&G2 k n)=true at s;rw[j_]at s;obtain⟨f,_⟩|⟨_,P⟩:=a4
     ·omega
     have L:Cs p x.o.type x.o.op e h=V (.val v g):=Ad4 ac a9;have a9:Akx h g:=by
      rcases JO (p:=p) x.o.op with f|f|f|f
      ·rw[(Ij f _ _ _ L).1];exact fun _ _ m=>m
      ·obtain⟨a6,a4⟩:=GF f L
       cases a4;exact fun _ _ m=>m
      ·obtain⟨o,ab,_⟩:=Ep f _ _ _ L
       rw[ab];intro a4 a6 m;rw[AH.Er,Akt (by have:=a7 a4 a6 m;omega)];exact m
      omega
     have ac:kindOf p x.o.op≠0→Akw p ⟨x.o,A,hi,e,h.n,v,g.get h.n⟩∧HJ p g ⟨x.o,A,hi,e,h.n,v,g.get h.n⟩:=by
      intro a6;have a7:A=kindOf p x.o.op:=by omega
      refine⟨⟨a7,?_⟩,fun f=>M9 (a7.symm.trans f) a9 L,fun _=>rfl⟩;rcases JO (p:=p) x.o.op with f|f|f|f
      ·omega
      ·simp_all
      ·obtain⟨o,ab,_⟩:=Ep f _ _ _ L
       exact .inr ⟨a7.trans f,o,by show g.get h.n=_;rw[ab,AH.Er,Agd rfl]⟩
      omega
     have L:∀a∈J3 x.o A hi n e h v g z,Akw p a∧(n≤a.hi→HJ p g a):=by
      intro a d;have a7:a∈z→Akw p a∧(n≤a.hi→HJ p g a):=fun d=>⟨(F a d).1,fun a5=>Oi (F a d).1 a9 ((F a d).2 a5)⟩;unfold J3 at d;rw[FT]at d;split at d
      ·simp_all
      rename_i F;rcases Q_.1 d with d|d
      ·simp_all
      simp_all
     have a5:∀a∈z,a∈J3 x.o A hi n e h v g z:=by
      intro a d;unfold J3;rw[FT];split
      ·exact d
      simp_all
     obtain⟨b,r,l,a0,a1,⟨a7,ad,af,F⟩,N⟩:=Jq a3 all k t n _ _ _ R a8 s.2 aa ah L P;have q:AT r.2 (⟨x,e,h,v,g,true⟩::b)=AT r.2 b:=by show Av (Cl x) _ _=_;rw[i]
     refine⟨_,r,ai b r l,a0,fun w a2=>?_,⟨a7,ad,q.trans af,fun a4 o m=>F a4 o (a9 a4 o m)⟩,fun a d=>by rw[q];exact N a (a5 a d)⟩;rw[q];simp only[Ej,j_];refine⟨?_,a1 _ a2⟩;rw[Z_];refine .inr ?_;rw[J_];intro a d;by_cases a6:kindOf p x.o.op=0
     ·unfold FY
      rw[show(⟨x,e,h,v,g,true⟩:Rec).s.kind=0 from ae.trans a6];rfl
     have i:x.lo=n:=by simp_all
     change a∈((w++AT r.2 b).drop x.lo).take (x.hi+1-x.lo)at d;have k:x.hi=hi:=by
      rcases Z_ _ _▸aj with b|b
      ·have b:=s_ b
       have:=JO (p:=p) x.o.op;omega
      simp_all
     rw[i,←a2,List.drop_left,a2,k]at d;obtain⟨j,u⟩:=List.mem_iff_getElem?.1 d;rw[List.getElem?_take]at u;split at u
     ·rename_i b
      have b:HJ p a ⟨x.o,A,hi,e,h.n,v,g.get h.n⟩:=by
       by_cases d:hi≤n
       ·have d:j=0:=by omega
        subst d;rw[af]at u;cases u;exact Oi (ac a6).1 F (ac a6).2
       refine N _ ?_ j a u (by show n+j≤hi;omega);unfold J3;rw[FT,Akt]
       ·simp
       simp_all
      rcases JO (p:=p) x.o.op with f|f|f|f
      ·omega
      ·have d:A=1:=by omega
       unfold FY;rw[show(⟨x,e,h,v,g,true⟩:Rec).s.kind=1 from ae.trans f];show(match Bs c (Cs p x.o.type x.o.op e a)with|some i=>IA 5 i.1 v|none=>false)=true;rw[show Cs p x.o.type x.o.op e a=V (.val v a)from b.1 d];exact ag.1 d
      ·have d:A=2:=by omega
       unfold FY;rw[show(⟨x,e,h,v,g,true⟩:Rec).s.kind=2 from ae.trans f];show QF (a.get h.n) (g.get h.n)=true;rw[show a.get h.n=g.get h.n from b.2 d];exact ag.2 d
      omega
     cases u
theorem Aos(i:WfC c){a:List e_}{d:List Da}(b:Aam p a d=true){e:Env}{h:AH}(j:Wh h){R:Env→AH→Prop}(k:TG p c a d 0 [] e h R):∃r,Dp p c a e h=V r∧R r.1 r.2:=by unfold Aam at b;simp only[j_]at b;obtain⟨f,r,l,m,q,_,_⟩:=Jq i a (FQ p a) d 0 [] e h R (fun t g=>⟨(Ni g).2,(Ni g).1⟩) b.2.1 b.2.2 j (fun u s=>by cases s) k;refine⟨r,?_,m⟩;unfold Dp;rw[b.1];show opt (Bp p c a (FQ p a) e h) _=_;rw[l];show Av (Ej p c (AT r.2 f) f) (V r) W=_;have a:=q [] rfl;rw[aa_]at a;rw[a]
end
section
variable{p:Pr}{K:Cw}{e:Env}{h:AH}{κ:List Fr}{Q:Kt}{R:Env→AH→Prop}{all:List Oper}{r:List Da}{n A hi:Nat}{z:List Pd}{o:Oper}
theorem Ayn(d:WfK K){a:List e_}(f:Wh h)(b:List Da)(g:Aam p a b=true)(i:TG p (BE p K) a b 0 [] e h (fun j k=>X p K .norm j k κ Q)):DR p K a e h κ Q:=by obtain⟨k,a,b,j⟩:=Aos (V7 d) g f i;refine⟨b,?_⟩;rw[a];exact j
def TA(p:Pr)(c:AQ)(all:List e_)(A hi:Nat)(r:List Da)(n:Nat)(z:List Pd)(e:Env)(h:AH)(R:Env→AH→Prop)(a:Option e_):Prop:=∃o,a=V o∧
   (B2 e all o.guard=true→∃v a,Bs c (Cs p o.type o.op e h)=V (v,a)∧h.n≤a.n∧okP A h v a∧
    ((A=3∧Ug p a (n+1) z∧TG p c all r (n+1) z (Be e o.dst v) a R)∨(A≠3∧TG p c all r n (J3 o A hi n e h v a z) (Be e o.dst v) a R)))∧
   (B2 e all o.guard=false→(A=3∧TG p c all r (n+1) z (Be e o.dst undef) h R)∨(A≠3∧TG p c all r n z (Be e o.dst undef) h R))
def TD(p:Pr)(c:AQ)(all:List e_)(o:e_)(A hi:Nat)(r:List Da)(n:Nat)(z:List Pd)(e:Env)(h:AH)(R:Env→AH→Prop)(b:Option Nx):Prop:=
 ∃v a,Bs c b=V (v,a)∧h.n≤a.n∧okP A h v a∧
    ((A=3∧Ug p a (n+1) z∧TG p c all r (n+1) z (Be e o.dst v) a R)∨(A≠3∧TG p c all r n (J3 o A hi n e h v a z) (Be e o.dst v) a R))
def TN(p:Pr)(c:AQ)(all:List e_)(o:e_)(A:Nat)(r:List Da)(n:Nat)(z:List Pd)(e:Env)(h:AH)(R:Env→AH→Prop):Prop:=
 (A=3∧TG p c all r (n+1) z (Be e o.dst undef) h R)∨(A≠3∧TG p c all r n z (Be e o.dst undef) h R)
def TGd(p:Pr)(c:AQ)(all:List e_)(o:e_)(A hi:Nat)(r:List Da)(n:Nat)(z:List Pd)(e:Env)(h:AH)(R:Env→AH→Prop)(a:Bool):Prop:=
 (a=true→TD p c all o A hi r n z e h R (Cs p o.type o.op e h))∧(a=false→TN p c all o A r n z e h R)
variable{c:AQ}
theorem Au5:TG p c all [] n z e h R=R e h:=nr J
theorem Ap1(a:Nat):TG p c all ((a,A,hi)::r) n z e h R=TA p c all A hi r n z e h R (SZ all a):=nr J
theorem Ap3(d:Option Tmp)(a:Op)(b:c_)(f:String)(g:Array Edge):TA p c all A hi r n z e h R (V ⟨d,a,b,f,g,W⟩)=TD p c all ⟨d,a,b,f,g,W⟩ A hi r n z e h R (Cs p b a e h):=by refine propext ⟨fun⟨o,b,a,_⟩=>?_,fun a=>⟨_,J,fun _=>a,fun d=>(by cases d)⟩⟩;cases b;exact a J
theorem Ap2(b:Option Tmp)(d:Op)(f:c_)(g:String)(i:Array Edge)(a:Nat×Bool):TA p c all A hi r n z e h R (V ⟨b,d,f,g,i,V a⟩)=TGd p c all ⟨b,d,f,g,i,V a⟩ A hi r n z e h R (B2 e all (V a)):=by refine propext ⟨fun⟨o,b,a,d⟩=>?_,fun a=>⟨_,J,a.1,a.2⟩⟩;cases b;exact⟨a,d⟩
theorem Aks:TGd p c all o A hi r n z e h R true=TD p c all o A hi r n z e h R (Cs p o.type o.op e h):=by refine propext ⟨fun a=>a.1 J,fun a=>⟨fun _=>a,fun b=>(by cases b)⟩⟩
theorem Aev:TGd p c all o A hi r n z e h R false=TN p c all o A r n z e h R:=by refine propext ⟨fun a=>a.2 J,fun a=>⟨fun b=>(by cases b),fun _=>a⟩⟩
theorem Au4:TN p c all o 3 r n z e h R=TG p c all r (n+1) z (Be e o.dst undef) h R:=by
 refine propext ⟨fun a=>?_,fun a=>.inl ⟨J,a⟩⟩;rcases a with a|a
 ·simp_all
 omega
theorem Arh(b:A≠3):TN p c all o A r n z e h R=TG p c all r n z (Be e o.dst undef) h R:=by
 refine propext ⟨fun a=>?_,fun a=>.inr ⟨b,a⟩⟩;rcases a with a|a
 ·omega
 simp_all
theorem AAn:TN p c all o 0 r n z e h R=TG p c all r n z (Be e o.dst undef) h R:=Arh (by decide)
theorem AAm:TN p c all o 1 r n z e h R=TG p c all r n z (Be e o.dst undef) h R:=Arh (by decide)
variable{v:Value}
theorem Aa4(b:h.n≤f.n):TD p c all o A hi r n z e h R (V (.val v f))=(okP A h v f∧
    ((A=3∧Ug p f (n+1) z∧TG p c all r (n+1) z (Be e o.dst v) f R)∨(A≠3∧TG p c all r n (J3 o A hi n e h v f z) (Be e o.dst v) f R))):=by
 refine propext ⟨fun⟨g,i,d,_,a⟩=>?_,fun a=>⟨v,f,J,b,a⟩⟩;cases d;exact a
theorem Awq:okP 0 h v f:=⟨fun h=>(by cases h),fun h=>(by cases h)⟩
theorem Aqn:okP 3 h v f:=⟨fun h=>(by cases h),fun h=>(by cases h)⟩
theorem AAr:TD p c all o 0 hi r n z e h R (V (.val v h))=TG p c all r n z (Be e o.dst v) h R:=by
 rw[Aa4 (b_ _)];have a:J3 o 0 hi n e h v h z=z:=by unfold J3;rw[FT,Agd (by simp)]
 rw[a];refine propext ⟨fun⟨_,a⟩=>?_,fun a=>⟨Awq,.inr ⟨by decide,a⟩⟩⟩;rcases a with a|a
 ·omega
 simp_all
theorem Arj(b:IA 5 v v=true):TD p c all o 1 hi r n z e h R (V (.val v h))=TG p c all r n (J3 o 1 hi n e h v h z) (Be e o.dst v) h R:=by
 rw[Aa4 (b_ _)];refine propext ⟨fun⟨_,a⟩=>?_,fun a=>⟨⟨fun _=>b,fun h=>(by cases h)⟩,.inr ⟨by decide,a⟩⟩⟩;rcases a with a|a
 ·omega
 simp_all
theorem AAq(a:IA 5 v v=true)(b:Z hi n=true):TD p c all o 1 hi r n z e h R (V (.val v h))=TG p c all r n z (Be e o.dst v) h R:=by rw[Arj a];unfold J3;rw[b];rfl
theorem Ayf(a:IA 5 v v=true)(b:Z hi n=false):TD p c all o 1 hi r n z e h R (V (.val v h))=TG p c all r n (⟨o,1,hi,e,h.n,v,h.get h.n⟩::z) (Be e o.dst v) h R:=by rw[Arj a];unfold J3;rw[b];rfl
theorem Ari{a:AO}(b:QF (V a) (V a)=true):TD p c all o 2 hi r n z e h R (V (.val v (h.new a)))=TG p c all r n (J3 o 2 hi n e h v (h.new a) z) (Be e o.dst v) (h.new a) R:=by
 rw[Aa4 (f_ _)];refine propext ⟨fun⟨_,a⟩=>?_,fun a=>⟨⟨fun h=>(by cases h),fun _=>by rw[Ae];exact b⟩,.inr ⟨by decide,a⟩⟩⟩;rcases a with a|a
 ·omega
 simp_all
theorem AAp{a:AO}(b:QF (V a) (V a)=true)(d:Z hi n=true):TD p c all o 2 hi r n z e h R (V (.val v (h.new a)))=TG p c all r n z (Be e o.dst v) (h.new a) R:=by rw[Ari b];unfold J3;rw[d];rfl
theorem Aye{a:AO}(b:QF (V a) (V a)=true)(d:Z hi n=false):TD p c all o 2 hi r n z e h R (V (.val v (h.new a)))=TG p c all r n (⟨o,2,hi,e,h.n,v,V a⟩::z) (Be e o.dst v) (h.new a) R:=by rw[Ari b];unfold J3;rw[d,Ae];rfl
theorem Au6(a:h.n≤f.n):TD p c all o 3 hi r n z e h R (V (.val v f))=(Ug p f (n+1) z∧TG p c all r (n+1) z (Be e o.dst v) f R):=by
 rw[Aa4 a];refine propext ⟨fun⟨_,f⟩=>?_,fun f=>⟨Aqn,.inl ⟨J,f⟩⟩⟩;rcases f with f|f
 ·simp_all
 omega
theorem Ayc(a:AO):TD p c all o 3 hi r n z e h R (V (.val v (h.new a)))=(Ug p (h.new a) (n+1) z∧TG p c all r (n+1) z (Be e o.dst v) (h.new a) R):=Au6 (f_ _)
theorem Ayb(a:Nat)(b:AO):TD p c all o 3 hi r n z e h R (V (.val v (h.put a b)))=(Ug p (h.put a b) (n+1) z∧TG p c all r (n+1) z (Be e o.dst v) (h.put a b) R):=Au6 (b_ _)
theorem Ayd(a:Nat)(b:AO):TD p c all o 3 hi r n z e h R (V (.val v ((h.del a).new b)))=(Ug p ((h.del a).new b) (n+1) z∧TG p c all r (n+1) z (Be e o.dst v) ((h.del a).new b) R):=Au6 (f_ _)
theorem Aj{b:u_}{d:T→AH→Prop}(f:Ok p K b l h d)(g:∀v a,h.n≤a.n→d v a→Ug p a (n+1) z∧TG p (BE p K) all r (n+1) z (Be e o.dst v) a R):TD p (BE p K) all o 3 hi r n z e h R (V (.call b l h)):=by obtain⟨v,a,d,b,i⟩:=f;exact⟨v,a,d,b,Aqn,.inl ⟨J,g v a b i⟩⟩
theorem Amd:Ug p f n []=True:=nr J
theorem Awl(d:Nat)(g:Option AO)(i:Option Tmp)(a:Op)(b:c_)(j:String)(k:Array Edge)(l:Option (Nat×Bool))(m:Z n hi=true):Ug p f n (⟨⟨i,a,b,j,k,l⟩,1,hi,e,d,v,g⟩::z)=(Cs p b a e f=V (.val v f)∧Ug p f n z):=by refine propext ⟨fun h=>⟨(h.1 m).1 J,h.2⟩,fun h=>⟨fun _=>⟨fun _=>h.1,fun a=>(by cases a)⟩,h.2⟩⟩
theorem Awk(a:Nat)(b:Option AO)(d:Z n hi=true):Ug p f n (⟨o,2,hi,e,a,v,b⟩::z)=(f.get a=b∧Ug p f n z):=by refine propext ⟨fun h=>⟨(h.1 d).2 J,h.2⟩,fun h=>⟨fun _=>⟨fun a=>(by cases a),fun _=>h.1⟩,h.2⟩⟩
theorem Ag4(a:Pd)(b:Z n a.hi=false):Ug p f n (a::z)=Ug p f n z:=by refine propext ⟨fun h=>h.2,fun h=>⟨fun a=>(by simp_all),h⟩⟩
theorem Alc(a:Nat)(b:B_)(d:Int):IA a (.int b d) (.int b d)=true:=by cases a<;>simp[IA,N5]
theorem Ae9(a:Nat)(b:Bool):IA a (.bool b) (.bool b)=true:=by cases a<;>simp[IA,N5]
theorem Ak9(a:Nat)(b:ByteArray):IA a (.string b) (.string b)=true:=by cases a<;>simp[IA,N5]
theorem Ala(a:Nat)(b:Option v_):IA a (.pointer b) (.pointer b)=true:=by cases a<;>simp[IA,N5]
theorem HW(a:Nat)(b:Option v_)(d f:Nat):IA a (.slice b d f) (.slice b d f)=true:=by cases a<;>simp[IA,N5]
theorem Alb(a:Nat)(b:Option Nat):IA a (.map b) (.map b)=true:=by cases a<;>simp[IA,N5]
theorem Ur{b:T→T→Bool}:∀(a:E),(∀w∈a,b w w=true)→HV b a a=true
 |[],_=>rfl
 |w::a,d=>by
  show(b w w&&HV b a a)=true;rw[d w (by simp),Ur a (fun b f=>d b (by simp_all))];rfl
theorem Ae7{a:T→T→Bool}:HV a [] []=true:=nr J
theorem Aba{d:T→T→Bool}(a:T)(b:E):HV d (a::b) (a::b)=(d a a&&HV d b b):=nr J
theorem Ald(b:Nat)(a:E):IA (b+1) (.agg a.toArray) (.agg a.toArray)=HV (IA b) a a:=nr J
theorem Ae8(d:Nat)(f:Fn)(a b:E):IA (d+1) (.func f a.toArray b.toArray) (.func f a.toArray b.toArray)=(HV (IA d) a a&&HV (IA d) b b):=by simp[IA,N5]
theorem YO(a:E):QF (V (.cells a)) (V (.cells a))=HV (IA 4) a a:=nr J
attribute [go_sem] Au5 Ap1 Ap3 Ap2 Aks Aev Au4 AAn AAm AAr AAq Ayf AAp Aye Ayc Ayb Ayd Amd Awl Awk Ag4 Alc Ae9 Ak9 Ala HW Alb Ae7 Aba Ald Ae8 YO
end
abbrev S(a:H):T:=.string ⟨a.toArray⟩
abbrev I(a:Int):T:=.int .i64 a
abbrev B(a:UInt8):T:=.int .u8 a.toNat
abbrev AR(a:u_)(b:E)(c:AH)(d:T→AH→Prop):Prop:=Ok pr known a b c d
theorem AV{b:Type}{a:Bool}{c:Option b}{d:b}(e:cond a c W=V d):a=true∧c=V d:=by
 cases a with
 |true=>exact⟨J,e⟩
 |false=>cases e
theorem ZW:WfK known:=by
 intro g j b m e h f a c;have d:∀(k:Cw) (i:Nat) (l:E→AH→Option (T×AH)),(k.set i (V l)).get g=V j→(g=i∧j=l)∨k.get g=V j:=by
  intro k i l j;rw[Tr.C6]at j;by_cases j:g=i
  ·simp_all
  simp_all
 have j:∀{e f h},Hx m e=V (h,f)→Wh e→Wh f:=by
  intro e f h a c;unfold Hx at a;split at a<;>try cases a
  split at a<;>try cases a
  split at a<;>try cases a
  ·obtain⟨_,a⟩:=AV a
   cases a;exact c
  unfold Afl at a;split at a<;>try cases a
  obtain⟨_,a⟩:=AV a;split at a<;>cases a
  exact c.del _
 unfold known at b;rcases d _ _ _ b with⟨_,rfl⟩|b
 ·unfold VC at a
  split at a<;>try cases a
  obtain⟨_,a⟩:=AV a;cases a;exact c
 rcases d _ _ _ b with⟨_,rfl⟩|b
 ·unfold Ik at a
  split at a<;>try cases a
  obtain⟨_,a⟩:=AV a;rename_i g _ _ _ _;revert a;cases w_ (CG g.data.toList 0) 9223372036854775808 with
  |true=>intro a;cases a;exact c
  |false=>
   intro a;change Q7 e (e.get 7)=_ at a;unfold Q7 at a;split at a<;>try cases a
   exact fun g i k=>A_ (c g i k)
 rcases d _ _ _ b with⟨_,rfl⟩|b
 ·unfold GX at a
  split at a<;>cases a
  exact c
 rcases d _ _ _ b with⟨_,rfl⟩|b
 ·unfold Pk at a
  split at a<;>cases a
  exact c
 rcases d _ _ _ b with⟨_,rfl⟩|b
 ·unfold VA at a
  split at a<;>try cases a
  split at a<;>try cases a
  obtain⟨_,a⟩:=AV a;unfold Rv at a;split at a<;>try cases a
  obtain⟨_,a⟩:=AV a;cases a;exact c
 rcases d _ _ _ b with⟨_,rfl⟩|b
 ·unfold VB at a
  split at a<;>try cases a
  ·obtain⟨_,a⟩:=AV a
   cases a;exact c
  obtain⟨_,a⟩:=AV a;cases a;exact c
 rcases d _ _ _ b with⟨_,rfl⟩|b
 ·unfold K1 at a
  split at a<;>try cases a
  split at a<;>try cases a
  rename_i g;obtain⟨_,a⟩:=AV a;split at a<;>try cases a
  ·exact c.put g _
  skip
  have g:∀i:Bool,cond i (V (Value.tuple #[],e)) W=V (h,f)→Wh f:=by
   intro i g;cases i with
   |true=>cases g;exact c
   |false=>cases g
  exact g _ a
 rcases d _ _ _ b with⟨_,rfl⟩|b
 ·exact j a c
 cases b
def dec:Nat→Nat→Nat→List Da
 |0,_,_=>[]
 |k+1,a,b=>if a=1 then[]else if a%16<4 then(b,a%16,0)::dec k (a/16) (b+1)else if a%16<8 then(b,a%16-4,a/16%16)::dec k (a/256) (b+1)else
  if a%16<12 then(a/16%256,a%16-8,0)::dec k (a/4096) (a/16%256+1)else(a/16%256,a%16-12,a/4096%16)::dec k (a/65536) (a/16%256+1)
theorem AM{b:List e_}{a:List Da}{c:List Fr}{d:Kt}(g:Wh f)(h:Nat)(i:TG pr (BE pr known) b a 0 [] e f (fun j k=>X pr known .norm j k c d))(m:dec 32 h 0=a:=by simp only[dec,Nat.reduceMod,Nat.reduceDiv,Nat.reduceSub,Nat.reduceAdd,Nat.reduceLT,Nat.reduceLeDiff,Nat.reduceEqDiff,↓reduceIte];exact J)(l:Aam pr b a=true:=by kernel_rfl):DR pr known b e f c d:=Ayn ZW g a l i
theorem Am(b:Wh f)(a:AO):Wh (f.new a):=b.new a
theorem Dm(b:Wh f)(a:Nat):Wh (f.del a):=b.del a
theorem Ar{b:Nat}(d:Wh f)(c:b<f.n)(a:AO):Wh (f.put b a):=by
 intro a e c;rw[AH.IW]at c;show a<f.n;by_cases f:a=b
 ·omega
 rw[Akt f]at c;exact d a e c
theorem Anc(a b:Nat):a<a+(b+1):=by omega
theorem Ok.wf{c:u_}{d:T→AH→Prop}(e:Wh f)(g:AR c l f d):AR c l f (fun b a=>Wh a∧d b a):=by obtain⟨b,a,d,h,i⟩:=g;exact⟨b,a,d,h,V7 ZW c l f b a d e,i⟩
def Ext(b c:AH):Prop:=∀a,a<b.n→c.get a=b.get a
theorem Ext.refl(a:AH):Ext a a:=fun _ _=>rfl
theorem Ext.trans{a h1 b:AH}(e:Ext a h1)(f:a.n≤h1.n)(g:Ext h1 b):Ext a b:=fun c d=>(g c (d_ d f)).trans (e c d)
theorem Ext.new(a:AH)(b:AO):Ext a (a.new b):=fun d c=>An b (AE c)
theorem eF{a:u_}{b:Func}{c:y_}{d:List C_}{e:T→AH→Prop}(g:Tryz.prog.funcs[a]? =V b)
  (h:C pr known c (Iq l) f [] (fnQ pr d e)) (i:Aob a=false:=by exact J) (j:b.body=V c:=by exact J) (k:b.results=d.toArray:=by exact J):Ok pr known a l f e:=enter (knn i) (fnn g) j k h
abbrev Pure(b:u_)(c:E)(d:T):Prop:=∀a,AR b c a (fun e f=>e=d∧f=a)
attribute [go_sem] Am Dm Ar Anc
def A3(a:UInt8):Bool:=decide ((48:Int)≤a.toNat)&&decide ((a.toNat:Int)≤57)
def Co(a:UInt8):Bool:=(decide ((97:Int)≤a.toNat)&&decide ((a.toNat:Int)≤122))||(decide ((65:Int)≤a.toNat)&&decide ((a.toNat:Int)≤90))
def A9(a:UInt8):Bool:=Co a||A3 a||((a.toNat:Int)==95)
def B8(a:UInt8):Bool:=decide ((32:Int)≤a.toNat)&&decide ((a.toNat:Int)≤126)&&((a.toNat:Int) !=34)
def If(a:UInt8):Bool:=(a.toNat:Int) !=10
theorem PK(a:UInt8):Pure 140 [B a] (.bool (A3 a)):=fun b=>by
 refine eF Tryz.func140 ?_;cases b:decide ((48:Int)≤a.toNat)<;>cases c:decide ((a.toNat:Int)≤57)<;>
  simp only[go_sem,Y,b,c,A3]
theorem Rs(a:UInt8):Pure 142 [B a] (.bool (Co a)):=fun b=>by
 refine eF Tryz.func142 ?_;cases b:decide ((97:Int)≤a.toNat)<;>cases c:decide ((a.toNat:Int)≤122)<;>cases d:decide ((65:Int)≤a.toNat)<;>cases e:decide ((a.toNat:Int)≤90)<;>
  simp only[go_sem,Y,b,c,d,e,Co]
theorem Ag2(a:UInt8):Pure 234 [B a] (.bool (B8 a)):=fun b=>by
 refine eF Tryz.func234 ?_;cases b:decide ((32:Int)≤a.toNat)<;>cases c:decide ((a.toNat:Int)≤126)<;>
  simp only[go_sem,Y,b,c,B8]
theorem Ahk(a:UInt8):Pure 66 [B a] (.bool (If a)):=fun b=>by
 refine eF Tryz.func66 ?_;simp only[go_sem,If]
theorem Aa8(a:UInt8):Pure 232 [B a] (.bool (A9 a)):=fun b=>by
 refine eF Tryz.func232 ?_;simp only[go_sem];refine Aa (Rs a b) ?_;rintro _ _ _ ⟨rfl,rfl⟩;cases b:Co a with
 |true=>simp only[go_sem,Y,b,A9]
 |false=>
  simp only[go_sem,Y];refine Aa (PK a _) ?_;rintro _ _ _ ⟨rfl,rfl⟩;cases c:A3 a<;>simp only[go_sem,Y,b,c,A9]
def Ava(b:u_)(c:UInt8→Bool):Prop:=∀a,Pure b [B a] (.bool (c a))
def runN(a:UInt8→Bool):H→Nat
 |[]=>0
 |c::b=>bif a c then runN a b+1 else 0
theorem Hm(b:UInt8→Bool):∀a,runN b a≤a.length
 |[]=>b_ _
 |c::a=>by
  unfold runN;cases b c with
  |true=>exact U_ (Hm b a)
  |false=>exact l_ _
theorem Ap{n:Int}(a: -9223372036854775808≤n)(b:n<9223372036854775808):i_ .i64 n=n:=by unfold i_;simp[IntKind.bits,IntKind.signed];omega
theorem NH{e:u_}{c:UInt8→Bool}(k:Ava e c)(b:H)(a:b.length<2^41):Pure 65 [S b,.func (.func e) #[] #[]] (I (runN c b)):=fun g=>by
 refine eF Tryz.func65 ?_;simp only[go_sem];refine AG (fun(a:Nat) d f=>f=g∧d.at 0=S b∧d.at 1=.func (.func e) #[] #[]∧d.at 7=I b.length∧d.at 8=I a∧a≤b.length∧runN c b=a+runN c (b.drop a)) (fun a=>b.length-a) ?_ 0 ?_
 ·rintro a d f ⟨rfl,g,j,h,i,m,e⟩ l
  cases f:decide ((a:Int)<b.length)with
  |false=>
   have d:a=b.length:=by simp at f;omega
   subst d;simp only[go_sem,g,h,i,f];rw[e];simp[runN]
  |true=>
   have d:a<b.length:=by simp at f;omega
   have m:b[a]? =V b[a]:=E_ d;simp only[go_sem,Y,g,j,h,i,f,m];refine Aa (k b[a] _) ?_;rintro _ _ _ ⟨rfl,rfl⟩;have f:b.drop a=b[a]::b.drop (a+1):=S_ d;rw[f]at e;cases f:c b[a]with
   |true=>
    have b:i_ .i64 ((a:Int)+1)=((a+1:Nat):Int):=by rw[Ap]<;>omega
    simp only[go_sem,Y,i,b];refine l (a+1) _ _ ⟨J,?_,?_,?_,?_,d,?_⟩ (by omega)
    ·simp only[go_sem,g]
    ·simp only[go_sem,Y,j]
    ·simp only[go_sem,Y,h]
    ·simp only[go_sem]
    rw[e];simp[runN,f];omega
   |false=>
    simp only[go_sem,Y];rw[e];simp[runN,f]
 exact⟨J,by simp only[go_sem],by simp only[go_sem,Y],by simp only[go_sem,Y],by simp only[go_sem];rfl,l_ _,by simp⟩
section
variable{p:Pr}{h:AH}{e:Env}{ty:TypeId}
def msV(h:AH):Option Nat→Option Nat→Option (Nat×E)→Option Nx
 |some a,some c,some (b,d)=>Av (Nat.beq a c&&Z a 1000000&&Z 1 b&&Z b 1000) (V (.val (.slice (V ⟨h.n,0,W⟩) a b) (h.new (.cells (DZ d a))))) W
 |_,_,_=>W
theorem SK(g:c_)(d f:k_):Cs p ty (.makeSlice g d f) e h=msV h (CW (AZ e d)) (CW (AZ e f)) (TK p g):=by
 show opt (AX p g) (fun a=>opt (CW (AZ e d)) fun b=>opt (CW (AZ e f)) fun i=>opt (p.zero a) fun c=>opt (p.size a) fun j=>
  Av (Nat.beq b i&&Z b 1000000&&Z 1 j&&Z j 1000) (V (Nx.val (.slice (V ⟨h.n,0,W⟩) b j) (h.new (.cells (DZ (Aq c) b))))) W)=_
 unfold TK;cases AX p g with
 |none=>cases CW (AZ e d)<;>cases CW (AZ e f)<;>rfl
 |some a=>
  show opt (CW (AZ e d)) _=msV h _ _ (opt (p.zero a) fun c=>opt (p.size a) fun b=>V (b,Aq c));cases CW (AZ e d)with
  |none=>rfl
  |some b=>
   cases CW (AZ e f)with
   |none=>cases(opt (p.zero a) fun c=>opt (p.size a) fun b=>V (b,Aq c))<;>rfl
   |some i=>
    show opt (p.zero a) _=_;cases p.zero a with
    |none=>rfl
    |some c=>
     show opt (p.size a) _=msV h (V b) (V i) (opt (p.size a) fun b=>V (b,Aq c));cases p.size a<;>rfl
theorem Ahr(d:Z a 1000000=true)(c:(Z 1 b&&Z b 1000)=true):msV h (V a) (V a) (V (b,l))=V (.val (.slice (V ⟨h.n,0,W⟩) a b) (h.new (.cells (DZ l a)))):=by rw[j_]at c;show Av (Nat.beq a a&&Z a 1000000&&Z 1 b&&Z b 1000) _ W=_;rw[q_,d,c.1,c.2];rfl
def cpV(h:AH)(b:Nat)(a:Option Nat)(c:Option v_)(d:T):Option (T×AH):=
 opt a fun a=>Av (Nat.beq b 0) (V (.int .i64 0,h)) (VZ h a b c d)
theorem TT(i:List c_)(j b:c_)(d f:Option v_)(c k a g:Nat):Bx p h .copy (b::i) j [.slice d c k,.slice f a g]=cpV h (Nat.min a c) (Qg p b) d (.slice f a g):=by show opt (V a) (fun i=>opt (AX p b) fun e=>opt (p.size e) fun j=>Av (Nat.beq (Nat.min i c) 0) (V (.int .i64 0,h)) (VZ h j (Nat.min i c) d (.slice f a g)))=_;unfold cpV Qg;cases AX p b<;>rfl
theorem Aji(a:Nat)(b:Option v_)(c:T):cpV h 0 (V a) b c=V (.int .i64 0,h):=nr J
theorem Yg{n m k db dp sb so:Nat}{ld ls part a:E}(d:0<n)(j:n≤m)(f:h.get sb=V (.cells ls))(c:sub? ls so (n*k)=V part)(g:h.get db=V (.cells ld))(i:spl? ld dp part=V a)(b:By part=true):
  cpV h n (V k) (V ⟨db,dp,W⟩) (.slice (V ⟨sb,so,W⟩) m k)=V (.int .i64 n,h.put db (.cells a)):=by
 obtain⟨j,l⟩:=IE _ _ _ _ c;obtain⟨o,q⟩:=J6 _ _ _ _ i;have c:Nat.beq n 0=false:=by cases n with
  |zero=>cases d
  |succ n=>rfl
 show Av (Nat.beq n 0) _ (VZ h k n _ _)=_;rw[c];show opt (NW h k n (.slice (V ⟨sb,so,W⟩) m k)) (fun d=>match h.get db with
  |some (.cells a)=>opt (Oh h ⟨db,dp,W⟩ a d) fun b=>V (Value.int .i64 n,b)
  |_=>W)=_
 have d:NW h k n (.slice (V ⟨sb,so,W⟩) m k)=V part:=by
  show Av (Nat.beq k k) (h.row (.slice (V ⟨sb,so,W⟩) n k)) W=_;rw[q_];show cond (Nat.beq n 0) (V []) (match h.get sb with
   |some (.cells a)=>cond (Z (so+n*k) a.length) (V ((a.drop so).take (n*k))) W
   |_=>W)=_
  rw[c,f];show cond (Z (so+n*k) ls.length) _ W=_;rw[M j,l];rfl
 rw[d,g];show opt (Av (Z (dp+part.length) ld.length&&part.all N_) (V (h.put db (.cells (A5 ld dp part)))) W) _=_;rw[←Di,b,M o,q];rfl
attribute [go_sem] SK Ahr TT Aji
end
theorem J9(a:T):∀n,DZ [a] n=List.replicate n a
 |0=>rfl
 |n+1=>by rw[UX,J9 a n];rfl
theorem di{a:u_}{b:Func}{c:y_}{d:List C_}{all g:List e_}{h:Option Tmp}{i:List Fr}{j:Kt}(k:Tryz.prog.funcs[a]? =V b)(m:Aob a=false)(n:b.body=V c)(o:b.results=d.toArray)
  (b:C pr known c (Iq l) f [] (fnQ pr d fun p q=>O pr known all g (Be e h p) q i j)):D pr known (V (.call a l f)) f all h g e i j:=
 Aa (eF k b m n o) fun _ _ _ a=>a
theorem Ajj(a:H)(b:UInt8):Pure 178 [S a,B b] (I (A1 b a)):=fun c=>
 Ok.known AAx (v:=I (A1 b a)) (h1:=c) (by
  show V (Value.int .i64 (A1 ((b.toNat:Int)).toNat.toUInt8 a),c)=_;simp) (b_ _) ⟨J,rfl⟩
theorem Td(a:H)(b:UInt8):Pure 230 [S a,B b] (I (Ft b a 0)):=fun c=>
 Ok.known AAw (v:=I (Ft b a 0)) (h1:=c) (by
  show V (Value.int .i64 (Ft ((b.toNat:Int)).toNat.toUInt8 a 0),c)=_;simp) (b_ _) ⟨J,rfl⟩
theorem KC(a:H)(b:UInt8):Pure 138 [S a,B b] (I (Ft b a 0)):=fun c=>by
 refine eF Tryz.func138 ?_;simp only[go_sem,Y];refine Aa (Td a b _) ?_;rintro _ _ _ ⟨rfl,rfl⟩;simp only[go_sem]
theorem HO(a:H)(b:UInt8):Pure 63 [S a,B b] (I (Ft b a 0)):=fun c=>by
 refine eF Tryz.func63 ?_;simp only[go_sem,Y];refine Aa (KC a b _) ?_;rintro _ _ _ ⟨rfl,rfl⟩;simp only[go_sem]
theorem RW(b:H)(a:UInt8):Pure 92 [S b,S [a]] (I (A1 a b)):=fun c=>by
 refine eF Tryz.func92 ?_;have c:(((1:Nat):Int)==0)=false:=J;have d:(((1:Nat):Int)==1)=true:=J;have e:[a][0]? =V a:=J;simp only[go_sem,Y,h_,D_,c,d,e];refine Aa (Ajj b a _) ?_;rintro _ _ _ ⟨rfl,rfl⟩;simp only[go_sem]
def De(b a:H):Bool:=decide (a.length≤b.length)&&(b.take a.length==a)
theorem Acd(a b:H):Pure 139 [S a,S b] (.bool (De a b)):=fun c=>by
 refine eF Tryz.func139 ?_;cases c:decide ((b.length:Int)≤a.length)with
 |true=>
  have d:b.length≤a.length:=by simp at c;omega
  have e:decide (b.length≤a.length)=true:=by simpa using d
  simp only[go_sem,Y,c,d,l_,m_,t_,De];simp
 |false=>
  have e:decide (b.length≤a.length)=false:=by simp at c⊢;omega
  simp only[go_sem,Y,c,e,De]
theorem Xe(a b:H):Pure 64 [S a,S b] (.bool (De a b)):=fun c=>by
 refine eF Tryz.func64 ?_;simp only[go_sem,Y];refine Aa (Acd a b _) ?_;rintro _ _ _ ⟨rfl,rfl⟩;simp only[go_sem]
def IV(a:H):List H→Nat→Int
 |[],_=> -1
 |x::c,b=>bif a==x then b else IV a c (b+1)
theorem OY{a:Type}(b:a→T)(c:List a)(d:Nat)(e:a)(f:c[d]? =V e):nth? (c.map b) d=V (b e):=by rw[Du,List.getElem?_map,f];rfl
theorem RA(d:H)(b:List H)(l:f.get a=V (.cells (b.map S)))(g:b.length<2^62):AR 235 [.slice (V ⟨a,0,W⟩) b.length 1,S d] f (fun c e=>c=I (IV d b 0)∧e=f):=by
 refine eF Tryz.func235 ?_;simp only[go_sem];refine AG (fun(c:Nat) e h=>h=f∧e.at 0=.slice (V ⟨a,0,W⟩) b.length 1∧e.at 1=S d∧e.at 7=I b.length∧e.at 8=I c∧c≤b.length∧IV d b 0=IV d (b.drop c) c) (fun c=>b.length-c) ?_ 0 ?_
 ·rintro c e h ⟨rfl,i,j,f,k,a,g⟩ n
  cases e:decide ((c:Int)<b.length)with
  |false=>
   have a:c=b.length:=by simp at e;omega
   subst a;simp only[go_sem,f,k,e];rw[g];simp[IV]
  |true=>
   have a:c<b.length:=by simp at e;omega
   have m:=OY S b c b[c] (E_ a);have h:b.drop c=b[c]::b.drop (c+1):=S_ a;rw[h]at g;cases h:(d==b[c])with
   |true=>
    simp only[go_sem,Y,i,j,f,k,e,a,l,m,h];rw[g];simp[IV,h]
   |false=>
    have b:i_ .i64 ((c:Int)+1)=((c+1:Nat):Int):=by rw[Ap]<;>omega
    simp only[go_sem,Y,i,j,f,k,e,a,l,m,h,b];refine n (c+1) _ _ ⟨J,?_,?_,?_,?_,a,?_⟩ (by omega)
    ·simp only[go_sem,i]
    ·simp only[go_sem,Y,j]
    ·simp only[go_sem,Y,f]
    ·simp only[go_sem]
    rw[g];simp[IV,h]
 exact⟨J,by simp only[go_sem],by simp only[go_sem,Y],by simp only[go_sem,Y],by simp only[go_sem];rfl,l_ _,by simp⟩
def CT(a:H):List H→Bool
 |[]=>false
 |x::b=>a==x||CT a b
theorem Z4(a:H):∀(b:List H) (c:Nat),decide (0≤IV a b c)=CT a b
 |[],_=>rfl
 |x::b,c=>by
  unfold IV CT;cases d:(a==x)with
  |true=>simp
  |false=>simpa using Z4 a b (c+1)
theorem Gw(c:H)(a:List H){b:Nat}(d:f.get b=V (.cells (a.map S)))(e:a.length<2^62):AR 151 [.slice (V ⟨b,0,W⟩) a.length 1,S c] f (fun g h=>g=.bool (CT c a)∧h=f):=by refine eF Tryz.func151 ?_;simp only[go_sem,Y];refine Aa (RA c a d e) ?_;rintro _ _ _ ⟨rfl,rfl⟩;simp only[go_sem,Z4]
def Mj(a:H):Bool:=w_ a.length 1000
theorem Tr.H8{b:Type}(e d:Option b):∀(k c:Nat) (a:Tr b),c<k→Tr.Ji d k (Tr.Ji e k a c) c=Tr.Ji d k a c
 |0,c,_,b=>absurd b (aj_ c)
 |k+1,c,a,b=>by
  cases a with
  |nil=>
   rw[Tr.Ox,Tr.Ox];by_cases a:c=0
   ·rw[Agd a,Agd a,Tr.Em,Agd a]
   rw[Akt a,Akt a];by_cases b:c%2=1
   ·rw[Agd b,Agd b,Tr.Em,Akt a,Agd b,Tr.H8 e d k _ _ (by omega)]
   rw[Akt b,Akt b,Tr.Em,Akt a,Akt b,Tr.H8 e d k _ _ (by omega)]
  |node f g h=>
   rw[Tr.Em,Tr.Em];by_cases a:c=0
   ·rw[Agd a,Agd a,Tr.Em,Agd a]
   rw[Akt a,Akt a];by_cases b:c%2=1
   ·rw[Agd b,Agd b,Tr.Em,Akt a,Agd b,Tr.H8 e d k _ _ (by omega)]
   rw[Akt b,Akt b,Tr.Em,Akt a,Akt b,Tr.H8 e d k _ _ (by omega)]
theorem ZK(a:AH)(c b:AO):(a.new c).put a.n b=a.new b:=by show(⟨Tr.Ji (V b) (a.n+1) (Tr.Ji (V c) (a.n+1) a.t a.n) a.n,a.n+1⟩:AH)=⟨Tr.Ji (V b) (a.n+1) a.t a.n,a.n+1⟩;rw[Tr.H8 _ _ _ _ _ (x_ _)]
theorem RD(a c:UInt8)(d:H)(b:Nat):Ft a (c::d) b=cond (c==a) (b:Int) (Ft a d (b+1)):=rfl
theorem VY(a c:UInt8)(b:H):A1 a (c::b)=cond (c==a) (A1 a b+1) (A1 a b):=rfl
theorem UF(a b:UInt8)(c d:H):Cy a false (b::c) d=cond (b==a) (d.reverse::Cy a false c []) (Cy a false c (b::d)):=rfl
theorem RB(b:UInt8)(a:H):(Ft b a 0= -1∧A1 b a=0∧Cy b false a []=[a])∨
  ∃c:Nat,Ft b a 0=c∧c<a.length∧A1 b a=A1 b (a.drop (c+1))+1∧Cy b false a []=a.take c::Cy b false (a.drop (c+1)) []:=by
 have j:∀(a:H) (f:Nat) (d:H),(Ft b a f= -1∧A1 b a=0∧Cy b false a d=[d.reverse++a])∨
   ∃c:Nat,Ft b a f=((f+c:Nat):Int)∧c<a.length∧A1 b a=A1 b (a.drop (c+1))+1∧Cy b false a d=(d.reverse++a.take c)::Cy b false (a.drop (c+1)) []:=by
  intro a;induction a with
  |nil=>intro f d;exact .inl ⟨J,J,by simp[Cy]⟩
  |cons i e k=>
   intro f d;rw[RD,VY,UF];cases e:(i==b)with
   |true=>exact .inr ⟨0,by simp,by simp,by simp,by simp⟩
   |false=>
    simp only[Acf];rcases k (f+1) (i::d)with⟨b,g,e⟩|⟨c,b,g,e,h⟩
    ·exact .inl ⟨b,g,by rw[e];simp⟩
    refine .inr ⟨c+1,by rw[b];congr 1;omega,by simp;omega,by rw[e];simp,by rw[h];simp⟩
 rcases j a 0 []with⟨b,g,e⟩|⟨c,b,g,e,h⟩
 ·exact .inl ⟨b,g,by simpa using e⟩
 exact .inr ⟨c,by simpa using b,g,e,by simpa using h⟩
theorem PQ(a:UInt8):∀b:H,A1 a b≤b.length
 |[]=>b_ _
 |x::b=>by
  unfold A1;have:=PQ a b;cases(x==a)<;>simp<;>omega
theorem Ain(b:H)(a:UInt8):Pure 93 [S b,S [a]] (I (Ft a b 0)):=fun c=>by
 refine eF Tryz.func93 ?_;simp only[go_sem,Y];refine di Tryz.func179 J J J ?_;have d:(((1:Nat):Int)==0)=false:=J;have e:(((1:Nat):Int)==1)=true:=J;have f:[a][0]? =V a:=J;cases c:([a]==b)with
 |true=>
  have g:[a]=b:=by simpa using c
  subst g;simp only[go_sem,Y,h_,D_,d,c];rw[RD,beq_self_eq_true];rfl
 |false=>
  simp only[go_sem,Y,h_,D_,d,e,f,c];refine Aa (KC b a _) ?_;rintro _ _ _ ⟨rfl,rfl⟩;simp only[go_sem]
theorem H3(b:H)(a:UInt8)(d:Mj b=true)(c:AH):AR 110 [S b,S [a]] c (fun e j=>e=.slice (V ⟨c.n,0,W⟩) (Cy a false b []).length 1∧j=c.new (.cells ((Cy a false b []).map S))):=by
 have c:b.length<1000:=o_ d;have c:=PQ a b;refine eF Tryz.func110 ?_;simp only[go_sem,Y];refine di Tryz.func51 J J J ?_;have c:i_ .i64 ((A1 a b:Int)+1)=((A1 a b+1:Nat):Int):=by rw[Ap]<;>omega
 have d:((-1:Int)==0)=false:=J;have e:([a]==([]:H))=false:=J;have f:decide ((-1:Int)<0)=true:=J;simp only[go_sem,Y,d,e,f];refine Aa (RW b a _) ?_;rintro _ f _ ⟨rfl,rfl⟩;have d:i_ .i64 ((b.length:Int)+1)=((b.length+1:Nat):Int):=by rw[Ap]<;>omega
 have e:i_ .i64 (((A1 a b+1:Nat):Int)-1)=(A1 a b:Int):=by rw[Ap]<;>omega
 have g:Z (A1 a b+1) 1000000=true:=Eg;have h:(if((b.length+1:Nat):Int)<((A1 a b+1:Nat):Int)then((b.length+1:Nat):Int)else((A1 a b+1:Nat):Int))=((A1 a b+1:Nat):Int):=Jl;have i:(Value.string ⟨#[]⟩:T)=S []:=J;simp only[go_sem,Y,c,d,e,g,h,J9,i];refine AG (fun(c:Nat×List H×H) d i=>i=f.new (.cells (c.2.1.map S++List.replicate (A1 a b+1-c.1) (S [])))∧c.2.1.length=c.1∧c.1+A1 a c.2.2=A1 a b∧c.2.2.length≤b.length∧Cy a false b []=c.2.1++Cy a false c.2.2 []∧d.at 0=S c.2.2∧d.at 1=S [a]∧d.at 2=I 0∧d.at 3=I (A1 a b)∧d.at 9=.slice (V ⟨f.n,0,W⟩) (A1 a b+1) 1∧d.at 10=I c.1) (fun c=>A1 a b-c.1) ?_ (0,[],b) ?_
 ·rintro⟨c,done,e⟩ d i ⟨rfl,k,q,t,m,g,n,r,o,p,h⟩ s
  dsimp only at k q t m g h s;have t:c<A1 a b+1:=by omega
  have u:∀d:H,spl? (done.map S++List.replicate (A1 a b+1-c) (S [])) c [S d]=V ((done++[d]).map S++List.replicate (A1 a b+1-(c+1)) (S [])):=by
   intro d;rw[Hj (by simp;omega)];unfold A5;congr 1;rw[List.take_append_of_le_length (by simp;omega),r_ (by simp;omega),List.drop_append,List.drop_of_length_le (by simp;omega),List.map_append,List.append_assoc];have:c+[S d].length-(done.map S).length=1:=by simp;omega
   rw[this,List.drop_replicate,Nat.sub_sub];rfl
  cases i:decide ((c:Int)<A1 a b)with
  |false=>
   have v:c=A1 a b:=by have:=Adh i;omega
   subst v;have q:i_ .i64 ((A1 a b:Int)+1)=((A1 a b+1:Nat):Int):=by rw[Ap]<;>omega
   have d:JV (V ⟨f.n,0,W⟩) (A1 a b+1) 1 (V 1) (V 0) (V (A1 a b+1)) (V (A1 a b+1))=V (.slice (V ⟨f.n,0,W⟩) (A1 a b+1) 1):=Es (l_ _) (b_ _) (b_ _) f.n 0;simp only[go_sem,Y,g,o,p,h,i,t,u,q,d];rcases RB a e with⟨_,_,f⟩|⟨d,_,_,w,_⟩
   ·rw[m,f,ZK]
    exact⟨by rw[ah_,k];rfl,by rw[Nat.sub_self,List.replicate_zero,List.append_nil]⟩
   omega
  |true=>
   have v:c<A1 a b:=by have:=Acw i;omega
   rcases RB a e with⟨_,f,_⟩|⟨d,j,f,w,v⟩
   ·omega
   have q:i_ .i64 ((d:Int)+0)=(d:Int):=by rw[Ap]<;>omega
   have w:i_ .i64 ((d:Int)+(([a].length:Nat):Int))=((d+1:Nat):Int):=by show i_ .i64 ((d:Int)+1)=_;rw[Ap]<;>omega
   have x:i_ .i64 ((c:Int)+1)=((c+1:Nat):Int):=by rw[Ap]<;>omega
   have y:decide ((d:Int)<0)=false:=Gv;have z:d≤e.length:=by omega
   have A:d+1≤e.length:=f;simp only[go_sem,Y,g,n,o,h,i];refine Aa (Ain e a _) ?_;rintro _ _ _ ⟨rfl,rfl⟩;simp only[go_sem,Y,g,n,r,p,h,j,y,q,w,x,z,A,t,u,l_,m_,t_,b_];rw[ZK,r_ (l:=e.drop (d+1)) (by rw[K_];omega)];refine s (c+1,done++[e.take d],e.drop (d+1)) _ _ ⟨J,by simp[k],by show c+1+A1 a (e.drop (d+1))=_;omega,by show(e.drop (d+1)).length≤_;rw[K_];omega,?_,?_,?_,?_,?_,?_,?_⟩ (by show A1 a b-(c+1)<A1 a b-c;omega)
   ·rw[m,v];simp
   all_goals simp only[go_sem,Y,n,r,o,p]
 refine⟨by simp,J,by simp,b_ _,J,?_,?_,?_,?_,?_,?_⟩<;>simp only[go_sem,Y]
 rfl
structure Tok where
 kind:Int
 text:H
 pos:Int
def Tok.cells(a:Tok):E:=[I a.kind,S a.text,I a.pos]
def Tok.val(a:Tok):T:=.agg a.cells.toArray
def F0:Tok:=⟨0,[],0⟩
def Qx(a:Tok×Int×Int):T:=.tuple #[a.1.val,I a.2.1,I a.2.2]
def G7(a:AH):Prop:=∃b c,a.get 7=V (.cells [.iface b c])
theorem G7.ext{a h1:AH}(b:G7 a)(c:Wh a)(d:Ext a h1):G7 h1:=by obtain⟨e,f,a⟩:=b;exact⟨e,f,by rw[d 7 (c _ _ a),a]⟩
def Dt(b:H):Tok×Int×Int:=
 let a:=runN A3 b
 bif decide (19<a)|| !w_ (CG (b.take a) 0) 9223372036854775808 then(F0,0,12)else(⟨1,b.take a,0⟩,a,0)
theorem Aim(a:UInt8):EI a=A3 a:=by unfold EI A3;rw[ak_];simp;omega
theorem Zp(a:UInt8→Bool):∀b:H,(b.take (runN a b)).all a=true
 |[]=>rfl
 |c::b=>by
  unfold runN;cases d:a c with
  |true=>simp[d,Zp a b]
  |false=>rfl
theorem ne_nil:Cu pr .neq 87 (.tmp 20) (.const .nilIface) .nilIface .nilIface=V (.bool false):=by kernel_rfl
theorem Amt(a:c_)(b:T):Cu pr .neq 87 (.tmp 20) (.const .nilIface) (.iface a b) .nilIface=V (.bool true):=by kernel_rfl
theorem G7.new(b:G7 f)(c:Wh f)(a:AO):G7 (f.new a):=b.ext c (Ext.new f a)
theorem U4(a:HR s=true)(b:w_ (CG s 0) 9223372036854775808=true):Pure 231 [S s,I 10,I 64] (.tuple #[I (CG s 0),.nilIface]):=fun c=>
 Ok.known Ayi (v:=.tuple #[I (CG s 0),.nilIface]) (h1:=c) (by
  show cond (true&&HR s) (cond (w_ (CG s 0) 9223372036854775808) _ _) W=_;rw[a,b];rfl) (b_ _) ⟨J,rfl⟩
theorem Qq(c:HR s=true)(d:w_ (CG s 0) 9223372036854775808=false)(e:G7 f):AR 231 [S s,I 10,I 64] f (fun g h=>(∃i a b,g=.tuple #[I i,.iface a b])∧Ext f h):=by obtain⟨a,b,g⟩:=e;refine Ok.known Ayi (v:=.tuple #[I 9223372036854775807,.iface 425 (.pointer (V ⟨f.n,0,W⟩))]) (h1:=⟨f.t,f.n+1⟩) ?_ (f_ _) ⟨⟨_,_,_,J⟩,fun _ _=>rfl⟩;show cond (true&&HR s) (cond (w_ (CG s 0) 9223372036854775808) _ (Q7 f (f.get 7))) W=_;rw[c,d,g];rfl
theorem Ad5(g:s.length<2^41)(a:0<runN A3 s):HR (s.take (runN A3 s))=true:=by
 unfold HR;have b:=Zp A3 s;have h:=Hm A3 s;have c:KQ (s.take (runN A3 s))=true:=by unfold KQ;exact M (by rw[ai_];omega)
 rw[show EI=A3 from funext Aim,b,c,I_,I_];cases s with
 |nil=>cases a
 |cons d e=>
  cases f:runN A3 (d::e)with
  |zero=>rw[f]at a;cases a
  |succ i=>rfl
theorem Acl(a:s.length<2^41)(i:Wh f)(j:G7 f)(c:0<runN A3 s):AR 141 [S s] f (fun b e=>b=Qx (Dt s)∧Ext f e):=by
 refine eF Tryz.func141 ?_;simp only[go_sem,Y];refine Aa (NH PK s a _) ?_;rintro _ _ _ ⟨rfl,rfl⟩;have b:=Hm A3 s;have h:=Ad5 a c;simp only[go_sem,Y,b,l_,m_,t_];cases c:w_ (CG (s.take (runN A3 s)) 0) 9223372036854775808 with
 |true=>
  refine Aa (U4 h c _) ?_;rintro _ _ _ ⟨rfl,rfl⟩;cases d:decide ((19:Int)<runN A3 s)<;>
   simp only[go_sem,Y,b,l_,m_,t_,d,ne_nil]
  ·have g:decide (19<runN A3 s)=false:=by simp at d⊢;omega
   exact⟨by simp only[Dt,g,c];rfl,fun a b=>by simp only[go_sem,b]⟩
  have g:decide (19<runN A3 s)=true:=by simp at d⊢;omega
  exact⟨by simp only[Dt,g,c];rfl,fun a b=>by simp only[go_sem,b]⟩
 |false=>
  refine Aa (Qq h c (j.new i _)) ?_;rintro _ e _ ⟨⟨h,i,j,rfl⟩,g⟩;have h:=g f.n (x_ _);rw[Ae]at h;have i:Dt s=(F0,0,12):=by simp[Dt,c]
  have c:∀a,a<f.n→e.get a=f.get a:=fun a b=>(g a (A_ b)).trans (An _ (AE b));cases d:decide ((19:Int)<runN A3 s)<;>
   simp only[go_sem,Y,d,Amt,h]
  all_goals exact⟨by rw[i];rfl,fun a b=>by simp only[go_sem,b,c]⟩
def Ae3:List H:=Cy 32 false ([102,110,32,108,101,116,32,105,102,32,101,108,115,101,32,119,104,105,108,101,32,114,101,116,117,114,110,32,112,114,105,110,116,32,105,110,112,117].append [116,32,110,101,119,32,108,101,110,32,116,114,117,101,32,102,97,108,115,101,32,105,110,116,32,98,111,111,108,32,116,101,120,116,32,108,105,115,116]) []
def HT(a:H):Bool:=CT a Ae3
theorem Ak8(a:H)(b:AH):AR 233 [S a] b (fun c d=>c=.bool (HT a)∧Ext b d):=by refine eF Tryz.func233 ?_;simp only[go_sem];refine Aa (H3 _ 32 (by decide) _) ?_;rintro _ _ _ ⟨rfl,rfl⟩;simp only[go_sem,Y];refine Aa (Gw a Ae3 (Ae _) (by decide)) ?_;rintro _ _ _ ⟨rfl,rfl⟩;simp only[go_sem];exact⟨J,Ext.new b _⟩
def Hu(b:H):Tok×Int×Int:=
 let a:=runN A9 b
 bif HT (b.take a)then(⟨4,b.take a,0⟩,a,0)else bif decide (8<a)then(F0,0,13)else(⟨3,b.take a,0⟩,a,0)
theorem Amz(a:s.length<2^41):AR 143 [S s] f (fun b c=>b=Qx (Hu s)∧Ext f c):=by
 refine eF Tryz.func143 ?_;simp only[go_sem,Y];refine Aa (NH Aa8 s a _) ?_;rintro _ _ _ ⟨rfl,rfl⟩;have d:=Hm A9 s;simp only[go_sem,Y,d,l_,m_,t_];refine Aa (Ak8 _ _) ?_;rintro _ c _ ⟨rfl,h⟩;have e:=h f.n (x_ _);rw[Ae]at e;have g:∀a,a<f.n→c.get a=f.get a:=fun a b=>(h a (A_ b)).trans (An _ (AE b));cases c:HT (s.take (runN A9 s))with
 |true=>
  simp only[go_sem,Y,d,l_,m_,t_,e];exact⟨by simp only[Hu,c];rfl,fun a b=>by simp only[go_sem,b,g]⟩
 |false=>
  cases f:decide ((8:Int)<runN A9 s)<;>
   simp only[go_sem,Y,d,l_,m_,t_,e,f]
  ·have d:decide (8<runN A9 s)=false:=by simp at f⊢;omega
   exact⟨by simp only[Hu,c,d];rfl,fun a b=>by simp only[go_sem,b,g]⟩
  have d:decide (8<runN A9 s)=true:=by simp at f⊢;omega
  exact⟨by simp only[Hu,c,d];rfl,fun a b=>by simp only[go_sem,b,g]⟩
def Hg(b:H):Tok×Int×Int:=
 let a:=runN B8 (b.drop 1)
 match b[a+1]? with
 |none=>(F0,0,11)
 |some c=>bif (c.toNat:Int) !=34 then(F0,0,11)else bif decide (12<a)then(F0,0,4)else(⟨2,(b.drop 1).take a,0⟩,(a:Int)+2,0)
theorem Alf(c:s.length<2^41)(a:1≤s.length):AR 144 [S s] f (fun b a=>b=Qx (Hg s)∧Ext f a):=by
 refine eF Tryz.func144 ?_;have b:(s.drop 1).length=s.length-1:=by simp
 have b:(s.drop 1).take (s.length-1)=s.drop 1:=by rw[r_ (by omega)]
 simp only[go_sem,Y,a,b_,b];refine Aa (NH Ag2 (s.drop 1) (by omega) _) ?_;rintro _ _ _ ⟨rfl,rfl⟩;have a:=Hm B8 (s.drop 1);have e:i_ .i64 ((runN B8 (s.drop 1):Int)+1)=((runN B8 (s.drop 1)+1:Nat):Int):=by rw[Ap]<;>omega
 have h:i_ .i64 ((runN B8 (s.drop 1):Int)+2)=(runN B8 (s.drop 1):Int)+2:=by rw[Ap]<;>omega
 cases a:s[runN B8 (s.drop 1)+1]? with
 |none=>
  have d:decide ((s.length:Int)≤((runN B8 (s.drop 1)+1:Nat):Int))=true:=by have:=List.getElem?_eq_none_iff.1 a;exact Gu
  simp only[go_sem,Y,e,d];exact⟨by simp only[Hg,a];rfl,fun f b=>by simp only[go_sem,b]⟩
 |some g=>
  have c:=(T_.1 a).1;have d:decide ((s.length:Int)≤((runN B8 (s.drop 1)+1:Nat):Int))=false:=Gv;cases c:((g.toNat:Int) !=34)with
  |true=>
   simp only[go_sem,Y,e,d,a,c];exact⟨by simp only[Hg,a,c];rfl,fun f b=>by simp only[go_sem,b]⟩
  |false=>
   have i:runN B8 (s.drop 1)+1≤s.length:=by omega
   have j:1≤runN B8 (s.drop 1)+1:=by omega
   have k:runN B8 (s.drop 1)+1-1=runN B8 (s.drop 1):=by omega
   cases g:decide ((12:Int)<runN B8 (s.drop 1))<;>
    simp only[go_sem,Y,e,h,d,a,c,g,i,j,k]
   ·have d:decide (12<runN B8 (s.drop 1))=false:=Aey (by have:=Adh g;omega)
    exact⟨by simp only[Hg,a,c,d];rfl,fun f b=>by simp only[go_sem,b]⟩
   have d:decide (12<runN B8 (s.drop 1))=true:=Aeu (by have:=Acw g;omega);exact⟨by simp only[Hg,a,c,d];rfl,fun f b=>by simp only[go_sem,b]⟩
def HX:List H:=Cy 32 false [124,124,32,38,38,32,60,61,32,61,61,32,33,61] []
def Ib:H:=[40,41,123,125,91,93,44,59,61,60,43,45,42,47,37,33]
def FW(a:H):Tok×Int×Int:=
 bif decide (1<a.length)&&CT (a.take 2) HX then(⟨5,a.take 2,0⟩,2,0)
 else match a with
  |[]=>(F0,0,10)
  |c::_=>bif decide (0≤Ft c Ib 0)then(⟨5,a.take 1,0⟩,1,0)else(F0,0,10)
theorem Alz(p:s.length<2^41)(o:Wh f)(h:1≤s.length):AR 145 [S s] f (fun v h=>v=Qx (FW s)∧Ext f h):=by
 refine eF Tryz.func145 ?_;simp only[go_sem,Y];refine AM (o.new _) 0x10007b04b00580010 ?_;cases s with
 |nil=>exact absurd h (by decide)
 |cons a b=>
 have l:(a::b)[0]? =V a:=J;have m:1≤(a::b).length:=h;have i:∀{h':AH} {v:T},CT ((a::b).take 2) HX=false∨decide (1<(a::b).length)=false→FW (a::b)=bif decide (0≤Ft a Ib 0)then(⟨5,(a::b).take 1,0⟩,1,0)else(F0,0,10):=by intro _ _ d;unfold FW;rcases d with d|d<;>rw[d]<;>simp
 cases j:decide ((1:Int)<((a::b).length:Int))with
 |false=>
  have g:decide (1<(a::b).length)=false:=Aey (by have:=Adh j;omega);simp only[go_sem,Y,j,l];refine Aa (HO Ib a _) ?_;rintro _ _ _ ⟨rfl,rfl⟩;cases e:decide (0≤Ft a Ib 0)<;>simp only[go_sem,Y,e,m,l_,m_,t_]
  ·exact⟨by rw[i (h':=f) (v:=undef) (.inr g),e];rfl,fun k c=>by simp only[go_sem,c]⟩
  exact⟨by rw[i (h':=f) (v:=undef) (.inr g),e];rfl,fun k c=>by simp only[go_sem,c]⟩
 |true=>
  have g:decide (1<(a::b).length)=true:=Aeu (by have:=Acw j;omega);have n:2≤(a::b).length:=Acw g;simp only[go_sem,Y,j,n,l_,m_,t_];refine Aj (H3 _ 32 (by decide) _) ?_;rintro _ _ _ ⟨rfl,rfl⟩;simp only[go_sem,Y];refine Aj (Gw _ HX (Ae _) (by decide)) ?_;rintro _ _ _ ⟨rfl,rfl⟩;cases d:CT ((a::b).take 2) HX with
  |true=>
   simp only[go_sem,Y,n,l_,m_,t_];exact⟨by unfold FW;rw[g,d];rfl,fun k c=>by simp only[go_sem,c]⟩
  |false=>
   simp only[go_sem,Y,l];refine Aa (HO Ib a _) ?_;rintro _ _ _ ⟨rfl,rfl⟩;cases e:decide (0≤Ft a Ib 0)<;>simp only[go_sem,Y,e,m,l_,m_,t_]
   ·exact⟨by rw[i (h':=f) (v:=undef) (.inl d),e];rfl,fun k c=>by simp only[go_sem,c]⟩
   exact⟨by rw[i (h':=f) (v:=undef) (.inl d),e];rfl,fun k c=>by simp only[go_sem,c]⟩
def A8(a:H):Tok×Int×Int:=
 match a with
 |[]=>(F0,0,10)
 |c::_=>bif A3 c then Dt a else bif Co c then Hu a else bif (c.toNat:Int)==34 then Hg a else FW a
theorem Ai3{s:H}(k:s.length<2^41)(c:Wh f)(e:G7 f)(a:1≤s.length):AR 67 [S s] f (fun b a=>b=Qx (A8 s)∧Ext f a):=by
 refine eF Tryz.func67 ?_;cases s with
 |nil=>exact absurd a (by decide)
 |cons b d=>
 have g:(b::d)[0]? =V b:=J;simp only[go_sem,Y,g];have o:=c.new (.cells [.int .i64 0,.string ⟨#[]⟩,.int .i64 0]);have i:=e.new c (.cells [.int .i64 0,.string ⟨#[]⟩,.int .i64 0]);have l:∀(c:Tok×Int×Int) (a:AH),A8 (b::d)=c→Ext (f.new (.cells [.int .i64 0,.string ⟨#[]⟩,.int .i64 0])) a→
   a.get f.n=V (.cells [.int .i64 0,.string ⟨#[]⟩,.int .i64 0])∧∀h,h<f.n→a.get h=f.get h:=by
  intro c a _ e;exact⟨(e f.n (x_ _)).trans (Ae _),fun h g=>(e h (A_ g)).trans (An _ (AE g))⟩
 refine Aa (PK b _) ?_;rintro _ _ _ ⟨rfl,rfl⟩;cases j:A3 b with
 |true=>
  have c:A8 (b::d)=Dt (b::d):=by simp only[A8,j,Aa9]
  simp only[go_sem];refine Aa (Acl k o i (by unfold runN;rw[j];exact X_ _)) ?_;rintro _ a _ ⟨rfl,e⟩;obtain⟨f,i⟩:=l _ a c e;simp only[go_sem,Y,Qx,Tok.val,Tok.cells,f];exact⟨by rw[c],fun h g=>by simp only[go_sem,g,i]⟩
 |false=>
  simp only[go_sem,Y];refine Aa (Rs b _) ?_;rintro _ _ _ ⟨rfl,rfl⟩;cases n:Co b with
  |true=>
   have c:A8 (b::d)=Hu (b::d):=by simp only[A8,j,n,Aa9,Acf]
   simp only[go_sem];refine Aa (Amz k) ?_;rintro _ a _ ⟨rfl,e⟩;obtain⟨f,i⟩:=l _ a c e;simp only[go_sem,Y,Qx,Tok.val,Tok.cells,f];exact⟨by rw[c],fun h g=>by simp only[go_sem,g,i]⟩
  |false=>
   cases m:((b.toNat:Int)==34)with
   |true=>
    have c:A8 (b::d)=Hg (b::d):=by simp only[A8,j,n,m,Aa9,Acf]
    simp only[go_sem,Y,m];refine Aa (Alf k a) ?_;rintro _ a _ ⟨rfl,e⟩;obtain⟨f,i⟩:=l _ a c e;simp only[go_sem,Y,Qx,Tok.val,Tok.cells,f];exact⟨by rw[c],fun h g=>by simp only[go_sem,g,i]⟩
   |false=>
    have c:A8 (b::d)=FW (b::d):=by simp only[A8,j,n,m,Acf]
    simp only[go_sem,Y,m];refine Aa (Alz k o a) ?_;rintro _ a _ ⟨rfl,e⟩;obtain⟨f,i⟩:=l _ a c e;simp only[go_sem,Y,Qx,Tok.val,Tok.cells,f];exact⟨by rw[c],fun h g=>by simp only[go_sem,g,i]⟩
def BW:List Tok→E
 |[]=>[]
 |a::b=>I a.kind::S a.text::I a.pos::BW b
theorem ID:∀(a b:List Tok),BW (a++b)=BW a++BW b
 |[],_=>rfl
 |c::a,b=>by simp[BW,ID a b]
theorem Gl:∀a:List Tok,(BW a).length=a.length*3
 |[]=>rfl
 |b::a=>by simp[BW,Gl a];omega
def FL(a:UInt8):Bool:=decide (0≤Ft a [32,9,13,10] 0)
def Eo:H:=[47,47]
def Ga(d:H):Nat→Nat→List Tok→List Tok×Int×Int
 |0,a,_=>([],a,-1)
 |k+1,a,e=>match d.drop a with
  |[]=>(e++[⟨0,[],a⟩],0,0)
  |c::b=>bif FL c then Ga d k (a+1) e
   else bif De (c::b) Eo then Ga d k (a+runN If (c::b)) e
   else bif (A8 (c::b)).2.2 !=0 then([],a,(A8 (c::b)).2.2)
   else Ga d k (a+(A8 (c::b)).2.1.toNat) (e++[{(A8 (c::b)).1 with pos:=a}])
def Dc(a:H):List Tok×Int×Int:=bif decide (600<a.length)then([],0,4)else Ga a (a.length+1) 0 []
theorem Acm(a:0<runN A3 s):(Dt s).2.2 !=0∨(1≤(Dt s).2.1∧(Dt s).2.1≤s.length):=by
 have:=Hm A3 s;unfold Dt;dsimp only;cases(decide (19<runN A3 s)|| !w_ (CG (s.take (runN A3 s)) 0) 9223372036854775808)with
 |true=>exact .inl J
 |false=>exact .inr ⟨by show(1:Int)≤(runN A3 s:Nat);omega,by show((runN A3 s:Nat):Int)≤_;omega⟩
theorem Am1(a:0<runN A9 s):(Hu s).2.2 !=0∨(1≤(Hu s).2.1∧(Hu s).2.1≤s.length):=by
 have:=Hm A9 s;have a:(1:Int)≤(runN A9 s:Nat)∧((runN A9 s:Nat):Int)≤s.length:=by omega
 unfold Hu;dsimp only;cases HT (s.take (runN A9 s))with
 |true=>exact .inr a
 |false=>
  cases decide (8<runN A9 s)with
  |true=>exact .inl J
  |false=>exact .inr a
theorem Alg(a:H):(Hg a).2.2 !=0∨(1≤(Hg a).2.1∧(Hg a).2.1≤a.length):=by
 unfold Hg;dsimp only;cases b:a[runN B8 (a.drop 1)+1]? with
 |none=>exact .inl J
 |some c=>
  have d:=(T_.1 b).1;dsimp only;cases((c.toNat:Int) !=34)with
  |true=>exact .inl J
  |false=>
   cases decide (12<runN B8 (a.drop 1))with
   |true=>exact .inl J
   |false=>exact .inr ⟨by show(1:Int)≤(runN B8 (a.drop 1):Int)+2;omega,by show((runN B8 (a.drop 1):Nat):Int)+2≤_;omega⟩
theorem Al1(a:H):(FW a).2.2 !=0∨(1≤(FW a).2.1∧(FW a).2.1≤a.length):=by
 unfold FW;cases b:(decide (1<a.length)&&CT (a.take 2) HX)with
 |true=>
  rw[j_]at b;have:=Acw b.1;exact .inr ⟨by show(1:Int)≤2;decide,by show(2:Int)≤_;omega⟩
 |false=>
  cases a with
  |nil=>exact .inl J
  |cons a b=>
   dsimp only[Acf];cases decide (0≤Ft a Ib 0)with
   |true=>exact .inr ⟨by show(1:Int)≤1;decide,by show(1:Int)≤_;simp only[h_];omega⟩
   |false=>exact .inl J
theorem Ai4{s:H}(b:s≠[]):(A8 s).2.2 !=0∨(1≤(A8 s).2.1∧(A8 s).2.1≤s.length):=by
 cases s with
 |nil=>exact absurd J b
 |cons a e=>
  unfold A8;dsimp only;cases c:A3 a with
  |true=>exact Acm (by unfold runN;rw[c];exact X_ _)
  |false=>
   cases d:Co a with
   |true=>exact Am1 (by unfold runN;rw[show A9 a=true by simp[A9,d]];exact X_ _)
   |false=>
    cases((a.toNat:Int)==34)with
    |true=>exact Alg _
    |false=>exact Al1 _
def Aya(d:Nat)(e:AH)(a:List Tok)(c:T):Prop:=(a=[]∧c=.slice W 0 0)∨(∃b,d≤b∧e.get b=V (.cells (BW a))∧c=.slice (V ⟨b,0,W⟩) a.length 3)
theorem Ac0(aA:t.length<2^40)(ai:Wh f)(aj:G7 f):AR 33 [S t] f (fun ak i=>Ext f i∧∃ad,Aya f.n i (Dc t).1 ad∧ak=.tuple #[ad,I (Dc t).2.1,I (Dc t).2.2]):=by
 refine eF Tryz.func33 ?_;cases d:decide ((600:Int)<t.length)with
 |true=>
  have L:decide (600<t.length)=true:=Aeu (by have:=Acw d;omega);simp only[go_sem,Y,d];exact⟨Ext.refl f,_,.inl ⟨by simp only[Dc,L];rfl,J⟩,by simp only[Dc,L];rfl⟩
 |false=>
  have aB:t.length≤600:=by have:=Adh d;omega
  have L:decide (600<t.length)=false:=Gv;have al:Dc t=Ga t (t.length+1) 0 []:=by simp only[Dc,L];rfl
  rw[al];simp only[go_sem,d];refine AG (fun(j:Nat×List Tok) N m=>Ext f m∧Wh m∧G7 m∧f.n≤m.n∧j.1≤t.length∧j.2.length≤j.1∧N.at 0=S t∧N.at 6=I j.1∧Aya f.n m j.2 (N.at 5)∧
   ∃g,t.length<g+j.1∧Ga t (t.length+1) 0 []=Ga t g j.1 j.2) (fun j=>t.length-j.1) ?_ (0,[]) ?_
  ·rintro⟨a,e⟩ N m ⟨w,q,P,o,am,an,r,l,x,g,ae,a2⟩ y
   dsimp only at am an l x ae a2 y;cases g with
   |zero=>exact absurd ae (by omega)
   |succ g=>
   cases z:decide ((a:Int)<t.length)with
   |false=>
    have p:a=t.length:=by have:=Adh z;omega
    have b:t.drop a=[]:=List.drop_eq_nil_of_le (by omega);have c:Ga t (t.length+1) 0 []=(e++[⟨0,[],a⟩],0,0):=by rw[a2];unfold Ga;rw[b]
    rw[c];have a3:BW (e++[⟨0,[],(a:Int)⟩])=BW e++[I 0,S [],I a]:=ID _ _;rcases x with⟨rfl,u⟩|⟨a4,a5,A,u⟩
    ·simp only[go_sem,Y,r,l,z,u]
     refine⟨fun k d=>by have:=d_ d o;simp only[go_sem,this,w k d],_,.inr ⟨m.n+1,by omega,?_,J⟩,J⟩;exact Ae _
    have a6:=q _ _ A;have a7:=C2 (Gl e);have a8:Z (e.length+1) 1000000=true:=Eg;simp only[go_sem,Y,r,l,z,u,A,a6,a7,a8];refine⟨fun k d=>by have i:=d_ d o;have h:=d_ d a5;simp only[go_sem,i,h,w k d],_,.inr ⟨m.n+1,by omega,?_,?_⟩,J⟩
    ·rw[a3];exact Ae _
    simp
   |true=>
    have a6:a<t.length:=by have:=Acw z;omega
    cases a0:t.drop a with
    |nil=>exact absurd (List.drop_eq_nil_iff.1 a0) (by omega)
    |cons b c=>
    have aC:(b::c).length=t.length-a:=by rw[←a0,K_]
    have ao:(t.drop a).take (t.length-a)=b::c:=by rw[a0,r_ (by omega)]
    have ap:(b::c)[0]? =V b:=J;have aq:=Nat.le_of_lt a6;have h:Ga t (t.length+1) 0 []=bif FL b then Ga t g (a+1) e
     else bif De (b::c) Eo then Ga t g (a+runN If (b::c)) e
     else bif (A8 (b::c)).2.2 !=0 then([],a,(A8 (b::c)).2.2)
     else Ga t g (a+(A8 (b::c)).2.1.toNat) (e++[{(A8 (b::c)).1 with pos:=a}]):=by rw[a2];conv=>lhs;unfold Ga;rw[a0]
    simp only[go_sem,Y,r,l,z,aq,b_,ao,ap];refine Aa (HO [32,9,13,10] b _) ?_;rintro _ _ _ ⟨rfl,rfl⟩;cases a1:FL b with
    |true=>
     have a9:decide (0≤Ft b [32,9,13,10] 0)=true:=a1;have v:=Ap (n:=(a:Int)+1) (by omega) (by omega);simp only[go_sem,Y,a9,l,v];rw[a1]at h;refine y (a+1,e) _ _ ⟨w,q,P,o,by show a+1≤_;omega,by show e.length≤a+1;omega,?_,?_,?_,g,by show t.length<g+(a+1);omega,h⟩ (by show t.length-(a+1)<t.length-a;omega)
     ·simp only[go_sem,r]
     ·simp only[go_sem];rfl
     simp only[go_sem,Y];exact x
    |false=>
    have a9:decide (0≤Ft b [32,9,13,10] 0)=false:=a1;rw[a1]at h;simp only[go_sem,Y,a9];refine Aa (Xe (b::c) Eo _) ?_;rintro _ _ _ ⟨rfl,rfl⟩;cases F:De (b::c) Eo with
    |true=>
     rw[F]at h;simp only[go_sem,Y];refine Aa (NH Ahk (b::c) (by omega) _) ?_;rintro _ _ _ ⟨rfl,rfl⟩;have K:=Hm If (b::c);have aa:1≤runN If (b::c):=by
      have p:b=47:=by unfold De at F;rw[j_]at F;have:=F.2;simp[Eo]at this;exact this.1
      subst p;unfold runN;rw[show If 47=true by decide];exact X_ _
     have v:i_ .i64 ((a:Int)+(runN If (b::c):Nat))=((a+runN If (b::c):Nat):Int):=by rw[Ap]<;>omega
     simp only[go_sem,Y,l,v];refine y (a+runN If (b::c),e) _ _ ⟨w,q,P,o,by show a+runN If (b::c)≤_;omega,by show e.length≤a+_;omega,?_,?_,?_,g,by show t.length<g+(a+runN If (b::c));omega,h⟩ (by show t.length-(a+runN If (b::c))<t.length-a;omega)
     ·simp only[go_sem,r]
     ·simp only[go_sem]
     simp only[go_sem,Y];exact x
    |false=>
    rw[F]at h;simp only[go_sem,Y];refine Aa (Ok.wf q (Ai3 (s:=b::c) (by omega) q P (by omega))) ?_;rintro _ i aa ⟨K,rfl,ab⟩;have af:=P.ext q ab;have ac:Ext f i:=w.trans o ab;simp only[go_sem,Y,Qx,Tok.val,Tok.cells];have ag:=Ai4 (s:=b::c) (by simp);cases ah:((A8 (b::c)).2.2 !=0)with
    |true=>
     rw[ah]at h;rw[show Ga t (t.length+1) 0 []=([],(a:Int),(A8 (b::c)).2.2)from h];simp only[go_sem,Y,l];refine⟨fun k d=>?_,_,.inl ⟨J,J⟩,J⟩;have:=d_ d (g_ o aa);simp only[go_sem,this,ac k d]
    |false=>
     rw[ah]at h ag;obtain⟨aD,aE⟩:=ag.resolve_left (by simp);have aF:((A8 (b::c)).2.1.toNat:Int)=(A8 (b::c)).2.1:=Int.toNat_of_nonneg (by omega);have v:i_ .i64 ((a:Int)+(A8 (b::c)).2.1)=((a+(A8 (b::c)).2.1.toNat:Nat):Int):=by rw[Ap]<;>omega
     have a3:BW (e++[{(A8 (b::c)).1 with pos:=(a:Int)}])=BW e++[I (A8 (b::c)).1.kind,S (A8 (b::c)).1.text,I a]:=ID _ _;rcases x with⟨rfl,u⟩|⟨a4,a5,A,u⟩
     ·simp only[go_sem,Y,l,u,v]
      refine y (_,_) _ _ ⟨?_,?_,?_,?_,by show a+_≤_;omega,by show([]++[_]).length≤a+_;simp only[aa_,h_,D_];omega,?_,?_,.inr ⟨i.n+1+1,by omega,?_,?_⟩,g,by show t.length<g+(a+_);omega,h⟩ (by show t.length-(a+_)<t.length-a;omega)
      ·intro k d
       have:=d_ d (g_ o aa);simp only[go_sem,this,ac k d]
      ·repeat' (first|exact K|refine Am ?_ _|refine Dm ?_ _|refine Ar ?_ ?_ _)
       all_goals simp only[go_sem]
      ·exact af.ext K fun k d=>by simp only[go_sem,d]
      ·show f.n≤i.n+1+1+1;omega
      ·simp only[go_sem,r]
      ·simp only[go_sem]
      ·exact Ae _
      simp only[go_sem,Y];rfl
     have ar:=q _ _ A;have p:=(ab a4 ar).trans A;have au:=K _ _ p;have a7:=C2 (Gl e);have a8:Z (e.length+1) 1000000=true:=Eg;simp only[go_sem,Y,l,u,v,p,au,a7,a8];refine y (_,_) _ _ ⟨?_,?_,?_,?_,by show a+_≤_;omega,by show(e++[_]).length≤a+_;simp only[ah_,h_,D_];omega,?_,?_,.inr ⟨i.n+1+1,by omega,?_,?_⟩,g,by show t.length<g+(a+_);omega,h⟩ (by show t.length-(a+_)<t.length-a;omega)
     ·intro k d
      have av:=d_ d (g_ o aa);have aw:=d_ d a5;simp only[go_sem,av,aw,ac k d]
     ·repeat' (first|exact K|refine Am ?_ _|refine Dm ?_ _|refine Ar ?_ ?_ _)
      all_goals simp only[go_sem]
     ·obtain⟨av,aw,k⟩:=af
      have ax:=K _ _ k;have ay:(7==a4)=false:=Ag fun az=>by
       subst az;rw[k]at p;injection p with p
       injection p with p
       have:=Gl e;rw[←p]at this;simp at this;omega
      exact⟨av,aw,by simp only[go_sem,ax,ay,k]⟩
     ·show f.n≤i.n+1+1+1;omega
     ·simp only[go_sem,r]
     ·simp only[go_sem]
     ·rw[a3];exact Ae _
     simp only[go_sem,Y];simp
  refine⟨Ext.refl f,ai,aj,b_ _,l_ _,b_ _,?_,?_,.inl ⟨J,?_⟩,t.length+1,by show t.length<t.length+1+0;omega,J⟩<;>simp only[go_sem,Y]
  rfl
def Ah6(a:H)(b:Int):Int:=1+A1 10 (a.take (min (max b 0) a.length).toNat)
theorem RX(b:UInt8):∀a,A1 b a≤a.length
 |[]=>b_ _
 |x::a=>by
  unfold A1;have:=RX b a;cases(x==b)<;>simp<;>omega
theorem Anl(a:H)(b:Int)(c:a.length<2^40):Pure 146 [S a,I b] (I (Ah6 a b)):=fun d=>by
 refine eF Tryz.func146 ?_;have c:(if(0:Int)>b then(0:Int)else b)=max b 0:=by split<;>omega
 have d:(if((a.length:Nat):Int)<max b 0 then((a.length:Nat):Int)else max b 0)=(((min (max b 0) a.length).toNat:Nat):Int):=by split<;>omega
 have e:(min (max b 0) a.length).toNat≤a.length:=by omega
 simp only[go_sem,Y,c,d,e,l_,m_,t_];refine Aa (RW _ 10 _) ?_;rintro _ _ _ ⟨rfl,rfl⟩;have c:=RX 10 (a.take (min (max b 0) a.length).toNat);have c:(a.take (min (max b 0) a.length).toNat).length≤a.length:=by rw[ai_];omega
 have c:=Ap (n:=1+(A1 10 (a.take (min (max b 0) a.length).toNat):Int)) (by omega) (by omega);simp only[go_sem,c,Ah6]
structure PS where
 Ax:List Tok
 deep:Int
 e:Int
 pos:Int
structure GH where
 kind:Int
 line:Int
 n:Int
 name:H
 lv:T
def GH.cells(a:GH):E:=[I a.kind,I a.line,I a.n,S a.name,a.lv]
def Bf:List GH→E
 |[]=>[]
 |x::a=>I x.kind::I x.line::I x.n::S x.name::x.lv::Bf a
theorem Ht:∀(a b:List GH),Bf (a++b)=Bf a++Bf b
 |[],_=>rfl
 |c::a,b=>by simp[Bf,Ht a b]
theorem F1:∀a:List GH,(Bf a).length=a.length*5
 |[]=>rfl
 |b::a=>by simp[Bf,F1 a];omega
def EE:T→Option Nat
 |.slice (some a) _ _=>V a.block
 |_=>W
def DE:Option AO→Option Nat
 |some (.cells [_,_,_,_,_,a])=>EE a
 |_=>W
def Oe:Option AO→Option Nat
 |some (.cells [_,a,_,_,_,_])=>EE a
 |_=>W
structure K9(b:Nat)(h h1:AH):Prop where
 same:∀c,c<h.n→c≠b→h1.get c=h.get c
 nodes:DE (h1.get b)=DE (h.get b)
 Ax:Oe (h1.get b)=Oe (h.get b)
theorem K9.trans{b h1 d:AH}(e:b.n≤h1.n)(c:K9 a b h1)(k:K9 a h1 d):K9 a b d:=
 ⟨fun a b d=>(k.same a (d_ b e) d).trans (c.same a b d),k.nodes.trans c.nodes,k.Ax.trans c.Ax⟩
theorem Ext.Ak{h c:AH}(b:Ext h c)(d:a<h.n):K9 a h c:=⟨fun e f _=>b e f,by rw[b a d],by rw[b a d]⟩
theorem K9.refl(b:Nat)(a:AH):K9 b a a:=⟨fun _ _ _=>rfl,J,J⟩
def YU(d:AH)(a:List GH)(b:T):Prop:=(a=[]∧b=.slice W 0 0)∨(∃c,d.get c=V (.cells (Bf a))∧b=.slice (V ⟨c,0,W⟩) a.length 5)
structure Ge(h:AH)(b:Nat)(src:H)(P:PS)(ns:List GH):Prop where
 ex:∃tb k all nv,h.get b=V (.cells [S src,.slice (V ⟨tb,k,W⟩) P.Ax.length 3,I P.deep,I P.e,I P.pos,nv])∧h.get tb=V (.cells all)∧all.drop k=BW P.Ax∧tb≠b∧
  EE nv≠V tb∧EE nv≠V b∧YU h ns nv
theorem Ge.ext{b h1:AH}{e:PS}{f:List GH}(h:Ge b a s e f)(c:Wh b)(d:Ext b h1):Ge h1 a s e f:=by
 obtain⟨e,i,all,j,f,g,k,l,m,n,b⟩:=h.ex;refine⟨e,i,all,j,(d a (c _ _ f)).trans f,(d e (c _ _ g)).trans g,k,l,m,n,?_⟩;rcases b with b|⟨a,b,e⟩
 ·exact .inl b
 exact .inr ⟨a,(d a (c _ _ b)).trans b,e⟩
theorem YU.Ak{h d:AH}{e:List GH}(c:YU h e v)(f:EE v≠V a)(g:∀b,b≠a→h.get b≠W→d.get b=h.get b):YU d e v:=by
 rcases c with c|⟨a,b,d⟩
 ·exact .inl c
 refine .inr ⟨a,(g a (fun c=>f (by rw[d,←c];rfl)) (by rw[b];exact fun h=>by cases h)).trans b,d⟩
theorem Ank(c:Wh f)(d:f.get a≠W):a<f.n:=by
 cases b:f.get a with
 |none=>exact absurd b d
 |some a=>exact c _ _ b
structure PO(h:AH)(b:Nat)(src:H)(P:PS)(ns:List GH)(tb k:Nat)(all:E)(nv:T):Prop where
 hb:h.get b=V (.cells [S src,.slice (V ⟨tb,k,W⟩) P.Ax.length 3,I P.deep,I P.e,I P.pos,nv])
 ht:h.get tb=V (.cells all)
 hk:all.drop k=BW P.Ax
 Abj:(tb==b)=false
 Ahj:EE nv≠V tb
 SX:EE nv≠V b
 KE:YU h ns nv
theorem Ge.op{e:PS}{g:List GH}(h:Ge f a s e g):∃b c all d,PO f a s e g b c all d:=by obtain⟨b,c,all,d,a,e,f,g,i,j,k⟩:=h.ex;exact⟨b,c,all,d,a,e,f,Ag g,i,j,k⟩
theorem PO.MZ{f h2:AH}{g P2:PS}{h:List GH}{all:E}(e:PO f a s g h b c all v)(i:Wh f)
  (j:h2.get a=V (.cells [S s,.slice (V ⟨b,d,W⟩) P2.Ax.length 3,I P2.deep,I P2.e,I P2.pos,v])) (k:all.drop d=BW P2.Ax)
  (g:∀c,c<f.n→(c==a)=false→h2.get c=f.get c):Ge h2 a s P2 h∧K9 a f h2:=by
 refine⟨⟨b,d,all,v,j,(g b (i _ _ e.ht) e.Abj).trans e.ht,k,AF e.Abj,e.Ahj,e.SX,e.KE.Ak e.SX fun c a f=>g c (Ank i f) (Ag a)⟩,fun c a h=>g c a (Ag h),?_,?_⟩<;>rw[j,e.hb]<;>rfl
theorem Ge.lt{b:PS}{c:List GH}(d:Ge f a s b c)(e:Wh f):a<f.n:=by obtain⟨b,c,all,f,a,_⟩:=d.ex;exact e _ _ a
def PS.next(a:PS):Tok:=a.Ax.headD F0
theorem Kg{b:PS}{c:List GH}(e:Wh f)(d:Ge f a s b c)(h:b.Ax≠[]):AR 68 [.pointer (V ⟨a,0,W⟩)] f (fun g i=>g=b.next.val∧Ext f i):=by
 obtain⟨i,j,all,k,c,f,g,l,m,n,o⟩:=d.ex;refine eF Tryz.func68 ?_;cases d:b.Ax with
 |nil=>exact absurd d h
 |cons h j=>
  rw[d]at c g;have j:=e a _ c;have a:=e i _ f;have e:=WW g;have g:b.next=h:=by unfold PS.next;rw[d];rfl
  simp only[go_sem,c,f,j,a,e,Y,h_];exact⟨by rw[g];rfl,fun b a=>by simp only[go_sem,a]⟩
def PS.kind(a:PS)(b:Int):Bool:=(a.e==0)&&(a.next.kind==b)
theorem ZX{b:PS}{h:List GH}(d:Wh f)(e:Ge f a s b h)(i:b.Ax≠[])(c:Int):AR 34 [.pointer (V ⟨a,0,W⟩),I c] f (fun j g=>j=.bool (b.kind c)∧Ext f g):=by
 obtain⟨h,j,all,k,c,l,m,n,o,p,q⟩:=e.ex;refine eF Tryz.func34 ?_;have h:=d a _ c;cases a:(b.e==0)with
 |false=>
  simp only[go_sem,c,Y,a,PS.kind];exact Ext.refl f
 |true=>
  simp only[go_sem,c,Y,a];refine Aa (Kg d e i) ?_;rintro _ g _ ⟨rfl,b⟩;simp only[go_sem,Y,Tok.val,Tok.cells,PS.kind,a];exact b
def PS.fail(a:PS)(b:Int):PS:=if a.e=0 then{a with e:=b,pos:=a.next.pos}else a
theorem Tt{b:PS}{c:List GH}(e:Wh f)(g:Ge f a s b c)(j:b.Ax≠[])(d:Int):
  AR 148 [.pointer (V ⟨a,0,W⟩),I d] f (fun i h=>i=.tuple #[]∧Ge h a s (b.fail d) c∧K9 a f h):=by
 obtain⟨d,i,all,k,c⟩:=g.op;refine eF Tryz.func148 ?_;have k:=e a _ c.hb;by_cases d:b.e=0
 ·have i:(b.e==0)=true:=by rw[d];rfl
  simp only[go_sem,c.hb,Y,i];refine Aa (Kg e g j) ?_;rintro _ h l ⟨rfl,j⟩;have h:=(j a k).trans c.hb;simp only[go_sem,Y,Tok.val,Tok.cells,h];unfold PS.fail;rw[Agd d];exact c.MZ e (by simp only[go_sem]) c.hk (fun h k l=>by simp only[go_sem,l,j h k])
 have i:(b.e==0)=false:=by simpa using d
 simp only[go_sem,c.hb,i];unfold PS.fail;rw[Akt d];exact⟨g,K9.refl a f⟩
def PS.take(a:PS):PS:={a with Ax:=match a.Ax with
 |c::b::a=>b::a
 |a=>a}
theorem Su{c:PS}{v:List GH}(h:Wh f)(w:Ge f a s c v)(x:c.Ax≠[]):
  AR 149 [.pointer (V ⟨a,0,W⟩)] f (fun b e=>b=c.next.val∧Ge e a s c.take v∧K9 a f e):=by
 obtain⟨P,F,all,a0,i⟩:=w.op;have j:=h a _ i.hb;refine eF Tryz.func149 ?_;simp only[go_sem,Y];refine Aa (Kg (h.new _) (w.ext h (Ext.new f _)) x) ?_;rintro _ e K ⟨rfl,y⟩;have o:∀d,d<f.n→e.get d=f.get d:=fun d b=>(y d (A_ b)).trans (An _ (AE b));have k:f.n<e.n:=K;have z:=(y f.n (x_ _)).trans (Ae _);have l:=(o a j).trans i.hb;have p:a<e.n:=F_ j k;cases m:c.Ax with
 |nil=>exact absurd m x
 |cons n g=>
  have q:=i.hk;rw[m]at l q;have L:all.drop (F+3)=BW g:=by rw[←ad_,q];rfl
  cases g with
  |nil=>
   have r:decide ((1:Int)<(([n]:List Tok).length:Nat))=false:=J;have t:c.take={c with Ax:=[n]}:=by unfold PS.take;rw[m]
   simp only[go_sem,Y,Tok.val,Tok.cells,l,p,r,z,k];rw[t];exact i.MZ h (by simp only[go_sem,j,p,l]) q (fun d b A=>by have:=F_ b k;simp only[go_sem,b,this,o d b])
  |cons u g=>
   have r:decide ((1:Int)<((n::u::g:List Tok).length:Nat))=true:=Aeu (by simp only[h_];omega);have t:c.take={c with Ax:=u::g}:=by unfold PS.take;rw[m]
   have N:1≤(n::u::g:List Tok).length:=by simp
   simp only[go_sem,Y,Tok.val,Tok.cells,l,j,p,r,z,k,N,b_];rw[t];exact i.MZ h (by simp only[go_sem,j];rfl) L (fun d b A=>by have:=F_ b k;simp only[go_sem,b,this,A,o d b])
def PS.is(a:PS)(l:List H):Bool:=(a.e==0)&&((a.next.kind==5)||(a.next.kind==4))&&CT a.next.text l
theorem Aq4{c xb:Nat}{a:PS}{d:List GH}{l:List H}(e:Wh f)(g:Ge f c s a d)(i:a.Ax≠[])(h:f.get xb=V (.cells (l.map S)))(k:l.length<2^62):
  AR 75 [.pointer (V ⟨c,0,W⟩),.slice (V ⟨xb,0,W⟩) l.length 1] f (fun j d=>j=.bool (a.is l)∧Ext f d):=by
 obtain⟨j,n,all,o,m⟩:=g.op;have n:=e c _ m.hb;have o:=e xb _ h;refine eF Tryz.func75 ?_;simp only[go_sem];refine Aa (Kg e g i) ?_;rintro _ d i ⟨rfl,j⟩;have e:=(j c n).trans m.hb;have m:=(j xb o).trans h;have g:=d_ n i;have n:=d_ o i;have h:∀c,c<f.n→((d.new (.cells [.int .i64 0,.string ⟨#[]⟩,.int .i64 0])).put d.n (.cells a.next.cells)).get c=f.get c:=fun c o=>by
  have:=d_ o i;simp only[go_sem,this,j c o]
 unfold PS.is;cases c:(a.e==0)with
 |false=>
  simp only[go_sem,Y,Tok.val,Tok.cells,e,g,c];exact h
 |true=>
  cases d:(a.next.kind==5)with
  |true=>
   simp only[go_sem,Y,Tok.val,Tok.cells,e,g,c,d];refine Aa (Gw a.next.text l (b:=xb) (by simp only[go_sem,n,m]) k) ?_;rintro _ _ _ ⟨rfl,rfl⟩;simp only[go_sem,Y];exact h
  |false=>
   cases f:(a.next.kind==4)with
   |true=>
    simp only[go_sem,Y,Tok.val,Tok.cells,e,g,c,d,f];refine Aa (Gw a.next.text l (b:=xb) (by simp only[go_sem,n,m]) k) ?_;rintro _ _ _ ⟨rfl,rfl⟩;simp only[go_sem,Y];exact h
   |false=>
    simp only[go_sem,Y,Tok.val,Tok.cells,e,g,c,d,f];exact h
def PS.has(a:PS)(b:H):PS:=bif a.is [b]then a.take else a
theorem Aiq{c:PS}{h:List GH}(d:Wh f)(g:Ge f a s c h)(i:c.Ax≠[])(b:H):
  AR 147 [.pointer (V ⟨a,0,W⟩),S b] f (fun j e=>j=.bool (c.is [b])∧Ge e a s (c.has b) h∧K9 a f e):=by
 have h:=g.lt d;refine eF Tryz.func147 ?_;simp only[go_sem,Y];have j:=Ext.new f (.cells [S b]);have a:=d.new (.cells [S b]);refine Aa (Ok.wf a (Aq4 (xb:=f.n) (l:=[b]) a (g.ext d j) i (Ae _) (by show 1<2^62;decide))) ?_;rintro _ e k ⟨m,rfl,n⟩;have a:Ext f e:=j.trans (f_ _) n;have e:=g.ext d a;unfold PS.has;cases d:c.is [b]with
 |false=>
  simp only[go_sem];exact⟨e,a.Ak h⟩
 |true=>
  simp only[go_sem];refine Aa (Su m e i) ?_;rintro _ d e ⟨rfl,b,c⟩;simp only[go_sem];exact⟨b,(a.Ak h).trans (g_ (f_ _) k) c⟩
def PS.Ao(a:PS)(b:H):PS:=bif a.is [b]then a.take else a.fail 20
theorem Am2{b:PS}{e:List GH}(g:Wh f)(i:Ge f a s b e)(h:b.Ax≠[])(c:H):
  AR 70 [.pointer (V ⟨a,0,W⟩),S c] f (fun j d=>j=.tuple #[]∧Ge d a s (b.Ao c) e∧K9 a f d):=by
 refine eF Tryz.func70 ?_;simp only[go_sem,Y];refine Aa (Ok.wf g (Aiq g i h c)) ?_;rintro _ d f ⟨g,rfl,a,e⟩;unfold PS.Ao;unfold PS.has at a;cases d:b.is [c]with
 |true=>
  rw[d]at a;simp only[go_sem];exact⟨a,e⟩
 |false=>
  rw[d]at a;simp only[go_sem];refine Aa (Tt g a h 20) ?_;rintro _ c d ⟨rfl,a,b⟩;simp only[go_sem];exact⟨a,e.trans f b⟩
def PS.name(a:PS):H×PS:=bif a.kind 3 then(a.next.text,a.take)else([],a.fail 20)
theorem Ahp{b:PS}{h:List GH}(c:Wh f)(d:Ge f a s b h)(e:b.Ax≠[]):
  AR 71 [.pointer (V ⟨a,0,W⟩)] f (fun i g=>i=S b.name.1∧Ge g a s b.name.2 h∧K9 a f g):=by
 have f:=d.lt c;refine eF Tryz.func71 ?_;simp only[go_sem];refine Aa (Ok.wf c (ZX c d e 3)) ?_;rintro _ g h ⟨i,rfl,a⟩;have g:=d.ext c a;unfold PS.name;cases c:b.kind 3 with
 |false=>
  simp only[go_sem];refine Aa (Tt i g e 20) ?_;rintro _ d j ⟨rfl,b,c⟩;simp only[go_sem];exact⟨b,(a.Ak f).trans h c⟩
 |true=>
  simp only[go_sem];refine Aa (Su i g e) ?_;rintro _ d j ⟨rfl,b,c⟩;simp only[go_sem,Tok.val,Tok.cells];exact⟨b,(a.Ak f).trans h c⟩
def PS.line(a:PS)(b:H):Int:=Ah6 b a.next.pos
theorem Ah5{b:PS}{d:List GH}(c:Wh f)(e:Ge f a s b d)(g:b.Ax≠[])(h:s.length<2^40):
  AR 69 [.pointer (V ⟨a,0,W⟩)] f (fun i d=>i=I (b.line s)∧Ext f d):=by
 obtain⟨f,i,all,j,b⟩:=e.op;have f:=c a _ b.hb;refine eF Tryz.func69 ?_;simp only[go_sem];refine AM c 0x10303015000 ?_;simp only[go_sem,b.hb];refine Aj (Kg c e g) ?_;rintro _ d e ⟨rfl,c⟩;have e:=(c a f).trans b.hb;simp only[go_sem,Y,e,Tok.val,Tok.cells];refine Aj (Anl s _ h d) ?_;rintro _ _ _ ⟨rfl,rfl⟩;simp only[go_sem];exact⟨J,c⟩
theorem J0(h:a<c):(c==a)=false:=Ag
structure Nd where
 kind:Int
 line:Int
 n:Int
 name:H
 l:List Int
structure PN where
 P:PS
 N:List Nd
def L3(h:AH)(c:T)(a:List Int):Prop:=(a=[]∧c=.slice W 0 0)∨(∃d,c=.slice (V ⟨d,0,W⟩) a.length 1∧h.get d=V (.cells (a.map fun e=>I e)))
def DI(h:AH):List GH→List Nd→Prop
 |[],[]=>True
 |v::c,a::d=>v.kind=a.kind∧v.line=a.line∧v.n=a.n∧v.name=a.name∧L3 h v.lv a.l∧DI h c d
 |_,_=>False
def S6(a:GH)(c:Nat):Prop:=EE a.lv=V c
theorem L3.Ak{h d:AH}(a:L3 h v q)(e:∀c,EE v=V c→d.get c=h.get c):L3 d v q:=by
 rcases a with a|⟨c,d,f⟩
 ·exact .inl a
 exact .inr ⟨c,d,(e c (by rw[d];rfl)).trans f⟩
theorem L3.live{h:AH}(d:L3 h v q)(e:Wh h)(c:EE v=V a):a<h.n:=by
 rcases d with⟨_,a⟩|⟨g,f,a⟩
 ·rw[a]at c;cases c
 rw[f]at c;cases c;exact e _ _ a
theorem DI.Ak{h a:AH}:∀{c:List GH} {e:List Nd},(∀v∈c,∀d,S6 v d→a.get d=h.get d)→DI h c e→DI a c e
 |[],[],_,_=>trivial
 |v::c,_::_,d,⟨a,e,f,g,i,j⟩=>⟨a,e,f,g,i.Ak (d v (by simp)),j.Ak fun k l=>d k (by simp[l])⟩
 |[],_::_,_,h=>h.elim
 |_::_,[],_,h=>h.elim
theorem DI.live{h:AH}(f:Wh h):∀{e:List GH} {a:List Nd},DI h e a→∀c∈e,∀d,S6 c d→d<h.n
 |[],[],_,c,a,_,_=>by cases a
 |u::e,_::_,⟨_,_,_,_,i,j⟩,c,a,d,g=>by
  rcases Q_.1 a with a|a
  ·subst a;exact i.live f g
  exact j.live f c a d g
 |[],_::_,h,_,_,_,_=>h.elim
 |_::_,[],h,_,_,_,_=>h.elim
theorem DI.len{h:AH}:∀{a:List GH} {c:List Nd},DI h a c→a.length=c.length
 |[],[],_=>rfl
 |_::_,_::_,⟨_,_,_,_,_,a⟩=>by simp[a.len]
 |[],_::_,h=>h.elim
 |_::_,[],h=>h.elim
theorem DI.app{h:AH}{v:GH}{n:Nd}(a:v.kind=n.kind∧v.line=n.line∧v.n=n.n∧v.name=n.name∧L3 h v.lv n.l):∀{c:List GH} {d:List Nd},DI h c d→DI h (c++[v]) (d++[n])
 |[],[],_=>⟨a.1,a.2.1,a.2.2.1,a.2.2.2.1,a.2.2.2.2,trivial⟩
 |_::_,_::_,⟨c,d,e,f,g,i⟩=>⟨c,d,e,f,g,i.app a⟩
 |[],_::_,h=>h.elim
 |_::_,[],h=>h.elim
def Uj(h:AH)(b a:Nat):Prop:=a=b∨Oe (h.get b)=V a∨DE (h.get b)=V a∨∃c d,DE (h.get b)=V c∧h.get c=V (.cells (Bf d))∧∃e∈d,S6 e a
def BF(b:Nat)(h c:AH):Prop:=∀a,a<h.n→¬Uj h b a→c.get a=h.get a∧¬Uj c b a
theorem BF.trans{b:Nat}{h h1 a:AH}(e:h.n≤h1.n)(f:BF b h h1)(k:BF b h1 a):BF b h a:=fun c d g=>by
 obtain⟨a,i⟩:=f c d g;obtain⟨f,g⟩:=k c (d_ d e) i;exact⟨f.trans a,g⟩
theorem BF.refl(b:Nat)(h:AH):BF b h h:=fun _ _ a=>⟨J,a⟩
structure St(h:AH)(b:Nat)(src:H)(s:PN):Prop where
 ne:s.P.Ax≠[]
 DZ:∃ns,Ge h b src s.P ns∧DI h ns s.N∧∀v∈ns,∀c,S6 v c→c≠b∧DE (h.get b)≠V c
theorem St.lt{h:AH}{b:Nat}{src:H}{s:PN}(a:St h b src s)(c:Wh h):b<h.n:=by obtain⟨e,d,_⟩:=a.DZ;exact d.lt c
theorem Hq:∀{a c:List GH},Bf a=Bf c→a=c
 |[],[],_=>rfl
 |v::a,g::c,h=>by
  simp only[Bf,List.cons.injEq]at h;obtain⟨c,d,e,a,f,i⟩:=h;obtain⟨k,l,m,j,n⟩:=v;obtain⟨l,m,n,k,o⟩:=g;injection c with _ c
  injection d with _ d
  injection e with _ e
  injection a with a
  injection a with a
  have g:j=k:=by simpa using a
  clear a;dsimp only at c d e f;subst c d e g f;rw[Hq i]
 |[],_::_,h=>by cases h
 |_::_,[],h=>by cases h
theorem St.own{h:AH}{b:Nat}{src:H}{s:PN}(d:St h b src s)(g:Wh h)(c:Uj h b a):a<h.n:=by
 obtain⟨f,e,o,i⟩:=d.DZ;obtain⟨i,f,all,l,d⟩:=e.op;rcases c with rfl|c|c|⟨m,j,f,e,p,n,q⟩
 ·exact g _ _ d.hb
 ·rw[d.hb]at c
  have:V i=V a:=c;cases this;exact g _ _ d.ht
 ·rw[d.hb]at c
  change EE l=V a at c;rcases d.KE with⟨_,i⟩|⟨m,j,k⟩
  ·rw[i]at c;cases c
  rw[k]at c;cases c;exact g _ _ j
 rw[d.hb]at f;change EE l=V m at f;rcases d.KE with⟨_,i⟩|⟨c,j,k⟩
 ·rw[i]at f;cases f
 rw[k]at f;cases f;change h.get c=_ at e;rw[j]at e;injection e with e
 injection e with e
 rw[←Hq e]at n;exact o.live g p n a q
theorem St.of{h g:AH}{b:Nat}{src:H}{s:PN}{P2:PS}{i:List GH}(l:Wh h)(p:P2.Ax≠[])(q:Ge h b src s.P i)(m:DI h i s.N)(n:∀e∈i,∀a,S6 e a→a≠b∧DE (h.get b)≠V a)(r:Ge g b src P2 i)(c:K9 b h g):
  St g b src {s with P:=P2}∧BF b h g:=by
 refine⟨⟨p,i,r,m.Ak fun e k a f=>c.same a (m.live l e k a f) (n e k a f).1,fun e k a f=>by rw[c.nodes];exact n e k a f⟩,fun a f o=>⟨c.same a f fun j=>o (.inl j),fun d=>o ?_⟩⟩;rcases d with j|d|d|⟨e,i,a,k,m⟩
 ·exact .inl j
 ·rw[c.Ax]at d;exact .inr (.inl d)
 ·rw[c.nodes]at d;exact .inr (.inr (.inl d))
 rw[c.nodes]at a;obtain⟨n,o,all,f,d⟩:=q.op;rw[d.hb]at a;change EE f=V e at a;rcases d.KE with⟨_,n⟩|⟨e,o,f⟩
 ·rw[n]at a;cases a
 have n:=a;rw[f]at a;cases a;have a:g.get e=h.get e:=c.same e (l _ _ o) fun j=>d.SX (by rw[f,j];rfl);exact .inr (.inr (.inr ⟨e,i,by rw[d.hb];exact n,a▸k,m⟩))
theorem St.ext{h h1:AH}{b:Nat}{src:H}{s:PN}(d:St h b src s)(a:Wh h)(e:Ext h h1):St h1 b src s∧BF b h h1:=by obtain⟨i,c,f,g⟩:=d.DZ;exact St.of a d.ne c f g (c.ext a e) (e.Ak (c.lt a))
theorem PS.NG{a:PS}(h:a.Ax≠[]):a.take.Ax≠[]:=by
 unfold PS.take;split
 ·simp
 exact h
theorem PS.Tu{a:PS}(h:a.Ax≠[])(c:Int):(a.fail c).Ax≠[]:=by unfold PS.fail;split<;>exact h
theorem PS.Am3{a:PS}(h:a.Ax≠[])(c:H):(a.Ao c).Ax≠[]:=by
 unfold PS.Ao;cases a.is [c]with
 |true=>exact PS.NG h
 |false=>exact PS.Tu h 20
theorem PS.At8{a:PS}(h:a.Ax≠[])(c:H):(a.has c).Ax≠[]:=by
 unfold PS.has;cases a.is [c]with
 |true=>exact PS.NG h
 |false=>exact h
theorem PS.Am0{a:PS}(h:a.Ax≠[]):a.name.2.Ax≠[]:=by
 unfold PS.name;cases a.kind 3 with
 |true=>exact PS.NG h
 |false=>exact PS.Tu h 20
section
variable{h:AH}{b:Nat}{src:H}{s:PN}
abbrev At(b:Nat):T:=.pointer (V ⟨b,0,W⟩)
theorem Awb(a:Wh h)(c:St h b src s):AR 68 [At b] h (fun e d=>Wh d∧e=s.P.next.val∧Ext h d):=by obtain⟨e,d,_⟩:=c.DZ;exact Ok.wf a (Kg a d c.ne)
theorem Awe(c:Wh h)(d:St h b src s)(a:Int):AR 34 [At b,I a] h (fun f e=>Wh e∧f=.bool (s.P.kind a)∧Ext h e):=by obtain⟨f,e,_⟩:=d.DZ;exact Ok.wf c (ZX c e d.ne a)
theorem sIs{xb:Nat}{l:List H}(a:Wh h)(c:St h b src s)(e:h.get xb=V (.cells (l.map S)))(f:l.length<2^62):AR 75 [At b,.slice (V ⟨xb,0,W⟩) l.length 1] h (fun g d=>Wh d∧g=.bool (s.P.is l)∧Ext h d):=by obtain⟨g,d,_⟩:=c.DZ;exact Ok.wf a (Aq4 a d c.ne e f)
theorem Awd(a:Wh h)(c:St h b src s)(e:src.length<2^40):AR 69 [At b] h (fun f d=>Wh d∧f=I (s.P.line src)∧Ext h d):=by obtain⟨f,d,_⟩:=c.DZ;exact Ok.wf a (Ah5 a d c.ne e)
theorem Aqj(c:Wh h)(d:St h b src s):AR 149 [At b] h (fun e a=>Wh a∧e=s.P.next.val∧St a b src {s with P:=s.P.take}∧BF b h a):=by obtain⟨j,f,g,i⟩:=d.DZ;exact(Ok.wf c (Su c f d.ne)).mono fun e a _ ⟨j,k,l,m⟩=>⟨j,k,St.of c (PS.NG d.ne) f g i l m⟩
theorem Agh(d:Wh h)(e:St h b src s)(a:Int):AR 148 [At b,I a] h (fun f c=>Wh c∧f=.tuple #[]∧St c b src {s with P:=s.P.fail a}∧BF b h c):=by obtain⟨k,g,i,j⟩:=e.DZ;exact(Ok.wf d (Tt d g e.ne a)).mono fun f c _ ⟨k,l,m,n⟩=>⟨k,l,St.of d (PS.Tu e.ne a) g i j m n⟩
theorem Azf(d:Wh h)(e:St h b src s)(a:H):AR 147 [At b,S a] h (fun f c=>Wh c∧f=.bool (s.P.is [a])∧St c b src {s with P:=s.P.has a}∧BF b h c):=by obtain⟨k,g,i,j⟩:=e.DZ;exact(Ok.wf d (Aiq d g e.ne a)).mono fun f c _ ⟨k,l,m,n⟩=>⟨k,l,St.of d (PS.At8 e.ne a) g i j m n⟩
theorem Aqk(d:Wh h)(e:St h b src s)(a:H):AR 70 [At b,S a] h (fun f c=>Wh c∧f=.tuple #[]∧St c b src {s with P:=s.P.Ao a}∧BF b h c):=by obtain⟨k,g,i,j⟩:=e.DZ;exact(Ok.wf d (Am2 d g e.ne a)).mono fun f c _ ⟨k,l,m,n⟩=>⟨k,l,St.of d (PS.Am3 e.ne a) g i j m n⟩
theorem Awc(c:Wh h)(d:St h b src s):AR 71 [At b] h (fun e a=>Wh a∧e=S s.P.name.1∧St a b src {s with P:=s.P.name.2}∧BF b h a):=by obtain⟨j,f,g,i⟩:=d.DZ;exact(Ok.wf c (Ahp c f d.ne)).mono fun e a _ ⟨j,k,l,m⟩=>⟨j,k,St.of c (PS.Am0 d.ne) f g i l m⟩
def PN.put(s:PN)(a:Nd):PN:={s with N:=s.N++[a]}
def L4(b:Nat)(d:T)(h c:AH):Prop:=∀a,a<h.n→¬Uj h b a→EE d≠V a→c.get a=h.get a∧¬Uj c b a
theorem Zv{j:List GH}{l u nb:Nat}{all:E}(i:PO h b src s.P j l u all w)(o:Wh h)(N:s.P.Ax≠[])(y:DI h j s.N)(z:∀g∈j,∀a,S6 g a→a≠b∧DE (h.get b)≠V a)
  {kind line:Int} {name:H} {k:T} (A:L3 h k q) (F:∀a,EE k=V a→¬Uj h b a)
  (x:f.get b=V (.cells [S src,.slice (V ⟨l,u,W⟩) s.P.Ax.length 3,I s.P.deep,I s.P.e,I s.P.pos,.slice (V ⟨nb,0,W⟩) (j++[(⟨kind,line,0,name,k⟩:GH)]).length 5])) (c:h.n≤nb)
  (K:f.get nb=V (.cells (Bf (j++[(⟨kind,line,0,name,k⟩:GH)])))) (p:∀a,a<h.n→(a==b)=false→EE w≠V a→f.get a=h.get a):
  St f b src (s.put ⟨kind,line,0,name,q⟩)∧L4 b k h f:=by
 have c:=o b _ i.hb;have P:=o l _ i.ht;have r:DE (h.get b)=EE w:=by rw[i.hb];rfl
 have w:DE (f.get b)=V nb:=by rw[x];rfl
 have a0:Oe (f.get b)=Oe (h.get b):=by rw[x,i.hb];rfl
 have L:=y.live o;have a1:∀g∈j,∀a,S6 g a→f.get a=h.get a:=fun g d a e=>by
  obtain⟨t,f⟩:=z g d a e;exact p a (L g d a e) (Ag t) (by rw[←r];exact f)
 have m:∀a,EE k=V a→a<h.n∧a≠b∧DE (h.get b)≠V a:=fun a e=>⟨A.live o e,fun c=>F a e (.inl c),fun c=>F a e (.inr (.inr (.inl c)))⟩;refine⟨⟨N,j++[⟨kind,line,0,name,k⟩],⟨l,u,all,.slice (V ⟨nb,0,W⟩) (j++[(⟨kind,line,0,name,k⟩:GH)]).length 5,x,(p l P i.Abj i.Ahj).trans i.ht,i.hk,AF i.Abj,?_,?_,.inr ⟨nb,K,J⟩⟩,?_,?_⟩,?_⟩
 ·show V nb≠V l
  intro c;cases c;omega
 ·show V nb≠V b
  intro c;cases c;omega
 ·exact DI.app (v:=⟨kind,line,0,name,k⟩) (n:=⟨kind,line,0,name,q⟩) ⟨J,J,J,J,A.Ak fun a e=>p a (m a e).1 (Ag (m a e).2.1) (by rw[←r];exact(m a e).2.2)⟩ (y.Ak a1)
 ·intro g d a e
  have k:a<h.n∧a≠b:=by
   rcases z_.1 d with d|d
   ·exact⟨L g d a e,(z g d a e).1⟩
   rw[G_.1 d]at e;exact⟨(m a e).1,(m a e).2.1⟩
  refine⟨k.2,?_⟩;rw[w];intro c;cases c;omega
 intro a e k m;have l:a≠b:=fun c=>k (.inl c);refine⟨p a e (Ag l) (by rw[←r];exact fun c=>k (.inr (.inr (.inl c)))),fun o=>?_⟩;rcases o with c|c|c|⟨e,p,t,f,g,d,a⟩
 ·exact l c
 ·rw[a0]at c;exact k (.inr (.inl c))
 ·rw[w]at c;cases c;omega
 rw[w]at t;cases t;rw[K]at f;injection f with f
 injection f with f
 rw[←Hq f]at d;rcases z_.1 d with d|d
 ·rcases i.KE with⟨c,_⟩|⟨e,f,l⟩
  ·rw[c]at d;cases d
  exact k (.inr (.inr (.inr ⟨e,j,by rw[r,l];rfl,f,g,d,a⟩)))
 rw[G_.1 d]at a;exact m a
theorem OG(d:Wh h)(o:St h b src s)(a5:s.N.length<900000)(g i:Int)(j:H)(k:L3 h v q)(y:∀e,EE v=V e→¬Uj h b e):
  AR 155 [At b,I g,I i,S j,v] h (fun a c=>Wh c∧a=I s.N.length∧St c b src (s.put ⟨g,i,0,j,q⟩)∧L4 b v h c):=by
 refine Ok.wf d ?_;obtain⟨p,F,r,z⟩:=o.DZ;obtain⟨a6,a7,all,a8,a⟩:=F.op;have l:=d b _ a.hb;have K:=r.len;have c:v.oneCell'=true:=by rcases k with⟨_,rfl⟩|⟨L,rfl,_⟩<;>rfl
 have A:Aq v=[v]:=by rcases k with⟨_,rfl⟩|⟨L,rfl,_⟩<;>rfl
 refine eF Tryz.func155 ?_;rcases a.KE with⟨m,t⟩|⟨n,m,t⟩
 ·subst m
  subst t;have f:s.N.length=0:=K.symm;have N:i_ .i64 (((1:Nat):Int)-1)=0:=Ap (by omega) (by omega);have u:=a.hb;simp only[go_sem,Y,u,l,A,c,N,f];refine⟨J,Zv (h:=h) (kind:=g) (line:=i) (name:=j) (nb:=h.n+1) a d o.ne r z k y ?_ (by omega) ?_ fun e w x _=>?_⟩
  ·simp only[go_sem];rfl
  ·simp only[go_sem,l,YC];rfl
  simp only[go_sem,w,x]
 subst t;have u:=a.hb;have N:=d n _ m;have a9:(n==b)=false:=Ag fun f=>a.SX (by rw[f];rfl);have P:(b==n)=false:=Ag fun f=>a.SX (by rw[←f];rfl);have a0:i_ .i64 (((p.length+1:Nat):Int)-1)=((s.N.length:Nat):Int):=by rw[Ap]<;>omega
 have a1:=C2 (F1 p);have a2:Z (p.length+1) 1000000=true:=Eg;simp only[go_sem,Y,u,l,A,c,a0,m,N,a1,a2,P];refine Zv (h:=h) (kind:=g) (line:=i) (name:=j) (nb:=h.n+1) a d o.ne r z k y ?_ (by omega) ?_ fun e w x a3=>?_
 ·simp only[go_sem];simp
 ·simp only[go_sem,l,YC,Ht];rfl
 have a4:(e==n)=false:=Ag fun f=>a3 (by rw[f];rfl);simp only[go_sem,w,x,a4]
theorem L4.of{c d e:AH}(g:c.n≤d.n)(i:BF b c d)(j:L4 b v d e)(k:∀a,EE v=V a→c.n≤a):BF b c e:=fun a f l=>by
 obtain⟨c,d⟩:=i a f l;obtain⟨e,i⟩:=j a (d_ f g) d fun l=>by have:=k a l;omega
 exact⟨e.trans c,i⟩
theorem DI.last{n:Nd}:∀{f:List Nd} {c:List GH},DI h c (f++[n])→∃e a,c=e++[a]∧DI h e f∧a.kind=n.kind∧a.line=n.line∧a.n=n.n∧a.name=n.name∧L3 h a.lv n.l
 |[],[],d=>d.elim
 |[],a::c,⟨g,i,j,k,l,m⟩=>by
  cases c with
  |nil=>exact⟨[],a,J,trivial,g,i,j,k,l⟩
  |cons _ _=>exact m.elim
 |_::_,[],d=>d.elim
 |x::f,a::c,⟨g,i,j,k,l,m⟩=>by
  obtain⟨e,c,f,d,o⟩:=DI.last m;exact⟨a::e,c,by rw[f];rfl,⟨g,i,j,k,l,d⟩,o⟩
theorem As6(a:List GH)(c:GH)(d:Int):spl? (Bf (a++[c])) (a.length*5+2) [I d]=V (Bf (a++[{c with n:=d}])):=by have d:=F1 (a++[c]);rw[Hj (by rw[d];simp;omega),Om _ (by rw[d];simp;omega),Ht,Ht];rw[List.set_append_right _ _ (by rw[F1];omega),F1,show a.length*5+2-a.length*5=2 by omega];rfl
theorem Xt(c:Wh h)(g:St h b src s)(i:s.N.length<900000)(r t k:Int):
  AR 417 [At b,I r,I t,I k] h (fun d f=>Wh f∧d=I s.N.length∧St f b src (s.put ⟨r,t,k,[],[]⟩)∧BF b h f):=by
 refine Ok.wf c ?_;refine eF Tryz.func417 ?_;simp only[go_sem,Y];refine Aa (OG c g i r t [] (.inl ⟨J,J⟩) (fun a e=>by cases e)) ?_;rintro _ f F ⟨g,rfl,x,c⟩;have K:=L4.of (b_ _) (BF.refl b h) c (fun a e=>by cases e);obtain⟨i,c,g,u⟩:=x.DZ;obtain⟨i,d,rfl,y,L,N,j,P,a0⟩:=DI.last g;obtain⟨z,a1,all,g,j⟩:=c.op;have l:=y.len;rcases j.KE with⟨m,_⟩|⟨g,m,c⟩
 ·exact absurd m (by simp)
 subst c;have o:(g==b)=false:=Ag fun c=>j.SX (by rw[c];rfl);have A:(b==g)=false:=Ag fun c=>j.SX (by rw[←c];rfl);have o:s.N.length<(i++[d]).length:=by simp;omega
 have p:spl? (Bf (i++[d])) (s.N.length*5+2) [I k]=V (Bf (i++[{d with n:=k}])):=by rw[←l];exact As6 i d k
 have w:=j.hb;simp only[go_sem,Y,w,m,o,p];have o:DE (f.get b)=V g:=by rw[w];rfl
 have p:∀a,a≠g→(f.put g (.cells (Bf (i++[{d with n:=k}])))).get a=f.get a:=fun a e=>Ab _ (Ag e);have q:=p b (AF A);have A:∀l∈i++[d],∀a,S6 l a→a≠g:=fun l f a e c=>(u l f a e).2 (by rw[o,c]);refine⟨⟨x.ne,i++[{d with n:=k}],⟨z,a1,all,.slice (V ⟨g,0,W⟩) (i++[d]).length 5,?_,?_,j.hk,AF j.Abj,j.Ahj,j.SX,.inr ⟨g,Ai _ _,by simp⟩⟩,?_,?_⟩,K.trans F ?_⟩
 ·rw[q,w];rfl
 ·rw[p z fun c=>j.Ahj (by rw[c];rfl),j.ht]
 ·refine DI.app (v:={d with n:=k}) (n:=⟨r,t,k,[],[]⟩) ⟨L,N,J,P,a0.Ak fun a e=>p a (A d (by simp) a e)⟩ (y.Ak fun l f a e=>p a (A l (by simp[f]) a e))
 ·intro l f a e
  rw[q];rcases z_.1 f with f|f
  ·exact u l (by simp[f]) a e
  rw[G_.1 f]at e;exact u d (by simp) a e
 intro a e j;have e:a≠g:=fun c=>j (.inr (.inr (.inl (by rw[o,c]))));refine⟨p a e,fun k=>j ?_⟩;rcases k with c|c|c|⟨p,r,j,a,l,f,e⟩
 ·exact .inl c
 ·rw[q]at c;exact .inr (.inl c)
 ·rw[q]at c;exact .inr (.inr (.inl c))
 rw[q,o]at j;cases j;rw[Ai]at a;injection a with a
 injection a with a
 rw[←Hq a]at f;rcases z_.1 f with f|f
 ·exact .inr (.inr (.inr ⟨g,i++[d],o,m,l,by simp[f],e⟩))
 rw[G_.1 f]at e;exact .inr (.inr (.inr ⟨g,i++[d],o,m,d,by simp,e⟩))
end
abbrev Fq:=PN→Option (Int×PN)
def PN.fail(a:PN)(c:Int):PN:={a with P:=a.P.fail c}
def PN.take(a:PN):PN:={a with P:=a.P.take}
def PN.Ao(a:PN)(c:H):PN:={a with P:=a.P.Ao c}
def PN.has(a:PN)(c:H):PN:={a with P:=a.P.has c}
def PN.deep(a:PN)(c:Int):PN:={a with P:={a.P with deep:=c}}
def Nl{a:Type}(c:Bool)(d:Option a):Option a:=bif c then d else W
def BS(a:PN)(c:Nd):Option (Int×PN):=Nl (decide (a.N.length<900000)) (V ((a.N.length:Int),a.put c))
def BY(a:Int):Bool:=decide (-100≤a)&&decide (a≤100)
def D9(rec:Fq)(c d:H)(a:PN):Option (Int×PN):=
 bif a.P.is [c]then
  Nl (BY a.P.deep) (bif decide (16≤a.P.deep)then V (0,a.fail 21)
  else(rec (a.deep (a.P.deep+1)).take).bind fun c=>
   Nl (BY (c.2.Ao d).P.deep) (V (c.1,(c.2.Ao d).deep ((c.2.Ao d).P.deep-1))))
 else V (0,a.fail 20)
section
variable{b:Nat}{src:H}
abbrev AA(a:Nat):T:=.pointer (V ⟨a,0,W⟩)
def As(f:u_)(g:E)(b:Nat)(src:H)(c:AH)(h:Option (Int×PN)):Prop:=
 ∀d e,h=V (d,e)→AR f g c (fun i a=>Wh a∧i=I d∧St a b src e∧BF b c a)
def Jh(b:Nat)(src:H)(rec:Fq):Prop:=∀a c,Wh a→St a b src c→As 239 [At b] b src a (rec c)
theorem St.same{d h1:AH}{a:PN}(p:St d b src a)(j:∀e,Uj d b e→h1.get e=d.get e):St h1 b src a∧∀e,Uj h1 b e↔Uj d b e:=by
 obtain⟨k,a,r,s⟩:=p.DZ;obtain⟨q,t,all,u,c⟩:=a.op;have l:=j b (.inl J);have v:=j q (.inr (.inl (by rw[c.hb];rfl)));have m:∀a,DE (d.get b)=V a→h1.get a=d.get a:=fun a g=>j a (.inr (.inr (.inl g)));have w:∀h∈k,∀f,S6 h f→h1.get f=d.get f:=fun h i f n=>by
  rcases c.KE with⟨g,_⟩|⟨a,o,d⟩
  ·rw[g]at i;cases i
  exact j f (.inr (.inr (.inr ⟨a,k,by rw[c.hb,d];rfl,o,h,i,n⟩)))
 refine⟨⟨p.ne,k,⟨q,t,all,u,l.trans c.hb,v.trans c.ht,c.hk,AF c.Abj,c.Ahj,c.SX,?_⟩,r.Ak w,fun h i f n=>by rw[l];exact s h i f n⟩,fun e=>?_⟩
 ·rcases c.KE with g|⟨a,o,d⟩
  ·exact .inl g
  exact .inr ⟨a,(m a (by rw[c.hb,d];rfl)).trans o,d⟩
 unfold Uj;rw[l];constructor
 ·rintro(c|c|c|⟨a,e,d,f,g⟩)
  ·exact .inl c
  ·exact .inr (.inl c)
  ·exact .inr (.inr (.inl c))
  exact .inr (.inr (.inr ⟨a,e,d,(m a d)▸f,g⟩))
 rintro(c|c|c|⟨a,e,d,f,g⟩)
 ·exact .inl c
 ·exact .inr (.inl c)
 ·exact .inr (.inr (.inl c))
 exact .inr (.inr (.inr ⟨a,e,d,(m a d).trans f,g⟩))
def Bj(a:AH)(b c:Nat):Prop:=c<a.n∧¬Uj a b c
theorem Bj.Ak{h c:AH}(d:Bj h b a)(e:h.n≤c.n)(f:BF b h c):Bj c b a∧c.get a=h.get a:=by obtain⟨c,g⟩:=f a d.1 d.2;exact⟨⟨d_ d.1 e,g⟩,c⟩
theorem Bj.of{c h1:AH}{f:PN}(d:St c b src f)(e:Wh c)(g:Ext c h1)(i:c.n≤a)(h:a<h1.n):Bj h1 b a:=
 ⟨h,fun c=>by
  have f:=(d.same (h1:=h1) fun h i=>g h (d.own e i)).2 a;exact absurd (d.own e (f.1 c)) (by omega)⟩
theorem St.IK{d:PN}(g:St f b src d)(h:¬Uj f b a)(e:AO):St (f.put a e) b src d∧∀c,Uj (f.put a e) b c↔Uj f b c:=
 g.same fun c a=>Ab _ (Ag fun d=>h (d▸a))
theorem BF.IK{e:PN}(h:BF b f g)(i:St g b src e)(j:¬Uj g b a)(m:f.n≤a)(c:AO):BF b f (g.put a c):=fun d k l=>by
 obtain⟨a,e⟩:=h d k l;exact⟨(Ab _ Ag).trans a,fun f=>e (((i.IK j c).2 d).1 f)⟩
theorem BF.ext{e a h1:AH}{h:PN}(i:BF b e a)(f:St a b src h)(j:Wh a)(k:e.n≤a.n)(g:Ext a h1):BF b e h1:=fun c d l=>by
 obtain⟨a,e⟩:=i c d l;exact⟨(g c (d_ d k)).trans a,fun h=>e (((f.same (h1:=h1) fun c d=>g c (f.own j d)).2 c).1 h)⟩
theorem St.G4{a:PN}(g:St f b src a)(h:Wh f):∃e d,f.get b=V (.cells [S src,e,I a.P.deep,I a.P.e,I a.P.pos,d])∧∀c,St (f.put b (.cells [S src,e,I c,I a.P.e,I a.P.pos,d])) b src (a.deep c)∧BF b f (f.put b (.cells [S src,e,I c,I a.P.e,I a.P.pos,d])):=by obtain⟨e,i,j,k⟩:=g.DZ;obtain⟨l,m,all,d,e⟩:=i.op;refine⟨_,_,e.hb,fun c=>?_⟩;obtain⟨n,o⟩:=e.MZ (P2:={a.P with deep:=c}) (h2:=f.put b (.cells [S src,.slice (V ⟨l,m,W⟩) a.P.Ax.length 3,I c,I a.P.e,I a.P.pos,d])) h (Ai _ _) e.hk fun q _ p=>Ab _ p;exact St.of h (P2:={a.P with deep:=c}) g.ne i j k n o
theorem LK{rec:Fq}(a0:Jh b src rec){c:PN}(k:Wh f)(i:St f b src c)(m e:H):As 316 [At b,S m,S e] b src f (D9 rec m e c):=by
 intro g x a;refine Ok.wf k ?_;have a1:=i.lt k;refine eF Tryz.func316 ?_;simp only[go_sem,Y];refine di Tryz.func152 J J J ?_;simp only[go_sem,Y];have p:Ext f ((((((f.new (.cells [At b])).new (.cells [.int .i64 0])).new (.cells [At b])).new (.cells [S e])).new (.cells [.func (.func 376) #[] #[AA f.n,AA (f.n+1)]])).new (.cells [S m])):=fun h d=>by simp only[go_sem,d]
 have d:Wh ((((((f.new (.cells [At b])).new (.cells [.int .i64 0])).new (.cells [At b])).new (.cells [S e])).new (.cells [.func (.func 376) #[] #[AA f.n,AA (f.n+1)]])).new (.cells [S m])):=by repeat' (first|exact k|refine Am ?_ _)
 refine Aa (sIs (xb:=f.n+5) (l:=[m]) d (i.same fun h j=>p h (i.own k j)).1 (by simp only[go_sem];rfl) (by show 1<2^62;decide)) ?_;rintro _ h1 o ⟨v,rfl,d⟩;have q:f.n+6≤h1.n:=by simpa only[go_sem]using o
 have o:Ext f h1:=p.trans (by simp only[go_sem];omega) d;have y:=(i.same (h1:=h1) fun h j=>o h (i.own k j)).1;have z:=(BF.refl b f).ext i k (b_ _) o;have a2:h1.get f.n=V (.cells [At b]):=(d _ (by simp only[go_sem])).trans (by simp only[go_sem]);have A:h1.get (f.n+1)=V (.cells [.int .i64 0]):=(d _ (by simp only[go_sem];omega)).trans (by simp only[go_sem,Y]);have w:h1.get (f.n+2)=V (.cells [At b]):=(d _ (by simp only[go_sem];omega)).trans (by simp only[go_sem,Y]);have a3:h1.get (f.n+3)=V (.cells [S e]):=(d _ (by simp only[go_sem];omega)).trans (by simp only[go_sem,Y]);have a4:h1.get (f.n+4)=V (.cells [.func (.func 376) #[] #[AA f.n,AA (f.n+1)]]):=(d _ (by simp only[go_sem];omega)).trans (by simp only[go_sem,Y]);have F:∀d,d<6→Bj h1 b (f.n+d):=fun d h=>Bj.of i k o (by omega) (by omega);unfold D9 at a;cases h:c.P.is [m]with
 |false=>
  rw[h]at a;have s:g=0∧x=c.fail 20:=by injection a with a;injection a with t u;exact⟨t.symm,u.symm⟩
  obtain⟨rfl,rfl⟩:=s;simp only[go_sem,Y,w];refine Aa (Agh v y 20) ?_;rintro _ o q ⟨K,rfl,p,k⟩;have m:=(F 1 (by omega)).Ak q k;simp only[go_sem,Y,m.2,A];exact⟨(p.IK m.1.2 _).1,((z.trans (by omega) k).IK p m.1.2 (by omega) _)⟩
 |true=>
  rw[h]at a;unfold Nl at a;obtain⟨r,a⟩:=AV (show cond (BY c.P.deep) _ W=_ from a);have L: -100≤c.P.deep∧c.P.deep≤100:=by unfold BY at r;simpa using r
  obtain⟨L,N,P,a5⟩:=y.G4 v;have r:∀d,(f.n+d==b)=false:=fun d=>Ag;simp only[go_sem,Y,w];refine di Y_ J J J ?_;cases j:decide ((16:Int)≤c.P.deep)with
  |true=>
   rw[j]at a;have s:g=0∧x=c.fail 21:=by injection a with a;injection a with t u;exact⟨t.symm,u.symm⟩
   obtain⟨rfl,rfl⟩:=s;simp only[go_sem,P,j];refine Aa (Agh v y 21) ?_;rintro _ o q ⟨K,rfl,p,k⟩;have m:=(F 1 (by omega)).Ak q k;simp only[go_sem,Y,m.2,A];exact⟨(p.IK m.1.2 _).1,((z.trans (by omega) k).IK p m.1.2 (by omega) _)⟩
  |false=>
   rw[j]at a;obtain⟨⟨y,m⟩,a6,a⟩:=a_.1 (show((rec (c.deep (c.P.deep+1)).take).bind fun i=>_)=_ from a);dsimp only at a;obtain⟨i,a⟩:=AV (show cond (BY _) _ W=_ from a);have a7: -100≤(m.Ao e).P.deep∧(m.Ao e).P.deep≤100:=by unfold BY at i;simpa using i
   have s:g=y∧x=(m.Ao e).deep ((m.Ao e).P.deep-1):=by injection a with a;injection a with t u;exact⟨t.symm,u.symm⟩
   obtain⟨rfl,rfl⟩:=s;have a:=Ap (n:=c.P.deep+1) (by omega) (by omega);have x:=Ap (n:=(m.Ao e).P.deep-1) (by omega) (by omega);obtain⟨i,s⟩:=a5 (c.P.deep+1);have t:Wh (h1.put b (.cells [S src,L,I (c.P.deep+1),I c.P.e,I c.P.pos,N])):=Ar v (by omega) _;simp only[go_sem,Y,P,j,a];refine di Tryz.func237 J J J ?_;have a:∀d,d<6→Bj (h1.put b (.cells [S src,L,I (c.P.deep+1),I c.P.e,I c.P.pos,N])) b (f.n+d):=fun d h=>((F d h).Ak (by exact b_ h1.n) s).1;simp only[go_sem,w,r];refine Aa (Aqj t i) ?_;rintro _ o q ⟨K,rfl,p,k⟩;have c:h1.n≤o.n:=q;have i:=fun d h=>(a d h).Ak q k;have a:o.get (f.n+4)=V (.cells [.func (.func 376) #[] #[AA f.n,AA (f.n+1)]]):=(i 4 (by omega)).2.trans (by simp only[go_sem,r,a4]);have c:o.get f.n=V (.cells [At b]):=(i 0 (by omega)).2.trans (by simp only[go_sem,J0 a1,a2]);simp only[go_sem,Y,a];refine di Tryz.func376 J J J ?_;simp only[go_sem,c];refine Aa (a0 o _ K p g m a6) ?_;rintro _ a j ⟨t,rfl,p,q⟩;have c:=fun d h=>(i d h).1.Ak j q;have d:a.get (f.n+1)=V (.cells [.int .i64 0]):=(c 1 (by omega)).2.trans ((i 1 (by omega)).2.trans (by simp only[go_sem,r,A]));have h:a.get (f.n+2)=V (.cells [At b]):=(c 2 (by omega)).2.trans ((i 2 (by omega)).2.trans (by simp only[go_sem,r,w]));have u:a.get (f.n+3)=V (.cells [S e]):=(c 3 (by omega)).2.trans ((i 3 (by omega)).2.trans (by simp only[go_sem,r,a3]));have i:=p.IK (c 1 (by omega)).1.2 (.cells [I g]);have v:Wh (a.put (f.n+1) (.cells [I g])):=Ar t (c 1 (by omega)).1.1 _;simp only[go_sem,Y,d,h,u];refine Aa (Aqk v i.1 e) ?_;rintro _ d t ⟨v,rfl,h,u⟩;have h:St d b src (m.Ao e):=h;obtain⟨A,F,w,y⟩:=h.G4 v;obtain⟨h,v⟩:=y ((m.Ao e).P.deep-1);have e:o.n≤a.n:=j;have e:a.n≤d.n:=t;have j:Bj (a.put (f.n+1) (.cells [I g])) b (f.n+1):=⟨(c 1 (by omega)).1.1,fun e=>(c 1 (by omega)).1.2 ((i.2 _).1 e)⟩;have e:=j.Ak t u;have i:=e.1.Ak (by exact b_ d.n) v;have c1:d.get (f.n+1)=V (.cells [I g]):=e.2.trans (Ai _ _);simp only[go_sem,Y,w,x,r,c1];refine⟨(h.IK i.1.2 _).1,?_⟩;refine BF.IK ?_ h i.1.2 (by omega) _;refine BF.trans (h1:=d) (by omega) ?_ v;refine BF.trans (h1:=a.put (f.n+1) (.cells [I g])) (by show f.n≤a.n;omega) ?_ u;refine BF.IK ?_ p (c 1 (by omega)).1.2 (by omega) _;exact(((z.trans (by omega) s).trans (by show f.n≤h1.n;omega) k).trans (by omega) q)
end
section
variable{b:Nat}{src:H}
structure AP(h0 h:AH)(b:Nat)(src:H)(s:PN):Prop where
 w:Wh h
 r:St h b src s
 k:BF b h0 h
 n:h0.n≤h.n
theorem AP.start{a:PN}(c:Wh f)(d:St f b src a):AP f f b src a:=⟨c,d,BF.refl b f,b_ _⟩
theorem AP.ext{d c h1:AH}{e:PN}(a:AP d c b src e)(g:c.n≤h1.n)(h:Wh h1)(f:Ext c h1):AP d h1 b src e:=
 ⟨h,(a.r.same fun c d=>f c (a.r.own a.w d)).1,a.k.ext a.r a.w a.n f,g_ a.n g⟩
theorem AP.to{d c:PN}(a:AP f g b src d)(e:g.n≤h.n)(i:Wh h)(j:St h b src c)(k:BF b g h):AP f h b src c:=
 ⟨i,j,a.k.trans a.n k,g_ a.n e⟩
theorem AP.new{c:PN}(d:AP f g b src c)(a:AO):AP f (g.new a) b src c:=d.ext (f_ _) (d.w.new a) (Ext.new g a)
theorem AP.fresh{d:PN}(a:AP f g b src d)(c:AO):Bj (g.new c) b g.n:=Bj.of a.r a.w (Ext.new g c) (b_ _) (x_ _)
theorem AP.put{s:PN}(a:AP f g b src s){c:Nat}(d:Bj g b c)(h:f.n≤c)(e:AO):AP f (g.put c e) b src s∧Bj (g.put c e) b c:=
 ⟨⟨Ar a.w d.1 e,(a.r.IK d.2 e).1,a.k.IK a.r d.2 h e,a.n⟩,d.1,fun f=>d.2 (((a.r.IK d.2 e).2 c).1 f)⟩
theorem AP.at{g c h1:AH}{h:PN}(d:AP g c b src h)(e:Bj c b a)(i:c.n≤h1.n)(f:Ext c h1):Bj h1 b a∧h1.get a=c.get a:=
 ⟨⟨d_ e.1 i,fun c=>e.2 (((d.r.same (h1:=h1) fun g h=>f g (d.r.own d.w h)).2 a).1 c)⟩,f a e.1⟩
theorem AP.Xd{a d:PN}(c:AP f g b src a){kind line:Int}{name:H}(h:BS a ⟨kind,line,0,name,[]⟩=V (x,d)):
  AR 155 [At b,I kind,I line,S name,.slice W 0 0] g (fun e a=>e=I x∧AP f a b src d):=by
 obtain⟨a,d⟩:=AV h;cases d;refine(OG c.w c.r (Acw a) kind line name (.inl ⟨J,J⟩) (fun f d=>by cases d)).mono ?_;rintro e a h ⟨i,rfl,j,k⟩;exact⟨J,c.to h i j (L4.of (b_ _) (BF.refl b g) k fun f d=>by cases d)⟩
theorem AP.Lp{a e:PN}(d:AP f g b src a){kind line:Int}{name:H}(j:BS a ⟨kind,line,0,name,q⟩=V (x,e))(k:h=g.new (.cells (q.map fun x=>I x))):
  AR 155 [At b,I kind,I line,S name,.slice (V ⟨g.n,0,W⟩) q.length 1] h (fun i c=>i=I x∧AP f c b src e):=by
 obtain⟨c,a⟩:=AV j;cases a;subst k;have a:=d.new (.cells (q.map fun x=>I x));have f:=d.fresh (.cells (q.map fun x=>I x));refine(OG a.w a.r (Acw c) kind line name (.inr ⟨g.n,J,Ae _⟩) (fun h e=>by cases e;exact f.2)).mono ?_;rintro i c f ⟨g,rfl,j,k⟩;exact⟨J,g,j,L4.of a.n a.k k (fun h e=>by cases e;exact d.n),g_ a.n f⟩
theorem AP.num{a e:PN}(c:AP f g b src a){kind line d:Int}(i:BS a ⟨kind,line,d,[],[]⟩=V (x,e)):
  AR 417 [At b,I kind,I line,I d] g (fun h a=>h=I x∧AP f a b src e):=by
 obtain⟨a,e⟩:=AV i;cases e;refine(Xt c.w c.r (Acw a) kind line d).mono ?_;rintro h a d ⟨e,rfl,f,g⟩;exact⟨J,c.to d e f g⟩
theorem AP.kind{a:PN}(c:AP f g b src a)(d:Int):AR 34 [At b,I d] g (fun h e=>h=.bool (a.P.kind d)∧AP f e b src a∧Ext g e):=
 (Awe c.w c.r d).mono fun _ _ e ⟨f,g,a⟩=>⟨g,c.ext e f a,a⟩
theorem AP.next{a:PN}(c:AP f g b src a):AR 68 [At b] g (fun e d=>e=a.P.next.val∧AP f d b src a∧Ext g d):=
 (Awb c.w c.r).mono fun _ _ d ⟨e,f,a⟩=>⟨f,c.ext d e a,a⟩
theorem AP.line{a:PN}(c:AP f g b src a)(e:src.length<2^40):AR 69 [At b] g (fun h d=>h=I (a.P.line src)∧AP f d b src a∧Ext g d):=
 (Awd c.w c.r e).mono fun _ _ d ⟨f,g,a⟩=>⟨g,c.ext d f a,a⟩
theorem AP.is{a:PN}{l:List H}(d:AP f g b src a)(e:h=g.new (.cells (l.map S)))(i:l.length<2^62):
  AR 75 [At b,.slice (V ⟨g.n,0,W⟩) l.length 1] h (fun j c=>j=.bool (a.P.is l)∧AP f c b src a∧Ext g c):=by
 subst e;have a:=d.new (.cells (l.map S));exact(sIs a.w a.r (Ae _) i).mono fun _ _ d ⟨e,f,c⟩=>⟨f,a.ext d e c,(Ext.new g _).trans (f_ _) c⟩
theorem AP.take{a:PN}(c:AP f g b src a):AR 149 [At b] g (fun e d=>e=a.P.next.val∧AP f d b src a.take∧BF b g d∧g.n≤d.n):=
 (Aqj c.w c.r).mono fun _ _ a ⟨e,f,g,d⟩=>⟨f,c.to a e g d,d,a⟩
theorem AP.has{a:PN}(e:AP f g b src a)(c:H):AR 147 [At b,S c] g (fun h d=>h=.bool (a.P.is [c])∧AP f d b src (bif a.P.is [c]then a.take else a)∧BF b g d∧g.n≤d.n):=
 (Azf e.w e.r c).mono fun _ _ f ⟨h,i,d,g⟩=>⟨i,e.to f h (by
  unfold PS.has at d;cases e:a.P.is [c]with
  |true=>rw[e]at d;exact d
  |false=>rw[e]at d;exact d) g,g,f⟩
theorem AP.as{h a:PN}{d:u_}{e:Option (Int×PN)}(i:AP f g b src h)(j:As d l b src g e)(k:e=V (x,a)):AR d l g (fun m c=>m=I x∧AP f c b src a∧BF b g c∧g.n≤c.n):=
 (j x a k).mono fun _ _ c ⟨e,f,g,d⟩=>⟨f,i.to c e g d,d,c⟩
theorem Apq(a:(HR s&&w_ (CG s 0) 9223372036854775808)=true):Pure 353 [S s] (.tuple #[I (CG s 0),.nilIface]):=fun c=>
 Ok.known AAv (v:=.tuple #[I (CG s 0),.nilIface]) (h1:=c) (by
  show cond (HR s&&w_ (CG s 0) 9223372036854775808) _ W=_;rw[a];rfl) (b_ _) ⟨J,rfl⟩
def FV:H:=[116,114,117,101]
def Ec:H:=[102,97,108,115,101]
def LD:H:=[108,101,110]
def Iw(rec:Fq)(src:H)(a:PN):Option (Int×PN):=
 bif a.P.kind 1 then Nl (HR a.P.next.text&&w_ (CG a.P.next.text 0) 9223372036854775808) (BS a.take ⟨1,a.P.line src,CG a.P.next.text 0,[],[]⟩)
 else bif a.P.kind 2 then BS a.take ⟨3,a.P.line src,0,a.P.next.text,[]⟩
 else bif a.P.kind 3 then
  (bif a.take.P.is [[91]]then(D9 rec [91] [93] a.take).bind fun c=>BS c.2 ⟨5,a.P.line src,0,a.P.next.text,[c.1]⟩
  else BS a.take ⟨4,a.P.line src,0,a.P.next.text,[]⟩)
 else bif a.P.is [FV]then BS a.take ⟨2,a.P.line src,1,[],[]⟩
 else bif a.P.is [Ec]then BS a.take ⟨2,a.P.line src,0,[],[]⟩
 else bif a.P.is [LD]then(D9 rec [40] [41] a.take).bind fun c=>BS c.2 ⟨6,a.P.line src,0,[],[c.1]⟩
 else D9 rec [40] [41] a
theorem Apo{rec:Fq}(k:Jh b src rec)(h:src.length<2^40){d:PN}(i:Wh f)(j:St f b src d):As 402 [At b] b src f (Iw rec src d):=by
 intro m n a;refine Ok.mono (P:=fun g c=>g=I m∧AP f c b src n) ?_ fun g c p ⟨o,e⟩=>⟨e.w,o,e.r,e.k⟩;have e:=AP.start i j;refine eF Tryz.func402 ?_;simp only[go_sem];refine Aa (e.line h) ?_;rintro _ c f ⟨rfl,e,_⟩;simp only[go_sem];refine Aa e.next ?_;rintro _ p e ⟨rfl,c,_⟩;have e:=c.new (.cells [.int .i64 0,.string ⟨#[]⟩,.int .i64 0]);have g:=c.fresh (.cells [.int .i64 0,.string ⟨#[]⟩,.int .i64 0]);obtain⟨f,m⟩:=e.put g c.n (.cells d.P.next.cells);simp only[go_sem,Y,Tok.val,Tok.cells];refine Aa (f.kind 1) ?_;rintro _ c q ⟨rfl,e,r⟩;unfold Iw at a;cases i:d.P.kind 1 with
 |true=>
  simp only[i,Aa9]at a;obtain⟨g,a⟩:=AV (show cond _ _ W=_ from a);simp only[go_sem];refine Aa e.take ?_;rintro _ j n ⟨rfl,c,_⟩;simp only[go_sem,Tok.val,Tok.cells];refine Aa (Apq g j) ?_;rintro _ _ _ ⟨rfl,rfl⟩;simp only[go_sem,Y];refine Aa (c.num a) ?_;rintro _ o h ⟨rfl,g⟩;simp only[go_sem];exact g
 |false=>
 simp only[i,Acf]at a;obtain⟨s,t⟩:=f.at m q r;simp only[go_sem];refine Aa (e.kind 2) ?_;rintro _ j n ⟨rfl,c,q⟩;cases j:d.P.kind 2 with
 |true=>
  simp only[j,Aa9]at a;simp only[go_sem,Y];refine Aa c.take ?_;rintro _ o h ⟨rfl,g,_⟩;simp only[go_sem,Y,Tok.val,Tok.cells];refine Aa (g.Xd a) ?_;rintro _ i m ⟨rfl,f⟩;simp only[go_sem];exact f
 |false=>
 simp only[j,Acf]at a;obtain⟨j,u⟩:=e.at s n q;simp only[go_sem];refine Aa (c.kind 3) ?_;rintro _ o h ⟨rfl,g,e⟩;obtain⟨n,o⟩:=c.at j h e;cases r:d.P.kind 3 with
 |true=>
  simp only[r,Aa9]at a;simp only[go_sem];refine Aa g.take ?_;rintro _ i m ⟨rfl,f,c,_⟩;obtain⟨h,e⟩:=n.Ak m c;have c:i.get p.n=V (.cells d.P.next.cells):=e.trans (o.trans (u.trans (t.trans (Ai _ _))));simp only[go_sem,Y];refine Aa (f.is (l:=[[91]]) J (by show 1<2^62;decide)) ?_;rintro _ n o ⟨rfl,e,j⟩;have p:i.n≤n.n:=g_ (f_ _) o;obtain⟨s,q⟩:=f.at h p j;have h:=q.trans c;cases q:d.take.P.is [[91]]with
  |false=>
   simp only[q,Acf]at a;simp only[go_sem,Y,h,Tok.cells];refine Aa (e.Xd a) ?_;rintro _ p j ⟨rfl,c⟩;simp only[go_sem];exact c
  |true=>
   simp only[q,Aa9]at a;obtain⟨⟨u,v⟩,q,a⟩:=a_.1 (show(D9 rec [91] [93] d.take).bind _=_ from a);dsimp only at a;simp only[go_sem];refine Aa (e.as (LK k e.w e.r [91] [93]) q) ?_;rintro _ p j ⟨rfl,c,t,_⟩;obtain⟨x,w⟩:=s.Ak j t;have s:=w.trans h;simp only[go_sem,Y,s,Tok.cells];refine Aa (c.Lp a J) ?_;rintro _ s t ⟨rfl,h⟩;simp only[go_sem];exact h
 |false=>
 simp only[r,Acf]at a;simp only[go_sem];refine Aa (g.has FV) ?_;rintro _ i m ⟨rfl,f,_⟩;cases g:d.P.is [FV]with
 |true=>
  simp only[g,Aa9]at a f;simp only[go_sem,Y];refine Aa (f.num a) ?_;rintro _ n o ⟨rfl,e⟩;simp only[go_sem];exact e
 |false=>
 simp only[g,Acf]at a f;simp only[go_sem];refine Aa (f.has Ec) ?_;rintro _ n o ⟨rfl,e,_⟩;cases f:d.P.is [Ec]with
 |true=>
  simp only[f,Aa9]at a e;simp only[go_sem,Y];refine Aa (e.num a) ?_;rintro _ p j ⟨rfl,c⟩;simp only[go_sem];exact c
 |false=>
 simp only[f,Acf]at a e;simp only[go_sem];refine Aa (e.has LD) ?_;rintro _ p j ⟨rfl,c,_⟩;cases e:d.P.is [LD]with
 |true=>
  simp only[e,Aa9]at a c;obtain⟨⟨u,v⟩,q,a⟩:=a_.1 (show(D9 rec [40] [41] d.take).bind _=_ from a);dsimp only at a;simp only[go_sem];refine Aa (c.as (LK k c.w c.r [40] [41]) q) ?_;rintro _ s t ⟨rfl,h,_⟩;simp only[go_sem,Y];refine Aa (h.Lp a J) ?_;rintro _ f g ⟨rfl,d⟩;simp only[go_sem];exact d
 |false=>
  simp only[e,Acf]at a c;simp only[go_sem];refine Aa (c.as (LK k c.w c.r [40] [41]) a) ?_;rintro _ s t ⟨rfl,h,_⟩;simp only[go_sem];exact h
end
def Jo(f:Fq)(d e:Int)(a:PN):Option (Int×PN):=
 Nl (BY a.P.deep) (bif decide (16≤a.P.deep)then BS (a.fail 21) ⟨d,e,0,[],[0]⟩
  else(f (a.deep (a.P.deep+1)).take).bind fun c=>Nl (BY c.2.P.deep) (BS (c.2.deep (c.2.P.deep-1)) ⟨d,e,0,[],[c.1]⟩))
def B3(rec:Fq)(src:H):Nat→Fq
 |0,_=>W
 |k+1,a=>bif a.P.is [[33]]then Jo (B3 rec src k) 8 (a.P.line src) a
  else bif a.P.is [[45]]then Jo (B3 rec src k) 7 (a.P.line src) a
  else Iw rec src a
section
variable{b:Nat}{src:H}
theorem AP.fail{e:PN}(a:AP f g b src e)(c:Int):AR 148 [At b,I c] g (fun h d=>h=.tuple #[]∧AP f d b src (e.fail c)∧BF b g d∧g.n≤d.n):=
 (Agh a.w a.r c).mono fun _ _ d ⟨f,g,h,e⟩=>⟨g,a.to d f h e,e,d⟩
theorem AP.Ao{e:PN}(a:AP f g b src e)(c:H):AR 70 [At b,S c] g (fun h d=>h=.tuple #[]∧AP f d b src (e.Ao c)∧BF b g d∧g.n≤d.n):=
 (Aqk a.w a.r c).mono fun _ _ d ⟨f,g,h,e⟩=>⟨g,a.to d f h e,e,d⟩
theorem AP.G4{a:PN}(d:AP f g b src a):∃e h,g.get b=V (.cells [S src,e,I a.P.deep,I a.P.e,I a.P.pos,h])∧∀c,AP f (g.put b (.cells [S src,e,I c,I a.P.e,I a.P.pos,h])) b src (a.deep c)∧BF b g (g.put b (.cells [S src,e,I c,I a.P.e,I a.P.pos,h])):=by obtain⟨e,h,f,a⟩:=d.r.G4 d.w;exact⟨e,h,f,fun c=>⟨d.to (by exact b_ g.n) (Ar d.w (d.r.lt d.w) _) (a c).1 (a c).2,(a c).2⟩⟩
theorem MI{rec:Fq}(aj:Jh b src rec)(af:src.length<2^40):∀(k:Nat) {d:AH} {c:PN} (ag:Wh d) (ah:St d b src c),As 374 [At b] b src d (B3 rec src k c)
 |0,_,_,_,_=>fun _ _ a=>by cases a
 |k+1,d,c,ag,ah=>by
  intro h i a;refine Ok.mono (P:=fun f g=>f=I h∧AP d g b src i) ?_ fun f g m ⟨j,e⟩=>⟨e.w,j,e.r,e.k⟩;have e:=AP.start ag ah;refine eF Tryz.func374 ?_;simp only[go_sem,Y];have f:=e.new (.cells [At b]);have h:=e.fresh (.cells [At b]);refine Aa (f.line af) ?_;rintro _ i j ⟨rfl,g,m⟩;obtain⟨o,e⟩:=f.at h j m;have e:=e.trans (Ae _);simp only[go_sem,Y,e];refine Aa (g.is (l:=[[33]]) J (by show 1<2^62;decide)) ?_;rintro _ h f ⟨rfl,r,j⟩;have m:i.n≤h.n:=g_ (f_ _) f;obtain⟨z,p⟩:=g.at o m j;have p:=p.trans e;unfold B3 at a;cases o:c.P.is [[33]]with
  |true=>
   simp only[o,Aa9]at a;unfold Jo at a;obtain⟨A,a⟩:=AV (show cond (BY c.P.deep) _ W=_ from a);have aA: -100≤c.P.deep∧c.P.deep≤100:=by unfold BY at A;simpa using A
   have s:=r.new (.cells [I 0]);have F:=r.fresh (.cells [I 0]);have K:=r.at z (f_ _) (Ext.new h (.cells [I 0]));obtain⟨L,N⟩:=s.put F r.n (.cells [I 0]);have i:(d.n==h.n)=false:=AE z.1;have a0:Bj ((h.new (.cells [I 0])).put h.n (.cells [I 0])) b d.n:=⟨K.1.1,fun t=>K.1.2 (((s.r.IK F.2 _).2 _).1 t)⟩;have a1:b<d.n:=ah.lt ag;have a2:(d.n==b)=false:=J0 a1;have ak:(h.n==b)=false:=J0 (F_ a1 z.1);obtain⟨aB,aC,a3,al⟩:=L.G4;simp only[go_sem,Y,p,z.1];refine di Y_ J J J ?_;cases j:decide ((16:Int)≤c.P.deep)with
   |true=>
    simp only[j,Aa9]at a;simp only[go_sem,Y,a3,j];refine Aa (L.fail 21) ?_;rintro _ aD a4 ⟨rfl,u,e,_⟩;have m:=(a0.Ak a4 e).2.trans (show _=V (.cells [At b])by simp only[go_sem,i,p]);have v:=(N.Ak a4 e).2.trans (Ai _ _);simp only[go_sem,Y,m,v];refine Aa (u.Lp a J) ?_;rintro _ am w ⟨rfl,f⟩;simp only[go_sem];exact f
   |false=>
    simp only[j,Acf]at a;obtain⟨⟨a5,g⟩,an,a⟩:=a_.1 a;dsimp only at a;obtain⟨a6,a⟩:=AV (show cond (BY g.P.deep) _ W=_ from a);have aE: -100≤g.P.deep∧g.P.deep≤100:=by unfold BY at a6;simpa using a6
    have ao:=Ap (n:=c.P.deep+1) (by omega) (by omega);have ap:=Ap (n:=g.P.deep-1) (by omega) (by omega);obtain⟨u,e⟩:=al (c.P.deep+1);have a7:=(a0.Ak (by exact b_ (h.n+1)) e);have a8:=(N.Ak (by exact b_ (h.n+1)) e);simp only[go_sem,Y,a3,j,ao];refine di Tryz.func403 J J J ?_;simp only[go_sem,a2,i,p];refine Aa u.take ?_;rintro _ am w ⟨rfl,f,a9,_⟩;have aa:=a7.1.Ak w a9;have ab:=a8.1.Ak w a9;have m:=(aa.2.trans a7.2).trans (show _=V (.cells [At b])by simp only[go_sem,i,p]);have v:=(ab.2.trans a8.2).trans (Ai _ _);simp only[go_sem,m];refine Aa (f.as (MI aj af k f.w f.r) an) ?_;rintro _ aq ac ⟨rfl,ad,ae,_⟩;have x:=aa.1.Ak ac ae;have y:=ab.1.Ak ac ae;have ar:=x.2.trans m;have au:=y.2.trans v;obtain⟨av,aF⟩:=ad.put y.1 r.n (.cells [I a5]);have aG:Bj (aq.put h.n (.cells [I a5])) b d.n:=⟨x.1.1,fun t=>x.1.2 (((ad.r.IK y.1.2 _).2 _).1 t)⟩;obtain⟨aH,aI,aw,ax⟩:=av.G4;obtain⟨ay,aJ⟩:=ax (g.P.deep-1);simp only[go_sem,Y,au,aw,ap,a2,ak,i,ar];refine Aa (ay.Lp a J) ?_;rintro _ aK aL ⟨rfl,az⟩;simp only[go_sem];exact az
  |false=>
   simp only[o,Acf]at a;simp only[go_sem,Y,p];refine Aa (r.is (l:=[[45]]) J (by show 1<2^62;decide)) ?_;rintro _ o ai ⟨rfl,q,aM⟩;have aN:h.n≤o.n:=g_ (f_ _) ai;obtain⟨ai,h⟩:=r.at z aN aM;have h:=h.trans p;cases p:c.P.is [[45]]with
   |false=>
    simp only[p,Acf]at a;simp only[go_sem,Y,h];refine Aa (q.as (Apo aj af q.w q.r) a) ?_;rintro _ r z ⟨rfl,s,_⟩;simp only[go_sem];exact s
   |true=>
    simp only[p,Aa9]at a;unfold Jo at a;obtain⟨A,a⟩:=AV (show cond (BY c.P.deep) _ W=_ from a);have aA: -100≤c.P.deep∧c.P.deep≤100:=by unfold BY at A;simpa using A
    have s:=q.new (.cells [I 0]);have F:=q.fresh (.cells [I 0]);have K:=q.at ai (f_ _) (Ext.new o (.cells [I 0]));obtain⟨L,N⟩:=s.put F q.n (.cells [I 0]);have i:(d.n==o.n)=false:=AE ai.1;have a0:Bj ((o.new (.cells [I 0])).put o.n (.cells [I 0])) b d.n:=⟨K.1.1,fun t=>K.1.2 (((s.r.IK F.2 _).2 _).1 t)⟩;have a1:b<d.n:=ah.lt ag;have a2:(d.n==b)=false:=J0 a1;have ak:(o.n==b)=false:=J0 (F_ a1 ai.1);obtain⟨aB,aC,a3,al⟩:=L.G4;simp only[go_sem,Y,h,ai.1];refine di Y_ J J J ?_;cases j:decide ((16:Int)≤c.P.deep)with
    |true=>
     simp only[j,Aa9]at a;simp only[go_sem,Y,a3,j];refine Aa (L.fail 21) ?_;rintro _ aD a4 ⟨rfl,u,e,_⟩;have m:=(a0.Ak a4 e).2.trans (show _=V (.cells [At b])by simp only[go_sem,i,h]);have v:=(N.Ak a4 e).2.trans (Ai _ _);simp only[go_sem,Y,m,v];refine Aa (u.Lp a J) ?_;rintro _ am w ⟨rfl,f⟩;simp only[go_sem];exact f
    |false=>
     simp only[j,Acf]at a;obtain⟨⟨a5,g⟩,an,a⟩:=a_.1 a;dsimp only at a;obtain⟨a6,a⟩:=AV (show cond (BY g.P.deep) _ W=_ from a);have aE: -100≤g.P.deep∧g.P.deep≤100:=by unfold BY at a6;simpa using a6
     have ao:=Ap (n:=c.P.deep+1) (by omega) (by omega);have ap:=Ap (n:=g.P.deep-1) (by omega) (by omega);obtain⟨u,e⟩:=al (c.P.deep+1);have a7:=(a0.Ak (by exact b_ (o.n+1)) e);have a8:=(N.Ak (by exact b_ (o.n+1)) e);simp only[go_sem,Y,a3,j,ao];refine di Tryz.func403 J J J ?_;simp only[go_sem,a2,i,h];refine Aa u.take ?_;rintro _ am w ⟨rfl,f,a9,_⟩;have aa:=a7.1.Ak w a9;have ab:=a8.1.Ak w a9;have m:=(aa.2.trans a7.2).trans (show _=V (.cells [At b])by simp only[go_sem,i,h]);have v:=(ab.2.trans a8.2).trans (Ai _ _);simp only[go_sem,m];refine Aa (f.as (MI aj af k f.w f.r) an) ?_;rintro _ aq ac ⟨rfl,ad,ae,_⟩;have x:=aa.1.Ak ac ae;have y:=ab.1.Ak ac ae;have ar:=x.2.trans m;have au:=y.2.trans v;obtain⟨av,aF⟩:=ad.put y.1 q.n (.cells [I a5]);have aG:Bj (aq.put o.n (.cells [I a5])) b d.n:=⟨x.1.1,fun t=>x.1.2 (((ad.r.IK y.1.2 _).2 _).1 t)⟩;obtain⟨aH,aI,aw,ax⟩:=av.G4;obtain⟨ay,aJ⟩:=ax (g.P.deep-1);simp only[go_sem,Y,au,aw,ap,a2,ak,i,ar];refine Aa (ay.Lp a J) ?_;rintro _ aK aL ⟨rfl,az⟩;simp only[go_sem];exact az
end
def Dg:List H:=Cy 44 false [124,124,44,38,38,44,60,32,60,61,32,61,61,32,33,61,44,43,32,45,44,42,32,47,32,37] []
def Bz(a:Nat):List H:=Cy 32 false (Dg.getD a []) []
def KB(d:Fq)(e:List H)(g:Bool)(h:Int):Nat→Int→PN→Option (Int×PN)
 |0,_,_=>W
 |f+1,i,a=>bif a.P.is e then(d a.take).bind fun j=>(BS j.2 ⟨9,h,0,a.P.next.text,[i,j.1]⟩).bind fun c=>bif g then V c else KB d e g h f c.1 c.2
  else V (i,a)
def Ee(c:Fq)(src:H):Nat→Fq
 |0,a=>c a
 |d+1,a=>(Ee c src d a).bind fun e=>KB (Ee c src d) (Bz (4-d)) (((4-d:Nat):Int)==2) (a.P.line src) 1000 e.1 e.2
def BH(src:H):Nat→Fq
 |0,_=>W
 |k+1,a=>Ee (B3 (BH src k) src 40) src 5 a
section
variable{b:Nat}{src:H}
theorem AP.Azg{a d:PN}(i:AP f g b src a){kind line:Int}{name:H}(e:BS a ⟨kind,line,0,name,q⟩=V (x,d))(k:h=g.new (.cells (q.map fun x=>I x))):
  AR 155 [At b,I kind,I line,S name,.slice (V ⟨g.n,0,W⟩) q.length 1] h (fun j c=>j=I x∧AP f c b src d∧∀a,Bj g b a→Bj c b a∧c.get a=g.get a):=by
 obtain⟨c,d⟩:=AV e;cases d;subst k;have e:=i.new (.cells (q.map fun x=>I x));have f:=i.fresh (.cells (q.map fun x=>I x));refine(OG e.w e.r (Acw c) kind line name (.inr ⟨g.n,J,Ae _⟩) (fun a d=>by cases d;exact f.2)).mono ?_;rintro j c f ⟨k,rfl,l,h⟩;refine⟨J,⟨k,l,L4.of e.n e.k h (fun a d=>by cases d;exact i.n),g_ e.n f⟩,fun a d=>?_⟩;have c:=i.at d (f_ _) (Ext.new g (.cells (q.map fun x=>I x)));obtain⟨e,i⟩:=h a c.1.1 c.1.2 (by
  show V g.n≠V a;intro a;cases a;exact P_ _ d.1)
 exact⟨⟨d_ c.1.1 f,i⟩,e.trans c.2⟩
theorem NQ:Dg.length=5:=by decide
theorem UO:Mj [124,124,44,38,38,44,60,32,60,61,32,61,61,32,33,61,44,43,32,45,44,42,32,47,32,37]=true:=by kernel_rfl
theorem Af9(a:Nat):Mj (Dg.getD a [])=true:=by
 have c:∀a,a<5→Mj (Dg.getD a [])=true:=by decide
 by_cases d:a<5
 ·exact c a d
 rw[R_,List.getElem?_eq_none (by rw[NQ];omega)];rfl
theorem PV{fac:Fq}(r:∀{c:AH} {f:PN},Wh c→St c b src f→As 374 [At b] b src c (fac f))(s:src.length<2^40):∀(d:Nat),d≤5→∀{c:AH} {f:PN} (m:Wh c) (n:St c b src f),As 313 [At b,I ((5-d:Nat):Int)] b src c (Ee fac src d f)
 |0,_,c,f,m,n=>by
  intro o p a;refine Ok.mono (P:=fun g i=>g=I o∧AP c i b src p) ?_ fun g i v ⟨j,e⟩=>⟨e.w,j,e.r,e.k⟩;have q:=AP.start m n;refine eF Tryz.func313 ?_;simp only[go_sem];refine Aa (H3 _ 44 UO _) ?_;rintro _ _ _ ⟨rfl,rfl⟩;have h:=q.new (.cells (Dg.map S));have t:((((5-0:Nat):Int))==((Dg.length:Nat):Int))=true:=by rw[NQ];rfl
  have k:((((5-0:Nat):Int))==(((Cy 44 false [124,124,44,38,38,44,60,32,60,61,32,61,61,32,33,61,44,43,32,45,44,42,32,47,32,37] []).length:Nat):Int))=true:=t;simp only[go_sem,Y,k];refine Aa (h.as (r h.w h.r) a) ?_;rintro _ x u ⟨rfl,k,_⟩;simp only[go_sem];exact k
 |d+1,w,c,f,m,n=>by
  intro o p a;refine Ok.mono (P:=fun g i=>g=I o∧AP c i b src p) ?_ fun g i v ⟨j,e⟩=>⟨e.w,j,e.r,e.k⟩;have q:=AP.start m n;refine eF Tryz.func313 ?_;simp only[go_sem];refine Aa (H3 _ 44 UO _) ?_;rintro _ _ _ ⟨rfl,rfl⟩;have h:=q.new (.cells (Dg.map S));have m:=q.fresh (.cells (Dg.map S));have i:((5-(d+1):Nat):Int)=((4-d:Nat):Int):=by omega
  have t:((((4-d:Nat):Int))==(((Cy 44 false [124,124,44,38,38,44,60,32,60,61,32,61,61,32,33,61,44,43,32,45,44,42,32,47,32,37] []).length:Nat):Int))=false:=by show((((4-d:Nat):Int))==((Dg.length:Nat):Int))=false;rw[NQ];simp;omega
  obtain⟨⟨v,n⟩,q,a⟩:=a_.1 (show(Ee fac src d f).bind _=_ from a);dsimp only at a;have w:i_ .i64 (((4-d:Nat):Int)+1)=((5-d:Nat):Int):=by rw[Ap]<;>omega
  rw[i];simp only[go_sem,Y,t];refine Aa (h.line s) ?_;rintro _ x u ⟨rfl,k,t⟩;obtain⟨x,i⟩:=h.at m u t;have i:=i.trans (Ae _);simp only[go_sem,Y,w];refine Aa (k.as (PV r s d (by omega) k.w k.r) q) ?_;rintro _ m h ⟨rfl,y,k,_⟩;obtain⟨z,q⟩:=x.Ak h k;have q:=q.trans i;simp only[go_sem];refine AG (fun(e:Nat×Int×PN) h i=>AP c i b src e.2.2∧Bj i b c.n∧i.get c.n=V (.cells (Dg.map S))∧h.at 0=At b∧h.at 1=I ((4-d:Nat):Int)∧h.at 5=.slice (V ⟨c.n,0,W⟩) Dg.length 1∧h.at 6=I (f.P.line src)∧h.at 7=I e.2.1∧
   KB (Ee fac src d) (Bz (4-d)) (((4-d:Nat):Int)==2) (f.P.line src) e.1 e.2.1 e.2.2=V (o,p)) (fun e=>e.1) ?_ (1000,v,n) ?_
  ·rintro⟨e,v,n⟩ h i ⟨m,A,p,f,k,t,u,o,a⟩ x
   dsimp only at m o a x;cases e with
   |zero=>cases a
   |succ e=>
   have h:4-d<Dg.length:=by rw[NQ];omega
   have v:nth? (Dg.map S) (4-d)=V (S (Dg.getD (4-d) [])):=OY S Dg _ _ (by rw[R_,E_ h];rfl);unfold KB at a;simp only[go_sem];refine AM m.w 0x1331000000 ?_;simp only[go_sem,Y,f,k,t,h,p,v];refine Aj (H3 _ 32 (Af9 _) _) ?_;rintro _ _ _ ⟨rfl,rfl⟩;simp only[go_sem,Y];refine Aj (m.is (l:=Bz (4-d)) J (by
    have:∀h,h<5→(Bz h).length<2^62:=by decide
    exact this _ (by omega))) ?_
   rintro _ h F ⟨rfl,v,K⟩;have L:i.n≤h.n:=g_ (f_ _) F;obtain⟨F,h⟩:=m.at A L K;have h:=h.trans p;cases i:n.P.is (Bz (4-d))with
   |false=>
    simp only[i,Acf]at a;cases a;simp only[go_sem,Y,o];exact v
   |true=>
    simp only[i,Aa9]at a;obtain⟨⟨i,n⟩,m,a⟩:=a_.1 a;dsimp only at a;obtain⟨⟨g,n⟩,j,a⟩:=a_.1 a;dsimp only at a;simp only[go_sem,f];refine Aa v.take ?_;rintro _ A p ⟨rfl,i,v,_⟩;obtain⟨A,K⟩:=F.Ak p v;simp only[go_sem,Y,Tok.val,Tok.cells,f,k,w];refine Aa (i.as (PV r s d (by omega) i.w i.r) m) ?_;rintro _ r i ⟨rfl,m,p,_⟩;obtain⟨r,s⟩:=A.Ak i p;simp only[go_sem,Y,f,u,o];refine Aa (m.Azg j J) ?_;rintro _ j o ⟨rfl,i,m⟩;obtain⟨o,p⟩:=m _ r;have m:j.get c.n=V (.cells (Dg.map S)):=p.trans (s.trans (K.trans h));cases c:(((4-d:Nat):Int)==2)with
    |true=>
     simp only[c,Aa9]at a;cases a;simp only[go_sem,Y,k,c];exact i
    |false=>
     simp only[c,Acf]at a;simp only[go_sem,Y,k,c];refine x (e,g,n) _ _ ⟨i,o,m,?_,?_,?_,?_,?_,by rw[c];exact a⟩ (by show e<e+1;omega)<;>simp only[go_sem,Y,f,k,t,u]
  refine⟨y,z,q,?_,?_,?_,?_,?_,a⟩<;>simp only[go_sem,Y]
  rfl
theorem Aaj(d:src.length<2^40):∀k,Jh b src (BH src k)
 |0,_,_,_,_=>fun _ _ e=>by cases e
 |k+1,i,f,a,c=>by
  intro j l e;refine Ok.mono (P:=fun g h=>g=I j∧AP i h b src l) ?_ fun g h n ⟨m,f⟩=>⟨f.w,m,f.r,f.k⟩;have f:=AP.start a c;refine eF Tryz.func239 ?_;simp only[go_sem];refine Aa (f.as (PV (fac:=B3 (BH src k) src 40) (fun a c=>MI (Aaj d k) d 40 a c) d 5 (b_ 5) a c) e) ?_;rintro _ c d ⟨rfl,a,_⟩;simp only[go_sem];exact a
end
section
variable{b:Nat}{src:H}
theorem AP.del{d:PN}(e:AP f g b src d){c:Nat}(h:Bj g b c)(i:f.n≤c):AP f (g.del c) b src d∧∀a,a≠c→Bj g b a→Bj (g.del c) b a:=by have f:=e.r.same (h1:=g.del c) fun a d=>CL (Ag fun i=>h.2 (i▸d));refine⟨⟨Dm e.w c,f.1,fun a d g=>?_,e.n⟩,fun a _ d=>⟨d.1,fun g=>d.2 ((f.2 a).1 g)⟩⟩;obtain⟨h1,h⟩:=e.k a d g;exact⟨(CL Ag).trans h1,fun d=>h ((f.2 a).1 d)⟩
theorem AP.putAt{h:PN}(i:AP f g b src h){a d:Nat}(j:Bj g b a)(c:Bj g b d)(e:AO):Bj (g.put a e) b d:=⟨c.1,fun k=>c.2 (((i.r.IK j.2 e).2 d).1 k)⟩
theorem AP.newAt{c:PN}(e:AP f g b src c){d:Nat}(h:Bj g b d)(a:AO):Bj (g.new a) b d:=(e.at h (f_ _) (Ext.new g a)).1
theorem AP.name{a:PN}(c:AP f g b src a):AR 71 [At b] g (fun e d=>e=S a.P.name.1∧AP f d b src {a with P:=a.P.name.2}∧BF b g d∧g.n≤d.n):=
 (Awc c.w c.r).mono fun _ _ a ⟨e,f,g,d⟩=>⟨f,c.to a e g d,d,a⟩
def LF(f d:AH)(b:Nat)(e:T)(c:List Int):Prop:=(c=[]∧e=.slice W 0 0)∨(∃a,e=.slice (V ⟨a,0,W⟩) c.length 1∧d.get a=V (.cells (c.map fun g=>I g))∧Bj d b a∧f.n≤a)
theorem LF.Ak{e h c:AH}(d:LF e h b v q)(f:∀a,Bj h b a→Bj c b a∧c.get a=h.get a):LF e c b v q:=by
 rcases d with d|⟨a,e,g,c,i⟩
 ·exact .inl d
 exact .inr ⟨a,e,(f a c).2.trans g,(f a c).1,i⟩
theorem LF.one(c:LF f g b v q):Aq v=[v]∧v.oneCell'=true∧∀a,IA a v v=true:=by rcases c with⟨_,rfl⟩|⟨d,rfl,_⟩<;>exact⟨J,J,fun a=>HW a _ _ _⟩
theorem AP.Ab9{a c:PN}(d:AP f g b src a){kind line:Int}{name:H}(h:BS a ⟨kind,line,0,name,q⟩=V (x,c))(j:LF f g b v q):
  AR 155 [At b,I kind,I line,S name,v] g (fun i e=>i=I x∧AP f e b src c):=by
 obtain⟨e,a⟩:=AV h;cases a;have h:L3 g v q∧∀a,EE v=V a→¬Uj g b a∧f.n≤a:=by
  rcases j with⟨rfl,rfl⟩|⟨f,rfl,g,k,l⟩
  ·exact⟨.inl ⟨J,J⟩,fun a c=>by cases c⟩
  exact⟨.inr ⟨f,J,g⟩,fun a c=>by cases c;exact⟨k.2,l⟩⟩
 refine(OG d.w d.r (Acw e) kind line name h.1 fun a c=>(h.2 a c).1).mono ?_;rintro i e f ⟨g,rfl,j,k⟩;exact⟨J,g,j,L4.of d.n d.k k fun a c=>(h.2 a c).2,g_ d.n f⟩
def Fw(rec:Fq):Nat→Bool→PN→List Int→Option (List Int×PN)
 |0,_,_,_=>W
 |f+1,e,d,c=>bif e then Nl (decide (c.length<900000)) ((rec d).bind fun a=>Fw rec f (a.2.P.is [[44]]) (bif a.2.P.is [[44]]then a.2.take else a.2) (c++[a.1]))else V (c,d)
def JX(rec:Fq)(src:H)(a:PN):Option (Int×PN):=
 let c:PN:=PN.Ao {a with P:=a.P.name.2} [40]
 bif c.P.is [[41]]then BS c.take ⟨21,a.P.line src,0,a.P.name.1,[]⟩
 else(Fw rec 1000 (c.P.e==0) c []).bind fun d=>BS (d.2.Ao [41]) ⟨21,a.P.line src,0,a.P.name.1,d.1⟩
theorem Aap{rec:Fq}(aR:Jh b src rec)(aS:src.length<2^40){l:PN}(aT:Wh f)(aU:St f b src l):As 315 [At b] b src f (JX rec src l):=by
 intro d aV k;refine Ok.mono (P:=fun aA aB=>aA=I d∧AP f aB b src aV) ?_ fun aA aB bp ⟨aW,g⟩=>⟨g.w,aW,g.r,g.k⟩;have aC:=AP.start aT aU;refine eF Tryz.func315 ?_;simp only[go_sem];have ab:=aC.new (.cells [At b]);have aX:=aC.fresh (.cells [At b]);refine AM ab.w 0x10007b03b00104d001 ?_;simp only[go_sem,Y];refine Aj (ab.line aS) ?_;rintro _ bq aY ⟨rfl,aZ,b0⟩;obtain⟨b1,a1⟩:=ab.at aX aY b0;have a1:=a1.trans (Ae _);simp only[go_sem,Y,a1];refine Aj aZ.name ?_;rintro _ m b2 ⟨rfl,a2,b3,_⟩;obtain⟨a3,a4⟩:=b1.Ak b2 b3;have a4:=a4.trans a1;have b4:=a2.new (.cells [.slice W 0 0]);have b5:=a2.fresh (.cells [.slice W 0 0]);have b6:=a2.newAt a3 (.cells [.slice W 0 0]);simp only[go_sem,Y,a4,a3.1];refine di Tryz.func72 J J J ?_;simp only[go_sem,Y];refine Aa (b4.Ao [40]) ?_;rintro _ br aD ⟨rfl,b7,aE,_⟩;obtain⟨b8,ac⟩:=b5.Ak aD aE;obtain⟨b9,ad⟩:=b6.Ak aD aE;have ac:=ac.trans (Ae _);have ad:=ad.trans (show _=V (.cells [At b])by simp only[go_sem,a3.1,a4]);simp only[go_sem];refine Aa (b7.has [41]) ?_;rintro _ bs aF ⟨rfl,F,aG,_⟩;obtain⟨ba,a5⟩:=b8.Ak aF aG;obtain⟨bb,a6⟩:=b9.Ak aF aG;have a5:=a5.trans ac;have a6:=a6.trans ad;unfold JX at k;dsimp only at k;cases aH:(PN.Ao {l with P:=l.P.name.2} [40]).P.is [[41]]with
 |true=>
  simp only[aH,Aa9]at k F;simp only[go_sem,Y,a6,a5];refine Aa (F.Xd k) ?_;rintro _ a c ⟨rfl,n⟩;simp only[go_sem];exact n
 |false=>
  simp only[aH,Acf]at k F;obtain⟨⟨bc,bd⟩,ae,k⟩:=a_.1 k;dsimp only at k;obtain⟨bt,bu,be,_⟩:=F.G4;simp only[go_sem,be];refine AG (fun(g:Nat×Bool×PN×List Int) a7 o=>AP f o b src g.2.2.1∧Bj o b f.n∧o.get f.n=V (.cells [At b])∧Bj o b m.n∧(∃af,o.get m.n=V (.cells [af])∧LF f o b af g.2.2.2)∧
   a7.at 0=At b∧a7.at 1=.func (.func 375) #[] #[AA m.n,AA f.n]∧a7.at 4=.bool g.2.1∧Fw rec g.1 g.2.1 g.2.2.1 g.2.2.2=V (bc,bd)) (fun g=>g.1) ?_ (1000,(PN.Ao {l with P:=l.P.name.2} [40]).P.e==0,PN.Ao {l with P:=l.P.name.2} [40],[]) ?_
  ·rintro⟨p,bf,bg,e⟩ a7 o ⟨n,aI,ag,aJ,⟨af,ah,a8⟩,K,ai,aj,h⟩ ak
   dsimp only at n a8 aj h ak;cases p with
   |zero=>cases h
   |succ p=>
   have aK:(f.n==m.n)=false:=AE a3.1;have bv:=a2.n;cases bf with
   |false=>
    simp only[Fw,Acf]at h;cases h;simp only[go_sem,K,aj];refine Aa (n.Ao [41]) ?_;rintro _ c s ⟨rfl,q,t,_⟩;have u:=aI.Ak s t;have A:=aJ.Ak s t;have al:=a8.Ak fun bh am=>am.Ak s t;simp only[go_sem,Y,u.2.trans ag,A.2.trans ah];refine Aa (q.Ab9 k al) ?_;rintro _ a i ⟨rfl,v⟩;simp only[go_sem];exact v
   |true=>
    simp only[Fw,Aa9]at h;obtain⟨aL,h⟩:=AV (show cond _ _ W=_ from h);have aL:=Acw aL;obtain⟨⟨a,r⟩,ae,h⟩:=a_.1 h;dsimp only at h;simp only[go_sem,Y,ai,aj];refine di Tryz.func375 J J J ?_;simp only[go_sem];refine AM n.w 0x133163115 ?_;simp only[go_sem,Y,ag,ah,a8.one.2.2];refine Aj (n.as (aR o bg n.w n.r) ae) ?_;rintro _ c s ⟨rfl,q,t,_⟩;have u:=aI.Ak s t;have A:=aJ.Ak s t;have al:=a8.Ak fun bh am=>am.Ak s t;have i:=u.2.trans ag;have j:=A.2.trans ah;have v:=q.new (.cells [I a]);have bi:Z (e.length+1) 1000000=true:=Eg;have aM:m.n<c.n:=A.1.1;rcases al with⟨rfl,rfl⟩|⟨a9,rfl,an,aN,bj⟩
    ·have w:=v.new (.cells [I a])
     have x:=v.newAt (q.newAt A.1 (.cells [I a])) (.cells [I a]);have ao:=v.newAt (q.newAt u.1 (.cells [I a])) (.cells [I a]);have ap:Bj ((c.new (.cells [I a])).new (.cells [I a])) b (c.n+1):=v.fresh (.cells [I a]);obtain⟨aq,ar⟩:=w.put x (by omega) (.cells [.slice (V ⟨c.n+1,0,W⟩) 1 1]);have au:=w.putAt x ao (.cells [.slice (V ⟨c.n+1,0,W⟩) 1 1]);have av:=w.putAt x ap (.cells [.slice (V ⟨c.n+1,0,W⟩) 1 1]);simp only[go_sem,Y,j,aM,K];refine Aa (aq.has [44]) ?_;rintro _ bk y ⟨rfl,aw,z,_⟩;have L:=au.Ak y z;have N:=ar.Ak y z;have a0:=av.Ak y z;simp only[go_sem];refine ak (p,r.P.is [[44]],bif r.P.is [[44]]then r.take else r,[a]) _ _ ⟨aw,L.1,L.2.trans ?_,N.1,⟨_,N.2.trans (Ai _ _),.inr ⟨c.n+1,J,a0.2.trans ?_,a0.1,by omega⟩⟩,?_,?_,?_,h⟩ (by show p<p+1;omega)
     ·have ax:f.n<c.n:=u.1.1
      simp only[go_sem,aK,ax,i]
     ·have ay:(c.n+1==m.n)=false:=Ag
      simp only[go_sem,ay];rfl
     ·simp only[go_sem,K]
     ·simp only[go_sem,Y,ai]
     simp only[go_sem]
    have aO:(m.n==a9)=false:=Ag fun az=>by
     rw[az,an]at j;cases e with
     |nil=>cases j
     |cons d e=>injection j with j;injection j with j;injection j with j;cases j
    have aP:(f.n==a9)=false:=Ag fun az=>by
     rw[az,an]at i;cases e with
     |nil=>cases i
     |cons d e=>injection i with i;injection i with i;injection i with i;cases i
    have bl:a9<c.n:=aN.1;obtain⟨aa,aQ⟩:=v.del (q.newAt aN (.cells [I a])) bj;have bm:=aQ _ (AF aO) (q.newAt A.1 (.cells [I a]));have bn:=aQ _ (AF aP) (q.newAt u.1 (.cells [I a]));have w:=aa.new (.cells (e.map (fun d=>I d)++[I a]));have x:=aa.newAt bm (.cells (e.map (fun d=>I d)++[I a]));have ao:=aa.newAt bn (.cells (e.map (fun d=>I d)++[I a]));have ap:Bj (((c.new (.cells [I a])).del a9).new (.cells (e.map (fun d=>I d)++[I a]))) b (c.n+1):=aa.fresh (.cells (e.map (fun d=>I d)++[I a]));obtain⟨aq,ar⟩:=w.put x (by omega) (.cells [.slice (V ⟨c.n+1,0,W⟩) (e.length+1) 1]);have au:=w.putAt x ao (.cells [.slice (V ⟨c.n+1,0,W⟩) (e.length+1) 1]);have av:=w.putAt x ap (.cells [.slice (V ⟨c.n+1,0,W⟩) (e.length+1) 1]);have bo:sub? (e.map fun d=>I d) 0 e.length=V (e.map fun d=>I d):=C2 (by simp);simp only[go_sem,Y,j,aM,K,an,bl,bo,bi,aO];refine Aa (aq.has [44]) ?_;rintro _ bk y ⟨rfl,aw,z,_⟩;have L:=au.Ak y z;have N:=ar.Ak y z;have a0:=av.Ak y z;simp only[go_sem];refine ak (p,r.P.is [[44]],bif r.P.is [[44]]then r.take else r,e++[a]) _ _ ⟨aw,L.1,L.2.trans ?_,N.1,⟨_,N.2.trans (Ai _ _),.inr ⟨c.n+1,?_,a0.2.trans ?_,a0.1,by omega⟩⟩,?_,?_,?_,h⟩ (by show p<p+1;omega)
    ·have ax:f.n<c.n:=u.1.1
     simp only[go_sem,aK,ax,aP,i]
    ·simp
    ·have ay:(c.n+1==m.n)=false:=Ag
     simp only[go_sem,ay];simp
    ·simp only[go_sem,K]
    ·simp only[go_sem,Y,ai]
    simp only[go_sem]
  refine⟨F,bb,a6,ba,⟨_,a5,.inl ⟨J,J⟩⟩,?_,?_,?_,ae⟩<;>simp only[go_sem,Y]
end
def EV(a:PN):Option Bool:=bif a.P.kind 3 then(match a.P.Ax with
 |_::a::_=>V ((a.kind==5)&&(a.text==[40]))
 |_=>W)else V false
def GZ:H:=[105,110,112,117,116]
def Cb:H:=[110,101,119]
def JB(rec:Fq)(src:H)(a:PN):Option (Int×PN):=
 bif a.P.is [GZ]then BS a.take ⟨19,a.P.line src,0,[],[]⟩
 else bif a.P.is [Cb]then(rec (a.take.Ao [40])).bind fun c=>BS (c.2.Ao [41]) ⟨20,a.P.line src,0,[],[c.1]⟩
 else(EV a).bind fun c=>bif c then JX rec src a else rec a
def Lg(rec:Fq)(src:H)(c d:Int)(e:H)(f:PN):Option (Int×PN):=
 (JB rec src (f.Ao [61])).bind fun a=>BS (a.2.Ao [59]) ⟨c,d,0,e,[a.1]⟩
section
variable{b:Nat}{src:H}
theorem AP.calls{c:PN}{e:Bool}(h:AP f g b src c)(a:EV c=V e):AR 314 [At b] g (fun i d=>i=.bool e∧AP f d b src c∧Ext g d):=by
 refine eF Tryz.func314 ?_;simp only[go_sem];refine Aa (h.kind 3) ?_;rintro _ d e ⟨rfl,f,j⟩;unfold EV at a;cases d:c.P.kind 3 with
 |false=>
  simp only[d,Acf]at a;cases a;simp only[go_sem,Y];exact⟨f,j⟩
 |true=>
  simp only[d,Aa9]at a;obtain⟨g,e,_⟩:=f.r.DZ;obtain⟨i,g,all,k,h⟩:=e.op;cases i:c.P.Ax with
  |nil=>simp only[i]at a;cases a
  |cons k e=>
   cases e with
   |nil=>simp only[i]at a;cases a
   |cons c e=>
    simp only[i]at a;cases a;have a:=h.hb;have d:=h.hk;rw[i]at a d;have i:1<(k::c::e:List Tok).length:=by simp
    have k:all.drop (g+3)=I c.kind::S c.text::I c.pos::BW e:=by rw[←ad_,d];rfl
    have l:all.drop (g+4)=S c.text::I c.pos::BW e:=by rw[show g+4=(g+3)+1 by omega,←ad_,k];rfl
    have d:=Rh k;have g:=Rh l;cases e:(c.kind==5)with
    |true=>
     simp only[go_sem,Y,a,i,h.ht,d,g,e];exact⟨f,j⟩
    |false=>
     simp only[go_sem,Y,a,i,h.ht,d,e];exact⟨f,j⟩
theorem Agk{rec:Fq}(g:Jh b src rec)(h:src.length<2^40){c:PN}(j:Wh f)(k:St f b src c):As 312 [At b] b src f (JB rec src c):=by
 intro l m a;refine Ok.mono (P:=fun i d=>i=I l∧AP f d b src m) ?_ fun i d o ⟨n,e⟩=>⟨e.w,n,e.r,e.k⟩;have e:=AP.start j k;refine eF Tryz.func312 ?_;simp only[go_sem];refine Aa (e.line h) ?_;rintro _ d f ⟨rfl,e,_⟩;simp only[go_sem];refine Aa (e.has GZ) ?_;rintro _ d f ⟨rfl,e,_⟩;unfold JB at a;cases f:c.P.is [GZ]with
 |true=>
  simp only[f,Aa9]at a e;simp only[go_sem,Y];refine Aa (e.Xd a) ?_;rintro _ i j ⟨rfl,d⟩;simp only[go_sem];exact d
 |false=>
  simp only[f,Acf]at a e;simp only[go_sem];refine Aa (e.has Cb) ?_;rintro _ i j ⟨rfl,d,_⟩;cases f:c.P.is [Cb]with
  |true=>
   simp only[f,Aa9]at a d;obtain⟨⟨c,i⟩,e,a⟩:=a_.1 a;dsimp only at a;simp only[go_sem];refine Aa (d.Ao [40]) ?_;rintro _ k l ⟨rfl,c,_⟩;simp only[go_sem];refine Aa (c.as (g _ _ c.w c.r) e) ?_;rintro _ i j ⟨rfl,e,_⟩;simp only[go_sem];refine Aa (e.Ao [41]) ?_;rintro _ n o ⟨rfl,m,_⟩;simp only[go_sem,Y];refine Aa (m.Lp a J) ?_;rintro _ n o ⟨rfl,m⟩;simp only[go_sem];exact m
  |false=>
   simp only[f,Acf]at a d;obtain⟨f,m,a⟩:=a_.1 a;simp only[go_sem];refine Aa (d.calls m) ?_;rintro _ k l ⟨rfl,c,_⟩;cases f with
   |true=>
    simp only[Aa9]at a;simp only[go_sem];refine Aa (c.as (Aap g h c.w c.r) a) ?_;rintro _ i j ⟨rfl,e,_⟩;simp only[go_sem];exact e
   |false=>
    simp only[Acf]at a;simp only[go_sem];refine Aa (c.as (g _ _ c.w c.r) a) ?_;rintro _ i j ⟨rfl,e,_⟩;simp only[go_sem];exact e
theorem Zm{rec:Fq}(h:Jh b src rec)(i:src.length<2^40){c:PN}(j:Wh f)(k:St f b src c)(a d:Int)(e:H):As 238 [At b,I a,I d,S e] b src f (Lg rec src a d e c):=by intro l m a;refine Ok.mono (P:=fun g d=>g=I l∧AP f d b src m) ?_ fun g d o ⟨n,e⟩=>⟨e.w,n,e.r,e.k⟩;have e:=AP.start j k;obtain⟨⟨g,j⟩,f,a⟩:=a_.1 (show(JB rec src (c.Ao [61])).bind _=_ from a);dsimp only at a;refine eF Tryz.func238 ?_;simp only[go_sem];refine Aa (e.Ao [61]) ?_;rintro _ d e ⟨rfl,c,_⟩;simp only[go_sem];refine Aa (c.as (Agk h i c.w c.r) f) ?_;rintro _ d e ⟨rfl,c,_⟩;simp only[go_sem];refine Aa (c.Ao [59]) ?_;rintro _ d e ⟨rfl,c,_⟩;simp only[go_sem,Y];refine Aa (c.Lp a J) ?_;rintro _ c d ⟨rfl,a⟩;simp only[go_sem];exact a
end
def HM(rec:Fq)(src:H)(d:Int)(a:PN):Option (Int×PN):=
 (EV a).bind fun e=>bif e then(JX rec src a).bind fun c=>BS (c.2.Ao [59]) ⟨13,d,0,[],[c.1]⟩
 else
  let e:PN:={a with P:=a.P.name.2}
  bif e.P.is [[91]]then(D9 rec [91] [93] e).bind fun c=>(rec (c.2.Ao [61])).bind fun f=>BS (f.2.Ao [59]) ⟨12,d,0,a.P.name.1,[c.1,f.1]⟩
  else Lg rec src 11 d a.P.name.1 e
def Ed:H:=[101,108,115,101]
def MM(rec d:Fq)(e:Int)(g:PN):Option (Int×PN):=
 (rec g).bind fun c=>(d c.2).bind fun a=>bif a.2.P.is [Ed]then(d a.2.take).bind fun f=>BS f.2 ⟨15,e,0,[],[c.1,a.1,f.1]⟩
  else BS a.2 ⟨15,e,0,[],[c.1,a.1]⟩
def MB:H:=[108,101,116]
def F9:H:=[112,114,105,110,116]
def E6:H:=[119,104,105,108,101]
def NT:H:=[105,102]
def BZ:H:=[114,101,116,117,114,110]
def EP(rec d:Fq)(src:H)(a:PN):Option (Int×PN):=
 bif a.P.is [MB]then Lg rec src 10 (a.P.line src) a.take.P.name.1 {a.take with P:=a.take.P.name.2}
 else bif a.P.is [F9]then(rec a.take).bind fun c=>BS (c.2.Ao [59]) ⟨14,a.P.line src,0,[],[c.1]⟩
 else bif a.P.is [E6]then(rec a.take).bind fun c=>(d c.2).bind fun e=>BS e.2 ⟨16,a.P.line src,0,[],[c.1,e.1]⟩
 else bif a.P.is [NT]then MM rec d (a.P.line src) a.take
 else bif a.P.is [BZ]then(bif a.take.P.is [[59]]then BS (a.take.Ao [59]) ⟨17,a.P.line src,0,[],[]⟩else(rec a.take).bind fun c=>BS (c.2.Ao [59]) ⟨17,a.P.line src,0,[],[c.1]⟩)
 else HM rec src (a.P.line src) a
section
variable{b:Nat}{src:H}
def Aa5(b:Nat)(src:H)(d:Fq):Prop:=∀a c,Wh a→St a b src c→As 76 [At b] b src a (d c)
theorem LF.new{d:PN}(c:AP f g b src d)(a:List Int):LF f (g.new (.cells (a.map fun e=>I e))) b (.slice (V ⟨g.n,0,W⟩) a.length 1) a:=
 .inr ⟨g.n,J,Ae _,c.fresh _,c.n⟩
theorem Aho{rec:Fq}(g:Jh b src rec)(p:src.length<2^40){d:PN}(u:Wh f)(v:St f b src d)(i:Int):As 241 [At b,I i] b src f (HM rec src i d):=by
 intro w x a;refine Ok.mono (P:=fun q j=>q=I w∧AP f j b src x) ?_ fun q j a7 ⟨y,k⟩=>⟨k.w,y,k.r,k.k⟩;have z:=AP.start u v;obtain⟨A,F,a⟩:=a_.1 (show(EV d).bind _=_ from a);refine eF Tryz.func241 ?_;simp only[go_sem];refine Aa (z.calls F) ?_;rintro _ j a8 ⟨rfl,h,_⟩;cases A with
 |true=>
  simp only[Aa9]at a;obtain⟨⟨K,L⟩,m,a⟩:=a_.1 a;dsimp only at a;simp only[go_sem];refine Aa (h.as (Aap g p h.w h.r) m) ?_;rintro _ N a0 ⟨rfl,n,_⟩;simp only[go_sem];refine Aa (n.Ao [59]) ?_;rintro _ a1 a2 ⟨rfl,c,_⟩;simp only[go_sem,Y];refine Aa (c.Lp a J) ?_;rintro _ r s ⟨rfl,e⟩;simp only[go_sem];exact e
 |false=>
  simp only[Acf]at a;simp only[go_sem];refine Aa h.name ?_;rintro _ N a0 ⟨rfl,n,_⟩;simp only[go_sem,Y];refine Aa (n.is (l:=[[91]]) J (by show 1<2^62;decide)) ?_;rintro _ a1 a2 ⟨rfl,c,_⟩;cases t:d.P.name.2.is [[91]]with
  |false=>
   simp only[t,Acf]at a;simp only[go_sem,Y];refine Aa (c.as (Zm g p c.w c.r 11 i d.P.name.1) a) ?_;rintro _ r s ⟨rfl,e,_⟩;simp only[go_sem];exact e
  |true=>
   simp only[t,Aa9]at a;obtain⟨⟨K,L⟩,m,a⟩:=a_.1 a;dsimp only at a;obtain⟨⟨a9,aa⟩,a3,a⟩:=a_.1 a;dsimp only at a;simp only[go_sem];refine Aa (c.as (LK g c.w c.r [91] [93]) m) ?_;rintro _ r s ⟨rfl,e,_⟩;simp only[go_sem];refine Aa (e.Ao [61]) ?_;rintro _ ab ac ⟨rfl,o,_⟩;simp only[go_sem];refine Aa (o.as (g _ _ o.w o.r) a3) ?_;rintro _ ad ae ⟨rfl,a4,_⟩;simp only[go_sem];refine Aa (a4.Ao [59]) ?_;rintro _ af ag ⟨rfl,a5,_⟩;simp only[go_sem,Y];refine Aa (a5.Lp a J) ?_;rintro _ ah ai ⟨rfl,a6⟩;simp only[go_sem];exact a6
theorem Wf{rec a:Fq}(h:Jh b src rec)(j:Aa5 b src a){c:PN}(i:Wh f)(l:St f b src c)(d:Int):As 240 [At b,I d] b src f (MM rec a d c):=by
 intro m n a;refine Ok.mono (P:=fun e g=>e=I m∧AP f g b src n) ?_ fun e g k ⟨o,d⟩=>⟨d.w,o,d.r,d.k⟩;have f:=AP.start i l;obtain⟨⟨d,e⟩,i,a⟩:=a_.1 (show(rec c).bind _=_ from a);dsimp only at a;obtain⟨⟨e,n⟩,l,a⟩:=a_.1 a;dsimp only at a;refine eF Tryz.func240 ?_;simp only[go_sem];refine Aa (f.as (h _ _ f.w f.r) i) ?_;rintro _ g f ⟨rfl,c,_⟩;simp only[go_sem];refine Aa (c.as (j _ _ c.w c.r) l) ?_;rintro _ l f ⟨rfl,c,_⟩;have f:=c.new (.cells [I d,I e]);have g:=LF.new c [d,e];simp only[go_sem,Y];refine Aa (f.has Ed) ?_;rintro _ h f ⟨rfl,c,i,_⟩;have m:=g.Ak fun o h=>h.Ak f i;cases g:n.P.is [Ed]with
 |false=>
  simp only[g,Acf]at a c;simp only[go_sem,Y];refine Aa (c.Ab9 a m) ?_;rintro _ i n ⟨rfl,f⟩;simp only[go_sem];exact f
 |true=>
  simp only[g,Aa9]at a c;obtain⟨⟨g,q⟩,p,a⟩:=a_.1 a;dsimp only at a;simp only[go_sem,Y];refine Aa (c.as (j _ _ c.w c.r) p) ?_;rintro _ i n ⟨rfl,f,c,_⟩;have j:=m.Ak fun o h=>h.Ak n c;rcases j with⟨k,_⟩|⟨o,h,m,c,n⟩
  ·cases k
  cases h;have j:l.n<i.n:=c.1;have k:=f.new (.cells [I g]);obtain⟨h,_⟩:=k.del (f.newAt c (.cells [I g])) n;have c:=LF.new h [d,e,g];have f:=h.new (.cells [I d,I e,I g]);have g:i.get l.n=V (.cells [I d,I e]):=m;simp only[go_sem,Y,g,j];refine Aa (f.Ab9 a c) ?_;rintro _ c d ⟨rfl,a⟩;simp only[go_sem];exact a
theorem Sy{rec a:Fq}(h:Jh b src rec)(o:Aa5 b src a)(k:src.length<2^40){c:PN}(i:Wh f)(j:St f b src c):As 154 [At b] b src f (EP rec a src c):=by
 intro m n a;refine Ok.mono (P:=fun g d=>g=I m∧AP f d b src n) ?_ fun g d q ⟨p,e⟩=>⟨e.w,p,e.r,e.k⟩;have e:=AP.start i j;refine eF Tryz.func154 ?_;simp only[go_sem];refine Aa (e.line k) ?_;rintro _ d f ⟨rfl,e,_⟩;simp only[go_sem];refine Aa (e.has MB) ?_;rintro _ e f ⟨rfl,d,_⟩;unfold EP at a;cases e:c.P.is [MB]with
 |true=>
  simp only[e,Aa9]at a d;simp only[go_sem,Y];refine Aa d.name ?_;rintro _ i j ⟨rfl,f,_⟩;simp only[go_sem,Y];refine Aa (f.as (Zm h k f.w f.r 10 (c.P.line src) c.take.P.name.1) a) ?_;rintro _ p q ⟨rfl,g,_⟩;simp only[go_sem];exact g
 |false=>
 simp only[e,Acf]at a d;simp only[go_sem];refine Aa (d.has F9) ?_;rintro _ i j ⟨rfl,f,_⟩;cases r:c.P.is [F9]with
 |true=>
  simp only[r,Aa9]at a f;obtain⟨⟨i,s⟩,j,a⟩:=a_.1 a;dsimp only at a;simp only[go_sem];refine Aa (f.as (h _ _ f.w f.r) j) ?_;rintro _ p q ⟨rfl,g,_⟩;simp only[go_sem];refine Aa (g.Ao [59]) ?_;rintro _ t u ⟨rfl,d,_⟩;simp only[go_sem,Y];refine Aa (d.Lp a J) ?_;rintro _ m n ⟨rfl,e⟩;simp only[go_sem];exact e
 |false=>
 simp only[r,Acf]at a f;simp only[go_sem];refine Aa (f.has E6) ?_;rintro _ p q ⟨rfl,g,_⟩;cases p:c.P.is [E6]with
 |true=>
  simp only[p,Aa9]at a g;obtain⟨⟨i,s⟩,j,a⟩:=a_.1 a;dsimp only at a;obtain⟨⟨q,r⟩,f,a⟩:=a_.1 a;dsimp only at a;simp only[go_sem];refine Aa (g.as (h _ _ g.w g.r) j) ?_;rintro _ t u ⟨rfl,d,_⟩;simp only[go_sem];refine Aa (d.as (o _ _ d.w d.r) f) ?_;rintro _ m n ⟨rfl,e,_⟩;simp only[go_sem,Y];refine Aa (e.Lp a J) ?_;rintro _ q r ⟨rfl,f⟩;simp only[go_sem];exact f
 |false=>
 simp only[p,Acf]at a g;simp only[go_sem];refine Aa (g.has NT) ?_;rintro _ t u ⟨rfl,d,_⟩;cases g:c.P.is [NT]with
 |true=>
  simp only[g,Aa9]at a d;simp only[go_sem,Y];refine Aa (d.as (Wf h o d.w d.r (c.P.line src)) a) ?_;rintro _ m n ⟨rfl,e,_⟩;simp only[go_sem];exact e
 |false=>
 simp only[g,Acf]at a d;simp only[go_sem];refine Aa (d.has BZ) ?_;rintro _ m n ⟨rfl,e,_⟩;cases m:c.P.is [BZ]with
 |true=>
  simp only[m,Aa9]at a e;simp only[go_sem,Y];refine Aa (e.is (l:=[[59]]) J (by show 1<2^62;decide)) ?_;rintro _ q r ⟨rfl,f,_⟩;cases n:c.take.P.is [[59]]with
  |true=>
   simp only[n,Aa9]at a;simp only[go_sem];refine Aa (f.Ao [59]) ?_;rintro _ o p ⟨rfl,g,_⟩;simp only[go_sem,Y];refine Aa (g.Xd a) ?_;rintro _ t u ⟨rfl,d⟩;simp only[go_sem];exact d
  |false=>
   simp only[n,Acf]at a;obtain⟨⟨i,s⟩,j,a⟩:=a_.1 a;dsimp only at a;simp only[go_sem,Y];refine Aa (f.as (h _ _ f.w f.r) j) ?_;rintro _ o p ⟨rfl,g,_⟩;have d:=g.new (.cells [I i]);have g:=d.new (.cells [I i]);have j:=LF.new d [i];simp only[go_sem,Y];refine Aa (g.Ao [59]) ?_;rintro _ n d ⟨rfl,g,i,_⟩;have n:=j.Ak fun p o=>o.Ak d i;simp only[go_sem,Y];refine Aa (g.Ab9 a n) ?_;rintro _ g i ⟨rfl,d⟩;simp only[go_sem];exact d
 |false=>
 simp only[m,Acf]at a e;simp only[go_sem,Y];refine Aa (e.as (Aho h k e.w e.r (c.P.line src)) a) ?_;rintro _ q r ⟨rfl,f,_⟩;simp only[go_sem];exact f
end
def Fy(d:Fq):Nat→PN→List Int→Option (List Int×PN)
 |0,_,_=>W
 |f+1,a,c=>bif (a.P.e==0)&& !(a.P.is [[125]])then Nl (decide (c.length<900000)) ((d a).bind fun e=>Fy d f e.2 (c++[e.1]))else V (c,a)
def IZ(d:Fq)(src:H)(a:PN):Option (Int×PN):=
 bif a.P.is [[123]]then Nl (BY a.P.deep) (bif decide (16≤a.P.deep)then BS (a.fail 21) ⟨18,a.P.line src,0,[],[]⟩
  else(Fy d 1000 (a.deep (a.P.deep+1)).take []).bind fun c=>Nl (BY (c.2.Ao [125]).P.deep) (BS ((c.2.Ao [125]).deep ((c.2.Ao [125]).P.deep-1)) ⟨18,a.P.line src,0,[],c.1⟩))
 else BS (a.fail 20) ⟨18,a.P.line src,0,[],[]⟩
section
variable{b:Nat}{src:H}
def Aku(b:Nat)(src:H)(d:Fq):Prop:=∀a c,Wh a→St a b src c→As 154 [At b] b src a (d c)
theorem Wg{ao:Fq}(bu:Aku b src ao)(bv:src.length<2^40){r:PN}(aS:Wh f)(aT:St f b src r):As 76 [At b] b src f (IZ ao src r):=by
 intro j bw k;refine Ok.mono (P:=fun a5 aU=>a5=I j∧AP f aU b src bw) ?_ fun a5 aU c0 ⟨ap,s⟩=>⟨s.w,ap,s.r,s.k⟩;have aV:=AP.start aS aT;have bx:=aT.lt aS;refine eF Tryz.func76 ?_;simp only[go_sem,Y];have aW:=aV.new (.cells [At b]);have bz:=aV.fresh (.cells [At b]);refine Aa (aW.line bv) ?_;rintro _ a bA ⟨rfl,a6,bB⟩;obtain⟨aX,ah⟩:=aW.at bz bA bB;have ah:=ah.trans (Ae _);have aq:f.n<a.n:=aX.1;have c4:b<a.n:=F_ bx aq;have bC:=a6.new (.cells [.slice W 0 0]);have bD:=bC.new (.cells [At b]);have bE:=bD.new (.cells [S [125]]);have ar:=bE.new (.cells [.func (.func 153) #[] #[AA f.n,AA a.n]]);have aY:Ext a ((((a.new (.cells [.slice W 0 0])).new (.cells [At b])).new (.cells [S [125]])).new (.cells [.func (.func 153) #[] #[AA f.n,AA a.n]])):=fun h e=>by simp only[go_sem,e]
 have bF:∀g,g<4→Bj ((((a.new (.cells [.slice W 0 0])).new (.cells [At b])).new (.cells [S [125]])).new (.cells [.func (.func 153) #[] #[AA f.n,AA a.n]])) b (a.n+g):=fun g m=>Bj.of a6.r a6.w aY (by omega) (by show a.n+g<a.n+1+1+1+1;omega);have aZ:=(a6.at aX (by show a.n≤a.n+1+1+1+1;omega) aY);simp only[go_sem,Y,ah,aq];refine di Tryz.func152 J J J ?_;simp only[go_sem,Y];refine Aa (ar.is (l:=[[123]]) J (by show 1<2^62;decide)) ?_;rintro _ t bG ⟨rfl,au,b0⟩;have c5:a.n+4≤t.n:=by have:a.n+1+1+1+1+1≤t.n:=bG;omega
 have N:=fun g m=>ar.at (bF g m) (by show a.n+1+1+1+1≤t.n;omega) b0;have ai:=ar.at aZ.1 (by show a.n+1+1+1+1≤t.n;omega) b0;have av:t.get a.n=V (.cells [.slice W 0 0]):=(N 0 (by omega)).2.trans (by simp only[go_sem]);have c1:t.get (a.n+1)=V (.cells [At b]):=(N 1 (by omega)).2.trans (by simp only[go_sem,Y]);have c2:t.get (a.n+2)=V (.cells [S [125]]):=(N 2 (by omega)).2.trans (by simp only[go_sem,Y]);have c3:t.get (a.n+3)=V (.cells [.func (.func 153) #[] #[AA f.n,AA a.n]]):=(N 3 (by omega)).2.trans (by simp only[go_sem]);have aw:t.get f.n=V (.cells [At b]):=ai.2.trans (aZ.2.trans ah);unfold IZ at k;cases m:r.P.is [[123]]with
 |false=>
  simp only[m,Acf]at k;simp only[go_sem,Y,c1];refine Aa (au.fail 20) ?_;rintro _ o c ⟨rfl,a7,A,_⟩;have p:=(ai.1.Ak c A).2.trans aw;have i:=((N 0 (by omega)).1.Ak c A).2.trans av;have i:o.get a.n=V (.cells [.slice W 0 0]):=i;simp only[go_sem,Y,p,i];refine Aa (a7.Xd k) ?_;rintro _ a0 aj ⟨rfl,a8⟩;simp only[go_sem];exact a8
 |true=>
  simp only[m,Aa9]at k;obtain⟨b1,k⟩:=AV (show cond (BY r.P.deep) _ W=_ from k);have c6: -100≤r.P.deep∧r.P.deep≤100:=by unfold BY at b1;simpa using b1
  obtain⟨c7,c8,b2,bH⟩:=au.G4;simp only[go_sem,Y,c1];refine di Y_ J J J ?_;cases ak:decide ((16:Int)≤r.P.deep)with
  |true=>
   simp only[ak,Aa9]at k;simp only[go_sem,b2,ak];refine Aa (au.fail 21) ?_;rintro _ o c ⟨rfl,a7,A,_⟩;have p:=(ai.1.Ak c A).2.trans aw;have i:o.get a.n=V (.cells [.slice W 0 0]):=((N 0 (by omega)).1.Ak c A).2.trans av;simp only[go_sem,Y,p,i];refine Aa (a7.Xd k) ?_;rintro _ a0 aj ⟨rfl,a8⟩;simp only[go_sem];exact a8
  |false=>
   simp only[ak,Acf]at k;obtain⟨⟨bI,y⟩,bJ,k⟩:=a_.1 k;dsimp only at k;obtain⟨b3,k⟩:=AV (show cond (BY (y.Ao [125]).P.deep) _ W=_ from k);have c9: -100≤(y.Ao [125]).P.deep∧(y.Ao [125]).P.deep≤100:=by unfold BY at b3;simpa using b3
   have bK:=Ap (n:=r.P.deep+1) (by omega) (by omega);have b4:=Ap (n:=(y.Ao [125]).P.deep-1) (by omega) (by omega);obtain⟨a7,A⟩:=bH (r.P.deep+1);have al:∀g,(a.n+g==b)=false:=fun g=>Ag;have ax:(a.n==b)=false:=Ag;have ay:(f.n==b)=false:=Ag;simp only[go_sem,Y,b2,ak,bK];refine di Tryz.func237 J J J ?_;simp only[go_sem,al,c1];refine Aa a7.take ?_;rintro _ a0 aj ⟨rfl,a8,b5,_⟩;have a9:=fun g m=>((N g m).1.Ak (by exact b_ t.n) A).1.Ak aj b5;have b6:=(ai.1.Ak (by exact b_ t.n) A).1.Ak aj b5;have bL:a0.get a.n=V (.cells [.slice W 0 0]):=(a9 0 (by omega)).2.trans (by simp only[go_sem,ax,av]);have bM:a0.get (a.n+1)=V (.cells [At b]):=(a9 1 (by omega)).2.trans (by simp only[go_sem,al,c1]);have bN:a0.get (a.n+2)=V (.cells [S [125]]):=(a9 2 (by omega)).2.trans (by simp only[go_sem,al,c2]);have bO:a0.get (a.n+3)=V (.cells [.func (.func 153) #[] #[AA f.n,AA a.n]]):=(a9 3 (by omega)).2.trans (by simp only[go_sem,al,c3]);have bP:a0.get f.n=V (.cells [At b]):=b6.2.trans (by simp only[go_sem,ay,aw]);simp only[go_sem,Y,bO];refine di Tryz.func153 J J J ?_;simp only[go_sem];refine AG (fun(s:Nat×PN×List Int) az w=>AP f w b src s.2.1∧Bj w b f.n∧w.get f.n=V (.cells [At b])∧(∃a1,w.get a.n=V (.cells [a1])∧LF f w b a1 s.2.2)∧(∀g,g<3→Bj w b (a.n+g))∧
    w.get (a.n+1)=V (.cells [At b])∧w.get (a.n+2)=V (.cells [S [125]])∧az.at 0=AA f.n∧az.at 1=AA a.n∧Fy ao s.1 s.2.1 s.2.2=V (bI,y)) (fun s=>s.1) ?_ (1000,(r.deep (r.P.deep+1)).take,[]) ?_
   ·rintro⟨F,aA,l⟩ az w ⟨a2,b7,am,⟨a1,b8,aB⟩,b9,ba,bb,aa,ab,p⟩ aC
    dsimp only at a2 aB p aC;cases F with
    |zero=>cases p
    |succ F=>
    obtain⟨ca,cb,bc,_⟩:=a2.G4;cases o:(aA.P.e==0)with
    |false=>
     simp only[Fy,o,Bool.false_and,Acf]at p;cases p;simp only[go_sem,Y,aa,am,bc,o,ba,bb];refine Aa (a2.Ao [125]) ?_;rintro _ c u ⟨rfl,q,v,_⟩;have q:AP f c b src (y.Ao [125]):=q;obtain⟨an,aJ,i,x⟩:=q.G4;obtain⟨K,a3⟩:=x ((y.Ao [125]).P.deep-1);have L:=b7.Ak u v;have a4:=(b9 0 (by omega)).Ak u v;have af:=(aB.Ak fun h e=>e.Ak u v).Ak fun h e=>e.Ak (by exact b_ c.n) a3;have ag:c.get a.n=V (.cells [a1]):=a4.2.trans b8;simp only[go_sem,Y,i,b4,ay,ax,L.2.trans am,ag];refine Aa (K.Ab9 k af) ?_;rintro _ aK aL ⟨rfl,z⟩;simp only[go_sem];exact z
    |true=>
     simp only[go_sem,Y,aa,am,bc,o];refine Aa (a2.is (l:=[[125]]) J (by show 1<2^62;decide)) ?_;rintro _ ac bQ ⟨rfl,ad,aD⟩;have aE:w.n≤ac.n:=g_ (f_ _) bQ;have aF:=a2.at b7 aE aD;have ae:=fun g m=>a2.at (b9 g m) aE aD;have aG:=aB.Ak fun h e=>a2.at e aE aD;have aH:ac.get a.n=V (.cells [a1]):=(ae 0 (by omega)).2.trans b8;have bd:ac.get (a.n+1)=V (.cells [At b]):=(ae 1 (by omega)).2.trans ba;have be:ac.get (a.n+2)=V (.cells [S [125]]):=(ae 2 (by omega)).2.trans bb;have aI:=aF.2.trans am;cases bf:aA.P.is [[125]]with
     |true=>
      simp only[Fy,o,bf,Bool.not_true,Bool.and_false,Acf]at p;cases p;simp only[go_sem,Y,bd,be];refine Aa (ad.Ao [125]) ?_;rintro _ c u ⟨rfl,q,v,_⟩;have q:AP f c b src (y.Ao [125]):=q;obtain⟨an,aJ,i,x⟩:=q.G4;obtain⟨K,a3⟩:=x ((y.Ao [125]).P.deep-1);have L:=aF.1.Ak u v;have a4:=(ae 0 (by omega)).1.Ak u v;have af:=(aG.Ak fun h e=>e.Ak u v).Ak fun h e=>e.Ak (by exact b_ c.n) a3;have ag:c.get a.n=V (.cells [a1]):=a4.2.trans aH;simp only[go_sem,Y,i,b4,ay,ax,L.2.trans aI,ag];refine Aa (K.Ab9 k af) ?_;rintro _ aK aL ⟨rfl,z⟩;simp only[go_sem];exact z
     |false=>
      simp only[Fy,o,bf,ac_,I_,Aa9]at p;obtain⟨bg,p⟩:=AV (show cond _ _ W=_ from p);have bg:=Acw bg;obtain⟨⟨i,bh⟩,bR,p⟩:=a_.1 p;dsimp only at p;have cc:=a6.n;have bS:Z (l.length+1) 1000000=true:=Eg;simp only[go_sem,Y];refine AM ad.w 0x133163115 ?_;simp only[go_sem,Y,aa,ab,aI,aH,aG.one.2.2];refine Aj (ad.as (bu ac aA ad.w ad.r) bR) ?_;rintro _ c u ⟨rfl,q,v,_⟩;have L:=aF.1.Ak u v;have x:=fun g m=>(ae g m).1.Ak u v;have bT:=aG.Ak fun h e=>e.Ak u v;have aJ:=L.2.trans aI;have aK:c.get a.n=V (.cells [a1]):=(x 0 (by omega)).2.trans aH;have aL:c.get (a.n+1)=V (.cells [At b]):=(x 1 (by omega)).2.trans bd;have aM:c.get (a.n+2)=V (.cells [S [125]]):=(x 2 (by omega)).2.trans be;have K:=q.new (.cells [I i]);have bi:a.n<c.n:=(x 0 (by omega)).1.1;have bj:f.n<c.n:=L.1.1;have bk:(f.n==a.n)=false:=AE aq;have bl:a.n+1<c.n:=(x 1 (by omega)).1.1;have bm:a.n+2<c.n:=(x 2 (by omega)).1.1;have bn:(a.n+1==a.n)=false:=Ag;have bo:(a.n+2==a.n)=false:=Ag;rcases bT with⟨rfl,rfl⟩|⟨af,rfl,bp,bq,bU⟩
      ·have z:=K.new (.cells [I i])
       have a3:∀h,Bj c b h→Bj ((c.new (.cells [I i])).new (.cells [I i])) b h:=fun h e=>K.newAt (q.newAt e (.cells [I i])) (.cells [I i]);have aN:Bj ((c.new (.cells [I i])).new (.cells [I i])) b (c.n+1):=K.fresh (.cells [I i]);have ag:Bj ((c.new (.cells [I i])).new (.cells [I i])) b a.n:=a3 _ (x 0 (by omega)).1;obtain⟨aO,bV⟩:=z.put ag (by show f.n≤a.n;omega) (.cells [.slice (V ⟨c.n+1,0,W⟩) 1 1]);have a4:=fun h e=>z.putAt ag (d:=h) e (.cells [.slice (V ⟨c.n+1,0,W⟩) 1 1]);simp only[go_sem,Y,aK,bi,ab];refine aC (F,bh,[i]) _ _ ⟨aO,a4 _ (a3 _ L.1),?_,⟨_,Ai _ _,.inr ⟨c.n+1,J,?_,a4 _ aN,by omega⟩⟩,fun g m=>a4 _ (a3 _ (x g m).1),?_,?_,?_,?_,p⟩ (by show F<F+1;omega)
       ·simp only[go_sem,bk,bj,aJ]
       ·have aP:(c.n+1==a.n)=false:=Ag
        simp only[go_sem,aP];rfl
       ·simp only[go_sem,bn,bl,aL]
       ·simp only[go_sem,bo,bm,aM]
       ·simp only[go_sem,aa]
       simp only[go_sem,Y,ab]
      have an:∀(h:Nat) (a5:T),(∀j:Int,a5≠I j)→c.get h=V (.cells [a5])→(h==af)=false:=fun h a5 ap e=>Ag fun o=>by
       rw[o,bp]at e;cases l with
       |nil=>cases e
       |cons j l=>injection e with e;injection e with e;injection e with e;exact ap j e.symm
      have aQ:=an a.n _ (fun j o=>by cases o) aK;have br:=an f.n _ (fun j o=>by cases o) aJ;have bs:=an (a.n+1) _ (fun j o=>by cases o) aL;have bt:=an (a.n+2) _ (fun j o=>by cases o) aM;have bW:af<c.n:=bq.1;obtain⟨aR,bX⟩:=K.del (q.newAt bq (.cells [I i])) bU;have z:=aR.new (.cells (l.map (fun j=>I j)++[I i]));have a3:∀h,h≠af→Bj c b h→Bj (((c.new (.cells [I i])).del af).new (.cells (l.map (fun j=>I j)++[I i]))) b h:=fun h bY e=>aR.newAt (bX h bY (q.newAt e (.cells [I i]))) _;have aN:Bj (((c.new (.cells [I i])).del af).new (.cells (l.map (fun j=>I j)++[I i]))) b (c.n+1):=aR.fresh _;have ag:=a3 _ (AF aQ) (x 0 (by omega)).1;obtain⟨aO,bV⟩:=z.put ag (by show f.n≤a.n;omega) (.cells [.slice (V ⟨c.n+1,0,W⟩) (l.length+1) 1]);have a4:=fun h e=>z.putAt ag (d:=h) e (.cells [.slice (V ⟨c.n+1,0,W⟩) (l.length+1) 1]);have bZ:sub? (l.map fun j=>I j) 0 l.length=V (l.map fun j=>I j):=C2 (by simp);simp only[go_sem,Y,aK,bi,bp,bW,bZ,bS,aQ,ab];refine aC (F,bh,l++[i]) _ _ ⟨aO,a4 _ (a3 _ (AF br) L.1),?_,⟨_,Ai _ _,.inr ⟨c.n+1,?_,?_,a4 _ aN,by omega⟩⟩,fun g m=>a4 _ (a3 _ ?_ (x g m).1),?_,?_,?_,?_,p⟩ (by show F<F+1;omega)
      ·simp only[go_sem,bk,bj,br,aJ]
      ·simp
      ·have aP:(c.n+1==a.n)=false:=Ag
       simp only[go_sem,aP];simp
      ·have:g=0∨g=1∨g=2:=by omega
       rcases this with rfl|rfl|rfl
       ·exact AF aQ
       ·exact AF bs
       exact AF bt
      ·simp only[go_sem,bn,bl,bs,aL]
      ·simp only[go_sem,bo,bm,bt,aM]
      ·simp only[go_sem,aa]
      simp only[go_sem,Y,ab]
   refine⟨a8,b6.1,bP,⟨_,bL,.inl ⟨J,J⟩⟩,fun g m=>(a9 g (by omega)).1,bM,bN,?_,?_,bJ⟩<;>simp only[go_sem]
end
def QY(rec:Fq)(src:H):Nat→Fq
 |0,_=>W
 |k+1,a=>EP rec (IZ (QY rec src k) src) src a
def KL:List H:=[[105,110,116],[98,111,111,108],[116,101,120,116],[108,105,115,116]]
def typeOf(a:H):Int:=1+IV a KL 0
def AS(a:PN):Int×PN:=bif a.P.kind 4&& !(typeOf a.P.next.text==0)then(typeOf a.P.next.text,a.take)else(0,a.fail 20)
section
variable{b:Nat}{src:H}
theorem Zf{rec:Fq}(e:Jh b src rec)(a:src.length<2^40):∀k,Aku b src (QY rec src k)
 |0,_,_,_,_=>fun _ _ c=>by cases c
 |k+1,_,_,c,d=>Sy e (fun _ _ c d=>Wg (Zf e a k) a c d) a c d
theorem Auv{rec:Fq}(d:Jh b src rec)(a:src.length<2^40)(c:Nat):Aa5 b src (IZ (QY rec src c) src):=fun _ _ e f=>Wg (Zf d a c) a e f
theorem Aio(d:H):∀(c:List H) (a:Nat),-1≤IV d c a∧IV d c a<a+c.length+1
 |[],a=>by unfold IV;simp;omega
 |x::c,a=>by
  unfold IV;have:=Aio d c (a+1);cases(d==x)with
  |true=>simp only[Aa9,h_];omega
  |false=>simp only[Acf,h_];omega
theorem Ale(a:H)(c:AH):AR 150 [S a] c (fun d e=>d=I (typeOf a)∧Ext c e):=by have g:=Aio a KL 0;have h:KL.length=4:=J;have f:=Ap (n:=1+IV a KL 0) (by omega) (by omega);refine eF Tryz.func150 ?_;simp only[go_sem,Y];refine Aa (RA a KL (Ae _) (by decide)) ?_;rintro _ _ _ ⟨rfl,rfl⟩;simp only[go_sem,f];exact⟨J,Ext.new c _⟩
theorem AP.typed{a:PN}(i:AP f g b src a):AR 74 [At b] g (fun h c=>h=I (AS a).1∧AP f c b src (AS a).2∧BF b g c∧g.n≤c.n):=by
 refine Ok.mono (P:=fun h c=>h=I (AS a).1∧AP g c b src (AS a).2) ?_ fun h c k ⟨p,d⟩=>⟨p,i.to k d.w d.r d.k,d.k,k⟩;have q:=AP.start i.w i.r;refine eF Tryz.func74 ?_;simp only[go_sem];refine Aa q.next ?_;rintro _ c u ⟨rfl,l,_⟩;simp only[go_sem,Tok.val,Tok.cells];refine Aa (Ok.wf l.w (Ale a.P.next.text c)) ?_;rintro _ v r ⟨s,rfl,t⟩;have d:=l.ext r s t;simp only[go_sem];refine Aa (d.kind 4) ?_;rintro _ w x ⟨rfl,j,_⟩;unfold AS;cases y:a.P.kind 4 with
 |false=>
  simp only[go_sem,Y];refine Aa (j.fail 20) ?_;rintro _ m n ⟨rfl,e,_⟩;simp only[go_sem];exact e
 |true=>
  cases o:(typeOf a.P.next.text==0)with
  |true=>
   simp only[go_sem,Y,o];refine Aa (j.fail 20) ?_;rintro _ m n ⟨rfl,e,_⟩;simp only[go_sem];exact e
  |false=>
   simp only[go_sem,Y,o];refine Aa j.take ?_;rintro _ m n ⟨rfl,e,_⟩;simp only[go_sem,Y];exact e
abbrev Pm:=H×Int
def Bi:List Pm→E
 |[]=>[]
 |a::c=>S a.1::I a.2::Bi c
theorem M3:∀(a c:List Pm),Bi (a++c)=Bi a++Bi c
 |[],_=>rfl
 |d::a,c=>by simp[Bi,M3 a c]
theorem Ho:∀a:List Pm,(Bi a).length=a.length*2
 |[]=>rfl
 |c::a=>by simp[Bi,Ho a];omega
structure Fn where
 name:H
 line:Int
 params:List Pm
 ret:Int
 body:Int
def PF(f d:AH)(b:Nat)(e:T)(c:List Pm):Prop:=(c=[]∧e=.slice W 0 0)∨(∃a,e=.slice (V ⟨a,0,W⟩) c.length 2∧d.get a=V (.cells (Bi c))∧Bj d b a∧f.n≤a)
theorem PF.Ak{f h c:AH}{g:List Pm}(d:PF f h b v g)(i:∀a,Bj h b a→Bj c b a∧c.get a=h.get a):PF f c b v g:=by
 rcases d with d|⟨e,k,l,j,m⟩
 ·exact .inl d
 exact .inr ⟨e,k,(i e j).2.trans l,(i e j).1,m⟩
theorem PF.one{c:List Pm}(d:PF f g b v c):Aq v=[v]∧v.oneCell'=true∧∀a,IA a v v=true:=by rcases d with⟨_,rfl⟩|⟨e,rfl,_⟩<;>exact⟨J,J,fun a=>HW a _ _ _⟩
def DT:Nat→Bool→PN→List Pm→Option (List Pm×PN)
 |0,_,_,_=>W
 |f+1,g,a,d=>bif g then Nl (decide (d.length<900000))
   (let e:PN:={a with P:=a.P.name.2}
   let c:=(AS e).2
   DT f (c.P.is [[44]]) (bif c.P.is [[44]]then c.take else c) (d++[(a.P.name.1,(AS e).1)]))else V (d,a)
def Gb:H:=[102,110]
def SE(a:PN):Option (List Pm×PN):=bif a.P.is [[41]]then V ([],a.take)else(DT 1000 (a.P.e==0) a []).bind fun c=>V (c.1,c.2.Ao [41])
theorem Al4{a4 aB:PN}{aC:List Pm}(aD:AP f g b src a4){B e:Nat}(aE:Bj g b B)(aX:g.get B=V (.cells [At b]))(ab:Bj g b e)(aF:g.get e=V (.cells [S s,I x,.slice W 0 0,I 0,I 0]))(aG:(B==e)=false)(aH:f.n≤e)
  (w:SE (a4.Ao [40])=V (aC,aB)):
  AR 72 [At b,.func (.func 73) #[] #[AA B,AA e]] g (fun a y=>a=.tuple #[]∧AP f y b src aB∧(∀c,Bj g b c→c≠e→Bj y b c∧y.get c=g.get c)∧Bj y b e∧∃a1,y.get e=V (.cells [S s,I x,a1,I 0,I 0])∧PF g y b a1 aC):=by
 refine eF Tryz.func72 ?_;simp only[go_sem];refine Aa (aD.Ao [40]) ?_;rintro _ y ac ⟨rfl,aY,ai,_⟩;simp only[go_sem];refine Aa (aY.has [41]) ?_;rintro _ aI aj ⟨rfl,a5,aJ,_⟩;have a2:∀c,Bj g b c→Bj aI b c∧aI.get c=g.get c:=fun c d=>⟨((d.Ak ac ai).1.Ak aj aJ).1,((d.Ak ac ai).1.Ak aj aJ).2.trans (d.Ak ac ai).2⟩;unfold SE at w;cases aK:(a4.Ao [40]).P.is [[41]]with
 |true=>
  simp only[aK,Aa9]at w a5;cases w;simp only[go_sem];exact⟨a5,fun c d _=>a2 c d,(a2 e ab).1,_,(a2 e ab).2.trans aF,.inl ⟨J,J⟩⟩
 |false=>
  simp only[aK,Acf]at w a5;obtain⟨⟨aZ,b0⟩,b1,w⟩:=a_.1 w;cases w;obtain⟨bd,be,b2,_⟩:=a5.G4;simp only[go_sem,b2];refine AG (fun(o:Nat×Bool×PN×List Pm) ad i=>AP f i b src o.2.2.1∧g.n≤i.n∧(∀c,Bj g b c→c≠e→Bj i b c∧i.get c=g.get c)∧Bj i b e∧(∃a1,i.get e=V (.cells [S s,I x,a1,I 0,I 0])∧PF g i b a1 o.2.2.2)∧
   ad.at 0=At b∧ad.at 1=.func (.func 73) #[] #[AA B,AA e]∧ad.at 4=.bool o.2.1∧DT o.1 o.2.1 o.2.2.1 o.2.2.2=V (aZ,b0)) (fun o=>o.1) ?_ (1000,(a4.Ao [40]).P.e==0,a4.Ao [40],[]) ?_
  ·rintro⟨u,b3,a,n⟩ ad i ⟨ak,bf,z,A,⟨a1,v,al⟩,a6,am,an,p⟩ ao
   dsimp only at ak al an p ao;cases u with
   |zero=>cases p
   |succ u=>
   cases b3 with
   |false=>
    simp only[DT,Acf]at p;cases p;simp only[go_sem,a6,an];refine Aa (ak.Ao [41]) ?_;rintro _ k m ⟨rfl,F,K,_⟩;simp only[go_sem];exact⟨F,fun c d q=>⟨((z c d q).1.Ak m K).1,((z c d q).1.Ak m K).2.trans (z c d q).2⟩,(A.Ak m K).1,_,(A.Ak m K).2.trans v,al.Ak fun c d=>d.Ak m K⟩
   |true=>
    simp only[DT,Aa9]at p;obtain⟨aL,p⟩:=AV (show cond _ _ W=_ from p);have aL:=Acw aL;have aM:=(z B aE (AF aG)).2.trans aX;simp only[go_sem,Y,am,an];refine di Tryz.func73 J J J ?_;simp only[go_sem,aM];refine Aa ak.name ?_;rintro _ k m ⟨rfl,F,K,_⟩;have aN:=F.new (.cells [S [],I 0]);have aO:=F.fresh (.cells [S [],I 0]);obtain⟨b4,b5⟩:=aN.put aO F.n (.cells [S a.P.name.1,I 0]);have ae:∀c,Bj i b c→Bj ((k.new (.cells [S [],I 0])).put k.n (.cells [S a.P.name.1,I 0])) b c∧((k.new (.cells [S [],I 0])).put k.n (.cells [S a.P.name.1,I 0])).get c=i.get c:=fun c d=>by
     have j:=d.Ak m K;refine⟨aN.putAt aO (F.newAt j.1 _) _,?_⟩;have:=j.1.1;simp only[go_sem,this,j.2]
    have b6:=(ae B (z B aE (AF aG)).1).2.trans aM;simp only[go_sem,Y,b6];refine Aa b4.typed ?_;rintro _ h ap ⟨rfl,aP,aq,_⟩;have af:=b5.Ak ap aq;have aQ:=af.2.trans (Ai _ _);have bg:k.n<h.n:=af.1.1;have a3:∀c,Bj i b c→Bj h b c∧h.get c=i.get c:=fun c d=>⟨((ae c d).1.Ak ap aq).1,((ae c d).1.Ak ap aq).2.trans (ae c d).2⟩;obtain⟨aR,bh⟩:=aP.put af.1 F.n (.cells [S a.P.name.1,I (AS {a with P:=a.P.name.2}).1]);have ar:∀c,Bj i b c→Bj (h.put k.n (.cells [S a.P.name.1,I (AS {a with P:=a.P.name.2}).1])) b c∧(h.put k.n (.cells [S a.P.name.1,I (AS {a with P:=a.P.name.2}).1])).get c=i.get c:=fun c d=>by
     refine⟨aP.putAt af.1 (a3 c d).1 _,?_⟩;have j:(c==k.n)=false:=AE (d_ d.1 m);simp only[go_sem,j,(a3 c d).2]
    have aS:=(a3 e A).2.trans v;have aT:(e==k.n)=false:=AE (d_ A.1 m);have aU:e<h.n:=(a3 e A).1.1;have b7:Z (n.length+1) 1000000=true:=Eg;have a7:=aR.new (.cells [S a.P.name.1,I (AS {a with P:=a.P.name.2}).1]);have r:∀c,Bj i b c→Bj ((h.put k.n (.cells [S a.P.name.1,I (AS {a with P:=a.P.name.2}).1])).new (.cells [S a.P.name.1,I (AS {a with P:=a.P.name.2}).1])) b c∧
      ((h.put k.n (.cells [S a.P.name.1,I (AS {a with P:=a.P.name.2}).1])).new (.cells [S a.P.name.1,I (AS {a with P:=a.P.name.2}).1])).get c=i.get c:=fun c d=>⟨aR.newAt (ar c d).1 _,(An _ (AE (ar c d).1.1)).trans (ar c d).2⟩
    have bi:i.n≤h.n:=g_ m (by omega);rcases al with⟨rfl,rfl⟩|⟨L,rfl,aV,ag,bj⟩
    ·have N:=a7.new (.cells [S a.P.name.1,I (AS {a with P:=a.P.name.2}).1])
     have a0:=a7.newAt (r e A).1 (.cells [S a.P.name.1,I (AS {a with P:=a.P.name.2}).1]);have au:=a7.fresh (.cells [S a.P.name.1,I (AS {a with P:=a.P.name.2}).1]);obtain⟨av,a8⟩:=N.put a0 aH (.cells [S s,I x,.slice (V ⟨h.n+1,0,W⟩) 1 2,I 0,I 0]);have a9:=N.putAt a0 au (.cells [S s,I x,.slice (V ⟨h.n+1,0,W⟩) 1 2,I 0,I 0]);simp only[go_sem,Y,aQ,aT,aS,aU,a6];refine Aa (av.has [44]) ?_;rintro _ aw j ⟨rfl,ax,l,_⟩;simp only[go_sem];refine ao (u,(AS {a with P:=a.P.name.2}).2.P.is [[44]],bif (AS {a with P:=a.P.name.2}).2.P.is [[44]]then(AS {a with P:=a.P.name.2}).2.take else(AS {a with P:=a.P.name.2}).2,[(a.P.name.1,(AS {a with P:=a.P.name.2}).1)]) _ _ ⟨ax,?_,fun c d q=>?_,(a8.Ak j l).1,⟨_,(a8.Ak j l).2.trans (Ai _ _),.inr ⟨h.n+1,J,(a9.Ak j l).2.trans ?_,(a9.Ak j l).1,by omega⟩⟩,?_,?_,?_,p⟩ (by show u<u+1;omega)
     ·have:h.n+2≤aw.n:=j
      omega
     ·have t:=z c d q
      have aa:=N.putAt a0 (a7.newAt (r c t.1).1 (.cells [S a.P.name.1,I (AS {a with P:=a.P.name.2}).1])) (.cells [S s,I x,.slice (V ⟨h.n+1,0,W⟩) 1 2,I 0,I 0]);refine⟨(aa.Ak j l).1,(aa.Ak j l).2.trans ((Ab _ (Ag q)).trans ((An _ (AE (r c t.1).1.1)).trans ((r c t.1).2.trans t.2)))⟩
     ·have ay:(h.n+1==e)=false:=Ag
      simp only[go_sem,ay];rfl
     ·simp only[go_sem,a6]
     ·simp only[go_sem,Y,am]
     simp only[go_sem]
    have aW:(e==L)=false:=Ag fun b8=>by
     rw[b8,aV]at v;injection v with v
     injection v with v
     have:=Akv List.length v;rw[Ho]at this;simp at this;omega
    have bk:=aD.n;obtain⟨ah,az⟩:=a7.del (r L ag).1 (by omega);have N:=ah.new (.cells (Bi n++[S a.P.name.1,I (AS {a with P:=a.P.name.2}).1]));have a0:=ah.newAt (az e (AF aW) (r e A).1) (.cells (Bi n++[S a.P.name.1,I (AS {a with P:=a.P.name.2}).1]));have au:=ah.fresh (.cells (Bi n++[S a.P.name.1,I (AS {a with P:=a.P.name.2}).1]));obtain⟨av,a8⟩:=N.put a0 aH (.cells [S s,I x,.slice (V ⟨h.n+1,0,W⟩) (n.length+1) 2,I 0,I 0]);have a9:=N.putAt a0 au (.cells [S s,I x,.slice (V ⟨h.n+1,0,W⟩) (n.length+1) 2,I 0,I 0]);have b9:=(a3 L ag).2.trans aV;have ba:(L==k.n)=false:=AE (d_ ag.1 m);have bb:L<h.n:=(a3 L ag).1.1;have bc:=C2 (Ho n);simp only[go_sem,Y,aQ,aT,aS,aU,a6,b9,ba,bb,bc,b7,aW];refine Aa (av.has [44]) ?_;rintro _ aw j ⟨rfl,ax,l,_⟩;simp only[go_sem];refine ao (u,(AS {a with P:=a.P.name.2}).2.P.is [[44]],bif (AS {a with P:=a.P.name.2}).2.P.is [[44]]then(AS {a with P:=a.P.name.2}).2.take else(AS {a with P:=a.P.name.2}).2,n++[(a.P.name.1,(AS {a with P:=a.P.name.2}).1)]) _ _ ⟨ax,?_,fun c d q=>?_,(a8.Ak j l).1,⟨_,(a8.Ak j l).2.trans (Ai _ _),.inr ⟨h.n+1,?_,(a9.Ak j l).2.trans ?_,(a9.Ak j l).1,by omega⟩⟩,?_,?_,?_,p⟩ (by show u<u+1;omega)
    ·have:h.n+2≤aw.n:=j
     omega
    ·have t:=z c d q
     have aA:c≠L:=by have:=d.1;omega
     have aa:=N.putAt a0 (ah.newAt (az c aA (r c t.1).1) (.cells (Bi n++[S a.P.name.1,I (AS {a with P:=a.P.name.2}).1]))) (.cells [S s,I x,.slice (V ⟨h.n+1,0,W⟩) (n.length+1) 2,I 0,I 0]);refine⟨(aa.Ak j l).1,(aa.Ak j l).2.trans ((Ab _ (Ag q)).trans ((An _ (AE (az c aA (r c t.1).1).1)).trans ((CL (Ag aA)).trans ((r c t.1).2.trans t.2))))⟩
    ·simp
    ·have ay:(h.n+1==e)=false:=Ag
     simp only[go_sem,ay,M3];rfl
    ·simp only[go_sem,a6]
    ·simp only[go_sem,Y,am]
    simp only[go_sem]
  refine⟨a5,g_ ac aj,fun c d _=>a2 c d,(a2 e ab).1,⟨_,(a2 e ab).2.trans aF,.inl ⟨J,J⟩⟩,?_,?_,?_,b1⟩<;>simp only[go_sem,Y]
end
end
end Go.Proofs.YtebhflkemdlbkaaGreatDoor
