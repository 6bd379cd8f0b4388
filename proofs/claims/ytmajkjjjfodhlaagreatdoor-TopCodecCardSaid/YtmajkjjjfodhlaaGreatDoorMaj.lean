/- Part Maj. No condition of its own. -/
import Derived.Test.YtmajkjjjfodhlaaGreatDoorMai
namespace Go.Proofs.YtmajkjjjfodhlaaGreatDoor
open Go.RowKit Tryz
set_option linter.all false
set_option maxRecDepth 100000
set_option maxHeartbeats 8000000
theorem He:type_of%@AllReadyH.cons:=@AllReadyH.cons
theorem HF:type_of%@AllReadyH.nil:=@AllReadyH.nil
theorem HN:type_of%@wpAnyH_ready:=@wpAnyH_ready
theorem J4:type_of%@Bool.or_eq_true:=@Bool.or_eq_true
theorem KV:type_of%@ByteArray.size_extract:=@ByteArray.size_extract
theorem M1:type_of%@of_decide_eq_true:=@of_decide_eq_true
theorem M2:type_of%@Act.put_comm:=@Act.put_comm
theorem M3:type_of%@ByteArray.size_append:=@ByteArray.size_append
theorem S9:type_of%@Array.toList_append:=@Array.toList_append
theorem TV:type_of%@Go.WideShapes.bytes_inj:=@Go.WideShapes.bytes_inj
theorem V3:type_of%@Array.setIfInBounds_comm:=@Array.setIfInBounds_comm
theorem V6:type_of%@Array.toList_extract:=@Array.toList_extract
theorem V9:type_of%@ByteArray.data_append:=@ByteArray.data_append
theorem Wb:type_of%@ByteArray.data_extract:=@ByteArray.data_extract
theorem WA:type_of%@List.extract_eq_take_drop:=@List.extract_eq_take_drop
theorem W2:type_of%@List.mem_take_iff_getElem:=@List.mem_take_iff_getElem
theorem UX:∀(f:Nat) (l:List UInt8) (i n a j:Nat),Ew f l i n=some (a,j)->i<j/\j<=i+l.length/\a<1099511627776
 |0,_,_,_,_,_,h=>by cases h
 |_+1,[],_,_,_,_,h=>by cases h
 |f+1,b::l,i,n,a,j,h=>by
  rw[Ew] at h;split at h
  ·have:=UX f l _ _ _ _ h;simp;omega
  ·split at h
   ·cases h
   ·injection h with h;injection h with h1 h2;simp;omega
theorem Qz{s:ByteArray}{p:Int}{n q:Nat}(h:CN s p=some (n,q)):p<q/\q<=s.size/\n<1099511627776:=by
 unfold CN at h;split at h
 ·rename_i hp;obtain⟨⟨a,j⟩,h1,h2⟩:=Option.map_eq_some_iff.1 h;injection h2 with h2 h3;have:=UX _ _ _ _ _ _ h1;simp at this h2 h3;omega
 ·cases h
def FK(s:ByteArray):Nat->Nat->List Int->Option (List Int×Nat)
 |0,p,a=>some (a,p)
 |n+1,p,a=>match CN s p with
  |none=>none
  |some (x,q)=>FK s n q (a++[(x:Int)])
def Ey(s:ByteArray)(p:Int):Option (List Int×Nat):=
 match CN s p with
 |none=>none
 |some (m,q)=>if s.size<q+m then none else FK s m q []
def UY(b:Option (List Int×Nat))(n0:Nat)(e:Ending)(w':World):Prop:=
 match b with
 |none=>e= .returned (.tuple #[.slice none 0 0, .int .i64 0, .bool false])
 |some (l,p)=>∃a cap,e= .returned (.tuple #[.slice a l.length cap, p, .bool true])/\w'.ownsRow n0 3 1 (.slice a l.length cap) l.length (l.map (Value.int .i64))
def eO(s:ByteArray)(m b:Nat)(w:World)(up d e c:Value)(wr:World):Prop:=
 ∃(i q:Nat) (a:List Int),d= .bool true/\up= .int .i64 q/\c= .int .i64 i/\i<=m/\q<=s.size/\Hid (a.length=i)/\Hid (FK s (m-i) q a=FK s m b [])/\Hid (wr.ownsRow w.heap.size 3 1 e a.length (a.map (Value.int .i64)))/\Below w w wr
theorem UZ(s:ByteArray)(p:Int)(w:World)(hs:s.size<=92233720368547):
 Calls prog 135 #[.string s, p] w λe w'=>UY (Ey s p) w.heap.size e w'/\Below w w w':=by
 have D:(prog.info? 3).map (λi=>(i.zero,i.size,i.bytes))=some (some (.int .i64 0),1,8):=by kernel_rfl
 obtain⟨i0,C,F,G,H⟩:=BW D;have c:=N0 s p w (by omega);cases a:CN s p with
 |none=>
  have f:Hid (Ey s p=none):=by unfold Hid Ey;rw[a]
  rw[a] at c;simp only[Ha] at c;clear a;go_enter func135,ntmps135;go_wp2_with fail;refine c.mono ?_;rintro e l ⟨rfl,rfl⟩;go_wp2_with fail
  go_ret3
  exact⟨by rw[f.out];rfl,A2 _ _⟩
 |some r=>
  obtain⟨m,q⟩:=r;obtain⟨h1,h2,h3⟩:=Qz a;rw[a] at c;simp only[Ha] at c;by_cases u:s.size<q+m
  ·have f:Hid (Ey s p=none):=by unfold Hid Ey;rw[a];exact A4 u
   have b1:decide ((s.size:Int) -(q:Int)<(m:Int))=true:=Hc (by omega);clear a;go_enter func135,ntmps135;go_wp2_with fail;refine c.mono ?_;rintro e l ⟨rfl,rfl⟩;go_wp2_with fail
   go_ret3
   exact⟨by rw[f.out];rfl,A2 _ _⟩
  ·have f:Hid (Ey s p=FK s m q []):=by unfold Hid Ey;rw[a];exact A3 u
   have b1:decide ((s.size:Int) -(q:Int)<(m:Int))=false:=A6 (by omega);clear a;go_enter func135,ntmps135;go_wp2_with fail;refine c.mono ?_;rintro e l ⟨rfl,rfl⟩;go_wp2_with fail;go_loopw [1,8,9,29] (λup J K t wr=>eO s m q w up J K t wr) (λ_ _ _ t _=>m-(intOf t).toNat)
   case atStart=>exact⟨0,q,[],rfl,rfl,rfl,A7 _,h2,rfl,rfl,C2 _ _ _ _,A2 _ _⟩
   case round=>
    obtain⟨i,g,d,rfl,rfl,rfl,O,S,ha,k,j,hb⟩:=hrel;obtain⟨a1,c1,rfl,R,_⟩:=Aw j;have h:=A0 hb;have N:=hb.size;clear hb c;have M:d.length<=i:=Nat.le_of_eq ha;by_cases P:i<m
    ·have L:(i:Int)<(m:Int):=by omega
     have c:=N0 s g wr (by omega);have o:Hid (FK s (m-i) g d=match CN s g with|none=>none|some (x,q)=>FK s (m-(i+1)) q (d++[(x:Int)])):=by
      unfold Hid;rw[show m-i=(m-(i+1))+1 by omega,FK]
     cases a:CN s g with
     |none=>
      have n:Hid (Ey s p=none):=by unfold Hid;rw[f.out,<-k.out,o.out,a]
      rw[a] at c;simp only[Ha] at c;clear a;go_wp2_with fail;refine c.mono ?_;rintro e l ⟨rfl,rfl⟩;go_wp2_with fail
      go_ret3
      exact⟨by rw[n.out];rfl,h⟩
     |some r=>
      obtain⟨x,v⟩:=r;obtain⟨T,I,U⟩:=Qz a;have y:Hid (FK s (m-(i+1)) v (d++[(x:Int)])=FK s m q []):=by unfold Hid;rw[<-k.out,o.out,a]
      rw[a] at c;simp only[Ha] at c;clear a o k;go_wp2_with fail;refine c.mono ?_;rintro e l ⟨rfl,rfl⟩;go_wp2_with (first
       |(at_builtin;refine F0 _ rfl _ _ 73 rfl w.heap.size 3 i0 (.int .i64 0) 1 8 underlying73 C F G H rfl (by decide) (.slice a1 d.length c1) _ _ rfl (j.alloc _) ⟨wr,0,none⟩ 1 1 [x] rfl rfl (Hx _ _ _) (by simp[Value.oneCell']) (by simp[maxLen];omega) (by omega) (by simp;omega) ?_;intro V W E B _ Q)
       |fail)
      have z:=(h.alloc h.size _).grown B (by simp;omega) (λb A=>Ah j b A);exact⟨⟨i+1,v,d++[(x:Int)],rfl,rfl,by go_num,by omega,I,by unfold Hid;have:=ha.out;simp;omega,y,by unfold Hid;simpa using E,z⟩,by simp[intOf];omega⟩
    ·obtain rfl:i=m:=by omega
     have n:Hid (Ey s p=some (d,g)):=by unfold Hid;rw[f.out,<-k.out,Hr];rfl
     go_wp2_with fail
     go_ret3
     exact⟨by rw[n.out];exact⟨a1,c1,rfl,j⟩,h⟩
section
section
variable {P:Program} {l:List Oper} {Q:Exit→Act→World→Prop} {a:Act} {w:World} {S:World→Prop}
theorem BM{id:Nat}(hm:P.follows .mixedOrders=true)(n:Nat)(c:l.toArray.size=n)(b:S w.drew)
 (h:S w.drew->wpAnyH P .any l.toArray Q S n (Array.replicate n false) a w.drew):(Code.region id l.toArray true).wp P Q a w:=by
 subst c;exact wp_region_held hm (h b)
theorem QA{d:Nat}{b:Array Bool}{o:Oper}{v:Value}(k:Nat)(g:l[k]?=some o)(hs:Region.noSelect l.toArray=true)
 (hf:Region.free .any l.toArray b k=true)(hr:(Region.ready .any l.toArray b).contains k=true)
 (e:∀c a w,Q (.panic c) (a.put o.dst v) w->Q (.panic c) a w)(i:Region.wanted o (yielded l.toArray a.tmps)=true)
 (hy:∀w,S w->(execOp a.eval o).run P w= .ok (.value v) w)(f:S w)
 (h:wpAnyH P .any l.toArray Q S d (b.setIfInBounds k true) (a.put o.dst v) w):wpAnyH P .any l.toArray Q S (d+1) b a w:=
 wpAnyH_take (by simpa using g) hs hf hr e (Or.inl ⟨i,hy⟩) f h
theorem Hg{d:Nat}{b:Array Bool}{o:Oper}(k:Nat)(g:l[k]?=some o)(hs:Region.noSelect l.toArray=true)
 (hf:Region.free .any l.toArray b k=true)(hr:(Region.ready .any l.toArray b).contains k=true)
 (e:∀c a w,Q (.panic c) (a.put o.dst undef) w->Q (.panic c) a w)(i:Region.wanted o (yielded l.toArray a.tmps)=false)(f:S w)
 (h:wpAnyH P .any l.toArray Q S d (b.setIfInBounds k true) (a.put o.dst undef) w):wpAnyH P .any l.toArray Q S (d+1) b a w:=
 wpAnyH_take (by simpa using g) hs hf hr e (Or.inr ⟨i,rfl⟩) f h
theorem eP{d:Nat}{c:Array Bool}{o:Oper}(k:Nat)(f:l[k]?=some o)(hr:Region.ready .any l.toArray c=[k])
 (h:∀b:Act->World->Prop,Hid (∀a w,S w->(S w->wpAnyH P .any l.toArray Q S d (c.setIfInBounds k true) a w)->b a w)->if Region.wanted o (yielded l.toArray a.tmps)=true then Oper.wp P o a w b Q else b (a.put o.dst undef) w):
 wpAnyH P .any l.toArray Q S (d+1) c a w:=
 HN hr (by simp) (He (by simpa using f) (λb e=>h b e) HF)
theorem Bc{c:Array Bool}(hr:Region.ready .any l.toArray c=[])(h:Q .normal a w)(b:Nat):wpAnyH P .any l.toArray Q S b c a w:=
 wpAnyH_done hr h b
end
end
section
section
variable {F:Fence} {n:Nat} {P:Program} {ops:Array Oper} {Q:Exit→Act→World→Prop} {md:Region.Mode} {S:World→Prop}
def Ir(P:Program)(ops:Array Oper)(S:World->Prop)(o:Oper)(v:Value)(a:Act):Prop:=YieldsIf P ops S o v a/\∀w,o.about P w a.eval=none
theorem U0{i:Nat}{o:Oper}{v:Value}{a:Act}(j:∀c,o.op≠ .defer c)(g:ops[i]?=some o)(hy:Ir P ops S o v a){K:Act->World->Prop}{w:World}(e:S w)(h:K (a.put o.dst v) w):wpOpIn F n P ops Q i K a w:=by
 unfold wpOpIn;simp only[g];have d:∀f,o.about P w a.eval=some f->F.fn f:=λf hf=>by rw[hy.2 w] at hf;cases hf
 rcases hy.1 with⟨b,k⟩|⟨b,rfl⟩
 ·simp only[b,if_true,Oper.wpIn,Oper.semAt_plain F _ o j,k w e,Oper.uponIn];exact⟨d,h⟩
 ·simp only[b,Bool.false_eq_true,if_false];exact⟨d,h⟩
theorem U1{o:Oper}{v:Value}{a b:Act}(hy:Ir P ops S o v a)(c:execOp b.eval o=execOp a.eval o)(d:Region.wanted o (yielded ops b.tmps)=Region.wanted o (yielded ops a.tmps))(hb:∀w,o.about P w b.eval=o.about P w a.eval):Ir P ops S o v b:=
 ⟨hy.1.of_same c d,λw=>by rw[hb w];exact hy.2 w⟩
theorem eQ{j:Nat}{g i:Oper}{v:Value}(q:∀c,i.op≠ .defer c)(t:ops[j]?=some i)(s:g.apart ops i=true)
 (y:∀cs b,g.op≠ .select cs b)(z:∀cs b,i.op≠ .select cs b)
 (m:∀c a w,Q (.panic c) (a.put g.dst v) w->Q (.panic c) a w){K:Act->World->Prop}{a:Act}{w:World}
 (hy:Ir P ops S g v a)(h:wpOpIn F n P ops Q j K (a.put g.dst v) w):wpOpIn F n P ops Q j (λp w'=>Ir P ops S g v p/\K (p.put g.dst v) w') a w:=by
 obtain⟨h1,h2,h3⟩:=Oper.apart_spec s;have keep:∀(a:Act),Ir P ops S g v a->∀u,Ir P ops S g v (a.put i.dst u):=λa hy u=>
  U1 hy (execOp_put g y a i.dst u h3) (wanted_put g a i.dst u h3) (λw=>about_put g w a i.dst u h3)
 have BB:∀d,Ir P ops S g v {a with defers:=d::a.defers}:=λd=>U1 hy rfl rfl (λ_=>rfl);unfold wpOpIn at*;simp only[t] at*;rw[wanted_put i a g.dst v h1,about_put i w a g.dst v h1] at h;split
 ·rename_i o;simp only[o,if_true] at h;unfold Oper.wpIn at*;rw[about_put i w a g.dst v h1] at h;refine⟨h.1,?_⟩;have h:=h.2;rw[Oper.semAt_plain F _ i q,execOp_put i z a g.dst v h1] at h;rw[Oper.semAt_plain F _ i q];generalize (execOp a.eval i).run P w=A at*;cases A with
  |ok x w'=>
   cases x<;>simp only[Oper.uponIn] at h⊢
   case value u=>exact⟨keep a hy u,by rw[<-M2 a v u h2];exact h⟩
   case skip=>exact⟨keep a hy _,by rw[<-M2 a v undef h2];exact h⟩
   case defer d=>
    refine⟨keep _ (BB d) _,?_⟩;rw[<-M2 _ v undef h2,<-Act.put_defers];exact h
   case enter f args=>
    refine⟨h.1,CallsIn.mono h.2 λe r k=>?_⟩;cases e with
    |returned u=>exact⟨keep a hy u,by rw[<-M2 a v u h2];exact k⟩
    |panicked c=>exact m _ _ _ k
    |outgrown=>exact k
   case row row args=>exact⟨h.1,RowsIn.mono h.2 λu r k=>⟨keep a hy u,by rw[<-M2 a v u h2];exact k⟩⟩
   case round l f tmps assign body=>
    refine⟨h.1,RoundIn.mono h.2 λe r k=>?_⟩;cases e with
    |returned u=>exact⟨keep a hy u,by rw[<-M2 a v u h2];exact k⟩
    |panicked c=>exact m _ _ _ k
    |outgrown=>exact k
  |halt x w'=>
   cases x<;>simp only[Oper.uponIn] at h⊢
   case panic u=>exact m _ _ _ h
 ·rename_i o;simp only[o] at h;exact⟨h.1,keep a hy _,by rw[<-M2 a v undef h2];exact h.2⟩
def Gb(c:Region.Mode)(ops:Array Oper)(a:Array Bool):Prop:=∀j b,ops[j]?=some b->a.getD j true=true->∀e∈b.after,Region.binds c e=true->a.getD e.on false=true
def JT(a:Region.Mode)(ops:Array Oper):Nat->Nat->List Nat
 |0,_=>[]
 |m+1,j=>match ops[j]? with
  |none=>[]
  |some o=>(o.after.toList.filter λe=>Region.binds a e).flatMap λe=>e.on::JT a ops m e.on
theorem U2{a:Array Bool}{d:Nat}(h:a.getD d false=true):a.getD d true=true:=by
 simp only[Array.getD_eq_getD_getElem?] at*;cases hd:a[d]? with
 |none=>rfl
 |some b=>rw[hd] at h;exact h
theorem eR{c:Array Bool}(h:Gb md ops c):∀(m j:Nat) (a:Oper),ops[j]?=some a->(∀e∈a.after,Region.binds md e=true->c.getD e.on false=true)->∀d∈JT md ops m j,c.getD d false=true:=by
 intro m;induction m with
 |zero=>intro j a _ _ d hd;cases hd
 |succ m p=>
  intro j a n g d hd;rw[JT,n] at hd;obtain⟨e,i,hd⟩:=L1.1 hd;obtain⟨k,l⟩:=HK.1 i;have f:=g e (by simpa using k) l;rcases Dn.1 hd with rfl|hd
  ·exact f
  ·cases b:ops[e.on]? with
   |none=>
    cases m with
    |zero=>cases hd
    |succ m=>rw[JT,b] at hd;cases hd
   |some o=>exact p e.on o b (h e.on o b (U2 f)) d hd
theorem QB{a:Array Bool}(h:Gb md ops a){j:Nat}(g:j∈Region.ready md ops a):Gb md ops (a.setIfInBounds j true):=by
 intro k ok hk hl e b hb;obtain⟨_,i,d,f⟩:=mem_ready.1 g;by_cases c:j=k
 ·subst c;rw[hk] at d;cases d
  exact getD_set_true (f e b hb)
 ·rw[getD_set_ne true c] at hl;exact getD_set_true (h k ok hk hl e b hb)
def Dj(F:Fence)(n:Nat)(P:Program)(c:Region.Mode)(ops:Array Oper)(Q:Exit->Act->World->Prop)(S:World->Prop)(d:Nat):Nat->Array Bool->Act->World->Prop
 |0,b,a,w=>Region.ready c ops b=[]/\Q .normal a w
 |fuel+1,b,a,w=>(Region.ready c ops b=[]->Q .normal a w)/\
  ∀i∈Region.ready c ops b,wpOpIn F n P ops Q i (λe w'=>(i<d->S w')/\Dj F n P c ops Q S d fuel (b.setIfInBounds i true) e w') a w
theorem U3{f:Nat}:∀(fuel:Nat) (b:Array Bool) (a:Act) (w:World),Dj F n P md ops Q S f fuel b a w->wpAnyIn F n P md ops Q fuel b a w
 |0,_,_,_,h=>h
 |fuel+1,_,_,_,h=>⟨h.1,λi e=>wpOpIn_mono (λc w' d=>U3 fuel _ c w' d.2) (h.2 i e)⟩
theorem eT{x m:Nat}{i:Nat}{l:Oper}{v:Value}(z:∀(j:Nat) (o:Oper) c,ops[j]?=some o->o.op≠ .defer c)(s:ops[i]?=some l)(E:∀(j:Nat) (o:Oper) cs b,ops[j]?=some o->o.op≠ .select cs b)(J:∀c a w,Q (.panic c) (a.put l.dst v) w->Q (.panic c) a w)
 (K:∀j,x<=j->j<ops.size->i∈JT md ops m j):
 ∀(q:Nat) (d:Array Bool) (a:Act) (w:World),Gb md ops d->
  (∀j g,ops[j]?=some g->j≠i->d.getD j true=false->(∀e∈g.after,Region.binds md e=true->e.on≠i)->l.apart ops g=true)->
  i∈Region.ready md ops d->Ir P ops S l v a->S w->
  Dj F n P md ops Q S x q (d.setIfInBounds i true) (a.put l.dst v) w->Dj F n P md ops Q S x (q+1) d a w:=by
 intro q;induction q with
 |zero=>
  intro d a w _ _ hr hy r H;refine⟨λh=>(by rw[h] at hr;cases hr),λj t=>?_⟩;by_cases f:j=i
  ·subst f;exact U0 (λc=>z _ _ c s) s hy r ⟨λ_=>r,H⟩
  ·have:=ready_mono t f;rw[H.1] at this;cases this
 |succ q U=>
  intro d a w B C hr hy r H;refine⟨λh=>(by rw[h] at hr;cases hr),λj t=>?_⟩;by_cases f:j=i
  ·subst f;exact U0 (λc=>z _ _ c s) s hy r ⟨λ_=>r,H⟩
  ·have h1:=H.2 j (ready_mono t f);obtain⟨D,g,p,A⟩:=mem_ready.1 t;have u:j<x:=by
    rcases BZ j x with h|h
    ·exact h
    ·have h2:=U2 (eR B m j g p A i (K j h (HO.1 p).1));have h3:=(mem_ready.1 hr).1;rw[h3] at h2;cases h2
   have T:∀e∈g.after,Region.binds md e=true->e.on≠i:=λe L hb M=>by
    have h1:=A e L hb;have h0:=(mem_ready.1 hr).1;rw[M] at h1;rcases BZ i d.size with y|y
    ·simp[y] at h0 h1;rw[h0] at h1;cases h1
    ·simp[B8 y] at h1
   have h2:=eQ (λc=>z _ _ c p) p (C j g p f D T) (λcs b=>E i l cs b s) (λcs b=>E j g cs b p) J hy h1;have N:∀k ok,ops[k]?=some ok->k≠i->(d.setIfInBounds j true).getD k true=false->(∀e∈ok.after,Region.binds md e=true->e.on≠i)->l.apart ops ok=true:=λk ok hk O G R=>by
    refine C k ok hk O ?_ R;by_cases u:j=k
    ·subst u;exact D
    ·rw[getD_set_ne true u] at G;exact G
   refine wpOpIn_mono (λI w' h3=>⟨λ_=>h3.2.1 u,U (d.setIfInBounds j true) I w' (QB B t) N (ready_mono hr (Ne.symm f)) h3.1 (h3.2.1 u) ?_⟩) h2;rw[V3 _ _ f];exact h3.2.2
end
section
variable {F:Fence} {n:Nat} {P:Program} {l:List Oper} {Q:Exit→Act→World→Prop} {a:Act} {w:World} {S:World→Prop}
def QC(l:List Oper):Bool:=l.all λo=>match o.op with| .defer _=>false|_=>true
theorem eU{l:List Oper}(h:QC l=true){j:Nat}{o:Oper}(a:l[j]?=some o)(c:_):o.op≠ .defer c:=by
 intro e;have:=HH.1 h o (List.mem_of_getElem? a);rw[e] at this;cases this
theorem eV(b:Region.Mode)(ops:Array Oper):Gb b ops (Array.replicate ops.size false):=by
 intro j c a hl;have:=(HO.1 a).1;simp[this] at hl
theorem U4{id:Nat}(c:Nat)(hm:P.follows .mixedOrders=true)(m:Nat)(b:l.toArray.size=m)
 (h:Gb .any l.toArray (Array.replicate m false)->Dj F n P .any l.toArray Q S c m (Array.replicate m false) a w.drew):(Code.region id l.toArray true).wpIn F n P Q a w:=by
 subst b;exact wpIn_region_any hm (U3 _ _ _ _ (h (eV _ _)))
theorem eW{e:Nat}{d:Nat}{b:Array Bool}{o:Oper}{v:Value}(k m:Nat)(u:QC l=true)(p:l[k]?=some o)(hs:Region.noSelect l.toArray=true)
 (hf:Region.free .any l.toArray b k=true)(hr:(Region.ready .any l.toArray b).contains k=true)(f:((List.range l.toArray.size).all λj=>decide (j<e)||(JT .any l.toArray m j).contains k)=true)
 (r:∀c a w,Q (.panic c) (a.put o.dst v) w->Q (.panic c) a w)(x:Region.wanted o (yielded l.toArray a.tmps)=true)
 (hy:∀w,S w->(execOp a.eval o).run P w= .ok (.value v) w)(hb:∀w,o.about P w a.eval=none)(s:S w)(g:Gb .any l.toArray b)
 (h:Gb .any l.toArray (b.setIfInBounds k true)->Dj F n P .any l.toArray Q S e d (b.setIfInBounds k true) (a.put o.dst v) w):Dj F n P .any l.toArray Q S e (d+1) b a w:=by
 have q:k∈Region.ready .any l.toArray b:=by simpa using hr
 refine eT (m:=m) (λj o c i=>eU u (by simpa using i) c) (by simpa using p) (Region.noSelect_spec hs) r (λj i t=>?_) d b a w g (Region.free_spec (by simpa using p) hf) q ⟨Or.inl ⟨x,hy⟩,hb⟩ s (h (QB g q));rw[HH] at f;have:=f j (HW.2 t);rw[J4,E0] at this;rcases this with h|h
 ·omega
 ·simpa using h
theorem N1{c:Nat}{e:Nat}{d:Array Bool}{o:Oper}(k:Nat)(hk:c<=k)(p:l[k]?=some o)(hr:Region.ready .any l.toArray d=[k])
 (h:∀b:Act->World->Prop,Hid (∀a w,Dj F n P .any l.toArray Q S c e (d.setIfInBounds k true) a w->b a w)->if Region.wanted o (yielded l.toArray a.tmps)=true then Oper.wpIn F n P o a w b Q else(∀f,o.about P w a.eval=some f->F.fn f)/\b (a.put o.dst undef) w):
 Dj F n P .any l.toArray Q S c (e+1) d a w:=by
 refine⟨λh0=>(by rw[hr] at h0;cases h0),λi g=>?_⟩;rw[hr,B6] at g;subst g;exact wpOpIn_step (by simpa using p) (λb j=>h b (λa w m=>j a w ⟨λh=>by omega,m⟩))
theorem eX{g:Nat}{d:Nat}{b:Array Bool}{o:Oper}(k:Nat)(r:l[k]?=some o)(hr:Region.ready .any l.toArray b=[k])(q:Gb .any l.toArray b)
 (h:∀c:Act->World->Prop,Hid (∀a w,S w->(Gb .any l.toArray (b.setIfInBounds k true)->Dj F n P .any l.toArray Q S g d (b.setIfInBounds k true) a w)->c a w)->if Region.wanted o (yielded l.toArray a.tmps)=true then Oper.wpIn F n P o a w c Q else(∀f,o.about P w a.eval=some f->F.fn f)/\c (a.put o.dst undef) w):
 Dj F n P .any l.toArray Q S g (d+1) b a w:=by
 have s:k∈Region.ready .any l.toArray b:=by rw[hr];simp
 refine⟨λh0=>(by rw[hr] at h0;cases h0),λi e=>?_⟩;rw[hr,B6] at e;subst e;exact wpOpIn_step (by simpa using r) (λc j=>h c (λa w m p=>j a w ⟨λ_=>m,p (QB q s)⟩))
theorem eY{d:Nat}{j:Nat}{g:Array Bool}{o o':Oper}(k e:Nat)(hk:d<=k)(t:d<=e)(r:l[k]?=some o)(s:l[e]?=some o')(hr:Region.ready .any l.toArray g=[k,e])
 (h:∀b:Act->World->Prop,Hid (∀a w,Dj F n P .any l.toArray Q S d j (g.setIfInBounds k true) a w->b a w)->if Region.wanted o (yielded l.toArray a.tmps)=true then Oper.wpIn F n P o a w b Q else(∀f,o.about P w a.eval=some f->F.fn f)/\b (a.put o.dst undef) w)
 (q:∀b:Act->World->Prop,Hid (∀a w,Dj F n P .any l.toArray Q S d j (g.setIfInBounds e true) a w->b a w)->if Region.wanted o' (yielded l.toArray a.tmps)=true then Oper.wpIn F n P o' a w b Q else(∀f,o'.about P w a.eval=some f->F.fn f)/\b (a.put o'.dst undef) w):
 Dj F n P .any l.toArray Q S d (j+1) g a w:=by
 refine⟨λh0=>(by rw[hr] at h0;cases h0),λi c=>?_⟩;rw[hr] at c;rcases Dn.1 c with rfl|c
 ·exact wpOpIn_step (by simpa using r) (λb m=>h b (λa w p=>m a w ⟨λh=>by omega,p⟩))
 ·rw[B6] at c;subst c;exact wpOpIn_step (by simpa using s) (λb m=>q b (λa w p=>m a w ⟨λh=>by omega,p⟩))
theorem U5{ops:Array Oper}{o:Oper}{a:Act}{w:World}{K:Act->World->Prop}{E:Prop}(g:o.guard=none)(s x:Operand)(t:TypeId)
 (d:o.op= .call {callee:= .builtin .append,args:=#[s,x],argTypes:=#[t,t]})
 (base:Nat)(e:TypeId)(i:TypeInfo)(z:Value)(size bytes:Nat)(ht:P.underlying t=some (.slice e))(hi:P.info? e=some i)(hz:i.zero=some z)
 (hsize:i.size=size)(hby:i.bytes=bytes)(hzs:z.cells.size=size)(hsz:0<size)
 (v:Value)(m:Nat)(xs:List Value)(hs:a.eval s=v)(hown:w.ownsRow base e size v m xs)
 (ad:Addr)(q c:Nat)(news:List Value)(hx:a.eval x= .slice (some ad) q c)(hl:news.length=q*size)(hnews:∀j u,news[j]?=some u->w.cell? (ad.add j)=some u)(h1:∀u∈news,u.oneCell'=true)
 (h63:m+q<=maxLen)(hbytes:(m+q)*bytes<=140737488355328)(hbase:base<=w.heap.size)
 (h:∀b w',w'.ownsRow base e size b (m+q) (xs++news)->w.grownBy w' v.ownBlock->(b.ownBlock=v.ownBlock\/b.ownBlock=some w.heap.size)->K (a.put o.dst b) w'):
 if Region.wanted o (yielded ops a.tmps)=true then Oper.wpIn F n P o a w K Q else E:=by
 have k:Region.wanted o (yielded ops a.tmps)=true:=by simp[Region.wanted,g]
 rw[A4 k];obtain⟨b,w',hr,h2,h3,_,h5⟩:=run_append_own_at (P:=P) w base t o.type e i z size bytes ht hi hz hsize hby hzs hsz v m xs hown ad q c news hl hnews h1 h63 hbytes hbase;unfold Oper.wpIn;refine⟨?_,?_⟩
 ·simp[Oper.about,d,resolve,Target.leads,Sem.run_pure]
 ·rw[Oper.semAt_plain F _ _ (by rw[d];intro c f;cases f)];simp[execOp,d,resolve,invoke,builtin,hs,hx,hr,Result.andThen];exact h b w' h2 h3 h5
theorem eZ{ops:Array Oper}{rest:List Oper}{o:Oper}{a:Act}{w:World}(d:o.guard=none)(s x:Operand)(t:TypeId)
 (g:o.op= .call {callee:= .builtin .append,args:=#[s,x],argTypes:=#[t,t]})
 (base:Nat)(e:TypeId)(i:TypeInfo)(z:Value)(size bytes:Nat)(ht:P.underlying t=some (.slice e))(hi:P.info? e=some i)(hz:i.zero=some z)
 (hsize:i.size=size)(hby:i.bytes=bytes)(hzs:z.cells.size=size)(hsz:0<size)
 (v:Value)(m:Nat)(xs:List Value)(hs:a.eval s=v)(hown:w.ownsRow base e size v m xs)
 (ad:Addr)(q c:Nat)(news:List Value)(hx:a.eval x= .slice (some ad) q c)(hl:news.length=q*size)(hnews:∀j u,news[j]?=some u->w.cell? (ad.add j)=some u)(h1:∀u∈news,u.oneCell'=true)
 (h63:m+q<=maxLen)(hbytes:(m+q)*bytes<=140737488355328)(hbase:base<=w.heap.size)
 (h:∀b w',w'.ownsRow base e size b (m+q) (xs++news)->w.grownBy w' v.ownBlock->(b.ownBlock=v.ownBlock\/b.ownBlock=some w.heap.size)->wpListIn F n P ops Q rest (a.put o.dst b) w'):wpListIn F n P ops Q (o::rest) a w:=by
 refine wpListIn_plain d λK f=>?_;have:=U5 (F:=F) (n:=n) (Q:=Q) (K:=K) (E:=False) (ops:=ops) d s x t g base e i z size bytes ht hi hz hsize hby hzs hsz v m xs hs hown ad q c news hx hl hnews h1 h63 hbytes hbase (λb w' k l p=>f _ _ (h b w' k l p))
 rwa [A4 (by simp[Region.wanted,d])] at this
theorem N4{d:Nat}{b:Array Bool}(hr:Region.ready .any l.toArray b=[])(h:Q .normal a w):∀c,Dj F n P .any l.toArray Q S d c b a w
 |0=>⟨hr,h⟩
 |_+1=>⟨λ_=>h,by rw[hr];simp⟩
end
end
section
section
variable {P:Program} {l:List Oper} {Q:Exit→Act→World→Prop} {a:Act} {w:World} {S:World→Prop}
theorem Ab{d:Nat}{b:Array Bool}{o:Oper}{v:Value}(k:Nat)(f:S w)
 (h:wpAnyH P .any l.toArray Q S d (b.setIfInBounds k true) (a.put o.dst v) w)
 (g:l[k]?=some o:=by rfl)(hs:Region.noSelect l.toArray=true:=by kernel_rfl)
 (hf:Region.free .any l.toArray b k=true:=by kernel_rfl)(hr:(Region.ready .any l.toArray b).contains k=true:=by kernel_rfl)
 (e:∀c a w,Q (.panic c) (a.put o.dst v) w->Q (.panic c) a w:=by exact λ_ _ _ h=>h)(i:Region.wanted o (yielded l.toArray a.tmps)=true:=by rfl)
 (hy:∀w,S w->(execOp a.eval o).run P w= .ok (.value v) w:=by intro w j;go_simp;with_reducible rfl):
 wpAnyH P .any l.toArray Q S (d+1) b a w:=
 QA k g hs hf hr e i hy f h
theorem Ao{d:Nat}{c:Array Bool}{o:Oper}(k:Nat)
 (h:∀b:Act->World->Prop,Hid (∀a w,S w->(S w->wpAnyH P .any l.toArray Q S d (c.setIfInBounds k true) a w)->b a w)->if Region.wanted o (yielded l.toArray a.tmps)=true then Oper.wp P o a w b Q else b (a.put o.dst undef) w)
 (e:l[k]?=some o:=by rfl)(hr:Region.ready .any l.toArray c=[k]:=by kernel_rfl):
 wpAnyH P .any l.toArray Q S (d+1) c a w:=eP k e hr h
theorem QD{ops:Array Oper}{o:Oper}{a:Act}{w:World}{K:Act->World->Prop}{E:Prop}(d:o.guard=none)(s x:Operand)(t:TypeId)
 (f:o.op= .call {callee:= .builtin .append,args:=#[s,x],argTypes:=#[t,t]})
 (base:Nat)(e:TypeId)(i:TypeInfo)(z:Value)(size bytes:Nat)(ht:P.underlying t=some (.slice e))(hi:P.info? e=some i)(hz:i.zero=some z)
 (hsize:i.size=size)(hby:i.bytes=bytes)(hzs:z.cells.size=size)(hsz:0<size)
 (v:Value)(m:Nat)(xs:List Value)(hs:a.eval s=v)(hown:w.ownsRow base e size v m xs)
 (ad:Addr)(q c:Nat)(news:List Value)(hx:a.eval x= .slice (some ad) q c)(hl:news.length=q*size)(hnews:∀j u,news[j]?=some u->w.cell? (ad.add j)=some u)(h1:∀u∈news,u.oneCell'=true)
 (h63:m+q<=maxLen)(hbytes:(m+q)*bytes<=140737488355328)(hbase:base<=w.heap.size)
 (h:∀b w',w'.ownsRow base e size b (m+q) (xs++news)->w.grownBy w' v.ownBlock->(b.ownBlock=v.ownBlock\/b.ownBlock=some w.heap.size)->K (a.put o.dst b) w'):
 if Region.wanted o (yielded ops a.tmps)=true then Oper.wp P o a w K Q else E:=by
 have g:Region.wanted o (yielded ops a.tmps)=true:=by simp[Region.wanted,d]
 rw[A4 g];obtain⟨b,w',hr,h2,h3,_,h5⟩:=run_append_own_at (P:=P) w base t o.type e i z size bytes ht hi hz hsize hby hzs hsz v m xs hown ad q c news hl hnews h1 h63 hbytes hbase;unfold Oper.wp;simp[execOp,f,resolve,invoke,builtin,hs,hx,hr,Result.andThen];exact h b w' h2 h3 h5
end
end
theorem fc(n:Int)(w:World)(h0:0<=n)(h1:n<=4611686018427387904):
 Calls prog 132 #[n] w λe w'=>e= .returned (.int .i64 ((n+31)/32))/\w=w':=by
 have b:IntKind.i64.wrap ((n+31)/32)=(n+31)/32:=C0 _ (by omega);have a:Hid (n+32-1=n+31):=by unfold Hid;omega
 go_enter func132,ntmps132;go_wp2
 go_ret;exact⟨by first|rfl|(rw[a.out];rfl),rfl⟩
def Dx(L:List UInt8):ByteArray:=⟨(L.take 32++List.replicate (32-(L.take 32).length) 0).toArray⟩
theorem U6(L:List UInt8):(Dx L).size=32:=by
 show(Dx L).data.size=32;unfold Dx;simp;omega
def Bw(T:List UInt8):Nat:=(T.length+31)/32
def EW(T:List UInt8)(k:Nat):List ByteArray:=(List.range k).map λj=>Dx (T.drop (32*j))
def CD(T:List UInt8):List ByteArray:=EW T (Bw T)
theorem U7(T:List UInt8)(k:Nat):EW T (k+1)=EW T k++[Dx (T.drop (32*k))]:=by unfold EW;rw[HL,D1];rfl
theorem U8(T:List UInt8)(k:Nat):(EW T k).length=k:=by unfold EW;simp
theorem JU:∀c,Lib.repeatL [0] c=List.replicate c 0
 |0=>rfl
 |c+1=>by rw[Lib.repeatL,JU c];rfl
theorem fd{u:ByteArray}{L:List UInt8}{m:Nat}(h:u.data.toList=L)(hm:m=min u.size 32):u.extract 0 m++⟨(Lib.repeatL [0] (32-m)).toArray⟩=Dx L:=by
 have hl:L.length=u.size:=by rw[<-h];simp
 refine TV ?_;rw[JU,V9,S9];unfold Dx;have a:(u.extract 0 m).data.toList=L.take 32:=by
  rw[Wb,V6,h];simp only[WA,List.drop_zero,Nat.sub_zero];rw[hm,<-hl,List.take_eq_take_iff];omega
 rw[a];have b:(L.take 32).length=m:=by rw[B5,hl,hm];omega
 rw[b]
def fe(T:List UInt8)(w:World)(d b:Value)(wr:World):Prop:=
 ∃(k:Nat) (u:ByteArray) (a:Option Addr) (c:Nat),d= .string u/\b= .slice a k c/\k<=Bw T/\Hid (u.size=T.length-32*k)/\Hid (u.data.toList=T.drop (32*k))/\Hid (wr.ownsRow w.heap.size 9 1 (.slice a k c) k ((EW T k).map Value.string))/\Below w w wr
def AB(s:ByteArray):List UInt8:=(FJ (Ex s)).data.toList
theorem N5(s:ByteArray)(w:World)(hs:s.size<=1000000):
 Calls prog 52 #[.string s] w λe w'=>∃a c,e= .returned (.slice a (CD (AB s)).length c)/\w'.ownsRow w.heap.size 9 1 (.slice a (CD (AB s)).length c) (CD (AB s)).length ((CD (AB s)).map Value.string)/\Below w w w':=by
 have a3:(prog.info? 9).map (λi=>(i.zero,i.size,i.bytes))=some (some (.string ⟨#[]⟩),1,16):=by kernel_rfl
 obtain⟨i0,a2,a7,a8,a9⟩:=BW a3;have h1:=eL s w (by omega);have av:(Ex s).size<=1000010:=by unfold Ex;rw[M3];have:=JS s.size;omega
 have ar:(FJ (Ex s)).size<=1000020:=by unfold FJ;rw[M3,GI];simp[G9];omega
 have h2:=λy=>eH (Ex s) y (by omega);have C:Hid ((FJ (Ex s)).data.toList=AB s):=rfl;have n:Hid ((AB s).length=(FJ (Ex s)).size):=by unfold Hid;rw[<-C.out];simp
 generalize AB s=T at*;generalize FJ (Ex s)=V at*;go_enter func52,ntmps52;go_wp2_with fail;refine h1.mono ?_;rintro e ab ⟨rfl,o⟩;go_wp2_with fail;refine(h2 ab).mono ?_;rintro e aM ⟨rfl,F⟩;have z:=A0 (o.trans (F.mono o.size));clear h1 h2 o F;go_wp2_with fail;go_loopw [3,4] (λaa t wr=>fe T w aa t wr) (λ_ t _=>match t with| .slice _ k _=>Bw T-k|_=>0)
 case atStart=>exact⟨0,V,none,0,rfl,rfl,A7 _,by unfold Hid;have:=n.out;omega,by unfold Hid;rw[C.out];simp,C2 _ _ _ _,z⟩
 case round=>
  obtain⟨k,u,a1,c1,rfl,rfl,hk,g,D,B,hb⟩:=hrel;have h:=A0 hb;have af:=hb.size;have an:Bw T*32<=T.length+31:=by unfold Bw;omega
  have ao:T.length<=Bw T*32:=by unfold Bw;omega
  have ap:Bw T<=40000:=by have:=n.out;omega
  clear hb z;by_cases ai:k<Bw T
  ·have r:0<u.size:=by have:=g.out;omega
   have ax:u.size<=1000020:=by have:=g.out;have:=n.out;omega
   have b1:decide ((0:Int)<(u.size:Int))=true:=Hc (by omega);have W:decide (0<u.size)=true:=Hc r;obtain⟨m,hm,aj,ak,al,p⟩:∃m:Nat,min (u.size:Int) 32=(m:Int)/\m<=u.size/\m<=32/\0<m/\Hid (m=min u.size 32):=by
    refine⟨min u.size 32,by omega,by omega,by omega,by omega,rfl⟩
   have J:=λy=>Tryz.strings_Repeat ⟨#[0]⟩ (32-m) y (by omega) (by simp[ByteArray.size];omega);have aF:(32:Int) -(m:Int)=((32-m:Nat):Int):=by omega
   have aK:IntKind.i64.wrap ((32-m:Nat):Int)=((32-m:Nat):Int):=C0 _ (by omega);have l:Hid (u.extract 0 m++⟨(Lib.repeatL [0] (32-m)).toArray⟩=Dx (T.drop (32*k))):=fd D p;have ay:(u.extract 0 m).size<=32:=by rw[KV];omega
   have aC:(⟨(Lib.repeatL [0] (32-m)).toArray⟩:ByteArray).size<=32:=by rw[JU];simp[ByteArray.size]
   go_wp2_with fail;have X:Ch wr wr.drew:=IS;refine BM (S:=λ_=>True) (by kernel_rfl) 11 rfl trivial (λ_=>?_);refine Ab 0 trivial ?_;refine Ab 1 trivial ?_;refine Ab 2 trivial ?_;refine Ab 3 trivial ?_;refine Ab 4 trivial ?_;refine Ab 5 trivial ?_;refine Px ?_;refine Ao 6 (λK d=>?_);go_simp;refine(J _).mono ?_;rintro e x ⟨rfl,H⟩;have f:Ch wr x:=IQ H X;refine d _ _ trivial (λ_=>?_);clear d K;generalize ag:(u.extract 0 m:ByteArray)=L at*;generalize ah:(⟨(Lib.repeatL [0] (32-m)).toArray⟩:ByteArray)=M at*;have au:¬9223372036854775807<L.size+M.size:=by omega
   refine Ab 7 trivial ?_;refine Px ?_;have U:=A0 l;generalize a0:L++M=v at*;have Q:Hid (v=Dx (T.drop (32*k))):=l.out;have Y:Hid (EW T (k+1)=EW T k++[Dx (T.drop (32*k))]):=U7 T k;have j:=A0 (Ag B f.2);have a5:=f.2.size;clear a0 l U;refine Ao 8 (λK d=>?_);go_simp;have ad:Ch wr (x.alloc (.cells #[.string v] 9)):=MQ (f.2.alloc f.2.size _);refine d _ _ trivial (λ_=>?_);clear d K;refine Px ?_;refine Ao 9 (λK d=>?_);refine QD rfl _ _ 23 rfl w.heap.size 9 i0 (.string ⟨#[]⟩) 1 16 underlying23 a2 a7 a8 a9 rfl (by decide) (.slice a1 k c1) k _ rfl (j.alloc _) ⟨x,0,none⟩ 1 1 [.string v] rfl rfl (Hx _ _ _) (by simp[Value.oneCell']) (by simp[maxLen];omega) (by omega) (by simp;omega) ?_;intro aL N q I a4;obtain⟨E,c3,rfl,aq,_⟩:=Aw q;have G:Below w w N:=((h.trans (f.2.mono h.size)).alloc (by omega) _).grown I (by simp;omega) (λb Z=>Ah j b Z);have O:=A0 G;refine d _ _ trivial (λ_=>?_);clear d K G;refine Px ?_;refine Ab 10 trivial ?_;refine Px ?_;refine Bc (by kernel_rfl) ?_ _;have P:Hid (N.ownsRow w.heap.size 9 1 (.slice E (k+1) c3) (k+1) ((EW T (k+1)).map Value.string)):=by
    unfold Hid;rw[Y.out,D1];rw[<-Q.out];exact q
   have a6:Hid ((u.extract m u.size).size=T.length-32*(k+1)):=by
    unfold Hid;have h1:=g.out;have h2:=p.out;rw[KV];omega
   have R:Hid ((u.extract m u.size).data.toList=T.drop (32*(k+1))):=by
    unfold Hid;have h1:=g.out;have h2:=p.out;rw[Lib.extract_to_end,D.out,List.drop_drop];by_cases ac:u.size<=32
    ·rw[List.drop_eq_nil_of_le (by omega),List.drop_eq_nil_of_le (by omega)]
    ·congr 1;omega
   clear J q I a4 f H a5 j;go_wp2_with fail;exact⟨⟨k+1,_,E,c3,rfl,rfl,by omega,a6,R,P,O⟩,by simp;omega⟩
  ·obtain rfl:k=Bw T:=by omega
   have r:u.size=0:=by have:=g.out;omega
   have b1:decide ((0:Int)<(u.size:Int))=false:=A6 (by omega);have W:decide (0<u.size)=false:=A6 (by omega);have A:Hid ((CD T).length=Bw T):=U8 T _;clear r;go_wp2_with fail;go_ret;exact⟨a1,c1,by rw[A.out];rfl,by rw[A.out];exact B,h⟩
theorem AK{b:Type}{w:World}{v:Value}{k:Nat}{E:b->List Value}{xs:List b}(h:Av w v k E xs):∃a c,v= .slice a xs.length c:=by
 obtain⟨a,c,h,_⟩:=h;exact⟨a,c,h⟩
abbrev Ef(w:World)(v:Value)(l:List ByteArray):Prop:=Av w v 1 (λx=>[.string x]) l
def Fj(l:List ByteArray):ByteArray:=⟨(l.map (·.data.toList)).flatten.toArray⟩
def DP(n p:Nat):Nat:=(p+n+4+31)/32
def JV(l:List ByteArray)(n p:Nat):Option ByteArray:=
 if CD (AB ((Fj (l.take (DP n p))).extract p (p+n)))=l.take (DP n p) then some ((Fj (l.take (DP n p))).extract p (p+n)) else none
def Mf(l:List ByteArray)(n p:Nat):Option ByteArray:=
 if l.length<DP n p then none else if(l.take (DP n p)).all (λx=>x.size==32)=true then JV l n p else none
def DE(l:List ByteArray):Option ByteArray:=
 match l with
 |[]=>none
 |x::a=>if x.size≠32 then none else match CN x 0 with
  |none=>none
  |some (n,p)=>Mf (x::a) n p
def Oa(a:Option ByteArray):Value:=match a with
 |none=> .tuple #[.string ⟨#[]⟩, .bool false]
 |some s=> .tuple #[.string s, .bool true]
theorem U9(l:List (List UInt8)):Lib.join l []=l.flatten:=by
 unfold Lib.join;induction l with
 |nil=>rfl
 |cons x l a=>
  cases l with
  |nil=>simp[List.intercalate]
  |cons y l=>simp[List.intercalate] at a⊢;exact a
theorem JW{w:World}{a:Option Addr}{n c:Nat}{l:List ByteArray}(h:Ef w (.slice a n c) l)(h0:l≠[]):
 ∃b off,a=some ⟨b,off,none⟩/\b<w.heap.size/\n=l.length/\l.length<=c/\∀i (f:i<l.length),w.cell? ⟨b,off+i,none⟩=some (.string l[i]):=by
 rcases Da h with⟨rfl,_⟩|⟨_,b,off,e,d,hl,hb,hc⟩
 ·exact absurd rfl h0
 ·injection d with h1 h2 h3;subst h1 h2 h3;exact⟨b,off,rfl,hb,rfl,hl,hc⟩
theorem QE{l:List ByteArray}(h:l.all (λx=>x.size==32)=true):((l.map (·.data.toList)).flatten).length=32*l.length:=by
 induction l with
 |nil=>rfl
 |cons x l c=>
  rw[List.all_cons,Hz] at h;have a:x.size=32:=beq_iff_eq.1 h.1;have b:x.data.toList.length=32:=by rw[Hy];exact a
  simp only[F4,List.flatten_cons,A9,BV,c h.2,b];omega
theorem Ob(T:List UInt8):(CD T).length=Bw T:=U8 T _
theorem ff(s:ByteArray):(Ex s).size<=s.size+7:=by unfold Ex;rw[M3];have:=JS s.size;omega
theorem Va(s:ByteArray):(FJ s).size=s.size+4:=by unfold FJ;rw[M3,GI];rfl
theorem fg(s:ByteArray):(AB s).length<=s.size+11:=by
 have h:(AB s).length=(FJ (Ex s)).size:=by unfold AB;simp
 rw[h,Va];have:=ff s;omega
theorem fh(u v:Value)(xs ys:List ByteArray)(w:World)(c:Ef w u xs)(d:Ef w v ys)(n:xs.length<=100000000)(hy:ys.length<=100000000):
 Calls prog 134 #[u,v] w λe w'=>e= .returned (.bool (decide (xs=ys)))/\Below w w w':=by
 obtain⟨a1,c1,rfl⟩:=AK c;obtain⟨b,c2,rfl⟩:=AK d;by_cases hl:xs.length=ys.length
 ·by_cases h0:xs=[]
  ·subst h0;have k:ys=[]:=FA.1 (by simpa using hl.symm);subst k;refine(Tryz.slices_Equal_string_empty a1 b c1 0 c2 w (by omega)).mono ?_;rintro e w' ⟨rfl,rfl⟩;exact⟨by simp,A2 _ _⟩
  ·have h1:ys≠[]:=λh=>h0 (FA.1 (by rw[hl,h];rfl));obtain⟨b1,l,rfl,_,_,_,f⟩:=JW c h0;obtain⟨b2,m,rfl,_,_,_,g⟩:=JW d h1;refine(Tryz.slices_Equal_string b1 l xs.length c1 b2 m ys.length c2 xs ys w (A1 _) (A1 _) (by omega) (by omega) (λj a=>by rw[f j a];simp[a]) (λj a=>by rw[g j a];simp[a])).mono ?_;rintro e w' ⟨rfl,q,rfl⟩;exact⟨by simp[D4],(A2 _ _).trans ⟨rfl,rfl,rfl,A1 _,λ_ _=>rfl⟩⟩
 ·refine(Tryz.slices_Equal_string_lens a1 b xs.length c1 ys.length c2 w hl).mono ?_;rintro e w' ⟨rfl,rfl⟩;have i:xs≠ys:=λh=>hl (by rw[h]);exact⟨by rw[A6 i],A2 _ _⟩
theorem Vb(v:Value)(l:List ByteArray)(w:World)(I:Ef w v l)(hl:l.length<=20000):
 Calls prog 58 #[v] w λe w'=>e= .returned (Oa (DE l))/\Below w w w':=by
 obtain⟨a0,c0,rfl⟩:=AK I;by_cases h0:l=[]
 ·subst h0;go_enter func58,ntmps58;go_wp2_with fail;go_ret2;exact⟨rfl,A2 _ _⟩
 obtain⟨b,off,rfl,hb,_,aM,hc⟩:=JW I h0;obtain⟨x,c,rfl⟩:=List.exists_cons_of_ne_nil h0;have aU:w.cell? ⟨b,off,none⟩=some (.string x):=hc 0 (by simp);have aP:0<(x::c).length:=by simp
 have F:(((x::c).length:Int)==0)=false:=by simp;omega
 obtain⟨au,J⟩:=Hx2 I hc;clear I hc h0;by_cases s:¬x.size=32
 ·have d:Hid (DE (x::c)=none):=by unfold Hid DE;exact A4 s
  have t:((x.size:Int)!=32)=true:=by simp;omega
  generalize x::c=l at*;go_enter func58,ntmps58;go_wp2_with fail;go_ret2;exact⟨by rw[d.out];rfl,A2 _ _⟩
 have s:x.size=32:=Decidable.of_not_not s;have t:((x.size:Int)!=32)=false:=by rw[s];rfl
 have m:=λB=>N0 x 0 B (by omega);cases o:CN x 0 with
 |none=>
  have d:Hid (DE (x::c)=none):=by unfold Hid DE;simp only;rw[A3 (by omega),o]
  rw[o] at m;simp only[Ha] at m;generalize x::c=l at*;clear o s;go_enter func58,ntmps58;go_wp2_with fail;refine(m _).mono ?_;rintro e u ⟨rfl,rfl⟩;go_wp2_with fail;go_ret2;exact⟨by rw[d.out];rfl,A2 _ _⟩
 |some q=>
  obtain⟨n,p⟩:=q;obtain⟨aV,aX,b0⟩:=Qz o;have d:Hid (DE (x::c)=Mf (x::c) n p):=by unfold Hid DE;simp only;rw[A3 (by omega),o]
  rw[o] at m;simp only[Ha] at m;generalize x::c=l at*;have T:=λB=>fc ((p:Int)+n+4) B (by omega) (by omega);have a9:((p:Int)+n+4+31)/32=(DP n p:Int):=by unfold DP;omega
  have aT:1<=DP n p:=by unfold DP;omega
  have aq:p+n<=32*DP n p:=by unfold DP;omega
  rw[a9] at T;have E:Hid (Mf l n p=if l.length<DP n p then none else if(l.take (DP n p)).all (λx=>x.size==32)=true then JV l n p else none):=rfl;have ai:Hid (JV l n p=if CD (AB ((Fj (l.take (DP n p))).extract p (p+n)))=l.take (DP n p) then some ((Fj (l.take (DP n p))).extract p (p+n)) else none):=rfl;generalize DP n p=a at*;clear o s a9;by_cases R:l.length<a
  ·have r:Hid (DE l=none):=by unfold Hid;rw[d.out,E.out,A4 R]
   have G:decide ((l.length:Int)<(a:Int))=true:=Hc (by omega);go_enter func58,ntmps58;go_wp2_with fail;refine(m _).mono ?_;rintro e u ⟨rfl,rfl⟩;go_wp2_with fail;refine(T _).mono ?_;rintro e u ⟨rfl,rfl⟩;go_wp2_with fail;go_ret2;exact⟨by rw[r.out];rfl,A2 _ _⟩
  have G:decide ((l.length:Int)<(a:Int))=false:=A6 (by omega);have aF:decide (l.length<a)=false:=A6 (by omega);go_enter func58,ntmps58;go_wp2_with fail;refine(m _).mono ?_;rintro e u ⟨rfl,rfl⟩;go_wp2_with fail;refine(T _).mono ?_;rintro e u ⟨rfl,rfl⟩;go_wp2_with fail;go_loopw [44] (λU wr=>∃k:Nat,U= .int .i64 k/\k<=a/\Hid ((l.take k).all (λx=>x.size==32)=true)/\wr=w) (λU _=>a-(intOf U).toNat)
  case atStart=>exact⟨0,rfl,A7 _,rfl,rfl⟩
  case round=>
   obtain⟨k,rfl,hk,C,ab⟩:=hrel;obtain rfl:w=wr:=ab.symm;clear ab;by_cases aL:k<a
   ·have a7:k<l.length:=by omega
    have aK:=J k a7;have ax:(k:Int)<(a:Int):=by omega
    have aj:Hid (l.take (k+1)=l.take k++[l[k]]):=B1 a7;have ah:Hid (l[k].size=32\/(l.take a).all (λx=>x.size==32)=false):=by
     unfold Hid;by_cases h:l[k].size=32
     ·exact Or.inl h
     ·refine Or.inr ?_;rw[List.all_eq_false];exact⟨l[k],W2.2 ⟨k,by omega,rfl⟩,by simpa using h⟩
    generalize l[k]=y at*;by_cases hy:y.size=32
    ·have an:((y.size:Int)!=32)=false:=by rw[hy];rfl
     have ad:Hid ((l.take (k+1)).all (λx=>x.size==32)=true):=by unfold Hid;rw[aj.out,List.all_append,C.out];simp[hy]
     clear hy;go_wp2_with fail;exact⟨⟨k+1,by go_num,by omega,ad,trivial⟩,by simp[intOf];omega⟩
    ·have an:((y.size:Int)!=32)=true:=by simp;omega
     have r:Hid (DE l=none):=by
      unfold Hid;rcases ah.out with h|h
      ·exact absurd h hy
      ·rw[d.out,E.out,A3 R,h];rfl
     clear hy;go_wp2_with fail;go_ret2;exact⟨by rw[r.out];rfl,A2 _ _⟩
   ·obtain rfl:k=a:=by omega
    have g:(l.take k).length=k:=by rw[B5];omega
    have D:=A0 g;have Q:=Tryz.strings_Join b off c0 (l.take k) ⟨#[]⟩ w (λj x ao=>by
     obtain⟨a6,P⟩:=N2.1 ao;rw[H9] at P;rw[<-P];rw[g] at a6;exact J j (by omega)) hb (by rw[g];omega) (by rw[g];omega) (by
      rw[U9];have:=QE C;rw[g] at this;omega)
    rw[U9,g] at Q;have ag:Hid ((⟨((l.take k).map (·.data.toList)).flatten.toArray⟩:ByteArray)=Fj (l.take k)):=rfl;have Z:Hid ((Fj (l.take k)).size=32*k):=by
     unfold Hid Fj;have:=QE C;rw[g] at this;simpa[ByteArray.size] using this
    clear g;go_wp2_with fail;refine Q.mono ?_;rintro e u ⟨rfl,F⟩;rw[ag.out];have r:Hid (DE l=JV l n p):=by unfold Hid;rw[d.out,E.out,A3 R,A4 C.out]
    have ay:p+n<=(Fj (l.take k)).size:=by rw[Z.out];exact aq
    have aC:(Fj (l.take k)).size<=640000:=by rw[Z.out];omega
    generalize Fj (l.take k)=M at*;have ar:(M.extract p (p+n)).size<=1000000:=by rw[KV];omega
    have ap:k<=c0:=by omega
    have a6:(p:Int)+(n:Int)<=(M.size:Int):=by omega
    have P:((p:Int)+(n:Int)).toNat=p+n:=by omega
    have z:=A0 F.drew;have af:Hid (∀i (H:i<l.length),u.drew.cell? ⟨b,off+i,none⟩=some (.string l[i])):=λi H=>(F.drew.cell (p:=⟨b,off+i,none⟩) hb).trans (J i H);clear Q F d E;generalize a4:M.extract p (p+n)=X at*;have ak:=A0 a4;clear a4;have a8:=λB=>N5 X B ar;go_wp2_with fail;rw[ak.out];refine BM (S:=λ_=>True) (by kernel_rfl) 7 rfl trivial (λ_=>?_);refine Ab 0 trivial ?_;refine Ab 2 trivial ?_;refine Ab 3 trivial ?_;refine Ab 4 trivial ?_;refine Px ?_;refine Ao 1 (λK A=>?_);go_simp;refine(a8 _).mono ?_;rintro e ac ⟨av,c2,rfl,aa,t⟩;have a3:=(Cr (f:=Value.string) aa).1;have N:Ef ac (.slice (some ⟨b,off,none⟩) (l.take k).length c0) (l.take k):=
     Lv (f:=Value.string) (by rw[D.out];exact ap) (B3 hb (z.trans (t.mono z.size)).size) (λi H=>by
      rw[D.out] at H;rw[t.cell (p:=⟨b,off+i,none⟩) (B3 hb z.out.size),af.out i (by omega),H9])
    rw[D.out] at N;have O:=fh _ _ _ _ ac a3 N (by rw[Ob];unfold Bw;have:=fg X;omega) (by rw[D.out];omega);have V:=A0 (z.trans (t.mono z.size));have a1:Hid (JV l n p=if CD (AB X)=l.take k then some X else none):=ai.out;generalize CD (AB X)=a2 at*;generalize a5:decide (a2=l.take k)=al at O;have Y:=A0 a5;clear a5;generalize a2.length=b1 at*;clear aa t a3 N a8;refine A _ _ trivial (λ_=>?_);clear A K;refine Px ?_;refine Ao 5 (λK A=>?_);go_simp;refine O.mono ?_;rintro e b2 ⟨rfl,G⟩;have W:=A0 (V.trans (G.mono V.size));refine A _ _ trivial (λ_=>?_);clear A K O G;refine Px ?_;refine Ab 6 trivial ?_;refine Px ?_;refine Bc (by kernel_rfl) ?_ _;cases al with
    |true=>
     have L:Hid (DE l=some X):=by unfold Hid;rw[r.out,a1.out,A4 (M1 Y.out)]
     go_wp2_with fail;go_ret2;exact⟨by rw[L.out];rfl,W⟩
    |false=>
     have L:Hid (DE l=none):=by unfold Hid;rw[r.out,a1.out,A3 (of_decide_eq_false Y.out)]
     go_wp2_with fail;go_ret2;exact⟨by rw[L.out];rfl,W⟩
end Go.Proofs.YtmajkjjjfodhlaaGreatDoor
