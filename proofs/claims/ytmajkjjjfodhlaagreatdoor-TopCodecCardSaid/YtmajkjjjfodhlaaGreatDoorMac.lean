/- Part Mac. No condition of its own. -/
import Derived.Laws.CopyOwn
import Derived.Test.YtmajkjjjfodhlaaGreatDoorMab
namespace Go.Proofs.YtmajkjjjfodhlaaGreatDoor
open Go.RowKit Tryz
set_option linter.all false
set_option maxRecDepth 100000
set_option maxHeartbeats 8000000
theorem B6:type_of%@List.mem_singleton:=@List.mem_singleton
theorem C3:type_of%@results_tmp2:=@results_tmp2
theorem E0:type_of%@decide_eq_true_eq:=@decide_eq_true_eq
theorem GA:type_of%@List.mem_append:=@List.mem_append
theorem G1:type_of%@List.length_drop:=@List.length_drop
theorem Hz:type_of%@Bool.and_eq_true:=@Bool.and_eq_true
theorem HC:type_of%@List.getElem_set:=@List.getElem_set
theorem HH:type_of%@List.all_eq_true:=@List.all_eq_true
theorem HS:type_of%@List.find?_eq_none:=@List.find?_eq_none
theorem HV:type_of%@List.map_congr_left:=@List.map_congr_left
theorem HW:type_of%@List.mem_range:=@List.mem_range
theorem HZ:type_of%@wpList_make_full:=@wpList_make_full
theorem H0:type_of%@Below.heap_alloc:=@Below.heap_alloc
theorem ID:type_of%@List.length_take_le:=@List.length_take_le
theorem IT:type_of%@cell_of_row:=@cell_of_row
theorem I2:type_of%@List.ext_getElem?:=@List.ext_getElem?
theorem J3:type_of%@run_underlying:=@run_underlying
theorem LA:type_of%@List.length_range:=@List.length_range
theorem PL:type_of%@List.set_append_right:=@List.set_append_right
theorem Q2:type_of%@Sem.run_bind:=@Sem.run_bind
theorem RV:type_of%@List.eq_of_mem_replicate:=@List.eq_of_mem_replicate
theorem VR:type_of%@Nat.add_sub_cancel_left:=@Nat.add_sub_cancel_left
theorem LH:p2 15=32768:=by decide
theorem D7{l:List Int}(h:AI l=true):l.length<=300/\(∀x∈l,0<=x/\x<=15)/\BH l<=32768:=by
 simp only[AI,Hz,E0,HH] at h;exact⟨h.1.1,h.1.2,h.2⟩
theorem SS{l:List Int}(h1:l.length<=300)(h2:∀x∈l,0<=x/\x<=15)(h3:BH l<=32768):AI l=true:=by
 simp only[AI,Hz,E0,HH];exact⟨⟨h1,h2⟩,h3⟩
theorem LI{l:List Int}(h:AI l=true){s:Nat}(hs:s<l.length)(h0:l[s]≠0):∃n:Nat,n<15/\l[s]=((n+1:Nat):Int):=by
 have:=(D7 h).2.1 l[s] (BA hs);exact⟨l[s].toNat-1,by omega,by omega⟩
theorem Zi{l:List Int}(h:AI l=true)(n:Nat)(a:n<=15):EL l n<=32768:=by
 have h1:=D7 h;have:=SO l a;rw[Ze l h1.2.1] at this;omega
theorem GZ{l:List Int}{s n:Nat}(hs:s<l.length)(h:l[s]=(n:Int)):(l[s]?.getD 0).toNat=n:=by rw[Bl hs,D0,h,BY]
theorem Zj{a b p:Int}(hp:0<p)(h:a*p<=b*p):a<=b:=by
 by_cases q:b<a
 ·have h2:=Nc (a:=b+1) (b:=a) (p:=p) (by omega) (by omega);rw[HA,KX] at h2;omega
 ·omega
theorem Nd{l:List Int}(h:AI l=true){n:Nat}(a:n<15):AX l (n+1)+Az l (n+1)<=p2 (n+1):=by
 have h1:=Zi h (n+1) (by omega);rw[JH,<-SP l n a,<-HA] at h1;have h2:p2 (n+1)*p2 (15-(n+1))=32768:=by rw[<-M7,<-LH];congr 1;omega
 exact Zj (p:=p2 (15-(n+1))) (by have:=D6 (15-(n+1));omega) (by rw[h2];exact h1)
theorem ST{l:List Int}(h:AI l=true){s n:Nat}(hs:s<l.length)(hl:l[s]=((n+1:Nat):Int))(a:n<15):DC l s<p2 (n+1):=by
 have h1:=Nd h a;have h2:=M9 l s (n+1) hs hl;unfold DC;rw[GZ hs hl];omega
def BI(l:List Int)(s:Nat):List Bool:=Ar (DC l s) (l[s]?.getD 0).toNat
theorem LJ(l:List Int)(s:Nat):(BI l s).length=(l[s]?.getD 0).toNat:=Ci _ _
theorem Zk{l:List Int}(h:AI l=true){s:Nat}(hs:s<l.length)(h0:l[s]≠0):AA (BI l s)=DC l s:=by
 obtain⟨n,a,hl⟩:=LI h hs h0;unfold BI;rw[GZ hs hl];exact SF (SQ l s) (ST h hs hl a)
def Cs(l:List Int)(b:List Bool)(p s:Nat):Bool:=
 decide (0<(l[s]?.getD 0).toNat/\p+(l[s]?.getD 0).toNat<=b.length/\AA ((b.drop p).take (l[s]?.getD 0).toNat)=DC l s)
theorem Fz{l:List Int}{b:List Bool}{p s:Nat}:Cs l b p s=true↔0<(l[s]?.getD 0).toNat/\p+(l[s]?.getD 0).toNat<=b.length/\AA ((b.drop p).take (l[s]?.getD 0).toNat)=DC l s:=by simp[Cs]
theorem LK{l:List Int}{b:List Bool}{p s:Nat}(h:Cs l b p s=true):∃hs:s<l.length,0<l[s]:=by
 have h1:=(Fz.1 h).1;rcases BZ s l.length with q|q
 ·refine⟨q,?_⟩;rw[Bl q,D0] at h1;omega
 ·rw[E9 q] at h1;simp at h1
theorem SU{l:List Int}{b:List Bool}{p s n:Nat}(hs:s<l.length)(hl:l[s]=((n+1:Nat):Int))(j:n<15)(h:Cs l b p s=true)(m:Nat)(hm:n+1<=m)(i:m<=15)(hb:p+m<=b.length):
 GY l s<=AA ((b.drop p).take m)*p2 (15-m)/\AA ((b.drop p).take m)*p2 (15-m)<KG l s:=by
 have h1:=(Fz.1 h).2.2;rw[GZ hs hl] at h1;have e:(b.drop p).take m=(b.drop p).take (n+1)++(((b.drop p).take m).drop (n+1)):=by
  have:=(IR (n+1) ((b.drop p).take m)).symm
  rwa [L4,HR hm] at this
 have d:(((b.drop p).take m).drop (n+1)).length=m-(n+1):=by
  rw[G1,B5,G1];omega
 have c:=IX (((b.drop p).take m).drop (n+1));rw[d] at c;have f:AA ((b.drop p).take m)=DC l s*p2 (m-(n+1))+AA (((b.drop p).take m).drop (n+1)):=by
  rw[e,PD,h1,<-e,d]
 have hp:p2 (m-(n+1))*p2 (15-m)=p2 (15-(n+1)):=by rw[<-M7];congr 1;omega
 have k:=D6 (15-m);unfold GY KG;rw[GZ hs hl,f,HA,Int.mul_assoc,hp,HA,KX];have o:0<=AA (((b.drop p).take m).drop (n+1))*p2 (15-m):=T1 c.1 (by omega);have g:=Nc (a:=AA (((b.drop p).take m).drop (n+1))+1) (b:=p2 (m-(n+1))) (p:=p2 (15-m)) (by omega) (by omega);rw[HA,KX,hp] at g;omega
theorem Zl{l:List Int}(i:AI l=true){b:List Bool}{p s t:Nat}(hs:Cs l b p s=true)(e:Cs l b p t=true):s=t:=by
 have key:∀s t m n:Nat,(d:s<l.length)->(a:t<l.length)->l[s]=((m+1:Nat):Int)->l[t]=((n+1:Nat):Int)->m<15->n<15->Cs l b p s=true->Cs l b p t=true->(m<n\/(m=n/\s<t))->False:=by
  intro s t m n d a hm c f g hs e j;have h1:=Zh d a hm c f g j;have hb:=(Fz.1 e).2.1;rw[GZ a c] at hb;have h2:=SU d hm f hs (n+1) (by omega) (by omega) hb;have h3:=SU a c g e (n+1) (by omega) (by omega) hb;have h4:=(Fz.1 e).2.2;rw[GZ a c] at h4;have h5:AA ((b.drop p).take (n+1))*p2 (15-(n+1))=GY l t:=by
   unfold GY;rw[GZ a c,h4]
  omega
 obtain⟨d,k⟩:=LK hs;obtain⟨a,o⟩:=LK e;obtain⟨m,f,hm⟩:=LI i d (by omega);obtain⟨n,g,c⟩:=LI i a (by omega);rcases Nat.lt_trichotomy s t with q|q|q
 ·rcases BZ n m with h|h
  ·exact(key t s n m a d c hm g f e hs (Or.inl h)).elim
  ·exact(key s t m n d a hm c f g hs e (by omega)).elim
 ·exact q
 ·rcases BZ m n with h|h
  ·exact(key s t m n d a hm c f g hs e (Or.inl h)).elim
  ·exact(key t s n m a d c hm g f e hs (by omega)).elim
def CK(l:List Int)(b:List Bool)(p:Int):Option Nat:=if AI l=true/\0<=p then(List.range l.length).find? (Cs l b p.toNat) else none
theorem PG{l:List Int}(a:AI l=true){b:List Bool}{p s:Nat}(h:Cs l b p s=true):CK l b p=some s:=by
 unfold CK;rw[A4 ⟨a,by omega⟩,BY];cases hf:(List.range l.length).find? (Cs l b p) with
 |none=>
  have:=HS.1 hf s (HW.2 (LK h).1);exact absurd h this
 |some t=>
  have:=List.find?_some hf;rw[Zl a this h]
theorem Zm{l:List Int}{b:List Bool}{p:Nat}(h:∀s,Cs l b p s=false):CK l b p=none:=by
 unfold CK;split
 ·rw[BY];exact HS.2 λs _=>by rw[h s];decide
 ·rfl
theorem PH{l:List Int}{b:List Bool}{p:Int}{s:Nat}(h:CK l b p=some s):AI l=true/\0<=p/\Cs l b p.toNat s=true:=by
 unfold CK at h;split at h
 ·rename_i q;exact⟨q.1,q.2,List.find?_some h⟩
 ·cases h
theorem Zn(l:List Int)(n:Nat):∀i,i<Az l n->∃s,∃hs:s<l.length,l[s]=(n:Int)/\Az (l.take s) n=i:=by
 have:∀k,k<=l.length->∀i,i<Az (l.take k) n->∃s,∃hs:s<l.length,l[s]=(n:Int)/\Az (l.take s) n=i:=by
  intro k;induction k with
  |zero=>intro _ i a;rw[P7,SJ] at a;omega
  |succ k d=>
   intro hk i a;have c:k<l.length:=by omega
   rw[B1 c,IY] at a;by_cases h:i<Az (l.take k) n
   ·exact d (by omega) i h
   ·by_cases b:l[k]=(n:Int)
    ·rw[A4 b] at a;exact⟨k,c,b,by omega⟩
    ·rw[A3 b] at a;omega
 intro i a;exact this l.length (A1 _) i (by rwa [D4])
theorem Zo{l:List Int}{b:List Bool}{p n i:Nat}(c:i<Az l (n+1))(hb:p+(n+1)<=b.length)(hc:AA ((b.drop p).take (n+1))=AX l (n+1)+i):
 ∃s,∃hs:s<l.length,l[s]=((n+1:Nat):Int)/\Az (l.take s) (n+1)=i/\Cs l b p s=true:=by
 obtain⟨s,hs,hl,a⟩:=Zn l (n+1) i c;refine⟨s,hs,hl,a,Fz.2 ?_⟩;unfold DC;rw[GZ hs hl,a];exact⟨by omega,hb,hc⟩
theorem Zp{l:List Int}{b:List Bool}{p s n:Nat}(hs:s<l.length)(hl:l[s]=((n+1:Nat):Int))(h:Cs l b p s=true):
 AX l (n+1)<=AA ((b.drop p).take (n+1))/\AA ((b.drop p).take (n+1))<AX l (n+1)+Az l (n+1):=by
 have h1:=(Fz.1 h).2.2;have h2:=M9 l s (n+1) hs hl;unfold DC at h1;rw[GZ hs hl] at h1;omega
theorem Zq{l:List Int}(a:AI l=true){s:Nat}(hs:s<l.length)(h0:l[s]≠0)(pre more:List Bool):Cs l (pre++(BI l s++more)) pre.length s=true:=by
 obtain⟨n,b,hl⟩:=LI a hs h0;have e:(l[s]?.getD 0).toNat=(BI l s).length:=(LJ l s).symm;refine Fz.2 ⟨by rw[GZ hs hl];omega,by simp only[A9,e];omega,?_⟩;rw[List.drop_left,e,List.take_left];exact Zk a hs h0
theorem Zr(l:List Int)(k:Nat)(hk:k<l.length):BH (l.take (k+1))=BH (l.take k)+Dr l[k]:=by
 rw[B1 hk,SN]
theorem Zs{x:Int}(h0:1<=x)(h1:x<=15):Dr x=p2 (15-x).toNat:=by
 unfold Dr;rw[A4 (by omega)];congr 1;omega
theorem SW{x:Int}(h:x<1\/15<x):Dr x=0:=by
 unfold Dr;rw[A3 (by omega)]
theorem Zt(v:Value)(l:List Int)(w:World)(j:Av w v 1 (λx=>[.int .i64 x]) l)(hl:l.length<=140737488355328):
 Calls prog 293 #[v] w λe w'=>e= .returned (.int .i64 (BH l))/\w=w':=by
 rcases Da j with⟨rfl,a0,c0,rfl,E⟩|⟨F,b0,J,c0,rfl,B,A,f⟩
 ·go_enter func293,ntmps293;go_wp2
  refine wp_loop_rounds 1 ?_;rw[rounds_succ];go_wp2
  go_ret;exact⟨rfl,rfl⟩
 ·clear j;go_enter func293,ntmps293;go_wp2
  go_loop [3,8] (λn i=>∃k:Nat,k<=l.length/\i= .int .i64 k/\n= .int .i64 (BH (l.take k))) (λ_ i=>l.length-(intOf i).toNat)
  case atStart=>exact⟨0,A7 _,rfl,by simp[BH]⟩
  case round=>
   obtain⟨k,hk,rfl,rfl⟩:=hrel;by_cases h:k<l.length
   ·have p:=f k h;have d:=A0 (Zr l k h);have g:=Zb (l.take k);have q:(((l.take k).length:Nat):Int)<=140737488355328:=by have:=ID k l;omega
    have C:=g.1;have D:BH (l.take k)<=2305843009213693952:=by omega
    clear g q f;have y:(k:Int)<(l.length:Int):=by omega
    have g2:(0:Int)<=(k:Int):=by omega
    generalize hs:BH (l.take k)=s at*;clear hs;generalize l[k]=x at*;by_cases h0:1<=x
    ·by_cases h1:x<=15
     ·have c:=A0 (Zs h0 h1);obtain⟨b,z⟩:=G0 (a:=15-x) (by omega);obtain rfl:x=15-b:=by omega
      have hp:=PC (n:=b) (by omega);have G:=D6 b;have r:=Gx (m:=b) (n:=14) (by omega);have t:p2 14=16384:=by decide
      have I:wrap64 (2 ^ b)=p2 b:=by rw[<-JG];exact Q9 _ (by omega)
      have u:(15-(15-(b:Int)))=b:=by omega
      have H:IntKind.i64.wrap (s+p2 b)=s+p2 b:=by rw[H2];omega
      rw[u] at c;have o:Hid (Dr (15-(b:Int))=p2 b):=by rw[BY] at c;exact c
      clear c hp r t;go_wp2
      exact⟨⟨k+1,by omega,by go_num,by rw[d.out,o.out]⟩,by simp[intOf];omega⟩
     ·have c:=A0 (SW (x:=x) (by omega));go_wp2
      exact⟨⟨k+1,by omega,by go_num,by rw[d.out,c.out];simp⟩,by simp[intOf];omega⟩
    ·have c:=A0 (SW (x:=x) (by omega));go_wp2
     exact⟨⟨k+1,by omega,by go_num,by rw[d.out,c.out];simp⟩,by simp[intOf];omega⟩
   ·obtain rfl:k=l.length:=by omega
    have p:=A0 (E2 (A1 l.length));clear f;go_wp2
    go_ret;exact⟨rfl,rfl⟩
section
def Ba(w:World)(K:Nat)(t:TypeId)(cs:List Value):Prop:=w.heap[K]?=some (.cells cs.toArray t (0,0))
theorem F6{w:World}{K:Nat}{t:TypeId}{cs:List Value}(h:Ba w K t cs)(i:Nat):w.cell? ⟨K,i,none⟩=cs[i]?:=by
 rw[IT w K i _ t (0,0) h];simp
theorem LL{w:World}{K:Nat}{t:TypeId}{cs:List Value}(h:Ba w K t cs)(i:Nat):w.frozen? ⟨K,i,none⟩=false:=frozen_of_row w K i _ t h
theorem LM{w:World}{K:Nat}{t:TypeId}{cs:List Value}(h:Ba w K t cs)(i:Nat)(v:Value):Ba (w.setCell ⟨K,i,none⟩ v) K t (cs.set i v):=by
 have:=heap_setCell_same w K i _ t v h;simpa[Ba] using this
theorem Nf{w:World}{K a i:Nat}{t:TypeId}{cs:List Value}{v:Value}(h:Ba w K t cs)(b:K≠a):Ba (w.setCell ⟨a,i,none⟩ v) K t cs:=by
 unfold Ba;rw[HG _ _ _ _ (show K≠(⟨a,i,none⟩:Addr).block from b)];exact h
theorem SY{w:World}{K:Nat}{t:TypeId}{cs:List Value}(h:Ba w K t cs):Ba w.drew K t cs:=h
theorem Ng{w:World}{K:Nat}{t:TypeId}{cs:List Value}(h:Ba w K t cs):K<w.heap.size:=by
 rcases BZ K w.heap.size with q|q
 ·exact q
 ·unfold Ba at h;rw[B8 q] at h;cases h
theorem JI(w:World)(cs:List Value)(t:TypeId):Ba (w.alloc (.cells cs.toArray t)) w.heap.size t cs:=by
 unfold Ba;exact HE w _
theorem Zu{w:World}{K:Nat}{t:TypeId}{cs:List Value}(h:Ba w K t cs)(o:Obj):Ba (w.alloc o) K t cs:=by
 unfold Ba;rw[H0 w o K (Ng h)];exact h
section
variable {P:Program} {ops:Array Oper} {rest:List Oper} {o:Oper} {a:Act} {w:World} {Q:Exit→Act→World→Prop}
theorem Fe(l:o.guard=none)(e:TypeId)(x y:Operand)(p:o.op= .store e x y)(g:Nat)(b d:List Value)(n:Nat)(r:a.eval x= .pointer (some ⟨g,0,none⟩))(hy:a.eval y= .agg b.toArray)
 (t:TypeId)(f:Ba w g t d)(m:(P.info? e).map (·.size)=some n)(q:d.length=n)(i:b.length=n)(h1:b.all (·.oneCell')=true)
 (h:∀c,Ba c g t b->(∀B,B<=g->Below B w c)->c=w.heap.size->(∀k,k≠g->c.heap[k]?=w.heap[k]?)->wpList P ops Q rest (a.put o.dst undef) c):wpList P ops Q (o::rest) a w:=by
 refine wpList_store_row l e x y p g b.toArray r hy t d.toArray f (by rw[m];simp[i]) (by simp[q,i]) (by simpa using h1) ?_;exact h _ (setRow_heap w g _ _ t _ f) (λB j=>below_setRow (A2 _ _) j _) (by simp) (λk hk=>setRow_other w g k _ hk)
theorem Zv(f:o.guard=none)(c:TypeId)(x:Operand)(k:o.op= .load c x)(g:Nat)(b:List Value)(n:Nat)(m:a.eval x= .pointer (some ⟨g,0,none⟩))
 (t:TypeId)(e:Ba w g t b)(d:TypeDesc)(l:P.underlying c=some d)(hd:(match d with| .struct _| .array _ _=>true|_=>false)=true)(i:(P.info? c).map (·.size)=some n)(j:b.length=n)
 (h:wpList P ops Q rest (a.put o.dst (.agg b.toArray)) w):wpList P ops Q (o::rest) a w:=
 wpList_load_row f c x k g m t b.toArray (0,0) d e l hd (by rw[i];simp[j]) h
end
theorem KH{P:Program}{b:Func}{p u:Tmp}{a:TypeId}(h:b.results=#[.cell p a, .tmp u])(tmps:Array Value)(w:World)(g:Nat)(cells:List Value)(n:Nat)(hp:tmps.getD p undef= .pointer (some ⟨g,0,none⟩))
 (t:TypeId)(hg:Ba w g t cells)(d:TypeDesc)(hu:P.underlying a=some d)(hd:(match d with| .struct _| .array _ _=>true|_=>false)=true)(hi:(P.info? a).map (·.size)=some n)(hn:cells.length=n):
 (results b tmps).run P w= .ok (.tuple #[.agg cells.toArray,tmps.getD u undef]) w:=by
 rw[results_cell_tmp h,hp];simp[asAddr,Result.andThen,run_loadVar_row w g t a cells.toArray (0,0) d hg hu hd (by rw[hi];simp[hn])]
def BJ(m f:Nat->Int):List Value:=(List.range 16).map (λj=> .int .i64 (m j))++(List.range 16).map (λj=> .int .i64 (f j))
theorem IZ(m f:Nat->Int):(BJ m f).length=32:=by simp[BJ]
theorem JJ(m f:Nat->Int):(BJ m f).all (·.oneCell')=true:=by
 simp[BJ,Value.oneCell']
theorem PI(m f:Nat->Int){j:Nat}(h:j<16):(BJ m f)[j]?=some (.int .i64 (m j)):=by
 unfold BJ;rw[HI (by simp;omega)];simp[h]
theorem Nh(m f:Nat->Int){j:Nat}(h:j<16):(BJ m f)[16+j]?=some (.int .i64 (f j)):=by
 unfold BJ;rw[HU (by simp)];simp[h]
theorem Zw(m f m':Nat->Int){j:Nat}(c:j<16)(v:Int)(h1:m' j=v)(h2:∀i,i≠j->m' i=m i):(BJ m f).set j (.int .i64 v)=BJ m' f:=by
 unfold BJ;rw[List.set_append_left _ _ (by simp;omega)];congr 1;apply Hf
 ·simp
 ·intro i a b;rw[HC];by_cases e:j=i
  ·subst e;simp[h1]
  ·simp[e,h2 i (by omega)]
theorem Zx(m f a:Nat->Int){j:Nat}(v:Int)(h1:a j=v)(h2:∀i,i≠j->a i=f i):(BJ m f).set (16+j) (.int .i64 v)=BJ m a:=by
 unfold BJ;rw[PL _ _ (by simp)];congr 1;simp only[B4,LA,VR];apply Hf
 ·simp
 ·intro i b c;rw[HC];by_cases e:j=i
  ·subst e;simp[h1]
  ·simp[e,h2 i (by omega)]
theorem PJ{m f m' a:Nat->Int}(h:∀j,j<16->m j=m' j/\f j=a j):BJ m f=BJ m' a:=by
 unfold BJ;congr 1<;>exact HV λj b=>by first|rw[(h j (HW.1 b)).1]|rw[(h j (HW.1 b)).2]
theorem Eo:(prog.info? 321).map (·.size)=some 32:=by kernel_rfl
theorem SZ:(prog.info? 319).map (·.size)=some 16:=by kernel_rfl
def AQ(l:List Int)(n:Nat):Int:=if n=0 then 0 else Az l n
def FB(l:List Int)(a n:Nat):Int:=if n<a then AX l n else 0
theorem Zy(l:List Int)(x:Int)(h:0<=x)(n:Nat):AQ (l++[x]) n=AQ l n+if 0<x/\x=n then 1 else 0:=by
 unfold AQ;by_cases h0:n=0
 ·subst h0;simp;omega
 ·rw[A3 h0,A3 h0,IY];by_cases e:x=n
  ·rw[A4 e,A4 (by omega)];omega
  ·rw[A3 e,A3 (by omega)];omega
theorem Ta(l:List Int)(n:Nat):0<=AQ l n/\AQ l n<=l.length:=by
 unfold AQ;have:=SL l n;split<;>omega
theorem Zz(l:List Int)(n:Nat):AX l (n+1)=(AX l n+AQ l n)*2:=rfl
end
def Ep(l:List Int):List Value:=BJ (AQ l) (FB l 16)
abbrev AY:List Value:=List.replicate 32 (.int .i64 0)
theorem ZA:BJ (λ_=>0) (λ_=>0)=AY:=rfl
theorem Ni:∀x,x∈AY->x.oneCell'=true:=by
 intro x a;rw[RV a];rfl
theorem ZB(l:List Int):∀x,x∈Ep l->x.oneCell'=true:=HH.1 (JJ _ _)
theorem ZC{l:List Int}(h:AI l=true){a:Nat}(b:a<15):0<=AX l a/\AX l a+AQ l a<=32768:=by
 have h0:=Na l a;refine⟨h0,?_⟩;rcases a with _|a
 ·simp[AX,AQ]
 ·have:=Nd h (n:=a) (by omega);have h2:=Gx (m:=a+1) (n:=15) (by omega);rw[LH] at h2;unfold AQ;rw[A3 (by omega)];omega
theorem Tb(v:Value)(l:List Int)(w:World)(a5:Av w v 1 (λx=>[.int .i64 x]) l)(hl:l.length<=140737488355328):
 Calls prog 240 #[v] w λe w'=>∃cs:List Value,cs.length=32/\cs.all (·.oneCell')=true/\(AI l=true->cs=Ep l)/\e= .returned (.tuple #[.agg cs.toArray, .bool (AI l)])/\Below w w w':=by
 have a6:=a5;obtain⟨ax,ay,rfl,aT,ao,ah⟩:=a5;have R:=A0 a6;clear a6 ah ao;have V:Ba (w.alloc (.cells AY.toArray 321)) w.heap.size 321 AY:=JI w _ _;have W:Ba ((w.alloc (.cells AY.toArray 321)).alloc (.cells AY.toArray 321)) w.heap.size 321 AY:=Zu V _;have u:Ba ((w.alloc (.cells AY.toArray 321)).alloc (.cells AY.toArray 321)) (w.alloc (.cells AY.toArray 321)).heap.size 321 AY:=JI _ _ _;have X:Below w w ((w.alloc (.cells AY.toArray 321)).alloc (.cells AY.toArray 321)):=((A2 _ _).alloc (A1 _) _).alloc (by simp) _;obtain⟨L,M,O⟩:=Hx3 W u X;clear V W u X;by_cases aM:300<l.length
 ·have c:AI l=false:=by
   cases h:AI l with
   |false=>rfl
   |true=>have:=(D7 h).1;omega
  have ab:(300:Int)<(l.length:Int):=by omega
  go_enter func240,ntmps240;go_wp2_with (first|(refine Fe rfl 321 _ _ rfl w.heap.size AY AY 32 rfl rfl 321 L Eo rfl rfl rfl ?_;intro C d hb B _)|fail)
  refine A5 (KH rfl _ _ w.heap.size AY 32 rfl 321 d _ underlying321 rfl Eo rfl) rfl ?_;exact⟨AY,rfl,by first|rfl|exact Ni,λh=>absurd h (by rw[c];decide),by rw[c];rfl,O.trans (hb _ (A1 _))⟩
 ·have ab:¬(300:Int)<(l.length:Int):=by omega
  have ad:(w.alloc (.cells AY.toArray 321)).heap.size=w.heap.size+1:=by simp
  rw[ad] at M;go_enter func240,ntmps240;go_wp2_with fail;go_loopw [14] (λi wr=>∃k:Nat,k<=l.length/\i= .int .i64 k/\Ba wr w.heap.size 321 AY/\Ba wr (w+1) 321 (BJ (AQ (l.take k)) (λ_=>0))/\Below w w wr/\∀x∈l.take k,0<=x/\x<=15) (λi _=>l.length-(intOf i).toNat)
  case atStart=>exact⟨0,A7 _,rfl,L,by rw[show BJ (AQ (l.take 0)) (λ_=>0)=AY by rw[<-ZA];exact PJ λj _=>⟨by simp[AQ,Az],rfl⟩];exact M,O,by simp⟩
  case round=>
   obtain⟨k,hk,rfl,d,I,hb,Z⟩:=hrel;obtain⟨G,q,s,o⟩:=Hx4 Z d I hb;clear Z d I hb;by_cases A:k<l.length
   ·rcases Da R with⟨rfl,_⟩|⟨aV,b0,a7,c0,ap,aP,ag,U⟩
    ·simp at A
    ·injection ap with h1 h2 h3;subst h1 h3;have aC:wr.cell? ⟨b0,a7+k,none⟩=some (.int .i64 l[k]):=by rw[o.out.cell (p:=⟨b0,a7+k,none⟩) ag];exact U k A
     obtain⟨t,av⟩:=Hx2 (B1 A) (rfl:l[k]=l[k]);have a2:l[k]∈l:=BA A;have c:¬(0<=l[k]/\l[k]<=15)->AI l=false:=λK=>by
      cases h:AI l with
      |false=>rfl
      |true=>exact absurd ((D7 h).2.1 _ a2) K
     have T:=A0 c;have g1:(k:Int)<(l.length:Int):=by omega
     have g2:(0:Int)<=(k:Int):=by omega
     clear U a2 c h2;have Hall':Hid (0<=l[k]/\l[k]<=15->∀x∈l.take (k+1),0<=x/\x<=15):=by
      unfold Hid;intro K y hy;rw[t.out,GA,B6] at hy;rcases hy with hy|rfl
      ·exact G y hy
      ·exact K
     generalize l[k]=x at*;by_cases aX:x<0
     ·have c:=T (by omega);have g:=A0 c;clear c;go_wp2_with (first|(refine Fe rfl 321 _ _ rfl w.heap.size AY AY 32 rfl rfl 321 q Eo rfl rfl rfl ?_;intro C d hb B _)|fail)
      refine A5 (KH rfl _ _ w.heap.size AY 32 rfl 321 d _ underlying321 rfl Eo rfl) rfl ?_;exact⟨AY,rfl,by first|rfl|exact Ni,λh=>absurd h (by rw[g.out];decide),by rw[g.out];rfl,o.trans (hb _ (A1 _))⟩
     by_cases b2:15<x
     ·have c:=T (by omega);have g:=A0 c;clear c;go_wp2_with (first|(refine Fe rfl 321 _ _ rfl w.heap.size AY AY 32 rfl rfl 321 q Eo rfl rfl rfl ?_;intro C d hb B _)|fail)
      refine A5 (KH rfl _ _ w.heap.size AY 32 rfl 321 d _ underlying321 rfl Eo rfl) rfl ?_;exact⟨AY,rfl,by first|rfl|exact Ni,λh=>absurd h (by rw[g.out];decide),by rw[g.out];rfl,o.trans (hb _ (A1 _))⟩
     obtain⟨n,rfl⟩:=G0 (a:=x) (by omega);have a3:n<16:=by omega
     have z:Hid (∀j,AQ (l.take (k+1)) j=AQ (l.take k) j+if 0<(n:Int)/\(n:Int)=j then 1 else 0):=by
      unfold Hid;intro j;rw[t.out];exact Zy _ _ (by omega) j
     by_cases al:n=0
     ·subst al;have b1:¬(0:Int)<0:=by omega
      go_wp2_with fail;refine⟨⟨k+1,by omega,by go_num,q,?_,o,Hall' (by omega)⟩,by simp[intOf];omega⟩;rw[show BJ (AQ (l.take (k+1))) (λ_=>0)=BJ (AQ (l.take k)) (λ_=>0) from PJ λj _=>⟨by rw[z.out j];simp,rfl⟩];exact s
     ·have an:0<(n:Int):=by omega
      have a9:wr.cell? ⟨w+1,n,none⟩=some (.int .i64 (AQ (l.take k) n)):=by rw[F6 s.out,PI _ _ a3]
      have aa:=LL s n;have a1:=Ta (l.take k) n;have ak:=ID k l;have au:=a1.1;have m1:AQ (l.take k) n<=300:=by omega
      obtain⟨F,D,H⟩:=Hx3 (LM s n (.int .i64 (AQ (l.take k) n+1))) (Nf (i:=n) (v:= .int .i64 (AQ (l.take k) n+1)) q (show w.heap.size≠w.heap.size+1 by omega)) (o.setCell (p:=⟨w+1,n,none⟩) (by simp) (.int .i64 (AQ (l.take k) n+1)));have E:Hid (BJ (AQ (l.take k)) (λ_=>0)|>.set n (.int .i64 (AQ (l.take k) n+1))|>(·=BJ (AQ (l.take (k+1))) (λ_=>0))):=by
       unfold Hid;exact Zw _ _ _ a3 _ (by rw[z.out n,A4 ⟨an,rfl⟩]) (λi ai=>by rw[z.out i,A3 (by omega)];simp)
      clear a1 ak z;generalize AQ (l.take k) n=m at*;go_wp2_with fail;refine⟨⟨k+1,by omega,by go_num,D,?_,H,Hall' (by omega)⟩,by simp[intOf];omega⟩;rw[<-E.out];exact F
   ·obtain rfl:k=l.length:=by omega
    have t:=A0 (D4 (l:=l));go_wp2_with fail;refine(Zt _ l wr (Aj R o) hl).mono ?_;rintro e b3 ⟨rfl,rfl⟩;by_cases aU:32768<BH l
    ·have c:AI l=false:=by
      cases h:AI l with
      |false=>rfl
      |true=>have:=(D7 h).2.2;omega
     have g:=A0 c;clear c;generalize BH l=ar at*;go_wp2_with (first|(refine Fe rfl 321 _ _ rfl w.heap.size AY AY 32 rfl rfl 321 q Eo rfl rfl rfl ?_;intro C d hb B _)|fail)
     refine A5 (KH rfl _ _ w.heap.size AY 32 rfl 321 d _ underlying321 rfl Eo rfl) rfl ?_;exact⟨AY,rfl,by first|rfl|exact Ni,λh=>absurd h (by rw[g.out];decide),by rw[g.out];rfl,o.trans (hb _ (A1 _))⟩
    ·have a4:AI l=true:=SS (by omega) (by have:=G.out;rw[t.out] at this;exact this) (by omega);have Q:=A0 a4;clear a4;have J:=s.out;rw[t.out] at J;have P:=A0 J;clear J s G;generalize BH l=ar at*;go_wp2_with fail;obtain⟨a8,aq⟩:∃a8:World,a8=wr:=⟨_,rfl⟩;subst aq;go_loopw [7] (λi wr=>∃b:Nat,b<=15/\i= .int .i64 ((b:Int)+1)/\Ba wr w.heap.size 321 AY/\Ba wr (w+1) 321 (BJ (AQ l) (FB l (b+1)))/\Below w w wr) (λi _=>17-(intOf i).toNat)
     case atStart=>exact⟨0,by omega,rfl,q,by rw[show BJ (AQ l) (FB l (0+1))=BJ (AQ l) (λ_=>0) from PJ λj _=>⟨rfl,by unfold FB;by_cases aj:j=0;(subst aj;rfl);(rw[A3 (by omega)])⟩];exact P,o⟩
     case round=>
      obtain⟨b,I,rfl,u,Y,a0⟩:=hrel;obtain⟨N,r,S⟩:=Hx3 u Y a0;clear u Y a0 q P;by_cases af:b<15
      ·have a9:wr.cell? ⟨w+1,b,none⟩=some (.int .i64 (AQ l b)):=by rw[F6 r.out,PI _ _ (by omega)]
       have aa:wr.cell? ⟨w+1,16+b,none⟩=some (.int .i64 (AX l b)):=by rw[F6 r.out,Nh _ _ (by omega)];simp[FB]
       have aF:=LL r (16+(b+1));have aK:wr.cell? ⟨w+1,16+(b+1),none⟩=some (.int .i64 0):=by rw[F6 r.out,Nh _ _ (by omega)];simp[FB]
       obtain⟨f0,f1⟩:=ZC Q af;have au:=(Ta l b).1;have f2:AX l b<=32768:=by omega
       have m1:AQ l b<=32768:=by omega
       obtain⟨F,D,H⟩:=Hx3 (LM r (16+(b+1)) (.int .i64 ((AX l b+AQ l b)*2))) (Nf (i:=16+(b+1)) (v:= .int .i64 ((AX l b+AQ l b)*2)) N (show w.heap.size≠w.heap.size+1 by omega)) (S.setCell (p:=⟨w+1,16+(b+1),none⟩) (by simp) (.int .i64 ((AX l b+AQ l b)*2)));have E:Hid (BJ (AQ l) (FB l (b+1))|>.set (16+(b+1)) (.int .i64 ((AX l b+AQ l b)*2))|>(·=BJ (AQ l) (FB l (b+1+1)))):=by
        unfold Hid;exact Zx _ _ _ _ (by unfold FB;rw[A4 (by omega)];exact Zz l b) (λi ai=>by unfold FB;by_cases h:i<b+1<;>simp[h]<;>omega)
       have g1:(b:Int)+1<=15:=by omega
       have g2:(0:Int)<=(b:Int):=by omega
       have aL:((b:Int)+1).toNat=b+1:=by omega
       have b4:IntKind.i64.wrap (AX l b+AQ l b)=AX l b+AQ l b:=by rw[H2];omega
       have b5:IntKind.i64.wrap ((AX l b+AQ l b)*2)=(AX l b+AQ l b)*2:=by rw[H2];omega
       generalize AX l b=f at*;generalize AQ l b=m at*;go_wp2_with fail
       go_region
       go_wp2_with fail;refine⟨⟨b+1,by omega,by go_num,SY D,?_,H.drew⟩,by simp[intOf];omega⟩;rw[<-E.out];exact SY F
      ·obtain rfl:b=15:=by omega
       have g1:¬(15:Int)+1<=15:=by omega
       have ac:BJ (AQ l) (FB l (15+1))=Ep l:=rfl;rw[ac] at r;go_wp2_with (first|(refine Zv rfl 321 _ rfl (w+1) (Ep l) 32 rfl 321 r _ underlying321 rfl Eo (IZ _ _) ?_)|(refine Fe rfl 321 _ _ rfl w.heap.size (Ep l) AY 32 rfl rfl 321 N Eo rfl (IZ _ _) (JJ _ _) ?_;intro C d hb B _)|fail)
       refine A5 (KH rfl _ _ w.heap.size (Ep l) 32 rfl 321 d _ underlying321 rfl Eo (IZ _ _)) rfl ?_;exact⟨Ep l,IZ _ _,by first|exact JJ _ _|exact ZB l,λ_=>rfl,by rw[Q.out];rfl,S.trans (hb _ (A1 _))⟩
theorem Tc(v:Value)(l:List Int)(n i:Int)(s:Nat)(w:World)(q:Av w v 1 (λx=>[.int .i64 x]) l)(hl:l.length<=140737488355328)(hs:s<l.length)(h:l[s]=n)(d:i=Az (l.take s) n.toNat)(C:0<=n):
 Calls prog 397 #[v, n, i] w λe w'=>e= .returned (.int .i64 s)/\w=w':=by
 obtain⟨a,rfl⟩:=G0 C;rw[BY] at d;rcases Da q with⟨rfl,_⟩|⟨H,b0,J,c0,rfl,G,F,g⟩
 ·simp at hs
 ·clear q;go_enter func397,ntmps397;go_wp2
  go_loop [2,11] (λi m=>∃k:Nat,k<=s/\m= .int .i64 k/\i= .int .i64 ((Az (l.take s) a:Int) -Az (l.take k) a)) (λ_ m=>l.length-(intOf m).toNat)
  case atStart=>exact⟨0,A7 _,rfl,by rw[d];simp[Az]⟩
  case round=>
   obtain⟨k,hk,rfl,rfl⟩:=hrel;have o:k<l.length:=by omega
   have t:=g k o;have E:(k:Int)<(l.length:Int):=by omega
   have g2:(0:Int)<=(k:Int):=by omega
   have y:=SM l hk (n:=a);have z:=SL (l.take s) a;have A:=ID s l;have b:=A0 (show Az (l.take (k+1)) a=Az (l.take k) a+if l[k]=a then 1 else 0 by rw[B1 o,IY]);by_cases u:k=s
   ·subst u;have r:(Az (l.take k) a:Int) -Az (l.take k) a=0:=by omega
    rw[h] at t;clear g d h y z A;rw[r];go_wp2
    go_ret;exact⟨rfl,rfl⟩
   ·have B:k<s:=by omega
    have p:l[k]=(a:Int)->Az (l.take k) a<Az (l.take s) a:=λD=>by
     have h1:=SM l (show k+1<=s from B) (n:=a);rw[b.out,A4 D] at h1;omega
    have f:=A0 p;have j:(l[k]=(a:Int))\/l[k]≠(a:Int):=by omega
    clear g d h p;generalize l[k]=x at*;generalize Az (l.take s) a=cs at*;generalize Az (l.take k) a=c at*;rcases j with rfl|j
    ·have hp:=f rfl;have r:¬((cs:Int) -c=0):=by omega
     rw[A4 rfl] at b;have I:(c:Int)<=cs:=by omega
     have K:IntKind.i64.wrap ((cs:Int) -c-1)=(cs:Int) -c-1:=by rw[H2];omega
     clear f;go_wp2
     exact⟨⟨k+1,by omega,by go_num,by rw[b.out];congr 1;omega⟩,by simp[intOf];omega⟩
    ·rw[A3 j] at b;clear f;go_wp2
     exact⟨⟨k+1,by omega,by go_num,by rw[b.out];simp⟩,by simp[intOf];omega⟩
section
abbrev LN:Int×Int->List Value:=λc=>[.int .i64 c.1, c.2]
def FC(l:List (Int×Int)):List Value:=l.flatMap LN
theorem Nj(c:Int×Int)(l:List (Int×Int)):FC (c::l)= .int .i64 c.1:: .int .i64 c.2::FC l:=rfl
theorem Td(l:List (Int×Int)):(FC l).length=l.length*2:=by
 induction l with
 |nil=>rfl
 |cons t l a=>rw[Nj];simp only[BV,a];omega
theorem PK(l:List (Int×Int)):∀i (a:i<l.length),(FC l)[i*2]?=some (.int .i64 l[i].1)/\(FC l)[i*2+1]?=some (.int .i64 l[i].2):=by
 induction l with
 |nil=>intro i a;simp at a
 |cons t l b=>
  intro i a;rw[Nj];rcases i with _|i
  ·exact⟨rfl,rfl⟩
  ·have:=b i (by simpa using a);rw[show(i+1)*2=i*2+1+1 by omega];simpa using this
theorem ZD(l:List (Int×Int))(c:Int×Int):∀k,k<l.length->((FC l).set (k*2) (.int .i64 c.1)).set (k*2+1) (.int .i64 c.2)=FC (l.set k c):=by
 induction l with
 |nil=>intro k hk;simp at hk
 |cons t l a=>
  intro k hk;rcases k with _|k
  ·rfl
  ·have:=a k (by simpa using hk);rw[show(k+1)*2=k*2+1+1 by omega,Nj,G3,G3,G3,G3,G3,Nj,<-this]
theorem ZE(n:Nat):(madeCells #[Value.int .i64 0,Value.int .i64 0] (n*2)).toList=FC (List.replicate n (0,0)):=by
 apply I2;intro i;have h1:(madeCells #[Value.int .i64 0,Value.int .i64 0] (n*2)).toList.length=n*2:=by simp[madeCells]
 by_cases a:i<n*2
 ·have h2:=PK (List.replicate n ((0:Int),(0:Int))) (i/2) (by simp;omega);rw[Bl (by omega)];rcases Nat.mod_two_eq_zero_or_one i with h|h
  ·rw[show i/2*2=i by omega] at h2;rw[h2.1];simp[madeCells,h]
  ·rw[show i/2*2+1=i by omega] at h2;rw[h2.2];simp[madeCells,h]
 ·rw[E9 (by omega),E9 (by rw[Td];simp;omega)]
theorem ZF:(prog.info? 251).map (λi=>(i.zero,i.size,i.bytes))=some (some (.agg #[.int .i64 0, .int .i64 0]),2,16):=by kernel_rfl
theorem ZG{w:World}{base e n:Nat}{v:Value}{l:List (Int×Int)}(h:w.ownsRow base e 2 v n (FC l)):Av w v 2 LN l/\n=l.length:=by
 obtain⟨hl,h⟩:=h;rw[Td] at hl;obtain rfl:n=l.length:=by omega
 refine⟨?_,rfl⟩;rcases h with⟨rfl,h0⟩|⟨g,cap,cur,rfl,d,hc,b,hm,hs,c⟩
 ·obtain rfl:=FA.1 h0;exact Cq λ_=>rfl
 ·refine⟨_,cap,rfl,b,nofun,Or.inr ⟨g,0,rfl,?_,λi a j f=>?_⟩⟩
  ·rcases BZ g w.heap.size with h|h
   ·exact h
   ·rw[B8 h] at hc;cases hc
  ·have h1:(cur.toList.take (l.length*2))[i*2+j]?=(FC l)[i*2+j]?:=by rw[c]
   rw[HP (by omega)] at h1;have h2:(FC l)[i*2+j]?=(LN l[i])[j]?:=by
    have:=PK l i a;rcases j with _|_|j
    ·exact this.1
    ·exact this.2
    ·omega
   rw[h2] at h1;simp only[World.cell?,hc,B2];simpa using h1
theorem ZH{w:World}{v:Value}{l:List (Int×Int)}(h:Av w v 2 LN l):
 (l=[]/\∃a cap,v= .slice a 0 cap/\(a=none->cap=0))\/
 (0<l.length/\∃b off cap,v= .slice (some ⟨b,off,none⟩) l.length cap/\l.length<=cap/\b<w.heap.size/\∀i (c:i<l.length),w.cell? ⟨b,off+i*2,none⟩=some (.int .i64 l[i].1)/\w.cell? ⟨b,off+i*2+1,none⟩=some (.int .i64 l[i].2)):=by
 obtain⟨a,cap,e,hl,g,hc⟩:=h;by_cases h0:l=[]
 ·subst h0;exact Or.inl ⟨rfl,a,cap,e,g⟩
 ·rcases hc with hc|⟨b,off,ha,f,d⟩
  ·exact absurd hc h0
  ·subst ha;exact Or.inr ⟨List.length_pos_iff.2 h0,b,off,cap,e,hl,f,λi c=>⟨d i c 0 (by omega),d i c 1 (by omega)⟩⟩
def Ij(l:List Int)(s:Nat):Int×Int:=if 0<l[s]?.getD 0 then(l[s]?.getD 0,DC l s) else(0,0)
def Ik(l:List Int):List (Int×Int):=(List.range l.length).map (Ij l)
def LO(l:List Int):List (Int×Int):=if AI l=true then Ik l else[]
theorem Te(l:List Int):(Ik l).length=l.length:=by simp[Ik]
theorem ZI{l:List Int}{s:Nat}(hs:s<l.length):(Ik l)[s]'(by rw[Te];exact hs)=Ij l s:=by simp[Ik]
def Ct(l:List Int)(k:Nat):List (Int×Int):=(List.range l.length).map λs=>if s<k then Ij l s else(0,0)
theorem ZJ(l:List Int)(k:Nat):(Ct l k).length=l.length:=by simp[Ct]
theorem ZK(l:List Int):Ct l 0=List.replicate l.length (0,0):=by
 apply Hf
 ·simp[Ct]
 ·intro i h1 h2;simp[Ct]
theorem ZL(l:List Int):Ct l l.length=Ik l:=by
 apply Hf
 ·simp[Ct,Ik]
 ·intro i h1 h2;have:i<l.length:=by simpa[Ct] using h1
  simp[Ct,Ik,this]
theorem Tf{l:List Int}{k:Nat}(_hk:k<l.length):(Ct l k).set k (Ij l k)=Ct l (k+1):=by
 apply Hf
 ·simp[Ct]
 ·intro i h1 h2;rw[HC];by_cases e:k=i
  ·subst e;simp[Ct]
  ·have:i<k↔i<k+1:=by omega
   simp[Ct,e,this]
theorem ZM{l:List Int}{k:Nat}(hk:k<l.length)(h0:l[k]=0):Ct l k=Ct l (k+1):=by
 rw[<-Tf hk];apply Hf
 ·simp[Ct]
 ·intro i h1 h2;rw[HC];by_cases e:k=i
  ·subst e;simp[Ct,Ij,Bl hk,h0]
  ·rw[A3 e]
section
variable {P:Program} {ops:Array Oper} {rest:List Oper} {o:Oper} {a:Act} {w:World} {Q:Exit→Act→World→Prop}
theorem ZN(w:World)(g off:Nat)(t b:TypeId)(e a:List Value)(d:TypeDesc)(k:Ba w g t e)(l:∀j u,a[j]?=some u->e[off+j]?=some u)
 (m:P.underlying b=some d)(hd:(match d with| .struct _| .array _ _=>true|_=>false)=true)(f:(P.info? b).map (·.size)=some a.length):
 (loadVar b ⟨g,off,none⟩).run P w= .ok (.agg a.toArray) w:=by
 have hl:(loadCells ⟨g,off,none⟩ a.length).run P w= .ok a.toArray w:=
  run_loadCells_list (P:=P) w ⟨g,off,none⟩ a (λj v n=>by rw[Bo,F6 k];exact l j v n)
 cases c:P.info? b with
 |none=>simp[c] at f
 |some i=>
  have hs:i.size=a.length:=by simpa[c] using f
  have h:(isAgg b).run P w= .ok true w:=by
   unfold isAgg;rw[Q2,J3 m w];cases d<;>simp_all
  simp[loadVar,Q2,h,sizeOf,typeInfo,c,hs,hl]
theorem ZO(k:o.guard=none)(c:TypeId)(x:Operand)(m:o.op= .load c x)(g off:Nat)(e b:List Value)(q:a.eval x= .pointer (some ⟨g,off,none⟩))
 (t:TypeId)(i:Ba w g t e)(n:∀j u,b[j]?=some u->e[off+j]?=some u)(d:TypeDesc)(p:P.underlying c=some d)(hd:(match d with| .struct _| .array _ _=>true|_=>false)=true)
 (l:(P.info? c).map (·.size)=some b.length)(h:wpList P ops Q rest (a.put o.dst (.agg b.toArray)) w):wpList P ops Q (o::rest) a w:=
 wpList_plain k λK f=>by
  unfold Oper.wp execOp;simp only[m,q,Instr.loadAt,Instr.sureAddr,Q2,Sem.run_pure,Result.andThen_ok,ZN w g off t c e b d i n p hd l];exact f _ _ h
end
def Dt(f:Nat->Int):List Value:=(List.range 16).map λj=> .int .i64 (f j)
theorem Tg(f:Nat->Int):(Dt f).length=16:=by simp[Dt]
theorem ZP(f:Nat->Int):(Dt f).all (·.oneCell')=true:=by simp[Dt,Value.oneCell']
theorem Th(f:Nat->Int){j:Nat}(h:j<16):(Dt f)[j]?=some (.int .i64 (f j)):=by simp[Dt,h]
theorem ZQ(f a:Nat->Int){j:Nat}(v:Int)(h1:a j=v)(h2:∀i,i≠j->a i=f i):(Dt f).set j (.int .i64 v)=Dt a:=by
 apply Hf
 ·simp[Dt]
 ·intro i b c;rw[HC];by_cases e:j=i
  ·subst e;simp[Dt,h1]
  ·simp[Dt,e,h2 i (by omega)]
theorem Ti{f a:Nat->Int}(h:∀j,j<16->f j=a j):Dt f=Dt a:=HV λj b=>by rw[h j (HW.1 b)]
theorem ZR(l:List Int):∀j u,(Dt (AX l))[j]?=some u->(Ep l)[16+j]?=some u:=by
 intro j u a;have b:j<16:=by
  rcases BZ j 16 with h|h
  ·exact h
  ·rw[E9 (by rw[Tg];exact h)] at a;cases a
 rw[Th _ b] at a;unfold Ep;rw[Nh _ _ b,<-a];simp[FB,b]
def BS(l:List Int)(k n:Nat):Int:=if n=0 then 0 else AX l n+Az (l.take k) n
theorem ZS(l:List Int):Dt (BS l 0)=Dt (AX l):=by
 refine Ti λj _=>?_;unfold BS;by_cases h:j=0
 ·subst h;rfl
 ·rw[A3 h];simp[Az]
theorem ZT{l:List Int}{k n:Nat}(hk:k<l.length)(h:l[k]=n)(c:0<n):BS l (k+1) n=BS l k n+1/\∀i,i≠n->BS l (k+1) i=BS l k i:=by
 have a:=B1 hk;refine⟨?_,λi b=>?_⟩
 ·unfold BS;rw[A3 (by omega),A3 (by omega),a,IY,A4 h];omega
 ·unfold BS;by_cases h0:i=0
  ·rw[A4 h0,A4 h0]
  ·rw[A3 h0,A3 h0,a,IY,A3 (by omega)];simp
theorem ZU{l:List Int}{k:Nat}(hk:k<l.length)(h:l[k]=0):Dt (BS l (k+1))=Dt (BS l k):=by
 refine Ti λi _=>?_;unfold BS;by_cases h0:i=0
 ·rw[A4 h0,A4 h0]
 ·rw[A3 h0,A3 h0,B1 hk,IY,A3 (by omega)];simp
theorem ZV{l:List Int}{k n:Nat}(hk:k<l.length)(h:l[k]=n)(a:0<n):Ij l k=((n:Int),BS l k n):=by
 have e:l[k]?.getD 0=(n:Int):=by rw[Bl hk,D0,h]
 unfold Ij BS DC;rw[e,A4 (by omega),A3 (by omega),BY]
theorem ZW{l:List Int}(a:AI l=true){k n:Nat}(b:n<16):0<=BS l k n/\BS l k n<=65536:=by
 unfold BS;rcases n with _|n
 ·simp
 ·rw[A3 (by omega)];have h1:=Nd a (n:=n) (by omega);have h2:=PF l k (n+1);have h3:=Gx (m:=n+1) (n:=15) (by omega);have h4:=Na l (n+1);rw[LH] at h3;omega
end
theorem Tj{w w':World}{K:Nat}{t:TypeId}{cs:List Value}{row:Option Nat}(h:Ba w K t cs)(b:w.grownBy w' row)(a:some K≠row):Ba w' K t cs:=by
 unfold Ba;obtain⟨_,_,_,_,h5⟩:=b;rw[h5 K (Ng h) a];exact h
theorem Tk{w w':World}{base e n size:Nat}{v:Value}{cs:List Value}(h:w.ownsRow base e size v n cs)(c:∀g,v.ownBlock=some g->w'.heap[g]?=w.heap[g]?):w'.ownsRow base e size v n cs:=by
 obtain⟨hl,h⟩:=h;refine⟨hl,?_⟩;rcases h with h|⟨g,cap,cur,rfl,a,hc,b,hm,hs,d⟩
 ·exact Or.inl h
 ·exact Or.inr ⟨g,cap,cur,rfl,a,by rw[c g rfl];exact hc,b,hm,hs,d⟩
theorem ZX{l:List Int}(h:AI l=false):LO l=[]:=by unfold LO;rw[h];rfl
theorem Tl{l:List Int}(h:AI l=true):LO l=Ik l:=by unfold LO;rw[A4 h]
theorem Tm(v:Value)(l:List Int)(w:World)(O:Av w v 1 (λx=>[.int .i64 x]) l)(hl:l.length<=140737488355328):
 Calls prog 168 #[v] w λe w'=>∃aj,e= .returned (.tuple #[aj, .bool (AI l)])/\Av w' aj 2 LN (LO l)/\Below w w w':=by
 obtain⟨i0,ax,aP,aT,aU⟩:=BW ZF;have a6:=Tb v l w O hl;have ah:=O;obtain⟨aV,aX,rfl,b9,aF,ar⟩:=O;have T:=A0 ah;clear ah ar aF;go_enter func168,ntmps168;go_wp2_with fail;refine a6.mono ?_;rintro e b ⟨cs,a7,a8,a9,rfl,a4⟩;obtain⟨F,d,W,X,Y⟩:=Hx5 (JI b AY 321) a4 a7 a8 a9;clear a6 a4 a7 a8 a9;cases ab:AI l with
 |false=>
  have c:=A0 ab;go_wp2_with (first|(refine Fe rfl 321 _ _ rfl b.heap.size cs AY 32 rfl rfl 321 F Eo rfl W X ?_;intro P r hb s _)|fail)
  refine A5 (C3 rfl _ _ _) rfl ?_;exact⟨.slice none 0 0,by rw[c.out];rfl,by rw[ZX c.out];exact Cq (λ_=>rfl),(d.alloc d.size _).trans (hb _ d.size)⟩
 |true=>
  have c:=A0 ab;have au:=Y c;subst au;have b7:l.length<=300:=(D7 c).1;clear W X Y;have av:w<=b.heap.size:=d.size;go_wp2_with (first
   |(refine Fe rfl 321 _ _ rfl b.heap.size (Ep l) AY 32 rfl rfl 321 F Eo rfl (IZ _ _) (JJ _ _) ?_
     intro P r hb s _;obtain⟨A,Q⟩:=Hx2 ((d.alloc d.size _).trans (hb _ d.size)) r;have N:P=b.heap.size+1:=by rw[s];simp
     clear r hb s F)
   |(at_make;refine HZ _ rfl _ _ 247 rfl w.heap.size 251 i0 (.agg #[.int .i64 0, .int .i64 0]) 2 underlying247 ax aP aT .i64 .i64 _ _ l.length rfl rfl rfl rfl (by rw[aU];omega) (by simp[maxLen];omega) (by omega) ?_
     intro t L J;have a0:=Tj Q J (by simp);have a5:=A.grown J (by omega) (λk hk=>by cases hk);have D:P<t.heap.size:=AM L _ rfl;obtain⟨R,B,Hown3⟩:=Hx3 a0 a5 L;clear L J a0 a5)
   |(refine ZO rfl 319 _ rfl b.heap.size 16 (Ep l) (Dt (AX l)) rfl 321 R (ZR l) _ underlying319 rfl SZ ?_)
   |(refine Fe rfl 319 _ _ rfl t.heap.size (Dt (AX l)) (List.replicate 16 (.int .i64 0)) 16 rfl rfl 319 (JI t (List.replicate 16 (.int .i64 0)) 319) SZ rfl (Tg _) (ZP _) ?_
     intro E r hb s ac;obtain⟨G,V⟩:=Hx2 r ((B.alloc B.size _).trans (hb _ B.size));have aK:E=t.heap.size+1:=by rw[s];simp
     have a2:E.heap[b.heap.size+1]?=t.heap[b.heap.size+1]?:=by rw[ac _ (by omega),H0 _ _ _ (by omega)]
     have Hown4:=A0 (Tk Hown3 (w':=E) (λg q=>by injection q with q;rw[<-q,N];exact a2));clear r hb s ac a2 Hown3 B)
   |fail)
  have Hown5:Hid (E.ownsRow w.heap.size 251 2 (.slice (some ⟨b+1,0,none⟩) l.length l.length) l.length (FC (Ct l 0))):=by
   unfold Hid;have h:=Hown4.out;rw[N] at h;rw[ZK,<-ZE];exact h
  obtain⟨a,a1⟩:∃a,a=b.heap.size+1:=⟨_,rfl⟩;rw[<-a1] at Hown5⊢;clear Hown4;obtain⟨f,u⟩:∃f,f=t.heap.size:=⟨_,rfl⟩;rw[<-u] at G⊢;have I:a≠f:=by omega
  have a3:w<=a:=by omega
  have ap:w<=f:=by omega
  clear a1 u aK D N Q R d A av;go_loopw [24] (λi wr=>∃k:Nat,k<=l.length/\i= .int .i64 k/\wr.ownsRow w.heap.size 251 2 (.slice (some ⟨a,0,none⟩) l.length l.length) l.length (FC (Ct l k))/\Ba wr f 319 (Dt (BS l k))/\Below w w wr) (λi _=>l.length-(intOf i).toNat)
  case atStart=>exact⟨0,A7 _,rfl,Hown5,by rw[ZS];exact G,V⟩
  case round=>
   obtain⟨k,hk,rfl,ad,u,hb⟩:=hrel;obtain⟨o,y,z⟩:=Hx3 ad u hb;clear ad u hb Hown5 G V;by_cases m:k<l.length
   ·rcases Da T with⟨rfl,_⟩|⟨bc,b0,ai,c0,aL,b8,aq,Z⟩
    ·simp at m
    ·injection aL with h1 h2 h3;subst h1 h3;have ao:wr.cell? ⟨b0,ai+k,none⟩=some (.int .i64 l[k]):=by rw[z.out.cell (p:=⟨b0,ai+k,none⟩) aq];exact Z k m
     have aM:=(D7 c).2.1 l[k] (BA m);have g1:(k:Int)<(l.length:Int):=by omega
     have g2:(0:Int)<=(k:Int):=by omega
     have U:Hid (∃n:Nat,n<16/\l[k]=(n:Int)):=⟨l[k].toNat,by omega,by omega⟩;obtain⟨n,aa,K⟩:=U.out;rw[K] at ao;have C:=A0 K;clear Z h2 K aM U;by_cases aC:n=0
     ·subst aC;have bl:¬(0:Int)<0:=by omega
      go_wp2_with fail;exact⟨⟨k+1,by omega,by go_num,by rw[<-ZM m C.out];exact o,by rw[ZU m C.out];exact y,z⟩,by simp[intOf];omega⟩
     ·have bb:0<(n:Int):=by omega
      have b1:wr.cell? ⟨f,n,none⟩=some (.int .i64 (BS l k n)):=by rw[F6 y.out,Th _ aa]
      have b2:=LL y n;have ay:(Ct l k).length=l.length:=ZJ l k;have hc:=PK (Ct l k) k (by omega);have b3:wr.cell? ⟨a,k*2,none⟩=some (.int .i64 (Ct l k)[k].1):=by rw[o.out.cellAt (k*2) (by omega)];exact hc.1
      have b4:wr.cell? ⟨a,k*2+1,none⟩=some (.int .i64 (Ct l k)[k].2):=by rw[o.out.cellAt (k*2+1) (by omega)];exact hc.2
      have b5:=o.frozenAt (k*2);have b6:=o.frozenAt (k*2+1);obtain⟨bp,m1⟩:=ZW c (k:=k) aa;obtain⟨S,H⟩:=Hx2 (ZV m C (by omega)) (ZT m C (by omega));have af:=(o.stored (k*2) (.int .i64 (n:Int))).1;have M:=(af.stored (k*2+1) (.int .i64 (BS l k n))).1;have ag:=ZD (Ct l k) ((n:Int),BS l k n) k (by omega);rw[ag,<-S.out,Tf m] at M;have D:=Tk M (w':=(((wr.setCell ⟨a,k*2,none⟩ (.int .i64 (n:Int))).setCell ⟨a,k*2+1,none⟩ (.int .i64 (BS l k n))).setCell ⟨f,n,none⟩ (.int .i64 (BS l k n+1)))) (λg q=>by
       injection q with q;exact HG _ _ _ _ (by rw[<-q];exact I))
      obtain⟨an,ak,A,al⟩:=Hx4 D (LM (Nf (i:=k*2+1) (v:= .int .i64 (BS l k n)) (Nf (i:=k*2) (v:= .int .i64 (n:Int)) y (Ne.symm I)) (Ne.symm I)) n (.int .i64 (BS l k n+1))) (((z.setCell (p:=⟨a,k*2,none⟩) a3 (.int .i64 (n:Int))).setCell (p:=⟨a,k*2+1,none⟩) a3 (.int .i64 (BS l k n))).setCell (p:=⟨f,n,none⟩) ap (.int .i64 (BS l k n+1))) (ZQ (BS l k) (BS l (k+1)) (j:=n) (BS l k n+1) H.out.1 H.out.2);clear af M D ag hc S H T;generalize BS l k n=bq at*;generalize (Ct l k)[k].1=bs at*;generalize (Ct l k)[k].2=bt at*;clear ay;go_wp2_with fail;exact⟨⟨k+1,by omega,by go_num,an,by rw[<-al.out];exact ak,A⟩,by simp[intOf];omega⟩
   ·obtain rfl:k=l.length:=by omega
    go_wp2_with fail;refine A5 (C3 rfl _ _ _) rfl ?_;refine⟨_,by rw[c.out];rfl,?_,z⟩;rw[Tl c.out,<-ZL];have h:=(ZG o).1;exact h
theorem EM{w:World}{base e n size cap:Nat}{a:Option Addr}{cs:List Value}(h:w.ownsRow base e size (.slice a n cap) n cs)(f:0<n):∃g,a=some ⟨g,0,none⟩/\base<=g:=by
 obtain⟨_,h⟩:=h;rcases h with⟨_,h0⟩|⟨g,d,cur,c,b,_⟩
 ·omega
 ·injection c with h1 _ _;exact⟨g,h1,b⟩
end Go.Proofs.YtmajkjjjfodhlaaGreatDoor
