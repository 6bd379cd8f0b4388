/- Part Mak. No condition of its own. -/
import Derived.Test.YtmajkjjjfodhlaaGreatDoorMaj
namespace Go.Proofs.YtmajkjjjfodhlaaGreatDoor
open Go.RowKit Tryz
set_option linter.all false
set_option maxRecDepth 100000
set_option maxHeartbeats 8000000
theorem VV:type_of%@Option.isSome_some:=@Option.isSome_some
def JX(g a n:Int):Bool:=decide (1<=g/\g<1099511627776/\0<=a/\a<=1/\0<=n/\n<=1000000)
def JY(g a n:Int):ByteArray:=Dx (AB ⟨(Cl [g,a,n]).toArray⟩)
def CO(g a n:Int):ByteArray:=if JX g a n then JY g a n else ByteArray.mk #[]
theorem fl(s:ByteArray):4<=(AB s).length:=by
 have h:(AB s).length=(FJ (Ex s)).size:=by unfold AB;simp
 rw[h,Va];omega
theorem QF(s:ByteArray):∃a,CD (AB s)=Dx (AB s)::a:=by
 have h:=fl s;unfold CD EW;obtain⟨m,hm⟩:∃m,Bw (AB s)=m+1:=⟨Bw (AB s) -1,by unfold Bw;omega⟩;rw[hm,List.range_succ_eq_map];exact⟨_,rfl⟩
theorem Vc(g a n:Int)(w:World):
 Calls prog 75 #[.agg #[g, a, n]] w λe w'=>e= .returned (.string (CO g a n))/\Below w w w':=by
 by_cases c:JX g a n=true
 ·have d:Hid (CO g a n=JY g a n):=A4 c;obtain⟨h1,h2,h3,h4,h5,h6⟩:=M1 c;have b1:decide (g<1)=false:=A6 (by omega);have b2:decide (1099511627776<=g)=false:=A6 (by omega);have C:decide (a<0)=false:=A6 (by omega);have D:decide (1<a)=false:=A6 (by omega);have E:decide (n<0)=false:=A6 (by omega);have F:decide (1000000<n)=false:=A6 (by omega);have p:=λj s=>UW (.slice (some ⟨w+1,0,none⟩) 3 3) [g,a,n] j s (by simp) (by simp;omega);have H:(Cl [g,a,n]).length<=28:=by
   unfold Cl;rw[A9];have t:=Jg [g,a,n].length;have u:=Qx [g,a,n];have v:[g,a,n].length=3:=rfl;rw[v] at t u⊢;omega
  have hl:=λj=>N5 ⟨(Cl [g,a,n]).toArray⟩ j (by simp[ByteArray.size];omega);obtain⟨q,hr⟩:=QF ⟨(Cl [g,a,n]).toArray⟩;have A:Hid (Dx (AB ⟨(Cl [g,a,n]).toArray⟩)=JY g a n):=rfl;clear c;go_enter func75,ntmps75;go_wp2_with fail;refine(p _ ?_).mono ?_
  ·rw[show w.heap.size+1=(w.alloc (.cells #[g, a, n] 122)).heap.size by simp];exact Pj (f:=λx=> .int .i64 x) (w.alloc (.cells #[g, a, n] 122)) 3 [g,a,n] 3 (A1 _)
  rintro e y ⟨rfl,l⟩;have k:Hid (Below w w y):=(((A2 _ _).alloc (A1 _) _).alloc (by simp) _).trans (l.mono (by simp;omega));clear p l;go_wp2_with fail;refine(hl _).mono ?_;rintro e z ⟨B,c2,rfl,i,m⟩;have r:=A0 (k.trans (m.mono k.size));rw[hr] at i⊢;obtain⟨b,o,rfl,_,_,_,hc⟩:=JW (Cr (f:=Value.string) i).1 (by simp);have G:z.cell? ⟨b,o,none⟩=some (.string (JY g a n)):=hc 0 (by simp);have J:0<(Dx (AB ⟨(Cl [g,a,n]).toArray⟩)::q).length:=by simp
  generalize Dx (AB ⟨(Cl [g,a,n]).toArray⟩)::q=L at*;clear hl m i hc;go_wp2_with fail;go_ret;exact⟨by rw[d.out];rfl,r⟩
 ·have d:Hid (CO g a n=ByteArray.mk #[]):=A3 c;have I:g<1\/1099511627776<=g\/a<0\/1<a\/n<0\/1000000<n:=by
   rcases Classical.em (g<1\/1099511627776<=g\/a<0\/1<a\/n<0\/1000000<n) with h|h
   ·exact h
   ·exact absurd (Hc (by omega)) c
  clear c;go_enter func75,ntmps75;go_wp2_with fail;all_goals (go_ret;exact⟨by rw[d.out];rfl,(A2 _ _).alloc (A1 _) _⟩)
theorem fm{l:List ByteArray}(h:l.all (λx=>x.size==32)=true):(Fj l).size=32*l.length:=by
 have:=QE h;unfold Fj;simpa[ByteArray.size] using this
theorem fo{l:List ByteArray}{x:ByteArray}(h:DE l=some x):x.size<=32*l.length:=by
 cases l with
 |nil=>cases h
 |cons y c=>
  unfold DE at h;simp only at h;split at h
  ·cases h
  ·split at h
   ·cases h
   ·rename_i n p b;unfold Mf at h;split at h
    ·cases h
    ·split at h
     ·rename_i a;unfold JV at h;split at h
      ·injection h with h;rw[<-h,KV];have:=fm a;rw[B5] at this;omega
      ·cases h
     ·cases h
theorem fp{a b:ByteArray}(h:a=b):(a.toList==b.toList)=true:=by rw[h];simp
theorem fq{a b:ByteArray}(h:a≠b):(a.toList==b.toList)=false:=by
 rw[beq_eq_false_iff_ne];intro e;rw[Wm,Wm] at e;exact h (TV e)
def Oc(s:ByteArray):Option (List Int×Nat)->Option (Int×Int×Int)
 |some ([g,a,n],_)=>if CO g a n=s then some (g,a,n) else none
 |_=>none
def Dl(s:ByteArray):Option (Int×Int×Int):=
 match DE [s] with
 |none=>none
 |some t=>Oc s (Ey t 0)
def Gc:Option (Int×Int×Int)->Value
 |none=> .tuple #[.agg #[.int .i64 0, .int .i64 0, .int .i64 0], .bool false]
 |some (g,a,n)=> .tuple #[.agg #[g, a, n], .bool true]
theorem Vd(s:ByteArray)(w:World):
 Calls prog 130 #[.string s] w λe w'=>e= .returned (Gc (Dl s))/\Below w w w':=by
 have T:=Aa.new w [.int .i64 0, .int .i64 0, .int .i64 0] 122;have a4:Ef ((w.alloc (.cells #[.int .i64 0, .int .i64 0, .int .i64 0] 122)).alloc (.cells #[.string s] 9)) (.slice (some ⟨w+1,0,none⟩) 1 1) [s]:=by
  rw[show w.heap.size+1=(w.alloc (.cells #[.int .i64 0, .int .i64 0, .int .i64 0] 122)).heap.size by simp];exact Pj (f:=Value.string) (w.alloc (.cells #[.int .i64 0, .int .i64 0, .int .i64 0] 122)) 9 [s] 1 (A1 _)
 have U:Aa ((w.alloc (.cells #[.int .i64 0, .int .i64 0, .int .i64 0] 122)).alloc (.cells #[.string s] 9)) w.heap.size [.int .i64 0, .int .i64 0, .int .i64 0] 122:=T.below ((A2 _ _).alloc (A1 _) _);have W:Below w w ((w.alloc (.cells #[.int .i64 0, .int .i64 0, .int .i64 0] 122)).alloc (.cells #[.string s] 9)):=((A2 _ _).alloc (A1 _) _).alloc (by simp) _;have hp:=Vb (.slice (some ⟨w+1,0,none⟩) 1 1) [s] _ a4 (by simp);obtain⟨L,C⟩:=Hx2 U W;clear T U a4 W;cases t:DE [s] with
 |none=>
  have z:Hid (Dl s=none):=by unfold Hid Dl;rw[t]
  rw[t] at hp;simp only[Oa] at hp;clear t;go_enter func130,ntmps130;go_wp2_with fail;refine hp.mono ?_;rintro e a6 ⟨rfl,r⟩;have H:=L.below r;obtain⟨c0,c1,c2,f0,f1,f2⟩:=H.three;have a3:=C.trans (r.mono C.size);clear r hp;have j:Hid (Below w w (((a6.setCell ⟨w,0,none⟩ (.int .i64 0)).setCell ⟨w,1,none⟩ (.int .i64 0)).setCell ⟨w,2,none⟩ (.int .i64 0))):=((a3.setCell (A1 _) _).setCell (A1 _) _).setCell (A1 _) _;have S:=((H.set 0 (.int .i64 0)).set 1 (.int .i64 0)).set 2 (.int .i64 0);have i:=A0 S;clear H S a3;go_wp2_with fail;obtain⟨m,d1,d2,_,_,_⟩:=i.three;exact A5 (v:=Gc none) (by simp[Gc,results,results130,go_sem,m,d1,d2]) rfl ⟨by rw[z.out],j⟩
 |some x=>
  have a5:=fo t;have z:Hid (Dl s=Oc s (Ey x 0)):=by unfold Hid Dl;rw[t]
  rw[t] at hp;simp only[Oa] at hp;have a2:=λK=>UZ x 0 K (by simp at a5;omega);clear t a5;go_enter func130,ntmps130;go_wp2_with fail;refine hp.mono ?_;rintro e a6 ⟨rfl,r⟩;obtain⟨a8,M⟩:=Hx2 (L.below r) (C.trans (r.mono C.size));clear r hp;go_wp2_with fail;refine(a2 _).mono ?_;rintro e h ⟨hr,A⟩;obtain⟨u,D⟩:=Hx2 (a8.below A) (M.trans (A.mono M.size));clear a2;generalize Ey x 0=ai at*;cases ai with
  |none=>
   obtain rfl:=hr;have o:Hid (Dl s=none):=z.out;obtain⟨c0,c1,c2,f0,f1,f2⟩:=u.three;have j:Hid (Below w w (((h.setCell ⟨w,0,none⟩ (.int .i64 0)).setCell ⟨w,1,none⟩ (.int .i64 0)).setCell ⟨w,2,none⟩ (.int .i64 0))):=((D.setCell (A1 _) _).setCell (A1 _) _).setCell (A1 _) _;have i:=A0 (((u.set 0 (.int .i64 0)).set 1 (.int .i64 0)).set 2 (.int .i64 0));clear A;go_wp2_with fail;obtain⟨m,d1,d2,_,_,_⟩:=i.three;exact A5 (v:=Gc none) (by simp[Gc,results,results130,go_sem,m,d1,d2]) rfl ⟨by rw[o.out],j⟩
  |some q=>
   obtain⟨l,p⟩:=q;obtain⟨a,c,rfl,J⟩:=hr;have B:=(Cr (f:=λx=> .int .i64 x) J).1;by_cases h3:l.length=3
   ·obtain⟨g,d,n,rfl⟩:∃g d n,l=[g,d,n]:=by
     match l,h3 with
     |[g,d,n],_=>exact⟨g,d,n,rfl⟩
    have o:Hid (Dl s=if CO g d n=s then some (g,d,n) else none):=z.out;obtain⟨b,off,rfl,ao,P⟩:=Hd (f:=λx=> .int .i64 x) B (k:=0) (by simp);obtain⟨ak,ar,ad,_,Q⟩:=Hd (f:=λx=> .int .i64 x) B (k:=1) (by simp);obtain⟨al,au,af,_,R⟩:=Hd (f:=λx=> .int .i64 x) B (k:=2) (by simp);cases ad
    cases af
    simp only[H5,WZ,Hb] at P Q R;have a1:[g,d,n].length=3:=rfl;rw[a1];have Z:=λK=>Vc g d n K;clear J B h3 a1;go_wp2_with fail
    go_region
    have I:Aa (h.alloc (.cells #[g, d, n] 122)).drew h.heap.size [g, d, n] 122:=Aa.new h [g, d, n] 122;have V:Aa (h.alloc (.cells #[g, d, n] 122)).drew w.heap.size [.int .i64 0, .int .i64 0, .int .i64 0] 122:=u.below (((A2 _ _).alloc (A1 _) _).drew);have Y:Below w w (h.alloc (.cells #[g, d, n] 122)).drew:=(D.alloc D.size _).drew;have aq:h.heap.size≠w.heap.size:=Nat.ne_of_gt u.lt;generalize (h.alloc (.cells #[g, d, n] 122)).drew=aj at*;generalize h.heap.size=an at*;obtain⟨a9,ab,N⟩:=Hx3 I V Y;obtain⟨ac,g1,g2,_,_,_⟩:=I.three;clear I V Y P Q R A;have a0:=Z aj;clear Z;go_wp2_with fail;refine a0.mono ?_;rintro e a7 ⟨rfl,E⟩;obtain⟨aa,F,O⟩:=Hx3 (a9.below E) (ab.below E) (N.trans (E.mono N.size));obtain⟨ac,g1,g2,_,_,_⟩:=aa.three;obtain⟨c0,c1,c2,f0,f1,f2⟩:=F.three;clear a0 E;generalize CO g d n=X at*;by_cases y:X=s
    ·have ah:=fp y;have G:Hid (Dl s=some (g,d,n)):=by unfold Hid;rw[o.out,A4 y]
     have j:Hid (Below w w (((a7.setCell ⟨w,0,none⟩ (.int .i64 g)).setCell ⟨w,1,none⟩ (.int .i64 d)).setCell ⟨w,2,none⟩ (.int .i64 n))):=((O.setCell (A1 _) _).setCell (A1 _) _).setCell (A1 _) _;have i:=A0 (((F.set 0 (.int .i64 g)).set 1 (.int .i64 d)).set 2 (.int .i64 n));clear y o;go_wp2_with fail;obtain⟨m,d1,d2,_,_,_⟩:=i.three;exact A5 (v:=Gc (some (g,d,n))) (by simp[Gc,results,results130,go_sem,m,d1,d2]) rfl ⟨by rw[G.out],j⟩
    ·have ah:=fq y;have G:Hid (Dl s=none):=by unfold Hid;rw[o.out,A3 y]
     have j:Hid (Below w w (((a7.setCell ⟨w,0,none⟩ (.int .i64 0)).setCell ⟨w,1,none⟩ (.int .i64 0)).setCell ⟨w,2,none⟩ (.int .i64 0))):=((O.setCell (A1 _) _).setCell (A1 _) _).setCell (A1 _) _;have i:=A0 (((F.set 0 (.int .i64 0)).set 1 (.int .i64 0)).set 2 (.int .i64 0));clear y o;go_wp2_with fail;obtain⟨m,d1,d2,_,_,_⟩:=i.three;exact A5 (v:=Gc none) (by simp[Gc,results,results130,go_sem,m,d1,d2]) rfl ⟨by rw[G.out],j⟩
   ·have o:Hid (Dl s=none):=by
     unfold Hid;rw[z.out];unfold Oc;split
     ·rename_i ag;cases ag
      simp at h3
     ·rfl
    have ap:((l.length:Int)!=3)=true:=by simp;omega
    obtain⟨c0,c1,c2,f0,f1,f2⟩:=u.three;have j:Hid (Below w w (((h.setCell ⟨w,0,none⟩ (.int .i64 0)).setCell ⟨w,1,none⟩ (.int .i64 0)).setCell ⟨w,2,none⟩ (.int .i64 0))):=((D.setCell (A1 _) _).setCell (A1 _) _).setCell (A1 _) _;have i:=A0 (((u.set 0 (.int .i64 0)).set 1 (.int .i64 0)).set 2 (.int .i64 0));clear A J B h3;go_wp2_with fail;obtain⟨m,d1,d2,_,_,_⟩:=i.three;exact A5 (v:=Gc none) (by simp[Gc,results,results130,go_sem,m,d1,d2]) rfl ⟨by rw[o.out],j⟩
def JZ:Option (Int×Int×Int)->Int×Int×Int|none=>(0,0,0)|some x=>x
theorem fs(a:Option (Int×Int×Int)):Gc a= .tuple #[.agg #[.int .i64 (JZ a).1, .int .i64 (JZ a).2.1, .int .i64 (JZ a).2.2], .bool a.isSome]:=by
 cases a<;>rfl
def Hi(a b:ByteArray):Option ((Int×Int×Int)×Int):=
 match Dl a,Dl b with
 |none,none=>none
 |some x,none=>some (x,0)
 |none,some y=>some (y,1)
 |some x,some y=>if x.1<y.1 then some (y,1) else some (x,0)
def Gd:Option ((Int×Int×Int)×Int)->Value
 |none=> .tuple #[.agg #[.int .i64 0, .int .i64 0, .int .i64 0], .int .i64 0, .bool false]
 |some ((g,a,n),k)=> .tuple #[.agg #[g, a, n], k, .bool true]
theorem ft(a b:ByteArray)(w:World):
 Calls prog 57 #[.string a, .string b] w λe w'=>e= .returned (Gd (Hi a b))/\Below w w w':=by
 have h1:=λD=>Vd a D;have h2:=λD=>Vd b D;simp only[fs] at h1 h2;have p:Hid (Hi a b=match Dl a,Dl b with
  |none,none=>none
  |some x,none=>some (x,0)
  |none,some y=>some (y,1)
  |some x,some y=>if x.1<y.1 then some (y,1) else some (x,0)):=rfl
 generalize Dl a=s at*;generalize Dl b=A at*;have N:=A0 (Aa.new w [.int .i64 0, .int .i64 0, .int .i64 0] 122);have K:Hid (∀x,s=some x->x=JZ s):=λx h=>by rw[h];rfl
 have Q:Hid (∀x,A=some x->x=JZ A):=λx h=>by rw[h];rfl
 generalize JZ s=S at*;generalize JZ A=T at*;obtain⟨d,i,j⟩:=S;obtain⟨c,f,g⟩:=T;dsimp only at h1 h2;go_enter func57,ntmps57;go_wp2_with fail;refine(h1 _).mono ?_;rintro e t ⟨rfl,C⟩;have F:=A0 (N.below C);have H:Hid (Below w w t):=((A2 _ _).alloc (A1 _) _).trans (C.mono (by simp));obtain⟨L,O,I⟩:=Hx3 (Aa.new t [d, i, j] 122) (F.below ((A2 _ _).alloc (A1 _) (.cells #[d, i, j] 122))) (H.alloc H.size (.cells #[d, i, j] 122));have X:w<t.heap.size:=F.lt;clear h1 C;go_wp2_with fail;refine(h2 _).mono ?_;rintro e B ⟨rfl,u⟩;obtain⟨E,G,J,P⟩:=Hx4 (L.below u) (O.below u) (I.trans (u.mono I.size)) (Aa.new B [c, f, g] 122);obtain⟨M,o,q⟩:=Hx3 (E.below ((A2 _ _).alloc (A1 _) (.cells #[c, f, g] 122))) (G.below ((A2 _ _).alloc (A1 _) (.cells #[c, f, g] 122))) (J.alloc J.size (.cells #[c, f, g] 122));clear h2 u;have V:t.heap.size≠w.heap.size:=by omega
 have W:B.heap.size≠w.heap.size:=by have:=G.lt;omega
 have Y:t<B.heap.size:=E.lt;obtain⟨Z,a0,a1,_,_,_⟩:=M.three;obtain⟨a2,a3,a4,_,_,_⟩:=P.three;obtain⟨c0,c1,c2,f0,f1,f2⟩:=o.three;generalize R:B.alloc (.cells #[c, f, g] 122)=r at*;have U:=A0 R;cases A with
 |none=>
  simp only[Option.isSome_none];cases s with
  |none=>
   have l:Hid (Hi a b=none):=p.out;simp only[Option.isSome_none];have m:Hid (Below w w (((r.setCell ⟨w,0,none⟩ (.int .i64 0)).setCell ⟨w,1,none⟩ (.int .i64 0)).setCell ⟨w,2,none⟩ (.int .i64 0))):=((q.setCell (A1 _) _).setCell (A1 _) _).setCell (A1 _) _;have k:=A0 (((o.set 0 (.int .i64 0)).set 1 (.int .i64 0)).set 2 (.int .i64 0));go_wp2_with fail;obtain⟨n,d1,d2,_,_,_⟩:=k.three;exact A5 (v:=Gd none) (by simp[Gd,results,results57,go_sem,n,d1,d2]) rfl ⟨by rw[l.out],m⟩
  |some x=>
   obtain rfl:=K _ rfl;have l:Hid (Hi a b=some ((d,i,j),0)):=p.out;simp only[VV];have m:Hid (Below w w (((r.setCell ⟨w,0,none⟩ (.int .i64 d)).setCell ⟨w,1,none⟩ (.int .i64 i)).setCell ⟨w,2,none⟩ (.int .i64 j))):=((q.setCell (A1 _) _).setCell (A1 _) _).setCell (A1 _) _;have k:=A0 (((o.set 0 (.int .i64 d)).set 1 (.int .i64 i)).set 2 (.int .i64 j));go_wp2_with fail;obtain⟨n,d1,d2,_,_,_⟩:=k.three;exact A5 (v:=Gd (some ((d,i,j),0))) (by simp[Gd,results,results57,go_sem,n,d1,d2]) rfl ⟨by rw[l.out],m⟩
 |some y=>
  obtain rfl:=Q _ rfl;simp only[VV];cases s with
  |none=>
   have l:Hid (Hi a b=some ((c,f,g),1)):=p.out;simp only[Option.isSome_none];have m:Hid (Below w w (((r.setCell ⟨w,0,none⟩ (.int .i64 c)).setCell ⟨w,1,none⟩ (.int .i64 f)).setCell ⟨w,2,none⟩ (.int .i64 g))):=((q.setCell (A1 _) _).setCell (A1 _) _).setCell (A1 _) _;have k:=A0 (((o.set 0 (.int .i64 c)).set 1 (.int .i64 f)).set 2 (.int .i64 g));go_wp2_with fail;obtain⟨n,d1,d2,_,_,_⟩:=k.three;exact A5 (v:=Gd (some ((c,f,g),1))) (by simp[Gd,results,results57,go_sem,n,d1,d2]) rfl ⟨by rw[l.out],m⟩
  |some x=>
   obtain rfl:=K _ rfl;simp only[VV];by_cases z:d<c
   ·have hd:decide (d<c)=true:=Hc z;have l:Hid (Hi a b=some ((c,f,g),1)):=by unfold Hid;rw[p.out];exact A4 z
    have m:Hid (Below w w (((r.setCell ⟨w,0,none⟩ (.int .i64 c)).setCell ⟨w,1,none⟩ (.int .i64 f)).setCell ⟨w,2,none⟩ (.int .i64 g))):=((q.setCell (A1 _) _).setCell (A1 _) _).setCell (A1 _) _;have k:=A0 (((o.set 0 (.int .i64 c)).set 1 (.int .i64 f)).set 2 (.int .i64 g));go_wp2_with fail;obtain⟨n,d1,d2,_,_,_⟩:=k.three;exact A5 (v:=Gd (some ((c,f,g),1))) (by simp[Gd,results,results57,go_sem,n,d1,d2]) rfl ⟨by rw[l.out],m⟩
   ·have hd:decide (d<c)=false:=A6 z;have l:Hid (Hi a b=some ((d,i,j),0)):=by unfold Hid;rw[p.out];exact A3 z
    have m:Hid (Below w w (((r.setCell ⟨w,0,none⟩ (.int .i64 d)).setCell ⟨w,1,none⟩ (.int .i64 i)).setCell ⟨w,2,none⟩ (.int .i64 j))):=((q.setCell (A1 _) _).setCell (A1 _) _).setCell (A1 _) _;have k:=A0 (((o.set 0 (.int .i64 d)).set 1 (.int .i64 i)).set 2 (.int .i64 j));go_wp2_with fail;obtain⟨n,d1,d2,_,_,_⟩:=k.three;exact A5 (v:=Gd (some ((d,i,j),0))) (by simp[Gd,results,results57,go_sem,n,d1,d2]) rfl ⟨by rw[l.out],m⟩
structure Dk where
 kept:List ByteArray
 cache:List (Int×ByteArray)
 fuse:Int
 keep:List Bool
 dead:Bool
abbrev Ge:Int×ByteArray->List Value:=λp=>[.int .i64 p.1, .string p.2]
abbrev QG(w:World)(v:Value)(l:List (Int×ByteArray)):Prop:=Av w v 2 Ge l
abbrev fw(w:World)(v:Value)(l:List Bool):Prop:=Av w v 1 (λx=>[.bool x]) l
structure By(w:World)(vk vc vp:Value)(d:Dk):Prop where
 kept:Ef w vk d.kept
 cache:QG w vc d.cache
 keep:fw w vp d.keep
abbrev Bm(b a c:Value)(d:Dk):Value:= .agg #[b,a, d.fuse,c, .bool d.dead]
structure Bd(d:Dk):Prop where
 pos:1≤d.kept.length
 most:d.kept.length≤5000
 cmost:d.cache.length≤20000
 fuse: -1≤d.fuse
 fmost:d.fuse≤9223372036854775807
 klen:d.keep.length≤140737488355328
 size:∀s∈d.kept,s.size=32
 puts:∀p∈d.cache,0≤p.1∧p.1<d.kept.length∧p.2.size=32
theorem By.below{w w':World}{b a c:Value}{d:Dk}(h:By w b a c d)(hb:Below w w w'):By w' b a c d:=
 ⟨Aj h.kept hb,Aj h.cache hb,Aj h.keep hb⟩
theorem QH{w:World}{a:Option Addr}{n c:Nat}{xs:List (Int×ByteArray)}(h:QG w (.slice a n c) xs){k:Nat}(hk:k<xs.length):
 ∃b off,a=some ⟨b,off,none⟩/\b<w.heap.size/\w.cell? ⟨b,off+k*2,none⟩=some (.int .i64 xs[k].1)/\w.cell? ⟨b,off+k*2+1,none⟩=some (.string xs[k].2):=by
 obtain⟨f,cap,e,hl,g,hc⟩:=h;injection e with h1 h2 h3;subst h1;rcases hc with rfl|⟨b,off,rfl,hb,d⟩
 ·simp at hk
 ·exact⟨b,off,rfl,hb,by simpa using d k hk 0 (by omega),by simpa[Hl] using d k hk 1 (by omega)⟩
theorem QI(a:Option Addr)(n c:Nat)(d g:Value)(f:Int)(b:Bool)(x:Int)(w:World)(h0:0<=x)(h1:x<n):
 Calls prog 128 #[.agg #[.slice a n c,d, f,g, .bool b], x] w λe w'=>e= .returned (.bool true)/\Below w w w':=by
 have b1:decide (0<=x)=true:=Hc h0;have b2:decide (x<(n:Int))=true:=Hc h1;go_enter func128,ntmps128;go_wp2_with fail;go_ret;exact⟨rfl,(A2 _ _).alloc (A1 _) _⟩
theorem KS(N M c:Value)(d:Dk)(w:World)(h:By w N M c d)(Y:Bd d):
 Calls prog 55 #[Bm N M c d] w λe w'=>e= .returned (.bool true)/\Below w w w':=by
 obtain⟨kept,cache,fuse,keep,dead⟩:=d;obtain⟨v,u,Z⟩:=h;obtain⟨ah,ag,ab,hf,ac,ad,J,I⟩:=Y;dsimp only at*;obtain⟨i,l,rfl⟩:=AK v;obtain⟨n,j,rfl⟩:=AK u;obtain⟨R,P,T,S⟩:=Hx4 v u J I;have b1:decide ((kept.length:Int)<1)=false:=A6 (by omega);have a5:decide (kept.length<1)=false:=A6 (by omega);have b2:decide ((5000:Int)<(kept.length:Int))=false:=A6 (by omega);have a7:decide ((20000:Int)<(cache.length:Int))=false:=A6 (by omega);have a6:decide (5000<kept.length)=false:=A6 (by omega);have a8:decide (20000<cache.length)=false:=A6 (by omega);have a9:decide (fuse< -1)=false:=A6 (by omega);clear v u Z J I;have F:=Aa.new w [.slice i kept.length l, .slice n cache.length j, fuse,c, .bool dead] 27;have y:=A0 F;have A:Hid (Below w w (w.alloc (.cells #[.slice i kept.length l, .slice n cache.length j, fuse,c, .bool dead] 27))):=(A2 _ _).alloc (A1 _) _;clear F;go_enter func55,ntmps55;go_wp2_with fail;generalize w.alloc (.cells #[.slice i kept.length l, .slice n cache.length j, fuse,c, .bool dead] 27)=C at*;go_loopw [31] (λa wr=>∃k:Nat,a= .int .i64 k/\k<=kept.length/\wr=C) (λa _=>kept.length-(intOf a).toNat)
 case atStart=>exact⟨0,rfl,A7 _,rfl⟩
 case round=>
  obtain⟨k,rfl,hk,L⟩:=hrel;obtain rfl:C=wr:=L.symm;clear L;by_cases m:k<kept.length
  ·obtain⟨b,off,rfl,q,hc⟩:=Hd (f:=Value.string) R m;have aa:=(A.cell (p:=⟨b,off+k,none⟩) q).trans hc;have hs:=T kept[k] (BA m);generalize kept[k]=s at*;have W:(k:Int)<(kept.length:Int):=by omega
   have X:((s.size:Int)!=32)=false:=by rw[hs];rfl
   clear hc hs;go_wp2_with fail;exact⟨⟨k+1,by go_num,by omega,trivial⟩,by simp[intOf];omega⟩
  ·obtain rfl:k=kept.length:=by omega
   obtain⟨c0,c1,c2,c3,c4⟩:=y.five;go_wp2_with fail;go_loopw [42] (λa wr=>∃k:Nat,a= .int .i64 k/\k<=cache.length/\Hid (Aa wr w.heap.size [.slice i kept.length l, .slice n cache.length j, fuse,c, .bool dead] 27)/\Below w w wr) (λa _=>cache.length-(intOf a).toNat)
   case atStart=>exact⟨0,rfl,A7 _,y,A⟩
   case round=>
    obtain⟨k,rfl,hk,r,hb⟩:=hrel;have g:=A0 hb;clear hb c0 c1 c2 c3 c4;obtain⟨c0,c1,c2,c3,c4⟩:=r.five;by_cases m:k<cache.length
    ·obtain⟨b,off,rfl,q,hc,H⟩:=QH P m;have D:=(g.cell (p:=⟨b,off+k*2,none⟩) q).trans hc;have E:=(g.cell (p:=⟨b,off+k*2+1,none⟩) q).trans H;obtain⟨h1,h2,h3⟩:=S cache[k] (BA m);generalize cache[k]=p at*;obtain⟨x,s⟩:=p;dsimp only at D E h1 h2 h3;have W:(k:Int)<(cache.length:Int):=by omega
     have X:((s.size:Int)!=32)=false:=by rw[h3];rfl
     have t:=Aa.new wr [x, .string s] 131;have af:w<wr.heap.size:=r.lt;obtain⟨z,B⟩:=Hx2 (r.below ((A2 _ _).alloc (A1 _) (.cells #[x, .string s] 131))) (g.alloc g.size (.cells #[x, .string s] 131));obtain⟨V,d1,_,_⟩:=t.two;obtain⟨a0,a1,a2,a3,a4⟩:=z.five;have K:=QI i kept.length l (.slice (some ⟨b,off,none⟩) cache.length j) c fuse dead x (wr.alloc (.cells #[x, .string s] 131)) h1 h2;have Q:=A0 t;clear hc H h3 t;go_wp2_with fail;refine K.mono ?_;rintro e ak ⟨rfl,o⟩;have G:=Q.below o;obtain⟨ai,aj,_,_⟩:=G.two;obtain⟨O,U⟩:=Hx2 (z.below o) (B.trans (o.mono B.size));clear K o V d1 a0 a1 a2 a3 a4 D E c0 c1 c2 c3 c4 G;go_wp2_with fail;exact⟨⟨k+1,by go_num,by omega,O,U⟩,by simp[intOf];omega⟩
    ·obtain rfl:k=cache.length:=by omega
     go_wp2_with fail;go_ret;exact⟨rfl,g⟩
theorem Is(w:World)(e:TypeId)(k:Nat):(w.alloc (.cells #[] e)).ownsRow w.heap.size e k (.slice (some ⟨w,0,none⟩) 0 0) 0 []:=
 ⟨by simp,Or.inr ⟨w,0,#[],rfl,A1 _,HE w _,A1 _,by simp[maxLen],by simp,by simp⟩⟩
abbrev Dy:ByteArray->List Value:=λx=>[.string x]
abbrev It:Bool->List Value:=λx=>[.bool x]
theorem Mg:Em Dy 1:=⟨by decide,λ_=>rfl,λx u a=>by simp at a;subst a;rfl⟩
theorem Mh:Em It 1:=⟨by decide,λ_=>rfl,λx u a=>by simp at a;subst a;rfl⟩
theorem KT:Em Ge 2:=⟨by decide,λ_=>rfl,λx u a=>by simp at a;rcases a with rfl|rfl<;>rfl⟩
theorem Ve:(prog.info? 9).map (λi=>(i.zero,i.size,i.bytes))=some (some (.string ⟨#[]⟩),1,16):=by kernel_rfl
theorem QJ(v:Value)(l:List (ByteArray))(w:World)(b:Av w v 1 Dy l)(hl:l.length<=10000000):
 Calls prog 140 #[v] w λe w'=>∃a c,e= .returned (.slice a l.length c)/\w'.ownsRow w.heap.size 9 1 (.slice a l.length c) l.length (Af Dy l)/\Below w w w':=by
 obtain⟨i0,o,r,s,t⟩:=BW Ve;obtain⟨j,m,rfl,u,p,_⟩:=id b;obtain⟨g,h⟩:=Hx2 (Is w 9 1) (Aj b ((A2 _ _).alloc (A1 _) (.cells #[] 9)));cases j with
 |none=>
  obtain rfl:=p rfl;obtain rfl:l=[]:=FA.1 (by omega);have q:=λf:World=>E3 (P:=prog) f 23 9 none 0 0 0 0 underlying23;clear b;go_enter func140,ntmps140;go_wp2_with fail;go_ret;exact⟨none,0,rfl,C2 _ _ _ _,A2 _ _⟩
 |some a=>
  have q:=λf:World=>E3 (P:=prog) f 23 9 (some a) l.length m 0 0 underlying23;clear b;go_enter func140,ntmps140;go_wp2_with (at_builtin;refine IU Mg (ys:=l) rfl _ _ 23 rfl w.heap.size 9 i0 _ 16 underlying23 o r s t rfl _ 0 _ rfl g _ rfl h (by simp[maxLen];omega) (by omega) (by simp) ?_;intro x w' d n _)
  rw[B2,B7] at d;obtain⟨i,c2,rfl,_,_⟩:=Aw d;have hb:Below w w w':=((A2 _ _).alloc (A1 _) _).grown n (by simp) (λk hk=>Ah g k hk);go_ret;exact⟨i,c2,rfl,d,hb⟩
theorem Vf:(prog.info? 131).map (λi=>(i.zero,i.size,i.bytes))=some (some (.agg #[.int .i64 0, .string ⟨#[]⟩]),2,24):=by kernel_rfl
theorem QK(v:Value)(l:List (Int×ByteArray))(w:World)(b:Av w v 2 Ge l)(hl:l.length<=10000000):
 Calls prog 141 #[v] w λe w'=>∃a c,e= .returned (.slice a l.length c)/\w'.ownsRow w.heap.size 131 2 (.slice a l.length c) l.length (Af Ge l)/\Below w w w':=by
 obtain⟨i0,o,r,s,t⟩:=BW Vf;obtain⟨j,m,rfl,u,p,_⟩:=id b;obtain⟨g,h⟩:=Hx2 (Is w 131 2) (Aj b ((A2 _ _).alloc (A1 _) (.cells #[] 131)));cases j with
 |none=>
  obtain rfl:=p rfl;obtain rfl:l=[]:=FA.1 (by omega);have q:=λf:World=>E3 (P:=prog) f 24 131 none 0 0 0 0 underlying24;clear b;go_enter func141,ntmps141;go_wp2_with fail;go_ret;exact⟨none,0,rfl,C2 _ _ _ _,A2 _ _⟩
 |some a=>
  have q:=λf:World=>E3 (P:=prog) f 24 131 (some a) l.length m 0 0 underlying24;clear b;go_enter func141,ntmps141;go_wp2_with (at_builtin;refine IU KT (ys:=l) rfl _ _ 24 rfl w.heap.size 131 i0 _ 24 underlying24 o r s t rfl _ 0 _ rfl g _ rfl h (by simp[maxLen];omega) (by omega) (by simp) ?_;intro x w' d n _)
  rw[B2,B7] at d;obtain⟨i,c2,rfl,_,_⟩:=Aw d;have hb:Below w w w':=((A2 _ _).alloc (A1 _) _).grown n (by simp) (λk hk=>Ah g k hk);go_ret;exact⟨i,c2,rfl,d,hb⟩
theorem fx:(prog.info? 4).map (λi=>(i.zero,i.size,i.bytes))=some (some (.bool false),1,1):=by kernel_rfl
theorem QL(v:Value)(l:List (Bool))(w:World)(b:Av w v 1 It l)(hl:l.length<=10000000):
 Calls prog 142 #[v] w λe w'=>∃a c,e= .returned (.slice a l.length c)/\w'.ownsRow w.heap.size 4 1 (.slice a l.length c) l.length (Af It l)/\Below w w w':=by
 obtain⟨i0,o,r,s,t⟩:=BW fx;obtain⟨j,m,rfl,u,p,_⟩:=id b;obtain⟨g,h⟩:=Hx2 (Is w 4 1) (Aj b ((A2 _ _).alloc (A1 _) (.cells #[] 4)));cases j with
 |none=>
  obtain rfl:=p rfl;obtain rfl:l=[]:=FA.1 (by omega);have q:=λf:World=>E3 (P:=prog) f 25 4 none 0 0 0 0 underlying25;clear b;go_enter func142,ntmps142;go_wp2_with fail;go_ret;exact⟨none,0,rfl,C2 _ _ _ _,A2 _ _⟩
 |some a=>
  have q:=λf:World=>E3 (P:=prog) f 25 4 (some a) l.length m 0 0 underlying25;clear b;go_enter func142,ntmps142;go_wp2_with (at_builtin;refine IU Mh (ys:=l) rfl _ _ 25 rfl w.heap.size 4 i0 _ 1 underlying25 o r s t rfl _ 0 _ rfl g _ rfl h (by simp[maxLen];omega) (by omega) (by simp) ?_;intro x w' d n _)
  rw[B2,B7] at d;obtain⟨i,c2,rfl,_,_⟩:=Aw d;have hb:Below w w w':=((A2 _ _).alloc (A1 _) _).grown n (by simp) (λk hk=>Ah g k hk);go_ret;exact⟨i,c2,rfl,d,hb⟩
structure Ez(w:World)(n0:Nat)(vk vc vp:Value)(d:Dk):Prop where
 kept:w.ownsRow n0 9 1 vk d.kept.length (Af Dy d.kept)
 cache:w.ownsRow n0 131 2 vc d.cache.length (Af Ge d.cache)
 keep:w.ownsRow n0 4 1 vp d.keep.length (Af It d.keep)
theorem Ez.below{w w':World}{n0:Nat}{b a c:Value}{d:Dk}(h:Ez w n0 b a c d)(hb:Below w w w'):Ez w' n0 b a c d:=
 ⟨Ag h.kept hb,Ag h.cache hb,Ag h.keep hb⟩
theorem Ez.reads{w:World}{n0:Nat}{b a c:Value}{d:Dk}(h:Ez w n0 b a c d):By w b a c d:=
 ⟨(CJ Mg h.kept).1,(CJ KT h.cache).1,(CJ Mh h.keep).1⟩
theorem Ak{w:World}{base e k n b:Nat}{v:Value}{cs:List Value}(h:w.ownsRow base e k v n cs)(hb:b<base)(i:Nat)(u:Value):(w.setCell ⟨b,i,none⟩ u).ownsRow base e k v n cs:=by
 obtain⟨hl,h⟩:=h;refine⟨hl,?_⟩;rcases h with h0|⟨g,cap,cur,rfl,a,hc,c,hm,hs,d⟩
 ·exact Or.inl h0
 ·exact Or.inr ⟨g,cap,cur,rfl,a,(HG _ _ _ _ (by show g≠b;omega)).trans hc,c,hm,hs,d⟩
theorem QM(k j l:Value)(d:Dk)(w:World)(h:By w k j l d)(B:Bd d)(a7:d.keep.length<=10000000):
 Calls prog 234 #[Bm k j l d] w λe w'=>∃g i c f a b,e= .returned (Bm (.slice g d.kept.length i) (.slice c d.cache.length f) (.slice a d.keep.length b) d)/\Ez w' (w+2) (.slice g d.kept.length i) (.slice c d.cache.length f) (.slice a d.keep.length b) d/\Below w w w':=by
 obtain⟨kept,cache,fuse,keep,dead⟩:=d;have a8:=B.most;have a6:=B.cmost;dsimp only at a7 a8 a6;obtain⟨y,E⟩:=Hx2 h (Aa.new w [k,j, fuse,l, .bool dead] 27);have x:=A0 (E.below ((A2 _ _).alloc (A1 _) (.cells #[.slice none 0 0, .slice none 0 0, .int .i64 0, .slice none 0 0, .bool false] 27)));have I:Hid (Aa ((w.alloc (.cells #[k,j, fuse,l, .bool dead] 27)).alloc (.cells #[.slice none 0 0, .slice none 0 0, .int .i64 0, .slice none 0 0, .bool false] 27)) (w+1) [.slice none 0 0, .slice none 0 0, .int .i64 0, .slice none 0 0, .bool false] 27):=by
  have h:=Aa.new (w.alloc (.cells #[k,j, fuse,l, .bool dead] 27)) [.slice none 0 0, .slice none 0 0, .int .i64 0, .slice none 0 0, .bool false] 27;rw[show(w.alloc (.cells #[k,j, fuse,l, .bool dead] 27)).heap.size=w.heap.size+1 by simp] at h;exact h
 have A:=A0 (((A2 w.heap.size w).alloc (A1 _) (.cells #[k,j, fuse,l, .bool dead] 27)).alloc (by simp) (.cells #[.slice none 0 0, .slice none 0 0, .int .i64 0, .slice none 0 0, .bool false] 27));clear E h B;go_enter func234,ntmps234;obtain⟨c0,c1,c2,c3,c4⟩:=x.five;have hc:=QJ k kept _ (Aj y.kept A) (by omega);go_wp2_with fail;refine hc.mono ?_;rintro e a9 ⟨g,i,rfl,N,o⟩;obtain⟨q,J,L⟩:=Hx3 (x.below o) (I.below o) (A.trans (o.mono (by simp;omega)));have ah:w.heap.size+2<=a9.heap.size:=by have:=o.size;simpa using this
 have G:=A0 (CI N (by simp:w.heap.size+2<=_));clear c0 c1 c2 c3 c4 hc o N x I A;obtain⟨C,s⟩:=Hx2 (q.set 0 (.slice g kept.length i)) (L.setCell (p:=⟨w,0,none⟩) (A1 _) (.slice g kept.length i));obtain⟨c0,c1,c2,c3,c4⟩:=q.five;obtain⟨f0,f1,f2,f3,f4⟩:=q.five';have hc:=QK j cache _ (Aj y.cache s) (by omega);go_wp2_with fail;refine hc.mono ?_;rintro e aa ⟨c,f,rfl,O,n⟩;have ai:w.heap.size+2<=aa.heap.size:=by have:=n.size;simp at this;omega
 obtain⟨r,K,M,H,F⟩:=Hx5 (C.below n) ((J.other (by omega:w.heap.size≠w.heap.size+1) 0 (.slice g kept.length i)).below' n (by simp;omega)) (s.trans (n.mono s.size)) (Ag (Ak G (by omega:w<w.heap.size+2) 0 (.slice g kept.length i)) (n.mono (by simp))) (CI O (by simp;omega:w.heap.size+2<=_));clear c0 c1 c2 c3 c4 f0 f1 f2 f3 f4 hc n O q C L s J G;obtain⟨D,t⟩:=Hx2 (r.set 1 (.slice c cache.length f)) (M.setCell (p:=⟨w,1,none⟩) (A1 _) (.slice c cache.length f));obtain⟨c0,c1,c2,c3,c4⟩:=r.five;obtain⟨f0,f1,f2,f3,f4⟩:=r.five';have hc:=QL l keep _ (Aj y.keep t) (by omega);go_wp2_with fail;refine hc.mono ?_;rintro e ab ⟨a,b,rfl,P,m⟩;have aj:w.heap.size+2<=ab.heap.size:=by have:=m.size;simp at this;omega
 obtain⟨u,z,a0,T,Q,W⟩:=Hx6 (D.below m) ((K.other (by omega:w.heap.size≠w.heap.size+1) 1 (.slice c cache.length f)).below' m (by simp;omega)) (t.trans (m.mono t.size)) (Ag (Ak H (by omega:w<w.heap.size+2) 1 (.slice c cache.length f)) (m.mono (by simp))) (Ag (Ak F (by omega:w<w.heap.size+2) 1 (.slice c cache.length f)) (m.mono (by simp))) (CI P (by simp;omega:w.heap.size+2<=_));clear c0 c1 c2 c3 c4 f0 f1 f2 f3 f4 hc m P r D M t K H F;obtain⟨ac,a1,Z,U,R,X⟩:=Hx6 (u.set 3 (.slice a keep.length b)) (a0.setCell (p:=⟨w,3,none⟩) (A1 _) (.slice a keep.length b)) (z.other (by omega:w.heap.size≠w.heap.size+1) 3 (.slice a keep.length b)) (Ak T (by omega:w<w.heap.size+2) 3 (.slice a keep.length b)) (Ak Q (by omega:w<w.heap.size+2) 3 (.slice a keep.length b)) (Ak W (by omega:w<w.heap.size+2) 3 (.slice a keep.length b));obtain⟨c0,c1,c2,c3,c4⟩:=u.five;obtain⟨f0,f1,f2,f3,f4⟩:=u.five';obtain⟨ad,g1,g2,af,ag⟩:=z.five';obtain⟨ak,al,an,ao,ap⟩:=z.five;obtain⟨a3,V,S,Y,a2⟩:=Hx5 (((((Z.set 0 (.slice g kept.length i)).set 1 (.slice c cache.length f)).set 2 (.int .i64 fuse)).set 3 (.slice a keep.length b)).set 4 (.bool dead)) (Ak (Ak (Ak (Ak (Ak U (by omega:w.heap.size+1<w.heap.size+2) 0 (.slice g kept.length i)) (by omega:w.heap.size+1<w.heap.size+2) 1 (.slice c cache.length f)) (by omega:w.heap.size+1<w.heap.size+2) 2 (.int .i64 fuse)) (by omega:w.heap.size+1<w.heap.size+2) 3 (.slice a keep.length b)) (by omega:w.heap.size+1<w.heap.size+2) 4 (.bool dead)) (Ak (Ak (Ak (Ak (Ak R (by omega:w.heap.size+1<w.heap.size+2) 0 (.slice g kept.length i)) (by omega:w.heap.size+1<w.heap.size+2) 1 (.slice c cache.length f)) (by omega:w.heap.size+1<w.heap.size+2) 2 (.int .i64 fuse)) (by omega:w.heap.size+1<w.heap.size+2) 3 (.slice a keep.length b)) (by omega:w.heap.size+1<w.heap.size+2) 4 (.bool dead)) (Ak (Ak (Ak (Ak (Ak X (by omega:w.heap.size+1<w.heap.size+2) 0 (.slice g kept.length i)) (by omega:w.heap.size+1<w.heap.size+2) 1 (.slice c cache.length f)) (by omega:w.heap.size+1<w.heap.size+2) 2 (.int .i64 fuse)) (by omega:w.heap.size+1<w.heap.size+2) 3 (.slice a keep.length b)) (by omega:w.heap.size+1<w.heap.size+2) 4 (.bool dead)) (((((a1.setCell (p:=⟨w+1,0,none⟩) (by simp) (.slice g kept.length i)).setCell (p:=⟨w+1,1,none⟩) (by simp) (.slice c cache.length f)).setCell (p:=⟨w+1,2,none⟩) (by simp) (.int .i64 fuse)).setCell (p:=⟨w+1,3,none⟩) (by simp) (.slice a keep.length b)).setCell (p:=⟨w+1,4,none⟩) (by simp) (.bool dead));go_wp2_with fail;obtain⟨a4,d1,d2,a5,d4⟩:=a3.five;exact A5 (v:=Bm (.slice g kept.length i) (.slice c cache.length f) (.slice a keep.length b) ⟨kept,cache,fuse,keep,dead⟩) (by simp[results,results234,go_sem,a4,d1,d2,a5,d4]) rfl ⟨g,i,c,f,a,b,rfl,⟨V,S,Y⟩,a2⟩
theorem Vg:(prog.info? 4).map (λi=>(i.zero,i.size,i.bytes))=some (some (.bool false),1,1):=by kernel_rfl
theorem Vh(w:World)(e size:Nat):(w.alloc (.cells #[] e)).ownsRow w.heap.size e size (.slice (some ⟨w,0,none⟩) 0 0) 0 []:=
 ⟨by simp,Or.inr ⟨w,0,#[],rfl,A1 _,HE w _,A1 _,by simp[maxLen],by simp,by simp⟩⟩
def fits(l:List Bool)(p n:Nat):Bool:=decide (p+n<=l.length)&&((l.drop p).take n).all (λb=> !b)
theorem GJ{l:List Bool}{p n:Nat}:fits l p n=true↔p+n<=l.length/\∀i,i<n->l.getD (p+i) true=false:=by
 unfold fits;rw[Hz,E0,HH];constructor
 ·rintro⟨h1,h2⟩;refine⟨h1,λi a=>?_⟩;have:=h2 l[p+i] (by rw[W2];exact⟨i,by simp;omega,by simp⟩);rw[B9,Bl (by omega)];simpa using this
 ·rintro⟨h1,h2⟩;refine⟨h1,λx b=>?_⟩;obtain⟨i,a,rfl⟩:=W2.1 b;simp only[G1] at a;have:=h2 i (by omega);rw[B9,Bl (by omega)] at this;simpa using this
theorem fy{l:List Bool}{p n m:Nat}(h:fits l p n=true)(hm:m<=n):fits l p m=true:=
 GJ.2 ⟨by have:=(GJ.1 h).1;omega,λi a=>(GJ.1 h).2 i (by omega)⟩
def Ca(l:List Bool)(p:Nat):Nat:=((l.drop p).takeWhile (λb=> !b)).length
theorem Vi(l:List Bool)(p:Nat)(h:p<=l.length):p+Ca l p<=l.length:=by
 have:=(List.takeWhile_sublist (λb:Bool=> !b) (l:=l.drop p)).length_le;unfold Ca;rw[G1] at this;omega
theorem fA(m:List Bool):∀i,i<(m.takeWhile λb=> !b).length->∃a,m[i]'a=false:=by
 induction m with
 |nil=>intro i h;simp at h
 |cons b m c=>
  intro i h;cases b
  ·cases i with
   |zero=>exact⟨by simp,rfl⟩
   |succ i=>obtain⟨a,e⟩:=c i (by simpa using h);exact⟨by simpa using a,by simpa using e⟩
  ·simp at h
theorem fB(m:List Bool)(h:(m.takeWhile λb=> !b).length<m.length):m[(m.takeWhile λb=> !b).length]=true:=by
 induction m with
 |nil=>simp at h
 |cons b m a=>
  cases b
  ·simpa using a (by simpa using h)
  ·simp
theorem QN(l:List Bool)(p:Nat)(h:p<=l.length):fits l p (Ca l p)=true:=
 GJ.2 ⟨Vi l p h,λi b=>by
   obtain⟨a,e⟩:=fA (l.drop p) i b;rw[B9,Bl (by simpa using(show p+i<l.length by simp at a;omega))];simpa using e⟩
theorem Vj(l:List Bool)(p:Nat)(h:p+Ca l p<l.length):l.getD (p+Ca l p) true=true:=by
 have:=fB (l.drop p) (by rw[G1];unfold Ca at h;omega);rw[B9,Bl h];simp only[K4] at this;exact this
def FL:Nat->List Bool->Nat->List (Nat×Nat)
 |0,_,_=>[]
 |f+1,l,p=>if p<l.length then(if 0<Ca l p then[(p,Ca l p)] else[])++FL f l (p+Ca l p+1) else[]
def Hk(l:List Bool):List (Nat×Nat):=FL (l.length+1) l 0
theorem fC(l:List Bool):∀(f g p:Nat),l.length<f+p->l.length<g+p->FL f l p=FL g l p:=by
 intro f;induction f with
 |zero=>
  intro g p h1 h2;cases g with
  |zero=>rfl
  |succ g=>rw[FL,FL,A3 (by omega)]
 |succ f a=>
  intro g p h1 h2;cases g with
  |zero=>rw[FL,FL,A3 (by omega)]
  |succ g=>
   rw[FL,FL];by_cases hp:p<l.length
   ·rw[A4 hp,A4 hp,a g (p+Ca l p+1) (by omega) (by omega)]
   ·rw[A3 hp,A3 hp]
def Fk(l:List Bool)(p:Nat):List (Nat×Nat):=FL (l.length+1) l p
theorem Mi(l:List Bool){p:Nat}(h:p<l.length):Fk l p=(if 0<Ca l p then[(p,Ca l p)] else[])++Fk l (p+Ca l p+1):=by
 rw[Fk,FL,A4 h];congr 1;exact fC l _ _ _ (by omega) (by omega)
theorem J5(l:List Bool){p:Nat}(h:l.length<=p):Fk l p=[]:=by rw[Fk,FL,A3 (by omega)]
theorem Vk(l:List Bool){n:Nat}(f:0<n):∀(k p:Nat),l.length-p<=k->∀q,p<=q->fits l q n=true->∃x∈Fk l p,n<=x.2/\x.1<=q:=by
 intro k;induction k with
 |zero=>intro p hk q a h;have:=(GJ.1 h).1;omega
 |succ k c=>
  intro p hk q a h;have j:=(GJ.1 h).1;have hp:p<l.length:=by omega
  rw[Mi l hp];have hs:=QN l p (by omega);by_cases d:q+n<=p+Ca l p
  ·exact⟨(p,Ca l p),by rw[A4 (by omega)];simp,by simp;omega,a⟩
  ·have i:p+Ca l p<q:=by
    rcases BZ (p+Ca l p) q with g|g
    ·exact g
    ·exfalso;have e:=Vj l p (by omega);have:=(GJ.1 h).2 (p+Ca l p-q) (by omega);rw[show q+(p+Ca l p-q)=p+Ca l p by omega,e] at this;cases this
   obtain⟨x,b,h1,h2⟩:=c (p+Ca l p+1) (by omega) q (by omega) h;exact⟨x,LV _ b,h1,h2⟩
theorem Vm(l:List Bool):∀(k p:Nat),l.length-p<=k->∀x∈Fk l p,p<=x.1/\0<x.2/\fits l x.1 x.2=true:=by
 intro k;induction k with
 |zero=>intro p hk x a;rw[J5 l (by omega)] at a;simp at a
 |succ k b=>
  intro p hk x a;by_cases hp:p<l.length
  ·rw[Mi l hp] at a;rcases GA.1 a with h|h
   ·by_cases hs:0<Ca l p
    ·rw[A4 hs,B6] at h;subst h;exact⟨A1 _,hs,QN l p (by omega)⟩
    ·rw[A3 hs] at h;simp at h
   ·have:=b (p+Ca l p+1) (by omega) x h;exact⟨by omega,this.2⟩
  ·rw[J5 l (by omega)] at a;simp at a
theorem fD(l:List Bool):∀(k p:Nat),l.length-p<=k->(Fk l p).Pairwise (λx y=>x.1<y.1):=by
 intro k;induction k with
 |zero=>intro p hk;rw[J5 l (by omega)];exact List.Pairwise.nil
 |succ k a=>
  intro p hk;by_cases hp:p<l.length
  ·rw[Mi l hp];have h2:=a (p+Ca l p+1) (by omega);by_cases hs:0<Ca l p
   ·rw[A4 hs];refine I4.2 ⟨λy hy=>?_,h2⟩;have:=(Vm l (l.length-(p+Ca l p+1)) _ (A1 _) y hy).1;simp;omega
   ·rw[A3 hs];simpa using h2
  ·rw[J5 l (by omega)];exact List.Pairwise.nil
def EA(l:List Bool)(n:Int):Int:=
 if n<1 then-1 else match(List.range l.length).find? (λa=>fits l a n.toNat) with|some a=>(a:Int)|none=> -1
theorem Vn{q:Nat->Bool}{n a:Nat}(ha:a<n)(c:q a=true)(hb:∀b,b<a->q b=false):(List.range n).find? q=some a:=by
 induction n with
 |zero=>omega
 |succ n e=>
  rw[HL,List.find?_append];by_cases h:a<n
  ·rw[e h];rfl
  ·obtain rfl:a=n:=by omega
   rw[HS.2 (λx d=>by rw[hb x (HW.1 d)];simp)];simp[c]
theorem Vo{l:List Bool}{n:Int}{a:Nat}(c:1<=n)(h:fits l a n.toNat=true)(hb:∀b,b<a->fits l b n.toNat=false):EA l n=a:=by
 have:=(GJ.1 h).1;rw[EA,A3 (by omega),Vn (q:=λa=>fits l a n.toNat) (by omega) h hb]
theorem Vp{l:List Bool}{n:Int}(a:1<=n)(h:∀b,fits l b n.toNat=false):EA l n= -1:=by
 rw[EA,A3 (by omega),HS.2 (λx _=>by simp[h x])]
theorem fE{l:List Bool}{n:Int}(a:n<1):EA l n= -1:=by rw[EA,A4 a]
theorem fF(l:List Bool){n:Int}(e:1<=n):(EA l n= -1/\∀b,fits l b n.toNat=false)\/∃a:Nat,EA l n=a/\fits l a n.toNat=true/\∀b,b<a->fits l b n.toNat=false:=by
 by_cases h:∃b,fits l b n.toNat=true
 ·right;have i:∃a,fits l a n.toNat=true/\∀b,b<a->fits l b n.toNat=false:=by
   obtain⟨b,hb⟩:=h;induction b using Nat.strongRecOn with
   |ind b j=>
    by_cases g:∃c,c<b/\fits l c n.toNat=true
    ·obtain⟨c,hc,hf⟩:=g;exact j c hc hf
    ·refine⟨b,hb,λc hc=>?_⟩;cases f:fits l c n.toNat with
     |false=>rfl
     |true=>exact absurd ⟨c,hc,f⟩ g
  obtain⟨a,h1,h2⟩:=i;exact⟨a,Vo e h1 h2,h1,h2⟩
 ·left;have d:∀b,fits l b n.toNat=false:=λb=>by
   cases hb:fits l b n.toNat with
   |false=>rfl
   |true=>exact absurd ⟨b,hb⟩ h
  exact⟨Vp e d,d⟩
theorem fG{l:List Bool}{n:Int}(a:1<=n)(h:∀x∈Hk l,(x.2:Int)<n):EA l n= -1:=by
 refine Vp a λb=>?_;cases hb:fits l b n.toNat with
 |false=>rfl
 |true=>
  obtain⟨x,c,h1,_⟩:=Vk l (n:=n.toNat) (by omega) l.length 0 (by omega) b (A7 _) hb;have:=h x c;omega
theorem fH{l:List Bool}{n:Int}{ini rest:List (Nat×Nat)}{x:Nat×Nat}(c:1<=n)(h:Hk l=ini++x::rest)(h1:∀y∈ini,(y.2:Int)<n)(h2:n<=(x.2:Int)):EA l n=x.1:=by
 have e:=Vm l l.length 0 (by omega) x (by show x∈Hk l;rw[h];simp);have hr:=fD l l.length 0 (by omega);refine Vo c (fy e.2.2 (by omega)) λb hb=>?_;cases a:fits l b n.toNat with
 |false=>rfl
 |true=>
  obtain⟨y,hy,g1,g2⟩:=Vk l (n:=n.toNat) (by omega) l.length 0 (by omega) b (A7 _) a;have f:y∈ini++x::rest:=by rw[<-h];exact hy
  have d:(ini++x::rest).Pairwise (λx y=>x.1<y.1):=by rw[<-h];exact hr
  rcases GA.1 f with hm|hm
  ·have:=h1 y hm;omega
  ·rcases Dn.1 hm with rfl|hm
   ·omega
   ·have:=(I4.1 (List.pairwise_append.1 d).2.1).1 y hm;omega
abbrev fI(w:World)(v:Value)(l:List Bool):Prop:=Av w v 1 (λx=>[.bool x]) l
end Go.Proofs.YtmajkjjjfodhlaaGreatDoor
