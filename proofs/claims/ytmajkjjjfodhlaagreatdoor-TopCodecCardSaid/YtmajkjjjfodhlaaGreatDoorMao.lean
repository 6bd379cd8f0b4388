/- Part Mao. No condition of its own. -/
import Derived.Test.YtmajkjjjfodhlaaGreatDoorMan
namespace Go.Proofs.YtmajkjjjfodhlaaGreatDoor
open Go.RowKit Tryz
set_option linter.all false
set_option maxRecDepth 100000
set_option maxHeartbeats 8000000
theorem W5:type_of%@List.replicate_zero:=@List.replicate_zero
def Iy(l:List Us)(a s:Int):Bool:=l.all λu=> !(decide (u.1=a))||decide (u.2.1=Aq s)
theorem iv{l:List Us}{a s:Int}{k:Nat}(hk:k<l.length)(h1:l[k].1=a)(h2:l[k].2.1≠Aq s):Iy l a s=false:=List.all_eq_false.2 ⟨l[k],BA hk,by simp[h1,h2]⟩
theorem iw{l:List Us}{a s:Int}{k:Nat}(hk:k<l.length)(h:Iy (l.take k) a s=true)(b:l[k].1≠a\/l[k].2.1=Aq s):Iy (l.take (k+1)) a s=true:=by
 unfold Iy at h⊢;rw[B1 hk,List.all_append,h,List.all_cons,List.all_nil];rcases b with b|b<;>simp[b]
def Dc(ls:List (List Us))(c a s:Int)(p:Bool)(b:Int):Bool:=AN ls&&Cb c a s p&&decide (c<ls.length)&&Iy (ls.getD c.toNat []) a s&&EY (ls.getD c.toNat []) a b
def ER(ls:List (List Us))(c a s:Int)(p:Bool)(b:Int):List (List Us):=if Dc ls c a s p b=true then ls.set c.toNat (EZ (ls.getD c.toNat []) a b) else[]
abbrev Jj(ls:List (List Us))(c a s:Int)(p:Bool)(b:Int)(w:World)(e:Ending)(w':World):Prop:=
 ∃d cap,e= .returned (.tuple #[.slice d (ER ls c a s p b).length cap, .bool (Dc ls c a s p b)])/\Be w' (.slice d (ER ls c a s p b).length cap) (ER ls c a s p b)/\(∀f,(Value.slice d (ER ls c a s p b).length cap).ownBlock=some f->w.heap.size<=f)/\Below w w w'
theorem ix{ls:List (List Us)}{c a s:Int}{p:Bool}{b:Int}(h:Dc ls c a s p b=false):ER ls c a s p b=[]/\Dc ls c a s p b=false:=by unfold ER;rw[h];exact⟨rfl,rfl⟩
theorem VY(F:FuncId)(c9:∀args w,(callFunc F args).run prog w= .ok (.enter F args) w)(ag:Nat)(b:Int)(v:Value)(ls:List (List Us))(c a s:Int)(p:Bool)(w:World)
 (ah:∀y,Below w w y->∀v l,AT y v l->l.length<=100->Calls prog F #[v, .pointer (some ⟨ag,0,none⟩)] y λe w'=>Fa l a b y e w')
 (hv:Be w v ls)(hf:FN ls):
 Calls prog 244 #[v, .agg #[c, a, s, .bool p], .func (.func F) #[] #[.pointer (some ⟨ag,0,none⟩)]] w λe w'=>Jj ls c a s p b w e w':=by
 obtain⟨Z,bV,o,H,I,J,d,A⟩:=MX w (.int .i64 c) (.int .i64 a) (.int .i64 s) (.bool p) 162;have hc:=Ok v ls Z (DH hv A) hf;have ak:∀g,Below w w g->_:=λg hb=>VJ v ls g (DH hv hb) hf;obtain⟨aU,ax,aa⟩:=Hx3 ak ah (DH hv A);obtain⟨b5,c6⟩:=hf;obtain⟨bs,bM,rfl,b7,_⟩:=E8 hv;clear hv b7 ak ah;have Q:Hid (∀w',Below w w w'->Dc ls c a s p b=false->Jj ls c a s p b w (.returned (.tuple #[.slice none 0 0, .bool false])) w'):=by
  intro w' hb h;obtain⟨aq,ar⟩:=ix h;unfold Jj;rw[aq,ar];exact⟨none,0,rfl,Oj λ_=>rfl,nofun,hb⟩
 cases q:AN ls with
 |false=>
  have P:Hid (Dc ls c a s p b=false):=by unfold Hid Dc;rw[q];rfl
  rw[q] at hc;clear q;go_enter func244,ntmps244;go_wp2_with fail;refine hc.mono ?_;rintro e g ⟨rfl,f⟩;have n:=A0 (A.trans (f.mono (Hq d)));clear hc f;go_wp2_with fail;refine A5 (C3 rfl _ _ _) rfl ?_;exact Q _ n P
 |true=>
 rw[q] at hc;have hm:=λy=>LC c a s p y;cases x:Cb c a s p with
 |false=>
  have P:Hid (Dc ls c a s p b=false):=by unfold Hid Dc;rw[q,x];rfl
  rw[x] at hm;clear q x;go_enter func244,ntmps244;go_wp2_with fail;refine hc.mono ?_;rintro e g ⟨rfl,f⟩;have n:=A0 (A.trans (f.mono (Hq d)));have f0:g.cell? ⟨w,0,none⟩=some (.int .i64 c):=(f.cell (p:=⟨w,0,none⟩) d).trans o;have f1:g.cell? ⟨w,1,none⟩=some (.int .i64 a):=(f.cell (p:=⟨w,1,none⟩) d).trans H;have f2:g.cell? ⟨w,2,none⟩=some (.int .i64 s):=(f.cell (p:=⟨w,2,none⟩) d).trans I;have f3:g.cell? ⟨w,3,none⟩=some (.bool p):=(f.cell (p:=⟨w,3,none⟩) d).trans J;clear hc f;go_wp2_with fail;refine(hm _).mono ?_;rintro e M ⟨rfl,m⟩;have D:=A0 (Cd n m);clear hm m;go_wp2_with fail;refine A5 (C3 rfl _ _ _) rfl ?_;exact Q _ D P
 |true=>
 have c0:=PA x;rw[x] at hm;by_cases al:c<(ls.length:Int)
 ·obtain⟨k,rfl⟩:∃k:Nat,c=k:=⟨c.toNat,by omega⟩;have C:k<ls.length:=by omega
  have W:Hid (Dc ls k a s p b=(Iy ls[k] a s&&EY ls[k] a b)):=by
   unfold Hid Dc;rw[q,x,show decide ((k:Int)<ls.length)=true from by simpa using al,B9,BY,Bl C];simp
  have ay:Hid (Dc ls k a s p b=true->ER ls k a s p b=ls.set k (EZ ls[k] a b)):=by
   intro h;unfold ER;rw[A4 h,B9,BY,Bl C];rfl
  have b0:decide ((ls.length:Int)<=(k:Int))=false:=by simp;omega
  have bK:decide (ls.length<=k)=false:=by simp;omega
  have b6:=b5 _ (BA C);have bR:(0:Int)<=(k:Int):=by omega
  clear x q;go_enter func244,ntmps244;go_wp2_with fail;refine hc.mono ?_;rintro e g ⟨rfl,f⟩;have n:=A0 f;have f0:g.cell? ⟨w,0,none⟩=some (.int .i64 (k:Int)):=(f.cell (p:=⟨w,0,none⟩) d).trans o;have f1:g.cell? ⟨w,1,none⟩=some (.int .i64 a):=(f.cell (p:=⟨w,1,none⟩) d).trans H;have f2:g.cell? ⟨w,2,none⟩=some (.int .i64 s):=(f.cell (p:=⟨w,2,none⟩) d).trans I;have f3:g.cell? ⟨w,3,none⟩=some (.bool p):=(f.cell (p:=⟨w,3,none⟩) d).trans J;clear hc f;go_wp2_with fail;refine(hm _).mono ?_;rintro e M ⟨rfl,m⟩;have u:=n.trans (m.mono n.size);have D:=A0 u;clear f0 f1 f2 f3;have f0:M.cell? ⟨w,0,none⟩=some (.int .i64 (k:Int)):=(u.cell (p:=⟨w,0,none⟩) d).trans o;obtain⟨bx,off,bt,bN,r,c1,b3,ao⟩:=Gf (DH aa u) C;subst r;have aK:=A0 ao;clear hm m ao u n;generalize hl:ls[k]=l at*;have aV:=A0 hl;clear hl;go_wp2_with fail;go_loopw [34] (λi wr=>∃j:Nat,j<=l.length/\i= .int .i64 j/\Iy (l.take j) a s=true/\Below M M wr) (λi _=>l.length-(intOf i).toNat)
  case atStart=>exact⟨0,A7 _,rfl,rfl,A2 _ _⟩
  case round=>
   clear f0 b3;obtain⟨j,c8,rfl,an,hb⟩:=hrel;obtain⟨a9,G,aP,af⟩:=Hx4 an (D.trans (hb.mono D.size)) (Aj aK hb) hb;clear an hb;by_cases a1:j<l.length
   ·obtain⟨b1,bc,r,b2,cg,aq,ar,ch⟩:=E6 aP a1;subst r;obtain⟨t,bX,ci,cj,ck,cl,ca,m⟩:=MX wr (.int .i64 l[j].1) (.int .i64 l[j].2.1) (.int .i64 l[j].2.2.1) (.bool l[j].2.2.2) 47;have B:Below Z Z t:=G.trans (m.mono G.size);have f1:t.cell? ⟨w,1,none⟩=some (.int .i64 a):=(B.cell (p:=⟨w,1,none⟩) d).trans H;have f0:t.cell? ⟨w,0,none⟩=some (.int .i64 (k:Int)):=(B.cell (p:=⟨w,0,none⟩) d).trans o;have f2:t.cell? ⟨w,2,none⟩=some (.int .i64 s):=(B.cell (p:=⟨w,2,none⟩) d).trans I;have f3:t.cell? ⟨w,3,none⟩=some (.bool p):=(B.cell (p:=⟨w,3,none⟩) d).trans J;have cb:w<t.heap.size:=B3 d B.size;have g2:(j:Int)<(l.length:Int):=by omega
    have bT:(0:Int)<=(j:Int):=by omega
    obtain⟨aT,ab,Y,ad⟩:=Hx4 (iv (a:=a) (s:=s) a1) (iw (a:=a) (s:=s) a1 a9) (af.trans (m.mono af.size)) B;clear o H I J m B;generalize l[j].1=V at*;generalize l[j].2.1=bp at*;generalize l[j].2.2.1=cm at*;generalize l[j].2.2.2=co at*;by_cases U:V=a
    ·subst U;have hc:=λy=>MW (k:Int) V s p y (by omega);go_wp2_with fail;go_region_held3 (Ch t) (first|exact IS|exact IQ (by assumption) (by assumption)) (first|(go_at_call 86;refine(hc _).mono ?_;rintro e w' ⟨rfl,hb⟩))
     have a0:Ch t w':=by assumption
     obtain⟨av,O⟩:=Hx2 (Y.trans (a0.2.mono Y.size)) (A.trans ((ad.trans (a0.2.mono ad.size)).mono (Hq d)));clear a0;obtain⟨a7,a5⟩:∃a7,a7=(bp !=Aq s):=⟨_,rfl⟩;rw[<-a5];have ac:=A0 a5;clear a5;cases a7 with
     |false=>
      have X:=A0 (ab (Or.inr (by simpa using ac.out.symm)));go_wp2_with fail;exact⟨⟨j+1,by omega,by go_num,X,av⟩,by simp[intOf];omega⟩
     |true=>
      have E:Hid (Dc ls k V s p b=false):=by
       have h:=aT (by trivial) (λh=>by have:=ac.out;rw[h] at this;simp at this);unfold Hid;rw[W.out,h];rfl
      go_wp2_with fail;refine A5 (C3 rfl _ _ _) rfl ?_;exact Q _ O E
    ·have bL:(V==a)=false:=by simpa using U
     have X:=A0 (ab (Or.inl U));clear U;go_wp2_with fail;go_quiet (fail)
     go_wp2_with fail;exact⟨⟨j+1,by omega,by go_num,X,gq Y _⟩,by simp[intOf];omega⟩
   ·obtain rfl:j=l.length:=by omega
    have a8:=a9.out;rw[D4] at a8;have O:=A0 (A.trans (G.mono (Hq d)));have f0:wr.cell? ⟨w,0,none⟩=some (.int .i64 (k:Int)):=(G.cell (p:=⟨w,0,none⟩) d).trans o;obtain⟨b1,bc,bu,bO,r,b2,b4,a4⟩:=Gf (DH aa G) C;injection r with r;injection r with t1 t2 t3;subst t1 t2;rw[aV.out] at b4 a4;have z:=ax wr O _ _ a4 b6;clear o H I J a4;unfold Fa at z;cases L:EY l a b with
    |false=>
     rw[L] at z;have E:Hid (Dc ls k a s p b=false):=by unfold Hid;rw[W.out,L,Bool.and_false]
     clear L;go_wp2_with fail;refine z.mono ?_;rintro e a6 ⟨aX,c2,rfl,T,K⟩;have N:=A0 (Cd O K);clear z T K;go_wp2_with fail;refine A5 (C3 rfl _ _ _) rfl ?_;exact Q _ N E
    |true=>
     rw[L] at z;have E:Hid (Dc ls k a s p b=true):=by unfold Hid;rw[W.out,L,a8];rfl
     have aC:=A0 (ay E);clear L;generalize EZ l a b=cc at*;go_wp2_with fail;refine z.mono ?_;rintro e a6 ⟨aX,c2,rfl,T,K⟩;obtain⟨N,aL⟩:=Hx2 (Cd O K) T;have aj:=aU a6 N;have u:Below wr wr a6:=K;clear z T K;go_wp2_with fail;refine aj.mono ?_;rintro e bl ⟨bq,c4,rfl,a3,a2,S⟩;obtain⟨au,aM⟩:=Hx2 (Cd N S) (Aj aL S);obtain⟨R,ap,bw,bP,r,c3,c5,_⟩:=Gf a3 C;subst r;have b8:w<wr.heap.size:=B3 d G.size;have f4:bl.cell? ⟨w,0,none⟩=some (.int .i64 (k:Int)):=((u.trans (S.mono u.size)).cell (p:=⟨w,0,none⟩) b8).trans f0;have aF:=A0 a3;have bb:w<=R:=A8 N.size (a2 R rfl).1;have c7:=(a2 R rfl).2 (ap+k);clear aj a3 a2 S u f0;go_wp2_with fail;refine A5 (C3 rfl _ _ _) rfl ?_;unfold Jj;rw[aC.out,E.out];exact⟨some ⟨R,ap,none⟩,c4,by simp,by simpa using VH aF C aM,(λb hb=>by simp only[Value.ownBlock,Hs] at hb;omega),au.setCell bb _⟩
 ·have P:Hid (Dc ls c a s p b=false):=by
   unfold Hid Dc;rw[show decide (c<(ls.length:Int))=false from by simpa using al,Bool.and_false];rfl
  have b0:decide ((ls.length:Int)<=c)=true:=by simp;omega
  clear x q;go_enter func244,ntmps244;go_wp2_with fail;refine hc.mono ?_;rintro e g ⟨rfl,f⟩;have n:=A0 (A.trans (f.mono (Hq d)));have f0:g.cell? ⟨w,0,none⟩=some (.int .i64 c):=(f.cell (p:=⟨w,0,none⟩) d).trans o;have f1:g.cell? ⟨w,1,none⟩=some (.int .i64 a):=(f.cell (p:=⟨w,1,none⟩) d).trans H;have f2:g.cell? ⟨w,2,none⟩=some (.int .i64 s):=(f.cell (p:=⟨w,2,none⟩) d).trans I;have f3:g.cell? ⟨w,3,none⟩=some (.bool p):=(f.cell (p:=⟨w,3,none⟩) d).trans J;have b9:=f.size;have ai:=f;clear hc;go_wp2_with fail;refine(hm _).mono ?_;rintro e M ⟨rfl,m⟩;have D:=A0 (Cd n m);clear f0 f1 f2 f3;have f0:M.cell? ⟨w,0,none⟩=some (.int .i64 c):=((ai.trans (m.mono b9)).cell (p:=⟨w,0,none⟩) d).trans o;clear hm m f ai;go_wp2_with fail;refine A5 (C3 rfl _ _ _) rfl ?_;exact Q _ D P
theorem iy(v:Value)(ls:List (List Us))(c a s:Int)(p:Bool)(w:World)(f:Be w v ls)(hf:FN ls):
 Calls prog 176 #[v, .agg #[c, a, s, .bool p]] w λe w'=>Jj ls c a s p (-1) w e w':=by
 obtain⟨C,G,D,k,E,F,q,n⟩:=MX w (.int .i64 c) (.int .i64 a) (.int .i64 s) (.bool p) 162;have N:∀(m:Fn) (first cap:Array Value) (w:World),(Instr.makeFunc m first cap).run prog w= .ok (.func m first cap) w:=λ_ _ _ _=>rfl;have hc:=VY 245 (DQ func245 (by kernel_rfl) rfl) w.heap.size (-1) v ls c a s p C (λx u v l i hl=>by
  have f1:x.cell? ⟨w,1,none⟩=some (.int .i64 a):=(u.cell (p:=⟨w,1,none⟩) q).trans k;have hd:=ig v l a x i (by omega);obtain⟨J,L,rfl,_⟩:=id i;clear i u D k E F G f;go_enter func245,ntmps245;go_wp2_with fail;refine hd.mono ?_;rintro e I ⟨h,c2,rfl,t,d⟩;obtain⟨A,g⟩:=Hx2 t d;clear t d hd;go_wp2_with fail;refine A5 (C3 rfl _ _ _) rfl ?_;exact⟨h,c2,rfl,A,g⟩) (DH f n) hf
 obtain⟨B,j⟩:=Hx2 (n) q;obtain⟨K,M,rfl,H,_⟩:=E8 f;clear f H hf;go_enter func176,ntmps176;go_wp2_with fail;refine hc.mono ?_;rintro e I ⟨h,c2,rfl,r,o,d⟩;obtain⟨z,g,y⟩:=Hx3 r (B.trans (d.mono (Hq j))) (λb hb=>A8 (Hq j) (o b hb));clear r o d hc;go_wp2_with fail;refine A5 (C3 rfl _ _ _) rfl ?_;exact⟨h,c2,rfl,z,y,g⟩
theorem iz(v:Value)(ls:List (List Us))(c a s:Int)(p:Bool)(w:World)(f:Be w v ls)(hf:FN ls):
 Calls prog 197 #[v, .agg #[c, a, s, .bool p]] w λe w'=>Jj ls c a s p 1 w e w':=by
 obtain⟨C,G,D,k,E,F,q,n⟩:=MX w (.int .i64 c) (.int .i64 a) (.int .i64 s) (.bool p) 162;have N:∀(m:Fn) (first cap:Array Value) (w:World),(Instr.makeFunc m first cap).run prog w= .ok (.func m first cap) w:=λ_ _ _ _=>rfl;have hc:=VY 261 (DQ func261 (by kernel_rfl) rfl) w.heap.size 1 v ls c a s p C (λx u v l i hl=>by
  have f1:x.cell? ⟨w,1,none⟩=some (.int .i64 a):=(u.cell (p:=⟨w,1,none⟩) q).trans k;have hd:=ie v l a x i (by omega);obtain⟨J,L,rfl,_⟩:=id i;clear i u D k E F G f;go_enter func261,ntmps261;go_wp2_with fail;refine hd.mono ?_;rintro e I ⟨h,c2,rfl,t,d⟩;obtain⟨A,g⟩:=Hx2 t d;clear t d hd;go_wp2_with fail;refine A5 (C3 rfl _ _ _) rfl ?_;exact⟨h,c2,rfl,A,g⟩) (DH f n) hf
 obtain⟨B,j⟩:=Hx2 (n) q;obtain⟨K,M,rfl,H,_⟩:=E8 f;clear f H hf;go_enter func197,ntmps197;go_wp2_with fail;refine hc.mono ?_;rintro e I ⟨h,c2,rfl,r,o,d⟩;obtain⟨z,g,y⟩:=Hx3 r (B.trans (d.mono (Hq j))) (λb hb=>A8 (Hq j) (o b hb));clear r o d hc;go_wp2_with fail;refine A5 (C3 rfl _ _ _) rfl ?_;exact⟨h,c2,rfl,z,y,g⟩
def rC(n:Int):Int:=n/2/257/16
def rA(n:Int):Int:=n/2/257%16
def rS(n:Int):Int:=n/2%257
def rP(n:Int):Bool:=n%2==1
def KZ(n c:Int):Us:=(rA n,Aq (rS n),c,true)
theorem Ke{n:Int}(h:BG n=true):0<=n/\Cb (rC n) (rA n) (rS n) (rP n)=true:=by
 have h0:0<=n:=by
  by_cases h0:0<=n
  ·exact h0
  ·rw[MZ (by omega)] at h;cases h
 rw[KF h0] at h;exact⟨h0,h⟩
theorem iA{m n:Int}(h:m<=n)(hc:rC m=rC n):rA m<=rA n:=by unfold rC rA at*;omega
structure CX(cnt:Int→Nat)(ls:List (List Us)):Prop where
 of:∀n,0<cnt n→BG n=true∧rC n<ls.length
 slot:∀n,0<cnt n→∃u∈ls.getD (rC n).toNat [],u.1=rA n∧u.2.1=Aq (rS n)∧u.2.2.1=cnt n
 back:∀(i:Nat) (u:Us),u∈ls.getD i []→0<u.2.2.1→∃n,0<cnt n∧rC n=i∧rA n=u.1
 one:∀m n,0<cnt m→0<cnt n→rC m=rC n→rA m=rA n→m=n
theorem VZ{l:List Us}(h:AE l=true){u v:Us}(a:u∈l)(b:v∈l)(e:u.1=v.1):u.2.2.1=v.2.2.1:=by
 rw[<-QR h a,<-QR h b,e]
theorem Q6{ls:List (List Us)}(h:AN ls=true)(i:Nat):AE (ls.getD i [])=true:=by
 obtain⟨h1,_⟩:=Fp.1 h;by_cases a:i<ls.length
 ·rw[B9,Bl a];exact h1 _ (BA a)
 ·rw[B9,E9 (by omega)];rfl
theorem V0{ls:List (List Us)}(h:AN ls=true){l:List Us}(hl:AE l=true)(i:Nat):AN (ls.set i l)=true:=by
 obtain⟨h1,h2,h3⟩:=Fp.1 h;refine Fp.2 ⟨λx a=>?_,by rw[Di];exact h2,by rw[Di];exact h3⟩;rcases W1 a with a|rfl
 ·exact h1 x a
 ·exact hl
theorem Mn{ls:List (List Us)}{i:Nat}(a:i<ls.length)(l:List Us)(j:Nat):(ls.set i l).getD j []=if j=i then l else ls.getD j []:=by
 rw[B9,B9];by_cases h:j=i
 ·subst h;rw[K1 a,A4 rfl];rfl
 ·rw[N6 (λe=>h e.symm),A3 h]
theorem OA{n:Int}(h:BG n=true):((rC n).toNat:Int)=rC n:=by
 have:=(IV (Ke h).2).1;omega
theorem V4{r cnt':Int->Nat}{ls:List (List Us)}(h:CX r ls)(hm:AN ls=true){n b:Int}(t:0<r n)(hb:b=1\/b= -1)(R:(r n:Int)+b<=1000000)
 (hc:∀m,(cnt' m:Int)=r m+if m=n then b else 0):
 Dc ls (rC n) (rA n) (rS n) (rP n) b=true/\CX cnt' (ER ls (rC n) (rA n) (rS n) (rP n) b)/\AN (ER ls (rC n) (rA n) (rS n) (rP n) b)=true/\(ER ls (rC n) (rA n) (rS n) (rP n) b).length=ls.length:=by
 obtain⟨w,K⟩:=h.of n t;obtain⟨u,z,D,N,O⟩:=h.slot n t;obtain⟨_,L⟩:=Ke w;have Q:=OA w;have q:(rC n).toNat<ls.length:=by omega
 have o:=Q6 hm (rC n).toNat;have F:=QR o z;rw[D,O] at F;have H:EY (ls.getD (rC n).toNat []) (rA n) b=true:=by
  unfold EY;rw[o,F];simp;omega
 have M:Iy (ls.getD (rC n).toNat []) (rA n) (rS n)=true:=by
  unfold Iy;rw[HH];intro v a;by_cases e:v.1=rA n
  ·have hp:=(EX.1 o).2;have:v=u:=by
    obtain⟨i,q,rfl⟩:=HQ a;obtain⟨j,C,rfl⟩:=HQ z;have w:=(EX.1 o).1;rcases Nat.lt_trichotomy i j with s|s|s
    ·have h1:=Jx.1 hp i j q C s;have h2:=CE.1 (w _ (BA q));unfold Fl at h1;omega
    ·subst s;rfl
    ·have h1:=Jx.1 hp j i C q s;have h2:=CE.1 (w _ (BA C));unfold Fl at h1;omega
   rw[this,N];simp
  ·simp[e]
 have G:Dc ls (rC n) (rA n) (rS n) (rP n) b=true:=by
  unfold Dc;rw[hm,L,M,H];simp[K]
 have B:ER ls (rC n) (rA n) (rS n) (rP n) b=ls.set (rC n).toNat (GM (ls.getD (rC n).toNat []) (rA n) b):=by
  unfold ER EZ;rw[A4 G,A4 H]
 have g:∀m,0<cnt' m->0<r m:=λm f=>by
  have:=hc m;by_cases e:m=n
  ·rw[e];exact t
  ·rw[A3 e] at this;omega
 refine⟨G,?_,?_,by rw[B,Di]⟩
 ·rw[B];refine⟨λm f=>by rw[Di];exact h.of m (g m f),λm f=>?_,λi v a p=>?_,λm k f hk=>h.one m k (g m f) (g k hk)⟩
  ·obtain⟨v,a,y,J,T⟩:=h.slot m (g m f);have P:=OA (h.of m (g m f)).1;rw[Mn q];have d:=hc m;by_cases e:(rC m).toNat=(rC n).toNat
   ·rw[A4 e];rw[e] at a;have E:rC m=rC n:=by omega
    refine⟨EC (rA n) b v,HK.2 ⟨List.mem_map_of_mem a,?_⟩,?_,?_,?_⟩
    ·unfold FM EC;split
     ·rename_i c;have:m=n:=h.one m n (g m f) t E (by rw[<-y,c]);subst this;rw[A4 rfl] at d;simp only[J4,E0];left;omega
     ·simp only[J4,E0];left;have:=g m f;omega
    ·unfold EC;split<;>exact y
    ·unfold EC;split<;>exact J
    ·unfold EC;split
     ·rename_i c;have:m=n:=h.one m n (g m f) t E (by rw[<-y,c]);subst this;rw[A4 rfl] at d;simp only;omega
     ·rename_i c;rw[A3 (λl=>c (by rw[y,l]))] at d;omega
   ·rw[A3 e];rw[A3 (λl=>e (by rw[l]))] at d;exact⟨v,a,y,J,by omega⟩
  ·rw[Mn q] at a;by_cases e:i=(rC n).toNat
   ·rw[A4 e] at a;obtain⟨a,hk⟩:=HK.1 a;obtain⟨x,I,rfl⟩:=E1.1 a;by_cases c:x.1=rA n
    ·have S:=VZ o I z (by rw[c,D]);refine⟨n,?_,by omega,?_⟩
     ·have d:=hc n;rw[A4 rfl] at d;unfold EC at p;rw[A4 c] at p;simp only at p;omega
     ·unfold EC;rw[A4 c];exact c.symm
    ·unfold EC at p⊢;rw[A3 c] at p⊢;obtain⟨m,m1,m2,A⟩:=h.back i x (by rw[e];exact I) p;refine⟨m,?_,m2,A⟩;have d:=hc m;rw[A3 (λl=>c (by rw[<-A,l]))] at d;omega
   ·rw[A3 e] at a;obtain⟨m,m1,m2,A⟩:=h.back i v a p;refine⟨m,?_,m2,A⟩;have d:=hc m;rw[A3 (λl=>e (by rw[<-l];omega))] at d;omega
 ·rw[B];refine V0 hm (fR o λv a e=>?_) _;have:=VZ o a z (by rw[e,D]);omega
theorem iB{l:List Us}{k:Int}(h:Cc l k=true):BN l k=EQ l (DG l k,k,1,false):=by
 rw[BN,A4 h,DG,A4 h]
theorem V7{f cnt':Int->Nat}{ls:List (List Us)}(h:CX f ls)(hm:AN ls=true){n:Int}{c:Nat}(s:c<ls.length)(o:Cc (ls.getD c []) (Aq (rS n))=true)(E:BG n=true)(h1:rC n=c)(h2:rA n=DG (ls.getD c []) (Aq (rS n)))
 (hc:∀m,cnt' m=f m+if m=n then 1 else 0):CX cnt' (ls.set c (BN (ls.getD c []) (Aq (rS n))))/\AN (ls.set c (BN (ls.getD c []) (Aq (rS n))))=true/\f n=0:=by
 have C:=fV o;have hp:DG (ls.getD c []) (Aq (rS n))=Fo (ls.getD c []) (Aq (rS n)):=by rw[DG,A4 o]
 have h0:∀m,0<f m->rC m=c->rA m≠rA n:=λm a B e=>by
  obtain⟨u,w,F,_⟩:=h.slot m a;rw[B,BY] at w;exact C u w (by rw[F,e,h2,hp])
 have t:f n=0:=by
  rcases S1 (f n) with q|q
  ·exact q
  ·exact absurd rfl (h0 n q h1)
 refine⟨?_,V0 hm (fQ o) c,t⟩;rw[iB o];have j:∀m,m≠n->cnt' m=f m:=λm e=>by rw[hc m,A3 e];rfl
 have D:cnt' n=1:=by rw[hc n,A4 rfl,t]
 refine⟨λm a=>?_,λm a=>?_,λi v b x=>?_,λm k a hk p g=>?_⟩
 ·rw[Di];by_cases e:m=n
  ·subst e;exact⟨E,by omega⟩
  ·rw[j m e] at a;exact h.of m a
 ·rw[Mn s];by_cases e:m=n
  ·subst e;rw[h1,BY,A4 rfl];exact⟨_,Of.2 (Or.inl rfl),h2.symm,rfl,by rw[D];rfl⟩
  ·rw[j m e] at a⊢;obtain⟨v,b,y,z,A⟩:=h.slot m a;by_cases g:(rC m).toNat=c
   ·rw[A4 g];rw[g] at b;exact⟨v,Of.2 (Or.inr b),y,z,A⟩
   ·rw[A3 g];exact⟨v,b,y,z,A⟩
 ·rw[Mn s] at b;by_cases e:i=c
  ·rw[A4 e] at b;rcases Of.1 b with rfl|b
   ·exact⟨n,by omega,by omega,h2⟩
   ·obtain⟨m,m1,m2,r⟩:=h.back i v (by rw[e];exact b) x;by_cases d:m=n
    ·subst d;omega
    ·exact⟨m,by rw[j m d];exact m1,m2,r⟩
  ·rw[A3 e] at b;obtain⟨m,m1,m2,r⟩:=h.back i v b x;by_cases d:m=n
   ·subst d;omega
   ·exact⟨m,by rw[j m d];exact m1,m2,r⟩
 ·by_cases d:m=n
  ·by_cases l:k=n
   ·rw[d,l]
   ·rw[j k l] at hk;subst d;exact absurd g.symm (h0 k hk (by rw[<-p,h1]))
  ·rw[j m d] at a;by_cases l:k=n
   ·subst l;exact absurd g (h0 m a (by rw[p,h1]))
   ·rw[j k l] at hk;exact h.one m k a hk p g
theorem Q7{l:List Us}{v:Us}:v∈Br l↔∃u∈l,0<u.2.2.1/\J6 u=v:=by
 unfold Br;rw[E1];constructor
 ·rintro⟨u,a,e⟩;obtain⟨h1,h2⟩:=HK.1 a;exact⟨u,h1,by simpa using h2,e⟩
 ·rintro⟨u,h1,h2,e⟩;exact⟨u,HK.2 ⟨h1,by simpa using h2⟩,e⟩
theorem Q8{ls:List (List Us)}(i:Nat):(ls.map Br).getD i []=Br (ls.getD i []):=by
 rw[B9,B9,Hp];cases ls[i]?<;>rfl
theorem V8{c:Int->Nat}{ls:List (List Us)}(h:CX c ls):CX c (ls.map Br):=by
 refine⟨λn a=>by rw[B4];exact h.of n a,λn a=>?_,λi v d k=>?_,h.one⟩
 ·obtain⟨u,b,f,g,j⟩:=h.slot n a;rw[Q8];exact⟨J6 u,Q7.2 ⟨u,b,by omega,rfl⟩,f,g,j⟩
 ·rw[Q8] at d;obtain⟨u,b,e,rfl⟩:=Q7.1 d;exact h.back i u b e
theorem Ra{ls:List (List Us)}(h:AN ls=true):AN (ls.map Br)=true:=by
 obtain⟨h1,h2,h3⟩:=Fp.1 h;refine Fp.2 ⟨λl hl=>?_,by rw[B4];exact h2,by rw[B4];exact h3⟩;obtain⟨x,a,rfl⟩:=E1.1 hl;exact Vu (h1 x a)
def H7(ls:List (List Us))(p:Int×Int):List (List Us):=ls.set (rC p.1).toNat (ls.getD (rC p.1).toNat []++[KZ p.1 p.2])
def Bt(vs:List Vl)(m:Nat):List (List Us):=(CR vs).foldl H7 (List.replicate m [])
theorem Rb(C:List (Int×Int)):∀ls,(C.foldl H7 ls).length=ls.length:=by
 induction C with
 |nil=>intro ls;rfl
 |cons p C a=>intro ls;rw[K0,a,H7,Di]
theorem Wa:∀(C:List (Int×Int)) (ls:List (List Us)) (i:Nat),(∀p∈C,BG p.1=true/\rC p.1<ls.length)->i<ls.length->
 (C.foldl H7 ls).getD i []=ls.getD i []++(C.filter λp=>decide (rC p.1=i)).map λp=>KZ p.1 p.2
 |[],ls,i,_,_=>by simp
 |p::C,ls,i,h,a=>by
  obtain⟨h1,h2⟩:=h p (by simp);have h3:=OA h1;rw[K0,Wa C _ i (λq b=>by rw[H7,Di];exact h q (by simp[b])) (by rw[H7,Di];exact a),H7,Mn (by omega),List.filter_cons];by_cases e:i=(rC p.1).toNat
  ·rw[A4 e,A4 (by simp;omega),F4,C1,e];rfl
  ·rw[A3 e,A3 (by simp;omega)]
theorem iC{a b:List Us}(ha:a.Pairwise λx y=>x.1<y.1)(hb:b.Pairwise λx y=>x.1<y.1)(h:∀u,u∈a↔u∈b):a=b:=by
 induction a generalizing b with
 |nil=>cases b with
  |nil=>rfl
  |cons y b=>have:=(h y).2 (by simp);simp at this
 |cons x a d=>cases b with
  |nil=>have:=(h x).1 (by simp);simp at this
  |cons y b=>
   rw[I4] at ha hb;have e:x=y:=by
    rcases Dn.1 ((h x).1 (by simp)) with h1|h1
    ·exact h1
    ·rcases Dn.1 ((h y).2 (by simp)) with h2|h2
     ·exact h2.symm
     ·have:=hb.1 x h1;have:=ha.1 y h2;omega
   subst e;rw[d ha.2 hb.2 λu=>?_];constructor
   ·intro c;rcases Dn.1 ((h u).1 (by simp[c])) with h1|h1
    ·subst h1;have:=ha.1 u c;omega
    ·exact h1
   ·intro c;rcases Dn.1 ((h u).2 (by simp[c])) with h1|h1
    ·subst h1;have:=hb.1 u c;omega
    ·exact h1
theorem Wc{vs:List Vl}(h1:LE (As vs)){ls:List (List Us)}(h:CX (λn=>(As vs).count n) ls)(hm:AN ls=true):ls.map Br=Bt vs ls.length:=by
 have A:∀p∈CR vs,BG p.1=true/\rC p.1<ls.length:=λp hp=>h.of p.1 ((Ji h1 p).1 hp).2;have q:(Bt vs ls.length).length=ls.length:=by unfold Bt;rw[Rb,C6]
 apply I2;intro i;rcases BZ i ls.length with c|c
 ·have e:∀(l:List (List Us)) (hl:i<l.length),l[i]?=some (l.getD i []):=λl hl=>by
   rw[B9,Bl hl];rfl
  rw[e _ (by rw[B4];exact c),e _ (by rw[q];exact c),Q8];congr 1;unfold Bt;rw[Wa _ _ i (λp hp=>by rw[C6];exact A p hp) (by rw[C6];exact c)];rw[show(List.replicate ls.length ([]:List Us)).getD i []=[] by rw[B9,N3,A4 c];rfl,B7];have k:=Q6 hm i;refine iC ?_ ?_ λu=>?_
  ·have h1:=EX.1 (Vu k);refine List.Pairwise.imp_of_mem (λ{a b} ha hb g=>?_) h1.2;have:=CE.1 (h1.1 a ha);unfold Fl at g;omega
  ·rw[VD];have h2:=(gO vs).filter λp=>decide (rC p.1=i);refine List.Pairwise.imp_of_mem (λ{a b} ha hb g=>?_) h2;obtain⟨ha,f⟩:=HK.1 ha;obtain⟨hb,j⟩:=HK.1 hb;rw[E0] at f j;have h3:=iA (Int.le_of_lt g) (by rw[f,j]);rcases Int.lt_or_eq_of_le h3 with h4|h4
   ·exact h4
   ·have:=h.one a.1 b.1 ((Ji h1 a).1 ha).2 ((Ji h1 b).1 hb).2 (by rw[f,j]) h4;omega
  ·rw[Q7,E1];constructor
   ·rintro⟨x,t,B,rfl⟩;obtain⟨n,v,w,D⟩:=h.back i x t B;obtain⟨y,hy,z,m,o⟩:=h.slot n v;rw[w,BY] at hy;refine⟨(n,((As vs).count n:Nat)),HK.2 ⟨(Ji h1 _).2 ⟨rfl,v⟩,by simpa using w⟩,?_⟩;have hp:=(EX.1 k).2;have C:x=y:=by
     obtain⟨a,ha,rfl⟩:=HQ t;obtain⟨b,hb,rfl⟩:=HQ hy;have r:=(EX.1 k).1;rcases Nat.lt_trichotomy a b with d|d|d
     ·have h1:=Jx.1 hp a b ha hb d;have h2:=CE.1 (r _ (BA ha));unfold Fl at h1;omega
     ·subst d;rfl
     ·have h1:=Jx.1 hp b a hb ha d;have h2:=CE.1 (r _ (BA hb));unfold Fl at h1;omega
    subst C;unfold KZ J6;rw[D,m,o]
   ·rintro⟨p,hp,rfl⟩;obtain⟨hp,s⟩:=HK.1 hp;rw[E0] at s;obtain⟨E,F⟩:=(Ji h1 p).1 hp;obtain⟨y,hy,z,m,o⟩:=h.slot p.1 F;rw[s,BY] at hy;refine⟨y,hy,by omega,?_⟩;unfold KZ J6;rw[z,m,o,E]
 ·rw[E9 (by rw[B4];exact c),E9 (by rw[q];exact c)]
structure AR(p:Pl):Prop where
 disk:Bd p.disk
 keep:p.disk.keep.length≤10000000
 vols:D5 p.vols
 many:(As p.vols).length≤1000000
 may:AN p.tabs=true
 few:p.tabs.length≤100
 slots:CX (fun n=>(As p.vols).count n) p.tabs
 mt1:1≤p.mt
 mt2:p.mt≤1000
 len:(p.disk.kept.length:Int)=2+2*p.mt+16*p.tabs.length
 gen1:1≤p.gen
 gen2:p.gen<1099511627776
 area0:0≤p.area
 area1:p.area≤1
theorem AR.fewT{p:Pl}(h:AR p):FN p.tabs:=⟨λl hl=>by have:=GL ((Fp.1 h.may).1 l hl);omega,h.few⟩
theorem AR.sm{p:Pl}(h:AR p):QY p:=⟨h.disk,h.keep,h.vols,by have:=h.few;omega,λl hl=>by have:=GL ((Fp.1 h.may).1 l hl);omega⟩
theorem AR.tabsP{p:Pl}(h:AR p):p.tabs.map Br=Bt p.vols p.tabs.length:=Wc h.vols.one h.slots h.may
abbrev OB(c:Int):UInt8:=UInt8.ofNat c.toNat
theorem Rc{n:Nat}(h:n<256):(OB (n:Int)).toNat=n:=by
 simp[OB];omega
theorem Rd(n:Nat):Bh n=(Dh 6 n).map OB:=rfl
theorem iD:∀(f n i a:Nat) (rest:List UInt8),n<128 ^(f+1)->(0<i->0<n)->a+n*128 ^ i<1099511627776->
 Ew (f+1) ((Dh (f+1) n).map OB++rest) i a=some (a+n*128 ^ i,i+(Dh (f+1) n).length):=by
 intro f;induction f with
 |zero=>
  intro n i a rest h1 h2 h3;have b:n<128:=by simpa using h1
  rw[Qw b,F4,R7,D3,B7,Ew,Rc (by omega),A3 (by omega),S4 b,A3 (by omega)];rfl
 |succ f d=>
  intro n i a rest h1 h2 h3;by_cases b:n<128
  ·rw[Qw b,F4,R7,D3,B7,Ew,Rc (by omega),A3 (by omega),S4 b,A3 (by omega)];rfl
  ·have hp:128 ^(i+1)=128 ^ i*128:=P9 ..;have hd:n=n/128*128+n%128:=by omega
   have e:a+n%128*128 ^ i+n/128*128 ^(i+1)=a+n*128 ^ i:=by
    rw[hp]
    conv=>rhs;rw[hd,Nat.add_mul]
    rw[Nat.mul_assoc (n/128),S6 128];omega
   have c:n/128<128 ^(f+1):=by
    rw[P9] at h1;exact Nat.div_lt_of_lt_mul (by rw[S6];exact h1)
   rw[UU b,F4,D3,Ew,Rc (by omega),A4 (by omega),show(n%128+128)%128=n%128 by omega,
    d (n/128) (i+1) _ rest c (λ_=>by omega) (by rw[e];exact h3),e,BV]
   congr 2;omega
theorem Re(n:Nat):0<(Bh n).length:=by
 rw[Rd,B4];unfold Dh;split<;>simp
theorem OC{s:ByteArray}{pre rest:List UInt8}{n:Nat}(h:s.data.toList=pre++(Bh n++rest))(a:n<1099511627776):CN s pre.length=some (n,pre.length+(Bh n).length):=by
 have b:s.size=pre.length+((Bh n).length+rest.length):=by
  rw[<-A9,<-A9,<-h,Hy];rfl
 have hp:=Re n;unfold CN;rw[A4 (by omega),BY,h,List.drop_left',Rd,iD 5 n 0 0 rest (by omega) (by omega) (by simpa using a)]
 ·simp
 ·rfl
theorem Wd{s:ByteArray}:∀(l:List Int) (pre rest:List UInt8) (a:List Int),s.data.toList=pre++(DO l++rest)->(∀x∈l,0<=x/\x<1099511627776)->
 FK s l.length pre.length a=some (a++l,pre.length+(DO l).length)
 |[],pre,rest,a,_,_=>by simp[FK,DO]
 |x::l,pre,rest,a,h,hl=>by
  have c:=hl x (by simp);have b:DO (x::l)=Bh x.toNat++DO l:=by unfold DO;rw[G8]
  rw[b,C1] at h;rw[BV,FK,OC h (by omega)];simp only;have h2:=Wd l (pre++Bh x.toNat) rest (a++[((x.toNat:Nat):Int)]) (by rw[h,C1]) (λy hy=>hl y (by simp[hy]));rw[A9] at h2;rw[h2,b,A9,show((x.toNat:Nat):Int)=x by omega,C1];simp[Hl]
theorem iE(l:List Int):l.length<=(DO l).length:=by
 unfold DO;induction l with
 |nil=>simp
 |cons x l a=>rw[G8,A9,BV];have:=Re x.toNat;omega
theorem We{s:ByteArray}{pre rest:List UInt8}{l:List Int}(h:s.data.toList=pre++(Cl l++rest))(hl:∀x∈l,0<=x/\x<1099511627776)(b:l.length<1099511627776):
 Ey s pre.length=some (l,pre.length+(Cl l).length):=by
 have a:s.size=pre.length+((Cl l).length+rest.length):=by
  rw[<-A9,<-A9,<-h,Hy];rfl
 unfold Cl at h a⊢;rw[C1] at h;unfold Ey;rw[OC h b];simp only;have h2:=iE l;rw[A9] at a;rw[A3 (by omega)];have h3:=Wd l (pre++Bh l.length) rest [] (by rw[h,C1]) hl;rw[A9] at h3;rw[h3,B7,A9,Hl]
theorem Wf(T:List UInt8):∀k,k<=Bw T->((EW T k).map (·.data.toList)).flatten=T.take (32*k)++List.replicate (32*k-T.length) 0
 |0,_=>by simp[EW]
 |k+1,h=>by
  have hk:32*k<T.length:=by unfold Bw at h;omega
  rw[U7,D1,List.flatten_append,Wf T k (by omega),show 32*k-T.length=0 by omega];simp only[W5,E5,F4,R7,List.flatten_cons,List.flatten_nil,Dx];rw[show 32*(k+1)=32*k+32 by omega,List.take_add,C1];congr 2;rw[B5,G1];congr 1;omega
theorem Rf(s:ByteArray):AB s=Bh s.size++(s.data.toList++(strOfNums (G9 (Ex s))).data.toList):=by
 unfold AB FJ Ex;rw[V9,V9,S9,S9,C1];rfl
theorem OD(s:ByteArray):(AB s).length=(Bh s.size).length+s.size+4:=by
 rw[Rf,A9,A9,strOfNums_data,B4];have:s.data.toList.length=s.size:=by rw[Hy];rfl
 rw[this];simp[G9];omega
theorem Rg(T:List UInt8):(CD T).all (λx=>x.size==32)=true:=by
 rw[HH];intro x a;unfold CD EW at a;obtain⟨j,_,rfl⟩:=E1.1 a;rw[U6];rfl
theorem Wg(s:ByteArray)(more:List ByteArray)(hs:s.size<1000000):DE (CD (AB s)++more)=some s:=by
 have f:=OD s;have l:(Bh s.size).length<=7:=Jg s.size;have k:1<=Bw (AB s):=by unfold Bw;omega
 obtain⟨j,hr⟩:=QF s;have c:CD (AB s)++more=Dx (AB s)::(j++more):=by rw[hr,D3]
 have a:(CD (AB s)).length=Bw (AB s):=Ob _;rw[c];unfold DE;simp only;rw[A3 (by rw[U6];simp)];have i:CN (Dx (AB s)) 0=some (s.size,(Bh s.size).length):=by
  have h:=OC (s:=Dx (AB s)) (pre:=[]) (n:=s.size)
   (rest:=(s.data.toList++(strOfNums (G9 (Ex s))).data.toList).take (32-(Bh s.size).length)++List.replicate (32-((AB s).take 32).length) 0)
   (by
    rw[B7];show(AB s).take 32++_=_;rw[<-C1];congr 1;rw[Rf,List.take_append];rw[E2 (by omega)]) (by omega)
  simpa using h
 rw[i];simp only;rw[<-c];have b:DP s.size (Bh s.size).length=Bw (AB s):=by unfold DP Bw;rw[f]
 have d:(CD (AB s)++more).take (Bw (AB s))=CD (AB s):=by rw[<-a,P6];rfl
 unfold Mf;rw[b,d,A3 (by rw[A9,a];omega),A4 (Rg _)];unfold JV;rw[b,d];have g:(Fj (CD (AB s))).extract (Bh s.size).length ((Bh s.size).length+s.size)=s:=by
  refine TV ?_;rw[Wb,V6];have e:(Fj (CD (AB s))).data.toList=(AB s).take (32*Bw (AB s))++List.replicate (32*Bw (AB s) -(AB s).length) 0:=Wf _ _ (A1 _);rw[e,E2 (by unfold Bw;omega),WA,Rf,C1,List.drop_left' rfl,VR,C1];exact P6 (by rw[Hy];rfl)
 rw[g,A4 rfl]
theorem iF:∀(f n k:Nat),n<128 ^(k+1)->(Dh f n).length<=k+1:=by
 intro f;induction f with
 |zero=>intro n k _;simp[Dh]
 |succ f a=>
  intro n k h;rw[Dh];split
  ·simp
  ·rename_i b;cases k with
   |zero=>simp at h;omega
   |succ k=>
    have:=a (n/128) k (Nat.div_lt_of_lt_mul (by rw[S6,<-P9];exact h));simp;omega
theorem Mo{n k:Nat}(h:n<128 ^(k+1)):(Bh n).length<=k+1:=by
 rw[Rd,B4];exact iF 6 n k h
theorem Wh{g a n:Int}(h:JX g a n=true):Dl (CO g a n)=some (g,a,n):=by
 have hk:=M1 h;have c:CO g a n=JY g a n:=by unfold CO;rw[h];rfl
 have e:JY g a n=Dx (AB ⟨(Cl [g,a,n]).toArray⟩):=rfl;obtain⟨t,b⟩:∃t:ByteArray,t=⟨(Cl [g,a,n]).toArray⟩:=⟨_,rfl⟩;have f:t.data.toList=Cl [g,a,n]:=by rw[b]
 have p:t.size=(Cl [g,a,n]).length:=by rw[<-f,Hy];rfl
 have o:(Cl [g,a,n]).length<=1+6+1+3:=by
  unfold Cl DO;simp only[G8,T6,E5,A9,BV,C4];have h1:=Mo (n:=0+1+1+1) (k:=0) (by decide);have h2:=Mo (n:=g.toNat) (k:=5) (by have:(128:Nat) ^(5+1)=4398046511104:=rfl;omega);have h3:=Mo (n:=a.toNat) (k:=0) (by have:(128:Nat) ^(0+1)=128:=rfl;omega);have h4:=Mo (n:=n.toNat) (k:=2) (by have:(128:Nat) ^(2+1)=2097152:=rfl;omega);omega
 have m:Bw (AB t)=1:=by
  have h1:=OD t;have h2:=Mo (n:=t.size) (k:=0) (by have:(128:Nat) ^(0+1)=128:=rfl;omega);have h3:=Re t.size;unfold Bw;omega
 have hp:CD (AB t)=[Dx (AB t)]:=by
  unfold CD;rw[m];simp[EW]
 rw[c,e,<-b];unfold Dl;have d:=Wg t [] (by omega);rw[E5,hp] at d;rw[d];simp only;have i:=We (s:=t) (pre:=[]) (rest:=[]) (l:=[g,a,n]) (by rw[f];simp) (λx j=>by
  simp only[Dn,L2,or_false] at j;rcases j with rfl|rfl|rfl<;>omega) (by simp)
 simp only[C4,B2,Int.natCast_zero] at i;rw[show(0:Int)=((0:Nat):Int) from rfl] at*;rw[show Ey t ((0:Nat):Int)=_ from i];unfold Oc;simp only;rw[A4 (by rw[c,e,<-b])]
def Cm(v:Vl):List Int:=v.1::v.2.1::(v.2.2).flatMap λp=>[p.1,p.2]
def Cv(vs:List Vl):List UInt8:=vs.flatMap λv=>Cl (Cm v)
def Kf(vs:List Vl):List UInt8:=Bh vs.length++Cv vs
def Ap(vs:List Vl):ByteArray:=⟨(Kf vs).toArray⟩
theorem Rh(vs:List Vl):(Ap vs).data.toList=Kf vs:=rfl
theorem iG(l:List (Int×Int)):(l.flatMap λp=>[p.1,p.2]).length=2*l.length:=by
 induction l with
 |nil=>rfl
 |cons x l a=>rw[G8,A9,a,BV];simp;omega
theorem Mp(v:Vl):(Cm v).length=2+2*(v.2.2).length:=by
 unfold Cm;rw[BV,BV,iG];omega
theorem OE{n:Int}(h:BG n=true):0<=n/\n<9000000:=by
 have h0:0<=n:=by
  by_cases h0:0<=n
  ·exact h0
  ·rw[MZ (by omega)] at h;cases h
 rw[KF h0] at h;have:=IV h;omega
theorem Wi{v:Vl}(h:Gv v.1 v.2.1 v.2.2):∀x∈Cm v,0<=x/\x<1099511627776:=by
 intro x a;have h1:=h.id1;have h2:=h.id2;have h3:=h.sz0;have h4:=h.sz1;unfold Cm at a;rcases Dn.1 a with rfl|a
 ·omega
 rcases Dn.1 a with rfl|a
 ·omega
 obtain⟨p,hp,a⟩:=L1.1 a;obtain⟨c,d,b⟩:=h.ok p hp;have:=OE b;simp only[Dn,L2,or_false] at a;rcases a with rfl|rfl<;>omega
theorem OF(v:Vl)(vs:List Vl):Cv (v::vs)=Cl (Cm v)++Cv vs:=G8
theorem Wj(a b:List Vl):Cv (a++b)=Cv a++Cv b:=by unfold Cv;rw[HB]
theorem Wk(a:List Vl)(v:Vl):Cv (a++[v])=Cv a++Cl (Cm v):=by rw[Wj,OF];simp[Cv]
theorem iH(vs:List Vl)(h:vs.length<=64):CN (Ap vs) 0=some (vs.length,(Bh vs.length).length):=by
 have h:=OC (s:=Ap vs) (pre:=[]) (rest:=Cv vs) (n:=vs.length) rfl (by omega);simpa using h
theorem iI{vs:List Vl}(b:∀v∈vs,Gv v.1 v.2.1 v.2.2){k:Nat}(hk:k<vs.length):
 Ey (Ap vs) ((Bh vs.length++Cv (vs.take k)).length:Nat)=some (Cm vs[k],(Bh vs.length++Cv (vs.take (k+1))).length):=by
 have a:=b vs[k] (BA hk);have h:=We (s:=Ap vs) (pre:=Bh vs.length++Cv (vs.take k)) (rest:=Cv (vs.drop (k+1))) (l:=Cm vs[k]) (by
  rw[Rh,Kf,C1,<-OF,<-Wj,<-T3 hk,IR]) (Wi a) (by rw[Mp];have:=a.len;omega)
 rw[h,B1 hk,Wk,A9,A9,A9,Hl]
theorem iJ(vs:List Vl):(Bh vs.length++Cv (vs.take vs.length)).length=(Ap vs).size:=by
 rw[E2 (A1 _)];show(Kf vs).length=(Ap vs).data.size;rw[<-Rh,Hy]
theorem Ri(l:List Int):(Cl l).length<=7+7*l.length:=by
 unfold Cl;rw[A9];have:=Jg l.length;have:=Qx l;omega
def Wl(b:Int)(ls:List (List Us))(n:Int):List (List Us):=ER ls (rC n) (rA n) (rS n) (rP n) b
abbrev Wn(ls:List (List Us))(n:Int):List (List Us):=Wl (-1) ls n
abbrev Wo(ls:List (List Us))(n:Int):List (List Us):=Wl 1 ls n
def Ce(ls:List (List Us))(vals:List Int):List (List Us):=vals.foldl Wn ls
def Bf(ls:List (List Us))(vals:List Int):List (List Us):=vals.foldl Wo ls
theorem iK(ls:List (List Us))(vals:List Int)(n:Int):Ce ls (vals++[n])=Wn (Ce ls vals) n:=by unfold Ce;rw[NV];rfl
theorem Wp(ls:List (List Us))(vals:List Int)(n:Int):Bf ls (vals++[n])=Wo (Bf ls vals) n:=by unfold Bf;rw[NV];rfl
abbrev Kg(ls:List (List Us))(n b:Int):Bool:=Dc ls (rC n) (rA n) (rS n) (rP n) b
theorem Rj(vals:List Int)(k:Nat)(m:Int):(vals.take k).count m<=vals.count m:=(List.take_sublist k vals).count_le m
theorem iL{a:Int->Nat}{ls:List (List Us)}(h:CX a ls)(hm:AN ls=true)(c:∀n,a n<=1000000){vals:List Int}(b:∀n,vals.count n<=a n):∀k,k<=vals.length->
 CX (λn=>a n-(vals.take k).count n) (Ce ls (vals.take k))/\AN (Ce ls (vals.take k))=true/\(Ce ls (vals.take k)).length=ls.length/\∀hk:k<vals.length,Kg (Ce ls (vals.take k)) vals[k] (-1)=true:=by
 have step:∀k (hk:k<vals.length),CX (λn=>a n-(vals.take k).count n) (Ce ls (vals.take k))->AN (Ce ls (vals.take k))=true->
  Kg (Ce ls (vals.take k)) vals[k] (-1)=true/\CX (λn=>a n-(vals.take (k+1)).count n) (Ce ls (vals.take (k+1)))/\AN (Ce ls (vals.take (k+1)))=true/\(Ce ls (vals.take (k+1))).length=(Ce ls (vals.take k)).length:=λk hk h1 h2=>by
  have hc:=λm=>QZ (vals.take k) vals[k] m;rw[<-B1 hk] at hc;have d:0<a vals[k] -(vals.take k).count vals[k]:=by
   have h3:=b vals[k];have h4:=hc vals[k];have h5:=Rj vals (k+1) vals[k];rw[A4 rfl] at h4;omega
  have hs:=V4 (cnt':=λm=>a m-(vals.take (k+1)).count m) h1 h2 d (Or.inr rfl) (by have:=c vals[k];omega) (λm=>by
   have h3:=b m;have h4:=hc m;have h5:=Rj vals (k+1) m;split<;>rename_i e<;>simp only[e,if_true,if_false] at h4 h3 h5⊢<;>omega)
  rw[B1 hk] at hs⊢;rw[iK];exact hs
 have g:∀k,k<=vals.length->CX (λn=>a n-(vals.take k).count n) (Ce ls (vals.take k))/\AN (Ce ls (vals.take k))=true/\(Ce ls (vals.take k)).length=ls.length:=by
  intro k;induction k with
  |zero=>intro _;exact⟨by simpa[Ce] using h,by simpa[Ce] using hm,rfl⟩
  |succ k f=>
   intro hk;obtain⟨h1,h2,h3⟩:=f (by omega);obtain⟨_,h4,h5,h6⟩:=step k (by omega) h1 h2;exact⟨h4,h5,h6.trans h3⟩
 intro k hk;obtain⟨h1,h2,h3⟩:=g k hk;exact⟨h1,h2,h3,λhk=>(step k hk h1 h2).1⟩
theorem iM{a:Int->Nat}{ls:List (List Us)}(h:CX a ls)(hm:AN ls=true){vals:List Int}(hp:∀n∈vals,0<a n)(c:∀n,a n+vals.count n<=1000000):∀k,k<=vals.length->
 CX (λn=>a n+(vals.take k).count n) (Bf ls (vals.take k))/\AN (Bf ls (vals.take k))=true/\(Bf ls (vals.take k)).length=ls.length/\∀hk:k<vals.length,Kg (Bf ls (vals.take k)) vals[k] 1=true:=by
 have step:∀k (hk:k<vals.length),CX (λn=>a n+(vals.take k).count n) (Bf ls (vals.take k))->AN (Bf ls (vals.take k))=true->
  Kg (Bf ls (vals.take k)) vals[k] 1=true/\CX (λn=>a n+(vals.take (k+1)).count n) (Bf ls (vals.take (k+1)))/\AN (Bf ls (vals.take (k+1)))=true/\(Bf ls (vals.take (k+1))).length=(Bf ls (vals.take k)).length:=λk hk h1 h2=>by
  have hc:=λm=>QZ (vals.take k) vals[k] m;rw[<-B1 hk] at hc;have b:0<a vals[k]+(vals.take k).count vals[k]:=by have:=hp vals[k] (BA hk);omega
  have hs:=V4 (cnt':=λm=>a m+(vals.take (k+1)).count m) h1 h2 b (Or.inl rfl) (by
   have h3:=c vals[k];have h4:=hc vals[k];have h5:=Rj vals (k+1) vals[k];rw[A4 rfl] at h4;omega) (λm=>by
   have h4:=hc m;split<;>rename_i e<;>simp only[e,if_true,if_false] at h4⊢<;>omega)
  rw[B1 hk] at hs⊢;rw[Wp];exact hs
 have f:∀k,k<=vals.length->CX (λn=>a n+(vals.take k).count n) (Bf ls (vals.take k))/\AN (Bf ls (vals.take k))=true/\(Bf ls (vals.take k)).length=ls.length:=by
  intro k;induction k with
  |zero=>intro _;exact⟨by simpa[Bf] using h,by simpa[Bf] using hm,rfl⟩
  |succ k d=>
   intro hk;obtain⟨h1,h2,h3⟩:=d (by omega);obtain⟨_,h4,h5,h6⟩:=step k (by omega) h1 h2;exact⟨h4,h5,h6.trans h3⟩
 intro k hk;obtain⟨h1,h2,h3⟩:=f k hk;exact⟨h1,h2,h3,λhk=>(step k hk h1 h2).1⟩
theorem Wq{a cnt':Int->Nat}{ls:List (List Us)}(h:CX a ls)(hc:∀n,a n=cnt' n):CX cnt' ls:=by
 have:a=cnt':=funext hc;rw[<-this];exact h
def CF(l:List Vl)(id:Int):Option Vl:=l.find? λv=>v.1==id
def Gg(l:List Vl)(v:Vl):List Vl:=l.filter (λx=>decide (x.1<v.1))++[v]
theorem Wr{l:List Vl}{id:Int}(h:∀x∈l,x.1≠id):CF l id=none:=by
 unfold CF;rw[HS];intro x a;simpa using h x a
theorem K5{l:List Vl}{id:Int}{x:Vl}(h:CF l id=some x):x∈l/\x.1=id:=by
 unfold CF at h;exact⟨W0 h,by simpa using List.find?_some h⟩
theorem Iz(v:Vl):As [v]=Ax v.2.2:=by simp[As]
theorem iO(a n:Int)(m:List Int):(a::m).count n=m.count n+if a=n then 1 else 0:=by
 rw[List.count_cons];by_cases e:a=n
 ·subst e;simp
 ·have:(a==n)=false:=by simpa using e
  rw[this,A3 e];rfl
end Go.Proofs.YtmajkjjjfodhlaaGreatDoor
