import Derived.Test.YtjeehgkolepogaaGreatK17
set_option linter.all false
namespace Go.Proofs.YtjeehgkolepogaaGreat.Ax
open Go Go.Proofs
set_option maxRecDepth 100000
attribute [go_sem] wda kVa wba wca v9a v5a v4a v8a wpa wqa
def kB{a b:Int}:(if b<a then b else a)=min a b:=by split<;>omega
def vn{a b:Int}:(if b>a then b else a)=max a b:=by split<;>omega
def je(n hi:Int):Int:=min (max n 0) hi
def c69(n hi:Int):js Tryz.prog 112 [i64 n,i64 hi] (i64 (je n hi)):=λh=>by
 refine enterSX Tryz.f112 λB=>?_;exact zm (by simp only[go_sem,je,kB,vn]<;>try rfl)
def ofI(n a:Int):Int:=wr ((je n 32054399).tdiv a)
def c51(n a:Int)(b:¬ a=0):js Tryz.prog 64 [i64 n,i64 a] (i64 (ofI n a)):=λh=>by
 refine enterSX Tryz.f64 λB=>?_;refine qx (c69 _ _ _) ?_;simp only[go_sem,b];exact zm (by simp only[go_sem,ofI]<;>try rfl)
def kT(n:Int):Int:=ofI n 604800
def c17(n:Int):js Tryz.prog 27 [i64 n] (i64 (kT n)):=λh=>by
 refine enterSX Tryz.f27 λB=>?_;refine qI (c51 _ _ ze _) ?_;exact zm (by simp only[go_sem,kT]<;>try rfl)
def kC(a b:Int):Int × Int:=if a.tmod b<0 then(wr (wr (a.tdiv b) - 1),wr (a.tmod b+b)) else(wr (a.tdiv b),a.tmod b)
abbrev wAa(p:Int × Int):AV:= .tup [i64 p.1,i64 p.2]
def c97(a b:Int)(d:¬ b=0):js Tryz.prog 167 [i64 a,i64 b] (wAa (kC a b)):=λh=>by
 refine enterSX Tryz.f167 λB=>?_;refine zZ [] 0 (oF [0,1,2,3,4,5,6,7] ([])) ?_;simp only[go_sem,d];refine ways (λe=>?_) (λe=>?_)
 ·have c:a.tmod b<0:=by simpa using e
  refine zz ?_;exact zm (by simp only[go_sem,kC,c]<;>try rfl)
 ·have c:¬ a.tmod b<0:=by simpa using e
  refine zz ?_;exact zm (by simp only[go_sem,kC,c]<;>try rfl)
def QU(n d:Int):Int × Int:=if d<=0 then(0,20) else if(kC n d).2≥wr (d - (kC n d).2) then(wr ((kC n d).1+1),0) else((kC n d).1,0)
def c70(n d:Int):js Tryz.prog 148 [i64 n,i64 d] (wAa (QU n d)):=λh=>by
 refine enterSX Tryz.f148 λB=>?_;refine ways (λe=>?_) (λe=>?_)
 ·have b:d<=0:=by simpa using e
  refine zz ?_;exact zm (by simp only[go_sem,QU,b]<;>try rfl)
 ·have b:¬ d<=0:=by simpa using e
  refine zz ?_;refine qI (c97 n d zb _) ?_;refine ways (λa=>?_) (λa=>?_)
  ·have a:(kC n d).2≥wr (d - (kC n d).2):=(by simpa using a);refine zz ?_;exact zm (by simp only[go_sem,QU,b,a]<;>try rfl)
  ·have a:¬ (kC n d).2≥wr (d - (kC n d).2):=(by simpa using a);refine zz ?_;exact zm (by simp only[go_sem,QU,b,a]<;>try rfl)
def qi(t u:Int):Int:=if u<1 then je t 32054400 else min (wr ((QU (je t 32054400) u).1*min u 64108801)) 32054400
def c36(t u:Int):js Tryz.prog 125 [i64 t,i64 u] (i64 (qi t u)):=λh=>by
 refine enterSX Tryz.f125 λB=>?_;refine qI (c69 _ _ _) ?_;refine ways (λe=>?_) (λe=>?_)
 ·have a:u<1:=by simpa using e
  refine zz ?_;exact zm (by simp only[go_sem,qi,a]<;>try rfl)
 ·have a:¬ u<1:=by simpa using e
  refine zz ?_;refine qI (c70 _ _ _) ?_;exact zm (by simp only[go_sem,qi,a,kB]<;>try rfl)
def wBa(e:Ev):js Tryz.prog 127 [evV e] (i64 (wt e.kind)):=λh=>by
 refine enterSX Tryz.f127 λB=>?_;refine ways (λa=>?_) (λa=>?_)
 ·refine zz ?_;have a:e.kind=3:=by simpa using a
  exact zm (by simp only[go_sem,wt,a]<;>try rfl)
 ·refine zz ?_;have a:¬ e.kind=3:=by simpa using a
  refine ways (λb=>?_) (λb=>?_)
  ·refine zz ?_;have b:e.kind=4:=(by simpa using b);exact zm (by simp only[go_sem,wt,a,b]<;>try rfl)
  ·refine zz ?_;have b:¬ e.kind=4:=(by simpa using b);refine ways (λc=>?_) (λc=>?_)
   ·refine zz ?_;have c:e.kind=5:=(by simpa using c);exact zm (by simp only[go_sem,wt,a,b,c]<;>try rfl)
   ·refine zz ?_;have c:¬ e.kind=5:=(by simpa using c);exact zm (by simp only[go_sem,wt,a,b,c]<;>try rfl)
def c90(h:List Ob)(i j:Nat)(s:Setup)(a:SA)(x y o:AV)(e:Ev)(hi:h[i]? =some (.box 91 (va s a (.ptr j 0) x y)))(b:h[j]? =some (.box 117 (VU e o))):
    ACalls Tryz.prog 98 [.ptr i 0] h λr h'=>r=i64 (wr (e.at_+s.cap))/\h'=h:=by
 refine enterSX Tryz.f98 λB=>?_;refine zZ [] 0 (oF [0,1,2,8,9,10,11,3,4,5,6,7,12,13,14] ([])) ?_;simp only[go_sem,hi,b];exact qt
def c85(F:List (Nat × List AV))(h0 h:List Ob)(i:Nat)(s:Setup)(a:SA)(t:TellS)(e:Ev)(k:Int)(A:TellIn F h0 h i s a t)(D:t.flags.length<1099511627776):
    ACalls Tryz.prog 91 [.ptr i 0,evV e,i64 k] h λr h'=>r= .tup []/\TellIn F h0 h' i s a (xb t e k):=by
 obtain⟨k1,k2,g,p,x,y,k3,k4,k5,k6⟩:=A;have v:∀M,(h++M)[i]? =some (.box 91 (va s a p x y)):=λM=>zk k3;have w:∀M o,(h++M).set i o=h.set i o++M:=λM o=>qL k3;have hex:=TellIn.ex (t:=t) ⟨k1,k2,g,p,x,y,k3,k4,k5,k6⟩ (xb t e k);have z:=k1.len;rcases k5 with⟨rfl,C⟩|⟨id,st,u,rfl,d⟩
 ·refine enterSX Tryz.f91 (λB=>?_) (hex);refine zZ [.res] 1 (oF [0,1,2,3,5,7,4,6,8,9,10,11,12,13] ([])) ?_;simp only[go_sem,v,w];refine⟨.tup [],zo,.inl ⟨rfl,(k1.set k2 rfl).app (zA rfl (zA rfl (zW rfl))),k2,(g.set_box k3 ze _).app _,_,_,_,zk (zt k3),(k4.set_box k3 _).app _,.inr ⟨h.length+2,0,zb,rfl,?_⟩,(k6.set_box k3 ze _).app _⟩⟩;rw[qa zh,xb,zD,C];rfl
 ·have hid:∀M,(h++M)[id]? =some (.row 84 2 (t.flags.map kZ) st):=λM=>zk d;have m:∀M o,(h++M).set id o=h.set id o++M:=λM o=>qL d;have c:id≠i:=λq=>by rw[q,k3] at d;cases d
  have n:∀M o,(h.set id o++M)[i]? =some (.box 91 (va s a p x (.tl id st))):=λM o=>zk (by rw[zf c];exact k3);have l:∀M o j,(h.set id o++M).set i j=(h.set id o).set i j++M:=λM o j=>qL (by rw[zf c];exact k3);have f:((t.flags.map kZ).length+1)*17<=140737488355328:=by rw[zc];omega
  refine enterSX Tryz.f91 (λB=>?_) (hex);refine zZ [.res] 1 (oF [0,1,2,3,5,7,4,6,8,9,10,11,12,13] ([])) ?_;simp only[go_sem,v,w,hid,m,n,l,f];have b:∀o,(h.set id o)[i]? =some (.box 91 (va s a p x (.tl id st))):=λo=>by rw[zf c];exact k3
  refine⟨.tup [],zo,.inl ⟨rfl,((k1.set u rfl).set k2 rfl).app (zA rfl (zW rfl)),k2,((g.set_row d _).set_box (b _) ze _).app _,_,_,_,zk (zt (b _)),((k4.set_row d ze _).set_box (b _) _).app _,.inr ⟨id,st+1,u,rfl,zk ?_⟩,((k6.set_row d ze _).set_box (b _) ze _).app _⟩⟩;rw[zf (Ne.symm c),zt d,xb,zD];rfl
def c105(F:List (Nat × List AV))(h0 h:List Ob)(i G nl l nt m:Nat)(s:Setup)(a:SA)(L:AV)(n:List (List AV))(t:TellS)(first last b to_:Int)(c next:Ev)(E:PartIn F h0 h i G nl l nt m s a L n first last b c t)(hl:t.segs.length<1099511627776):
    ACalls Tryz.prog 126 [i64 to_,evV next,.ptr G 0,.ptr nl 0,.ptr l 0,.ptr nt 0,.ptr m 0] h λr h'=>r= .tup []/\PartIn F h0 h' i G nl l nt m s a L n first last (toP first last to_) next (kg t b (toP first last to_) c):=by
 have hex:=E.any (toP first last to_) next (kg t b (toP first last to_) c)
 refine enterQX Tryz.f126 (λB=>?_) (hex);rw[jS,jS];refine yr (λT h'=>∃J,PartIn F h0 h' i G nl l nt m s a L n first last b c (kg t b (toP first last to_) c)/\T 0=i64 (toP first last to_)/\T 4= .ptr l 0/\T 6= .ptr m 0/\T 8= .ptr J 0/\h'[J]? =some (.box 55 (evC next))) ?_ ?_
 ·have K:=E;obtain⟨n1,n2,n3,n4,n5,b1,b2,b3,b4,b5,⟨k1,k2,kf,p,x,y,k3,k4,k5,k6⟩,b6⟩:=K;have δ:=k1.len;have z:∀M,(h++M)[G]? =some (.box 3 [i64 first]):=λM=>zk b1;have g:∀M,(h++M)[nl]? =some (.box 3 [i64 last]):=λM=>zk b2;have v:∀M,(h++M)[l]? =some (.box 3 [i64 b]):=λM=>zk b3;have D:∀M,(h++M)[nt]? =some (.box 88 [.ptr i 0]):=λM=>zk b4;have A:∀M,(h++M)[m]? =some (.box 55 (evC c)):=λM=>zk b5;simp only[go_sem,z,g,v,D,A,kB,vn];refine ways (λe=>?_) (λe=>?_)
  ·have U:b<toP first last to_:=of_decide_eq_true e
   rw[kg,if_pos U];have I:∀M,(h++M)[i]? =some (.box 91 (va s a p x y)):=λM=>zk k3;have H:∀M o,(h++M).set i o=h.set i o++M:=λM o=>qL k3;rcases k4 with⟨rfl,hn⟩|⟨id,st,q1,rfl,f⟩
   ·refine zz ?_;refine zZ [.res] 1 (oF [6,9,11,0,1,2,3,4,5,7,10,12] ((8,0,[0,1,4,5,10,12])::oF [13,14] ((15,0,[0])::oF [16,17,18] ([])))) ?_;simp only[go_sem,z,g,v,D,A,I,H];refine zl (wBa c _) ?_;rintro _ h1 ⟨rfl,g⟩;subst g;simp only[go_sem,z,g,v,D,A,I,H];refine⟨h.length,E.tell ⟨(k1.set k2 rfl).app (zA rfl (zA rfl (zW rfl))),k2,(kf.set_box k3 ze _).app _,_,_,_,zk (zt k3),.inr ⟨h.length+2,0,zb,rfl,?_⟩,(k5.set_box k3 _).app _,(k6.set_box k3 ze _).app _⟩,rfl,rfl,?_⟩
    ·rw[qa zh,zD,hn];rfl
    ·rw[qr zh];rfl
   ·have hid:∀M,(h++M)[id]? =some (.row 62 5 (t.segs.map qU) st):=λM=>zk f;have α:∀M o,(h++M).set id o=h.set id o++M:=λM o=>qL f;have C:id≠i:=λq=>(by rw[q,k3] at f;cases f);have d:∀o,(h.set id o)[i]? =some (.box 91 (va s a p (.tl id st) y)):=λo=>(by rw[zf C];exact k3);have R:∀M o,(h.set id o++M)[i]? =some (.box 91 (va s a p (.tl id st) y)):=λM o=>zk (d o);have Z:∀M o W,(h.set id o++M).set i W=(h.set id o).set i W++M:=λM o W=>qL (d o);have N:((t.segs.map qU).length+1)*41<=140737488355328:=by rw[zc];omega
    have w:∀ {j u:Nat} {cs:List AV},h[j]? =some (.box u cs)->∀o M,(h.set id o++M)[j]? =some (.box u cs):=λhj o M=>zk (by
     rw[zf (λq=>by rw[q,hj] at f;cases f)];exact hj)
    have O:=w b1;have Y:=w b2;have Q:=w b3;have P:=w b4;have S:=w b5;refine zz ?_;refine zZ [.res] 1 (oF [6,9,11,0,1,2,3,4,5,7,10,12] ((8,0,[0,1,4,5,10,12])::oF [13,14] ((15,0,[0])::oF [16,17,18] ([])))) ?_;simp only[go_sem,z,g,v,D,A,I,H];refine zl (wBa c _) ?_;rintro _ h1 ⟨rfl,g⟩;subst g;simp only[go_sem,z,g,v,D,A,I,H,hid,α,R,Z,N,O,Y,Q,P,S];refine⟨h.length,E.tell2 f ze ⟨((k1.set q1 rfl).set k2 rfl).app (zA rfl (zW rfl)),k2,((kf.set_row f _).set_box (d _) ze _).app _,_,_,_,zk (zt (d _)),.inr ⟨id,st+1,q1,rfl,zk ?_⟩,((k5.set_row f ze _).set_box (d _) _).app _,((k6.set_row f ze _).set_box (d _) ze _).app _⟩,rfl,rfl,?_⟩
    ·rw[zf (Ne.symm C),zt f,zD];rfl
    ·rw[qr zh];rfl
  ·have V:¬ b<toP first last to_:=of_decide_eq_false e
   rw[kg,if_neg V];refine zz ?_;exact⟨h.length,E.app (zW rfl),rfl,rfl,zh⟩
 ·rintro T h' ⟨J,k,t0,t4,t6,t8,X⟩;have g3:=k.b3;have g5:∀o,(h'.set l o)[m]? =some (.box 55 (evC c)):=λo=>by rw[zf (xE k.b3 k.b5 ze)];exact k.b5
  have g8:∀o,(h'.set l o)[J]? =some (.box 55 (evC next)):=λo=>by rw[zf (xE k.b3 X ze)];exact X
  refine zz ?_;refine zZ [] 0 (oF [0,1] ((2,0,[1])::(3,0,[])::[])) ?_;simp only[go_sem,t0,t4,t6,t8,X,g3,g5,g8];exact⟨.tup [],zo,.inl ⟨rfl,k.next _ _⟩⟩
def c86(F:List (Nat × List AV))(h0 h:List Ob)(i:Nat)(s:Setup)(a:SA)(t:TellS)(e:Ev)(os:List Ev)(at_:Int)(O:TellIn F h0 h i s a t)(ho:t.open_=some (e,os))(hl:t.segs.length+os.length+1<1099511627776):
    ACalls Tryz.prog 92 [.ptr i 0,i64 at_] h λr h'=>r= .tup []/\TellIn F h0 h' i s a ⟨none,(kI (qi e.at_ s.unit) (qi at_ s.unit) t e os).segs,t.flags⟩:=by
 have hex:=TellIn.ex O ⟨none,(kI (qi e.at_ s.unit) (qi at_ s.unit) t e os).segs,t.flags⟩;have J:=O;obtain⟨k1,k2,kf,p,x,y,k3,k4,k5,k6⟩:=J;rw[ho] at k6;obtain⟨j,o,j1,rfl,j3,S⟩:=k6;have R:=k1.len;have Q:∀M,(h++M)[i]? =some (.box 91 (va s a (.ptr j 0) x y)):=λM=>zk k3;have I:∀M,(h++M)[j]? =some (.box 117 (VU e o)):=λM=>zk j3;refine enterSX Tryz.f92 (λB=>?_) (hex);refine zZ [.res,.res] 2 (oF [14,0,1,2,3,4,5,6,7,8,9,10,11,12,15,16,17,18,19] ((13,0,[15,19])::oF [20,21] ((22,1,[])::oF [23,24] ([])))) ?_;simp only[go_sem,Q,I];refine zl (c36 _ _ _) ?_;rintro _ h1 ⟨rfl,e2⟩;subst e2;simp only[go_sem,Q,I];refine qx (c36 _ _ _) ?_;have hr:∀M,zI (h++M) o=some (os.map evC):=λM=>(S.app M).rows.rows;obtain⟨first,b⟩:∃f,f=qi e.at_ s.unit:=⟨_,rfl⟩;obtain⟨last,c⟩:∃f,f=qi at_ s.unit:=⟨_,rfl⟩;rw[<-b, <-c];simp only[go_sem,Q,I,hr,zc]
 have P:PartIn F h0 (h++[.box 88 [.ptr i 0],.box 3 [i64 first],.box 3 [i64 last],.box 3 [i64 first],.box 55 (evC e)]) i (h.length+1) (h.length+2) (h.length+3) (h.length+0) (h.length+4) s a o (os.map evC) first last first e t:=
  ⟨zb,zb,zb,zb,λz D=>by
   have:=kf z D;have:=(zj.1 this).1;omega,by rw[qa rfl];rfl,by rw[qa rfl];rfl,by rw[qa rfl];rfl,by rw[qa rfl];rfl,by rw[qa rfl];rfl,O.app (zA rfl (zA rfl (zA rfl (zA rfl (zW rfl))))),S.app _⟩
 refine wp_loop_a ze (λm T h'=>∃k:Nat,k<=os.length/\PartIn F h0 h' i (h.length+1) (h.length+2) (h.length+3) h.length (h.length+4) s a o (os.map evC) first last (xT first last t e (os.take k)).1 (xT first last t e (os.take k)).2.1 (xT first last t e (os.take k)).2.2/\T 2= .ptr h.length 0/\T 5= .ptr (h.length+2) 0/\T 8= .fn (.func 126) [] [.ptr (h.length+1) 0,.ptr (h.length+2) 0,.ptr (h.length+3) 0,.ptr h.length 0,.ptr (h.length+4) 0]/\T 47=o/\T 48=i64 os.length/\T 49=i64 k/\m=os.length - k) os.length
  ⟨0,zb,P,zo,zo,zo,zo,zo,by(simp only[go_sem]<;>rfl),rfl⟩ ?_
 rintro m T h' ⟨k,hk,C,t2,t5,K,n,A,g,rfl⟩;simp only[go_sem,A,g];refine ways (λL=>?_) (λL=>?_)
 ·have l:=dlt L;have U:SlOf h' o 11 (os.map evC):=C.b6.rows;have N:=U.at (i:=k) (by simpa using l);have H:=U.rows;have u:(os.map evC)[k]? =some (evC os[k]):=jz (zg l);have E:(k:Int)<os.length:=zb;simp only[go_sem,n,g,N,H,u,E,zc,Int.toNat_natCast,zd,K]
  have d:xT first last t e (os.take (k+1))=kH first last (xT first last t e (os.take k)) os[k]:=by
   rw[xT, <-zG l,qK];rfl
  have D:(xT first last t e (os.take k)).2.2.segs.length<=t.segs.length+(os.take k).length:=Qs (os.take k) (z:=(first,e,t));rw[zT] at D;refine zl (c105 F h0 _ i _ _ _ _ _ s a o (os.map evC) _ first last _ os[k].at_ _ os[k] (C.app (zW rfl)) zb) ?_;rintro _ h3 ⟨rfl,q⟩;simp only[go_sem,g];refine⟨os.length - (k+1),zb,k+1,zb,?_,t2,t5,K,n,A,qh zb rfl,rfl⟩;rw[d];exact q
 ·have η:=jO L;have G:k=os.length:=zb;subst G;rw[qR] at C;have Z:=C.b2;have D:(xT first last t e os).2.2.segs.length<=t.segs.length+os.length:=Qs os (z:=(first,e,t));simp only[go_sem,K,t5,Z];refine zl (c105 F h0 _ i _ _ _ _ _ s a o (os.map evC) _ first last _ last _ ⟨0,0,0,0,0,0,0,0,0,0,0⟩ C zb) ?_;rintro _ h3 ⟨rfl,q⟩;have X:=q.b4;obtain⟨m1,V,W,p',x',y',w,m4,Y,m6⟩:=q.t;simp only[go_sem,t2,X,w]
  exact⟨.tup [],zo,.inl ⟨rfl,m1.set V rfl,V,W.set_box w ze _,_,_,_,zt w,m4.set_box w _,(by
   have:=Y.set_box w (o:= .box 91 (va s a (.v (.pointer none)) x' y'));rw[QT,VV] at this;exact this),rfl⟩⟩
section
variable{t:TellS}{e:Ev}{os:List Ev}{s:Setup}{at_:Int}
def xx(s:Setup)(t:TellS)(e:Ev)(os:List Ev)(at_:Int):TellS:=⟨none,(kI (qi e.at_ s.unit) (qi at_ s.unit) t e os).segs,t.flags⟩
def jo(s:Setup)(t:TellS)(at_:Int):TellS:=match t.open_ with
 | none=>t
 | some (e,os)=>if at_>wr (e.at_+s.cap) then xx s (xb t e 1) e os (wr (e.at_+s.cap)) else t
def j7(s:Setup)(t:TellS)(e:Ev):TellS:=
 if e.kind=1 then(match (jo s t e.at_).open_ with
  | none=>⟨some (e,[]),(jo s t e.at_).segs,(jo s t e.at_).flags⟩
  | some (f,os)=>⟨some (e,[]),(xx s (xb (jo s t e.at_) f 2) f os e.at_).segs,(xx s (xb (jo s t e.at_) f 2) f os e.at_).flags⟩)
 else match (jo s t e.at_).open_ with
  | none=>xb (jo s t e.at_) e 3
  | some (f,os)=>if e.kind=2 then xx s (jo s t e.at_) f os e.at_ else⟨some (f,os++[e]),(jo s t e.at_).segs,(jo s t e.at_).flags⟩
def szO:Option (Ev × List Ev)->Nat
 | none=>0
 | some (_,os)=>os.length+1
def szT(t:TellS):Nat:=t.segs.length+t.flags.length+szO t.open_
def XF{first last:Int}:(kI first last t e os).segs.length<=t.segs.length+os.length+1:=by
 have a:=X0 (t:=(xT first last t e os).2.2) (b:=(xT first last t e os).1) (to_:=toP first last last) (e:=(xT first last t e os).2.1);have c:(xT first last t e os).2.2.segs.length<=t.segs.length+os.length:=Qs os (z:=(first,e,t));unfold kI;omega
def JY{k:Int}:szT (xb t e k)=szT t+1:=by simp[szT,xb];omega
def Qt(h:t.open_=some (e,os)):szT (xx s t e os at_)<=szT t:=by
 have:=XF (first:=qi e.at_ s.unit) (last:=qi at_ s.unit) (t:=t) (e:=e) (os:=os);simp only[szT,xx,h,szO];omega
def JZ:szT (jo s t at_)<=szT t+1:=by
 unfold jo;split
 ·omega
 ·rename_i e os a;split
  ·have:=Qt (s:=s) (t:=xb t e 1) (e:=e) (os:=os) (at_:=wr (e.at_+s.cap)) a;rw[JY] at this;exact this
  ·omega
def jMa:szT (j7 s t e)<=szT t+3:=by
 have b:=JZ (s:=s) (t:=t) (at_:=e.at_);unfold j7;split
 ·split
  ·rename_i a;simp only[szT,szO,a,List.length_nil] at b⊢;omega
  ·rename_i f os a;have:=Qt (s:=s) (t:=xb (jo s t e.at_) f 2) (e:=f) (os:=os) (at_:=e.at_) a;rw[JY] at this;simp only[szT,szO,xx,List.length_nil] at this b⊢;omega
 ·split
  ·rw[JY];omega
  ·rename_i f os a;split
   ·have:=Qt (s:=s) (t:=jo s t e.at_) (e:=f) (os:=os) (at_:=e.at_) a;omega
   ·simp only[szT,szO,a,zp,List.length_cons,List.length_nil] at b⊢;omega
end
