/-
  Joined.
-/
import Derived.Test.YtfmldcilgbbimaaGreatK37
import Derived.Test.YtfmldcilgbbimaaGreatK31
import Derived.Test.YtfmldcilgbbimaaGreatK27
import Derived.Test.YtfmldcilgbbimaaGreatK32
import Derived.Test.YtfmldcilgbbimaaGreatK23
import Derived.Test.YtfmldcilgbbimaaGreatK33
import Derived.Test.YtfmldcilgbbimaaGreatK21
import Derived.Test.YtfmldcilgbbimaaGreatK38
import Derived.Lib.Strings
import Derived.Lib.Slices
import Derived.Lib.Small
import Derived.Lib.Walk
import Derived.Lib.BitFns
set_option linter.unusedSimpArgs false
set_option linter.unusedVariables false
namespace Go.Proofs.YtfmldcilgbbimaaGreat.Ax
open Go Go.Proofs
set_option maxRecDepth 100000
def RowsK (h h':List Ob):Prop:=∀(id ty e:Nat) (xs:List (List AV)) (st:Nat),h[id]? =some (.row ty e xs st)->h'[id]? =some (.row ty e xs st)
theorem Yw {o:Option Ob} {e:Nat} (h:eTl o=some e):∃ty xs st,o=some (.row ty e xs st):=by
 unfold eTl at h
 split at h
 ·injection h with h
  subst h
  exact ⟨_,_,_,rfl⟩
 ·cases h
theorem Yx {o:Option Ob} {st:Nat} {xs:List (List AV)} (h:KT o st=some xs):∃ty e,o=some (.row ty e xs st):=by
 unfold KT at h
 split at h
 ·split at h
  ·rename_i a
   injection h with h
   subst a h
   exact ⟨_,_,rfl⟩
  ·cases h
 ·cases h
theorem Kc {h h':List Ob} (k:RowsK h h'):∀(a:AV) {e:Nat},eOf h a=some e->eOf h' a=some e
 | .sl _ _,_,b=>b
 | .tl id st,e,b=>by
   rw[qJ] at b⊢
   obtain ⟨ty,xs,st',d⟩:=Yw b
   rw[k _ _ _ _ _ d];rfl
 | .vw a f i n,e,b=>by
   rw[ZF] at b⊢
   cases c:eOf h a with
   | none=>rw[c] at b;cases b
   | some ys=>
     rw[c] at b
     rw[Kc k a c]
     exact b
 | .v _,_,b | .em,_,b | .ptr _ _,_,b | .ep _ _ _ _,_,b | .mp _,_,b | .ag _,_,b | .tup _,_,b | .fn _ _ _,_,b | .bad,_,b=>by cases b
theorem Jy {h h':List Ob} (k:RowsK h h'):∀(a:AV) {xs:List (List AV)},zo h a=some xs->zo h' a=some xs
 | .sl _ _,_,b=>b
 | .em,_,b=>b
 | .tl id st,xs,b=>by
   rw[zO] at b⊢
   obtain ⟨ty,e,f⟩:=Yx b
   rw[k _ _ _ _ _ f,xC,if_pos rfl]
 | .vw a e i n,xs,b=>by
   rw[xB] at b⊢
   cases c:zo h a with
   | none=>rw[c] at b;cases b
   | some ys=>
     rw[c] at b
     rw[Jy k a c]
     simp only[Option.bind_some] at b⊢
     split at b
     ·rename_i d
      rw[if_pos ⟨d.1,d.2.imp id (Kc k a)⟩]
      exact b
     ·cases b
 | .v x,_,b=>by rw[<-WF (h:=h)];exact b
 | .ptr _ _,_,b | .ep _ _ _ _,_,b | .mp _,_,b | .ag _,_,b | .tup _,_,b | .fn _ _ _,_,b | .bad,_,b=>by cases b
theorem SlOf.keep {h h':List Ob} (k:RowsK h h') {a:AV} {e:Nat} {xs:List (List AV)} (q:SlOf h a e xs):SlOf h' a e xs:=⟨Jy k a q.rows,λb=>Kc k a (q.ee b)⟩
theorem RowsK.setB {h:List Ob} {i:Nat} {t:TypeId} {b:List AV} {o:Ob} (a:h[i]? =some (.box t b)):RowsK h (h.set i o):=λid ty e xs st q=>by
 have:i≠id:=λe=>by rw[e,q] at a;cases a
 rw[List.getElem?_set_ne this];exact q
structure RowV where
 worker:Int
 week:Int
 err:Int
 tot:Nat->Int
 pays:Nat->Int
 earned:zx
 perf:zx
 elig:Int
 tier:Int
 extra:Int
 supp:Int
 total:Int
def zVa (r:RowV):List AV:=[i64 r.worker,i64 r.week,i64 r.err,i64 (r.tot 0),i64 (r.tot 1),i64 (r.tot 2),i64 (r.tot 3),i64 (r.tot 4),i64 (r.tot 5),i64 (r.tot 6),i64 (r.pays 0),i64 (r.pays 1),i64 (r.pays 2),i64 (r.pays 3),i64 (r.pays 4),i64 (r.pays 5),i64 (r.pays 6),i64 r.earned.1,i64 r.earned.2,i64 r.perf.1,i64 r.perf.2,i64 r.elig,i64 r.tier,i64 r.extra,i64 r.supp,i64 r.total]
abbrev jL (r:RowV) (a:AV):List AV:=[i64 r.worker,i64 r.week,i64 r.err,i64 (r.tot 0),i64 (r.tot 1),i64 (r.tot 2),i64 (r.tot 3),i64 (r.tot 4),i64 (r.tot 5),i64 (r.tot 6),i64 (r.pays 0),i64 (r.pays 1),i64 (r.pays 2),i64 (r.pays 3),i64 (r.pays 4),i64 (r.pays 5),i64 (r.pays 6),i64 r.earned.1,i64 r.earned.2,i64 r.perf.1,i64 r.perf.2,i64 r.elig,i64 r.tier,i64 r.extra,i64 r.supp,i64 r.total,a]
theorem zWa {a b:List Pt} (h:a.Perm b) (k:Int):(xU a k).Perm (xU b k):=(h.filter _).map _
theorem j6a {a b:List Pt} (h:a.Perm b) (k:Int):vV a k=vV b k:=by
 unfold vV
 rw[zsa λt _ _=>Qt (zWa h k) t]
theorem j7a (s:Setup) (L:List Seg) (w:Int) (h:L.length<=3001):(xQ s L w).length<1048576:=by
 have k:=Yk s L
 have g:=Yl s L
 have m:(zZ (xP s L) w).length<=(zw (xP s L)).length+1:=wE _ _ _
 have i:=zq (xP s L)
 have f:=Yo s (vO s L) w
 obtain ⟨o,d⟩:∃o,o=yU s (vO s L) w:=⟨_,rfl⟩
 rw[<-d] at f
 have key:∀j,(vU (qf (oj o j) (qy s (oj o j))) (1+j)).length+(vU (qy s (oj o j)) (4+j)).length<=3*(oj o j).length+1485:=λj=>by
  have a1:=qK (oj o j) (qy s (oj o j))
  have a2:=zq (oj o j)
  have a3:=zq (qy s (oj o j))
  have a4:=Q4 s (oj o j)
  rw[kL,kL];omega
 have k0:=key 0
 have k1:=key 1
 have k2:=key 2
 have b:oj o 0=o.1:=rfl
 have c:oj o 1=o.2.1:=rfl
 have a:oj o 2=o.2.2:=rfl
 have e:xQ s L w=Zm s o (zZ (xP s L) w) 3:=by rw[d];rfl
 rw[e,Zm,Zm,Zm,Zm]
 simp only[List.length_append]
 have l:=kL (zZ (xP s L) w) 0
 rw[b] at k0;rw[c] at k1;rw[a] at k2
 rw[b,c,a]
 omega
def evR (s:Setup) (w:Int) (l:List Ev):List Ev:=(zC l).filter λe=> !Q7 s w e
theorem qHa (s:Setup) (w:Int) (l:List Ev):(evR s w l).length<=l.length:=by
 have b:=List.length_filter_le (λe=> !Q7 s w e) (zC l)
 have a:=(kE l).length_eq
 unfold evR;omega
def Kd (own:List Ev) (f:Flg):Int:=yq (((own.find? λe=>e.id==f.id).map (·.at_)).getD 0)
def Yy (w wk e:Int):RowV:=⟨w,wk,e,λ_=>0,λ_=>0,(0,0),(0,0),0, -1,0,0,0⟩
def vha (s:Setup) (own:List Ev) (w:Nat) (wk:Int):RowV:=
 let P:=wj s own w wk
 let tot:=λj:Nat=>vV (xQ s (zR s own w).1 wk) j
 let tier:=if P.err=0/\0<P.eligible then xk s P.perf else -1
 let p:=j4a s w tot P.eligible tier
 ⟨w,wk,P.err,tot,p.pays,P.earned,P.perf,P.eligible,tier,p.extra,p.supp,p.total⟩
def jM (own:List Ev) (a:List Flg) (wk:Int):List Flg:=a.filter λf=>Kd own f==wk
def qH (s:Setup) (l:List Ev) (w wk:Int):RowV × List Flg:=
 if qY s w wk≠0 then (Yy w wk (qY s w wk),[]) else (vha s (evR s w l) w.toNat wk,jM (evR s w l) (zR s (evR s w l) w).2 wk)
structure RB (h h':List Ob) (s:Setup) (a:SA) (w:Int) (y:AV) (own:List Ev) (r:RowV) (fl:AV):Prop where
 pre:Pre h h'
 b0:h'[h.length]? =some (.box 30 (zr s a))
 b1:h'[h.length+1]? =some (.box 3 [i64 w])
 b2:h'[h.length+2]? =some (.box 45 (jL ⟨0,0,0,λ_=>0,λ_=>0,(0,0),(0,0),0,0,0,0,0⟩ (.v (.slice none 0 0))))
 b3:h'[h.length+3]? =some (.box 45 (jL r fl))
 sl:SlOf h' y 11 (own.map evC)
theorem RB.put {h h':List Ob} {s:Setup} {a:SA} {w:Int} {y:AV} {own:List Ev} {r:RowV} {d:AV} (k:RB h h' s a w y own r d) (c:RowV) (b:AV):RB h (h'.set (h.length+3) (.box 45 (jL c b))) s a w y own c b:=
 ⟨k.pre.set (by omega) rfl,by rw[List.getElem?_set_ne (by omega)];exact k.b0,by rw[List.getElem?_set_ne (by omega)];exact k.b1,by rw[List.getElem?_set_ne (by omega)];exact k.b2,zh k.b3,k.sl.keep (.setB k.b3)⟩
theorem RB.app {h h':List Ob} {s:Setup} {a:SA} {w:Int} {y:AV} {own:List Ev} {r:RowV} {b:AV} (k:RB h h' s a w y own r b) {M:List Ob} (c:NoRes M):RB h (h'++M) s a w y own r b:=
 ⟨k.pre.app c,zb k.b0,zb k.b1,zb k.b2,zb k.b3,k.sl.app M⟩
theorem yqa {h:List Ob} {id ty:Nat} {xs:List (List AV)} {st:Nat} {o:Ob} (d:h[id]? =some (.row ty 2 xs st)):∀(a:AV) {rows:List (List AV)},eOf h a=some 11->zo h a=some rows->eOf (h.set id o) a=some 11/\zo (h.set id o) a=some rows
 | .sl _ _,_,b,c=>⟨b,c⟩
 | .tl i s,rows,b,c=>by
   rw[qJ] at b⊢
   rw[zO] at c⊢
   obtain ⟨l,xs',st',m⟩:=Yw b
   have j:id≠i:=λq=>by rw[q,m] at d;injection d with d;injection d with _ d;cases d
   rw[List.getElem?_set_ne j]
   exact ⟨b,c⟩
 | .vw a e i n,rows,b,c=>by
   rw[ZF] at b⊢
   rw[xB] at c⊢
   cases f:eOf h a with
   | none=>rw[f] at b;cases b
   | some p=>
     rw[f] at b
     simp only[Option.bind_some] at b
     split at b
     ·rename_i k
      injection b with b
      subst k
      subst b
      cases g:zo h a with
      | none=>rw[g] at c;cases c
      | some ys=>
        obtain ⟨k1,k2⟩:=yqa d a f g
        rw[k1,k2]
        rw[f,g] at c
        exact ⟨by simp,c⟩
     ·cases b
 | .v x,_,b,_=>by cases b
 | .em,_,b,_ | .ptr _ _,_,b,_ | .ep _ _ _ _,_,b,_ | .mp _,_,b,_ | .ag _,_,b,_ | .tup _,_,b,_ | .fn _ _ _,_,b,_ | .bad,_,b,_=>by cases b
theorem RB.setR {h h':List Ob} {s:Setup} {a:SA} {w:Int} {y:AV} {own:List Ev} {r:RowV} {d:AV} (k:RB h h' s a w y own r d) (c:own≠[]) {id ty:Nat} {xs:List (List AV)} {st:Nat} {o:Ob} (hid:h.length<=id) (b:h'[id]? =some (.row ty 2 xs st)) (e:o.isRes=false):RB h (h'.set id o) s a w y own r d:=by
 obtain ⟨k1,k2⟩:=yqa (o:=o) b y (k.sl.ee (by simpa using c)) k.sl.rows
 exact ⟨k.pre.set hid e,Zj (h0:=h) k.b0 b,Zj (h0:=h) k.b1 b,Zj (h0:=h) k.b2 b,Zj (h0:=h) k.b3 b,k2,λ_=>k1⟩
theorem Jz {s:Setup} {l:List Ev} {w:Int}:(zR s l w).2.length<=3*l.length+1:=by
 have c:=qB l
 have b:szT (goP s w (zC l))<=szT ⟨none,[],[]⟩+3*(zC l).length:=zra (zC l)
 have a:szT ⟨none,[],[]⟩=0:=rfl
 have d:=Qr (s:=s) (t:=goP s w (zC l)) (at_:=32054400)
 unfold zR
 split
 ·simp only[szT] at d b a⊢
  omega
 ·simp
theorem Ky {own:List Ev} {F:List Flg} {wk:Int} {n:Nat} (h:n<F.length):jM own (F.take (n+1)) wk=if Kd own F[n]==wk then jM own (F.take n) wk++[F[n]] else jM own (F.take n) wk:=by
 unfold jM
 rw[show F.take (n+1)=F.take n++[F[n]] from (List.take_append_getElem h).symm,List.filter_append]
 cases a:Kd own F[n]==wk<;>simp[a]
theorem qIa {l:List Flg} {i:Nat} (h:i<l.length):(l.map xI)[i]? =some (xI l[i]):=by rw[List.getElem?_map,List.getElem?_eq_getElem h];rfl
theorem QQa (h:List Ob) (s:Setup) (a:SA) (k:SIn h s a) (f:SFit s) (x:AV) (l:List Ev) (w wk:Int) (hx:SlOf h x 11 (l.map evC)) (hl:l.length<=1000):
  ACalls Tryz.prog 18 [qh s a,x,i64 w,i64 wk] h λr h'=>∃L y,h'=h++L/\NoRes L/\r= .ag (zVa (qH s l w wk).1++[y])/\New h 2 y ((qH s l w wk).2.map xI) L:=by
 have hex:∃r h',(∃L y,h'=h++L/\NoRes L/\r=AV.ag (zVa (qH s l w wk).1++[y])/\New h 2 y ((qH s l w wk).2.map xI) L)/\ResK h h':=
  ⟨_,_,⟨[],.sl 2 _,rfl,jF,rfl,λ_ _=>⟨rfl,λ_=>rfl⟩⟩,zT⟩
 refine vm (N:=116) (rs:=[.cell 8 45]) (fn:=Tryz.f18) rfl rfl rfl rfl (Nat.le_of_ble_eq_true rfl) rfl (hex) λB=>?_
 refine qC (by decide) ?_
 simp only[go_sem,k.ones]
 refine vd (qC (by decide) ?_)
 simp only[go_sem]
 refine vd (qC (by decide) ?_)
 simp only[go_sem,k.ones]
 refine zd (Zra _ s a (k.app _) f w wk) ?_
 rintro _ h1 ⟨rfl,rfl⟩
 simp only[go_sem]
 cases q0:qY s w wk != 0
 rotate_left
 ·have ν:qY s w wk≠0:=by simpa using q0
  have b:qH s l w wk=(Yy w wk (qY s w wk),[]):=by unfold qH;rw[if_pos ν]
  rw[b]
  simp only[go_sem,zM]
  refine ⟨.ag (zVa (Yy w wk (qY s w wk))++[.v (.slice none 0 0)]),?_,.inl ⟨_,.v (.slice none 0 0),rfl,?_,rfl,?_⟩⟩
  ·simp only[go_sem]
   rfl
  ·exact zg rfl (zg rfl (zg rfl (zj rfl)))
  ·exact λh2 _=>⟨rfl,λh=>absurd rfl h⟩
 ·have X:qY s w wk=0:=by simpa using q0
  have b:qH s l w wk=(vha s (evR s w l) w.toNat wk,jM (evR s w l) (zR s (evR s w l) w).2 wk):=by unfold qH;rw[if_neg (by rw[X];simp)]
  rw[b]
  simp only[go_sem,zM,X]
  obtain ⟨ο,hw0,hw1⟩:zz s=true/\0<=w/\w<s.rates.length:=by
   unfold qY at X
   split at X
   ·cases X
   ·rename_i h1
    split at X
    ·cases X
    ·rename_i h2
     exact ⟨by simpa using h1,by omega,by omega⟩
  clear hex b
  have hol:=qHa s w l
  obtain ⟨own,G⟩:∃own,own=evR s w l:=⟨_,rfl⟩
  rw[<-G] at hol⊢
  refine vd (JW (λt h'=>Pre h h'/\h'[h.length]? =some (.box 30 (zr s a))/\h'[h.length+1]? =some (.box 3 [i64 w])/\h'[h.length+2]? =some (.box 45 (jL ⟨0,0,0,λ_=>0,λ_=>0,(0,0),(0,0),0,0,0,0,0⟩ (.v (.slice none 0 0))))/\h'[h.length+3]? =some (.box 45 (jL (Yy w wk 0) (.v (.slice none 0 0))))/\
    SlOf h' (t 10) 11 (own.map evC)/\t 3=i64 wk/\t 4= .ptr h.length 0/\t 6= .ptr (h.length+1) 0/\t 8= .ptr (h.length+2) 0/\t 9= .ptr (h.length+3) 0) (by decide) ?_ ?_)
  ·simp only[go_sem]
   refine zd (c57 _ x l (hx.app _) (by omega)) ?_
   rintro r h1 hr
   rcases hr with ⟨rfl,rfl,rfl⟩ | ⟨rfl,rfl⟩
   ·simp only[go_sem]
    refine zd (QGa _ _ _) ?_
    rintro _ h1 ⟨rfl,rfl⟩
    simp only[go_sem]
    exact ⟨⟨_,rfl,zg rfl (zg rfl (zg rfl (zj rfl)))⟩,rfl,by rw[G];exact ⟨rfl,λh=>absurd rfl h⟩⟩
   ·simp only[go_sem]
    refine zd (c73 _ (h.length+4) 1 (zC l) 50 [.ptr (h.length+1) 0,.ptr h.length 0] (Q7 s w) (by rw[zl (k:=4) rfl];rfl) (by have:=(kE l).length_eq;omega) (λe _ o L=>QOa _ s a (by
      rw[List.set_append_right _ _ (by omega)]
      exact (k.app _).app _) h.length (h.length+1) w (zb (by rw[List.getElem?_set_ne (by omega),zm rfl];rfl)) (zb (by rw[List.getElem?_set_ne (by omega),zl (k:=1) rfl];rfl)) e)) ?_
    rintro r h1 ⟨l2,rfl,hr,hsl⟩
    simp only[go_sem]
    rw[List.set_append_right _ _ (by omega),show h.length+4 - h.length=4 by omega] at hsl
    exact ⟨⟨_,rfl,zg rfl (zg rfl (zg rfl (zg rfl (zj rfl))))⟩,rfl,by rw[G];exact hsl⟩
  ·rintro T h' ⟨Q,b0,b1,b2,b3,hy,t3,t4,t6,t8,t9⟩
   obtain ⟨y,t10⟩:∃y,T 10=y:=⟨_,rfl⟩
   rw[t10] at hy
   have hk:=Q.sin k
   have hsl3:=Jx (s:=s) (l:=own) (w:=w)
   refine qC (by decide) ?_
   simp only[go_sem,t4,t6,t10,b0,b1]
   refine zd (wRa _ s a hk f y own w hy (by omega)) ?_
   rintro _ h2 ⟨rfl,e2⟩
   rw[e2]
   simp only[go_sem]
   refine vd (qC (by decide) ?_)
   simp only[go_sem,t3,t4,b0]
   refine zd (Zma _ s a hk f ο _ (zR s own w).1 wk ⟨rfl,λ_=>rfl⟩ (by omega)) ?_
   rintro _ h3 ⟨⟨q,hq,rfl⟩,e3⟩
   rw[e3]
   have hql:q.length<1048576:=by
    rw[hq.length_eq]
    exact j7a s _ wk (by omega)
   simp only[go_sem]
   refine zd (wEa _ _ q ⟨rfl,λ_=>rfl⟩ hql) ?_
   rintro _ h4 ⟨rfl,e4⟩
   rw[e4]
   have φ:(λj:Nat=>vV q j)=λj:Nat=>vV (xQ s (zR s own w).1 wk) j:=by funext j;exact j6a hq j
   obtain ⟨tot,htt⟩:∃tot,tot=λj:Nat=>vV (xQ s (zR s own w).1 wk) j:=⟨_,rfl⟩
   rw[φ, <-htt]
   simp only[go_sem,t9,b3,Yy,kz]
   have kb:=RB.put ⟨Q,b0,b1,b2,b3,hy⟩ ⟨w,wk,0,tot,λ_=>0,(0,0),(0,0),0, -1,0,0,0⟩ (.v (.slice none 0 0))
   generalize hH:h'.set (h.length+3) (.box 45 (jL ⟨w,wk,0,tot,λ_=>0,(0,0),(0,0),0, -1,0,0,0⟩ (.v (.slice none 0 0))))=H at kb
   clear hH b0 b1 b2 b3 hy Q hk
   have d0:=kb.b0
   have d1:=kb.b1
   have D:=kb.b3
   refine vd (qC (by decide) ?_)
   simp only[go_sem,t3,t4,t6,t10,d0,d1]
   refine zd (c15 _ s a (kb.pre.sin k) f y own w wk kb.sl (by omega)) ?_
   rintro _ h5 ⟨rfl,e5⟩
   rw[e5]
   obtain ⟨P,hP⟩:∃P,P=wj s own w wk:=⟨_,rfl⟩
   rw[<-hP]
   have K:∀o,(H.set (h.length+3) o)[h.length+3]? =some o:=λo=>zh D
   simp only[go_sem,t9,D,K,List.set_set]
   have kc:=kb.put ⟨w,wk,P.err,tot,λ_=>0,P.earned,P.perf,P.eligible, -1,0,0,0⟩ (.v (.slice none 0 0))
   generalize hH:H.set (h.length+3) (.box 45 (jL ⟨w,wk,P.err,tot,λ_=>0,P.earned,P.perf,P.eligible, -1,0,0,0⟩ (.v (.slice none 0 0))))=H2 at kc
   clear hH kb d0 d1 D K
   refine vd (JW (λt h2=>∃V,V=(if P.err=0/\0<P.eligible then xk s P.perf else -1)/\RB h h2 s a w y own ⟨w,wk,P.err,tot,λ_=>0,P.earned,P.perf,P.eligible,V,0,0,0⟩ (.v (.slice none 0 0))/\t 3=i64 wk/\t 4= .ptr h.length 0/\t 6= .ptr (h.length+1) 0/\t 8= .ptr (h.length+2) 0/\t 9= .ptr (h.length+3) 0/\t 10=y/\t 12= .sl 2 ((zR s own w).2.map xI)) (by decide) ?_ ?_)
   ·have d0:=kc.b0
    have D:=kc.b3
    cases q1:decide (P.err=0)
    ·have p1:¬ P.err=0:=of_decide_eq_false q1
     have Z:(P.err==0)=false:=by simpa using p1
     simp only[go_sem,t9,D,Z,zM]
     exact ⟨-1,by rw[if_neg (λq=>p1 q.1)],kc,t3,t4,t6,t8,t10⟩
    ·have p1:P.err=0:=of_decide_eq_true q1
     have Z:(P.err==0)=true:=by simpa using p1
     cases q2:decide (P.eligible>0)
     ·have p2:¬ 0<P.eligible:=of_decide_eq_false q2
      simp only[go_sem,t9,D,Z,q2,zM]
      exact ⟨-1,by rw[if_neg (λq=>p2 q.2)],kc,t3,t4,t6,t8,t10⟩
     ·have p2:0<P.eligible:=of_decide_eq_true q2
      have hfit:zY P.perf:=by
       have:=(wta (w:=w) (k:=wk) (l:=own) ο (by omega) (by rw[<-hP];exact p1)).2
       rw[<-hP] at this
       exact Zha this
      simp only[go_sem,t9,D,Z,q2,zM,t4,d0]
      refine zd (c26 _ s a (kc.pre.sin k) f P.perf hfit) ?_
      rintro _ h6 ⟨rfl,e6⟩
      rw[e6]
      simp only[go_sem,t9,D]
      exact ⟨xk s P.perf,by rw[if_pos ⟨p1,p2⟩],kc.put ⟨w,wk,P.err,tot,λ_=>0,P.earned,P.perf,P.eligible,xk s P.perf,0,0,0⟩ _,t3,t4,t6,t8,t10⟩
   ·clear kc t3 t4 t6 t8 t9 t10
    rintro T h2 ⟨V,htr,kd,t3,t4,t6,t8,t9,t10,U⟩
    have d0:=kd.b0
    have d1:=kd.b1
    have D:=kd.b3
    obtain ⟨u,hwn⟩:∃u:Nat,(u:Int)=w:=⟨w.toNat,by omega⟩
    subst hwn
    refine qC (by decide) ?_
    simp only[go_sem,t3,t4,t6,t9,d0,d1,D]
    refine zd (JNa _ s a (kd.pre.sin k) f ο u (by omega) tot P.eligible V) ?_
    rintro _ h7 ⟨rfl,e7⟩
    rw[e7]
    obtain ⟨p,hp⟩:∃p,p=j4a s u tot P.eligible V:=⟨_,rfl⟩
    rw[<-hp]
    have K:∀o,(h2.set (h.length+3) o)[h.length+3]? =some o:=λo=>zh D
    simp only[go_sem,wHa,t9,D,K,List.set_set,kz]
    have ke:=kd.put ⟨u,wk,P.err,tot,p.pays,P.earned,P.perf,P.eligible,V,p.extra,p.supp,p.total⟩ (.v (.slice none 0 0))
    have b:vha s own u wk=⟨u,wk,P.err,tot,p.pays,P.earned,P.perf,P.eligible,V,p.extra,p.supp,p.total⟩:=by
     rw[hp,htr,hP,htt];rfl
    rw[Int.toNat_natCast,b]
    generalize hH:h2.set (h.length+3) (.box 45 (jL ⟨u,wk,P.err,tot,p.pays,P.earned,P.perf,P.eligible,V,p.extra,p.supp,p.total⟩ (.v (.slice none 0 0))))=H3 at ke
    obtain ⟨R,hR⟩:∃R:RowV,R=⟨u,wk,P.err,tot,p.pays,P.earned,P.perf,P.eligible,V,p.extra,p.supp,p.total⟩:=⟨_,rfl⟩
    rw[<-hR] at ke⊢
    clear hH kd d0 d1 D K b
    have hff:= @jJa s own u
    obtain ⟨F,hF⟩:∃F,F=(zR s own u).2:=⟨_,rfl⟩
    have hFl:F.length<1048576:=by have:=Jz (s:=s) (l:=own) (w:=u);rw[hF];omega
    rw[<-hF] at hff U⊢
    have hgo:jM own F wk=jM own (F.take F.length) wk:=by rw[List.take_length]
    rw[hgo]
    refine vd (qC (by decide) ?_)
    simp only[go_sem,U,List.length_map]
    refine zk (by decide) (λm T h'=>∃(n:Nat) (C:AV),n<=F.length/\RB h h' s a u y own R C/\OwnS h h' 97 2 C ((jM own (F.take n) wk).map xI)/\T 3=i64 wk/\T 8= .ptr (h.length+2) 0/\T 9= .ptr (h.length+3) 0/\T 10=y/\T 91= .sl 2 (F.map xI)/\T 92=i64 F.length/\T 93=i64 n/\m=F.length - n) F.length
     ⟨0,_,by omega,ke,.inl ⟨rfl,rfl⟩,by simp only[go_sem,t3],by simp only[go_sem,t8],by simp only[go_sem,t9],by simp only[go_sem,t10],by simp only[go_sem,U],by (simp only[go_sem]<;>rfl),by (simp only[go_sem]<;>rfl),rfl⟩ ?_
    clear ke t3 t4 t6 t8 t9 t10 U
    rintro m T h' ⟨n,C,hn,kf,ho,t3,t8,t9,t10,α,W,O,rfl⟩
    simp only[go_sem,W,O]
    refine ways (λe=>?_) (λe=>?_)
    ·have θ:=dlt e
     have b:=qIa θ
     have hkl:(n:Int)<F.length:=by omega
     have c:=Ky (own:=own) (wk:=wk) θ
     obtain ⟨g,hg⟩:∃g,g=F[n]:=⟨_,rfl⟩
     obtain ⟨ev,hev1,β⟩:=hff F[n] (List.getElem_mem θ)
     rw[<-hg] at b c β
     simp only[go_sem,α,O,b,hkl,t10,List.length_map,Int.toNat_natCast,Int.natCast_nonneg]
     have Y:=kf.app (M:=[.box 97 [i64 g.id,i64 g.kind]]) (zj rfl)
     have ι:=ho.app [Ob.box 97 [i64 g.id,i64 g.kind]]
     have E:(h'++[Ob.box 97 [i64 g.id,i64 g.kind]])[h'.length]? =some (.box 97 [i64 g.id,i64 g.kind]):=by rw[zm rfl];rfl
     generalize hJ:h'++[Ob.box 97 [i64 g.id,i64 g.kind]]=J at Y ι E
     have hJl:h'.length<J.length:=by rw[<-hJ];simp
     refine zd (c42 _ y 57 [.ptr h'.length 0] (own.map evC) (λr=>(Va r).id==g.id) (by rw[List.length_map];omega) (λr hr=>by obtain ⟨e,_,rfl⟩:=List.mem_map.1 hr;rfl) Y.sl (λrow b L=>by
      obtain ⟨e,_,rfl⟩:=List.mem_map.1 b
      exact QPa _ h'.length g (zb E) e)) ?_
     rintro _ h8 ⟨rfl,e8⟩
     rw[e8]
     rcases XV (λe=>e.id==g.id) own with ⟨_,q2⟩ | ⟨A,z,R2,q1,q2,q3,q4⟩
     ·have:=q2 ev hev1
      simp[β] at this
     ·rw[q2]
      have η:A.length<own.length:=by rw[q1];simp
      have hfw:Kd own g=yq z.at_:=by
       unfold Kd
       have:own.find? (λe=>e.id==g.id)=some z:=by
        rw[q1,List.find?_append]
        rw[List.find?_eq_none.2 (λe X=>by simp[q4 e X])]
        simp[q3]
       rw[this];rfl
      have hrz:(own.map evC)[A.length]? =some (evC z):=by rw[q1];simp
      have hee:=Y.sl.at (i:=A.length) (by rw[List.length_map];exact η)
      have hrr:=Y.sl.rows
      have χ:(A.length:Int)<own.length:=by omega
      simp only[go_sem,t3,t10,hrr,hee,hrz,χ,List.length_map,Int.toNat_natCast,Int.natCast_nonneg]
      refine zd (c17 z.at_ _) ?_
      rintro _ h9 ⟨rfl,e9⟩
      rw[e9]
      rw[hfw] at c
      simp only[go_sem,t3]
      refine ways (λe3=>?_) (λe3=>?_)
      ·rw[if_pos e3] at c
       have ν:own≠[]:=λq=>by rw[q] at η;cases η
       have I:=Y.b3
       have d:∀M,(J++M)[h.length+3]? =some (.box 45 (jL R C)):=λM=>zb I
       have hgfM:∀M,(J++M)[h'.length]? =some (.box 97 [i64 g.id,i64 g.kind]):=λM=>zb E
       rcases ι with ⟨rfl,hnil⟩ | ⟨id,st,u1,rfl,u3⟩
       ·simp only[go_sem,t9,O,I,d,E]
        refine ⟨F.length - (n+1),by omega,n+1,.tl (J.length+1) 0,by omega,(Y.app (zg rfl (zj rfl))).put R _,?_,t3,t8,t10,α,W,zy (by omega) rfl,rfl⟩
        refine OwnS.setB (.inr ⟨_,0,?_,rfl,?_⟩) (d _)
        ·have:=Y.pre.len;omega
        ·rw[c,List.map_append,hnil,zl (k:=1) rfl];rfl
       ·have S:∀M,(J++M)[id]? =some (.row 97 2 ((jM own (F.take n) wk).map xI) st):=λM=>zb u3
        have υ:(((jM own (F.take n) wk).map xI).length+1)*17<=140737488355328:=by
         have:=List.length_filter_le (λf=>Kd own f==wk) (F.take n)
         rw[List.length_take] at this
         rw[List.length_map]
         unfold jM
         omega
        have δ:∀M o',((J++M).set id o')[h.length+3]? =some (.box 45 (jL R (.tl id st))):=λM o'=>Zj (h0:=h) (d M) (S M)
        simp only[go_sem,t9,O,I,d,E,S,υ,δ]
        refine ⟨F.length - (n+1),by omega,n+1,.tl id (st+1),by omega,RB.put ((Y.app (zj rfl)).setR ν u1 (S _) rfl) R _,?_,t3,t8,t10,α,W,zy (by omega) rfl,rfl⟩
        refine OwnS.setB (.inr ⟨id,st+1,u1,rfl,?_⟩) (δ _ _)
        rw[c,List.map_append]
        exact zh (S _)
      ·have e3':(yq z.at_==wk)=false:=by simpa using e3
       rw[e3'] at c
       simp only[Bool.false_eq_true,if_false] at c
       simp only[go_sem,O]
       exact ⟨F.length - (n+1),by omega,n+1,C,by omega,Y,by rw[c];exact ι,t3,t8,t9,t10,α,W,zy (by omega) rfl,rfl⟩
    ·have hge:=jd e
     have hn2:n=F.length:=by omega
     subst hn2
     simp only[go_sem]
     refine vd (qr _ (by decide) ?_)
     have ξ:=kf.b2
     have I:=kf.b3
     have hxo:=ho.rows.one
     simp only[go_sem,t8,t9,ξ,I,hxo]
     have ψ:=ho.setB (o:= .box 45 (jL R C)) ξ
     have hp2:Pre h (h'.set (h.length+2) (.box 45 (jL R C))):=kf.pre.set (by omega) rfl
     have hb4:(h'.set (h.length+2) (.box 45 (jL R C)))[h.length+2]? =some (.box 45 (jL R C)):=zh ξ
     refine ⟨.ag (zVa R++[C]),?_,.inl ?_⟩
     ·have hb5:(h'.set (h.length+2) (.box 45 [i64 R.worker,i64 R.week,i64 R.err,i64 (R.tot 0),i64 (R.tot 1),i64 (R.tot 2),i64 (R.tot 3),i64 (R.tot 4),i64 (R.tot 5),i64 (R.tot 6),i64 (R.pays 0),i64 (R.pays 1),i64 (R.pays 2),i64 (R.pays 3),i64 (R.pays 4),i64 (R.pays 5),i64 (R.pays 6),i64 R.earned.1,i64 R.earned.2,i64 R.perf.1,i64 R.perf.2,i64 R.elig,i64 R.tier,i64 R.extra,i64 R.supp,i64 R.total,C]))[h.length+2]? =some (.box 45 (jL R C)):=hb4
      simp only[go_sem,t8,hb5]
      rfl
     ·obtain ⟨L,hL,hN⟩:=hp2
      refine ⟨L,C,hL,hN,rfl,?_⟩
      rw[hL] at ψ
      exact ψ.new (Nat.le_refl _)
theorem QRa (h:List Ob) (s:Setup) (a:SA) (k:SIn h s a) (f:SFit s) (x:AV) (l:List Ev) (w wk:Int) (b:SlOf h x 11 (l.map evC)) (c:l.length<=1000):
  ACalls Tryz.prog 18 [qh s a,x,i64 w,i64 wk] h λr h'=>r= .ag (zVa (qH s l w wk).1++[.sl 2 ((qH s l w wk).2.map xI)])/\h'=h:=
 Kx (by decide) rfl (zUa _) (QQa h s a k f x l w wk b c)
set_option maxRecDepth 100000
theorem zXa (h:List Ob) (x:AV) (rows:List (List AV)) (b:SlOf h x 1 rows) (o:rows.length<1099511627776) (k:(rows.all λr=>r.length==1 && r.all AV.one)=true):
  ACalls Tryz.prog 68 [x] h λr h'=>(rows=[]/\h'=h/\r= .v (.slice none 0 0))∨(h'=h++[.row 5 1 rows 1]/\r= .tl h.length 1):=by
 refine vm (N:=8) (rs:=[.tmp 2]) (fn:=Tryz.f68) rfl rfl rfl rfl (Nat.le_of_ble_eq_true rfl) rfl (⟨_,_,.inr ⟨rfl,rfl⟩,zT⟩) λB=>?_
 cases rows with
 | nil=>
   refine qga 0 rfl b.rows (λm=>?_) ?_
   ·refine qr _ (by decide) ?_;simp only[go_sem]
    exact ⟨.v (.slice none 0 0),by simp only[go_sem],.inl (.inl ⟨rfl,rfl⟩)⟩
   ·refine qr _ (by decide) ?_;simp only[go_sem]
    exact ⟨.tl h.length 1,by simp only[go_sem],.inl (.inr ⟨rfl,rfl⟩)⟩
 | cons y l=>
   have j:=b.at (i:=0) (by simp)
   have f:=b.rows
   have g:yB x=false:=by
    rcases WP f with ⟨e,xs,rfl⟩ | ⟨i,s,rfl⟩ | ⟨a,e,i,n,rfl⟩<;>rfl
   unfold yB at g
   have c:∀L,zo (h++L) x=some (y::l):=λL=>(b.app L).rows
   have d:(y::l).length*2<=140737488355328:=by omega
   rw[List.length_cons] at d
   refine qr _ (by decide) ?_;simp only[go_sem,f,j,g,c,k,d,Bool.or_true,decide_true]
   exact ⟨.tl h.length 1,by simp only[go_sem],.inl (.inr ⟨rfl,rfl⟩)⟩
set_option maxRecDepth 100000
structure Fx where
 op:Int
 ev:Ev
abbrev fxC (x:Fx):List AV:=[i64 x.op,i64 x.ev.id,i64 x.ev.worker,i64 x.ev.at_,i64 x.ev.kind,i64 x.ev.from_,i64 x.ev.to_,i64 x.ev.element,i64 x.ev.units,i64 x.ev.class_,i64 x.ev.gear,i64 x.ev.code]
def QSa (x:Fx):Bool:=x.op==1 || x.op==3
def Zsa (x:Fx):Bool:=x.op==2 || x.op==3
theorem wSa {a b t:Int}:Cov [⟨a,b⟩] t↔a<=t/\t<b:=by
 rw[qt]
 simp[JS]
theorem Ke {a:List Spn} {n size t:Int} (h:Cov (xb a n size) t):(0<=t/\t<32054400)/\Cov a t/\n*size<=t/\t<(n+1)*size:=by
 unfold xb at h
 split at h
 ·exact absurd h JS
 ·rw[Qx,wSa] at h
  exact ⟨h.1,h.2.1,h.2.2⟩
section
variable {s:Setup} {L L1 L2:List Seg} {wk d t:Int}
structure SameW (L1 L2:List Seg) (wk:Int):Prop where
 clock:∀t,0<=t->t<32054400->yq t=wk->(Cov (L1.map spS) t↔Cov (L2.map spS) t)
 rest:∀t,0<=t->t<32054400->yq t=wk->(Cov ((L1.filter λg=>g.kind==3).map spS) t↔Cov ((L2.filter λg=>g.kind==3).map spS) t)
end
section
variable {s:Setup} {n wk:Int} {L L1 L2:List Seg}
end
section
variable {s:Setup} {A B:List Ev} {e:Ev} {w wk:Int}
end
def InW (l:List Spn) (a b:Int):Prop:=∀t,Cov l t->a<=t/\t<b
theorem qJa:∀ {l:List Spn} {a b:Int},a<=b->PlainS l->InW l a b->0<=qq l/\qq l<=b - a
 | [],a,b,h,_,_=>by simp[qq];omega
 | x::l,a,b,h,e,d=>by
   have n:=e.pos x (.head _)
   have k:=d x.from_ ⟨x,.head _,by omega,by omega⟩
   have o:=d (x.to_ - 1) ⟨x,.head _,by omega,by omega⟩
   obtain ⟨j,f⟩:=List.pairwise_cons.1 e.gap
   have m:=qJa (l:=l) (a:=x.to_) (b:=b) (by omega) ⟨λs c=>e.pos s (.tail _ c),f⟩ λt ⟨s,c,i,g⟩=>by
    have:=j s c
    have:=d t ⟨s,.tail _ c,i,g⟩
    omega
   have:qq (x::l)=(x.to_ - x.from_)+qq l:=by simp[qq]
   omega
theorem j8a {l:List Spn} {a b:Int} (h:a<=b) (c:InW l a b):0<=qq (zw l)/\qq (zw l)<=b - a:=
 qJa h (j9 l) λt d=>c t ((jN l t).1 d).2.2
theorem Kf:∀ {l:List Spn} {n t:Int},Cov (w8 l n) t->Cov l t
 | [],n,t,h=>h
 | s::r,n,t,⟨x,a,c,b⟩=>by
   rw[w8] at a
   split at a
   ·cases a
   ·rcases List.mem_cons.1 a with rfl | a
    ·refine ⟨s,.head _,?_,?_⟩<;>(unfold wZ at c b;simp only at c b;omega)
    ·obtain ⟨y,d,q⟩:=Kf ⟨x,a,c,b⟩
     exact ⟨y,.tail _ d,q⟩
theorem Vg {l:List Spn} {n t:Int} (h:Cov (zE l n) t):Cov l t:=((jN l t).1 (Kf h)).2.2
theorem Kg {W:List Spn} {L:List Int} {n t:Int} (h:Cov (L.flatMap λd=>zE (qO W d) n) t):Cov W t:=by
 obtain ⟨x,a,q⟩:=h
 obtain ⟨d,_,b⟩:=List.mem_flatMap.1 a
 exact (Ke (Vg ⟨x,b,q⟩)).2.1
theorem via {s:Setup} {p:List Spn} {w t:Int} {j:Nat} (h:Cov (oj (yU s p w) j) t):Cov (zZ p w) t:=by
 match j with
 | 0=>exact Kg (Vg h)
 | 1=>exact Kg (ZL.1 h).2.1
 | j+2=>exact (ZL.1 h).2.1
theorem j9a {s:Setup} {l:List Spn} {t:Int} (h:Cov (qy s l) t):Cov l t:=by
 unfold qy at h
 split at h
 ·exact (Qx.1 h).2.1
 ·obtain ⟨x,a,_⟩:=h;cases a
theorem VZ {l:List Spn} {k:Int} {p:Pt} (h:p∈vU l k) {t:Int} (c:p.from_<=t) (a:t<p.to_):Cov l t:=by
 obtain ⟨x,b,rfl⟩:=List.mem_map.1 h
 exact ⟨x,b,c,a⟩
theorem qKa {s:Setup} {o:List Spn × List Spn × List Spn} {c:List Spn} {p:Pt} {t:Int} (b:p.from_<=t) (a:t<p.to_):∀ {j:Nat},p∈Zm s o c j->Cov c t∨∃i,Cov (oj o i) t
 | 0,h=> .inl (VZ h b a)
 | j+1,h=>by
   rcases List.mem_append.1 h with h | h
   ·rcases List.mem_append.1 h with h | h
    ·exact qKa b a h
    ·exact .inr ⟨j,(ZL.1 (VZ h b a)).2.1⟩
   ·exact .inr ⟨j,j9a (VZ h b a)⟩
theorem wTa {s:Setup} {L:List Seg} {wk k:Int}:0<=vV (xQ s L wk) k/\vV (xQ s L wk) k<=604800:=by
 have h:=j8a (l:=xU (xQ s L wk) k) (a:=wk*604800) (b:=(wk+1)*604800) (by omega) λt ⟨x,e,f,d⟩=>by
  obtain ⟨p,c,rfl⟩:=List.mem_map.1 e
  have c:=(List.mem_filter.1 c).1
  rcases qKa (t:=t) f d c with q | ⟨i,q⟩
  ·exact (Ke q).2.2
  ·exact (Ke (via q)).2.2
 have:(wk+1)*604800 - wk*604800=604800:=by omega
 rw[this] at h
 exact h
structure Money (s:Setup):Prop where
 rates:∀r∈s.rates,0<=r/\r<=100000
 diff:0<=s.diff/\s.diff<=100000
 least:0<=s.least/\s.least<=100000
 bonus:∀t∈s.tiers,0<=t.2/\t.2<=100000
theorem Yz:∀ {l:List Qm} {last:Int},jb last l=false->∀t∈l,0<=t.2/\t.2<=100000
 | [],_,_,_,h=>by cases h
 | x::l,last,a,t,h=>by
   rw[jb,Bool.or_eq_false_iff] at a
   rcases List.mem_cons.1 h with rfl | h
   ·have:=a.1
    unfold vj at this
    rw[Bool.or_eq_false_iff] at this
    exact wC (by simpa using this.2)
   ·exact Yz a.2 t h
theorem vja {s:Setup} (h:zz s=true):Money s:=by
 simp only[zz,kD,Bool.and_eq_true,Bool.not_eq_true'] at h
 obtain ⟨_,⟨⟨⟨_,d⟩,a⟩,_⟩,c⟩:=h
 exact ⟨λr b=>xo d b,xo a (by simp),xo a (by simp),Yz c⟩
theorem qLa (n:Int):0<=yf n/\yf n<=604800:=by unfold yf;omega
theorem Vh {n d:Int} (a:0<=n) (e:n<4611686018427387904) (h:0<d):(ji n d).1=n / d/\(ji n d).2=n % d:=by
 have c:n.tmod d=n % d:=Int.tmod_eq_emod_of_nonneg a
 have b:n.tdiv d=n / d:=Int.tdiv_eq_ediv_of_nonneg a
 have i:=Int.emod_nonneg n (show d≠0 by omega)
 have f:0<=n / d:=Int.ediv_nonneg a (by omega)
 have g:n / d<=n:=Int.ediv_le_self d a
 unfold ji
 rw[c,b,if_neg (by omega)]
 exact ⟨zt (by unfold Fit;omega),rfl⟩
theorem qMa {n d:Int} (a:0<=n) (b:n<4611686018427387904) (e:0<d) (f:d<4611686018427387904):0<=Kv n d/\Kv n d<=n+1:=by
 obtain ⟨c,g⟩:=Vh a b e
 have h:0<=n / d:=Int.ediv_nonneg a (by omega)
 have i:n / d<=n:=Int.ediv_le_self d a
 unfold Kv Qq
 rw[if_neg (by omega),c]
 split
 ·show 0<=wr (n / d+1)/\wr (n / d+1)<=n+1
  rw[zt (by unfold Fit;omega)];omega
 ·show 0<=n / d/\n / d<=n+1
  omega
theorem Zta {n d:Int} (a:0<=n) (e:n<4611686018427387904) (b:0<d):0<=(upI n d).1/\(upI n d).1<=n+1/\n<=(upI n d).1*d:=by
 obtain ⟨f,c⟩:=Vh a e b
 have g:=Int.emod_nonneg n (show d≠0 by omega)
 have k:=Int.emod_lt_of_pos n b
 have h:0<=n / d:=Int.ediv_nonneg a (by omega)
 have i:n / d<=n:=Int.ediv_le_self d a
 have j:n=n / d*d+n % d:=by have:=Int.mul_ediv_add_emod n d;rw[Int.mul_comm] at this;omega
 unfold upI
 rw[if_neg (by omega),f,c]
 split
 ·show 0<=wr (n / d+1)/\wr (n / d+1)<=n+1/\n<=wr (n / d+1)*d
  rw[zt (by unfold Fit;omega),Int.add_mul]
  omega
 ·show 0<=n / d/\n / d<=n+1/\n<=n / d*d
  omega
theorem qNa:∀ {l:List Int} {a:Int},0<=a->(∀x∈l,0<=x/\x<17592186044416)->a+17592186044416*l.length<4611686018427387904->ZT a l=(a+l.sum,0)
 | [],a,_,_,_=>by simp[ZT]
 | x::l,a,h,b,d=>by
   obtain ⟨i,g⟩:=b x (.head _)
   rw[List.length_cons] at d
   have f:wr (a+x)=a+x:=zt (by unfold Fit;omega)
   rw[ZT,f]
   have c:((decide (x>0)==decide (a+x>a)) || x==0)=true:=by
    have:decide (x>0)=decide (a+x>a):=decide_eq_decide.2 (by omega)
    rw[this,beq_self_eq_true,Bool.true_or]
   rw[if_pos c,qNa (by omega) (λy e=>b y (.tail _ e)) (by omega),List.sum_cons,Int.add_assoc]
theorem xaa {s:Setup} (m:Money s) {r:Int} (a:0<=r/\r<=100000) {j:Nat} (d:j<=6):0<=vP s r j/\vP s r j<=1000000:=by
 have e:=m.diff
 have t3:∀k:Int,0<=k->k<=3->0<=ZS r k/\ZS r k<=400000:=λk k0 k3=>by
  unfold ZS
  rw[zt (n:=k+1) (by unfold Fit;omega)]
  have c:0<=r*(k+1):=Int.mul_nonneg a.1 (by omega)
  have b:r*(k+1)<=100000*4:=Int.mul_le_mul a.2 (by omega) (by omega) (by omega)
  rw[zt (by unfold Fit;omega)]
  omega
 unfold vP
 split
 ·have:=t3 ((j:Int) - 3) (by omega) (by omega)
  rw[zt (n:=2*s.diff) (by unfold Fit;omega),zt (by unfold Fit;omega)]
  omega
 ·have:=t3 j (by omega) (by omega)
  omega
theorem vka {s:Setup} (m:Money s) (w:Nat):0<=yV s w/\yV s w<=100000:=by
 unfold yV
 rw[List.getD_eq_getElem?_getD]
 cases h:s.rates[w]? with
 | none=>exact ⟨by decide,by decide⟩
 | some r=>exact m.rates r (List.mem_of_getElem? h)
theorem vla {s:Setup} (m:Money s) (w:Nat) (t:Nat->Int) {j:Nat} (c:j<=6):0<=jK s w t j/\jK s w t j<17592186044416:=by
 unfold jK
 split
 ·exact ⟨by decide,by decide⟩
 ·have b:=qLa (t j)
  have a:=xaa m (vka m w) c
  have e:0<=yf (t j)*vP s (yV s w) j:=Int.mul_nonneg b.1 a.1
  have f:yf (t j)*vP s (yV s w) j<=604800*1000000:=Int.mul_le_mul b.2 a.2 a.1 (by omega)
  rw[zt (by unfold Fit;omega)]
  have:=qMa (n:=yf (t j)*vP s (yV s w) j) (d:=7200) e (by omega) (by omega) (by omega)
  omega
theorem xba {s:Setup} (m:Money s) (g tier:Int):(0<=jS s g tier/\jS s g tier<17592186044416)/\(tier<0->jS s g tier=0):=by
 unfold jS
 split
 ·rename_i h
  have b:=qLa g
  have a:0<=Jv s tier.toNat/\Jv s tier.toNat<=100000:=by
   unfold Jv
   rw[List.getD_eq_getElem?_getD]
   cases q:s.tiers[tier.toNat]? with
   | none=>exact ⟨by decide,by decide⟩
   | some r=>exact m.bonus r (List.mem_of_getElem? q)
  have c:0<=yf g*Jv s tier.toNat:=Int.mul_nonneg b.1 a.1
  have e:yf g*Jv s tier.toNat<=604800*100000:=Int.mul_le_mul b.2 a.2 a.1 (by omega)
  rw[zt (by unfold Fit;omega)]
  have:=qMa (n:=yf g*Jv s tier.toNat) (d:=3600) c (by omega) (by omega) (by omega)
  exact ⟨by omega,λq=>by omega⟩
 ·exact ⟨⟨by decide,by decide⟩,λ_=>rfl⟩
def wUa (b:Int) (f:Nat->Int):Nat->Int
 | 0=>b
 | n+1=>wr (wUa b f n+f n)
def YA (t:Nat->Int):Nat->Int
 | 0=>0
 | n+1=>if n=0 then YA t n else wr (YA t n+t n)
theorem vma {t:Nat->Int} (b:∀j,0<=t j/\t j<=604800):∀n,n<=7->YA t n=yh t n/\0<=yh t n/\yh t n<=604800*n
 | 0,_=>⟨rfl,by show (0:Int)<=0;omega,by show (0:Int)<=604800*((0:Nat):Int);omega⟩
 | n+1,e=>by
   obtain ⟨d,f,h⟩:=vma b n (by omega)
   have g:=b n
   have c:yf (t n)=t n:=by unfold yf;omega
   rw[YA,yh]
   by_cases a:n=0
   ·subst a
    rw[if_pos rfl,if_pos rfl]
    exact ⟨rfl,by omega,by omega⟩
   ·rw[if_neg a,if_neg a,c,d,zt (by unfold Fit;omega)]
    exact ⟨rfl,by omega,by omega⟩
structure PayOk (s:Setup) (t:Nat->Int) (p:PayR) (tier:Int):Prop where
 zero:p.pays 0=0
 sum:wUa (wr (p.extra+p.supp)) p.pays 7=p.total
 none:tier<0->p.extra=0
 least:wr (YA t 7*s.least)<=wr (p.total*3600)
theorem Zua {s:Setup} (q:zz s=true) (w:Nat) {t:Nat->Int} (z:∀j,0<=t j/\t j<=604800) (g tier:Int):PayOk s t (j4a s w t g tier) tier:=by
 have m:=vja q
 obtain ⟨J,o⟩:=xba m g tier
 have b:∀j,j<=6->0<=jK s w t j/\jK s w t j<17592186044416:=λj r=>vla m w t r
 obtain ⟨p,y,B⟩:=vma z 7 (Nat.le_refl _)
 have e:=m.least
 have f:0<=yh t 7*s.least:=Int.mul_nonneg y e.1
 have l:yh t 7*s.least<=604800*7*100000:=Int.mul_le_mul (by omega) e.2 e.1 (by omega)
 have i:wr (yh t 7*s.least)=yh t 7*s.least:=zt (by unfold Fit;omega)
 obtain ⟨K,I,H⟩:=Zta (n:=yh t 7*s.least) (d:=3600) f (by omega) (by omega)
 have A:=b 0 (by omega)
 have p1:=b 1 (by omega)
 have p2:=b 2 (by omega)
 have D:=b 3 (by omega)
 have F:=b 4 (by omega)
 have L:=b 5 (by omega)
 have G:=b 6 (by omega)
 have c:jK s w t 0=0:=rfl
 have a:ZT 0 [jK s w t 0,jK s w t 1,jK s w t 2,jK s w t 3,jK s w t 4,jK s w t 5,jK s w t 6,jS s g tier]=(0+[jK s w t 0,jK s w t 1,jK s w t 2,jK s w t 3,jK s w t 4,jK s w t 5,jK s w t 6,jS s g tier].sum,0):=
  qNa (by omega) (λx h=>by
   simp only[List.mem_cons,List.not_mem_nil,or_false] at h
   rcases h with rfl | rfl | rfl | rfl | rfl | rfl | rfl | rfl<;>assumption) (by simp only[List.length_cons,List.length_nil];omega)
 simp only[List.sum_cons,List.sum_nil] at a
 unfold j4a
 simp only[a,i]
 generalize jK s w t=P at*
 generalize jS s g tier=E at*
 generalize (upI (yh t 7*s.least) 3600).1=U at*
 clear a i
 have u:wr (U - (0+(P 0+(P 1+(P 2+(P 3+(P 4+(P 5+(P 6+(E+0))))))))))=U - (P 1+P 2+P 3+P 4+P 5+P 6+E):=by rw[zt (by unfold Fit;omega)];omega
 rw[u]
 generalize C:max 0 (U - (P 1+P 2+P 3+P 4+P 5+P 6+E))=S
 have v:0<=S/\U<=S+(P 1+P 2+P 3+P 4+P 5+P 6+E)/\S<=U:=by omega
 have k:wr (0+(P 0+(P 1+(P 2+(P 3+(P 4+(P 5+(P 6+(E+0))))))))+S)=P 1+P 2+P 3+P 4+P 5+P 6+E+S:=by rw[zt (by unfold Fit;omega)];omega
 rw[k]
 refine ⟨c,?_,o,?_⟩
 ·show wr (wr (wr (wr (wr (wr (wr (wr (E+S)+P 0)+P 1)+P 2)+P 3)+P 4)+P 5)+P 6)=_
  rw[zt (n:=E+S) (by unfold Fit;omega),zt (n:=E+S+P 0) (by unfold Fit;omega),zt (n:=E+S+P 0+P 1) (by unfold Fit;omega),zt (n:=E+S+P 0+P 1+P 2) (by unfold Fit;omega),zt (n:=E+S+P 0+P 1+P 2+P 3) (by unfold Fit;omega),zt (n:=E+S+P 0+P 1+P 2+P 3+P 4) (by unfold Fit;omega),zt (n:=E+S+P 0+P 1+P 2+P 3+P 4+P 5) (by unfold Fit;omega),zt (by unfold Fit;omega)]
  show E+S+P 0+P 1+P 2+P 3+P 4+P 5+P 6=P 1+P 2+P 3+P 4+P 5+P 6+E+S
  omega
 ·show wr (YA t 7*s.least)<=wr ((P 1+P 2+P 3+P 4+P 5+P 6+E+S)*3600)
  rw[p,zt (n:=yh t 7*s.least) (by unfold Fit;omega),zt (by unfold Fit;omega)]
  omega
def jn (e:Int):Prop:=e=0∨e=10∨e=20∨e=100
theorem zYa (n d:Int):jn (make n d).2:=by
 unfold make
 split
 ·exact .inr (.inr (.inl rfl))
 ·split
  ·exact .inl rfl
  ·split
   ·exact .inr (.inl rfl)
   ·exact .inl rfl
theorem JA (v:zx->zx->Int × Int) (a b:zx):jn (vi v a b).2:=by
 unfold vi
 split
 ·exact zYa _ _
 ·exact .inr (.inr (.inl rfl))
theorem vna:∀ {l:List zx} {o:zx},jn (JH o l).2
 | [],o=> .inl rfl
 | r::l,o=>by
   rw[JH]
   split
   ·exact JA _ _ _
   ·exact vna
theorem zZa (l:List zx):jn (kQ l).2:=by
 unfold kQ
 split
 ·exact vna
 ·exact .inr (.inr (.inl rfl))
theorem ZU {f:zx->zx->zx × Int} (d:∀a b,jn (f a b).2) {a b:zx} {e:Int} (c:jn e):jn (xl f a b e).2:=by
 unfold xl
 split
 ·exact d _ _
 ·exact c
theorem wVa {s:Setup} {e:Ev} {a:Int}:jn (vL s e a).2:=
 ZU (JA VO) (ZU (λ_ _=>zZa _) (ZU (JA VO) (ZU (λ_ _=>zZa _) (ZU (JA VO) (ZU (JA VO) (ZU (JA VO) (.inl rfl)))))))
theorem Zva {s:Setup} {e:Ev}:jn (jJ s e).2:=by
 unfold jJ
 split
 ·split
  ·exact .inr (.inr (.inr rfl))
  ·split
   ·exact .inl rfl
   ·exact wVa
 ·exact .inr (.inr (.inr rfl))
theorem ZV {z v:zx × Int} (b:jn z.2) (a:jn v.2):jn (zN z v).2:=by
 unfold zN
 split
 ·exact a
 ·exact b
theorem voa {s:Setup} {ev:List Ev}:∀(l:List Seg) (z:zx × Int),jn z.2->jn (l.foldl (λz g=>zN z ((0,1),(jJ s (vM ev g)).2)) z).2
 | [],_,h=>h
 | g::l,z,h=>voa l _ (ZV h Zva)
theorem vpa {c:Prop} [Decidable c] {a b:zx × Int} (d:jn a.2) (e:jn b.2):jn (if c then a else b).2:=by
 split<;>assumption
theorem Zwa {s:Setup} {ev:List Ev} {l:List Seg} {k:Int}:jn (Yf s ev l k).err:=by
 unfold Yf
 extract_lets sel eligible goals all0 all1 lost all2 all3 all4 done
 have h0:jn all0.2:=voa _ _ (.inl rfl)
 have c:jn all1.2:=ZV h0 (zZa _)
 have f:jn lost.2:=ZV c (zYa _ _)
 have a:jn all2.2:=ZV c f
 have d:jn all3.2:=vpa (ZV a (JA _ _ _)) a
 have b:jn all4.2:=vpa d d
 have g:jn done.2:=vpa (ZV (ZV b (zYa _ _)) (JA _ _ _)) b
 by_cases e:done.2=0
 ·rw[if_pos e];exact .inl rfl
 ·rw[if_neg e];exact g
theorem Zxa {s:Setup} {l:List Ev} {w k:Int}:jn (wj s l w k).err:=by
 unfold wj
 split
 ·exact Zwa
 ·exact .inl rfl
structure GrossOk (s:Setup) (R:RowV):Prop where
 bad:R.err=70∨R.err=80∨R.err=212->wUa (wr (R.extra+R.supp)) R.pays 7=0/\YA R.tot 7=0/\R.total=0/\R.tier= -1/\R.elig=0
 sum:¬ (R.err=70∨R.err=80∨R.err=212)->wUa (wr (R.extra+R.supp)) R.pays 7=R.total/\R.pays 0=0/\(0<=R.tier∨R.extra=0)/\((0<R.elig/\R.err=0)∨R.tier= -1)/\wr (YA R.tot 7*s.least)<=wr (R.total*3600)
theorem QTa (s:Setup) (l:List Ev) (w wk:Int):GrossOk s (qH s l w wk).1:=by
 unfold qH
 by_cases a:qY s w wk≠0
 ·rw[if_pos a]
  have g:qY s w wk=70∨qY s w wk=80∨qY s w wk=212:=by
   unfold qY at a⊢
   split
   ·exact .inl rfl
   ·split
    ·exact .inr (.inl rfl)
    ·split
     ·exact .inr (.inr rfl)
     ·rename_i h f m
      rw[if_neg h,if_neg f,if_neg m] at a
      exact absurd rfl a
  exact ⟨λ_=>⟨rfl,rfl,rfl,rfl,rfl⟩,λq=>absurd g q⟩
 ·rw[if_neg a]
  have d:zz s=true:=by
   have a:qY s w wk=0:=by omega
   unfold qY at a
   cases q:zz s
   ·rw[q] at a;cases a
   ·rfl
  have e:=Zxa (s:=s) (l:=evR s w l) (w:=(w.toNat:Int)) (k:=wk)
  have i:∀j:Nat,0<=vV (xQ s (zR s (evR s w l) (w.toNat:Int)).1 wk) j/\vV (xQ s (zR s (evR s w l) (w.toNat:Int)).1 wk) j<=604800:=λj=>wTa
  show GrossOk s (vha s (evR s w l) w.toNat wk)
  unfold vha
  extract_lets P tot tier p
  have b:PayOk s tot p tier:=Zua d _ i _ _
  have e:jn P.err:=e
  refine ⟨λq=>?_,λ_=>⟨b.sum,b.zero,?_,?_,b.least⟩⟩
  ·exfalso
   have q:P.err=70∨P.err=80∨P.err=212:=q
   unfold jn at e
   omega
  ·show 0<=tier∨p.extra=0
   by_cases n:0<=tier
   ·exact .inl n
   ·exact .inr (b.none (by omega))
  ·show (0<P.eligible/\P.err=0)∨tier= -1
   by_cases c:P.err=0/\0<P.eligible
   ·exact .inl ⟨c.2,c.1⟩
   ·exact .inr (if_neg c)
set_option maxRecDepth 100000
theorem wWa {P:Program} {f:FuncId} {x v:Value} (d:J7 P f=true) (c:∀w,Calls P f #[x] w λe w'=>e= .returned v/\w=w'):qX P f [.v x] (.v v):=λh=>by
 refine ⟨d,⟨_,_,⟨rfl,rfl⟩,.refl⟩,λφ k B w g vs j hB a=>?_⟩
 obtain ⟨u,r,rfl,i,b⟩:=a
 have i:u=x:=i
 have b:r=[]:=b
 subst i b
 refine (c w).mono ?_
 rintro e w' ⟨rfl,rfl⟩
 exact ⟨_,_,_,_,rfl,⟨rfl,rfl⟩,.refl,Good.refl j hB,rfl⟩
def qE (n:Int):Int:=wr ((wr (Go.Lib.bitLen (IntKind.wrap .u64 n).toNat+7)).tdiv 8)
theorem QUa (n:Int):qX Tryz.prog 69 [i64 n] (i64 (qE n)):=λh=>by
 have a:0<=IntKind.wrap .u64 n/\IntKind.wrap .u64 n<=18446744073709551615:=by
  rw[IntKind.wrap_u64];omega
 refine zf Tryz.f69 [.tmp 2] 8 rfl rfl rfl rfl rfl rfl (by decide) (⟨_,_,⟨rfl,rfl⟩,.refl⟩) λB=>?_
 simp only[go_sem]
 refine zd (wWa (by kernel_rfl) (λw=>xca (IntKind.wrap .u64 n) w a.1 a.2) _) ?_
 rintro _ b ⟨rfl,rfl⟩
 simp only[go_sem]
 (first | refine zc ?_ | refine ze ?_ (by rfl))<;>(simp only[go_sem,qE]<;>try rfl)
end Go.Proofs.YtfmldcilgbbimaaGreat.Ax
