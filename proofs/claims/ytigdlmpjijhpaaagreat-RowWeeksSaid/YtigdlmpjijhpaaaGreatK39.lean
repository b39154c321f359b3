/-
  Joined.
-/
import Derived.Test.YtigdlmpjijhpaaaGreatK37
import Derived.Test.YtigdlmpjijhpaaaGreatK31
import Derived.Test.YtigdlmpjijhpaaaGreatK27
import Derived.Test.YtigdlmpjijhpaaaGreatK32
import Derived.Test.YtigdlmpjijhpaaaGreatK23
import Derived.Test.YtigdlmpjijhpaaaGreatK33
import Derived.Test.YtigdlmpjijhpaaaGreatK21
import Derived.Test.YtigdlmpjijhpaaaGreatK38
import Derived.Lib.Strings
import Derived.Lib.Slices
import Derived.Lib.Small
import Derived.Lib.Walk
import Derived.Lib.BitFns
set_option linter.unusedSimpArgs false
set_option linter.unusedVariables false
namespace Go.Proofs.YtigdlmpjijhpaaaGreat.Ax
open Go Go.Proofs
set_option maxRecDepth 100000
def RowsK (h h':List Ob):Prop:=∀(id ty e:Nat) (xs:List (List AV)) (st:Nat),h[id]? =some (.row ty e xs st)->h'[id]? =some (.row ty e xs st)
theorem YI {o:Option Ob} {e:Nat} (h:eTl o=some e):∃ty xs st,o=some (.row ty e xs st):=by
 unfold eTl at h
 split at h
 ·injection h with h
  subst h
  exact ⟨_,_,_,rfl⟩
 ·cases h
theorem YJ {o:Option Ob} {st:Nat} {xs:List (List AV)} (h:KZ o st=some xs):∃ty e,o=some (.row ty e xs st):=by
 unfold KZ at h
 split at h
 ·split at h
  ·rename_i a
   injection h with h
   subst a h
   exact ⟨_,_,rfl⟩
  ·cases h
 ·cases h
theorem Kj {h h':List Ob} (k:RowsK h h'):∀(a:AV) {e:Nat},eOf h a=some e->eOf h' a=some e
 | .sl _ _,_,b=>b
 | .tl id st,e,b=>by
   rw[qR] at b⊢
   obtain ⟨ty,xs,st',d⟩:=YI b
   rw[k _ _ _ _ _ d];rfl
 | .vw a f i n,e,b=>by
   rw[ZN] at b⊢
   cases c:eOf h a with
   | none=>rw[c] at b;cases b
   | some ys=>
     rw[c] at b
     rw[Kj k a c]
     exact b
 | .v _,_,b | .em,_,b | .ptr _ _,_,b | .ep _ _ _ _,_,b | .mp _,_,b | .ag _,_,b | .tup _,_,b | .fn _ _ _,_,b | .bad,_,b=>by cases b
theorem JD {h h':List Ob} (k:RowsK h h'):∀(a:AV) {xs:List (List AV)},zo h a=some xs->zo h' a=some xs
 | .sl _ _,_,b=>b
 | .em,_,b=>b
 | .tl id st,xs,b=>by
   rw[zP] at b⊢
   obtain ⟨ty,e,f⟩:=YJ b
   rw[k _ _ _ _ _ f,xK,if_pos rfl]
 | .vw a e i n,xs,b=>by
   rw[xJ] at b⊢
   cases c:zo h a with
   | none=>rw[c] at b;cases b
   | some ys=>
     rw[c] at b
     rw[JD k a c]
     simp only[Option.bind_some] at b⊢
     split at b
     ·rename_i d
      rw[if_pos ⟨d.1,d.2.imp id (Kj k a)⟩]
      exact b
     ·cases b
 | .v x,_,b=>by rw[<-WP (h:=h)];exact b
 | .ptr _ _,_,b | .ep _ _ _ _,_,b | .mp _,_,b | .ag _,_,b | .tup _,_,b | .fn _ _ _,_,b | .bad,_,b=>by cases b
theorem SlOf.keep {h h':List Ob} (k:RowsK h h') {a:AV} {e:Nat} {xs:List (List AV)} (q:SlOf h a e xs):SlOf h' a e xs:=⟨JD k a q.rows,λb=>Kj k a (q.ee b)⟩
theorem RowsK.setB {h:List Ob} {i:Nat} {t:TypeId} {b:List AV} {o:Ob} (a:h[i]? =some (.box t b)):RowsK h (h.set i o):=λid ty e xs st q=>by
 have:i≠id:=λe=>by rw[e,q] at a;cases a
 rw[List.getElem?_set_ne this];exact q
structure RowV where
 worker:Int
 week:Int
 err:Int
 tot:Nat->Int
 pays:Nat->Int
 earned:zy
 perf:zy
 elig:Int
 tier:Int
 extra:Int
 supp:Int
 total:Int
def qda (r:RowV):List AV:=[i64 r.worker,i64 r.week,i64 r.err,i64 (r.tot 0),i64 (r.tot 1),i64 (r.tot 2),i64 (r.tot 3),i64 (r.tot 4),i64 (r.tot 5),i64 (r.tot 6),i64 (r.pays 0),i64 (r.pays 1),i64 (r.pays 2),i64 (r.pays 3),i64 (r.pays 4),i64 (r.pays 5),i64 (r.pays 6),i64 r.earned.1,i64 r.earned.2,i64 r.perf.1,i64 r.perf.2,i64 r.elig,i64 r.tier,i64 r.extra,i64 r.supp,i64 r.total]
abbrev jT (r:RowV) (a:AV):List AV:=[i64 r.worker,i64 r.week,i64 r.err,i64 (r.tot 0),i64 (r.tot 1),i64 (r.tot 2),i64 (r.tot 3),i64 (r.tot 4),i64 (r.tot 5),i64 (r.tot 6),i64 (r.pays 0),i64 (r.pays 1),i64 (r.pays 2),i64 (r.pays 3),i64 (r.pays 4),i64 (r.pays 5),i64 (r.pays 6),i64 r.earned.1,i64 r.earned.2,i64 r.perf.1,i64 r.perf.2,i64 r.elig,i64 r.tier,i64 r.extra,i64 r.supp,i64 r.total,a]
theorem qea {a b:List Pt} (h:a.Perm b) (k:Int):(jS a k).Perm (jS b k):=(h.filter _).map _
theorem xma {a b:List Pt} (h:a.Perm b) (k:Int):xj a k=xj b k:=by
 unfold xj
 rw[zIa λt _ _=>Qy (qea h k) t]
theorem xna (s:Setup) (L:List Seg) (w:Int) (h:L.length<=3001):(qB s L w).length<1048576:=by
 have m:=Yt s L
 have k:=Yu s L
 have g:(zH (jD s L) w).length<=(zt (jD s L)).length+1:=wL _ _ _
 have l:=zq (jD s L)
 have f:=Yx s (qL s L) w
 obtain ⟨o,d⟩:∃o,o=qY s (qL s L) w:=⟨_,rfl⟩
 rw[<-d] at f
 have key:∀j,(xF (zV (oj o j) (qc s (oj o j))) (1+j)).length+(xF (qc s (oj o j)) (4+j)).length<=3*(oj o j).length+1485:=λj=>by
  have a1:=qS (oj o j) (qc s (oj o j))
  have a2:=zq (oj o j)
  have a3:=zq (qc s (oj o j))
  have a4:=Q8 s (oj o j)
  rw[kU,kU];omega
 have k0:=key 0
 have k1:=key 1
 have k2:=key 2
 have b:oj o 0=o.1:=rfl
 have c:oj o 1=o.2.1:=rfl
 have a:oj o 2=o.2.2:=rfl
 have e:qB s L w=Zu s o (zH (jD s L) w) 3:=by rw[d];rfl
 rw[e,Zu,Zu,Zu,Zu]
 simp only[List.length_append]
 have i:=kU (zH (jD s L) w) 0
 rw[b] at k0;rw[c] at k1;rw[a] at k2
 rw[b,c,a]
 omega
def evR (s:Setup) (w:Int) (l:List Ev):List Ev:=(zx l).filter λe=> !yq s w e
theorem q0a (s:Setup) (w:Int) (l:List Ev):(evR s w l).length<=l.length:=by
 have a:=List.length_filter_le (λe=> !yq s w e) (zx l)
 have b:=(kK l).length_eq
 unfold evR;omega
def y9 (own:List Ev) (f:Flg):Int:=kQ (((own.find? λe=>e.id==f.id).map (·.at_)).getD 0)
def YK (w wk e:Int):RowV:=⟨w,wk,e,λ_=>0,λ_=>0,(0,0),(0,0),0, -1,0,0,0⟩
def ZRa (s:Setup) (own:List Ev) (w:Nat) (wk:Int):RowV:=
 let P:=yz s own w wk
 let tot:=λj:Nat=>xj (qB s (zR s own w).1 wk) j
 let tier:=if P.err=0/\0<P.eligible then xr s P.perf else -1
 let p:=w2a s w tot P.eligible tier
 ⟨w,wk,P.err,tot,p.pays,P.earned,P.perf,P.eligible,tier,p.extra,p.supp,p.total⟩
def qM (own:List Ev) (a:List Flg) (wk:Int):List Flg:=a.filter λf=>y9 own f==wk
def je (s:Setup) (l:List Ev) (w wk:Int):RowV × List Flg:=
 if xG s w wk≠0 then (YK w wk (xG s w wk),[]) else (ZRa s (evR s w l) w.toNat wk,qM (evR s w l) (zR s (evR s w l) w).2 wk)
structure RB (h h':List Ob) (s:Setup) (a:SA) (w:Int) (y:AV) (own:List Ev) (r:RowV) (fl:AV):Prop where
 pre:Pre h h'
 b0:h'[h.length]? =some (.box 30 (zr s a))
 b1:h'[h.length+1]? =some (.box 3 [i64 w])
 b2:h'[h.length+2]? =some (.box 45 (jT ⟨0,0,0,λ_=>0,λ_=>0,(0,0),(0,0),0,0,0,0,0⟩ (.v (.slice none 0 0))))
 b3:h'[h.length+3]? =some (.box 45 (jT r fl))
 sl:SlOf h' y 11 (own.map evC)
theorem RB.put {h h':List Ob} {s:Setup} {a:SA} {w:Int} {y:AV} {own:List Ev} {r:RowV} {d:AV} (k:RB h h' s a w y own r d) (c:RowV) (b:AV):RB h (h'.set (h.length+3) (.box 45 (jT c b))) s a w y own c b:=
 ⟨k.pre.set (by omega) rfl,by rw[List.getElem?_set_ne (by omega)];exact k.b0,by rw[List.getElem?_set_ne (by omega)];exact k.b1,by rw[List.getElem?_set_ne (by omega)];exact k.b2,zh k.b3,k.sl.keep (.setB k.b3)⟩
theorem RB.app {h h':List Ob} {s:Setup} {a:SA} {w:Int} {y:AV} {own:List Ev} {r:RowV} {b:AV} (k:RB h h' s a w y own r b) {M:List Ob} (c:NoRes M):RB h (h'++M) s a w y own r b:=
 ⟨k.pre.app c,zb k.b0,zb k.b1,zb k.b2,zb k.b3,k.sl.app M⟩
theorem yPa {h:List Ob} {id ty:Nat} {xs:List (List AV)} {st:Nat} {o:Ob} (d:h[id]? =some (.row ty 2 xs st)):∀(a:AV) {rows:List (List AV)},eOf h a=some 11->zo h a=some rows->eOf (h.set id o) a=some 11/\zo (h.set id o) a=some rows
 | .sl _ _,_,b,c=>⟨b,c⟩
 | .tl i s,rows,b,c=>by
   rw[qR] at b⊢
   rw[zP] at c⊢
   obtain ⟨k,xs',st',m⟩:=YI b
   have j:id≠i:=λq=>by rw[q,m] at d;injection d with d;injection d with _ d;cases d
   rw[List.getElem?_set_ne j]
   exact ⟨b,c⟩
 | .vw a e i n,rows,b,c=>by
   rw[ZN] at b⊢
   rw[xJ] at c⊢
   cases f:eOf h a with
   | none=>rw[f] at b;cases b
   | some p=>
     rw[f] at b
     simp only[Option.bind_some] at b
     split at b
     ·rename_i l
      injection b with b
      subst l
      subst b
      cases g:zo h a with
      | none=>rw[g] at c;cases c
      | some ys=>
        obtain ⟨k1,k2⟩:=yPa d a f g
        rw[k1,k2]
        rw[f,g] at c
        exact ⟨by simp,c⟩
     ·cases b
 | .v x,_,b,_=>by cases b
 | .em,_,b,_ | .ptr _ _,_,b,_ | .ep _ _ _ _,_,b,_ | .mp _,_,b,_ | .ag _,_,b,_ | .tup _,_,b,_ | .fn _ _ _,_,b,_ | .bad,_,b,_=>by cases b
theorem RB.setR {h h':List Ob} {s:Setup} {a:SA} {w:Int} {y:AV} {own:List Ev} {r:RowV} {d:AV} (k:RB h h' s a w y own r d) (c:own≠[]) {id ty:Nat} {xs:List (List AV)} {st:Nat} {o:Ob} (hid:h.length<=id) (b:h'[id]? =some (.row ty 2 xs st)) (e:o.isRes=false):RB h (h'.set id o) s a w y own r d:=by
 obtain ⟨k1,k2⟩:=yPa (o:=o) b y (k.sl.ee (by simpa using c)) k.sl.rows
 exact ⟨k.pre.set hid e,Zr (h0:=h) k.b0 b,Zr (h0:=h) k.b1 b,Zr (h0:=h) k.b2 b,Zr (h0:=h) k.b3 b,k2,λ_=>k1⟩
theorem JE {s:Setup} {l:List Ev} {w:Int}:(zR s l w).2.length<=3*l.length+1:=by
 have c:=qF l
 have b:szT (goP s w (zx l))<=szT ⟨none,[],[]⟩+3*(zx l).length:=zHa (zx l)
 have a:szT ⟨none,[],[]⟩=0:=rfl
 have d:=Qw (s:=s) (t:=goP s w (zx l)) (at_:=32054400)
 unfold zR
 split
 ·simp only[szT] at d b a⊢
  omega
 ·simp
theorem KE {own:List Ev} {F:List Flg} {wk:Int} {n:Nat} (h:n<F.length):qM own (F.take (n+1)) wk=if y9 own F[n]==wk then qM own (F.take n) wk++[F[n]] else qM own (F.take n) wk:=by
 unfold qM
 rw[show F.take (n+1)=F.take n++[F[n]] from (List.take_append_getElem h).symm,List.filter_append]
 cases a:y9 own F[n]==wk<;>simp[a]
theorem q1a {l:List Flg} {i:Nat} (h:i<l.length):(l.map xP)[i]? =some (xP l[i]):=by rw[List.getElem?_map,List.getElem?_eq_getElem h];rfl
theorem Jia (h:List Ob) (s:Setup) (a:SA) (k:SIn h s a) (f:SFit s) (x:AV) (l:List Ev) (w wk:Int) (hx:SlOf h x 11 (l.map evC)) (hl:l.length<=1000):
  ACalls Tryz.prog 17 [qj s a,x,i64 w,i64 wk] h λr h'=>∃L y,h'=h++L/\NoRes L/\r= .ag (qda (je s l w wk).1++[y])/\New h 2 y ((je s l w wk).2.map xP) L:=by
 have hex:∃r h',(∃L y,h'=h++L/\NoRes L/\r=AV.ag (qda (je s l w wk).1++[y])/\New h 2 y ((je s l w wk).2.map xP) L)/\ResK h h':=
  ⟨_,_,⟨[],.sl 2 _,rfl,jN,rfl,λ_ _=>⟨rfl,λ_=>rfl⟩⟩,zW⟩
 refine vu (N:=116) (rs:=[.cell 8 45]) (fn:=Tryz.f17) rfl rfl rfl rfl (Nat.le_of_ble_eq_true rfl) rfl (hex) λB=>?_
 refine qG (by decide) ?_
 simp only[go_sem,k.ones]
 refine vk (qG (by decide) ?_)
 simp only[go_sem]
 refine vk (qG (by decide) ?_)
 simp only[go_sem,k.ones]
 refine zd (ZQa _ s a (k.app _) f w wk) ?_
 rintro _ h1 ⟨rfl,rfl⟩
 simp only[go_sem]
 cases q0:xG s w wk != 0
 rotate_left
 ·have ν:xG s w wk≠0:=by simpa using q0
  have b:je s l w wk=(YK w wk (xG s w wk),[]):=by unfold je;rw[if_pos ν]
  rw[b]
  simp only[go_sem,zL]
  refine ⟨.ag (qda (YK w wk (xG s w wk))++[.v (.slice none 0 0)]),?_,.inl ⟨_,.v (.slice none 0 0),rfl,?_,rfl,?_⟩⟩
  ·simp only[go_sem]
   rfl
  ·exact zg rfl (zg rfl (zg rfl (zj rfl)))
  ·exact λh2 _=>⟨rfl,λh=>absurd rfl h⟩
 ·have U:xG s w wk=0:=by simpa using q0
  have b:je s l w wk=(ZRa s (evR s w l) w.toNat wk,qM (evR s w l) (zR s (evR s w l) w).2 wk):=by unfold je;rw[if_neg (by rw[U];simp)]
  rw[b]
  simp only[go_sem,zL,U]
  obtain ⟨θ,hw0,hw1⟩:zE s=true/\0<=w/\w<s.rates.length:=by
   unfold xG at U
   split at U
   ·cases U
   ·rename_i h1
    split at U
    ·cases U
    ·rename_i h2
     exact ⟨by simpa using h1,by omega,by omega⟩
  clear hex b
  have hol:=q0a s w l
  obtain ⟨own,I⟩:∃own,own=evR s w l:=⟨_,rfl⟩
  rw[<-I] at hol⊢
  refine vk (J1 (λt h'=>Pre h h'/\h'[h.length]? =some (.box 30 (zr s a))/\h'[h.length+1]? =some (.box 3 [i64 w])/\h'[h.length+2]? =some (.box 45 (jT ⟨0,0,0,λ_=>0,λ_=>0,(0,0),(0,0),0,0,0,0,0⟩ (.v (.slice none 0 0))))/\h'[h.length+3]? =some (.box 45 (jT (YK w wk 0) (.v (.slice none 0 0))))/\
    SlOf h' (t 10) 11 (own.map evC)/\t 3=i64 wk/\t 4= .ptr h.length 0/\t 6= .ptr (h.length+1) 0/\t 8= .ptr (h.length+2) 0/\t 9= .ptr (h.length+3) 0) (by decide) ?_ ?_)
  ·simp only[go_sem]
   refine zd (c57 _ x l (hx.app _) (by omega)) ?_
   rintro r h1 hr
   rcases hr with ⟨rfl,rfl,rfl⟩ | ⟨rfl,rfl⟩
   ·simp only[go_sem]
    refine zd (Q8a _ _ _) ?_
    rintro _ h1 ⟨rfl,rfl⟩
    simp only[go_sem]
    exact ⟨⟨_,rfl,zg rfl (zg rfl (zg rfl (zj rfl)))⟩,rfl,by rw[I];exact ⟨rfl,λh=>absurd rfl h⟩⟩
   ·simp only[go_sem]
    refine zd (c73 _ (h.length+4) 1 (zx l) 54 [.ptr (h.length+1) 0,.ptr h.length 0] (yq s w) (by rw[zl (k:=4) rfl];rfl) (by have:=(kK l).length_eq;omega) (λe _ o L=>Jga _ s a (by
      rw[List.set_append_right _ _ (by omega)]
      exact (k.app _).app _) h.length (h.length+1) w (zb (by rw[List.getElem?_set_ne (by omega),zm rfl];rfl)) (zb (by rw[List.getElem?_set_ne (by omega),zl (k:=1) rfl];rfl)) e)) ?_
    rintro r h1 ⟨l2,rfl,hr,τ⟩
    simp only[go_sem]
    rw[List.set_append_right _ _ (by omega),show h.length+4 - h.length=4 by omega] at τ
    exact ⟨⟨_,rfl,zg rfl (zg rfl (zg rfl (zg rfl (zj rfl))))⟩,rfl,by rw[I];exact τ⟩
  ·rintro T h' ⟨O,b0,b1,b2,b3,hy,t3,t4,t6,t8,t9⟩
   obtain ⟨y,t10⟩:∃y,T 10=y:=⟨_,rfl⟩
   rw[t10] at hy
   have hk:=O.sin k
   have hsl3:=JC (s:=s) (l:=own) (w:=w)
   refine qG (by decide) ?_
   simp only[go_sem,t4,t6,t10,b0,b1]
   refine zd (yda _ s a hk f y own w hy (by omega)) ?_
   rintro _ h2 ⟨rfl,e2⟩
   rw[e2]
   simp only[go_sem]
   refine vk (qG (by decide) ?_)
   simp only[go_sem,t3,t4,b0]
   refine zd (ZLa _ s a hk f θ _ (zR s own w).1 wk ⟨rfl,λ_=>rfl⟩ (by omega)) ?_
   rintro _ h3 ⟨⟨q,hq,rfl⟩,e3⟩
   rw[e3]
   have hql:q.length<1048576:=by
    rw[hq.length_eq]
    exact xna s _ wk (by omega)
   simp only[go_sem]
   refine zd (wZa _ _ q ⟨rfl,λ_=>rfl⟩ hql) ?_
   rintro _ h4 ⟨rfl,e4⟩
   rw[e4]
   have htot:(λj:Nat=>xj q j)=λj:Nat=>xj (qB s (zR s own w).1 wk) j:=by funext j;exact xma hq j
   obtain ⟨tot,htt⟩:∃tot,tot=λj:Nat=>xj (qB s (zR s own w).1 wk) j:=⟨_,rfl⟩
   rw[htot, <-htt]
   simp only[go_sem,t9,b3,YK,kF]
   have kb:=RB.put ⟨O,b0,b1,b2,b3,hy⟩ ⟨w,wk,0,tot,λ_=>0,(0,0),(0,0),0, -1,0,0,0⟩ (.v (.slice none 0 0))
   generalize hH:h'.set (h.length+3) (.box 45 (jT ⟨w,wk,0,tot,λ_=>0,(0,0),(0,0),0, -1,0,0,0⟩ (.v (.slice none 0 0))))=H at kb
   clear hH b0 b1 b2 b3 hy O hk
   have d0:=kb.b0
   have d1:=kb.b1
   have C:=kb.b3
   refine vk (qG (by decide) ?_)
   simp only[go_sem,t3,t4,t6,t10,d0,d1]
   refine zd (c15 _ s a (kb.pre.sin k) f y own w wk kb.sl (by omega)) ?_
   rintro _ h5 ⟨rfl,e5⟩
   rw[e5]
   obtain ⟨P,hP⟩:∃P,P=yz s own w wk:=⟨_,rfl⟩
   rw[<-hP]
   have E:∀o,(H.set (h.length+3) o)[h.length+3]? =some o:=λo=>zh C
   simp only[go_sem,t9,C,E,List.set_set]
   have kc:=kb.put ⟨w,wk,P.err,tot,λ_=>0,P.earned,P.perf,P.eligible, -1,0,0,0⟩ (.v (.slice none 0 0))
   generalize hH:H.set (h.length+3) (.box 45 (jT ⟨w,wk,P.err,tot,λ_=>0,P.earned,P.perf,P.eligible, -1,0,0,0⟩ (.v (.slice none 0 0))))=H2 at kc
   clear hH kb d0 d1 C E
   refine vk (J1 (λt h2=>∃Z,Z=(if P.err=0/\0<P.eligible then xr s P.perf else -1)/\RB h h2 s a w y own ⟨w,wk,P.err,tot,λ_=>0,P.earned,P.perf,P.eligible,Z,0,0,0⟩ (.v (.slice none 0 0))/\t 3=i64 wk/\t 4= .ptr h.length 0/\t 6= .ptr (h.length+1) 0/\t 8= .ptr (h.length+2) 0/\t 9= .ptr (h.length+3) 0/\t 10=y/\t 12= .sl 2 ((zR s own w).2.map xP)) (by decide) ?_ ?_)
   ·have d0:=kc.b0
    have C:=kc.b3
    cases q1:decide (P.err=0)
    ·have p1:¬ P.err=0:=of_decide_eq_false q1
     have α:(P.err==0)=false:=by simpa using p1
     simp only[go_sem,t9,C,α,zL]
     exact ⟨-1,by rw[if_neg (λq=>p1 q.1)],kc,t3,t4,t6,t8,t10⟩
    ·have p1:P.err=0:=of_decide_eq_true q1
     have α:(P.err==0)=true:=by simpa using p1
     cases q2:decide (P.eligible>0)
     ·have p2:¬ 0<P.eligible:=of_decide_eq_false q2
      simp only[go_sem,t9,C,α,q2,zL]
      exact ⟨-1,by rw[if_neg (λq=>p2 q.2)],kc,t3,t4,t6,t8,t10⟩
     ·have p2:0<P.eligible:=of_decide_eq_true q2
      have hfit:qa P.perf:=by
       have:=(wOa (w:=w) (k:=wk) (l:=own) θ (by omega) (by rw[<-hP];exact p1)).2
       rw[<-hP] at this
       exact ZGa this
      simp only[go_sem,t9,C,α,q2,zL,t4,d0]
      refine zd (c26 _ s a (kc.pre.sin k) f P.perf hfit) ?_
      rintro _ h6 ⟨rfl,e6⟩
      rw[e6]
      simp only[go_sem,t9,C]
      exact ⟨xr s P.perf,by rw[if_pos ⟨p1,p2⟩],kc.put ⟨w,wk,P.err,tot,λ_=>0,P.earned,P.perf,P.eligible,xr s P.perf,0,0,0⟩ _,t3,t4,t6,t8,t10⟩
   ·clear kc t3 t4 t6 t8 t9 t10
    rintro T h2 ⟨Z,htr,kd,t3,t4,t6,t8,t9,t10,S⟩
    have d0:=kd.b0
    have d1:=kd.b1
    have C:=kd.b3
    obtain ⟨u,hwn⟩:∃u:Nat,(u:Int)=w:=⟨w.toNat,by omega⟩
    subst hwn
    refine qG (by decide) ?_
    simp only[go_sem,t3,t4,t6,t9,d0,d1,C]
    refine zd (Xha _ s a (kd.pre.sin k) f θ u (by omega) tot P.eligible Z) ?_
    rintro _ h7 ⟨rfl,e7⟩
    rw[e7]
    obtain ⟨p,hp⟩:∃p,p=w2a s u tot P.eligible Z:=⟨_,rfl⟩
    rw[<-hp]
    have E:∀o,(h2.set (h.length+3) o)[h.length+3]? =some o:=λo=>zh C
    simp only[go_sem,w3a,t9,C,E,List.set_set,kF]
    have ke:=kd.put ⟨u,wk,P.err,tot,p.pays,P.earned,P.perf,P.eligible,Z,p.extra,p.supp,p.total⟩ (.v (.slice none 0 0))
    have b:ZRa s own u wk=⟨u,wk,P.err,tot,p.pays,P.earned,P.perf,P.eligible,Z,p.extra,p.supp,p.total⟩:=by
     rw[hp,htr,hP,htt];rfl
    rw[Int.toNat_natCast,b]
    generalize hH:h2.set (h.length+3) (.box 45 (jT ⟨u,wk,P.err,tot,p.pays,P.earned,P.perf,P.eligible,Z,p.extra,p.supp,p.total⟩ (.v (.slice none 0 0))))=H3 at ke
    obtain ⟨R,hR⟩:∃R:RowV,R=⟨u,wk,P.err,tot,p.pays,P.earned,P.perf,P.eligible,Z,p.extra,p.supp,p.total⟩:=⟨_,rfl⟩
    rw[<-hR] at ke⊢
    clear hH kd d0 d1 C E b
    have φ:= @j0a s own u
    obtain ⟨F,hF⟩:∃F,F=(zR s own u).2:=⟨_,rfl⟩
    have hFl:F.length<1048576:=by have:=JE (s:=s) (l:=own) (w:=u);rw[hF];omega
    rw[<-hF] at φ S⊢
    have hgo:qM own F wk=qM own (F.take F.length) wk:=by rw[List.take_length]
    rw[hgo]
    refine vk (qG (by decide) ?_)
    simp only[go_sem,S,List.length_map]
    refine zk (by decide) (λm T h'=>∃(n:Nat) (D:AV),n<=F.length/\RB h h' s a u y own R D/\OwnS h h' 105 2 D ((qM own (F.take n) wk).map xP)/\T 3=i64 wk/\T 8= .ptr (h.length+2) 0/\T 9= .ptr (h.length+3) 0/\T 10=y/\T 91= .sl 2 (F.map xP)/\T 92=i64 F.length/\T 93=i64 n/\m=F.length - n) F.length
     ⟨0,_,by omega,ke,.inl ⟨rfl,rfl⟩,by simp only[go_sem,t3],by simp only[go_sem,t8],by simp only[go_sem,t9],by simp only[go_sem,t10],by simp only[go_sem,S],by (simp only[go_sem]<;>rfl),by (simp only[go_sem]<;>rfl),rfl⟩ ?_
    clear ke t3 t4 t6 t8 t9 t10 S
    rintro m T h' ⟨n,D,hn,kf,ho,t3,t8,t9,t10,W,X,G,rfl⟩
    simp only[go_sem,X,G]
    refine ways (λe=>?_) (λe=>?_)
    ·have ι:=dlt e
     have b:=q1a ι
     have hkl:(n:Int)<F.length:=by omega
     have c:=KE (own:=own) (wk:=wk) ι
     obtain ⟨g,hg⟩:∃g,g=F[n]:=⟨_,rfl⟩
     obtain ⟨ev,hev1,β⟩:=φ F[n] (List.getElem_mem ι)
     rw[<-hg] at b c β
     simp only[go_sem,W,G,b,hkl,t10,List.length_map,Int.toNat_natCast,Int.natCast_nonneg]
     have V:=kf.app (M:=[.box 105 [i64 g.id,i64 g.kind]]) (zj rfl)
     have ξ:=ho.app [Ob.box 105 [i64 g.id,i64 g.kind]]
     have K:(h'++[Ob.box 105 [i64 g.id,i64 g.kind]])[h'.length]? =some (.box 105 [i64 g.id,i64 g.kind]):=by rw[zm rfl];rfl
     generalize hJ:h'++[Ob.box 105 [i64 g.id,i64 g.kind]]=J at V ξ K
     have hJl:h'.length<J.length:=by rw[<-hJ];simp
     refine zd (c42 _ y 62 [.ptr h'.length 0] (own.map evC) (λr=>(Vg r).id==g.id) (by rw[List.length_map];omega) (λr hr=>by obtain ⟨e,_,rfl⟩:=List.mem_map.1 hr;rfl) V.sl (λrow b L=>by
      obtain ⟨e,_,rfl⟩:=List.mem_map.1 b
      exact Jha _ h'.length g (zb K) e)) ?_
     rintro _ h8 ⟨rfl,e8⟩
     rw[e8]
     rcases X0 (λe=>e.id==g.id) own with ⟨_,q2⟩ | ⟨A,z,R2,q1,q2,q3,q4⟩
     ·have:=q2 ev hev1
      simp[β] at this
     ·rw[q2]
      have κ:A.length<own.length:=by rw[q1];simp
      have hfw:y9 own g=kQ z.at_:=by
       unfold y9
       have:own.find? (λe=>e.id==g.id)=some z:=by
        rw[q1,List.find?_append]
        rw[List.find?_eq_none.2 (λe U=>by simp[q4 e U])]
        simp[q3]
       rw[this];rfl
      have hrz:(own.map evC)[A.length]? =some (evC z):=by rw[q1];simp
      have hee:=V.sl.at (i:=A.length) (by rw[List.length_map];exact κ)
      have hrr:=V.sl.rows
      have hkl2:(A.length:Int)<own.length:=by omega
      simp only[go_sem,t3,t10,hrr,hee,hrz,hkl2,List.length_map,Int.toNat_natCast,Int.natCast_nonneg]
      refine zd (c17 z.at_ _) ?_
      rintro _ h9 ⟨rfl,e9⟩
      rw[e9]
      rw[hfw] at c
      simp only[go_sem,t3]
      refine ways (λe3=>?_) (λe3=>?_)
      ·rw[if_pos e3] at c
       have ν:own≠[]:=λq=>by rw[q] at κ;cases κ
       have Q:=V.b3
       have d:∀M,(J++M)[h.length+3]? =some (.box 45 (jT R D)):=λM=>zb Q
       have hgfM:∀M,(J++M)[h'.length]? =some (.box 105 [i64 g.id,i64 g.kind]):=λM=>zb K
       rcases ξ with ⟨rfl,ω⟩ | ⟨id,st,u1,rfl,u3⟩
       ·simp only[go_sem,t9,G,Q,d,K]
        refine ⟨F.length - (n+1),by omega,n+1,.tl (J.length+1) 0,by omega,(V.app (zg rfl (zj rfl))).put R _,?_,t3,t8,t10,W,X,zw (by omega) rfl,rfl⟩
        refine OwnS.setB (.inr ⟨_,0,?_,rfl,?_⟩) (d _)
        ·have:=V.pre.len;omega
        ·rw[c,List.map_append,ω,zl (k:=1) rfl];rfl
       ·have Y:∀M,(J++M)[id]? =some (.row 105 2 ((qM own (F.take n) wk).map xP) st):=λM=>zb u3
        have χ:(((qM own (F.take n) wk).map xP).length+1)*17<=140737488355328:=by
         have:=List.length_filter_le (λf=>y9 own f==wk) (F.take n)
         rw[List.length_take] at this
         rw[List.length_map]
         unfold qM
         omega
        have ζ:∀M o',((J++M).set id o')[h.length+3]? =some (.box 45 (jT R (.tl id st))):=λM o'=>Zr (h0:=h) (d M) (Y M)
        simp only[go_sem,t9,G,Q,d,K,Y,χ,ζ]
        refine ⟨F.length - (n+1),by omega,n+1,.tl id (st+1),by omega,RB.put ((V.app (zj rfl)).setR ν u1 (Y _) rfl) R _,?_,t3,t8,t10,W,X,zw (by omega) rfl,rfl⟩
        refine OwnS.setB (.inr ⟨id,st+1,u1,rfl,?_⟩) (ζ _ _)
        rw[c,List.map_append]
        exact zh (Y _)
      ·have e3':(kQ z.at_==wk)=false:=by simpa using e3
       rw[e3'] at c
       simp only[Bool.false_eq_true,if_false] at c
       simp only[go_sem,G]
       exact ⟨F.length - (n+1),by omega,n+1,D,by omega,V,by rw[c];exact ξ,t3,t8,t9,t10,W,X,zw (by omega) rfl,rfl⟩
    ·have hge:=jk e
     have hn2:n=F.length:=by omega
     subst hn2
     simp only[go_sem]
     refine vk (qv _ (by decide) ?_)
     have η:=kf.b2
     have Q:=kf.b3
     have hxo:=ho.rows.one
     simp only[go_sem,t8,t9,η,Q,hxo]
     have ho2:=ho.setB (o:= .box 45 (jT R D)) η
     have hp2:Pre h (h'.set (h.length+2) (.box 45 (jT R D))):=kf.pre.set (by omega) rfl
     have hb4:(h'.set (h.length+2) (.box 45 (jT R D)))[h.length+2]? =some (.box 45 (jT R D)):=zh η
     refine ⟨.ag (qda R++[D]),?_,.inl ?_⟩
     ·have hb5:(h'.set (h.length+2) (.box 45 [i64 R.worker,i64 R.week,i64 R.err,i64 (R.tot 0),i64 (R.tot 1),i64 (R.tot 2),i64 (R.tot 3),i64 (R.tot 4),i64 (R.tot 5),i64 (R.tot 6),i64 (R.pays 0),i64 (R.pays 1),i64 (R.pays 2),i64 (R.pays 3),i64 (R.pays 4),i64 (R.pays 5),i64 (R.pays 6),i64 R.earned.1,i64 R.earned.2,i64 R.perf.1,i64 R.perf.2,i64 R.elig,i64 R.tier,i64 R.extra,i64 R.supp,i64 R.total,D]))[h.length+2]? =some (.box 45 (jT R D)):=hb4
      simp only[go_sem,t8,hb5]
      rfl
     ·obtain ⟨L,hL,hN⟩:=hp2
      refine ⟨L,D,hL,hN,rfl,?_⟩
      rw[hL] at ho2
      exact ho2.new (Nat.le_refl _)
theorem Jja (h:List Ob) (s:Setup) (a:SA) (k:SIn h s a) (f:SFit s) (x:AV) (l:List Ev) (w wk:Int) (b:SlOf h x 11 (l.map evC)) (c:l.length<=1000):
  ACalls Tryz.prog 17 [qj s a,x,i64 w,i64 wk] h λr h'=>r= .ag (qda (je s l w wk).1++[.sl 2 ((je s l w wk).2.map xP)])/\h'=h:=
 KD (by decide) rfl (qca _) (Jia h s a k f x l w wk b c)
set_option maxRecDepth 100000
theorem qfa (h:List Ob) (x:AV) (rows:List (List AV)) (b:SlOf h x 1 rows) (o:rows.length<1099511627776) (k:(rows.all λr=>r.length==1 && r.all AV.one)=true):
  ACalls Tryz.prog 73 [x] h λr h'=>(rows=[]/\h'=h/\r= .v (.slice none 0 0))∨(h'=h++[.row 5 1 rows 1]/\r= .tl h.length 1):=by
 refine vu (N:=8) (rs:=[.tmp 2]) (fn:=Tryz.f73) rfl rfl rfl rfl (Nat.le_of_ble_eq_true rfl) rfl (⟨_,_,.inr ⟨rfl,rfl⟩,zW⟩) λB=>?_
 cases rows with
 | nil=>
   refine qza 0 rfl b.rows (λm=>?_) ?_
   ·refine qv _ (by decide) ?_;simp only[go_sem]
    exact ⟨.v (.slice none 0 0),by simp only[go_sem],.inl (.inl ⟨rfl,rfl⟩)⟩
   ·refine qv _ (by decide) ?_;simp only[go_sem]
    exact ⟨.tl h.length 1,by simp only[go_sem],.inl (.inr ⟨rfl,rfl⟩)⟩
 | cons y l=>
   have j:=b.at (i:=0) (by simp)
   have d:=b.rows
   have g:yH x=false:=by
    rcases WZ d with ⟨e,xs,rfl⟩ | ⟨i,s,rfl⟩ | ⟨a,e,i,n,rfl⟩<;>rfl
   unfold yH at g
   have c:∀L,zo (h++L) x=some (y::l):=λL=>(b.app L).rows
   have f:(y::l).length*2<=140737488355328:=by omega
   rw[List.length_cons] at f
   refine qv _ (by decide) ?_;simp only[go_sem,d,j,g,c,k,f,Bool.or_true,decide_true]
   exact ⟨.tl h.length 1,by simp only[go_sem],.inl (.inr ⟨rfl,rfl⟩)⟩
set_option maxRecDepth 100000
structure Fx where
 op:Int
 ev:Ev
abbrev fxC (x:Fx):List AV:=[i64 x.op,i64 x.ev.id,i64 x.ev.worker,i64 x.ev.at_,i64 x.ev.kind,i64 x.ev.from_,i64 x.ev.to_,i64 x.ev.element,i64 x.ev.units,i64 x.ev.class_,i64 x.ev.gear,i64 x.ev.code]
def Jka (x:Fx):Bool:=x.op==1 || x.op==3
def ZSa (x:Fx):Bool:=x.op==2 || x.op==3
theorem JF:∀ {l:List Ev},Srt l->zx l=l
 | [],_=>rfl
 | x::l,⟨a,c⟩=>by
   rw[zx,JF c]
   cases l with
   | nil=>rfl
   | cons y b=>rw[xY,a y (by simp)];rfl
theorem xoa (l:List Ev):zx (zx l)=zx l:=JF (xn l)
theorem V9 {n b:Int} (e:0<b):ofI n b=zO n 32054399 / b:=by
 have h0:0<=zO n 32054399:=by unfold zO;omega
 have a:zO n 32054399<=32054399:=by unfold zO;omega
 have d:0<=zO n 32054399 / b:=Int.ediv_nonneg h0 (by omega)
 have c:zO n 32054399 / b<=zO n 32054399:=Int.ediv_le_self b h0
 unfold ofI
 rw[Int.tdiv_eq_ediv_of_nonneg h0,zF (by unfold Fit;omega)]
theorem QF {a c b:Int} (d:0<b) (h:a<=c):ofI a b<=ofI c b:=by
 rw[V9 d,V9 d]
 exact Int.ediv_le_ediv d (by unfold zO;omega)
theorem vAa {t:Int} (h0:0<=t) (a:t<32054400):zO t 32054399=t:=by unfold zO;omega
theorem vBa {t d:Int} (h0:0<=t) (a:t<32054400) (c:d*86400<=t) (b:t<(d+1)*86400):qx t=d/\kQ t=d / 7:=by
 unfold kQ qx
 rw[V9 (by decide),V9 (by decide),vAa h0 a]
 omega
theorem vCa {o:List Int} {d:Int} (h:∀x,o.getLast? =some x->x<=d):d∈yl o d/\(∀x∈o,x∈yl o d)/\∀x,(yl o d).getLast? =some x->x=d:=by
 unfold yl
 cases b:o.getLast? with
 | none=>
   rw[List.getLast?_eq_none_iff] at b
   subst b
   exact ⟨.head _,λx a=>(by cases a),λx a=>by simpa using a.symm⟩
 | some y=>
   have c:=h y b
   simp only
   split
   ·exact ⟨by simp,λx a=>by simp[a],λx a=>by simpa using a.symm⟩
   ·have e:y=d:=by omega
    subst e
    exact ⟨List.mem_of_getLast? b,λ_ h=>h,λx a=>by rw[b] at a;injection a with a;exact a.symm⟩
theorem YL {o:List Int} {a:Int} (h:∀x,o.getLast? =some x->x<=a):∀k:Nat,(∀x∈o,x∈ZV o a k)/\(∀j:Nat,j<k->a+j∈ZV o a k)/\∀x,(ZV o a k).getLast? =some x->x<=a+(k:Int) - 1∨x<=a
 | 0=>⟨λ_ h=>h,λj f=>by omega,λx b=> .inr (h x b)⟩
 | k+1=>by
   obtain ⟨i,g,e⟩:=YL h k
   obtain ⟨k1,k2,k3⟩:=vCa (o:=ZV o a k) (d:=a+k) (λx b=>by have:=e x b;omega)
   rw[ZV]
   refine ⟨λx b=>k2 x (i x b),λj f=>?_,λx b=> .inl ?_⟩
   ·by_cases c:j=k
    ·subst c;exact k1
    ·exact k2 _ (g j (by omega))
   ·have:=k3 x b
    omega
theorem Vm:∀(L:List Spn) (o:List Int),PlainS L->(∀s∈L,0<=s.from_/\s.from_<s.to_/\s.to_<=32054400)->(∀x,o.getLast? =some x->∀s∈L,x<=qx s.from_)->(∀x∈o,x∈L.foldl jx o)/\∀s∈L,∀t,s.from_<=t->t<s.to_->qx t∈L.foldl jx o
 | [],o,_,_,_=>⟨λ_ h=>h,λ_ h=>by cases h⟩
 | s::L,o,g,j,n=>by
   rw[List.foldl_cons]
   have q:=j s (.head _)
   obtain ⟨l,m,k⟩:=YL (o:=o) (a:=qx s.from_) (λx b=>n x b s (.head _)) (qx (s.to_ - 1) - qx s.from_+1).toNat
   have f:qx s.from_<=qx (s.to_ - 1):=QF (by decide) (by omega)
   have e:=Vm L (jx o s) g.tail (λx b=>j x (.tail _ b)) (λx b y c=>by
    have d:=k x b
    have i:=(List.pairwise_cons.1 g.gap).1 y c
    have p:qx (s.to_ - 1)<=qx y.from_:=QF (by decide) (by omega)
    omega)
   refine ⟨λx b=>e.1 x (l x b),λy c t d i=>?_⟩
   rcases List.mem_cons.1 c with rfl | c
   ·have u:qx y.from_<=qx t:=QF (by decide) d
    have r:qx t<=qx (y.to_ - 1):=QF (by decide) (by omega)
    have:=m (qx t - qx y.from_).toNat (by omega)
    rw[show qx y.from_+((qx t - qx y.from_).toNat:Int)=qx t by omega] at this
    exact e.1 _ this
   ·exact e.2 y c t d i
theorem YM {l:List Spn} {t:Int} (h0:0<=t) (a:t<32054400) (h:Cov l t):qx t∈zD l:=by
 obtain ⟨s,b,k1,k2⟩:=(qg l t).2 ⟨h0,a,h⟩
 exact (Vm (zt l) [] (qK l) jC (λ_ h=>by cases h)).2 s b t k1 k2
theorem yea {a b t:Int}:Cov [⟨a,b⟩] t↔a<=t/\t<b:=by
 rw[qw]
 simp[ye]
theorem kV {a:List Spn} {n size t:Int} (h:Cov (jR a n size) t):(0<=t/\t<32054400)/\Cov a t/\n*size<=t/\t<(n+1)*size:=by
 unfold jR at h
 split at h
 ·exact absurd h ye
 ·rw[wK,yea] at h
  exact ⟨h.1,h.2.1,h.2.2⟩
section
variable {s:Setup} {L L1 L2:List Seg} {wk d t:Int}
structure SameW (L1 L2:List Seg) (wk:Int):Prop where
 clock:∀t,0<=t->t<32054400->kQ t=wk->(Cov (L1.map spS) t↔Cov (L2.map spS) t)
 rest:∀t,0<=t->t<32054400->kQ t=wk->(Cov ((L1.filter λg=>g.kind==3).map spS) t↔Cov ((L2.filter λg=>g.kind==3).map spS) t)
theorem qga {k:Int} (h:Cov (xi L k) t):Cov (zG L) t:=by
 unfold xi at h
 unfold zG
 rw[qg] at h⊢
 obtain ⟨h0,b,x,a,c⟩:=h
 obtain ⟨g,d,rfl⟩:=List.mem_map.1 a
 exact ⟨h0,b,_,List.mem_map.2 ⟨g,(List.mem_filter.1 d).1,rfl⟩,c⟩
theorem qha (h:Cov (jl s L d) t):(0<=t/\t<32054400)/\Cov (zG L) t/\d*86400<=t/\t<(d+1)*86400:=by
 have key:Cov (qI (zG L) d) t∨Cov (qI (xi L 3) d) t:=by
  unfold jl xB at h
  rw[qg,VY] at h
  rcases h.2.2 with q | q
  ·exact .inr (qn.1 q).2.1
  ·unfold vV at q
   split at q
   ·unfold yU at q
    split at q
    ·exact absurd q ye
    ·exact .inl (qn.1 (qn.1 q).2.1).2.1
   ·exact absurd q ye
 rcases key with q | q
 ·exact kV q
 ·obtain ⟨b,c,a⟩:=kV q
  exact ⟨b,qga c,a⟩
theorem q2a (h:Cov (qJ s L d) t):(0<=t/\t<32054400)/\Cov (zG L) t/\d*86400<=t/\t<(d+1)*86400:=by
 unfold qJ at h
 exact kV (qn.1 h).2.1
theorem Kk {f:Int->List Spn}:∀ {l:List Int},Cov (l.flatMap f) t↔∃d∈l,Cov (f d) t
 | []=>by simp[ye]
 | x::l=>by rw[List.flatMap_cons,VY,Kk];simp
theorem vDa (h0:0<=t) (b:t<32054400):Cov (qL s L) t↔Cov (qJ s L (qx t)) t:=by
 unfold qL
 rw[qg,Kk]
 constructor
 ·rintro ⟨_,_,d,_,a⟩
  obtain ⟨_,_,e,c⟩:=q2a a
  rw[(vBa h0 b e c).1]
  exact a
 ·intro a
  exact ⟨h0,b,_,YM h0 b (q2a a).2.1,a⟩
theorem vEa (h0:0<=t) (b:t<32054400):Cov (jD s L) t↔Cov (jl s L (qx t)) t:=by
 unfold jD
 rw[qg,Kk]
 constructor
 ·rintro ⟨_,_,d,_,a⟩
  obtain ⟨_,_,e,c⟩:=qha a
  rw[(vBa h0 b e c).1]
  exact a
 ·intro a
  exact ⟨h0,b,_,YM h0 b (qha a).2.1,a⟩
end
section
variable {s:Setup} {n wk:Int} {L L1 L2:List Seg}
end
section
variable {s:Setup} {A B:List Ev} {e:Ev} {w wk:Int}
end
def InW (l:List Spn) (a b:Int):Prop:=∀t,Cov l t->a<=t/\t<b
theorem q3a:∀ {l:List Spn} {a b:Int},a<=b->PlainS l->InW l a b->0<=qf l/\qf l<=b - a
 | [],a,b,h,_,_=>by simp[qf];omega
 | x::l,a,b,h,d,e=>by
   have o:=d.pos x (.head _)
   have n:=e x.from_ ⟨x,.head _,by omega,by omega⟩
   have k:=e (x.to_ - 1) ⟨x,.head _,by omega,by omega⟩
   obtain ⟨f,i⟩:=List.pairwise_cons.1 d.gap
   have m:=q3a (l:=l) (a:=x.to_) (b:=b) (by omega) ⟨λs c=>d.pos s (.tail _ c),i⟩ λt ⟨s,c,j,g⟩=>by
    have:=f s c
    have:=e t ⟨s,.tail _ c,j,g⟩
    omega
   have:qf (x::l)=(x.to_ - x.from_)+qf l:=by simp[qf]
   omega
theorem xpa {l:List Spn} {a b:Int} (h:a<=b) (c:InW l a b):0<=qf (zt l)/\qf (zt l)<=b - a:=
 q3a h (qK l) λt d=>c t ((qg l t).1 d).2.2
theorem Kl:∀ {l:List Spn} {n t:Int},Cov (kz l n) t->Cov l t
 | [],n,t,h=>h
 | s::r,n,t,⟨x,a,b,c⟩=>by
   rw[kz] at a
   split at a
   ·cases a
   ·rcases List.mem_cons.1 a with rfl | a
    ·refine ⟨s,.head _,?_,?_⟩<;>(unfold xU at b c;simp only at b c;omega)
    ·obtain ⟨y,d,q⟩:=Kl ⟨x,a,b,c⟩
     exact ⟨y,.tail _ d,q⟩
theorem Jb {l:List Spn} {n t:Int} (h:Cov (zC l n) t):Cov l t:=((qg l t).1 (Kl h)).2.2
theorem ZZ {W:List Spn} {L:List Int} {n t:Int} (h:Cov (L.flatMap λd=>zC (qI W d) n) t):Cov W t:=by
 obtain ⟨x,a,q⟩:=h
 obtain ⟨d,_,b⟩:=List.mem_flatMap.1 a
 exact (kV (Jb ⟨x,b,q⟩)).2.1
theorem vFa {s:Setup} {p:List Spn} {w t:Int} {j:Nat} (h:Cov (oj (qY s p w) j) t):Cov (zH p w) t:=by
 match j with
 | 0=>exact ZZ (Jb h)
 | 1=>exact ZZ (qn.1 h).2.1
 | j+2=>exact (qn.1 h).2.1
theorem Vn {s:Setup} {l:List Spn} {t:Int} (h:Cov (qc s l) t):Cov l t:=by
 unfold qc at h
 split at h
 ·exact (wK.1 h).2.1
 ·obtain ⟨x,a,_⟩:=h;cases a
theorem Wa {l:List Spn} {k:Int} {p:Pt} (h:p∈xF l k) {t:Int} (c:p.from_<=t) (b:t<p.to_):Cov l t:=by
 obtain ⟨x,a,rfl⟩:=List.mem_map.1 h
 exact ⟨x,a,c,b⟩
theorem q4a {s:Setup} {o:List Spn × List Spn × List Spn} {c:List Spn} {p:Pt} {t:Int} (a:p.from_<=t) (b:t<p.to_):∀ {j:Nat},p∈Zu s o c j->Cov c t∨∃i,Cov (oj o i) t
 | 0,h=> .inl (Wa h a b)
 | j+1,h=>by
   rcases List.mem_append.1 h with h | h
   ·rcases List.mem_append.1 h with h | h
    ·exact q4a a b h
    ·exact .inr ⟨j,(qn.1 (Wa h a b)).2.1⟩
   ·exact .inr ⟨j,Vn (Wa h a b)⟩
theorem Jya {s:Setup} {L:List Seg} {wk k:Int}:0<=xj (qB s L wk) k/\xj (qB s L wk) k<=604800:=by
 have h:=xpa (l:=jS (qB s L wk) k) (a:=wk*604800) (b:=(wk+1)*604800) (by omega) λt ⟨x,f,d,e⟩=>by
  obtain ⟨p,c,rfl⟩:=List.mem_map.1 f
  have c:=(List.mem_filter.1 c).1
  rcases q4a (t:=t) d e c with q | ⟨i,q⟩
  ·exact (kV q).2.2
  ·exact (kV (vFa q)).2.2
 have:(wk+1)*604800 - wk*604800=604800:=by omega
 rw[this] at h
 exact h
structure Money (s:Setup):Prop where
 rates:∀r∈s.rates,0<=r/\r<=100000
 diff:0<=s.diff/\s.diff<=100000
 least:0<=s.least/\s.least<=100000
 bonus:∀t∈s.tiers,0<=t.2/\t.2<=100000
def yfa (b:Int) (f:Nat->Int):Nat->Int
 | 0=>b
 | n+1=>wr (yfa b f n+f n)
def vGa (t:Nat->Int):Nat->Int
 | 0=>0
 | n+1=>if n=0 then vGa t n else wr (vGa t n+t n)
structure PayOk (s:Setup) (t:Nat->Int) (p:PayR) (tier:Int):Prop where
 zero:p.pays 0=0
 sum:yfa (wr (p.extra+p.supp)) p.pays 7=p.total
 none:tier<0->p.extra=0
 least:wr (vGa t 7*s.least)<=wr (p.total*3600)
structure GrossOk (s:Setup) (R:RowV):Prop where
 bad:R.err=70∨R.err=80∨R.err=212->yfa (wr (R.extra+R.supp)) R.pays 7=0/\vGa R.tot 7=0/\R.total=0/\R.tier= -1/\R.elig=0
 sum:¬ (R.err=70∨R.err=80∨R.err=212)->yfa (wr (R.extra+R.supp)) R.pays 7=R.total/\R.pays 0=0/\(0<=R.tier∨R.extra=0)/\((0<R.elig/\R.err=0)∨R.tier= -1)/\wr (vGa R.tot 7*s.least)<=wr (R.total*3600)
open Classical in
noncomputable def cnt (p:Int->Prop):Nat->Int
 | 0=>0
 | n+1=>cnt p n+if p (n:Int) then 1 else 0
theorem xq {p q:Int->Prop}:∀ {n:Nat},(∀t:Int,0<=t->t<n->(p t↔q t))->cnt p n=cnt q n
 | 0,_=>rfl
 | n+1,h=>by
   have d:=xq (n:=n) λt h0 e=>h t h0 (by omega)
   have b:=h n (by omega) (by omega)
   simp only[cnt,d]
   by_cases a:p (n:Int)
   ·rw[if_pos a,if_pos (b.1 a)]
   ·rw[if_neg a,if_neg λc=>a (b.2 c)]
theorem Z0 {p q:Int->Prop}:∀ {n:Nat},(∀t:Int,0<=t->t<n->¬ (p t/\q t))->cnt (λt=>p t∨q t) n=cnt p n+cnt q n
 | 0,_=>rfl
 | n+1,h=>by
   have d:=Z0 (n:=n) λt h0 e=>h t h0 (by omega)
   have c:=h n (by omega) (by omega)
   simp only[cnt,d]
   by_cases a:p (n:Int)
   ·have b:¬ q (n:Int):=λq=>c ⟨a,q⟩
    simp only[a,b,true_or,if_true,if_false]
    omega
   ·by_cases b:q (n:Int)
    ·simp only[a,b,or_true,if_true,if_false]
     omega
    ·simp only[a,b,or_false,if_false]
     omega
theorem Km {p:Int->Prop}:∀ {n:Nat},(∀t:Int,0<=t->t<n->¬ p t)->cnt p n=0
 | 0,_=>rfl
 | n+1,h=>by
   have a:=Km (n:=n) λt h0 c=>h t h0 (by omega)
   have b:=h n (by omega) (by omega)
   simp only[cnt,a,b,if_false]
   rfl
theorem vHa {a b:Int} (e:0<=a) (c:a<=b):∀ {n:Nat},cnt (λt=>a<=t/\t<b) n=max 0 (min b n - a)
 | 0=>by simp only[cnt];omega
 | n+1=>by
   have d:=vHa e c (n:=n)
   simp only[cnt,d]
   by_cases h:a<=(n:Int)/\(n:Int)<b
   ·rw[if_pos h];omega
   ·rw[if_neg h];omega
theorem YN {n:Nat}:∀ {l:List Spn},PlainS l->(∀s∈l,0<=s.from_/\s.to_<=n)->qf l=cnt (Cov l) n
 | [],_,_=>by
   rw[Km λt _ _ ⟨s,a,_⟩=>by cases a]
   rfl
 | x::l,b,c=>by
   obtain ⟨e,j⟩:=List.pairwise_cons.1 b.gap
   have g:=YN (n:=n) (l:=l) ⟨λs a=>b.pos s (.tail _ a),j⟩ λs a=>c s (.tail _ a)
   have i:=c x (.head _)
   have d:=b.pos x (.head _)
   have f:cnt (Cov (x::l)) n=cnt (λt=>(x.from_<=t/\t<x.to_)∨Cov l t) n:=xq λt _ _=>by
    constructor
    ·rintro ⟨s,a,q⟩
     rcases List.mem_cons.1 a with rfl | a
     ·exact .inl q
     ·exact .inr ⟨s,a,q⟩
    ·rintro (q | ⟨s,a,q⟩)
     ·exact ⟨x,.head _,q⟩
     ·exact ⟨s,.tail _ a,q⟩
   have h:cnt (λt=>(x.from_<=t/\t<x.to_)∨Cov l t) n=cnt (λt=>x.from_<=t/\t<x.to_) n+cnt (Cov l) n:=Z0 λt _ _ q=>by
    obtain ⟨⟨p,m⟩,s,a,o,k⟩:=q
    have:=e s a
    omega
   rw[f,h,vHa i.1 (by omega), <-g]
   have:qf (x::l)=(x.to_ - x.from_)+qf l:=by simp[qf]
   omega
theorem YO (l:List Spn):qf (zt l)=cnt (Cov l) 32054400:=by
 rw[YN (n:=32054400) (qK l) λs a=>?_]
 ·exact xq λt h0 b=>by
   rw[qg]
   exact ⟨λq=>q.2.2,λq=>⟨h0,b,q⟩⟩
 ·have d:=(qK l).pos s a
  have b:=(qg l s.from_).1 ⟨s,a,by omega,by omega⟩
  have c:=(qg l (s.to_ - 1)).1 ⟨s,a,by omega,by omega⟩
  exact ⟨b.1,by have:=c.2.1;omega⟩
theorem xqa (a b:List Pt) (k:Int):jS (a++b) k=jS a k++jS b k:=by simp[jS]
theorem xra (l:List Spn) (j k:Int):jS (xF l j) k=if j=k then l else []:=by
 unfold jS xF
 by_cases h:j=k
 ·subst h
  rw[if_pos rfl,List.filter_eq_self.2 λp a=>by
   obtain ⟨x,_,rfl⟩:=List.mem_map.1 a
   exact beq_self_eq_true _]
  rw[List.map_map]
  induction l with
  | nil=>rfl
  | cons x l b=>rw[List.map_cons,b];rfl
 ·rw[if_neg h,List.filter_eq_nil_iff.2 λp a=>by
   obtain ⟨x,_,rfl⟩:=List.mem_map.1 a
   simpa using h]
  rfl
theorem Jc (s:Setup) (l:List Spn):cnt (Cov (zV l (qc s l))) 32054400+cnt (Cov (qc s l)) 32054400=cnt (Cov l) 32054400:=by
 rw[<-Z0 λt _ _ q=>(qn.1 q.1).2.2 q.2]
 refine xq λt h0 b=>?_
 constructor
 ·rintro (q | q)
  ·exact (qn.1 q).2.1
  ·exact Vn q
 ·intro q
  by_cases a:Cov (qc s l) t
  ·exact .inr a
  ·exact .inl (qn.2 ⟨⟨h0,by omega⟩,q,a⟩)
theorem JG:∀ {l:List Spn} {n m t:Int},(∀s∈l,s.from_<s.to_/\s.to_ - s.from_<=32054400)->n<=m->Cov (kz l n) t->Cov (kz l m) t
 | [],_,_,_,_,_,h=>h
 | s::r,n,m,t,e,i,⟨x,b,c,d⟩=>by
   obtain ⟨p1,p2⟩:=e s (.head _)
   rw[kz] at b⊢
   by_cases f:n<=0
   ·rw[if_pos f] at b;cases b
   ·rw[if_neg f] at b
    rw[if_neg (by omega)]
    rcases List.mem_cons.1 b with rfl | b
    ·refine ⟨_,.head _,?_,?_⟩<;>(unfold xU at c d ⊢;simp only at c d ⊢;omega)
    ·have a:n - ((xU s n).to_ - s.from_)<=m - ((xU s m).to_ - s.from_)∨n - ((xU s n).to_ - s.from_)<=0:=by
      unfold xU;simp only;omega
     rcases a with a | a
     ·obtain ⟨y,j,q⟩:=JG (λs g=>e s (.tail _ g)) a ⟨x,b,c,d⟩
      exact ⟨y,.tail _ j,q⟩
     ·cases r with
      | nil=>cases b
      | cons z r=>rw[kz,if_pos a] at b;cases b
theorem qia (l:List Spn):∀s∈zt l,s.from_<s.to_/\s.to_ - s.from_<=32054400:=λs a=>by
 have b:=(qK l).pos s a
 have d:=(qg l s.from_).1 ⟨s,a,by omega,by omega⟩
 have c:=(qg l (s.to_ - 1)).1 ⟨s,a,by omega,by omega⟩
 exact ⟨b,by have:=c.2.1;omega⟩
theorem yga {s:Setup} (h:s.dayReg<=s.dayOver) {W:List Spn} {L:List Int} {t:Int} (q:Cov (vt s W L) t):Cov (kD s W L) t:=by
 obtain ⟨x,a,e,c⟩:=q
 obtain ⟨d,b,a⟩:=List.mem_flatMap.1 a
 obtain ⟨y,f,q⟩:=JG (qia _) h ⟨x,a,e,c⟩
 exact ⟨y,List.mem_flatMap.2 ⟨d,b,f⟩,q⟩
theorem vIa {s:Setup} (h:s.dayReg<=s.dayOver) (p:List Spn) (k:Int):
  cnt (Cov (oj (qY s p k) 0)) 32054400+cnt (Cov (oj (qY s p k) 1)) 32054400+cnt (Cov (oj (qY s p k) 2)) 32054400=cnt (Cov (zH p k)) 32054400:=by
 have g:oj (qY s p k) 0=zC (vt s (zH p k) (zD (zH p k))) s.weekReg:=rfl
 have i:oj (qY s p k) 1=zV (kD s (zH p k) (zD (zH p k))) (oj (qY s p k) 0):=rfl
 have f:oj (qY s p k) 2=zV (zH p k) (kD s (zH p k) (zD (zH p k))):=rfl
 have b:∀t,Cov (oj (qY s p k) 0) t->Cov (kD s (zH p k) (zD (zH p k))) t:=λt q=>by
  rw[g] at q
  exact yga h (Jb q)
 have a:∀t,Cov (kD s (zH p k) (zD (zH p k))) t->Cov (zH p k) t:=λt q=>ZZ q
 rw[i,f]
 generalize oj (qY s p k) 0=A at b⊢
 generalize kD s (zH p k) (zD (zH p k))=O at b a⊢
 generalize zH p k=W at a⊢
 rw[<-Z0 λt _ _ q=>(qn.1 q.2).2.2 q.1]
 have c:cnt (λt=>Cov A t∨Cov (zV O A) t) 32054400=cnt (Cov O) 32054400:=xq λt h0 c=>by
  constructor
  ·rintro (q | q)
   ·exact b t q
   ·exact (qn.1 q).2.1
  ·intro q
   by_cases d:Cov A t
   ·exact .inl d
   ·exact .inr (qn.2 ⟨⟨h0,by omega⟩,q,d⟩)
 rw[c, <-Z0 λt _ _ q=>(qn.1 q.2).2.2 q.1]
 refine xq λt h0 c=>?_
 constructor
 ·rintro (q | q)
  ·exact a t q
  ·exact (qn.1 q).2.1
 ·intro q
  by_cases e:Cov O t
  ·exact .inl e
  ·exact .inr (qn.2 ⟨⟨h0,by omega⟩,q,e⟩)
theorem vJa {s:Setup} (h:s.dayReg<=s.dayOver) (L:List Seg) (k:Int):
  xj (qB s L k) 0+xj (qB s L k) 1+xj (qB s L k) 2+xj (qB s L k) 3+xj (qB s L k) 4+xj (qB s L k) 5+xj (qB s L k) 6=cnt (Cov (zH (jD s L) k)) 32054400+cnt (Cov (zH (qL s L) k)) 32054400:=by
 have a:∀c:Int,xj (qB s L k) c=cnt (Cov (jS (qB s L k) c)) 32054400:=λc=>YO _
 have b:=Jc s (oj (qY s (qL s L) k) 0)
 have n1:=Jc s (oj (qY s (qL s L) k) 1)
 have n2:=Jc s (oj (qY s (qL s L) k) 2)
 have d:=vIa h (qL s L) k
 have key:qB s L k=xF (zH (jD s L) k) 0++xF (zV (oj (qY s (qL s L) k) 0) (qc s (oj (qY s (qL s L) k) 0))) 1++xF (qc s (oj (qY s (qL s L) k) 0)) 4++xF (zV (oj (qY s (qL s L) k) 1) (qc s (oj (qY s (qL s L) k) 1))) 2++xF (qc s (oj (qY s (qL s L) k) 1)) 5++xF (zV (oj (qY s (qL s L) k) 2) (qc s (oj (qY s (qL s L) k) 2))) 3++xF (qc s (oj (qY s (qL s L) k) 2)) 6:=rfl
 rw[a 0,a 1,a 2,a 3,a 4,a 5,a 6,key]
 clear a key
 generalize 32054400=N at b n1 n2 d⊢
 simp only[xqa,xra]
 simp
 omega
theorem YP {a:List Spn} {k t:Int} (h0:0<=t) (b:t<32054400) (e:0<=k/\k<=52):Cov (zH a k) t↔Cov a t/\k*604800<=t/\t<(k+1)*604800:=by
 constructor
 ·intro q
  exact (kV q).2
 ·rintro ⟨q,d,c⟩
  unfold zH jR
  rw[if_neg (by omega),wK]
  exact ⟨⟨h0,b⟩,q,⟨_,.head _,d,c⟩⟩
def we (f:Nat->Int):Nat->Int
 | 0=>0
 | n+1=>we f n+f n
theorem Vo (a:List Spn) {N:Nat} (c:N=32054400):∀m:Nat,m<=53->we (λk=>cnt (Cov (zH a k)) N) m=cnt (λt=>Cov a t/\t<m*604800) N
 | 0,_=>by
   rw[Km λt h0 _ q=>by have:=q.2;omega]
   rfl
 | m+1,g=>by
   rw[we,Vo a c m (by omega), <-Z0 λt h0 d q=>by
    have:=((YP h0 (by omega) ⟨by omega,by omega⟩).1 q.2).2
    have:=q.1.2
    omega]
   refine xq λt h0 d=>?_
   rw[YP h0 (by omega) ⟨by omega,by omega⟩]
   constructor
   ·rintro (⟨q,h⟩ | ⟨q,f,e⟩)
    ·exact ⟨q,by omega⟩
    ·exact ⟨q,by omega⟩
   ·rintro ⟨q,h⟩
    by_cases b:t<m*604800
    ·exact .inl ⟨q,b⟩
    ·exact .inr ⟨q,by omega,by omega⟩
theorem Vp (a:List Spn) {N:Nat} (b:N=32054400):we (λk=>cnt (Cov (zH a k)) N) 53=cnt (Cov a) N:=by
 rw[Vo a b 53 (Nat.le_refl _)]
 exact xq λt h0 c=>⟨λq=>q.1,λq=>⟨q,by omega⟩⟩
theorem vKa {t:Int} (h0:0<=t) (b:t<32054400):qx t=t / 86400:=by
 unfold qx ofI zO
 have a:min (max t 0) 32054399=t:=by omega
 rw[a,Int.tdiv_eq_ediv_of_nonneg h0,zF (by unfold Fit;omega)]
theorem yha {a:List Spn} {t:Int} (h0:0<=t) (b:t<32054400):Cov (qI a (qx t)) t↔Cov a t:=by
 rw[vKa h0 b]
 constructor
 ·intro q
  exact (kV q).2.1
 ·intro q
  unfold qI jR
  rw[if_neg (by omega),wK]
  exact ⟨⟨h0,b⟩,q,⟨_,.head _,by show t / 86400*86400<=t;omega,by show t<(t / 86400+1)*86400;omega⟩⟩
theorem JH {s:Setup} {L:List Seg} {t:Int} (h0:0<=t) (a:t<32054400):(¬ (Cov (jD s L) t/\Cov (qL s L) t))/\(Cov (jD s L) t∨Cov (qL s L) t↔Cov (zG L) t):=by
 rw[vEa h0 a,vDa h0 a]
 have c:Cov (qJ s L (qx t)) t↔(0<=t/\t<32054400)/\Cov (qI (zG L) (qx t)) t/\¬ Cov (jl s L (qx t)) t:=qn
 rw[c,yha h0 a]
 refine ⟨λq=>q.2.2.2 q.1,?_,λq=>?_⟩
 ·rintro (q | q)
  ·exact (qha q).2.1
  ·exact q.2.1
 ·by_cases b:Cov (jl s L (qx t)) t
  ·exact .inl b
  ·exact .inr ⟨⟨h0,a⟩,q,b⟩
theorem xsa {s:Setup} {L:List Seg} {N:Nat} (b:N=32054400):cnt (Cov (jD s L)) N+cnt (Cov (qL s L)) N=cnt (Cov (zG L)) N:=by
 rw[<-Z0 λt h0 a=>(JH h0 (by omega)).1]
 exact xq λt h0 a=>(JH h0 (by omega)).2
theorem Z1 {f g:Nat->Int} (h:∀k,f k=g k):∀n,we f n=we g n
 | 0=>rfl
 | n+1=>by rw[we,we,Z1 h n,h n]
theorem Kn {f g:Nat->Int}:∀n,we (λk=>f k+g k) n=we f n+we g n
 | 0=>rfl
 | n+1=>by rw[we,we,we,Kn n];omega
def ZTa (s:Setup) (L:List Seg) (k:Int):Int:=xj (qB s L k) 0+xj (qB s L k) 1+xj (qB s L k) 2+xj (qB s L k) 3+xj (qB s L k) 4+xj (qB s L k) 5+xj (qB s L k) 6
theorem Z0a {s:Setup} (h:s.dayReg<=s.dayOver) (L:List Seg):we (λk=>ZTa s L k) 53=qf (zt (zG L)):=by
 have key:∀N:Nat,N=32054400->(∀k:Nat,ZTa s L k=cnt (Cov (zH (jD s L) k)) N+cnt (Cov (zH (qL s L) k)) N)->we (λk=>ZTa s L k) 53=cnt (Cov (zG L)) N:=λN a b=>by
  rw[Z1 b,Kn,Vp _ a,Vp _ a,xsa a]
 rw[YO]
 exact key _ rfl λk=>vJa h L k
theorem Z2 {α β:Type} {f:β->α->β} {p:α->Bool} (h:∀b a,p a=false->f b a=b):∀(l:List α) (b:β),(l.filter p).foldl f b=l.foldl f b
 | [],_=>rfl
 | a::l,b=>by
   cases c:p a
   ·rw[List.filter_cons_of_neg (by simp[c]),List.foldl_cons,h b a c,Z2 h l b]
   ·rw[List.filter_cons_of_pos c,List.foldl_cons,List.foldl_cons,Z2 h l _]
theorem Z1a (s:Setup) (l:List Ev) (w:Int):zR s (evR s w l) w=zR s l w:=by
 have a:zx (evR s w l)=(zx l).filter λe=> !yq s w e:=by
  unfold evR
  rw[yi,xoa]
 have b:goP s w (zx (evR s w l))=goP s w (zx l):=by
  rw[a]
  unfold goP
  exact Z2 (λt e q=>by
   have q:yq s w e=true:=by simpa using q
   unfold wI
   unfold yq at q
   simp only[Bool.or_eq_true,bne_iff_ne,Bool.not_eq_true'] at q
   rcases q with q | q
   ·simp[ZO,q]
   ·simp[ZO,q]) _ _
 unfold zR
 rw[b]
theorem xta (n:Int):0<=kQ n/\kQ n<53:=by
 unfold kQ ofI zO
 have h0:0<=min (max n 0) 32054399/\min (max n 0) 32054399<=32054399:=by omega
 rw[Int.tdiv_eq_ediv_of_nonneg h0.1,zF (by unfold Fit;omega)]
 omega
theorem YQ (x:Int):∀n:Nat,we (λk=>if x=(k:Int) then 1 else 0) n=if 0<=x/\x<n then 1 else 0
 | 0=>by rw[we,if_neg (by omega)]
 | n+1=>by
   rw[we,YQ x n]
   by_cases h:x=(n:Int)
   ·rw[if_neg (by omega),if_pos h,if_pos (by omega)];rfl
   ·rw[if_neg h]
    by_cases a:0<=x/\x<n
    ·rw[if_pos a,if_pos (by omega)];rfl
    ·rw[if_neg a,if_neg (by omega)];rfl
theorem xua (own:List Ev):∀a:List Flg,we (λk=>((qM own a k).length:Int)) 53=a.length
 | []=>by
   have:∀n,we (λk=>((qM own [] k).length:Int)) n=0:=λn=>by
    induction n with
    | zero=>rfl
    | succ n d=>rw[we,d];rfl
   exact this 53
 | f::a=>by
   have c:∀k:Nat,((qM own (f::a) k).length:Int)=(if y9 own f=(k:Int) then 1 else 0)+((qM own a k).length:Int):=λk=>by
    unfold qM
    by_cases h:y9 own f=(k:Int)
    ·rw[List.filter_cons_of_pos (by simp[h]),if_pos h,List.length_cons];omega
    ·rw[List.filter_cons_of_neg (by simp[h]),if_neg h];omega
   have b:=xta (((own.find? λe=>e.id==f.id).map (·.at_)).getD 0)
   rw[Z1 c,Kn,YQ,xua own a,if_pos (show 0<=y9 own f/\y9 own f<((53:Nat):Int) from ⟨b.1,b.2⟩),List.length_cons]
   omega
set_option maxRecDepth 100000
theorem yia {P:Program} {f:FuncId} {x v:Value} (d:Xc P f=true) (c:∀w,Calls P f #[x] w λe w'=>e= .returned v/\w=w'):jf P f [.v x] (.v v):=λh=>by
 refine ⟨d,⟨_,_,⟨rfl,rfl⟩,.refl⟩,λφ k B w g vs j hB a=>?_⟩
 obtain ⟨u,r,rfl,i,b⟩:=a
 have i:u=x:=i
 have b:r=[]:=b
 subst i b
 refine (c w).mono ?_
 rintro e w' ⟨rfl,rfl⟩
 exact ⟨_,_,_,_,rfl,⟨rfl,rfl⟩,.refl,Good.refl j hB,rfl⟩
def qN (n:Int):Int:=wr ((wr (Go.Lib.bitLen (IntKind.wrap .u64 n).toNat+7)).tdiv 8)
theorem Jla (n:Int):jf Tryz.prog 74 [i64 n] (i64 (qN n)):=λh=>by
 have a:0<=IntKind.wrap .u64 n/\IntKind.wrap .u64 n<=18446744073709551615:=by
  rw[IntKind.wrap_u64];omega
 refine zf Tryz.f74 [.tmp 2] 8 rfl rfl rfl rfl rfl rfl (by decide) (⟨_,_,⟨rfl,rfl⟩,.refl⟩) λB=>?_
 simp only[go_sem]
 refine zd (yia (by kernel_rfl) (λw=>xva (IntKind.wrap .u64 n) w a.1 a.2) _) ?_
 rintro _ b ⟨rfl,rfl⟩
 simp only[go_sem]
 (first | refine zc ?_ | refine ze ?_ (by rfl))<;>(simp only[go_sem,qN]<;>try rfl)
end Go.Proofs.YtigdlmpjijhpaaaGreat.Ax
