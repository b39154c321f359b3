/-
  Joined.
-/
import Derived.Test.YtfmldcilgbbimaaGreatK39
import Derived.Test.YtfmldcilgbbimaaGreatK32
import Derived.Test.YtfmldcilgbbimaaGreatK23
import Derived.Test.YtfmldcilgbbimaaGreatK34
import Derived.Test.YtfmldcilgbbimaaGreatK40
import Derived.Lib.Strings
import Derived.Lib.Slices
import Derived.Lib.Small
import Derived.Lib.Walk
import Derived.Lib.BitFns
set_option linter.unusedSimpArgs false
set_option linter.unusedVariables false
namespace Go.Proofs.YtfmldcilgbbimaaGreat.Ax
open Go Go.Proofs
set_option maxRecDepth 100000
theorem wHa (h:List Ob) (x:AV) (rows:List (List AV)) (b:SlOf h x 3 rows) (o:rows.length<1099511627776) (k:(rows.all λr=>r.length==3 && r.all AV.one)=true):
  ACalls Tryz.prog 142 [x] h λr h'=>(rows=[]/\h'=h/\r= .v (.slice none 0 0))∨(h'=h++[.row 205 3 rows 1]/\r= .tl h.length 1):=by
 refine jm (N:=8) (rs:=[.tmp 2]) (fn:=Tryz.f142) rfl rfl rfl rfl (Nat.le_of_ble_eq_true rfl) rfl (⟨_,_,.inr ⟨rfl,rfl⟩,zR⟩) λB=>?_
 cases rows with
 | nil=>
   refine Zb 0 rfl b.rows (λm=>?_) ?_
   ·refine zL _ (by decide) ?_;simp only[go_sem]
    exact ⟨.v (.slice none 0 0),by simp only[go_sem],.inl (.inl ⟨rfl,rfl⟩)⟩
   ·refine zL _ (by decide) ?_;simp only[go_sem]
    exact ⟨.tl h.length 1,by simp only[go_sem],.inl (.inr ⟨rfl,rfl⟩)⟩
 | cons y l=>
   have j:=b.at (i:=0) (by simp)
   have f:=b.rows
   have d:xA x=false:=by
    rcases wK f with ⟨e,xs,rfl⟩ | ⟨i,s,rfl⟩ | ⟨a,e,i,n,rfl⟩<;>rfl
   unfold xA at d
   have c:∀L,zq (h++L) x=some (y::l):=λL=>(b.app L).rows
   have g:(y::l).length*25<=140737488355328:=by omega
   rw[List.length_cons] at g
   refine zL _ (by decide) ?_;simp only[go_sem,f,j,d,c,k,g,Bool.or_true,decide_true]
   exact ⟨.tl h.length 1,by simp only[go_sem],.inl (.inr ⟨rfl,rfl⟩)⟩
theorem kca (h:List Ob) (x:AV) (rows:List (List AV)) (c:SlOf h x 3 rows) (d:rows.length<1099511627776) (b:(rows.all λr=>r.length==3 && r.all AV.one)=true) (a:zU h.length rows=true):
  ACalls Tryz.prog 142 [x] h λr h'=>r= .sl 3 rows/\h'=h:=
 qK (by decide) a ((wHa h x rows c d b).mono λr h' q=>by
  rcases q with ⟨rfl,rfl,rfl⟩ | ⟨rfl,rfl⟩
  ·exact ⟨[],by simp,qh,λe _=>⟨rfl,λh=>absurd rfl h⟩⟩
  ·exact ⟨_,rfl,zi rfl,OwnS.new (h0:=h) (ty:=205) (.inr ⟨h.length,1,Nat.le_refl _,rfl,by rw[zo rfl];rfl⟩) (Nat.le_refl _)⟩)
theorem wIa (h:List Ob) (x:AV) (rows:List (List AV)) (b:SlOf h x 4 rows) (o:rows.length<1099511627776) (k:(rows.all λr=>r.length==4 && r.all AV.one)=true):
  ACalls Tryz.prog 143 [x] h λr h'=>(rows=[]/\h'=h/\r= .v (.slice none 0 0))∨(h'=h++[.row 166 4 rows 1]/\r= .tl h.length 1):=by
 refine jm (N:=8) (rs:=[.tmp 2]) (fn:=Tryz.f143) rfl rfl rfl rfl (Nat.le_of_ble_eq_true rfl) rfl (⟨_,_,.inr ⟨rfl,rfl⟩,zR⟩) λB=>?_
 cases rows with
 | nil=>
   refine Zb 0 rfl b.rows (λm=>?_) ?_
   ·refine zL _ (by decide) ?_;simp only[go_sem]
    exact ⟨.v (.slice none 0 0),by simp only[go_sem],.inl (.inl ⟨rfl,rfl⟩)⟩
   ·refine zL _ (by decide) ?_;simp only[go_sem]
    exact ⟨.tl h.length 1,by simp only[go_sem],.inl (.inr ⟨rfl,rfl⟩)⟩
 | cons y l=>
   have j:=b.at (i:=0) (by simp)
   have f:=b.rows
   have d:xA x=false:=by
    rcases wK f with ⟨e,xs,rfl⟩ | ⟨i,s,rfl⟩ | ⟨a,e,i,n,rfl⟩<;>rfl
   unfold xA at d
   have c:∀L,zq (h++L) x=some (y::l):=λL=>(b.app L).rows
   have g:(y::l).length*33<=140737488355328:=by omega
   rw[List.length_cons] at g
   refine zL _ (by decide) ?_;simp only[go_sem,f,j,d,c,k,g,Bool.or_true,decide_true]
   exact ⟨.tl h.length 1,by simp only[go_sem],.inl (.inr ⟨rfl,rfl⟩)⟩
theorem kda (h:List Ob) (x:AV) (rows:List (List AV)) (c:SlOf h x 4 rows) (d:rows.length<1099511627776) (b:(rows.all λr=>r.length==4 && r.all AV.one)=true) (a:zU h.length rows=true):
  ACalls Tryz.prog 143 [x] h λr h'=>r= .sl 4 rows/\h'=h:=
 qK (by decide) a ((wIa h x rows c d b).mono λr h' q=>by
  rcases q with ⟨rfl,rfl,rfl⟩ | ⟨rfl,rfl⟩
  ·exact ⟨[],by simp,qh,λe _=>⟨rfl,λh=>absurd rfl h⟩⟩
  ·exact ⟨_,rfl,zi rfl,OwnS.new (h0:=h) (ty:=166) (.inr ⟨h.length,1,Nat.le_refl _,rfl,by rw[zo rfl];rfl⟩) (Nat.le_refl _)⟩)
theorem wJa (h:List Ob) (x:AV) (rows:List (List AV)) (b:SlOf h x 2 rows) (o:rows.length<1099511627776) (k:(rows.all λr=>r.length==2 && r.all AV.one)=true):
  ACalls Tryz.prog 144 [x] h λr h'=>(rows=[]/\h'=h/\r= .v (.slice none 0 0))∨(h'=h++[.row 24 2 rows 1]/\r= .tl h.length 1):=by
 refine jm (N:=8) (rs:=[.tmp 2]) (fn:=Tryz.f144) rfl rfl rfl rfl (Nat.le_of_ble_eq_true rfl) rfl (⟨_,_,.inr ⟨rfl,rfl⟩,zR⟩) λB=>?_
 cases rows with
 | nil=>
   refine Zb 0 rfl b.rows (λm=>?_) ?_
   ·refine zL _ (by decide) ?_;simp only[go_sem]
    exact ⟨.v (.slice none 0 0),by simp only[go_sem],.inl (.inl ⟨rfl,rfl⟩)⟩
   ·refine zL _ (by decide) ?_;simp only[go_sem]
    exact ⟨.tl h.length 1,by simp only[go_sem],.inl (.inr ⟨rfl,rfl⟩)⟩
 | cons y l=>
   have j:=b.at (i:=0) (by simp)
   have f:=b.rows
   have d:xA x=false:=by
    rcases wK f with ⟨e,xs,rfl⟩ | ⟨i,s,rfl⟩ | ⟨a,e,i,n,rfl⟩<;>rfl
   unfold xA at d
   have c:∀L,zq (h++L) x=some (y::l):=λL=>(b.app L).rows
   have g:(y::l).length*17<=140737488355328:=by omega
   rw[List.length_cons] at g
   refine zL _ (by decide) ?_;simp only[go_sem,f,j,d,c,k,g,Bool.or_true,decide_true]
   exact ⟨.tl h.length 1,by simp only[go_sem],.inl (.inr ⟨rfl,rfl⟩)⟩
theorem Wy (h:List Ob) (x:AV) (rows:List (List AV)) (c:SlOf h x 2 rows) (d:rows.length<1099511627776) (b:(rows.all λr=>r.length==2 && r.all AV.one)=true) (a:zU h.length rows=true):
  ACalls Tryz.prog 144 [x] h λr h'=>r= .sl 2 rows/\h'=h:=
 qK (by decide) a ((wJa h x rows c d b).mono λr h' q=>by
  rcases q with ⟨rfl,rfl,rfl⟩ | ⟨rfl,rfl⟩
  ·exact ⟨[],by simp,qh,λe _=>⟨rfl,λh=>absurd rfl h⟩⟩
  ·exact ⟨_,rfl,zi rfl,OwnS.new (h0:=h) (ty:=24) (.inr ⟨h.length,1,Nat.le_refl _,rfl,by rw[zo rfl];rfl⟩) (Nat.le_refl _)⟩)
theorem X9 (h:List Ob) (x:AV) (rows:List (List AV)) (b:SlOf h x 1 rows) (o:rows.length<1099511627776) (k:(rows.all λr=>r.length==1 && r.all AV.one)=true):
  ACalls Tryz.prog 145 [x] h λr h'=>(rows=[]/\h'=h/\r= .v (.slice none 0 0))∨(h'=h++[.row 3 1 rows 1]/\r= .tl h.length 1):=by
 refine jm (N:=8) (rs:=[.tmp 2]) (fn:=Tryz.f145) rfl rfl rfl rfl (Nat.le_of_ble_eq_true rfl) rfl (⟨_,_,.inr ⟨rfl,rfl⟩,zR⟩) λB=>?_
 cases rows with
 | nil=>
   refine Zb 0 rfl b.rows (λm=>?_) ?_
   ·refine zL _ (by decide) ?_;simp only[go_sem]
    exact ⟨.v (.slice none 0 0),by simp only[go_sem],.inl (.inl ⟨rfl,rfl⟩)⟩
   ·refine zL _ (by decide) ?_;simp only[go_sem]
    exact ⟨.tl h.length 1,by simp only[go_sem],.inl (.inr ⟨rfl,rfl⟩)⟩
 | cons y l=>
   have j:=b.at (i:=0) (by simp)
   have f:=b.rows
   have d:xA x=false:=by
    rcases wK f with ⟨e,xs,rfl⟩ | ⟨i,s,rfl⟩ | ⟨a,e,i,n,rfl⟩<;>rfl
   unfold xA at d
   have c:∀L,zq (h++L) x=some (y::l):=λL=>(b.app L).rows
   have g:(y::l).length*9<=140737488355328:=by omega
   rw[List.length_cons] at g
   refine zL _ (by decide) ?_;simp only[go_sem,f,j,d,c,k,g,Bool.or_true,decide_true]
   exact ⟨.tl h.length 1,by simp only[go_sem],.inl (.inr ⟨rfl,rfl⟩)⟩
theorem kea (h:List Ob) (x:AV) (rows:List (List AV)) (c:SlOf h x 1 rows) (d:rows.length<1099511627776) (b:(rows.all λr=>r.length==1 && r.all AV.one)=true) (a:zU h.length rows=true):
  ACalls Tryz.prog 145 [x] h λr h'=>r= .sl 1 rows/\h'=h:=
 qK (by decide) a ((X9 h x rows c d b).mono λr h' q=>by
  rcases q with ⟨rfl,rfl,rfl⟩ | ⟨rfl,rfl⟩
  ·exact ⟨[],by simp,qh,λe _=>⟨rfl,λh=>absurd rfl h⟩⟩
  ·exact ⟨_,rfl,zi rfl,OwnS.new (h0:=h) (ty:=3) (.inr ⟨h.length,1,Nat.le_refl _,rfl,by rw[zo rfl];rfl⟩) (Nat.le_refl _)⟩)
theorem kfa (h:List Ob) (x:AV) (rows:List (List AV)) (b:SlOf h x 2 rows) (o:rows.length<1099511627776) (k:(rows.all λr=>r.length==2 && r.all AV.one)=true):
  ACalls Tryz.prog 146 [x] h λr h'=>(rows=[]/\h'=h/\r= .v (.slice none 0 0))∨(h'=h++[.row 168 2 rows 1]/\r= .tl h.length 1):=by
 refine jm (N:=8) (rs:=[.tmp 2]) (fn:=Tryz.f146) rfl rfl rfl rfl (Nat.le_of_ble_eq_true rfl) rfl (⟨_,_,.inr ⟨rfl,rfl⟩,zR⟩) λB=>?_
 cases rows with
 | nil=>
   refine Zb 0 rfl b.rows (λm=>?_) ?_
   ·refine zL _ (by decide) ?_;simp only[go_sem]
    exact ⟨.v (.slice none 0 0),by simp only[go_sem],.inl (.inl ⟨rfl,rfl⟩)⟩
   ·refine zL _ (by decide) ?_;simp only[go_sem]
    exact ⟨.tl h.length 1,by simp only[go_sem],.inl (.inr ⟨rfl,rfl⟩)⟩
 | cons y l=>
   have j:=b.at (i:=0) (by simp)
   have f:=b.rows
   have d:xA x=false:=by
    rcases wK f with ⟨e,xs,rfl⟩ | ⟨i,s,rfl⟩ | ⟨a,e,i,n,rfl⟩<;>rfl
   unfold xA at d
   have c:∀L,zq (h++L) x=some (y::l):=λL=>(b.app L).rows
   have g:(y::l).length*17<=140737488355328:=by omega
   rw[List.length_cons] at g
   refine zL _ (by decide) ?_;simp only[go_sem,f,j,d,c,k,g,Bool.or_true,decide_true]
   exact ⟨.tl h.length 1,by simp only[go_sem],.inl (.inr ⟨rfl,rfl⟩)⟩
theorem jwa (h:List Ob) (x:AV) (rows:List (List AV)) (c:SlOf h x 2 rows) (d:rows.length<1099511627776) (b:(rows.all λr=>r.length==2 && r.all AV.one)=true) (a:zU h.length rows=true):
  ACalls Tryz.prog 146 [x] h λr h'=>r= .sl 2 rows/\h'=h:=
 qK (by decide) a ((kfa h x rows c d b).mono λr h' q=>by
  rcases q with ⟨rfl,rfl,rfl⟩ | ⟨rfl,rfl⟩
  ·exact ⟨[],by simp,qh,λe _=>⟨rfl,λh=>absurd rfl h⟩⟩
  ·exact ⟨_,rfl,zi rfl,OwnS.new (h0:=h) (ty:=168) (.inr ⟨h.length,1,Nat.le_refl _,rfl,by rw[zo rfl];rfl⟩) (Nat.le_refl _)⟩)
theorem kga (h:List Ob) (x:AV) (rows:List (List AV)) (b:SlOf h x 1 rows) (o:rows.length<1099511627776) (k:(rows.all λr=>r.length==1 && r.all AV.one)=true):
  ACalls Tryz.prog 68 [x] h λr h'=>(rows=[]/\h'=h/\r= .v (.slice none 0 0))∨(h'=h++[.row 5 1 rows 1]/\r= .tl h.length 1):=by
 refine jm (N:=8) (rs:=[.tmp 2]) (fn:=Tryz.f68) rfl rfl rfl rfl (Nat.le_of_ble_eq_true rfl) rfl (⟨_,_,.inr ⟨rfl,rfl⟩,zR⟩) λB=>?_
 cases rows with
 | nil=>
   refine Zb 0 rfl b.rows (λm=>?_) ?_
   ·refine zL _ (by decide) ?_;simp only[go_sem]
    exact ⟨.v (.slice none 0 0),by simp only[go_sem],.inl (.inl ⟨rfl,rfl⟩)⟩
   ·refine zL _ (by decide) ?_;simp only[go_sem]
    exact ⟨.tl h.length 1,by simp only[go_sem],.inl (.inr ⟨rfl,rfl⟩)⟩
 | cons y l=>
   have j:=b.at (i:=0) (by simp)
   have f:=b.rows
   have d:xA x=false:=by
    rcases wK f with ⟨e,xs,rfl⟩ | ⟨i,s,rfl⟩ | ⟨a,e,i,n,rfl⟩<;>rfl
   unfold xA at d
   have c:∀L,zq (h++L) x=some (y::l):=λL=>(b.app L).rows
   have g:(y::l).length*2<=140737488355328:=by omega
   rw[List.length_cons] at g
   refine zL _ (by decide) ?_;simp only[go_sem,f,j,d,c,k,g,Bool.or_true,decide_true]
   exact ⟨.tl h.length 1,by simp only[go_sem],.inl (.inr ⟨rfl,rfl⟩)⟩
set_option maxRecDepth 100000
structure Fx where
 op:Int
 ev:Ev
abbrev fxC (x:Fx):List AV:=[i64 x.op,i64 x.ev.id,i64 x.ev.worker,i64 x.ev.at_,i64 x.ev.kind,i64 x.ev.from_,i64 x.ev.to_,i64 x.ev.element,i64 x.ev.units,i64 x.ev.class_,i64 x.ev.gear,i64 x.ev.code]
def jC (x:Fx):Bool:=x.op==1 || x.op==3
def qV (x:Fx):Bool:=x.op==2 || x.op==3
theorem XXa (x:Fx):ji Tryz.prog 84 [.ag (fxC x)] (bl (jC x)):=λh=>by
 refine zf Tryz.f84 [.tmp 2] 11 rfl rfl rfl rfl rfl rfl (by decide) (⟨_,_,⟨rfl,rfl⟩,.refl⟩) λB=>?_
 simp only[go_sem]
 cases a:x.op==1
 ·simp only[go_sem,a,zJ]
  (first | refine zd ?_ | refine ze ?_ (by rfl))<;>(simp only[go_sem,jC,a]<;>try rfl)
 ·simp only[go_sem,a,zJ]
  (first | refine zd ?_ | refine ze ?_ (by rfl))<;>(simp only[go_sem,jC,a]<;>try rfl)
theorem Z4a (x:Fx):ji Tryz.prog 85 [.ag (fxC x)] (bl (qV x)):=λh=>by
 refine zf Tryz.f85 [.tmp 2] 11 rfl rfl rfl rfl rfl rfl (by decide) (⟨_,_,⟨rfl,rfl⟩,.refl⟩) λB=>?_
 simp only[go_sem]
 cases a:x.op==2
 ·simp only[go_sem,a,zJ]
  (first | refine zd ?_ | refine ze ?_ (by rfl))<;>(simp only[go_sem,qV,a]<;>try rfl)
 ·simp only[go_sem,a,zJ]
  (first | refine zd ?_ | refine ze ?_ (by rfl))<;>(simp only[go_sem,qV,a]<;>try rfl)
def Zx (l:List Ev) (id:Int):Int:=Z4 (l.map evC) λr=>(KB r).id==id
theorem WKa (h:List Ob) (j:Nat) (id:Int) (b:h[j]? =some (.box 3 [i64 id])) (e:Ev):
  ACalls Tryz.prog 155 [evV e,.ptr j 0] h λr h'=>r=bl (e.id==id)/\h'=h:=by
 have a:∀M,(h++M)[j]? =some (.box 3 [i64 id]):=λM=>zb b
 refine zf Tryz.f155 [.tmp 3] 8 rfl rfl rfl rfl rfl rfl (by decide) (⟨_,_,⟨rfl,rfl⟩,.refl⟩) λB=>?_
 simp only[go_sem,a]
 (first | refine zd ?_ | refine ze ?_ (by rfl))<;>(simp only[go_sem]<;>try rfl)
theorem WLa (h:List Ob) (x:AV) (l:List Ev) (id:Int) (b:SlOf h x 11 (l.map evC)) (f:l.length<1048576):
  ACalls Tryz.prog 86 [x,i64 id] h λr h'=>r=i64 (Zx l id)/\h'=h:=by
 refine zf Tryz.f86 [.tmp 4] 8 rfl rfl rfl rfl rfl rfl (by decide) (⟨_,_,⟨rfl,rfl⟩,.refl⟩) λB=>?_
 simp only[go_sem]
 refine zc (c42 _ x 155 [.ptr h.length 0] (l.map evC) (λr=>(KB r).id==id) (by rw[List.length_map];omega) (λr c=>by obtain ⟨e,_,rfl⟩:=List.mem_map.1 c;rfl) (b.app _) (λrow a L=>by
  obtain ⟨e,_,rfl⟩:=List.mem_map.1 a
  exact WKa _ h.length id (by rw[List.append_assoc,zo rfl];rfl) e)) ?_
 rintro _ d ⟨rfl,rfl⟩
 simp only[go_sem]
 (first | refine zd ?_ | refine ze ?_ (by rfl))<;>(simp only[go_sem,Zx]<;>try rfl)
def zEv:Ev:=⟨0,0,0,0,0,0,0,0,0,0,0⟩
def ZI (l:List Ev) (id:Int):Ev × Bool:=match l.find? (λe=>e.id==id) with
 | some e=>(e,true)
 | none=>(zEv,false)
theorem Ka (l:List Ev) (id:Int):(Zx l id= -1/\ZI l id=(zEv,false))∨∃A x R,l=A++x::R/\Zx l id=(A.length:Int)/\ZI l id=(x,true)/\x.id=id:=by
 rcases Ql (λe=>e.id==id) l with ⟨a,c⟩ | ⟨A,x,R,a,c,d,f⟩
 ·refine .inl ⟨a,?_⟩
  unfold ZI
  rw[List.find?_eq_none.2 (λe b=>by simp[c e b])]
 ·refine .inr ⟨A,x,R,a,c,?_,by simpa using d⟩
  unfold ZI
  have:l.find? (λe=>e.id==id)=some x:=by
   rw[a,List.find?_append,List.find?_eq_none.2 (λe b=>by simp[f e b])]
   simp[d]
  rw[this]
theorem WMa (h:List Ob) (x:AV) (l:List Ev) (id:Int) (g:SlOf h x 11 (l.map evC)) (m:l.length<1048576):
  ACalls Tryz.prog 91 [x,i64 id] h λr h'=>r= .tup [evV (ZI l id).1,bl (ZI l id).2]/\h'=h:=by
 refine zf Tryz.f91 [.cell 4 73,.tmp 5] 17 rfl rfl rfl rfl rfl rfl (by decide) (⟨_,_,⟨rfl,rfl⟩,.refl⟩) λB=>?_
 simp only[go_sem]
 refine zc (WLa _ x l id (g.app _) m) ?_
 rintro _ o ⟨rfl,rfl⟩
 rcases Ka l id with ⟨e,j⟩ | ⟨A,z,R,e,j,n,_⟩
 ·simp only[go_sem,e]
  (first | refine zd ?_ | refine ze ?_ (by rfl))<;>(simp only[go_sem,j,zEv]<;>try rfl)
 ·have c:decide ((A.length:Int)<0)=false:=by rw[decide_eq_false_iff_not];omega
  have k:A.length<l.length:=by rw[e];simp
  have f:(l.map evC)[A.length]? =some (evC z):=by rw[e];simp
  have b:=(g.app [.box 73 (evC zEv)]).at (i:=A.length) (by rw[List.length_map];exact k)
  have a:=(g.app [.box 73 (evC zEv)]).rows
  have d:(A.length:Int)<l.length:=by omega
  simp only[evC,zEv] at b a
  simp only[go_sem,j,c,a,b,f,d,List.length_map,Int.toNat_natCast,Int.natCast_nonneg]
  (first | refine zd ?_ | refine ze ?_ (by rfl))<;>(simp only[go_sem,n]<;>try rfl)
def wW (s:Setup) (at_:Int):Int × Int:=
 let n:=zO at_ 32054399
 let k:=wr (zO s.unit 604800+zO s.cap 604800)
 (jX (wr (n - k)),jX (wr (n+k)))
theorem KWa (h:List Ob) (s:Setup) (a:SA) (k:SIn h s a) (at_:Int):
  ACalls Tryz.prog 90 [z6 s a,i64 at_] h λr h'=>r=Q4 (wW s at_)/\h'=h:=by
 refine zf Tryz.f90 [.tmp 4,.tmp 5] 24 rfl rfl rfl rfl rfl rfl (by decide) (⟨_,_,⟨rfl,rfl⟩,.refl⟩) λB=>?_
 simp only[go_sem,k.ones]
 refine zc (c69 _ _ _) ?_
 rintro _ b ⟨rfl,rfl⟩
 simp only[go_sem]
 refine zn rfl [] 0 [(0,0,[]),(3,0,[]),(1,0,[]),(4,0,[]),(2,0,[4]),(5,0,[]),(6,0,[]),(7,0,[])] rfl (by decide) (by decide) ?_
 simp only[go_sem]
 refine zc (c69 _ _ _) ?_
 rintro _ b ⟨rfl,rfl⟩
 simp only[go_sem]
 refine zc (c69 _ _ _) ?_
 rintro _ b ⟨rfl,rfl⟩
 simp only[go_sem]
 refine zc (c17 _ _) ?_
 rintro _ b ⟨rfl,rfl⟩
 simp only[go_sem]
 refine zc (c17 _ _) ?_
 rintro _ b ⟨rfl,rfl⟩
 simp only[go_sem]
 (first | refine zd ?_ | refine ze ?_ (by rfl))<;>(simp only[go_sem,wW,Q4]<;>try rfl)
def kha (l:List Int) (n:Int):Int:=match l.findIdx? (n== ·) with
 | some i=>(i:Int)
 | none=> -1
theorem KXa (h:List Ob) (x:AV) (l:List Int) (n:Int) (k:SlOf h x 1 (l.map zz)) (D:l.length<1048576):
  ACalls Tryz.prog 246 [x,i64 n] h λr h'=>r=i64 (kha l n)/\h'=h:=by
 refine zf Tryz.f246 [.tmp 4] 19 rfl rfl rfl rfl rfl rfl (by decide) (⟨_,_,⟨rfl,rfl⟩,.refl⟩) λB=>?_
 simp only[go_sem,k.rows,List.length_map]
 refine zj (by decide) (λm T h'=>∃i:Nat,i<=l.length/\h'=h/\(∀j (c:j<l.length),j<i->(n==l[j])=false)/\T 0=x/\T 1=i64 n/\T 7=i64 l.length/\T 8=i64 i/\m=l.length - i) l.length
  ⟨0,by omega,rfl,λ_ _ q=>by omega,by simp only[go_sem],by simp only[go_sem],by (simp only[go_sem]<;>rfl),by (simp only[go_sem]<;>rfl),rfl⟩ ?_
 rintro m T h' ⟨i,C,rfl,h0,t0,t1,v,t8,rfl⟩
 simp only[go_sem,v,t8]
 refine ways (λe=>?_) (λe=>?_)
 ·have b:=dlt e
  have a:=QU b
  have s:=k.at (i:=i) (by rw[List.length_map];exact b)
  have o:=k.rows
  have t:(i:Int)<l.length:=by omega
  obtain ⟨z,g⟩:∃z,z=l[i]:=⟨_,rfl⟩
  rw[<-g] at a
  simp only[go_sem,t0,t1,t8,s,o,a,t,List.length_map,Int.toNat_natCast,Int.natCast_nonneg]
  refine ways (λf=>?_) (λf=>?_)
  ·have d:kha l n=i:=by
    unfold kha
    rw[List.findIdx?_eq_some_iff_getElem.2 ⟨b,by rw[<-g];exact f,λj c=>by simp[h0 j (by omega) c]⟩]
   simp only[go_sem,t8]
   (first | refine zd ?_ | refine ze ?_ (by rfl))<;>(simp only[go_sem,d]<;>try rfl)
  ·have f:(n==z)=false:=by simpa using f
   simp only[go_sem,t8]
   refine ⟨l.length - (i+1),by omega,i+1,by omega,λj c q=>?_,t0,t1,v,zx (by omega) rfl,rfl⟩
   by_cases p:j=i
   ·subst p;rw[<-g];exact f
   ·exact h0 j c (by omega)
 ·have w:=qU e
  have u:i=l.length:=by omega
  subst u
  have d:kha l n= -1:=by
   unfold kha
   rw[List.findIdx?_eq_none_iff.2 (λy A=>by
    obtain ⟨j,c,rfl⟩:=List.getElem_of_mem A
    exact h0 j c c)]
  simp only[go_sem]
  (first | refine zd ?_ | refine ze ?_ (by rfl))<;>(simp only[go_sem,d]<;>try rfl)
theorem J1a (l:List Int) (n:Int):decide (kha l n≥0)=l.any (n== ·):=by
 unfold kha
 cases h:l.findIdx? (n== ·) with
 | none=>
   rw[List.findIdx?_eq_none_iff] at h
   have:l.any (n== ·)=false:=by rw[List.any_eq_false];intro y b;simp[h y b]
   rw[this];rfl
 | some i=>
   obtain ⟨c,a,_⟩:=List.findIdx?_eq_some_iff_getElem.1 h
   have:l.any (n== ·)=true:=List.any_eq_true.2 ⟨_,List.getElem_mem c,a⟩
   rw[this]
   simp
theorem wKa (h:List Ob) (x:AV) (l:List Int) (n:Int) (b:SlOf h x 1 (l.map zz)) (a:l.length<1048576):
  ACalls Tryz.prog 203 [x,i64 n] h λr h'=>r=bl (l.any (n== ·))/\h'=h:=by
 refine zf Tryz.f203 [.tmp 4] 9 rfl rfl rfl rfl rfl rfl (by decide) (⟨_,_,⟨rfl,rfl⟩,.refl⟩) λB=>?_
 simp only[go_sem]
 refine zc (KXa _ x l n b a) ?_
 rintro _ c ⟨rfl,rfl⟩
 simp only[go_sem,J1a]
 (first | refine zd ?_ | refine ze ?_ (by rfl))<;>(simp only[go_sem]<;>try rfl)
theorem Qv:∀ {l:List Ev},Srt l->zD l=l
 | [],_=>rfl
 | x::l,⟨a,c⟩=>by
   rw[zD,Qv c]
   cases l with
   | nil=>rfl
   | cons y b=>rw[xC,a y (by simp)];rfl
theorem Zy (n:Int):0<=jX n/\jX n<53:=by
 unfold jX ofI zO
 have h0:0<=min (max n 0) 32054399/\min (max n 0) 32054399<=32054399:=by omega
 rw[Int.tdiv_eq_ediv_of_nonneg h0.1,zI (by unfold Fit;omega)]
 omega
theorem Kc {n b:Int} (d:0<b):ofI n b=zO n 32054399 / b:=by
 have h0:0<=zO n 32054399:=by unfold zO;omega
 have a:zO n 32054399<=32054399:=by unfold zO;omega
 have c:0<=zO n 32054399 / b:=Int.ediv_nonneg h0 (by omega)
 have e:zO n 32054399 / b<=zO n 32054399:=Int.ediv_le_self b h0
 unfold ofI
 rw[Int.tdiv_eq_ediv_of_nonneg h0,zI (by unfold Fit;omega)]
theorem yW {a c b:Int} (d:0<b) (h:a<=c):ofI a b<=ofI c b:=by
 rw[Kc d,Kc d]
 exact Int.ediv_le_ediv d (by unfold zO;omega)
theorem Xp {t:Int} (h0:0<=t) (a:t<32054400):zO t 32054399=t:=by unfold zO;omega
theorem J2a {t k:Int} (h0:0<=t) (a:t<32054400) (b:k*604800<=t) (c:t<(k+1)*604800):jX t=k:=by
 unfold jX
 rw[Kc (by decide),Xp h0 a]
 omega
theorem Wz {t d:Int} (h0:0<=t) (a:t<32054400) (b:d*86400<=t) (c:t<(d+1)*86400):qL t=d/\jX t=d / 7:=by
 unfold jX qL
 rw[Kc (by decide),Kc (by decide),Xp h0 a]
 omega
theorem KYa {t:Int} (h0:0<=t) (a:t<32054400):qL t*86400<=t/\t<(qL t+1)*86400:=by
 unfold qL
 rw[Kc (by decide),Xp h0 a]
 omega
def Out (s:Setup) (n wk:Int):Prop:=∀x,n - (s.unit+s.cap)<=x->x<=n+(s.unit+s.cap)->jX x≠wk
theorem KZa {s:Setup} (l:zw s=true) {n wk:Int} (i:0<=n/\n<=31449599) (h:¬ ((wW s n).1<=wk/\wk<=(wW s n).2)):Out s n wk:=by
 obtain ⟨⟨m,p⟩,o,q⟩:=qO l
 intro x f c d
 apply h
 have j:zO n 32054399=n:=Xp i.1 (by omega)
 have k:zO s.unit 604800=s.unit:=by unfold zO;omega
 have g:zO s.cap 604800=s.cap:=by unfold zO;omega
 have b:wr (s.unit+s.cap)=s.unit+s.cap:=zI (by unfold Fit;omega)
 have a:wr (n - (s.unit+s.cap))=n - (s.unit+s.cap):=zI (by unfold Fit;omega)
 have e:wr (n+(s.unit+s.cap))=n+(s.unit+s.cap):=zI (by unfold Fit;omega)
 unfold wW
 simp only[j,k,g,b,a,e]
 rw[<-d]
 exact ⟨yW (by decide) f,yW (by decide) c⟩
theorem Z6a {o:List Int} {d:Int} (h:∀x,o.getLast? =some x->x<=d):d∈Zt o d/\(∀x∈o,x∈Zt o d)/\∀x,(Zt o d).getLast? =some x->x=d:=by
 unfold Zt
 cases b:o.getLast? with
 | none=>
   rw[List.getLast?_eq_none_iff] at b
   subst b
   exact ⟨.head _,λx a=>(by cases a),λx a=>by simpa using a.symm⟩
 | some y=>
   have c:=h y b
   simp only
   split
   ·exact ⟨by simp,λx a=>by simp[a],λx a=>by simpa using a.symm⟩
   ·have e:y=d:=by omega
    subst e
    exact ⟨List.mem_of_getLast? b,λ_ h=>h,λx a=>by rw[b] at a;injection a with a;exact a.symm⟩
theorem jxa {o:List Int} {a:Int} (h:∀x,o.getLast? =some x->x<=a):∀k:Nat,(∀x∈o,x∈Jy o a k)/\(∀j:Nat,j<k->a+j∈Jy o a k)/\∀x,(Jy o a k).getLast? =some x->x<=a+(k:Int) - 1∨x<=a
 | 0=>⟨λ_ h=>h,λj g=>by omega,λx b=> .inr (h x b)⟩
 | k+1=>by
   obtain ⟨f,e,i⟩:=jxa h k
   obtain ⟨k1,k2,k3⟩:=Z6a (o:=Jy o a k) (d:=a+k) (λx b=>by have:=i x b;omega)
   rw[Jy]
   refine ⟨λx b=>k2 x (f x b),λj g=>?_,λx b=> .inl ?_⟩
   ·by_cases c:j=k
    ·subst c;exact k1
    ·exact k2 _ (e j (by omega))
   ·have:=k3 x b
    omega
theorem YR:∀(L:List Spn) (o:List Int),PlainS L->(∀s∈L,0<=s.from_/\s.from_<s.to_/\s.to_<=32054400)->(∀x,o.getLast? =some x->∀s∈L,x<=qL s.from_)->(∀x∈o,x∈L.foldl jR o)/\∀s∈L,∀t,s.from_<=t->t<s.to_->qL t∈L.foldl jR o
 | [],o,_,_,_=>⟨λ_ h=>h,λ_ h=>by cases h⟩
 | s::L,o,j,i,k=>by
   rw[List.foldl_cons]
   have r:=i s (.head _)
   obtain ⟨l,m,n⟩:=jxa (o:=o) (a:=qL s.from_) (λx b=>k x b s (.head _)) (qL (s.to_ - 1) - qL s.from_+1).toNat
   have f:qL s.from_<=qL (s.to_ - 1):=yW (by decide) (by omega)
   have e:=YR L (jR o s) j.tail (λx b=>i x (.tail _ b)) (λx b y c=>by
    have d:=n x b
    have g:=(List.pairwise_cons.1 j.gap).1 y c
    have u:qL (s.to_ - 1)<=qL y.from_:=yW (by decide) (by omega)
    omega)
   refine ⟨λx b=>e.1 x (l x b),λy c t d g=>?_⟩
   rcases List.mem_cons.1 c with rfl | c
   ·have p:qL y.from_<=qL t:=yW (by decide) d
    have q:qL t<=qL (y.to_ - 1):=yW (by decide) (by omega)
    have:=m (qL t - qL y.from_).toNat (by omega)
    rw[show qL y.from_+((qL t - qL y.from_).toNat:Int)=qL t by omega] at this
    exact e.1 _ this
   ·exact e.2 y c t d g
theorem jya {l:List Spn} {t:Int} (h0:0<=t) (a:t<32054400) (h:Cov l t):qL t∈zQ l:=by
 obtain ⟨s,b,k1,k2⟩:=(qu l t).2 ⟨h0,a,h⟩
 exact (YR (zE l) [] (xU l) jZ (λ_ h=>by cases h)).2 s b t k1 k2
theorem vja {a b t:Int}:Cov [⟨a,b⟩] t↔a<=t/\t<b:=by
 rw[qI]
 simp[Zm]
theorem QY {a b:List Spn} {n size:Int} (h:∀t,0<=t->t<32054400->n*size<=t->t<(n+1)*size->(Cov a t↔Cov b t)):j9 a n size=j9 b n size:=by
 unfold j9
 split
 ·rfl
 ·unfold Xj
  refine VR λt h0 f=>?_
  rw[XV,XV,qu a,qu b,qu [_],vja]
  constructor
  ·rintro ⟨⟨_,_,c⟩,g,i,e,d⟩
   exact ⟨⟨h0,f,(h t h0 f e d).1 c⟩,g,i,e,d⟩
  ·rintro ⟨⟨_,_,c⟩,g,i,e,d⟩
   exact ⟨⟨h0,f,(h t h0 f e d).2 c⟩,g,i,e,d⟩
theorem WA {a:List Spn} {n size t:Int} (h:Cov (j9 a n size) t):(0<=t/\t<32054400)/\Cov a t/\n*size<=t/\t<(n+1)*size:=by
 unfold j9 at h
 split at h
 ·exact absurd h Zm
 ·rw[V6,vja] at h
  exact ⟨h.1,h.2.1,h.2.2⟩
section
variable {s:Setup} {L L1 L2:List Seg} {wk d t:Int}
structure SameW (L1 L2:List Seg) (wk:Int):Prop where
 clock:∀t,0<=t->t<32054400->jX t=wk->(Cov (L1.map spS) t↔Cov (L2.map spS) t)
 rest:∀t,0<=t->t<32054400->jX t=wk->(Cov ((L1.filter λg=>g.kind==3).map spS) t↔Cov ((L2.filter λg=>g.kind==3).map spS) t)
theorem YS (h:SameW L1 L2 wk) (e:d / 7=wk):qY (zV L1) d=qY (zV L2) d:=QY λt h0 a b c=>by
 have f:=(Wz h0 a b c).2
 unfold zV
 rw[qu,qu]
 have:=h.clock t h0 a (by omega)
 simp[h0,a,this]
theorem Z7a (h:SameW L1 L2 wk) (e:d / 7=wk):qY (j8 L1 3) d=qY (j8 L2 3) d:=QY λt h0 a b c=>by
 have f:=(Wz h0 a b c).2
 unfold j8
 rw[qu,qu]
 have:=h.rest t h0 a (by omega)
 simp[h0,a,this]
theorem Z8a (h:SameW L1 L2 wk) (a:d / 7=wk):jw s L1 d=jw s L2 d:=by
 unfold jw
 rw[YS h a,Z7a h a]
theorem Z9a (h:SameW L1 L2 wk) (a:d / 7=wk):qM s L1 d=qM s L2 d:=by
 unfold qM
 rw[YS h a,Z8a h a]
theorem kia {k:Int} (h:Cov (j8 L k) t):Cov (zV L) t:=by
 unfold j8 at h
 unfold zV
 rw[qu] at h⊢
 obtain ⟨h0,b,x,d,c⟩:=h
 obtain ⟨g,a,rfl⟩:=List.mem_map.1 d
 exact ⟨h0,b,_,List.mem_map.2 ⟨g,(List.mem_filter.1 a).1,rfl⟩,c⟩
theorem Qaa (h:Cov (jw s L d) t):(0<=t/\t<32054400)/\Cov (zV L) t/\d*86400<=t/\t<(d+1)*86400:=by
 have key:Cov (qY (zV L) d) t∨Cov (qY (j8 L 3) d) t:=by
  unfold jw kF at h
  rw[qu,zBa] at h
  rcases h.2.2 with q | q
  ·exact .inr (Zq.1 q).2.1
  ·unfold wU at q
   split at q
   ·unfold Qh at q
    split at q
    ·exact absurd q Zm
    ·exact .inl (Zq.1 (Zq.1 q).2.1).2.1
   ·exact absurd q Zm
 rcases key with q | q
 ·exact WA q
 ·obtain ⟨c,b,a⟩:=WA q
  exact ⟨c,kia b,a⟩
theorem vka (h:Cov (qM s L d) t):(0<=t/\t<32054400)/\Cov (zV L) t/\d*86400<=t/\t<(d+1)*86400:=by
 unfold qM at h
 exact WA (Zq.1 h).2.1
theorem WB {f:Int->List Spn}:∀ {l:List Int},Cov (l.flatMap f) t↔∃d∈l,Cov (f d) t
 | []=>by simp[Zm]
 | x::l=>by rw[List.flatMap_cons,zBa,WB];simp
theorem jza (h0:0<=t) (b:t<32054400):Cov (vc s L) t↔Cov (qM s L (qL t)) t:=by
 unfold vc
 rw[qu,WB]
 constructor
 ·rintro ⟨_,_,d,_,a⟩
  obtain ⟨_,_,c,e⟩:=vka a
  rw[(Wz h0 b c e).1]
  exact a
 ·intro a
  exact ⟨h0,b,_,jya h0 b (vka a).2.1,a⟩
theorem jAa (h0:0<=t) (b:t<32054400):Cov (xV s L) t↔Cov (jw s L (qL t)) t:=by
 unfold xV
 rw[qu,WB]
 constructor
 ·rintro ⟨_,_,d,_,a⟩
  obtain ⟨_,_,c,e⟩:=Qaa a
  rw[(Wz h0 b c e).1]
  exact a
 ·intro a
  exact ⟨h0,b,_,jya h0 b (Qaa a).2.1,a⟩
theorem kja (h:SameW L1 L2 wk):vd s L1 wk=vd s L2 wk:=by
 have e:∀t,0<=t->t<32054400->wk*604800<=t->t<(wk+1)*604800->qL t / 7=wk:=λt h0 a b c=>by
  have f:=J2a h0 a b c
  have d:=KYa h0 a
  have g:=(Wz h0 a d.1 d.2).2
  omega
 have f:qo (vc s L1) wk=qo (vc s L2) wk:=QY λt h0 a b c=>by
  rw[jza h0 a,jza h0 a,Z9a h (e t h0 a b c)]
 have d:qo (xV s L1) wk=qo (xV s L2) wk:=QY λt h0 a b c=>by
  rw[jAa h0 a,jAa h0 a,Z8a h (e t h0 a b c)]
 unfold vd Qq
 rw[f,d]
end
section
variable {s:Setup} {n wk:Int} {L L1 L2:List Seg}
theorem K6 (i:Out s n wk) (r:Seg->Bool) {t:Int} (j:jX t=wk):Cov ((L.filter r).map spS) t↔Cov (((yN s n L).filter r).map spS) t:=by
 constructor
 ·rintro ⟨x,b,f,h⟩
  obtain ⟨g,a,rfl⟩:=List.mem_map.1 b
  obtain ⟨a,d⟩:=List.mem_filter.1 a
  have f:g.from_<=t:=f
  have h:t<g.to_:=h
  refine ⟨_,List.mem_map.2 ⟨g,List.mem_filter.2 ⟨List.mem_filter.2 ⟨a,?_⟩,d⟩,rfl⟩,f,h⟩
  cases e:inG s n g
  ·rfl
  ·simp only[inG,Bool.and_eq_true,decide_eq_true_eq] at e
   exact absurd j (i t (by omega) (by omega))
 ·rintro ⟨x,b,c⟩
  obtain ⟨g,a,rfl⟩:=List.mem_map.1 b
  obtain ⟨a,d⟩:=List.mem_filter.1 a
  exact ⟨_,List.mem_map.2 ⟨g,List.mem_filter.2 ⟨(List.mem_filter.1 a).1,d⟩,rfl⟩,c⟩
theorem Qba (b:Out s n wk) (h:yN s n L1=yN s n L2):SameW L1 L2 wk:=by
 refine ⟨λt _ _ a=>?_,λt _ _ a=>?_⟩
 ·have k1:=K6 (L:=L1) b (λ_=>true) a
  have k2:=K6 (L:=L2) b (λ_=>true) a
  rw[h] at k1
  rw[Zp (λ_ _=>rfl)] at k1 k2
  exact k1.trans k2.symm
 ·rw[K6 b _ a,K6 (L:=L2) b _ a,h]
theorem jBa (c:Out s n wk) (d:RiseTo L 32054400):L.filter (jx wk)=(yN s n L).filter (jx wk):=by
 unfold yN
 rw[List.filter_filter]
 refine List.filter_congr λg b=>?_
 have b:=d.each g b
 cases a:inG s n g
 ·simp
 ·simp only[inG,Bool.and_eq_true,decide_eq_true_eq] at a
  have:=c g.from_ (by omega) (by omega)
  simp[jx,this]
end
theorem wLa {s:Setup} {b a:List Ev} {L1 L2:List Seg} {k:Int} (c:L1.filter (jx k)=L2.filter (jx k)) (e:∀g∈L1.filter (jx k),xm b g=xm a g) (j:jB b k=jB a k):YO s b L1 k=YO s a L2 k:=by
 have h:(L1.filter (jx k)).map (λg=>(jM s (xm b g)).1)=(L2.filter (jx k)).map λg=>(jM s (xm a g)).1:=by
  rw[<-c]
  exact List.map_congr_left λg d=>by rw[e g d]
 have i:(L1.filter (jx k)).foldl (λz g=>qa z ((0,1),(jM s (xm b g)).2)) ((0,1),0)=(L2.filter (jx k)).foldl (λz g=>qa z ((0,1),(jM s (xm a g)).2)) ((0,1),0):=by
  have f:∀(l:List Seg) (E:List Ev) (z:zF × Int),l.foldl (λz g=>qa z ((0,1),(jM s (xm E g)).2)) z=(l.map λg=>(jM s (xm E g)).2).foldl (λz x=>qa z ((0,1),x)) z:=λl E z=>by rw[List.foldl_map]
  rw[f,f, <-c]
  congr 1
  exact List.map_congr_left λg d=>by rw[e g d]
 unfold YO
 simp only[h,i]
 simp only[c,j]
theorem YT (x:Ev):∀l:List Ev,∃A B,l=A++B/\xC x l=A++x::B
 | []=>⟨[],[],rfl,rfl⟩
 | y::l=>by
   rw[qt]
   split
   ·obtain ⟨A,B,a,b⟩:=YT x l
    exact ⟨y::A,B,by rw[a];rfl,by rw[b];rfl⟩
   ·exact ⟨[],y::l,rfl,rfl⟩
section
variable {s:Setup} {A B:List Ev} {e:Ev} {w wk:Int}
theorem zPa (n:zw s=true) (d:Srt (A++e::B)) (q:Int->Bool) (u:∀x∈A++e::B,e.at_ - s.cap<=x.at_->x.at_<=e.at_+s.cap->q x.id=true) (g:∀x∈A++e::B,ko s x=true):
  yN s e.at_ (zM s (A++B) w).1=yN s e.at_ (zM s (A++e::B) w).1/\vu q (zM s (A++B) w).2=vu q (zM s (A++e::B) w).2:=by
 obtain ⟨k1,k2,k3⟩:=qW.1 d
 have m:Srt B:=k2.2
 have k:Srt (A++B):=qW.2 ⟨k1,m,λx c y t=>k3 x c y (.tail _ t)⟩
 have o:∀(l:List Ev),Srt l->zD (l.filter (vS s w))=l.filter (vS s w):=λl r=>by rw[vb,Qv r]
 unfold zM
 rw[if_pos n,if_pos n,Zma,Zma,o _ k,o _ d,List.filter_append,List.filter_append,List.filter_cons]
 cases j:vS s w e
 ·exact ⟨rfl,rfl⟩
 ·simp only[if_true]
  have f:∀x∈A.filter (vS s w)++e::B.filter (vS s w),x∈A++e::B:=λx c=>by
   rcases List.mem_append.1 c with c | c
   ·exact List.mem_append_left _ (List.mem_filter.1 c).1
   ·rcases List.mem_cons.1 c with rfl | c
    ·exact List.mem_append_right _ (.head _)
    ·exact List.mem_append_right _ (.tail _ (List.mem_filter.1 c).1)
  have i:(A.filter (vS s w)++e::B.filter (vS s w)).Pairwise λa b=>a.at_<=b.at_:=by
   have h:=Zla d
   have p:(A.filter (vS s w)++e::B.filter (vS s w))=(A++e::B).filter (vS s w):=by rw[List.filter_append,List.filter_cons,j,if_pos rfl]
   rw[p]
   exact h.filter _
  have:=Jna (q:=q) n i (λx c=>(yq (yM (g x (f x c)))).2.2.2.1) λx c=>u x (f x c)
  exact ⟨this.seg,this.flg⟩
theorem wMa {p:Ev->Bool} (a:p e=false):(A++e::B).find? p=(A++B).find? p:=by
 rw[List.find?_append,List.find?_append,List.find?_cons,a]
theorem zQa {l:List Ev} (f:(l.map (·.id)).Nodup) {x:Ev} (c:x∈l):l.find? (λe=>e.id==x.id)=some x:=by
 cases a:l.find? (λe=>e.id==x.id) with
 | none=>
   have:=List.find?_eq_none.1 a x c
   simp at this
 | some y=>
   have d:=List.mem_of_find?_eq_some a
   have b:=List.find?_some a
   simp only[beq_iff_eq] at b
   rw[Z5a f d c b]
theorem zRa (s:Setup) (w:Int):Zv s w=xW s w:=rfl
theorem jCa {own:List Ev} (a:Srt own) (b:∀x∈own,xW s w x=false):Xl s w own=own:=by
 unfold Xl
 rw[Qv a,zRa]
 exact Zp λx c=>by rw[b x c];rfl
theorem Qca (r:zw s=true) (h:Srt (A++e::B)) (c:∀x∈A++e::B,xW s w x=false) (z:((A++e::B).map (·.id)).Nodup) (t:Out s e.at_ wk):
  wR s (A++B) w wk=wR s (A++e::B) w wk/\vd s (zM s (A++B) w).1 wk=vd s (zM s (A++e::B) w).1 wk/\
   qG (A++B) (zM s (A++B) w).2 wk=qG (A++e::B) (zM s (A++e::B) w).2 wk:=by
 obtain ⟨⟨Z,X⟩,c1,Y⟩:=qO r
 obtain ⟨k1,k2,k3⟩:=qW.1 h
 have F:Srt (A++B):=qW.2 ⟨k1,k2.2,λx a y C=>k3 x a y (.tail _ C)⟩
 have j:∀x∈A++B,x∈A++e::B:=λx a=>by
  rcases List.mem_append.1 a with a | a
  ·exact List.mem_append_left _ a
  ·exact List.mem_append_right _ (.tail _ a)
 have E:∀x∈A++e::B,ko s x=true:=λx a=>by
  have:=c x a
  unfold xW at this
  rw[Bool.or_eq_false_iff] at this
  simpa using this.2
 have G:∀x∈A++B,x.id≠e.id:=λx a K=>by
  have d:((e::(A++B)).map (·.id)).Nodup:=(List.Perm.nodup_iff (List.Perm.map _ List.perm_middle)).1 z
  rw[List.map_cons,List.nodup_cons] at d
  exact d.1 (List.mem_map.2 ⟨x,a,K⟩)
 have H:((A++B).map (·.id)).Nodup:=by
  have d:((e::(A++B)).map (·.id)).Nodup:=(List.Perm.nodup_iff (List.Perm.map _ List.perm_middle)).1 z
  rw[List.map_cons,List.nodup_cons] at d
  exact d.2
 obtain ⟨q,v⟩:∃q:Int->Bool,q=λi=>(A++e::B).any λx=>x.id==i && (decide (e.at_ - s.cap<=x.at_) && decide (x.at_<=e.at_+s.cap)):=⟨_,rfl⟩
 have S:∀x∈A++e::B,e.at_ - s.cap<=x.at_->x.at_<=e.at_+s.cap->q x.id=true:=λx a P M=>by
  rw[v]
  exact List.any_eq_true.2 ⟨x,a,by simp[P,M]⟩
 obtain ⟨I,L⟩:=zPa (w:=w) r h q S E
 obtain ⟨R,T⟩:=Qc (s:=s) (l:=A++B) (w:=w) r
 obtain ⟨Q,W⟩:=Qc (s:=s) (l:=A++e::B) (w:=w) r
 have o:∀x∈A++B,xW s w x=false:=λx a=>c x (j x a)
 refine ⟨?_,kja (Qba t I),?_⟩
 ·unfold wR
  rw[if_pos r,if_pos r,jCa F o,jCa h c]
  refine wLa (by rw[jBa t R,jBa t Q,I]) (λg U=>?_) ?_
  ·obtain ⟨x,⟨a,_,_⟩,hid,_⟩:=T g (List.mem_filter.1 U).1
   unfold xm
   rw[wMa]
   have:=G x a
   simp only[wh]
   rw[show (e.id==g.id)=false by rw[beq_eq_false_iff_ne];omega]
   rfl
  ·unfold jB
   rw[List.filter_append,List.filter_append,List.filter_cons]
   have:kp wk e=false:=by
    have:=t e.at_ (by omega) (by omega)
    simp[kp,this]
   rw[this]
   rfl
 ·have b:∀x∈A++B,∀f:Flg,f.id=x.id->ZH (A++B) f=jX x.at_/\ZH (A++e::B) f=jX x.at_:=λx a f k=>by
   unfold ZH
   rw[k,zQa H a,zQa z (j x a)]
   exact ⟨rfl,rfl⟩
  have u:∀f:Flg,q f.id=true->∃x∈A++e::B,x.id=f.id/\jX x.at_≠wk:=λf k=>by
   rw[v] at k
   obtain ⟨x,a,D⟩:=List.any_eq_true.1 k
   simp only[Bool.and_eq_true,beq_iff_eq,decide_eq_true_eq] at D
   exact ⟨x,a,D.1,t x.at_ (by omega) (by omega)⟩
  have N:qG (A++B) (zM s (A++B) w).2 wk=qG (A++B) (vu q (zM s (A++B) w).2) wk:=by
   unfold qG vu
   rw[List.filter_filter]
   refine List.filter_congr λf k=>?_
   cases n:q f.id
   ·simp
   ·obtain ⟨x,a,hid⟩:=XQ f k
    obtain ⟨y,C,m,p⟩:=u f n
    have:y=x:=Z5a z C (j x a) (by rw[m,hid])
    subst this
    rw[(b y a f hid.symm).1]
    simp[p]
  have O:qG (A++e::B) (zM s (A++e::B) w).2 wk=qG (A++e::B) (vu q (zM s (A++e::B) w).2) wk:=by
   unfold qG vu
   rw[List.filter_filter]
   refine List.filter_congr λf k=>?_
   cases n:q f.id
   ·simp
   ·obtain ⟨y,C,m,p⟩:=u f n
    have:ZH (A++e::B) f=jX y.at_:=by
     unfold ZH
     rw[<-m,zQa z C]
     rfl
    rw[this]
    simp[p]
  rw[N,O, <-L]
  unfold qG
  refine List.filter_congr λf k=>?_
  obtain ⟨x,a,hid⟩:=XQ f (List.mem_filter.1 k).1
  obtain ⟨J,V⟩:=b x a f hid.symm
  rw[J,V]
end
theorem YU {s:Setup} {l:List Ev} {e:Ev} {w wk:Int} (u:((e::l).map (·.id)).Nodup) (h:e.worker=w->ko s e=true->zw s=true->Out s e.at_ wk):zW s (e::l) w wk=zW s l w wk:=by
 unfold zW
 by_cases f:xH s w wk=0
 ·rw[if_neg (by omega),if_neg (by omega)]
  have p:zw s=true:=by
   unfold xH at f
   cases H:zw s
   ·simp[H] at f
   ·rfl
  have r:((w.toNat:Nat):Int)=w:=by
   unfold xH at f
   simp only[p,Bool.not_true,Bool.false_eq_true,if_false] at f
   split at f
   ·omega
   ·omega
  have o:=jW l
  have i:evR s w (e::l)=if !xW s w e then xC e (evR s w l) else evR s w l:=by
   unfold evR
   rw[show zD (e::l)=xC e (zD l) from rfl,Qd e o]
  cases a:xW s w e
  ·rw[a] at i
   simp only[Bool.not_false,if_true] at i
   obtain ⟨A,B,E,n⟩:=YT e (evR s w l)
   have q:Srt (evR s w l):=by
    have:evR s w l=zD (l.filter λe=> !xW s w e):=by rw[vb];rfl
    rw[this];exact jW _
   have j:=VK e q
   rw[n] at j
   have c:∀x∈evR s w l,x∈l/\xW s w x=false:=λx b=>by
    obtain ⟨z,C⟩:=List.mem_filter.1 b
    exact ⟨QN.1 z,by simpa using C⟩
   have k:∀x∈A++e::B,xW s w x=false:=λx b=>by
    rw[<-n] at b
    rcases J8.1 b with rfl | b
    ·exact a
    ·exact (c x b).2
   have d:(A++e::B).Perm (e::evR s w l):=by rw[<-n];exact VX e _
   have g:((e::evR s w l).map (·.id)).Nodup:=by
    rw[List.map_cons,List.nodup_cons] at u⊢
    refine ⟨λF=>?_,?_⟩
    ·obtain ⟨x,b,v⟩:=List.mem_map.1 F
     exact u.1 (List.mem_map.2 ⟨x,(c x b).1,v⟩)
    ·have D:((zD l).map (·.id)).Nodup:=(List.Perm.nodup_iff (List.Perm.map _ (jJ l))).2 u.2
     exact List.Sublist.nodup (List.Sublist.map _ List.filter_sublist) D
   have t:((A++e::B).map (·.id)).Nodup:=(List.Perm.nodup_iff (List.Perm.map _ d)).2 g
   have m:e.worker=w/\ko s e=true:=by
    unfold xW at a
    rw[Bool.or_eq_false_iff] at a
    exact ⟨by simpa using a.1,by simpa using a.2⟩
   obtain ⟨y,G,z3⟩:=Qca (w:=w) (wk:=wk) p j k t (h m.1 m.2 p)
   rw[i,n,E]
   refine Prod.ext ?_ (by simpa using z3.symm)
   unfold J0a
   simp only[r]
   rw[y,G]
  ·rw[a] at i
   simp only[Bool.not_true,Bool.false_eq_true,if_false] at i
   rw[i]
 ·rw[if_pos f,if_pos f]
theorem Kd {s:Setup} {l l':List Ev} {w wk:Int} (a:l.Perm l') (b:(l.map (·.id)).Nodup):zW s l w wk=zW s l' w wk:=by
 unfold zW evR
 rw[xMa a b]
set_option maxRecDepth 100000
theorem J3a {P:Program} {f:FuncId} {x v:Value} (i:Vm P f=true) (c:∀w,Calls P f #[x] w λe w'=>e= .returned v/\w=w'):ji P f [.v x] (.v v):=λh=>by
 refine ⟨i,⟨_,_,⟨rfl,rfl⟩,.refl⟩,λφ k B w g vs j hB a=>?_⟩
 obtain ⟨u,r,rfl,d,b⟩:=a
 have d:u=x:=d
 have b:r=[]:=b
 subst d b
 refine (c w).mono ?_
 rintro e w' ⟨rfl,rfl⟩
 exact ⟨_,_,_,_,rfl,⟨rfl,rfl⟩,.refl,Good.refl j hB,rfl⟩
def q9 (n:Int):Int:=wr ((wr (Go.Lib.bitLen (IntKind.wrap .u64 n).toNat+7)).tdiv 8)
theorem WNa (n:Int):ji Tryz.prog 69 [i64 n] (i64 (q9 n)):=λh=>by
 have a:0<=IntKind.wrap .u64 n/\IntKind.wrap .u64 n<=18446744073709551615:=by
  rw[IntKind.wrap_u64];omega
 refine zf Tryz.f69 [.tmp 2] 8 rfl rfl rfl rfl rfl rfl (by decide) (⟨_,_,⟨rfl,rfl⟩,.refl⟩) λB=>?_
 simp only[go_sem]
 refine zc (J3a (by kernel_rfl) (λw=>wNa (IntKind.wrap .u64 n) w a.1 a.2) _) ?_
 rintro _ b ⟨rfl,rfl⟩
 simp only[go_sem]
 (first | refine zd ?_ | refine ze ?_ (by rfl))<;>(simp only[go_sem,q9]<;>try rfl)
set_option maxRecDepth 100000
theorem Jc {P:Program} {f:FuncId} {ar:List AV} {h:List Ob} {u:AV} {e:Nat} {rows:List (List AV)} (q:0<e) (d:u.lt h.length=true) (z:zU h.length rows=true) (c:ACalls P f ar h λr h'=>∃L x,h'=h++L/\NoRes L/\r= .tup [x,u]/\New h e x rows L):ACalls P f ar h λr h'=>r= .tup [.sl e rows,u]/\h'=h:=by
 refine ⟨c.1,⟨_,_,⟨rfl,rfl⟩,.refl⟩,λφ l B w g vs m hB b=>?_⟩
 refine (c.2.2 φ l B w g vs m hB b).mono λD w' ⟨v,r,h',g',t,⟨L,x,y,_,o,n1⟩,_,j,k⟩=>?_
 subst y o
 rw[qR l] at j k
 have a:(fill φ h).length=h.length:=qm
 obtain ⟨us,rfl,C,E,n,a1,p,A,s,a2,i⟩:=k
 have i:A=[]:=i
 subst i s
 refine ⟨_,_,h,g',t,⟨rfl,rfl⟩,.refl,j.drop rfl (by have:=m.ids;exact this),us,rfl,?_⟩
 rw[n]
 exact ⟨C,_,rfl,Qi j.ok q a1 (n1 _ a) (λid hid=>by rw[a];exact n1.root id hid) (by rw[a];exact z),p,[],rfl,AR.less (xx w' g' (fill φ h) L) _ _ (by rw[qm];exact d) a2,rfl⟩
def je (n:Int):List AV:=[.v (.int .u8 n)]
theorem QZ {n:Nat}:∀l:List Int,zU n (l.map je)=true
 | []=>rfl
 | s::l=>by
   rw[List.map_cons,zU,QZ l];rfl
theorem Qda (l:List Int):((l.map je).all λr=>r.length==1 && r.all AV.one)=true:=by
 rw[List.all_eq_true]
 intro r a
 obtain ⟨s,_,rfl⟩:=List.mem_map.1 a
 rfl
def Qw (n:Int) (j:Nat):Int:=IntKind.wrap .u8 (n.fdiv (2 ^ min (8*j) 64))
def vi (n:Int):Nat->List Int
 | 0=>[]
 | k+1=>Qw n k::vi n k
theorem wA (n:Int):∀k,(vi n k).length=k
 | 0=>rfl
 | k+1=>by rw[vi,List.length_cons,wA n k]
theorem vla (n:Int):0<=q9 n/\q9 n<=8:=by
 have a:0<=IntKind.wrap .u64 n/\IntKind.wrap .u64 n<=18446744073709551615:=by
  rw[IntKind.wrap_u64];omega
 have:=Go.Lib.bitLen_le (IntKind.wrap .u64 n).toNat 64 (by omega) (by omega)
 unfold q9
 rw[zI (n:=(Go.Lib.bitLen (IntKind.wrap .u64 n).toNat:Int)+7) (by unfold Fit;omega),Int.tdiv_eq_ediv_of_nonneg (by omega),zI (by unfold Fit;omega)]
 omega
def wX (n:Int):List Int:=IntKind.wrap .u8 (q9 n)::vi n (q9 n).toNat
theorem WC (n:Int):(wX n).length<=9:=by
 have:=vla n
 rw[wX,List.length_cons,wA];omega
def Qea (l:List Int):Bool:=l.any λn=>decide (n<0)
def ws (b ns:List Int):List Int × Int:=if Qea ns then ([],50) else (b++ns.flatMap wX,0)
theorem K0a (h:List Ob) (x y:AV) (b ns:List Int) (hx:SlOf h x 1 (b.map je)) (hy:SlOf h y 1 (ns.map zz)) (hb:b.length<1073741824) (hn:ns.length<1048576):
  ACalls Tryz.prog 25 [x,y] h λr h'=>∃L z,h'=h++L/\NoRes L/\r= .tup [z,i64 (ws b ns).2]/\New h 1 z ((ws b ns).1.map je) L:=by
 have hex:∃r h',(∃L z,h'=h++L/\NoRes L/\r=AV.tup [z,i64 (ws b ns).2]/\New h 1 z ((ws b ns).1.map je) L)/\ResK h h':=
  ⟨_,_,⟨[],.sl 1 _,rfl,qh,rfl,λ_ _=>⟨rfl,λ_=>rfl⟩⟩,zR⟩
 refine jm (N:=41) (rs:=[.tmp 4,.tmp 5]) (fn:=Tryz.f25) rfl rfl rfl rfl (Nat.le_of_ble_eq_true rfl) rfl (hex) λB=>?_
 refine qc (by decide) ?_
 simp only[go_sem]
 refine j5 (vL (λT' h'=>Pre h h'/\OwnS h h' 5 1 (T' 6) (b.map je)/\T' 1=y) (by decide) ?_ ?_)
 ·simp only[go_sem]
  refine zc (kga _ x _ hx (by rw[List.length_map];omega) (Qda b)) ?_
  rintro r h1 hr
  rcases hr with ⟨q1,rfl,rfl⟩ | ⟨rfl,rfl⟩
  ·simp only[go_sem]
   exact ⟨.refl,.inl ⟨rfl,q1⟩⟩
  ·simp only[go_sem]
   exact ⟨⟨_,rfl,zi rfl⟩,.inr ⟨h.length,1,Nat.le_refl _,rfl,by rw[zo rfl];rfl⟩⟩
 ·rintro T h' ⟨c,H,t1⟩
  have F:=(c.sl hy).rows
  refine zL _ (by decide) ?_
  simp only[go_sem,t1,F,List.length_map]
  refine zj (by decide) (λm T h'=>∃i:Nat,i<=ns.length/\Qea (ns.take i)=false/\Pre h h'/\OwnS h h' 5 1 (T 6) ((b++(ns.take i).flatMap wX).map je)/\T 12=y/\T 13=i64 ns.length/\T 14=i64 i/\m=ns.length - i) ns.length
   ⟨0,by omega,rfl,c,by simp only[go_sem];simpa using H,by simp only[go_sem,t1],by (simp only[go_sem]<;>rfl),by (simp only[go_sem]<;>rfl),rfl⟩ ?_
  clear c H t1 F
  rintro m T h' ⟨i,hi,s,c,H,o,g,f,rfl⟩
  simp only[go_sem,g,f]
  refine ways (λe=>?_) (λe=>?_)
  ·have C:=dlt e
   have J:=QU C
   have κ:=(c.sl hy).at (i:=i) (by rw[List.length_map];exact C)
   have F:=(c.sl hy).rows
   have μ:(i:Int)<ns.length:=by omega
   have v:ns.take (i+1)=ns.take i++[ns[i]]:=(List.take_append_getElem C).symm
   have I:=List.getElem_mem C
   obtain ⟨z,hz⟩:∃z,z=ns[i]:=⟨_,rfl⟩
   rw[<-hz] at J v I
   simp only[go_sem,o,f,κ,F,J,μ,List.length_map,Int.toNat_natCast,Int.natCast_nonneg]
   refine ways (λe2=>?_) (λe2=>?_)
   ·have X:Qea ns=true:=List.any_eq_true.2 ⟨z,I,e2⟩
    have hp:ws b ns=([],50):=by unfold ws;rw[X];rfl
    rw[hp]
    simp only[go_sem]
    obtain ⟨L,Z,hN⟩:=c
    exact ⟨_,rfl,.inl ⟨L,_,Z,hN,rfl,λh2 _=>⟨rfl,λh=>absurd rfl h⟩⟩⟩
   ·have Y:decide (z<0)=false:=e2
    simp only[go_sem]
    refine zc (WNa z _) ?_
    rintro _ h2 ⟨rfl,e3⟩
    rw[e3]
    have hk:=vla z
    obtain ⟨p,E⟩:∃p,p=b++(ns.take i).flatMap wX:=⟨_,rfl⟩
    rw[<-E] at H
    have ψ:p.length<=1073741824+9*1048576:=by
     have:∀l:List Int,(l.flatMap wX).length<=9*l.length:=λl=>by
      induction l with
      | nil=>simp
      | cons n l ih=>
        have:=WC n
        rw[List.flatMap_cons,List.length_append,List.length_cons];omega
     have:=this (ns.take i)
     rw[List.length_take] at this
     rw[E,List.length_append];omega
    have W:(p.length+1)*2<=140737488355328:=by omega
    rcases H with ⟨t6,q⟩ | ⟨id,st,u1,t6,u3⟩
    ·have hP:p=[]:=by simpa using q
     simp only[go_sem,t6]
     have a:Pre h (h'++[.row 5 1 [je (IntKind.wrap .u8 (q9 z))] 0,.row 5 1 [je (IntKind.wrap .u8 (q9 z))] 0]):=c.app (zg rfl (zi rfl))
     have d:OwnS h (h'++[.row 5 1 [je (IntKind.wrap .u8 (q9 z))] 0,.row 5 1 [je (IntKind.wrap .u8 (q9 z))] 0]) 5 1 (.tl (h'.length+1) 0) ((p++[IntKind.wrap .u8 (q9 z)]).map je):= .inr ⟨_,0,by have:=c.len;omega,rfl,by rw[zm (k:=1) rfl,hP];rfl⟩
     have ο:((q9 z).toNat:Int)=q9 z:=by omega
     obtain ⟨k,V⟩:∃k,k=(q9 z).toNat:=⟨_,rfl⟩
     have ζ:k<=8:=by omega
     refine zj (by decide) (λm T G=>∃j:Nat,j<=k/\Pre h G/\(∃D,vi z k=D++vi z j/\OwnS h G 5 1 (T 6) ((p++[IntKind.wrap .u8 (q9 z)]++D).map je))/\T 8=i64 z/\T 9=i64 j/\T 12=y/\T 13=i64 ns.length/\T 14=i64 i/\m=j) k
      ⟨k,Nat.le_refl _,a,⟨[],rfl,by simp only[go_sem];exact d⟩,by simp only[go_sem],by rw[show ((k:Nat):Int)=q9 z by omega];simp only[go_sem],by simp only[go_sem,o],by simp only[go_sem,g],by simp only[go_sem,f],rfl⟩ ?_
     clear a d o g f
     rintro m T G ⟨j,hj,a,⟨D,S,d⟩,t8,t9,o,g,f,rfl⟩
     simp only[go_sem,t9]
     refine ways (λP=>?_) (λP=>?_)
     ·have ν:0<m:=by have:=of_decide_eq_true P;omega
      obtain ⟨j,rfl⟩:∃j,m=j+1:=⟨m - 1,by omega⟩
      have w1:IntKind.wrap .i64 (((j+1:Nat):Int) - 1)=(j:Int):=(zI (n:=((j+1:Nat):Int) - 1) (by unfold Fit;omega)).trans (by omega)
      have w2:IntKind.wrap .i64 (8*(j:Int))=8*(j:Int):=zI (n:=8*(j:Int)) (by unfold Fit;omega)
      have w3:0<=8*(j:Int):=by omega
      have w4:(8*(j:Int)).toNat=8*j:=by omega
      have R:vi z k=(D++[Qw z j])++vi z j:=by rw[S,vi];simp
      have Q:=congrArg List.length S
      rw[List.length_append,wA,wA] at Q
      have O:IntKind.wrap .u8 (z.fdiv (2 ^ min (8*j) 64))=Qw z j:=rfl
      have K:(p.length+(D.length+1)+1)*2<=140737488355328:=by omega
      rcases d with ⟨_,q⟩ | ⟨t,w,v1,t6,v3⟩
      ·simp at q
      ·have u:∀M,(G++M)[t]? =some (.row 5 1 ((p++[IntKind.wrap .u8 (q9 z)]++D).map je) w):=λM=>zb v3
       simp only[go_sem,t6,t8,t9,w1,w2,w3,w4,O,u,K,List.length_map]
       refine ⟨j,by omega,j,by omega,(a.app (zi rfl)).set v1 rfl,⟨D++[Qw z j],R,.inr ⟨t,w+1,v1,rfl,?_⟩⟩,rfl,o,g,f,rfl⟩
       have e6:(p++IntKind.wrap .u8 (q9 z)::(D++[Qw z j])).map je=(p++IntKind.wrap .u8 (q9 z)::D).map je++[je (Qw z j)]:=by simp
       rw[e6]
       exact zh (u _)
     ·have U:m=0:=by have:=of_decide_eq_false P;omega
      subst U
      have A:p++[IntKind.wrap .u8 (q9 z)]++D=b++(ns.take (i+1)).flatMap wX:=by
       rw[v,List.flatMap_append, <-List.append_assoc, <-E]
       have:D=vi z k:=by rw[S];simp[vi]
       rw[this,V]
       simp[wX]
      rw[A] at d
      simp only[go_sem,f]
      exact ⟨ns.length - (i+1),by omega,i+1,by omega,by rw[v];unfold Qea at s ⊢;rw[List.any_append,s];simp[Y],a,d,o,g,zx (by omega) rfl,rfl⟩
    ·have hg:∀M,(h'++M)[id]? =some (.row 5 1 (p.map je) st):=λM=>zb u3
     simp only[go_sem,t6,hg,W,List.length_map]
     have a:Pre h ((h'++[Ob.row 5 1 [je (IntKind.wrap .u8 (q9 z))] 0]).set id (.row 5 1 (p.map je++[je (IntKind.wrap .u8 (q9 z))]) (st+1))):=(c.app (zi rfl)).set u1 rfl
     have d:OwnS h ((h'++[Ob.row 5 1 [je (IntKind.wrap .u8 (q9 z))] 0]).set id (.row 5 1 (p.map je++[je (IntKind.wrap .u8 (q9 z))]) (st+1))) 5 1 (.tl id (st+1)) ((p++[IntKind.wrap .u8 (q9 z)]).map je):= .inr ⟨id,st+1,u1,rfl,by rw[List.map_append];exact zh (hg _)⟩
     have ο:((q9 z).toNat:Int)=q9 z:=by omega
     obtain ⟨k,V⟩:∃k,k=(q9 z).toNat:=⟨_,rfl⟩
     have ζ:k<=8:=by omega
     refine zj (by decide) (λm T G=>∃j:Nat,j<=k/\Pre h G/\(∃D,vi z k=D++vi z j/\OwnS h G 5 1 (T 6) ((p++[IntKind.wrap .u8 (q9 z)]++D).map je))/\T 8=i64 z/\T 9=i64 j/\T 12=y/\T 13=i64 ns.length/\T 14=i64 i/\m=j) k
      ⟨k,Nat.le_refl _,a,⟨[],rfl,by simp only[go_sem];exact d⟩,by simp only[go_sem],by rw[show ((k:Nat):Int)=q9 z by omega];simp only[go_sem],by simp only[go_sem,o],by simp only[go_sem,g],by simp only[go_sem,f],rfl⟩ ?_
     clear a d o g f
     rintro m T G ⟨j,hj,a,⟨D,S,d⟩,t8,t9,o,g,f,rfl⟩
     simp only[go_sem,t9]
     refine ways (λP=>?_) (λP=>?_)
     ·have ν:0<m:=by have:=of_decide_eq_true P;omega
      obtain ⟨j,rfl⟩:∃j,m=j+1:=⟨m - 1,by omega⟩
      have w1:IntKind.wrap .i64 (((j+1:Nat):Int) - 1)=(j:Int):=(zI (n:=((j+1:Nat):Int) - 1) (by unfold Fit;omega)).trans (by omega)
      have w2:IntKind.wrap .i64 (8*(j:Int))=8*(j:Int):=zI (n:=8*(j:Int)) (by unfold Fit;omega)
      have w3:0<=8*(j:Int):=by omega
      have w4:(8*(j:Int)).toNat=8*j:=by omega
      have R:vi z k=(D++[Qw z j])++vi z j:=by rw[S,vi];simp
      have Q:=congrArg List.length S
      rw[List.length_append,wA,wA] at Q
      have O:IntKind.wrap .u8 (z.fdiv (2 ^ min (8*j) 64))=Qw z j:=rfl
      have K:(p.length+(D.length+1)+1)*2<=140737488355328:=by omega
      rcases d with ⟨_,q⟩ | ⟨t,w,v1,t6,v3⟩
      ·simp at q
      ·have u:∀M,(G++M)[t]? =some (.row 5 1 ((p++[IntKind.wrap .u8 (q9 z)]++D).map je) w):=λM=>zb v3
       simp only[go_sem,t6,t8,t9,w1,w2,w3,w4,O,u,K,List.length_map]
       refine ⟨j,by omega,j,by omega,(a.app (zi rfl)).set v1 rfl,⟨D++[Qw z j],R,.inr ⟨t,w+1,v1,rfl,?_⟩⟩,rfl,o,g,f,rfl⟩
       have e6:(p++IntKind.wrap .u8 (q9 z)::(D++[Qw z j])).map je=(p++IntKind.wrap .u8 (q9 z)::D).map je++[je (Qw z j)]:=by simp
       rw[e6]
       exact zh (u _)
     ·have U:m=0:=by have:=of_decide_eq_false P;omega
      subst U
      have A:p++[IntKind.wrap .u8 (q9 z)]++D=b++(ns.take (i+1)).flatMap wX:=by
       rw[v,List.flatMap_append, <-List.append_assoc, <-E]
       have:D=vi z k:=by rw[S];simp[vi]
       rw[this,V]
       simp[wX]
      rw[A] at d
      simp only[go_sem,f]
      exact ⟨ns.length - (i+1),by omega,i+1,by omega,by rw[v];unfold Qea at s ⊢;rw[List.any_append,s];simp[Y],a,d,o,g,zx (by omega) rfl,rfl⟩
  ·have hge:=qU e
   have η:i=ns.length:=by omega
   subst η
   rw[List.take_length] at s H
   have hp:ws b ns=(b++ns.flatMap wX,0):=by unfold ws;rw[s];rfl
   rw[hp]
   simp only[go_sem]
   obtain ⟨L,Z,hN⟩:=c
   rw[Z] at H
   exact ⟨_,rfl,.inl ⟨L,_,Z,hN,rfl,H.new (Nat.le_refl _)⟩⟩
theorem WOa (h:List Ob) (x y:AV) (b ns:List Int) (c:SlOf h x 1 (b.map je)) (a:SlOf h y 1 (ns.map zz)) (d:b.length<1073741824) (e:ns.length<1048576):
  ACalls Tryz.prog 25 [x,y] h λr h'=>r= .tup [.sl 1 ((ws b ns).1.map je),i64 (ws b ns).2]/\h'=h:=
 Jc (by decide) rfl (QZ _) (K0a h x y b ns c a d e)
end Go.Proofs.YtfmldcilgbbimaaGreat.Ax
