import Derived.Shelf.SlSortCmp.WholeK
import Derived.Shelf.SlSortCmp.NoneTotal
import Derived.Shelf.SlicesG.Cmp
import Derived.Test.YtjeehgkolepogaaGreatK21
set_option linter.all false
namespace Go.Proofs.YtjeehgkolepogaaGreat.Ax
open Go Go.Proofs Go.Shelf
def KY:Go.Shelf.Ren:=⟨fun|6=>122|15=>146|14=>145|28=>165|29=>166|20=>157|21=>158|22=>159|23=>160|24=>161|25=>162|26=>163|27=>164|46=>171|47=>172|48=>173|49=>174|50=>175|57=>177|n=>n,fun|22=>49|24=>86|25=>140|3=>3|39=>164|0=>0|53=>184|55=>186|4=>4|46=>177|45=>176|50=>181|5=>5|9=>9|66=>192|70=>149|76=>197|77=>136|n=>n,fun|n=>n⟩
def VX:Go.Proofs.SlLaysF0.n6 Tryz.prog KY:={
 mixed:=zC
 f6:=⟨Tryz.f122.name,ze,Tryz.func122.trans (congrArg some zC)⟩
 f14:=⟨Tryz.f145.name,ze,Tryz.func145.trans (congrArg some zC)⟩
 f15:=Tryz.func146.trans (congrArg some zC)
 f20:=⟨Tryz.f157.name,ze,Tryz.func157.trans (congrArg some zC)⟩
 f21:=⟨Tryz.f158.name,ze,Tryz.func158.trans (congrArg some zC)⟩
 f22:=⟨Tryz.f159.name,ze,Tryz.func159.trans (congrArg some zC)⟩
 f23:=⟨Tryz.f160.name,ze,Tryz.func160.trans (congrArg some zC)⟩
 f24:=⟨Tryz.f161.name,ze,Tryz.func161.trans (congrArg some zC)⟩
 f25:=⟨Tryz.f162.name,ze,Tryz.func162.trans (congrArg some zC)⟩
 f26:=⟨Tryz.f163.name,ze,Tryz.func163.trans (congrArg some zC)⟩
 f27:=⟨Tryz.f164.name,ze,Tryz.func164.trans (congrArg some zC)⟩
 f28:=Tryz.func165.trans (congrArg some zC)
 f29:=Tryz.func166.trans (congrArg some zC)
 f46:=⟨Tryz.f171.name,ze,Tryz.func171.trans (congrArg some zC)⟩
 f47:=Tryz.func172.trans (congrArg some zC)
 f48:=Tryz.func173.trans (congrArg some zC)
 f49:=⟨Tryz.f174.name,ze,Tryz.func174.trans (congrArg some zC)⟩
 f50:=⟨Tryz.f175.name,ze,Tryz.func175.trans (congrArg some zC)⟩
 f57:=⟨Tryz.f177.name,ze,Tryz.func177.trans (congrArg some zC)⟩
 t0:=Tryz.underlying0
 a0:=Tryz.isAgg0
 z0:=Tryz.sizeOf0
 v0:=Tryz.zeroValue0
 t3:=Tryz.underlying3
 a3:=Tryz.isAgg3
 z3:=Tryz.sizeOf3
 v3:=Tryz.zeroValue3
 t4:=Tryz.underlying4
 a4:=Tryz.isAgg4
 z4:=Tryz.sizeOf4
 v4:=Tryz.zeroValue4
 t5:=Tryz.underlying5
 a5:=Tryz.isAgg5
 z5:=Tryz.sizeOf5
 v5:=Tryz.zeroValue5
 t9:=Tryz.underlying9
 a9:=Tryz.isAgg9
 z9:=Tryz.sizeOf9
 v9:=Tryz.zeroValue9
 t22:=Tryz.underlying49
 a22:=Tryz.isAgg49
 z22:=Tryz.sizeOf49
 v22:=Tryz.zeroValue49
 t25:=Tryz.underlying140
 a25:=Tryz.isAgg140
 z25:=Tryz.sizeOf140
 v25:=Tryz.zeroValue140
 t39:=Tryz.underlying164
 a39:=Tryz.isAgg164
 z39:=Tryz.sizeOf164
 v39:=Tryz.zeroValue164
 t45:=Tryz.underlying176
 a45:=Tryz.isAgg176
 z45:=Tryz.sizeOf176
 v45:=Tryz.zeroValue176
 t46:=Tryz.underlying177
 a46:=Tryz.isAgg177
 z46:=Tryz.sizeOf177
 v46:=Tryz.zeroValue177
 t50:=Tryz.underlying181
 a50:=Tryz.isAgg181
 z50:=Tryz.sizeOf181
 v50:=Tryz.zeroValue181
 t53:=Tryz.underlying184
 a53:=Tryz.isAgg184
 z53:=Tryz.sizeOf184
 v53:=Tryz.zeroValue184
 t55:=Tryz.underlying186
 a55:=Tryz.isAgg186
 z55:=Tryz.sizeOf186
 v55:=Tryz.zeroValue186
 t66:=Tryz.underlying192
 a66:=Tryz.isAgg192
 z66:=Tryz.sizeOf192
 v66:=Tryz.zeroValue192
 t70:=Tryz.underlying149
 a70:=Tryz.isAgg149
 z70:=Tryz.sizeOf149
 v70:=Tryz.zeroValue149
 t76:=Tryz.underlying197
 a76:=Tryz.isAgg197
 z76:=Tryz.sizeOf197
 v76:=Tryz.zeroValue197
 t77:=Tryz.underlying136
 a77:=Tryz.isAgg136
 z77:=Tryz.sizeOf136
 v77:=Tryz.zeroValue136 }
def Yi:Go.Shelf.Ren:=⟨fun|5=>124|7=>147|n=>n,fun|22=>3|3=>3|4=>4|n=>n,fun|n=>n⟩
def vGa:Go.Proofs.SlLaysC2.n5 Tryz.prog Yi:={
 mixed:=zC
 f5:=⟨Tryz.f124.name,ze,Tryz.func124.trans (congrArg some zC)⟩
 f7:=⟨Tryz.f147.name,ze,Tryz.func147.trans (congrArg some zC)⟩
 t3:=Tryz.underlying3
 a3:=Tryz.isAgg3
 z3:=Tryz.sizeOf3
 v3:=Tryz.zeroValue3
 t4:=Tryz.underlying4
 a4:=Tryz.isAgg4
 z4:=Tryz.sizeOf4
 v4:=Tryz.zeroValue4
 t22:=Tryz.underlying3
 a22:=Tryz.isAgg3
 z22:=Tryz.sizeOf3
 v22:=Tryz.zeroValue3 }
open Go.RowKit Go.Lib Go.Sort
instance:Inhabited Spn:=⟨⟨0,0⟩⟩
def xG(x:Spn):List Value:=[.int .i64 x.from_,.int .i64 x.to_]
set_option maxHeartbeats 1000000 in
def qha(x y:Spn)(W:World):Calls Tryz.prog 123 #[.agg #[.int .i64 x.from_,.int .i64 x.to_],.agg #[.int .i64 y.from_,.int .i64 y.to_]] W λe w'=>e= .returned (.int .i64 (Lib.compareInt x.from_ y.from_))/\∃q b,w'=grow (W.drewN q) b:=by
 have a:=λc=>AnyG.cmp_Compare_int vGa x.from_ y.from_ c;change ∀c,Calls Tryz.prog 124 _ _ _ at a;generalize Lib.compareInt x.from_ y.from_=r at a⊢
 go_enter Tryz.func123,Tryz.ntmps123
 go_wp2_with (go_at_call 124;refine(a _).mono ?_;rintro e w' ⟨rfl,rfl⟩)
 go_ret
 exact⟨rfl,0,_,by rw[alloc_eq_grow,alloc_eq_grow,grow_grow];rfl⟩
def qia(blk off size:Nat)(w:World):CmpLays Tryz.prog 123 #[] xG 2 (λx y=>Lib.compareInt x.from_ y.from_) blk off size w:=
 λ_ _ _ _ x y=>qha x y _
def Y5(x y:Spn):ltOf (λx y:Spn=>Lib.compareInt x.from_ y.from_) x y=decide (x.from_<y.from_):=by
 unfold ltOf Lib.compareInt;by_cases a:x.from_<y.from_
 ·simp[a]
 ·by_cases b:y.from_<x.from_<;>simp[a,b]
def vHa:SWO (ltOf λx y:Spn=>Lib.compareInt x.from_ y.from_):=
 { irrefl:=λx=>by rw[Y5];simp
   trans:=λx y z a b=>by rw[Y5] at *; simp at *; omega
   ntrans:=λx y z a b=>by rw[Y5] at *; simp at *; omega }
def calls93(blk off cap:Nat)(d:Array Spn)(w:World)(i:HoldsK xG 2 w blk off d)(b:blk<w.heap.size)(f:d.size<4611686018427387904):
    Calls Tryz.prog 122 #[.slice (some ⟨blk,off,none⟩) d.size cap,.func (.func 123) #[] #[]] w λe w'=>e= .returned (.tuple #[])/\∃c n os,PermIn 0 d.size d c/\SortedIn (ltOf λx y:Spn=>Lib.compareInt x.from_ y.from_) 0 d.size c/\w'=sortWorldK xG 2 w blk off n c os:=by
 have h:∀args w,(callFunc 123 args).run Tryz.prog w= .ok (.enter 123 args) w:=enters_of Tryz.func123 zC rfl;have a:=AnyQ.slices_SortFunc VX 2 Tryz.isAgg86 Tryz.sizeOf86 xG (λ_=>rfl) (λx v g=>by simp[xG] at g;rcases g with rfl|rfl<;>rfl) (λx y=>Lib.compareInt x.from_ y.from_) vHa 123 #[] blk off cap d w h (qia blk off d.size w) i b f;exact a
def VY(A:Option Addr)(cap:Nat)(b:Value)(w:World):Calls Tryz.prog 122 #[.slice A 0 cap,b] w λe w'=>e= .returned (.tuple #[])/\w'=w:=by
 have a:=AnyF.slices_SortFunc_none VX A cap b w;exact a
def yh(l:List Spn):List Value:=(l.map xG).flatten
def Qw:∀l:List Spn,(yh l).length=l.length*2
 | []=>rfl
 | x::l=>by
   have:=Qw l;simp only[yh,List.map_cons,List.flatten_cons,zp,xG,List.length_cons,List.length_nil] at this⊢;omega
def J6:∀(l:List Spn) (t:Nat),t<l.length*2->(yh l)[t]? =some ((xG l.toArray[t / 2]!)[t % 2]!)
 | [],t,h=>by simp at h
 | x::l,0,_=>by simp[yh,xG]
 | x::l,1,_=>by simp[yh,xG]
 | x::l,t+2,h=>by
   have:=J6 l t (by simp at h;omega);have c:(t+2) / 2=t / 2+1:=zb;have b:(t+2) % 2=t % 2:=zb;have a:(yh (x::l))[t+2]? =(yh l)[t]? :=(by simp[yh,xG]);rw[a,this,c,b];simp
def Yj(l:List Spn):(flatK xG 2 l.toArray).toList=yh l:=by
 apply qz;intro t;by_cases a:t<l.length*2
 ·rw[J6 l t a];simp[flatK,a]
 ·rw[zR zE,zR (by rw[Qw];omega)]
def J7:∀l:List Spn,(l.map qF).flatten=(yh l).map .v
 | []=>rfl
 | x::l=>by
   have:=J7 l;simp only[yh,List.map_cons,List.flatten_cons,zD] at this⊢;rw[this];rfl
def VZ{c:Ctx}:∀ {vs a:List Value},ARs c (vs.map .v) a->a=vs
 | [],_,h=>h
 | v::vs,a,⟨u,r,d,b,e⟩=>by
   have b:u=v:=b;rw[d,b,VZ e]
def put_heap(w:World)(blk n:Nat)(F:Array Value)(os:Array Obj){cur:Array Value}{e:TypeId}{c:Nat × Nat}(b:w.heap[blk]? =some (.cells cur e c)):
    (grow (putRow id (Sort.ahead w n) blk 0 F) os).heap[blk]? =some (.cells (putCells id 0 F cur) e c):=by
 have a:=(q9.1 b).1;simp only[grow,putRow,mapBlock,Sort.ahead];rw[Array.getElem?_append_left (by simpa using a)];simp[Array.getElem?_modify,b,onCells]
def qja(w:World)(blk n:Nat)(F:Array Value)(os:Array Obj):w.grownBy (grow (putRow id (Sort.ahead w n) blk 0 F) os) (some blk):=by
 refine⟨rfl,rfl,rfl,by simp[grow,putRow,mapBlock,Sort.ahead],λk b a=>?_⟩;simp only[grow,putRow,mapBlock,Sort.ahead];rw[Array.getElem?_append_left (by simpa using b),Array.getElem?_modify,if_neg (λe=>a (by rw[e]))]
def jRa(F cur:Array Value)(h:F.size<=cur.size):(putCells id 0 F cur).toList.take F.size=F.toList:=by
 apply qz;intro t;by_cases a:t<F.size
 ·have b:t<cur.size:=by omega
  simp[putCells,jZ,a,b]
 ·rw[zR zE,zR zE]
def c93(h:List Ob)(id st:Nat)(l:List Spn)(G:h[id]? =some (.row 86 2 (l.map qF) st))(hl:l.length<1099511627776):
    ACalls Tryz.prog 122 [.tl id st,.fn (.func 123) [] []] h λr h'=>r= .tup []/\∃I:List Spn,I.Perm l/\I.Pairwise leS/\h'=h.set id (.row 86 2 (I.map qF) st):=by
 refine⟨zC,⟨_,_,⟨rfl,_,List.mergeSort_perm l (λa b=>decide (a.from_<=b.from_)),?_,rfl⟩,qX G rfl⟩,?_⟩
 ·have:=List.pairwise_mergeSort (le:=λa b:Spn=>decide (a.from_<=b.from_)) (λa b c h1 h2=>by simp at *; omega) (λa b=>zE) l;exact this.imp λh=>by simpa [leS] using h
 ·intro φ hu B w g vs H hB v;have t:(fill φ h)[id]? =some (.row 86 2 (l.map qF) st):=jD G rfl;obtain⟨v1,r1,rfl,⟨_,K,z⟩,v2,Y,rfl,⟨U,vs,rfl,m,o⟩,P⟩:=v;have P:Y=[]:=P;subst P;have m:U.toList=[]:=m;have o:vs.toList=[]:=o;have m:U= #[]:=by simpa using m
  have o:vs= #[]:=by simpa using o
  subst m;subst o;have V:v1=g.cur id:=(z st (by simp[ctx,t,Ob.tok])).2 rfl;obtain⟨q0,q1,cells,S,X⟩:=H.ok id _ t;rw[J7] at X;have e1:=VZ X;subst e1;by_cases E:l=[]
  ·subst E
   have L:∃A k,g.cur id= .slice A 0 k:=by
    rcases S.2 with⟨f,_⟩|⟨u,cap,cur,f,_⟩
    ·exact⟨_,_,f⟩
    ·exact⟨_,_,f⟩
   obtain⟨A,k,L⟩:=L;rw[V,L];refine(VY A k _ w).mono ?_;rintro e w' ⟨rfl,rfl⟩;exact⟨_,_,_,_,rfl,⟨rfl,[],.refl _,.nil,(jA G).symm⟩,.refl,Good.refl H hB, #[],rfl,rfl⟩
  rcases S.2 with⟨_,f⟩|⟨u,cap,cur,f,e4,F,O,e7,R,T⟩
  ·exfalso;simp at f;exact E f
  ·have f:g.cur id=_:=f;simp only[zc] at f O T;have N:l.length*2<=cur.size:=by rw[R];exact Nat.mul_le_mul_right _ O
   have J:∀j,j<l.length*2->cur[j]? =some ((xG l.toArray[j / 2]!)[j % 2]!):=λj s=>by
    rw[<-J6 l j s, <-T,jZ,if_pos s,xK]
   have Z:HoldsK xG 2 w u 0 l.toArray:=λj s=>by
    have s:j<l.length*2:=(by simpa using s);refine⟨?_,?_⟩
    ·simp only[World.cell?,F,Nat.zero_add];rw[get_flatK _ _ _ _ (by simpa using s)];exact J j s
    ·simp[World.frozen?,F]
   have p:=calls93 u 0 cap l.toArray w Z (q9.1 F).1 zE;rw[V,f];have Q:l.toArray.size=l.length:=zh;rw[Q] at p;refine p.mono ?_;rintro e w' ⟨rfl,d,n,os,hp,hs,rfl⟩;obtain⟨p1,p2,W⟩:=hp;have D:d.size=l.length:=by rw[p1];simp
   have x:d.toList.Perm l:=by
    have a1:d.extract 0 l.length=d:=(by rw[<-D];simp);have a2:l.toArray.extract 0 l.length=l.toArray:=zh;rw[a1,a2] at W;exact W
   have y:d.toList.Pairwise leS:=by
    rw[List.pairwise_iff_getElem];intro i j hi s M;simp only[xi] at hi s;have:=hs i j zb M zb;rw[Y5,getElem!_pos d i hi,getElem!_pos d j s] at this;simp at this;simpa [leS] using this
   have hF:(flatK xG 2 d).toList=yh d.toList:=Yj d.toList;have C:(flatK xG 2 d).size=l.length*2:=by simp[D]
   have q:=turn_row (w':=sortWorldK xG 2 w u 0 n d os) (v':=g.cur id) (st':=st) (xs':=d.toList.map qF) (cells:=yh d.toList) H hB t zh (by rw[f];exact qja w u n _ os)
    ⟨by rw[Qw];simp,.inr ⟨u,cap,_,by simp[f,D],e4,put_heap w u n _ os F,by simp[D];exact O,e7,by simp[putCells];exact R,by
     have:=jRa (flatK xG 2 d) cur (by rw[C];exact N);rw[hF,C] at this;simpa [D] using this⟩⟩ (by rw[J7];exact QL _) (.inl ⟨rfl,rfl⟩) (λb hb=> .inl hb)
   rw[<-ko rfl] at q;exact⟨_,_,_,_,rfl,⟨rfl,d.toList,x,y,rfl⟩,qX G rfl,q, #[],rfl,rfl⟩
def yka(x:AV):js Tryz.prog 122 [.v (.slice none 0 0),x] (.tup []):=λh=>by
 refine⟨zC,⟨_,_,⟨rfl,rfl⟩,.refl⟩,?_⟩;intro φ k B w g vs d hB a;obtain⟨v1,j,rfl,c,i,f,rfl,_,b⟩:=a;have b:f=[]:=b;subst b;have c:v1= .slice none 0 0:=c;subst c;refine(VY none 0 i w).mono ?_;rintro e w' ⟨rfl,rfl⟩;exact⟨_,_,_,_,rfl,⟨rfl,rfl⟩,.refl,Good.refl d hB, #[],rfl,rfl⟩
end Go.Proofs.YtjeehgkolepogaaGreat.Ax
namespace Go.Proofs.YtjeehgkolepogaaGreat.Ax
open Go Go.Proofs
set_option maxRecDepth 100000
def Yk(l:List Spn)(x:Spn):jX (l++[x])=if(xn x).from_<(xn x).to_ then jX l++[xn x] else jX l:=by
 unfold jX;rw[zD,jc];by_cases h:(xn x).from_<(xn x).to_
 ·simp[h]
 ·simp[h]
set_option maxHeartbeats 1000000 in
def c65(h:List Ob)(x:AV)(l:List Spn)(hx:SlOf h x 2 (l.map qF))(hl:l.length<1099511627776):
    ACalls Tryz.prog 90 [x] h λr h'=>∃L,h'=h++L/\NoRes L/\New h 2 r ((xo l).map qF) L:=by
 have hex:∃r h',(∃L,h'=h++L/\NoRes L/\New h 2 r ((xo l).map qF) L)/\ResK h h':=
  ⟨.sl 2 _,_,⟨[],rfl,kR,λ_ _=>⟨rfl,λ_=>rfl⟩⟩,jp⟩
 refine enterQX Tryz.f90 (λB=>?_) (hex);rw[jS,jS,jS];refine yr (λT h'=>Pre h h'/\∃b:List Spn,OwnS h h' 86 2 (T 3) (b.map qF)/\b.Perm (jX l)/\b.Pairwise leS) ?_ ?_
 ·simp only[go_sem,hx.rows,zc]
  refine wp_loop_a ze (λm T h'=>∃k:Nat,k<=l.length/\Pre h h'/\OwnS h h' 86 2 (T 3) ((jX (l.take k)).map qF)/\T 10=x/\T 11=i64 l.length/\T 12=i64 k/\m=l.length - k) l.length
   ⟨0,zb,Pre.refl,.inl ⟨zo,rfl⟩,zo,zo,by(simp only[go_sem]<;>rfl),rfl⟩ ?_
  rintro m T h' ⟨k,hk,j,H,K,J,A,rfl⟩;simp only[go_sem,J,A];refine ways (λe=>?_) (λe=>?_)
  ·have g:=dlt e
   have ξ:SlOf h' x 2 (l.map qF):=by
    obtain⟨L,rfl,_⟩:=j;exact hx.app _
   have ω:=ξ.at (i:=k) (by simpa using g);have f:(l.map qF)[k]? =some (qF l[k]):=(by rw[zw,zg g];rfl);have I:(k:Int)<l.length:=zb;have a:=Yk (l.take k) l[k];rw[zG g] at a;obtain⟨y,hy⟩:∃y,y=l[k]:=⟨_,rfl⟩;rw[<-hy] at f a;have fin:k+1<=l.length:=zb;have hA:List.length (qF y)=2:=rfl;simp only[go_sem,K,A,ω,ξ.rows,f,I,zc,Int.toNat_natCast,zd,vn,kB];refine ways (λo=>?_) (λo=>?_)
   ·have o:(xn y).from_<(xn y).to_:=(by simpa [xn] using o);rw[if_pos o] at a;rcases H with⟨t3,U⟩|⟨id,st,P,t3,Q⟩
    ·simp only[go_sem,t3,A];refine⟨l.length - (k+1),zb,k+1,fin,j.app (zA rfl (zA rfl (zW rfl))),.inr ⟨_,_,by have:=j.len;omega,rfl,?_⟩,K,J,qh zb rfl,rfl⟩;rw[a,zD,U,qa rfl];rfl
    ·have O:((jX (l.take k)).map qF).length+1<=1099511627776:=by
      have:=Zl (l.take k);rw[zT] at this;rw[zc];omega
     have O:(((jX (l.take k)).map qF).length+1)*17<=140737488355328:=zb;have u:∀M,(h'++M)[id]? =some (.row 86 2 ((jX (l.take k)).map qF) st):=λM=>zk Q;simp only[go_sem,t3,A,u,O];refine⟨l.length - (k+1),zb,k+1,fin,(j.app (zA rfl (zW rfl))).set P rfl,.inr ⟨id,st+1,P,rfl,?_⟩,K,J,qh zb rfl,rfl⟩;rw[a,zD];exact zt (u _)
   ·have o:¬ (xn y).from_<(xn y).to_:=(by simpa [xn] using o);rw[if_neg o] at a;simp only[go_sem,A];exact⟨l.length - (k+1),zb,k+1,fin,j.app (zW rfl),by rw[a];exact H.app _,K,J,qh zb rfl,rfl⟩
  ·have hge:=jO e;have V:k=l.length:=zb;subst V;rw[qR] at H;rcases H with⟨t3,U⟩|⟨id,st,P,t3,Q⟩
   ·simp only[go_sem,t3];refine zl (yka _ _) ?_;rintro _ h4 ⟨rfl,e1⟩;subst e1;refine zz ?_;exact⟨j,[],.inl ⟨t3,rfl⟩,by rw[show jX l=[] by simpa using U],.nil⟩
   ·simp only[go_sem,t3];refine zl (c93 _ id st (jX l) Q (by have:=Zl l;omega)) ?_;rintro _ h4 ⟨rfl,b,p1,p2,rfl⟩;refine zz ?_;exact⟨j.set P rfl,b,.inr ⟨id,st,P,t3,zt Q⟩,p1,p2⟩
 ·rintro T h' ⟨j,b,H,G,δ⟩;have W:=Zk G δ;have hlen:b.length<=l.length:=by rw[G.length_eq];exact Zl l
  simp only[go_sem,H.rows.rows,zc]
  refine wp_loop_a ze (λm S h'=>∃(k:Nat) (out:List Spn),k<=b.length/\Pre h h'/\OwnS h h' 86 2 (T 3) (b.map qF)/\OwnS h h' 86 2 (S 6) (out.map qF)/\(∀i1 s1 i2 s2,T 3= .tl i1 s1->S 6= .tl i2 s2->i1≠i2)/\out.length<=k/\((k=0/\out=[]/\S 6= .v (.slice none 0 0))∨∃D c,out=D++[c]/\0<k/\wu b=D++xF c (b.drop k))/\S 35=T 3/\S 36=i64 b.length/\S 37=i64 k/\m=b.length - k) b.length
   ⟨0,[],zb,j,H,.inl ⟨zo,rfl⟩,(λ_ _ _ _ _ q=>by simp only[go_sem] at q),zB _,.inl ⟨rfl,rfl,zo⟩,zo,zo,by(simp only[go_sem]<;>rfl),rfl⟩ ?_
  obtain⟨y,hy⟩:∃y,y=T 3:=⟨_,rfl⟩;rw[<-hy];clear H j;rintro m S h' ⟨k,out,hk,j,H,hu,θ,N,hj,w,R,s,rfl⟩;simp only[go_sem,R,s];refine ways (λe=>?_) (λe=>?_)
  ·have g:=dlt e;have f:(b.map qF)[k]? =some (qF b[k]):=(by rw[zw,zg g];rfl);have d:b.drop k=b[k]::b.drop (k+1):=zP g;rcases H with⟨_,U⟩|⟨id,st,P,n,Q⟩
   ·rw[List.map_eq_nil_iff] at U;rw[U] at g;simp at g
   have u:∀M,(h'++M)[id]? =some (.row 86 2 (b.map qF) st):=λM=>zk Q;have I:(k:Int)<b.length:=zb;obtain⟨z,hz⟩:∃z,z=b[k]:=⟨_,rfl⟩;rw[<-hz] at f d;rcases hj with⟨α,rfl,t6⟩|⟨D,c,rfl,α,hm⟩
   ·simp only[go_sem,w,n,s,t6,Q,u,f,I,zc,Int.toNat_natCast,zd];refine zZ [] 0 (oF [0,1,2,3,5,6,7,4,8,9,10,11,12] ([])) ?_;have χ:decide ((0:Int)>0)=false:=rfl;simp only[go_sem,w,n,s,t6,u,χ];have hlen2:=j.len;have hid:id<h'.length:=(zj.1 Q).1;refine⟨b.length - (k+1),zb,k+1,[z],zb,j.app (zA rfl (zA rfl (zW rfl))),.inr ⟨id,st,P,rfl,u _⟩,.inr ⟨_,_,zb,rfl,by rw[qa rfl];rfl⟩,(λi1 s1 i2 s2 r1 X=>?_),zh,.inr ⟨[],z,rfl,zb,?_⟩,R,qh zb rfl,rfl⟩
    ·injection r1 with r1;injection X with X;omega
    ·rw[α,List.drop_zero] at d;rw[d,α];rfl
   ·have μ:wr (((D.length+1:Nat):Int) - 1)=(D.length:Int):=by
     rw[qb (by simp at N;unfold Fit;omega)];omega
    have φ:decide (((D.length+1:Nat):Int)>0)=true:=zh;have F:((D++[c]).map qF).length=D.length+1:=zh;have γ:((D++[c]).map qF)[D.length]? =some (qF c):=zh;have ι:(D.length:Int)<((D.length+1:Nat):Int):=zb;obtain⟨out,E⟩:∃out,out=(D++[c]).map qF:=⟨_,rfl⟩;rcases hu with⟨_,U⟩|⟨Z,Y,u1,p,u3⟩
    ·simp at U
    have ο:=θ _ _ _ _ n p;rw[<-E] at u3 F γ;have t:∀M,(h'++M)[Z]? =some (.row 86 2 out Y):=λM=>zk u3;simp only[go_sem,w,n,s,p,Q,u3,u,t,f,I,F,zc,Int.toNat_natCast,zd];refine zZ [] 0 (oF [0,1,2,3,5,6,7,4,8,9,10,11,12] ([])) ?_;simp only[go_sem,p,u,t,φ,μ,γ,F,ι,Int.toNat_natCast,zd];refine ways (λo=>?_) (λo=>?_)
    ·have o:z.from_<=c.to_:=(by simpa using o);refine zz ?_;refine zZ [] 0 (oF [0,1,2,3,4,5,9,6,7,8,10,11,12,13,14] ([])) ?_;simp only[go_sem,p,u,t,μ,γ,F,ι,Int.toNat_natCast,zd,vn,s];obtain⟨c2,ν⟩:∃c2:Spn,c2=⟨c.from_,max c.to_ z.to_⟩:=⟨_,rfl⟩
     have C:out.set D.length [i64 c.from_,i64 (max c.to_ z.to_)]=(D++[c2]).map qF:=by
      rw[E,ν];simp
     rw[C];refine⟨b.length - (k+1),zb,k+1,D++[c2],zb,(j.app (zW rfl)).set u1 rfl,.inr ⟨id,st,P,rfl,?_⟩,.inr ⟨Z,Y,u1,rfl,zt (t _)⟩,(λi1 s1 i2 s2 r1 X=>θ i1 s1 i2 s2 (n.trans r1) (p.trans X)),by simp at N ⊢;omega,.inr ⟨D,_,rfl,zb,?_⟩,by rw[w,n],R,qh zb rfl,rfl⟩
     ·rw[zf (Ne.symm ο)];exact u _
     ·rw[hm,d,xF,if_pos o,ν]
    ·have o:¬ z.from_<=c.to_:=(by simpa using o);have O:(out.length+1)*17<=140737488355328:=(by rw[F];simp at N;omega);simp only[go_sem,p,u,t,O,s]
     have C:out++[[i64 z.from_,i64 z.to_]]=((D++[c])++[z]).map qF:=by
      rw[E];simp
     rw[C];refine⟨b.length - (k+1),zb,k+1,(D++[c])++[z],zb,(j.app (zA rfl (zW rfl))).set u1 rfl,.inr ⟨id,st,P,rfl,?_⟩,.inr ⟨Z,Y+1,u1,rfl,zt (t _)⟩,(λi1 s1 i2 s2 r1 X=>?_),by simp at N ⊢;omega,.inr ⟨D++[c],z,rfl,zb,?_⟩,by rw[w,n],R,qh zb rfl,rfl⟩
     ·rw[zf (Ne.symm ο)];exact u _
     ·injection r1 with r1;injection X with X;omega
     ·rw[hm,d,xF,if_neg o,zq];rfl
  ·have hge:=jO e;have V:k=b.length:=zb
   have κ:out=wu b:=by
    rcases hj with⟨h0,h1,_⟩|⟨D,c,h0,_,h1⟩
    ·have:b=[]:=List.length_eq_zero_iff.1 zb;rw[h1,this];rfl
    ·rw[h1,h0,V,List.drop_length];simp[xF]
   subst κ;refine zz ?_;obtain⟨L,rfl,hN⟩:=j;exact⟨S 6,zo,.inl ⟨L,rfl,hN,by rw[<-W];exact hu.new (zB _)⟩⟩
open Go.RowKit Go.Lib
def Y6(A:Option Addr)(n k:Nat)(a:n<=k)(w:World):Calls Tryz.prog 102 #[.slice A n k] w λe w'=>(e= .returned (.slice A n n)/\w'=w):=by
 have b:(n:Int)<=(k:Int):=zb;have c:(0:Int)<=(n:Int):=zb
 go_enter Tryz.func102,Tryz.ntmps102
 go_wp2
 go_ret
 exact⟨rfl,rfl⟩
def c96(h:List Ob)(id st:Nat)(rows:List (List AV))(f:h[id]? =some (.row 86 2 rows st)):ACalls Tryz.prog 102 [.tl id st] h λr h'=>r= .sl 2 rows/\h'=h.set id .gone:=by
 refine⟨zC,⟨_,_,⟨rfl,rfl⟩,qX f rfl⟩,?_⟩;intro φ m B w g vs l hB b;obtain⟨v1,j,rfl,i,c⟩:=b;have c:j=[]:=c;subst c;obtain⟨k1,k2⟩:=freeze_good l hB (jD f rfl);rw[<-ko rfl] at k1 k2;obtain⟨A,k,rfl,d,a⟩:=k2 _ i;refine(Y6 A rows.length k d w).mono ?_;rintro e w' ⟨rfl,rfl⟩;exact⟨_,_,_,_,rfl,⟨rfl,rfl⟩,qX f rfl,k1,A,rows.length,rfl,zB _,a⟩
def yla:js Tryz.prog 102 [.v (.slice none 0 0)] (.v (.slice none 0 0)):=λh=>by
 refine⟨zC,⟨_,_,⟨rfl,rfl⟩,.refl⟩,?_⟩;intro φ i B w g vs f hB a;obtain⟨v1,d,rfl,c,b⟩:=a;have b:d=[]:=b;subst b;have c:v1= .slice none 0 0:=c;subst c;refine(Y6 none 0 0 (zB _) w).mono ?_;rintro e w' ⟨rfl,rfl⟩;exact⟨_,_,_,_,rfl,⟨rfl,rfl⟩,.refl,Good.refl f hB,rfl⟩
