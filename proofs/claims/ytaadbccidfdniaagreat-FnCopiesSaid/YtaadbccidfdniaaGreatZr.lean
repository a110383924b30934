import Derived.Test.YtaadbccidfdniaaGreatZ0
import Derived.Test.YtaadbccidfdniaaGreatZb
import Derived.ArgAppend
import Derived.Deep.AppendLies
import Derived.Test.YtaadbccidfdniaaGreatZc
import Derived.Test.YtaadbccidfdniaaGreatZo
import Derived.Laws.Cover3
import Derived.Laws.AppendOwnNone
import Derived.Test.YtaadbccidfdniaaGreatZq
/-
  Lemmas for the law FnCopies, in short spelling.
-/
open Go.Lib (hid)
set_option linter.unusedVariables false
set_option linter.unusedSimpArgs false
set_option maxRecDepth 100000
set_option maxHeartbeats 40000000
namespace Go.Proofs.YtaadbccidfdniaaGreat
open Go.RowKit
def EH (e:TypeId)(w:World)(g:Nat)(v:Value)(xs:List Value):Prop:=
 ∃ao c,v= .slice ao xs.length c∧xs.length≤c∧c≤maxLen∧(0<c→∃off cur,ao=some ⟨g,off,none⟩∧w.heap[g]?=some (.cells cur e (0,0))∧cur.size=off+c∧∀(i:Nat) u,xs[i]?=some u→cur[off+i]?=some u)
theorem EH.keep {e:TypeId}{w w':World}{g:Nat}{v:Value}{xs:List Value}{S:Nat→Prop}(h:EH e w g v xs)(hk:AA S w w')(hS:S g):EH e w' g v xs:=by
 obtain⟨ao,c,h1,h2,h3,h4⟩:=h;refine⟨ao,c,h1,h2,h3,fun hc=>?_⟩;obtain⟨off,cur,e1,e2,e3,e4⟩:=h4 hc;exact⟨off,cur,e1,by rw[hk.block g hS (Ba.1 e2).1];exact e2,e3,e4⟩
theorem EH.YJ {B:Nat}{e:TypeId}{w:World}{g n c:Nat}{xs:List Value}(h:w.ownsRow B e 1 (.slice (some ⟨g,0,none⟩) n c) n xs):EH e w g (.slice (some ⟨g,0,none⟩) n c) xs:=by
 have hl:=h.1;rcases h.2 with⟨h,_⟩|⟨g',cap,cur,h,hb,hgg,hn,hm,hs,ht⟩
 ·simp at h
 ·obtain⟨rfl,rfl⟩:g=g'∧c=cap:=by simpa using h
  refine⟨_,c,by rw[hl,Ic],by omega,hm,fun _=>⟨0,cur,rfl,hgg,by omega,fun i u hu=>?_⟩⟩;rw[←ht,Pq]at hu;split at hu
  ·simpa using hu
  ·simp at hu
theorem EH.empty (e:TypeId)(w:World)(g:Nat)(ao:Option Addr):EH e w g (.slice ao 0 0) []:=⟨ao,0,rfl,Av _,AU _,fun h=>absurd h (Nc _)⟩
theorem EH.cell {e:TypeId}{w:World}{g:Nat}{v:Value}{xs:List Value}(h:EH e w g v xs){i:Nat}{u:Value}(hu:xs[i]?=some u):
  ∃off c,v= .slice (some ⟨g,off,none⟩) xs.length c∧xs.length≤c∧c≤maxLen∧g<w.heap.size∧w.cell? ⟨g,off+i,none⟩=some u:=by
 obtain⟨ao,c,h1,h2,h3,h4⟩:=h;have hi:=(Ag.1 hu).1;obtain⟨off,cur,rfl,e2,e3,e4⟩:=h4 (by omega);exact⟨off,c,h1,h2,h3,(Ba.1 e2).1,by rw[Ah w g _ cur e (0,0) e2];exact e4 i u hu⟩
theorem EH.form {e:TypeId}{w:World}{g:Nat}{v:Value}{xs:List Value}(h:EH e w g v xs):∃ao c,v= .slice ao xs.length c∧xs.length≤c∧c≤maxLen:=by
 obtain⟨ao,c,h1,h2,h3,_⟩:=h;exact⟨ao,c,h1,h2,h3⟩
theorem EH.rest {e:TypeId}{w:World}{g off m c:Nat}{u:Value}{xs:List Value}(h:EH e w g (.slice (some ⟨g,off,none⟩) m c) (u::xs))(hm:m=xs.length+1):
  EH e w g (.slice (some ⟨g,off+1,none⟩) xs.length (c-1)) xs∧(c=1→∀o',EH e w g (.slice (some ⟨g,o',none⟩) xs.length (c-1)) xs):=by
 obtain⟨ao,c',h1,h2,h3,h4⟩:=h;obtain⟨rfl,_,rfl⟩:some ⟨g,off,none⟩=ao∧m=(u::xs).length∧c=c':=by simpa using h1
 rw[Hl]at h2;obtain⟨off',cur,e1,e2,e3,e4⟩:=h4 (by omega);obtain rfl:off=off':=by simpa using e1
 refine⟨⟨_,c-1,rfl,by omega,by omega,fun _=>⟨off+1,cur,rfl,e2,by omega,fun i x hx=>?_⟩⟩,fun hc o'=>⟨_,c-1,rfl,by omega,by omega,fun h=>by omega⟩⟩;have:=e4 (i+1) x (by simpa using hx);rwa[show off+1+i=off+(i+1) by omega]
section
variable {P:Program}
theorem AGp (w:World)(t ty:TypeId)(e:TypeId)(i:TypeInfo)(z:Value)(bytes:Nat)(ht:P.underlying t=some (.slice e))(hi:P.info? e=some i)(hz:i.zero=some z)
  (hsize:i.size=1) (hby:i.bytes=bytes) (hzs:z.cells.size=1) (g:Nat) (v:Value) (xs:List Value) (h:EH e w g v xs) (ad:Addr) (c0:Nat) (u:Value) (hu:w.cell? ad=some u) (h1:u.oneCell'=true)
  (h63:xs.length+1≤maxLen) (hbytes:(xs.length+1)*bytes≤140737488355328):
  ∃g' v' w',(Builtin.append_ #[t,t] ty #[v,.slice (some ad) 1 c0]).run P w= .ok v' w'∧EH e w' g' v' (xs++[u])∧w.grownBy w' (some g)∧(g'=g∨w.heap.size≤g'):=by
 obtain⟨ao,c,rfl,h2,h3,h4⟩:=h;have hnews:∀j x,[u][j]?=some x→w.cell? (ad.add j)=some x:=fun j x hj=>by
  match j,hj with
  |0,hj=>
   simp at hj;subst hj;have:ad.add 0=ad:=by unfold Addr.add;split<;>simp_all
   rw[this];exact hu
 have h1':∀x∈[u],x.oneCell'=true:=fun x hx=>by rw[GU.1 hx];exact h1
 have fresh:∀v' w',w'.ownsRow w.heap.size e 1 v' (xs.length+1) (xs++[u])→w.grownBy w' none→((Builtin.append_ #[t,t] ty #[.slice ao xs.length c,.slice (some ad) 1 c0]).run P w= .ok v' w')→(∀k,v'.ownBlock=some k→w.heap.size≤k)→
   ∃g' v' w',(Builtin.append_ #[t,t] ty #[.slice ao xs.length c,.slice (some ad) 1 c0]).run P w= .ok v' w'∧EH e w' g' v' (xs++[u])∧w.grownBy w' (some g)∧(g'=g∨w.heap.size≤g'):=by
  intro v' w' ho hg hr hk;obtain⟨g',cap,rfl,hb,hlt⟩:=ho.form (by omega);have:w.heap.size≤g':=hk g' rfl;exact⟨g',_,w',hr,EH.YJ ho,⟨hg.os,hg.tape,hg.output,hg.size,fun k hk _=>hg.block k hk (by simp)⟩,.inr this⟩
 by_cases hroom:xs.length+1≤c
 ·obtain⟨off,cur,rfl,e2,e3,e4⟩:=h4 (by omega);have hcell:∀j,w.cell? ⟨g,j,none⟩=cur[j]?:=fun j=>Ah w g j cur e (0,0) e2;have hrun:=run_append_room_cells (P:=P) w t ty e i ht hi g off xs.length c ad 1 c0 [u] (by rw[hsize];rfl) hnews h1' hroom
   (fun j hj=>by
    simp at hj;subst hj;rw[hsize,hcell,Array.getElem?_eq_getElem (by omega)];rfl)
   (fun j hj=>by simp[World.frozen?,e2])
  have hset:w.setCells g (off+xs.length*i.size) [u]=w.setCell ⟨g,off+xs.length,none⟩ u:=by rw[hsize,Ic];rfl
  rw[hset]at hrun;refine⟨g,_,_,hrun,⟨_,c,by simp,by simpa using hroom,h3,fun _=>⟨off,cur.set! (off+xs.length) u,rfl,GV w g _ cur e u e2,by simpa using e3,fun j x hx=>?_⟩⟩,?_,.inl rfl⟩
  ·rcases CP j xs.length with hj|hj
   ·rw[EA hj]at hx;rw[Array.set!_eq_setIfInBounds,Array.getElem?_setIfInBounds_ne (by omega)];exact e4 j x hx
   ·rw[D9 hj]at hx;obtain rfl:j=xs.length:=by
     have:=(Ag.1 hx).1;simp at this;omega
    simp at hx;subst hx;rw[Array.set!_eq_setIfInBounds,Array.getElem?_setIfInBounds_self_of_lt (by omega)]
  ·exact⟨rfl,rfl,rfl,by simp[World.setCell],fun k hk hne=>GR w _ k u (fun e=>hne (by rw[e]))⟩
 ·cases ao with
  |none=>
   have hc0:c=0:=by
    rcases Nat.eq_zero_or_pos c with h|h
    ·exact h
    ·obtain⟨_,_,h,_⟩:=h4 h;simp at h
   subst hc0;obtain rfl:xs=[]:=D8 (by omega);obtain⟨v',w',hr,r1,r2,_⟩:=run_append_own (P:=P) w w.heap.size t ty e i z 1 bytes ht hi hz hsize hby hzs (by omega) (.slice none 0 0) 0 [] (F7 w _ e 1) ad 1 c0 [u] rfl hnews h1' h63 hbytes AR;exact fresh v' w' r1 ⟨r2.os,r2.tape,r2.output,r2.size,fun k hk _=>r2.block k hk (by simp[Value.ownBlock])⟩ hr fun k hk=>(r1.lt k hk).1
  |some a'=>
   have holds:∀j x,xs[j]?=some x→w.cell? (a'.add j)=some x:=fun j x hx=>by
    have hj:=(Ag.1 hx).1;obtain⟨off,cur,ha,e2,e3,e4⟩:=h4 (by omega);obtain rfl:a'=⟨g,off,none⟩:=by simpa using ha
    rw[addr_add,Ah w g _ cur e (0,0) e2];exact e4 j x hx
   obtain⟨v',w',hr,r1,r2⟩:=run_append_arg_grows (P:=P) w t ty e i z 1 bytes ht hi hz hsize hby hzs (by omega) a' xs.length c xs (by omega) holds ad 1 c0 [u] rfl hnews (by omega) h63 hbytes;exact fresh v' w' r1 r2 hr fun k hk=>(r1.lt k hk).1
theorem AAI (w:World){o:Oper}{a:Act}{K:Act→World→Prop}{Q:Exit→Act→World→Prop}(s x:Operand)(t:TypeId)(ho:o.op= .call { callee:=.builtin .append,args:= #[s,x],argTypes:= #[t,t] })(e:TypeId)(i:TypeInfo)(z:Value)(bytes:Nat)(ht:P.underlying t=some (.slice e))(hi:P.info? e=some i)(hz:i.zero=some z)
  (hsize:i.size=1) (hby:i.bytes=bytes) (hzs:z.cells.size=1) (g:Nat) (v:Value) (xs:List Value) (hs:a.eval s=v) (h:EH e w g v xs) (ad:Addr) (c0:Nat) (u:Value) (hx:a.eval x= .slice (some ad) 1 c0) (hu:w.cell? ad=some u) (h1:u.oneCell'=true)
  (h63:xs.length+1≤maxLen) (hbytes:(xs.length+1)*bytes≤140737488355328)
  (hK:∀g' v' w',EH e w' g' v' (xs++[u])→w.grownBy w' (some g)→(g'=g∨w.heap.size≤g')→K (a.put o.dst v') w'):o.wp P a w K Q:=by
 obtain⟨g',v',w',hr,h2,h3,h4⟩:=AGp (P:=P) w t o.type e i z bytes ht hi hz hsize hby hzs g v xs h ad c0 u hu h1 h63 hbytes;unfold Oper.wp execOp;simp only[ho,resolve,invoke,builtin,Sem.run_bind,Sem.run_pure,RB,RD,GZ,Ng,hs,hx,hr];exact hK g' v' w' h2 h3 h4
theorem AAA (w:World){ops:Array Oper}{rest:List Oper}{o:Oper}{a:Act}{Q:Exit→Act→World→Prop}(hgd:o.guard=none)(s x:Operand)(t:TypeId)(ho:o.op= .call { callee:=.builtin .append,args:= #[s,x],argTypes:= #[t,t] })(e:TypeId)(i:TypeInfo)(z:Value)(bytes:Nat)(ht:P.underlying t=some (.slice e))(hi:P.info? e=some i)(hz:i.zero=some z)
  (hsize:i.size=1) (hby:i.bytes=bytes) (hzs:z.cells.size=1) (g:Nat) (v:Value) (xs:List Value) (hs:a.eval s=v) (h:EH e w g v xs) (ad:Addr) (c0:Nat) (u:Value) (hx:a.eval x= .slice (some ad) 1 c0) (hu:w.cell? ad=some u) (h1:u.oneCell'=true)
  (h63:xs.length+1≤maxLen) (hbytes:(xs.length+1)*bytes≤140737488355328)
  (hK:∀g' v' w',EH e w' g' v' (xs++[u])→w.grownBy w' (some g)→(g'=g∨w.heap.size≤g')→wpList P ops Q rest (a.put o.dst v') w'):wpList P ops Q (o::rest) a w:=
 wpList_plain hgd fun _ hK'=>AAI w s x t ho e i z bytes ht hi hz hsize hby hzs g v xs hs h ad c0 u hx hu h1 h63 hbytes fun g' v' w' h2 h3 h4=>hK' _ _ (hK g' v' w' h2 h3 h4)
theorem AGn (w:World){ops:Array Oper}{o:Oper}{a:Act}{K:Act→World→Prop}{Q:Exit→Act→World→Prop}{E:Prop}(hgd:o.guard=none)(s x:Operand)(t:TypeId)(ho:o.op= .call { callee:=.builtin .append,args:= #[s,x],argTypes:= #[t,t] })(e:TypeId)(i:TypeInfo)(z:Value)(bytes:Nat)(ht:P.underlying t=some (.slice e))(hi:P.info? e=some i)(hz:i.zero=some z)
  (hsize:i.size=1) (hby:i.bytes=bytes) (hzs:z.cells.size=1) (g:Nat) (v:Value) (xs:List Value) (hs:a.eval s=v) (h:EH e w g v xs) (ad:Addr) (c0:Nat) (u:Value) (hx:a.eval x= .slice (some ad) 1 c0) (hu:w.cell? ad=some u) (h1:u.oneCell'=true)
  (h63:xs.length+1≤maxLen) (hbytes:(xs.length+1)*bytes≤140737488355328)
  (hK:∀g' v' w',EH e w' g' v' (xs++[u])→w.grownBy w' (some g)→(g'=g∨w.heap.size≤g')→K (a.put o.dst v') w'):
  if Region.wanted o (yielded ops a.tmps)=true then Oper.wp P o a w K Q else E:=by
 have hw:Region.wanted o (yielded ops a.tmps)=true:=by simp[Region.wanted,hgd]
 rw[Bo hw];exact AAI w s x t ho e i z bytes ht hi hz hsize hby hzs g v xs hs h ad c0 u hx hu h1 h63 hbytes hK
end
end Go.Proofs.YtaadbccidfdniaaGreat
namespace Go.Proofs.YtaadbccidfdniaaGreat.Qj
open Go.RowKit Go.Proofs.YtaadbccidfdniaaGreat AB Dr EZ
def BoR (p:Prop)(w:World)(e:Ending)(w':World):Prop:=∃b:Bool,e= .returned (.bool b)∧(b=true↔p)∧w=w'
theorem AAX (w:World)(v:Value)(x:List Nat)(hv:AL Any w v (ints x)):
  Calls Tryz.prog 73 #[v] w fun e w'=>e= .returned (.int .i64 (dep x:Int))∧w=w':=by
 have hm:(x.length:Int)≤9223372036854775807:=by
  obtain⟨_,_,_,h1,h2,_⟩:=hv;rw[BL]at h1;unfold maxLen at h2;omega
 obtain⟨aX,cX,rfl,_⟩:=hv.open;have HV:=hid hv;clear hv;go_enter Tryz.func73,Tryz.ntmps73;go_wp2_with fail;go_loop [7] (fun iv=>∃k:Nat,k≤x.length∧iv= .int .i64 (k:Int)∧Hid (∀j,j<k→x[j]?=some 0)) (fun iv=>x.length-(intOf iv).toNat);case atStart=>exact⟨0,AU _,rfl,hid (fun j h=>absurd h (CO _))⟩
 case round=>
  obtain⟨k,hk,rfl,hR⟩:=hrel;by_cases hlt:k<x.length
  ·obtain⟨a,ha⟩:∃a,x[k]?=some a:=⟨_,AO hlt⟩;obtain⟨b,o,rfl,_,hb,hc⟩:=HV.out.at ha;by_cases h0:a=0
   ·subst h0;have HN:=hid (show∀j,j<k+1→x[j]?=some 0 from fun j hj=>by
     rcases EB.1 hj with h|h
     ·exact hR.out j h
     ·rw[h];exact ha)
    clear ha hR;go_wp2_with fail;go_round;case rel=>exact⟨k+1,by omega,by go_num,HN⟩
    case measure=>simp[intOf];omega
   ·have hne:((a:Int) !=0)=true:=by simp;omega
    have HE:=hid (show dep x=k from Pm x k hR.out (fun a' ha'=>by rw[ha]at ha';cases ha';exact h0) hk);clear ha hR h0;go_wp2_with fail;go_ret;exact⟨by rw[HE.out];rfl,rfl⟩
  ·obtain rfl:k=x.length:=by omega
   have HE:=hid (show dep x=x.length from Pm x _ hR.out (fun a ha=>by have:=(Ag.1 ha).1;omega) hk);clear hR;go_wp2_with fail;go_ret;exact⟨by rw[HE.out];rfl,rfl⟩
theorem AO4 (w:World)(v:Value)(x:List Nat)(hv:AL Any w v (ints x)):
  Calls Tryz.prog 184 #[v] w (BoR (dep x=x.length) w):=by
 have hm:(x.length:Int)≤9223372036854775807:=by
  obtain⟨_,_,_,h1,h2,_⟩:=hv;rw[BL]at h1;unfold maxLen at h2;omega
 obtain⟨aX,cX,rfl,_⟩:=hv.open;have HV:=hid hv;clear hv;go_enter Tryz.func184,Tryz.ntmps184;go_wp2_with fail;go_loop [3] (fun iv=>∃k:Nat,k≤x.length∧iv= .int .i64 (k:Int)∧Hid (∀j,j<k→x[j]?=some 0)) (fun iv=>x.length-(intOf iv).toNat);case atStart=>exact⟨0,AU _,rfl,hid (fun j h=>absurd h (CO _))⟩
 case round=>
  obtain⟨k,hk,rfl,hR⟩:=hrel;by_cases hlt:k<x.length
  ·obtain⟨a,ha⟩:∃a,x[k]?=some a:=⟨_,AO hlt⟩;obtain⟨b,o,rfl,_,hb,hc⟩:=HV.out.at ha;by_cases h0:a=0
   ·subst h0;have HN:=hid (show∀j,j<k+1→x[j]?=some 0 from fun j hj=>by
     rcases EB.1 hj with h|h
     ·exact hR.out j h
     ·rw[h];exact ha)
    clear ha hR;go_wp2_with fail;go_round;case rel=>exact⟨k+1,by omega,by go_num,HN⟩
    case measure=>simp[intOf];omega
   ·have hne:((a:Int) !=0)=true:=by simp;omega
    have HE:=hid (show dep x=k from Pm x k hR.out (fun a' ha'=>by rw[ha]at ha';cases ha';exact h0) hk);clear ha hR h0;go_wp2_with fail;go_ret;exact⟨false,rfl,⟨fun h=>Bool.noConfusion h,fun h=>by have:=HE.out;omega⟩,rfl⟩
  ·obtain rfl:k=x.length:=by omega
   have HE:=hid (show dep x=x.length from Pm x _ hR.out (fun a ha=>by have:=(Ag.1 ha).1;omega) hk);clear hR;go_wp2_with fail;go_ret;exact⟨true,rfl,⟨fun _=>HE.out,fun _=>rfl⟩,rfl⟩
def eu (m a:Int):Nat→Int×Int×Int×Int
 |0=>(m,a,0,1)
 |j+1=>match eu m a j with
  |(r,n,x,y)=>if n=0 then(r,n,x,y)else(n,r-r.tdiv n*n,y,x-r.tdiv n*y)
theorem AG8 (x m:Int)(hm:0<m)(h1:m≤1000)(hx: -1000≤x)(hx2:x≤1000)(w:World):
  Calls Tryz.prog 110 #[.int .i64 x,.int .i64 m] w fun e w'=>e= .returned (.int .i64 (x%m))∧w=w':=by
 have hne:m≠0:=by omega
 have hb: -m<x.tmod m∧x.tmod m<m:=by
  have h3:=Int.tmod_lt_of_pos x hm;have h4: -m<x.tmod m:=by
   exact Int.lt_tmod_of_pos x hm
  exact⟨h4,h3⟩
 have hE:x.tmod m%m=x%m:=by rw[Int.tmod_def,Int.sub_eq_add_neg,←Int.mul_neg,Int.add_mul_emod_self_left]
 have hE2:(x.tmod m+m).tmod m=x%m:=by rw[YS (by omega),Int.add_emod_right,hE]
 have hw:IntKind.i64.wrap (x.tmod m+m)=x.tmod m+m:=AY _ (by omega);go_enter Tryz.func110,Tryz.ntmps110;go_wp2_with fail;go_ret;exact⟨ADM (by first|(simp;done)|(simp;exact hE)|exact hE2),rfl⟩
def yg (m a:Int)(j:Nat):Bool:=match eu m a j with
 |(r,n,x,y)=>decide (-1000≤r∧r≤1000)&&decide (0≤n∧n≤1000)&&decide (-1000≤x∧x≤1000)&&decide (-1000≤y∧y≤1000)&&
  (if n=0 then decide (r=1)&&decide (a*(x%m)%m=1)
   else decide (-1000≤r.tdiv n∧r.tdiv n≤1000)&&decide (-1000≤r.tdiv n*n∧r.tdiv n*n≤1000)&&decide (-1000≤r.tdiv n*y∧r.tdiv n*y≤1000)&&decide (0≤r-r.tdiv n*n∧r-r.tdiv n*n<n)&&decide (j<6))
theorem AK8:([2,3,5,7].all fun m=>(List.range m).all fun a=>a==0||(List.range 7).all fun j=>yg (m:Nat) (a:Nat) j)=true:=by decide+kernel
theorem ALk {m a:Nat}(hm:m=2∨m=3∨m=5∨m=7)(h0:0<a)(h:a<m)(j:Nat)(hj:j≤6):yg m a j=true:=by
 have h1:=List.all_eq_true.1 AK8 m (by simp;omega);have h2:=List.all_eq_true.1 h1 a (JW.2 h);rw[RF]at h2;rcases h2 with h2|h2
 ·simp at h2;omega
 ·exact List.all_eq_true.1 h2 j (JW.2 (by omega))
def jM (m a:Nat)(w:World)(e:Ending)(w':World):Prop:=∃c:Nat,e= .returned (.tuple #[.int .i64 (c:Int),.bool true])∧c<m∧a*c%m=1∧w=w'
theorem AGq (m a:Nat)(hm:m=2∨m=3∨m=5∨m=7)(h0:0<a)(h:a<m)(w:World):
  Calls Tryz.prog 74 #[.int .i64 (a:Int),.int .i64 (m:Int)] w (jM m a w):=by
 have NM:=hid (fun j hj=>ALk hm h0 h j hj);have hm7:m≤7:=by omega
 have hm0:0<m:=by omega
 have ANR:=hid (fun(x:Int) hx hx2 W=>AG8 x m (by omega) (by omega) hx hx2 W);clear hm h0 h;go_enter Tryz.func74,Tryz.ntmps74;go_wp2_with fail;go_loop [6,7,8,9] (fun rv nv xv yv=>∃(j:Nat) (r n x y:Int),j≤6∧rv= .int .i64 r∧nv= .int .i64 n∧xv= .int .i64 x∧yv= .int .i64 y∧Hid (eu m a j=(r,n,x,y))) (fun _ nv _ _=>(intOf nv).toNat);case atStart=>exact⟨0,_,_,_,_,AU _,rfl,rfl,rfl,rfl,hid rfl⟩
 case round=>
  obtain⟨j,r,n,x,y,hj,rfl,rfl,rfl,rfl,hS⟩:=hrel;have hb:=NM.out j hj;unfold yg at hb;rw[hS.out]at hb;simp only[TW,TY]at hb;obtain⟨⟨⟨⟨hr,hn⟩,hx⟩,hy⟩,hrest⟩:=hb;by_cases hn0:n=0
  ·subst hn0;rw[Bo rfl]at hrest;simp only[TW,TY]at hrest;obtain⟨rfl,hinv⟩:=hrest;have hpm:0≤x%(m:Int)∧x%(m:Int)<(m:Int):=⟨Int.emod_nonneg _ (by omega),Int.emod_lt_of_pos _ (by omega)⟩;obtain⟨c,hc⟩:∃c:Nat,x%(m:Int)=(c:Int):=⟨(x%(m:Int)).toNat,by omega⟩;have HR:=hid (show jM m a w (.returned (.tuple #[.int .i64 (c:Int),.bool true])) w from⟨c,rfl,by omega,by
    rw[hc]at hinv
    exact_mod_cast hinv,rfl⟩)
   have HC:=hid (ANR.out x hx.1 hx.2 w);rw[hc]at HC;clear hinv hpm hc hr hn hx hy;go_wp2_with fail;refine HC.out.mono ?_;rintro e w1 ⟨rfl,rfl⟩;go_wp2_with fail;exact Aj (v:=.tuple #[.int .i64 (c:Int),.bool true]) (by simp[results,Tryz.results74,go_sem]) rfl HR.out
  ·rw[BD hn0]at hrest;simp only[TW,TY]at hrest;obtain⟨⟨⟨⟨hq,hqn⟩,Zm⟩,hnn⟩,xx⟩:=hrest;have hne:(n !=0)=true:=by simpa using hn0
   have HN:=hid (show eu m a (j+1)=(n,r-r.tdiv n*n,y,x-r.tdiv n*y) by rw[eu,hS.out];exact BD hn0);obtain⟨q,hqq⟩:∃q,r.tdiv n=q:=⟨_,rfl⟩;rw[hqq]at hq hqn Zm hnn HN;have w1:IntKind.i64.wrap (q*n)=q*n:=AY _ (by omega);have w2:IntKind.i64.wrap (q*y)=q*y:=AY _ (by omega);have w3:IntKind.i64.wrap (r-q*n)=r-q*n:=AY _ (by omega);have w4:IntKind.i64.wrap (x-q*y)=x-q*y:=AY _ (by omega);have w5:IntKind.i64.wrap q=q:=AY _ (by omega);have hn63:¬n=0:=hn0;obtain⟨qn,ANT⟩:∃qn,q*n=qn:=⟨_,rfl⟩;obtain⟨qy,ANU⟩:∃qy,q*y=qy:=⟨_,rfl⟩;rw[ANT]at hqn hnn w1 w3 HN;rw[ANU]at Zm w2 w4 HN;clear hS;go_wp2_with fail;go_round;case rel=>exact⟨j+1,n,r-qn,y,x-qy,by omega,rfl,by first|rfl|simp[*],rfl,by first|rfl|simp[*],HN⟩
   case measure=>simp[intOf, *];omega
end Go.Proofs.YtaadbccidfdniaaGreat.Qj
namespace Go.Proofs.YtaadbccidfdniaaGreat.ChB
open Go.RowKit Go.Proofs.YtaadbccidfdniaaGreat AB Dr Cu
theorem AK9 {T:Tw}(hT:Wf T)(hg:AB.Good T){x y u z:List Nat}(hx:El T x)(hy:El T y)(hu:El T u)(hz:El T z)(h1:mul T x u=AB.one T)(h2:mul T y z=mul T x y):mul T u z=Gen.CF (mul T) (Ap T) x y:=by
 have G:=BO hT hg;have hyx:=C8 hT hy hx;have hv:=FJ hT hg hyx;unfold Gen.CF;refine G.Ob hyx (C8 hT hu hz) (C8 hT hv.1 (C8 hT hx hy)) ?_;rw[←G.Am hyx hv.1 (C8 hT hx hy),hv.2.1,G.eL (C8 hT hx hy),G.Am hy hx (C8 hT hu hz),←G.Am hx hu hz,h1,G.eL hz,h2]
theorem AGr (T:Tw)(hT:Wf T)(hs:Small T)(hg:AB.Good T)(w:World)(b o:Nat)(va vc:Value)(x y:List Nat)(hP:BN Any w b o (AQ T))(ha:AL Any w va (ints x))(hn:FY.NN va)(hb:AL Any w vc (ints y))(hnc:FY.NN vc)(hx:El T x)(hy:El T y):
  Calls Tryz.prog 75 #[.pointer (some ⟨b,o,none⟩),va,vc] w (Ej (ints (Gen.CF (mul T) (Ap T) x y)) w):=by
 have Hy:=hid (YX.oW T hT hs 0 (AU _) hg w b o va x hP ha hn hx);have KI:=hid (fun W (hb':Below w.heap.size w W)=>YY.ng T hT hs 0 (AU _) hg W b o va vc x y (hP.keep (AA.of_below hb')) (ha.keep (AA.of_below hb')) hn (hb.keep (AA.of_below hb')) hnc hx hy);have UW:=hid (fun W vu vz u z hp h1 h2 h3 h4 h5=>FY.dh T hT hs 0 (AU _) hg W b o vu vz u z hp h1 h2 h3 h4 h5);have HP:=hid hP;have lH:=hid (fun u z hu hz h1 h2=>AK9 hT hg hx hy (u:=u) (z:=z) hu hz h1 h2);clear hP ha hb hn hnc hx hy;go_enter Tryz.func75,Tryz.ntmps75;go_wp2_with fail;refine Hy.out.mono ?_;rintro e w1 ⟨u,⟨hu,h1⟩,g1,c1,rfl,ho1,hb1⟩;have HB1:=hid hb1;have HU:=hid (And.intro hu h1);have DD:=hid ho1;have Gg:=hid (KI.out w1 hb1);clear hu h1 ho1 hb1;go_wp2_with fail;refine Gg.out.mono ?_;rintro e w2 ⟨z,⟨hz,h2⟩,g2,c2,rfl,ho2,hb2⟩;have HB2:=hid (HB1.out.trans (hb2.mono HB1.out.size));have Qk:=hid (show Calls Tryz.prog 70 #[.pointer (some ⟨b,o,none⟩),.slice (some ⟨g1,0,none⟩) (ints (pad 0 u)).length c1,.slice (some ⟨g2,0,none⟩) (ints (pad 0 z)).length c2] w2 (Ej (ints (Gen.CF (mul T) (Ap T) x y)) w2) from by
  have h:=UW.out w2 _ _ u z (HP.out.keep (AA.of_below HB2.out)) ((DD.out.keep (S:=fun _=>True) (AA.of_below hb2) (fun _ _=>trivial)).sl.mono (fun _ _=>trivial)) (FY.gD _ _ _) (ho2.sl.mono (fun _ _=>trivial)) HU.out.1 hz;have e:=lH.out u z HU.out.1 hz HU.out.2 h2;have e2:pad 0 (mul (T.drop 0) u z)=Gen.CF (mul T) (Ap T) x y:=e;rw[e2]at h;exact h)
 clear hz h2 ho2 hb2;go_wp2_with fail;refine Qk.out.mono ?_;rintro e w3 ⟨g3,c3,rfl,ho3,hb3⟩;have HR:=hid (show Ej (ints (Gen.CF (mul T) (Ap T) x y)) w (.returned (.slice (some ⟨g3,0,none⟩) (ints (Gen.CF (mul T) (Ap T) x y)).length c3)) w3 from⟨_,_,rfl,ho3.mono HB2.out.size,HB2.out.trans (hb3.mono HB2.out.size)⟩);clear ho3 hb3;go_wp2_with fail;go_ret;exact HR.out
end Go.Proofs.YtaadbccidfdniaaGreat.ChB
namespace Go.Proofs.YtaadbccidfdniaaGreat.PM
open Go.RowKit Go.Proofs.YtaadbccidfdniaaGreat AB Gen Cu Gt EZ KS FY
theorem AC6 {T:Tw}{d:Nat}{x:List Nat}(hx:A (El T) fF d x)(hd:d≤T.length):d≤dep x:=by
 have hl:=AZ hx.1;refine Nat.le_of_not_lt fun h=>?_;obtain⟨a,ha,h0⟩:=qX (x:=x) (by omega);have:=hx.2 _ h;rw[YH ha]at this;exact h0 this
noncomputable abbrev Mo (T:Tw)(tl:List (List Nat))(x:List Nat):Nat×List Nat:=DU (mul T) (AB.one T) (oF T) fF (Al tl) T.length 0 x
theorem AJ9 {T:Tw}{tl:List (List Nat)}{x:List Nat}(hx:El T x)(h:dep x=T.length):Mo T tl x=(T.length,x):=by
 have hA:=Vp hx;rw[h]at hA;have:=Xw (m:=mul T) (e:=AB.one T) (o:=oF T) (f:=fF) (Al tl) T.length 0 0 x (fun i hi=>hA.2 i (by omega));rw[Oc,Cg]at this;unfold Mo;rw[this];rfl
theorem AC7 {T:Tw}{tl:List (List Nat)}{x:List Nat}(hx:El T x)(h:dep x<T.length):Mo T tl x=DU (mul T) (AB.one T) (oF T) fF (Al tl) (T.length-dep x-1+1) (dep x) x:=by
 have hA:=Vp hx;have:=Xw (m:=mul T) (e:=AB.one T) (o:=oF T) (f:=fF) (Al tl) (dep x) (T.length-dep x-1+1) 0 x (fun i hi=>hA.2 i (by omega));rw[show dep x+(T.length-dep x-1+1)=T.length by omega,Cg]at this;exact this
theorem iT {T:Tw}{x:List Nat}(hx:El T x)(h:dep x<T.length):∃a,x[dep x]?=some a∧a≠0∧fF (dep x) x=a:=by
 obtain⟨a,ha,h0⟩:=qX (x:=x) (by rw[AZ hx];exact h);exact⟨a,ha,h0,YH ha⟩
theorem AIu {T:Tw}{tl:List (List Nat)}{x:List Nat}(hx:El T x)(h:dep x<T.length)(ht:Al tl (dep x)=none):Mo T tl x=(dep x,x):=by
 obtain⟨a,ha,h0,hf⟩:=iT hx h;rw[AC7 hx h,VQ (by rw[hf];exact h0) ht]
theorem ALA {T:Tw}(hT:Wf T)(hg:AB.Good T){tl:List (List Nat)}(htb:Tb (El T) T.length fF (Al tl)){x y:List Nat}(hx:El T x)(h:dep x<T.length)(ht:Al tl (dep x)=some y){a:Nat}(ha:x[dep x]?=some a):
  Mo T tl x=Mo T tl (mul T (npow (mul T) (AB.one T) y (oF T (dep x)-a)) x)∧El T (mul T (npow (mul T) (AB.one T) y (oF T (dep x)-a)) x)∧dep x+1≤dep (mul T (npow (mul T) (AB.one T) y (oF T (dep x)-a)) x)∧
   (mul T (npow (mul T) (AB.one T) y (oF T (dep x)-a)) x)[dep x]?=some 0:=by
 obtain⟨a',ha',h0,hf⟩:=iT hx h;rw[ha]at ha';injection ha' with ha';subst ha';have F:=Em hT hg;obtain⟨_,DL,hy1⟩:=htb _ y ht;have hr:=sZ F h (Vp hx) DL hy1;rw[hf]at hr;refine⟨?_,hr.1,AC6 hr (by omega),?_⟩
 ·rw[AC7 hx h,Sz (by rw[hf];exact h0) ht,hf];have:=Xw (m:=mul T) (e:=AB.one T) (o:=oF T) (f:=fF) (Al tl) (dep x+1) (T.length-dep x-1) 0 _ (fun i hi=>hr.2 i (by omega));rw[show dep x+1+(T.length-dep x-1)=T.length by omega,Cg]at this;exact this.symm
 ·have:=hr.2 (dep x) (by omega);unfold fF at this;have hl:=AZ hr.1;rw[BV,AO (by omega)]at this;rw[AO (by omega)];simp at this;rw[this]
def JA (gb gq:Nat):Nat→Prop:=fun k=>k≠gb∧k≠gq
def Mq (S:Nat→Prop)(w:World)(u:Value)(r:List Nat):Prop:=(r=[]∧u= .slice none 0 0)∨(r≠[]∧AL S w u (ints r))
theorem Mq.keep {S S':Nat→Prop}{w w':World}{u:Value}{r:List Nat}(h:Mq S w u r)(hk:AA S' w w')(hS:∀k,S k→S' k):Mq S w' u r:=
 h.imp id fun h=>⟨h.1,h.2.keep (hk.mono hS)⟩
theorem Mq.mono {S S':Nat→Prop}{w:World}{u:Value}{r:List Nat}(h:Mq S w u r)(hS:∀k,S k→S' k):Mq S' w u r:=
 h.imp id fun h=>⟨h.1,h.2.mono hS⟩
theorem Mq.any {S:Nat→Prop}{w:World}{u:Value}{r:List Nat}(h:Mq S w u r):AL Any w u (ints r):=by
 rcases h with⟨rfl,rfl⟩|⟨_,h⟩
 ·exact gJ _ _
 ·exact h.mono fun _ _=>trivial
theorem Dn.mono {R R':World→Value→List Nat→Prop}{w:World}{g:Nat}{tl:List (List Nat)}(h:Dn R w g tl)(hR:∀v r,R w v r→R' w v r):Dn R' w g tl:=by
 obtain⟨us,h1,h2,h3⟩:=h;exact⟨us,h1,h2,fun i r u hr hu=>hR _ _ (h3 i r u hr hu)⟩
structure EK (w:World)(b o sb gb:Nat)(S:Nat→Prop)(n:Nat)(tl:List (List Nat)):Prop where
 hs:sb<w.heap.size
 c0:w.cell? ⟨sb,0,none⟩=some (.pointer (some ⟨b,o,none⟩))
 c1:w.cell? ⟨sb,1,none⟩=some (.slice (some ⟨gb,0,none⟩) n n)
 ne:sb≠gb
 tb:Dn (Mq S) w gb tl
 ln:tl.length=n
theorem EK.keep {w w':World}{b o sb gb n:Nat}{S S':Nat→Prop}{tl:List (List Nat)}(h:EK w b o sb gb S n tl)(hk:AA S' w w')(h1:S' sb)(h2:S' gb)(hS:∀k,S k→S' k):EK w' b o sb gb S n tl:=
 ⟨Ai h.hs hk.size,by rw[hk.cell h1 h.hs];exact h.c0,by rw[hk.cell h1 h.hs];exact h.c1,h.ne,h.tb.keep hk h2 (fun v r hr=>hr.keep hk hS),h.ln⟩
theorem EK.below {w w':World}{b o sb gb n:Nat}{S:Nat→Prop}{tl:List (List Nat)}(h:EK w b o sb gb S n tl)(hb:Below w.heap.size w w'):EK w' b o sb gb S n tl:=
 h.keep (S':=Any) (AA.of_below hb) trivial trivial fun _ _=>trivial
theorem EK.mono {w:World}{b o sb gb n:Nat}{S S':Nat→Prop}{tl:List (List Nat)}(h:EK w b o sb gb S n tl)(hS:∀k,S k→S' k):EK w b o sb gb S' n tl:=
 ⟨h.hs,h.c0,h.c1,h.ne,Dn.mono h.tb (fun v r hr=>hr.mono hS),h.ln⟩
theorem EK.put {w:World}{b o sb gb n d:Nat}{S:Nat→Prop}{tl:List (List Nat)}{u:Value}{y:List Nat}(h:EK w b o sb gb S n tl)(hS:¬S gb)(hu:AL S w u (ints y))(hy:y≠[]):EK (w.setCell ⟨gb,d,none⟩ u) b o sb gb S n (tl.set d y):=by
 have hk:AA S w (w.setCell ⟨gb,d,none⟩ u):=AJ.setCell (p:=⟨gb,d,none⟩) hS u;have hk2:AA (fun k=>k≠gb) w (w.setCell ⟨gb,d,none⟩ u):=AJ.setCell (p:=⟨gb,d,none⟩) (fun h=>h rfl) u;exact⟨Ai h.hs hk.size,by rw[hk2.cell h.ne h.hs];exact h.c0,by rw[hk2.cell h.ne h.hs];exact h.c1,h.ne,h.tb.set d (fun _ _ _ _=>trivial) (fun v r hr=>hr.keep hk fun _ h=>h) (.inr ⟨hy,hu⟩),by simp[h.ln]⟩
theorem Na {S:Nat→Prop}{w:World}{v:Value}{l:List Int}(h:AL S w v l):AL (fun k=>S k∧k<w.heap.size) w v l:=by
 obtain⟨ao,c,h1,h2,h3,h0,h4⟩:=h;exact⟨ao,c,h1,h2,h3,h0,fun i x hx=>by obtain⟨b,o,e1,e2,e3,e4⟩:=h4 i x hx;exact⟨b,o,e1,⟨e2,e3⟩,e3,e4⟩⟩
theorem V7 {gb gq g':Nat}{w w':World}{v:Value}{l:List Int}(h:AL (JA gb gq) w v l)(hg:w.grownBy w' (some gq))(hd:g'=gq∨w.heap.size≤g'):AL (JA gb g') w' v l:=by
 have hk:AA (fun k=>JA gb gq k∧k<w.heap.size) w w':=AA.grown hg fun k hk e=>hk.1.2 (by injection e);exact((Na h).keep hk).mono fun k hk=>⟨hk.1.1,fun e=>by
  rcases hd with rfl|hd
  ·exact hk.1.2 e
  ·have:=hk.2;omega⟩
theorem AKA {gb gq g':Nat}{w w':World}{v:Value}{r:List Nat}(h:Mq (JA gb gq) w v r)(hg:w.grownBy w' (some gq))(hd:g'=gq∨w.heap.size≤g'):Mq (JA gb g') w' v r:=
 h.imp id fun h=>⟨h.1,V7 h.2 hg hd⟩
def bH (w:World)(gb gq:Nat)(us:List Value)(rows:List (List Nat)):Prop:=us.length=rows.length∧∀(i:Nat) (r:List Nat) (u:Value),rows[i]?=some r→us[i]?=some u→AL (JA gb gq) w u (ints r)
theorem bH.below {w w':World}{gb gq:Nat}{us:List Value}{rows:List (List Nat)}(h:bH w gb gq us rows)(hb:Below w.heap.size w w'):bH w' gb gq us rows:=
 ⟨h.1,fun i r u hr hu=>(h.2 i r u hr hu).keep (AA.of_below hb)⟩
structure Fy (n:Nat)(w W:World)(b o sb gb gq:Nat)(v:Value)(us:List Value)(tl rows:List (List Nat)):Prop where
 sq:EK W b o sb gb (JA gb gq) n tl
 wi:EH 24 W gq v us
 qu:bH W gb gq us rows
 gr:w.grownBy W (some gb)
 bq:w.heap.size≤gq∧gq<W.heap.size
 bs:sb<w.heap.size∧gb<w.heap.size
theorem AIv {a b c:World}{row:Option Nat}(h1:a.grownBy b row)(h2:b.grownBy c row):a.grownBy c row:=Gp.JJ h1 h2
theorem ALB {a b:World}{g gb:Nat}(h:a.grownBy b (some g)){w:World}(hw:w.grownBy a (some gb))(hg:w.heap.size≤g):w.grownBy b (some gb):=
 ⟨h.os.trans hw.os,h.tape.trans hw.tape,h.output.trans hw.output,Ad hw.size h.size,fun k hk hne=>(h.block k (Ai hk hw.size) (fun e=>by injection e with e;omega)).trans (hw.block k hk hne)⟩
theorem Fy.below {n:Nat}{w W W':World}{b o sb gb gq:Nat}{v:Value}{us:List Value}{tl rows:List (List Nat)}(h:Fy n w W b o sb gb gq v us tl rows)(hb:Below W.heap.size W W'):Fy n w W' b o sb gb gq v us tl rows:=
 ⟨h.sq.below hb,h.wi.keep (S:=Any) (AA.of_below hb) trivial,h.qu.below hb,AIv h.gr (Gp.Xo hb),⟨h.bq.1,Ai h.bq.2 hb.size⟩,h.bs⟩
theorem Fy.push {n:Nat}{w W W':World}{b o sb gb gq g':Nat}{v v' u:Value}{us:List Value}{tl rows:List (List Nat)}{r:List Nat}(h:Fy n w W b o sb gb gq v us tl rows)
  (hu:AL (JA gb gq) W u (ints r)) (hw:EH 24 W' g' v' (us++[u])) (hg:W.grownBy W' (some gq)) (hd:g'=gq∨W.heap.size≤g'):Fy n w W' b o sb gb g' v' (us++[u]) tl (rows++[r]):=by
 have hk:AA (fun k=>k≠gq) W W':=AA.grown hg fun k hk e=>hk (by injection e);have hq:=h.bq;have hbs:=h.bs;have hsz:=h.gr.size;refine⟨⟨Ai h.sq.hs hk.size,by rw[hk.cell (by omega) h.sq.hs];exact h.sq.c0,by rw[hk.cell (by omega) h.sq.hs];exact h.sq.c1,h.sq.ne,?_,h.sq.ln⟩,hw,⟨by simp[h.qu.1],fun i r' u' hr hu'=>?_⟩,ALB hg h.gr hq.1,?_,hbs⟩
 ·obtain⟨vs,h1,h2,h3⟩:=h.sq.tb;refine⟨vs,⟨h1.1,?_⟩,h2,fun i r v hr hv=>AKA (h3 i r v hr hv) hg hd⟩;rcases h1.2 with⟨h,_⟩|⟨g2,cap,cur,h,hb,hgg,hrest⟩
  ·cases h
  ·cases h;refine .inr ⟨gb,_,cur,rfl,hb,?_,hrest⟩;rw[hk.block gb (by omega) (Ba.1 hgg).1];exact hgg
 ·rcases CP i rows.length with hi|hi
  ·rw[EA hi]at hr;rw[EA (by rw[h.qu.1];exact hi)]at hu';exact V7 (h.qu.2 i r' u' hr hu') hg hd
  ·rw[D9 hi]at hr;rw[D9 (by rw[h.qu.1];exact hi),h.qu.1]at hu';rcases hj:i-rows.length with _|j
   ·rw[hj]at hr hu';simp at hr hu';subst hr;subst hu';exact V7 hu hg hd
   ·rw[hj]at hr;simp at hr
 ·obtain⟨off,c,_,_,_,hlt,_⟩:=hw.cell (i:=us.length) (u:=u) (by simp);refine⟨?_,hlt⟩;rcases hd with rfl|hd
  ·exact hq.1
  ·omega
theorem Fy.put {n d:Nat}{w W:World}{b o sb gb gq:Nat}{v u:Value}{us:List Value}{tl rows:List (List Nat)}{y:List Nat}(h:Fy n w W b o sb gb gq v us tl rows)(hu:AL (JA gb gq) W u (ints y))(hy:y≠[]):
  Fy n w (W.setCell ⟨gb,d,none⟩ u) b o sb gb gq v us (tl.set d y) rows:=by
 have hk:AA (fun k=>k≠gb) W (W.setCell ⟨gb,d,none⟩ u):=AJ.setCell (p:=⟨gb,d,none⟩) (fun h=>h rfl) u;have hq:=h.bq;have hbs:=h.bs;refine⟨h.sq.put (fun h=>h.1 rfl) hu hy,h.wi.keep hk (by omega),⟨h.qu.1,fun i r v hr hv=>(h.qu.2 i r v hr hv).keep (hk.mono fun k hk=>hk.1)⟩,?_,⟨hq.1,Ai hq.2 hk.size⟩,hbs⟩;have hg:=h.gr;exact⟨hg.os,hg.tape,hg.output,Ad hg.size hk.size,fun k hks hne=>(hk.block k (fun e=>hne (by rw[e])) (Ai hks hg.size)).trans (hg.block k hks hne)⟩
theorem Fy.pop {n:Nat}{w W:World}{b o sb gb gq off m c:Nat}{u:Value}{us:List Value}{tl rows:List (List Nat)}{r:List Nat}(h:Fy n w W b o sb gb gq (.slice (some ⟨gq,off,none⟩) m c) (u::us) tl (r::rows))(hm:m=rows.length+1):
  Fy n w W b o sb gb gq (.slice (some ⟨gq,off+1,none⟩) rows.length (c-1)) us tl rows∧(c=1→∀o',Fy n w W b o sb gb gq (.slice (some ⟨gq,o',none⟩) rows.length (c-1)) us tl rows):=by
 have hl:us.length=rows.length:=by have:=h.qu.1;simpa using this
 have hq:bH W gb gq us rows:=⟨hl,fun i r' u' hr hu=>h.qu.2 (i+1) r' u' (by simpa using hr) (by simpa using hu)⟩;have hw:=h.wi.rest (by rw[hl];exact hm);rw[hl]at hw;exact⟨⟨h.sq,hw.1,hq,h.gr,h.bq,h.bs⟩,fun hc o'=>⟨h.sq,hw.2 hc o',hq,h.gr,h.bq,h.bs⟩⟩
theorem Fy.head {n:Nat}{w W:World}{b o sb gb gq:Nat}{v:Value}{us:List Value}{tl rows:List (List Nat)}{r:List Nat}(h:Fy n w W b o sb gb gq v us tl (r::rows)):
  ∃u us' off c,us=u::us'∧v= .slice (some ⟨gq,off,none⟩) (rows.length+1) c∧rows.length+1≤c∧c≤maxLen∧W.cell? ⟨gq,off,none⟩=some u∧AL (JA gb gq) W u (ints r):=by
 obtain⟨hl,hq⟩:=h.qu;cases us with
 |nil=>simp at hl
 |cons u us=>
  obtain⟨off,c,h1,h2,h3,_,h4⟩:=h.wi.cell (i:=0) (u:=u) rfl;have hl':us.length=rows.length:=by simpa using hl
  rw[Hl,hl']at h1 h2;exact⟨u,us,off,c,rfl,h1,h2,h3,by rw[Oc]at h4;exact h4,hq 0 r u rfl rfl⟩
theorem Fy.form {n:Nat}{w W:World}{b o sb gb gq:Nat}{v:Value}{us:List Value}{tl rows:List (List Nat)}(h:Fy n w W b o sb gb gq v us tl rows):∃ao c,v= .slice ao rows.length c∧rows.length≤c∧c≤maxLen:=by
 obtain⟨ao,c,h1,h2,h3⟩:=h.wi.form;rw[h.qu.1]at h1 h2;exact⟨ao,c,h1,h2,h3⟩
end Go.Proofs.YtaadbccidfdniaaGreat.PM
namespace Go.Proofs.YtaadbccidfdniaaGreat.Ql
open Go.RowKit Go.Proofs.YtaadbccidfdniaaGreat AB Gen Cu Gt EZ KS FY Qj PM
def Ja (n:Nat)(y:List Nat)(w:World)(e:Ending)(w':World):Prop:=∃g c,e= .returned (.slice (some ⟨g,0,none⟩) n c)∧Own w.heap.size w' (.slice (some ⟨g,0,none⟩) n c) (ints y)∧Below w.heap.size w w'
theorem Ja.of {n:Nat}{y:List Nat}{w w':World}{e:Ending}(h:Ej (ints y) w e w')(hl:y.length=n):Ja n y w e w':=by
 obtain⟨g,c,h1,h2,h3⟩:=h;rw[BL,hl]at h1 h2;exact⟨g,c,h1,h2,h3⟩
theorem jk (T:Tw)(hT:Wf T)(hs:Small T)(hg:AB.Good T)(W:World)(b o:Nat)(va:Value)(y:List Nat)(K:Nat)(hK:K≤1000)(hP:BN Any W b o (AQ T))(ha:AL Any W va (ints y))(hy:El T y):
  Calls Tryz.prog 45 #[.pointer (some ⟨b,o,none⟩),va,.int .i64 (K:Int)] W (Ja T.length (npow (mul T) (AB.one T) y K) W):=
 (Vs.VL T hT hs 0 (AU _) hg W b o va y K hK hP ha hy).mono fun _ _ h=>Ja.of h (AZ ((BO hT hg).npow hy K))
theorem AEz (T:Tw)(hT:Wf T)(hs:Small T)(hg:AB.Good T)(W:World)(b o:Nat)(va vb:Value)(x y:List Nat)(hP:BN Any W b o (AQ T))(ha:AL Any W va (ints x))(hn:NN va)(hb:AL Any W vb (ints y))(hx:El T x)(hy:El T y):
  Calls Tryz.prog 70 #[.pointer (some ⟨b,o,none⟩),va,vb] W (Ja T.length (mul T x y) W):=
 (FY.dh T hT hs 0 (AU _) hg W b o va vb x y hP ha hn hb hx hy).mono fun _ _ h=>Ja.of h (AZ (C8 hT hx hy))
theorem ANV (T:Tw)(hT:Wf T)(hs:Small T)(hg:AB.Good T)(hn0:0<T.length)(W:World)(b o:Nat)(va vb:Value)(x y:List Nat)(hP:BN Any W b o (AQ T))(ha:AL Any W va (ints x))(hb:AL Any W vb (ints y))(hx:El T x)(hy:El T y):
  Calls Tryz.prog 75 #[.pointer (some ⟨b,o,none⟩),va,vb] W (Ja T.length (Gen.CF (mul T) (Ap T) x y) W):=
 (ChB.AGr T hT hs hg W b o va vb x y hP ha (YW ha (by rw[AZ hx];exact hn0)) hb (YW hb (by rw[AZ hy];exact hn0)) hx hy).mono fun _ _ h=>Ja.of h (AZ (by
  have F:=Em hT hg;exact F.G.cl (F.iM (F.G.cl hy hx)) (F.G.cl hx hy)))
def AE0 (n b o:Nat)(w:World)(e:Ending)(w':World):Prop:=
 ∃sb gb,e= .returned (.pointer (some ⟨sb,0,none⟩))∧w.heap.size≤gb∧w.heap.size≤sb∧EK w' b o sb gb (fun k=>k≠gb) n (List.replicate n [])∧Below w.heap.size w w'
theorem AAh (T:Tw)(hs6:T.length≤6)(w:World)(b o:Nat)(hP:BN Any w b o (AQ T)):
  Calls Tryz.prog 35 #[.pointer (some ⟨b,o,none⟩)] w (AE0 T.length b o w):=by
 obtain⟨_,hb,vO,vP,vC,c0,c1,c2,hv⟩:=hP;obtain⟨aO,cO,aP,cP,aC,cC,rfl,rfl,rfl,Eo,hP1,FC⟩:=hv.open;have hmk:=FZ.jf T.length hs6;have HR:=hid (show AE0 T.length b o w (.returned (.pointer (some ⟨w.heap.size+1,0,none⟩))) ((w.alloc (.cells (madeCells #[.slice none 0 0] T.length) 24)).alloc (.cells #[.pointer (some ⟨b,o,none⟩),.slice (some ⟨w.heap.size,0,none⟩) T.length T.length] 117)) from by
  refine⟨w.heap.size+1,w.heap.size,rfl,Av _,Nat.le_succ _,⟨by simp,?_,?_,by omega,?_,by simp⟩,?_⟩
  ·have h:=BA (w.alloc (.cells (madeCells #[.slice none 0 0] T.length) 24)) (.cells #[.pointer (some ⟨b,o,none⟩),.slice (some ⟨w.heap.size,0,none⟩) T.length T.length] 117);rw[show(w.alloc (.cells (madeCells #[.slice none 0 0] T.length) 24)).heap.size=w.heap.size+1 by simp]at h;rw[Ah _ _ _ _ _ (0,0) h];rfl
  ·have h:=BA (w.alloc (.cells (madeCells #[.slice none 0 0] T.length) 24)) (.cells #[.pointer (some ⟨b,o,none⟩),.slice (some ⟨w.heap.size,0,none⟩) T.length T.length] 117);rw[show(w.alloc (.cells (madeCells #[.slice none 0 0] T.length) 24)).heap.size=w.heap.size+1 by simp]at h;rw[Ah _ _ _ _ _ (0,0) h];rfl
  ·have h:=Dn.made (R:=Mq (fun k=>k≠w.heap.size)) w T.length (by unfold maxLen;omega) (.inl ⟨rfl,rfl⟩);exact h.keep (S:=Any) (AJ.alloc _) trivial (fun v r hr=>hr.keep (S':=Any) (AJ.alloc _) (fun _ _=>trivial))
  ·exact(AX.alloc AR _).alloc (by simp) _)
 clear hv;go_enter Tryz.func35,Tryz.ntmps35;go_wp2_with fail;go_ret;exact HR.out
def sK (T:Tw)(S:Nat→Prop)(tl:List (List Nat))(x:List Nat)(w:World)(e:Ending)(w':World):Prop:=
 ∃v,e= .returned v∧AL S w' v (ints (Mo T tl x).2)∧El T (Mo T tl x).2∧Below w.heap.size w w'
theorem AIw (T:Tw)(hT:Wf T)(hs:Small T)(hg:AB.Good T)(S:Nat→Prop)(w:World)(b o sb gb:Nat)(tl:List (List Nat))(vx:Value)(x:List Nat)(hP:BN Any w b o (AQ T))(hQ:EK w b o sb gb S T.length tl)(hS:∀k,w.heap.size≤k→S k)
  (htb:Tb (El T) T.length fF (Al tl)) (hx:AL S w vx (ints x)) (hE:El T x):
  Calls Tryz.prog 72 #[.pointer (some ⟨sb,0,none⟩),vx] w (sK T S tl x w):=by
 have HP:=hid hP;have HQ:=hid hQ;have HX:=hid hx;have HE:=hid hE;have HS:=hid hS;have yh:=hid htb;have FB:=hid hs;have HGO:=hid (fun x y hx h ht a ha=>ALA hT hg htb (x:=x) (y:=y) hx h ht (a:=a) ha);have UA:=hid (fun x (hx:El T x) h=>AJ9 (tl:=tl) hx h);have ADf:=hid (fun x (hx:El T x) h ht=>AIu (tl:=tl) hx h ht);have HG:=hid (BO hT hg);have DY:=hid (fun W va y K hK hp ha hy=>jk T hT hs hg W b o va y K hK hp ha hy);have HMU:=hid (fun W va vb y z hp h1 h2 h3 h4 h5=>AEz T hT hs hg W b o va vb y z hp h1 h2 h3 h4 h5);have HDP:=hid (fun W v y h=>AAX W v y h);have hne:=fun(w:World) (a:Option Addr) (n c:Nat)=>run_neq_slice_nil (P:=Tryz.prog) w 24 2 a n c Tryz.underlying24;have hxl:x.length=T.length:=AZ hE;have hs6:=hs.1;obtain⟨aX,cX,rfl,hX1⟩:=hx.open;rw[hxl]at HX hX1 ⊢;clear hP hQ hx hE hS htb hT hg hs;go_enter Tryz.func72,Tryz.ntmps72;go_wp2_with fail;refine(HDP.out w _ x (HX.out.mono (fun _ _=>trivial))).mono ?_;rintro e w1 ⟨rfl,rfl⟩;go_wp2_with fail;go_loopw [1,5] (fun xv dv wr=>∃(y:List Nat) (a:Option Addr) (c:Nat),xv= .slice a T.length c∧dv= .int .i64 (dep y:Int)∧Hid (AL S wr (.slice a T.length c) (ints y))∧Hid (El T y)∧Hid (Mo T tl x=Mo T tl y)∧Hid (Below w.heap.size w wr)) (fun _ dv _=>T.length-(intOf dv).toNat);case atStart=>exact⟨x,aX,cX,rfl,rfl,HX,HE,hid rfl,hid AX⟩
 case round=>
  obtain⟨y,a,c,rfl,rfl,hY,OP,hL,hB⟩:=hrel;have hdl:dep y≤T.length:=by have:=iC y;rwa[AZ OP.out]at this
  obtain⟨d,hd⟩:∃d,dep y=d:=⟨_,rfl⟩;rw[hd]at hdl;have HD:=hid hd;simp only[hd];clear hd;have Bc:=hid (HP.out.keep (AA.of_below hB.out));have MJ:=hid (HQ.out.below hB.out);by_cases hlt:d<T.length
  ·have hdi:(d:Int)<(T.length:Int):=by omega
   have uX:(0:Int)≤(d:Int):=by omega
   have hq0:decide ((d:Int)<(T.length:Int))=true:=by simp;omega
   obtain⟨r,hr⟩:∃r,tl[d]?=some r:=⟨_,AO (by rw[MJ.out.ln];exact hlt)⟩;obtain⟨u,Ep,_,Co⟩:=MJ.out.tb.at hr;have s0:=MJ.out.c0;have s1:=MJ.out.c1;rcases Co with⟨rfl,rfl⟩|⟨hr0,Co⟩
   ·have HR:=hid (show sK T S tl x w (.returned (.slice a T.length c)) wr from⟨_,rfl,by rw[hL.out,ADf.out y OP.out (by rw[HD.out];exact hlt) (by rw[HD.out];exact Pe hr)];exact hY.out,by rw[hL.out,ADf.out y OP.out (by rw[HD.out];exact hlt) (by rw[HD.out];exact Pe hr)];exact OP.out,hB.out⟩);clear hr hlt;go_wp2_with fail;go_ret;exact HR.out
   ·have Qe:=hid (Jy hr hr0);have IU:=hid (yh.out d r Qe.out).2.1.1;have hrl:r.length=T.length:=AZ IU.out;obtain⟨aR,cR,rfl,_⟩:=AL.open Co;rw[hrl]at Ep Co;have OJ:=hid (Co.mono (S':=Any) (fun _ _=>trivial));obtain⟨bR,oR,rfl⟩:∃bR oR,aR=some ⟨bR,oR,none⟩:=by
     obtain⟨bR,oR,h,_⟩:=AL.at Co (j:=0) (q:=r[0]'(by omega)) (AO _);exact⟨bR,oR,h⟩
    obtain⟨ay,bI,ANW,ANX⟩:=iT OP.out (by rw[HD.out];exact hlt);rw[HD.out]at bI;obtain⟨bY,oY,rfl,_,hbY,bS⟩:=AL.at hY.out bI;obtain⟨L,Qh⟩:∃L,T[d]?=some L:=⟨_,AO hlt⟩;have AEs:L.o≤7:=FB.out.2 L (Ak Qh);have hao:ay<L.o:=by
     obtain⟨L',hL',hlt'⟩:=LP OP.out bI;rw[Qh]at hL';injection hL' with hL';rw[hL'];exact hlt'
    have ah:oF T d=L.o:=J7 Qh;obtain⟨bW,U0,U1,XQ⟩:=HGO.out y r OP.out (by rw[HD.out];exact hlt) (by rw[HD.out];exact Qe.out) ay (by rw[HD.out];exact bI);rw[HD.out,ah]at bW U0 U1 XQ;obtain⟨k,hk⟩:∃k,L.o-ay=k:=⟨_,rfl⟩;rw[hk]at bW U0 U1 XQ;have hwk:IntKind.i64.wrap ((L.o:Int)-(ay:Int))=(k:Int):=by rw[AY _ (by omega)];omega
    have hk7:k≤7:=by omega
    obtain⟨z,hz⟩:∃z,z=mul T (npow (mul T) (AB.one T) r k) y:=⟨_,rfl⟩;rw[←hz]at bW U0 U1 XQ;have HZ:=hid (And.intro hz (And.intro bW (And.intro U0 (And.intro U1 XQ))));have hz0:z[d]?=some 0:=XQ;obtain⟨hPS,hPb,vO,vP,vC,p0,p1,p2,hv⟩:=Bc.out;obtain⟨aO,cO,aP,cP,aC,cC,rfl,rfl,rfl,Eo,hP1,FC⟩:=hv.open;obtain⟨bO,oO,rfl,_,CQ,BS⟩:=hv.ord Qh;have yj:=hid (HG.out.npow IU.out k);have hsb:=MJ.out.hs;have hgb:=MJ.out.tb.lt;have yl:=hid (hY.out.mono (S':=Any) (fun _ _=>trivial));clear hr hr0 Co bI ANW ANX Qh hao ah hz bW U0 U1 XQ hv hPS hk hlt hrl;go_wp2_with fail;go_region_held3 (fun w'=>(∀b o,b<wr.heap.size→w'.cell? ⟨b,o,none⟩=wr.cell? ⟨b,o,none⟩)∧AA (fun _=>True) wr w')
     (first|exact Au (by repeat(first|exact AJ.drew|exact AA.refl _ _|refine AA.trans ?_ (AA.of_below (by assumption)))))
     (first|(go_at_call 45;refine(DY.out _ (.slice (some ⟨bR,oR,none⟩) T.length cR) r k (by omega) (Bc.out.keep (by repeat(first|exact AJ.drew|exact AA.refl _ _|exact AJ.alloc _|exact(AJ.alloc _).drew|refine AA.trans ?_ (AA.of_below (by assumption))))) (OJ.out.keep (by repeat(first|exact AJ.drew|exact AA.refl _ _|exact AJ.alloc _|exact(AJ.alloc _).drew|refine AA.trans ?_ (AA.of_below (by assumption))))) IU.out).mono ?_;rintro e w5 ⟨g5,c5,rfl,Aw,hb5⟩)|(have gg:=hb5;clear gg;go_at_call 70;refine(HMU.out _ _ (.slice (some ⟨bY,oY,none⟩) T.length c) (npow (mul T) (AB.one T) r k) y (Bc.out.keep (by repeat(first|exact AJ.drew|exact AA.refl _ _|exact AJ.alloc _|exact(AJ.alloc _).drew|refine AA.trans ?_ (AA.of_below (by assumption))))) (Aw.sl.mono (fun _ _=>trivial)) (gD _ _ _) (yl.out.keep (by repeat(first|exact AJ.drew|exact AA.refl _ _|exact AJ.alloc _|exact(AJ.alloc _).drew|refine AA.trans ?_ (AA.of_below (by assumption))))) yj.out OP.out).mono ?_;rintro e w6 ⟨g6,c6,rfl,A8,hb6⟩))
    rename_i hHd;clear hHd;have UB:Below wr.heap.size wr w5:=(AX.drew).trans hb5;have hs5:=UB.size;have AE1:Below wr.heap.size wr w6:=UB.trans (hb6.mono hs5);rw[←HZ.out.1]at A8;obtain⟨c6z,_⟩:=A8.cell (j:=d) (a:=0) (by rw[Fx,HZ.out.2.2.2.2];rfl);have Ar:=hid (hB.out.trans (AE1.mono hB.out.size));have Rt:=hid (show AL S w6 (.slice (some ⟨g6,0,none⟩) T.length c6) (ints z) from A8.sl.mono fun k hk=>HS.out k (Ad (Ad hB.out.size hs5) hk));have hdz:=HZ.out.2.2.2.1;have hlz:dep z≤T.length:=by have:=iC z;rwa[AZ HZ.out.2.2.1]at this
    have QO:=hid (hL.out.trans HZ.out.2.1);have mV:=hid HZ.out.2.2.1;have R7:=hid (HDP.out w6 (.slice (some ⟨g6,0,none⟩) T.length c6) z (Rt.out.mono (fun _ _=>trivial)));clear Aw hb5 A8 hb6 UB AE1 hs5 bS BS p0 p1 p2 s0 s1 Ep hwk hz0;go_wp2_with fail;refine R7.out.mono ?_;rintro e w7 ⟨rfl,rfl⟩;go_wp2_with fail;go_roundw;case rel=>exact⟨z,_,c6,rfl,rfl,Rt,mV,QO,Ar⟩
    case measure=>simp[intOf]<;>omega
  ·obtain rfl:d=T.length:=by omega
   have hq0:decide ((T.length:Int)<(T.length:Int))=false:=by simp
   have HR:=hid (show sK T S tl x w (.returned (.slice a T.length c)) wr from⟨_,rfl,by rw[hL.out,UA.out y OP.out HD.out];exact hY.out,by rw[hL.out,UA.out y OP.out HD.out];exact OP.out,hB.out⟩);clear hlt;go_wp2_with fail;go_ret;exact HR.out
end Go.Proofs.YtaadbccidfdniaaGreat.Ql
namespace Go.Proofs.YtaadbccidfdniaaGreat.mW
open Go.RowKit Go.Proofs.YtaadbccidfdniaaGreat AB Gen Cu Gt EZ KS FY FZ V5 Qj PM Ql
theorem ACR {S:Nat→Prop}{w:World}{ad:Addr}{n c:Nat}{rows:List (List Nat)}(h:AP S w (.slice (some ad) n c) (rows.map ints)):
  ∃us:List Value,us.length=rows.length∧(∀(i:Nat) (r:List Nat) (u:Value),rows[i]?=some r→us[i]?=some u→AL S w u (ints r))∧(∀j u,us[j]?=some u→w.cell? (ad.add j)=some u)∧∀u∈us,u.oneCell'=true:=by
 obtain⟨ao,c',e,_,_,_,hx⟩:=h;obtain⟨rfl,_,_⟩:ao=some ad∧n=(rows.map ints).length∧c=c':=by simpa[eq_comm]using e
 have key:∀i r,rows[i]?=some r→∃u,w.cell? (ad.add i)=some u∧AL S w u (ints r):=fun i r hr=>by
  obtain⟨b,o,he,hb,hlt,u,hcell,hu⟩:=hx i (ints r) (by simp[hr]);obtain rfl:ad=⟨b,o,none⟩:=Mc he;exact⟨u,by rw[addr_add];exact hcell,hu⟩
 refine⟨(List.range rows.length).map (fun i=>(w.cell? (ad.add i)).getD (.slice none 0 0)),by simp,fun i r u hr hu=>?_,fun j u hu=>?_,fun u hu=>?_⟩
 ·have hi:=(Ag.1 hr).1;obtain⟨u',h1,h2⟩:=key i r hr;simp only[Bn,List.getElem?_range hi,Option.map_some,Eg,h1,Vn]at hu;rw[←hu];exact h2
 ·have hj:=(Ag.1 hu).1;simp only[Bh,List.length_range]at hj;obtain⟨u',h1,h2⟩:=key j rows[j] (AO hj);simp only[Bn,List.getElem?_range hj,Option.map_some,Eg,h1,Vn]at hu;rw[h1,hu]
 ·obtain⟨i,hi,rfl⟩:=Cy.1 hu;obtain⟨u',h1,h2⟩:=key i _ (AO (JW.1 hi));rw[h1];obtain⟨ao,c2,h3,_⟩:=h2;rw[Vn,h3];rfl
def uw (S:Nat→Prop)(rows:List (List Nat))(w:World)(e:Ending)(w':World):Prop:=
 ∃v us,e= .returned v∧w'.ownsRow w.heap.size 24 1 v rows.length us∧us.length=rows.length∧(∀(i:Nat) (r:List Nat) (u:Value),rows[i]?=some r→us[i]?=some u→AL S w u (ints r))∧Below w.heap.size w w'
theorem AHX (S:Nat→Prop)(w:World)(v:Value)(rows:List (List Nat))(hv:AP S w v (rows.map ints))(hl:rows.length≤1000000):
  Calls Tryz.prog 71 #[v] w (uw S rows w):=by
 obtain⟨i0,hi,hz0,hz1,hz2⟩:=Bt Ie;have hv':=hv;obtain⟨ao,c,rfl,hc,hm,hn,hx⟩:=hv;rw[Bh]at hc hv';have hen:=fun(w:World) (a:Option Addr) (n c n' c':Nat)=>Lib.run_eql_slice_nil (P:=Tryz.prog) w 25 24 a n c n' c' Tryz.underlying25;have h00:=Fb (base:=w.heap.size) (e:=24) (size:=1) w #[] 0 AR (AU _) rfl;rw[Bh];clear hx;cases ao with
 |none=>
  obtain rfl:c=0:=hn rfl;obtain rfl:rows=[]:=D8 (by omega);have HR:=hid (show uw S [] w (.returned (.slice none 0 0)) w from⟨_,[],rfl,F7 _ _ _ _,rfl,fun i r u hr=>by simp at hr,A7 _ _⟩);clear hv' hm hn hc hl;go_enter Tryz.func71,Tryz.ntmps71;go_wp2_with fail;go_ret;exact HR.out
 |some ad=>
  obtain⟨us,h1,h2,h3,h4⟩:=ACR hv';have hlt:∀j u,us[j]?=some u→(w.alloc (.cells #[] 24)).cell? (ad.add j)=some u:=fun j u hu=>by
   have h:=h3 j u hu;have hb:(ad.add j).block<w.heap.size:=by
    rcases CP (ad.add j).block w.heap.size with h'|h'
    ·exact h'
    ·simp[World.cell?,Array.getElem?_eq_none h']at h
   rw[World.cell?_of_block (w:=w) (E5 w _ _ hb)];exact h
  have C1:=hid hlt;have C2:=hid h4;have C3:=hid (show 0+rows.length≤maxLen by unfold maxLen;omega);have C4:=hid (show(0+rows.length)*24≤140737488355328 by omega);have C5:=hid (show us.length=rows.length*1 by omega);have C6:=hid (And.intro h1 h2);clear hv' hm hn hl h1 h2 h3 h4 hlt hc;go_enter Tryz.func71,Tryz.ntmps71;go_wp2_with (at_builtin;refine Fz _ rfl _ _ 25 rfl w.heap.size 24 i0 (.slice none 0 0) 1 24 Tryz.underlying25 hi hz0 hz1 hz2 rfl (by decide) _ _ _ rfl h00 ad rows.length c us rfl C5.out C1.out C2.out C3.out C4.out (by simp) ?_);intro v' w1 hown' hgrow hnil;have HR:=hid (show uw S rows w (.returned v') w1 from⟨v',us,rfl,by simpa using hown',C6.out.1,C6.out.2,(AX.alloc AR _).grown hgrow (by simp) (by intro k hk;simp[Value.ownBlock]at hk;omega)⟩);clear hown' hgrow hnil;go_wp2_with fail;go_ret;exact HR.out
theorem AKB {T:Tw}(hT:Wf T)(hg:AB.Good T){tl:List (List Nat)}(htb:Tb (El T) T.length fF (Al tl)){x r:List Nat}{d:Nat}(hx:El T x)(h:Mo T tl x=(d,r)):
  El T r∧dep r=d∧d≤T.length∧A (El T) fF d r∧(d<T.length→Al tl d=none):=by
 have F:=Em hT hg;have h1:=YU F htb T.length 0 x (by omega) ⟨hx,fun j hj=>absurd hj (CO _)⟩;have h2:=(rG (m:=mul T) (e:=AB.one T) (o:=oF T) (f:=fF) (Al tl) T.length 0 x).2;rw[show DU (mul T) (AB.one T) (oF T) fF (Al tl) T.length 0 x=(d,r) from h]at h1 h2;simp only[Cg]at h1 h2;refine⟨h1.1.1,?_,h2,h1.1,fun hd=>(h1.2 hd).2⟩;rcases CP d T.length with hd|hd
 ·exact TE h1.1 (h1.2 hd).1 hd
 ·have h3:=AC6 h1.1 h2;have h4:=iC r;rw[AZ h1.1.1]at h4;omega
noncomputable def G5 (T:Tw)(tl:List (List Nat))(y:List Nat):Nat→List (List Nat)
 |0=>[]
 |e+1=>G5 T tl y e++(match Al tl e with
  |none=>[]
  |some z=>[CF (mul T) (Ap T) z y])
theorem AIx {T:Tw}{tl:List (List Nat)}{y:List Nat}{e:Nat}(h:Al tl e=none):G5 T tl y (e+1)=G5 T tl y e:=by rw[G5,h,La]
theorem AIy {T:Tw}{tl:List (List Nat)}{y z:List Nat}{e:Nat}(h:Al tl e=some z):G5 T tl y (e+1)=G5 T tl y e++[CF (mul T) (Ap T) z y]:=by rw[G5,h]
theorem AAi (T:Tw)(tl:List (List Nat))(y:List Nat):∀e,(G5 T tl y e).length≤e
 |0=>Av _
 |e+1=>by
  have:=AAi T tl y e;rw[G5,Cs];split
  ·simp;omega
  ·simp;omega
theorem ACS {T:Tw}{tl:List (List Nat)}{y:List Nat}:∀{e j:Nat} {z:List Nat},j<e→Al tl j=some z→CF (mul T) (Ap T) z y∈G5 T tl y e
 |0,j,z,h,_=>absurd h (CO _)
 |e+1,j,z,h,hz=>by
  rw[G5];rcases EB.1 h with h1|h1
  ·exact TM _ (ACS h1 hz)
  ·subst h1;rw[hz];exact TK _ DJ
theorem ACT {T:Tw}{tl:List (List Nat)}{y w:List Nat}:∀{e:Nat},w∈G5 T tl y e→∃j z,Al tl j=some z∧w=CF (mul T) (Ap T) z y
 |0,h=>by simp[G5]at h
 |e+1,h=>by
  rw[G5]at h;rcases GY.1 h with h1|h1
  ·exact ACT h1
  ·cases hz:Al tl e with
   |none=>rw[hz]at h1;simp at h1
   |some z=>
    rw[hz]at h1;simp only[GU]at h1;exact⟨e,z,hz,h1⟩
abbrev Li (T:Tw)(im tl rows:List (List Nat)):Prop:=JZ (El T) (mul T) (AB.one T) T.length (oF T) fF (Ap T) im (Al tl) rows
def ANZ (T:Tw)(im:List (List Nat))(b o sb gb:Nat)(w:World)(e:Ending)(w':World):Prop:=
 ∃(bl:Bool) (tl:List (List Nat)),e= .returned (.bool bl)∧Jo T im tl∧EK w' b o sb gb (fun k=>k≠gb) T.length tl∧w.grownBy w' (some gb)
def AE2 (T:Tw)(im:List (List Nat))(b o sb gb:Nat)(w:World)(e:Ending)(w':World):Prop:=
 ∃(bl:Bool) (tl:List (List Nat)),e= .returned (.bool bl)∧Li T im tl []∧EK w' b o sb gb (fun k=>k≠gb) T.length tl∧w.grownBy w' (some gb)
def XR (n:Nat)(w W:World)(b o sb gb:Nat)(v:Value)(tl rows:List (List Nat)):Prop:=
 (rows=[]∧(∃a c,v= .slice a 0 c)∧EK W b o sb gb (fun k=>k≠gb) n tl∧w.grownBy W (some gb))∨∃gq us,Fy n w W b o sb gb gq v us tl rows
theorem XR.fin {n:Nat}{w W:World}{b o sb gb:Nat}{v:Value}{tl:List (List Nat)}(h:XR n w W b o sb gb v tl []):(∃a c,v= .slice a 0 c)∧EK W b o sb gb (fun k=>k≠gb) n tl∧w.grownBy W (some gb):=by
 rcases h with⟨_,h⟩|⟨gq,us,h⟩
 ·exact h
 ·obtain⟨a,c,h1,_⟩:=h.form;exact⟨⟨a,c,h1⟩,h.sq.mono fun k hk=>hk.1,h.gr⟩
theorem AKC {w W:World}{gb:Nat}(h:w.grownBy W (some gb)):AA (fun k=>k≠gb) w W:=AA.grown h fun k hk e=>hk (by injection e)
theorem Vk {T:Tw}{w W:World}{b o gb:Nat}(h:BN (fun k=>k≠gb) w b o (AQ T))(hg:w.grownBy W (some gb)):BN Any W b o (AQ T):=(h.keep (AKC hg)).mono fun _ _=>trivial
theorem EK.ANa {w:World}{b o sb gb n g:Nat}{tl:List (List Nat)}(h:EK w b o sb gb (fun k=>k≠gb) n tl)(hg:w.heap.size≤g):EK w b o sb gb (JA gb g) n tl:=by
 refine⟨h.hs,h.c0,h.c1,h.ne,?_,h.ln⟩;refine Dn.mono h.tb fun v r hr=>?_;rcases hr with h4|⟨h4,h5⟩
 ·exact .inl h4
 ·exact .inr ⟨h4,(Na h5).mono fun k hk=>⟨hk.1,by have:=hk.2;omega⟩⟩
theorem XR.start {n:Nat}{w W:World}{b o sb gb:Nat}{v:Value}{us:List Value}{tl rows:List (List Nat)}(hQ:EK w b o sb gb (fun k=>k≠gb) n tl)(ho:W.ownsRow w.heap.size 24 1 v rows.length us)(hl:us.length=rows.length)
  (hr:∀(i:Nat) (r:List Nat) (u:Value),rows[i]?=some r→us[i]?=some u→AL (fun k=>k≠gb) w u (ints r)) (hb:Below w.heap.size w W):XR n w W b o sb gb v tl rows:=by
 have hQ':=hQ.below hb;have hg:w.grownBy W (some gb):=Gp.Xo hb;rcases ho.2 with⟨rfl,h0⟩|⟨g,cap,cur,rfl,hb0,hgg,_⟩
 ·obtain rfl:rows=[]:=D8 h0;exact .inl ⟨rfl,⟨_,_,rfl⟩,hQ',hg⟩
 ·have hgl:=(Ba.1 hgg).1;refine .inr ⟨g,us,(EK.ANa hQ hb0).below hb,EH.YJ ho,⟨hl,fun i r u h1 h2=>?_⟩,hg,⟨hb0,hgl⟩,⟨hQ.hs,hQ.tb.lt⟩⟩;exact((Na (hr i r u h1 h2)).keep (AA.of_below hb)).mono fun k hk=>⟨hk.1,by have:=hk.2;omega⟩
theorem AKD {T:Tw}{y:List Nat}{d:Nat}(hy:El T y)(hd:d<T.length):y≠[]:=fun h=>by
 have:=AZ hy;rw[h]at this;simp at this;omega
theorem rW {gb g:Nat}{W:World}{B:Nat}{v:Value}{l:List Int}(h:Own B W v l)(h1:gb<B)(h2:g<B):AL (JA gb g) W v l:=h.sl.mono fun k hk=>⟨by omega,by omega⟩
theorem ABm (T:Tw)(hT:Wf T)(hs:Small T)(hg:AB.Good T)(hp:Hg.Pr T)(w:World)(b o sb gb:Nat)(vl:Value)(im ws SI:List (List Nat))(hP:BN (fun k=>k≠gb) w b o (AQ T))(hQ:EK w b o sb gb (fun k=>k≠gb) T.length SI)
  (hl:AP (fun k=>k≠gb) w vl (ws.map ints)) (him:∀x∈im,El T x) (hI0:Li T im SI ws) (h6:ws.length≤6):
  Calls Tryz.prog 36 #[.pointer (some ⟨sb,0,none⟩),vl] w (AE2 T im b o sb gb w):=by
 obtain⟨i0,hi,hz0,hz1,hz2⟩:=Bt Ie;have HP:=hid hP;have HQ:=hid hQ;have Jg:=hid him;have FB:=hid hs;have Bw:=hid hp;have HG:=hid (BO hT hg);have HF:=hid (Em hT hg);have AE3:=hid (AHX _ w vl ws hl (by omega));have DY:=hid (fun W va y K hK hp ha hy=>jk T hT hs hg W b o va y K hK hp ha hy);have HCM:=hid (fun hn0 W va vb x y hp ha hb hx hy=>ANV T hT hs hg hn0 W b o va vb x y hp ha hb hx hy);have HSI:=hid (fun S W tl vx x h1 h2 h3 h4 h5 h6=>AIw T hT hs hg S W b o sb gb tl vx x h1 h2 h3 h4 h5 h6);have HLD:=hid (fun tl x r d (htb:Tb (El T) T.length fF (Al tl)) (hx:El T x) h=>AKB hT hg htb (r:=r) (d:=d) hx h);have hne:=fun(w:World) (a:Option Addr) (n c:Nat)=>run_neq_slice_nil (P:=Tryz.prog) w 24 2 a n c Tryz.underlying24;have hs6:=hs.1;have AE4:SI.length=T.length:=hQ.ln;have ANb:emp SI≤6:=Ad (ACu SI) (by rw[AE4];exact hs6);have ANc:emp SI*(T.length+3)+ws.length≤100:=by have:=Nat.mul_le_mul ANb (show T.length+3≤9 by omega);omega
 have HI0:=hid hI0;clear hP hQ hl him hT hs hg hp hI0;go_enter Tryz.func36,Tryz.ntmps36;go_wp2_with fail;refine AE3.out.mono ?_;rintro e w1 ⟨v1,us1,rfl,ho1,hl1,hr1,hb1⟩;have BI:=hid (XR.start HQ.out ho1 hl1 hr1 hb1);clear ho1 hl1 hr1 hb1 AE3;go_wp2_with fail;go_loopg [5,6] (emp SI*(T.length+3)+ws.length) (fun gk gv qv wr=>∃(bl:Bool) (tl rows:List (List Nat)),gv= .bool bl∧tl.length=T.length∧gk≤100∧gk=emp tl*(T.length+3)+rows.length∧Hid (Li T im tl rows)∧Hid (XR T.length w wr b o sb gb qv tl rows));case atStart=>
  exact⟨false,SI,ws,rfl,AE4,ANc,rfl,HI0,BI⟩
 case round=>
  obtain⟨bl,tl,rows,rfl,htl,Yi,Uu,Ip,hST⟩:=hrel;cases rows with
  |nil=>
   obtain⟨⟨a,c,rfl⟩,hq,hgr⟩:=hST.out.fin;have hd0:decide (((0:Nat):Int)>0)=false:=by simp
   have HR:=hid (show AE2 T im b o sb gb w (.returned (.bool bl)) wr from⟨bl,tl,rfl,Ip.out,hq,hgr⟩);clear hq hgr hST Uu;go_wp2_with fail;go_ret;exact HR.out
  |cons x rs=>
   obtain⟨gq,us,hA⟩:∃gq us,Fy T.length w wr b o sb gb gq _ us tl (x::rs):=by
    rcases hST.out with⟨h,_⟩|h
    ·cases h
    ·exact h
   obtain⟨u,us',off,c,rfl,rfl,hc1,hc2,Ep,Co⟩:=hA.head;obtain⟨m,hm⟩:∃m,rs.length+1=m:=⟨_,rfl⟩;have u7:=hid (hA.pop (off:=off) (m:=rs.length+1) (c:=c) rfl);rw[hm]at hc1;have C9:El T x:=(Gen.sub HG.out Jg.out).le (Ip.out.wg x DJ);have hxl:x.length=T.length:=AZ C9;obtain⟨aU,cU,rfl,_⟩:=AL.open Co;rw[hxl]at Co Ep;obtain⟨lr,hlr⟩:∃lr,rs.length=lr:=⟨_,rfl⟩;have hml:m=lr+1:=by omega
   have hm0:decide ((m:Int)>0)=true:=by simp;omega
   have R5:(0:Int)<(m:Int):=by omega
   have ANd:(1:Int)≤(m:Int):=by omega
   have AEr:0<m:=by omega
   have HHA:=hid hA;have ANe:=hA.bq.2;have OJ:=hid Co;have DN:=hid C9;obtain⟨d,rest,jl⟩:∃d rest,Mo T tl x=(d,rest):=⟨_,_,rfl⟩;obtain⟨hE2,hdr,hdl,hrA,htd⟩:=HLD.out tl x rest d Ip.out.tb C9 jl;have SK:=hid (show Calls Tryz.prog 72 #[.pointer (some ⟨sb,0,none⟩),.slice aU T.length cU] wr fun e w'=>∃v,e= .returned v∧AL (JA gb gq) w' v (ints rest)∧Below wr.heap.size wr w' from by
    have h:=HSI.out (JA gb gq) wr tl (.slice aU T.length cU) x (Vk HP.out hA.gr) hA.sq (fun k hk=>⟨by have:=hA.bs.2;have:=hA.gr.size;omega,by omega⟩) Ip.out.tb Co C9;refine h.mono fun e w' h=>?_;obtain⟨v,h1,h2,_,h4⟩:=h;rw[jl]at h2;exact⟨v,h1,h2,h4⟩)
   have HL:=hid (And.intro jl (And.intro hE2 (And.intro hdr (And.intro hrA htd))));have SG:=hid (show gk=emp tl*(T.length+3)+(lr+1) by rw[Uu,Hl,hlr]);have LC:=hid hlr;have NL:=hid hml;simp only[hm];clear hST hA Co C9 hxl jl hE2 hdr hrA htd Uu hm hlr hml;go_wp2_with fail;refine SK.out.mono ?_;rintro e w2 ⟨v2,rfl,h2,hb2⟩;have hrl:rest.length=T.length:=AZ HL.out.2.1;obtain⟨aV,cV,rfl,_⟩:=AL.open h2;rw[hrl]at h2;have HR2:=hid h2;have jD:=hid (And.intro (u7.out.1.below hb2) (fun hc o'=>(u7.out.2 hc o').below hb2));rw[LC.out]at jD;clear h2 hb2 SK u7 Ep ANe HHA OJ;go_upto_region 5 with fail;go_cut [6] (fun qv W=>Hid (Fy T.length w W b o sb gb gq qv us' tl rs)∧Hid (AL (JA gb gq) W (.slice aV T.length cV) (ints rest)));case first=>
    by_cases hc:c=1
    ·subst hc;have hm1:m=1:=by omega
     subst hm1;have ANf:lr=0:=by have:=NL.out;omega
     subst ANf;go_wp2_with fail;go_meet;exact⟨hid (jD.out.2 trivial off),HR2⟩
    ·have hmn:m-1=lr:=by have:=NL.out;omega
     go_wp2_with fail;go_meet;exact⟨hid jD.out.1,HR2⟩
   case rest=>
    obtain⟨Be,HR3⟩:=hcut;rename World=>w3;have HD3:=hid (show Calls Tryz.prog 73 #[.slice aV T.length cV] w3 fun e w'=>e= .returned (.int .i64 (d:Int))∧w3=w' from by
     have h:=AAX w3 _ rest (HR3.out.mono (fun _ _=>trivial));rw[HL.out.2.2.1]at h;exact h)
    clear jD HR2 hc1 hc2 hm0 R5 ANd AEr NL;go_wp2_with fail;refine HD3.out.mono ?_;rintro e w4 ⟨rfl,rfl⟩;clear HD3;by_cases hdn:d=T.length
    ·have hq:((d:Int)==(T.length:Int))=true:=by simp;omega
     have Uv:=hid (Ip.out.member (by rw[show DU (mul T) (AB.one T) (oF T) fF (Al tl) T.length 0 x=(d,rest) from HL.out.1];exact hdn));clear hdn hdl;go_wp2_with fail;go_roundg (emp tl*(T.length+3)+lr);case measure=>exact mP SG.out
     case rel=>exact⟨bl,tl,rs,rfl,htl,Ad (DT (mP SG.out)) Yi,by rw[LC.out],Uv,hid (.inr ⟨gq,us',Be.out⟩)⟩
    ·have hq:((d:Int)==(T.length:Int))=false:=by simp;omega
     have Mm:d<T.length:=by omega
     obtain⟨L,hL⟩:∃L,T[d]?=some L:=⟨_,AO Mm⟩;obtain⟨a,ha,ha0,hfa⟩:=iT HL.out.2.1 (by rw[HL.out.2.2.1];exact Mm);rw[HL.out.2.2.1]at ha hfa;have hao:a<L.o:=by
      obtain⟨L',hL',hlt⟩:=LP HL.out.2.1 ha;rw[hL]at hL';injection hL' with hL';rw[hL'];exact hlt
     have uY:=hid (Bw.out L (Ak hL));have AEs:L.o≤7:=FB.out.2 L (Ak hL);have HA:=hid (And.intro hfa (J7 hL));have EN:=hid hL;obtain⟨bV,oV,rfl,_,hbV,hcV⟩:=AL.at HR3.out ha;obtain⟨-, hPb,vO,vP,vC,p0,p1,p2,hv⟩:=Vk HP.out Be.out.gr;obtain⟨aO,cO,aP,cP,aC,cC,rfl,rfl,rfl,-, -, -⟩:=hv.open;obtain⟨bO,oO,rfl,-, CQ,BS⟩:=hv.ord hL;have s0:=Be.out.sq.c0;have hsb:=Be.out.sq.hs;have hdi:(d:Int)<(T.length:Int):=by omega
     have uX:(0:Int)≤(d:Int):=by omega
     clear hdn hdl hL ha hfa hv p1 p2;go_wp2_with fail;go_region_held3 (fun w'=>(∀b o,b<w3.heap.size→w'.cell? ⟨b,o,none⟩=w3.cell? ⟨b,o,none⟩)∧AA (fun _=>True) w3 w')
      (first|exact Au (by repeat(first|exact AJ.drew|exact AA.refl _ _|refine AA.trans ?_ (AA.of_below (by assumption)))))
      (first|(go_at_call 74;refine(AGq L.o a uY.out (by omega) hao _).mono ?_;rintro e w5 ⟨ci,rfl,hci,hinv,rfl⟩))
     rename_i hHd;clear hHd;obtain⟨w5,Ce⟩:∃w5,w3.drew=w5:=⟨_,rfl⟩;simp only[Ce];have hb5:Below w3.heap.size w3 w5:=by rw[←Ce];exact AX.drew
     have ANg:=hid hinv;have K8:=hid ((Be.out.below hb5).below (AX.alloc AR (.cells #[.slice (some ⟨bV,oV,none⟩) T.length cV] 24)));have ym:=hid ((HR3.out.keep (AA.of_below hb5)).keep ((AA.refl _ w5).alloc (.cells #[.slice (some ⟨bV,oV,none⟩) T.length cV] 24)));have AQA:ci≤7:=by omega
     have KH:=hid (show us'.length=lr by rw[K8.out.qu.1,LC.out]);have AK6:lr≤100:=by have:=SG.out;omega
     clear hinv Ce hb5 s0 p0 BS hcV hPb hbV CQ hsb Be HR3 hq;go_upto_region 10 with fail;go_wp2_with (at_builtin;(refine AAA _ rfl _ _ 25 rfl 24 i0 (.slice none 0 0) 24 Tryz.underlying25 hi hz0 hz1 hz2 rfl gq _ us' rfl K8.out.wi ⟨w5.heap.size,0,none⟩ 1 (.slice (some ⟨bV,oV,none⟩) T.length cV) rfl ?c1 rfl ?c2 ?c3 ?_));case c1=>rw[Ah _ _ _ #[.slice (some ⟨bV,oV,none⟩) T.length cV] _ (0,0) (BA _ _)];rfl
     case c2=>rw[KH.out];unfold maxLen;omega
     case c3=>rw[KH.out];omega
     intro g6 v6 w6 hwin vB hd6;have Ab:=hid (K8.out.push ym.out hwin vB (by simpa using hd6));have mX:=hid (V7 ym.out vB (by simpa using hd6));have s0:=Ab.out.sq.c0;have hsb:=Ab.out.sq.hs;have Dh:=hid (DY.out w6 (.slice (some ⟨bV,oV,none⟩) T.length cV) rest ci (by omega) (Vk HP.out Ab.out.gr) (mX.out.mono (fun _ _=>trivial)) HL.out.2.1);clear hwin vB hd6 K8 ym;go_wp2_with fail;refine Dh.out.mono ?_;rintro e w7 ⟨gy,cy,rfl,Cr,Cz⟩;obtain⟨y,hy⟩:∃y,y=npow (mul T) (AB.one T) rest ci:=⟨_,rfl⟩;rw[←hy]at Cr;have EF:El T y:=by rw[hy];exact HG.out.npow HL.out.2.1 ci
     have hy1:fF d y=1:=by
      rw[hy,HF.out.J5 Mm HL.out.2.2.2.1,HA.out.1,HA.out.2,Oh];exact ANg.out
     have HY:=hid (And.intro hy (And.intro EF hy1));have ET:=hid (Ab.out.below Cz);have UM:=hid (rW (g:=g6) (gb:=gb) Cr (by have:=Ab.out.bs.2;have:=Ab.out.gr.size;omega) Ab.out.bq.2);obtain⟨-, hPb,vO,vP,vC,p0,p1,p2,hv⟩:=Vk HP.out ET.out.gr;obtain⟨aO2,cO2,aP2,cP2,aC2,cC2,rfl,rfl,rfl,-, -, -⟩:=hv.open;obtain⟨bO2,oO2,rfl,-, CQ,BS⟩:=hv.ord EN.out;clear hy EF hy1 Cr Cz s0 hsb Dh mX hv p1 p2 Ab;have s0:=ET.out.sq.c0;have hsb:=ET.out.sq.hs;have Jk:=hid (Vk HP.out ET.out.gr);have bZ:=hid (UM.out.mono (S':=Any) (fun _ _=>trivial));have ak:=hid (HG.out.npow HY.out.2.1 L.o);have R6:=hid (show(us'++[Value.slice (some ⟨bV,oV,none⟩) T.length cV]).length=lr+1 by simp[KH.out]);obtain⟨yt,AE5⟩:∃yt,us'++[Value.slice (some ⟨bV,oV,none⟩) T.length cV]=yt:=⟨_,rfl⟩;rw[AE5]at ET R6;clear AE5 KH;go_upto_region 12 with fail;go_cut [6] (fun qv W=>∃g2 Jq,Hid (Fy T.length w W b o sb gb g2 qv Jq tl (rs++[rest]++[npow (mul T) (AB.one T) y L.o]))∧Hid (AL (JA gb g2) W (.slice (some ⟨gy,0,none⟩) T.length cy) (ints y)));case first=>
      go_region_law
       (first|(go_simp;go_at_call 45;refine(DY.out _ (.slice (some ⟨gy,0,none⟩) T.length cy) y L.o (by omega) (Jk.out.keep (by repeat(first|exact AJ.drew|exact AA.refl _ _|exact AJ.alloc _|exact(AJ.alloc _).drew|refine AA.trans ?_ (AA.of_below (by assumption))))) (bZ.out.keep (by repeat(first|exact AJ.drew|exact AA.refl _ _|exact AJ.alloc _|exact(AJ.alloc _).drew|refine AA.trans ?_ (AA.of_below (by assumption))))) HY.out.2.1).mono ?_;rintro e w9 ⟨g9,c9,rfl,OM,EG⟩)|(refine AGn _ (by rfl) _ _ _ (by rfl) 24 i0 (.slice none 0 0) 24 Tryz.underlying25 hi hz0 hz1 hz2 rfl g6 v6 yt (by rfl) (EH.keep (S:=Any) (EH.keep (S:=Any) ET.out.wi (by repeat(first|exact AJ.drew|exact AA.refl _ _|exact AJ.alloc _|exact(AJ.alloc _).drew|refine AA.trans ?_ (AA.of_below (by assumption)))) trivial) (AJ.alloc _) trivial) ⟨w9.heap.size,0,none⟩ 1 (.slice (some ⟨g9,0,none⟩) T.length c9) (by rfl) (by rw[Ah _ _ _ #[.slice (some ⟨g9,0,none⟩) T.length c9] 24 (0,0) (BA w9 _)];rfl) (by rfl) (by rw[R6.out];unfold maxLen;omega) (by rw[R6.out];omega) ?_;intro g10 v10 Bj ALC V8 WQ))
      all_goals (go_wp2_with fail;go_meet)
      all_goals
       have Ra:Below w7.heap.size w7 w9:=(AX.drew).trans EG;have XO:=(ET.out.below Ra).below (AX.alloc AR (.cells #[.slice (some ⟨g9,0,none⟩) T.length c9] 24));have hYA:=(UM.out.keep (AA.of_below Ra)).keep ((AA.refl _ w9).alloc (.cells #[.slice (some ⟨g9,0,none⟩) T.length c9] 24));have hOA:=(rW (g:=g6) (gb:=gb) OM (by have:=ET.out.bs.2;have:=ET.out.gr.size;show gb<w7.heap.size;omega) (show g6<w7.heap.size from ET.out.bq.2)).keep ((AA.refl _ w9).alloc (.cells #[.slice (some ⟨g9,0,none⟩) T.length c9] 24));exact⟨g10,_,hid (XO.push hOA ALC V8 (by simpa using WQ)),hid (V7 hYA V8 (by simpa using WQ))⟩
     case rest=>
      obtain⟨g8,Uw,DZ,aj⟩:=hcut;rename World=>w8;have s8:=DZ.out.sq.c1;have ANh:=DZ.out.sq.hs;have NL:=hid (Av (emp tl));clear ET UM Jk bZ ak R6 s0 hsb hPb p0 CQ BS;go_wp2_with fail;go_loopw [6,84] (fun qv ev wr=>∃(e:Nat) (g2:Nat) (Jq:List Value) (EW:List (List Nat)),e≤T.length∧ev= .int .i64 (e:Int)∧EW.length≤lr+2+e∧Hid (EW=rs++[rest]++[npow (mul T) (AB.one T) y L.o]++G5 T tl y e)∧Hid (Fy T.length w wr b o sb gb g2 qv Jq tl EW)∧Hid (AL (JA gb g2) wr (.slice (some ⟨gy,0,none⟩) T.length cy) (ints y))) (fun _ ev _=>T.length-(intOf ev).toNat);case atStart=>exact⟨0,g8,Uw,_,AU _,rfl,by simp[LC.out],hid (by simp[G5]),DZ,aj⟩
      case round=>
       obtain⟨e,g2,Jq,EW,he,rfl,hrl2,hR2,hS2,hY2⟩:=hrel;clear DZ aj s8 ANh;have s0:=hS2.out.sq.c0;have s1:=hS2.out.sq.c1;have hsb:=hS2.out.sq.hs;by_cases hlt:e<T.length
       ·have hei:(e:Int)<(T.length:Int):=by omega
        have ANI:(0:Int)≤(e:Int):=by omega
        obtain⟨q,Kw⟩:∃q,tl[e]?=some q:=⟨_,AO (by omega)⟩;obtain⟨uq,hcq,_,Gz⟩:=hS2.out.sq.tb.at Kw;have AE6:=hS2.out.sq.tb.lt;rcases Gz with⟨rfl,rfl⟩|⟨hq0,Gz⟩
        ·have MH:=hid (show EW=rs++[rest]++[npow (mul T) (AB.one T) y L.o]++G5 T tl y (e+1) by rw[AIx (Pe Kw)];exact hR2.out);clear hlt Kw;go_wp2_with fail;go_roundw;case rel=>exact⟨e+1,g2,Jq,EW,by omega,by go_num,by omega,MH,hS2,hY2⟩
         case measure=>simp[intOf]<;>omega
        ·have Qd:=hid (Ip.out.tb e q (Jy Kw hq0)).2.1.1;have NK:q.length=T.length:=AZ Qd.out;obtain⟨aQ,cQ,rfl,_⟩:=AL.open Gz;rw[NK]at hcq Gz;obtain⟨bQ,oQ,rfl⟩:∃bQ oQ,aQ=some ⟨bQ,oQ,none⟩:=by
          obtain⟨bQ,oQ,h,_⟩:=AL.at Gz (j:=0) (q:=q[0]'(by omega)) (AO _);exact⟨bQ,oQ,h⟩
         have MH:=hid (show EW++[CF (mul T) (Ap T) q y]=rs++[rest]++[npow (mul T) (AB.one T) y L.o]++G5 T tl y (e+1) by rw[AIy (Jy Kw hq0),hR2.out,Ih]);have DC:=hid (HCM.out (by omega) wr (.slice (some ⟨bQ,oQ,none⟩) T.length cQ) (.slice (some ⟨gy,0,none⟩) T.length cy) q y (Vk HP.out hS2.out.gr) (Gz.mono (fun _ _=>trivial)) (hY2.out.mono (fun _ _=>trivial)) Qd.out HY.out.2.1);have KH:=hid hS2.out.qu.1;clear hlt Kw hq0 Gz NK;go_wp2_with fail;refine DC.out.mono ?_;rintro e' w9 ⟨g9,c9,rfl,OM,EG⟩;have K8:=hid ((hS2.out.below EG).below (AX.alloc AR (.cells #[.slice (some ⟨g9,0,none⟩) T.length c9] 24)));have bZ:=hid ((hY2.out.keep (AA.of_below EG)).keep ((AA.refl _ w9).alloc (.cells #[.slice (some ⟨g9,0,none⟩) T.length c9] 24)));have HOA:=hid ((rW (g:=g2) (gb:=gb) OM (by omega) hS2.out.bq.2).keep ((AA.refl _ w9).alloc (.cells #[.slice (some ⟨g9,0,none⟩) T.length c9] 24)));clear OM EG DC s0 s1 hsb hcq AE6;go_wp2_with (at_builtin;(refine AAA _ rfl _ _ 25 rfl 24 i0 (.slice none 0 0) 24 Tryz.underlying25 hi hz0 hz1 hz2 rfl g2 _ Jq rfl K8.out.wi ⟨w9.heap.size,0,none⟩ 1 (.slice (some ⟨g9,0,none⟩) T.length c9) rfl ?c1 rfl ?c2 ?c3 ?_));case c1=>rw[Ah _ _ _ #[.slice (some ⟨g9,0,none⟩) T.length c9] _ (0,0) (BA _ _)];rfl
         case c2=>rw[KH.out];unfold maxLen;omega
         case c3=>rw[KH.out];omega
         intro g10 v10 Bj hwin V8 WQ;have uh:=hid (K8.out.push HOA.out hwin V8 (by simpa using WQ));have uj:=hid (V7 bZ.out V8 (by simpa using WQ));clear hwin V8 WQ K8 bZ HOA;go_wp2_with fail;go_roundw;case rel=>exact⟨e+1,g10,_,_,by omega,by go_num,by simp;omega,MH,uh,uj⟩
         case measure=>simp[intOf]<;>omega
       ·obtain rfl:e=T.length:=by omega
        have jm:=AKD HY.out.2.1 Mm;have Tz:tl[d]?=some []:=by
         cases htd:tl[d]? with
         |none=>have:=List.getElem?_eq_none_iff.1 htd;omega
         |some r=>cases r with
          |nil=>rfl
          |cons q r=>have h:=Jy htd (by simp);rw[HL.out.2.2.2.2 Mm]at h;simp at h
        obtain⟨ut,hct,hft,_⟩:=hS2.out.sq.tb.at Tz;have hem:=qb Tz jm;have IY:=hid (show emp (tl.set d y)*(T.length+3)+(lr+2+(G5 T tl y T.length).length)<gk from AEo (by rw[hem];exact SG.out) (AAi T tl y T.length));have HL2:=hid (show EW.length=lr+2+(G5 T tl y T.length).length by rw[hR2.out];simp[LC.out];omega);have KM:=hid (hS2.out.put (d:=d) hY2.out jm);have AE6:=hS2.out.sq.tb.lt;have Uv:=hid (show Li T im (tl.set d y) EW from by
         unfold Li;rw[fJ (by omega) jm,hR2.out];refine Ip.out.enter HF.out Jg.out HL.out.1 Mm HY.out.1 HY.out.2.2 (fun w hw=>by simp[hw]) (by simp) (by rw[HA.out.2];simp) (fun j z hz=>?_) (fun w hw=>?_)
         ·exact TK _ (ACS (Ip.out.tb j z hz).1 hz)
         ·rcases GY.1 hw with h|h
          ·rcases GY.1 h with h|h
           ·rcases GY.1 h with h|h
            ·exact .inl h
            ·exact .inr (.inl (GU.1 h))
           ·exact .inr (.inr (.inl (by rw[HA.out.2];exact GU.1 h)))
          ·exact .inr (.inr (.inr (ACT h))))
        clear hem hlt Tz jm;go_wp2_with fail;go_roundg (emp (tl.set d y)*(T.length+3)+EW.length);case measure=>rw[HL2.out];exact IY.out
        case rel=>exact⟨true,tl.set d y,EW,rfl,by simp[htl],Ad (DT (by rw[HL2.out];exact IY.out)) Yi,rfl,Uv,hid (.inr ⟨g2,Jq,KM.out⟩)⟩
theorem AKE (T:Tw)(hT:Wf T)(hs:Small T)(hg:AB.Good T)(hp:Hg.Pr T)(w:World)(b o sb gb:Nat)(vl:Value)(im:List (List Nat))(hP:BN (fun k=>k≠gb) w b o (AQ T))(hQ:EK w b o sb gb (fun k=>k≠gb) T.length (List.replicate T.length []))
  (hl:AP (fun k=>k≠gb) w vl (im.map ints)) (him:∀x∈im,El T x) (h6:im.length≤6):
  Calls Tryz.prog 36 #[.pointer (some ⟨sb,0,none⟩),vl] w (ANZ T im b o sb gb w):=by
 refine(ABm T hT hs hg hp w b o sb gb vl im im _ hP hQ hl him (by unfold Li;rw[VF];exact JZ.start (Em hT hg) him) h6).mono ?_;rintro e w' ⟨bl,tl,rfl,h1,h2,h3⟩;exact⟨bl,tl,rfl,h1.Ze (Em hT hg) him,h2,h3⟩
end Go.Proofs.YtaadbccidfdniaaGreat.mW
namespace Go.Proofs.YtaadbccidfdniaaGreat.U2
open Go.RowKit Go.Proofs.YtaadbccidfdniaaGreat AB Gen Cu Gt EZ KS FY Qj PM Ql
theorem AIz (w:World)(a:Int):Calls Tryz.prog 84 #[.int .i64 a] w fun e w'=>e= .returned (.bool (a !=0))∧w=w':=by
 go_enter Tryz.func84,Tryz.ntmps84;go_wp2_with fail;go_ret;first|exact⟨rfl,rfl⟩|exact⟨by simp,rfl⟩
theorem AA7 (w:World)(v:Value)(x:List Nat)(hv:AL Any w v (ints x))(hd:dep x<x.length)(hl:x.length≤1000000):
  Calls Tryz.prog 83 #[v,.func (.func 84) #[] #[]] w fun e w'=>e= .returned (.int .i64 (dep x:Int))∧w=w':=by
 obtain⟨aX,cX,rfl,_⟩:=hv.open;have HV:=hid hv;have HD:=hid hd;have NP:=hid (fun W a=>AIz W a);clear hv hd;go_enter Tryz.func83,Tryz.ntmps83;go_wp2_with fail;go_loop [8] (fun iv=>∃k:Nat,k≤x.length∧iv= .int .i64 (k:Int)∧Hid (∀j,j<k→x[j]?=some 0)) (fun iv=>x.length-(intOf iv).toNat);case atStart=>exact⟨0,AU _,rfl,hid (fun j h=>absurd h (CO _))⟩
 case round=>
  obtain⟨k,hk,rfl,hR⟩:=hrel;have hkl:k<x.length:=by
   obtain⟨a,ha,h0⟩:=qX HD.out;refine Nat.lt_of_not_le fun h=>h0 ?_;have:=hR.out (dep x) (by have:=HD.out;omega);rw[ha]at this;injection this
  obtain⟨a,ha⟩:∃a,x[k]?=some a:=⟨_,AO hkl⟩;obtain⟨b,o,rfl,_,hb,hc⟩:=HV.out.at ha;by_cases h0:a=0
  ·subst h0;have HN:=hid (show∀j,j<k+1→x[j]?=some 0 from fun j hj=>by
    rcases EB.1 hj with h|h
    ·exact hR.out j h
    ·rw[h];exact ha)
   clear ha hR;go_wp2_with fail;refine(NP.out w 0).mono ?_;rintro e w' ⟨rfl,rfl⟩;go_wp2_with fail;go_round;case rel=>exact⟨k+1,by omega,by go_num,HN⟩
   case measure=>simp[intOf];omega
  ·have hne:((a:Int) !=0)=true:=by simp;omega
   have HE:=hid (show dep x=k from Pm x k hR.out (fun a' ha'=>by rw[ha]at ha';cases ha';exact h0) hk);have Dh:=hid (NP.out w (a:Int));rw[hne]at Dh;clear ha hR h0 hne;go_wp2_with fail;refine Dh.out.mono ?_;rintro e w' ⟨rfl,rfl⟩;go_wp2_with fail;go_ret;exact⟨by rw[HE.out];rfl,rfl⟩
theorem AC8 {e:TypeId}{B:Nat}{w:World}{v:Value}{x:List Nat}(h:w.ownsRow B e 1 v x.length (vals (ints x))):AL (fun k=>B≤k) w v (ints x):=by
 rcases h.2 with⟨rfl,h0⟩|⟨g,cap,cur,rfl,hb,hh,hn,hm,hs,ht⟩
 ·have hx:x=[]:=D8 h0;subst hx;exact gJ _ _
 ·refine⟨_,cap,by rw[BL],by rw[BL];exact hn,hm,fun e=>absurd e (by simp),fun i y hy=>⟨g,0,rfl,hb,(Af h g rfl).2,.int .i64 y,?_,rfl⟩⟩;have hi:i<x.length:=by have:=(Ag.1 hy).1;rwa[BL]at this
  rw[Cg,Ig h i (by omega)];simp[vals,hy]
def AE7 (us:List (List Nat))(w:World)(e:Ending)(w':World):Prop:=∃v,e= .returned v∧AL (fun k=>w.heap.size≤k) w' v (ints (us.map dep))∧Below w.heap.size w w'
theorem o7 (w:World)(vu:Value)(us:List (List Nat))(hu:AP Any w vu (us.map ints))(hl:us.length≤1000)(hd:∀u∈us,dep u<u.length∧u.length≤1000):
  Calls Tryz.prog 43 #[vu] w (AE7 us w):=by
 obtain⟨i0,hi,hz0,hz1,hz2⟩:=Bt YV;obtain⟨aU,cU,rfl,_,_⟩:=Aq.form hu;rw[Bh]at hu ⊢;have HU:=hid hu;have HD:=hid hd;have yu:=hid (fun W v x h h1 h2=>AA7 W v x h h1 h2);obtain⟨m,hm⟩:∃m,us.length=m:=⟨_,rfl⟩;rw[hm]at HU hl ⊢;have HM:=hid hm;clear hu hd hm;go_enter Tryz.func43,Tryz.ntmps43;go_wp2_with fail;go_loopw [3,8] (fun ov iv wr=>∃k:Nat,k≤m∧iv= .int .i64 (k:Int)∧Hid (wr.ownsRow w.heap.size 3 1 ov k (vals (ints ((us.map dep).take k))))∧Hid (Below w.heap.size w wr)) (fun _ iv _=>m-(intOf iv).toNat);case atStart=>exact⟨0,AU _,rfl,hid (F7 _ _ _ _),hid AX⟩
 case round=>
  obtain⟨k,hk,rfl,hO,hB⟩:=hrel;by_cases hlt:k<m
  ·obtain⟨u,hu⟩:∃u,us[k]?=some u:=⟨_,AO (by rw[HM.out];omega)⟩;obtain⟨b,o,q,rfl,_,hb,hc,hq⟩:=Aq.get HU.out (k:=k) (x:=ints u) (by rw[Bn,hu];rfl);have hk1:=AA.of_below (S:=Any) hB.out;have hcr:=(hk1.cell (b:=b) (o:=o+k) trivial hb).trans hc;have hbr:b<wr.heap.size:=Ai hb hB.out.size;have Lp:=HD.out u (Ak hu);have Dh:=hid (yu.out wr q u (AL.keep hq hk1) Lp.1 (by omega));have hti:(us.map dep).take (k+1)=(us.map dep).take k++[dep u]:=by rw[IJ,Bn,hu];rfl
   have yw:=hid (show vals (ints ((us.map dep).take (k+1)))=vals (ints ((us.map dep).take k))++[.int .i64 (dep u:Int)] by rw[hti];simp[vals,ints]);have hki:(k:Int)<(m:Int):=by omega
   clear hu hc hq Lp hk1 hti;go_wp2_with fail;refine Dh.out.mono ?_;rintro e w' ⟨rfl,rfl⟩;have h1:=Br hO.out (S:=Any) ((AA.refl _ wr).alloc (.cells #[.int .i64 (dep u:Int)] 3)) (fun _ _=>trivial);have hs0:=hB.out.size;clear Dh hcr;go_wp2_with (at_builtin;(refine Fz _ rfl _ _ 64 rfl w.heap.size 3 i0 (.int .i64 0) 1 8 Tryz.underlying64 hi hz0 hz1 hz2 rfl (by decide) _ _ _ rfl h1 ⟨wr.heap.size,0,none⟩ 1 1 [.int .i64 (dep u:Int)] rfl rfl ?c1 ?c2 ?c3 ?c4 ?c5 ?_));case c1=>
    intro j u hj
    match j,hj with
    |0,hj=>simp at hj;subst hj;simp[Addr.add]
   case c2=>intro u hu;simp at hu;subst hu;rfl
   case c3=>unfold maxLen;omega
   case c4=>omega
   case c5=>simp;omega
   intro v' w2 hown hgrow _;have HN:=hid (show w2.ownsRow w.heap.size 3 1 v' (k+1) (vals (ints ((us.map dep).take (k+1)))) by rw[yw.out];exact hown);have G6:=hid (show Below w.heap.size w w2 from(hB.out.alloc hs0 _).grown hgrow (by simp;omega) (fun g hg=>(Af h1 g hg).1));clear hown hgrow h1 hO hB;go_wp2_with fail;go_roundw;case rel=>exact⟨k+1,by omega,by go_num,HN,G6⟩
   case measure=>simp[intOf]<;>omega
  ·obtain rfl:k=m:=by omega
   have HR:=hid (show∀ov,wr.ownsRow w.heap.size 3 1 ov k (vals (ints ((us.map dep).take k)))→AE7 us w (.returned ov) wr from fun ov h=>⟨ov,rfl,by
    rw[←HM.out,P6 (by simp)]at h;exact AC8 (by rw[Bh];exact h),hB.out⟩)
   have HRR:=hid (HR.out _ hO.out);clear hO hB HR;go_wp2_with fail;go_ret;exact HRR.out
theorem oZ (w:World)(v:Value)(x:List Nat)(hv:AL Any w v (ints x))(hl:x.length≤1000000):
  Calls Tryz.prog 86 #[v] w (BoR (dep x=x.length) w):=by
 obtain⟨aX,cX,rfl,_⟩:=hv.open;have HV:=hid hv;clear hv;go_enter Tryz.func86,Tryz.ntmps86;go_wp2_with fail;go_loop [7] (fun iv=>∃k:Nat,k≤x.length∧iv= .int .i64 (k:Int)∧Hid (∀j,j<k→x[j]?=some 0)) (fun iv=>x.length-(intOf iv).toNat);case atStart=>exact⟨0,AU _,rfl,hid (fun j h=>absurd h (CO _))⟩
 case round=>
  obtain⟨k,hk,rfl,hR⟩:=hrel;by_cases hlt:k<x.length
  ·obtain⟨a,ha⟩:∃a,x[k]?=some a:=⟨_,AO hlt⟩;obtain⟨b,o,rfl,_,hb,hc⟩:=HV.out.at ha;by_cases h0:a=0
   ·subst h0;have HN:=hid (show∀j,j<k+1→x[j]?=some 0 from fun j hj=>by
     rcases EB.1 hj with h|h
     ·exact hR.out j h
     ·rw[h];exact ha)
    clear ha hR;go_wp2_with fail;go_round;case rel=>exact⟨k+1,by omega,by go_num,HN⟩
    case measure=>simp[intOf];omega
   ·have hne:((a:Int) !=0)=true:=by simp;omega
    have HE:=hid (show dep x=k from Pm x k hR.out (fun a' ha'=>by rw[ha]at ha';cases ha';exact h0) hk);clear ha hR h0;go_wp2_with fail;go_ret;exact⟨false,rfl,⟨fun h=>Bool.noConfusion h,fun h=>by have:=HE.out;omega⟩,rfl⟩
  ·obtain rfl:k=x.length:=by omega
   have HE:=hid (show dep x=x.length from Pm x _ hR.out (fun a ha=>by have:=(Ag.1 ha).1;omega) hk);clear hR;go_wp2_with fail;go_ret;exact⟨true,rfl,⟨fun _=>HE.out,fun _=>rfl⟩,rfl⟩
def JB (T:Tw)(u x:List Nat)(j:Nat):List Nat:=mul T x (npow (mul T) (AB.one T) u j)
theorem AI0 {T:Tw}(hT:Wf T)(hg:AB.Good T){d:Nat}(hd:d<T.length){u x:List Nat}(hu:A (El T) fF d u)(h1:fF d u=1)(hx:El T x){j:Nat}(hj:j≤(oF T d-fF d x)%oF T d):
  fF d (JB T u x j)=0↔j=(oF T d-fF d x)%oF T d:=by
 have F:=Em hT hg;have hp:=(F.J6 (DT hd)).npow hu j;have hlt:=F.lt hd hx;unfold JB;rw[(fr hT hd hx hp).2,F.J5 hd hu,h1,Ic,Nat.add_mod_mod];generalize fF d x=f at hj hlt ⊢;generalize oF T d=o at hj hlt ⊢;by_cases hf:f=0
 ·subst hf;rw[Nat.sub_zero,Nat.mod_self]at hj ⊢;obtain rfl:j=0:=by omega
  simp
 ·rw[Ez (show o-f<o by omega)]at hj ⊢;rcases Nat.lt_or_eq_of_le hj with h|h
  ·rw[Ez (by omega)];omega
  ·rw[h,Kg (DT hlt),Nat.mod_self];simp
theorem AKF {T:Tw}{d:Nat}{u x:List Nat}(Lp:dep u=d):JB T u x ((oF T d-fF d x)%oF T d)=Mw T u x:=by unfold JB Mw;rw[Lp]
theorem AI1 {T:Tw}{us:List (List Nat)}{x u:List Nat}{k:Nat}(hu:us[k]?=some u):rep T (us.take (k+1)) x=Mw T u (rep T (us.take k) x):=by
 have:∀(a:List (List Nat)) (x:List Nat),rep T (a++[u]) x=Mw T u (rep T a x):=fun a=>by
  induction a with
  |nil=>intro x;rfl
  |cons v a ih=>intro x;exact ih _
 rw[IJ,hu];exact this _ _
def Led (T:Tw)(us:List (List Nat)):Prop:=∀u∈us,El T u∧dep u<T.length∧fF (dep u) u=1
theorem AKG (T:Tw)(hT:Wf T)(hs:Small T)(hg:AB.Good T)(w:World)(b o:Nat)(vu vx:Value)(us:List (List Nat))(x:List Nat)(hP:BN Any w b o (AQ T))(hu:AP Any w vu (us.map ints))(KU:us.length≤6)(hx:AL Any w vx (ints x))(hn:NN vx)(hE:El T x)(hL:Led T us):
  Calls Tryz.prog 76 #[.pointer (some ⟨b,o,none⟩),vu,vx] w (Ja T.length (rep T us x) w):=by
 have hs6:=hs.1;have hxl:x.length=T.length:=AZ hE;have HP:=hid hP;have HU:=hid hu;have HL:=hid hL;have HE:=hid (show∀k,El T (rep T (us.take k) x) from fun k=>rH hT hg _ (fun u hu=>(hL u (Vo hu)).1) hE);have Eu:=hid (iF T hT hs 0 (AU _) hg);have HG:=hid (BO hT hg);have Zu:=hid (fun d u y hd hu h1 hy j hj=>AI0 hT hg (d:=d) (u:=u) (x:=y) hd hu h1 hy (j:=j) hj);have Ec:=hid (oI Any vx (ints x) w hx hn (by rw[BL];omega));have Jr:=hid (fun W h=>o7 W vu us h (by omega) (fun u hu=>by have h:=hL u hu;have:=AZ h.1;omega));have HF:=hid (Em hT hg);obtain⟨aU,cU,rfl,_,_⟩:=Aq.form hu;rw[Bh]at HU Jr ⊢;obtain⟨m,hm⟩:∃m,us.length=m:=⟨_,rfl⟩;rw[hm]at HU Jr KU ⊢;have HM:=hid hm;clear hP hu hx hn hE hL hm hT hs hg;go_enter Tryz.func76,Tryz.ntmps76;go_wp2_with fail;refine Ec.out.mono ?_;rintro e w1 ⟨g,c,rfl,ho1,hb1⟩;rw[BL,hxl]at ho1 ⊢;have HB1:=hid hb1;have DD:=hid ho1;have Dh:=hid (Jr.out w1 (AP.keep HU.out (AA.of_below hb1)));clear ho1 hb1 Ec Jr;go_wp2_with fail;refine Dh.out.mono ?_;rintro e w2 ⟨vp,rfl,hp2,hb2⟩;obtain⟨aP,cP,rfl,_⟩:=hp2.open;rw[Bh,HM.out]at hp2 ⊢;have HB2:=hid (HB1.out.trans (hb2.mono HB1.out.size));have hgl:=DD.out.lt;have Ci:=hid (hp2.mono (S':=fun k=>k≠g) (fun k hk=>by have:=hgl.2;omega));have EM:=hid (DD.out.of_below hb2);have hgB:w.heap.size≤g:=hgl.1;clear hp2 hb2 Dh hgl HB1 DD;go_wp2_with fail;go_loopw [15] (fun iv wr=>∃i:Nat,i≤m∧iv= .int .i64 (i:Int)∧Hid (Own w.heap.size wr (.slice (some ⟨g,0,none⟩) T.length c) (ints (rep T (us.take i) x)))∧Hid (w2.grownBy wr (some g))) (fun iv _=>m-(intOf iv).toNat);case atStart=>exact⟨0,AU _,rfl,EM,hid (Gp.dz _ _)⟩
 case round=>
  obtain⟨i,hi,rfl,hO,Js⟩:=hrel;have Bi:=hid (show Below w.heap.size w wr from HB2.out.grown Js.out HB2.out.size (by intro k hk;cases hk;exact hgB));have hkg:=Gp.Qu (S:=fun k=>k≠g) Js.out (fun h=>h rfl);by_cases hlt:i<m
  ·obtain⟨u,hu⟩:∃u,us[i]?=some u:=⟨_,AO (by rw[HM.out];omega)⟩;obtain⟨SL,hud,hu1⟩:=HL.out u (Ak hu);obtain⟨d,hd⟩:∃d,dep u=d:=⟨_,rfl⟩;rw[hd]at hud hu1;have hpi:=Ci.out.keep hkg;obtain⟨bP,oP,rfl,_,FE,hcP⟩:=AL.at hpi (j:=i) (q:=d) (by rw[Bn,hu,←hd];rfl);obtain⟨y,hy⟩:∃y,rep T (us.take i) x=y:=⟨_,rfl⟩;have EF:El T y:=hy▸HE.out i;have HUA:=hid (show A (El T) fF d u from hd▸Vp SL);have HR1:=hid (show JB T u y ((oF T d-fF d y)%oF T d)=rep T (us.take (i+1)) x by rw[AKF hd,AI1 hu,hy]);obtain⟨K,hK⟩:∃K,(oF T d-fF d y)%oF T d=K:=⟨_,rfl⟩;rw[hK]at HR1;have HZ:=hid (fun j (hj:j≤K)=>show fF d (JB T u y j)=0↔j=K by
    have h:=Zu.out d u y hud HUA.out hu1 EF j (by rw[hK];exact hj);rw[hK]at h;exact h)
   have HY:=hid EF;have EO:=hid SL;have MK:=hid hu;rw[hy]at hO;have yl:=hid (show JB T u y 0=y by unfold JB;rw[JL];exact HG.out.eR EF);have mY:=hid (fun j=>show El T (JB T u y j) from HG.out.cl EF (HG.out.npow SL j));have hii:(i:Int)<(m:Int):=by omega
   have hd0:(0:Int)≤(d:Int):=by omega
   have hdi:(d:Int)<(T.length:Int):=by omega
   clear hu SL hu1 hpi hK hy EF hd hlt hkg Bi;go_wp2_with fail;go_loopg [20] K (fun gk dv wr=>gk≤K∧Hid (Own w.heap.size wr (.slice (some ⟨g,0,none⟩) T.length c) (ints (JB T u y (K-gk))))∧Hid (w2.grownBy wr (some g)));case atStart=>exact⟨Av _,by rw[Nf,yl.out];exact hO,Js⟩
   case round=>
    clear hO Js hcP;obtain⟨hgK,hO,Js⟩:=hrel;have Bi:=hid (show Below w.heap.size w wr from HB2.out.grown Js.out HB2.out.size (by intro k hk;cases hk;exact hgB));obtain⟨a,ha,hfa⟩:∃a,(JB T u y (K-gk))[d]?=some a∧fF d (JB T u y (K-gk))=a:=
     ⟨_,AO (by rw[AZ (mY.out _)];omega),YH (AO (by rw[AZ (mY.out _)];omega))⟩
    obtain⟨cA,_⟩:=hO.out.cell (j:=d) (a:=(a:Int)) (by rw[Fx,ha];rfl);have hz:=HZ.out (K-gk) (by omega);rw[hfa]at hz;have hgw:=hO.out.lt.2;obtain⟨bU,oU,q,rfl,_,EU,Db,hq⟩:=Aq.get HU.out (k:=i) (x:=ints u) (by rw[Bn,MK.out];rfl);have hkB:=AA.of_below (S:=Any) Bi.out;have WR:=(hkB.cell (b:=bU) (o:=oU+i) trivial EU).trans Db;have vD:bU<wr.heap.size:=Ai EU hkB.size;by_cases hg0:gk=0
    ·subst hg0;have ha0:a=0:=hz.2 (by omega);have hne:((a:Int) !=0)=false:=by simp[ha0]
     have HRR:=hid (show Own w.heap.size wr (.slice (some ⟨g,0,none⟩) T.length c) (ints (rep T (us.take (i+1)) x)) from by
      have h:=hO.out;rw[Nat.sub_zero,HR1.out]at h;exact h)
     clear ha hfa hz ha0 hO hq Db WR hkB;go_wp2_with fail;go_roundw;case rel=>exact⟨i+1,by omega,by go_num,HRR,Js⟩
     case measure=>simp[intOf]<;>omega
    ·have ha0:¬a=0:=fun h=>by have:=hz.1 h;omega
     have hne:((a:Int) !=0)=true:=by simp;omega
     have HTC:=hid (show Calls Tryz.prog 87 #[.pointer (some ⟨b,o,none⟩),.slice (some ⟨g,0,none⟩) T.length c,q] wr (Gp.sj w.heap.size g c (mul T (JB T u y (K-gk)) u) wr) from
      Eu.out (fun k=>k<w.heap.size) wr b o w.heap.size g c q [] (JB T u y (K-gk)) u ((Ph HP.out).keep (AA.of_below Bi.out)) ((Vg hq).keep (AA.of_below Bi.out)) (by omega) rfl (mY.out _) EO.out hO.out)
     have FH:=hid (show mul T (JB T u y (K-gk)) u=JB T u y (K-(gk-1)) from by
      rw[show K-(gk-1)=K-gk+1 by omega];unfold JB;rw[Dz];exact HG.out.Am HY.out (HG.out.npow EO.out _) EO.out)
     clear ha hfa hz ha0 hO hq Db hkB;go_wp2_with fail;refine HTC.out.mono ?_;rintro e w5 ⟨rfl,Aw,hg5⟩;rw[FH.out,AZ (mY.out _)]at Aw;have Ch:=hid Aw;have Kt:=hid (Gp.JJ Js.out hg5);clear Aw hg5 HTC WR cA;go_wp2_with fail;go_roundg (gk-1);case measure=>omega
     case rel=>exact⟨by omega,Ch,Kt⟩
  ·obtain rfl:i=m:=by omega
   have HRR:=hid (show Ja T.length (rep T us x) w (.returned (.slice (some ⟨g,0,none⟩) T.length c)) wr from⟨g,c,rfl,by
    have h:=hO.out;rw[←HM.out,KC]at h;exact h,Bi.out⟩)
   clear hO Js Bi hkg hlt;go_wp2_with fail;go_ret;exact HRR.out
end Go.Proofs.YtaadbccidfdniaaGreat.U2
namespace Go.Proofs.YtaadbccidfdniaaGreat.NQ
open Go.RowKit Go.Proofs.YtaadbccidfdniaaGreat AB Gen Cu Gt EZ KS FZ
theorem qH {α:Type}{t t':Nat→Option α}:∀(k d:Nat),(∀j,d≤j→t j=t' j)→BU t k d=BU t' k d
 |0,d,h=>rfl
 |k+1,d,h=>by rw[BU,BU,h d AR,qH k (d+1) (fun j hj=>h j (by omega))]
theorem qI {α:Type}{t:Nat→Option α}{k d:Nat}(h:t d=none):BU t (k+1) d=BU t k (d+1):=by rw[BU,h]
theorem qJ {α:Type}{t:Nat→Option α}{k d:Nat}{y:α}(h:t d=some y):BU t (k+1) d=y::BU t k (d+1):=by rw[BU,h]
def IZ (T:Tw)(t:Nat→Option (List Nat))(d:Nat)(t2:Nat→Option (List Nat)):Prop:=
 ∀j,d≤j→(t j=none→t2 j=none)∧∀y,t j=some y→∃r,Kr T t j r∧fF j r=1∧Zs fF t (j+1) T.length r∧t2 j=some r
abbrev bf (T:Tw)(im:List (List Nat))(t:Nat→Option (List Nat)):Prop:=Nw (El T) (mul T) (AB.one T) T.length fF (Ap T) im t
theorem IZ.cf {T:Tw}{t t2:Nat→Option (List Nat)}(h:IZ T t 0 t2):Cf (El T) (mul T) (AB.one T) T.length fF (Ap T) t t2:=fun d=>h d (AU _)
theorem Cf.XT {T:Tw}{t t2:Nat→Option (List Nat)}(h:Cf (El T) (mul T) (AB.one T) T.length fF (Ap T) t t2)(d:Nat):IZ T t d t2:=fun j _=>h j
theorem AI2 {T:Tw}{im:List (List Nat)}{t:Nat→Option (List Nat)}(hc:bf T im t):IZ T t T.length (fun _=>none):=fun j hj=>by
 cases h:t j with
 |none=>exact⟨fun _=>rfl,fun y hy=>by cases hy⟩
 |some y=>have:=(hc.tb j y h).1;omega
theorem AKH {T:Tw}{t t2:Nat→Option (List Nat)}{d k:Nat}(h:IZ T t (d+1) t2)(ht:t d=none):∃t3,IZ T t d t3∧BU t3 (k+1) d=BU t2 k (d+1):=by
 refine⟨fun j=>if j=d then none else t2 j,fun j hj=>?_,?_⟩
 ·by_cases e:j=d
  ·subst e;exact⟨fun _=>by simp,fun y hy=>by rw[ht]at hy;cases hy⟩
  ·have:=h j (by omega);simp only[BD e];exact this
 ·rw[qI (by simp)];exact qH _ _ (fun j hj=>by simp;intro h;omega)
theorem IZ.w {T:Tw}{t t2:Nat→Option (List Nat)}{d:Nat}(h:IZ T t d t2):∀j,d≤j→(t j=none→t2 j=none)∧∀y,t j=some y→∃r,Kr T t j r∧fF j r=1∧t2 j=some r:=fun j hj=>
 ⟨(h j hj).1,fun y hy=>by obtain⟨r,h1,h2,_,h4⟩:=(h j hj).2 y hy;exact⟨r,h1,h2,h4⟩⟩
theorem AKI {T:Tw}(hT:Wf T)(hg:AB.Good T){im:List (List Nat)}{t t2:Nat→Option (List Nat)}(hc:bf T im t){d k:Nat}(hd:d+1+k=T.length)(h:IZ T t (d+1) t2){y:List Nat}(ht:t d=some y):
  ∃t3,IZ T t d t3∧BU t3 (k+1) d=rep T (BU t2 k (d+1)) y::BU t2 k (d+1):=by
 have F:=Em hT hg;obtain⟨hdn,DL,hy1⟩:=hc.tb d y ht;obtain⟨s,h1,h2,h3⟩:=fD hT hg hc k (d+1) hd h.w y DL.1;have hS:=hc.sub d (DT hdn);obtain⟨h4,h5⟩:=Hf.1 h1;have hr:=hS.cl (hc.mem d y ht) h4;have hf:fF d (mul T y s)=1:=by
  rw[(fr hT hdn DL.1 h4.1).2,hy1,h5,Oc];exact Ez (by have:=F.lt hdn DL.1;omega)
 refine⟨put t2 d (mul T y s),fun j hj=>?_,?_⟩
 ·by_cases e:j=d
  ·subst e;exact⟨fun h=>(by rw[ht]at h;cases h),fun z hz=>⟨_,hr,hf,h3,by unfold put;rw[Bo rfl]⟩⟩
  ·have:=h j (by omega);unfold put;simp only[BD e];exact this
 ·rw[qJ (y:=mul T y s) (by unfold put;rw[Bo rfl]),h2];refine BM _ (qH _ _ (fun j hj=>?_));unfold put;rw[BD (by omega)]
theorem Vb {α:Type}{t:Nat→Option α}{u:α}:∀{k d:Nat},u∈BU t k d→∃j,d≤j∧j<d+k∧t j=some u
 |0,d,h=>by simp[BU]at h
 |k+1,d,h=>by
  rw[BU]at h;cases ht:t d with
  |none=>
   rw[ht]at h;obtain⟨j,h1,h2,h3⟩:=Vb h;exact⟨j,by omega,by omega,h3⟩
  |some y=>
   rw[ht]at h;rcases F8.1 h with rfl|h
   ·exact⟨d,Av _,by omega,ht⟩
   ·obtain⟨j,h1,h2,h3⟩:=Vb h;exact⟨j,by omega,by omega,h3⟩
theorem iV {α:Type}(t:Nat→Option α):∀(k d:Nat),(BU t k d).length≤k
 |0,d=>by simp[BU]
 |k+1,d=>by
  have:=iV t k (d+1);rw[BU];split
  ·omega
  ·rw[Hl];omega
theorem IZ.row {T:Tw}{t t2:Nat→Option (List Nat)}{d j:Nat}{u:List Nat}(h:IZ T t d t2)(hj:d≤j)(hu:t2 j=some u):Kr T t j u∧fF j u=1∧Zs fF t (j+1) T.length u:=by
 have h1:=h j hj;cases ht:t j with
 |none=>rw[h1.1 ht]at hu;cases hu
 |some y=>
  obtain⟨r,h2,h3,h4,h5⟩:=h1.2 y ht;rw[hu]at h5;injection h5 with h5;subst h5;exact⟨h2,h3,h4⟩
def Dl (T:Tw)(im us:List (List Nat)):Prop:=∃t t2,bf T im t∧Cf (El T) (mul T) (AB.one T) T.length fF (Ap T) t t2∧us=BU t2 T.length 0
theorem Dl.uniq {T:Tw}(hT:Wf T)(hg:AB.Good T){im us us':List (List Nat)}(h:Dl T im us)(h':Dl T im us'):us=us':=by
 obtain⟨t,t2,h1,h2,rfl⟩:=h;obtain⟨t',t2',h1',h2',rfl⟩:=h';exact ABR _ _ (canon (Em hT hg) (fr hT) h1 h1' h2 h2')
theorem Dl.el {T:Tw}{im us:List (List Nat)}(h:Dl T im us):∀u∈us,El T u:=by
 obtain⟨t,t2,h1,h2,rfl⟩:=h;intro u hu;obtain⟨j,_,_,h3⟩:=Vb hu;exact(IZ.row (Cf.XT h2 0) (AU _) h3).1.1.1
theorem Dl.le {T:Tw}{im us:List (List Nat)}(h:Dl T im us):us.length≤T.length:=by
 obtain⟨t,t2,h1,h2,rfl⟩:=h;exact iV _ _ _
theorem Dl.dep {T:Tw}{im us:List (List Nat)}(h:Dl T im us):∀u∈us,EZ.dep u<T.length:=by
 obtain⟨t,t2,h1,h2,rfl⟩:=h;intro u hu;obtain⟨j,_,hj,h3⟩:=Vb hu;have h4:=IZ.row (Cf.XT h2 0) (AU _) h3;rw[TE h4.1.1 (by rw[h4.2.1];omega) (by omega)];omega
theorem Dl.rep {T:Tw}(hT:Wf T)(hg:AB.Good T){im us:List (List Nat)}(h:Dl T im us){x:List Nat}(hx:El T x):EZ.rep T us x=AB.one T↔Gen (mul T) (AB.one T) im x:=by
 obtain⟨t,t2,h1,h2,rfl⟩:=h;obtain⟨s,h3,h4,h5⟩:=fD hT hg h1 T.length 0 (by omega) (Cf.XT h2 0).w x hx;rw[h4];exact AB8 (Em hT hg) h1 hx h3 h5
noncomputable def KG (T:Tw)(t:Nat→Option (List Nat)):Nat→Nat→List Nat→List Nat
 |0,_,x=>x
 |k+1,d,x=>KG T t k (d+1) (match t d with
  |none=>x
  |some u=>if fF d x=0 then x else mul T x (npow (mul T) (AB.one T) (Ap T u) (fF d x)))
theorem AI3 {T:Tw}{t:Nat→Option (List Nat)}{k d:Nat}{x:List Nat}(h:t d=none):KG T t (k+1) d x=KG T t k (d+1) x:=by rw[KG,h]
theorem AI4 {T:Tw}{t:Nat→Option (List Nat)}{k d:Nat}{x:List Nat}(h:fF d x=0):KG T t (k+1) d x=KG T t k (d+1) x:=by
 rw[KG];split
 ·rfl
 ·rw[Bo h]
theorem AI5 {T:Tw}{t:Nat→Option (List Nat)}{k d:Nat}{x u:List Nat}(h:t d=some u)(h0:fF d x≠0):KG T t (k+1) d x=KG T t k (d+1) (mul T x (npow (mul T) (AB.one T) (Ap T u) (fF d x))):=by
 rw[KG,h];simp only[BD h0]
theorem ABn {T:Tw}(hT:Wf T)(hg:AB.Good T){im:List (List Nat)}{t t2:Nat→Option (List Nat)}(hc:bf T im t):
  ∀(k d:Nat),d+k=T.length→IZ T t d t2→∀x,El T x→∃s,Kr T t d s∧KG T t2 k d x=mul T x s∧Zs fF t d T.length (mul T x s)
 |0,d,hd,ht,x,hx=>⟨AB.one T,(hc.sub d (by omega)).me,by rw[(BO hT hg).eR hx];rfl,fun i h1 h2=>by omega⟩
 |k+1,d,hd,ht,x,hx=>by
  have F:=Em hT hg;have G:=F.G;have hS:=hc.sub d (by omega);have ih:=ABn hT hg hc k (d+1) (by omega) (fun j hj=>ht j (by omega));have key:∀z,Kr T t d z→El T (mul T x z)→fF d (mul T x z)=0→KG T t2 (k+1) d x=KG T t2 k (d+1) (mul T x z)→∃s,Kr T t d s∧KG T t2 (k+1) d x=mul T x s∧Zs fF t d T.length (mul T x s):=by
   intro z hz U3 hz0 hz1;obtain⟨s,h1,h2,h3⟩:=ih (mul T x z) U3;have e:mul T (mul T x z) s=mul T x (mul T z s):=G.Am hx hz.1.1 h1.1.1;refine⟨mul T z s,hS.cl hz (Hf.1 h1).1,by rw[hz1,h2,e],fun i hi hn hne=>?_⟩;rw[←e];rcases CP d i with hlt|hge
   ·exact h3 i hlt hn hne
   ·obtain rfl:i=d:=by omega
    have hA1:A (El T) fF (i+1) s:=h1.1;rcases CP (i+1) T.length with hlt|hge'
    ·rw[(fr hT hlt U3 hA1).1 i (by omega)];exact hz0
    ·have hs1:s=AB.one T:=F.ze h1.1.1 fun j hj=>hA1.2 j (by omega);rw[hs1,G.eR U3];exact hz0
  by_cases h0:fF d x=0
  ·exact key (AB.one T) hS.me (by rw[G.eR hx];exact hx) (by rw[G.eR hx];exact h0) (by rw[G.eR hx];exact AI4 h0)
  ·cases hy:t d with
   |none=>
    obtain⟨s,h1,h2,h3⟩:=ih x hx;refine⟨s,(Hf.1 h1).1,by rw[AI3 ((ht d AR).1 hy)];exact h2,fun i hi hn hne=>?_⟩;rcases CP d i with hlt|hge
    ·exact h3 i hlt hn hne
    ·obtain rfl:i=d:=by omega
     exact absurd hy hne
   |some y=>
    obtain⟨r,hr,hr1,_,hr2⟩:=(ht d AR).2 y hy;have hj:d<T.length:=by omega
    have hp:=hS.npow (F.J2 hS hr) (fF d x);have UL:=hS.npow hr (fF d x);have hR:=fr hT hj hx hp.1;have e1:fF d (mul T (npow (mul T) (AB.one T) r (fF d x)) (npow (mul T) (AB.one T) (Ap T r) (fF d x)))=0:=by rw[(F.TA hr.1.1 _).1,F.fe d hj]
    rw[F.fm hj UL.1.1 hp.1.1 UL.1.2 hp.1.2,F.J5 hj hr.1,hr1,Ic,Nat.mod_add_mod]at e1;exact key _ hp (G.cl hx hp.1.1) (by rw[hR.2];exact e1) (AI5 hr2 h0)
def bn (n:Nat)(us:List (List Nat)):List (List Nat):=us.foldl (fun tl u=>tl.set (EZ.dep u) u) (List.replicate n [])
theorem qi {n:Nat}{t2:Nat→Option (List Nat)}(hd:∀j u,t2 j=some u→EZ.dep u=j∧u≠[]∧j<n):∀(k d:Nat) (tl:List (List Nat)),d+k=n→tl.length=n→∀j,(j<d→Al ((BU t2 k d).foldl (fun tl u=>tl.set (EZ.dep u) u) tl) j=Al tl j)∧
   (d≤j→Al ((BU t2 k d).foldl (fun tl u=>tl.set (EZ.dep u) u) tl) j=match t2 j with|none=>Al tl j|some u=>some u)
 |0,d,tl,hk,hl,j=>by
  refine⟨fun _=>rfl,fun hj=>?_⟩;cases h:t2 j with
  |none=>rfl
  |some u=>have:=(hd j u h).2.2;omega
 |k+1,d,tl,hk,hl,j=>by
  cases h:t2 d with
  |none=>
   rw[qI h];have ih:=qi hd k (d+1) tl (by omega) hl j;refine⟨fun hj=>ih.1 (by omega),fun hj=>?_⟩;rcases CP d j with h1|h1
   ·exact ih.2 h1
   ·obtain rfl:j=d:=by omega
    rw[ih.1 (by omega),h]
  |some u=>
   obtain⟨h2,h3,h4⟩:=hd d u h;rw[qJ h,List.foldl_cons,h2];have ih:=qi hd k (d+1) (tl.set d u) (by omega) (by simp[hl]) j;have hset:Al (tl.set d u) j=put (Al tl) d u j:=by rw[fJ (by omega) h3]
   refine⟨fun hj=>?_,fun hj=>?_⟩
   ·rw[ih.1 (by omega),hset];unfold put;rw[BD (by omega)]
   ·rcases CP d j with h1|h1
    ·rw[ih.2 h1,hset];unfold put;rw[BD (by omega)]
    ·obtain rfl:j=d:=by omega
     rw[ih.1 (by omega),hset,h];unfold put;rw[Bo rfl]
theorem Dl.bn {T:Tw}(hn:0<T.length){us:List (List Nat)}{t t2:Nat→Option (List Nat)}(h2:IZ T t 0 t2)(hb:∀j,T.length≤j→t2 j=none)(h:us=BU t2 T.length 0):Al (NQ.bn T.length us)=t2:=by
 funext j;have hd:∀j u,t2 j=some u→EZ.dep u=j∧u≠[]∧j<T.length:=fun j u hu=>by
  have hj:j<T.length:=by
   refine Nat.lt_of_not_le fun h=>?_;rw[hb j h]at hu;cases hu
  obtain⟨h1,h3,_⟩:=h2.row (AU _) hu;refine⟨TE h1.1 (by omega) hj,fun e=>?_,hj⟩;have:=AZ h1.1.1;rw[e]at this;simp at this;omega
 rw[h];unfold NQ.bn;rw[(qi hd T.length 0 (List.replicate T.length []) (by omega) (by simp) j).2 (AU _),VF];cases t2 j<;>rfl
theorem Dl.red {T:Tw}(hT:Wf T)(hg:AB.Good T)(hn:0<T.length){im us:List (List Nat)}(h:Dl T im us){x:List Nat}(hx:El T x):KG T (Al (NQ.bn T.length us)) T.length 0 x=AB.one T↔Gen (mul T) (AB.one T) im x:=by
 obtain⟨t,t2,h1,h2,h3⟩:=h;have hb:∀j,T.length≤j→t2 j=none:=fun j hj=>by
  refine(h2 j).1 ?_;cases ht:t j with
  |none=>rfl
  |some y=>have:=(h1.tb j y ht).1;omega
 rw[Dl.bn hn (Cf.XT h2 0) hb h3];obtain⟨s,h3,h4,h5⟩:=ABn hT hg h1 T.length 0 (by omega) (Cf.XT h2 0) x hx;rw[h4];exact AB8 (Em hT hg) h1 hx h3 h5
end Go.Proofs.YtaadbccidfdniaaGreat.NQ
namespace Go.Proofs.YtaadbccidfdniaaGreat.yx
open Go.RowKit Go.Proofs.YtaadbccidfdniaaGreat AB Gen Cu Gt EZ KS FY FZ Qj NQ PM Ql mW U2
theorem ACU {e2:TypeId}{B:Nat}{w:World}{v:Value}{rows:List (List Nat)}{qs:List Value}(h:w.ownsRow B e2 1 v rows.length qs)(hl:qs.length=rows.length)
  (hr:∀(i:Nat) (r:List Nat) (u:Value),rows[i]?=some r→qs[i]?=some u→AL (fun k=>B≤k) w u (ints r)):AP (fun k=>B≤k) w v (rows.map ints):=by
 rcases h.2 with⟨rfl,h0⟩|⟨g,cap,cur,rfl,hb,hgg,hn,hm,hs,ht⟩
 ·obtain rfl:rows=[]:=D8 h0;exact⟨none,0,rfl,Av _,by simp,fun _=>rfl,fun i x hx=>by simp at hx⟩
 ·refine⟨some ⟨g,0,none⟩,cap,by simp,by simpa using hn,hm,by simp,fun i r hr'=>?_⟩;simp only[Bn,II]at hr';obtain⟨r',hr',rfl⟩:=hr';have hi:=(Ag.1 hr').1;obtain⟨u,hu⟩:∃u,qs[i]?=some u:=⟨_,AO (by omega)⟩;refine⟨g,0,rfl,hb,(Ba.1 hgg).1,u,?_,hr i r' u hr' hu⟩;rw[Cg,Ig h i (by omega)];exact hu
def AE8 (T:Tw)(im:List (List Nat))(w:World)(e:Ending)(w':World):Prop:=∃v us,e= .returned v∧Dl T im us∧AP (fun k=>w.heap.size≤k) w' v (us.map ints)∧Below w.heap.size w w'
def vE (T:Tw)(im:List (List Nat))(w:World)(e:Ending)(w':World):Prop:=∃v us,e= .returned v∧Dl T im us∧AP Any w' v (us.map ints)∧Below w.heap.size w w'
def Gm (T:Tw)(tl:List (List Nat))(k:Nat)(us:List (List Nat)):Prop:=∃t2,IZ T (Al tl) k t2∧us=BU t2 (T.length-k) k
theorem Gm.led {T:Tw}{tl us:List (List Nat)}{k:Nat}(hk:k≤T.length)(h:Gm T tl k us):Led T us:=by
 obtain⟨t2,h1,rfl⟩:=h;intro u hu;obtain⟨j,h2,h3,h4⟩:=Vb hu;obtain⟨h5,h6,_⟩:=h1.row h2 h4;have hd:=TE h5.1 (by omega) (show j<T.length by omega);exact⟨h5.1.1,by omega,by rw[hd];exact h6⟩
theorem Gm.len {T:Tw}{tl us:List (List Nat)}{k:Nat}(h:Gm T tl k us):us.length≤T.length:=by
 obtain⟨t2,h1,rfl⟩:=h;have:=iV t2 (T.length-k) k;omega
theorem Gm.start {T:Tw}{im tl:List (List Nat)}(hc:Jo T im tl):Gm T tl T.length []:=⟨_,AI2 hc,by rw[Nf];rfl⟩
theorem Gm.none {T:Tw}{tl us:List (List Nat)}{k:Nat}(hk:k<T.length)(h:Gm T tl (k+1) us)(ht:Al tl k=Option.none):Gm T tl k us:=by
 obtain⟨t2,h1,rfl⟩:=h;obtain⟨t3,h2,h3⟩:=AKH (k:=T.length-(k+1)) h1 ht;exact⟨t3,h2,by rw[←h3,show T.length-(k+1)+1=T.length-k by omega]⟩
theorem Gm.some {T:Tw}(hT:Wf T)(hg:AB.Good T){im tl us:List (List Nat)}{k:Nat}{y:List Nat}(hc:Jo T im tl)(hk:k<T.length)(h:Gm T tl (k+1) us)(ht:Al tl k=Option.some y):Gm T tl k (rep T us y::us):=by
 obtain⟨t2,h1,rfl⟩:=h;obtain⟨t3,h2,h3⟩:=AKI hT hg hc (k:=T.length-(k+1)) (by omega) h1 ht;exact⟨t3,h2,by rw[←h3,show T.length-(k+1)+1=T.length-k by omega]⟩
theorem Gm.done {T:Tw}{im tl us:List (List Nat)}(hc:Jo T im tl)(h:Gm T tl 0 us):Dl T im us:=by
 obtain⟨t2,h1,rfl⟩:=h;exact⟨_,t2,hc,h1.cf,by rw[Nat.sub_zero]⟩
theorem ABo (T:Tw)(hT:Wf T)(hs:Small T)(hg:AB.Good T)(im tl:List (List Nat))(S:Nat→Prop)(w:World)(b o sb gb:Nat)(hP:BN Any w b o (AQ T))(hQ:EK w b o sb gb S T.length tl)(hc:Jo T im tl):
  Calls Tryz.prog 38 #[.pointer (some ⟨sb,0,none⟩)] w (AE8 T im w):=by
 obtain⟨i0,hi,hz0,hz1,hz2⟩:=Bt Ie;have HP:=hid hP;have HQ:=hid hQ;have HC:=hid hc;have yh:=hid hc.tb;have hs6:=hs.1;have uS:=hid (fun W vu vx us x h1 h2 h3 h4 h5 h6 h7=>AKG T hT hs hg W b o vu vx us x h1 h2 h3 h4 h5 h6 h7);have mZ:=hid (fun us k y hk h ht=>Gm.some hT hg hc (us:=us) (k:=k) (y:=y) hk h ht);have H6:=hid (fun us k hk h ht=>Gm.none (T:=T) (tl:=tl) (us:=us) (k:=k) hk h ht);have hne:=fun(w:World) (a:Option Addr) (n c:Nat)=>run_neq_slice_nil (P:=Tryz.prog) w 24 2 a n c Tryz.underlying24;have s0:=hQ.c0;have s1:=hQ.c1;have hsb:=hQ.hs;have hw1:IntKind.i64.wrap ((T.length:Int)-1)=(T.length:Int)-1:=AY _ (by omega);have HST:=hid (Gm.start hc);have Zj:=hid (fun us (hu:∀u∈us,El T u) x hx=>rH hT hg us (x:=x) hu hx);clear hP hQ hc hT hs hg;go_enter Tryz.func38,Tryz.ntmps38;go_wp2_with fail;go_loopw [3,4] (fun ov dv wr=>∃(k:Nat) (d:Int) (us:List (List Nat)),k≤T.length∧d=(k:Int)-1∧dv= .int .i64 d∧Hid (Gm T tl k us)∧Hid (AP (fun k=>w.heap.size≤k) wr ov (us.map ints))∧Hid (Below w.heap.size w wr)) (fun _ dv _=>(intOf dv+1).toNat);case atStart=>exact⟨T.length,_,[],Av _,rfl,by first|rfl|simp[hw1],HST,hid ⟨none,0,rfl,Av _,by simp,fun _=>rfl,fun i x hx=>by simp at hx⟩,hid AX⟩
 case round=>
  obtain⟨k,d,us,hk,hd,rfl,hU,hO,hB⟩:=hrel;clear s0 s1 hsb;have MJ:=hid (HQ.out.below hB.out);cases k with
  |zero=>
   obtain rfl:d= -1:=by omega
   have hq0:decide ((-1:Int)≥0)=false:=by decide
   have HR:=hid (show∀ov,AP (fun k=>w.heap.size≤k) wr ov (us.map ints)→AE8 T im w (.returned ov) wr from fun ov h=>⟨ov,us,rfl,Gm.done HC.out hU.out,h,hB.out⟩);have HRR:=hid (HR.out _ hO.out);clear hd HR hO hB;go_wp2_with fail;go_ret;exact HRR.out
  |succ k=>
   obtain rfl:d=(k:Int):=by omega
   have hq0:decide ((k:Int)≥0)=true:=by simp
   have hk0:(0:Int)≤(k:Int):=by omega
   have hki:(k:Int)<(T.length:Int):=by omega
   have hwk:IntKind.i64.wrap ((k:Int)-1)=(k:Int)-1:=AY _ (by omega);obtain⟨r,hr⟩:∃r,tl[k]?=some r:=⟨_,AO (by rw[MJ.out.ln];omega)⟩;obtain⟨u,Ep,_,Co⟩:=MJ.out.tb.at hr;have s0:=MJ.out.c0;have s1:=MJ.out.c1;have hsb:=MJ.out.hs;have hgb:=MJ.out.tb.lt;rcases Co with⟨rfl,rfl⟩|⟨hr0,Co⟩
   ·have HN:=hid (H6.out us k (by omega) hU.out (Pe hr));clear hr hd;go_wp2_with fail;go_roundw;case rel=>exact⟨k,_,us,by omega,rfl,by first|rfl|simp[hwk],HN,hO,hB⟩
    case measure=>simp[intOf,hwk]<;>omega
   ·have Qe:=hid (Jy hr hr0);have IU:=hid (yh.out k r Qe.out).2.1.1;have hrl:r.length=T.length:=AZ IU.out;obtain⟨aR,cR,rfl,_⟩:=AL.open Co;rw[hrl]at Ep Co;obtain⟨bR,oR,rfl⟩:∃bR oR,aR=some ⟨bR,oR,none⟩:=by
     obtain⟨bR,oR,h,_⟩:=AL.at Co (j:=0) (q:=r[0]'(by omega)) (AO _);exact⟨bR,oR,h⟩
    have Iw:=hid (Gm.led hk hU.out);have KH:=hid (Gm.len hU.out);have HN:=hid (mZ.out us k r (by omega) hU.out Qe.out);have Bc:=hid (HP.out.keep (AA.of_below hB.out));have OJ:=hid (Co.mono (S':=Any) (fun _ _=>trivial));have yj:=hid (show NN (.slice (some ⟨bR,oR,none⟩) T.length cR) from fun n c e=>by simp at e);obtain⟨y,hy⟩:∃y,rep T us r=y:=⟨_,rfl⟩;rw[hy]at HN;have HY:=hid hy;clear hr hr0 Co hrl hd hy;go_wp2_with fail;go_region_held3 (fun w'=>(∀b o,b<wr.heap.size→w'.cell? ⟨b,o,none⟩=wr.cell? ⟨b,o,none⟩)∧AA (fun _=>True) wr w')
     (first|exact Au (by repeat(first|exact AJ.drew|exact AA.refl _ _|refine AA.trans ?_ (AA.of_below (by assumption)))))
     (first|(go_at_call 76;refine(uS.out _ _ (.slice (some ⟨bR,oR,none⟩) T.length cR) us r (Bc.out.keep (by repeat(first|exact AJ.drew|exact AA.refl _ _))) (AP.mono (AP.keep (S:=fun k=>w.heap.size≤k) hO.out (by repeat(first|exact AJ.drew|exact AA.refl _ _))) (fun _ _=>trivial)) (Ad KH.out hs6) (OJ.out.keep (by repeat(first|exact AJ.drew|exact AA.refl _ _))) yj.out IU.out Iw.out).mono ?_;rintro e w5 ⟨g5,c5,rfl,Aw,hb5⟩))
    rename_i hHd;clear hHd;rw[HY.out]at Aw;have UB:Below wr.heap.size wr w5:=(AX.drew).trans hb5;have Aa:=hid (hB.out.trans (UB.mono hB.out.size));have QX:=hid (Aw.sl.mono (S':=fun k=>w.heap.size≤k) (fun k hk=>Ad hB.out.size hk));have Ch:=hid (AP.keep hO.out (AA.of_below UB));have NA:=hid (Aa.out.alloc Aa.out.size (.cells #[.slice (some ⟨g5,0,none⟩) T.length c5] 24));have jo:=hid (Nq (base:=w.heap.size) (e:=24) (size:=1) w5 #[.slice (some ⟨g5,0,none⟩) T.length c5] 1 Aa.out.size (by unfold maxLen;omega) rfl);clear Aw hb5 UB Ep s0 s1 hsb hgb;obtain⟨ao,cO,hov,_,_⟩:=Aq.form Ch.out;rw[Bh]at hov;subst hov;cases ao with
    |none=>
     obtain⟨ES,rfl⟩:us=[]∧cO=0:=by
      obtain⟨ao',c',e1,e2,_,e3,_⟩:=Ch.out;simp only[EY]at e1;obtain⟨rfl,e4,rfl⟩:=e1;have h0:=e3 rfl;exact⟨D8 (by rw[Bh]at e2;omega),h0⟩
     subst ES;have HF:=hid (show AP (fun k=>w.heap.size≤k) (w5.alloc (.cells #[.slice (some ⟨g5,0,none⟩) T.length c5] 24)) (.slice (some ⟨w5.heap.size,0,none⟩) 1 1) ([y].map ints) from ACU (qs:=[.slice (some ⟨g5,0,none⟩) T.length c5]) jo.out rfl (fun i r u h1 h2=>by
      match i,h1,h2 with
      |0,h1,h2=>simp at h1 h2;subst h1;subst h2;exact QX.out.keep (AJ.alloc _)))
     clear hO;go_wp2_with (at_builtin;(refine wpList_append_own_none rfl _ _ 25 rfl w.heap.size 24 i0 1 Tryz.underlying25 hi _ 1 _ rfl jo.out rfl ?_));go_wp2_with fail;go_roundw;case rel=>exact⟨k,_,[y],by omega,rfl,by first|rfl|simp[hwk],HN,HF,NA⟩
     case measure=>simp[intOf,hwk]<;>omega
    |some ad=>
     obtain⟨qs,h1,h2,h3,h4⟩:=ACR Ch.out;have hlt:∀j u,qs[j]?=some u→(w5.alloc (.cells #[.slice (some ⟨g5,0,none⟩) T.length c5] 24)).cell? (ad.add j)=some u:=fun j u hu=>by
      have h:=h3 j u hu;have hb:(ad.add j).block<w5.heap.size:=by
       rcases CP (ad.add j).block w5.heap.size with h'|h'
       ·exact h'
       ·simp[World.cell?,Array.getElem?_eq_none h']at h
      rw[World.cell?_of_block (w:=w5) (E5 w5 _ _ hb)];exact h
     have C1:=hid hlt;have C2:=hid h4;have AQB:us.length≤6:=Ad KH.out hs6;have C3:=hid (show 1+us.length≤maxLen by unfold maxLen;omega);have C4:=hid (show(1+us.length)*24≤140737488355328 by omega);have C5:=hid (show qs.length=us.length*1 by omega);have C6:=hid (And.intro h1 h2);clear h1 h2 h3 h4 hlt hO;go_wp2_with (at_builtin;refine Fz _ rfl _ _ 25 rfl w.heap.size 24 i0 (.slice none 0 0) 1 24 Tryz.underlying25 hi hz0 hz1 hz2 rfl (by decide) _ _ _ rfl jo.out ad us.length cO qs rfl C5.out C1.out C2.out C3.out C4.out (by have:=Aa.out.size;simp;omega) ?_);intro v' w6 hown' hgrow hnil;have HF:=hid (show AP (fun k=>w.heap.size≤k) w6 v' ((y::us).map ints) from ACU (qs:=.slice (some ⟨g5,0,none⟩) T.length c5::qs) (B:=w.heap.size) (e2:=24) (by rw[Hl,Ki];simpa using hown') (by simp[C6.out.1]) (fun i r u h1 h2=>by
      have key:∀v l,AL (fun k=>w.heap.size≤k) w5 v l→AL (fun k=>w.heap.size≤k) w6 v l:=fun v l h=>
       (((Na h).keep ((AA.refl _ w5).alloc (.cells #[.slice (some ⟨g5,0,none⟩) T.length c5] 24))).keep (AA.grown hgrow (fun k hk e=>by simp[Value.ownBlock]at e;omega))).mono (fun k hk=>hk.1)
      cases i with
      |zero=>simp at h1 h2;subst h1;subst h2;exact key _ _ QX.out
      |succ i=>exact key _ _ (C6.out.2 i r u (by simpa using h1) (by simpa using h2))))
     have Ar:=hid (show Below w.heap.size w w6 from NA.out.grown hgrow NA.out.size (fun g hg=>(Af jo.out g hg).1));clear hown' hgrow hnil;go_wp2_with fail;go_roundw;case rel=>exact⟨k,_,y::us,by omega,rfl,by first|rfl|simp[hwk],HN,HF,Ar⟩
     case measure=>simp[intOf,hwk]<;>omega
theorem AKJ (T:Tw)(hT:Wf T)(hs:Small T)(hg:AB.Good T)(im tl:List (List Nat))(S:Nat→Prop)(w:World)(b o sb gb:Nat)(hP:BN Any w b o (AQ T))(hQ:EK w b o sb gb S T.length tl)(hc:Jo T im tl):
  Calls Tryz.prog 38 #[.pointer (some ⟨sb,0,none⟩)] w (vE T im w):=by
 refine(ABo T hT hs hg im tl S w b o sb gb hP hQ hc).mono ?_;rintro e w' ⟨v,us,h1,h2,h3,h4⟩;exact⟨v,us,h1,h2,AP.mono h3 (fun _ _=>trivial),h4⟩
theorem AKK (T:Tw)(hT:Wf T)(hs:Small T)(hg:AB.Good T)(hp:Hg.Pr T)(w:World)(b o:Nat)(vl:Value)(im:List (List Nat))(hP:BN Any w b o (AQ T))(hl:AP Any w vl (im.map ints))(him:∀x∈im,El T x)(h6:im.length≤6):
  Calls Tryz.prog 56 #[.pointer (some ⟨b,o,none⟩),vl] w (vE T im w):=by
 have N7:=hid (AAh T hs.1 w b o hP);have HAD:=hid (fun W sb gb h1 h2 h3=>AKE T hT hs hg hp W b o sb gb vl im h1 h2 h3 him h6);have Jt:=hid (fun tl S W sb gb h1 h2 h3=>AKJ T hT hs hg im tl S W b o sb gb h1 h2 h3);have HP:=hid hP;have HL:=hid hl;clear hP hl him h6 hT hs hg hp;go_enter Tryz.func56,Tryz.ntmps56;go_wp2_with fail;refine N7.out.mono ?_;rintro e w1 ⟨sb,gb,rfl,hgb,hsb,hq,hb1⟩;have HAC:=hid (HAD.out w1 sb gb (((Ph HP.out).keep (AA.of_below hb1)).mono (fun k hk=>by omega)) hq ((AP.keep (rJ HL.out) (AA.of_below hb1)).mono (fun k hk=>by omega)));have HB1:=hid hb1;clear hq hb1 N7 HAD;go_wp2_with fail;refine HAC.out.mono ?_;rintro e w2 ⟨bl,tl,rfl,hc,hq,hgr⟩;have HB2:=hid (show Below w.heap.size w w2 from HB1.out.grown hgr HB1.out.size (by intro k hk;cases hk;exact hgb));have DC:=hid (Jt.out tl _ w2 sb gb (HP.out.keep (AA.of_below HB2.out)) hq hc);clear hc hq hgr HAC HB1;go_wp2_with fail;refine DC.out.mono ?_;rintro e w3 ⟨v,us,rfl,h1,h2,h3⟩;have HR:=hid (show vE T im w (.returned v) w3 from⟨v,us,rfl,h1,h2,HB2.out.trans (h3.mono HB2.out.size)⟩);clear h1 h2 h3 DC;go_wp2_with fail;go_ret;exact HR.out
end Go.Proofs.YtaadbccidfdniaaGreat.yx
