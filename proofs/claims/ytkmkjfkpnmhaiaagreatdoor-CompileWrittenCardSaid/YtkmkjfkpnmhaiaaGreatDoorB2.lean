/- B2: Uu Uv Uw Ux Uy Uy2 Uy3 Uy4 Uy5 Ul Um Uo Up Uq (merged by merge2.py from the working texts). -/
import Derived.Test.YtkmkjfkpnmhaiaaGreatDoorB1
import Derived.Laws.StructEq
import Derived.Laws.BytesString
import Derived.StillTail
set_option linter.unusedSimpArgs false
set_option linter.unnecessarySimpa false
set_option linter.unusedVariables false
set_option linter.unusedSectionVars false
namespace Uw
open Go Go.RowKit
variable [Glob]
section
variable {P : Program} {Q : aG -> St -> Prop} {q : V -> St -> Tree} {c : Cx} {w0 : World} {n : Nat} {gs : Fr} {st : St} {a : Act} {K : Act -> World -> Prop} {Qx : Exit -> Act -> World -> Prop} {o : Oper} {xx : aG -> St -> Tree}
theorem E4 {c' : Cx} {id k cap gb:Nat} {xs:List (List Dat)} {us:List Value} {vs:Array Value} {e:TypeId} {w0' : World} {next:Nat} (hlook:look c'.heap id=some (.arr k xs)) (hpl:c'.pl id=⟨gb,cap⟩) (hblk:c'.w.heap[gb]? = some (.cells vs e (0,0))) (hB:¬c'.Old gb)
  (hinj:∀id' b',look c'.heap id' = some b'->Ph (c'.pl id') b'->(c'.pl id').gb=gb->id' = id)
  (h1:∀x∈xs,x.length=k) (h2:bp c'.w (Imm c') xs.flatten us) (h3:∀v∈us,one v=true) (h6:vs.toList.take (xs.length * k)=us):cS c'.w (Imm c') gb k 0 xs:=by
 have hul:us.length=xs.length * k:=by rw [h2.length,il h1]
 refine cS.of_flat h1 h2 ?_;intro j v hv;have hj:j<us.length:=by
  by_cases hh:j<us.length
  ·exact hh
  ·rw [aaJ (by omega)] at hv;cases hv
 refine ⟨?_,?_,h3 v (aaR hv)⟩
 ·rw [ct hblk]
  rw [<- h6,aaH,if_pos (by omega)] at hv;simpa using hv
 ·refine .inr ⟨hB,?_,?_⟩
  ·by_cases hlt:gb<c'.w.heap.size
   ·exact hlt
   ·rw [abU (by omega)] at hblk;cases hblk
  ·intro id' blk hl hph hg
   have:=hinj id' blk hl hph hg;subst this;rw [hlook] at hl;injection hl with hl;subst hl
   exact ⟨k,xs,rfl,by omega⟩
theorem RX (r:Rel c w0 n gs st a) (hK:bL P Q q c w0 n gs st a o.dst K) {cl:Call} {x1 x2:Operand} {t e:TypeId} {k bytes id ver len:Nat} {xs ys:List (List Dat)} (ho:o.op = .call cl) (hb:cl.callee = .builtin .append) (hx:cl.args.toList=[x1,x2]) (ht:cl.argTypes.toList=[t,t])
  (he:sy P t e k bytes) (hl' : look st.heap id=some (.arr k xs)) (hv1:aB c (.ref id ver 0 len) (a.eval x1)) (e2:Hm c k (a.eval x2) ys) (hlen:len=xs.length) (hby:(len+ys.length) * bytes<=70368744177664)
  (h:WT P Q (q (.ref id 0 0 (len+ys.length)) { st with heap:=(id,.arr k (xs++ys))::st.heap })):o.wp P a c.w K Qx:=by
 have hl:look c.heap id=some (.arr k xs):=by rw [r.heap];exact hl'
 subst hlen;simp only [aB,hl] at hv1;obtain ⟨_,hv1⟩:=hv1;obtain ⟨b3,bb⟩:=r.hrel.blk id _ hl;by_cases hcap0:(c.pl id).cap=0
 ·-- there is no room,and nothing
  have hxs:xs=[]:=aaM (by omega);subst hxs;have nph:¬Ph (c.pl id) (.arr k []):=by simp [Ph,hcap0]
  obtain ⟨xa,hxa,Hn⟩:∃xa:Option Addr,a.eval x1 = .slice xa 0 0/\(xa=none\/∃b o,xa=some ⟨b,o,none⟩):=by
   rcases hv1 with ⟨v2,_⟩|⟨b,o1,cap,v2,_,_,v3⟩
   ·exact ⟨none,v2,.inl rfl⟩
   ·obtain ⟨v3,_⟩:=v3 (by simp)
    exact ⟨some ⟨b,o1,none⟩,by rw [v2,v3,hcap0];rfl,.inr ⟨b,o1,rfl⟩⟩
  have Hq:ys=[]->(∃xb xc,a.eval x2 = .slice xb 0 xc)->o.wp P a c.w K Qx:=by
   rintro rfl ⟨xb,xc,hx2⟩;simp only [aa6,aa3,abT] at h;have hrel:Rel (c.aN id (.arr k []) (c.pl id) c.w) w0 n gs { st with heap:=(id,.arr k [])::st.heap } a:=by
    refine r.aN hl (fun _ _ _=>rfl) (aax _) (Below.refl _ _) (.inl ⟨rfl,fun h=>h⟩) (fun hh=>(nph hh).elim) ⟨rfl,⟨[],rfl⟩,fun _=>rfl⟩ (fun hev=>?_);exact ⟨by simp,fun hh=>by rw [ae.2] at hh;omega⟩
   refine cF (w':=c.w) (bK ho hb hx ht ?_) (hK (c.aN id (.arr k []) (c.pl id) c.w) _ (.ref id 0 0 0) (.slice xa 0 0) rfl rfl hrel rfl ?_ h)
   ·rw [hxa,hx2]
    obtain ⟨i,z,zs,hi,_⟩:=he.info;exact fx he.und hi (by omega)
   ·simp only [aB,ae.1]
    refine ⟨by simp,?_⟩;rw [ae.2]
    rcases Hn with rfl|⟨b,o1,rfl⟩
    ·exact .inl ⟨rfl,rfl,fun _=>hcap0⟩
    ·exact .inr ⟨b,o1,0,rfl,by simp,by simp [cS],fun _=>⟨by rw [hcap0],fun hh=>by omega⟩⟩
  rcases e2 with ⟨⟨_,e2⟩,rfl⟩|⟨bb',o',cp,us,e2,e3,e4,e5,e6,e7,e8⟩
  ·exact Hq rfl ⟨_,0,e2⟩
  ·by_cases hy0:ys=[]
   ·exact Hq hy0 ⟨_,cp,by rw [e2,hy0];rfl⟩
   ·have hpos' : 0<ys.length:=by cases ys<;>simp_all
    simp only [acd,aa3,aaF] at h hby
    have hrun:∃w' cap' vs',(Builtin.append_ #[t,t] o.type #[a.eval x1,a.eval x2]).run P c.w = .ok (.slice (some ⟨c.w.heap.size,0,none⟩) ys.length cap') w'/\ys.length<=cap'/\w' = c.w.drew.alloc (.cells vs' e)/\vs'.size=cap' * k/\vs'.toList.take (ys.length * k)=us:=by
     rcases Hn with rfl|⟨b,o1,rfl⟩
     ·obtain ⟨i,z,zs,hi,hsz,Jo,hzero,hzs,hzk⟩:=he.info
      have hlen:ys.length<=70368744177664:=aa7 (abI _ he.pos) hby
      have hge:=grownCap_ge c.w ys.length 0 e;rw [hxa,e2];refine ⟨_,_,_,run_append_nil c.w t o.type e i z he.und hi hzero ⟨bb',o',none⟩ ys.length cp us (by rw [hsz];exact e6) (fun j v hv=>by rw [addr_add];exact e7 j v hv) hpos' (by omega) (by rw [Jo];omega),hge,rfl,?_,?_⟩
      ·have hz' : (Builtin.zeroCells z.cells (grownCap c.w ys.length 0 e - ys.length)).size=(grownCap c.w ys.length 0 e - ys.length) * k:=by simp [Builtin.zeroCells,hzk]
       rw [ab4,hz',abY,e6,<- abb]
       congr 1;omega
      ·rw [aco,<- e6];simp
     ·rw [hxa,e2]
      exact vX he e6 e7 hpos' hby
    obtain ⟨w',cap',vs',hw',hroom,rfl,hs',htake⟩:=hrun;have hbel:Below c.B c.w (c.w.drew.alloc (.cells vs' e)):=(Below.refl c.B c.w).drew.alloc r.hrel.zT _;have hblk:(c.w.drew.alloc (.cells vs' e)).heap[c.w.heap.size]? = some (.cells vs' e (0,0)):=by
     show (c.w.heap.push (.cells vs' e))[c.w.heap.size]? = _;simp
    have hsz2:c.w.heap.size<=(c.w.drew.alloc (.cells vs' e)).heap.size:=by rw [show (c.w.drew.alloc (Obj.cells vs' e)).heap=c.w.heap.push (.cells vs' e) from rfl];simp
    have hbe:dm (c.pl id) ⟨c.w.heap.size,cap'⟩ (.arr k []) (.arr k ys):=⟨rfl,⟨ys,rfl⟩,fun hh=>(hy0 hh).elim⟩
    have hev:=Evo.aN (p':=⟨c.w.heap.size,cap'⟩) (b':=.arr k ys) (w':=c.w.drew.alloc (.cells vs' e)) r.hrel hl (fun k' hk' _=>Below.heap_alloc c.w.drew _ _ hk') hsz2 (.inr (aax _)) (fun hh=>(nph hh).elim) hbe;have X0:∀id' x,look (c.aN id (.arr k ys) ⟨c.w.heap.size,cap'⟩ (c.w.drew.alloc (.cells vs' e))).heap id' = some x->Ph ((c.aN id (.arr k ys) ⟨c.w.heap.size,cap'⟩ (c.w.drew.alloc (.cells vs' e))).pl id') x->((c.aN id (.arr k ys) ⟨c.w.heap.size,cap'⟩ (c.w.drew.alloc (.cells vs' e))).pl id').gb=c.w.heap.size->id' = id:=by
     intro id' x hx hph hg;by_cases hid:id=id'
     ·exact hid.symm
     ·exfalso
      rw [(bF hid).1] at hx;rw [(bF hid).2] at hg hph;have:=r.hrel.jX hx hph;omega
    have hE:cS (c.aN id (.arr k ys) ⟨c.w.heap.size,cap'⟩ (c.w.drew.alloc (.cells vs' e))).w (Imm (c.aN id (.arr k ys) ⟨c.w.heap.size,cap'⟩ (c.w.drew.alloc (.cells vs' e)))) c.w.heap.size k 0 ys:=
     E4 (w0':=w0) (next:=0) ae.1 ae.2 hblk (r.hrel.su (aax _)) X0 e4 (bp.keep hev.keeps _ _ e5) e8 htake
    have hrel:Rel (c.aN id (.arr k ys) ⟨c.w.heap.size,cap'⟩ (c.w.drew.alloc (.cells vs' e))) w0 n gs { st with heap:=(id,.arr k ys)::st.heap } a:=by
     refine r.aN hl (fun k' hk' _=>Below.heap_alloc c.w.drew _ _ hk') hsz2 hbel (.inr (aax _)) (fun hh=>(nph hh).elim) hbe (fun _=>?_);exact ⟨by rw [ae.2];exact hroom,fun _=>⟨vs',e,by rw [ae.2];exact hblk,by rw [ae.2];exact hs',by rw [ae.2];exact hE⟩⟩
    refine cF (bK ho hb hx ht hw') (hK (c.aN id (.arr k ys) ⟨c.w.heap.size,cap'⟩ (c.w.drew.alloc (.cells vs' e))) _ (.ref id 0 0 ys.length) _ rfl rfl hrel rfl ?_ h);simp only [aB,ae.1];refine ⟨by omega,.inr ⟨c.w.heap.size,0,cap',rfl,hroom,?_,fun _=>?_⟩⟩
    ·rw [aa9,aaG (by omega)];exact hE
    ·rw [ae.2];simp
 have hcap:0<(c.pl id).cap:=by omega
 obtain ⟨vs,e',b1,b2,b4⟩:=bb hcap;have hge:=r.hrel.ge id _ hl hcap;have hgb:=r.hrel.geB hl hcap;obtain ⟨b,o1,v2,v4,v5,v3⟩:∃b o1,a.eval x1 = .slice (some ⟨b,o1,none⟩) xs.length (c.pl id).cap/\xs.length<=(c.pl id).cap/\cS c.w (Imm c) b k o1 ((xs.drop 0).take xs.length)/\(0<(c.pl id).cap->b=(c.pl id).gb/\o1=0):=by
  rcases hv1 with ⟨_,v2,v3⟩|⟨b,o1,cap,v2,v4,v5,v3⟩
  ·have:=v3 (by omega);omega
  ·obtain ⟨v6,v3'⟩:=v3 (by omega)
   simp only [acS,adu] at v6 v3';subst v6;exact ⟨b,o1,v2,v4,v5,v3'⟩
 obtain ⟨hk1,olds,p2,p3,p4,p5⟩:=cS.flat b4;have hsz:xs.length * k<=vs.size:=by rw [b2];exact abe _ b3
 have hold:vs.toList.take (xs.length * k)=olds:=by
  apply ab3;intro j;rw [aaH];by_cases hj:j<xs.length * k
  ·rw [if_pos hj]
   have hj' : j<olds.length:=by omega
   have:=p4 j olds[j] (aaU hj');rw [ct b1] at this;rw [aaU hj'];simpa using this
  ·rw [if_neg hj,aaJ (by omega)]
 have Vn:∀o',Imm c (c.pl id).gb o'->o' < xs.length * k:=by
  intro o' hi
  rcases hi with hi|⟨_,_,g3⟩
  ·exact (hge hi.1).elim
  ·obtain ⟨k',xs',hh,h4⟩:=g3 id _ hl hcap rfl
   injection hh with h5 h6
   subst h5 h6;exact h4
 have hinj:∀(b' : Blk) (p' : Pl) (w' : World),(p'.gb=(c.pl id).gb\/c.w.heap.size<=p'.gb)->∀id' x,look (c.aN id b' p' w').heap id' = some x->Ph ((c.aN id b' p' w').pl id') x->((c.aN id b' p' w').pl id').gb=p'.gb->id' = id:=by
  intro b' p' w' hp id' x hx hph hg;by_cases hid:id=id'
  ·exact hid.symm
  ·exfalso
   rw [(bF hid).1] at hx;rw [(bF hid).2] at hg hph;have:=r.hrel.jX hx hph
   rcases hp with hp|hp
   ·exact hid (r.hrel.inj id' id x _ hx hl hph hcap (by rw [hg,hp])).symm
   ·omega
 have zero:ys=[]->(∃xb xc,a.eval x2 = .slice xb 0 xc)->o.wp P a c.w K Qx:=by
  rintro rfl ⟨xb,xc,hx2⟩;simp only [aa6,aa3,abT] at h;have zc:∀o',Imm c (c.pl id).gb o'->c.w.cell? ⟨(c.pl id).gb,o',none⟩=c.w.cell? ⟨(c.pl id).gb,o',none⟩/\((c.pl id).gb=(c.pl id).gb->∃k' xs',Blk.arr k xs = .arr k' xs'/\o' < xs'.length * k'):=
   fun o' hi=>⟨rfl,fun _=>⟨k,xs,rfl,Vn o' hi⟩⟩
  have hbe:dm (c.pl id) (c.pl id) (.arr k xs) (.arr k xs):=⟨rfl,⟨[],by simp⟩,fun _=>rfl⟩
  have hev:=Evo.aN (p':=c.pl id) (b':=.arr k xs) r.hrel hl (fun _ _ _=>rfl) (aax _) (.inl ⟨rfl,fun _=>hcap⟩) (fun _=>zc) hbe;have hrel:Rel (c.aN id (.arr k xs) (c.pl id) c.w) w0 n gs { st with heap:=(id,.arr k xs)::st.heap } a:=by
   refine r.aN hl (fun _ _ _=>rfl) (aax _) (Below.refl _ _) (.inl ⟨rfl,fun _=>hcap⟩) (fun _=>zc) hbe (fun hev=>?_);refine ⟨by rw [ae.2];exact b3,fun _=>⟨vs,e',by rw [ae.2];exact b1,by rw [ae.2];exact b2,by rw [ae.2];exact cS.keep hev.keeps _ _ _ _ b4⟩⟩
  refine cF (w':=c.w) (bK ho hb hx ht ?_) (hK (c.aN id (.arr k xs) (c.pl id) c.w) _ (.ref id 0 0 xs.length) (a.eval x1) rfl rfl hrel rfl ?_ h)
  ·rw [v2,hx2]
   obtain ⟨i,z,zs,hi,_⟩:=he.info;exact fx he.und hi (by omega)
  ·simp only [aB,ae.1]
   refine ⟨by omega,.inr ⟨b,o1,(c.pl id).cap,v2,v4,cS.keep hev.keeps _ _ _ _ v5,fun _=>?_⟩⟩;rw [ae.2];exact ⟨rfl,by simpa using v3⟩
 rcases e2 with ⟨⟨_,e2⟩,rfl⟩|⟨bb,o',cp,us,e2,e3,e4,e5,e6,e7,e8⟩
 ·exact zero rfl ⟨_,0,e2⟩
 ·by_cases hy0:ys=[]
  ·exact zero hy0 ⟨_,cp,by rw [e2,hy0];rfl⟩
  ·have hpos' : 0<ys.length:=by cases ys<;>simp_all
   have hk2:∀x∈xs++ys,x.length=k:=fun x hx=>by rcases aaZ.1 hx with hx|hx;exact hk1 x hx;exact e4 x hx
   have hfl:bp c.w (Imm c) (xs++ys).flatten (olds++us):=by rw [ac2];exact p2.append e5
   have zY:∀v∈olds++us,one v=true:=fun v hv=>by rcases aaZ.1 hv with hv|hv;exact p5 v hv;exact e8 v hv
   have xR:(xs++ys).length=xs.length+ys.length:=aaw;have hne:(xs++ys=xs->False):=fun hh=>by have:=congrArg List.length hh;rw [aaw] at this;omega
   -- it moves
   have moved:∀(w' : World) (cap' : Nat) (vs' : Array Value),(Builtin.append_ #[t,t] o.type #[a.eval x1,a.eval x2]).run P c.w = .ok (.slice (some ⟨c.w.heap.size,0,none⟩) (xs.length+ys.length) cap') w'->xs.length+ys.length<=cap'->w' = c.w.drew.alloc (.cells vs' e)->vs'.size=cap' * k->
     vs'.toList.take ((xs.length+ys.length) * k)=olds++us->o.wp P a c.w K Qx:=by
    rintro w' cap' vs' hw' hroom rfl hs' htake;have hbel:Below c.B c.w (c.w.drew.alloc (.cells vs' e)):=(Below.refl c.B c.w).drew.alloc r.hrel.zT _;have hblk:(c.w.drew.alloc (.cells vs' e)).heap[c.w.heap.size]? = some (.cells vs' e (0,0)):=by
     show (c.w.heap.push (.cells vs' e))[c.w.heap.size]? = _;simp
    have hlt:=r.hrel.jX hl hcap;have zc:∀o',Imm c (c.pl id).gb o'->(c.w.drew.alloc (.cells vs' e)).cell? ⟨(c.pl id).gb,o',none⟩=c.w.cell? ⟨(c.pl id).gb,o',none⟩/\(c.w.heap.size=(c.pl id).gb->∃k' xs',Blk.arr k (xs++ys) = .arr k' xs'/\o' < xs'.length * k'):=
     fun o' hi=>⟨cell_of_block (Below.heap_alloc c.w.drew _ _ hlt),fun hh=>by omega⟩
    have hbe:dm (c.pl id) ⟨c.w.heap.size,cap'⟩ (.arr k xs) (.arr k (xs++ys)):=⟨rfl,⟨ys,rfl⟩,fun hh=>(hne hh).elim⟩
    have hsz2:c.w.heap.size<=(c.w.drew.alloc (.cells vs' e)).heap.size:=by rw [show (c.w.drew.alloc (Obj.cells vs' e)).heap=c.w.heap.push (.cells vs' e) from rfl];simp
    have hev:=Evo.aN (p':=⟨c.w.heap.size,cap'⟩) (b':=.arr k (xs++ys)) (w':=c.w.drew.alloc (.cells vs' e)) r.hrel hl (fun k' hk' _=>Below.heap_alloc c.w.drew _ _ hk') hsz2 (.inr (aax _)) (fun _=>zc) hbe;have hE:cS (c.aN id (.arr k (xs++ys)) ⟨c.w.heap.size,cap'⟩ (c.w.drew.alloc (.cells vs' e))).w (Imm (c.aN id (.arr k (xs++ys)) ⟨c.w.heap.size,cap'⟩ (c.w.drew.alloc (.cells vs' e)))) c.w.heap.size k 0 (xs++ys):=
     E4 (w0':=w0) (next:=0) ae.1 ae.2 hblk (r.hrel.su (aax _)) (hinj _ _ _ (.inr (aax _))) hk2 (bp.keep hev.keeps _ _ hfl) zY (by rw [xR];exact htake)
    have hrel:Rel (c.aN id (.arr k (xs++ys)) ⟨c.w.heap.size,cap'⟩ (c.w.drew.alloc (.cells vs' e))) w0 n gs { st with heap:=(id,.arr k (xs++ys))::st.heap } a:=by
     refine r.aN hl (fun k' hk' _=>Below.heap_alloc c.w.drew _ _ hk') hsz2 hbel (.inr (aax _)) (fun _=>zc) hbe (fun _=>?_);exact ⟨by rw [ae.2,xR];exact hroom,fun _=>⟨vs',e,by rw [ae.2];exact hblk,by rw [ae.2];exact hs',by rw [ae.2];exact hE⟩⟩
    refine cF (bK ho hb hx ht hw') (hK (c.aN id (.arr k (xs++ys)) ⟨c.w.heap.size,cap'⟩ (c.w.drew.alloc (.cells vs' e))) _ (.ref id 0 0 (xs.length+ys.length)) _ rfl rfl hrel rfl ?_ h);simp only [aB,ae.1];refine ⟨by omega,.inr ⟨c.w.heap.size,0,cap',rfl,hroom,?_,fun _=>?_⟩⟩
    ·rw [aa9,aaG (by omega)];exact hE
    ·rw [ae.2];simp
   ·obtain ⟨rfl,rfl⟩:=v3 hcap
    rcases yF (ty:=o.type) (cp:=cp) he b1 b2 b3 (by rw [hold];exact p5) e6 e7 e8 hby with ⟨w',hw',hroom,L⟩|⟨w',cap',vs',hw',hroom,hw2,hs',htake⟩
    ·have hlk:xs.length * k+us.length<=vs.size:=by rw [e6,b2,<- abb];exact abe _ hroom
     have RV:(iZ vs (xs.length * k) us).toList.take ((xs++ys).length * k)=olds++us:=by
      rw [<- hold];refine zX ?_ ?_
      ·rw [xR,e6,abb]
      ·rw [xR,b2];exact abe _ hroom
     have zc:∀o',Imm c (c.pl id).gb o'->w'.cell? ⟨(c.pl id).gb,o',none⟩=c.w.cell? ⟨(c.pl id).gb,o',none⟩/\((c.pl id).gb=(c.pl id).gb->∃k' xs',Blk.arr k (xs++ys) = .arr k' xs'/\o' < xs'.length * k'):=by
      intro o' hi;have hlt:=Vn o' hi;refine ⟨?_,fun _=>⟨k,xs++ys,rfl,by rw [xR,abb];omega⟩⟩;rw [ct L.here,ct b1,<- acf,jA,jJ,if_neg (by omega),acf]
     have hbe:dm (c.pl id) (c.pl id) (.arr k xs) (.arr k (xs++ys)):=⟨rfl,⟨ys,rfl⟩,fun _=>rfl⟩
     have hev:=Evo.aN (p':=c.pl id) (b':=.arr k (xs++ys)) (w':=w') r.hrel hl (fun k' _ hk'=>L.other k' (hk' hcap)) (by rw [L.size];exact aax _) (.inl ⟨rfl,fun _=>hcap⟩) (fun _=>zc) hbe;have hE:cS (c.aN id (.arr k (xs++ys)) (c.pl id) w').w (Imm (c.aN id (.arr k (xs++ys)) (c.pl id) w')) (c.pl id).gb k 0 (xs++ys):=
      E4 (w0':=w0) (next:=0) (cap:=(c.pl id).cap) ae.1 ae.2 L.here hge (hinj _ _ _ (.inl rfl)) hk2 (bp.keep hev.keeps _ _ hfl) zY RV
     have hrel:Rel (c.aN id (.arr k (xs++ys)) (c.pl id) w') w0 n gs { st with heap:=(id,.arr k (xs++ys))::st.heap } a:=by
      refine r.aN hl (fun k' _ hk'=>L.other k' (hk' hcap)) (by rw [L.size];exact aax _) (L.below hgb) (.inl ⟨rfl,fun _=>hcap⟩) (fun _=>zc) hbe (fun _=>?_);exact ⟨by rw [ae.2,xR];exact hroom,fun _=>⟨_,e',by rw [ae.2];exact L.here,by rw [ae.2,qO];exact b2,by rw [ae.2];exact hE⟩⟩
     refine cF (w':=w') (bK ho hb hx ht (by rw [v2,e2];exact hw')) (hK (c.aN id (.arr k (xs++ys)) (c.pl id) w') _ (.ref id 0 0 (xs.length+ys.length)) _ rfl rfl hrel rfl ?_ h);simp only [aB,ae.1];refine ⟨by omega,.inr ⟨(c.pl id).gb,0,(c.pl id).cap,rfl,hroom,?_,fun _=>?_⟩⟩
     ·rw [aa9,aaG (by omega)];exact hE
     ·rw [ae.2];simp
    ·exact moved w' cap' vs' (by rw [v2,e2];exact hw') hroom hw2 hs' (by rw [<- hold];exact htake)
end
end Uw
namespace Uw
open Go Go.RowKit
variable [Glob]
section
variable {P : Program} {Q : aG -> St -> Prop} {q : V -> St -> Tree} {c : Cx} {w0 : World} {n : Nat} {gs : Fr} {st : St} {a : Act} {K : Act -> World -> Prop} {Qx : Exit -> Act -> World -> Prop} {o : Oper} {xx : aG -> St -> Tree}
theorem Oo {vb:Option Bool} {T:Tree} (h:WT P Q (KD vb T)):vb≠some false/\WT P Q T:=by
 cases vb with
 | none=>exact ⟨by simp,h⟩
 | some b=>
  simp only [KD,WT] at h
  cases b with
  | true=>exact ⟨by simp,h.1 rfl⟩
  | false=>exact (h.2 rfl).elim
theorem qf {b:Bool} {T:Tree} (h:WT P Q (.test b T .fail)):b=true/\WT P Q T:=by
 simp only [WT] at h
 cases b with
 | true=>exact ⟨rfl,h.1 rfl⟩
 | false=>exact (h.2 rfl).elim
theorem Jp (r:Rel c w0 n gs st a) (hK:bL P Q q c w0 n gs st a o.dst K) {cl:Call} {x1 x2:Operand} {t e:TypeId} {m:Bool} {k bytes:Nat} (ho:o.op = .call cl) (hb:cl.callee = .builtin .append) (hx:cl.args.toList=[x1,x2]) (ht:cl.argTypes.toList=[t,t])
  (he:sy P t e k bytes) {xa:Option Addr} (hxa:a.eval x1 = .slice xa 0 0) {ys:List (List Dat)} (e2:Hm c k (a.eval x2) ys) (hy0:ys≠[]) (hd:ys.length * bytes<=70368744177664)
  (h:WT P Q (q (.ref st.next 0 0 ys.length) (eQ st (cM m k ys)))):o.wp P a c.w K Qx:=by
 obtain ⟨i,z,zs,hi,hsz,hby,hzero,hzs,hzk⟩:=he.info;have qS:=he.und;have hlen:ys.length<=70368744177664:=aa7 (abI _ he.pos) hd
 rcases e2 with ⟨⟨_,e2⟩,rfl⟩|⟨b,o',cp,us,e2,e3,e4,e5,e6,e7,e8⟩
 ·exact absurd rfl hy0
 ·have hpos' : 0<ys.length:=by cases ys<;>simp_all
  have hge:=grownCap_ge c.w ys.length 0 e;obtain ⟨c',pB,pJ,pw,p1,p2⟩:=xQ r m (e:=e) (z:=z) (cap:=grownCap c.w ys.length 0 e) e4 e5 e8 hzk rfl hge;refine cF (bK ho hb hx ht ?_) (hK c' _ _ _ pB pJ p1 rfl p2 h)
  cases xa with
  | none=>
   rw [hxa,e2,pw];exact run_append_nil c.w t o.type e i z qS hi hzero ⟨b,o',none⟩ ys.length cp us (by rw [hsz];exact e6) (fun j v hv=>by rw [addr_add];exact e7 j v hv) hpos' (by omega) (by rw [hby];omega)
  | some p=>
   rw [hxa,e2,pw];have:=run_append_grow c.w t o.type e i z qS hi hzero p 0 0 [] (by simp) (by simp) ⟨b,o',none⟩ ys.length cp us (by rw [hsz];exact e6) (fun j v hv=>by rw [addr_add];exact e7 j v hv)
    (by omega) (by omega) (growslice_fits (by omega) (by rw [hby,aaF];omega))
   simpa using this
theorem L9 (r:Rel c w0 n gs st a) (hK:bL P Q q c w0 n gs st a o.dst K) {cl:Call} {x1 x2:Operand} {t e:TypeId} {m:Bool} {k bytes:Nat} (ho:o.op = .call cl) (hb:cl.callee = .builtin .append) (hx:cl.args.toList=[x1,x2]) (ht:cl.argTypes.toList=[t,t])
  (he:sy P t e k bytes) {xa:Option Addr} (hxa:a.eval x1 = .slice xa 0 0) (Hn : xa=none\/∃b o,xa=some ⟨b,o,none⟩) {ys:List (List Dat)} (e2:Hm c k (a.eval x2) ys) (hd:ys.length * bytes<=70368744177664)
  (h:WT P Q (q (.ref st.next 0 0 ys.length) (eQ st (cM m k ys)))):o.wp P a c.w K Qx:=by
 obtain ⟨i,z,zs,hi,hsz,hby,hzero,hzs,hzk⟩:=he.info;have qS:=he.und;have hlen:ys.length<=70368744177664:=aa7 (abI _ he.pos) hd;have stay:ys=[]->(∃xb xc,a.eval x2 = .slice xb 0 xc)->o.wp P a c.w K Qx:=by
  rintro rfl ⟨xb,xc,hx2⟩;obtain ⟨p1,p2⟩:=Oi r m k Hn;refine cF (w':=c.w) (bK ho hb hx ht ?_) (hK (c.zero st.next (cM m k [])) _ _ _ rfl rfl p1 rfl p2 h);rw [hxa,hx2];exact fx qS hi (by omega)
 rcases e2 with ⟨⟨_,e2⟩,rfl⟩|⟨b,o',cp,us,e2,e3,e4,e5,e6,e7,e8⟩
 ·exact stay rfl ⟨_,0,e2⟩
 ·by_cases hy0:ys=[]
  ·exact stay hy0 ⟨_,cp,by rw [e2,hy0];rfl⟩
  ·have hpos' : 0<ys.length:=by cases ys<;>simp_all
   have hge:=grownCap_ge c.w ys.length 0 e;obtain ⟨c',pB,pJ,pw,p1,p2⟩:=xQ r m (e:=e) (z:=z) (cap:=grownCap c.w ys.length 0 e) e4 e5 e8 hzk rfl hge;refine cF (bK ho hb hx ht ?_) (hK c' _ _ _ pB pJ p1 rfl p2 h)
   rcases Hn with rfl|⟨b1,o1,rfl⟩
   ·rw [hxa,e2,pw]
    exact run_append_nil c.w t o.type e i z qS hi hzero ⟨b,o',none⟩ ys.length cp us (by rw [hsz];exact e6) (fun j v hv=>by rw [addr_add];exact e7 j v hv) hpos' (by omega) (by rw [hby];omega)
   ·rw [hxa,e2,pw]
    have:=run_append_grow c.w t o.type e i z qS hi hzero ⟨b1,o1,none⟩ 0 0 [] (by simp) (by simp) ⟨b,o',none⟩ ys.length cp us (by rw [hsz];exact e6) (fun j v hv=>by rw [addr_add];exact e7 j v hv)
     (by omega) (by omega) (growslice_fits (by omega) (by rw [hby,aaF];omega))
    simpa using this
theorem Oq (r:Rel c w0 n gs st a) (hK:bL P Q q c w0 n gs st a o.dst K) {cl:Call} {x1 x2:Operand} {y1 y2:Opd} {t e:TypeId} {m:Bool} {k bytes:Nat} (ho:o.op = .call cl) (hb:cl.callee = .builtin .append) (hx:cl.args.toList=[x1,x2]) (ht:cl.argTypes.toList=[t,t])
  (he:sy P t e k bytes) (hc1:ao x1=some y1) (hc2:ao x2=some y2) (h:WT P Q (step (.app m k bytes y1 y2) st q xx)):o.wp P a c.w K Qx:=by
 obtain ⟨i,z,zs,hi,hsz,hby,hzero,hzs,hzk⟩:=he.info;have qS:=he.und;have hpos:=he.pos;simp only [step] at h
 split at h
 ·rename_i bv yv hv1 hv2
  split at h
  ·rename_i vb ys hys
   replace h:=Oo h
   obtain ⟨hvb,h⟩:=h;have e2:=src_ok r (aK r hc2 hv2) hys hvb;have e1:=aK r hc1 hv1
   split at h
   ·-- nil
    simp only [aB,aI] at e1
    replace h:=qf h
    obtain ⟨hd,h⟩:=h;exact L9 r hK ho hb hx ht he e1 (.inl rfl) e2 (of_decide_eq_true hd) h
   ·-- a slice whose capacity is its length
    rename_i k' xs
    split at h
    ·rename_i hkk
     have hkk:=aaB hkk;subst hkk;simp only [WT] at h;obtain ⟨h1,h2⟩:=h
     cases hxe:xs.isEmpty with
     | true=>
      have h:=h1 hxe;obtain ⟨hd,h⟩:=qf (P:=P) (Q:=Q) (b:=decide (ys.length * bytes<=70368744177664)) (T:=.test ys.isEmpty (q (.d (.slice k xs true)) st) (q (.ref st.next 0 0 ys.length) (eQ st (cM m k ys)))) (by simpa only [WT] using h);have hxs:xs=[]:=by simpa using hxe
      subst hxs;have hbase:aB c (.d (.slice k [] true)) (a.eval x1):=e1;simp only [aB,aI] at e1;have e3:∃xa,a.eval x1 = .slice xa 0 0:=by
       rcases e1 with ⟨⟨xa,e1,_⟩,_⟩|⟨bb,oo,cap,f1,f2,f3,f4⟩
       ·exact ⟨xa,e1⟩
       ·have f3:=f3 trivial
        subst f3;exact ⟨_,f1⟩
      obtain ⟨xa,e3⟩:=e3;simp only [WT] at h;obtain ⟨g1,g2⟩:=h;by_cases hy0:ys=[]
      ·subst hy0
       have e4:∃xb xc,a.eval x2 = .slice xb 0 xc:=by
        rcases e2 with ⟨⟨_,e2⟩,_⟩|⟨b,o',cp,us,e2,_⟩
        ·exact ⟨_,0,e2⟩
        ·exact ⟨_,cp,e2⟩
       obtain ⟨xb,xc,e4⟩:=e4;refine bf r hK hbase (g1 rfl) (bK ho hb hx ht ?_);rw [e3,e4];exact fx qS hi (aax _)
      ·exact Jp r hK ho hb hx ht he e3 e2 hy0 (of_decide_eq_true hd) (g2 (by cases ys<;>simp_all))
     | false=>
      have h:=h2 hxe;have hxn:xs≠[]:=by intro hh;subst hh;simp at hxe
      have hbase:aB c (.d (.slice k xs true)) (a.eval x1):=e1;simp only [aB,aI] at e1
      rcases e1 with ⟨_,e1⟩|⟨bb,oo,cap,f1,f2,f3,f4⟩
      ·exact (hxn e1).elim
      have f3:=f3 trivial;obtain ⟨q1,olds,q2,q3,q4,q5⟩:=cS.flat f4;obtain ⟨h,hf⟩:=h
      cases hd:decide ((xs.length+ys.length) * bytes<=70368744177664) with
      | false=>exact (hf hd).elim
      | true=>
       obtain ⟨g1,g2⟩:=h hd;simp only [decide_eq_true_eq] at hd;have hlen:xs.length+ys.length<=70368744177664:=aa7 (abI _ hpos) hd
       rcases e2 with ⟨⟨_,e2⟩,rfl⟩|⟨b,o',cp,us,e2,e3,e4,e5,e6,e7,e8⟩
       ·refine bf r hK hbase (g1 rfl) (bK ho hb hx ht ?_)
        rw [f1,e2];exact fx qS hi f2
       ·by_cases hy0:ys=[]
        ·subst hy0
         refine bf r hK hbase (g1 rfl) (bK ho hb hx ht ?_);rw [f1,e2];exact fx qS hi f2
        ·have hne:ys.isEmpty=false:=by cases ys<;>simp_all
         have hpos' : 0<ys.length:=by cases ys<;>simp_all
         have hge:=grownCap_ge c.w (xs.length+ys.length) cap e;obtain ⟨c',pB,pJ,pw,p1,p2⟩:=xQ r m (e:=e) (z:=z) (need:=xs.length+ys.length) (cap:=grownCap c.w (xs.length+ys.length) cap e) (k:=k) (xs:=xs++ys) (us:=olds++us)
          (fun x hx=>by rcases aaZ.1 hx with hx|hx;exact q1 x hx;exact e4 x hx) (by rw [ac2];exact q2.append e5)
          (fun v hv=>by rcases aaZ.1 hv with hv|hv;exact q5 v hv;exact e8 v hv) hzk (by simp) hge
         rw [aaw] at p2;refine cF (bK ho hb hx ht ?_) (hK c' _ _ _ pB pJ p1 rfl p2 (g2 hne));rw [f1,e2,pw];have:=run_append_grow c.w t o.type e i z qS hi hzero ⟨bb,oo,none⟩ xs.length cap olds (by rw [hsz];exact q3) (fun j v hv=>by rw [addr_add];exact q4 j v hv) ⟨b,o',none⟩ ys.length cp us (by rw [hsz];exact e6) (fun j v hv=>by rw [addr_add];exact e7 j v hv)
          (by omega) (by omega) (growslice_fits (by omega) (by rw [hby];omega))
         rw [this];simp
    ·exact h.elim
   ·rename_i id ver len
    split at h
    ·rename_i k' xs hl
     split at h
     ·rename_i hkk
      have hkk:=aaB hkk;subst hkk;obtain ⟨hd,g⟩:=qf h;simp only [aay,decide_eq_true_eq] at hd;exact RX r hK ho hb hx ht he hl e1 e2 hd.1 hd.2 g
     ·exact h.elim
    ·rename_i k' dU xs hl
     split at h
     ·rename_i hkk
      have h1:=aaB hkk;subst h1
      replace h:=qf h
      obtain ⟨hv,h⟩:=h;have h2:=aaB hv;subst h2;obtain ⟨hd,g⟩:=qf h;simp only [decide_eq_true_eq] at hd;exact VZ r hK ho hb hx ht he hl e1 e2 hd g
     ·exact h.elim
    ·exact h.elim
   ·exact h.elim
  ·exact h.elim
 ·exact h.elim
theorem fJ (r:Rel c w0 n gs st a) {x:Option Operand} {y:Option Opd} {d i:Int} (hx:(match x with|none=>some none|some z=>(ao z).map some)=some y) (h:fr st d y=some i) :
  (x=none/\y=none/\i=d)\/∃z k,x=some z/\a.eval z = .int k i:=by
 cases x with
 | none=>
  simp at hx;subst hx;simp [fr] at h;exact .inl ⟨rfl,rfl,h.symm⟩
 | some z=>
  simp only [aaC] at hx;obtain ⟨y',hy',rfl⟩:=hx;simp only [fr] at h
  split at h
  ·rename_i k m hv
   simp at h;subst h;have e:=aK r hy' hv;simp only [aB,aI] at e;exact .inr ⟨z,k,rfl,e⟩
  ·simp at h
theorem zZ (x:Option Operand):lk x=(match x with|none=>some none|some z=>(ao z).map some):=by cases x<;>rfl
theorem jt {isS:Bool} {len cap:Nat} {lo hi:Option Operand} {l h:Int} {w:World} (hlo:(lo=none/\l=0)\/∃z k,lo=some z/\a.eval z = .int k l) (hhi:(hi=none/\h=len)\/∃z k,hi=some z/\a.eval z = .int k h)
  (h0:0<=l) (h1:l<=h) (h2:h<=cap):(Instr.sliceBounds isS len cap (lo.map a.eval) (hi.map a.eval) none).run P w = .ok (l.toNat,h.toNat,cap) w:=by
 have hh0:0<=h:=by omega
 unfold Instr.sliceBounds
 rcases hlo with ⟨rfl,rfl⟩|⟨z,k,rfl,hz⟩
 ·rcases hhi with ⟨rfl,rfl⟩|⟨z',k',rfl,hz'⟩
  ·simp
  ·simp [hz',Instr.sliceBound,asIntOf,hh0,h2]
 ·rcases hhi with ⟨rfl,rfl⟩|⟨z',k',rfl,hz'⟩
  ·simp [hz,Instr.sliceBound,asIntOf,h0,h1]
  ·have:(h.toNat:Int)=h:=by omega
   simp [hz,hz',Instr.sliceBound,asIntOf,h0,h1,hh0,h2,this]
theorem Ot (r:Rel c w0 n gs st a) (hK:bL P Q q c w0 n gs st a o.dst K) {t:TypeId} {x:Operand} {lo hi:Option Operand} {y:Opd} {lo' hi' : Option Opd} (ho:o.op = .slice t x lo hi none) (hu:P.underlying t=some .string)
  (hc:ao x=some y) (hl:lk lo=some lo') (hh:lk hi=some hi') (h:WT P Q (step (.rH y lo' hi') st q xx)):o.wp P a c.w K Qx:=by
 simp only [step] at h
 split at h
 ·rename_i s hv
  have e1:=aK r hc hv;simp only [aB,aI] at e1
  split at h
  ·rename_i l u hl' hu'
   simp only [WT] at h
   cases hd:(decide (0<=l)&&decide (l<=u)&&decide (u<=(s.length:Int))) with
   | false=>exact (h.2 hd).elim
   | true=>
    have g:=h.1 hd;simp only [aay,decide_eq_true_eq] at hd;rw [zZ] at hl hh;have r1:=fJ r hl hl';have r2:=fJ r hh hu';have hb:=jt (P:=P) (isS:=false) (w:=c.w) (len:=s.length) (cap:=s.length) (a:=a) (r1.imp (fun h=>⟨h.1,h.2.2⟩) id) (r2.imp (fun h=>⟨h.1,h.2.2⟩) id) hd.1.1 hd.1.2 hd.2;refine bf r hK (gv:=.string ⟨((s.take u.toNat).drop l.toNat).toArray⟩) (by simp [aB,aI]) g ?_;have hsz:(⟨s.toArray⟩:ByteArray).size=s.length:=by simp [ByteArray.size]
    have hex:(⟨s.toArray⟩:ByteArray).extract l.toNat u.toNat=⟨((s.take u.toNat).drop l.toNat).toArray⟩:=by
     apply ByteArray.ext;simp [ByteArray.data_extract,ado]
    simp only [execOp,ho];have:(Instr.sliceAt t (a.eval x) (lo.map a.eval) (hi.map a.eval) (Option.map a.eval none)).run P c.w = .ok (.string ⟨((s.take u.toNat).drop l.toNat).toArray⟩) c.w:=by
     simp only [Instr.sliceAt,Instr.slice,e1,acD];rw [run_bind_ok (cD hu)];simp only [];rw [run_bind_ok (cD hu)];simp [hsz,hb,hex]
    rw [run_bind_ok this];rfl
  ·exact h.elim
 ·exact h.elim
end
end Uw
namespace Uw
open Go Go.RowKit
variable [Glob]
section
variable {P : Program} {Q : aG -> St -> Prop} {q : V -> St -> Tree} {c : Cx} {w0 : World} {n : Nat} {gs : Fr} {st : St} {a : Act} {K : Act -> World -> Prop} {Qx : Exit -> Act -> World -> Prop} {o : Oper} {xx : aG -> St -> Tree}
theorem lW {t e:TypeId} {x:Operand} {lo hi:Option Operand} {k len cap b o' : Nat} {l u:Int} {w:World} (ho:o.op = .slice t x lo hi none) (hu:P.underlying t=some (.slice e)) (hk:sizeT P e=some k) (hx:a.eval x = .slice (some ⟨b,o',none⟩) len cap)
  (hlo:(lo=none/\l=0)\/∃z k,lo=some z/\a.eval z = .int k l) (hhi:(hi=none/\u=len)\/∃z k,hi=some z/\a.eval z = .int k u) (h0:0<=l) (h1:l<=u) (h2:u<=cap) :
  (execOp a.eval o).run P w = .ok (.value (.slice (some (if cap=l.toNat then ⟨b,o',none⟩ else ⟨b,o' + l.toNat * k,none⟩)) (u.toNat - l.toNat) (cap - l.toNat))) w:=by
 have hb:=jt (P:=P) (isS:=true) (w:=w) (len:=len) (cap:=cap) (a:=a) hlo hhi h0 h1 h2;simp only [execOp,ho];have:(Instr.sliceAt t (a.eval x) (lo.map a.eval) (hi.map a.eval) (Option.map a.eval none)).run P w = .ok (.slice (some (if cap=l.toNat then ⟨b,o',none⟩ else ⟨b,o' + l.toNat * k,none⟩)) (u.toNat - l.toNat) (cap - l.toNat)) w:=by
  simp only [Instr.sliceAt,Instr.slice,hx,acD];rw [run_bind_ok (cD hu)];simp only [];rw [run_bind_ok (cD hu)];simp only [];rw [run_bind_ok hb];simp only [];rw [run_bind_ok (ij hk)];by_cases hc:cap=l.toNat
  ·simp [hc]
  ·simp [hc,addr_add]
 rw [run_bind_ok this];rfl
theorem pD {t e:TypeId} {x:Operand} {lo hi:Option Operand} {k:Nat} {w:World} {xo:Option Addr} (ho:o.op = .slice t x lo hi none) (hu:P.underlying t=some (.slice e)) (hk:sizeT P e=some k) (hx:a.eval x = .slice xo 0 0)
  (hlo:(lo=none/\(0:Int)=0)\/∃z k,lo=some z/\a.eval z = .int k 0) (hhi:(hi=none/\(0:Int)=((0:Nat):Int))\/∃z k,hi=some z/\a.eval z = .int k 0):(execOp a.eval o).run P w = .ok (.value (.slice xo 0 0)) w:=by
 have hb:=jt (P:=P) (isS:=true) (w:=w) (len:=0) (cap:=0) (a:=a) hlo hhi (by omega) (by omega) (by omega);simp only [execOp,ho];have:(Instr.sliceAt t (a.eval x) (lo.map a.eval) (hi.map a.eval) (Option.map a.eval none)).run P w = .ok (.slice xo 0 0) w:=by
  simp only [Instr.sliceAt,Instr.slice,hx,acD];rw [run_bind_ok (cD hu)];simp only [];rw [run_bind_ok (cD hu)];simp only [];rw [run_bind_ok hb];simp only [];rw [run_bind_ok (ij hk)]
  cases xo<;>simp
 rw [run_bind_ok this];rfl
theorem cS.window {w:World} {J:Nat->Nat->Prop} {b k:Nat}:∀{xs:List (List Dat)} {o:Nat},cS w J b k o xs->∀m,m<=xs.length->cS w J b k (o+m * k) (xs.drop m)
 | xs,o,h,0,_=>by simpa using h
 | [],o,h,m+1,hm=>by simp [cS]
 | x::xs,o,h,m+1,hm=>by
  obtain ⟨h1,h2,h3⟩:=h;have:=cS.window h3 m (by simpa using hm);rw [show o+k+m * k=o+(m+1) * k by rw [abb];omega] at this;simpa using this
theorem cS.take {w:World} {J:Nat->Nat->Prop} {b k:Nat}:∀{xs:List (List Dat)} {o:Nat},cS w J b k o xs->∀m,cS w J b k o (xs.take m)
 | xs,o,h,0=>by simp [cS]
 | [],o,h,m+1=>by simp [cS]
 | x::xs,o,h,m+1=>by
  obtain ⟨h1,h2,h3⟩:=h;exact ⟨h1,h2,cS.take h3 m⟩
theorem X2 (r:Rel c w0 n gs st a) (hK:bL P Q q c w0 n gs st a o.dst K) {t e:TypeId} {k:Nat} {x:Operand} {lo hi:Option Operand} {y:Opd} {lo' hi' : Option Opd} (ho:o.op = .slice t x lo hi none) (hu:P.underlying t=some (.slice e)) (hk:sizeT P e=some k)
  (hc:ao x=some y) (hl:lk lo=some lo') (hh:lk hi=some hi') (h:WT P Q (step (.sl k y lo' hi') st q xx)):o.wp P a c.w K Qx:=by
 rw [zZ] at hl hh;simp only [step] at h
 split at h
 ·rename_i k' xs z hv
  have e0:=aK r hc hv;simp only [aB,aI] at e0
  split at h
  ·rename_i l u hkk hl' hu'
   have hkk:=aaB hkk;subst hkk;simp only [WT] at h
   cases hd:(decide (0<=l)&&decide (l<=u)&&decide (u<=(xs.length:Int))) with
   | false=>exact (h.2 hd).elim
   | true=>
    have g:=h.1 hd;simp only [aay,decide_eq_true_eq] at hd;have r1:=(fJ r hl hl').imp (fun h=>(⟨h.1,h.2.2⟩:lo=none/\l=0)) (fun h=>h);have r2:=(fJ r hh hu').imp (fun h=>(⟨h.1,h.2.2⟩:hi=none/\u=xs.length)) (fun h=>h)
    rcases e0 with ⟨⟨x9,e0,_⟩,rfl⟩|⟨b,o',cap,e1,e2,e3,e4⟩
    ·simp only [aa3] at hd r2
     have hl0:l=0:=by omega
     have hu0:u=0:=by omega
     subst hl0 hu0;refine bf r hK (gv:=.slice x9 0 0) ?_ g (pD ho hu hk e0 r1 r2);exact .inl ⟨⟨_,rfl,by simp⟩,by simp⟩
    refine bf r hK ?_ g (lW ho hu hk e1 r1 r2 hd.1.1 hd.1.2 (by omega));have hlen:((xs.take u.toNat).drop l.toNat).length=u.toNat - l.toNat:=by simp;omega
    have hE:cS c.w (Imm c) b k (o' + l.toNat * k) ((xs.take u.toNat).drop l.toNat):=(e4.take u.toNat).window l.toNat (by simp;omega);by_cases hcap:cap=l.toNat
    ·rw [if_pos hcap]
     refine .inr ⟨b,o',cap - l.toNat,by rw [hlen],by rw [hlen];omega,by simp,?_⟩;have:(xs.take u.toNat).drop l.toNat=[]:=aaM (by omega);rw [this];trivial
    ·rw [if_neg hcap]
     exact .inr ⟨b,o' + l.toNat * k,cap - l.toNat,by rw [hlen],by rw [hlen];omega,by simp,hE⟩
  ·exact h.elim
 ·rename_i id ver off len hv
  have e1:=aK r hc hv;simp only [aB] at e1;rw [r.heap] at e1
  split at h
  ·rename_i k' xs l u hlk hl' hu'
   rw [hlk] at e1
   split at h
   ·rename_i hkk
    have hkk:=aaB hkk;subst hkk;obtain ⟨f1,e1⟩:=e1;simp only [WT] at h
    cases hd:(decide (0<=l)&&decide (l<=u)&&decide (u<=(len:Int))) with
    | false=>exact (h.2 hd).elim
    | true=>
     have g:=h.1 hd;simp only [aay,decide_eq_true_eq] at hd;have r1:=(fJ r hl hl').imp (fun h=>(⟨h.1,h.2.2⟩:lo=none/\l=0)) (fun h=>h);have r2:=(fJ r hh hu').imp (fun h=>(⟨h.1,h.2.2⟩:hi=none/\u=len)) (fun h=>h);have Mc : look c.heap id=some (.arr k xs):=by rw [r.heap];exact hlk
     rcases e1 with ⟨f2,f3,f4⟩|⟨b,o',cap,f2,f3,f4,f5⟩
     ·subst f3
      have hl0:l=0:=by omega
      have hu0:u=0:=by omega
      subst hl0 hu0;refine bf r hK (gv:=.slice none 0 0) ?_ g (pD ho hu hk f2 r1 r2);simp only [aB,Mc];exact ⟨by simp;omega,.inl ⟨rfl,by simp,by simpa using f4⟩⟩
     refine bf r hK ?_ g (lW ho hu hk f2 r1 r2 hd.1.1 hd.1.2 (by omega));simp only [aB,Mc];have hul:(u - l).toNat=u.toNat - l.toNat:=by omega
     have hwin:(xs.drop (off+l.toNat)).take (u - l).toNat=(((xs.drop off).take len).take u.toNat).drop l.toNat:=by
      rw [ado,ado,ach,List.take_take]
      congr 1
      omega
     refine ⟨by omega,?_⟩;have hE:cS c.w (Imm c) b k (o' + l.toNat * k) ((((xs.drop off).take len).take u.toNat).drop l.toNat):=(f4.take u.toNat).window l.toNat (by simp;omega);by_cases hcap:cap=l.toNat
     ·rw [if_pos hcap]
      refine .inr ⟨b,o',cap - l.toNat,by rw [hul],by omega,?_,?_⟩
      ·rw [hwin]
       have:(((xs.drop off).take len).take u.toNat).drop l.toNat=[]:=aaM (by simp;omega);rw [this];trivial
      ·intro hend
       obtain ⟨f6,f7⟩:=f5 (by omega);refine ⟨by omega,fun hlt=>by omega⟩
     ·rw [if_neg hcap]
      refine .inr ⟨b,o' + l.toNat * k,cap - l.toNat,by rw [hul],by omega,by rw [hwin];exact hE,?_⟩;intro hend;obtain ⟨f6,f7⟩:=f5 (by omega);refine ⟨by omega,fun hlt=>?_⟩;obtain ⟨f8,f9⟩:=f7 (by omega);exact ⟨f8,by rw [f9,abb]⟩
   ·exact h.elim
  ·rename_i k' dU xs l u hlk hl' hu'
   rw [hlk] at e1
   split at h
   ·rename_i hkk
    have h1:=aaB hkk;subst h1
    replace h:=qf h
    obtain ⟨hv2,h⟩:=h;have h2:=aaB hv2;subst h2;obtain ⟨f0,_,f⟩:=e1;obtain ⟨f1,f2⟩:=f rfl;have Mc : look c.heap id=some (.mt k ver xs):=by rw [r.heap];exact hlk
    obtain ⟨b3,b4,bb⟩:=r.hrel.blk id _ Mc;simp only [WT] at h
    cases hd:(decide (0<=l)&&decide (l<=u)&&decide (u<=(len:Int))) with
    | false=>exact (h.2 hd).elim
    | true=>
     have g:=h.1 hd;simp only [aay,decide_eq_true_eq] at hd;have r1:=(fJ r hl hl').imp (fun h=>(⟨h.1,h.2.2⟩:lo=none/\l=0)) (fun h=>h);have r2:=(fJ r hh hu').imp (fun h=>(⟨h.1,h.2.2⟩:hi=none/\u=len)) (fun h=>h)
     rcases f2 with ⟨f2,f3,f4,f5⟩|⟨b,o',f2,f3⟩
     ·subst f3 f4
      have hl0:l=0:=by omega
      have hu0:u=0:=by omega
      subst hl0 hu0;refine bf r hK (gv:=.slice none 0 0) ?_ g (pD ho hu hk f2 r1 r2);simp only [aB,Mc];exact ⟨aax _,⟨_,_,_,rfl⟩,fun _=>⟨by simp,.inl ⟨rfl,rfl,rfl,f5⟩⟩⟩
     refine bf r hK ?_ g (lW ho hu hk f2 r1 r2 hd.1.1 hd.1.2 (by omega));simp only [aB,Mc];have hul:(u - l).toNat=u.toNat - l.toNat:=by omega
     refine ⟨aax _,⟨_,_,_,rfl⟩,fun _=>⟨by omega,?_⟩⟩;by_cases hcap:(c.pl id).cap - off=l.toNat
     ·rw [if_pos hcap]
      exact .inr ⟨b,o',by rw [hul,Nat.sub_sub],fun hlt=>by omega⟩
     ·rw [if_neg hcap]
      refine .inr ⟨b,o' + l.toNat * k,by rw [hul,Nat.sub_sub],fun hlt=>?_⟩;obtain ⟨f8,f9⟩:=f3 (by omega);exact ⟨f8,by rw [f9,abb]⟩
   ·exact h.elim
  ·exact h.elim
 ·rename_i hv
  have e1:=aK r hc hv;simp only [aB,aI] at e1
  split at h
  ·rename_i l u hl' hu'
   simp only [WT] at h
   cases hd:(decide (l=0)&&decide (u=0)) with
   | false=>exact (h.2 hd).elim
   | true=>
    have g:=h.1 hd;simp only [aay,decide_eq_true_eq] at hd;obtain ⟨rfl,rfl⟩:=hd;have r1:=(fJ r hl hl').imp (fun h=>(⟨h.1,h.2.2⟩:lo=none/\(0:Int)=0)) id;have r2:=(fJ r hh hu').imp (fun h=>(⟨h.1,h.2.2⟩:hi=none/\(0:Int)=((0:Nat):Int))) id;refine bf r hK (v:=.d .nil) (gv:=.slice none 0 0) (by simp [aB,aI]) g ?_;have hb:=jt (P:=P) (isS:=true) (w:=c.w) (len:=0) (cap:=0) (a:=a) r1 r2 (by omega) (by omega) (by omega);simp only [execOp,ho];have:(Instr.sliceAt t (a.eval x) (lo.map a.eval) (hi.map a.eval) (Option.map a.eval none)).run P c.w = .ok (.slice none 0 0) c.w:=by
     simp only [Instr.sliceAt,Instr.slice,e1,acD];rw [run_bind_ok (cD hu)];simp only [];rw [run_bind_ok (cD hu)];simp only [];rw [run_bind_ok hb];simp only [];rw [run_bind_ok (ij hk)];simp
    rw [run_bind_ok this];rfl
  ·exact h.elim
 ·exact h.elim
theorem Jq {α:Type} (cs ds:List α) (h:ds.length=cs.length):setAt cs 0 ds=ds:=by
 apply ab3;intro j;rw [jJ];by_cases hj:j<ds.length
 ·rw [if_pos (by omega)];simp
 ·rw [if_neg (by omega),aaJ (by omega),aaJ (by omega)]
theorem KI (r:Rel c w0 n gs st a) {k:Nat}:∀(ps:List (Nat×Operand)) (qs:List (Nat×Opd)) (xs xs' : List (List Dat)) (vs:Array Value),(∀p∈ps.zip qs,p.1.1=p.2.1/\ao p.1.2=some p.2.2)->ps.length=qs.length->
  (∀x∈xs,x.length=k)->bp c.w (Imm c) xs.flatten vs.toList->(∀v∈vs.toList,one v=true)->iN st k xs qs=some xs'->
  ∃vs',Instr.fill (fun i=>some (i * k,k)) vs (ps.map fun (i,x)=>(i,a.eval x))=some vs'/\(∀x∈xs',x.length=k)/\xs'.length=xs.length/\bp c.w (Imm c) xs'.flatten vs'.toList/\∀v∈vs'.toList,one v=true:=by
 intro ps
 induction ps with
 | nil=>
  intro qs xs xs' vs _ hl h1 h2 h3 h;have:qs=[]:=aaM (by simpa using hl.symm);subst this;simp [iN] at h;subst h;exact ⟨vs,rfl,h1,rfl,h2,h3⟩
 | cons p ps ih=>
  intro qs xs xs' vs hz hl h1 h2 h3 h
  cases qs with
  | nil=>simp at hl
  | cons q0 qs=>
   obtain ⟨i,x⟩:=p;obtain ⟨i',y⟩:=q0;have hz0:=hz ((i,x),(i',y)) (by simp);obtain ⟨hii,hcy⟩:=hz0;simp only at hii hcy;subst hii;simp only [iN] at h
   split at h
   ·rename_i v hv
    split at h
    ·rename_i ds hds
     split at h
     ·rename_i hb
      rw [aay,aay] at hb;have hb1:=aaB hb.1.1;have hb2:i<xs.length:=by simpa using hb.1.2
      have e4:=aK r hcy hv;have e5:=na e4 (yD hv);rw [<- r.heap] at hds;have e6:=oQ hds e5;have hcs:xs[i]? = some xs[i]:=aaU hb2;have hcl:xs[i].length=k:=h1 _ (aaQ hb2);have hset:setAt xs[i] 0 ds=ds:=Jq _ _ (by omega);have hdl:(a.eval x).cells.size=k:=by have:=e6.length;simp at this;omega
      have hvl:vs.size=xs.length * k:=by have:=h2.length;rw [il h1] at this;simpa using this
      have hik:(i+1) * k<=xs.length * k:=abe _ (by omega);have hik' : i * k+k=(i+1) * k:=by rw [abb];omega
      have hfs:=yE h1 (cc:=0) (ds:=ds) hcs (by omega);rw [hset,abT] at hfs;obtain ⟨vs',g1,g2,g3,g4,g5⟩:=ih qs (xs.set i ds) xs' (iZ vs (i * k) (a.eval x).cells.toList) (fun p hp=>hz p (by simp [hp])) (by simpa using hl)
       (fun z hz=>by rcases acj hz with hz|hz;exact h1 z hz;rw [hz];exact hb1)
       (by rw [hfs,jA];exact bp.setAt h2 e6 _)
       (fun u hu=>by
        rw [jA] at hu
        rcases xP hu with hu|hu
        ·exact h3 u hu
        ·obtain ⟨j,hj⟩:=acC hu
         obtain ⟨z,hz,hzr⟩:=e5.get' j u hj;exact zu hzr (aaS.1 hb.2 z (aaR hz))) h
      refine ⟨vs',?_,g2,by rw [g3];simp,g4,g5⟩;simp only [abG,Instr.fill];rw [if_neg (by simp;omega)];have e:=xO (i * k) (a.eval x).cells.toList 0 vs;simp only [abT] at e;rw [<- ac5,Array.toList_zipIdx,e];exact g1
     ·simp at h
    ·simp at h
   ·simp at h
theorem KJ (r:Rel c w0 n gs st a) {k:Nat} {xs:List (List Dat)} {vs:Array Value} {e:TypeId} (h1:∀x∈xs,x.length=k) (h2:bp c.w (Imm c) xs.flatten vs.toList) (h3:∀v∈vs.toList,one v=true) :
  Rel { c with w:=c.w.alloc (.cells vs e) } w0 n gs st a/\aB { c with w:=c.w.alloc (.cells vs e) } (.d (.slice k xs true)) (.slice (some ⟨c.w.heap.size,0,none⟩) xs.length xs.length):=by
 have hbel:Below c.w.heap.size c.w (c.w.alloc (.cells vs e)):=(Below.refl _ _).alloc (aax _) _;have hev:=Evo.grow r.hrel hbel;refine ⟨r.grow hbel,.inr ⟨c.w.heap.size,0,xs.length,rfl,aax _,fun _=>rfl,?_⟩⟩;refine cS.of_flat h1 (bp.keep hev.keeps _ _ h2) ?_;intro j v hv;refine ⟨?_,?_,h3 v (aaR hv)⟩
 ·have hblk:(c.w.alloc (.cells vs e)).heap[c.w.heap.size]? = some (.cells vs e (0,0)):=by
   show (c.w.heap.push (.cells vs e))[c.w.heap.size]? = _;simp
  rw [ct hblk];simpa using hv
 ·refine .inr ⟨r.hrel.su (aax _),?_,?_⟩
  ·show c.w.heap.size<(c.w.heap.push (.cells vs e)).size
   simp
  ·intro id blk hl hph hg
   exfalso;have:=r.hrel.jX hl hph;simp only at hg;omega
end
end Uw
namespace Uw
open Go Go.RowKit
variable [Glob]
theorem Md {v:Value} {d:Dat} (h:zN v=some d):one v=true:=by
 cases v<;>first|rfl|(simp [zN] at h)
theorem qT:∀{vs:List Value} {ds:List Dat},jU vs=some ds->∀v∈vs,one v=true
 | [],ds,h,v,hv=>by simp at hv
 | u::vs,ds,h,v,hv=>by
  unfold jU at h
  split at h
  ·rename_i x l hx hl
   simp at hv
   rcases hv with rfl|hv
   ·exact Md hx
   ·exact qT hl v hv
  ·simp at h
theorem qU:∀{vs:List Value} {ds:List Dat},jU vs=some ds->ds.length=vs.length
 | [],ds,h=>by simp [jU] at h;subst h;rfl
 | u::vs,ds,h=>by
  unfold jU at h
  split at h
  ·rename_i x l hx hl
   simp at h;subst h;simp [qU hl]
  ·simp at h
theorem nD (z:Array Value) (hz:0<z.size):∀m,((Array.range (m * z.size)).map (fun i=>z[i % z.size]!)).toList=(List.replicate m z.toList).flatten:=by
 intro m;apply ab3;intro j;have hlen:((List.replicate m z.toList).flatten).length=m * z.size:=by simp
 by_cases hj:j<m * z.size
 ·have h1:((Array.range (m * z.size)).map (fun i=>z[i % z.size]!)).toList[j]? = some (z[j % z.size]!):=by
   rw [acf,Array.getElem?_map];simp [hj]
  rw [h1];have hmod:=Nat.mod_lt j hz;have hdiv:j / z.size<m:=by rw [Nat.div_lt_iff_lt_mul hz];exact hj
  have h2:=u3 (k:=z.size) (xs:=List.replicate m z.toList) (fun x hx=>by rw [abz hx];simp) (i:=j / z.size) (cs:=z.toList) (by rw [List.getElem?_replicate,if_pos hdiv]);have h3:(List.replicate m z.toList).flatten[j]? = z.toList[j % z.size]?:=by
   have h4:(((List.replicate m z.toList).flatten.drop (j / z.size * z.size)).take z.size)[j % z.size]? = (List.replicate m z.toList).flatten[j]?:=by
    rw [aaH,if_pos hmod,abq,Nat.div_add_mod']
   rw [<- h4,h2]
  rw [h3];simp [hmod]
 ·rw [aaJ (by simp;omega),aaJ (by rw [hlen];omega)]
theorem bp.replicate {w:World} {J:Nat->Nat->Prop} {zs:List Dat} {vs:List Value} (h:bp w J zs vs):∀m,bp w J (List.replicate m zs).flatten (List.replicate m vs).flatten
 | 0=>by simp [bp]
 | m+1=>by
  rw [acH,acH,abB,abB];exact h.append (bp.replicate h m)
section
variable {P : Program} {Q : aG -> St -> Prop} {q : V -> St -> Tree} {c : Cx} {w0 : World} {n : Nat} {gs : Fr} {st : St} {a : Act} {K : Act -> World -> Prop} {Qx : Exit -> Act -> World -> Prop} {o : Oper} {xx : aG -> St -> Tree}
theorem xT:∀{ps:List (Nat×Operand)} {qs:List (Nat×Opd)},nA ps=some qs->ps.length=qs.length/\∀p∈ps.zip qs,p.1.1=p.2.1/\ao p.1.2=some p.2.2
 | [],qs,h=>by simp [nA] at h;subst h;simp
 | (i,x)::ps,qs,h=>by
  unfold nA at h
  split at h
  ·rename_i y l hy hl
   simp at h;subst h;obtain ⟨h1,h2⟩:=xT hl;refine ⟨by simp [h1],?_⟩;intro p hp;simp at hp
   rcases hp with rfl|hp
   ·exact ⟨rfl,hy⟩
   ·exact h2 p (by simpa using hp)
  ·simp at h
theorem Me (r:Rel c w0 n gs st a) (hK:bL P Q q c w0 n gs st a o.dst K) {t e:TypeId} {k len:Nat} {zs:List Dat} {ps:Array (Nat×Operand)} {qs:List (Nat×Opd)} (ho:o.op = .buildSlice t len ps) (hu:P.underlying t=some (.slice e)) (hk:sizeT P e=some k) (hkp:0<k)
  (hz:mf P e=some zs) (hzl:zs.length=k) (hle:len * k<=16777216) (hq:nA ps.toList=some qs) (h:WT P Q (step (.aW k len zs qs) st q xx)):o.wp P a c.w K Qx:=by
 simp only [step] at h
 split at h
 ·rename_i xs hxs
  obtain ⟨z,hzv,hzd⟩:=vT (w:=c.w) hz;obtain ⟨hl,V0⟩:=xT hq;have hzk:z.cells.size=k:=by have:=qU hzd;simp at this;omega
  have hzr:=gx hzd c.w (Imm c);have ky:=nD z.cells (by omega) len;rw [hzk] at ky;obtain ⟨vs',g1,g2,g3,g4,g5⟩:=KI r ps.toList qs (List.replicate len zs) xs ((Array.range (len * k)).map (fun i=>z.cells[i % k]!)) V0 hl
   (fun x hx=>by rw [abz hx];exact hzl) (by rw [ky];exact bp.replicate hzr len)
   (fun v hv=>by
    rw [ky] at hv;obtain ⟨l,hl1,hl2⟩:=ac9.1 hv;rw [abz hl1] at hl2;exact qT hzd v hl2) hxs
  obtain ⟨p1,p2⟩:=KJ r (e:=e) g2 g4 g5;have hlen:xs.length=len:=by rw [g3];simp
  rw [hlen] at p2;refine cF (w':=c.w.alloc (.cells vs' e)) ?_ (hK { c with w:=c.w.alloc (.cells vs' e) } st _ _ rfl rfl p1 rfl p2 h);simp only [execOp,ho];have:(Instr.buildSlice t len (ps.map fun (i,x)=>(i,a.eval x))).run P c.w = .ok (.slice (some ⟨c.w.heap.size,0,none⟩) len len) (c.w.alloc (.cells vs' e)):=by
   unfold Instr.buildSlice;rw [run_bind_ok (cD hu)];simp only [];rw [run_bind_ok (ij hk)];have hgt:¬len * k>2 ^ 24:=by omega
   simp only [hgt,if_false];have hps:(ps.map fun (i,x)=>(i,a.eval x)).toList=ps.toList.map fun (i,x)=>(i,a.eval x):=by simp
   by_cases h0:len * k=0
   ·rw [if_pos h0]
    rw [run_bind_ok (s:=pure _) (x:=(#[]:Array Value)) (w':=c.w) rfl];have harr:(Array.range (len * k)).map (fun i=>(#[]:Array Value)[i % (#[]:Array Value).size]!)=(Array.range (len * k)).map (fun i=>z.cells[i % k]!):=by
     apply Array.ext
     ·simp
     ·intro i h1 h2;simp [h0] at h1
    simp only [harr,hps,g1];rfl
   ·rw [if_neg h0]
    rw [run_bind_ok hzv];rw [run_bind_ok (s:=pure _) (x:=z.cells) (w':=c.w) rfl];simp only [hzk,hps,g1];rfl
  rw [run_bind_ok this];rfl
 ·exact h.elim
theorem Ou (r:Rel c w0 n gs st a) (hK:bL P Q q c w0 n gs st a o.dst K) {t e:TypeId} {k len:Nat} {zs:List Dat} {ps:Array (Nat×Operand)} {qs:List (Nat×Opd)} (ho:o.op = .buildSlice t len ps) (hu:P.underlying t=some (.slice e)) (hk:sizeT P e=some k) (hkp:0<k)
  (hz:mf P e=some zs) (hzl:zs.length=k) (hle:len * k<=16777216) (hq:nA ps.toList=some qs) (h:WT P Q (step (.zK k len zs qs) st q xx)):o.wp P a c.w K Qx:=by
 simp only [step] at h
 split at h
 ·rename_i xs hxs
  obtain ⟨z,hzv,hzd⟩:=vT (w:=c.w) hz;obtain ⟨hl,V0⟩:=xT hq;have hzk:z.cells.size=k:=by have:=qU hzd;simp at this;omega
  have hzr:=gx hzd c.w (Imm c);have ky:=nD z.cells (by omega) len;rw [hzk] at ky;obtain ⟨vs',g1,g2,g3,g4,g5⟩:=KI r ps.toList qs (List.replicate len zs) xs ((Array.range (len * k)).map (fun i=>z.cells[i % k]!)) V0 hl
   (fun x hx=>by rw [abz hx];exact hzl) (by rw [ky];exact bp.replicate hzr len)
   (fun v hv=>by
    rw [ky] at hv;obtain ⟨l,hl1,hl2⟩:=ac9.1 hv;rw [abz hl1] at hl2;exact qT hzd v hl2) hxs
  have hlen:xs.length=len:=by rw [g3];simp
  have hsz:vs'.size=len * k:=by
   have:=g4.length;rw [il g2,hlen] at this;simpa using this
  obtain ⟨p1,p2⟩:=zW r true (e:=e) (cap:=len) (k:=k) (xs:=xs) (us:=vs'.toList) (vs:=vs') g2 g4 g5 hsz (by rw [hlen];exact aax _) (by rw [hlen,<- hsz];exact aaG (by simp));rw [hlen] at p2;refine cF (w':=c.w.alloc (.cells vs' e)) ?_ (hK (c.push st.next len (cM true k xs) (.cells vs' e)) _ _ _ rfl rfl p1 rfl p2 h);simp only [execOp,ho];have:(Instr.buildSlice t len (ps.map fun (i,x)=>(i,a.eval x))).run P c.w = .ok (.slice (some ⟨c.w.heap.size,0,none⟩) len len) (c.w.alloc (.cells vs' e)):=by
   unfold Instr.buildSlice;rw [run_bind_ok (cD hu)];simp only [];rw [run_bind_ok (ij hk)];have hgt:¬len * k>2 ^ 24:=by omega
   simp only [hgt,if_false];have hps:(ps.map fun (i,x)=>(i,a.eval x)).toList=ps.toList.map fun (i,x)=>(i,a.eval x):=by simp
   by_cases h0:len * k=0
   ·rw [if_pos h0]
    rw [run_bind_ok (s:=pure _) (x:=(#[]:Array Value)) (w':=c.w) rfl];have harr:(Array.range (len * k)).map (fun i=>(#[]:Array Value)[i % (#[]:Array Value).size]!)=(Array.range (len * k)).map (fun i=>z.cells[i % k]!):=by
     apply Array.ext
     ·simp
     ·intro i h1 h2;simp [h0] at h1
    simp only [harr,hps,g1];rfl
   ·rw [if_neg h0]
    rw [run_bind_ok hzv];rw [run_bind_ok (s:=pure _) (x:=z.cells) (w':=c.w) rfl];simp only [hzk,hps,g1];rfl
  rw [run_bind_ok this];rfl
 ·exact h.elim
theorem RY (r:Rel c w0 n gs st a) (hK:bL P Q q c w0 n gs st a o.dst K) {t e:TypeId} {k bytes:Nat} {zs:List Dat} {m:Bool} {x1 x2:Operand} {y1 y2:Opd} (ho:o.op = .makeSlice t x1 x2) (he:sy P t e k bytes) (hkp:0<k) (hz:mf P e=some zs) (hzl:zs.length=k)
  (hc1:ao x1=some y1) (hc2:ao x2=some y2) (h:WT P Q (step (.EU m k bytes zs y1 y2) st q xx)):o.wp P a c.w K Qx:=by
 simp only [step] at h
 split at h
 ·rename_i l cp hv1 hv2
  have e1:=aK r hc1 hv1;have e2:=aK r hc2 hv2;simp only [aB,aI] at e1 e2;simp only [WT] at h
  cases hd:(decide (0<=l)&&decide (l<=cp)&&decide (cp * (bytes:Int)<=70368744177664)) with
  | false=>exact (h.2 hd).elim
  | true=>
   have g:=h.1 hd;simp only [aay,decide_eq_true_eq] at hd;obtain ⟨⟨d1,d2⟩,d3⟩:=hd;obtain ⟨i,z,zs',hi,hsz,hby,hzero,hzs,hzk⟩:=he.info;have hzs' : zs' = zs:=by
    simp only [mf,hi,hzero] at hz;rw [hzs] at hz;injection hz
   subst hzs';have hpos:=he.pos;have hcb:cp<=70368744177664:=by
    have:cp * 1<=cp * (bytes:Int):=adf (by omega) (by omega);omega
   have ky:=nD z.cells (by omega) cp.toNat;rw [hzk] at ky;have hzr:=gx hzs c.w (Imm c);have hmc:(madeCells z.cells (cp.toNat * k)).toList=(List.replicate cp.toNat z.cells.toList).flatten:=by
    rw [<- ky];simp [madeCells,hzk]
   have hll:∀x∈List.replicate cp.toNat z.cells.toList,x.length=k:=fun x hx=>by rw [abz hx];simpa using hzk
   obtain ⟨p1,p2⟩:=zW r m (e:=e) (cap:=cp.toNat) (k:=k) (xs:=List.replicate l.toNat zs') (us:=(List.replicate l.toNat z.cells.toList).flatten) (vs:=madeCells z.cells (cp.toNat * k))
    (fun x hx=>by rw [abz hx];exact hzl) (bp.replicate hzr _)
    (fun v hv=>by
     obtain ⟨l',hl1,hl2⟩:=ac9.1 hv;rw [abz hl1] at hl2;exact qT hzs v hl2)
    (by have:=congrArg List.length hmc;rw [il hll] at this;simpa using this)
    (by simp;omega)
    (by
     rw [hmc,abA,<- mO hll l.toNat (by simp;omega)]
     congr 1
     rw [List.take_replicate]
     congr 1;omega)
   rw [abA] at p2;refine cF (w':=c.w.alloc (.cells (madeCells z.cells (cp.toNat * k)) e)) ?_ (hK (c.push st.next cp.toNat (cM m k (List.replicate l.toNat zs')) (.cells (madeCells z.cells (cp.toNat * k)) e)) _ _ _ rfl rfl p1 rfl p2 g);simp only [execOp,ho,e1,e2];have:=run_make c.w t e i z he.und hi hzero .i64 .i64 l cp d1 d2 (by rw [hby,Int.mul_comm];omega) (by omega);rw [hsz] at this;rw [run_bind_ok this];rfl
 ·exact h.elim
end
end Uw
namespace Uw
open Go Go.RowKit
variable [Glob]
def Aa (P:Program) (Q:aG->St->Prop) (xx:aG->St->Tree) (c:Cx) (w0:World) (n:Nat) (gs:Fr) (st:St) (a:Act) (Qx:Exit->Act->World->Prop):Prop:=
 ∀c' st' d ch,c'.B=c.B->c'.J0=c.J0->Rel c' w0 n gs st' a->st'.regs=st.regs->bB c' (.panic ch) (.panic d)->WT P Q (xx (.panic d) st')->Qx (.panic ch) a c'.w
theorem qN.mono {K K' : Nat} {c c' : Cx} (h:qN K c c') (hk:K'<=K):qN K' c c':=⟨h.keeps,fun id b hid hb=>h.blks id b (by omega) hb⟩
theorem cH.lt {c:Cx} {K:Nat} (h:∀id b,look c.heap id=some b->id<K):∀{vs:List V} {ds:List Deferred},cH c vs ds->ltL K vs
 | [],_,_=>trivial
 | v::vs,ds,⟨d,ds',f,first,cap,fs,cs,h1,h2,h3,h4,h6,h5⟩=>⟨by subst h2;exact ⟨ay.lt h _ _ h4,ay.lt h _ _ h6⟩,cH.lt h h5⟩
theorem cH.uZ {K:Nat} {c c' : Cx} (h:qN K c c'):∀{vs:List V} {ds:List Deferred},ltL K vs->cH c vs ds->cH c' vs ds
 | [],_,_,r=>r
 | v::vs,ds,hl,⟨d,ds',f,first,cap,fs,cs,h1,h2,h3,h4,h6,h5⟩=>by
  subst h2;exact ⟨d,ds',f,first,cap,fs,cs,h1,rfl,h3,ay.uZ h _ _ hl.1.1 h4,ay.uZ h _ _ hl.1.2 h6,cH.uZ h hl.2 h5⟩
def xU (gs:Fr) (st:St) (a:Act) (hK:gs.K<=st.next):Fr where
 K:=st.next
 p:=fun c=>(∀i v,look st.regs i=some v->v.lt st.next/\aB c v (a.tmps.getD i undef))/\(ltL st.next st.defers/\cH c st.defers a.defers)/\gs.p c
 ok:=by
  rintro c c' he ⟨h1,⟨h2,h3⟩,h4⟩;exact ⟨fun i v hv=>⟨(h1 i v hv).1,aB.uZ he v _ (h1 i v hv).1 (h1 i v hv).2⟩,⟨h2,h3.uZ he h2⟩,gs.ok c c' (he.mono hK) h4⟩
theorem Rel.frK {c:Cx} {w0:World} {n:Nat} {gs:Fr} {st:St} {a:Act} (r:Rel c w0 n gs st a):gs.K<=st.next:=aa7 r.kx r.base
theorem Rel.RZ {c:Cx} {w0:World} {n:Nat} {gs:Fr} {st:St} {a:Act} (r:Rel c w0 n gs st a):(xU gs st a r.frK).p c:=
 ⟨fun i v hv=>⟨aB.lt r.hrel.lt v _ (r.regs i v hv),r.regs i v hv⟩,⟨cH.lt r.hrel.lt r.defers,r.defers⟩,r.frames⟩
theorem Rel.V1 {c c' : Cx} {w0:World} {n:Nat} {gs:Fr} {st:St} {a:Act} (r:Rel c w0 n gs st a) {nx:Nat} (hp:(xU gs st a r.frK).p c') (hh:c9 c' w0 nx) (hn:st.next<=nx):Rel c' w0 n gs { st with heap:=c'.heap,next:=nx } a:=
 ⟨rfl,hh,r.size,fun i v hv=>(hp.1 i v hv).2,hp.2.2,r.kx,aa7 r.base hn,hp.2.1.2⟩
theorem mapA (f:Operand->Value) (xs:Array Operand):(xs.toList.map f).toArray=xs.map f:=by rw [<- acA]
section
variable {P : Program} {Q : aG -> St -> Prop} {q : V -> St -> Tree} {c : Cx} {w0 : World} {n : Nat} {gs : Fr} {st : St} {a : Act} {K : Act -> World -> Prop} {Qx : Exit -> Act -> World -> Prop} {o : Oper} {xx : aG -> St -> Tree}
theorem lv (r:Rel c w0 n gs st a):∀{xs:List Operand} {ys:List Opd} {vs:List V},dX xs=some ys->ep st ys=some vs->ay c vs (xs.map a.eval):=by
 intro xs
 induction xs with
 | nil=>intro ys vs h1 h2;simp [dX] at h1;subst h1;simp [ep] at h2;subst h2;simp [ay]
 | cons x xs ih=>
  intro ys vs h1 h2;unfold dX at h1
  split at h1
  ·rename_i y l g1 g2
   simp at h1;subst h1;unfold ep at h2
   split at h2
   ·rename_i v l' f1 f2
    simp at h2;subst h2;exact ⟨_,_,rfl,aK r g1 f1,ih g2 f2⟩
   ·simp at h2
  ·simp at h1
theorem ay.append {c:Cx}:∀{xs ys:List V} {vs us:List Value},ay c xs vs->ay c ys us->ay c (xs++ys) (vs++us)
 | [],ys,vs,us,h1,h2=>by simp [ay] at h1;subst h1;simpa using h2
 | x::xs,ys,vs,us,h1,h2=>by
  obtain ⟨v,vs',rfl,g1,g2⟩:=h1;exact ⟨v,vs'++us,rfl,g1,ay.append g2 h2⟩
theorem Ab (r:Rel c w0 n gs st a) (hK:bL P Q q c w0 n gs st a o.dst K) (hX:Aa P Q xx c w0 n gs st a Qx) {f:FuncId} {vs:List V} {gvs:List Value} (hrun:(execOp a.eval o).run P c.w = .ok (.enter f gvs.toArray) c.w) (hvs:ay c vs gvs)
  (h:kM P f vs st.heap st.next fun rr h' nx'=>WT P Q (match rr with | .val v=>q v { st with heap:=h',next:=nx' } | .pan d=>xx (.panic d) { st with heap:=h',next:=nx' })):o.wp P a c.w K Qx:=by
 unfold Oper.wp;rw [hrun];have h2:=h.2 c w0 (xU gs st a r.frK) gvs r.heap r.hrel (aax _) r.RZ hvs;refine h2.mono ?_;rintro e w' ⟨c',rr,nx',pB,pJ,rfl,pH,pn,pF,pE,pQ⟩;have r':=r.V1 pF pH pn
 cases e with
 | returned gv=>
  cases rr with
  | val v=>exact hK c' _ v gv pB pJ r' rfl pE pQ
  | pan d=>exact pE.elim
 | panicked ch=>
  cases rr with
  | val v=>exact pE.elim
  | pan d=>exact hX c' _ d ch pB pJ r' rfl pE pQ
 | outgrown=>cases rr<;>exact pE.elim
theorem D1 {cl:Call} {f:FuncId} {fn:Func} {w:World} (ho:o.op = .call cl) (gy:cl.callee = .value (.func f)) (hf:P.funcs[f]? = some fn) (hb:fn.body.isSome=true) (hn:(fn.name == "runtime.NumGoroutine")=false) :
  (execOp a.eval o).run P w = .ok (.enter f (cl.args.map a.eval)) w:=by
 obtain ⟨cal,args,ats⟩:=cl;simp only at gy;subst gy;have hb' : fn.body.isNone=false:=by cases h:fn.body<;>simp [h] at hb ⊢
 have:(callFunc f (args.map a.eval)).run P w = .ok (.enter f (args.map a.eval)) w:=by
  unfold callFunc;rw [run_bind_ok (s:=program) (x:=P) (w':=w) rfl];simp only [hf,hn,hb',aaX,if_false];rfl
 simp [execOp,ho,resolve,Act.eval,Deferred.ofValue,invoke];exact this
theorem Ac {cl:Call} {f:FuncId} {t:Nat} {fs cs:Array Value} {w:World} (ho:o.op = .call cl) (gy:cl.callee = .value (.tmp t)) (hv:a.eval (.tmp t) = .func (.func f) fs cs) (hb:mN P f) :
  (execOp a.eval o).run P w = .ok (.enter f (fs++cl.args.map a.eval++cs)) w:=by
 obtain ⟨cal,args,ats⟩:=cl;obtain ⟨fn,hf,hb,hn⟩:=hb;simp only at gy;subst gy;have hb' : fn.body.isNone=false:=by cases h:fn.body<;>simp [h] at hb ⊢
 have:(callFunc f (fs++args.map a.eval++cs)).run P w = .ok (.enter f (fs++args.map a.eval++cs)) w:=by
  unfold callFunc;rw [run_bind_ok (s:=program) (x:=P) (w':=w) rfl];simp only [hf,hn,hb',aaX,if_false];rfl
 simp only [execOp,ho,resolve,hv,Deferred.ofValue,invoke];exact this
theorem V2 (r:Rel c w0 n gs st a) (hK:bL P Q q c w0 n gs st a o.dst K) (hX:Aa P Q xx c w0 n gs st a Qx) {cl:Call} {f:FuncId} {fn:Func} {ys:List Opd} (ho:o.op = .call cl) (gy:cl.callee = .value (.func f)) (hf:P.funcs[f]? = some fn)
  (hb:fn.body.isSome=true) (hn:(fn.name == "runtime.NumGoroutine")=false) (hc:dX cl.args.toList=some ys) (h:WT P Q (step (.sub f ys) st q xx)):o.wp P a c.w K Qx:=by
 simp only [step] at h
 split at h
 ·rename_i vs hvs
  simp only [WT] at h;have e:(cl.args.toList.map a.eval).toArray=cl.args.map a.eval:=by rw [<- acA]
  exact Ab r hK hX (gvs:=cl.args.toList.map a.eval) (by rw [e];exact D1 ho gy hf hb hn) (lv r hc hvs) h
 ·exact h.elim
theorem R1 (r:Rel c w0 n gs st a) (hK:bL P Q q c w0 n gs st a o.dst K) (hX:Aa P Q xx c w0 n gs st a Qx) {cl:Call} {t:Nat} {ys:List Opd} (ho:o.op = .call cl) (gy:cl.callee = .value (.tmp t)) (hc:dX cl.args.toList=some ys)
  (h:WT P Q (step (.lp (.t t) ys) st q xx)):o.wp P a c.w K Qx:=by
 simp only [step] at h
 split at h
 ·rename_i f vs hg hvs
  simp only [WT] at h;have e1:=aK r (x:=.tmp t) rfl hg;simp only [aB,aI] at e1;have hrun:=Ac (w:=c.w) ho gy e1 h.1;have e:(cl.args.toList.map a.eval).toArray = #[]++cl.args.map a.eval++#[]:=by rw [mapA];simp
  exact Ab r hK hX (gvs:=cl.args.toList.map a.eval) (by rw [e];exact hrun) (lv r hc hvs) h
 ·rename_i f fs cs vs hg hvs
  simp only [WT] at h;obtain ⟨us,ws,e1,e2,e3⟩:=aK r (x:=.tmp t) rfl hg;have hrun:=Ac (w:=c.w) ho gy e1 h.1;have e:(us++(cl.args.toList.map a.eval++ws)).toArray=us.toArray++cl.args.map a.eval++ws.toArray:=by
   rw [<- aaD,<- acn,<- acn,<- acA]
  exact Ab r hK hX (gvs:=us++(cl.args.toList.map a.eval++ws)) (by rw [e];exact hrun) (e2.append ((lv r hc hvs).append e3)) h
 ·exact h.elim
theorem R2 (r:Rel c w0 n gs st a) (hK:bL P Q q c w0 n gs st a o.dst K) {f:FuncId} {fs cs:Array Operand} {ys zs:List Opd} (ho:o.op = .makeFunc (.func f) fs cs) (hc1:dX fs.toList=some ys) (hc2:dX cs.toList=some zs)
  (h:WT P Q (step (.mK f ys zs) st q xx)):o.wp P a c.w K Qx:=by
 simp only [step] at h
 split at h
 ·rename_i us vs hu hv
  refine bf r hK (v:=.func f us vs) (gv:=.func (.func f) (fs.map a.eval) (cs.map a.eval)) ⟨fs.toList.map a.eval,cs.toList.map a.eval,?_,lv r hc1 hu,lv r hc2 hv⟩ h ?_
  ·rw [mapA,mapA]
  ·simp [execOp,ho,Instr.makeFunc,pure,Bind.bind,Sem.bind,Sem.run]
 ·exact h.elim
theorem D2 {cl:Call} {f:FuncId} {t:Operand} {fs cs:Array Value} {w:World} (ho:o.op = .defer cl) (gy:cl.callee = .value t) (hv:a.eval t = .func (.func f) fs cs) :
  (execOp a.eval o).run P w = .ok (.defer { target:=.fn (.func f) cs,args:=fs++cl.args.map a.eval }) w:=by
 obtain ⟨cal,args,ats⟩:=cl;simp only at gy;subst gy;simp only [execOp,ho,resolve,hv,Deferred.ofValue];rfl
theorem Rel.defer {c:Cx} {w0:World} {n:Nat} {gs:Fr} {st:St} {a:Act} (r:Rel c w0 n gs st a) {f:FuncId} {fs cs:List V} {us ws:List Value} (h1:ay c fs us) (h2:ay c cs ws) :
  Rel c w0 n gs { st with defers:=.func f fs cs::st.defers } { a with defers:={ target:=.fn (.func f) ws.toArray,args:=us.toArray }::a.defers }:=
 ⟨r.heap,r.hrel,r.size,r.regs,r.frames,r.kx,r.base,⟨_,_,f,fs,cs,us,ws,rfl,rfl,rfl,h1,h2,r.defers⟩⟩
def KL (P:Program) (Q:aG->St->Prop) (q:V->St->Tree) (c:Cx) (w0:World) (n:Nat) (gs:Fr) (st:St) (a:Act) (dst:Option Tmp) (K:Act->World->Prop):Prop:=
 ∀c' st' a' v gv,c'.B=c.B->c'.J0=c.J0->a'.tmps=a.tmps->Rel c' w0 n gs st' a'->st'.regs=st.regs->aB c' v gv->WT P Q (q v st')->K (a'.put dst gv) c'.w
theorem KL.ok (h:KL P Q q c w0 n gs st a o.dst K):bL P Q q c w0 n gs st a o.dst K:=fun c' st' v gv h1 h2 h3 h4 h5 h6=>h c' st' a v gv h1 h2 rfl h3 h4 h5 h6
theorem Hr (r:Rel c w0 n gs st a) (hK:KL P Q q c w0 n gs st a o.dst K) {cl:Call} {t:Operand} {t' : Opd} {ys:List Opd} (ho:o.op = .defer cl) (gy:cl.callee = .value t) (ht:ao t=some t') (hc:dX cl.args.toList=some ys)
  (h:WT P Q (step (.defer t' ys) st q xx)):o.wp P a c.w K Qx:=by
 simp only [step] at h
 split at h
 ·rename_i f vs hg hvs
  have e1:=aK r ht hg;simp only [aB,aI] at e1;have hrun:=D2 (P:=P) (w:=c.w) ho gy e1;unfold Oper.wp;rw [hrun];have e : #[]++cl.args.map a.eval=(cl.args.toList.map a.eval).toArray:=by rw [mapA];simp
  rw [e];exact hK c _ _ .undef undef rfl rfl rfl (r.defer (lv r hc hvs) (cs:=[]) (ws:=[]) rfl) rfl trivial h
 ·rename_i f fs cs vs hg hvs
  obtain ⟨us,ws,e1,e2,e3⟩:=aK r ht hg;have hrun:=D2 (P:=P) (w:=c.w) ho gy e1;unfold Oper.wp;rw [hrun];have e:us.toArray++cl.args.map a.eval=(us++cl.args.toList.map a.eval).toArray:=by rw [<- acn,<- acA]
  rw [e];exact hK c _ _ .undef undef rfl rfl rfl (r.defer (e2.append (lv r hc hvs)) e3) rfl trivial h
 ·exact h.elim
theorem Ov (r:Rel c w0 n gs st a) (hX:Aa P Q xx c w0 n gs st a Qx) {x:Operand} {y:Opd} (ho:o.op = .panic x) (hc:ao x=some y) (h:WT P Q (step (.panic y) st q xx)):o.wp P a c.w K Qx:=by
 simp only [step] at h
 split at h
 ·rename_i t d hv
  obtain ⟨u,e1,e2⟩:=aK r hc hv;have hrun:(execOp a.eval o).run P c.w = .halt (.panic (.iface t u)) c.w:=by
   simp [execOp,ho,e1,Instr.panic,goPanic,pure,Bind.bind,Sem.bind,Sem.run]
  unfold Oper.wp;rw [hrun];exact hX c st (.iface t d) _ rfl rfl r rfl ⟨.iface t u,rfl,u,rfl,e2⟩ h
 ·exact h.elim
theorem MA {P:Program} {t:TypeId} (h:G9 P t=true):∃d,P.underlying t=some d/\∀m,d≠.interface m:=by
 unfold G9 at h
 split at h
 ·simp at h
 ·rename_i d hd hne
  exact ⟨d,hne,fun m hm=>hd m hm⟩
 ·simp at h
theorem R7 (r:Rel c w0 n gs st a) (hK:bL P Q q c w0 n gs st a o.dst K) {t:TypeId} {x:Operand} {y:Opd} (ho:o.op = .makeInterface t x) (ht:G9 P t=true) (hc:ao x=some y) (h:WT P Q (step (.vN t y) st q xx)):o.wp P a c.w K Qx:=by
 simp only [step] at h
 split at h
 ·rename_i v hv
  split at h
  ·rename_i d hd
   have e1:=aK r hc hv;rw [<- r.heap] at hd;have e2:=zw hd e1;refine bf r hK (v:=.d (.iface t d)) (gv:=.iface t (a.eval x)) ⟨_,rfl,e2⟩ h ?_;obtain ⟨dd,h1,h2⟩:=MA ht;simp only [execOp,ho];have:(Instr.makeInterface t (a.eval x)).run P c.w = .ok (.iface t (a.eval x)) c.w:=by
    unfold Instr.makeInterface;rw [run_bind_ok (cD h1)]
    cases dd<;>first|rfl|exact (h2 _ rfl).elim
   rw [run_bind_ok this];rfl
  ·exact h.elim
 ·exact h.elim
theorem Ox {P:Program} {t:TypeId} {z:Dat} (h:zeroV P t=some z) (w:World):∃v,(zeroValue t).run P w = .ok v w/\∀J,aI w J z v:=by
 unfold zeroV at h
 split at h
 ·rename_i i hi
  split at h
  ·rename_i vs hz
   simp only [aaC] at h;obtain ⟨ds,h1,rfl⟩:=h;refine ⟨.agg vs,?_,fun J=>⟨vs.toList,by simp,gx h1 w J⟩⟩;unfold zeroValue;rw [run_bind_ok (vS hi),hz];rfl
  ·rename_i v hne hz
   refine ⟨v,?_,fun J=>xM h w J⟩;unfold zeroValue;rw [run_bind_ok (vS hi),hz];rfl
  ·simp at h
 ·simp at h
end
end Uw
namespace Uw
open Go Go.RowKit
variable [Glob]
section
variable {P : Program} {Q : aG -> St -> Prop} {q : V -> St -> Tree} {c : Cx} {w0 : World} {n : Nat} {gs : Fr} {st : St} {a : Act} {K : Act -> World -> Prop} {Qx : Exit -> Act -> World -> Prop} {o : Oper} {xx : aG -> St -> Tree}
theorem Ht {op:BinOp} {t:TypeId} {x y:Operand} {p p' : Option Addr} {l c' l' c'' : Nat} {w:World}:(eqGuard op t x y (.slice p l c') (.slice p' l' c'')).run P w = .ok () w:=by
 unfold eqGuard
 cases op<;>simp
theorem rI {t e:TypeId} {p:Option Addr} {l c' l' c'' : Nat} {w:World} (hu:P.underlying t=some (.slice e)):(Op.equal t (.slice p l c') (.slice none l' c'')).run P w = .ok p.isNone w:=by
 have key:∀d,(Op.equalIn (d+1) t (.slice p l c') (.slice none l' c'')).run P w = .ok p.isNone w:=by
  intro d
  cases p<;>simp [Op.equalIn,cD hu]
 exact key 9999
theorem Oy (r:Rel c w0 n gs st a) (hK:bL P Q q c w0 n gs st a o.dst K) {op:BinOp} {t t' e:TypeId} {x y0:Operand} {y:Opd} {neg:Bool} (ho:o.op = .binOp op t x y0 t') (hop:op=if neg then .neq else .eql) (hu:P.underlying t=some (.slice e)) (hy:Jl y0=true)
  (hc:ao x=some y) (h:WT P Q (step (.eqn neg y) st q xx)):o.wp P a c.w K Qx:=by
 have hy' : ∃l' c'',a.eval y0 = .slice none l' c'':=by
  unfold Jl at hy
  split at hy
  ·exact ⟨_,_,rfl⟩
  ·simp at hy
 obtain ⟨l',c'',hy'⟩:=hy';have run:∀(p:Option Addr) (l cp:Nat),a.eval x = .slice p l cp->(execOp a.eval o).run P c.w = .ok (.value (.bool (if p.isNone then !neg else neg))) c.w:=by
  intro p l cp hx;refine qQ (v:=.bool true) ho (by rw [hx,hy'];exact Ht) ?_;rw [hx,hy']
  cases neg with
  | true=>
   simp only [if_true] at hop;subst hop;simp only [binOp];rw [run_bind_ok (rI hu)]
   cases p<;>rfl
  | false=>
   simp only [aaX,if_false] at hop;subst hop;simp only [binOp];rw [run_bind_ok (rI hu)]
   cases p<;>rfl
 simp only [step] at h
 split at h
 ·rename_i hv
  have e1:=aK r hc hv;simp only [aB,aI] at e1;exact bf r hK (gv:=.bool (!neg)) (by simp [aB,aI]) h (run none 0 0 e1)
 ·rename_i k xs z hv
  have e1:=aK r hc hv;simp only [aB,aI] at e1;simp only [WT] at h
  rcases e1 with ⟨⟨x9,e1,_⟩,rfl⟩|⟨b,o',cap,e1,_⟩
  ·cases x9 with
   | none=>exact bf r hK (gv:=.bool (!neg)) (by simp [aB,aI]) (h.1 rfl).1 (run none 0 0 e1)
   | some x9=>exact bf r hK (gv:=.bool neg) (by simp [aB,aI]) (h.1 rfl).2 (run (some x9) 0 0 e1)
  ·have hq:WT P Q (q (.d (.bool neg)) st):=by
    cases hxe:xs.isEmpty with
    | true=>exact (h.1 hxe).2
    | false=>exact h.2 hxe
   exact bf r hK (gv:=.bool neg) (by simp [aB,aI]) hq (run (some ⟨b,o',none⟩) _ _ e1)
 ·exact h.elim
theorem Oz (r:Rel c w0 n gs st a) (hK:bL P Q q c w0 n gs st a o.dst K) {op:BinOp} {t t' : TypeId} {ms:Array (String×TypeId)} {x y0:Operand} {y:Opd} {neg:Bool} (ho:o.op = .binOp op t x y0 t') (hop:op=if neg then .neq else .eql) (hu:P.underlying t=some (.interface ms)) (hy:Jm y0=true)
  (hc:ao x=some y) (h:WT P Q (step (.eqi neg y) st q xx)):o.wp P a c.w K Qx:=by
 have hy' : y0 = .const .nilIface:=by
  unfold Jm at hy
  split at hy
  ·rfl
  ·simp at hy
 subst hy';have key:∀(v:Value) (b:Bool),a.eval x=v->(v = .nilIface/\b=true\/(∃t u,v = .iface t u)/\b=false)->(execOp a.eval o).run P c.w = .ok (.value (.bool (if b then !neg else neg))) c.w:=by
  intro v b hx hv;have he:∀d,(Op.equalIn (d+1) t v .nilIface).run P c.w = .ok b c.w:=by
   intro d
   rcases hv with ⟨rfl,rfl⟩|⟨⟨t1,u,rfl⟩,rfl⟩<;>simp [Op.equalIn,cD hu]
  have he:(Op.equal t v .nilIface).run P c.w = .ok b c.w:=he 9999;have hg:(eqGuard op t x (.const .nilIface) v .nilIface).run P c.w = .ok () c.w:=by
   unfold eqGuard
   rcases hv with ⟨rfl,rfl⟩|⟨⟨t1,u,rfl⟩,rfl⟩<;>cases op<;>simp
  refine qQ (v:=.bool true) ho (by rw [hx];exact hg) ?_;rw [hx];show (binOp op t v .nilIface).run P c.w=_
  cases neg with
  | true=>
   simp only [if_true] at hop;subst hop
   rcases hv with ⟨rfl,rfl⟩|⟨⟨t1,u,rfl⟩,rfl⟩<;>simp only [binOp]<;>rw [run_bind_ok he]<;>rfl
  | false=>
   simp only [aaX,if_false] at hop;subst hop
   rcases hv with ⟨rfl,rfl⟩|⟨⟨t1,u,rfl⟩,rfl⟩<;>simp only [binOp]<;>rw [run_bind_ok he]<;>rfl
 simp only [step] at h
 split at h
 ·rename_i hv
  have e1:=aK r hc hv;simp only [aB,aI] at e1;exact bf r hK (gv:=.bool (!neg)) (by simp [aB,aI]) h (key _ true e1 (.inl ⟨rfl,rfl⟩))
 ·rename_i t1 d hv
  obtain ⟨u,e1,e2⟩:=aK r hc hv;exact bf r hK (gv:=.bool neg) (by simp [aB,aI]) h (key _ false e1 (.inr ⟨⟨t1,u,rfl⟩,rfl⟩))
 ·exact h.elim
end
end Uw
namespace Uw
open Go Go.RowKit
variable [Glob]
theorem V3 {P:Program} {w:World} {J:Nat->Nat->Prop} {k:Nat} {x y:Dat} {v u:Value} {b:Bool} (h:eqD k x y=some b) (hx:aI w J x v) (hy:aI w J y u) {t:TypeId} (ht:zO P t=some k) (d:Nat):(Op.equalIn (d+1) t v u).run P w = .ok b w:=by
 unfold eqD at h
 split at h
 ·rename_i k1 a k' b'
  split at h
  ·rename_i hk
   have hk:k1=k':=of_decide_eq_true hk;subst hk;simp at h;subst h;simp only [aI] at hx hy;subst hx hy;unfold zO at ht
   split at ht<;>simp at ht
   rename_i k2 hu;rw [run_equalIn_int w d t k1 k2 a b' hu]
   congr 1
  ·simp at h
 ·rename_i a b'
  simp at h;subst h;simp only [aI] at hx hy;subst hx hy;unfold zO at ht
  split at ht<;>simp at ht
  rename_i hu;exact run_equalIn_bool' w d t a b' hu
 ·rename_i a b'
  simp at h;subst h;simp only [aI] at hx hy;subst hx hy;unfold zO at ht
  split at ht<;>simp at ht
  rename_i hu;rw [run_equalIn_string w d t _ _ hu,bytes_eq]
 ·simp at h
theorem D3 {P:Program} {t:TypeId} {k:Nat} (h:zO P t=some k):kK P t=some false:=by
 unfold zO at h;unfold kK
 split at h<;>simp_all
theorem Hu {P:Program} {t:TypeId} {w:World} {cs:Array Value} {off:Nat} {v:Value} (ht:kK P t=some false) (hv:cs[off]? = some v):(part t cs off).run P w = .ok v w:=by
 unfold part;rw [run_bind_ok (xN ht)];simp [hv]
theorem Hv {P:Program} {c:Cx} {xs ys:Array Value} (d:Nat):∀(fs:List Field) (i:Nat) (ks:List Nat) (cs ds:List V) (b:Bool),He P i fs=some ks->ay c cs (xs.toList.drop i)->ay c ds (ys.toList.drop i)->eqL ks cs ds=some b->
  (Op.eqFields (d+1) xs ys fs).run P c.w = .ok b c.w:=by
 intro fs
 induction fs with
 | nil=>
  intro i ks cs ds b hf h1 h2 h;simp [He] at hf;subst hf
  cases cs with
  | cons a r=>simp [eqL] at h
  | nil=>
   cases ds with
   | cons a r=>simp [eqL] at h
   | nil=>simp [eqL] at h;subst h;rfl
 | cons f fs ih=>
  intro i ks cs ds b hf h1 h2 h;simp only [He] at hf
  split at hf
  ·rename_i k l hk hb hl
   simp at hf;subst hf;rw [aay] at hb;have hoff:=aaB hb.1;have hname:f.name≠ "_":=by simpa using hb.2
   unfold eqL at h
   split at h
   ·simp at *
   ·rename_i k0 ks0 x r y r' e1
    simp only [abE] at e1;obtain ⟨rfl,rfl⟩:=e1
    split at h
    ·rename_i b1 b2 hd hr
     simp at h;subst h;obtain ⟨v,vs',e1,g1,g2⟩:=h1;obtain ⟨u,us',e2,g3,g4⟩:=h2;have hv:xs[i]? = some v:=by
      have:(xs.toList.drop i)[0]? = some v:=by rw [e1];rfl
      rw [abq] at this;simpa using this
     have hu:ys[i]? = some u:=by
      have:(ys.toList.drop i)[0]? = some u:=by rw [e2];rfl
      rw [abq] at this;simpa using this
     have e1' : xs.toList.drop (i+1)=vs':=by
      rw [<- aaI,e1];rfl
     have e2' : ys.toList.drop (i+1)=us':=by
      rw [<- aaI,e2];rfl
     simp only [Op.eqFields,hname,ne_eq,not_false_eq_true,if_true];rw [run_bind_ok (Hu (D3 hk) (by rw [hoff];exact hv)),run_bind_ok (Hu (D3 hk) (by rw [hoff];exact hu)),run_bind_ok (V3 hd g1 g3 hk d)]
     cases b1 with
     | false=>simp
     | true=>
      simp only [Bool.not_true,aaX,if_false,acB];exact ih (i+1) _ _ _ b2 hl (by rw [e1'];exact g2) (by rw [e2'];exact g4) hr
    ·simp at h
   ·simp at h
  ·simp at hf
theorem xW {c:Cx} {v:V} {gv:Value} (h:v.isAgg=true) (r:aB c v gv):∃vs:List Value,gv = .agg vs.toArray/\ay c v.cells vs:=by
 cases v with
 | agg cs=>exact r
 | d x=>
  cases x with
  | agg ds=>obtain ⟨vs,h1,h2⟩:=r;exact ⟨vs,h1,ay.ofL h2⟩
  | _=>simp [V.isAgg] at h
 | _=>simp [V.isAgg] at h
section
variable {P : Program} {Q : aG -> St -> Prop} {q : V -> St -> Tree} {c : Cx} {w0 : World} {n : Nat} {gs : Fr} {st : St} {a : Act} {K : Act -> World -> Prop} {Qx : Exit -> Act -> World -> Prop} {o : Oper} {xx : aG -> St -> Tree}
theorem OA (r:Rel c w0 n gs st a) (hK:bL P Q q c w0 n gs st a o.dst K) {op:BinOp} {t t' : TypeId} {x1 x2:Operand} {y1 y2:Opd} {neg:Bool} {ks:List Nat} (ho:o.op = .binOp op t x1 x2 t') (hop:op=if neg then .neq else .eql) (ht:N2 P t=some ks)
  (hc1:ao x1=some y1) (hc2:ao x2=some y2) (h:WT P Q (step (.eqs neg ks y1 y2) st q xx)):o.wp P a c.w K Qx:=by
 simp only [step] at h
 split at h
 ·rename_i v u hv hu
  split at h
  ·rename_i b hag hb
   rw [aay] at hag;obtain ⟨vs,e1,e2⟩:=xW hag.1 (aK r hc1 hv);obtain ⟨us,e3,e4⟩:=xW hag.2 (aK r hc2 hu);unfold N2 at ht
   split at ht
   ·rename_i fs qS
    split at ht
    ·rename_i hg
     rw [aay] at hg;have hg1:P.stoodInHeld t=false:=by simpa using hg.1
     have hg2:P.eqGuardType P.depth t=false:=by simpa using hg.2
     have hfo:P.fieldsOf t=fs:=by simp [Program.fieldsOf,qS]
     have heq:(Op.equalIn 10000 t (.agg vs.toArray) (.agg us.toArray)).run P c.w = .ok b c.w:=by
      rw [run_equalIn_struct c.w 9999 t _ _ (by rw [hfo];exact qS) hg1,hfo];exact Hv 9998 fs.toList 0 ks _ _ b ht (by simpa using e2) (by simpa using e4) hb
     refine bf r hK (v:=.d (.bool (VG neg b))) (gv:=.bool (VG neg b)) (by simp [aB,aI]) h (qQ (v:=.bool true) ho ?_ ?_)
     ·rw [e1,e3];exact run_eqGuard_agg c.w op t x1 x2 _ _ hg2
     ·rw [e1,e3]
      cases neg with
      | true=>
       simp only [if_true] at hop;subst hop;rw [run_neq_struct,heq];rfl
      | false=>
       simp only [aaX,if_false] at hop;subst hop;rw [run_eql_struct,heq];rfl
    ·simp at ht
   ·simp at ht
  ·exact h.elim
 ·exact h.elim
end
end Uw
namespace Uw
open Go Go.RowKit
variable [Glob]
def nE (w:World) (r:Nat) (o:Obj):World:={ w with heap:=w.heap.setIfInBounds r o }
section
variable {P : Program} {w : World}
theorem u4 {r:Nat} {ms:Array MapEntry} {k:Nat} (h:w.heap[r]? = some (.map ms k)):(getObj r).run P w = .ok (.map ms k) w:=by
 simp [getObj,Sem.run,h]
theorem yG {r:Nat} {s:ByteArray} {k:Nat} (h:w.heap[r]? = some (.stringIter s k)):(getObj r).run P w = .ok (.stringIter s k) w:=by
 simp [getObj,Sem.run,h]
theorem Ad {r:Nat} {ms:Array MapEntry} {k:Nat} {o:Obj} (h:w.heap[r]? = some (.map ms k)):(setObj r o).run P w = .ok () (nE w r o):=by
 simp [setObj,Sem.run,h,nE]
theorem Hw {r:Nat} {s:ByteArray} {k:Nat} {o:Obj} (h:w.heap[r]? = some (.stringIter s k)):(setObj r o).run P w = .ok () (nE w r o):=by
 simp [setObj,Sem.run,h,nE]
theorem Ae {r:Nat} {o:Obj} {k:Nat} (h:k≠r):(nE w r o).heap[k]? = w.heap[k]?:=by
 simp [nE,acG,Ne.symm h]
theorem D4 {r:Nat} {o o' : Obj} (h:w.heap[r]? = some o'):(nE w r o).heap[r]? = some o:=by
 have hlt:r<w.heap.size:=by
  by_cases hlt:r<w.heap.size
  ·exact hlt
  ·rw [abU (by omega)] at h;cases h
 simp [nE,acG,hlt]
theorem D5 {r:Nat} {o:Obj}:(nE w r o).heap.size=w.heap.size:=by simp [nE]
def KN:Option IntKind->TypeDesc->Prop
 | some _,d=>∃k,d = .int k
 | none,d=>d = .string
theorem KO {t k e:TypeId} {kk:Option IntKind} {z:Dat} (h:Dn P t=some (k,e,kk,z)):P.underlying t=some (.map k e)/\zeroV P e=some z/\∃d,P.underlying k=some d/\KN kk d:=by
 unfold Dn at h
 split at h
 ·rename_i k' e' hu
  split at h
  ·rename_i ik z' hk hz
   simp at h;obtain ⟨rfl,rfl,rfl,rfl⟩:=h;exact ⟨hu,hz,_,hk,_,rfl⟩
  ·rename_i z' hk hz
   simp at h;obtain ⟨rfl,rfl,rfl,rfl⟩:=h;exact ⟨hu,hz,_,hk,rfl⟩
  ·simp at h
 ·simp at h
theorem Hy {w:World} {J:Nat->Nat->Prop} {kk:Option IntKind} {x:Dat} {key:oC} {v:Value} (h:keyOf kk x=some key) (r:aI w J x v):jW kk key v:=by
 unfold keyOf at h
 split at h
 ·split at h
  ·rename_i hk
   have hk:=of_decide_eq_true hk;subst hk;simp at h;subst h;exact r
  ·simp at h
 ·simp at h;subst h;exact r
 ·simp at h
theorem run_checkKey {b:Bool} {t:TypeId} {d:TypeDesc} {kk:Option IntKind} {key:oC} {v:Value} (hu:P.underlying t=some d) (hk:KN kk d) (hv:jW kk key v):(Instr.checkKey b 10000 t v).run P w = .ok () w:=by
 rw [show (10000:Nat)=9999+1 from rfl,Instr.checkKey,run_bind_ok (cD hu)]
 cases kk with
 | some k=>obtain ⟨k',rfl⟩:=hk;rfl
 | none=>cases hk;rfl
theorem Jr {kk:Option IntKind} {key:oC} {v u:Value} (h1:jW kk key v) (h2:jW kk key u):u=v:=by
 cases kk<;>cases key<;>simp only [jW] at h1 h2<;>first|(rw [h1,h2])|exact h1.elim
theorem D6 (s t:List UInt8):((⟨s.toArray⟩:ByteArray) == (⟨t.toArray⟩:ByteArray))=decide (s=t):=by
 have h:((⟨s.toArray⟩:ByteArray) == (⟨t.toArray⟩:ByteArray))=(s.toArray == t.toArray):=rfl;rw [h];apply Bool.eq_iff_iff.mpr;simp
theorem R9 {kk:Option IntKind} {d:TypeDesc} (hk:KN kk d) {k1 k2:oC} {v u:Value} (h1:jW kk k1 v) (h2:jW kk k2 u):Instr.sameNow d v u=some (decide (k1=k2)):=by
 cases kk with
 | some k=>
  obtain ⟨k',rfl⟩:=hk
  cases k1 with
  | s b=>exact h1.elim
  | i n1=>
   cases k2 with
   | s b=>exact h2.elim
   | i n2=>
    simp only [jW] at h1 h2;subst h1 h2;simp [Instr.sameNow];apply Bool.eq_iff_iff.mpr;simp
 | none=>
  cases hk
  cases k1 with
  | i n1=>exact h1.elim
  | s b1=>
   cases k2 with
   | i n2=>exact h2.elim
   | s b2=>
    simp only [jW] at h1 h2;subst h1 h2;simp only [Instr.sameNow,oC.s.injEq]
    congr 1
    exact D6 b1 b2
theorem Si {kk:Option IntKind} {key:oC} {v:Value} (h1:jW kk key v):Instr.sameBits 10000 v v=true:=by
 cases kk<;>cases key<;>simp only [jW] at h1<;>first|(subst h1;simp [Instr.sameBits,D6];done)|exact h1.elim
theorem find_ok {J:Nat->Nat->Prop} {kk:Option IntKind} {d:TypeDesc} (hk:KN kk d) {key:oC} {x:Value} (hx:jW kk key x):∀(es:List (oC×Dat)) (ms:List MapEntry) (i:Nat),qd w J kk es ms->
  (bh es key=none/\Instr.findNow d x ms i=some none/\∀(v:Value) (b:Nat) (dd:Dat),aI w J dd v->qd w J kk (dQ es key dd) (ms++[{ key:=x,val:=v,born:=b }]))\/
  (∃dv j v m,bh es key=some dv/\Instr.findNow d x ms i=some (some (i+j,v))/\ms[j]? = some m/\jW kk key m.key/\aI w J dv v/\∀(u:Value) (dd:Dat),aI w J dd u->qd w J kk (dQ es key dd) (ms.modify j fun e=>{ e with key:=x,val:=u }))
 | [],ms,i,r=>by
  simp only [qd] at r;subst r;refine .inl ⟨rfl,rfl,fun v b dd hv=>⟨_,[],rfl,hx,hv,rfl⟩⟩
 | (k,dd)::es,ms,i,⟨m,ms',e1,h2,h3,h4⟩=>by
  subst e1;have hs:=R9 hk hx h2;by_cases hkk:key=k
  ·subst hkk
   refine .inr ⟨dd,0,m.val,m,by simp [bh],by simp [Instr.findNow,hs],rfl,h2,h3,fun u dd' hu=>?_⟩;simp only [dQ,decide_true,List.modify_zero_cons];exact ⟨_,ms',rfl,hx,hu,h4⟩
  ·have hd:decide (key=k)=false:=by simpa using hkk
   rcases find_ok hk hx es ms' (i+1) h4 with ⟨g1,g2,g3⟩|⟨dv,j,v,m',g1,g2,g3,g4,g5,g6⟩
   ·refine .inl ⟨by simp [bh,hd,g1],by simp [Instr.findNow,hs,hd,g2],fun v b dd' hv=>?_⟩
    simp only [dQ,hd];exact ⟨m,_,rfl,h2,h3,g3 v b dd' hv⟩
   ·refine .inr ⟨dv,j+1,v,m',by simp [bh,hd,g1],by simp [Instr.findNow,hs,hd,g2];omega,by simpa using g3,g4,g5,fun u dd' hu=>?_⟩
    simp only [dQ,hd,List.modify_succ_cons];exact ⟨m,_,rfl,h2,h3,g6 u dd' hu⟩
theorem run_findKey {t:TypeId} {d:TypeDesc} {v:Value} {ms:List MapEntry} {res:Option (Nat×Value)} (hu:P.underlying t=some d) (h:Instr.findNow d v ms 0=some res):(Instr.findKey t v ms).run P w = .ok res w:=by
 unfold Instr.findKey;rw [run_bind_ok (cD hu),h];rfl
theorem qd.length {J:Nat->Nat->Prop} {kk:Option IntKind}:∀(es:List (oC×Dat)) (ms:List MapEntry),qd w J kk es ms->ms.length=es.length
 | [],ms,r=>by simp only [qd] at r;subst r;rfl
 | (k,dd)::es,ms,⟨m,ms',e1,h2,h3,h4⟩=>by subst e1;simp [qd.length es ms' h4]
end
section
variable {P : Program} {Q : aG -> St -> Prop} {q : V -> St -> Tree} {c : Cx} {w0 : World} {n : Nat} {gs : Fr} {st : St} {a : Act} {K : Act -> World -> Prop} {Qx : Exit -> Act -> World -> Prop} {o : Oper} {xx : aG -> St -> Tree}
theorem Rel.setObj (r:Rel c w0 n gs st a) {id:Nat} {b b' : Blk} (hl:look c.heap id=some b) (hna:∀k xs,b≠.arr k xs) (hph:Ph (c.pl id) b) (hbe:dm (c.pl id) (c.pl id) b b') {ob:Obj}
  (hb:Evo c (c.aN id b' (c.pl id) (nE c.w (c.pl id).gb ob))->cU (c.aN id b' (c.pl id) (nE c.w (c.pl id).gb ob)) id b') :
  Rel (c.aN id b' (c.pl id) (nE c.w (c.pl id).gb ob)) w0 n gs { st with heap:=(id,b')::st.heap } a:=by
 have hge:=r.hrel.ge id b hl hph;have hgB:=r.hrel.geB hl hph;refine r.aN hl (fun k _ hk=>Ae (hk hph)) (by rw [D5];exact aax _) ⟨rfl,rfl,rfl,by rw [D5];exact aax _,fun k hk=>Ae (by omega)⟩ (.inl ⟨rfl,fun _=>hph⟩) ?_ hbe hb;intro _ oo hi;exfalso
 rcases hi with ⟨h1,_⟩|⟨h1,h2,h3⟩
 ·exact hge h1
 ·obtain ⟨k,xs,h,_⟩:=h3 id b hl hph rfl
  exact hna k xs h
theorem OB (r:Rel c w0 n gs st a) (hK:bL P Q q c w0 n gs st a o.dst K) {t:TypeId} {kk:Option IntKind} (ho:o.op = .makeMap t none) (h:WT P Q (step (.lq kk) st q xx)):o.wp P a c.w K Qx:=by
 simp only [step] at h;refine cF (w':=c.w.alloc (.map #[] 0)) (gv:=.map (some c.w.heap.size)) ?_ (hK (c.push st.next 0 (.map kk []) (.map #[] 0)) _ _ _ rfl rfl (r.push ?_) rfl ?_ h)
 ·simp [execOp,ho,Instr.makeMap,newObj,pure,Bind.bind,Sem.bind,Sem.run]
 ·refine ⟨#[],0,?_,rfl⟩
  show (c.w.heap.push (.map #[] 0))[((c.push st.next 0 (.map kk []) (.map #[] 0)).pl st.next).gb]? = _;simp [Cx.push]
 ·simp [aB,Cx.push,ai,fU]
theorem V4 (r:Rel c w0 n gs st a) (hK:bL P Q q c w0 n gs st a o.dst K) {t:TypeId} {x:Operand} {y:Opd} (ho:o.op = .range t x) (hu:P.underlying t=some .string) (hc:ao x=some y) (h:WT P Q (step (.rng y) st q xx)):o.wp P a c.w K Qx:=by
 simp only [step] at h
 split at h
 ·rename_i s hv
  have e1:=aK r hc hv;simp only [aB,aI] at e1;refine cF (w':=c.w.alloc (.stringIter ⟨s.toArray⟩ 0)) (gv:=.pointer (some ⟨c.w.heap.size,0,none⟩)) ?_ (hK (c.push st.next 0 (.iter s 0) (.stringIter ⟨s.toArray⟩ 0)) _ _ _ rfl rfl (r.push ?_) rfl ?_ h)
  ·simp only [execOp,ho,e1]
   have:(Instr.range t (.string ⟨s.toArray⟩)).run P c.w = .ok (.pointer (some ⟨c.w.heap.size,0,none⟩)) (c.w.alloc (.stringIter ⟨s.toArray⟩ 0)):=by
    unfold Instr.range;simp [cD hu,newObj,Sem.run]
   rw [run_bind_ok this];rfl
  ·show (c.w.heap.push (.stringIter ⟨s.toArray⟩ 0))[((c.push st.next 0 (.iter s 0) (.stringIter ⟨s.toArray⟩ 0)).pl st.next).gb]? = _
   simp [Cx.push]
  ·simp [aB,Cx.push,ai,fU]
 ·exact h.elim
theorem V5 (r:Rel c w0 n gs st a) (hK:bL P Q q c w0 n gs st a o.dst K) {x:Operand} {y:Opd} (ho:o.op = .next x true) (hc:ao x=some y) (h:WT P Q (step (.nxt y) st q xx)):o.wp P a c.w K Qx:=by
 simp only [step] at h
 split at h
 ·rename_i id hv
  have e1:=aK r hc hv;simp only [aB] at e1;rw [r.heap] at e1
  split at h
  ·rename_i s pos hl
   rw [hl] at e1;simp only [fU] at e1;have hl' : look c.heap id=some (.iter s pos):=by rw [r.heap];exact hl
   have hb:c.w.heap[(c.pl id).gb]? = some (.stringIter ⟨s.toArray⟩ pos):=r.hrel.blk id _ hl';simp only [WT] at h
   cases hp:decide (pos<s.length) with
   | false=>
    have hq:=h.2 hp;have hp:=of_decide_eq_false hp;refine bf r hK (v:=.tuple [.d (.bool false)]) (gv:=.tuple #[.bool false]) ⟨[.bool false],rfl,.bool false,[],rfl,by simp [aB,aI],rfl⟩ hq ?_;simp only [execOp,ho,e1];have:(Instr.next (.pointer (some ⟨(c.pl id).gb,0,none⟩)) true o.type).run P c.w = .ok (.tuple #[.bool false]) c.w:=by
     unfold Instr.next;simp only;rw [run_bind_ok (yG hb)];simp [ByteArray.size,hp]
    rw [run_bind_ok this];rfl
   | true=>
    have hq:=h.1 hp;have hp:=of_decide_eq_true hp;have hr:Rel (c.aN id (.iter s (pos+(ca s pos).2)) (c.pl id) (nE c.w (c.pl id).gb (.stringIter ⟨s.toArray⟩ (pos+(ca s pos).2)))) w0 n gs _ a:=
     r.setObj (b':=.iter s (pos+(ca s pos).2)) hl' (by simp) trivial rfl (fun _=>by
      show (nE c.w (c.pl id).gb _).heap[((c.aN id _ (c.pl id) _).pl id).gb]? = _;rw [ae.2,D4 hb])
    refine cF (w':=nE c.w (c.pl id).gb (.stringIter ⟨s.toArray⟩ (pos+(ca s pos).2))) (gv:=.tuple #[.bool true,.int .i64 pos,.int .i32 (ca s pos).1]) ?_ (hK (c.aN id (.iter s (pos+(ca s pos).2)) (c.pl id) (nE c.w (c.pl id).gb (.stringIter ⟨s.toArray⟩ (pos+(ca s pos).2)))) _ (.tuple [.d (.bool true),.d (.int .i64 pos),.d (.int .i32 (ca s pos).1)]) _ rfl rfl hr rfl ⟨[.bool true,.int .i64 pos,.int .i32 (ca s pos).1],rfl,_,_,rfl,by simp [aB,aI],_,_,rfl,by simp [aB,aI],_,_,rfl,by simp [aB,aI],rfl⟩ hq);simp only [execOp,ho,e1];have:(Instr.next (.pointer (some ⟨(c.pl id).gb,0,none⟩)) true o.type).run P c.w = .ok (.tuple #[.bool true,.int .i64 pos,.int .i32 (ca s pos).1]) (nE c.w (c.pl id).gb (.stringIter ⟨s.toArray⟩ (pos+(ca s pos).2))):=by
     unfold Instr.next;simp only;rw [run_bind_ok (yG hb)];have hp' : pos<(⟨s.toArray⟩:ByteArray).size:=by simpa [ByteArray.size] using hp
     simp only [hp',if_true];rw [run_bind_ok (Hw hb)];simp [goInt,DW]
    rw [run_bind_ok this];rfl
  ·exact h.elim
 ·exact h.elim
theorem OC (r:Rel c w0 n gs st a) (hK:bL P Q q c w0 n gs st a o.dst K) {t k e:TypeId} {kk:Option IntKind} {z:Dat} {x i:Operand} {y j:Opd} {ok:Bool} (ho:o.op = .lookup t x i ok) (ht:Dn P t=some (k,e,kk,z))
  (hc1:ao x=some y) (hc2:ao i=some j) (h:WT P Q (step (.lkp ok kk z y j) st q xx)):o.wp P a c.w K Qx:=by
 obtain ⟨hu,hz,dk,hk,hkk⟩:=KO ht;simp only [step] at h
 split at h
 ·rename_i id xd hv1 hv2
  have e1:=aK r hc1 hv1;have e2:=aK r hc2 hv2;simp only [aB] at e1;rw [r.heap] at e1
  split at h
  ·rename_i kk' es hl
   rw [hl] at e1;simp only [fU] at e1;have hl' : look c.heap id=some (.map kk' es):=by rw [r.heap];exact hl
   split at h
   ·rename_i key hd hkey
    have hd:=of_decide_eq_true hd;subst hd;obtain ⟨ms,clock,hb,hm⟩:=r.hrel.blk id _ hl';have hkr:=Hy hkey e2;simp only [WT] at h;have run:∀(fd:Option (Nat×Value)) (v:Value) (b:Bool),Instr.findNow dk (a.eval i) ms.toList 0=some fd->((fd=none/\(zeroValue e).run P c.w = .ok v c.w/\b=false)\/(∃jj,fd=some (jj,v)/\b=true))->
      (execOp a.eval o).run P c.w = .ok (.value (if ok then .tuple #[v,.bool b] else v)) c.w:=by
     intro fd v b hf hcase;simp only [execOp,ho,e1];have:(Instr.lookup t (.map (some (c.pl id).gb)) (a.eval i) ok).run P c.w = .ok (if ok then .tuple #[v,.bool b] else v) c.w:=by
      unfold Instr.lookup;rw [run_bind_ok (cD hu)];simp only;rw [run_bind_ok (u4 hb)];simp only;rw [run_bind_ok (s:=pure ms) (x:=ms) (w':=c.w) rfl];rw [run_bind_ok (run_checkKey hk hkk hkr),run_bind_ok (run_findKey hk hf)]
      rcases hcase with ⟨rfl,hz,rfl⟩|⟨jj,rfl,rfl⟩
      ·simp only
       rw [run_bind_ok hz];rfl
      ·simp only
       rfl
     rw [run_bind_ok this];rfl
    have res:∀(u:V) (v:Value) (b:Bool),aB c u v->aB c (G8 ok u b) (if ok then .tuple #[v,.bool b] else v):=by
     intro u v b hu
     cases ok with
     | true=>exact ⟨[v,.bool b],rfl,_,_,rfl,hu,_,_,rfl,by simp [aB,aI],rfl⟩
     | false=>exact hu
    rcases find_ok hkk hkr es ms.toList 0 hm with ⟨g1,g2,_⟩|⟨dv,jj,v,m,g1,g2,_,_,g5,_⟩
    ·obtain ⟨zv,z1,z2⟩:=Ox hz c.w
     exact bf r hK (res _ _ _ (aB.jS (z2 _))) (h.2 (by rw [g1];rfl)) (run _ zv false g2 (.inl ⟨rfl,z1,rfl⟩))
    ·obtain ⟨dv',h1,h2⟩:=h.1 (by rw [g1];rfl)
     rw [g1] at h1;injection h1 with h1;subst h1
     exact bf r hK (res _ _ _ (aB.jS g5)) h2 (run _ v true g2 (.inr ⟨_,rfl,rfl⟩))
   ·exact h.elim
  ·exact h.elim
 ·exact h.elim
theorem E5 (r:Rel c w0 n gs st a) (hK:bL P Q q c w0 n gs st a o.dst K) {t k e:TypeId} {kk:Option IntKind} {z:Dat} {x i u:Operand} {y j l:Opd} (ho:o.op = .mapUpdate t x i u\/o.op = .insert t x i u) (ht:Dn P t=some (k,e,kk,z))
  (hc1:ao x=some y) (hc2:ao i=some j) (hc3:ao u=some l) (h:WT P Q (step (.oD kk y j l) st q xx)):o.wp P a c.w K Qx:=by
 obtain ⟨hu,hz,dk,hk,hkk⟩:=KO ht;simp only [step] at h
 split at h
 ·rename_i id xd uv hv1 hv2 hv3
  have e1:=aK r hc1 hv1;have e2:=aK r hc2 hv2;have e3:=aK r hc3 hv3;simp only [aB] at e1;rw [r.heap] at e1
  split at h
  ·rename_i kk' es dd hl hdd
   rw [hl] at e1;simp only [fU] at e1;have hl' : look c.heap id=some (.map kk' es):=by rw [r.heap];exact hl
   rw [<- r.heap] at hdd;have e3:=zw hdd e3
   split at h
   ·rename_i key hd hkey
    have hd:=of_decide_eq_true hd;subst hd;obtain ⟨ms,clock,hb,hm⟩:=r.hrel.blk id _ hl';have hkr:=Hy hkey e2;have fin:∀(ms' : Array MapEntry) (k' : Nat),qd c.w (Imm c) kk (dQ es key dd) ms'.toList->(Instr.mapUpdate t (.map (some (c.pl id).gb)) (a.eval i) (a.eval u)).run P c.w = .ok () (nE c.w (c.pl id).gb (.map ms' k'))->o.wp P a c.w K Qx:=by
     intro ms' k' hm' hrun;have hr:Rel (c.aN id (.map kk (dQ es key dd)) (c.pl id) (nE c.w (c.pl id).gb (.map ms' k'))) w0 n gs _ a:=
      r.setObj (b':=.map kk (dQ es key dd)) hl' (by simp) trivial ⟨rfl,rfl⟩ (fun he=>by
       refine ⟨ms',k',?_,qd.keep he.keeps _ _ hm'⟩;show (nE c.w (c.pl id).gb _).heap[((c.aN id _ (c.pl id) _).pl id).gb]? = _;rw [ae.2,D4 hb])
     refine zS (w':=nE c.w (c.pl id).gb (.map ms' k')) ?_ (hK (c.aN id (.map kk (dQ es key dd)) (c.pl id) (nE c.w (c.pl id).gb (.map ms' k'))) _ .undef undef rfl rfl hr rfl trivial h)
     rcases ho with ho|ho
     ·simp only [execOp,ho,e1]
      rw [run_bind_ok hrun];rfl
     ·simp only [execOp,ho,e1]
      rw [run_bind_ok hrun];rfl
    have pre:∀(fd:Option (Nat×Value)),Instr.findNow dk (a.eval i) ms.toList 0=some fd->(Instr.mapUpdate t (.map (some (c.pl id).gb)) (a.eval i) (a.eval u)).run P c.w =
      (match fd with
       | some (i1,_)=>do
        let key <- Instr.keyThatStays (((ms[i1]?).map (·.key)).getD (a.eval i)) (a.eval i)
        setObj (c.pl id).gb (.map (ms.modify i1 fun e=>{ e with key,val:=a.eval u }) clock)
       | none=>setObj (c.pl id).gb (.map (ms.push { key:=a.eval i,val:=a.eval u,born:=clock }) (clock+1)):Sem Unit).run P c.w:=by
     intro fd hf;unfold Instr.mapUpdate;rw [run_bind_ok (cD hu)];simp only;rw [run_bind_ok (u4 hb)];simp only;rw [run_bind_ok (run_checkKey hk hkk hkr),run_bind_ok (run_findKey hk hf)];rfl
    rcases find_ok hkk hkr es ms.toList 0 hm with ⟨g1,g2,g3⟩|⟨dv,jj,v,m,g1,g2,g3,g4,g5,g6⟩
    ·refine fin (ms.push { key:=a.eval i,val:=a.eval u,born:=clock }) (clock+1) ?_ ?_
     ·rw [Array.toList_push];exact g3 _ _ _ e3
     ·rw [pre _ g2];exact Ad hb
    ·refine fin (ms.modify jj fun e=>{ e with key:=a.eval i,val:=a.eval u }) clock ?_ ?_
     ·rw [Array.toList_modify];exact g6 _ _ e3
     ·rw [pre _ g2]
      simp only [aaF];have hm0:ms[jj]? = some m:=by simpa using g3
      have hst:(Instr.keyThatStays (((ms[jj]?).map (·.key)).getD (a.eval i)) (a.eval i)).run P c.w = .ok (a.eval i) c.w:=by
       rw [hm0];simp only [adh,Option.getD_some];rw [Jr hkr g4];unfold Instr.keyThatStays;rw [if_pos (Si hkr)];rfl
      rw [run_bind_ok hst];exact Ad hb
   ·exact h.elim
  ·exact h.elim
 ·exact h.elim
theorem Sj (r:Rel c w0 n gs st a) (hK:bL P Q q c w0 n gs st a o.dst K) {cl:Call} {x:Operand} {t k e:TypeId} {y:Opd} (ho:o.op = .call cl) (hb:cl.callee = .builtin .len) (hx:cl.args.toList=[x]) (ht:cl.argTypes.toList=[t])
  (hu:P.underlying t=some (.map k e)) (hc:ao x=some y) (h:WT P Q (step (.Dk y) st q xx)):o.wp P a c.w K Qx:=by
 simp only [step] at h
 split at h
 ·rename_i id hv
  have e1:=aK r hc hv;simp only [aB] at e1;rw [r.heap] at e1
  split at h
  ·rename_i kk es hl
   rw [hl] at e1;simp only [fU] at e1;have hl' : look c.heap id=some (.map kk es):=by rw [r.heap];exact hl
   obtain ⟨ms,clock,hbk,hm⟩:=r.hrel.blk id _ hl';have hlen:=qd.length _ _ hm;simp only [acI] at hlen;refine bf r hK (v:=.d (.int .i64 es.length)) (gv:=.int .i64 es.length) (by simp [aB,aI]) h ?_;obtain ⟨cal,args,ats⟩:=cl;simp only at hb hx ht;subst hb;have hx' : args = #[x]:=by rw [<- hx]
   have ht' : ats = #[t]:=by rw [<- ht]
   subst hx' ht';simp only [execOp,ho,resolve,invoke,builtin];have:(Builtin.len_ #[t] o.type #[a.eval x]).run P c.w = .ok (.int .i64 es.length) c.w:=by
    rw [e1];unfold Builtin.len_;simp [cD hu,u4 hbk,goInt,hlen]
   simp [this]
  ·exact h.elim
 ·exact h.elim
theorem Vo (r:Rel c w0 n gs st a) (hK:bL P Q q c w0 n gs st a o.dst K) {cl:Call} {x1 x2:Operand} {y1 y2:Opd} {mx:Bool} (ho:o.op = .call cl) (hb:cl.callee = .builtin (if mx then .max else .min)) (hx:cl.args.toList=[x1,x2])
  (hc1:ao x1=some y1) (hc2:ao x2=some y2) (h:WT P Q (step (.mm mx y1 y2) st q xx)):o.wp P a c.w K Qx:=by
 simp only [step] at h
 split at h
 ·rename_i k i k' j hv1 hv2
  have e1:=aK r hc1 hv1;have e2:=aK r hc2 hv2;simp only [aB,aI] at e1 e2
  split at h
  ·rename_i hd
   have hd:=of_decide_eq_true hd;subst hd;refine bf r hK (v:=.d (.int k (mmI mx i j))) (gv:=.int k (mmI mx i j)) (by simp [aB,aI]) h ?_;obtain ⟨cal,args,ats⟩:=cl;simp only at hb hx;subst hb;have hx' : args = #[x1,x2]:=by rw [<- hx]
   subst hx';simp only [execOp,ho,resolve,invoke]
   cases mx with
   | true=>
    have:(Builtin.max_ ats o.type #[a.eval x1,a.eval x2]).run P c.w = .ok (.int k (mmI true i j)) c.w:=by
     rw [e1,e2];unfold Builtin.max_;simp only [List.foldlM_cons,List.foldlM_nil,Builtin.max2,mmI];have:(if j>i then j else i)=max i j:=by split<;>omega
     rw [this];rfl
    simp [this,builtin]
   | false=>
    have:(Builtin.min_ ats o.type #[a.eval x1,a.eval x2]).run P c.w = .ok (.int k (mmI false i j)) c.w:=by
     rw [e1,e2];unfold Builtin.min_;simp only [List.foldlM_cons,List.foldlM_nil,Builtin.min2,mmI];have:(if j<i then j else i)=min i j:=by split<;>omega
     rw [this];rfl
    simp [this,builtin]
  ·exact h.elim
 ·exact h.elim
theorem Sl (r:Rel c w0 n gs st a) (hK:bL P Q q c w0 n gs st a o.dst K) {s:TypeId} {fs:Array Field} {f:Nat} {fd:Field} {k:Nat} {g:Bool} {x:Operand} {y:Opd} (ho:o.op = .field s x f) (hu:P.underlying s=some (.struct fs)) (hf:fs[f]? = some fd) (hg:kK P fd.type=some g) (hk:sizeT P fd.type=some k)
  (hc1:ao x=some y) (h:WT P Q (step (.zb g k fd.offset y) st q xx)):o.wp P a c.w K Qx:=by
 simp only [step,aj] at h
 split at h
 ·rename_i v hv1
  split at h
  ·rename_i hag
   rw [aay] at hag;obtain ⟨vs,e1,e2⟩:=xW hag.1 (aK r hc1 hv1);have hle:=aaO hag.2
   split at h
   ·rename_i u hmk
    obtain ⟨gu,p1,p2⟩:=sw ((e2.drop fd.offset).take k) hmk;refine bf r hK p2 h ?_;simp only [execOp,ho];have:(Instr.field s (a.eval x) f).run P c.w = .ok gu c.w:=by
     unfold Instr.field;rw [e1,run_bind_ok (cD hu)];simp only [hf];rw [run_bind_ok (s:=asAgg _) (x:=vs.toArray) (w':=c.w) rfl];unfold part;rw [run_bind_ok (xN hg)]
     cases g with
     | true=>
      simp only [pack,aaP] at p1;subst p1;simp only [if_true];rw [run_bind_ok (ij hk)];simp [List.extract_toArray,List.extract_eq_take_drop]
     | false=>
      simp only [aaX,if_false];have hlen:=LZ (g:=false) hmk
      match hl:(vs.drop fd.offset).take k,p1 with
      | [v0],p1=>
       simp only [pack,aaP] at p1;subst p1;have hv0:vs[fd.offset]? = some v0:=by
        have h0:((vs.drop fd.offset).take k)[0]? = some v0:=by rw [hl];rfl
        rw [aaH] at h0
        split at h0
        ·simpa using h0
        ·simp at h0
       simp [hv0]
    rw [run_bind_ok this];rfl
   ·exact h.elim
  ·exact h.elim
 ·exact h.elim
end
end Uw
namespace Uw
open Go Go.RowKit
variable [Glob]
section
variable {P : Program} {Q : aG -> St -> Prop} {q : V -> St -> Tree} {c : Cx} {w0 : World} {n : Nat} {gs : Fr} {st : St} {a : Act} {K : Act -> World -> Prop} {Qx : Exit -> Act -> World -> Prop} {o : Oper} {xx : aG -> St -> Tree}
theorem Evo.heq {c:Cx} {h:Heap} (hh:∀i,look h i=look c.heap i):Evo c { c with heap:=h }:=by
 refine ⟨fun b o hi=>⟨?_,rfl⟩,fun id b hb=>⟨b,(hh id).trans hb,by cases b<;>simp [dm]⟩⟩
 rcases hi with hi|⟨h1,h2,h3⟩
 ·exact .inl hi
 ·exact .inr ⟨h1,h2,fun id blk hl hp hg=>h3 id blk ((hh id).symm.trans hl) hp hg⟩
theorem c9.heq {next:Nat} (r:c9 c w0 next) {h:Heap} (hh:∀i,look h i=look c.heap i):c9 { c with heap:=h } w0 next:=by
 have e:∀{id b},look h id=some b->look c.heap id=some b:=fun hl=>(hh _).symm.trans hl;exact ⟨r.below,r.other,r.lr,fun id b hl=>cU.evo (Evo.heq hh) rfl (fun _=>rfl) (r.blk id b (e hl)),fun id b hl=>r.lt id b (e hl),fun id b hl hp=>r.ge id b (e hl) hp,
  fun id id' b b' h1 h2 p1 p2 hg=>r.inj id id' b b' (e h1) (e h2) p1 p2 hg⟩
theorem Rel.heq (r:Rel c w0 n gs st a) {h:Heap} (hh:∀i,look h i=look st.heap i):Rel { c with heap:=h } w0 n gs { st with heap:=h } a:=
 r.evo (Evo.heq (by rw [r.heap];exact hh)) rfl (r.hrel.heq (by rw [r.heap];exact hh)) rfl rfl rfl (aax _)
def X3 (q:V->St->Tree):V->St->Tree:=fun v st'=>.heq st'.heap fun h=>q v { st' with heap:=h }
theorem bL.heq {dst:Option Tmp} (hK:bL P Q q c w0 n gs st a dst K):bL P Q (X3 q) c w0 n gs st a dst K:=by
 intro c' st' v gv h1 h2 h3 h4 h5 h6;obtain ⟨h',hh,hw⟩:=h6;have hh' : ∀i,look h' i=look c'.heap i:=by rw [h3.heap];exact hh
 exact hK { c' with heap:=h' } { st' with heap:=h' } v gv h1 h2 (h3.heq hh) h4 (aB.evo (Evo.heq hh') v gv h5) hw
theorem xX {v:V} (h:WT P Q (q v st)):WT P Q (X3 q v st):=⟨st.heap,fun _=>rfl,h⟩
theorem OD (r:Rel c w0 n gs st a) (hK:bL P Q q c w0 n gs st a o.dst K) {t:TypeId} {x:Operand} {y:Opd} (ho:o.op = .load t x) (hg:kK P t=some false) (hm:sizeT P t=some 1) (hc:ao x=some y)
  (h:WT P Q (step (.fw y) st q xx)):o.wp P a c.w K Qx:=by
 refine KH (xx:=xx) r hK ho hg hm hc ?_;simp only [step,aj] at h ⊢
 split at h
 ·rename_i id off hv
  split at h
  ·rename_i cs hl
   obtain ⟨v,hv',h⟩:=h;have hlt:off<cs.length:=by
    rcases aa2 off cs.length with h|h
    ·exact h
    ·rw [aaJ h] at hv';cases hv'
   have e:(cs.drop off).take 1=[v]:=by
    rw [aaW hlt];rw [aaU hlt] at hv';injection hv' with hv'
    rw [hv'];rfl
   have e2:Nat.ble (off+1) cs.length=true:=adx (by omega);simp only [hv,hl,e2,e,si];exact h
  ·exact h.elim
 ·rename_i cs off hv
  simp only [hv];exact h
 ·exact h.elim
theorem MB {α:Type} (l:List α) (i:Nat) (x:α):setAt l i [x]=l.set i x:=rfl
theorem cells_one {v:V} (h:vP v=true):v.cells=[v]:=by
 cases v with
 | d x=>cases x<;>first|rfl|simp [vP] at h
 | agg cs=>simp [vP] at h
 | _=>rfl
theorem MC (r:Rel c w0 n gs st a) (hK:bL P Q q c w0 n gs st a o.dst K) {t:TypeId} {x1 x2:Operand} {y1 y2:Opd} (ho:o.op = .store t x1 x2) (hm:sizeT P t=some 1) (hc1:ao x1=some y1) (hc2:ao x2=some y2)
  (h:WT P Q (step (.qJ y1 y2) st q xx)):o.wp P a c.w K Qx:=by
 refine Hl (xx:=xx) r hK ho hm hc1 hc2 ?_;simp only [step,aj,az] at h ⊢
 split at h
 ·rename_i id off v hv1 hv2
  split at h
  ·rename_i cs hl h1
   simp only [WT] at h
   cases hd:decide (off<cs.length) with
   | false=>exact (h.2 hd).elim
   | true=>
    have h:=h.1 hd;have hd:=of_decide_eq_true hd;have e2:Nat.ble (off+1) cs.length=true:=adx (by omega);simp only [hv1,hv2,hl,cells_one h1,MB,e2];simp only [aaA,aa3,acP,List.all_nil,h1,aaF,acT,Bool.and_true];exact h
  ·exact h.elim
 ·exact h.elim
theorem Sm (r:Rel c w0 n gs st a) (hK:bL P Q q c w0 n gs st a o.dst K) {t k e:TypeId} {kk:Option IntKind} {z:Dat} {x i:Operand} {y j:Opd} {ok:Bool} (ho:o.op = .lookup t x i ok) (ht:Dn P t=some (k,e,kk,z))
  (hc1:ao x=some y) (hc2:ao i=some j) (h:WT P Q (step (.vO ok kk z y j) st q xx)):o.wp P a c.w K Qx:=by
 refine OC (xx:=xx) r hK ho ht hc1 hc2 ?_;simp only [step] at h ⊢
 split at h
 ·rename_i id xd hv1 hv2
  obtain ⟨b,hl,h⟩:=h;simp only [hv1,hv2,hl]
  cases b with
  | map kk' es=>exact h
  | _=>exact h.elim
 ·exact h.elim
theorem OE (r:Rel c w0 n gs st a) (hK:bL P Q q c w0 n gs st a o.dst K) {t k e:TypeId} {kk:Option IntKind} {z:Dat} {x i u:Operand} {y j l:Opd} (ho:o.op = .mapUpdate t x i u\/o.op = .insert t x i u) (ht:Dn P t=some (k,e,kk,z))
  (hc1:ao x=some y) (hc2:ao i=some j) (hc3:ao u=some l) (h:WT P Q (step (.yB kk y j l) st q xx)):o.wp P a c.w K Qx:=by
 refine E5 (xx:=xx) r hK.heq ho ht hc1 hc2 hc3 ?_;simp only [step] at h ⊢
 split at h
 ·rename_i id xd v hv1 hv2 hv3
  split at h
  ·rename_i d hd
   obtain ⟨b,hl,h⟩:=h;simp only [hv1,hv2,hv3,hl,hd]
   cases b with
   | map kk' es=>exact h
   | _=>exact h.elim
  ·exact h.elim
 ·exact h.elim
theorem Sr (r:Rel c w0 n gs st a) (hK:bL P Q q c w0 n gs st a o.dst K) {cl:Call} {x1 x2:Operand} {y1 y2:Opd} {t e:TypeId} {k bytes:Nat} (ho:o.op = .call cl) (hb:cl.callee = .builtin .append) (hx:cl.args.toList=[x1,x2]) (ht:cl.argTypes.toList=[t,t])
  (he:sy P t e k bytes) (hc1:ao x1=some y1) (hc2:ao x2=some y2) (h:WT P Q (step (.LY k bytes y1 y2) st q xx)):o.wp P a c.w K Qx:=by
 refine Oq (m:=false) (xx:=xx) r hK.heq ho hb hx ht he hc1 hc2 ?_;simp only [step] at h ⊢
 split at h
 ·rename_i b y hv1 hv2
  split at h
  ·rename_i ys hs
   simp only [hv1,hv2,hs,KD]
   split at h
   ·refine ⟨fun hd=>xX (h.1 hd),fun hd=>h.2 hd⟩
   ·rename_i k' xs
    split at h
    ·rename_i hk
     refine ⟨fun hx=>?_,fun hx=>(h.2 hx).elim⟩;obtain ⟨h1,h2⟩:=h.1 hx;refine ⟨fun hd=>?_,fun hd=>h2 hd⟩;obtain ⟨h3,h4⟩:=h1 hd;exact ⟨fun hy=>xX (h3 hy),fun hy=>xX (h4 hy)⟩
    ·exact h.elim
   ·rename_i id ver len
    obtain ⟨b,hl,h⟩:=h;simp only [hl]
    cases b with
    | arr k' xs=>exact h
    | _=>exact h.elim
   ·exact h.elim
  ·exact h.elim
 ·exact h.elim
theorem OG (r:Rel c w0 n gs st a) (hK:bL P Q q c w0 n gs st a o.dst K) {t e:TypeId} {bytes:Nat} {z:Dat} {x1 x2:Operand} {y1 y2:Opd} (ho:o.op = .makeSlice t x1 x2) (he:sy P t e 1 bytes) (hz:mf P e=some [z])
  (hc1:ao x1=some y1) (hc2:ao x2=some y2) (h:WT P Q (step (.yA bytes z y1 y2) st q xx)):o.wp P a c.w K Qx:=by
 simp only [step] at h
 split at h
 ·rename_i l cp hv1 hv2
  have e1:=aK r hc1 hv1;have e2:=aK r hc2 hv2;simp only [aB,aI] at e1 e2;simp only [WT] at h
  cases hd:(decide (l=cp)&&decide (0<=l)&&decide (cp * (bytes:Int)<=70368744177664)) with
  | false=>exact (h.2 hd).elim
  | true=>
   obtain ⟨g1,g2⟩:=h.1 hd;simp only [aay,decide_eq_true_eq] at hd;obtain ⟨⟨rfl,d1⟩,d3⟩:=hd;obtain ⟨i,zv,zs',hi,hsz,hby,hzero,hzs,hzk⟩:=he.info;have hzs' : zs' = [z]:=by
    simp only [mf,hi,hzero] at hz;rw [hzs] at hz;injection hz
   subst hzs';have hpos:=he.pos;have hcb:l<=70368744177664:=by
    have:l * 1<=l * (bytes:Int):=adf (by omega) (by omega);omega
   have ky:=nD zv.cells (by omega) l.toNat;rw [hzk] at ky;have hzr:=gx hzs c.w (Imm c);have hmc:(madeCells zv.cells (l.toNat * 1)).toList=(List.replicate l.toNat zv.cells.toList).flatten:=by
    rw [<- ky];simp [madeCells,hzk]
   have hrun:=run_make c.w t e i zv he.und hi hzero .i64 .i64 l l d1 (Int.le_refl _) (by rw [hby,Int.mul_comm];omega) (by omega);rw [hsz] at hrun;have hex:(execOp a.eval o).run P c.w = .ok (.value (.slice (some ⟨c.w.heap.size,0,none⟩) l.toNat l.toNat)) (c.w.alloc (.cells (madeCells zv.cells (l.toNat * 1)) e)):=by
    simp only [execOp,ho,e1,e2];rw [run_bind_ok hrun];rfl
   by_cases h0:0<l
   ·have hV:ay c (List.replicate l.toNat (V.d z)) (madeCells zv.cells (l.toNat * 1)).toList:=by
     rw [hmc];have:=ay.ofL (bp.replicate hzr l.toNat);simpa using this
    refine cF hex (hK (c.push st.next 0 (.var (List.replicate l.toNat (.d z))) (.cells (madeCells zv.cells (l.toNat * 1)) e)) _ (.row st.next l.toNat) _ rfl rfl (vV r hV) rfl ?_ (g1 (by simpa using h0)));refine ⟨⟨_,by simp [Cx.push,ai];rfl⟩,?_,by omega⟩;simp [Cx.push]
   ·have hl0:l.toNat=0:=by omega
    have hvs:(madeCells zv.cells (l.toNat * 1)).toList=[]:=by rw [hmc,hl0];rfl
    obtain ⟨p1,p2⟩:=KJ r (k:=1) (xs:=[]) (vs:=madeCells zv.cells (l.toNat * 1)) (e:=e) (by simp) (by rw [hvs];simp [bp]) (by rw [hvs];simp);refine cF hex (hK { c with w:=c.w.alloc (.cells (madeCells zv.cells (l.toNat * 1)) e) } st _ _ rfl rfl p1 rfl ?_ (g2 (by simpa using h0)));rw [hl0];exact p2
 ·exact h.elim
theorem vY {k:Nat}:∀{ps:List (Nat×Operand)} {qs:List (Nat×Opd)},nA ps=some qs->jI (fun i=>some (i * k,k)) ps=some (qs.map fun y=>(y.1 * k,k,y.2))
 | [],qs,h=>by simp [nA] at h;subst h;rfl
 | (i,x)::ps,qs,h=>by
  unfold nA at h
  split at h
  ·rename_i y l hy hl
   simp at h;subst h;simp only [jI,hy,vY hl,abG]
  ·simp at h
theorem MD (r:Rel c w0 n gs st a) (hK:bL P Q q c w0 n gs st a o.dst K) {t e:TypeId} {k len:Nat} {zs:List Dat} {ps:Array (Nat×Operand)} {qs:List (Nat×Opd)} (ho:o.op = .buildSlice t len ps) (hu:P.underlying t=some (.slice e)) (hk:sizeT P e=some k) (hkp:0<k) (hlp:0<len)
  (hz:mf P e=some zs) (hzl:zs.length=k) (hle:len * k<=16777216) (hq:nA ps.toList=some qs) (h:WT P Q (step (.xH len ((List.replicate len zs).flatten) (qs.map fun y=>(y.1 * k,k,y.2))) st q xx)):o.wp P a c.w K Qx:=by
 simp only [step,aj,aA] at h
 split at h
 ·rename_i cs hcs
  obtain ⟨z,hzv,hzd⟩:=vT (w:=c.w) hz;have hzk:z.cells.size=k:=by have:=qU hzd;simp at this;omega
  have hzr:=gx hzd c.w (Imm c);have ky:=nD z.cells (by omega) len;rw [hzk] at ky;obtain ⟨vs',g1,g2⟩:=Hk r ps.toList _ _ cs ((Array.range (len * k)).map (fun i=>z.cells[i % k]!)) (vY hq) (by rw [ky];exact ay.ofL (bp.replicate hzr len)) hcs;refine cF (w':=c.w.alloc (.cells vs' e)) (gv:=.slice (some ⟨c.w.heap.size,0,none⟩) len len) ?_ (hK (c.push st.next 0 (.var cs) (.cells vs' e)) _ (.row st.next len) _ rfl rfl (vV r g2) rfl ?_ h)
  ·simp only [execOp,ho]
   have:(Instr.buildSlice t len (ps.map fun (i,x)=>(i,a.eval x))).run P c.w = .ok (.slice (some ⟨c.w.heap.size,0,none⟩) len len) (c.w.alloc (.cells vs' e)):=by
    unfold Instr.buildSlice;rw [run_bind_ok (cD hu)];simp only [];rw [run_bind_ok (ij hk)];have hgt:¬len * k>2 ^ 24:=by omega
    simp only [hgt,if_false];have hps:(ps.map fun (i,x)=>(i,a.eval x)).toList=ps.toList.map fun (i,x)=>(i,a.eval x):=by simp
    have h0:¬len * k=0:=by
     have:=Nat.mul_pos hlp hkp;omega
    rw [if_neg h0];rw [run_bind_ok hzv];rw [run_bind_ok (s:=pure _) (x:=z.cells) (w':=c.w) rfl];simp only [hzk,hps,g1];rfl
   rw [run_bind_ok this];rfl
  ·refine ⟨⟨_,by simp [Cx.push,ai];rfl⟩,?_,hlp⟩
   simp [Cx.push]
 ·exact h.elim
end
end Uw
namespace Uw
open Go Go.RowKit
variable [Glob]
section
variable {P : Program} {Q : aG -> St -> Prop} {q : V -> St -> Tree} {c : Cx} {w0 : World} {n : Nat} {gs : Fr} {st : St} {a : Act} {K : Act -> World -> Prop} {Qx : Exit -> Act -> World -> Prop} {o : Oper} {xx : aG -> St -> Tree}
theorem Ss (r:Rel c w0 n gs st a) (hK:bL P Q q c w0 n gs st a o.dst K) {cl:Call} {f:FuncId} {fn:Func} {ys:List Opd} (ho:o.op = .call cl) (gy:cl.callee = .value (.func f)) (hf:P.funcs[f]? = some fn)
  (hb:fn.body.isSome=true) (hn:(fn.name == "runtime.NumGoroutine")=false) (hc:dX cl.args.toList=some ys) (h:WT P Q (step (.call f ys) st q xx)):o.wp P a c.w K Qx:=by
 simp only [step] at h
 split at h
 ·rename_i vs hvs
  split at h
  ·rename_i ds hds
   simp only [WT] at h;obtain ⟨res,hret,hq⟩:=h;rw [<- r.heap] at hds;have h1:=oQ hds (lv r hc hvs);unfold Oper.wp;rw [D1 ho gy hf hb hn];have h2:=hret c.w (Imm c) _ r.hrel.glob h1;have e:(cl.args.toList.map a.eval).toArray=cl.args.map a.eval:=by
    rw [<- acA]
   rw [e] at h2;refine h2.mono ?_;rintro e w' ⟨v,rfl,hv,hbel⟩;have hgrow:=r.grow hbel;refine hK { c with w:=w' } st (V.jS res) v rfl rfl hgrow rfl (aB.jS ?_) hq;refine aI.keep ?_ _ _ hv;intro b o' hj;refine ⟨?_,rfl⟩
   rcases hj with hj|⟨hj1,hj2⟩
   ·exact ((Evo.grow r.hrel hbel).keeps b o' hj).1
   ·refine .inr ⟨r.hrel.su hj1,hj2,?_⟩
    intro id blk hl hph hg;have:=r.hrel.jX hl hph;have hg' : (c.pl id).gb=b:=hg;omega
  ·exact h.elim
 ·exact h.elim
theorem vZ {P:Program} {t e:TypeId} {k bytes:Nat} {zs:List Dat} (h:DX P t=some (e,k,bytes,zs)):sy P t e k bytes/\0<k/\sizeT P e=some k/\mf P e=some zs/\zs.length=k:=by
 unfold DX at h
 split at h
 ·rename_i e' hu
  split at h
  ·rename_i i hi
   split at h
   ·rename_i z hz
    split at h
    ·rename_i zs' hzs
     split at h
     ·rename_i hb
      simp only [aay] at hb;simp at h;obtain ⟨rfl,rfl,rfl,rfl⟩:=h;have h1:=aaB hb.1.1.1;have h2:=aaB hb.1.1.2;refine ⟨⟨hu,⟨i,z,zs',hi,rfl,rfl,hz,hzs,h1⟩,by simpa using hb.2⟩,by simpa using hb.1.2,by simp [sizeT,hi],by simp [mf,hi,hz,hzs],h2⟩
     ·simp at h
    ·simp at h
   ·simp at h
  ·simp at h
 ·simp at h
theorem step_ok (r:Rel c w0 n gs st a) {mo:MOp} {pol:Pol} (hc:EX P pol o=some mo) (hD:KL P Q q c w0 n gs st a o.dst K) (hX:Aa P Q xx c w0 n gs st a Qx) (h:WT P Q (step mo st q xx)):o.wp P a c.w K Qx:=by
 have hK:=hD.ok;unfold EX at hc
 split at hc
 ·rename_i x ho
  simp only [aaC] at hc;obtain ⟨y,hy,rfl⟩:=hc;exact N7 r hK (.inl ho) hy h
 ·rename_i x ho
  simp only [aaC] at hc;obtain ⟨y,hy,rfl⟩:=hc;exact N7 r hK (.inr ho) hy h
 ·rename_i x1 x2 x3 ho
  split at hc
  ·rename_i y1 y2 y3 h1 h2 h3
   simp at hc;subst hc;exact RO r hK ho h1 h2 h3 h
  ·simp at hc
 ·rename_i t x ho
  simp only [aaC] at hc;obtain ⟨y,hy,rfl⟩:=hc;exact VQ r hK ho hy h
 ·rename_i t ho
  simp only [aaC] at hc;obtain ⟨zs,hz,rfl⟩:=hc;exact N8 r hK ho hz h
 ·rename_i t ps ho
  split at hc
  ·rename_i place zs hp hz
   simp only [aaC] at hc;obtain ⟨qs,hq,rfl⟩:=hc;exact Oa r hK ho hp hz hq h
  ·simp at hc
 ·rename_i t x ho
  split at hc
  ·rename_i g m y h1 h2 h3
   split at hc
   ·rename_i hf
    simp only [aay,acN] at hf;have hm1:=aaB hf.2;have hg1:=hf.1.2;subst hm1 hg1;simp at hc;subst hc;exact OD r hK ho h1 h2 h3 h
   ·simp at hc;subst hc
    exact KH r hK ho h1 h2 h3 h
  ·simp at hc
 ·rename_i t x1 x2 ho
  split at hc
  ·rename_i m y1 y2 h1 h2 h3
   split at hc
   ·rename_i hf
    simp only [aay] at hf;have hm1:=aaB hf.2;subst hm1;simp at hc;subst hc;exact MC r hK ho h1 h2 h3 h
   ·simp at hc;subst hc
    exact Hl r hK ho h1 h2 h3 h
  ·simp at hc
 ·rename_i x ho
  simp only [aaC] at hc;obtain ⟨y,hy,rfl⟩:=hc;exact Oc r hK ho hy h
 ·rename_i s x f ho
  split at hc
  ·rename_i fs hu
   split at hc
   ·rename_i fd hf
    split at hc
    ·rename_i m y h1 h2
     simp at hc;subst hc;exact VT r hK ho hu hf h1 h2 h
    ·simp at hc
   ·simp at hc
  ·simp at hc
 ·rename_i t x i ho
  split at hc
  ·rename_i e hu
   split at hc
   ·rename_i k y j h1 h2 h3
    simp at hc;subst hc;exact VU r hK ho hu h1 h2 h3 h
   ·simp at hc
  ·rename_i m e hu
   split at hc
   ·rename_i k y j h1 h2 h3
    simp at hc
   ·simp at hc
  ·simp at hc
 ·rename_i t x i ho
  split at hc
  ·rename_i hu
   split at hc
   ·rename_i y j h2 h3
    simp at hc;subst hc;exact RP r hK ho hu h2 h3 h
   ·simp at hc
  ·rename_i m e hu
   split at hc
   ·rename_i g k y j h0 h1 h2 h3
    simp at hc
   ·simp at hc
  ·simp at hc
 ·rename_i t ho
  split at hc
  ·rename_i k e kk z ht
   simp at hc;subst hc;exact OB r hK ho h
  ·simp at hc
 ·rename_i t x i ok ho
  split at hc
  ·rename_i k e kk z y j ht h1 h2
   split at hc
   ·simp at hc;subst hc
    exact Sm r hK ho ht h1 h2 h
   ·simp at hc;subst hc
    exact OC r hK ho ht h1 h2 h
  ·simp at hc
 ·rename_i t x i u ho
  split at hc
  ·rename_i k e kk z y j l ht h1 h2 h3
   split at hc
   ·simp at hc;subst hc
    exact OE r hK (.inl ho) ht h1 h2 h3 h
   ·simp at hc;subst hc
    exact E5 r hK (.inl ho) ht h1 h2 h3 h
  ·simp at hc
 ·rename_i t x i u ho
  split at hc
  ·rename_i k e kk z y j l ht h1 h2 h3
   simp at hc;subst hc;exact E5 r hK (.inr ho) ht h1 h2 h3 h
  ·simp at hc
 ·rename_i t x ho
  split at hc
  ·rename_i hu
   simp only [aaC] at hc;obtain ⟨y,hy,rfl⟩:=hc;exact V4 r hK ho hu hy h
  ·simp at hc
 ·rename_i x ho
  simp only [aaC] at hc;obtain ⟨y,hy,rfl⟩:=hc;exact V5 r hK ho hy h
 ·rename_i op t x1 x2 t' ho
  split at hc
  ·rename_i y1 y2 hu h1 h2
   split at hc
   ·simp at hc;subst hc
    exact Oh r hK ho (by simp) hu h1 h2 h
   ·simp at hc;subst hc
    exact Oh r hK ho (by simp) hu h1 h2 h
   ·simp at hc
  ·rename_i k y1 y2 hu h1 h2
   simp at hc;subst hc;exact Og r hK ho h1 h2 h
  ·rename_i y1 y2 hu h1 h2
   simp at hc;subst hc;exact Og r hK ho h1 h2 h
  ·rename_i e y1 y2 hu h1 h2
   split at hc
   ·rename_i hn
    simp at hc;subst hc;exact Oy r hK ho (by simp) hu hn h1 h
   ·rename_i hn
    simp at hc;subst hc;exact Oy r hK ho (by simp) hu hn h1 h
   ·simp at hc
  ·rename_i ms y1 y2 hu h1 h2
   split at hc
   ·rename_i hn
    simp at hc;subst hc;exact Oz r hK ho (by simp) hu hn h1 h
   ·rename_i hn
    simp at hc;subst hc;exact Oz r hK ho (by simp) hu hn h1 h
   ·simp at hc
  ·rename_i fs y1 y2 hu h1 h2
   split at hc
   ·rename_i ks hn
    simp at hc;subst hc;exact OA r hK ho (by simp) hn h1 h2 h
   ·rename_i ks hn
    simp at hc;subst hc;exact OA r hK ho (by simp) hn h1 h2 h
   ·simp at hc
  ·simp at hc
 ·rename_i t x ho
  simp only [aaC] at hc;obtain ⟨y,hy,rfl⟩:=hc;exact VX r hK ho hy h
 ·rename_i s d x ho
  split at hc
  ·rename_i k' k hs hd
   simp at hc
  ·rename_i e hs hd
   split at hc
   ·rename_i he
    simp at hc
   ·simp at hc
  ·simp at hc
 ·rename_i cl ho
  split at hc
  ·rename_i gy
   split at hc
   ·rename_i x t hx ht
    split at hc
    ·rename_i e hu
     simp only [aaC] at hc;obtain ⟨y,hy,rfl⟩:=hc;exact Oe r hK ho gy hx ht (by simpa using ⟨e,hu⟩) hy h
    ·rename_i hu
     simp only [aaC] at hc;obtain ⟨y,hy,rfl⟩:=hc;exact Oe r hK ho gy hx ht (by simpa using hu) hy h
    ·rename_i k e hu
     simp only [aaC] at hc;obtain ⟨y,hy,rfl⟩:=hc;exact Sj r hK ho gy hx ht hu hy h
    ·simp at hc
   ·simp at hc
  ·rename_i gy
   split at hc
   ·rename_i x y hx
    split at hc
    ·rename_i x' y' h1 h2
     simp at hc;subst hc;exact Vo (mx:=false) r hK ho (by simpa using gy) hx h1 h2 h
    ·simp at hc
   ·simp at hc
  ·rename_i gy
   split at hc
   ·rename_i x y hx
    split at hc
    ·rename_i x' y' h1 h2
     simp at hc;subst hc;exact Vo (mx:=true) r hK ho (by simpa using gy) hx h1 h2 h
    ·simp at hc
   ·simp at hc
  ·rename_i gy
   split at hc
   ·rename_i x y t t' hx ht
    split at hc
    ·rename_i e k bytes zs x' y' hbt hel h1 h2
     have hbt:=aaB hbt;subst hbt
     split at hc
     ·simp at hc;subst hc
      exact Sr r hK ho gy hx ht (vZ hel).1 h1 h2 h
     ·simp at hc;subst hc
      exact Oq r hK ho gy hx ht (vZ hel).1 h1 h2 h
    ·simp at hc
   ·simp at hc
  ·rename_i f gy
   split at hc
   ·rename_i fn hf
    split at hc
    ·rename_i hb
     simp only [aay,acN] at hb
     split at hc
     ·simp only [aaC] at hc
      obtain ⟨ys,hy,rfl⟩:=hc;exact V2 r hK hX ho gy hf hb.1 hb.2 hy h
     ·simp only [aaC] at hc
      obtain ⟨ys,hy,rfl⟩:=hc;exact Ss r hK ho gy hf hb.1 hb.2 hy h
    ·simp at hc
   ·simp at hc
  ·rename_i t gy
   simp only [aaC] at hc;obtain ⟨ys,hy,rfl⟩:=hc;exact R1 r hK hX ho gy hy h
  ·rename_i gy
   split at hc
   ·rename_i x y t t' hx ht
    split at hc
    ·rename_i e k bytes zs e' x' y' hel hu h1 h2
     simp at hc
    ·simp at hc
   ·simp at hc
  ·simp at hc
 ·rename_i f fs cs ho
  split at hc
  ·rename_i fs' cs' h1 h2
   simp at hc;subst hc;exact R2 r hK ho h1 h2 h
  ·simp at hc
 ·rename_i cl ho
  split at hc
  ·rename_i t gy
   simp only [aaC] at hc;obtain ⟨ys,hy,rfl⟩:=hc;exact Hr r hD ho gy rfl hy h
  ·rename_i f gy
   simp only [aaC] at hc;obtain ⟨ys,hy,rfl⟩:=hc;exact Hr r hD ho gy rfl hy h
  ·simp at hc
 ·rename_i x ho
  simp only [aaC] at hc;obtain ⟨y,hy,rfl⟩:=hc;exact Ov r hX ho hy h
 ·rename_i t x ho
  split at hc
  ·rename_i y ht h1
   simp at hc;subst hc;exact R7 r hK ho ht h1 h
  ·simp at hc
 ·rename_i x xt t ho
  split at hc
  ·rename_i z y ht hz h1
   simp at hc
  ·simp at hc
 ·rename_i x i ho
  simp only [aaC] at hc;obtain ⟨y,hy,rfl⟩:=hc;exact VY r hK ho hy h
 ·rename_i s x f ho
  split at hc
  ·rename_i fs hu
   split at hc
   ·rename_i fd hf
    split at hc
    ·rename_i g k y h0 h1 h2
     simp at hc;subst hc;exact Sl r hK ho hu hf h0 h1 h2 h
    ·simp at hc
   ·simp at hc
  ·simp at hc
 ·rename_i t len ps ho
  split at hc
  ·rename_i e k bytes zs qs hel hq
   split at hc
   ·rename_i hle
    obtain ⟨g1,g2,g3,g4,g5⟩:=vZ hel
    split at hc
    ·rename_i hf
     rw [aay] at hf;have hlp:0<len:=by
      have:=hf.2;simpa using this
     simp only [aaP] at hc;subst hc;exact MD r hK ho g1.und g3 g2 hlp g4 g5 (aaO hle) hq h
    ·split at hc
     ·simp at hc;subst hc
      exact Ou r hK ho g1.und g3 g2 g4 g5 (aaO hle) hq h
     ·simp at hc;subst hc
      exact Me r hK ho g1.und g3 g2 g4 g5 (aaO hle) hq h
   ·simp at hc
  ·simp at hc
 ·rename_i t l cp ho
  split at hc
  ·rename_i e k bytes zs l' cp' hel h1 h2
   obtain ⟨g1,g2,g3,g4,g5⟩:=vZ hel
   split at hc
   ·rename_i z hf
    simp only [aay] at hf;have hk1:=aaB hf.2;subst hk1;simp at hc;subst hc;exact OG r hK ho g1 g4 h1 h2 h
   ·simp at hc;subst hc
    exact RY r hK ho g1 g2 g4 g5 h1 h2 h
  ·simp at hc
 ·rename_i t x lo hi ho
  split at hc
  ·rename_i hu
   split at hc
   ·rename_i x' lo' hi' h1 h2 h3
    simp at hc;subst hc;exact Ot r hK ho hu h1 h2 h3 h
   ·simp at hc
  ·rename_i e hu
   split at hc
   ·rename_i k x' lo' hi' h0 h1 h2 h3
    simp at hc;subst hc;exact X2 r hK ho hu h0 h1 h2 h3 h
   ·simp at hc
  ·simp at hc
 ·rename_i t x lo hi mx ho
  split at hc
  ·rename_i e hu
   split at hc
   ·rename_i k x' lo' hi' mx' h0 h1 h2 h3 h4
    simp at hc
   ·simp at hc
  ·simp at hc
 ·simp at hc
end
end Uw
namespace Uw
open Go Go.RowKit
variable [Glob]
theorem OH {t:Array Value} {d i:Nat} {v:Value} (hd:d<t.size):(t.setIfInBounds d v).getD i undef=if d=i then v else t.getD i undef:=by
 simp only [abC,acG];by_cases h:d=i
 ·subst h;simp [hd]
 ·simp [h]
theorem Rel.put {c:Cx} {w0:World} {n:Nat} {gs:Fr} {st:St} {a:Act} (r:Rel c w0 n gs st a) {dst:Option Nat} (hd:(match dst with|some d=>Nat.blt d n|none=>true)=true) {v:V} {gv:Value} (hv:aB c v gv) :
  Rel c w0 n gs (put dst v st) (a.put dst gv):=by
 cases dst with
 | none=>exact r
 | some d=>
  have hd:d<n:=by simpa using hd
  refine ⟨r.heap,r.hrel,by simp [Act.put,r.size],?_,r.frames,r.kx,r.base,r.defers⟩;intro i x hx;simp only [Uw.put,ai] at hx;simp only [Act.put];rw [OH (by rw [r.size];exact hd)];by_cases h:d=i
  ·rw [if_pos h] at hx ⊢;injection hx with hx;subst hx;exact hv
  ·rw [if_neg h] at hx ⊢;exact r.regs i x hx
theorem Rel.known {c:Cx} {w0:World} {n:Nat} {gs:Fr} {st:St} {a:Act} (r:Rel c w0 n gs st a) {t:Nat} {v:V} (hv:aB c v (a.tmps.getD t undef)):Rel c w0 n gs (Uw.put (some t) v st) a:=by
 refine ⟨r.heap,r.hrel,r.size,?_,r.frames,r.kx,r.base,r.defers⟩;intro i x hx;simp only [Uw.put,ai] at hx;by_cases h:t=i
 ·rw [if_pos h] at hx;injection hx with hx;subst hx;subst h;exact hv
 ·rw [if_neg h] at hx;exact r.regs i x hx
def jd (mode:Option (Nat×Bool×Bool)) (st:St):Prop:=∀t want hold,mode=some (t,want,hold)->∃b,look st.regs t=some (.d (.bool b))/\(b == want)=hold
theorem jd.put {mode:Option (Nat×Bool×Bool)} {st st' : St} (h:jd mode st) (hr:st'.regs=st.regs) (dst:Option Nat) (v:V):jd (gQ dst mode) (Uw.put dst v st'):=by
 intro t want hold hm;unfold gQ at hm
 split at hm
 ·rename_i d t' want' hold'
  split at hm
  ·simp at hm
  ·rename_i hb
   simp at hm;obtain ⟨rfl,rfl,rfl⟩:=hm;obtain ⟨b,hb1,hb2⟩:=h _ _ _ rfl;refine ⟨b,?_,hb2⟩;simp only [Uw.put,ai,hr];rw [if_neg]
   ·exact hb1
   ·intro e;subst e;simp at hb
 ·rename_i m hne
  obtain ⟨b,hb1,hb2⟩:=h _ _ _ hm;refine ⟨b,?_,hb2⟩
  cases dst with
  | none=>simp [Uw.put,hr,hb1]
  | some d=>
   cases mode with
   | none=>simp at hm
   | some x=>obtain ⟨a1,a2,a3⟩:=x;exact (hne d a1 a2 a3 rfl rfl).elim
def Came (P:Program) (Q:aG->St->Prop) (q:aG->St->Tree) (c:Cx) (w0:World) (n:Nat) (gs:Fr) (e:Exit) (a' : Act) (w' : World):Prop:=
 ∃c' me st',c'.B=c.B/\c'.J0=c.J0/\c'.w=w'/\bB c' e me/\Rel c' w0 n gs st' a'/\WT P Q (q me st')
theorem E6 {P:Program} {Q:aG->St->Prop} {q:aG->St->Tree} {c:Cx} {w0:World} {n:Nat} {gs:Fr}:¬LetsOut (Came P Q q c w0 n gs):=by
 rintro ⟨a,w,c',me,st',_,_,_,h,_⟩
 cases me<;>exact h
theorem u5 {P:Program} {n:Nat} {pol:Pol} {ops:List Oper} {Q:aG->St->Prop} {q:aG->St->Tree} {w0:World} {gs:Fr} {c0:Cx} :
  ∀(l:List Oper) (mi:List MI) (mode:Option (Nat×Bool×Bool)) (c:Cx) (st:St) (a:Act),dV P n pol ops l=some mi->c.B=c0.B->c.J0=c0.J0->Rel c w0 n gs st a->jd mode st->WT P Q (dt mi mode st q)->
   wpList P ops.toArray (Came P Q q c0 w0 n gs) l a c.w:=by
 intro l
 induction l with
 | nil=>
  intro mi mode c st a hc hB hJ r hm h;simp [dV] at hc;subst hc;exact ⟨c,.normal,st,hB,hJ,rfl,trivial,r,h⟩
 | cons o l ih=>
  intro mi mode c st a hc hB hJ r hm h;unfold dV at hc
  split at hc
  ·rename_i g m mi' hg ho hl hd
   simp at hc;subst hc;simp only [sj,qK,EV] at h
   -- what each way comes to
   have run:∀(kz : Option (Nat×Bool×Bool)) (st1:St),Rel c w0 n gs st1 a->(∀(v:V) (st2:St),st2.regs=st1.regs->jd kz (Uw.put o.dst v st2))->
     WT P Q (step m st1 (fun v st'=>dt mi' kz (Uw.put o.dst v st') q) q)->∀(K:Act->World->Prop),(∀a w,wpList P ops.toArray (Came P Q q c0 w0 n gs) l a w->K a w)->o.wp P a c.w K (Came P Q q c0 w0 n gs):=by
    intro kz st1 r1 hm' hw K hK;refine step_ok r1 ho ?_ ?_ hw
    ·intro c' st' a' v gv hB' hJ' htm r' yH hv hq
     exact hK _ _ (ih mi' kz c' _ _ hl (hB'.trans hB) (hJ'.trans hJ) (r'.put hd hv) (hm' v st' yH) hq)
    ·intro c' st' d ch hB' hJ' r' _ hex hq
     exact ⟨c',.panic d,st',hB'.trans hB,hJ'.trans hJ,rfl,hex,r',hq⟩
   have skip:∀(kz : Option (Nat×Bool×Bool)) (st1:St),Rel c w0 n gs st1 a->jd kz (Uw.put o.dst (.tuple []) st1)->WT P Q (dt mi' kz (Uw.put o.dst (.tuple []) st1) q)->
     wpList P ops.toArray (Came P Q q c0 w0 n gs) l (a.put o.dst undef) c.w:=by
    intro kz st1 r1 hm' hw;exact ih mi' kz c _ _ hl hB hJ (r1.put hd (v:=.tuple []) (by simp [aB,ay,undef])) hm' hw
   refine wpList_step fun K hK=>?_
   cases hgo:o.guard with
   | none=>
    rw [hgo] at hg;simp [zP] at hg;subst hg;simp only [Region.wanted,hgo,if_true];exact run none st r (fun v st2 _=>by intro t w' h' hh;simp at hh) h K hK
   | some jb=>
    obtain ⟨j,want⟩:=jb;rw [hgo] at hg;unfold zP at hg
    split at hg
    ·simp at *
    ·rename_i j' b' heq
     simp at heq;obtain ⟨rfl,rfl⟩:=heq
     split at hg
     ·rename_i oj hoj
      split at hg
      ·rename_i t ht
       simp at hg;subst hg;simp only at h;have hy:∀b,look st.regs t=some (.d (.bool b))->Region.wanted o (yielded ops.toArray a.tmps)=(b == want):=by
        intro b hb;have e:=r.regs t _ hb;simp only [aB,aI] at e;have ey:yielded ops.toArray a.tmps j=some b:=by
         have e' : a.tmps[t]? = some (.bool b):=by
          rw [abC] at e
          cases hq:a.tmps[t]? with
          | none=>rw [hq] at e;simp [undef] at e
          | some u=>rw [hq] at e;simp at e;rw [e]
         unfold yielded;simp [hoj,ht,e']
        simp only [Region.wanted,hgo,ey]
        cases b<;>cases want<;>rfl
       cases hdec:decided mode t want with
       | some hold=>
        have:∃b,look st.regs t=some (.d (.bool b))/\(b == want)=hold:=by
         unfold decided at hdec
         split at hdec
         ·rename_i t' want' hold'
          split at hdec
          ·rename_i hbb
           simp at hdec;subst hdec;rw [aay] at hbb;have e1:=aaB hbb.1;have e2:want=want':=by simpa using hbb.2
           subst e1 e2;exact hm _ _ _ rfl
          ·simp at hdec
         ·simp at hdec
        obtain ⟨b,hb1,hb2⟩:=this;simp only [hdec] at h;rw [hy b hb1,hb2]
        cases hold with
        | true=>exact run _ st r (fun v st2 hr=>hm.put hr _ _) h K hK
        | false=>exact hK _ _ (skip _ st r (hm.put rfl _ _) h)
       | none=>
        simp only [hdec] at h
        split at h
        ·rename_i b hb
         have e:=r.regs t _ hb;simp only [aB,aI] at e;rw [hy b hb];simp only [WT] at h
         cases hbw:(b == want) with
         | true=>
          have Js : b=want:=by simpa using hbw
          subst Js;have r1:Rel c w0 n gs (Uw.put (some t) (.d (.bool b)) st) a:=r.known (by simp [aB,aI,e]);refine run _ _ r1 ?_ (h.1 hbw) K hK;intro v st2 hr;refine jd.put (st:=Uw.put (some t) (.d (.bool b)) st) ?_ hr _ _;intro t' w' h' hh;simp at hh;obtain ⟨rfl,rfl,rfl⟩:=hh;exact ⟨b,by simp [Uw.put,ai],by simp⟩
         | false=>
          have Js : b = !want:=by cases b<;>cases want<;>simp_all
          subst Js;have r1:Rel c w0 n gs (Uw.put (some t) (.d (.bool (!want))) st) a:=r.known (by simp [aB,aI,e]);refine hK _ _ (skip _ _ r1 ?_ (h.2 hbw));refine jd.put (st:=Uw.put (some t) (.d (.bool (!want))) st) ?_ rfl _ _;intro t' w' h' hh;simp at hh;obtain ⟨rfl,rfl,rfl⟩:=hh;exact ⟨!want,by simp [Uw.put,ai],by cases want<;>rfl⟩
        ·rename_i hb
         have e:=r.regs t _ hb;have ey:yielded ops.toArray a.tmps j=none:=by
          simp [aB,ay] at e;unfold yielded
          cases hq:a.tmps[t]? with
          | none=>simp [hoj,ht,hq]
          | some u=>rw [hq] at e;simp at e;simp [hoj,ht,hq,e]
         have hw:Region.wanted o (yielded ops.toArray a.tmps)=false:=by simp only [Region.wanted,hgo,ey];cases want<;>rfl
         rw [hw];exact hK _ _ (skip _ st r (hm.put rfl _ _) h)
        ·exact h.elim
      ·simp at hg
     ·simp at hg
  ·simp at hc
end Uw
namespace Uw
open Go Go.RowKit
variable [Glob]
def Sel {α:Type} (P:Program) (T:(α->Tree)->Tree):Prop:=
 ∀(Q:aG->St->Prop) (f:α->Tree),WT P Q (T f)->∃x,WT P Q (f x)/\∀(Q' : aG->St->Prop) (f' : α->Tree),WT P Q' (f' x)->WT P Q' (T f')
section
variable {P : Program} {α β : Type}
theorem Sel.pure (x:α):Sel P (fun f=>f x):=fun Q f h=>⟨x,h,fun Q' f' h'=>h'⟩
theorem Sel.fail:Sel (α:=α) P (fun _=>Tree.fail):=fun Q f h=>h.elim
theorem Sel.test {b:Bool} {T1 T2:(α->Tree)->Tree} (h1:Sel P T1) (h2:Sel P T2):Sel P (fun f=>Tree.test b (T1 f) (T2 f)):=by
 intro Q f h;simp only [WT] at h
 cases b with
 | true=>
  obtain ⟨x,g1,g2⟩:=h1 Q f (h.1 rfl);exact ⟨x,g1,fun Q' f' h'=>⟨fun _=>g2 Q' f' h',fun hb=>by cases hb⟩⟩
 | false=>
  obtain ⟨x,g1,g2⟩:=h2 Q f (h.2 rfl);exact ⟨x,g1,fun Q' f' h'=>⟨fun hb=>(by cases hb),fun _=>g2 Q' f' h'⟩⟩
theorem Sel.elem {xs:List (List Dat)} {i:Nat} {T:List Dat->(α->Tree)->Tree} (h1:∀c,Sel P (T c)):Sel P (fun f=>Tree.elem xs i (fun c=>T c f)):=by
 intro Q f h;obtain ⟨c,hc,h⟩:=h;obtain ⟨x,g1,g2⟩:=h1 c Q f h;exact ⟨x,g1,fun Q' f' h'=>⟨c,hc,g2 Q' f' h'⟩⟩
theorem Sel.byte {xs:List UInt8} {i:Nat} {T:UInt8->(α->Tree)->Tree} (h1:∀c,Sel P (T c)):Sel P (fun f=>Tree.byte xs i (fun c=>T c f)):=by
 intro Q f h;obtain ⟨c,hc,h⟩:=h;obtain ⟨x,g1,g2⟩:=h1 c Q f h;exact ⟨x,g1,fun Q' f' h'=>⟨c,hc,g2 Q' f' h'⟩⟩
theorem Sel.val {o:Option Dat} {T:Dat->(α->Tree)->Tree} (h1:∀c,Sel P (T c)):Sel P (fun f=>Tree.val o (fun c=>T c f)):=by
 intro Q f h;obtain ⟨c,hc,h⟩:=h;obtain ⟨x,g1,g2⟩:=h1 c Q f h;exact ⟨x,g1,fun Q' f' h'=>⟨c,hc,g2 Q' f' h'⟩⟩
theorem Sel.blk {o:Option Blk} {T:Blk->(α->Tree)->Tree} (h1:∀c,Sel P (T c)):Sel P (fun f=>Tree.blk o (fun c=>T c f)):=by
 intro Q f h;obtain ⟨c,hc,h⟩:=h;obtain ⟨x,g1,g2⟩:=h1 c Q f h;exact ⟨x,g1,fun Q' f' h'=>⟨c,hc,g2 Q' f' h'⟩⟩
theorem Sel.Dm {o:Option V} {T:V->(α->Tree)->Tree} (h1:∀c,Sel P (T c)):Sel P (fun f=>Tree.Dm o (fun c=>T c f)):=by
 intro Q f h;obtain ⟨c,hc,h⟩:=h;obtain ⟨x,g1,g2⟩:=h1 c Q f h;exact ⟨x,g1,fun Q' f' h'=>⟨c,hc,g2 Q' f' h'⟩⟩
theorem Sel.call {g:FuncId} {ds:List Dat} {T:Dat->(α->Tree)->Tree} (h1:∀c,Sel P (T c)):Sel P (fun f=>Tree.call g ds (fun c=>T c f)):=by
 intro Q f h;obtain ⟨c,hc,h⟩:=h;obtain ⟨x,g1,g2⟩:=h1 c Q f h;exact ⟨x,g1,fun Q' f' h'=>⟨c,hc,g2 Q' f' h'⟩⟩
theorem Sel.fit {k:IntKind} {n:Int} {T:Int->(α->Tree)->Tree} (h1:∀m,Sel P (T m)):Sel P (fun f=>fit k n (fun m=>T m f)):=Sel.test (h1 _) (h1 _)
theorem Sel.nw {op:BinOp} {k:IntKind} {a b:Int} {T:Dat->(α->Tree)->Tree} (h1:∀d,Sel P (T d)):Sel P (fun f=>nw op k a b (fun d=>T d f)):=by
 cases op with
 | add=>exact Sel.fit fun _=>h1 _
 | sub=>exact Sel.fit fun _=>h1 _
 | mul=>exact Sel.fit fun _=>h1 _
 | quo=>exact Sel.test Sel.fail (Sel.fit fun _=>h1 _)
 | rem=>exact Sel.test Sel.fail (h1 _)
 | shl=>exact Sel.fail
 | shr=>exact Sel.fail
 | _=>exact h1 _
theorem Sel.oG {op:BinOp} {a b:List UInt8} {T:Dat->(α->Tree)->Tree} (h1:∀d,Sel P (T d)):Sel P (fun f=>oG op a b (fun d=>T d f)):=by
 cases op with
 | add=>exact Sel.test (h1 _) Sel.fail
 | sub=>exact Sel.fail
 | mul=>exact Sel.fail
 | quo=>exact Sel.fail
 | rem=>exact Sel.fail
 | shl=>exact Sel.fail
 | shr=>exact Sel.fail
 | and=>exact Sel.fail
 | or=>exact Sel.fail
 | xor=>exact Sel.fail
 | andNot=>exact Sel.fail
 | _=>exact h1 _
end
theorem av {st st' : St} {y:Opd} (h:∀t∈y.tmps,look st'.regs t=look st.regs t):y.ev st' = y.ev st:=by
 cases y with
 | t n=>simp only [Opd.ev,h n (by simp [Opd.tmps])]
 | c d=>rfl
theorem fy {st st' : St}:∀{ys:List Opd},(∀t∈jn ys,look st'.regs t=look st.regs t)->ep st' ys=ep st ys
 | [],_=>rfl
 | y::ys,h=>by
  simp only [ep];rw [av (y:=y) (fun t ht=>h t (by simp [jn,ht])),fy (ys:=ys) (fun t ht=>h t (by simp [jn,ht]))]
theorem ju {st st' : St}:∀{ps:List (Nat×Nat×Opd)} (cs:List V),(∀t∈m9 ps,look st'.regs t=look st.regs t)->eW st' cs ps=eW st cs ps
 | [],cs,_=>rfl
 | (off,n,x)::ps,cs,h=>by
  simp only [eW];rw [av (y:=x) (fun t ht=>h t (by simp [m9,ht]))]
  split
  ·split
   ·exact ju _ (fun t ht=>h t (by simp [m9,ht]))
   ·rfl
  ·rfl
theorem fz {st st' : St} {d:Int} {x:Option Opd} (h:∀t∈vQ x,look st'.regs t=look st.regs t):fr st' d x=fr st d x:=by
 cases x with
 | none=>rfl
 | some y=>simp only [fr,av h]
theorem ll {st st' : St} {k:Nat} (hh:st'.heap=st.heap):∀{ps:List (Nat×Opd)} {xs:List (List Dat)},(∀t∈xI ps,look st'.regs t=look st.regs t)->iN st' k xs ps=iN st k xs ps
 | [],xs,_=>rfl
 | (i,x)::ps,xs,h=>by
  simp only [iN];rw [av (y:=x) (fun t ht=>h t (by simp [xI,ht])),hh]
  split
  ·split
   ·split
    ·exact ll hh (fun t ht=>h t (by simp [xI,ht]))
    ·rfl
   ·rfl
  ·rfl
theorem ME {P:Program} {mo:MOp} (hq:iO mo=true) (st:St):∃T:(V->Tree)->Tree,Sel P T/\∀st',(∀t∈mo.tmps,look st'.regs t=look st.regs t)->st'.heap=st.heap->∀q' x',step mo st' q' x' = T (fun v=>q' v st'):=by
 cases mo with
 | mm mx x y=>
  refine ⟨fun f=>step (.mm mx x y) st (fun v _=>f v) (fun _ _=>.fail),?_,?_⟩
  ·simp only [step,aj,az,aA]
   repeat' first
    | exact Sel.fail
    | exact Sel.pure _
    | refine Sel.test ?_ ?_
    | refine Sel.val fun _=>?_
    | split
  ·intro st' ha hh q' x'
   have e0:Opd.ev st' x=Opd.ev st x:=av fun t ht=>ha t (by simp [MOp.tmps,ht]);have e1:Opd.ev st' y=Opd.ev st y:=av fun t ht=>ha t (by simp [MOp.tmps,ht]);simp only [step,aj,e0,e1,hh]
 | lkp ok kk z m x=>
  refine ⟨fun f=>step (.lkp ok kk z m x) st (fun v _=>f v) (fun _ _=>.fail),?_,?_⟩
  ·simp only [step,aj,az,aA]
   repeat' first
    | exact Sel.fail
    | exact Sel.pure _
    | refine Sel.test ?_ ?_
    | refine Sel.val fun _=>?_
    | split
  ·intro st' ha hh q' x'
   have e0:Opd.ev st' m=Opd.ev st m:=av fun t ht=>ha t (by simp [MOp.tmps,ht]);have e1:Opd.ev st' x=Opd.ev st x:=av fun t ht=>ha t (by simp [MOp.tmps,ht]);simp only [step,aj,e0,e1,hh]
 | Dk m=>
  refine ⟨fun f=>step (.Dk m) st (fun v _=>f v) (fun _ _=>.fail),?_,?_⟩
  ·simp only [step,aj,az,aA]
   repeat' first
    | exact Sel.fail
    | exact Sel.pure _
    | refine Sel.test ?_ ?_
    | refine Sel.val fun _=>?_
    | split
  ·intro st' ha hh q' x'
   have e0:Opd.ev st' m=Opd.ev st m:=av fun t ht=>ha t (by simp [MOp.tmps,ht]);simp only [step,aj,e0,hh]
 | mov x=>
  refine ⟨fun f=>step (.mov x) st (fun v _=>f v) (fun _ _=>.fail),?_,?_⟩
  ·simp only [step,aj,az,aA]
   repeat' first
    | exact Sel.fail
    | exact Sel.pure _
    | refine Sel.test ?_ ?_
    | refine Sel.elem fun _=>?_
    | refine Sel.byte fun _=>?_
    | refine Sel.call fun _=>?_
    | exact Sel.nw fun _=>Sel.pure _
    | exact Sel.oG fun _=>Sel.pure _
    | exact Sel.fit fun _=>Sel.pure _
    | split
  ·intro st' ha hh q' x'
   have e0:Opd.ev st' x=Opd.ev st x:=av fun t ht=>ha t (by simp [MOp.tmps,ht]);simp only [step,aj,az,e0,hh]
 | pick c a b=>
  refine ⟨fun f=>step (.pick c a b) st (fun v _=>f v) (fun _ _=>.fail),?_,?_⟩
  ·simp only [step,aj,az,aA]
   repeat' first
    | exact Sel.fail
    | exact Sel.pure _
    | refine Sel.test ?_ ?_
    | refine Sel.elem fun _=>?_
    | refine Sel.byte fun _=>?_
    | refine Sel.call fun _=>?_
    | exact Sel.nw fun _=>Sel.pure _
    | exact Sel.oG fun _=>Sel.pure _
    | exact Sel.fit fun _=>Sel.pure _
    | split
  ·intro st' ha hh q' x'
   have e0:Opd.ev st' c=Opd.ev st c:=av fun t ht=>ha t (by simp [MOp.tmps,ht]);have e1:Opd.ev st' a=Opd.ev st a:=av fun t ht=>ha t (by simp [MOp.tmps,ht]);have e2:Opd.ev st' b=Opd.ev st b:=av fun t ht=>ha t (by simp [MOp.tmps,ht]);simp only [step,e0,e1,e2,hh]
 | build zs ps=>
  refine ⟨fun f=>step (.build zs ps) st (fun v _=>f v) (fun _ _=>.fail),?_,?_⟩
  ·simp only [step,aj,az,aA]
   repeat' first
    | exact Sel.fail
    | exact Sel.pure _
    | refine Sel.test ?_ ?_
    | refine Sel.elem fun _=>?_
    | refine Sel.byte fun _=>?_
    | refine Sel.call fun _=>?_
    | exact Sel.nw fun _=>Sel.pure _
    | exact Sel.oG fun _=>Sel.pure _
    | exact Sel.fit fun _=>Sel.pure _
    | split
  ·intro st' ha hh q' x'
   simp only [step,aj,az,aA,hh,ju _ ha]
 | load g n a=>
  refine ⟨fun f=>step (.load g n a) st (fun v _=>f v) (fun _ _=>.fail),?_,?_⟩
  ·simp only [step,aj,az,aA]
   repeat' first
    | exact Sel.fail
    | exact Sel.pure _
    | refine Sel.test ?_ ?_
    | refine Sel.elem fun _=>?_
    | refine Sel.byte fun _=>?_
    | refine Sel.call fun _=>?_
    | exact Sel.nw fun _=>Sel.pure _
    | exact Sel.oG fun _=>Sel.pure _
    | exact Sel.fit fun _=>Sel.pure _
    | split
  ·intro st' ha hh q' x'
   have e0:Opd.ev st' a=Opd.ev st a:=av fun t ht=>ha t (by simp [MOp.tmps,ht]);simp only [step,aj,az,e0,hh]
 | fld off a=>
  refine ⟨fun f=>step (.fld off a) st (fun v _=>f v) (fun _ _=>.fail),?_,?_⟩
  ·simp only [step,aj,az,aA]
   repeat' first
    | exact Sel.fail
    | exact Sel.pure _
    | refine Sel.test ?_ ?_
    | refine Sel.elem fun _=>?_
    | refine Sel.byte fun _=>?_
    | refine Sel.call fun _=>?_
    | exact Sel.nw fun _=>Sel.pure _
    | exact Sel.oG fun _=>Sel.pure _
    | exact Sel.fit fun _=>Sel.pure _
    | split
  ·intro st' ha hh q' x'
   have e0:Opd.ev st' a=Opd.ev st a:=av fun t ht=>ha t (by simp [MOp.tmps,ht]);simp only [step,aj,az,e0,hh]
 | cC a=>
  refine ⟨fun f=>step (.cC a) st (fun v _=>f v) (fun _ _=>.fail),?_,?_⟩
  ·simp only [step,aj,az,aA]
   repeat' first
    | exact Sel.fail
    | exact Sel.pure _
    | refine Sel.test ?_ ?_
    | refine Sel.elem fun _=>?_
    | refine Sel.byte fun _=>?_
    | refine Sel.call fun _=>?_
    | exact Sel.nw fun _=>Sel.pure _
    | exact Sel.oG fun _=>Sel.pure _
    | exact Sel.fit fun _=>Sel.pure _
    | split
  ·intro st' ha hh q' x'
   have e0:Opd.ev st' a=Opd.ev st a:=av fun t ht=>ha t (by simp [MOp.tmps,ht]);simp only [step,aj,az,e0,hh]
 | idx k s i=>
  refine ⟨fun f=>step (.idx k s i) st (fun v _=>f v) (fun _ _=>.fail),?_,?_⟩
  ·simp only [step,aj,az,aA]
   repeat' first
    | exact Sel.fail
    | exact Sel.pure _
    | refine Sel.test ?_ ?_
    | refine Sel.elem fun _=>?_
    | refine Sel.byte fun _=>?_
    | refine Sel.call fun _=>?_
    | exact Sel.nw fun _=>Sel.pure _
    | exact Sel.oG fun _=>Sel.pure _
    | exact Sel.fit fun _=>Sel.pure _
    | split
  ·intro st' ha hh q' x'
   have e0:Opd.ev st' s=Opd.ev st s:=av fun t ht=>ha t (by simp [MOp.tmps,ht]);have e1:Opd.ev st' i=Opd.ev st i:=av fun t ht=>ha t (by simp [MOp.tmps,ht]);simp only [step,e0,e1,hh]
 | idxs s i=>
  refine ⟨fun f=>step (.idxs s i) st (fun v _=>f v) (fun _ _=>.fail),?_,?_⟩
  ·simp only [step,aj,az,aA]
   repeat' first
    | exact Sel.fail
    | exact Sel.pure _
    | refine Sel.test ?_ ?_
    | refine Sel.elem fun _=>?_
    | refine Sel.byte fun _=>?_
    | refine Sel.call fun _=>?_
    | exact Sel.nw fun _=>Sel.pure _
    | exact Sel.oG fun _=>Sel.pure _
    | exact Sel.fit fun _=>Sel.pure _
    | split
  ·intro st' ha hh q' x'
   have e0:Opd.ev st' s=Opd.ev st s:=av fun t ht=>ha t (by simp [MOp.tmps,ht]);have e1:Opd.ev st' i=Opd.ev st i:=av fun t ht=>ha t (by simp [MOp.tmps,ht]);simp only [step,e0,e1,hh]
 | len b s=>
  refine ⟨fun f=>step (.len b s) st (fun v _=>f v) (fun _ _=>.fail),?_,?_⟩
  ·cases b
   all_goals
    simp only [step]
    repeat' first
     | exact Sel.fail
     | exact Sel.pure _
     | refine Sel.test ?_ ?_
     | refine Sel.elem fun _=>?_
     | refine Sel.byte fun _=>?_
     | refine Sel.call fun _=>?_
     | exact Sel.nw fun _=>Sel.pure _
     | exact Sel.oG fun _=>Sel.pure _
     | exact Sel.fit fun _=>Sel.pure _
     | split
  ·intro st' ha hh q' x'
   have e0:Opd.ev st' s=Opd.ev st s:=av fun t ht=>ha t (by simp [MOp.tmps,ht])
   cases b<;>simp only [step,aj,az,e0,hh]
 | eqs neg ks x y=>
  refine ⟨fun f=>step (.eqs neg ks x y) st (fun v _=>f v) (fun _ _=>.fail),?_,?_⟩
  ·simp only [step,aj,az,aA]
   repeat' first
    | exact Sel.fail
    | exact Sel.pure _
    | split
  ·intro st' ha hh q' x'
   have e0:Opd.ev st' x=Opd.ev st x:=av fun t ht=>ha t (by simp [MOp.tmps,ht]);have e1:Opd.ev st' y=Opd.ev st y:=av fun t ht=>ha t (by simp [MOp.tmps,ht]);simp only [step,e0,e1,hh]
 | bin op x y=>
  refine ⟨fun f=>step (.bin op x y) st (fun v _=>f v) (fun _ _=>.fail),?_,?_⟩
  ·simp only [step,aj,az,aA]
   repeat' first
    | exact Sel.fail
    | exact Sel.pure _
    | refine Sel.test ?_ ?_
    | refine Sel.elem fun _=>?_
    | refine Sel.byte fun _=>?_
    | refine Sel.call fun _=>?_
    | exact Sel.nw fun _=>Sel.pure _
    | exact Sel.oG fun _=>Sel.pure _
    | exact Sel.fit fun _=>Sel.pure _
    | split
  ·intro st' ha hh q' x'
   have e0:Opd.ev st' x=Opd.ev st x:=av fun t ht=>ha t (by simp [MOp.tmps,ht]);have e1:Opd.ev st' y=Opd.ev st y:=av fun t ht=>ha t (by simp [MOp.tmps,ht]);simp only [step,e0,e1,hh]
 | eqb neg x y=>
  refine ⟨fun f=>step (.eqb neg x y) st (fun v _=>f v) (fun _ _=>.fail),?_,?_⟩
  ·simp only [step,aj,az,aA]
   repeat' first
    | exact Sel.fail
    | exact Sel.pure _
    | refine Sel.test ?_ ?_
    | refine Sel.elem fun _=>?_
    | refine Sel.byte fun _=>?_
    | refine Sel.call fun _=>?_
    | exact Sel.nw fun _=>Sel.pure _
    | exact Sel.oG fun _=>Sel.pure _
    | exact Sel.fit fun _=>Sel.pure _
    | split
  ·intro st' ha hh q' x'
   have e0:Opd.ev st' x=Opd.ev st x:=av fun t ht=>ha t (by simp [MOp.tmps,ht]);have e1:Opd.ev st' y=Opd.ev st y:=av fun t ht=>ha t (by simp [MOp.tmps,ht]);simp only [step,e0,e1,hh]
 | not x=>
  refine ⟨fun f=>step (.not x) st (fun v _=>f v) (fun _ _=>.fail),?_,?_⟩
  ·simp only [step,aj,az,aA]
   repeat' first
    | exact Sel.fail
    | exact Sel.pure _
    | refine Sel.test ?_ ?_
    | refine Sel.elem fun _=>?_
    | refine Sel.byte fun _=>?_
    | refine Sel.call fun _=>?_
    | exact Sel.nw fun _=>Sel.pure _
    | exact Sel.oG fun _=>Sel.pure _
    | exact Sel.fit fun _=>Sel.pure _
    | split
  ·intro st' ha hh q' x'
   have e0:Opd.ev st' x=Opd.ev st x:=av fun t ht=>ha t (by simp [MOp.tmps,ht]);simp only [step,aj,az,e0,hh]
 | call g xs=>
  refine ⟨fun f=>step (.call g xs) st (fun v _=>f v) (fun _ _=>.fail),?_,?_⟩
  ·simp only [step,aj,az,aA]
   repeat' first
    | exact Sel.fail
    | exact Sel.pure _
    | refine Sel.test ?_ ?_
    | refine Sel.elem fun _=>?_
    | refine Sel.byte fun _=>?_
    | refine Sel.call fun _=>?_
    | exact Sel.nw fun _=>Sel.pure _
    | exact Sel.oG fun _=>Sel.pure _
    | exact Sel.fit fun _=>Sel.pure _
    | split
  ·intro st' ha hh q' x'
   simp only [step,hh,fy ha]
 | ext x i=>
  refine ⟨fun f=>step (.ext x i) st (fun v _=>f v) (fun _ _=>.fail),?_,?_⟩
  ·simp only [step,aj,az,aA]
   repeat' first
    | exact Sel.fail
    | exact Sel.pure _
    | refine Sel.test ?_ ?_
    | refine Sel.elem fun _=>?_
    | refine Sel.byte fun _=>?_
    | refine Sel.call fun _=>?_
    | exact Sel.nw fun _=>Sel.pure _
    | exact Sel.oG fun _=>Sel.pure _
    | exact Sel.fit fun _=>Sel.pure _
    | split
  ·intro st' ha hh q' x'
   have e0:Opd.ev st' x=Opd.ev st x:=av fun t ht=>ha t (by simp [MOp.tmps,ht]);simp only [step,aj,az,e0,hh]
 | aW k m zs ps=>
  refine ⟨fun f=>step (.aW k m zs ps) st (fun v _=>f v) (fun _ _=>.fail),?_,?_⟩
  ·simp only [step,aj,az,aA]
   repeat' first
    | exact Sel.fail
    | exact Sel.pure _
    | refine Sel.test ?_ ?_
    | refine Sel.elem fun _=>?_
    | refine Sel.byte fun _=>?_
    | refine Sel.call fun _=>?_
    | exact Sel.nw fun _=>Sel.pure _
    | exact Sel.oG fun _=>Sel.pure _
    | exact Sel.fit fun _=>Sel.pure _
    | split
  ·intro st' ha hh q' x'
   simp only [step,hh,ll hh ha]
 | zb g n off x=>
  refine ⟨fun f=>step (.zb g n off x) st (fun v _=>f v) (fun _ _=>.fail),?_,?_⟩
  ·simp only [step,aj,az,aA]
   repeat' first
    | exact Sel.fail
    | exact Sel.pure _
    | refine Sel.test ?_ ?_
    | split
  ·intro st' ha hh q' x'
   have e0:Opd.ev st' x=Opd.ev st x:=av fun t ht=>ha t (by simp [MOp.tmps,ht]);simp only [step,aj,e0,hh]
 | sl k x lo hi=>
  refine ⟨fun f=>step (.sl k x lo hi) st (fun v _=>f v) (fun _ _=>.fail),?_,?_⟩
  ·simp only [step,aj,az,aA]
   repeat' first
    | exact Sel.fail
    | exact Sel.pure _
    | refine Sel.test ?_ ?_
    | refine Sel.elem fun _=>?_
    | refine Sel.byte fun _=>?_
    | refine Sel.call fun _=>?_
    | exact Sel.nw fun _=>Sel.pure _
    | exact Sel.oG fun _=>Sel.pure _
    | exact Sel.fit fun _=>Sel.pure _
    | split
  ·intro st' ha hh q' x'
   have e0:Opd.ev st' x=Opd.ev st x:=av fun t ht=>ha t (by simp [MOp.tmps,ht]);simp only [step,e0,hh,fun d=>fz (st:=st) (st':=st') (d:=d) (x:=lo) (fun t ht=>ha t (by simp [MOp.tmps,ht])),fun d=>fz (st:=st) (st':=st') (d:=d) (x:=hi) (fun t ht=>ha t (by simp [MOp.tmps,ht]))]
 | rH x lo hi=>
  refine ⟨fun f=>step (.rH x lo hi) st (fun v _=>f v) (fun _ _=>.fail),?_,?_⟩
  ·simp only [step,aj,az,aA]
   repeat' first
    | exact Sel.fail
    | exact Sel.pure _
    | refine Sel.test ?_ ?_
    | refine Sel.elem fun _=>?_
    | refine Sel.byte fun _=>?_
    | refine Sel.call fun _=>?_
    | exact Sel.nw fun _=>Sel.pure _
    | exact Sel.oG fun _=>Sel.pure _
    | exact Sel.fit fun _=>Sel.pure _
    | split
  ·intro st' ha hh q' x'
   have e0:Opd.ev st' x=Opd.ev st x:=av fun t ht=>ha t (by simp [MOp.tmps,ht]);simp only [step,e0,hh,fun d=>fz (st:=st) (st':=st') (d:=d) (x:=lo) (fun t ht=>ha t (by simp [MOp.tmps,ht])),fun d=>fz (st:=st) (st':=st') (d:=d) (x:=hi) (fun t ht=>ha t (by simp [MOp.tmps,ht]))]
 | fw a=>
  refine ⟨fun f=>step (.fw a) st (fun v _=>f v) (fun _ _=>.fail),?_,?_⟩
  ·simp only [step,aj,az,aA]
   repeat' first
    | exact Sel.fail
    | exact Sel.pure _
    | refine Sel.Dm fun _=>?_
    | split
  ·intro st' ha hh q' x'
   have e0:Opd.ev st' a=Opd.ev st a:=av fun t ht=>ha t (by simp [MOp.tmps,ht]);simp only [step,aj,e0,hh]
 | vO ok kk z m x=>
  refine ⟨fun f=>step (.vO ok kk z m x) st (fun v _=>f v) (fun _ _=>.fail),?_,?_⟩
  ·simp only [step,aj,az,aA]
   repeat' first
    | exact Sel.fail
    | exact Sel.pure _
    | refine Sel.test ?_ ?_
    | refine Sel.val fun _=>?_
    | refine Sel.blk fun _=>?_
    | split
  ·intro st' ha hh q' x'
   have e0:Opd.ev st' m=Opd.ev st m:=av fun t ht=>ha t (by simp [MOp.tmps,ht]);have e1:Opd.ev st' x=Opd.ev st x:=av fun t ht=>ha t (by simp [MOp.tmps,ht]);simp only [step,e0,e1,hh]
 | _=>simp [iO] at hq
end Uw
namespace Uw
open Go Go.RowKit
variable [Glob]
def ub (g:Option (Nat×Bool)) (st:St):Option Bool:=
 match g with
 | none=>some true
 | some (t,want)=>match look st.regs t with
  | some (.d (.bool b))=>some (b == want)
  | some (.tuple [])=>some false
  | _=>none
def pG (P:Program) (i:MI) (st:St) (v:V):Prop:=
 ∀st' : St,(∀t∈i.tmps,look st'.regs t=look st.regs t)->st'.heap=st.heap->
  (ub i.g st' = some true/\∀(Q' : aG->St->Prop) (q' : V->St->Tree) (x' : aG->St->Tree),WT P Q' (q' v st')->WT P Q' (step i.op st' q' x'))\/(ub i.g st' = some false/\v = .tuple [])
structure dE (st st' : St):Prop where
 regs:∀t,look st'.regs t=look st.regs t
 heap:st'.heap=st.heap
 next:st'.next=st.next
 defers:st'.defers=st.defers
 base:st'.base=st.base
theorem dE.refl (st:St):dE st st:=⟨fun _=>rfl,rfl,rfl,rfl,rfl⟩
theorem dE.put {st st' : St} (h:dE st st') (dst:Option Nat) (v:V):dE (Uw.put dst v st) (Uw.put dst v st'):=by
 cases dst with
 | none=>exact h
 | some d=>exact ⟨fun t=>by simp only [Uw.put,ai,h.regs t],h.heap,h.next,h.defers,h.base⟩
theorem dE.known {st:St} {t:Nat} {v:V} (h:look st.regs t=some v):dE st (Uw.put (some t) v st):=by
 refine ⟨fun t'=>?_,rfl,rfl,rfl,rfl⟩;simp only [Uw.put,ai];by_cases ht:t=t'
 ·subst ht;rw [if_pos rfl,h]
 ·rw [if_neg ht]
theorem dE.trans {a b c:St} (h:dE a b) (g:dE b c):dE a c:=
 ⟨fun t=>(g.regs t).trans (h.regs t),g.heap.trans h.heap,g.next.trans h.next,g.defers.trans h.defers,g.base.trans h.base⟩
theorem pG.same {P:Program} {i:MI} {st st1:St} {v:V} (hs:dE st st1) (h:pG P i st1 v):pG P i st v:=
 fun st' ha hh=>h st' (fun t ht=>(ha t ht).trans (hs.regs t).symm) (hh.trans hs.heap.symm)
def Chain (P:Program):List MI->St->List V->St->Prop
 | [],st,vs,sf=>vs=[]/\dE st sf
 | i::l,st,vs,sf=>∃v vs',vs=v::vs'/\pG P i st v/\Chain P l (put i.dst v st) vs' sf
theorem Chain.same {P:Program}:∀{l:List MI} {st st1:St} {vs:List V} {sf:St},dE st st1->Chain P l st1 vs sf->Chain P l st vs sf
 | [],st,st1,vs,sf,hs,h=>⟨h.1,hs.trans h.2⟩
 | i::l,st,st1,vs,sf,hs,h=>by
  obtain ⟨v,vs',h1,h2,h3⟩:=h;exact ⟨v,vs',h1,h2.same hs,Chain.same (hs.put _ _) h3⟩
theorem pG.E7 {P:Program} {i:MI} {st:St} {Q:aG->St->Prop} {q:V->St->Tree} {x:aG->St->Tree} (hq:iO i.op=true) (hg:ub i.g st=some true) (h:WT P Q (step i.op st q x)):∃v,pG P i st v/\WT P Q (q v st):=by
 obtain ⟨T,hT,hf⟩:=ME (P:=P) hq st;rw [hf st (fun _ _=>rfl) rfl] at h;obtain ⟨v,g1,g2⟩:=hT Q _ h;refine ⟨v,?_,g1⟩;intro st' ha hh;refine .inl ⟨?_,fun Q' q' x' h'=>?_⟩
 ·rw [<- hg]
  unfold ub
  cases hi:i.g with
  | none=>rfl
  | some p=>obtain ⟨t,want⟩:=p;simp only [];rw [ha t (by simp [MI.tmps,hi])]
 ·rw [hf st' (fun t ht=>ha t (by simp [MI.tmps,ht])) hh]
  exact g2 Q' _ h'
theorem pG.Jt {P:Program} {i:MI} {st:St} (hg:ub i.g st=some false):pG P i st (.tuple []):=by
 intro st' ha hh;refine .inr ⟨?_,rfl⟩;rw [<- hg];unfold ub
 cases hi:i.g with
 | none=>rfl
 | some p=>obtain ⟨t,want⟩:=p;simp only [];rw [ha t (by simp [MI.tmps,hi])]
theorem v7 {mode:Option (Nat×Bool×Bool)} {t:Nat} {want hold:Bool} {st:St} (hdec:decided mode t want=some hold) (hm:jd mode st):∃b,look st.regs t=some (.d (.bool b))/\(b == want)=hold:=by
 unfold decided at hdec
 split at hdec
 ·rename_i t' want' hold'
  split at hdec
  ·rename_i hbb
   simp at hdec;subst hdec;rw [aay] at hbb;have e1:=aaB hbb.1;have e2:want=want':=by simpa using hbb.2
   subst e1 e2;exact hm _ _ _ rfl
  ·simp at hdec
 ·simp at hdec
theorem uH {P:Program} {Q:aG->St->Prop} {q:aG->St->Tree} {l2:List MI}:∀(l1:List MI) (mode:Option (Nat×Bool×Bool)) (st:St),(∀i∈l1,iO i.op=true)->jd mode st->WT P Q (dt (l1++l2) mode st q)->
  ∃vs sf kz,Chain P l1 st vs sf/\jd kz sf/\WT P Q (dt l2 kz sf q):=by
 intro l1
 induction l1 with
 | nil=>intro mode st _ hm h;exact ⟨[],st,mode,⟨rfl,dE.refl _⟩,hm,h⟩
 | cons i l ih=>
  intro mode st hq hm h;have hqi:=hq i (by simp);have hql:∀j∈l,iO j.op=true:=fun j hj=>hq j (by simp [hj])
  -- go on behind a value
  have go:∀(KP:Option (Nat×Bool×Bool)) (st1:St) (v:V),dE st st1->pG P i st1 v->jd KP (put i.dst v st1)->WT P Q (dt (l++l2) KP (put i.dst v st1) q)->
    ∃vs sf kz,Chain P (i::l) st vs sf/\jd kz sf/\WT P Q (dt l2 kz sf q):=by
   intro KP st1 v hs ho hm1 hw;obtain ⟨vs,sf,kz,g1,g2,g3⟩:=ih KP _ hql hm1 hw;exact ⟨v::vs,sf,kz,⟨v,vs,rfl,ho.same hs,Chain.same (hs.put _ _) g1⟩,g2,g3⟩
  simp only [aaE,sj,qK,EV] at h
  split at h
  ·rename_i hg
   obtain ⟨v,ho,hw⟩:=pG.E7 hqi (by simp [ub,hg]) h;exact go none st v (dE.refl _) ho (by intro t w' h' hh;simp at hh) hw
  ·rename_i t want hg
   split at h
   ·rename_i hdec
    obtain ⟨b,hb1,hb2⟩:=v7 hdec hm;obtain ⟨v,ho,hw⟩:=pG.E7 hqi (by simp [ub,hg,hb1,hb2]) h;exact go _ st v (dE.refl _) ho (hm.put rfl _ _) hw
   ·rename_i hdec
    obtain ⟨b,hb1,hb2⟩:=v7 hdec hm;exact go _ st (.tuple []) (dE.refl _) (pG.Jt (by simp [ub,hg,hb1,hb2])) (hm.put rfl _ _) h
   ·split at h
    ·rename_i b hb
     simp only [WT] at h
     cases hbw:(b == want) with
     | true=>
      have Js : b=want:=by simpa using hbw
      subst Js;have hs:=dE.known hb;obtain ⟨v,ho,hw⟩:=pG.E7 (st:=put (some t) (.d (.bool b)) st) hqi (by simp [ub,hg,Uw.put,ai]) (h.1 hbw);refine go _ _ v hs ho ?_ hw;refine jd.put (st:=put (some t) (.d (.bool b)) st) ?_ rfl _ _;intro t' w' h' hh;simp at hh;obtain ⟨rfl,rfl,rfl⟩:=hh;exact ⟨b,by simp [Uw.put,ai],by simp⟩
     | false=>
      have Js : b = !want:=by cases b<;>cases want<;>simp_all
      subst Js;have hs:=dE.known hb;refine go _ _ (.tuple []) hs (pG.Jt (by simp [ub,hg,Uw.put,ai])) ?_ (h.2 hbw);refine jd.put (st:=put (some t) (.d (.bool (!want))) st) ?_ rfl _ _;intro t' w' h' hh;simp at hh;obtain ⟨rfl,rfl,rfl⟩:=hh;exact ⟨!want,by simp [Uw.put,ai],by cases want<;>rfl⟩
    ·rename_i hb
     exact go _ st (.tuple []) (dE.refl _) (pG.Jt (by simp [ub,hg,hb])) (hm.put rfl _ _) h
    ·exact h.elim
def after (st:St):List MI->List V->St
 | i::l,v::vs=>after (put i.dst v st) l vs
 | _,_=>st
theorem Chain.length {P:Program}:∀{l:List MI} {st:St} {vs:List V} {sf:St},Chain P l st vs sf->vs.length=l.length
 | [],st,vs,sf,h=>by rw [h.1];rfl
 | i::l,st,vs,sf,h=>by obtain ⟨v,vs',rfl,h2,h3⟩:=h;simp [Chain.length h3]
theorem Chain.last {P:Program}:∀{l:List MI} {st:St} {vs:List V} {sf:St},Chain P l st vs sf->dE (after st l vs) sf
 | [],st,vs,sf,h=>by rw [h.1];exact h.2
 | i::l,st,vs,sf,h=>by obtain ⟨v,vs',rfl,h2,h3⟩:=h;exact show dE (after (put i.dst v st) l vs') sf from Chain.last h3
theorem Chain.at {P:Program}:∀{l:List MI} {st:St} {vs:List V} {sf:St},Chain P l st vs sf->∀(k:Nat) (i:MI),l[k]? = some i->∃v,vs[k]? = some v/\pG P i (after st (l.take k) (vs.take k)) v
 | [],st,vs,sf,h,k,i,hk=>by simp at hk
 | j::l,st,vs,sf,h,k,i,hk=>by
  obtain ⟨v,vs',rfl,h2,h3⟩:=h
  cases k with
  | zero=>simp at hk;subst hk;exact ⟨v,rfl,h2⟩
  | succ k=>
   simp at hk;obtain ⟨u,g1,g2⟩:=Chain.at h3 k i hk;exact ⟨u,by simpa using g1,g2⟩
theorem u6:∀(l:List MI) (vs:List V) (st:St),(after st l vs).heap=st.heap/\(after st l vs).next=st.next/\(after st l vs).defers=st.defers/\(after st l vs).base=st.base
 | [],vs,st=>by simp [after]
 | i::l,[],st=>by simp [after]
 | i::l,v::vs,st=>by
  rw [after];obtain ⟨h1,h2,h3,h4⟩:=u6 l vs (put i.dst v st)
  cases hd:i.dst<;>simp [hd,Uw.put] at h1 h2 h3 h4 ⊢<;>exact ⟨h1,h2,h3,h4⟩
theorem gR:∀(l:List MI) (vs:List V) (st:St) (t:Nat),(∀(j:Nat) (i:MI),l[j]? = some i->i.dst≠some t)->look (after st l vs).regs t=look st.regs t
 | [],vs,st,t,_=>by simp [after]
 | i::l,[],st,t,_=>by simp [after]
 | i::l,v::vs,st,t,h=>by
  rw [after,gR l vs _ t (fun j i' hj=>h (j+1) i' (by simpa using hj))];have h0:=h 0 i rfl
  cases hd:i.dst with
  | none=>simp [Uw.put]
  | some d=>
   simp only [Uw.put,ai];rw [if_neg];intro e;subst e;exact h0 hd
theorem nG:∀(l:List MI) (vs:List V) (st:St) (t j:Nat) (i:MI) (v:V),l[j]? = some i->vs[j]? = some v->i.dst=some t->(∀(j' : Nat) (i' : MI),l[j']? = some i'->i'.dst=some t->j' = j)->vs.length=l.length->look (after st l vs).regs t=some v
 | [],vs,st,t,j,i,v,hj,_,_,_,_=>by simp at hj
 | x::l,[],st,t,j,i,v,hj,hv,hd,hu,hl=>by simp at hl
 | x::l,u::vs,st,t,j,i,v,hj,hv,hd,hu,hl=>by
  rw [after]
  cases j with
  | zero=>
   simp at hj hv;subst hj hv;rw [gR]
   ·simp [hd,Uw.put,ai]
   ·intro j' i' hj' hd'
    have:=hu (j' + 1) i' (by simpa using hj') hd';omega
  | succ j=>
   simp at hj hv;exact nG l vs _ t j i v hj hv hd (fun j' i' hj' hd'=>by
    have:=hu (j' + 1) i' (by simpa using hj') hd';omega) (by simpa using hl)
end Uw
namespace Uw
open Go Go.RowKit
variable [Glob]
theorem sA {P:Program} {n:Nat} {pol:Pol} {ops:List Oper}:∀{l:List Oper} {mi:List MI},dV P n pol ops l=some mi->mi.length=l.length/\∀(k:Nat) (o:Oper),l[k]? = some o->∃i,mi[k]? = some i/\zP ops o.guard=some i.g/\EX P pol o=some i.op/\i.dst=o.dst/\
  (match o.dst with|some d=>Nat.blt d n|none=>true)=true:=by
 intro l
 induction l with
 | nil=>intro mi h;simp [dV] at h;subst h;simp
 | cons o l ih=>
  intro mi h;unfold dV at h
  split at h
  ·rename_i g m mi' h1 h2 h3 h4
   simp at h;subst h;obtain ⟨g1,g2⟩:=ih h3;refine ⟨by simp [g1],?_⟩;intro k o' hk
   cases k with
   | zero=>simp at hk;subst hk;exact ⟨_,rfl,h1,h2,rfl,h4⟩
   | succ k=>simp at hk;simpa using g2 k o' hk
  ·simp at h
theorem E8 {P:Program} {n:Nat} {pol:Pol} {ops:List Oper}:∀{l:List Oper} {mi:List MI} (k:Nat),dV P n pol ops l=some mi->dV P n pol ops (l.drop k)=some (mi.drop k):=by
 intro l
 induction l with
 | nil=>intro mi k h;simp [dV] at h;subst h;simp [dV]
 | cons o l ih=>
  intro mi k h
  cases k with
  | zero=>simpa using h
  | succ k=>
   unfold dV at h
   split at h
   ·rename_i g m mi' h1 h2 h3 h4
    simp at h;subst h;simpa using ih k h3
   ·simp at h
theorem lw {c:Cx} {w0:World} {n:Nat} {gs:Fr} {st:St} {a:Act} (r:Rel c w0 n gs st a) {ops:List Oper} {o:Oper} {g:Option (Nat×Bool)} (hg:zP ops o.guard=some g) {b:Bool} (hb:ub g st=some b) :
  Region.wanted o (yielded ops.toArray a.tmps)=b:=by
 cases hgo:o.guard with
 | none=>
  rw [hgo] at hg;simp [zP] at hg;subst hg;simp [ub] at hb;subst hb;simp [Region.wanted,hgo]
 | some jw=>
  obtain ⟨j,want⟩:=jw;rw [hgo] at hg;simp only [zP] at hg
  split at hg
  ·rename_i oj hoj
   split at hg
   ·rename_i t ht
    simp at hg;subst hg;simp only [ub] at hb
    split at hb
    ·rename_i b' hb'
     simp at hb;subst hb;have e:=r.regs t _ hb';simp only [aB,aI] at e;have e' : a.tmps[t]? = some (.bool b'):=by
      rw [abC] at e
      cases hq:a.tmps[t]? with
      | none=>rw [hq] at e;simp [undef] at e
      | some u=>rw [hq] at e;simp at e;rw [e]
     have ey:yielded ops.toArray a.tmps j=some b':=by
      unfold yielded;simp [hoj,ht,e']
     simp only [Region.wanted,hgo,ey]
     cases b'<;>cases want<;>rfl
    ·rename_i hb'
     simp at hb;subst hb;have e:=r.regs t _ hb';have ey:yielded ops.toArray a.tmps j=none:=by
      simp [aB,ay] at e;unfold yielded
      cases hq:a.tmps[t]? with
      | none=>simp [hoj,ht,hq]
      | some u=>rw [hq] at e;simp at e;simp [hoj,ht,hq,e]
     simp only [Region.wanted,hgo,ey];cases want<;>rfl
    ·simp at hb
   ·simp at hg
  ·simp at hg
theorem Rel.same {c:Cx} {w0:World} {n:Nat} {gs:Fr} {st st' : St} {a:Act} (r:Rel c w0 n gs st a) (h:dE st st'):Rel c w0 n gs st' a:=
 ⟨r.heap.trans h.heap.symm,by rw [h.next];exact r.hrel,r.size,fun i v hv=>r.regs i v (by rw [<- h.regs i];exact hv),r.frames,by rw [h.base];exact r.kx,by rw [h.base,h.next];exact r.base,by rw [h.defers];exact r.defers⟩
structure Vp (mi:List MI) (h:Nat) (vs:List V) (st:St) (listed:Array Bool) (s:St):Prop where
 none:∀t,(∀(j:Nat) (i:MI),j<h->mi[j]? = some i->listed.getD j false=true->i.dst≠some t)->look s.regs t=look st.regs t
 one:∀(j:Nat) (i:MI) (t:Nat),j<h->mi[j]? = some i->listed.getD j false=true->i.dst=some t->look s.regs t=vs[j]?
 heap:s.heap=st.heap
 next:s.next=st.next
 defers:s.defers=st.defers
 base:s.base=st.base
def left (listed:Array Bool):Nat->Nat
 | 0=>0
 | h+1=>left listed h+(if listed.getD h false then 0 else 1)
theorem tI {listed:Array Bool}:∀{h:Nat},left listed h=0->∀i,i<h->listed.getD i false=true
 | 0,_,i,hi=>by omega
 | h+1,hl,i,hi=>by
  simp only [left] at hl;have h1:left listed h=0:=by omega
  have h2:(if listed.getD h false then 0 else 1)=0:=by omega
  by_cases hih:i=h
  ·subst hih
   by_cases hb:listed.getD i false=true
   ·exact hb
   ·simp [hb] at h2
  ·exact tI h1 i (by omega)
theorem yI {listed:Array Bool} {i:Nat}:∀{h:Nat},h<=i->left (listed.setIfInBounds i true) h=left listed h
 | 0,_=>rfl
 | h+1,hi=>by
  simp only [left];rw [yI (by omega),getD_set_ne false (by omega)]
theorem Af {listed:Array Bool} {i:Nat} (hs:i<listed.size) (hu:listed.getD i false=false):∀{h:Nat},i<h->left (listed.setIfInBounds i true) h+1=left listed h
 | 0,hi=>by omega
 | h+1,hi=>by
  simp only [left];by_cases hih:i=h
  ·subst hih
   rw [yI (aax _)];have:(listed.setIfInBounds i true).getD i false=true:=by simp [hs]
   rw [this,hu];simp
  ·have:=Af hs hu (h:=h) (by omega)
   rw [getD_set_ne false hih];omega
theorem kA {listed:Array Bool} {h:Nat} (hl:left listed h≠0):∃i,i<h/\listed.getD i false=false/\∀j,j<i->listed.getD j false=true:=by
 induction h with
 | zero=>simp [left] at hl
 | succ h ih=>
  by_cases h0:left listed h=0
  ·refine ⟨h,by omega,?_,fun j hj=>tI h0 j hj⟩
   simp only [left,h0] at hl
   cases hb:listed.getD h false with
   | true=>simp [hb] at hl
   | false=>rfl
  ·obtain ⟨i,h1,h2,h3⟩:=ih h0
   exact ⟨i,by omega,h2,h3⟩
section
variable {P : Program} {n h : Nat} {pol : Pol} {ops : List Oper} {mi : List MI} {Q : aG -> St -> Prop} {q : aG -> St -> Tree} {w0 : World} {gs : Fr} {st : St} {c0 : Cx} {vs : List V} {sf : St} {mode : Option (Nat × Bool × Bool)}
theorem MF (hc:dV P n pol ops ops=some mi) (hd:Hf ops mi h=true) (hch:Chain P (mi.take h) st vs sf) (hm:jd mode sf) (hw:WT P Q (dt (mi.drop h) mode sf q)) :
  ∀(d:Nat) (listed:Array Bool) (c:Cx) (a:Act) (s:St),left listed h=d->HeadInv .any ops.toArray h listed->Vp mi h vs st listed s->c.B=c0.B->c.J0=c0.J0->Rel c w0 n gs s a->
   wpAny P .any ops.toArray (Came P Q q c0 w0 n gs) (d+(ops.length - h)) listed a c.w:=by
 simp only [Hf,aay,decide_eq_true_eq] at hd;obtain ⟨⟨⟨⟨⟨hle,hquiet⟩,X4⟩,X5⟩,htail⟩,hseq⟩:=hd;obtain ⟨hlen,hget⟩:=sA hc;have hvl:=hch.length;have htl:(mi.take h).length=h:=by simp;omega
 rw [htl] at hvl;have sees:∀i j,i<h->j<h->i≠j->∀(x y:MI),mi[i]? = some x->mi[j]? = some y->∀t,y.dst=some t->x.dst≠some t/\(t∈x.tmps->(j<i/\Region.waitsFor .any ops.toArray i j=true)\/(i<j/\Region.waitsFor .any ops.toArray j i=true)):=by
  intro i j hi hj hij x y hx hy t ht;have h1:=aaS.1 (aaS.1 X5 i (abV.2 hi)) j (abV.2 hj);simp only [abg,beq_iff_eq] at h1
  rcases h1 with h1|h1
  ·exact (hij h1).elim
  ·simp only [Vl,hx,hy,ht,aay,abg] at h1
   refine ⟨by simpa using h1.1,fun hmem=>?_⟩
   rcases h1.2 with h2|h2
   ·have:x.tmps.contains t=true:=by simpa using hmem
    rw [this] at h2;simp at h2
   ·by_cases hji:j<i
    ·rw [if_pos hji] at h2;exact .inl ⟨hji,h2⟩
    ·rw [if_neg hji] at h2;exact .inr ⟨by omega,h2⟩
 intro d
 induction d with
 | zero=>
  intro listed c a s hl hinv hst hB hJ r;have hall:=tI hl;have hcan:listed=canon h ops.length:=by
   apply Array.ext
   ·rw [hinv.size];simp [canon]
   ·intro i h1 h2
    have e1:listed.getD i false=listed[i]:=by simp [h1]
    have hi:i<ops.length:=by rw [hinv.size] at h1;simpa using h1
    simp only [canon,List.getElem_toArray,adb,List.getElem_range];by_cases hih:i<h
    ·rw [<- e1,hall i hih];simp [hih]
    ·have:=hinv.tail i (by omega) (by simpa using hi)
     have e2:listed.getD i true=listed[i]:=by simp [h1]
     rw [<- e2,this];simp [hih]
  have hsame:dE s sf:=by
   refine dE.trans ?_ hch.last;obtain ⟨a1,a2,a3,a4⟩:=u6 (mi.take h) vs st;refine ⟨fun t=>?_,by rw [a1,hst.heap],by rw [a2,hst.next],by rw [a3,hst.defers],by rw [a4,hst.base]⟩;by_cases hex:∃(j:Nat) (i:MI),j<h/\mi[j]? = some i/\i.dst=some t
   ·obtain ⟨j,i,hj,hi,ht⟩:=hex
    have hv:vs[j]? = some vs[j]:=aaU (by omega);rw [hst.one j i t hj hi (hall j hj) ht,hv];refine nG (mi.take h) vs st t j i _ (by rw [aaH,if_pos hj];exact hi) hv ht ?_ (by rw [htl,hvl]);intro j' i' hj' ht';rw [aaH] at hj'
    split at hj'
    ·rename_i hjh
     by_cases hjj:j' = j
     ·exact hjj
     ·exact ((sees j' j hjh hj hjj i' i hj' hi t ht).1 ht').elim
    ·simp at hj'
   ·rw [hst.none t (fun j i hj hi _ ht=>hex ⟨j,i,hj,hi,ht⟩)]
    refine gR (mi.take h) vs st t ?_;intro j i hi ht;rw [aaH] at hi
    split at hi
    ·rename_i hj;exact hex ⟨j,i,hj,hi,ht⟩
    ·simp at hi
  have hlist:=u5 (P:=P) (n:=n) (ops:=ops) (Q:=Q) (q:=q) (w0:=w0) (gs:=gs) (c0:=c0) (ops.drop h) (mi.drop h) mode c sf a (E8 h hc) hB hJ (r.same hsame) hm hw;have:=wpAny_of_seq (md:=.any) (ops.drop h) h listed a c.w (fun j=>by simp [abq]) (by rw [hcan];simpa using hseq) hlist;simpa using this
 | succ d ih=>
  intro listed c a s hl hinv hst hB hJ r;rw [show d+1+(ops.length - h)=(d+(ops.length - h))+1 by omega];obtain ⟨i0,hi0,hu0,hlo0⟩:=kA (listed:=listed) (h:=h) (by omega);have hsz:=hinv.size;have Y4:listed.size=ops.length:=by simpa using hsz
  have u7:i0∈Region.ready .any ops.toArray listed:=by
   rw [mem_ready];refine ⟨getD_in (by omega) hu0,?_⟩;have h1:=aaS.1 X4 i0 (abV.2 hi0);have ho:ops[i0]? = some ops[i0]:=aaU (by omega);rw [ho] at h1;refine ⟨ops[i0],by simp,fun e he hb=>?_⟩;have h2:=Array.all_eq_true_iff_forall_mem.1 h1 e he;simp only [abg,acN,decide_eq_true_eq,hb] at h2
   rcases h2 with h2|h2
   ·cases h2
   ·exact hlo0 _ h2
  refine ⟨fun h0=>(by rw [h0] at u7;cases u7),?_⟩;intro i hi
  -- a head
  have hih:i<h:=by
   by_cases hih:i<h
   ·exact hih
   ·exfalso
    obtain ⟨_,oi,hoi,_⟩:=mem_ready.1 hi;have hilt:i<ops.length:=by
     have:=(abL.1 hoi).1;simpa using this
    rcases abg .. ▸ htail with ht|ht
    ·have:h=ops.length:=by simpa using ht
     omega
    ·rw [aay] at ht
     exact tail_waits ht.1 ht.2 (by simp;omega) hinv (h - i0) i0 rfl hi0 (getD_in (by omega) hu0) i (by omega) hi
  have hui:=(mem_ready.1 hi).1;have Hz:=getD_both hui;obtain ⟨oi,hoi,OI⟩:=(mem_ready.1 hi).2;have hoi' : ops[i]? = some oi:=by simpa using hoi
  obtain ⟨x,hx,hg,hop,hdst,hdn⟩:=hget i oi hoi';have hxt:(mi.take h)[i]? = some x:=by rw [aaH,if_pos hih];exact hx
  obtain ⟨v,hv,hok⟩:=hch.at i x hxt
  -- what it looks at is there
  have u9:∀t∈x.tmps,look s.regs t=look (after st ((mi.take h).take i) (vs.take i)).regs t:=by
   intro t ht;by_cases hex:∃(j:Nat) (y:MI),j<h/\j≠i/\mi[j]? = some y/\y.dst=some t
   ·obtain ⟨j,y,hj,hji,hy,hyt⟩:=hex
    rcases (sees i j hih hj (Ne.symm hji) x y hx hy t hyt).2 ht with ⟨hlt,hwf⟩|⟨hlt,hwf⟩
    ·-- j ahead of i,and i waits for it
     obtain ⟨o',ho',e,he,hb,hon⟩:=Region.waitsFor_spec hwf;have:o' = oi:=acW (ho'.symm.trans hoi);subst this;have hlj:listed.getD j false=true:=by rw [<- hon];exact OI e he hb
     have hvj:vs[j]? = some vs[j]:=aaU (by omega);rw [hst.one j y t hj hy hlj hyt,hvj]
     symm
     refine nG _ _ st t j y _ ?_ ?_ hyt ?_ ?_
     ·rw [aaH,if_pos hlt,aaH,if_pos hj];exact hy
     ·rw [aaH,if_pos hlt];exact hvj
     ·intro j' y' hj' E9
      rw [aaH] at hj'
      split at hj'
      ·rename_i X6
       rw [aaH] at hj'
       split at hj'
       ·rename_i Fj
        by_cases hjj:j' = j
        ·exact hjj
        ·exact ((sees j' j Fj hj hjj y' y hj' hy t hyt).1 E9).elim
       ·simp at hj'
      ·simp at hj'
     ·simp;omega
    ·-- i ahead of j,which waits for it: it has not come
     have hlj:listed.getD j false=false:=by
      cases hb:listed.getD j false with
      | false=>rfl
      | true=>
       obtain ⟨o',ho',e,he,hbb,hon⟩:=Region.waitsFor_spec hwf;have:=hinv.closed j o' ho' hb e he hbb;rw [hon,Hz] at this;cases this
     rw [hst.none t]
     ·symm
      refine gR _ _ st t ?_;intro j' y' hj' E9;rw [aaH] at hj'
      split at hj'
      ·rename_i X6
       rw [aaH] at hj'
       split at hj'
       ·rename_i Fj
        exact ((sees j' j Fj hj (by omega) y' y hj' hy t hyt).1 E9).elim
       ·simp at hj'
      ·simp at hj'
     ·intro j' y' Fj hj' hl' E9
      by_cases hjj:j' = j
      ·subst hjj;rw [hlj] at hl';cases hl'
      ·exact ((sees j' j Fj hj hjj y' y hj' hy t hyt).1 E9).elim
   ·rw [hst.none t]
    ·symm
     refine gR _ _ st t ?_;intro j' y' hj' E9;rw [aaH] at hj'
     split at hj'
     ·rename_i X6
      rw [aaH] at hj'
      split at hj'
      ·rename_i Fj
       exact hex ⟨j',y',Fj,by omega,hj',E9⟩
      ·simp at hj'
     ·simp at hj'
    ·intro j' y' Fj hj' hl' E9
     by_cases hjj:j' = i
     ·subst hjj;rw [Hz] at hl';cases hl'
     ·exact hex ⟨j',y',Fj,hjj,hj',E9⟩
  have hheap:s.heap=(after st ((mi.take h).take i) (vs.take i)).heap:=by
   rw [hst.heap,(u6 _ _ _).1]
  have hleft:left (listed.setIfInBounds i true) h=d:=by
   have:=Af (listed:=listed) (i:=i) (by omega) Hz (h:=h) hih;omega
  have hinv':=hinv.set hi hih;have hst' : ∀u,vs[i]? = some u->Vp mi h vs st (listed.setIfInBounds i true) (put x.dst u s):=by
   intro u hu;have qV:∀j,(listed.setIfInBounds i true).getD j false=true->j=i\/listed.getD j false=true:=by
    intro j hj;by_cases hji:j=i
    ·exact .inl hji
    ·rw [getD_set_ne false (Ne.symm hji)] at hj;exact .inr hj
   have hput:(put x.dst u s).heap=s.heap/\(put x.dst u s).next=s.next/\(put x.dst u s).defers=s.defers/\(put x.dst u s).base=s.base:=by
    cases x.dst<;>simp [Uw.put]
   have hii:(listed.setIfInBounds i true).getD i false=true:=by simp [show i<listed.size by omega]
   refine ⟨?_,?_,by rw [hput.1,hst.heap],by rw [hput.2.1,hst.next],by rw [hput.2.2.1,hst.defers],by rw [hput.2.2.2,hst.base]⟩
   ·intro t ht
    have hnx:x.dst≠some t:=ht i x hih hx hii;have hs' : look (put x.dst u s).regs t=look s.regs t:=by
     cases hxd:x.dst with
     | none=>simp [Uw.put]
     | some dd=>
      simp only [Uw.put,ai];rw [if_neg];intro e;subst e;exact hnx hxd
    rw [hs'];refine hst.none t (fun j y hj hy hl'=>ht j y hj hy ?_);exact getD_set_true hl'
   ·intro j y t hj hy hl' hyt
    rcases qV j hl' with rfl|hl''
    ·rw [hx] at hy;injection hy with hy;subst hy
     rw [hyt,hu];simp [Uw.put,ai]
    ·by_cases hji:j=i
     ·subst hji;rw [Hz] at hl'';cases hl''
     ·have hne:=(sees i j hih hj (Ne.symm hji) x y hx hy t hyt).1
      have hs' : look (put x.dst u s).regs t=look s.regs t:=by
       cases hxd:x.dst with
       | none=>simp [Uw.put]
       | some dd=>
        simp only [Uw.put,ai];rw [if_neg];intro e;subst e;exact hne hxd
      rw [hs'];exact hst.one j y t hj hy hl'' hyt
  unfold wpOp;simp only [hoi]
  rcases hok s u9 hheap with ⟨hgr,hstep⟩|⟨hgr,rfl⟩
  ·rw [lw r hg hgr]
   simp only [if_true];left;have hW:=hstep (fun _ z=>z=put (some 0) v s) (fun v' s'=>Tree.done .normal (put (some 0) v' s')) (fun _ _=>.fail) rfl;refine step_ok (xx:=fun _ _=>Tree.fail) r hop ?_ (fun c' st' d ch _ _ _ _ _ hq=>False.elim hq) hW;intro c' s' a' v' gv hB' hJ' htm r' yH hv' hq;simp only [WT,Uw.put,St.mk.injEq,abE,abf,true_and] at hq;obtain ⟨⟨rfl,e1⟩,e2,e3,e4,e5⟩:=hq;have hss:s' = s:=by cases s';cases s;simp_all
   subst hss;refine ih _ c' _ (put x.dst v' s') hleft hinv' (hst' v' hv) (hB'.trans hB) (hJ'.trans hJ) ?_;rw [hdst];exact r'.put hdn hv'
  ·rw [lw r hg hgr]
   simp only [aaX,if_false];refine ih _ c _ (put x.dst (.tuple []) s) hleft hinv' (hst' (.tuple []) hv) hB hJ ?_;rw [hdst];exact r.put hdn (by simp [aB,ay,undef])
theorem OJ (S:WPS P) {id:Nat} {c:Cx} {a:Act} (hdf:S.dfr=true\/ops.all vR=true) (hm:P.follows .mixedOrders=true) (hc:dV P n pol ops ops=some mi) (hd:Hf ops mi h=true) (r:Rel c w0 n gs st a) (hw:WT P Q (dt mi none st q)) :
  S.W (Code.region id ops.toArray true) (Came P Q q c w0 n gs) a c.w:=by
 have hd':=hd;simp only [Hf,aay,decide_eq_true_eq] at hd';obtain ⟨⟨⟨⟨⟨hle,hquiet⟩,_⟩,_⟩,_⟩,_⟩:=hd';rw [<- abM h mi] at hw;obtain ⟨vs,sf,mode,g1,g2,g3⟩:=uH (mi.take h) none st (fun i hi=>aaS.1 hquiet i hi) (by intro t w' h' hh;simp at hh) hw;refine S.any hm E6 (by simpa using hdf) ?_;have hbel:Below c.w.heap.size c.w { c.w with drawn:=c.w.drawn+1 }:=⟨rfl,rfl,rfl,aax _,fun _ _=>rfl⟩
 have r1:=r.grow hbel;have hnone:∀j,(Array.replicate ops.toArray.size false).getD j false=false:=fun j=>getD_replicate_false _ j;have hl:∀k,left (Array.replicate ops.toArray.size false) k=k:=by
  intro k
  induction k with
  | zero=>rfl
  | succ k ih=>simp only [left,ih,hnone,aaX,if_false]
 have:=MF (c0:=c) (gs:=gs) (w0:=w0) hc hd g1 g2 g3 h (Array.replicate ops.toArray.size false) { c with w:={ c.w with drawn:=c.w.drawn+1 } } a st (hl h)
  ⟨by simp,fun j oj _ hl'=>(by rw [hnone] at hl';cases hl'),fun t _ ht=>getD_in (by simpa using ht) (hnone t)⟩
  ⟨fun _ _=>rfl,fun j i t _ _ hl'=>(by rw [hnone] at hl';cases hl'),rfl,rfl,rfl,rfl⟩ rfl rfl r1
 rw [show h+(ops.length - h)=ops.toArray.size by simp;omega] at this;exact this
end
end Uw
