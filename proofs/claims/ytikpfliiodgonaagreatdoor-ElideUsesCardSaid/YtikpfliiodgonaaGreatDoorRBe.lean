/- RBe: Be (merged by merge2.py from the working texts). -/
import Derived.Test.YtikpfliiodgonaaGreatDoorL9
import Derived.Test.YtikpfliiodgonaaGreatDoorL3
set_option linter.unusedSimpArgs false
set_option linter.unnecessarySimpa false
set_option linter.unusedVariables false
set_option linter.unusedSectionVars false
set_option maxRecDepth 100000
set_option maxHeartbeats 4000000
namespace Uw.Tryz.El
open Go Uw Uw.Tryz
def xO (k:Int) (n i:Nat) (l:List Cont):Prop:=l.length=n/\∀x∈l,gw k x/\x.vals.length<=i
structure TOk (nc nm ns nh i:Nat) (t:Th):Prop where
 cells:t.cells.length=nc
 maps:xO 1 nm i t.maps
 stacks:xO 2 ns i t.stacks
 chans:xO 3 nh i t.chans
theorem xO.up {k:Int} {n i:Nat} {l:List Cont} (h:xO k n i l):xO k n (i+1) l:=⟨h.1,fun x hx=>⟨(h.2 x hx).1,by have:=(h.2 x hx).2;omega⟩⟩
theorem xO.step {k:Int} {n i j:Nat} {l:List Cont} (h:xO k n i l) (o:Op4):xO k n (i+1) (l.set j (doS (l.getD j default) o).1):=by
 refine ⟨by rw [ZU];exact h.1,fun x hx=>?_⟩
 rcases Zh hx with h1|h1
 ·exact (xO.up h).2 x h1
 ·by_cases hj:j<l.length
  ·have e:l.getD j default=l[j]:=by simp [hj]
   have hd:=Hk o (h.2 l[j] (YX hj)).1;rw [h1,e];exact ⟨hd.1,by have:=(h.2 l[j] (YX hj)).2;omega⟩
  ·rw [abb (by omega)] at hx
   exact (xO.up h).2 x hx
theorem TOk.step {nc nm ns nh i:Nat} {t t' : Th} {u:xA} (h:TOk nc nm ns nh i t) (hu:A5 t u=some t'):TOk nc nm ns nh (i+1) t':=by
 unfold A5 at hu
 split at hu
 ·split at hu
  ·cases hu
  ·injection hu with hu
   subst hu
   split
   ·exact ⟨by rw [ZU];exact h.cells,h.maps.up,h.stacks.up,h.chans.up⟩
   ·exact ⟨h.cells,h.maps.up,h.stacks.up,h.chans.up⟩
 ·split at hu
  ·cases hu
  ·split at hu
   ·injection hu with hu
    subst hu;unfold Th.put
    split
    ·rename_i e
     refine ⟨h.cells,?_,h.stacks.up,h.chans.up⟩;rw [e];exact h.maps.step _
    ·rename_i e1
     split
     ·rename_i e2
      refine ⟨h.cells,h.maps.up,?_,h.chans.up⟩;rw [e2];exact h.stacks.step _
     ·rename_i e2
      refine ⟨h.cells,h.maps.up,h.stacks.up,?_⟩;have e:∀t:Th,t.of u.thing=t.chans:=fun t=>by unfold Th.of;rw [if_neg e1,if_neg e2]
      rw [e];exact h.chans.step _
   ·cases hu
theorem DX {t t' : Th} {u:xA} (h:A5 t u=some t') :
  (u.thing=0/\0<=u.obj/\u.obj<(t.cells.length:Int)/\((u.op.kind=0/\t.cells.getD u.obj.toNat 0=u.val/\t' = t)\/(u.op.kind=1/\t' = { t with cells:=t.cells.set u.obj.toNat u.op.a })\/(u.op.kind≠0/\u.op.kind≠1/\t' = t)))\/
  (u.thing=1/\0<=u.obj/\u.obj<(t.maps.length:Int)/\(doS (t.maps.getD u.obj.toNat default) u.op).2.1=u.val/\(doS (t.maps.getD u.obj.toNat default) u.op).2.2=u.is/\t' = { t with maps:=t.maps.set u.obj.toNat (doS (t.maps.getD u.obj.toNat default) u.op).1 })\/
  (u.thing=2/\0<=u.obj/\u.obj<(t.stacks.length:Int)/\(doS (t.stacks.getD u.obj.toNat default) u.op).2.1=u.val/\(doS (t.stacks.getD u.obj.toNat default) u.op).2.2=u.is/\t' = { t with stacks:=t.stacks.set u.obj.toNat (doS (t.stacks.getD u.obj.toNat default) u.op).1 })\/
  (u.thing=3/\0<=u.obj/\u.obj<(t.chans.length:Int)/\(doS (t.chans.getD u.obj.toNat default) u.op).2.1=u.val/\(doS (t.chans.getD u.obj.toNat default) u.op).2.2=u.is/\t' = { t with chans:=t.chans.set u.obj.toNat (doS (t.chans.getD u.obj.toNat default) u.op).1 }):=by
 unfold A5 at h
 split at h
 ·rename_i h0
  split at h
  ·cases h
  ·rename_i hc
   refine .inl ⟨h0,by omega,by omega,?_⟩;injection h with h
   by_cases k0:u.op.kind=0
   ·have hv:t.cells.getD u.obj.toNat 0=u.val:=Classical.byContradiction fun e=>hc (.inr (.inr ⟨k0,e⟩))
    rw [if_neg (by omega)] at h;exact .inl ⟨k0,hv,h.symm⟩
   ·by_cases k1:u.op.kind=1
    ·rw [if_pos k1] at h;exact .inr (.inl ⟨k1,h.symm⟩)
    ·rw [if_neg k1] at h;exact .inr (.inr ⟨k0,k1,h.symm⟩)
 ·split at h
  ·cases h
  ·rename_i h0 hc
   refine .inr ?_
   split at h
   ·rename_i hv
    injection h with h
    rcases show u.thing=1\/u.thing=2\/u.thing=3 by omega with k|k|k
    ·have e:t.of u.thing=t.maps:=by rw [k];rfl
     rw [e] at hv h hc;refine .inl ⟨k,by omega,by omega,hv.1,hv.2,?_⟩;rw [<- h,k];rfl
    ·have e:t.of u.thing=t.stacks:=by rw [k];rfl
     rw [e] at hv h hc;refine .inr (.inl ⟨k,by omega,by omega,hv.1,hv.2,?_⟩);rw [<- h,k];rfl
    ·have e:t.of u.thing=t.chans:=by rw [k];rfl
     rw [e] at hv h hc;refine .inr (.inr ⟨k,by omega,by omega,hv.1,hv.2,?_⟩);rw [<- h,k];rfl
   ·cases h
theorem S3 {c:Cd} (hX:Runs c):xN (fc c).1.uses (thW (cG c))=some (thW (fc c).1):=Ks hX.co hX.start hX.err (Qj c) (by show xN [] _=_;rfl)
def BM (c:Cd) (us:List xA) (F:Th) (i:Nat) (t:Th):Prop:=i<=us.length/\xN (us.drop i) t=some F/\TOk c.cells.length c.maps.toNat c.stacks.toNat c.chans.toNat i t
theorem BM.next {c:Cd} {us:List xA} {F t:Th} {i:Nat} (h:BM c us F i t) (hin:i<us.length):∃t',A5 t (us.getD i default)=some t'/\BM c us F (i+1) t'/\(us.map bA)[(i:Int).toNat]? = some (bA (us.getD i default)):=by
 obtain ⟨h1,h2,h3⟩:=h;have e:us.getD i default=us[i]:=by simp [hin]
 rw [Zo hin,xN] at h2;rw [e]
 cases hr:A5 t us[i] with
 | none=>rw [hr] at h2;cases h2
 | some t'=>
  rw [hr] at h2;exact ⟨t',rfl,⟨hin,h2,h3.step hr⟩,by rw [aaq,Zd,AN hin];rfl⟩
theorem BM.fin {c:Cd} {us:List xA} {F t:Th} (h:BM c us F us.length t):t=F:=by
 have h2:=h.2.1;rw [aaU] at h2;injection h2
theorem tm {k:Int} {n i:Nat} {l:List Cont} (h:xO k n i l) {o:Int} (h0:0<=o) (h1:o<(l.length:Int)) (hi:i<=4000):(l.map av)[0+o.toNat]? = some [I (l.getD o.toNat default).kind,ae (l.getD o.toNat default).keys,ae (l.getD o.toNat default).vals]/\(l.getD o.toNat default).keys.length<1000000/\(l.getD o.toNat default).vals.length<1000000:=by
 have hl:o.toNat<l.length:=by omega
 have e:l.getD o.toNat default=l[o.toNat]:=by simp [hl]
 have hx:=h.2 l[o.toNat] (YX hl);have hk:=hx.1.keys;rw [e];exact ⟨by rw [Y9,Zd,AN hl];rfl,by omega,by omega⟩
theorem qt (l:List Cont) (o:Nat) (x y:Cont):(l.map av).set (0+o) (setAt [I x.kind,ae x.keys,ae x.vals] 0 [I y.kind,ae y.keys,ae y.vals])=(l.set o y).map av:=by
 rw [Y9,Zr];rfl
theorem xP (x:Cont) (k o a b v:Int) (p:Bool) (hk:x.keys.length<1000000) (hv:x.vals.length<1000000) (e1:(doS x ⟨k,o,a,b⟩).2.1=v) (e2:(doS x ⟨k,o,a,b⟩).2.2=p):Ret P0 jd [.agg [I x.kind,ae x.keys,ae x.vals],.agg [I k,I o,I a,I b]] (.tuple [.agg [I (doS x ⟨k,o,a,b⟩).1.kind,ae (doS x ⟨k,o,a,b⟩).1.keys,ae (doS x ⟨k,o,a,b⟩).1.vals],I v,.bool p]):=by
 have h:=s7 x ⟨k,o,a,b⟩ hk hv;rw [e1,e2] at h;exact h
abbrev arU (m s h:Int):List (List Dat):=((((List.replicate 4 [Dat.int IntKind.i64 0]).set 0 [Dat.int IntKind.i64 0]).set 1 [I m]).set 2 [I s]).set 3 [I h]
abbrev eU (v:Int) (W0:List Int) (W1 W2 W3:List Cont) (us:List xA) (D4:List (List Dat)) (T ST:Int) (rF:List (List Dat)):List V:=[.d (I 0),.d (I v),.d (ae W0),.d (.slice 3 (W1.map av) false),.d (.slice 3 (W2.map av) false),.d (.slice 3 (W3.map av) false),.d (.slice 10 (us.map bA) false),.d (.slice 5 D4 false),.d (I ST),.d (I T),.d (.slice 1 rF false)]
theorem E5 (k:Int) (hk:k=1\/k=2\/k=3) (n:Nat):xO k n 0 (List.replicate n ⟨k,[],[]⟩):=by
 refine ⟨by simp,fun x hx=>?_⟩;rw [Ze hx]
 rcases hk with rfl|rfl|rfl<;>exact ⟨⟨by rfl,rfl⟩,Ls _⟩
theorem HZ (c:Cd) (hr:Rch c):Ret P0 oM [cdD c] (.bool true):=by
 have ha:=BJ;have hfw:=HC c hr
 cases hl:BH c with
 | false=>
  rw [hl] at hfw;refine aj dr.h rfl ?_
  repeat (first|refine aw ?_|refine f1 ?_)
  exact ag rfl rfl rfl rfl rfl
 | true=>
 rw [hl] at hfw;have hRt:=BL c hl
 cases hq:sT c with
 | false=>
  rw [hq] at hRt;refine aj dr.h rfl ?_
  repeat (first|refine aw ?_|refine f1 ?_)
  exact ag rfl rfl rfl rfl rfl
 | true=>
 rw [hq] at hRt
 rcases HE c hl with ⟨e,he,hR⟩|⟨hX,hR⟩
 ·refine aj dr.h rfl ?_
  repeat (first|refine aw ?_|refine f1 ?_)
  exact ag rfl rfl rfl rfl rfl
 have hrep:=S3 hX;have hco:=hX.co;have hwi:=hX.done.wi;have hE:thW (fc c).1=⟨(fc c).1.cells,(fc c).1.maps,(fc c).1.stacks,(fc c).1.chans⟩:=rfl;rw [hE] at hrep;have hB:thW (cG c)=⟨c.cells,List.replicate c.maps.toNat ⟨1,[],[]⟩,List.replicate c.stacks.toNat ⟨2,[],[]⟩,List.replicate c.chans.toNat ⟨3,[],[]⟩⟩:=rfl;rw [hB] at hrep;clear hE hB hX hwi;simp only [BH,i9,decide_eq_true_eq] at hl;unfold DN at hR;generalize j0 (fc c).1.fails=Fs at *;generalize (fc c).1.values.getD 0 0=v at *;generalize (fc c).1.values.length=T at *;generalize (fc c).1.steps=ST at *;generalize (fc c).1.uses=us at *;generalize (fc c).1.splits.map iz=D4 at *;generalize (fc c).1.maps=W1 at *;generalize (fc c).1.stacks=W2 at *;generalize (fc c).1.chans=W3 at *;generalize (fc c).1.cells=W0 at *;generalize c9 Fs=rF at *;have hul:(us.map bA).length=us.length:=by simp
 by_cases YH:4000<us.length
 ·have VR : (4000:Int)<((us.map bA).length:Nat):=by omega
  refine aj dr.h rfl ?_
  repeat (first|refine aw ?_|refine f1 ?_)
  exact ag rfl rfl rfl rfl rfl
 have VR : ¬(4000:Int)<((us.map bA).length:Nat):=by omega
 have hmn:((c.maps.toNat:Nat):Int)=c.maps:=by have:=hco.maps;omega
 have hsn:((c.stacks.toNat:Nat):Int)=c.stacks:=by have:=hco.stacks;omega
 have hhn:((c.chans.toNat:Nat):Int)=c.chans:=by have:=hco.chans;omega
 have hm9:=hco.maps;have hs9:=hco.stacks;have hh9:=hco.chans;have hcl:(c.cells.map fun i=>[I i]).length=c.cells.length:=by simp
 have hinv0:BM c us ⟨W0,W1,W2,W3⟩ 0 ⟨c.cells,List.replicate c.maps.toNat ⟨1,[],[]⟩,List.replicate c.stacks.toNat ⟨2,[],[]⟩,List.replicate c.chans.toNat ⟨3,[],[]⟩⟩:=⟨ZN _,hrep,⟨rfl,E5 1 (.inl rfl) _,E5 2 (.inr (.inl rfl)) _,E5 3 (.inr (.inr rfl)) _⟩⟩
 have N1:Ret P0 fX [I 1] (.agg [I 1,ae [],ae []]):=(kF 1).res (.agg (.cons (.refl _) (.cons (.nil _) (.cons (.nil _) (.refl _)))));have N2:Ret P0 fX [I 2] (.agg [I 2,ae [],ae []]):=(kF 2).res (.agg (.cons (.refl _) (.cons (.nil _) (.cons (.nil _) (.refl _)))));have N3:Ret P0 fX [I 3] (.agg [I 3,ae [],ae []]):=(kF 3).res (.agg (.cons (.refl _) (.cons (.nil _) (.cons (.nil _) (.refl _)))));have hSA:(⟨[(71,.d (I (0:Nat))),(70,.d (I ((us.map bA).length:Nat))),(69,.d (.slice 10 (us.map bA) false)),(5,.row 3 4),(4,.ref 2 0 0 c.cells.length),(3,.ptr 1 0),(2,.d (.bool false))],aM 0 [.var (cdV c),.var (eU v W0 W1 W2 W3 us D4 T ST rF),.mt 1 0 (rw1 (Th.mk c.cells (List.replicate c.maps.toNat ⟨1,[],[]⟩) (List.replicate c.stacks.toNat ⟨2,[],[]⟩) (List.replicate c.chans.toNat ⟨3,[],[]⟩)).cells),.var [.d .nil,.ref 4 c.maps.toNat 0 c.maps.toNat,.ref 5 c.stacks.toNat 0 c.stacks.toNat,.ref 6 c.chans.toNat 0 c.chans.toNat],.mt 3 c.maps.toNat ((Th.mk c.cells (List.replicate c.maps.toNat ⟨1,[],[]⟩) (List.replicate c.stacks.toNat ⟨2,[],[]⟩) (List.replicate c.chans.toNat ⟨3,[],[]⟩)).maps.map av),.mt 3 c.stacks.toNat ((Th.mk c.cells (List.replicate c.maps.toNat ⟨1,[],[]⟩) (List.replicate c.stacks.toNat ⟨2,[],[]⟩) (List.replicate c.chans.toNat ⟨3,[],[]⟩)).stacks.map av),.mt 3 c.chans.toNat ((Th.mk c.cells (List.replicate c.maps.toNat ⟨1,[],[]⟩) (List.replicate c.stacks.toNat ⟨2,[],[]⟩) (List.replicate c.chans.toNat ⟨3,[],[]⟩)).chans.map av)],7,[],0⟩:St)=⟨[(71,.d (I (0:Nat))),(70,.d (I ((us.map bA).length:Nat))),(69,.d (.slice 10 (us.map bA) false)),(5,.row 3 4),(4,.ref 2 0 0 c.cells.length),(3,.ptr 1 0),(2,.d (.bool false))],aM 0 [.var (cdV c),.var (eU v W0 W1 W2 W3 us D4 T ST rF),.mt 1 0 (rw1 c.cells),.var [.d .nil,.ref 4 c.maps.toNat 0 c.maps.toNat,.ref 5 c.stacks.toNat 0 c.stacks.toNat,.ref 6 c.chans.toNat 0 c.chans.toNat],.mt 3 c.maps.toNat (List.replicate c.maps.toNat [I 1,ae [],ae []]),.mt 3 c.stacks.toNat (List.replicate c.stacks.toNat [I 2,ae [],ae []]),.mt 3 c.chans.toNat (List.replicate c.chans.toNat [I 3,ae [],ae []])],7,[],0⟩:=by simp only [aan];rfl
 have hSB:(⟨[(71,.d (I (0:Nat))),(70,.d (I ((us.map bA).length:Nat))),(69,.d (.slice 10 (us.map bA) false)),(5,.row 2 4),(4,.d (.slice 1 [] true)),(3,.ptr 1 0),(2,.d (.bool false))],aM 0 [.var (cdV c),.var (eU v W0 W1 W2 W3 us D4 T ST rF),.var [.d .nil,.ref 3 c.maps.toNat 0 c.maps.toNat,.ref 4 c.stacks.toNat 0 c.stacks.toNat,.ref 5 c.chans.toNat 0 c.chans.toNat],.mt 3 c.maps.toNat ((Th.mk c.cells (List.replicate c.maps.toNat ⟨1,[],[]⟩) (List.replicate c.stacks.toNat ⟨2,[],[]⟩) (List.replicate c.chans.toNat ⟨3,[],[]⟩)).maps.map av),.mt 3 c.stacks.toNat ((Th.mk c.cells (List.replicate c.maps.toNat ⟨1,[],[]⟩) (List.replicate c.stacks.toNat ⟨2,[],[]⟩) (List.replicate c.chans.toNat ⟨3,[],[]⟩)).stacks.map av),.mt 3 c.chans.toNat ((Th.mk c.cells (List.replicate c.maps.toNat ⟨1,[],[]⟩) (List.replicate c.stacks.toNat ⟨2,[],[]⟩) (List.replicate c.chans.toNat ⟨3,[],[]⟩)).chans.map av)],6,[],0⟩:St)=⟨[(71,.d (I (0:Nat))),(70,.d (I ((us.map bA).length:Nat))),(69,.d (.slice 10 (us.map bA) false)),(5,.row 2 4),(4,.d (.slice 1 [] true)),(3,.ptr 1 0),(2,.d (.bool false))],aM 0 [.var (cdV c),.var (eU v W0 W1 W2 W3 us D4 T ST rF),.var [.d .nil,.ref 3 c.maps.toNat 0 c.maps.toNat,.ref 4 c.stacks.toNat 0 c.stacks.toNat,.ref 5 c.chans.toNat 0 c.chans.toNat],.mt 3 c.maps.toNat (List.replicate c.maps.toNat [I 1,ae [],ae []]),.mt 3 c.stacks.toNat (List.replicate c.stacks.toNat [I 2,ae [],ae []]),.mt 3 c.chans.toNat (List.replicate c.chans.toNat [I 3,ae [],ae []])],6,[],0⟩:=by simp only [aan];rfl
 cases hce:(c.cells.map fun i=>[I i]).isEmpty with
 | false=>
  refine aj dr.h rfl ?_
  repeat (first|refine aw ?_|refine f1 ?_|refine au _ rfl ?_)
  refine dO 5 ?_;show WT P0 _ _
  repeat (first|refine aw ?_|refine f1 ?_|refine au _ rfl ?_)
  refine dO 1 ?_;show WT P0 _ _
  repeat (first|refine aw ?_|refine f1 ?_|refine au _ rfl ?_)
  refine gB ?_
  repeat (first|refine aw ?_|refine f1 ?_|refine au _ rfl ?_)
  refine cA ?_
  repeat (first|refine aw ?_|refine f1 ?_|refine au _ rfl ?_)
  refine dH c.maps.toNat (fun j=>⟨[(53,.d (I j)),(52,.d (I c.maps)),(6,.d (I 1)),(47,.d (I 1)),(46,.d (I ((arU c.maps c.stacks c.chans).length:Nat))),(45,.d (.slice 1 (arU c.maps c.stacks c.chans) true)),(5,.row 3 4),(4,.ref 2 0 0 c.cells.length),(3,.ptr 1 0),(2,.d (.bool false))],aM 0 [.var (cdV c),.var (eU v W0 W1 W2 W3 us D4 T ST rF),.mt 1 0 (rw1 c.cells),.var [.d .nil,.ref 4 j 0 j,.ref 5 0 0 0,.ref 6 0 0 0],.mt 3 j (List.replicate j [I 1,ae [],ae []]),.mt 3 0 ([]),.mt 3 0 ([])],7,[],0⟩) (fun j=>True) ?_ (fun _=>?_) (fun j hj _=>?_)
  ·exact Uw.wM
  rotate_left 1
  ·have hj2:(j:Int)<c.maps:=by omega
   have ej:(List.replicate j [I 1,ae [],ae []]).take j++[[I 1,ae [],ae []]]=List.replicate (j+1) [I 1,ae [],ae []]:=by rw [i5 (by simp),Zp]
   have ej2:(List.replicate j [I 1,ae [],ae []]).length=j:=by simp
   repeat (first|refine aw ?_|refine f1 ?_|refine au _ rfl ?_)
   refine aX ⟨[(53,.d (I j)),(52,.d (I c.maps)),(6,.d (I 1)),(47,.d (I 1)),(46,.d (I ((arU c.maps c.stacks c.chans).length:Nat))),(45,.d (.slice 1 (arU c.maps c.stacks c.chans) true)),(5,.row 3 4),(4,.ref 2 0 0 c.cells.length),(3,.ptr 1 0),(2,.d (.bool false))],aM 0 [.var (cdV c),.var (eU v W0 W1 W2 W3 us D4 T ST rF),.mt 1 0 (rw1 c.cells),.var [.d .nil,.ref 4 (j+1) 0 (j+1),.ref 5 0 0 0,.ref 6 0 0 0],.mt 3 (j+1) (List.replicate (j+1) [I 1,ae [],ae []]),.mt 3 0 ([]),.mt 3 0 ([])],7,[],0⟩ ?_ ?_
   ·repeat (first|refine aw ?_|refine f1 ?_)
    exact ai (.inl ⟨rfl,by exact Uw.wM⟩)
   repeat (first|refine aw ?_|refine f1 ?_)
   exact cH j trivial (by exact Uw.wM)
  repeat (first|refine aw ?_|refine f1 ?_|refine au _ rfl ?_)
  refine aS ?_
  repeat (first|refine aw ?_|refine f1 ?_|refine au _ rfl ?_)
  refine cA ?_
  repeat (first|refine aw ?_|refine f1 ?_|refine au _ rfl ?_)
  refine dH c.stacks.toNat (fun j=>⟨[(53,.d (I j)),(52,.d (I c.stacks)),(6,.d (I 2)),(47,.d (I 2)),(46,.d (I ((arU c.maps c.stacks c.chans).length:Nat))),(45,.d (.slice 1 (arU c.maps c.stacks c.chans) true)),(5,.row 3 4),(4,.ref 2 0 0 c.cells.length),(3,.ptr 1 0),(2,.d (.bool false))],aM 0 [.var (cdV c),.var (eU v W0 W1 W2 W3 us D4 T ST rF),.mt 1 0 (rw1 c.cells),.var [.d .nil,.ref 4 c.maps.toNat 0 c.maps.toNat,.ref 5 j 0 j,.ref 6 0 0 0],.mt 3 c.maps.toNat (List.replicate c.maps.toNat [I 1,ae [],ae []]),.mt 3 j (List.replicate j [I 2,ae [],ae []]),.mt 3 0 ([])],7,[],0⟩) (fun j=>True) ?_ (fun _=>?_) (fun j hj _=>?_)
  ·exact Uw.wM
  rotate_left 1
  ·have hj2:(j:Int)<c.stacks:=by omega
   have ej:(List.replicate j [I 2,ae [],ae []]).take j++[[I 2,ae [],ae []]]=List.replicate (j+1) [I 2,ae [],ae []]:=by rw [i5 (by simp),Zp]
   have ej2:(List.replicate j [I 2,ae [],ae []]).length=j:=by simp
   repeat (first|refine aw ?_|refine f1 ?_|refine au _ rfl ?_)
   refine aX ⟨[(53,.d (I j)),(52,.d (I c.stacks)),(6,.d (I 2)),(47,.d (I 2)),(46,.d (I ((arU c.maps c.stacks c.chans).length:Nat))),(45,.d (.slice 1 (arU c.maps c.stacks c.chans) true)),(5,.row 3 4),(4,.ref 2 0 0 c.cells.length),(3,.ptr 1 0),(2,.d (.bool false))],aM 0 [.var (cdV c),.var (eU v W0 W1 W2 W3 us D4 T ST rF),.mt 1 0 (rw1 c.cells),.var [.d .nil,.ref 4 c.maps.toNat 0 c.maps.toNat,.ref 5 (j+1) 0 (j+1),.ref 6 0 0 0],.mt 3 c.maps.toNat (List.replicate c.maps.toNat [I 1,ae [],ae []]),.mt 3 (j+1) (List.replicate (j+1) [I 2,ae [],ae []]),.mt 3 0 ([])],7,[],0⟩ ?_ ?_
   ·repeat (first|refine aw ?_|refine f1 ?_)
    exact ai (.inl ⟨rfl,by exact Uw.wM⟩)
   repeat (first|refine aw ?_|refine f1 ?_)
   exact cH j trivial (by exact Uw.wM)
  repeat (first|refine aw ?_|refine f1 ?_|refine au _ rfl ?_)
  refine aS ?_
  repeat (first|refine aw ?_|refine f1 ?_|refine au _ rfl ?_)
  refine cA ?_
  repeat (first|refine aw ?_|refine f1 ?_|refine au _ rfl ?_)
  refine dH c.chans.toNat (fun j=>⟨[(53,.d (I j)),(52,.d (I c.chans)),(6,.d (I 3)),(47,.d (I 3)),(46,.d (I ((arU c.maps c.stacks c.chans).length:Nat))),(45,.d (.slice 1 (arU c.maps c.stacks c.chans) true)),(5,.row 3 4),(4,.ref 2 0 0 c.cells.length),(3,.ptr 1 0),(2,.d (.bool false))],aM 0 [.var (cdV c),.var (eU v W0 W1 W2 W3 us D4 T ST rF),.mt 1 0 (rw1 c.cells),.var [.d .nil,.ref 4 c.maps.toNat 0 c.maps.toNat,.ref 5 c.stacks.toNat 0 c.stacks.toNat,.ref 6 j 0 j],.mt 3 c.maps.toNat (List.replicate c.maps.toNat [I 1,ae [],ae []]),.mt 3 c.stacks.toNat (List.replicate c.stacks.toNat [I 2,ae [],ae []]),.mt 3 j (List.replicate j [I 3,ae [],ae []])],7,[],0⟩) (fun j=>True) ?_ (fun _=>?_) (fun j hj _=>?_)
  ·exact Uw.wM
  rotate_left 1
  ·have hj2:(j:Int)<c.chans:=by omega
   have ej:(List.replicate j [I 3,ae [],ae []]).take j++[[I 3,ae [],ae []]]=List.replicate (j+1) [I 3,ae [],ae []]:=by rw [i5 (by simp),Zp]
   have ej2:(List.replicate j [I 3,ae [],ae []]).length=j:=by simp
   repeat (first|refine aw ?_|refine f1 ?_|refine au _ rfl ?_)
   refine aX ⟨[(53,.d (I j)),(52,.d (I c.chans)),(6,.d (I 3)),(47,.d (I 3)),(46,.d (I ((arU c.maps c.stacks c.chans).length:Nat))),(45,.d (.slice 1 (arU c.maps c.stacks c.chans) true)),(5,.row 3 4),(4,.ref 2 0 0 c.cells.length),(3,.ptr 1 0),(2,.d (.bool false))],aM 0 [.var (cdV c),.var (eU v W0 W1 W2 W3 us D4 T ST rF),.mt 1 0 (rw1 c.cells),.var [.d .nil,.ref 4 c.maps.toNat 0 c.maps.toNat,.ref 5 c.stacks.toNat 0 c.stacks.toNat,.ref 6 (j+1) 0 (j+1)],.mt 3 c.maps.toNat (List.replicate c.maps.toNat [I 1,ae [],ae []]),.mt 3 c.stacks.toNat (List.replicate c.stacks.toNat [I 2,ae [],ae []]),.mt 3 (j+1) (List.replicate (j+1) [I 3,ae [],ae []])],7,[],0⟩ ?_ ?_
   ·repeat (first|refine aw ?_|refine f1 ?_)
    exact ai (.inl ⟨rfl,by exact Uw.wM⟩)
   repeat (first|refine aw ?_|refine f1 ?_)
   exact cH j trivial (by exact Uw.wM)
  repeat (first|refine aw ?_|refine f1 ?_|refine au _ rfl ?_)
  refine aS ?_
  repeat (first|refine aw ?_|refine f1 ?_|refine au _ rfl ?_)
  refine cA ?_
  repeat (first|refine aw ?_|refine f1 ?_|refine au _ rfl ?_)
  refine gB ?_
  repeat (first|refine aw ?_|refine f1 ?_|refine au _ rfl ?_)
  refine cX (fun ((i,t):Nat×Th)=>⟨[(71,.d (I i)),(70,.d (I ((us.map bA).length:Nat))),(69,.d (.slice 10 (us.map bA) false)),(5,.row 3 4),(4,.ref 2 0 0 c.cells.length),(3,.ptr 1 0),(2,.d (.bool false))],aM 0 [.var (cdV c),.var (eU v W0 W1 W2 W3 us D4 T ST rF),.mt 1 0 (rw1 t.cells),.var [.d .nil,.ref 4 c.maps.toNat 0 c.maps.toNat,.ref 5 c.stacks.toNat 0 c.stacks.toNat,.ref 6 c.chans.toNat 0 c.chans.toNat],.mt 3 c.maps.toNat (t.maps.map av),.mt 3 c.stacks.toNat (t.stacks.map av),.mt 3 c.chans.toNat (t.chans.map av)],7,[],0⟩) (fun x=>BM c us ⟨W0,W1,W2,W3⟩ x.1 x.2) (fun x=>us.length - x.1) (0,⟨c.cells,List.replicate c.maps.toNat ⟨1,[],[]⟩,List.replicate c.stacks.toNat ⟨2,[],[]⟩,List.replicate c.chans.toNat ⟨3,[],[]⟩⟩) (oD hSA (by exact Uw.wM)) hinv0 ?_;rintro ⟨i,t⟩ hi;have hi:BM c us ⟨W0,W1,W2,W3⟩ i t:=hi;by_cases hin:i<us.length
  rotate_left 1
  ·obtain rfl:i=us.length:=by have:=hi.1;omega
   have ht:=hi.fin;subst ht;have h3:=hi.2.2;have z0:=h3.cells;have z1:=h3.maps.1;have z2:=h3.stacks.1;have z3:=h3.chans.1;simp only at z0 z1 z2 z3;have k1:∀x∈W1,x.keys.length<1000000/\x.vals.length<1000000:=fun x hx=>by have:=h3.maps.2 x hx;have:=this.1.keys;omega
   have k2:∀x∈W2,x.keys.length<1000000/\x.vals.length<1000000:=fun x hx=>by have:=h3.stacks.2 x hx;have:=this.1.keys;omega
   have k3:∀x∈W3,x.keys.length<1000000/\x.vals.length<1000000:=fun x hx=>by have:=h3.chans.2 x hx;have:=this.1.keys;omega
   have q0:Ret P0 mZ [.slice 1 (((rw1 W0).drop 0).take c.cells.length) false,ae W0] (.bool true):=by
    rw [show ((rw1 W0).drop 0).take c.cells.length=rw1 W0 by rw [YY,i5 (by simp;omega)]];have:=wA W0 W0 (by omega);rw [decide_eq_true rfl] at this;exact this
   have q1:Ret P0 dJ [.slice 3 (((W1.map av).drop 0).take c.maps.toNat) false,.slice 3 (W1.map av) false] (.bool true):=by
    rw [show ((W1.map av).drop 0).take c.maps.toNat=W1.map av by rw [YY,i5 (by simp;omega)]];exact eY W1 (by omega) k1
   have b1:Nat.beq c.maps.toNat c.maps.toNat=true:=ZQ _;have q2:Ret P0 dJ [.slice 3 (((W2.map av).drop 0).take c.stacks.toNat) false,.slice 3 (W2.map av) false] (.bool true):=by
    rw [show ((W2.map av).drop 0).take c.stacks.toNat=W2.map av by rw [YY,i5 (by simp;omega)]];exact eY W2 (by omega) k2
   have b2:Nat.beq c.stacks.toNat c.stacks.toNat=true:=ZQ _;have q3:Ret P0 dJ [.slice 3 (((W3.map av).drop 0).take c.chans.toNat) false,.slice 3 (W3.map av) false] (.bool true):=by
    rw [show ((W3.map av).drop 0).take c.chans.toNat=W3.map av by rw [YY,i5 (by simp;omega)]];exact eY W3 (by omega) k3
   have b3:Nat.beq c.chans.toNat c.chans.toNat=true:=ZQ _;have hlt:¬((us.length:Nat):Int)<((us.map bA).length:Nat):=by omega
   clear hrep hinv0 hSA k1 k2 k3;refine aw ?_;refine aS ?_
   repeat (first|refine aw ?_|refine f1 ?_)
   exact ag rfl rfl rfl rfl rfl
  obtain ⟨t',hr,hnx,hel⟩:=hi.next hin;have h3:=hi.2.2;have huc:=DX hr;have hlt:(i:Int)<((us.map bA).length:Nat):=by omega
  have hmu:us.length - (i+1)<us.length - i:=by omega
  have z0:=h3.cells;have z1:=h3.maps.1;have z2:=h3.stacks.1;have z3:=h3.chans.1;clear hr hi hrep hinv0 hSA;generalize us.getD i default=u at *;obtain ⟨u1,u2,u3,u4,⟨o1,o2,o3,o4⟩,u5,u6⟩:=u;have hel:(us.map bA)[(i:Int).toNat]? = some [I u1,ae u2,I u3,I u4,I o1,I o2,I o3,I o4,I u5,.bool u6]:=hel;simp only at huc
  rcases huc with ⟨rfl,p0,p1,hk⟩|⟨rfl,p0,p1,p2,p3,rfl⟩|⟨rfl,p0,p1,p2,p3,rfl⟩|⟨rfl,p0,p1,p2,p3,rfl⟩
  ·have g1:=uQ (l:=t.cells) p0 p1
   rcases hk with ⟨rfl,e,rfl⟩|⟨rfl,rfl⟩|⟨e1,e2,rfl⟩
   ·rw [e] at g1
    repeat (first|refine aw ?_|refine f1 ?_)
    exact aN (i+1,t') hnx hmu (by exact Uw.wM)
   ·have g2:=wu t.cells u4.toNat o3 (t.cells.getD u4.toNat 0)
    have hfin:(⟨[(71,.d (I (i+1:Nat))),(70,.d (I ((us.map bA).length:Nat))),(69,.d (.slice 10 (us.map bA) false)),(5,.row 3 4),(4,.ref 2 0 0 c.cells.length),(3,.ptr 1 0),(2,.d (.bool false))],aM 0 [.var (cdV c),.var (eU v W0 W1 W2 W3 us D4 T ST rF),.mt 1 0 (rw1 (Th.mk (t.cells.set u4.toNat o3) t.maps t.stacks t.chans).cells),.var [.d .nil,.ref 4 c.maps.toNat 0 c.maps.toNat,.ref 5 c.stacks.toNat 0 c.stacks.toNat,.ref 6 c.chans.toNat 0 c.chans.toNat],.mt 3 c.maps.toNat ((Th.mk (t.cells.set u4.toNat o3) t.maps t.stacks t.chans).maps.map av),.mt 3 c.stacks.toNat ((Th.mk (t.cells.set u4.toNat o3) t.maps t.stacks t.chans).stacks.map av),.mt 3 c.chans.toNat ((Th.mk (t.cells.set u4.toNat o3) t.maps t.stacks t.chans).chans.map av)],7,[],0⟩:St)=⟨[(71,.d (I (i+1:Nat))),(70,.d (I ((us.map bA).length:Nat))),(69,.d (.slice 10 (us.map bA) false)),(5,.row 3 4),(4,.ref 2 0 0 c.cells.length),(3,.ptr 1 0),(2,.d (.bool false))],aM 0 [.var (cdV c),.var (eU v W0 W1 W2 W3 us D4 T ST rF),.mt 1 0 ((rw1 t.cells).set (0+u4.toNat) (setAt [I (t.cells.getD u4.toNat 0)] 0 [I o3])),.var [.d .nil,.ref 4 c.maps.toNat 0 c.maps.toNat,.ref 5 c.stacks.toNat 0 c.stacks.toNat,.ref 6 c.chans.toNat 0 c.chans.toNat],.mt 3 c.maps.toNat (t.maps.map av),.mt 3 c.stacks.toNat (t.stacks.map av),.mt 3 c.chans.toNat (t.chans.map av)],7,[],0⟩:=by rw [g2]
    clear g2;generalize t.cells.getD u4.toNat 0=w at g1 hfin
    repeat (first|refine aw ?_|refine f1 ?_)
    exact aN (i+1,{ t with cells:=t.cells.set u4.toNat o3 }) hnx hmu (oD hfin (by exact Uw.wM))
   ·repeat (first|refine aw ?_|refine f1 ?_)
    exact aN (i+1,t') hnx hmu (by exact Uw.wM)
  ·obtain ⟨g1,g2,g3⟩:=tm h3.maps p0 p1 (by omega)
   have hdo:=xP _ o1 o2 o3 o4 u5 u6 g2 g3 p2 p3;have g4:=qt t.maps u4.toNat (t.maps.getD u4.toNat default) (doS (t.maps.getD u4.toNat default) ⟨o1,o2,o3,o4⟩).1;clear g2 g3 p2 p3 h3;generalize (doS (t.maps.getD u4.toNat default) ⟨o1,o2,o3,o4⟩).1=y at *;generalize t.maps.getD u4.toNat default=x at *;have hfin:(⟨[(71,.d (I (i+1:Nat))),(70,.d (I ((us.map bA).length:Nat))),(69,.d (.slice 10 (us.map bA) false)),(5,.row 3 4),(4,.ref 2 0 0 c.cells.length),(3,.ptr 1 0),(2,.d (.bool false))],aM 0 [.var (cdV c),.var (eU v W0 W1 W2 W3 us D4 T ST rF),.mt 1 0 (rw1 (Th.mk t.cells (t.maps.set u4.toNat y) t.stacks t.chans).cells),.var [.d .nil,.ref 4 c.maps.toNat 0 c.maps.toNat,.ref 5 c.stacks.toNat 0 c.stacks.toNat,.ref 6 c.chans.toNat 0 c.chans.toNat],.mt 3 c.maps.toNat ((Th.mk t.cells (t.maps.set u4.toNat y) t.stacks t.chans).maps.map av),.mt 3 c.stacks.toNat ((Th.mk t.cells (t.maps.set u4.toNat y) t.stacks t.chans).stacks.map av),.mt 3 c.chans.toNat ((Th.mk t.cells (t.maps.set u4.toNat y) t.stacks t.chans).chans.map av)],7,[],0⟩:St)=⟨[(71,.d (I (i+1:Nat))),(70,.d (I ((us.map bA).length:Nat))),(69,.d (.slice 10 (us.map bA) false)),(5,.row 3 4),(4,.ref 2 0 0 c.cells.length),(3,.ptr 1 0),(2,.d (.bool false))],aM 0 [.var (cdV c),.var (eU v W0 W1 W2 W3 us D4 T ST rF),.mt 1 0 (rw1 t.cells),.var [.d .nil,.ref 4 c.maps.toNat 0 c.maps.toNat,.ref 5 c.stacks.toNat 0 c.stacks.toNat,.ref 6 c.chans.toNat 0 c.chans.toNat],.mt 3 c.maps.toNat ((t.maps.map av).set (0+u4.toNat) (setAt [I x.kind,ae x.keys,ae x.vals] 0 [I y.kind,ae y.keys,ae y.vals])),.mt 3 c.stacks.toNat (t.stacks.map av),.mt 3 c.chans.toNat (t.chans.map av)],7,[],0⟩:=by rw [g4]
   clear g4
   repeat (first|refine aw ?_|refine f1 ?_)
   refine aX ⟨[(12,.d (.bool u6)),(11,.d (I u5)),(10,.ptr 8 0),(9,.ptr 7 0),(71,.d (I i)),(70,.d (I ((us.map bA).length:Nat))),(69,.d (.slice 10 (us.map bA) false)),(5,.row 3 4),(4,.ref 2 0 0 c.cells.length),(3,.ptr 1 0),(2,.d (.bool false))],aM 0 [.var (cdV c),.var (eU v W0 W1 W2 W3 us D4 T ST rF),.mt 1 0 (rw1 t.cells),.var [.d .nil,.ref 4 c.maps.toNat 0 c.maps.toNat,.ref 5 c.stacks.toNat 0 c.stacks.toNat,.ref 6 c.chans.toNat 0 c.chans.toNat],.mt 3 c.maps.toNat (t.maps.map av),.mt 3 c.stacks.toNat (t.stacks.map av),.mt 3 c.chans.toNat (t.chans.map av),.var [.d (I u1),.d (ae u2),.d (I 1),.d (I u4),.d (I o1),.d (I o2),.d (I o3),.d (I o4),.d (I u5),.d (.bool u6)],.var [.d (I y.kind),.d (ae y.keys),.d (ae y.vals)]],9,[],0⟩ ?_ ?_
   ·repeat (first|refine aw ?_|refine f1 ?_)
    exact ai (.inl ⟨rfl,by exact Uw.wM⟩)
   repeat (first|refine aw ?_|refine f1 ?_)
   exact aN (i+1,{ t with maps:=t.maps.set u4.toNat y }) hnx hmu (oD hfin (by exact Uw.wM))
  ·obtain ⟨g1,g2,g3⟩:=tm h3.stacks p0 p1 (by omega)
   have hdo:=xP _ o1 o2 o3 o4 u5 u6 g2 g3 p2 p3;have g4:=qt t.stacks u4.toNat (t.stacks.getD u4.toNat default) (doS (t.stacks.getD u4.toNat default) ⟨o1,o2,o3,o4⟩).1;clear g2 g3 p2 p3 h3;generalize (doS (t.stacks.getD u4.toNat default) ⟨o1,o2,o3,o4⟩).1=y at *;generalize t.stacks.getD u4.toNat default=x at *;have hfin:(⟨[(71,.d (I (i+1:Nat))),(70,.d (I ((us.map bA).length:Nat))),(69,.d (.slice 10 (us.map bA) false)),(5,.row 3 4),(4,.ref 2 0 0 c.cells.length),(3,.ptr 1 0),(2,.d (.bool false))],aM 0 [.var (cdV c),.var (eU v W0 W1 W2 W3 us D4 T ST rF),.mt 1 0 (rw1 (Th.mk t.cells t.maps (t.stacks.set u4.toNat y) t.chans).cells),.var [.d .nil,.ref 4 c.maps.toNat 0 c.maps.toNat,.ref 5 c.stacks.toNat 0 c.stacks.toNat,.ref 6 c.chans.toNat 0 c.chans.toNat],.mt 3 c.maps.toNat ((Th.mk t.cells t.maps (t.stacks.set u4.toNat y) t.chans).maps.map av),.mt 3 c.stacks.toNat ((Th.mk t.cells t.maps (t.stacks.set u4.toNat y) t.chans).stacks.map av),.mt 3 c.chans.toNat ((Th.mk t.cells t.maps (t.stacks.set u4.toNat y) t.chans).chans.map av)],7,[],0⟩:St)=⟨[(71,.d (I (i+1:Nat))),(70,.d (I ((us.map bA).length:Nat))),(69,.d (.slice 10 (us.map bA) false)),(5,.row 3 4),(4,.ref 2 0 0 c.cells.length),(3,.ptr 1 0),(2,.d (.bool false))],aM 0 [.var (cdV c),.var (eU v W0 W1 W2 W3 us D4 T ST rF),.mt 1 0 (rw1 t.cells),.var [.d .nil,.ref 4 c.maps.toNat 0 c.maps.toNat,.ref 5 c.stacks.toNat 0 c.stacks.toNat,.ref 6 c.chans.toNat 0 c.chans.toNat],.mt 3 c.maps.toNat (t.maps.map av),.mt 3 c.stacks.toNat ((t.stacks.map av).set (0+u4.toNat) (setAt [I x.kind,ae x.keys,ae x.vals] 0 [I y.kind,ae y.keys,ae y.vals])),.mt 3 c.chans.toNat (t.chans.map av)],7,[],0⟩:=by rw [g4]
   clear g4
   repeat (first|refine aw ?_|refine f1 ?_)
   refine aX ⟨[(12,.d (.bool u6)),(11,.d (I u5)),(10,.ptr 8 0),(9,.ptr 7 0),(71,.d (I i)),(70,.d (I ((us.map bA).length:Nat))),(69,.d (.slice 10 (us.map bA) false)),(5,.row 3 4),(4,.ref 2 0 0 c.cells.length),(3,.ptr 1 0),(2,.d (.bool false))],aM 0 [.var (cdV c),.var (eU v W0 W1 W2 W3 us D4 T ST rF),.mt 1 0 (rw1 t.cells),.var [.d .nil,.ref 4 c.maps.toNat 0 c.maps.toNat,.ref 5 c.stacks.toNat 0 c.stacks.toNat,.ref 6 c.chans.toNat 0 c.chans.toNat],.mt 3 c.maps.toNat (t.maps.map av),.mt 3 c.stacks.toNat (t.stacks.map av),.mt 3 c.chans.toNat (t.chans.map av),.var [.d (I u1),.d (ae u2),.d (I 2),.d (I u4),.d (I o1),.d (I o2),.d (I o3),.d (I o4),.d (I u5),.d (.bool u6)],.var [.d (I y.kind),.d (ae y.keys),.d (ae y.vals)]],9,[],0⟩ ?_ ?_
   ·repeat (first|refine aw ?_|refine f1 ?_)
    exact ai (.inl ⟨rfl,by exact Uw.wM⟩)
   repeat (first|refine aw ?_|refine f1 ?_)
   exact aN (i+1,{ t with stacks:=t.stacks.set u4.toNat y }) hnx hmu (oD hfin (by exact Uw.wM))
  ·obtain ⟨g1,g2,g3⟩:=tm h3.chans p0 p1 (by omega)
   have hdo:=xP _ o1 o2 o3 o4 u5 u6 g2 g3 p2 p3;have g4:=qt t.chans u4.toNat (t.chans.getD u4.toNat default) (doS (t.chans.getD u4.toNat default) ⟨o1,o2,o3,o4⟩).1;clear g2 g3 p2 p3 h3;generalize (doS (t.chans.getD u4.toNat default) ⟨o1,o2,o3,o4⟩).1=y at *;generalize t.chans.getD u4.toNat default=x at *;have hfin:(⟨[(71,.d (I (i+1:Nat))),(70,.d (I ((us.map bA).length:Nat))),(69,.d (.slice 10 (us.map bA) false)),(5,.row 3 4),(4,.ref 2 0 0 c.cells.length),(3,.ptr 1 0),(2,.d (.bool false))],aM 0 [.var (cdV c),.var (eU v W0 W1 W2 W3 us D4 T ST rF),.mt 1 0 (rw1 (Th.mk t.cells t.maps t.stacks (t.chans.set u4.toNat y)).cells),.var [.d .nil,.ref 4 c.maps.toNat 0 c.maps.toNat,.ref 5 c.stacks.toNat 0 c.stacks.toNat,.ref 6 c.chans.toNat 0 c.chans.toNat],.mt 3 c.maps.toNat ((Th.mk t.cells t.maps t.stacks (t.chans.set u4.toNat y)).maps.map av),.mt 3 c.stacks.toNat ((Th.mk t.cells t.maps t.stacks (t.chans.set u4.toNat y)).stacks.map av),.mt 3 c.chans.toNat ((Th.mk t.cells t.maps t.stacks (t.chans.set u4.toNat y)).chans.map av)],7,[],0⟩:St)=⟨[(71,.d (I (i+1:Nat))),(70,.d (I ((us.map bA).length:Nat))),(69,.d (.slice 10 (us.map bA) false)),(5,.row 3 4),(4,.ref 2 0 0 c.cells.length),(3,.ptr 1 0),(2,.d (.bool false))],aM 0 [.var (cdV c),.var (eU v W0 W1 W2 W3 us D4 T ST rF),.mt 1 0 (rw1 t.cells),.var [.d .nil,.ref 4 c.maps.toNat 0 c.maps.toNat,.ref 5 c.stacks.toNat 0 c.stacks.toNat,.ref 6 c.chans.toNat 0 c.chans.toNat],.mt 3 c.maps.toNat (t.maps.map av),.mt 3 c.stacks.toNat (t.stacks.map av),.mt 3 c.chans.toNat ((t.chans.map av).set (0+u4.toNat) (setAt [I x.kind,ae x.keys,ae x.vals] 0 [I y.kind,ae y.keys,ae y.vals]))],7,[],0⟩:=by rw [g4]
   clear g4
   repeat (first|refine aw ?_|refine f1 ?_)
   refine aX ⟨[(12,.d (.bool u6)),(11,.d (I u5)),(10,.ptr 8 0),(9,.ptr 7 0),(71,.d (I i)),(70,.d (I ((us.map bA).length:Nat))),(69,.d (.slice 10 (us.map bA) false)),(5,.row 3 4),(4,.ref 2 0 0 c.cells.length),(3,.ptr 1 0),(2,.d (.bool false))],aM 0 [.var (cdV c),.var (eU v W0 W1 W2 W3 us D4 T ST rF),.mt 1 0 (rw1 t.cells),.var [.d .nil,.ref 4 c.maps.toNat 0 c.maps.toNat,.ref 5 c.stacks.toNat 0 c.stacks.toNat,.ref 6 c.chans.toNat 0 c.chans.toNat],.mt 3 c.maps.toNat (t.maps.map av),.mt 3 c.stacks.toNat (t.stacks.map av),.mt 3 c.chans.toNat (t.chans.map av),.var [.d (I u1),.d (ae u2),.d (I 3),.d (I u4),.d (I o1),.d (I o2),.d (I o3),.d (I o4),.d (I u5),.d (.bool u6)],.var [.d (I y.kind),.d (ae y.keys),.d (ae y.vals)]],9,[],0⟩ ?_ ?_
   ·repeat (first|refine aw ?_|refine f1 ?_)
    exact ai (.inl ⟨rfl,by exact Uw.wM⟩)
   repeat (first|refine aw ?_|refine f1 ?_)
   exact aN (i+1,{ t with chans:=t.chans.set u4.toNat y }) hnx hmu (oD hfin (by exact Uw.wM))
 | true=>
  have hc0:c.cells=[]:=by simpa using hce
  refine aj dr.h rfl ?_
  repeat (first|refine aw ?_|refine f1 ?_|refine au _ rfl ?_)
  refine dO 5 ?_;show WT P0 _ _
  repeat (first|refine aw ?_|refine f1 ?_|refine au _ rfl ?_)
  refine dO 1 ?_;show WT P0 _ _
  repeat (first|refine aw ?_|refine f1 ?_|refine au _ rfl ?_)
  refine gB ?_
  repeat (first|refine aw ?_|refine f1 ?_|refine au _ rfl ?_)
  refine cA ?_
  repeat (first|refine aw ?_|refine f1 ?_|refine au _ rfl ?_)
  refine dH c.maps.toNat (fun j=>⟨[(53,.d (I j)),(52,.d (I c.maps)),(6,.d (I 1)),(47,.d (I 1)),(46,.d (I ((arU c.maps c.stacks c.chans).length:Nat))),(45,.d (.slice 1 (arU c.maps c.stacks c.chans) true)),(5,.row 2 4),(4,.d (.slice 1 [] true)),(3,.ptr 1 0),(2,.d (.bool false))],aM 0 [.var (cdV c),.var (eU v W0 W1 W2 W3 us D4 T ST rF),.var [.d .nil,.ref 3 j 0 j,.ref 4 0 0 0,.ref 5 0 0 0],.mt 3 j (List.replicate j [I 1,ae [],ae []]),.mt 3 0 ([]),.mt 3 0 ([])],6,[],0⟩) (fun j=>True) ?_ (fun _=>?_) (fun j hj _=>?_)
  ·exact Uw.wM
  rotate_left 1
  ·have hj2:(j:Int)<c.maps:=by omega
   have ej:(List.replicate j [I 1,ae [],ae []]).take j++[[I 1,ae [],ae []]]=List.replicate (j+1) [I 1,ae [],ae []]:=by rw [i5 (by simp),Zp]
   have ej2:(List.replicate j [I 1,ae [],ae []]).length=j:=by simp
   repeat (first|refine aw ?_|refine f1 ?_|refine au _ rfl ?_)
   refine aX ⟨[(53,.d (I j)),(52,.d (I c.maps)),(6,.d (I 1)),(47,.d (I 1)),(46,.d (I ((arU c.maps c.stacks c.chans).length:Nat))),(45,.d (.slice 1 (arU c.maps c.stacks c.chans) true)),(5,.row 2 4),(4,.d (.slice 1 [] true)),(3,.ptr 1 0),(2,.d (.bool false))],aM 0 [.var (cdV c),.var (eU v W0 W1 W2 W3 us D4 T ST rF),.var [.d .nil,.ref 3 (j+1) 0 (j+1),.ref 4 0 0 0,.ref 5 0 0 0],.mt 3 (j+1) (List.replicate (j+1) [I 1,ae [],ae []]),.mt 3 0 ([]),.mt 3 0 ([])],6,[],0⟩ ?_ ?_
   ·repeat (first|refine aw ?_|refine f1 ?_)
    exact ai (.inl ⟨rfl,by exact Uw.wM⟩)
   repeat (first|refine aw ?_|refine f1 ?_)
   exact cH j trivial (by exact Uw.wM)
  repeat (first|refine aw ?_|refine f1 ?_|refine au _ rfl ?_)
  refine aS ?_
  repeat (first|refine aw ?_|refine f1 ?_|refine au _ rfl ?_)
  refine cA ?_
  repeat (first|refine aw ?_|refine f1 ?_|refine au _ rfl ?_)
  refine dH c.stacks.toNat (fun j=>⟨[(53,.d (I j)),(52,.d (I c.stacks)),(6,.d (I 2)),(47,.d (I 2)),(46,.d (I ((arU c.maps c.stacks c.chans).length:Nat))),(45,.d (.slice 1 (arU c.maps c.stacks c.chans) true)),(5,.row 2 4),(4,.d (.slice 1 [] true)),(3,.ptr 1 0),(2,.d (.bool false))],aM 0 [.var (cdV c),.var (eU v W0 W1 W2 W3 us D4 T ST rF),.var [.d .nil,.ref 3 c.maps.toNat 0 c.maps.toNat,.ref 4 j 0 j,.ref 5 0 0 0],.mt 3 c.maps.toNat (List.replicate c.maps.toNat [I 1,ae [],ae []]),.mt 3 j (List.replicate j [I 2,ae [],ae []]),.mt 3 0 ([])],6,[],0⟩) (fun j=>True) ?_ (fun _=>?_) (fun j hj _=>?_)
  ·exact Uw.wM
  rotate_left 1
  ·have hj2:(j:Int)<c.stacks:=by omega
   have ej:(List.replicate j [I 2,ae [],ae []]).take j++[[I 2,ae [],ae []]]=List.replicate (j+1) [I 2,ae [],ae []]:=by rw [i5 (by simp),Zp]
   have ej2:(List.replicate j [I 2,ae [],ae []]).length=j:=by simp
   repeat (first|refine aw ?_|refine f1 ?_|refine au _ rfl ?_)
   refine aX ⟨[(53,.d (I j)),(52,.d (I c.stacks)),(6,.d (I 2)),(47,.d (I 2)),(46,.d (I ((arU c.maps c.stacks c.chans).length:Nat))),(45,.d (.slice 1 (arU c.maps c.stacks c.chans) true)),(5,.row 2 4),(4,.d (.slice 1 [] true)),(3,.ptr 1 0),(2,.d (.bool false))],aM 0 [.var (cdV c),.var (eU v W0 W1 W2 W3 us D4 T ST rF),.var [.d .nil,.ref 3 c.maps.toNat 0 c.maps.toNat,.ref 4 (j+1) 0 (j+1),.ref 5 0 0 0],.mt 3 c.maps.toNat (List.replicate c.maps.toNat [I 1,ae [],ae []]),.mt 3 (j+1) (List.replicate (j+1) [I 2,ae [],ae []]),.mt 3 0 ([])],6,[],0⟩ ?_ ?_
   ·repeat (first|refine aw ?_|refine f1 ?_)
    exact ai (.inl ⟨rfl,by exact Uw.wM⟩)
   repeat (first|refine aw ?_|refine f1 ?_)
   exact cH j trivial (by exact Uw.wM)
  repeat (first|refine aw ?_|refine f1 ?_|refine au _ rfl ?_)
  refine aS ?_
  repeat (first|refine aw ?_|refine f1 ?_|refine au _ rfl ?_)
  refine cA ?_
  repeat (first|refine aw ?_|refine f1 ?_|refine au _ rfl ?_)
  refine dH c.chans.toNat (fun j=>⟨[(53,.d (I j)),(52,.d (I c.chans)),(6,.d (I 3)),(47,.d (I 3)),(46,.d (I ((arU c.maps c.stacks c.chans).length:Nat))),(45,.d (.slice 1 (arU c.maps c.stacks c.chans) true)),(5,.row 2 4),(4,.d (.slice 1 [] true)),(3,.ptr 1 0),(2,.d (.bool false))],aM 0 [.var (cdV c),.var (eU v W0 W1 W2 W3 us D4 T ST rF),.var [.d .nil,.ref 3 c.maps.toNat 0 c.maps.toNat,.ref 4 c.stacks.toNat 0 c.stacks.toNat,.ref 5 j 0 j],.mt 3 c.maps.toNat (List.replicate c.maps.toNat [I 1,ae [],ae []]),.mt 3 c.stacks.toNat (List.replicate c.stacks.toNat [I 2,ae [],ae []]),.mt 3 j (List.replicate j [I 3,ae [],ae []])],6,[],0⟩) (fun j=>True) ?_ (fun _=>?_) (fun j hj _=>?_)
  ·exact Uw.wM
  rotate_left 1
  ·have hj2:(j:Int)<c.chans:=by omega
   have ej:(List.replicate j [I 3,ae [],ae []]).take j++[[I 3,ae [],ae []]]=List.replicate (j+1) [I 3,ae [],ae []]:=by rw [i5 (by simp),Zp]
   have ej2:(List.replicate j [I 3,ae [],ae []]).length=j:=by simp
   repeat (first|refine aw ?_|refine f1 ?_|refine au _ rfl ?_)
   refine aX ⟨[(53,.d (I j)),(52,.d (I c.chans)),(6,.d (I 3)),(47,.d (I 3)),(46,.d (I ((arU c.maps c.stacks c.chans).length:Nat))),(45,.d (.slice 1 (arU c.maps c.stacks c.chans) true)),(5,.row 2 4),(4,.d (.slice 1 [] true)),(3,.ptr 1 0),(2,.d (.bool false))],aM 0 [.var (cdV c),.var (eU v W0 W1 W2 W3 us D4 T ST rF),.var [.d .nil,.ref 3 c.maps.toNat 0 c.maps.toNat,.ref 4 c.stacks.toNat 0 c.stacks.toNat,.ref 5 (j+1) 0 (j+1)],.mt 3 c.maps.toNat (List.replicate c.maps.toNat [I 1,ae [],ae []]),.mt 3 c.stacks.toNat (List.replicate c.stacks.toNat [I 2,ae [],ae []]),.mt 3 (j+1) (List.replicate (j+1) [I 3,ae [],ae []])],6,[],0⟩ ?_ ?_
   ·repeat (first|refine aw ?_|refine f1 ?_)
    exact ai (.inl ⟨rfl,by exact Uw.wM⟩)
   repeat (first|refine aw ?_|refine f1 ?_)
   exact cH j trivial (by exact Uw.wM)
  repeat (first|refine aw ?_|refine f1 ?_|refine au _ rfl ?_)
  refine aS ?_
  repeat (first|refine aw ?_|refine f1 ?_|refine au _ rfl ?_)
  refine cA ?_
  repeat (first|refine aw ?_|refine f1 ?_|refine au _ rfl ?_)
  refine gB ?_
  repeat (first|refine aw ?_|refine f1 ?_|refine au _ rfl ?_)
  refine cX (fun ((i,t):Nat×Th)=>⟨[(71,.d (I i)),(70,.d (I ((us.map bA).length:Nat))),(69,.d (.slice 10 (us.map bA) false)),(5,.row 2 4),(4,.d (.slice 1 [] true)),(3,.ptr 1 0),(2,.d (.bool false))],aM 0 [.var (cdV c),.var (eU v W0 W1 W2 W3 us D4 T ST rF),.var [.d .nil,.ref 3 c.maps.toNat 0 c.maps.toNat,.ref 4 c.stacks.toNat 0 c.stacks.toNat,.ref 5 c.chans.toNat 0 c.chans.toNat],.mt 3 c.maps.toNat (t.maps.map av),.mt 3 c.stacks.toNat (t.stacks.map av),.mt 3 c.chans.toNat (t.chans.map av)],6,[],0⟩) (fun x=>BM c us ⟨W0,W1,W2,W3⟩ x.1 x.2) (fun x=>us.length - x.1) (0,⟨c.cells,List.replicate c.maps.toNat ⟨1,[],[]⟩,List.replicate c.stacks.toNat ⟨2,[],[]⟩,List.replicate c.chans.toNat ⟨3,[],[]⟩⟩) (oD hSB (by exact Uw.wM)) hinv0 ?_;rintro ⟨i,t⟩ hi;have hi:BM c us ⟨W0,W1,W2,W3⟩ i t:=hi;by_cases hin:i<us.length
  rotate_left 1
  ·obtain rfl:i=us.length:=by have:=hi.1;omega
   have ht:=hi.fin;subst ht;have h3:=hi.2.2;have z0:=h3.cells;have z1:=h3.maps.1;have z2:=h3.stacks.1;have z3:=h3.chans.1;simp only at z0 z1 z2 z3;have k1:∀x∈W1,x.keys.length<1000000/\x.vals.length<1000000:=fun x hx=>by have:=h3.maps.2 x hx;have:=this.1.keys;omega
   have k2:∀x∈W2,x.keys.length<1000000/\x.vals.length<1000000:=fun x hx=>by have:=h3.stacks.2 x hx;have:=this.1.keys;omega
   have k3:∀x∈W3,x.keys.length<1000000/\x.vals.length<1000000:=fun x hx=>by have:=h3.chans.2 x hx;have:=this.1.keys;omega
   have q0:Ret P0 mZ [.slice 1 [] true,ae W0] (.bool true):=by
    have e0:W0=[]:=by rw [hc0] at z0;exact YZ z0
    have:=wA W0 W0 (by omega);rw [decide_eq_true rfl] at this;exact this.args (.cons (by rw [e0];exact .slice (.refl _)) (.refl _))
   have q1:Ret P0 dJ [.slice 3 (((W1.map av).drop 0).take c.maps.toNat) false,.slice 3 (W1.map av) false] (.bool true):=by
    rw [show ((W1.map av).drop 0).take c.maps.toNat=W1.map av by rw [YY,i5 (by simp;omega)]];exact eY W1 (by omega) k1
   have b1:Nat.beq c.maps.toNat c.maps.toNat=true:=ZQ _;have q2:Ret P0 dJ [.slice 3 (((W2.map av).drop 0).take c.stacks.toNat) false,.slice 3 (W2.map av) false] (.bool true):=by
    rw [show ((W2.map av).drop 0).take c.stacks.toNat=W2.map av by rw [YY,i5 (by simp;omega)]];exact eY W2 (by omega) k2
   have b2:Nat.beq c.stacks.toNat c.stacks.toNat=true:=ZQ _;have q3:Ret P0 dJ [.slice 3 (((W3.map av).drop 0).take c.chans.toNat) false,.slice 3 (W3.map av) false] (.bool true):=by
    rw [show ((W3.map av).drop 0).take c.chans.toNat=W3.map av by rw [YY,i5 (by simp;omega)]];exact eY W3 (by omega) k3
   have b3:Nat.beq c.chans.toNat c.chans.toNat=true:=ZQ _;have hlt:¬((us.length:Nat):Int)<((us.map bA).length:Nat):=by omega
   clear hrep hinv0 hSB k1 k2 k3;refine aw ?_;refine aS ?_
   repeat (first|refine aw ?_|refine f1 ?_)
   exact ag rfl rfl rfl rfl rfl
  obtain ⟨t',hr,hnx,hel⟩:=hi.next hin;have h3:=hi.2.2;have huc:=DX hr;have hlt:(i:Int)<((us.map bA).length:Nat):=by omega
  have hmu:us.length - (i+1)<us.length - i:=by omega
  have z0:=h3.cells;have z1:=h3.maps.1;have z2:=h3.stacks.1;have z3:=h3.chans.1;clear hr hi hrep hinv0 hSB;generalize us.getD i default=u at *;obtain ⟨u1,u2,u3,u4,⟨o1,o2,o3,o4⟩,u5,u6⟩:=u;have hel:(us.map bA)[(i:Int).toNat]? = some [I u1,ae u2,I u3,I u4,I o1,I o2,I o3,I o4,I u5,.bool u6]:=hel;simp only at huc
  rcases huc with ⟨rfl,p0,p1,hk⟩|⟨rfl,p0,p1,p2,p3,rfl⟩|⟨rfl,p0,p1,p2,p3,rfl⟩|⟨rfl,p0,p1,p2,p3,rfl⟩
  ·rw [hc0] at z0;simp at z0;rw [z0] at p1;simp at p1;omega
  ·obtain ⟨g1,g2,g3⟩:=tm h3.maps p0 p1 (by omega)
   have hdo:=xP _ o1 o2 o3 o4 u5 u6 g2 g3 p2 p3;have g4:=qt t.maps u4.toNat (t.maps.getD u4.toNat default) (doS (t.maps.getD u4.toNat default) ⟨o1,o2,o3,o4⟩).1;clear g2 g3 p2 p3 h3;generalize (doS (t.maps.getD u4.toNat default) ⟨o1,o2,o3,o4⟩).1=y at *;generalize t.maps.getD u4.toNat default=x at *;have hfin:(⟨[(71,.d (I (i+1:Nat))),(70,.d (I ((us.map bA).length:Nat))),(69,.d (.slice 10 (us.map bA) false)),(5,.row 2 4),(4,.d (.slice 1 [] true)),(3,.ptr 1 0),(2,.d (.bool false))],aM 0 [.var (cdV c),.var (eU v W0 W1 W2 W3 us D4 T ST rF),.var [.d .nil,.ref 3 c.maps.toNat 0 c.maps.toNat,.ref 4 c.stacks.toNat 0 c.stacks.toNat,.ref 5 c.chans.toNat 0 c.chans.toNat],.mt 3 c.maps.toNat ((Th.mk t.cells (t.maps.set u4.toNat y) t.stacks t.chans).maps.map av),.mt 3 c.stacks.toNat ((Th.mk t.cells (t.maps.set u4.toNat y) t.stacks t.chans).stacks.map av),.mt 3 c.chans.toNat ((Th.mk t.cells (t.maps.set u4.toNat y) t.stacks t.chans).chans.map av)],6,[],0⟩:St)=⟨[(71,.d (I (i+1:Nat))),(70,.d (I ((us.map bA).length:Nat))),(69,.d (.slice 10 (us.map bA) false)),(5,.row 2 4),(4,.d (.slice 1 [] true)),(3,.ptr 1 0),(2,.d (.bool false))],aM 0 [.var (cdV c),.var (eU v W0 W1 W2 W3 us D4 T ST rF),.var [.d .nil,.ref 3 c.maps.toNat 0 c.maps.toNat,.ref 4 c.stacks.toNat 0 c.stacks.toNat,.ref 5 c.chans.toNat 0 c.chans.toNat],.mt 3 c.maps.toNat ((t.maps.map av).set (0+u4.toNat) (setAt [I x.kind,ae x.keys,ae x.vals] 0 [I y.kind,ae y.keys,ae y.vals])),.mt 3 c.stacks.toNat (t.stacks.map av),.mt 3 c.chans.toNat (t.chans.map av)],6,[],0⟩:=by rw [g4]
   clear g4
   repeat (first|refine aw ?_|refine f1 ?_)
   refine aX ⟨[(12,.d (.bool u6)),(11,.d (I u5)),(10,.ptr 7 0),(9,.ptr 6 0),(71,.d (I i)),(70,.d (I ((us.map bA).length:Nat))),(69,.d (.slice 10 (us.map bA) false)),(5,.row 2 4),(4,.d (.slice 1 [] true)),(3,.ptr 1 0),(2,.d (.bool false))],aM 0 [.var (cdV c),.var (eU v W0 W1 W2 W3 us D4 T ST rF),.var [.d .nil,.ref 3 c.maps.toNat 0 c.maps.toNat,.ref 4 c.stacks.toNat 0 c.stacks.toNat,.ref 5 c.chans.toNat 0 c.chans.toNat],.mt 3 c.maps.toNat (t.maps.map av),.mt 3 c.stacks.toNat (t.stacks.map av),.mt 3 c.chans.toNat (t.chans.map av),.var [.d (I u1),.d (ae u2),.d (I 1),.d (I u4),.d (I o1),.d (I o2),.d (I o3),.d (I o4),.d (I u5),.d (.bool u6)],.var [.d (I y.kind),.d (ae y.keys),.d (ae y.vals)]],8,[],0⟩ ?_ ?_
   ·repeat (first|refine aw ?_|refine f1 ?_)
    exact ai (.inl ⟨rfl,by exact Uw.wM⟩)
   repeat (first|refine aw ?_|refine f1 ?_)
   exact aN (i+1,{ t with maps:=t.maps.set u4.toNat y }) hnx hmu (oD hfin (by exact Uw.wM))
  ·obtain ⟨g1,g2,g3⟩:=tm h3.stacks p0 p1 (by omega)
   have hdo:=xP _ o1 o2 o3 o4 u5 u6 g2 g3 p2 p3;have g4:=qt t.stacks u4.toNat (t.stacks.getD u4.toNat default) (doS (t.stacks.getD u4.toNat default) ⟨o1,o2,o3,o4⟩).1;clear g2 g3 p2 p3 h3;generalize (doS (t.stacks.getD u4.toNat default) ⟨o1,o2,o3,o4⟩).1=y at *;generalize t.stacks.getD u4.toNat default=x at *;have hfin:(⟨[(71,.d (I (i+1:Nat))),(70,.d (I ((us.map bA).length:Nat))),(69,.d (.slice 10 (us.map bA) false)),(5,.row 2 4),(4,.d (.slice 1 [] true)),(3,.ptr 1 0),(2,.d (.bool false))],aM 0 [.var (cdV c),.var (eU v W0 W1 W2 W3 us D4 T ST rF),.var [.d .nil,.ref 3 c.maps.toNat 0 c.maps.toNat,.ref 4 c.stacks.toNat 0 c.stacks.toNat,.ref 5 c.chans.toNat 0 c.chans.toNat],.mt 3 c.maps.toNat ((Th.mk t.cells t.maps (t.stacks.set u4.toNat y) t.chans).maps.map av),.mt 3 c.stacks.toNat ((Th.mk t.cells t.maps (t.stacks.set u4.toNat y) t.chans).stacks.map av),.mt 3 c.chans.toNat ((Th.mk t.cells t.maps (t.stacks.set u4.toNat y) t.chans).chans.map av)],6,[],0⟩:St)=⟨[(71,.d (I (i+1:Nat))),(70,.d (I ((us.map bA).length:Nat))),(69,.d (.slice 10 (us.map bA) false)),(5,.row 2 4),(4,.d (.slice 1 [] true)),(3,.ptr 1 0),(2,.d (.bool false))],aM 0 [.var (cdV c),.var (eU v W0 W1 W2 W3 us D4 T ST rF),.var [.d .nil,.ref 3 c.maps.toNat 0 c.maps.toNat,.ref 4 c.stacks.toNat 0 c.stacks.toNat,.ref 5 c.chans.toNat 0 c.chans.toNat],.mt 3 c.maps.toNat (t.maps.map av),.mt 3 c.stacks.toNat ((t.stacks.map av).set (0+u4.toNat) (setAt [I x.kind,ae x.keys,ae x.vals] 0 [I y.kind,ae y.keys,ae y.vals])),.mt 3 c.chans.toNat (t.chans.map av)],6,[],0⟩:=by rw [g4]
   clear g4
   repeat (first|refine aw ?_|refine f1 ?_)
   refine aX ⟨[(12,.d (.bool u6)),(11,.d (I u5)),(10,.ptr 7 0),(9,.ptr 6 0),(71,.d (I i)),(70,.d (I ((us.map bA).length:Nat))),(69,.d (.slice 10 (us.map bA) false)),(5,.row 2 4),(4,.d (.slice 1 [] true)),(3,.ptr 1 0),(2,.d (.bool false))],aM 0 [.var (cdV c),.var (eU v W0 W1 W2 W3 us D4 T ST rF),.var [.d .nil,.ref 3 c.maps.toNat 0 c.maps.toNat,.ref 4 c.stacks.toNat 0 c.stacks.toNat,.ref 5 c.chans.toNat 0 c.chans.toNat],.mt 3 c.maps.toNat (t.maps.map av),.mt 3 c.stacks.toNat (t.stacks.map av),.mt 3 c.chans.toNat (t.chans.map av),.var [.d (I u1),.d (ae u2),.d (I 2),.d (I u4),.d (I o1),.d (I o2),.d (I o3),.d (I o4),.d (I u5),.d (.bool u6)],.var [.d (I y.kind),.d (ae y.keys),.d (ae y.vals)]],8,[],0⟩ ?_ ?_
   ·repeat (first|refine aw ?_|refine f1 ?_)
    exact ai (.inl ⟨rfl,by exact Uw.wM⟩)
   repeat (first|refine aw ?_|refine f1 ?_)
   exact aN (i+1,{ t with stacks:=t.stacks.set u4.toNat y }) hnx hmu (oD hfin (by exact Uw.wM))
  ·obtain ⟨g1,g2,g3⟩:=tm h3.chans p0 p1 (by omega)
   have hdo:=xP _ o1 o2 o3 o4 u5 u6 g2 g3 p2 p3;have g4:=qt t.chans u4.toNat (t.chans.getD u4.toNat default) (doS (t.chans.getD u4.toNat default) ⟨o1,o2,o3,o4⟩).1;clear g2 g3 p2 p3 h3;generalize (doS (t.chans.getD u4.toNat default) ⟨o1,o2,o3,o4⟩).1=y at *;generalize t.chans.getD u4.toNat default=x at *;have hfin:(⟨[(71,.d (I (i+1:Nat))),(70,.d (I ((us.map bA).length:Nat))),(69,.d (.slice 10 (us.map bA) false)),(5,.row 2 4),(4,.d (.slice 1 [] true)),(3,.ptr 1 0),(2,.d (.bool false))],aM 0 [.var (cdV c),.var (eU v W0 W1 W2 W3 us D4 T ST rF),.var [.d .nil,.ref 3 c.maps.toNat 0 c.maps.toNat,.ref 4 c.stacks.toNat 0 c.stacks.toNat,.ref 5 c.chans.toNat 0 c.chans.toNat],.mt 3 c.maps.toNat ((Th.mk t.cells t.maps t.stacks (t.chans.set u4.toNat y)).maps.map av),.mt 3 c.stacks.toNat ((Th.mk t.cells t.maps t.stacks (t.chans.set u4.toNat y)).stacks.map av),.mt 3 c.chans.toNat ((Th.mk t.cells t.maps t.stacks (t.chans.set u4.toNat y)).chans.map av)],6,[],0⟩:St)=⟨[(71,.d (I (i+1:Nat))),(70,.d (I ((us.map bA).length:Nat))),(69,.d (.slice 10 (us.map bA) false)),(5,.row 2 4),(4,.d (.slice 1 [] true)),(3,.ptr 1 0),(2,.d (.bool false))],aM 0 [.var (cdV c),.var (eU v W0 W1 W2 W3 us D4 T ST rF),.var [.d .nil,.ref 3 c.maps.toNat 0 c.maps.toNat,.ref 4 c.stacks.toNat 0 c.stacks.toNat,.ref 5 c.chans.toNat 0 c.chans.toNat],.mt 3 c.maps.toNat (t.maps.map av),.mt 3 c.stacks.toNat (t.stacks.map av),.mt 3 c.chans.toNat ((t.chans.map av).set (0+u4.toNat) (setAt [I x.kind,ae x.keys,ae x.vals] 0 [I y.kind,ae y.keys,ae y.vals]))],6,[],0⟩:=by rw [g4]
   clear g4
   repeat (first|refine aw ?_|refine f1 ?_)
   refine aX ⟨[(12,.d (.bool u6)),(11,.d (I u5)),(10,.ptr 7 0),(9,.ptr 6 0),(71,.d (I i)),(70,.d (I ((us.map bA).length:Nat))),(69,.d (.slice 10 (us.map bA) false)),(5,.row 2 4),(4,.d (.slice 1 [] true)),(3,.ptr 1 0),(2,.d (.bool false))],aM 0 [.var (cdV c),.var (eU v W0 W1 W2 W3 us D4 T ST rF),.var [.d .nil,.ref 3 c.maps.toNat 0 c.maps.toNat,.ref 4 c.stacks.toNat 0 c.stacks.toNat,.ref 5 c.chans.toNat 0 c.chans.toNat],.mt 3 c.maps.toNat (t.maps.map av),.mt 3 c.stacks.toNat (t.stacks.map av),.mt 3 c.chans.toNat (t.chans.map av),.var [.d (I u1),.d (ae u2),.d (I 3),.d (I u4),.d (I o1),.d (I o2),.d (I o3),.d (I o4),.d (I u5),.d (.bool u6)],.var [.d (I y.kind),.d (ae y.keys),.d (ae y.vals)]],8,[],0⟩ ?_ ?_
   ·repeat (first|refine aw ?_|refine f1 ?_)
    exact ai (.inl ⟨rfl,by exact Uw.wM⟩)
   repeat (first|refine aw ?_|refine f1 ?_)
   exact aN (i+1,{ t with chans:=t.chans.set u4.toNat y }) hnx hmu (oD hfin (by exact Uw.wM))
end Uw.Tryz.El
