/- L2: Uw Ux Uy Uy2 Uy3 Uy4 Uy5 Ul Um Uo Up Uq Uq2 Uq3 Uq4 (merged by merge2.py from the working texts). -/
import Derived.Test.YtikpfliiodgonaaGreatDoorL1
import Derived.Laws.StructEq
import Derived.Laws.BytesString
import Derived.StillTail
set_option linter.unusedSimpArgs false
set_option linter.unnecessarySimpa false
set_option linter.unusedVariables false
set_option linter.unusedSectionVars false
namespace Uw
open Go Go.RowKit
variable [Glob]
section
variable {P : Program} {Q : az -> St -> Prop} {q : V -> St -> Tree} {c : Cx} {w0 : World} {n : Nat} {gs : Fr} {st : St} {a : Act} {K : Act -> World -> Prop} {Qx : Exit -> Act -> World -> Prop} {o : Oper} {xx : az -> St -> Tree}
theorem lP {t e:TypeId} {x:Operand} {lo hi:Option Operand} {k len cap b o' : Nat} {l u:Int} {w:World} (ho:o.op = .slice t x lo hi none) (hu:P.underlying t=some (.slice e)) (hk:sizeT P e=some k) (hx:a.eval x = .slice (some ⟨b,o',none⟩) len cap)
  (hlo:(lo=none/\l=0)\/∃z k,lo=some z/\a.eval z = .int k l) (hhi:(hi=none/\u=len)\/∃z k,hi=some z/\a.eval z = .int k u) (h0:0<=l) (h1:l<=u) (h2:u<=cap) :
  (execOp a.eval o).run P w = .ok (.value (.slice (some (if cap=l.toNat then ⟨b,o',none⟩ else ⟨b,o' + l.toNat * k,none⟩)) (u.toNat - l.toNat) (cap - l.toNat))) w:=by
 have hb:=iC (P:=P) (isS:=true) (w:=w) (len:=len) (cap:=cap) (a:=a) hlo hhi h0 h1 h2;simp only [execOp,ho];have:(Instr.sliceAt t (a.eval x) (lo.map a.eval) (hi.map a.eval) (Option.map a.eval none)).run P w = .ok (.slice (some (if cap=l.toNat then ⟨b,o',none⟩ else ⟨b,o' + l.toNat * k,none⟩)) (u.toNat - l.toNat) (cap - l.toNat)) w:=by
  simp only [Instr.sliceAt,Instr.slice,hx,aaf];rw [run_bind_ok (bq hu)];simp only [];rw [run_bind_ok (bq hu)];simp only [];rw [run_bind_ok hb];simp only [];rw [run_bind_ok (eu hk)];by_cases hc:cap=l.toNat
  ·simp [hc]
  ·simp [hc,addr_add]
 rw [run_bind_ok this];rfl
theorem nH {t e:TypeId} {x hi mx:Operand} {lo:Option Operand} {k len cap:Nat} {ad:Option Addr} {l u:Int} {k1 k2:IntKind} {w:World} (ho:o.op = .slice t x lo (some hi) (some mx)) (hu:P.underlying t=some (.slice e)) (hk:sizeT P e=some k) (hx:a.eval x = .slice ad len cap)
  (hlo:(lo=none/\l=0)\/∃z k,lo=some z/\a.eval z = .int k l) (hhi:a.eval hi = .int k1 u) (hmx:a.eval mx = .int k2 u) (h0:0<=l) (h1:l<=u) (h2:u<=cap) :
  (execOp a.eval o).run P w = .ok (.value (.slice (if u.toNat=l.toNat then ad else ad.map (·.add (l.toNat * k))) (u.toNat - l.toNat) (u.toNat - l.toNat))) w:=by
 have hu0:0<=u:=by omega
 have hut:(u.toNat:Int)=u:=by omega
 have hb:(Instr.sliceBounds true len cap (lo.map a.eval) (some (a.eval hi)) (some (a.eval mx))).run P w = .ok (l.toNat,u.toNat,u.toNat) w:=by
  unfold Instr.sliceBounds
  rcases hlo with ⟨rfl,rfl⟩|⟨z,k,rfl,hz⟩
  ·simp [hhi,hmx,Instr.sliceBound,asIntOf,hu0,h2,hut]
  ·simp [hz,hhi,hmx,Instr.sliceBound,asIntOf,h0,h1,hu0,h2,hut]
 simp only [execOp,ho];have:(Instr.sliceAt t (a.eval x) (lo.map a.eval) ((some hi).map a.eval) ((some mx).map a.eval)).run P w = .ok (.slice (if u.toNat=l.toNat then ad else ad.map (·.add (l.toNat * k))) (u.toNat - l.toNat) (u.toNat - l.toNat)) w:=by
  simp only [Instr.sliceAt,Instr.slice,hx,aay];rw [run_bind_ok (bq hu)];simp only [];rw [run_bind_ok (bq hu)];simp only [];rw [run_bind_ok hb];simp only [];rw [run_bind_ok (eu hk)];rfl
 rw [run_bind_ok this];rfl
theorem pD {t e:TypeId} {x:Operand} {lo hi:Option Operand} {k:Nat} {w:World} {xo:Option Addr} (ho:o.op = .slice t x lo hi none) (hu:P.underlying t=some (.slice e)) (hk:sizeT P e=some k) (hx:a.eval x = .slice xo 0 0)
  (hlo:(lo=none/\(0:Int)=0)\/∃z k,lo=some z/\a.eval z = .int k 0) (hhi:(hi=none/\(0:Int)=((0:Nat):Int))\/∃z k,hi=some z/\a.eval z = .int k 0):(execOp a.eval o).run P w = .ok (.value (.slice xo 0 0)) w:=by
 have hb:=iC (P:=P) (isS:=true) (w:=w) (len:=0) (cap:=0) (a:=a) hlo hhi (by omega) (by omega) (by omega);simp only [execOp,ho];have:(Instr.sliceAt t (a.eval x) (lo.map a.eval) (hi.map a.eval) (Option.map a.eval none)).run P w = .ok (.slice xo 0 0) w:=by
  simp only [Instr.sliceAt,Instr.slice,hx,aaf];rw [run_bind_ok (bq hu)];simp only [];rw [run_bind_ok (bq hu)];simp only [];rw [run_bind_ok hb];simp only [];rw [run_bind_ok (eu hk)]
  cases xo<;>simp
 rw [run_bind_ok this];rfl
theorem bU.window {w:World} {J:Nat->Nat->Prop} {b k:Nat}:∀{xs:List (List Dat)} {o:Nat},bU w J b k o xs->∀m,m<=xs.length->bU w J b k (o+m * k) (xs.drop m)
 | xs,o,h,0,_=>by simpa using h
 | [],o,h,m+1,hm=>by simp [bU]
 | x::xs,o,h,m+1,hm=>by
  obtain ⟨h1,h2,h3⟩:=h;have:=bU.window h3 m (by simpa using hm);rw [show o+k+m * k=o+(m+1) * k by rw [Y6];omega] at this;simpa using this
theorem bU.take {w:World} {J:Nat->Nat->Prop} {b k:Nat}:∀{xs:List (List Dat)} {o:Nat},bU w J b k o xs->∀m,bU w J b k o (xs.take m)
 | xs,o,h,0=>by simp [bU]
 | [],o,h,m+1=>by simp [bU]
 | x::xs,o,h,m+1=>by
  obtain ⟨h1,h2,h3⟩:=h;exact ⟨h1,h2,bU.take h3 m⟩
theorem UB (r:Rel c w0 n gs st a) (hK:bf P Q q c w0 n gs st a o.dst K) {t e:TypeId} {k:Nat} {x hi mx:Operand} {lo:Option Operand} {y hi' mx' : Opd} {lo' : Option Opd} (ho:o.op = .slice t x lo (some hi) (some mx)) (hu:P.underlying t=some (.slice e)) (hk:sizeT P e=some k)
  (hc:ao x=some y) (hl:jo lo=some lo') (hh:ao hi=some hi') (hm:ao mx=some mx') (h:WT P Q (step (.sl3 k y lo' hi' mx') st q xx)):o.wp P a c.w K Qx:=by
 rw [uh] at hl;have int:∀{z:Operand} {z' : Opd} {i:Int},ao z=some z'->bY st 0 (some z')=some i->∃kk,a.eval z = .int kk i:=by
  intro z z' i hz hi
  rcases cT r (x:=some z) (y:=some z') (d:=0) (by simp [hz]) hi with ⟨h,_⟩|⟨z1,kk,h1,h2⟩
  ·cases h
  ·injection h1 with h1;subst h1;exact ⟨kk,h2⟩
 simp only [step] at h
 split at h
 ·rename_i k' xs z hv
  have e0:=aF r hc hv;simp only [aD,aG] at e0
  split at h
  ·rename_i l u m hkk hl' hu' hm'
   have hkk:=wt hkk;subst hkk;simp only [WT] at h;obtain ⟨ht,hf⟩:=h
   cases hd:(decide (0<=l)&&decide (l<u)&&decide (u=m)&&decide (m<=(xs.length:Int))) with
   | true=>
     have g:=ht hd;simp only [i9,decide_eq_true_eq] at hd;obtain ⟨⟨⟨d1,d2⟩,d3⟩,d4⟩:=hd;subst d3;have r1:=(cT r hl hl').imp (fun h=>(⟨h.1,h.2.2⟩:lo=none/\l=0)) (fun h=>h);obtain ⟨k1,r2⟩:=int hh hu';obtain ⟨k2,r3⟩:=int hm hm'
     rcases e0 with ⟨⟨x9,e0,_⟩,rfl⟩|⟨b,o',cap,e1,e2,e3,e4⟩
     ·simp only [ZK] at d4;omega
     refine aP r hK ?_ g (nH ho hu hk e1 r1 r2 r3 d1 (by omega) (by omega));have hlen:((xs.take u.toNat).drop l.toNat).length=u.toNat - l.toNat:=by simp;omega
     have hE:bU c.w (Imm c) b k (o' + l.toNat * k) ((xs.take u.toNat).drop l.toNat):=(e4.take u.toNat).window l.toNat (by simp;omega);rw [if_neg (by omega)];exact .inr ⟨b,o' + l.toNat * k,u.toNat - l.toNat,by rw [hlen];simp [addr_add],by rw [hlen];omega,fun _=>by rw [hlen],hE⟩
   | false=>
     obtain ⟨hd2,g⟩:=fC (P:=P) (Q:=Q) (b:=decide (l=0)&&decide (u=0)&&decide (m=0)) (T:=q (.d (.slice k [] true)) st) (by simpa only [WT] using hf hd);simp only [i9,decide_eq_true_eq] at hd2;obtain ⟨⟨rfl,rfl⟩,rfl⟩:=hd2;have r1:=(cT r hl hl').imp (fun h=>(⟨h.1,h.2.2⟩:lo=none/\(0:Int)=0)) (fun h=>h);obtain ⟨k1,r2⟩:=int hh hu';obtain ⟨k2,r3⟩:=int hm hm'
     rcases e0 with ⟨⟨x9,e0,_⟩,_⟩|⟨b,o',cap,e1,e2,e3,e4⟩
     ·exact aP r hK (gv:=.slice x9 0 0) (by simp only [aD,aG];exact .inl ⟨⟨x9,rfl,fun _=>trivial⟩,trivial⟩) g (nH ho hu hk e0 r1 r2 r3 (by omega) (by omega) (by omega))
     ·exact aP r hK (gv:=.slice (some ⟨b,o',none⟩) 0 0) (by simp only [aD,aG];exact .inl ⟨⟨_,rfl,fun _=>trivial⟩,trivial⟩) g (nH ho hu hk e1 r1 r2 r3 (by omega) (by omega) (by omega))
  ·exact h.elim
 ·rename_i id ver off len hv
  have e1:=aF r hc hv;simp only [aD] at e1;rw [r.heap] at e1
  split at h
  ·rename_i k' xs l u m hlk hl' hu' hm'
   rw [hlk] at e1
   split at h
   ·rename_i hkk
    have hkk:=wt hkk;subst hkk;obtain ⟨f1,e1⟩:=e1;obtain ⟨hd,g⟩:=fC h;simp only [i9,decide_eq_true_eq] at hd;obtain ⟨⟨⟨d1,d2⟩,d3⟩,d4⟩:=hd;subst d3;have r1:=(cT r hl hl').imp (fun h=>(⟨h.1,h.2.2⟩:lo=none/\l=0)) (fun h=>h);obtain ⟨k1,r2⟩:=int hh hu';obtain ⟨k2,r3⟩:=int hm hm'
    rcases e1 with ⟨f2,f3,f4⟩|⟨b,o',cap,f2,f3,f4,f5⟩
    ·subst f3;omega
    refine aP r hK ?_ g (nH ho hu hk f2 r1 r2 r3 d1 (by omega) (by omega));have hlen:((((xs.drop off).take len).take u.toNat).drop l.toNat).length=u.toNat - l.toNat:=by simp;omega
    have hE:bU c.w (Imm c) b k (o' + l.toNat * k) ((((xs.drop off).take len).take u.toNat).drop l.toNat):=(f4.take u.toNat).window l.toNat (by simp;omega);rw [if_neg (by omega)];exact .inr ⟨b,o' + l.toNat * k,u.toNat - l.toNat,by rw [hlen];simp [addr_add],by rw [hlen];omega,fun _=>by rw [hlen],hE⟩
   ·exact h.elim
  ·exact h.elim
 ·rename_i hv
  have e0:=aF r hc hv;simp only [aD,aG] at e0
  split at h
  ·rename_i l u m hl' hu' hm'
   obtain ⟨hd,g⟩:=fC h;simp only [i9,decide_eq_true_eq] at hd;obtain ⟨⟨rfl,rfl⟩,rfl⟩:=hd;have r1:=(cT r hl hl').imp (fun h=>(⟨h.1,h.2.2⟩:lo=none/\(0:Int)=0)) (fun h=>h);obtain ⟨k1,r2⟩:=int hh hu';obtain ⟨k2,r3⟩:=int hm hm';exact aP r hK (gv:=.slice none 0 0) (by simp [aD,aG]) g (nH ho hu hk e0 r1 r2 r3 (by omega) (by omega) (by omega))
  ·exact h.elim
 ·exact h.elim
theorem V1 (r:Rel c w0 n gs st a) (hK:bf P Q q c w0 n gs st a o.dst K) {t e:TypeId} {k:Nat} {x:Operand} {lo hi:Option Operand} {y:Opd} {lo' hi' : Option Opd} (ho:o.op = .slice t x lo hi none) (hu:P.underlying t=some (.slice e)) (hk:sizeT P e=some k)
  (hc:ao x=some y) (hl:jo lo=some lo') (hh:jo hi=some hi') (h:WT P Q (step (.sl k y lo' hi') st q xx)):o.wp P a c.w K Qx:=by
 rw [uh] at hl hh;simp only [step] at h
 split at h
 ·rename_i k' xs z hv
  have e0:=aF r hc hv;simp only [aD,aG] at e0
  split at h
  ·rename_i l u hkk hl' hu'
   have hkk:=wt hkk;subst hkk;simp only [WT] at h
   cases hd:(decide (0<=l)&&decide (l<=u)&&decide (u<=(xs.length:Int))) with
   | false=>exact (h.2 hd).elim
   | true=>
    have g:=h.1 hd;simp only [i9,decide_eq_true_eq] at hd;have r1:=(cT r hl hl').imp (fun h=>(⟨h.1,h.2.2⟩:lo=none/\l=0)) (fun h=>h);have r2:=(cT r hh hu').imp (fun h=>(⟨h.1,h.2.2⟩:hi=none/\u=xs.length)) (fun h=>h)
    rcases e0 with ⟨⟨x9,e0,_⟩,rfl⟩|⟨b,o',cap,e1,e2,e3,e4⟩
    ·simp only [ZK] at hd r2
     have hl0:l=0:=by omega
     have hu0:u=0:=by omega
     subst hl0 hu0;refine aP r hK (gv:=.slice x9 0 0) ?_ g (pD ho hu hk e0 r1 r2);exact .inl ⟨⟨_,rfl,by simp⟩,by simp⟩
    refine aP r hK ?_ g (lP ho hu hk e1 r1 r2 hd.1.1 hd.1.2 (by omega));have hlen:((xs.take u.toNat).drop l.toNat).length=u.toNat - l.toNat:=by simp;omega
    have hE:bU c.w (Imm c) b k (o' + l.toNat * k) ((xs.take u.toNat).drop l.toNat):=(e4.take u.toNat).window l.toNat (by simp;omega);by_cases hcap:cap=l.toNat
    ·rw [if_pos hcap]
     refine .inr ⟨b,o',cap - l.toNat,by rw [hlen],by rw [hlen];omega,by simp,?_⟩;have:(xs.take u.toNat).drop l.toNat=[]:=YZ (by omega);rw [this];trivial
    ·rw [if_neg hcap]
     exact .inr ⟨b,o' + l.toNat * k,cap - l.toNat,by rw [hlen],by rw [hlen];omega,by simp,hE⟩
  ·exact h.elim
 ·rename_i id ver off len hv
  have e1:=aF r hc hv;simp only [aD] at e1;rw [r.heap] at e1
  split at h
  ·rename_i k' xs l u hlk hl' hu'
   rw [hlk] at e1
   split at h
   ·rename_i hkk
    have hkk:=wt hkk;subst hkk;obtain ⟨f1,e1⟩:=e1;simp only [WT] at h
    cases hd:(decide (0<=l)&&decide (l<=u)&&decide (u<=(len:Int))) with
    | false=>exact (h.2 hd).elim
    | true=>
     have g:=h.1 hd;simp only [i9,decide_eq_true_eq] at hd;have r1:=(cT r hl hl').imp (fun h=>(⟨h.1,h.2.2⟩:lo=none/\l=0)) (fun h=>h);have r2:=(cT r hh hu').imp (fun h=>(⟨h.1,h.2.2⟩:hi=none/\u=len)) (fun h=>h);have KE : look c.heap id=some (.arr k xs):=by rw [r.heap];exact hlk
     rcases e1 with ⟨f2,f3,f4⟩|⟨b,o',cap,f2,f3,f4,f5⟩
     ·subst f3
      have hl0:l=0:=by omega
      have hu0:u=0:=by omega
      subst hl0 hu0;refine aP r hK (gv:=.slice none 0 0) ?_ g (pD ho hu hk f2 r1 r2);simp only [aD,KE];exact ⟨by simp;omega,.inl ⟨rfl,by simp,by simpa using f4⟩⟩
     refine aP r hK ?_ g (lP ho hu hk f2 r1 r2 hd.1.1 hd.1.2 (by omega));simp only [aD,KE];have hul:(u - l).toNat=u.toNat - l.toNat:=by omega
     have hwin:(xs.drop (off+l.toNat)).take (u - l).toNat=(((xs.drop off).take len).take u.toNat).drop l.toNat:=by
      rw [aaE,aaE,aao,aaC]
      congr 1
      omega
     refine ⟨by omega,?_⟩;have hE:bU c.w (Imm c) b k (o' + l.toNat * k) ((((xs.drop off).take len).take u.toNat).drop l.toNat):=(f4.take u.toNat).window l.toNat (by simp;omega);by_cases hcap:cap=l.toNat
     ·rw [if_pos hcap]
      refine .inr ⟨b,o',cap - l.toNat,by rw [hul],by omega,?_,?_⟩
      ·rw [hwin]
       have:(((xs.drop off).take len).take u.toNat).drop l.toNat=[]:=YZ (by simp;omega);rw [this];trivial
      ·intro hend
       obtain ⟨f6,f7⟩:=f5 (by omega);refine ⟨by omega,fun hlt=>by omega⟩
     ·rw [if_neg hcap]
      refine .inr ⟨b,o' + l.toNat * k,cap - l.toNat,by rw [hul],by omega,by rw [hwin];exact hE,?_⟩;intro hend;obtain ⟨f6,f7⟩:=f5 (by omega);refine ⟨by omega,fun hlt=>?_⟩;obtain ⟨f8,f9⟩:=f7 (by omega);exact ⟨f8,by rw [f9,Y6]⟩
   ·exact h.elim
  ·rename_i k' c8 xs l u hlk hl' hu'
   rw [hlk] at e1
   split at h
   ·rename_i hkk
    have h1:=wt hkk;subst h1
    replace h:=fC h
    obtain ⟨hv2,h⟩:=h;have h2:=wt hv2;subst h2;obtain ⟨f0,_,f⟩:=e1;obtain ⟨f1,f2⟩:=f rfl;have KE : look c.heap id=some (.mt k ver xs):=by rw [r.heap];exact hlk
    obtain ⟨b3,b4,bb⟩:=r.hrel.blk id _ KE;simp only [WT] at h
    cases hd:(decide (0<=l)&&decide (l<=u)&&decide (u<=(len:Int))) with
    | false=>exact (h.2 hd).elim
    | true=>
     have g:=h.1 hd;simp only [i9,decide_eq_true_eq] at hd;have r1:=(cT r hl hl').imp (fun h=>(⟨h.1,h.2.2⟩:lo=none/\l=0)) (fun h=>h);have r2:=(cT r hh hu').imp (fun h=>(⟨h.1,h.2.2⟩:hi=none/\u=len)) (fun h=>h)
     rcases f2 with ⟨f2,f3,f4,f5⟩|⟨b,o',f2,f3⟩
     ·subst f3 f4
      have hl0:l=0:=by omega
      have hu0:u=0:=by omega
      subst hl0 hu0;refine aP r hK (gv:=.slice none 0 0) ?_ g (pD ho hu hk f2 r1 r2);simp only [aD,KE];exact ⟨Ls _,⟨_,_,_,rfl⟩,fun _=>⟨by simp,.inl ⟨rfl,rfl,rfl,f5⟩⟩⟩
     refine aP r hK ?_ g (lP ho hu hk f2 r1 r2 hd.1.1 hd.1.2 (by omega));simp only [aD,KE];have hul:(u - l).toNat=u.toNat - l.toNat:=by omega
     refine ⟨Ls _,⟨_,_,_,rfl⟩,fun _=>⟨by omega,?_⟩⟩;by_cases hcap:(c.pl id).cap - off=l.toNat
     ·rw [if_pos hcap]
      exact .inr ⟨b,o',by rw [hul,Nat.sub_sub],fun hlt=>by omega⟩
     ·rw [if_neg hcap]
      refine .inr ⟨b,o' + l.toNat * k,by rw [hul,Nat.sub_sub],fun hlt=>?_⟩;obtain ⟨f8,f9⟩:=f3 (by omega);exact ⟨f8,by rw [f9,Y6]⟩
   ·exact h.elim
  ·exact h.elim
 ·rename_i hv
  have e1:=aF r hc hv;simp only [aD,aG] at e1
  split at h
  ·rename_i l u hl' hu'
   simp only [WT] at h
   cases hd:(decide (l=0)&&decide (u=0)) with
   | false=>exact (h.2 hd).elim
   | true=>
    have g:=h.1 hd;simp only [i9,decide_eq_true_eq] at hd;obtain ⟨rfl,rfl⟩:=hd;have r1:=(cT r hl hl').imp (fun h=>(⟨h.1,h.2.2⟩:lo=none/\(0:Int)=0)) id;have r2:=(cT r hh hu').imp (fun h=>(⟨h.1,h.2.2⟩:hi=none/\(0:Int)=((0:Nat):Int))) id;refine aP r hK (v:=.d .nil) (gv:=.slice none 0 0) (by simp [aD,aG]) g ?_;have hb:=iC (P:=P) (isS:=true) (w:=c.w) (len:=0) (cap:=0) (a:=a) r1 r2 (by omega) (by omega) (by omega);simp only [execOp,ho];have:(Instr.sliceAt t (a.eval x) (lo.map a.eval) (hi.map a.eval) (Option.map a.eval none)).run P c.w = .ok (.slice none 0 0) c.w:=by
     simp only [Instr.sliceAt,Instr.slice,e1,aaf];rw [run_bind_ok (bq hu)];simp only [];rw [run_bind_ok (bq hu)];simp only [];rw [run_bind_ok hb];simp only [];rw [run_bind_ok (eu hk)];simp
    rw [run_bind_ok this];rfl
  ·exact h.elim
 ·exact h.elim
theorem zi {α:Type} (cs ds:List α) (h:ds.length=cs.length):setAt cs 0 ds=ds:=by
 apply ZW;intro j;rw [i7];by_cases hj:j<ds.length
 ·rw [if_pos (by omega)];simp
 ·rw [if_neg (by omega),Y2 (by omega),Y2 (by omega)]
theorem Jn (r:Rel c w0 n gs st a) {k:Nat}:∀(ps:List (Nat×Operand)) (qs:List (Nat×Opd)) (xs xs' : List (List Dat)) (vs:Array Value),(∀p∈ps.zip qs,p.1.1=p.2.1/\ao p.1.2=some p.2.2)->ps.length=qs.length->
  (∀x∈xs,x.length=k)->aQ c.w (Imm c) xs.flatten vs.toList->(∀v∈vs.toList,one v=true)->gy st k xs qs=some xs'->
  ∃vs',Instr.fill (fun i=>some (i * k,k)) vs (ps.map fun (i,x)=>(i,a.eval x))=some vs'/\(∀x∈xs',x.length=k)/\xs'.length=xs.length/\aQ c.w (Imm c) xs'.flatten vs'.toList/\∀v∈vs'.toList,one v=true:=by
 intro ps
 induction ps with
 | nil=>
  intro qs xs xs' vs _ hl h1 h2 h3 h;have:qs=[]:=YZ (by simpa using hl.symm);subst this;simp [gy] at h;subst h;exact ⟨vs,rfl,h1,rfl,h2,h3⟩
 | cons p ps ih=>
  intro qs xs xs' vs hz hl h1 h2 h3 h
  cases qs with
  | nil=>simp at hl
  | cons q0 qs=>
   obtain ⟨i,x⟩:=p;obtain ⟨i',y⟩:=q0;have hz0:=hz ((i,x),(i',y)) (by simp);obtain ⟨hii,hcy⟩:=hz0;simp only at hii hcy;subst hii;simp only [gy] at h
   split at h
   ·rename_i v hv
    split at h
    ·rename_i ds hds
     split at h
     ·rename_i hb
      rw [i9,i9] at hb;have hb1:=wt hb.1.1;have hb2:i<xs.length:=by simpa using hb.1.2
      have e4:=aF r hcy hv;have e5:=nr e4 (xW hv);rw [<- r.heap] at hds;have e6:=kX hds e5;have hcs:xs[i]? = some xs[i]:=AN hb2;have hcl:xs[i].length=k:=h1 _ (YX hb2);have hset:setAt xs[i] 0 ds=ds:=zi _ _ (by omega);have hdl:(a.eval x).cells.size=k:=by have:=e6.length;simp at this;omega
      have hvl:vs.size=xs.length * k:=by have:=h2.length;rw [fe h1] at this;simpa using this
      have hik:(i+1) * k<=xs.length * k:=Y5 _ (by omega);have hik' : i * k+k=(i+1) * k:=by rw [Y6];omega
      have hfs:=rO h1 (cc:=0) (ds:=ds) hcs (by omega);rw [hset,ZR] at hfs;obtain ⟨vs',g1,g2,g3,g4,g5⟩:=ih qs (xs.set i ds) xs' (fS vs (i * k) (a.eval x).cells.toList) (fun p hp=>hz p (by simp [hp])) (by simpa using hl)
       (fun z hz=>by rcases Zh hz with hz|hz;exact h1 z hz;rw [hz];exact hb1)
       (by rw [hfs,fk];exact aQ.setAt h2 e6 _)
       (fun u hu=>by
        rw [fk] at hu
        rcases pV hu with hu|hu
        ·exact h3 u hu
        ·obtain ⟨j,hj⟩:=aae hu
         obtain ⟨z,hz,hzr⟩:=e5.get' j u hj;exact yH hzr (YW.1 hb.2 z (Zf hz))) h
      refine ⟨vs',?_,g2,by rw [g3];simp,g4,g5⟩;simp only [ZD,Instr.fill];rw [if_neg (by simp;omega)];have e:=wF (i * k) (a.eval x).cells.toList 0 vs;simp only [ZR] at e;rw [<- aaK,Array.toList_zipIdx,e];exact g1
     ·simp at h
    ·simp at h
   ·simp at h
theorem Jo (r:Rel c w0 n gs st a) {k:Nat} {xs:List (List Dat)} {vs:Array Value} {e:TypeId} (h1:∀x∈xs,x.length=k) (h2:aQ c.w (Imm c) xs.flatten vs.toList) (h3:∀v∈vs.toList,one v=true) :
  Rel { c with w:=c.w.alloc (.cells vs e) } w0 n gs st a/\aD { c with w:=c.w.alloc (.cells vs e) } (.d (.slice k xs true)) (.slice (some ⟨c.w.heap.size,0,none⟩) xs.length xs.length):=by
 have hbel:Below c.w.heap.size c.w (c.w.alloc (.cells vs e)):=(Below.refl _ _).alloc (Ls _) _;have hev:=Evo.grow r.hrel hbel;refine ⟨r.grow hbel,.inr ⟨c.w.heap.size,0,xs.length,rfl,Ls _,fun _=>rfl,?_⟩⟩;refine bU.of_flat h1 (aQ.keep hev.keeps _ _ h2) ?_;intro j v hv;refine ⟨?_,?_,h3 v (Zf hv)⟩
 ·have hblk:(c.w.alloc (.cells vs e)).heap[c.w.heap.size]? = some (.cells vs e (0,0)):=by
   show (c.w.heap.push (.cells vs e))[c.w.heap.size]? = _;simp
  rw [bO hblk];simpa using hv
 ·refine .inr ⟨r.hrel.rN (Ls _),?_,?_⟩
  ·show c.w.heap.size<(c.w.heap.push (.cells vs e)).size
   simp
  ·intro id blk hl hph hg
   exfalso;have:=r.hrel.i6 hl hph;simp only at hg;omega
end
end Uw
namespace Uw
open Go Go.RowKit
variable [Glob]
theorem KF {v:Value} {d:Dat} (h:y6 v=some d):one v=true:=by
 cases v<;>first|rfl|(simp [y6] at h)
theorem qB:∀{vs:List Value} {ds:List Dat},jn vs=some ds->∀v∈vs,one v=true
 | [],ds,h,v,hv=>by simp at hv
 | u::vs,ds,h,v,hv=>by
  unfold jn at h
  split at h
  ·rename_i x l hx hl
   simp at hv
   rcases hv with rfl|hv
   ·exact KF hx
   ·exact qB hl v hv
  ·simp at h
theorem qC:∀{vs:List Value} {ds:List Dat},jn vs=some ds->ds.length=vs.length
 | [],ds,h=>by simp [jn] at h;subst h;rfl
 | u::vs,ds,h=>by
  unfold jn at h
  split at h
  ·rename_i x l hx hl
   simp at h;subst h;simp [qC hl]
  ·simp at h
theorem nI (z:Array Value) (hz:0<z.size):∀m,((Array.range (m * z.size)).map (fun i=>z[i % z.size]!)).toList=(List.replicate m z.toList).flatten:=by
 intro m;apply ZW;intro j;have hlen:((List.replicate m z.toList).flatten).length=m * z.size:=by simp
 by_cases hj:j<m * z.size
 ·have h1:((Array.range (m * z.size)).map (fun i=>z[i % z.size]!)).toList[j]? = some (z[j % z.size]!):=by
   rw [Zx,Array.getElem?_map];simp [hj]
  rw [h1];have hmod:=Nat.mod_lt j hz;have hdiv:j / z.size<m:=by rw [Nat.div_lt_iff_lt_mul hz];exact hj
  have h2:=ug (k:=z.size) (xs:=List.replicate m z.toList) (fun x hx=>by rw [Ze hx];simp) (i:=j / z.size) (cs:=z.toList) (by rw [abg,if_pos hdiv]);have h3:(List.replicate m z.toList).flatten[j]? = z.toList[j % z.size]?:=by
   have h4:(((List.replicate m z.toList).flatten.drop (j / z.size * z.size)).take z.size)[j % z.size]? = (List.replicate m z.toList).flatten[j]?:=by
    rw [ON,if_pos hmod,Y1,Nat.div_add_mod']
   rw [<- h4,h2]
  rw [h3];simp [hmod]
 ·rw [Y2 (by simp;omega),Y2 (by rw [hlen];omega)]
theorem aQ.replicate {w:World} {J:Nat->Nat->Prop} {zs:List Dat} {vs:List Value} (h:aQ w J zs vs):∀m,aQ w J (List.replicate m zs).flatten (List.replicate m vs).flatten
 | 0=>by simp [aQ]
 | m+1=>by
  rw [ZJ,ZJ,Zk,Zk];exact h.append (aQ.replicate h m)
section
variable {P : Program} {Q : az -> St -> Prop} {q : V -> St -> Tree} {c : Cx} {w0 : World} {n : Nat} {gs : Fr} {st : St} {a : Act} {K : Act -> World -> Prop} {Qx : Exit -> Act -> World -> Prop} {o : Oper} {xx : az -> St -> Tree}
theorem wL:∀{ps:List (Nat×Operand)} {qs:List (Nat×Opd)},nC ps=some qs->ps.length=qs.length/\∀p∈ps.zip qs,p.1.1=p.2.1/\ao p.1.2=some p.2.2
 | [],qs,h=>by simp [nC] at h;subst h;simp
 | (i,x)::ps,qs,h=>by
  unfold nC at h
  split at h
  ·rename_i y l hy hl
   simp at h;subst h;obtain ⟨h1,h2⟩:=wL hl;refine ⟨by simp [h1],?_⟩;intro p hp;simp at hp
   rcases hp with rfl|hp
   ·exact ⟨rfl,hy⟩
   ·exact h2 p (by simpa using hp)
  ·simp at h
theorem KG (r:Rel c w0 n gs st a) (hK:bf P Q q c w0 n gs st a o.dst K) {t e:TypeId} {k len:Nat} {zs:List Dat} {ps:Array (Nat×Operand)} {qs:List (Nat×Opd)} (ho:o.op = .buildSlice t len ps) (hu:P.underlying t=some (.slice e)) (hk:sizeT P e=some k) (hkp:0<k)
  (hz:lX P e=some zs) (hzl:zs.length=k) (hle:len * k<=16777216) (hq:nC ps.toList=some qs) (h:WT P Q (step (.rI k len zs qs) st q xx)):o.wp P a c.w K Qx:=by
 simp only [step] at h
 split at h
 ·rename_i xs hxs
  obtain ⟨z,hzv,hzd⟩:=uX (w:=c.w) hz;obtain ⟨hl,UC⟩:=wL hq;have hzk:z.cells.size=k:=by have:=qC hzd;simp at this;omega
  have hzr:=fh hzd c.w (Imm c);have lY:=nI z.cells (by omega) len;rw [hzk] at lY;obtain ⟨vs',g1,g2,g3,g4,g5⟩:=Jn r ps.toList qs (List.replicate len zs) xs ((Array.range (len * k)).map (fun i=>z.cells[i % k]!)) UC hl
   (fun x hx=>by rw [Ze hx];exact hzl) (by rw [lY];exact aQ.replicate hzr len)
   (fun v hv=>by
    rw [lY] at hv;obtain ⟨l,hl1,hl2⟩:=aaS.1 hv;rw [Ze hl1] at hl2;exact qB hzd v hl2) hxs
  obtain ⟨p1,p2⟩:=Jo r (e:=e) g2 g4 g5;have hlen:xs.length=len:=by rw [g3];simp
  rw [hlen] at p2;refine bP (w':=c.w.alloc (.cells vs' e)) ?_ (hK { c with w:=c.w.alloc (.cells vs' e) } st _ _ rfl rfl p1 rfl p2 h);simp only [execOp,ho];have:(Instr.buildSlice t len (ps.map fun (i,x)=>(i,a.eval x))).run P c.w = .ok (.slice (some ⟨c.w.heap.size,0,none⟩) len len) (c.w.alloc (.cells vs' e)):=by
   unfold Instr.buildSlice;rw [run_bind_ok (bq hu)];simp only [];rw [run_bind_ok (eu hk)];have hgt:¬len * k>2 ^ 24:=by omega
   simp only [hgt,if_false];have hps:(ps.map fun (i,x)=>(i,a.eval x)).toList=ps.toList.map fun (i,x)=>(i,a.eval x):=by simp
   by_cases h0:len * k=0
   ·rw [if_pos h0]
    rw [run_bind_ok (s:=pure _) (x:=(#[]:Array Value)) (w':=c.w) rfl];have harr:(Array.range (len * k)).map (fun i=>(#[]:Array Value)[i % (#[]:Array Value).size]!)=(Array.range (len * k)).map (fun i=>z.cells[i % k]!):=by
     apply Array.ext
     ·simp
     ·intro i h1 h2;simp [h0] at h1
    simp only [harr,hps,g1];rfl
   ·rw [if_neg h0]
    rw [run_bind_ok hzv];rw [run_bind_ok (s:=pure _) (x:=z.cells) (w':=c.w) rfl];simp only [hzk,hps,g1];rfl
  rw [run_bind_ok this];rfl
 ·exact h.elim
theorem MZ (r:Rel c w0 n gs st a) (hK:bf P Q q c w0 n gs st a o.dst K) {t e:TypeId} {k len:Nat} {zs:List Dat} {ps:Array (Nat×Operand)} {qs:List (Nat×Opd)} (ho:o.op = .buildSlice t len ps) (hu:P.underlying t=some (.slice e)) (hk:sizeT P e=some k) (hkp:0<k)
  (hz:lX P e=some zs) (hzl:zs.length=k) (hle:len * k<=16777216) (hq:nC ps.toList=some qs) (h:WT P Q (step (.Fg k len zs qs) st q xx)):o.wp P a c.w K Qx:=by
 simp only [step] at h
 split at h
 ·rename_i xs hxs
  obtain ⟨z,hzv,hzd⟩:=uX (w:=c.w) hz;obtain ⟨hl,UC⟩:=wL hq;have hzk:z.cells.size=k:=by have:=qC hzd;simp at this;omega
  have hzr:=fh hzd c.w (Imm c);have lY:=nI z.cells (by omega) len;rw [hzk] at lY;obtain ⟨vs',g1,g2,g3,g4,g5⟩:=Jn r ps.toList qs (List.replicate len zs) xs ((Array.range (len * k)).map (fun i=>z.cells[i % k]!)) UC hl
   (fun x hx=>by rw [Ze hx];exact hzl) (by rw [lY];exact aQ.replicate hzr len)
   (fun v hv=>by
    rw [lY] at hv;obtain ⟨l,hl1,hl2⟩:=aaS.1 hv;rw [Ze hl1] at hl2;exact qB hzd v hl2) hxs
  have hlen:xs.length=len:=by rw [g3];simp
  have hsz:vs'.size=len * k:=by
   have:=g4.length;rw [fe g2,hlen] at this;simpa using this
  obtain ⟨p1,p2⟩:=zg r true (e:=e) (cap:=len) (k:=k) (xs:=xs) (us:=vs'.toList) (vs:=vs') g2 g4 g5 hsz (by rw [hlen];exact Ls _) (by rw [hlen,<- hsz];exact i5 (by simp));rw [hlen] at p2;refine bP (w':=c.w.alloc (.cells vs' e)) ?_ (hK (c.push st.next len (cb true k xs) (.cells vs' e)) _ _ _ rfl rfl p1 rfl p2 h);simp only [execOp,ho];have:(Instr.buildSlice t len (ps.map fun (i,x)=>(i,a.eval x))).run P c.w = .ok (.slice (some ⟨c.w.heap.size,0,none⟩) len len) (c.w.alloc (.cells vs' e)):=by
   unfold Instr.buildSlice;rw [run_bind_ok (bq hu)];simp only [];rw [run_bind_ok (eu hk)];have hgt:¬len * k>2 ^ 24:=by omega
   simp only [hgt,if_false];have hps:(ps.map fun (i,x)=>(i,a.eval x)).toList=ps.toList.map fun (i,x)=>(i,a.eval x):=by simp
   by_cases h0:len * k=0
   ·rw [if_pos h0]
    rw [run_bind_ok (s:=pure _) (x:=(#[]:Array Value)) (w':=c.w) rfl];have harr:(Array.range (len * k)).map (fun i=>(#[]:Array Value)[i % (#[]:Array Value).size]!)=(Array.range (len * k)).map (fun i=>z.cells[i % k]!):=by
     apply Array.ext
     ·simp
     ·intro i h1 h2;simp [h0] at h1
    simp only [harr,hps,g1];rfl
   ·rw [if_neg h0]
    rw [run_bind_ok hzv];rw [run_bind_ok (s:=pure _) (x:=z.cells) (w':=c.w) rfl];simp only [hzk,hps,g1];rfl
  rw [run_bind_ok this];rfl
 ·exact h.elim
theorem Qv (r:Rel c w0 n gs st a) (hK:bf P Q q c w0 n gs st a o.dst K) {t e:TypeId} {k m:Nat} {x i:Operand} {y j:Opd} (ho:o.op = .indexAddr t x i) (hu:P.underlying t=some (.array m e)) (hk:sizeT P e=some k)
  (hc1:ao x=some y) (hc2:ao i=some j) (h:WT P Q (step (.DY m k y j) st q xx)):o.wp P a c.w K Qx:=by
 have run:∀{b o' : Nat} {ik:IntKind} {d:Int},a.eval x = .pointer (some ⟨b,o',none⟩)->a.eval i = .int ik d->0<=d->d<m->(execOp a.eval o).run P c.w = .ok (.value (.pointer (some ⟨b,o' + d.toNat * k,none⟩))) c.w:=by
  intro b o' ik d hx hi h1 h2;simp only [execOp,ho];have:(Instr.indexAt t (a.eval x) (a.eval i)).run P c.w = .ok (.pointer (some ⟨b,o' + d.toNat * k,none⟩)) c.w:=by
   rw [hx,hi];simp [Instr.indexAt,asIntOf,bq hu,eu hk,h1,h2,addr_add,Instr.sureAddr]
  rw [run_bind_ok this];rfl
 simp only [step] at h
 split at h
 ·rename_i id off ik d hv1 hv2
  obtain ⟨e1,e2⟩:=aF r hc1 hv1;have e5:=aF r hc2 hv2;simp only [aD,aG] at e5;simp only [WT] at h
  cases hb:(decide (0<=d)&&decide (d<(m:Int))) with
  | false=>exact (h.2 hb).elim
  | true=>
   have g:=h.1 hb;simp at hb;exact aP r hK (v:=.ptr id (off+d.toNat * k)) ⟨e1,rfl⟩ g (run e2 e5 hb.1 hb.2)
 ·rename_i cs off ik d hv1 hv2
  obtain ⟨b,o',e1,e2⟩:=aF r hc1 hv1;have e5:=aF r hc2 hv2;simp only [aD,aG] at e5;simp only [WT] at h
  cases hb:(decide (0<=d)&&decide (d<(m:Int))) with
  | false=>exact (h.2 hb).elim
  | true=>
   have g:=h.1 hb;simp at hb;refine aP r hK (v:=.ro cs (off+d.toNat * k)) ⟨b,o',?_,e2⟩ g (run e1 e5 hb.1 hb.2);rw [aas]
 ·exact h.elim
theorem Qw (r:Rel c w0 n gs st a) (hK:bf P Q q c w0 n gs st a o.dst K) {t e:TypeId} {k bytes:Nat} {zs:List Dat} {m:Bool} {x1 x2:Operand} {y1 y2:Opd} (ho:o.op = .makeSlice t x1 x2) (he:rn P t e k bytes) (hkp:0<k) (hz:lX P e=some zs) (hzl:zs.length=k)
  (hc1:ao x1=some y1) (hc2:ao x2=some y2) (h:WT P Q (step (.MA m k bytes zs y1 y2) st q xx)):o.wp P a c.w K Qx:=by
 simp only [step] at h
 split at h
 ·rename_i l cp hv1 hv2
  have e1:=aF r hc1 hv1;have e2:=aF r hc2 hv2;simp only [aD,aG] at e1 e2;simp only [WT] at h
  cases hd:(decide (0<=l)&&decide (l<=cp)&&decide (cp * (bytes:Int)<=70368744177664)) with
  | false=>exact (h.2 hd).elim
  | true=>
   have g:=h.1 hd;simp only [i9,decide_eq_true_eq] at hd;obtain ⟨⟨d1,d2⟩,d3⟩:=hd;obtain ⟨i,z,zs',hi,hsz,hby,hzero,hzs,hzk⟩:=he.info;have hzs' : zs' = zs:=by
    simp only [lX,hi,hzero] at hz;rw [hzs] at hz;injection hz
   subst hzs';have hpos:=he.pos;have hcb:cp<=70368744177664:=by
    have:cp * 1<=cp * (bytes:Int):=aaV (by omega) (by omega);omega
   have lY:=nI z.cells (by omega) cp.toNat;rw [hzk] at lY;have hzr:=fh hzs c.w (Imm c);have hmc:(madeCells z.cells (cp.toNat * k)).toList=(List.replicate cp.toNat z.cells.toList).flatten:=by
    rw [<- lY];simp [madeCells,hzk]
   have hll:∀x∈List.replicate cp.toNat z.cells.toList,x.length=k:=fun x hx=>by rw [Ze hx];simpa using hzk
   obtain ⟨p1,p2⟩:=zg r m (e:=e) (cap:=cp.toNat) (k:=k) (xs:=List.replicate l.toNat zs') (us:=(List.replicate l.toNat z.cells.toList).flatten) (vs:=madeCells z.cells (cp.toNat * k))
    (fun x hx=>by rw [Ze hx];exact hzl) (aQ.replicate hzr _)
    (fun v hv=>by
     obtain ⟨l',hl1,hl2⟩:=aaS.1 hv;rw [Ze hl1] at hl2;exact qB hzs v hl2)
    (by have:=congrArg List.length hmc;rw [fe hll] at this;simpa using this)
    (by simp;omega)
    (by
     rw [hmc,aaA,<- jx hll l.toNat (by simp;omega)]
     congr 1
     rw [List.take_replicate]
     congr 1;omega)
   rw [aaA] at p2;refine bP (w':=c.w.alloc (.cells (madeCells z.cells (cp.toNat * k)) e)) ?_ (hK (c.push st.next cp.toNat (cb m k (List.replicate l.toNat zs')) (.cells (madeCells z.cells (cp.toNat * k)) e)) _ _ _ rfl rfl p1 rfl p2 g);simp only [execOp,ho,e1,e2];have:=run_make c.w t e i z he.und hi hzero .i64 .i64 l cp d1 d2 (by rw [hby,Int.mul_comm];omega) (by omega);rw [hsz] at this;rw [run_bind_ok this];rfl
 ·exact h.elim
end
end Uw
namespace Uw
open Go Go.RowKit
variable [Glob]
def zj (P:Program) (Q:az->St->Prop) (xx:az->St->Tree) (c:Cx) (w0:World) (n:Nat) (gs:Fr) (st:St) (a:Act) (Qx:Exit->Act->World->Prop):Prop:=
 ∀c' st' d ch,c'.B=c.B->c'.J0=c.J0->Rel c' w0 n gs st' a->st'.regs=st.regs->bu c' (.panic ch) (.panic d)->WT P Q (xx (.panic d) st')->Qx (.panic ch) a c'.w
theorem qy.mono {K K' : Nat} {c c' : Cx} (h:qy K c c') (hk:K'<=K):qy K' c c':=⟨h.keeps,fun id b hid hb=>h.blks id b (by omega) hb⟩
theorem bZ.lt {c:Cx} {K:Nat} (h:∀id b,look c.heap id=some b->id<K):∀{vs:List V} {ds:List Deferred},bZ c vs ds->ltL K vs
 | [],_,_=>trivial
 | v::vs,ds,⟨d,ds',f,first,cap,fs,cs,h1,h2,h3,h4,h6,h5⟩=>⟨by subst h2;exact ⟨aC.lt h _ _ h4,aC.lt h _ _ h6⟩,bZ.lt h h5⟩
theorem bZ.ue {K:Nat} {c c' : Cx} (h:qy K c c'):∀{vs:List V} {ds:List Deferred},ltL K vs->bZ c vs ds->bZ c' vs ds
 | [],_,_,r=>r
 | v::vs,ds,hl,⟨d,ds',f,first,cap,fs,cs,h1,h2,h3,h4,h6,h5⟩=>by
  subst h2;exact ⟨d,ds',f,first,cap,fs,cs,h1,rfl,h3,aC.ue h _ _ hl.1.1 h4,aC.ue h _ _ hl.1.2 h6,bZ.ue h hl.2 h5⟩
def zk (gs:Fr) (st:St) (a:Act) (hK:gs.K<=st.next):Fr where
 K:=st.next
 p:=fun c=>(∀i v,look st.regs i=some v->v.lt st.next/\aD c v (a.tmps.getD i undef))/\(ltL st.next st.defers/\bZ c st.defers a.defers)/\gs.p c
 ok:=by
  rintro c c' he ⟨h1,⟨h2,h3⟩,h4⟩;exact ⟨fun i v hv=>⟨(h1 i v hv).1,aD.ue he v _ (h1 i v hv).1 (h1 i v hv).2⟩,⟨h2,h3.ue he h2⟩,gs.ok c c' (he.mono hK) h4⟩
theorem Rel.frK {c:Cx} {w0:World} {n:Nat} {gs:Fr} {st:St} {a:Act} (r:Rel c w0 n gs st a):gs.K<=st.next:=Zn r.nD r.base
theorem Rel.UD {c:Cx} {w0:World} {n:Nat} {gs:Fr} {st:St} {a:Act} (r:Rel c w0 n gs st a):(zk gs st a r.frK).p c:=
 ⟨fun i v hv=>⟨aD.lt r.hrel.lt v _ (r.regs i v hv),r.regs i v hv⟩,⟨bZ.lt r.hrel.lt r.defers,r.defers⟩,r.frames⟩
theorem Rel.V2 {c c' : Cx} {w0:World} {n:Nat} {gs:Fr} {st:St} {a:Act} (r:Rel c w0 n gs st a) {nx:Nat} (hp:(zk gs st a r.frK).p c') (hh:cz c' w0 nx) (hn:st.next<=nx):Rel c' w0 n gs { st with heap:=c'.heap,next:=nx } a:=
 ⟨rfl,hh,r.size,fun i v hv=>(hp.1 i v hv).2,hp.2.2,r.nD,Zn r.base hn,hp.2.1.2⟩
theorem mapA (f:Operand->Value) (xs:Array Operand):(xs.toList.map f).toArray=xs.map f:=by rw [<- Z5]
section
variable {P : Program} {Q : az -> St -> Prop} {q : V -> St -> Tree} {c : Cx} {w0 : World} {n : Nat} {gs : Fr} {st : St} {a : Act} {K : Act -> World -> Prop} {Qx : Exit -> Act -> World -> Prop} {o : Oper} {xx : az -> St -> Tree}
theorem jy (r:Rel c w0 n gs st a):∀{xs:List Operand} {ys:List Opd} {vs:List V},dF xs=some ys->dT st ys=some vs->aC c vs (xs.map a.eval):=by
 intro xs
 induction xs with
 | nil=>intro ys vs h1 h2;simp [dF] at h1;subst h1;simp [dT] at h2;subst h2;simp [aC]
 | cons x xs ih=>
  intro ys vs h1 h2;unfold dF at h1
  split at h1
  ·rename_i y l g1 g2
   simp at h1;subst h1;unfold dT at h2
   split at h2
   ·rename_i v l' f1 f2
    simp at h2;subst h2;exact ⟨_,_,rfl,aF r g1 f1,ih g2 f2⟩
   ·simp at h2
  ·simp at h1
theorem aC.append {c:Cx}:∀{xs ys:List V} {vs us:List Value},aC c xs vs->aC c ys us->aC c (xs++ys) (vs++us)
 | [],ys,vs,us,h1,h2=>by simp [aC] at h1;subst h1;simpa using h2
 | x::xs,ys,vs,us,h1,h2=>by
  obtain ⟨v,vs',rfl,g1,g2⟩:=h1;exact ⟨v,vs'++us,rfl,g1,aC.append g2 h2⟩
theorem zl (r:Rel c w0 n gs st a) (hK:bf P Q q c w0 n gs st a o.dst K) (hX:zj P Q xx c w0 n gs st a Qx) {f:FuncId} {vs:List V} {gvs:List Value} (hrun:(execOp a.eval o).run P c.w = .ok (.enter f gvs.toArray) c.w) (hvs:aC c vs gvs)
  (h:bN P f vs st.heap st.next fun rr h' nx'=>WT P Q (match rr with | .val v=>q v { st with heap:=h',next:=nx' } | .pan d=>xx (.panic d) { st with heap:=h',next:=nx' })):o.wp P a c.w K Qx:=by
 unfold Oper.wp;rw [hrun];have h2:=h.2 c w0 (zk gs st a r.frK) gvs r.heap r.hrel (Ls _) r.UD hvs;refine h2.mono ?_;rintro e w' ⟨c',rr,nx',pB,pJ,rfl,pH,pn,pF,pE,pQ⟩;have r':=r.V2 pF pH pn
 cases e with
 | returned gv=>
  cases rr with
  | val v=>exact hK c' _ v gv pB pJ r' rfl pE pQ
  | pan d=>exact pE.elim
 | panicked ch=>
  cases rr with
  | val v=>exact pE.elim
  | pan d=>exact hX c' _ d ch pB pJ r' rfl pE pQ
 | outgrown=>cases rr<;>exact pE.elim
theorem wN {cl:Call} {f:FuncId} {fn:Func} {w:World} (ho:o.op = .call cl) (eQ:cl.callee = .value (.func f)) (hf:P.funcs[f]? = some fn) (hb:fn.body.isSome=true) (hn:(fn.name == "runtime.NumGoroutine")=false) :
  (execOp a.eval o).run P w = .ok (.enter f (cl.args.map a.eval)) w:=by
 obtain ⟨cal,args,ats⟩:=cl;simp only at eQ;subst eQ;have hb' : fn.body.isNone=false:=by cases h:fn.body<;>simp [h] at hb ⊢
 have:(callFunc f (args.map a.eval)).run P w = .ok (.enter f (args.map a.eval)) w:=by
  unfold callFunc;rw [run_bind_ok (s:=program) (x:=P) (w':=w) rfl];simp only [hf,hn,hb',Y4,if_false];rfl
 simp [execOp,ho,resolve,Act.eval,Deferred.ofValue,invoke];exact this
theorem zm {cl:Call} {f:FuncId} {t:Nat} {fs cs:Array Value} {w:World} (ho:o.op = .call cl) (eQ:cl.callee = .value (.tmp t)) (hv:a.eval (.tmp t) = .func (.func f) fs cs) (hb:mV P f) :
  (execOp a.eval o).run P w = .ok (.enter f (fs++cl.args.map a.eval++cs)) w:=by
 obtain ⟨cal,args,ats⟩:=cl;obtain ⟨fn,hf,hb,hn⟩:=hb;simp only at eQ;subst eQ;have hb' : fn.body.isNone=false:=by cases h:fn.body<;>simp [h] at hb ⊢
 have:(callFunc f (fs++args.map a.eval++cs)).run P w = .ok (.enter f (fs++args.map a.eval++cs)) w:=by
  unfold callFunc;rw [run_bind_ok (s:=program) (x:=P) (w':=w) rfl];simp only [hf,hn,hb',Y4,if_false];rfl
 simp only [execOp,ho,resolve,hv,Deferred.ofValue,invoke];exact this
theorem UE (r:Rel c w0 n gs st a) (hK:bf P Q q c w0 n gs st a o.dst K) (hX:zj P Q xx c w0 n gs st a Qx) {cl:Call} {f:FuncId} {fn:Func} {ys:List Opd} (ho:o.op = .call cl) (eQ:cl.callee = .value (.func f)) (hf:P.funcs[f]? = some fn)
  (hb:fn.body.isSome=true) (hn:(fn.name == "runtime.NumGoroutine")=false) (hc:dF cl.args.toList=some ys) (h:WT P Q (step (.sub f ys) st q xx)):o.wp P a c.w K Qx:=by
 simp only [step] at h
 split at h
 ·rename_i vs hvs
  simp only [WT] at h;have e:(cl.args.toList.map a.eval).toArray=cl.args.map a.eval:=by rw [<- Z5]
  exact zl r hK hX (gvs:=cl.args.toList.map a.eval) (by rw [e];exact wN ho eQ hf hb hn) (jy r hc hvs) h
 ·exact h.elim
theorem Qy (r:Rel c w0 n gs st a) (hK:bf P Q q c w0 n gs st a o.dst K) (hX:zj P Q xx c w0 n gs st a Qx) {cl:Call} {t:Nat} {ys:List Opd} (ho:o.op = .call cl) (eQ:cl.callee = .value (.tmp t)) (hc:dF cl.args.toList=some ys)
  (h:WT P Q (step (.Kx (.t t) ys) st q xx)):o.wp P a c.w K Qx:=by
 simp only [step] at h
 split at h
 ·rename_i f vs hg hvs
  simp only [WT] at h;have e1:=aF r (x:=.tmp t) rfl hg;simp only [aD,aG] at e1;have hrun:=zm (w:=c.w) ho eQ e1 h.1;have e:(cl.args.toList.map a.eval).toArray = #[]++cl.args.map a.eval++#[]:=by rw [mapA];simp
  exact zl r hK hX (gvs:=cl.args.toList.map a.eval) (by rw [e];exact hrun) (jy r hc hvs) h
 ·rename_i f fs cs vs hg hvs
  simp only [WT] at h;obtain ⟨us,ws,e1,e2,e3⟩:=aF r (x:=.tmp t) rfl hg;have hrun:=zm (w:=c.w) ho eQ e1 h.1;have e:(us++(cl.args.toList.map a.eval++ws)).toArray=us.toArray++cl.args.map a.eval++ws.toArray:=by
   rw [<- ZP,<- aak,<- aak,<- Z5]
  exact zl r hK hX (gvs:=us++(cl.args.toList.map a.eval++ws)) (by rw [e];exact hrun) (e2.append ((jy r hc hvs).append e3)) h
 ·exact h.elim
theorem Qz (r:Rel c w0 n gs st a) (hK:bf P Q q c w0 n gs st a o.dst K) {f:FuncId} {fs cs:Array Operand} {ys zs:List Opd} (ho:o.op = .makeFunc (.func f) fs cs) (hc1:dF fs.toList=some ys) (hc2:dF cs.toList=some zs)
  (h:WT P Q (step (.MB f ys zs) st q xx)):o.wp P a c.w K Qx:=by
 simp only [step] at h
 split at h
 ·rename_i us vs hu hv
  refine aP r hK (v:=.func f us vs) (gv:=.func (.func f) (fs.map a.eval) (cs.map a.eval)) ⟨fs.toList.map a.eval,cs.toList.map a.eval,?_,jy r hc1 hu,jy r hc2 hv⟩ h ?_
  ·rw [mapA,mapA]
  ·simp [execOp,ho,Instr.makeFunc,pure,Bind.bind,Sem.bind,Sem.run]
 ·exact h.elim
theorem BV {cl:Call} {f:FuncId} {t:Operand} {fs cs:Array Value} {w:World} (ho:o.op = .defer cl) (eQ:cl.callee = .value t) (hv:a.eval t = .func (.func f) fs cs) :
  (execOp a.eval o).run P w = .ok (.defer { target:=.fn (.func f) cs,args:=fs++cl.args.map a.eval }) w:=by
 obtain ⟨cal,args,ats⟩:=cl;simp only at eQ;subst eQ;simp only [execOp,ho,resolve,hv,Deferred.ofValue];rfl
theorem Rel.defer {c:Cx} {w0:World} {n:Nat} {gs:Fr} {st:St} {a:Act} (r:Rel c w0 n gs st a) {f:FuncId} {fs cs:List V} {us ws:List Value} (h1:aC c fs us) (h2:aC c cs ws) :
  Rel c w0 n gs { st with defers:=.func f fs cs::st.defers } { a with defers:={ target:=.fn (.func f) ws.toArray,args:=us.toArray }::a.defers }:=
 ⟨r.heap,r.hrel,r.size,r.regs,r.frames,r.nD,r.base,⟨_,_,f,fs,cs,us,ws,rfl,rfl,rfl,h1,h2,r.defers⟩⟩
def Jp (P:Program) (Q:az->St->Prop) (q:V->St->Tree) (c:Cx) (w0:World) (n:Nat) (gs:Fr) (st:St) (a:Act) (dst:Option Tmp) (K:Act->World->Prop):Prop:=
 ∀c' st' a' v gv,c'.B=c.B->c'.J0=c.J0->a'.tmps=a.tmps->Rel c' w0 n gs st' a'->st'.regs=st.regs->aD c' v gv->WT P Q (q v st')->K (a'.put dst gv) c'.w
theorem Jp.ok (h:Jp P Q q c w0 n gs st a o.dst K):bf P Q q c w0 n gs st a o.dst K:=fun c' st' v gv h1 h2 h3 h4 h5 h6=>h c' st' a v gv h1 h2 rfl h3 h4 h5 h6
theorem FH (r:Rel c w0 n gs st a) (hK:Jp P Q q c w0 n gs st a o.dst K) {cl:Call} {t:Operand} {t' : Opd} {ys:List Opd} (ho:o.op = .defer cl) (eQ:cl.callee = .value t) (ht:ao t=some t') (hc:dF cl.args.toList=some ys)
  (h:WT P Q (step (.defer t' ys) st q xx)):o.wp P a c.w K Qx:=by
 simp only [step] at h
 split at h
 ·rename_i f vs hg hvs
  have e1:=aF r ht hg;simp only [aD,aG] at e1;have hrun:=BV (P:=P) (w:=c.w) ho eQ e1;unfold Oper.wp;rw [hrun];have e : #[]++cl.args.map a.eval=(cl.args.toList.map a.eval).toArray:=by rw [mapA];simp
  rw [e];exact hK c _ _ .undef undef rfl rfl rfl (r.defer (jy r hc hvs) (cs:=[]) (ws:=[]) rfl) rfl trivial h
 ·rename_i f fs cs vs hg hvs
  obtain ⟨us,ws,e1,e2,e3⟩:=aF r ht hg;have hrun:=BV (P:=P) (w:=c.w) ho eQ e1;unfold Oper.wp;rw [hrun];have e:us.toArray++cl.args.map a.eval=(us++cl.args.toList.map a.eval).toArray:=by rw [<- aak,<- Z5]
  rw [e];exact hK c _ _ .undef undef rfl rfl rfl (r.defer (e2.append (jy r hc hvs)) e3) rfl trivial h
 ·exact h.elim
theorem M1 (r:Rel c w0 n gs st a) (hX:zj P Q xx c w0 n gs st a Qx) {x:Operand} {y:Opd} (ho:o.op = .panic x) (hc:ao x=some y) (h:WT P Q (step (.panic y) st q xx)):o.wp P a c.w K Qx:=by
 simp only [step] at h
 split at h
 ·rename_i t d hv
  obtain ⟨u,e1,e2⟩:=aF r hc hv;have hrun:(execOp a.eval o).run P c.w = .halt (.panic (.iface t u)) c.w:=by
   simp [execOp,ho,e1,Instr.panic,goPanic,pure,Bind.bind,Sem.bind,Sem.run]
  unfold Oper.wp;rw [hrun];exact hX c st (.iface t d) _ rfl rfl r rfl ⟨.iface t u,rfl,u,rfl,e2⟩ h
 ·exact h.elim
theorem BW {P:Program} {t:TypeId} (h:BQ P t=true):∃d,P.underlying t=some d/\∀m,d≠.interface m:=by
 unfold BQ at h
 split at h
 ·simp at h
 ·rename_i d hd hne
  exact ⟨d,hne,fun m hm=>hd m hm⟩
 ·simp at h
theorem QA (r:Rel c w0 n gs st a) (hK:bf P Q q c w0 n gs st a o.dst K) {t:TypeId} {x:Operand} {y:Opd} (ho:o.op = .makeInterface t x) (ht:BQ P t=true) (hc:ao x=some y) (h:WT P Q (step (.Ky t y) st q xx)):o.wp P a c.w K Qx:=by
 simp only [step] at h
 split at h
 ·rename_i v hv
  split at h
  ·rename_i d hd
   have e1:=aF r hc hv;rw [<- r.heap] at hd;have e2:=yI hd e1;refine aP r hK (v:=.d (.iface t d)) (gv:=.iface t (a.eval x)) ⟨_,rfl,e2⟩ h ?_;obtain ⟨dd,h1,h2⟩:=BW ht;simp only [execOp,ho];have:(Instr.makeInterface t (a.eval x)).run P c.w = .ok (.iface t (a.eval x)) c.w:=by
    unfold Instr.makeInterface;rw [run_bind_ok (bq h1)]
    cases dd<;>first|rfl|exact (h2 _ rfl).elim
   rw [run_bind_ok this];rfl
  ·exact h.elim
 ·exact h.elim
theorem FI {P:Program} {t:TypeId} {z:Dat} (h:zeroV P t=some z) (w:World):∃v,(zeroValue t).run P w = .ok v w/\∀J,aG w J z v:=by
 unfold zeroV at h
 split at h
 ·rename_i i hi
  split at h
  ·rename_i vs hz
   simp only [Pe] at h;obtain ⟨ds,h1,rfl⟩:=h;refine ⟨.agg vs,?_,fun J=>⟨vs.toList,by simp,fh h1 w J⟩⟩;unfold zeroValue;rw [run_bind_ok (uW hi),hz];rfl
  ·rename_i v hne hz
   refine ⟨v,?_,fun J=>wE h w J⟩;unfold zeroValue;rw [run_bind_ok (uW hi),hz];rfl
  ·simp at h
 ·simp at h
theorem UF (r:Rel c w0 n gs st a) (hK:bf P Q q c w0 n gs st a o.dst K) {t xt:TypeId} {z:Dat} {x:Operand} {y:Opd} (ho:o.op = .typeAssert x xt t true) (ht:BQ P t=true) (hz:zeroV P t=some z) (hc:ao x=some y)
  (h:WT P Q (step (.tas t z y) st q xx)):o.wp P a c.w K Qx:=by
 obtain ⟨dd,h1,h2⟩:=BW ht;obtain ⟨zv,z1,z2⟩:=FI hz c.w;have fails:aD c (.tuple [V.bX z,.d (.bool false)]) (.tuple #[zv,.bool false]):=
  ⟨[zv,.bool false],rfl,zv,[.bool false],rfl,aD.bX (z2 _),.bool false,[],rfl,by simp [aD,aG],rfl⟩
 simp only [step] at h
 split at h
 ·rename_i t' d hv
  obtain ⟨u,e1,e2⟩:=aF r hc hv
  split at h
  ·rename_i hb
   have hb:=wt hb;subst hb;refine aP r hK (v:=.tuple [V.bX d,.d (.bool true)]) (gv:=.tuple #[u,.bool true]) ⟨[u,.bool true],rfl,u,[.bool true],rfl,aD.bX e2,.bool true,[],rfl,by simp [aD,aG],rfl⟩ h ?_;simp only [execOp,ho];have:(Instr.typeAssert (a.eval x) xt t true).run P c.w = .ok (.tuple #[u,.bool true]) c.w:=by
    unfold Instr.typeAssert;rw [run_bind_ok (bq h1),e1]
    cases dd<;>first|(exact (h2 _ rfl).elim)|simp
   rw [run_bind_ok this];rfl
  ·rename_i hb
   have hne:t'≠t:=by rintro rfl;simp at hb
   refine aP r hK fails h ?_;simp only [execOp,ho];have:(Instr.typeAssert (a.eval x) xt t true).run P c.w = .ok (.tuple #[zv,.bool false]) c.w:=by
    unfold Instr.typeAssert;rw [run_bind_ok (bq h1),e1]
    cases dd<;>first|(exact (h2 _ rfl).elim)|simp [hne,z1]
   rw [run_bind_ok this];rfl
 ·rename_i hv
  have e1:=aF r hc hv;simp only [aD,aG] at e1;refine aP r hK fails h ?_;simp only [execOp,ho];have:(Instr.typeAssert (a.eval x) xt t true).run P c.w = .ok (.tuple #[zv,.bool false]) c.w:=by
   unfold Instr.typeAssert;rw [run_bind_ok (bq h1),e1]
   cases dd<;>first|(exact (h2 _ rfl).elim)|simp [z1]
  rw [run_bind_ok this];rfl
 ·exact h.elim
end
end Uw
namespace Uw
open Go Go.RowKit
variable [Glob]
theorem va {α:Type}:∀(ys zs xs:List α) (i:Nat),setAt xs i (ys++zs)=setAt (setAt xs i ys) (i+ys.length) zs
 | [],zs,xs,i=>by simp [setAt]
 | y::ys,zs,xs,i=>by
  rw [ZY,setAt,va ys zs,setAt,Y7]
  congr 1;omega
theorem tJ {α:Type} {k:Nat}:∀(ys xs:List (List α)) (i:Nat),(∀x∈xs,x.length=k)->(∀y∈ys,y.length=k)->i+ys.length<=xs.length->(setAt xs i ys).flatten=setAt xs.flatten (i * k) ys.flatten
 | [],xs,i,_,_,_=>by simp [setAt]
 | y::ys,xs,i,h1,h2,h3=>by
  rw [Y7] at h3;have hy:=h2 y (by simp);have hi:xs[i]? = some xs[i]:=AN (by omega);have hl:=h1 xs[i] (YX _);have hs:=rO h1 (cc:=0) (ds:=y) hi (by omega);rw [zi _ _ (by omega),ZR] at hs;rw [setAt,tJ ys (xs.set i y) (i+1) (fun x hx=>by rcases Zh hx with hx|hx;exact h1 x hx;rw [hx];exact hy) (fun z hz=>h2 z (by simp [hz])) (by simp;omega),hs,Zk,va]
  congr 1
  rw [Y6,hy];omega
section
variable {P : Program} {Q : az -> St -> Prop} {q : V -> St -> Tree} {c : Cx} {w0 : World} {n : Nat} {gs : Fr} {st : St} {a : Act} {K : Act -> World -> Prop} {Qx : Exit -> Act -> World -> Prop} {o : Oper} {xx : az -> St -> Tree}
theorem tK {cl:Call} {x y:Operand} {t t' : TypeId} {w w' : World} {v:Value} (ho:o.op = .call cl) (hb:cl.callee = .builtin .copy) (hx:cl.args.toList=[x,y]) (ht:cl.argTypes.toList=[t,t'])
  (h:(Builtin.copy_ #[t,t'] o.type #[a.eval x,a.eval y]).run P w = .ok v w'):(execOp a.eval o).run P w = .ok (.value v) w':=by
 obtain ⟨cal,args,ats⟩:=cl;simp only at hb hx ht;subst hb;have hx' : args = #[x,y]:=by rw [<- hx]
 have ht' : ats = #[t,t']:=by rw [<- ht]
 subst hx' ht';simp only [execOp,ho,resolve,invoke,builtin];simp [h]
theorem QB (r:Rel c w0 n gs st a) (hK:bf P Q q c w0 n gs st a o.dst K) {cl:Call} {x1 x2:Operand} {y1 y2:Opd} {t t' e:TypeId} {k bytes:Nat} (ho:o.op = .call cl) (hb:cl.callee = .builtin .copy) (hx:cl.args.toList=[x1,x2]) (ht:cl.argTypes.toList=[t,t'])
  (he:rn P t e k bytes) (hc1:ao x1=some y1) (hc2:ao x2=some y2) (h:WT P Q (step (.copy k y1 y2) st q xx)):o.wp P a c.w K Qx:=by
 obtain ⟨i,z,zs,hi,hsz,hby,hzero,hzs,hzk⟩:=he.info;have nG:=he.und;simp only [step] at h
 split at h
 ·rename_i id ver off len yv hv1 hv2
  split at h
  ·rename_i k' c8 xs vb ys hl hys
   split at h
   ·rename_i hkk
    have hkk:=wt hkk;subst hkk
    replace h:=FG h
    obtain ⟨hvb,h⟩:=h
    replace h:=fC h
    obtain ⟨hv,h⟩:=h;have hv:=wt hv;subst hv;have e2:=src_ok r (aF r hc2 hv2) hys hvb;have e1:=aF r hc1 hv1;have hl' : look c.heap id=some (.mt k ver xs):=by rw [r.heap];exact hl
    simp only [aD,hl'] at e1;obtain ⟨_,_,e1⟩:=e1;obtain ⟨f1,f2⟩:=e1 rfl;obtain ⟨b3,b4,bb⟩:=r.hrel.blk id _ hl'
    -- nothing is copied
    have none0:min len ys.length=0->(∃x cp,a.eval x1 = .slice x len cp/\(x=none\/∃b o,x=some ⟨b,o,none⟩))->(∃x cp,a.eval x2 = .slice x ys.length cp/\(x=none->ys.length=0))->o.wp P a c.w K Qx:=by
     rintro h0 ⟨xa,cp,hxa,Bm⟩ ⟨xb,cp',hxb,YJ⟩;rw [h0] at h;simp only [List.take_zero,setAt] at h;have hev:Evo c (c.aH id (.mt k ver xs) (c.pl id) c.w):=by
      refine Evo.aH r.hrel hl' (fun _ _ _=>rfl) (Ls _) (.inl ⟨rfl,fun hp=>hp⟩) ?_ ⟨rfl,Ls _,fun _=>⟨rfl,rfl⟩⟩;intro hp o' hi;exfalso
      rcases hi with hi|⟨_,_,g3⟩
      ·exact r.hrel.ge id _ hl' hp hi.1
      ·obtain ⟨_,_,hh,_⟩:=g3 id _ hl' hp rfl;cases hh
     have hH:cz (c.aH id (.mt k ver xs) (c.pl id) c.w) w0 st.next:=by
      refine r.hrel.aH hl' hev (fun _ _ _=>rfl) (Below.refl _ _) (.inl ⟨rfl,fun hp=>hp⟩) ?_;refine ⟨by rw [af.2];exact b3,b4,fun hcap=>?_⟩;rw [af.2] at hcap ⊢;obtain ⟨vs,e',g1,g2,g3,g4⟩:=bb hcap;exact ⟨vs,e',g1,g2,aQ.keep hev.keeps _ _ g3,g4⟩
     have hst:(c.aH id (.mt k ver xs) (c.pl id) c.w).heap=(id,.mt k ver xs)::st.heap:=by simp [Cx.aH,r.heap]
     refine bP (w':=c.w) (tK (v:=.int .i64 0) ho hb hx ht ?_) (hK (c.aH id (.mt k ver xs) (c.pl id) c.w) { st with heap:=(id,.mt k ver xs)::st.heap } (.d (.int .i64 ((0:Nat):Int))) _ rfl rfl (r.evo hev hst hH rfl rfl rfl (Ls _)) rfl (by simp [aD,aG]) h);have hm:ys.length.min len=0:=by rw [Nat.min_comm] at h0;exact h0
     rw [hxa,hxb]
     rcases Bm with rfl|⟨b,o',rfl⟩
     ·simp [Builtin.copy_,bq nG,Go.sizeOf,typeInfo,hi,Builtin.lenOf,hm,goInt]
      cases xb<;>simp [Builtin.firstCells,loadCells,loadCellsFrom]
     ·simp [Builtin.copy_,bq nG,Go.sizeOf,typeInfo,hi,Builtin.lenOf,hm,goInt]
      cases xb<;>simp [Builtin.firstCells,loadCells,loadCellsFrom,storeCells]
    have hdst:∃x cp,a.eval x1 = .slice x len cp/\(x=none\/∃b o,x=some ⟨b,o,none⟩):=by
     rcases f2 with ⟨f2,f3,_⟩|⟨b,o',f2,f3⟩
     ·exact ⟨none,0,by rw [f2,f3],.inl rfl⟩
     ·exact ⟨_,_,f2,.inr ⟨b,o',rfl⟩⟩
    rcases e2 with ⟨⟨x9,e2⟩,rfl⟩|⟨bb2,o2,cp,us,e2,e3,e4,e5,e6,e7,e8⟩
    ·exact none0 (by simp) hdst ⟨x9,0,e2,fun _=>rfl⟩
    ·by_cases h0:min len ys.length=0
     ·exact none0 h0 hdst ⟨_,cp,e2,fun hh=>by cases hh⟩
     ·have hlen:0<len:=by omega
      have hcap:0<(c.pl id).cap:=by omega
      rcases f2 with ⟨_,f3,_⟩|⟨b,o',f2,f3⟩
      ·omega
      obtain ⟨rfl,rfl⟩:=f3 (by omega);obtain ⟨vs,e',g1,g2,g3,g4⟩:=bb hcap;have hge:=r.hrel.ge id _ hl' hcap;have hgb:=r.hrel.geB hl' hcap;have hmk:min len ys.length * k<=ys.length * k:=Y5 _ (by omega);have hul:(us.take (min len ys.length * k)).length=min len ys.length * k:=by simp;omega
      have hxk:(off+len) * k<=xs.length * k:=Y5 _ f1;have hvk:xs.length * k<=vs.size:=by rw [g2];exact Y5 _ b3
      have hml:min len ys.length * k<=len * k:=Y5 _ (by omega);rw [Y6] at hxk;have hone:∀u∈us.take (min len ys.length * k),one u=true:=fun u hu=>e8 u (Zi hu);obtain ⟨w',hw',L⟩:=ju (P:=P) (c.pl id).gb (off * k) (us.take (min len ys.length * k)) 0 vs c.w g1 (by omega) hone;have htk:aQ c.w (Imm c) (ys.take (min len ys.length)).flatten (us.take (min len ys.length * k)):=by
       rw [jx e4 _ (by omega)];exact e5.take _
      have hk2:∀x∈setAt xs off (ys.take (min len ys.length)),x.length=k:=fun x hx=>by
       rcases pV hx with hx|hx
       ·exact b4 x hx
       ·exact e4 x (Zi hx)
      have hev:Evo c (c.aH id (.mt k ver (setAt xs off (ys.take (min len ys.length)))) (c.pl id) w'):=by
       refine Evo.aH r.hrel hl' (fun k' _ hk'=>L.other k' (hk' hcap)) (by rw [L.size];exact Ls _) (.inl ⟨rfl,fun _=>hcap⟩) ?_ ⟨rfl,Ls _,fun _=>⟨rfl,fj _ _ _⟩⟩;intro _ o' hi;exfalso
       rcases hi with hi|⟨_,_,g3⟩
       ·exact hge hi.1
       ·obtain ⟨_,_,hh,_⟩:=g3 id _ hl' hcap rfl;cases hh
      have hH:cz (c.aH id (.mt k ver (setAt xs off (ys.take (min len ys.length)))) (c.pl id) w') w0 st.next:=by
       refine r.hrel.aH hl' hev (fun k' _ hk'=>L.other k' (hk' hcap)) (L.below hgb) (.inl ⟨rfl,fun _=>hcap⟩) ?_;refine ⟨by rw [af.2,fj];exact b3,hk2,fun _=>⟨fS vs (off * k+0) (us.take (min len ys.length * k)),e',?_,?_,?_,?_⟩⟩
       ·rw [af.2];exact L.here
       ·rw [af.2,nE];exact g2
       ·refine aQ.keep hev.keeps _ _ ?_
        rw [fj,fk,ZR,qz _ _ _ _ (by rw [hul];omega),tJ _ _ _ b4 (fun y hy=>e4 y (Zi hy)) (by simp;omega)];exact aQ.setAt g3 htk _
       ·intro u hu
        rw [fj,fk,ZR,qz _ _ _ _ (by rw [hul];omega)] at hu
        rcases pV hu with hu|hu
        ·exact g4 u hu
        ·exact hone u hu
      have hst:(c.aH id (.mt k ver (setAt xs off (ys.take (min len ys.length)))) (c.pl id) w').heap=(id,.mt k ver (setAt xs off (ys.take (min len ys.length))))::st.heap:=by simp [Cx.aH,r.heap]
      refine bP (w':=w') (tK (v:=.int .i64 ((min len ys.length:Nat):Int)) ho hb hx ht ?_) (hK (c.aH id (.mt k ver (setAt xs off (ys.take (min len ys.length)))) (c.pl id) w') { st with heap:=(id,.mt k ver (setAt xs off (ys.take (min len ys.length))))::st.heap } (.d (.int .i64 ((min len ys.length:Nat):Int))) _ rfl rfl (r.evo hev hst hH rfl rfl rfl (Ls _)) rfl (by simp [aD,aG]) ?_)
      ·have hm:ys.length.min len=min len ys.length:=Nat.min_comm _ _
       rw [f2,e2];have hf:(Builtin.firstCells k (min len ys.length) (.slice (some ⟨bb2,o2,none⟩) ys.length cp)).run P c.w = .ok (us.take (min len ys.length * k)).toArray c.w:=by
        simp only [Builtin.firstCells];refine run_loadCells hul ?_;intro j v hv;rw [ON] at hv
        split at hv
        ·exact e7 j v hv
        ·simp at hv
       simp only [Builtin.copy_];simp [bq nG,Go.sizeOf,typeInfo,hi,Builtin.lenOf,hm,hsz,hf,hw',goInt]
      ·exact h
   ·exact h.elim
  ·exact h.elim
 ·exact h.elim
theorem FK {op:BinOp} {t:TypeId} {x y:Operand} {p p' : Option Addr} {l c' l' c'' : Nat} {w:World}:(eqGuard op t x y (.slice p l c') (.slice p' l' c'')).run P w = .ok () w:=by
 unfold eqGuard
 cases op<;>simp
theorem rq {t e:TypeId} {p:Option Addr} {l c' l' c'' : Nat} {w:World} (hu:P.underlying t=some (.slice e)):(Op.equal t (.slice p l c') (.slice none l' c'')).run P w = .ok p.isNone w:=by
 have key:∀d,(Op.equalIn (d+1) t (.slice p l c') (.slice none l' c'')).run P w = .ok p.isNone w:=by
  intro d
  cases p<;>simp [Op.equalIn,bq hu]
 exact key 9999
theorem M3 (r:Rel c w0 n gs st a) (hK:bf P Q q c w0 n gs st a o.dst K) {op:BinOp} {t t' e:TypeId} {x y0:Operand} {y:Opd} {neg:Bool} (ho:o.op = .binOp op t x y0 t') (hop:op=if neg then .neq else .eql) (hu:P.underlying t=some (.slice e)) (hy:H2 y0=true)
  (hc:ao x=some y) (h:WT P Q (step (.eqn neg y) st q xx)):o.wp P a c.w K Qx:=by
 have hy' : ∃l' c'',a.eval y0 = .slice none l' c'':=by
  unfold H2 at hy
  split at hy
  ·exact ⟨_,_,rfl⟩
  ·simp at hy
 obtain ⟨l',c'',hy'⟩:=hy';have run:∀(p:Option Addr) (l cp:Nat),a.eval x = .slice p l cp->(execOp a.eval o).run P c.w = .ok (.value (.bool (if p.isNone then !neg else neg))) c.w:=by
  intro p l cp hx;refine qA (v:=.bool true) ho (by rw [hx,hy'];exact FK) ?_;rw [hx,hy']
  cases neg with
  | true=>
   simp only [if_true] at hop;subst hop;simp only [binOp];rw [run_bind_ok (rq hu)]
   cases p<;>rfl
  | false=>
   simp only [Y4,if_false] at hop;subst hop;simp only [binOp];rw [run_bind_ok (rq hu)]
   cases p<;>rfl
 simp only [step] at h
 split at h
 ·rename_i hv
  have e1:=aF r hc hv;simp only [aD,aG] at e1;exact aP r hK (gv:=.bool (!neg)) (by simp [aD,aG]) h (run none 0 0 e1)
 ·rename_i k xs z hv
  have e1:=aF r hc hv;simp only [aD,aG] at e1;simp only [WT] at h
  rcases e1 with ⟨⟨x9,e1,_⟩,rfl⟩|⟨b,o',cap,e1,_⟩
  ·cases x9 with
   | none=>exact aP r hK (gv:=.bool (!neg)) (by simp [aD,aG]) (h.1 rfl).1 (run none 0 0 e1)
   | some x9=>exact aP r hK (gv:=.bool neg) (by simp [aD,aG]) (h.1 rfl).2 (run (some x9) 0 0 e1)
  ·have hq:WT P Q (q (.d (.bool neg)) st):=by
    cases hxe:xs.isEmpty with
    | true=>exact (h.1 hxe).2
    | false=>exact h.2 hxe
   exact aP r hK (gv:=.bool neg) (by simp [aD,aG]) hq (run (some ⟨b,o',none⟩) _ _ e1)
 ·exact h.elim
theorem M4 (r:Rel c w0 n gs st a) (hK:bf P Q q c w0 n gs st a o.dst K) {op:BinOp} {t t' : TypeId} {ms:Array (String×TypeId)} {x y0:Operand} {y:Opd} {neg:Bool} (ho:o.op = .binOp op t x y0 t') (hop:op=if neg then .neq else .eql) (hu:P.underlying t=some (.interface ms)) (hy:H3 y0=true)
  (hc:ao x=some y) (h:WT P Q (step (.eqi neg y) st q xx)):o.wp P a c.w K Qx:=by
 have hy' : y0 = .const .nilIface:=by
  unfold H3 at hy
  split at hy
  ·rfl
  ·simp at hy
 subst hy';have key:∀(v:Value) (b:Bool),a.eval x=v->(v = .nilIface/\b=true\/(∃t u,v = .iface t u)/\b=false)->(execOp a.eval o).run P c.w = .ok (.value (.bool (if b then !neg else neg))) c.w:=by
  intro v b hx hv;have he:∀d,(Op.equalIn (d+1) t v .nilIface).run P c.w = .ok b c.w:=by
   intro d
   rcases hv with ⟨rfl,rfl⟩|⟨⟨t1,u,rfl⟩,rfl⟩<;>simp [Op.equalIn,bq hu]
  have he:(Op.equal t v .nilIface).run P c.w = .ok b c.w:=he 9999;have hg:(eqGuard op t x (.const .nilIface) v .nilIface).run P c.w = .ok () c.w:=by
   unfold eqGuard
   rcases hv with ⟨rfl,rfl⟩|⟨⟨t1,u,rfl⟩,rfl⟩<;>cases op<;>simp
  refine qA (v:=.bool true) ho (by rw [hx];exact hg) ?_;rw [hx];show (binOp op t v .nilIface).run P c.w=_
  cases neg with
  | true=>
   simp only [if_true] at hop;subst hop
   rcases hv with ⟨rfl,rfl⟩|⟨⟨t1,u,rfl⟩,rfl⟩<;>simp only [binOp]<;>rw [run_bind_ok he]<;>rfl
  | false=>
   simp only [Y4,if_false] at hop;subst hop
   rcases hv with ⟨rfl,rfl⟩|⟨⟨t1,u,rfl⟩,rfl⟩<;>simp only [binOp]<;>rw [run_bind_ok he]<;>rfl
 simp only [step] at h
 split at h
 ·rename_i hv
  have e1:=aF r hc hv;simp only [aD,aG] at e1;exact aP r hK (gv:=.bool (!neg)) (by simp [aD,aG]) h (key _ true e1 (.inl ⟨rfl,rfl⟩))
 ·rename_i t1 d hv
  obtain ⟨u,e1,e2⟩:=aF r hc hv;exact aP r hK (gv:=.bool neg) (by simp [aD,aG]) h (key _ false e1 (.inr ⟨⟨t1,u,rfl⟩,rfl⟩))
 ·exact h.elim
end
end Uw
namespace Uw
open Go Go.RowKit
variable [Glob]
theorem UG {P:Program} {w:World} {J:Nat->Nat->Prop} {k:Nat} {x y:Dat} {v u:Value} {b:Bool} (h:eqD k x y=some b) (hx:aG w J x v) (hy:aG w J y u) {t:TypeId} (ht:y7 P t=some k) (d:Nat):(Op.equalIn (d+1) t v u).run P w = .ok b w:=by
 unfold eqD at h
 split at h
 ·rename_i k1 a k' b'
  split at h
  ·rename_i hk
   have hk:k1=k':=of_decide_eq_true hk;subst hk;simp at h;subst h;simp only [aG] at hx hy;subst hx hy;unfold y7 at ht
   split at ht<;>simp at ht
   rename_i k2 hu;rw [run_equalIn_int w d t k1 k2 a b' hu]
   congr 1
  ·simp at h
 ·rename_i a b'
  simp at h;subst h;simp only [aG] at hx hy;subst hx hy;unfold y7 at ht
  split at ht<;>simp at ht
  rename_i hu;exact run_equalIn_bool' w d t a b' hu
 ·rename_i a b'
  simp at h;subst h;simp only [aG] at hx hy;subst hx hy;unfold y7 at ht
  split at ht<;>simp at ht
  rename_i hu;rw [run_equalIn_string w d t _ _ hu,bytes_eq]
 ·simp at h
theorem BX {P:Program} {t:TypeId} {k:Nat} (h:y7 P t=some k):jq P t=some false:=by
 unfold y7 at h;unfold jq
 split at h<;>simp_all
theorem FM {P:Program} {t:TypeId} {w:World} {cs:Array Value} {off:Nat} {v:Value} (ht:jq P t=some false) (hv:cs[off]? = some v):(part t cs off).run P w = .ok v w:=by
 unfold part;rw [run_bind_ok (sV ht)];simp [hv]
theorem FN {P:Program} {c:Cx} {xs ys:Array Value} (d:Nat):∀(fs:List Field) (i:Nat) (ks:List Nat) (cs ds:List V) (b:Bool),Fp P i fs=some ks->aC c cs (xs.toList.drop i)->aC c ds (ys.toList.drop i)->eqL ks cs ds=some b->
  (Op.eqFields (d+1) xs ys fs).run P c.w = .ok b c.w:=by
 intro fs
 induction fs with
 | nil=>
  intro i ks cs ds b hf h1 h2 h;simp [Fp] at hf;subst hf
  cases cs with
  | cons a r=>simp [eqL] at h
  | nil=>
   cases ds with
   | cons a r=>simp [eqL] at h
   | nil=>simp [eqL] at h;subst h;rfl
 | cons f fs ih=>
  intro i ks cs ds b hf h1 h2 h;simp only [Fp] at hf
  split at hf
  ·rename_i k l hk hb hl
   simp at hf;subst hf;rw [i9] at hb;have hoff:=wt hb.1;have hname:f.name≠ "_":=by simpa using hb.2
   unfold eqL at h
   split at h
   ·simp at *
   ·rename_i k0 ks0 x r y r' e1
    simp only [Zu] at e1;obtain ⟨rfl,rfl⟩:=e1
    split at h
    ·rename_i b1 b2 hd hr
     simp at h;subst h;obtain ⟨v,vs',e1,g1,g2⟩:=h1;obtain ⟨u,us',e2,g3,g4⟩:=h2;have hv:xs[i]? = some v:=by
      have:(xs.toList.drop i)[0]? = some v:=by rw [e1];rfl
      rw [Y1] at this;simpa using this
     have hu:ys[i]? = some u:=by
      have:(ys.toList.drop i)[0]? = some u:=by rw [e2];rfl
      rw [Y1] at this;simpa using this
     have e1' : xs.toList.drop (i+1)=vs':=by
      rw [<- aa1,e1];rfl
     have e2' : ys.toList.drop (i+1)=us':=by
      rw [<- aa1,e2];rfl
     simp only [Op.eqFields,hname,ne_eq,not_false_eq_true,if_true];rw [run_bind_ok (FM (BX hk) (by rw [hoff];exact hv)),run_bind_ok (FM (BX hk) (by rw [hoff];exact hu)),run_bind_ok (UG hd g1 g3 hk d)]
     cases b1 with
     | false=>simp
     | true=>
      simp only [ZF,Y4,if_false,Zb];exact ih (i+1) _ _ _ b2 hl (by rw [e1'];exact g2) (by rw [e2'];exact g4) hr
    ·simp at h
   ·simp at h
  ·simp at hf
theorem sX {c:Cx} {v:V} {gv:Value} (h:v.isAgg=true) (r:aD c v gv):∃vs:List Value,gv = .agg vs.toArray/\aC c v.cells vs:=by
 cases v with
 | agg cs=>exact r
 | d x=>
  cases x with
  | agg ds=>obtain ⟨vs,h1,h2⟩:=r;exact ⟨vs,h1,aC.ofL h2⟩
  | _=>simp [V.isAgg] at h
 | _=>simp [V.isAgg] at h
section
variable {P : Program} {Q : az -> St -> Prop} {q : V -> St -> Tree} {c : Cx} {w0 : World} {n : Nat} {gs : Fr} {st : St} {a : Act} {K : Act -> World -> Prop} {Qx : Exit -> Act -> World -> Prop} {o : Oper} {xx : az -> St -> Tree}
theorem M5 (r:Rel c w0 n gs st a) (hK:bf P Q q c w0 n gs st a o.dst K) {op:BinOp} {t t' : TypeId} {x1 x2:Operand} {y1 y2:Opd} {neg:Bool} {ks:List Nat} (ho:o.op = .binOp op t x1 x2 t') (hop:op=if neg then .neq else .eql) (ht:ME P t=some ks)
  (hc1:ao x1=some y1) (hc2:ao x2=some y2) (h:WT P Q (step (.eqs neg ks y1 y2) st q xx)):o.wp P a c.w K Qx:=by
 simp only [step] at h
 split at h
 ·rename_i v u hv hu
  split at h
  ·rename_i b hag hb
   rw [i9] at hag;obtain ⟨vs,e1,e2⟩:=sX hag.1 (aF r hc1 hv);obtain ⟨us,e3,e4⟩:=sX hag.2 (aF r hc2 hu);unfold ME at ht
   split at ht
   ·rename_i fs nG
    split at ht
    ·rename_i hg
     rw [i9] at hg;have hg1:P.stoodInHeld t=false:=by simpa using hg.1
     have hg2:P.eqGuardType P.depth t=false:=by simpa using hg.2
     have hfo:P.fieldsOf t=fs:=by simp [Program.fieldsOf,nG]
     have heq:(Op.equalIn 10000 t (.agg vs.toArray) (.agg us.toArray)).run P c.w = .ok b c.w:=by
      rw [run_equalIn_struct c.w 9999 t _ _ (by rw [hfo];exact nG) hg1,hfo];exact FN 9998 fs.toList 0 ks _ _ b ht (by simpa using e2) (by simpa using e4) hb
     refine aP r hK (v:=.d (.bool (TL neg b))) (gv:=.bool (TL neg b)) (by simp [aD,aG]) h (qA (v:=.bool true) ho ?_ ?_)
     ·rw [e1,e3];exact run_eqGuard_agg c.w op t x1 x2 _ _ hg2
     ·rw [e1,e3]
      cases neg with
      | true=>
       simp only [if_true] at hop;subst hop;rw [run_neq_struct,heq];rfl
      | false=>
       simp only [Y4,if_false] at hop;subst hop;rw [run_eql_struct,heq];rfl
    ·simp at ht
   ·simp at ht
  ·exact h.elim
 ·exact h.elim
end
end Uw
namespace Uw
open Go Go.RowKit
variable [Glob]
def nJ (w:World) (r:Nat) (o:Obj):World:={ w with heap:=w.heap.setIfInBounds r o }
section
variable {P : Program} {w : World}
theorem ui {r:Nat} {ms:Array MapEntry} {k:Nat} (h:w.heap[r]? = some (.map ms k)):(getObj r).run P w = .ok (.map ms k) w:=by
 simp [getObj,Sem.run,h]
theorem xY {r:Nat} {s:ByteArray} {k:Nat} (h:w.heap[r]? = some (.stringIter s k)):(getObj r).run P w = .ok (.stringIter s k) w:=by
 simp [getObj,Sem.run,h]
theorem zn {r:Nat} {ms:Array MapEntry} {k:Nat} {o:Obj} (h:w.heap[r]? = some (.map ms k)):(setObj r o).run P w = .ok () (nJ w r o):=by
 simp [setObj,Sem.run,h,nJ]
theorem FO {r:Nat} {s:ByteArray} {k:Nat} {o:Obj} (h:w.heap[r]? = some (.stringIter s k)):(setObj r o).run P w = .ok () (nJ w r o):=by
 simp [setObj,Sem.run,h,nJ]
theorem zo {r:Nat} {o:Obj} {k:Nat} (h:k≠r):(nJ w r o).heap[k]? = w.heap[k]?:=by
 simp [nJ,aah,Ne.symm h]
theorem BZ {r:Nat} {o o' : Obj} (h:w.heap[r]? = some o'):(nJ w r o).heap[r]? = some o:=by
 have hlt:r<w.heap.size:=by
  by_cases hlt:r<w.heap.size
  ·exact hlt
  ·rw [ZI (by omega)] at h;cases h
 simp [nJ,aah,hlt]
theorem B0 {r:Nat} {o:Obj}:(nJ w r o).heap.size=w.heap.size:=by simp [nJ]
def Jq:Option IntKind->TypeDesc->Prop
 | some _,d=>∃k,d = .int k
 | none,d=>d = .string
theorem Jr {t k e:TypeId} {kk:Option IntKind} {z:Dat} (h:Bj P t=some (k,e,kk,z)):P.underlying t=some (.map k e)/\zeroV P e=some z/\∃d,P.underlying k=some d/\Jq kk d:=by
 unfold Bj at h
 split at h
 ·rename_i k' e' hu
  split at h
  ·rename_i ik z' hk hz
   simp at h;obtain ⟨rfl,rfl,rfl,rfl⟩:=h;exact ⟨hu,hz,_,hk,_,rfl⟩
  ·rename_i z' hk hz
   simp at h;obtain ⟨rfl,rfl,rfl,rfl⟩:=h;exact ⟨hu,hz,_,hk,rfl⟩
  ·simp at h
 ·simp at h
theorem FP {w:World} {J:Nat->Nat->Prop} {kk:Option IntKind} {x:Dat} {key:oJ} {v:Value} (h:keyOf kk x=some key) (r:aG w J x v):jt kk key v:=by
 unfold keyOf at h
 split at h
 ·split at h
  ·rename_i hk
   have hk:=of_decide_eq_true hk;subst hk;simp at h;subst h;exact r
  ·simp at h
 ·simp at h;subst h;exact r
 ·simp at h
theorem run_checkKey {b:Bool} {t:TypeId} {d:TypeDesc} {kk:Option IntKind} {key:oJ} {v:Value} (hu:P.underlying t=some d) (hk:Jq kk d) (hv:jt kk key v):(Instr.checkKey b 10000 t v).run P w = .ok () w:=by
 rw [show (10000:Nat)=9999+1 from rfl,Instr.checkKey,run_bind_ok (bq hu)]
 cases kk with
 | some k=>obtain ⟨k',rfl⟩:=hk;rfl
 | none=>cases hk;rfl
theorem H8 {kk:Option IntKind} {key:oJ} {v u:Value} (h1:jt kk key v) (h2:jt kk key u):u=v:=by
 cases kk<;>cases key<;>simp only [jt] at h1 h2<;>first|(rw [h1,h2])|exact h1.elim
theorem B1 (s t:List UInt8):((⟨s.toArray⟩:ByteArray) == (⟨t.toArray⟩:ByteArray))=decide (s=t):=by
 have h:((⟨s.toArray⟩:ByteArray) == (⟨t.toArray⟩:ByteArray))=(s.toArray == t.toArray):=rfl;rw [h];apply Bool.eq_iff_iff.mpr;simp
theorem QC {kk:Option IntKind} {d:TypeDesc} (hk:Jq kk d) {k1 k2:oJ} {v u:Value} (h1:jt kk k1 v) (h2:jt kk k2 u):Instr.sameNow d v u=some (decide (k1=k2)):=by
 cases kk with
 | some k=>
  obtain ⟨k',rfl⟩:=hk
  cases k1 with
  | s b=>exact h1.elim
  | i n1=>
   cases k2 with
   | s b=>exact h2.elim
   | i n2=>
    simp only [jt] at h1 h2;subst h1 h2;simp [Instr.sameNow];apply Bool.eq_iff_iff.mpr;simp
 | none=>
  cases hk
  cases k1 with
  | i n1=>exact h1.elim
  | s b1=>
   cases k2 with
   | i n2=>exact h2.elim
   | s b2=>
    simp only [jt] at h1 h2;subst h1 h2;simp only [Instr.sameNow,oJ.s.injEq]
    congr 1
    exact B1 b1 b2
theorem QD {kk:Option IntKind} {key:oJ} {v:Value} (h1:jt kk key v):Instr.sameBits 10000 v v=true:=by
 cases kk<;>cases key<;>simp only [jt] at h1<;>first|(subst h1;simp [Instr.sameBits,B1];done)|exact h1.elim
theorem find_ok {J:Nat->Nat->Prop} {kk:Option IntKind} {d:TypeDesc} (hk:Jq kk d) {key:oJ} {x:Value} (hx:jt kk key x):∀(es:List (oJ×Dat)) (ms:List MapEntry) (i:Nat),pS w J kk es ms->
  (A8 es key=none/\Instr.findNow d x ms i=some none/\∀(v:Value) (b:Nat) (dd:Dat),aG w J dd v->pS w J kk (yt es key dd) (ms++[{ key:=x,val:=v,born:=b }]))\/
  (∃dv j v m,A8 es key=some dv/\Instr.findNow d x ms i=some (some (i+j,v))/\ms[j]? = some m/\jt kk key m.key/\aG w J dv v/\∀(u:Value) (dd:Dat),aG w J dd u->pS w J kk (yt es key dd) (ms.modify j fun e=>{ e with key:=x,val:=u }))
 | [],ms,i,r=>by
  simp only [pS] at r;subst r;refine .inl ⟨rfl,rfl,fun v b dd hv=>⟨_,[],rfl,hx,hv,rfl⟩⟩
 | (k,dd)::es,ms,i,⟨m,ms',e1,h2,h3,h4⟩=>by
  subst e1;have hs:=QC hk hx h2;by_cases hkk:key=k
  ·subst hkk
   refine .inr ⟨dd,0,m.val,m,by simp [A8],by simp [Instr.findNow,hs],rfl,h2,h3,fun u dd' hu=>?_⟩;simp only [yt,decide_true,List.modify_zero_cons];exact ⟨_,ms',rfl,hx,hu,h4⟩
  ·have hd:decide (key=k)=false:=by simpa using hkk
   rcases find_ok hk hx es ms' (i+1) h4 with ⟨g1,g2,g3⟩|⟨dv,j,v,m',g1,g2,g3,g4,g5,g6⟩
   ·refine .inl ⟨by simp [A8,hd,g1],by simp [Instr.findNow,hs,hd,g2],fun v b dd' hv=>?_⟩
    simp only [yt,hd];exact ⟨m,_,rfl,h2,h3,g3 v b dd' hv⟩
   ·refine .inr ⟨dv,j+1,v,m',by simp [A8,hd,g1],by simp [Instr.findNow,hs,hd,g2];omega,by simpa using g3,g4,g5,fun u dd' hu=>?_⟩
    simp only [yt,hd,List.modify_succ_cons];exact ⟨m,_,rfl,h2,h3,g6 u dd' hu⟩
theorem run_findKey {t:TypeId} {d:TypeDesc} {v:Value} {ms:List MapEntry} {res:Option (Nat×Value)} (hu:P.underlying t=some d) (h:Instr.findNow d v ms 0=some res):(Instr.findKey t v ms).run P w = .ok res w:=by
 unfold Instr.findKey;rw [run_bind_ok (bq hu),h];rfl
theorem pS.length {J:Nat->Nat->Prop} {kk:Option IntKind}:∀(es:List (oJ×Dat)) (ms:List MapEntry),pS w J kk es ms->ms.length=es.length
 | [],ms,r=>by simp only [pS] at r;subst r;rfl
 | (k,dd)::es,ms,⟨m,ms',e1,h2,h3,h4⟩=>by subst e1;simp [pS.length es ms' h4]
end
section
variable {P : Program} {Q : az -> St -> Prop} {q : V -> St -> Tree} {c : Cx} {w0 : World} {n : Nat} {gs : Fr} {st : St} {a : Act} {K : Act -> World -> Prop} {Qx : Exit -> Act -> World -> Prop} {o : Oper} {xx : az -> St -> Tree}
theorem Rel.setObj (r:Rel c w0 n gs st a) {id:Nat} {b b' : Blk} (hl:look c.heap id=some b) (hna:∀k xs,b≠.arr k xs) (hph:Ph (c.pl id) b) (hbe:cD (c.pl id) (c.pl id) b b') {ob:Obj}
  (hb:Evo c (c.aH id b' (c.pl id) (nJ c.w (c.pl id).gb ob))->cj (c.aH id b' (c.pl id) (nJ c.w (c.pl id).gb ob)) id b') :
  Rel (c.aH id b' (c.pl id) (nJ c.w (c.pl id).gb ob)) w0 n gs { st with heap:=(id,b')::st.heap } a:=by
 have hge:=r.hrel.ge id b hl hph;have hgB:=r.hrel.geB hl hph;refine r.aH hl (fun k _ hk=>zo (hk hph)) (by rw [B0];exact Ls _) ⟨rfl,rfl,rfl,by rw [B0];exact Ls _,fun k hk=>zo (by omega)⟩ (.inl ⟨rfl,fun _=>hph⟩) ?_ hbe hb;intro _ oo hi;exfalso
 rcases hi with ⟨h1,_⟩|⟨h1,h2,h3⟩
 ·exact hge h1
 ·obtain ⟨k,xs,h,_⟩:=h3 id b hl hph rfl
  exact hna k xs h
theorem M6 (r:Rel c w0 n gs st a) (hK:bf P Q q c w0 n gs st a o.dst K) {t:TypeId} {kk:Option IntKind} (ho:o.op = .makeMap t none) (h:WT P Q (step (.E6 kk) st q xx)):o.wp P a c.w K Qx:=by
 simp only [step] at h;refine bP (w':=c.w.alloc (.map #[] 0)) (gv:=.map (some c.w.heap.size)) ?_ (hK (c.push st.next 0 (.map kk []) (.map #[] 0)) _ _ _ rfl rfl (r.push ?_) rfl ?_ h)
 ·simp [execOp,ho,Instr.makeMap,newObj,pure,Bind.bind,Sem.bind,Sem.run]
 ·refine ⟨#[],0,?_,rfl⟩
  show (c.w.heap.push (.map #[] 0))[((c.push st.next 0 (.map kk []) (.map #[] 0)).pl st.next).gb]? = _;simp [Cx.push]
 ·simp [aD,Cx.push,aE,eP]
theorem UH (r:Rel c w0 n gs st a) (hK:bf P Q q c w0 n gs st a o.dst K) {t:TypeId} {x:Operand} {y:Opd} (ho:o.op = .range t x) (hu:P.underlying t=some .string) (hc:ao x=some y) (h:WT P Q (step (.rng y) st q xx)):o.wp P a c.w K Qx:=by
 simp only [step] at h
 split at h
 ·rename_i s hv
  have e1:=aF r hc hv;simp only [aD,aG] at e1;refine bP (w':=c.w.alloc (.stringIter ⟨s.toArray⟩ 0)) (gv:=.pointer (some ⟨c.w.heap.size,0,none⟩)) ?_ (hK (c.push st.next 0 (.iter s 0) (.stringIter ⟨s.toArray⟩ 0)) _ _ _ rfl rfl (r.push ?_) rfl ?_ h)
  ·simp only [execOp,ho,e1]
   have:(Instr.range t (.string ⟨s.toArray⟩)).run P c.w = .ok (.pointer (some ⟨c.w.heap.size,0,none⟩)) (c.w.alloc (.stringIter ⟨s.toArray⟩ 0)):=by
    unfold Instr.range;simp [bq hu,newObj,Sem.run]
   rw [run_bind_ok this];rfl
  ·show (c.w.heap.push (.stringIter ⟨s.toArray⟩ 0))[((c.push st.next 0 (.iter s 0) (.stringIter ⟨s.toArray⟩ 0)).pl st.next).gb]? = _
   simp [Cx.push]
  ·simp [aD,Cx.push,aE,eP]
 ·exact h.elim
theorem UI (r:Rel c w0 n gs st a) (hK:bf P Q q c w0 n gs st a o.dst K) {x:Operand} {y:Opd} (ho:o.op = .next x true) (hc:ao x=some y) (h:WT P Q (step (.nxt y) st q xx)):o.wp P a c.w K Qx:=by
 simp only [step] at h
 split at h
 ·rename_i id hv
  have e1:=aF r hc hv;simp only [aD] at e1;rw [r.heap] at e1
  split at h
  ·rename_i s pos hl
   rw [hl] at e1;simp only [eP] at e1;have hl' : look c.heap id=some (.iter s pos):=by rw [r.heap];exact hl
   have hb:c.w.heap[(c.pl id).gb]? = some (.stringIter ⟨s.toArray⟩ pos):=r.hrel.blk id _ hl';simp only [WT] at h
   cases hp:decide (pos<s.length) with
   | false=>
    have hq:=h.2 hp;have hp:=of_decide_eq_false hp;refine aP r hK (v:=.tuple [.d (.bool false)]) (gv:=.tuple #[.bool false]) ⟨[.bool false],rfl,.bool false,[],rfl,by simp [aD,aG],rfl⟩ hq ?_;simp only [execOp,ho,e1];have:(Instr.next (.pointer (some ⟨(c.pl id).gb,0,none⟩)) true o.type).run P c.w = .ok (.tuple #[.bool false]) c.w:=by
     unfold Instr.next;simp only;rw [run_bind_ok (xY hb)];simp [ByteArray.size,hp]
    rw [run_bind_ok this];rfl
   | true=>
    have hq:=h.1 hp;have hp:=of_decide_eq_true hp;have hr:Rel (c.aH id (.iter s (pos+(bH s pos).2)) (c.pl id) (nJ c.w (c.pl id).gb (.stringIter ⟨s.toArray⟩ (pos+(bH s pos).2)))) w0 n gs _ a:=
     r.setObj (b':=.iter s (pos+(bH s pos).2)) hl' (by simp) trivial rfl (fun _=>by
      show (nJ c.w (c.pl id).gb _).heap[((c.aH id _ (c.pl id) _).pl id).gb]? = _;rw [af.2,BZ hb])
    refine bP (w':=nJ c.w (c.pl id).gb (.stringIter ⟨s.toArray⟩ (pos+(bH s pos).2))) (gv:=.tuple #[.bool true,.int .i64 pos,.int .i32 (bH s pos).1]) ?_ (hK (c.aH id (.iter s (pos+(bH s pos).2)) (c.pl id) (nJ c.w (c.pl id).gb (.stringIter ⟨s.toArray⟩ (pos+(bH s pos).2)))) _ (.tuple [.d (.bool true),.d (.int .i64 pos),.d (.int .i32 (bH s pos).1)]) _ rfl rfl hr rfl ⟨[.bool true,.int .i64 pos,.int .i32 (bH s pos).1],rfl,_,_,rfl,by simp [aD,aG],_,_,rfl,by simp [aD,aG],_,_,rfl,by simp [aD,aG],rfl⟩ hq);simp only [execOp,ho,e1];have:(Instr.next (.pointer (some ⟨(c.pl id).gb,0,none⟩)) true o.type).run P c.w = .ok (.tuple #[.bool true,.int .i64 pos,.int .i32 (bH s pos).1]) (nJ c.w (c.pl id).gb (.stringIter ⟨s.toArray⟩ (pos+(bH s pos).2))):=by
     unfold Instr.next;simp only;rw [run_bind_ok (xY hb)];have hp' : pos<(⟨s.toArray⟩:ByteArray).size:=by simpa [ByteArray.size] using hp
     simp only [hp',if_true];rw [run_bind_ok (FO hb)];simp [goInt,BO]
    rw [run_bind_ok this];rfl
  ·exact h.elim
 ·exact h.elim
theorem M7 (r:Rel c w0 n gs st a) (hK:bf P Q q c w0 n gs st a o.dst K) {t k e:TypeId} {kk:Option IntKind} {z:Dat} {x i:Operand} {y j:Opd} {ok:Bool} (ho:o.op = .lookup t x i ok) (ht:Bj P t=some (k,e,kk,z))
  (hc1:ao x=some y) (hc2:ao i=some j) (h:WT P Q (step (.lkp ok kk z y j) st q xx)):o.wp P a c.w K Qx:=by
 obtain ⟨hu,hz,dk,hk,hkk⟩:=Jr ht;simp only [step] at h
 split at h
 ·rename_i id xd hv1 hv2
  have e1:=aF r hc1 hv1;have e2:=aF r hc2 hv2;simp only [aD] at e1;rw [r.heap] at e1
  split at h
  ·rename_i kk' es hl
   rw [hl] at e1;simp only [eP] at e1;have hl' : look c.heap id=some (.map kk' es):=by rw [r.heap];exact hl
   split at h
   ·rename_i key hd hkey
    have hd:=of_decide_eq_true hd;subst hd;obtain ⟨ms,clock,hb,hm⟩:=r.hrel.blk id _ hl';have hkr:=FP hkey e2;simp only [WT] at h;have run:∀(fd:Option (Nat×Value)) (v:Value) (b:Bool),Instr.findNow dk (a.eval i) ms.toList 0=some fd->((fd=none/\(zeroValue e).run P c.w = .ok v c.w/\b=false)\/(∃jj,fd=some (jj,v)/\b=true))->
      (execOp a.eval o).run P c.w = .ok (.value (if ok then .tuple #[v,.bool b] else v)) c.w:=by
     intro fd v b hf hcase;simp only [execOp,ho,e1];have:(Instr.lookup t (.map (some (c.pl id).gb)) (a.eval i) ok).run P c.w = .ok (if ok then .tuple #[v,.bool b] else v) c.w:=by
      unfold Instr.lookup;rw [run_bind_ok (bq hu)];simp only;rw [run_bind_ok (ui hb)];simp only;rw [run_bind_ok (s:=pure ms) (x:=ms) (w':=c.w) rfl];rw [run_bind_ok (run_checkKey hk hkk hkr),run_bind_ok (run_findKey hk hf)]
      rcases hcase with ⟨rfl,hz,rfl⟩|⟨jj,rfl,rfl⟩
      ·simp only
       rw [run_bind_ok hz];rfl
      ·simp only
       rfl
     rw [run_bind_ok this];rfl
    have res:∀(u:V) (v:Value) (b:Bool),aD c u v->aD c (Fo ok u b) (if ok then .tuple #[v,.bool b] else v):=by
     intro u v b hu
     cases ok with
     | true=>exact ⟨[v,.bool b],rfl,_,_,rfl,hu,_,_,rfl,by simp [aD,aG],rfl⟩
     | false=>exact hu
    rcases find_ok hkk hkr es ms.toList 0 hm with ⟨g1,g2,_⟩|⟨dv,jj,v,m,g1,g2,_,_,g5,_⟩
    ·obtain ⟨zv,z1,z2⟩:=FI hz c.w
     exact aP r hK (res _ _ _ (aD.bX (z2 _))) (h.2 (by rw [g1];rfl)) (run _ zv false g2 (.inl ⟨rfl,z1,rfl⟩))
    ·obtain ⟨dv',h1,h2⟩:=h.1 (by rw [g1];rfl)
     rw [g1] at h1;injection h1 with h1;subst h1
     exact aP r hK (res _ _ _ (aD.bX g5)) h2 (run _ v true g2 (.inr ⟨_,rfl,rfl⟩))
   ·exact h.elim
  ·exact h.elim
 ·exact h.elim
theorem D7 (r:Rel c w0 n gs st a) (hK:bf P Q q c w0 n gs st a o.dst K) {t k e:TypeId} {kk:Option IntKind} {z:Dat} {x i u:Operand} {y j l:Opd} (ho:o.op = .mapUpdate t x i u\/o.op = .insert t x i u) (ht:Bj P t=some (k,e,kk,z))
  (hc1:ao x=some y) (hc2:ao i=some j) (hc3:ao u=some l) (h:WT P Q (step (.Kz kk y j l) st q xx)):o.wp P a c.w K Qx:=by
 obtain ⟨hu,hz,dk,hk,hkk⟩:=Jr ht;simp only [step] at h
 split at h
 ·rename_i id xd uv hv1 hv2 hv3
  have e1:=aF r hc1 hv1;have e2:=aF r hc2 hv2;have e3:=aF r hc3 hv3;simp only [aD] at e1;rw [r.heap] at e1
  split at h
  ·rename_i kk' es dd hl hdd
   rw [hl] at e1;simp only [eP] at e1;have hl' : look c.heap id=some (.map kk' es):=by rw [r.heap];exact hl
   rw [<- r.heap] at hdd;have e3:=yI hdd e3
   split at h
   ·rename_i key hd hkey
    have hd:=of_decide_eq_true hd;subst hd;obtain ⟨ms,clock,hb,hm⟩:=r.hrel.blk id _ hl';have hkr:=FP hkey e2;have fin:∀(ms' : Array MapEntry) (k' : Nat),pS c.w (Imm c) kk (yt es key dd) ms'.toList->(Instr.mapUpdate t (.map (some (c.pl id).gb)) (a.eval i) (a.eval u)).run P c.w = .ok () (nJ c.w (c.pl id).gb (.map ms' k'))->o.wp P a c.w K Qx:=by
     intro ms' k' hm' hrun;have hr:Rel (c.aH id (.map kk (yt es key dd)) (c.pl id) (nJ c.w (c.pl id).gb (.map ms' k'))) w0 n gs _ a:=
      r.setObj (b':=.map kk (yt es key dd)) hl' (by simp) trivial ⟨rfl,rfl⟩ (fun he=>by
       refine ⟨ms',k',?_,pS.keep he.keeps _ _ hm'⟩;show (nJ c.w (c.pl id).gb _).heap[((c.aH id _ (c.pl id) _).pl id).gb]? = _;rw [af.2,BZ hb])
     refine zb (w':=nJ c.w (c.pl id).gb (.map ms' k')) ?_ (hK (c.aH id (.map kk (yt es key dd)) (c.pl id) (nJ c.w (c.pl id).gb (.map ms' k'))) _ .undef undef rfl rfl hr rfl trivial h)
     rcases ho with ho|ho
     ·simp only [execOp,ho,e1]
      rw [run_bind_ok hrun];rfl
     ·simp only [execOp,ho,e1]
      rw [run_bind_ok hrun];rfl
    have pre:∀(fd:Option (Nat×Value)),Instr.findNow dk (a.eval i) ms.toList 0=some fd->(Instr.mapUpdate t (.map (some (c.pl id).gb)) (a.eval i) (a.eval u)).run P c.w =
      (match fd with
       | some (i1,_)=>do
        let key <- Instr.keyThatStays (((ms[i1]?).map (·.key)).getD (a.eval i)) (a.eval i)
        setObj (c.pl id).gb (.map (ms.modify i1 fun e=>{ e with key,val:=a.eval u }) clock)
       | none=>setObj (c.pl id).gb (.map (ms.push { key:=a.eval i,val:=a.eval u,born:=clock }) (clock+1)):Sem Unit).run P c.w:=by
     intro fd hf;unfold Instr.mapUpdate;rw [run_bind_ok (bq hu)];simp only;rw [run_bind_ok (ui hb)];simp only;rw [run_bind_ok (run_checkKey hk hkk hkr),run_bind_ok (run_findKey hk hf)];rfl
    rcases find_ok hkk hkr es ms.toList 0 hm with ⟨g1,g2,g3⟩|⟨dv,jj,v,m,g1,g2,g3,g4,g5,g6⟩
    ·refine fin (ms.push { key:=a.eval i,val:=a.eval u,born:=clock }) (clock+1) ?_ ?_
     ·rw [Array.toList_push];exact g3 _ _ _ e3
     ·rw [pre _ g2];exact zn hb
    ·refine fin (ms.modify jj fun e=>{ e with key:=a.eval i,val:=a.eval u }) clock ?_ ?_
     ·rw [Array.toList_modify];exact g6 _ _ e3
     ·rw [pre _ g2]
      simp only [Y9];have hm0:ms[jj]? = some m:=by simpa using g3
      have hst:(Instr.keyThatStays (((ms[jj]?).map (·.key)).getD (a.eval i)) (a.eval i)).run P c.w = .ok (a.eval i) c.w:=by
       rw [hm0];simp only [aay,Option.getD_some];rw [H8 hkr g4];unfold Instr.keyThatStays;rw [if_pos (QD hkr)];rfl
      rw [run_bind_ok hst];exact zn hb
   ·exact h.elim
  ·exact h.elim
 ·exact h.elim
theorem QE (r:Rel c w0 n gs st a) (hK:bf P Q q c w0 n gs st a o.dst K) {cl:Call} {x:Operand} {t k e:TypeId} {y:Opd} (ho:o.op = .call cl) (hb:cl.callee = .builtin .len) (hx:cl.args.toList=[x]) (ht:cl.argTypes.toList=[t])
  (hu:P.underlying t=some (.map k e)) (hc:ao x=some y) (h:WT P Q (step (.E7 y) st q xx)):o.wp P a c.w K Qx:=by
 simp only [step] at h
 split at h
 ·rename_i id hv
  have e1:=aF r hc hv;simp only [aD] at e1;rw [r.heap] at e1
  split at h
  ·rename_i kk es hl
   rw [hl] at e1;simp only [eP] at e1;have hl' : look c.heap id=some (.map kk es):=by rw [r.heap];exact hl
   obtain ⟨ms,clock,hbk,hm⟩:=r.hrel.blk id _ hl';have hlen:=pS.length _ _ hm;simp only [aal] at hlen;refine aP r hK (v:=.d (.int .i64 es.length)) (gv:=.int .i64 es.length) (by simp [aD,aG]) h ?_;obtain ⟨cal,args,ats⟩:=cl;simp only at hb hx ht;subst hb;have hx' : args = #[x]:=by rw [<- hx]
   have ht' : ats = #[t]:=by rw [<- ht]
   subst hx' ht';simp only [execOp,ho,resolve,invoke,builtin];have:(Builtin.len_ #[t] o.type #[a.eval x]).run P c.w = .ok (.int .i64 es.length) c.w:=by
    rw [e1];unfold Builtin.len_;simp [bq hu,ui hbk,goInt,hlen]
   simp [this]
  ·exact h.elim
 ·exact h.elim
theorem S8 (r:Rel c w0 n gs st a) (hK:bf P Q q c w0 n gs st a o.dst K) {cl:Call} {x1 x2:Operand} {y1 y2:Opd} {mx:Bool} (ho:o.op = .call cl) (hb:cl.callee = .builtin (if mx then .max else .min)) (hx:cl.args.toList=[x1,x2])
  (hc1:ao x1=some y1) (hc2:ao x2=some y2) (h:WT P Q (step (.mm mx y1 y2) st q xx)):o.wp P a c.w K Qx:=by
 simp only [step] at h
 split at h
 ·rename_i k i k' j hv1 hv2
  have e1:=aF r hc1 hv1;have e2:=aF r hc2 hv2;simp only [aD,aG] at e1 e2
  split at h
  ·rename_i hd
   have hd:=of_decide_eq_true hd;subst hd;refine aP r hK (v:=.d (.int k (mmI mx i j))) (gv:=.int k (mmI mx i j)) (by simp [aD,aG]) h ?_;obtain ⟨cal,args,ats⟩:=cl;simp only at hb hx;subst hb;have hx' : args = #[x1,x2]:=by rw [<- hx]
   subst hx';simp only [execOp,ho,resolve,invoke]
   cases mx with
   | true=>
    have:(Builtin.max_ ats o.type #[a.eval x1,a.eval x2]).run P c.w = .ok (.int k (mmI true i j)) c.w:=by
     rw [e1,e2];unfold Builtin.max_;simp only [List.foldlM_cons,List.foldlM_nil,Builtin.max2,mmI];have:(if j>i then j else i)=max i j:=by split<;>omega
     rw [this];rfl
    simp [this,builtin]
   | false=>
    have:(Builtin.min_ ats o.type #[a.eval x1,a.eval x2]).run P c.w = .ok (.int k (mmI false i j)) c.w:=by
     rw [e1,e2];unfold Builtin.min_;simp only [List.foldlM_cons,List.foldlM_nil,Builtin.min2,mmI];have:(if j<i then j else i)=min i j:=by split<;>omega
     rw [this];rfl
    simp [this,builtin]
  ·exact h.elim
 ·exact h.elim
theorem vd {w:World} {J:Nat->Nat->Prop}:∀{ys:List (List Dat)} {bs:List UInt8} {us:List Value},bytesOf ys=some bs->aQ w J ys.flatten us->∃ns:List Int,us=ns.map (Value.int .u8)/\bs=ns.map (fun m=>UInt8.ofNat m.toNat)
 | [],bs,us,h,r=>by
  simp [bytesOf] at h;subst h;simp [aQ] at r;subst r;exact ⟨[],rfl,rfl⟩
 | y::ys,bs,us,h,r=>by
  unfold bytesOf at h
  split at h
  ·simp at *
  ·rename_i m rr e1
   simp only [Zu] at e1;obtain ⟨rfl,rfl⟩:=e1
   split at h
   ·rename_i l hl
    simp at h;subst h;simp only [Zk,ZY,aaz] at r;obtain ⟨v,us',rfl,r1,r2⟩:=r;simp only [aG] at r1;subst r1;obtain ⟨ns,rfl,rfl⟩:=vd hl r2;exact ⟨m::ns,rfl,rfl⟩
   ·simp at h
  ·simp at h
theorem B2:∀(ns:List Int) (s:ByteArray),ns.foldl (fun r m=>r.push (UInt8.ofNat m.toNat)) s=⟨s.data++(ns.map fun m=>UInt8.ofNat m.toNat).toArray⟩
 | [],s=>by simp
 | m::ns,s=>by
  rw [aag,B2 ns];simp [ByteArray.push]
theorem UJ (r:Rel c w0 n gs st a) (hK:bf P Q q c w0 n gs st a o.dst K) {s d e:TypeId} {x:Operand} {y:Opd} (ho:o.op = .convert s d x) (hs:P.underlying s=some (.slice e)) (hd:P.underlying d=some .string) (he:P.underlying e=some (.int .u8)) (hc:ao x=some y)
  (h:WT P Q (step (.b2s y) st q xx)):o.wp P a c.w K Qx:=by
 simp only [step] at h
 split at h
 ·rename_i k ys z hv
  have e1:=aF r hc hv
  split at h
  ·rename_i bs hk hbs
   have hk:=wt hk;subst hk;refine aP r hK (v:=.d (.str bs)) (gv:=.string ⟨bs.toArray⟩) (by simp [aD,aG]) h ?_;simp only [execOp,ho];have key:(convert s d (a.eval x)).run P c.w = .ok (.string ⟨bs.toArray⟩) c.w:=by
    rcases e1 with ⟨⟨xa,e2,_⟩,rfl⟩|⟨b,o',cap,e2,h1,h2,h3⟩
    ·simp [bytesOf] at hbs;subst hbs
     rw [e2,run_convert_bytes_string c.w s d e _ _ _ hs he hd]
     cases xa with
     | none=>rfl
     | some aa=>
      rw [run_bytesToString c.w aa 0 0 [] (by rfl)];rfl
    ·obtain ⟨g1,us,g2,g3⟩:=bU.flat h3
     obtain ⟨ns,rfl,rfl⟩:=vd hbs g2;have hl:(ns.map (Value.int .u8)).length=ys.length:=by
      have h1:=aQ.length g2;have h2:=fe g1;simp at h1 h2 ⊢;omega
     rw [e2,run_convert_bytes_string c.w s d e _ _ _ hs he hd,run_bytesToString c.w _ _ _ ns (run_loadCells hl g3.2.1),B2];simp
   rw [run_bind_ok key];rfl
  ·exact h.elim
 ·exact h.elim
theorem QF (r:Rel c w0 n gs st a) (hK:bf P Q q c w0 n gs st a o.dst K) {s:TypeId} {fs:Array Field} {f:Nat} {fd:Field} {k:Nat} {g:Bool} {x:Operand} {y:Opd} (ho:o.op = .field s x f) (hu:P.underlying s=some (.struct fs)) (hf:fs[f]? = some fd) (hg:jq P fd.type=some g) (hk:sizeT P fd.type=some k)
  (hc1:ao x=some y) (h:WT P Q (step (.E9 g k fd.offset y) st q xx)):o.wp P a c.w K Qx:=by
 simp only [step,al] at h
 split at h
 ·rename_i v hv1
  split at h
  ·rename_i hag
   rw [i9] at hag;obtain ⟨vs,e1,e2⟩:=sX hag.1 (aF r hc1 hv1);have hle:=Y0 hag.2
   split at h
   ·rename_i u hmk
    obtain ⟨gu,p1,p2⟩:=pU ((e2.drop fd.offset).take k) hmk;refine aP r hK p2 h ?_;simp only [execOp,ho];have:(Instr.field s (a.eval x) f).run P c.w = .ok gu c.w:=by
     unfold Instr.field;rw [e1,run_bind_ok (bq hu)];simp only [hf];rw [run_bind_ok (s:=asAgg _) (x:=vs.toArray) (w':=c.w) rfl];unfold part;rw [run_bind_ok (sV hg)]
     cases g with
     | true=>
      simp only [pack,Y8] at p1;subst p1;simp only [if_true];rw [run_bind_ok (eu hk)];simp [List.extract_toArray,aa7]
     | false=>
      simp only [Y4,if_false];have hlen:=BU (g:=false) hmk
      match hl:(vs.drop fd.offset).take k,p1 with
      | [v0],p1=>
       simp only [pack,Y8] at p1;subst p1;have hv0:vs[fd.offset]? = some v0:=by
        have h0:((vs.drop fd.offset).take k)[0]? = some v0:=by rw [hl];rfl
        rw [ON] at h0
        split at h0
        ·simpa using h0
        ·simp at h0
       simp [hv0]
    rw [run_bind_ok this];rfl
   ·exact h.elim
  ·exact h.elim
 ·exact h.elim
theorem QG (r:Rel c w0 n gs st a) (hK:bf P Q q c w0 n gs st a o.dst K) {t e:TypeId} {m k:Nat} {g:Bool} {x i:Operand} {y j:Opd} (ho:o.op = .index t x i) (hu:P.underlying t=some (.array m e)) (hg:jq P e=some g) (hk:sizeT P e=some k)
  (hc1:ao x=some y) (hc2:ao i=some j) (h:WT P Q (step (.E8 g m k y j) st q xx)):o.wp P a c.w K Qx:=by
 simp only [step,al] at h
 split at h
 ·rename_i v ik jj hv1 hv2
  have e5:=aF r hc2 hv2;simp only [aD,aG] at e5
  split at h
  ·rename_i hag
   obtain ⟨vs,e1,e2⟩:=sX hag (aF r hc1 hv1);obtain ⟨hb,h⟩:=fC h;simp only [i9,decide_eq_true_eq] at hb
   split at h
   ·rename_i hle
    have hle:=Y0 hle
    split at h
    ·rename_i u hmk
     obtain ⟨gu,p1,p2⟩:=pU ((e2.drop (jj.toNat * k)).take k) hmk;refine aP r hK p2 h ?_;simp only [execOp,ho];have:(Instr.index t (a.eval x) (a.eval i)).run P c.w = .ok gu c.w:=by
      unfold Instr.index;rw [e1,e5,run_bind_ok (s:=asIntOf _) (x:=(ik,jj)) (w':=c.w) rfl];simp only [];rw [run_bind_ok (bq hu)];simp only [hb,and_self,if_true];rw [run_bind_ok (eu hk)];unfold part;rw [run_bind_ok (sV hg)]
      cases g with
      | true=>
       simp only [pack,Y8] at p1;subst p1;simp only [if_true];rw [run_bind_ok (eu hk)];simp [List.extract_toArray,aa7]
      | false=>
       simp only [Y4,if_false];have hlen:=BU (g:=false) hmk
       match hl:(vs.drop (jj.toNat * k)).take k,p1 with
       | [v0],p1=>
        simp only [pack,Y8] at p1;subst p1;have hv0:vs[jj.toNat * k]? = some v0:=by
         have h0:((vs.drop (jj.toNat * k)).take k)[0]? = some v0:=by rw [hl];rfl
         rw [ON] at h0
         split at h0
         ·simpa using h0
         ·simp at h0
        simp [hv0]
     rw [run_bind_ok this];rfl
    ·exact h.elim
   ·exact h.elim
  ·exact h.elim
 ·exact h.elim
end
end Uw
namespace Uw
open Go Go.RowKit
variable [Glob]
section
variable {P : Program} {Q : az -> St -> Prop} {q : V -> St -> Tree} {c : Cx} {w0 : World} {n : Nat} {gs : Fr} {st : St} {a : Act} {K : Act -> World -> Prop} {Qx : Exit -> Act -> World -> Prop} {o : Oper} {xx : az -> St -> Tree}
theorem Evo.heq {c:Cx} {h:Heap} (hh:∀i,look h i=look c.heap i):Evo c { c with heap:=h }:=by
 refine ⟨fun b o hi=>⟨?_,rfl⟩,fun id b hb=>⟨b,(hh id).trans hb,by cases b<;>simp [cD]⟩⟩
 rcases hi with hi|⟨h1,h2,h3⟩
 ·exact .inl hi
 ·exact .inr ⟨h1,h2,fun id blk hl hp hg=>h3 id blk ((hh id).symm.trans hl) hp hg⟩
theorem cz.heq {next:Nat} (r:cz c w0 next) {h:Heap} (hh:∀i,look h i=look c.heap i):cz { c with heap:=h } w0 next:=by
 have e:∀{id b},look h id=some b->look c.heap id=some b:=fun hl=>(hh _).symm.trans hl;exact ⟨r.below,r.other,r.kd,fun id b hl=>cj.evo (Evo.heq hh) rfl (fun _=>rfl) (r.blk id b (e hl)),fun id b hl=>r.lt id b (e hl),fun id b hl hp=>r.ge id b (e hl) hp,
  fun id id' b b' h1 h2 p1 p2 hg=>r.inj id id' b b' (e h1) (e h2) p1 p2 hg⟩
theorem Rel.heq (r:Rel c w0 n gs st a) {h:Heap} (hh:∀i,look h i=look st.heap i):Rel { c with heap:=h } w0 n gs { st with heap:=h } a:=
 r.evo (Evo.heq (by rw [r.heap];exact hh)) rfl (r.hrel.heq (by rw [r.heap];exact hh)) rfl rfl rfl (Ls _)
def V3 (q:V->St->Tree):V->St->Tree:=fun v st'=>.heq st'.heap fun h=>q v { st' with heap:=h }
theorem bf.heq {dst:Option Tmp} (hK:bf P Q q c w0 n gs st a dst K):bf P Q (V3 q) c w0 n gs st a dst K:=by
 intro c' st' v gv h1 h2 h3 h4 h5 h6;obtain ⟨h',hh,hw⟩:=h6;have hh' : ∀i,look h' i=look c'.heap i:=by rw [h3.heap];exact hh
 exact hK { c' with heap:=h' } { st' with heap:=h' } v gv h1 h2 (h3.heq hh) h4 (aD.evo (Evo.heq hh') v gv h5) hw
theorem wO {v:V} (h:WT P Q (q v st)):WT P Q (V3 q v st):=⟨st.heap,fun _=>rfl,h⟩
theorem M8 (r:Rel c w0 n gs st a) (hK:bf P Q q c w0 n gs st a o.dst K) {t:TypeId} {x:Operand} {y:Opd} (ho:o.op = .load t x) (hg:jq P t=some false) (hm:sizeT P t=some 1) (hc:ao x=some y)
  (h:WT P Q (step (.xT y) st q xx)):o.wp P a c.w K Qx:=by
 refine Jm (xx:=xx) r hK ho hg hm hc ?_;simp only [step,al] at h ⊢
 split at h
 ·rename_i id off hv
  split at h
  ·rename_i cs hl
   obtain ⟨v,hv',h⟩:=h;have hlt:off<cs.length:=by
    rcases ZG off cs.length with h|h
    ·exact h
    ·rw [Y2 h] at hv';cases hv'
   have e:(cs.drop off).take 1=[v]:=by
    rw [Zo hlt];rw [AN hlt] at hv';injection hv' with hv'
    rw [hv'];rfl
   have e2:Nat.ble (off+1) cs.length=true:=abj (by omega);simp only [hv,hl,e2,e,rl];exact h
  ·exact h.elim
 ·rename_i cs off hv
  simp only [hv];exact h
 ·exact h.elim
theorem KH {α:Type} (l:List α) (i:Nat) (x:α):setAt l i [x]=l.set i x:=rfl
theorem cells_one {v:V} (h:uT v=true):v.cells=[v]:=by
 cases v with
 | d x=>cases x<;>first|rfl|simp [uT] at h
 | agg cs=>simp [uT] at h
 | _=>rfl
theorem KI (r:Rel c w0 n gs st a) (hK:bf P Q q c w0 n gs st a o.dst K) {t:TypeId} {x1 x2:Operand} {y1 y2:Opd} (ho:o.op = .store t x1 x2) (hm:sizeT P t=some 1) (hc1:ao x1=some y1) (hc2:ao x2=some y2)
  (h:WT P Q (step (.yY y1 y2) st q xx)):o.wp P a c.w K Qx:=by
 refine FA (xx:=xx) r hK ho hm hc1 hc2 ?_;simp only [step,al,ay] at h ⊢
 split at h
 ·rename_i id off v hv1 hv2
  split at h
  ·rename_i cs hl h1
   simp only [WT] at h
   cases hd:decide (off<cs.length) with
   | false=>exact (h.2 hd).elim
   | true=>
    have h:=h.1 hd;have hd:=of_decide_eq_true hd;have e2:Nat.ble (off+1) cs.length=true:=abj (by omega);simp only [hv1,hv2,hl,cells_one h1,KH,e2];simp only [Y7,ZK,aat,List.all_nil,h1,Y9,ZQ,Bool.and_true];exact h
  ·exact h.elim
 ·exact h.elim
theorem QH (r:Rel c w0 n gs st a) (hK:bf P Q q c w0 n gs st a o.dst K) {t k e:TypeId} {kk:Option IntKind} {z:Dat} {x i:Operand} {y j:Opd} {ok:Bool} (ho:o.op = .lookup t x i ok) (ht:Bj P t=some (k,e,kk,z))
  (hc1:ao x=some y) (hc2:ao i=some j) (h:WT P Q (step (.Fe ok kk z y j) st q xx)):o.wp P a c.w K Qx:=by
 refine M7 (xx:=xx) r hK ho ht hc1 hc2 ?_;simp only [step] at h ⊢
 split at h
 ·rename_i id xd hv1 hv2
  obtain ⟨b,hl,h⟩:=h;simp only [hv1,hv2,hl]
  cases b with
  | map kk' es=>exact h
  | _=>exact h.elim
 ·exact h.elim
theorem M9 (r:Rel c w0 n gs st a) (hK:bf P Q q c w0 n gs st a o.dst K) {t k e:TypeId} {kk:Option IntKind} {z:Dat} {x i u:Operand} {y j l:Opd} (ho:o.op = .mapUpdate t x i u\/o.op = .insert t x i u) (ht:Bj P t=some (k,e,kk,z))
  (hc1:ao x=some y) (hc2:ao i=some j) (hc3:ao u=some l) (h:WT P Q (step (.Ff kk y j l) st q xx)):o.wp P a c.w K Qx:=by
 refine D7 (xx:=xx) r hK.heq ho ht hc1 hc2 hc3 ?_;simp only [step] at h ⊢
 split at h
 ·rename_i id xd v hv1 hv2 hv3
  split at h
  ·rename_i d hd
   obtain ⟨b,hl,h⟩:=h;simp only [hv1,hv2,hv3,hl,hd]
   cases b with
   | map kk' es=>exact h
   | _=>exact h.elim
  ·exact h.elim
 ·exact h.elim
theorem QI (r:Rel c w0 n gs st a) (hK:bf P Q q c w0 n gs st a o.dst K) {cl:Call} {x1 x2:Operand} {y1 y2:Opd} {t e:TypeId} {k bytes:Nat} (ho:o.op = .call cl) (hb:cl.callee = .builtin .append) (hx:cl.args.toList=[x1,x2]) (ht:cl.argTypes.toList=[t,t])
  (he:rn P t e k bytes) (hc1:ao x1=some y1) (hc2:ao x2=some y2) (h:WT P Q (step (.MC k bytes y1 y2) st q xx)):o.wp P a c.w K Qx:=by
 refine MX (m:=false) (xx:=xx) r hK.heq ho hb hx ht he hc1 hc2 ?_;simp only [step] at h ⊢
 split at h
 ·rename_i b y hv1 hv2
  split at h
  ·rename_i ys hs
   simp only [hv1,hv2,hs,Fh]
   split at h
   ·refine ⟨fun hd=>wO (h.1 hd),fun hd=>h.2 hd⟩
   ·rename_i k' xs
    split at h
    ·rename_i hk
     refine ⟨fun hx=>?_,fun hx=>(h.2 hx).elim⟩;obtain ⟨h1,h2⟩:=h.1 hx;refine ⟨fun hd=>?_,fun hd=>h2 hd⟩;obtain ⟨h3,h4⟩:=h1 hd;exact ⟨fun hy=>wO (h3 hy),fun hy=>wO (h4 hy)⟩
    ·exact h.elim
   ·rename_i id ver len
    obtain ⟨b,hl,h⟩:=h;simp only [hl]
    cases b with
    | arr k' xs=>exact h
    | _=>exact h.elim
   ·exact h.elim
  ·exact h.elim
 ·exact h.elim
theorem Na (r:Rel c w0 n gs st a) (hK:bf P Q q c w0 n gs st a o.dst K) {t e:TypeId} {bytes:Nat} {z:Dat} {x1 x2:Operand} {y1 y2:Opd} (ho:o.op = .makeSlice t x1 x2) (he:rn P t e 1 bytes) (hz:lX P e=some [z])
  (hc1:ao x1=some y1) (hc2:ao x2=some y2) (h:WT P Q (step (.Fb bytes z y1 y2) st q xx)):o.wp P a c.w K Qx:=by
 simp only [step] at h
 split at h
 ·rename_i l cp hv1 hv2
  have e1:=aF r hc1 hv1;have e2:=aF r hc2 hv2;simp only [aD,aG] at e1 e2;simp only [WT] at h
  cases hd:(decide (l=cp)&&decide (0<=l)&&decide (cp * (bytes:Int)<=70368744177664)) with
  | false=>exact (h.2 hd).elim
  | true=>
   obtain ⟨g1,g2⟩:=h.1 hd;simp only [i9,decide_eq_true_eq] at hd;obtain ⟨⟨rfl,d1⟩,d3⟩:=hd;obtain ⟨i,zv,zs',hi,hsz,hby,hzero,hzs,hzk⟩:=he.info;have hzs' : zs' = [z]:=by
    simp only [lX,hi,hzero] at hz;rw [hzs] at hz;injection hz
   subst hzs';have hpos:=he.pos;have hcb:l<=70368744177664:=by
    have:l * 1<=l * (bytes:Int):=aaV (by omega) (by omega);omega
   have lY:=nI zv.cells (by omega) l.toNat;rw [hzk] at lY;have hzr:=fh hzs c.w (Imm c);have hmc:(madeCells zv.cells (l.toNat * 1)).toList=(List.replicate l.toNat zv.cells.toList).flatten:=by
    rw [<- lY];simp [madeCells,hzk]
   have hrun:=run_make c.w t e i zv he.und hi hzero .i64 .i64 l l d1 (aar _) (by rw [hby,Int.mul_comm];omega) (by omega);rw [hsz] at hrun;have hex:(execOp a.eval o).run P c.w = .ok (.value (.slice (some ⟨c.w.heap.size,0,none⟩) l.toNat l.toNat)) (c.w.alloc (.cells (madeCells zv.cells (l.toNat * 1)) e)):=by
    simp only [execOp,ho,e1,e2];rw [run_bind_ok hrun];rfl
   by_cases h0:0<l
   ·have hV:aC c (List.replicate l.toNat (V.d z)) (madeCells zv.cells (l.toNat * 1)).toList:=by
     rw [hmc];have:=aC.ofL (aQ.replicate hzr l.toNat);simpa using this
    refine bP hex (hK (c.push st.next 0 (.var (List.replicate l.toNat (.d z))) (.cells (madeCells zv.cells (l.toNat * 1)) e)) _ (.row st.next l.toNat) _ rfl rfl (uZ r hV) rfl ?_ (g1 (by simpa using h0)));refine ⟨⟨_,by simp [Cx.push,aE];rfl⟩,?_,by omega⟩;simp [Cx.push]
   ·have hl0:l.toNat=0:=by omega
    have hvs:(madeCells zv.cells (l.toNat * 1)).toList=[]:=by rw [hmc,hl0];rfl
    obtain ⟨p1,p2⟩:=Jo r (k:=1) (xs:=[]) (vs:=madeCells zv.cells (l.toNat * 1)) (e:=e) (by simp) (by rw [hvs];simp [aQ]) (by rw [hvs];simp);refine bP hex (hK { c with w:=c.w.alloc (.cells (madeCells zv.cells (l.toNat * 1)) e) } st _ _ rfl rfl p1 rfl ?_ (g2 (by simpa using h0)));rw [hl0];exact p2
 ·exact h.elim
theorem ve {k:Nat}:∀{ps:List (Nat×Operand)} {qs:List (Nat×Opd)},nC ps=some qs->iZ (fun i=>some (i * k,k)) ps=some (qs.map fun y=>(y.1 * k,k,y.2))
 | [],qs,h=>by simp [nC] at h;subst h;rfl
 | (i,x)::ps,qs,h=>by
  unfold nC at h
  split at h
  ·rename_i y l hy hl
   simp at h;subst h;simp only [iZ,hy,ve hl,ZD]
  ·simp at h
theorem KJ (r:Rel c w0 n gs st a) (hK:bf P Q q c w0 n gs st a o.dst K) {t e:TypeId} {k len:Nat} {zs:List Dat} {ps:Array (Nat×Operand)} {qs:List (Nat×Opd)} (ho:o.op = .buildSlice t len ps) (hu:P.underlying t=some (.slice e)) (hk:sizeT P e=some k) (hkp:0<k) (hlp:0<len)
  (hz:lX P e=some zs) (hzl:zs.length=k) (hle:len * k<=16777216) (hq:nC ps.toList=some qs) (h:WT P Q (step (.yZ len ((List.replicate len zs).flatten) (qs.map fun y=>(y.1 * k,k,y.2))) st q xx)):o.wp P a c.w K Qx:=by
 simp only [step,al,aA] at h
 split at h
 ·rename_i cs hcs
  obtain ⟨z,hzv,hzd⟩:=uX (w:=c.w) hz;have hzk:z.cells.size=k:=by have:=qC hzd;simp at this;omega
  have hzr:=fh hzd c.w (Imm c);have lY:=nI z.cells (by omega) len;rw [hzk] at lY;obtain ⟨vs',g1,g2⟩:=Fz r ps.toList _ _ cs ((Array.range (len * k)).map (fun i=>z.cells[i % k]!)) (ve hq) (by rw [lY];exact aC.ofL (aQ.replicate hzr len)) hcs;refine bP (w':=c.w.alloc (.cells vs' e)) (gv:=.slice (some ⟨c.w.heap.size,0,none⟩) len len) ?_ (hK (c.push st.next 0 (.var cs) (.cells vs' e)) _ (.row st.next len) _ rfl rfl (uZ r g2) rfl ?_ h)
  ·simp only [execOp,ho]
   have:(Instr.buildSlice t len (ps.map fun (i,x)=>(i,a.eval x))).run P c.w = .ok (.slice (some ⟨c.w.heap.size,0,none⟩) len len) (c.w.alloc (.cells vs' e)):=by
    unfold Instr.buildSlice;rw [run_bind_ok (bq hu)];simp only [];rw [run_bind_ok (eu hk)];have hgt:¬len * k>2 ^ 24:=by omega
    simp only [hgt,if_false];have hps:(ps.map fun (i,x)=>(i,a.eval x)).toList=ps.toList.map fun (i,x)=>(i,a.eval x):=by simp
    have h0:¬len * k=0:=by
     have:=Nat.mul_pos hlp hkp;omega
    rw [if_neg h0];rw [run_bind_ok hzv];rw [run_bind_ok (s:=pure _) (x:=z.cells) (w':=c.w) rfl];simp only [hzk,hps,g1];rfl
   rw [run_bind_ok this];rfl
  ·refine ⟨⟨_,by simp [Cx.push,aE];rfl⟩,?_,hlp⟩
   simp [Cx.push]
 ·exact h.elim
end
end Uw
namespace Uw
open Go Go.RowKit
variable [Glob]
section
variable {P : Program} {Q : az -> St -> Prop} {q : V -> St -> Tree} {c : Cx} {w0 : World} {n : Nat} {gs : Fr} {st : St} {a : Act} {K : Act -> World -> Prop} {Qx : Exit -> Act -> World -> Prop} {o : Oper} {xx : az -> St -> Tree}
section
variable {nx : Nat} {J : Nat -> Nat -> Prop} (hh : cz c w0 nx) (hk : Keeps c.w c.w (Imm c) J)
include hh hk
theorem Nb {id ver off len k:Nat} {xs:List (List Dat)} {gv:Value} (hl:look c.heap id=some (.mt k ver xs)) (hnew:0<(c.pl id).cap->∀o,J (c.pl id).gb o) (h:aD c (.ref id ver off len) gv):aG c.w J (.slice k ((xs.drop off).take len) false) gv:=by
 simp only [aD,hl] at h;obtain ⟨_,_,h⟩:=h;obtain ⟨h1,h2⟩:=h rfl;have hlen:((xs.drop off).take len).length=len:=by simp;omega
 rcases h2 with ⟨h2,h3,_⟩|⟨b,o,h2,h3⟩
 ·exact .inl ⟨⟨_,h2,by simp⟩,YZ (by omega)⟩
 ·obtain ⟨b3,b4,bb⟩:=hh.blk id _ hl
  refine .inr ⟨b,o,(c.pl id).cap - off,by rw [hlen];exact h2,by rw [hlen];omega,by simp,?_⟩;by_cases hl0:len=0
  ·subst hl0;simp [bU]
  ·obtain ⟨vs,e,g1,g2,g3,g4⟩:=bb (by omega)
   obtain ⟨rfl,rfl⟩:=h3 (by omega);have hfl:=nF b4 off len (by omega);refine bU.of_flat (us:=((vs.toList.take (xs.length * k)).drop (off * k)).take (len * k)) (fun x hx=>b4 x (ZO (Zi hx))) ?_ ?_
   ·rw [hfl];exact aQ.keep hk _ _ ((g3.drop _).take _)
   ·intro j v hv
    refine ⟨?_,hnew (by omega) _,g4 v (ZO (Zi (Zf hv)))⟩;rw [ON] at hv
    split at hv
    ·rw [Y1,ON] at hv
     split at hv
     ·rw [bO g1];simpa using hv
     ·simp at hv
    ·simp at hv
end
theorem QJ (r:Rel c w0 n gs st a) (hK:bf P Q q c w0 n gs st a o.dst K) {cl:Call} {f:FuncId} {fn:Func} {ys:List Opd} (ho:o.op = .call cl) (eQ:cl.callee = .value (.func f)) (hf:P.funcs[f]? = some fn)
  (hb:fn.body.isSome=true) (hn:(fn.name == "runtime.NumGoroutine")=false) (hc:dF cl.args.toList=some ys) (h:WT P Q (step (.call f ys) st q xx)):o.wp P a c.w K Qx:=by
 simp only [step] at h
 split at h
 ·rename_i vs hvs
  split at h
  ·rename_i ds hds
   simp only [WT] at h;obtain ⟨res,hret,hq⟩:=h;rw [<- r.heap] at hds;have h1:=kX hds (jy r hc hvs);unfold Oper.wp;rw [wN ho eQ hf hb hn];have h2:=hret c.w (Imm c) _ r.hrel.glob h1;have e:(cl.args.toList.map a.eval).toArray=cl.args.map a.eval:=by
    rw [<- Z5]
   rw [e] at h2;refine h2.mono ?_;rintro e w' ⟨v,rfl,hv,hbel⟩;have hgrow:=r.grow hbel;refine hK { c with w:=w' } st (V.bX res) v rfl rfl hgrow rfl (aD.bX ?_) hq;refine aG.keep ?_ _ _ hv;intro b o' hj;refine ⟨?_,rfl⟩
   rcases hj with hj|⟨hj1,hj2⟩
   ·exact ((Evo.grow r.hrel hbel).keeps b o' hj).1
   ·refine .inr ⟨r.hrel.rN hj1,hj2,?_⟩
    intro id blk hl hph hg;have:=r.hrel.i6 hl hph;have hg' : (c.pl id).gb=b:=hg;omega
  ·split at h
   ·rename_i id ver off len rest _
    split at h
    ·rename_i k c8 xs ds hl hds
     replace h:=fC h
     obtain ⟨UK,h⟩:=h;have UK:=wt UK;subst UK;simp only [WT] at h;obtain ⟨res,hret,hq⟩:=h;rw [<- r.heap] at hds hl;have ho2:=jy r hc hvs;obtain ⟨u,us,hus,r1,r2⟩:=ho2;have hkJ:Keeps c.w c.w (Imm c) (fun b o=>Imm c b o\/b=(c.pl id).gb):=fun b o hi=>⟨.inl hi,rfl⟩
     have h1:aQ c.w (fun b o=>Imm c b o\/b=(c.pl id).gb) (.slice k ((xs.drop off).take len) false::ds) (cl.args.toList.map a.eval):=by
      rw [hus];exact ⟨u,us,rfl,Nb r.hrel hkJ hl (fun _ _=>.inr rfl) r1,aQ.keep hkJ _ _ (kX hds r2)⟩
     unfold Oper.wp;rw [wN ho eQ hf hb hn];have h2:=hret c.w _ _ r.hrel.glob h1;have e:(cl.args.toList.map a.eval).toArray=cl.args.map a.eval:=by
      rw [<- Z5]
     rw [e] at h2;refine h2.mono ?_;rintro e w' ⟨v,rfl,hv,hbel⟩;have hgrow:=r.grow hbel
     split at hq
     ·rename_i bb
      have hv:v = .bool bb:=hv;subst hv;exact hK { c with w:=w' } st (.d (.bool bb)) _ rfl rfl hgrow rfl (by simp [aD,aG]) hq
     ·exact hq.elim
    ·exact h.elim
   ·exact h.elim
 ·exact h.elim
theorem rQ {P:Program} {t e:TypeId} {k bytes:Nat} {zs:List Dat} (h:BP P t=some (e,k,bytes,zs)):rn P t e k bytes/\0<k/\sizeT P e=some k/\lX P e=some zs/\zs.length=k:=by
 unfold BP at h
 split at h
 ·rename_i e' hu
  split at h
  ·rename_i i hi
   split at h
   ·rename_i z hz
    split at h
    ·rename_i zs' hzs
     split at h
     ·rename_i hb
      simp only [i9] at hb;simp at h;obtain ⟨rfl,rfl,rfl,rfl⟩:=h;have h1:=wt hb.1.1.1;have h2:=wt hb.1.1.2;refine ⟨⟨hu,⟨i,z,zs',hi,rfl,rfl,hz,hzs,h1⟩,by simpa using hb.2⟩,by simpa using hb.1.2,by simp [sizeT,hi],by simp [lX,hi,hz,hzs],h2⟩
     ·simp at h
    ·simp at h
   ·simp at h
  ·simp at h
 ·simp at h
theorem step_ok (r:Rel c w0 n gs st a) {mo:MOp} {pol:Pol} (hc:D1 P pol o=some mo) (hD:Jp P Q q c w0 n gs st a o.dst K) (hX:zj P Q xx c w0 n gs st a Qx) (h:WT P Q (step mo st q xx)):o.wp P a c.w K Qx:=by
 have hK:=hD.ok;unfold D1 at hc
 split at hc
 ·rename_i x ho
  simp only [Pe] at hc;obtain ⟨y,hy,rfl⟩:=hc;exact MK r hK (.inl ho) hy h
 ·rename_i x ho
  simp only [Pe] at hc;obtain ⟨y,hy,rfl⟩:=hc;exact MK r hK (.inr ho) hy h
 ·rename_i x1 x2 x3 ho
  split at hc
  ·rename_i y1 y2 y3 h1 h2 h3
   simp at hc;subst hc;exact Qm r hK ho h1 h2 h3 h
  ·simp at hc
 ·rename_i t x ho
  simp only [Pe] at hc;obtain ⟨y,hy,rfl⟩:=hc;exact TV r hK ho hy h
 ·rename_i t ho
  simp only [Pe] at hc;obtain ⟨zs,hz,rfl⟩:=hc;exact ML r hK ho hz h
 ·rename_i t ps ho
  split at hc
  ·rename_i place zs hp hz
   simp only [Pe] at hc;obtain ⟨qs,hq,rfl⟩:=hc;exact MN r hK ho hp hz hq h
  ·simp at hc
 ·rename_i t x ho
  split at hc
  ·rename_i g m y h1 h2 h3
   split at hc
   ·rename_i hf
    simp only [i9,ZC] at hf;have hm1:=wt hf.2;have hg1:=hf.1.2;subst hm1 hg1;simp at hc;subst hc;exact M8 r hK ho h1 h2 h3 h
   ·simp at hc;subst hc
    exact Jm r hK ho h1 h2 h3 h
  ·simp at hc
 ·rename_i t x1 x2 ho
  split at hc
  ·rename_i m y1 y2 h1 h2 h3
   split at hc
   ·rename_i hf
    simp only [i9] at hf;have hm1:=wt hf.2;subst hm1;simp at hc;subst hc;exact KI r hK ho h1 h2 h3 h
   ·simp at hc;subst hc
    exact FA r hK ho h1 h2 h3 h
  ·simp at hc
 ·rename_i x ho
  simp only [Pe] at hc;obtain ⟨y,hy,rfl⟩:=hc;exact MP r hK ho hy h
 ·rename_i s x f ho
  split at hc
  ·rename_i fs hu
   split at hc
   ·rename_i fd hf
    split at hc
    ·rename_i m y h1 h2
     simp at hc;subst hc;exact TX r hK ho hu hf h1 h2 h
    ·simp at hc
   ·simp at hc
  ·simp at hc
 ·rename_i t x i ho
  split at hc
  ·rename_i e hu
   split at hc
   ·rename_i k y j h1 h2 h3
    simp at hc;subst hc;exact TY r hK ho hu h1 h2 h3 h
   ·simp at hc
  ·rename_i m e hu
   split at hc
   ·rename_i k y j h1 h2 h3
    simp at hc;subst hc;exact Qv r hK ho hu h1 h2 h3 h
   ·simp at hc
  ·simp at hc
 ·rename_i t x i ho
  split at hc
  ·rename_i hu
   split at hc
   ·rename_i y j h2 h3
    simp at hc;subst hc;exact Qn r hK ho hu h2 h3 h
   ·simp at hc
  ·rename_i m e hu
   split at hc
   ·rename_i g k y j h0 h1 h2 h3
    simp at hc;subst hc;exact QG r hK ho hu h0 h1 h2 h3 h
   ·simp at hc
  ·simp at hc
 ·rename_i t ho
  split at hc
  ·rename_i k e kk z ht
   simp at hc;subst hc;exact M6 r hK ho h
  ·simp at hc
 ·rename_i t x i ok ho
  split at hc
  ·rename_i k e kk z y j ht h1 h2
   split at hc
   ·simp at hc;subst hc
    exact QH r hK ho ht h1 h2 h
   ·simp at hc;subst hc
    exact M7 r hK ho ht h1 h2 h
  ·simp at hc
 ·rename_i t x i u ho
  split at hc
  ·rename_i k e kk z y j l ht h1 h2 h3
   split at hc
   ·simp at hc;subst hc
    exact M9 r hK (.inl ho) ht h1 h2 h3 h
   ·simp at hc;subst hc
    exact D7 r hK (.inl ho) ht h1 h2 h3 h
  ·simp at hc
 ·rename_i t x i u ho
  split at hc
  ·rename_i k e kk z y j l ht h1 h2 h3
   simp at hc;subst hc;exact D7 r hK (.inr ho) ht h1 h2 h3 h
  ·simp at hc
 ·rename_i t x ho
  split at hc
  ·rename_i hu
   simp only [Pe] at hc;obtain ⟨y,hy,rfl⟩:=hc;exact UH r hK ho hu hy h
  ·simp at hc
 ·rename_i x ho
  simp only [Pe] at hc;obtain ⟨y,hy,rfl⟩:=hc;exact UI r hK ho hy h
 ·rename_i op t x1 x2 t' ho
  split at hc
  ·rename_i y1 y2 hu h1 h2
   split at hc
   ·simp at hc;subst hc
    exact jv r hK ho (by simp) hu h1 h2 h
   ·simp at hc;subst hc
    exact jv r hK ho (by simp) hu h1 h2 h
   ·simp at hc
  ·rename_i k y1 y2 hu h1 h2
   simp at hc;subst hc;exact MR r hK ho h1 h2 h
  ·rename_i y1 y2 hu h1 h2
   simp at hc;subst hc;exact MR r hK ho h1 h2 h
  ·rename_i e y1 y2 hu h1 h2
   split at hc
   ·rename_i hn
    simp at hc;subst hc;exact M3 r hK ho (by simp) hu hn h1 h
   ·rename_i hn
    simp at hc;subst hc;exact M3 r hK ho (by simp) hu hn h1 h
   ·simp at hc
  ·rename_i ms y1 y2 hu h1 h2
   split at hc
   ·rename_i hn
    simp at hc;subst hc;exact M4 r hK ho (by simp) hu hn h1 h
   ·rename_i hn
    simp at hc;subst hc;exact M4 r hK ho (by simp) hu hn h1 h
   ·simp at hc
  ·rename_i fs y1 y2 hu h1 h2
   split at hc
   ·rename_i ks hn
    simp at hc;subst hc;exact M5 r hK ho (by simp) hn h1 h2 h
   ·rename_i ks hn
    simp at hc;subst hc;exact M5 r hK ho (by simp) hn h1 h2 h
   ·simp at hc
  ·simp at hc
 ·rename_i t x ho
  simp only [Pe] at hc;obtain ⟨y,hy,rfl⟩:=hc;exact T8 r hK ho hy h
 ·rename_i s d x ho
  split at hc
  ·rename_i k' k hs hd
   simp only [Pe] at hc;obtain ⟨y,hy,rfl⟩:=hc;exact Qr r hK ho hs hd hy h
  ·rename_i e hs hd
   split at hc
   ·rename_i he
    simp only [Pe] at hc;obtain ⟨y,hy,rfl⟩:=hc;exact UJ r hK ho hs hd he hy h
   ·simp at hc
  ·simp at hc
 ·rename_i cl ho
  split at hc
  ·rename_i eQ
   split at hc
   ·rename_i x t hx ht
    split at hc
    ·rename_i e hu
     simp only [Pe] at hc;obtain ⟨y,hy,rfl⟩:=hc;exact MQ r hK ho eQ hx ht (by simpa using ⟨e,hu⟩) hy h
    ·rename_i hu
     simp only [Pe] at hc;obtain ⟨y,hy,rfl⟩:=hc;exact MQ r hK ho eQ hx ht (by simpa using hu) hy h
    ·rename_i k e hu
     simp only [Pe] at hc;obtain ⟨y,hy,rfl⟩:=hc;exact QE r hK ho eQ hx ht hu hy h
    ·simp at hc
   ·simp at hc
  ·rename_i eQ
   split at hc
   ·rename_i x y hx
    split at hc
    ·rename_i x' y' h1 h2
     simp at hc;subst hc;exact S8 (mx:=false) r hK ho (by simpa using eQ) hx h1 h2 h
    ·simp at hc
   ·simp at hc
  ·rename_i eQ
   split at hc
   ·rename_i x y hx
    split at hc
    ·rename_i x' y' h1 h2
     simp at hc;subst hc;exact S8 (mx:=true) r hK ho (by simpa using eQ) hx h1 h2 h
    ·simp at hc
   ·simp at hc
  ·rename_i eQ
   split at hc
   ·rename_i x y t t' hx ht
    split at hc
    ·rename_i e k bytes zs x' y' hbt hel h1 h2
     have hbt:=wt hbt;subst hbt
     split at hc
     ·simp at hc;subst hc
      exact QI r hK ho eQ hx ht (rQ hel).1 h1 h2 h
     ·simp at hc;subst hc
      exact MX r hK ho eQ hx ht (rQ hel).1 h1 h2 h
    ·simp at hc
   ·simp at hc
  ·rename_i f eQ
   split at hc
   ·rename_i fn hf
    split at hc
    ·rename_i hb
     simp only [i9,ZC] at hb
     split at hc
     ·simp only [Pe] at hc
      obtain ⟨ys,hy,rfl⟩:=hc;exact UE r hK hX ho eQ hf hb.1 hb.2 hy h
     ·simp only [Pe] at hc
      obtain ⟨ys,hy,rfl⟩:=hc;exact QJ r hK ho eQ hf hb.1 hb.2 hy h
    ·simp at hc
   ·simp at hc
  ·rename_i t eQ
   simp only [Pe] at hc;obtain ⟨ys,hy,rfl⟩:=hc;exact Qy r hK hX ho eQ hy h
  ·rename_i eQ
   split at hc
   ·rename_i x y t t' hx ht
    split at hc
    ·rename_i e k bytes zs e' x' y' hel hu h1 h2
     simp at hc;subst hc;exact QB r hK ho eQ hx ht (rQ hel).1 h1 h2 h
    ·simp at hc
   ·simp at hc
  ·simp at hc
 ·rename_i f fs cs ho
  split at hc
  ·rename_i fs' cs' h1 h2
   simp at hc;subst hc;exact Qz r hK ho h1 h2 h
  ·simp at hc
 ·rename_i cl ho
  split at hc
  ·rename_i t eQ
   simp only [Pe] at hc;obtain ⟨ys,hy,rfl⟩:=hc;exact FH r hD ho eQ rfl hy h
  ·rename_i f eQ
   simp only [Pe] at hc;obtain ⟨ys,hy,rfl⟩:=hc;exact FH r hD ho eQ rfl hy h
  ·simp at hc
 ·rename_i x ho
  simp only [Pe] at hc;obtain ⟨y,hy,rfl⟩:=hc;exact M1 r hX ho hy h
 ·rename_i t x ho
  split at hc
  ·rename_i y ht h1
   simp at hc;subst hc;exact QA r hK ho ht h1 h
  ·simp at hc
 ·rename_i x xt t ho
  split at hc
  ·rename_i z y ht hz h1
   simp at hc;subst hc;exact UF r hK ho ht hz h1 h
  ·simp at hc
 ·rename_i x i ho
  simp only [Pe] at hc;obtain ⟨y,hy,rfl⟩:=hc;exact T9 r hK ho hy h
 ·rename_i s x f ho
  split at hc
  ·rename_i fs hu
   split at hc
   ·rename_i fd hf
    split at hc
    ·rename_i g k y h0 h1 h2
     simp at hc;subst hc;exact QF r hK ho hu hf h0 h1 h2 h
    ·simp at hc
   ·simp at hc
  ·simp at hc
 ·rename_i t len ps ho
  split at hc
  ·rename_i e k bytes zs qs hel hq
   split at hc
   ·rename_i hle
    obtain ⟨g1,g2,g3,g4,g5⟩:=rQ hel
    split at hc
    ·rename_i hf
     rw [i9] at hf;have hlp:0<len:=by
      have:=hf.2;simpa using this
     simp only [Y8] at hc;subst hc;exact KJ r hK ho g1.und g3 g2 hlp g4 g5 (Y0 hle) hq h
    ·split at hc
     ·simp at hc;subst hc
      exact MZ r hK ho g1.und g3 g2 g4 g5 (Y0 hle) hq h
     ·simp at hc;subst hc
      exact KG r hK ho g1.und g3 g2 g4 g5 (Y0 hle) hq h
   ·simp at hc
  ·simp at hc
 ·rename_i t l cp ho
  split at hc
  ·rename_i e k bytes zs l' cp' hel h1 h2
   obtain ⟨g1,g2,g3,g4,g5⟩:=rQ hel
   split at hc
   ·rename_i z hf
    simp only [i9] at hf;have hk1:=wt hf.2;subst hk1;simp at hc;subst hc;exact Na r hK ho g1 g4 h1 h2 h
   ·simp at hc;subst hc
    exact Qw r hK ho g1 g2 g4 g5 h1 h2 h
  ·simp at hc
 ·rename_i t x lo hi ho
  split at hc
  ·rename_i hu
   split at hc
   ·rename_i x' lo' hi' h1 h2 h3
    simp at hc;subst hc;exact MY r hK ho hu h1 h2 h3 h
   ·simp at hc
  ·rename_i e hu
   split at hc
   ·rename_i k x' lo' hi' h0 h1 h2 h3
    simp at hc;subst hc;exact V1 r hK ho hu h0 h1 h2 h3 h
   ·simp at hc
  ·simp at hc
 ·rename_i t x lo hi mx ho
  split at hc
  ·rename_i e hu
   split at hc
   ·rename_i k x' lo' hi' mx' h0 h1 h2 h3 h4
    simp at hc;subst hc;exact UB r hK ho hu h0 h1 h2 h3 h4 h
   ·simp at hc
  ·simp at hc
 ·simp at hc
end
end Uw
namespace Uw
open Go Go.RowKit
variable [Glob]
theorem Nc {t:Array Value} {d i:Nat} {v:Value} (hd:d<t.size):(t.setIfInBounds d v).getD i undef=if d=i then v else t.getD i undef:=by
 simp only [Zy,aah];by_cases h:d=i
 ·subst h;simp [hd]
 ·simp [h]
theorem Rel.put {c:Cx} {w0:World} {n:Nat} {gs:Fr} {st:St} {a:Act} (r:Rel c w0 n gs st a) {dst:Option Nat} (hd:(match dst with|some d=>Nat.blt d n|none=>true)=true) {v:V} {gv:Value} (hv:aD c v gv) :
  Rel c w0 n gs (put dst v st) (a.put dst gv):=by
 cases dst with
 | none=>exact r
 | some d=>
  have hd:d<n:=by simpa using hd
  refine ⟨r.heap,r.hrel,by simp [Act.put,r.size],?_,r.frames,r.nD,r.base,r.defers⟩;intro i x hx;simp only [Uw.put,aE] at hx;simp only [Act.put];rw [Nc (by rw [r.size];exact hd)];by_cases h:d=i
  ·rw [if_pos h] at hx ⊢;injection hx with hx;subst hx;exact hv
  ·rw [if_neg h] at hx ⊢;exact r.regs i x hx
theorem Rel.known {c:Cx} {w0:World} {n:Nat} {gs:Fr} {st:St} {a:Act} (r:Rel c w0 n gs st a) {t:Nat} {v:V} (hv:aD c v (a.tmps.getD t undef)):Rel c w0 n gs (Uw.put (some t) v st) a:=by
 refine ⟨r.heap,r.hrel,r.size,?_,r.frames,r.nD,r.base,r.defers⟩;intro i x hx;simp only [Uw.put,aE] at hx;by_cases h:t=i
 ·rw [if_pos h] at hx;injection hx with hx;subst hx;subst h;exact hv
 ·rw [if_neg h] at hx;exact r.regs i x hx
def gY (mode:Option (Nat×Bool×Bool)) (st:St):Prop:=∀t want hold,mode=some (t,want,hold)->∃b,look st.regs t=some (.d (.bool b))/\(b == want)=hold
theorem gY.put {mode:Option (Nat×Bool×Bool)} {st st' : St} (h:gY mode st) (hr:st'.regs=st.regs) (dst:Option Nat) (v:V):gY (fB dst mode) (Uw.put dst v st'):=by
 intro t want hold hm;unfold fB at hm
 split at hm
 ·rename_i d t' want' hold'
  split at hm
  ·simp at hm
  ·rename_i hb
   simp at hm;obtain ⟨rfl,rfl,rfl⟩:=hm;obtain ⟨b,hb1,hb2⟩:=h _ _ _ rfl;refine ⟨b,?_,hb2⟩;simp only [Uw.put,aE,hr];rw [if_neg]
   ·exact hb1
   ·intro e;subst e;simp at hb
 ·rename_i m hne
  obtain ⟨b,hb1,hb2⟩:=h _ _ _ hm;refine ⟨b,?_,hb2⟩
  cases dst with
  | none=>simp [Uw.put,hr,hb1]
  | some d=>
   cases mode with
   | none=>simp at hm
   | some x=>obtain ⟨a1,a2,a3⟩:=x;exact (hne d a1 a2 a3 rfl rfl).elim
def Came (P:Program) (Q:az->St->Prop) (q:az->St->Tree) (c:Cx) (w0:World) (n:Nat) (gs:Fr) (e:Exit) (a' : Act) (w' : World):Prop:=
 ∃c' me st',c'.B=c.B/\c'.J0=c.J0/\c'.w=w'/\bu c' e me/\Rel c' w0 n gs st' a'/\WT P Q (q me st')
theorem D8 {P:Program} {Q:az->St->Prop} {q:az->St->Tree} {c:Cx} {w0:World} {n:Nat} {gs:Fr}:¬LetsOut (Came P Q q c w0 n gs):=by
 rintro ⟨a,w,c',me,st',_,_,_,h,_⟩
 cases me<;>exact h
theorem uj {P:Program} {n:Nat} {pol:Pol} {ops:List Oper} {Q:az->St->Prop} {q:az->St->Tree} {w0:World} {gs:Fr} {c0:Cx} :
  ∀(l:List Oper) (mi:List MI) (mode:Option (Nat×Bool×Bool)) (c:Cx) (st:St) (a:Act),da P n pol ops l=some mi->c.B=c0.B->c.J0=c0.J0->Rel c w0 n gs st a->gY mode st->WT P Q (cN mi mode st q)->
   wpList P ops.toArray (Came P Q q c0 w0 n gs) l a c.w:=by
 intro l
 induction l with
 | nil=>
  intro mi mode c st a hc hB hJ r hm h;simp [da] at hc;subst hc;exact ⟨c,.normal,st,hB,hJ,rfl,trivial,r,h⟩
 | cons o l ih=>
  intro mi mode c st a hc hB hJ r hm h;unfold da at hc
  split at hc
  ·rename_i g m mi' hg ho hl hd
   simp at hc;subst hc;simp only [rJ,qw,DZ] at h
   -- what each way comes to
   have run:∀(ke : Option (Nat×Bool×Bool)) (st1:St),Rel c w0 n gs st1 a->(∀(v:V) (st2:St),st2.regs=st1.regs->gY ke (Uw.put o.dst v st2))->
     WT P Q (step m st1 (fun v st'=>cN mi' ke (Uw.put o.dst v st') q) q)->∀(K:Act->World->Prop),(∀a w,wpList P ops.toArray (Came P Q q c0 w0 n gs) l a w->K a w)->o.wp P a c.w K (Came P Q q c0 w0 n gs):=by
    intro ke st1 r1 hm' hw K hK;refine step_ok r1 ho ?_ ?_ hw
    ·intro c' st' a' v gv hB' hJ' htm r' xZ hv hq
     exact hK _ _ (ih mi' ke c' _ _ hl (hB'.trans hB) (hJ'.trans hJ) (r'.put hd hv) (hm' v st' xZ) hq)
    ·intro c' st' d ch hB' hJ' r' _ hex hq
     exact ⟨c',.panic d,st',hB'.trans hB,hJ'.trans hJ,rfl,hex,r',hq⟩
   have skip:∀(ke : Option (Nat×Bool×Bool)) (st1:St),Rel c w0 n gs st1 a->gY ke (Uw.put o.dst (.tuple []) st1)->WT P Q (cN mi' ke (Uw.put o.dst (.tuple []) st1) q)->
     wpList P ops.toArray (Came P Q q c0 w0 n gs) l (a.put o.dst undef) c.w:=by
    intro ke st1 r1 hm' hw;exact ih mi' ke c _ _ hl hB hJ (r1.put hd (v:=.tuple []) (by simp [aD,aC,undef])) hm' hw
   refine wpList_step fun K hK=>?_
   cases hgo:o.guard with
   | none=>
    rw [hgo] at hg;simp [y8] at hg;subst hg;simp only [Region.wanted,hgo,if_true];exact run none st r (fun v st2 _=>by intro t w' h' hh;simp at hh) h K hK
   | some jb=>
    obtain ⟨j,want⟩:=jb;rw [hgo] at hg;unfold y8 at hg
    split at hg
    ·simp at *
    ·rename_i j' b' heq
     simp at heq;obtain ⟨rfl,rfl⟩:=heq
     split at hg
     ·rename_i oj hoj
      split at hg
      ·rename_i t ht
       simp at hg;subst hg;simp only at h;have hy:∀b,look st.regs t=some (.d (.bool b))->Region.wanted o (yielded ops.toArray a.tmps)=(b == want):=by
        intro b hb;have e:=r.regs t _ hb;simp only [aD,aG] at e;have ey:yielded ops.toArray a.tmps j=some b:=by
         have e' : a.tmps[t]? = some (.bool b):=by
          rw [Zy] at e
          cases hq:a.tmps[t]? with
          | none=>rw [hq] at e;simp [undef] at e
          | some u=>rw [hq] at e;simp at e;rw [e]
         unfold yielded;simp [hoj,ht,e']
        simp only [Region.wanted,hgo,ey]
        cases b<;>cases want<;>rfl
       cases hdec:decided mode t want with
       | some hold=>
        have:∃b,look st.regs t=some (.d (.bool b))/\(b == want)=hold:=by
         unfold decided at hdec
         split at hdec
         ·rename_i t' want' hold'
          split at hdec
          ·rename_i hbb
           simp at hdec;subst hdec;rw [i9] at hbb;have e1:=wt hbb.1;have e2:want=want':=by simpa using hbb.2
           subst e1 e2;exact hm _ _ _ rfl
          ·simp at hdec
         ·simp at hdec
        obtain ⟨b,hb1,hb2⟩:=this;simp only [hdec] at h;rw [hy b hb1,hb2]
        cases hold with
        | true=>exact run _ st r (fun v st2 hr=>hm.put hr _ _) h K hK
        | false=>exact hK _ _ (skip _ st r (hm.put rfl _ _) h)
       | none=>
        simp only [hdec] at h
        split at h
        ·rename_i b hb
         have e:=r.regs t _ hb;simp only [aD,aG] at e;rw [hy b hb];simp only [WT] at h
         cases hbw:(b == want) with
         | true=>
          have H9 : b=want:=by simpa using hbw
          subst H9;have r1:Rel c w0 n gs (Uw.put (some t) (.d (.bool b)) st) a:=r.known (by simp [aD,aG,e]);refine run _ _ r1 ?_ (h.1 hbw) K hK;intro v st2 hr;refine gY.put (st:=Uw.put (some t) (.d (.bool b)) st) ?_ hr _ _;intro t' w' h' hh;simp at hh;obtain ⟨rfl,rfl,rfl⟩:=hh;exact ⟨b,by simp [Uw.put,aE],by simp⟩
         | false=>
          have H9 : b = !want:=by cases b<;>cases want<;>simp_all
          subst H9;have r1:Rel c w0 n gs (Uw.put (some t) (.d (.bool (!want))) st) a:=r.known (by simp [aD,aG,e]);refine hK _ _ (skip _ _ r1 ?_ (h.2 hbw));refine gY.put (st:=Uw.put (some t) (.d (.bool (!want))) st) ?_ rfl _ _;intro t' w' h' hh;simp at hh;obtain ⟨rfl,rfl,rfl⟩:=hh;exact ⟨!want,by simp [Uw.put,aE],by cases want<;>rfl⟩
        ·rename_i hb
         have e:=r.regs t _ hb;have ey:yielded ops.toArray a.tmps j=none:=by
          simp [aD,aC] at e;unfold yielded
          cases hq:a.tmps[t]? with
          | none=>simp [hoj,ht,hq]
          | some u=>rw [hq] at e;simp at e;simp [hoj,ht,hq,e]
         have hw:Region.wanted o (yielded ops.toArray a.tmps)=false:=by simp only [Region.wanted,hgo,ey];cases want<;>rfl
         rw [hw];exact hK _ _ (skip _ st r (hm.put rfl _ _) h)
        ·exact h.elim
      ·simp at hg
     ·simp at hg
  ·simp at hc
end Uw
namespace Uw
open Go Go.RowKit
variable [Glob]
def Sel {α:Type} (P:Program) (T:(α->Tree)->Tree):Prop:=
 ∀(Q:az->St->Prop) (f:α->Tree),WT P Q (T f)->∃x,WT P Q (f x)/\∀(Q' : az->St->Prop) (f' : α->Tree),WT P Q' (f' x)->WT P Q' (T f')
section
variable {P : Program} {α β : Type}
theorem Sel.pure (x:α):Sel P (fun f=>f x):=fun Q f h=>⟨x,h,fun Q' f' h'=>h'⟩
theorem Sel.fail:Sel (α:=α) P (fun _=>Tree.fail):=fun Q f h=>h.elim
theorem Sel.test {b:Bool} {T1 T2:(α->Tree)->Tree} (h1:Sel P T1) (h2:Sel P T2):Sel P (fun f=>Tree.test b (T1 f) (T2 f)):=by
 intro Q f h;simp only [WT] at h
 cases b with
 | true=>
  obtain ⟨x,g1,g2⟩:=h1 Q f (h.1 rfl);exact ⟨x,g1,fun Q' f' h'=>⟨fun _=>g2 Q' f' h',fun hb=>by cases hb⟩⟩
 | false=>
  obtain ⟨x,g1,g2⟩:=h2 Q f (h.2 rfl);exact ⟨x,g1,fun Q' f' h'=>⟨fun hb=>(by cases hb),fun _=>g2 Q' f' h'⟩⟩
theorem Sel.elem {xs:List (List Dat)} {i:Nat} {T:List Dat->(α->Tree)->Tree} (h1:∀c,Sel P (T c)):Sel P (fun f=>Tree.elem xs i (fun c=>T c f)):=by
 intro Q f h;obtain ⟨c,hc,h⟩:=h;obtain ⟨x,g1,g2⟩:=h1 c Q f h;exact ⟨x,g1,fun Q' f' h'=>⟨c,hc,g2 Q' f' h'⟩⟩
theorem Sel.byte {xs:List UInt8} {i:Nat} {T:UInt8->(α->Tree)->Tree} (h1:∀c,Sel P (T c)):Sel P (fun f=>Tree.byte xs i (fun c=>T c f)):=by
 intro Q f h;obtain ⟨c,hc,h⟩:=h;obtain ⟨x,g1,g2⟩:=h1 c Q f h;exact ⟨x,g1,fun Q' f' h'=>⟨c,hc,g2 Q' f' h'⟩⟩
theorem Sel.val {o:Option Dat} {T:Dat->(α->Tree)->Tree} (h1:∀c,Sel P (T c)):Sel P (fun f=>Tree.val o (fun c=>T c f)):=by
 intro Q f h;obtain ⟨c,hc,h⟩:=h;obtain ⟨x,g1,g2⟩:=h1 c Q f h;exact ⟨x,g1,fun Q' f' h'=>⟨c,hc,g2 Q' f' h'⟩⟩
theorem Sel.blk {o:Option Blk} {T:Blk->(α->Tree)->Tree} (h1:∀c,Sel P (T c)):Sel P (fun f=>Tree.blk o (fun c=>T c f)):=by
 intro Q f h;obtain ⟨c,hc,h⟩:=h;obtain ⟨x,g1,g2⟩:=h1 c Q f h;exact ⟨x,g1,fun Q' f' h'=>⟨c,hc,g2 Q' f' h'⟩⟩
theorem Sel.A7 {o:Option V} {T:V->(α->Tree)->Tree} (h1:∀c,Sel P (T c)):Sel P (fun f=>Tree.A7 o (fun c=>T c f)):=by
 intro Q f h;obtain ⟨c,hc,h⟩:=h;obtain ⟨x,g1,g2⟩:=h1 c Q f h;exact ⟨x,g1,fun Q' f' h'=>⟨c,hc,g2 Q' f' h'⟩⟩
theorem Sel.call {g:FuncId} {ds:List Dat} {T:Dat->(α->Tree)->Tree} (h1:∀c,Sel P (T c)):Sel P (fun f=>Tree.call g ds (fun c=>T c f)):=by
 intro Q f h;obtain ⟨c,hc,h⟩:=h;obtain ⟨x,g1,g2⟩:=h1 c Q f h;exact ⟨x,g1,fun Q' f' h'=>⟨c,hc,g2 Q' f' h'⟩⟩
theorem Sel.fit {k:IntKind} {n:Int} {T:Int->(α->Tree)->Tree} (h1:∀m,Sel P (T m)):Sel P (fun f=>fit k n (fun m=>T m f)):=Sel.test (h1 _) (h1 _)
theorem Sel.lN {op:BinOp} {k:IntKind} {a b:Int} {T:Dat->(α->Tree)->Tree} (h1:∀d,Sel P (T d)):Sel P (fun f=>lN op k a b (fun d=>T d f)):=by
 cases op with
 | add=>exact Sel.fit fun _=>h1 _
 | sub=>exact Sel.fit fun _=>h1 _
 | mul=>exact Sel.fit fun _=>h1 _
 | quo=>exact Sel.test Sel.fail (Sel.fit fun _=>h1 _)
 | rem=>exact Sel.test Sel.fail (h1 _)
 | shl=>exact Sel.fail
 | shr=>exact Sel.fail
 | _=>exact h1 _
theorem Sel.mT {op:BinOp} {a b:List UInt8} {T:Dat->(α->Tree)->Tree} (h1:∀d,Sel P (T d)):Sel P (fun f=>mT op a b (fun d=>T d f)):=by
 cases op with
 | add=>exact Sel.test (h1 _) Sel.fail
 | sub=>exact Sel.fail
 | mul=>exact Sel.fail
 | quo=>exact Sel.fail
 | rem=>exact Sel.fail
 | shl=>exact Sel.fail
 | shr=>exact Sel.fail
 | and=>exact Sel.fail
 | or=>exact Sel.fail
 | xor=>exact Sel.fail
 | andNot=>exact Sel.fail
 | _=>exact h1 _
end
theorem ap {st st' : St} {y:Opd} (h:∀t∈y.tmps,look st'.regs t=look st.regs t):y.ev st' = y.ev st:=by
 cases y with
 | t n=>simp only [Opd.ev,h n (by simp [Opd.tmps])]
 | c d=>rfl
theorem eI {st st' : St}:∀{ys:List Opd},(∀t∈ip ys,look st'.regs t=look st.regs t)->dT st' ys=dT st ys
 | [],_=>rfl
 | y::ys,h=>by
  simp only [dT];rw [ap (y:=y) (fun t ht=>h t (by simp [ip,ht])),eI (ys:=ys) (fun t ht=>h t (by simp [ip,ht]))]
theorem iD {st st' : St}:∀{ps:List (Nat×Nat×Opd)} (cs:List V),(∀t∈nq ps,look st'.regs t=look st.regs t)->ei st' cs ps=ei st cs ps
 | [],cs,_=>rfl
 | (off,n,x)::ps,cs,h=>by
  simp only [ei];rw [ap (y:=x) (fun t ht=>h t (by simp [nq,ht]))]
  split
  ·split
   ·exact iD _ (fun t ht=>h t (by simp [nq,ht]))
   ·rfl
  ·rfl
theorem cg {st st' : St} {d:Int} {x:Option Opd} (h:∀t∈kL x,look st'.regs t=look st.regs t):bY st' d x=bY st d x:=by
 cases x with
 | none=>rfl
 | some y=>simp only [bY,ap h]
theorem kM {st st' : St} {k:Nat} (hh:st'.heap=st.heap):∀{ps:List (Nat×Opd)} {xs:List (List Dat)},(∀t∈wC ps,look st'.regs t=look st.regs t)->gy st' k xs ps=gy st k xs ps
 | [],xs,_=>rfl
 | (i,x)::ps,xs,h=>by
  simp only [gy];rw [ap (y:=x) (fun t ht=>h t (by simp [wC,ht])),hh]
  split
  ·split
   ·split
    ·exact kM hh (fun t ht=>h t (by simp [wC,ht]))
    ·rfl
   ·rfl
  ·rfl
theorem KL {P:Program} {mo:MOp} (hq:gA mo=true) (st:St):∃T:(V->Tree)->Tree,Sel P T/\∀st',(∀t∈mo.tmps,look st'.regs t=look st.regs t)->st'.heap=st.heap->∀q' x',step mo st' q' x' = T (fun v=>q' v st'):=by
 cases mo with
 | mm mx x y=>
  refine ⟨fun f=>step (.mm mx x y) st (fun v _=>f v) (fun _ _=>.fail),?_,?_⟩
  ·simp only [step,al,ay,aA]
   repeat' first
    | exact Sel.fail
    | exact Sel.pure _
    | refine Sel.test ?_ ?_
    | refine Sel.val fun _=>?_
    | split
  ·intro st' ha hh q' x'
   have e0:Opd.ev st' x=Opd.ev st x:=ap fun t ht=>ha t (by simp [MOp.tmps,ht]);have e1:Opd.ev st' y=Opd.ev st y:=ap fun t ht=>ha t (by simp [MOp.tmps,ht]);simp only [step,al,e0,e1,hh]
 | lkp ok kk z m x=>
  refine ⟨fun f=>step (.lkp ok kk z m x) st (fun v _=>f v) (fun _ _=>.fail),?_,?_⟩
  ·simp only [step,al,ay,aA]
   repeat' first
    | exact Sel.fail
    | exact Sel.pure _
    | refine Sel.test ?_ ?_
    | refine Sel.val fun _=>?_
    | split
  ·intro st' ha hh q' x'
   have e0:Opd.ev st' m=Opd.ev st m:=ap fun t ht=>ha t (by simp [MOp.tmps,ht]);have e1:Opd.ev st' x=Opd.ev st x:=ap fun t ht=>ha t (by simp [MOp.tmps,ht]);simp only [step,al,e0,e1,hh]
 | E7 m=>
  refine ⟨fun f=>step (.E7 m) st (fun v _=>f v) (fun _ _=>.fail),?_,?_⟩
  ·simp only [step,al,ay,aA]
   repeat' first
    | exact Sel.fail
    | exact Sel.pure _
    | refine Sel.test ?_ ?_
    | refine Sel.val fun _=>?_
    | split
  ·intro st' ha hh q' x'
   have e0:Opd.ev st' m=Opd.ev st m:=ap fun t ht=>ha t (by simp [MOp.tmps,ht]);simp only [step,al,e0,hh]
 | E8 g n k x i=>
  refine ⟨fun f=>step (.E8 g n k x i) st (fun v _=>f v) (fun _ _=>.fail),?_,?_⟩
  ·simp only [step,al,ay,aA]
   repeat' first
    | exact Sel.fail
    | exact Sel.pure _
    | refine Sel.test ?_ ?_
    | refine Sel.val fun _=>?_
    | split
  ·intro st' ha hh q' x'
   have e0:Opd.ev st' x=Opd.ev st x:=ap fun t ht=>ha t (by simp [MOp.tmps,ht]);have e1:Opd.ev st' i=Opd.ev st i:=ap fun t ht=>ha t (by simp [MOp.tmps,ht]);simp only [step,al,e0,e1,hh]
 | b2s x=>
  refine ⟨fun f=>step (.b2s x) st (fun v _=>f v) (fun _ _=>.fail),?_,?_⟩
  ·simp only [step,al,ay,aA]
   repeat' first
    | exact Sel.fail
    | exact Sel.pure _
    | refine Sel.test ?_ ?_
    | refine Sel.val fun _=>?_
    | split
  ·intro st' ha hh q' x'
   have e0:Opd.ev st' x=Opd.ev st x:=ap fun t ht=>ha t (by simp [MOp.tmps,ht]);simp only [step,al,e0,hh]
 | mov x=>
  refine ⟨fun f=>step (.mov x) st (fun v _=>f v) (fun _ _=>.fail),?_,?_⟩
  ·simp only [step,al,ay,aA]
   repeat' first
    | exact Sel.fail
    | exact Sel.pure _
    | refine Sel.test ?_ ?_
    | refine Sel.elem fun _=>?_
    | refine Sel.byte fun _=>?_
    | refine Sel.call fun _=>?_
    | exact Sel.lN fun _=>Sel.pure _
    | exact Sel.mT fun _=>Sel.pure _
    | exact Sel.fit fun _=>Sel.pure _
    | split
  ·intro st' ha hh q' x'
   have e0:Opd.ev st' x=Opd.ev st x:=ap fun t ht=>ha t (by simp [MOp.tmps,ht]);simp only [step,al,ay,e0,hh]
 | pick c a b=>
  refine ⟨fun f=>step (.pick c a b) st (fun v _=>f v) (fun _ _=>.fail),?_,?_⟩
  ·simp only [step,al,ay,aA]
   repeat' first
    | exact Sel.fail
    | exact Sel.pure _
    | refine Sel.test ?_ ?_
    | refine Sel.elem fun _=>?_
    | refine Sel.byte fun _=>?_
    | refine Sel.call fun _=>?_
    | exact Sel.lN fun _=>Sel.pure _
    | exact Sel.mT fun _=>Sel.pure _
    | exact Sel.fit fun _=>Sel.pure _
    | split
  ·intro st' ha hh q' x'
   have e0:Opd.ev st' c=Opd.ev st c:=ap fun t ht=>ha t (by simp [MOp.tmps,ht]);have e1:Opd.ev st' a=Opd.ev st a:=ap fun t ht=>ha t (by simp [MOp.tmps,ht]);have e2:Opd.ev st' b=Opd.ev st b:=ap fun t ht=>ha t (by simp [MOp.tmps,ht]);simp only [step,e0,e1,e2,hh]
 | build zs ps=>
  refine ⟨fun f=>step (.build zs ps) st (fun v _=>f v) (fun _ _=>.fail),?_,?_⟩
  ·simp only [step,al,ay,aA]
   repeat' first
    | exact Sel.fail
    | exact Sel.pure _
    | refine Sel.test ?_ ?_
    | refine Sel.elem fun _=>?_
    | refine Sel.byte fun _=>?_
    | refine Sel.call fun _=>?_
    | exact Sel.lN fun _=>Sel.pure _
    | exact Sel.mT fun _=>Sel.pure _
    | exact Sel.fit fun _=>Sel.pure _
    | split
  ·intro st' ha hh q' x'
   simp only [step,al,ay,aA,hh,iD _ ha]
 | load g n a=>
  refine ⟨fun f=>step (.load g n a) st (fun v _=>f v) (fun _ _=>.fail),?_,?_⟩
  ·simp only [step,al,ay,aA]
   repeat' first
    | exact Sel.fail
    | exact Sel.pure _
    | refine Sel.test ?_ ?_
    | refine Sel.elem fun _=>?_
    | refine Sel.byte fun _=>?_
    | refine Sel.call fun _=>?_
    | exact Sel.lN fun _=>Sel.pure _
    | exact Sel.mT fun _=>Sel.pure _
    | exact Sel.fit fun _=>Sel.pure _
    | split
  ·intro st' ha hh q' x'
   have e0:Opd.ev st' a=Opd.ev st a:=ap fun t ht=>ha t (by simp [MOp.tmps,ht]);simp only [step,al,ay,e0,hh]
 | fld off a=>
  refine ⟨fun f=>step (.fld off a) st (fun v _=>f v) (fun _ _=>.fail),?_,?_⟩
  ·simp only [step,al,ay,aA]
   repeat' first
    | exact Sel.fail
    | exact Sel.pure _
    | refine Sel.test ?_ ?_
    | refine Sel.elem fun _=>?_
    | refine Sel.byte fun _=>?_
    | refine Sel.call fun _=>?_
    | exact Sel.lN fun _=>Sel.pure _
    | exact Sel.mT fun _=>Sel.pure _
    | exact Sel.fit fun _=>Sel.pure _
    | split
  ·intro st' ha hh q' x'
   have e0:Opd.ev st' a=Opd.ev st a:=ap fun t ht=>ha t (by simp [MOp.tmps,ht]);simp only [step,al,ay,e0,hh]
 | xQ a=>
  refine ⟨fun f=>step (.xQ a) st (fun v _=>f v) (fun _ _=>.fail),?_,?_⟩
  ·simp only [step,al,ay,aA]
   repeat' first
    | exact Sel.fail
    | exact Sel.pure _
    | refine Sel.test ?_ ?_
    | refine Sel.elem fun _=>?_
    | refine Sel.byte fun _=>?_
    | refine Sel.call fun _=>?_
    | exact Sel.lN fun _=>Sel.pure _
    | exact Sel.mT fun _=>Sel.pure _
    | exact Sel.fit fun _=>Sel.pure _
    | split
  ·intro st' ha hh q' x'
   have e0:Opd.ev st' a=Opd.ev st a:=ap fun t ht=>ha t (by simp [MOp.tmps,ht]);simp only [step,al,ay,e0,hh]
 | idx k s i=>
  refine ⟨fun f=>step (.idx k s i) st (fun v _=>f v) (fun _ _=>.fail),?_,?_⟩
  ·simp only [step,al,ay,aA]
   repeat' first
    | exact Sel.fail
    | exact Sel.pure _
    | refine Sel.test ?_ ?_
    | refine Sel.elem fun _=>?_
    | refine Sel.byte fun _=>?_
    | refine Sel.call fun _=>?_
    | exact Sel.lN fun _=>Sel.pure _
    | exact Sel.mT fun _=>Sel.pure _
    | exact Sel.fit fun _=>Sel.pure _
    | split
  ·intro st' ha hh q' x'
   have e0:Opd.ev st' s=Opd.ev st s:=ap fun t ht=>ha t (by simp [MOp.tmps,ht]);have e1:Opd.ev st' i=Opd.ev st i:=ap fun t ht=>ha t (by simp [MOp.tmps,ht]);simp only [step,e0,e1,hh]
 | idxs s i=>
  refine ⟨fun f=>step (.idxs s i) st (fun v _=>f v) (fun _ _=>.fail),?_,?_⟩
  ·simp only [step,al,ay,aA]
   repeat' first
    | exact Sel.fail
    | exact Sel.pure _
    | refine Sel.test ?_ ?_
    | refine Sel.elem fun _=>?_
    | refine Sel.byte fun _=>?_
    | refine Sel.call fun _=>?_
    | exact Sel.lN fun _=>Sel.pure _
    | exact Sel.mT fun _=>Sel.pure _
    | exact Sel.fit fun _=>Sel.pure _
    | split
  ·intro st' ha hh q' x'
   have e0:Opd.ev st' s=Opd.ev st s:=ap fun t ht=>ha t (by simp [MOp.tmps,ht]);have e1:Opd.ev st' i=Opd.ev st i:=ap fun t ht=>ha t (by simp [MOp.tmps,ht]);simp only [step,e0,e1,hh]
 | len b s=>
  refine ⟨fun f=>step (.len b s) st (fun v _=>f v) (fun _ _=>.fail),?_,?_⟩
  ·cases b
   all_goals
    simp only [step]
    repeat' first
     | exact Sel.fail
     | exact Sel.pure _
     | refine Sel.test ?_ ?_
     | refine Sel.elem fun _=>?_
     | refine Sel.byte fun _=>?_
     | refine Sel.call fun _=>?_
     | exact Sel.lN fun _=>Sel.pure _
     | exact Sel.mT fun _=>Sel.pure _
     | exact Sel.fit fun _=>Sel.pure _
     | split
  ·intro st' ha hh q' x'
   have e0:Opd.ev st' s=Opd.ev st s:=ap fun t ht=>ha t (by simp [MOp.tmps,ht])
   cases b<;>simp only [step,al,ay,e0,hh]
 | eqs neg ks x y=>
  refine ⟨fun f=>step (.eqs neg ks x y) st (fun v _=>f v) (fun _ _=>.fail),?_,?_⟩
  ·simp only [step,al,ay,aA]
   repeat' first
    | exact Sel.fail
    | exact Sel.pure _
    | split
  ·intro st' ha hh q' x'
   have e0:Opd.ev st' x=Opd.ev st x:=ap fun t ht=>ha t (by simp [MOp.tmps,ht]);have e1:Opd.ev st' y=Opd.ev st y:=ap fun t ht=>ha t (by simp [MOp.tmps,ht]);simp only [step,e0,e1,hh]
 | bin op x y=>
  refine ⟨fun f=>step (.bin op x y) st (fun v _=>f v) (fun _ _=>.fail),?_,?_⟩
  ·simp only [step,al,ay,aA]
   repeat' first
    | exact Sel.fail
    | exact Sel.pure _
    | refine Sel.test ?_ ?_
    | refine Sel.elem fun _=>?_
    | refine Sel.byte fun _=>?_
    | refine Sel.call fun _=>?_
    | exact Sel.lN fun _=>Sel.pure _
    | exact Sel.mT fun _=>Sel.pure _
    | exact Sel.fit fun _=>Sel.pure _
    | split
  ·intro st' ha hh q' x'
   have e0:Opd.ev st' x=Opd.ev st x:=ap fun t ht=>ha t (by simp [MOp.tmps,ht]);have e1:Opd.ev st' y=Opd.ev st y:=ap fun t ht=>ha t (by simp [MOp.tmps,ht]);simp only [step,e0,e1,hh]
 | eqb neg x y=>
  refine ⟨fun f=>step (.eqb neg x y) st (fun v _=>f v) (fun _ _=>.fail),?_,?_⟩
  ·simp only [step,al,ay,aA]
   repeat' first
    | exact Sel.fail
    | exact Sel.pure _
    | refine Sel.test ?_ ?_
    | refine Sel.elem fun _=>?_
    | refine Sel.byte fun _=>?_
    | refine Sel.call fun _=>?_
    | exact Sel.lN fun _=>Sel.pure _
    | exact Sel.mT fun _=>Sel.pure _
    | exact Sel.fit fun _=>Sel.pure _
    | split
  ·intro st' ha hh q' x'
   have e0:Opd.ev st' x=Opd.ev st x:=ap fun t ht=>ha t (by simp [MOp.tmps,ht]);have e1:Opd.ev st' y=Opd.ev st y:=ap fun t ht=>ha t (by simp [MOp.tmps,ht]);simp only [step,e0,e1,hh]
 | not x=>
  refine ⟨fun f=>step (.not x) st (fun v _=>f v) (fun _ _=>.fail),?_,?_⟩
  ·simp only [step,al,ay,aA]
   repeat' first
    | exact Sel.fail
    | exact Sel.pure _
    | refine Sel.test ?_ ?_
    | refine Sel.elem fun _=>?_
    | refine Sel.byte fun _=>?_
    | refine Sel.call fun _=>?_
    | exact Sel.lN fun _=>Sel.pure _
    | exact Sel.mT fun _=>Sel.pure _
    | exact Sel.fit fun _=>Sel.pure _
    | split
  ·intro st' ha hh q' x'
   have e0:Opd.ev st' x=Opd.ev st x:=ap fun t ht=>ha t (by simp [MOp.tmps,ht]);simp only [step,al,ay,e0,hh]
 | conv k x=>
  refine ⟨fun f=>step (.conv k x) st (fun v _=>f v) (fun _ _=>.fail),?_,?_⟩
  ·simp only [step,al,ay,aA]
   repeat' first
    | exact Sel.fail
    | exact Sel.pure _
    | refine Sel.test ?_ ?_
    | refine Sel.elem fun _=>?_
    | refine Sel.byte fun _=>?_
    | refine Sel.call fun _=>?_
    | exact Sel.lN fun _=>Sel.pure _
    | exact Sel.mT fun _=>Sel.pure _
    | exact Sel.fit fun _=>Sel.pure _
    | split
  ·intro st' ha hh q' x'
   have e0:Opd.ev st' x=Opd.ev st x:=ap fun t ht=>ha t (by simp [MOp.tmps,ht]);simp only [step,al,ay,e0,hh]
 | call g xs=>
  refine ⟨fun f=>step (.call g xs) st (fun v _=>f v) (fun _ _=>.fail),?_,?_⟩
  ·simp only [step,al,ay,aA]
   repeat' first
    | exact Sel.fail
    | exact Sel.pure _
    | refine Sel.test ?_ ?_
    | refine Sel.elem fun _=>?_
    | refine Sel.byte fun _=>?_
    | refine Sel.call fun _=>?_
    | exact Sel.lN fun _=>Sel.pure _
    | exact Sel.mT fun _=>Sel.pure _
    | exact Sel.fit fun _=>Sel.pure _
    | split
  ·intro st' ha hh q' x'
   simp only [step,hh,eI ha]
 | ext x i=>
  refine ⟨fun f=>step (.ext x i) st (fun v _=>f v) (fun _ _=>.fail),?_,?_⟩
  ·simp only [step,al,ay,aA]
   repeat' first
    | exact Sel.fail
    | exact Sel.pure _
    | refine Sel.test ?_ ?_
    | refine Sel.elem fun _=>?_
    | refine Sel.byte fun _=>?_
    | refine Sel.call fun _=>?_
    | exact Sel.lN fun _=>Sel.pure _
    | exact Sel.mT fun _=>Sel.pure _
    | exact Sel.fit fun _=>Sel.pure _
    | split
  ·intro st' ha hh q' x'
   have e0:Opd.ev st' x=Opd.ev st x:=ap fun t ht=>ha t (by simp [MOp.tmps,ht]);simp only [step,al,ay,e0,hh]
 | rI k m zs ps=>
  refine ⟨fun f=>step (.rI k m zs ps) st (fun v _=>f v) (fun _ _=>.fail),?_,?_⟩
  ·simp only [step,al,ay,aA]
   repeat' first
    | exact Sel.fail
    | exact Sel.pure _
    | refine Sel.test ?_ ?_
    | refine Sel.elem fun _=>?_
    | refine Sel.byte fun _=>?_
    | refine Sel.call fun _=>?_
    | exact Sel.lN fun _=>Sel.pure _
    | exact Sel.mT fun _=>Sel.pure _
    | exact Sel.fit fun _=>Sel.pure _
    | split
  ·intro st' ha hh q' x'
   simp only [step,hh,kM hh ha]
 | E9 g n off x=>
  refine ⟨fun f=>step (.E9 g n off x) st (fun v _=>f v) (fun _ _=>.fail),?_,?_⟩
  ·simp only [step,al,ay,aA]
   repeat' first
    | exact Sel.fail
    | exact Sel.pure _
    | refine Sel.test ?_ ?_
    | split
  ·intro st' ha hh q' x'
   have e0:Opd.ev st' x=Opd.ev st x:=ap fun t ht=>ha t (by simp [MOp.tmps,ht]);simp only [step,al,e0,hh]
 | sl3 k x lo hi mx=>
  refine ⟨fun f=>step (.sl3 k x lo hi mx) st (fun v _=>f v) (fun _ _=>.fail),?_,?_⟩
  ·simp only [step,al,ay,aA]
   repeat' first
    | exact Sel.fail
    | exact Sel.pure _
    | refine Sel.test ?_ ?_
    | split
  ·intro st' ha hh q' x'
   have e0:Opd.ev st' x=Opd.ev st x:=ap fun t ht=>ha t (by simp [MOp.tmps,ht]);simp only [step,e0,hh,fun d=>cg (st:=st) (st':=st') (d:=d) (x:=lo) (fun t ht=>ha t (by simp [MOp.tmps,ht])),fun d=>cg (st:=st) (st':=st') (d:=d) (x:=some hi) (fun t ht=>ha t (by simp only [kL] at ht;simp [MOp.tmps,ht])),fun d=>cg (st:=st) (st':=st') (d:=d) (x:=some mx) (fun t ht=>ha t (by simp only [kL] at ht;simp [MOp.tmps,ht]))]
 | sl k x lo hi=>
  refine ⟨fun f=>step (.sl k x lo hi) st (fun v _=>f v) (fun _ _=>.fail),?_,?_⟩
  ·simp only [step,al,ay,aA]
   repeat' first
    | exact Sel.fail
    | exact Sel.pure _
    | refine Sel.test ?_ ?_
    | refine Sel.elem fun _=>?_
    | refine Sel.byte fun _=>?_
    | refine Sel.call fun _=>?_
    | exact Sel.lN fun _=>Sel.pure _
    | exact Sel.mT fun _=>Sel.pure _
    | exact Sel.fit fun _=>Sel.pure _
    | split
  ·intro st' ha hh q' x'
   have e0:Opd.ev st' x=Opd.ev st x:=ap fun t ht=>ha t (by simp [MOp.tmps,ht]);simp only [step,e0,hh,fun d=>cg (st:=st) (st':=st') (d:=d) (x:=lo) (fun t ht=>ha t (by simp [MOp.tmps,ht])),fun d=>cg (st:=st) (st':=st') (d:=d) (x:=hi) (fun t ht=>ha t (by simp [MOp.tmps,ht]))]
 | xR x lo hi=>
  refine ⟨fun f=>step (.xR x lo hi) st (fun v _=>f v) (fun _ _=>.fail),?_,?_⟩
  ·simp only [step,al,ay,aA]
   repeat' first
    | exact Sel.fail
    | exact Sel.pure _
    | refine Sel.test ?_ ?_
    | refine Sel.elem fun _=>?_
    | refine Sel.byte fun _=>?_
    | refine Sel.call fun _=>?_
    | exact Sel.lN fun _=>Sel.pure _
    | exact Sel.mT fun _=>Sel.pure _
    | exact Sel.fit fun _=>Sel.pure _
    | split
  ·intro st' ha hh q' x'
   have e0:Opd.ev st' x=Opd.ev st x:=ap fun t ht=>ha t (by simp [MOp.tmps,ht]);simp only [step,e0,hh,fun d=>cg (st:=st) (st':=st') (d:=d) (x:=lo) (fun t ht=>ha t (by simp [MOp.tmps,ht])),fun d=>cg (st:=st) (st':=st') (d:=d) (x:=hi) (fun t ht=>ha t (by simp [MOp.tmps,ht]))]
 | DY m k x i=>
  refine ⟨fun f=>step (.DY m k x i) st (fun v _=>f v) (fun _ _=>.fail),?_,?_⟩
  ·simp only [step,al,ay,aA]
   repeat' first
    | exact Sel.fail
    | exact Sel.pure _
    | refine Sel.test ?_ ?_
    | refine Sel.elem fun _=>?_
    | refine Sel.byte fun _=>?_
    | refine Sel.call fun _=>?_
    | exact Sel.lN fun _=>Sel.pure _
    | exact Sel.mT fun _=>Sel.pure _
    | exact Sel.fit fun _=>Sel.pure _
    | split
  ·intro st' ha hh q' x'
   have e0:Opd.ev st' x=Opd.ev st x:=ap fun t ht=>ha t (by simp [MOp.tmps,ht]);have e1:Opd.ev st' i=Opd.ev st i:=ap fun t ht=>ha t (by simp [MOp.tmps,ht]);simp only [step,e0,e1,hh]
 | xT a=>
  refine ⟨fun f=>step (.xT a) st (fun v _=>f v) (fun _ _=>.fail),?_,?_⟩
  ·simp only [step,al,ay,aA]
   repeat' first
    | exact Sel.fail
    | exact Sel.pure _
    | refine Sel.A7 fun _=>?_
    | split
  ·intro st' ha hh q' x'
   have e0:Opd.ev st' a=Opd.ev st a:=ap fun t ht=>ha t (by simp [MOp.tmps,ht]);simp only [step,al,e0,hh]
 | Fe ok kk z m x=>
  refine ⟨fun f=>step (.Fe ok kk z m x) st (fun v _=>f v) (fun _ _=>.fail),?_,?_⟩
  ·simp only [step,al,ay,aA]
   repeat' first
    | exact Sel.fail
    | exact Sel.pure _
    | refine Sel.test ?_ ?_
    | refine Sel.val fun _=>?_
    | refine Sel.blk fun _=>?_
    | split
  ·intro st' ha hh q' x'
   have e0:Opd.ev st' m=Opd.ev st m:=ap fun t ht=>ha t (by simp [MOp.tmps,ht]);have e1:Opd.ev st' x=Opd.ev st x:=ap fun t ht=>ha t (by simp [MOp.tmps,ht]);simp only [step,e0,e1,hh]
 | _=>simp [gA] at hq
end Uw
namespace Uw
open Go Go.RowKit
variable [Glob]
def tn (g:Option (Nat×Bool)) (st:St):Option Bool:=
 match g with
 | none=>some true
 | some (t,want)=>match look st.regs t with
  | some (.d (.bool b))=>some (b == want)
  | some (.tuple [])=>some false
  | _=>none
def pG (P:Program) (i:MI) (st:St) (v:V):Prop:=
 ∀st' : St,(∀t∈i.tmps,look st'.regs t=look st.regs t)->st'.heap=st.heap->
  (tn i.g st' = some true/\∀(Q' : az->St->Prop) (q' : V->St->Tree) (x' : az->St->Tree),WT P Q' (q' v st')->WT P Q' (step i.op st' q' x'))\/(tn i.g st' = some false/\v = .tuple [])
structure db (st st' : St):Prop where
 regs:∀t,look st'.regs t=look st.regs t
 heap:st'.heap=st.heap
 next:st'.next=st.next
 defers:st'.defers=st.defers
 base:st'.base=st.base
theorem db.refl (st:St):db st st:=⟨fun _=>rfl,rfl,rfl,rfl,rfl⟩
theorem db.put {st st' : St} (h:db st st') (dst:Option Nat) (v:V):db (Uw.put dst v st) (Uw.put dst v st'):=by
 cases dst with
 | none=>exact h
 | some d=>exact ⟨fun t=>by simp only [Uw.put,aE,h.regs t],h.heap,h.next,h.defers,h.base⟩
theorem db.known {st:St} {t:Nat} {v:V} (h:look st.regs t=some v):db st (Uw.put (some t) v st):=by
 refine ⟨fun t'=>?_,rfl,rfl,rfl,rfl⟩;simp only [Uw.put,aE];by_cases ht:t=t'
 ·subst ht;rw [if_pos rfl,h]
 ·rw [if_neg ht]
theorem db.trans {a b c:St} (h:db a b) (g:db b c):db a c:=
 ⟨fun t=>(g.regs t).trans (h.regs t),g.heap.trans h.heap,g.next.trans h.next,g.defers.trans h.defers,g.base.trans h.base⟩
theorem pG.same {P:Program} {i:MI} {st st1:St} {v:V} (hs:db st st1) (h:pG P i st1 v):pG P i st v:=
 fun st' ha hh=>h st' (fun t ht=>(ha t ht).trans (hs.regs t).symm) (hh.trans hs.heap.symm)
def Chain (P:Program):List MI->St->List V->St->Prop
 | [],st,vs,sf=>vs=[]/\db st sf
 | i::l,st,vs,sf=>∃v vs',vs=v::vs'/\pG P i st v/\Chain P l (put i.dst v st) vs' sf
theorem Chain.same {P:Program}:∀{l:List MI} {st st1:St} {vs:List V} {sf:St},db st st1->Chain P l st1 vs sf->Chain P l st vs sf
 | [],st,st1,vs,sf,hs,h=>⟨h.1,hs.trans h.2⟩
 | i::l,st,st1,vs,sf,hs,h=>by
  obtain ⟨v,vs',h1,h2,h3⟩:=h;exact ⟨v,vs',h1,h2.same hs,Chain.same (hs.put _ _) h3⟩
theorem pG.D9 {P:Program} {i:MI} {st:St} {Q:az->St->Prop} {q:V->St->Tree} {x:az->St->Tree} (hq:gA i.op=true) (hg:tn i.g st=some true) (h:WT P Q (step i.op st q x)):∃v,pG P i st v/\WT P Q (q v st):=by
 obtain ⟨T,hT,hf⟩:=KL (P:=P) hq st;rw [hf st (fun _ _=>rfl) rfl] at h;obtain ⟨v,g1,g2⟩:=hT Q _ h;refine ⟨v,?_,g1⟩;intro st' ha hh;refine .inl ⟨?_,fun Q' q' x' h'=>?_⟩
 ·rw [<- hg]
  unfold tn
  cases hi:i.g with
  | none=>rfl
  | some p=>obtain ⟨t,want⟩:=p;simp only [];rw [ha t (by simp [MI.tmps,hi])]
 ·rw [hf st' (fun t ht=>ha t (by simp [MI.tmps,ht])) hh]
  exact g2 Q' _ h'
theorem pG.Ia {P:Program} {i:MI} {st:St} (hg:tn i.g st=some false):pG P i st (.tuple []):=by
 intro st' ha hh;refine .inr ⟨?_,rfl⟩;rw [<- hg];unfold tn
 cases hi:i.g with
 | none=>rfl
 | some p=>obtain ⟨t,want⟩:=p;simp only [];rw [ha t (by simp [MI.tmps,hi])]
theorem vf {mode:Option (Nat×Bool×Bool)} {t:Nat} {want hold:Bool} {st:St} (hdec:decided mode t want=some hold) (hm:gY mode st):∃b,look st.regs t=some (.d (.bool b))/\(b == want)=hold:=by
 unfold decided at hdec
 split at hdec
 ·rename_i t' want' hold'
  split at hdec
  ·rename_i hbb
   simp at hdec;subst hdec;rw [i9] at hbb;have e1:=wt hbb.1;have e2:want=want':=by simpa using hbb.2
   subst e1 e2;exact hm _ _ _ rfl
  ·simp at hdec
 ·simp at hdec
theorem tL {P:Program} {Q:az->St->Prop} {q:az->St->Tree} {l2:List MI}:∀(l1:List MI) (mode:Option (Nat×Bool×Bool)) (st:St),(∀i∈l1,gA i.op=true)->gY mode st->WT P Q (cN (l1++l2) mode st q)->
  ∃vs sf ke,Chain P l1 st vs sf/\gY ke sf/\WT P Q (cN l2 ke sf q):=by
 intro l1
 induction l1 with
 | nil=>intro mode st _ hm h;exact ⟨[],st,mode,⟨rfl,db.refl _⟩,hm,h⟩
 | cons i l ih=>
  intro mode st hq hm h;have hqi:=hq i (by simp);have hql:∀j∈l,gA j.op=true:=fun j hj=>hq j (by simp [hj])
  -- go on behind a value
  have go:∀(Js:Option (Nat×Bool×Bool)) (st1:St) (v:V),db st st1->pG P i st1 v->gY Js (put i.dst v st1)->WT P Q (cN (l++l2) Js (put i.dst v st1) q)->
    ∃vs sf ke,Chain P (i::l) st vs sf/\gY ke sf/\WT P Q (cN l2 ke sf q):=by
   intro Js st1 v hs ho hm1 hw;obtain ⟨vs,sf,ke,g1,g2,g3⟩:=ih Js _ hql hm1 hw;exact ⟨v::vs,sf,ke,⟨v,vs,rfl,ho.same hs,Chain.same (hs.put _ _) g1⟩,g2,g3⟩
  simp only [ZY,rJ,qw,DZ] at h
  split at h
  ·rename_i hg
   obtain ⟨v,ho,hw⟩:=pG.D9 hqi (by simp [tn,hg]) h;exact go none st v (db.refl _) ho (by intro t w' h' hh;simp at hh) hw
  ·rename_i t want hg
   split at h
   ·rename_i hdec
    obtain ⟨b,hb1,hb2⟩:=vf hdec hm;obtain ⟨v,ho,hw⟩:=pG.D9 hqi (by simp [tn,hg,hb1,hb2]) h;exact go _ st v (db.refl _) ho (hm.put rfl _ _) hw
   ·rename_i hdec
    obtain ⟨b,hb1,hb2⟩:=vf hdec hm;exact go _ st (.tuple []) (db.refl _) (pG.Ia (by simp [tn,hg,hb1,hb2])) (hm.put rfl _ _) h
   ·split at h
    ·rename_i b hb
     simp only [WT] at h
     cases hbw:(b == want) with
     | true=>
      have H9 : b=want:=by simpa using hbw
      subst H9;have hs:=db.known hb;obtain ⟨v,ho,hw⟩:=pG.D9 (st:=put (some t) (.d (.bool b)) st) hqi (by simp [tn,hg,Uw.put,aE]) (h.1 hbw);refine go _ _ v hs ho ?_ hw;refine gY.put (st:=put (some t) (.d (.bool b)) st) ?_ rfl _ _;intro t' w' h' hh;simp at hh;obtain ⟨rfl,rfl,rfl⟩:=hh;exact ⟨b,by simp [Uw.put,aE],by simp⟩
     | false=>
      have H9 : b = !want:=by cases b<;>cases want<;>simp_all
      subst H9;have hs:=db.known hb;refine go _ _ (.tuple []) hs (pG.Ia (by simp [tn,hg,Uw.put,aE])) ?_ (h.2 hbw);refine gY.put (st:=put (some t) (.d (.bool (!want))) st) ?_ rfl _ _;intro t' w' h' hh;simp at hh;obtain ⟨rfl,rfl,rfl⟩:=hh;exact ⟨!want,by simp [Uw.put,aE],by cases want<;>rfl⟩
    ·rename_i hb
     exact go _ st (.tuple []) (db.refl _) (pG.Ia (by simp [tn,hg,hb])) (hm.put rfl _ _) h
    ·exact h.elim
def after (st:St):List MI->List V->St
 | i::l,v::vs=>after (put i.dst v st) l vs
 | _,_=>st
theorem Chain.length {P:Program}:∀{l:List MI} {st:St} {vs:List V} {sf:St},Chain P l st vs sf->vs.length=l.length
 | [],st,vs,sf,h=>by rw [h.1];rfl
 | i::l,st,vs,sf,h=>by obtain ⟨v,vs',rfl,h2,h3⟩:=h;simp [Chain.length h3]
theorem Chain.last {P:Program}:∀{l:List MI} {st:St} {vs:List V} {sf:St},Chain P l st vs sf->db (after st l vs) sf
 | [],st,vs,sf,h=>by rw [h.1];exact h.2
 | i::l,st,vs,sf,h=>by obtain ⟨v,vs',rfl,h2,h3⟩:=h;exact show db (after (put i.dst v st) l vs') sf from Chain.last h3
theorem Chain.at {P:Program}:∀{l:List MI} {st:St} {vs:List V} {sf:St},Chain P l st vs sf->∀(k:Nat) (i:MI),l[k]? = some i->∃v,vs[k]? = some v/\pG P i (after st (l.take k) (vs.take k)) v
 | [],st,vs,sf,h,k,i,hk=>by simp at hk
 | j::l,st,vs,sf,h,k,i,hk=>by
  obtain ⟨v,vs',rfl,h2,h3⟩:=h
  cases k with
  | zero=>simp at hk;subst hk;exact ⟨v,rfl,h2⟩
  | succ k=>
   simp at hk;obtain ⟨u,g1,g2⟩:=Chain.at h3 k i hk;exact ⟨u,by simpa using g1,g2⟩
theorem uk:∀(l:List MI) (vs:List V) (st:St),(after st l vs).heap=st.heap/\(after st l vs).next=st.next/\(after st l vs).defers=st.defers/\(after st l vs).base=st.base
 | [],vs,st=>by simp [after]
 | i::l,[],st=>by simp [after]
 | i::l,v::vs,st=>by
  rw [after];obtain ⟨h1,h2,h3,h4⟩:=uk l vs (put i.dst v st)
  cases hd:i.dst<;>simp [hd,Uw.put] at h1 h2 h3 h4 ⊢<;>exact ⟨h1,h2,h3,h4⟩
theorem fD:∀(l:List MI) (vs:List V) (st:St) (t:Nat),(∀(j:Nat) (i:MI),l[j]? = some i->i.dst≠some t)->look (after st l vs).regs t=look st.regs t
 | [],vs,st,t,_=>by simp [after]
 | i::l,[],st,t,_=>by simp [after]
 | i::l,v::vs,st,t,h=>by
  rw [after,fD l vs _ t (fun j i' hj=>h (j+1) i' (by simpa using hj))];have h0:=h 0 i rfl
  cases hd:i.dst with
  | none=>simp [Uw.put]
  | some d=>
   simp only [Uw.put,aE];rw [if_neg];intro e;subst e;exact h0 hd
theorem nK:∀(l:List MI) (vs:List V) (st:St) (t j:Nat) (i:MI) (v:V),l[j]? = some i->vs[j]? = some v->i.dst=some t->(∀(j' : Nat) (i' : MI),l[j']? = some i'->i'.dst=some t->j' = j)->vs.length=l.length->look (after st l vs).regs t=some v
 | [],vs,st,t,j,i,v,hj,_,_,_,_=>by simp at hj
 | x::l,[],st,t,j,i,v,hj,hv,hd,hu,hl=>by simp at hl
 | x::l,u::vs,st,t,j,i,v,hj,hv,hd,hu,hl=>by
  rw [after]
  cases j with
  | zero=>
   simp at hj hv;subst hj hv;rw [fD]
   ·simp [hd,Uw.put,aE]
   ·intro j' i' hj' hd'
    have:=hu (j' + 1) i' (by simpa using hj') hd';omega
  | succ j=>
   simp at hj hv;exact nK l vs _ t j i v hj hv hd (fun j' i' hj' hd'=>by
    have:=hu (j' + 1) i' (by simpa using hj') hd';omega) (by simpa using hl)
end Uw
namespace Uw
open Go Go.RowKit
variable [Glob]
theorem rR {P:Program} {n:Nat} {pol:Pol} {ops:List Oper}:∀{l:List Oper} {mi:List MI},da P n pol ops l=some mi->mi.length=l.length/\∀(k:Nat) (o:Oper),l[k]? = some o->∃i,mi[k]? = some i/\y8 ops o.guard=some i.g/\D1 P pol o=some i.op/\i.dst=o.dst/\
  (match o.dst with|some d=>Nat.blt d n|none=>true)=true:=by
 intro l
 induction l with
 | nil=>intro mi h;simp [da] at h;subst h;simp
 | cons o l ih=>
  intro mi h;unfold da at h
  split at h
  ·rename_i g m mi' h1 h2 h3 h4
   simp at h;subst h;obtain ⟨g1,g2⟩:=ih h3;refine ⟨by simp [g1],?_⟩;intro k o' hk
   cases k with
   | zero=>simp at hk;subst hk;exact ⟨_,rfl,h1,h2,rfl,h4⟩
   | succ k=>simp at hk;simpa using g2 k o' hk
  ·simp at h
theorem Ea {P:Program} {n:Nat} {pol:Pol} {ops:List Oper}:∀{l:List Oper} {mi:List MI} (k:Nat),da P n pol ops l=some mi->da P n pol ops (l.drop k)=some (mi.drop k):=by
 intro l
 induction l with
 | nil=>intro mi k h;simp [da] at h;subst h;simp [da]
 | cons o l ih=>
  intro mi k h
  cases k with
  | zero=>simpa using h
  | succ k=>
   unfold da at h
   split at h
   ·rename_i g m mi' h1 h2 h3 h4
    simp at h;subst h;simpa using ih k h3
   ·simp at h
theorem kY {c:Cx} {w0:World} {n:Nat} {gs:Fr} {st:St} {a:Act} (r:Rel c w0 n gs st a) {ops:List Oper} {o:Oper} {g:Option (Nat×Bool)} (hg:y8 ops o.guard=some g) {b:Bool} (hb:tn g st=some b) :
  Region.wanted o (yielded ops.toArray a.tmps)=b:=by
 cases hgo:o.guard with
 | none=>
  rw [hgo] at hg;simp [y8] at hg;subst hg;simp [tn] at hb;subst hb;simp [Region.wanted,hgo]
 | some jw=>
  obtain ⟨j,want⟩:=jw;rw [hgo] at hg;simp only [y8] at hg
  split at hg
  ·rename_i oj hoj
   split at hg
   ·rename_i t ht
    simp at hg;subst hg;simp only [tn] at hb
    split at hb
    ·rename_i b' hb'
     simp at hb;subst hb;have e:=r.regs t _ hb';simp only [aD,aG] at e;have e' : a.tmps[t]? = some (.bool b'):=by
      rw [Zy] at e
      cases hq:a.tmps[t]? with
      | none=>rw [hq] at e;simp [undef] at e
      | some u=>rw [hq] at e;simp at e;rw [e]
     have ey:yielded ops.toArray a.tmps j=some b':=by
      unfold yielded;simp [hoj,ht,e']
     simp only [Region.wanted,hgo,ey]
     cases b'<;>cases want<;>rfl
    ·rename_i hb'
     simp at hb;subst hb;have e:=r.regs t _ hb';have ey:yielded ops.toArray a.tmps j=none:=by
      simp [aD,aC] at e;unfold yielded
      cases hq:a.tmps[t]? with
      | none=>simp [hoj,ht,hq]
      | some u=>rw [hq] at e;simp at e;simp [hoj,ht,hq,e]
     simp only [Region.wanted,hgo,ey];cases want<;>rfl
    ·simp at hb
   ·simp at hg
  ·simp at hg
theorem Rel.same {c:Cx} {w0:World} {n:Nat} {gs:Fr} {st st' : St} {a:Act} (r:Rel c w0 n gs st a) (h:db st st'):Rel c w0 n gs st' a:=
 ⟨r.heap.trans h.heap.symm,by rw [h.next];exact r.hrel,r.size,fun i v hv=>r.regs i v (by rw [<- h.regs i];exact hv),r.frames,by rw [h.base];exact r.nD,by rw [h.base,h.next];exact r.base,by rw [h.defers];exact r.defers⟩
structure S9 (mi:List MI) (h:Nat) (vs:List V) (st:St) (listed:Array Bool) (s:St):Prop where
 none:∀t,(∀(j:Nat) (i:MI),j<h->mi[j]? = some i->listed.getD j false=true->i.dst≠some t)->look s.regs t=look st.regs t
 one:∀(j:Nat) (i:MI) (t:Nat),j<h->mi[j]? = some i->listed.getD j false=true->i.dst=some t->look s.regs t=vs[j]?
 heap:s.heap=st.heap
 next:s.next=st.next
 defers:s.defers=st.defers
 base:s.base=st.base
def left (listed:Array Bool):Nat->Nat
 | 0=>0
 | h+1=>left listed h+(if listed.getD h false then 0 else 1)
theorem sY {listed:Array Bool}:∀{h:Nat},left listed h=0->∀i,i<h->listed.getD i false=true
 | 0,_,i,hi=>by omega
 | h+1,hl,i,hi=>by
  simp only [left] at hl;have h1:left listed h=0:=by omega
  have h2:(if listed.getD h false then 0 else 1)=0:=by omega
  by_cases hih:i=h
  ·subst hih
   by_cases hb:listed.getD i false=true
   ·exact hb
   ·simp [hb] at h2
  ·exact sY h1 i (by omega)
theorem x4 {listed:Array Bool} {i:Nat}:∀{h:Nat},h<=i->left (listed.setIfInBounds i true) h=left listed h
 | 0,_=>rfl
 | h+1,hi=>by
  simp only [left];rw [x4 (by omega),getD_set_ne false (by omega)]
theorem zp {listed:Array Bool} {i:Nat} (hs:i<listed.size) (hu:listed.getD i false=false):∀{h:Nat},i<h->left (listed.setIfInBounds i true) h+1=left listed h
 | 0,hi=>by omega
 | h+1,hi=>by
  simp only [left];by_cases hih:i=h
  ·subst hih
   rw [x4 (Ls _)];have:(listed.setIfInBounds i true).getD i false=true:=by simp [hs]
   rw [this,hu];simp
  ·have:=zp hs hu (h:=h) (by omega)
   rw [getD_set_ne false hih];omega
theorem kf {listed:Array Bool} {h:Nat} (hl:left listed h≠0):∃i,i<h/\listed.getD i false=false/\∀j,j<i->listed.getD j false=true:=by
 induction h with
 | zero=>simp [left] at hl
 | succ h ih=>
  by_cases h0:left listed h=0
  ·refine ⟨h,by omega,?_,fun j hj=>sY h0 j hj⟩
   simp only [left,h0] at hl
   cases hb:listed.getD h false with
   | true=>simp [hb] at hl
   | false=>rfl
  ·obtain ⟨i,h1,h2,h3⟩:=ih h0
   exact ⟨i,by omega,h2,h3⟩
section
variable {P : Program} {n h : Nat} {pol : Pol} {ops : List Oper} {mi : List MI} {Q : az -> St -> Prop} {q : az -> St -> Tree} {w0 : World} {gs : Fr} {st : St} {c0 : Cx} {vs : List V} {sf : St} {mode : Option (Nat × Bool × Bool)}
theorem KN (hc:da P n pol ops ops=some mi) (hd:Fq ops mi h=true) (hch:Chain P (mi.take h) st vs sf) (hm:gY mode sf) (hw:WT P Q (cN (mi.drop h) mode sf q)) :
  ∀(d:Nat) (listed:Array Bool) (c:Cx) (a:Act) (s:St),left listed h=d->HeadInv .any ops.toArray h listed->S9 mi h vs st listed s->c.B=c0.B->c.J0=c0.J0->Rel c w0 n gs s a->
   wpAny P .any ops.toArray (Came P Q q c0 w0 n gs) (d+(ops.length - h)) listed a c.w:=by
 simp only [Fq,i9,decide_eq_true_eq] at hd;obtain ⟨⟨⟨⟨⟨hle,hquiet⟩,V4⟩,V5⟩,htail⟩,hseq⟩:=hd;obtain ⟨hlen,hget⟩:=rR hc;have hvl:=hch.length;have htl:(mi.take h).length=h:=by simp;omega
 rw [htl] at hvl;have sees:∀i j,i<h->j<h->i≠j->∀(x y:MI),mi[i]? = some x->mi[j]? = some y->∀t,y.dst=some t->x.dst≠some t/\(t∈x.tmps->(j<i/\Region.waitsFor .any ops.toArray i j=true)\/(i<j/\Region.waitsFor .any ops.toArray j i=true)):=by
  intro i j hi hj hij x y hx hy t ht;have h1:=YW.1 (YW.1 V5 i (Z8.2 hi)) j (Z8.2 hj);simp only [Zl,beq_iff_eq] at h1
  rcases h1 with h1|h1
  ·exact (hij h1).elim
  ·simp only [S4,hx,hy,ht,i9,Zl] at h1
   refine ⟨by simpa using h1.1,fun hmem=>?_⟩
   rcases h1.2 with h2|h2
   ·have:x.tmps.contains t=true:=by simpa using hmem
    rw [this] at h2;simp at h2
   ·by_cases hji:j<i
    ·rw [if_pos hji] at h2;exact .inl ⟨hji,h2⟩
    ·rw [if_neg hji] at h2;exact .inr ⟨by omega,h2⟩
 intro d
 induction d with
 | zero=>
  intro listed c a s hl hinv hst hB hJ r;have hall:=sY hl;have hcan:listed=canon h ops.length:=by
   apply Array.ext
   ·rw [hinv.size];simp [canon]
   ·intro i h1 h2
    have e1:listed.getD i false=listed[i]:=by simp [h1]
    have hi:i<ops.length:=by rw [hinv.size] at h1;simpa using h1
    simp only [canon,List.getElem_toArray,List.getElem_map,List.getElem_range];by_cases hih:i<h
    ·rw [<- e1,hall i hih];simp [hih]
    ·have:=hinv.tail i (by omega) (by simpa using hi)
     have e2:listed.getD i true=listed[i]:=by simp [h1]
     rw [<- e2,this];simp [hih]
  have hsame:db s sf:=by
   refine db.trans ?_ hch.last;obtain ⟨a1,a2,a3,a4⟩:=uk (mi.take h) vs st;refine ⟨fun t=>?_,by rw [a1,hst.heap],by rw [a2,hst.next],by rw [a3,hst.defers],by rw [a4,hst.base]⟩;by_cases hex:∃(j:Nat) (i:MI),j<h/\mi[j]? = some i/\i.dst=some t
   ·obtain ⟨j,i,hj,hi,ht⟩:=hex
    have hv:vs[j]? = some vs[j]:=AN (by omega);rw [hst.one j i t hj hi (hall j hj) ht,hv];refine nK (mi.take h) vs st t j i _ (by rw [ON,if_pos hj];exact hi) hv ht ?_ (by rw [htl,hvl]);intro j' i' hj' ht';rw [ON] at hj'
    split at hj'
    ·rename_i hjh
     by_cases hjj:j' = j
     ·exact hjj
     ·exact ((sees j' j hjh hj hjj i' i hj' hi t ht).1 ht').elim
    ·simp at hj'
   ·rw [hst.none t (fun j i hj hi _ ht=>hex ⟨j,i,hj,hi,ht⟩)]
    refine fD (mi.take h) vs st t ?_;intro j i hi ht;rw [ON] at hi
    split at hi
    ·rename_i hj;exact hex ⟨j,i,hj,hi,ht⟩
    ·simp at hi
  have hlist:=uj (P:=P) (n:=n) (ops:=ops) (Q:=Q) (q:=q) (w0:=w0) (gs:=gs) (c0:=c0) (ops.drop h) (mi.drop h) mode c sf a (Ea h hc) hB hJ (r.same hsame) hm hw;have:=wpAny_of_seq (md:=.any) (ops.drop h) h listed a c.w (fun j=>by simp [Y1]) (by rw [hcan];simpa using hseq) hlist;simpa using this
 | succ d ih=>
  intro listed c a s hl hinv hst hB hJ r;rw [show d+1+(ops.length - h)=(d+(ops.length - h))+1 by omega];obtain ⟨i0,hi0,hu0,hlo0⟩:=kf (listed:=listed) (h:=h) (by omega);have hsz:=hinv.size;have XM:listed.size=ops.length:=by simpa using hsz
  have um:i0∈Region.ready .any ops.toArray listed:=by
   rw [mem_ready];refine ⟨getD_in (by omega) hu0,?_⟩;have h1:=YW.1 V4 i0 (Z8.2 hi0);have ho:ops[i0]? = some ops[i0]:=AN (by omega);rw [ho] at h1;refine ⟨ops[i0],by simp,fun e he hb=>?_⟩;have h2:=Array.all_eq_true_iff_forall_mem.1 h1 e he;simp only [Zl,ZC,decide_eq_true_eq,hb] at h2
   rcases h2 with h2|h2
   ·cases h2
   ·exact hlo0 _ h2
  refine ⟨fun h0=>(by rw [h0] at um;cases um),?_⟩;intro i hi
  -- a head
  have hih:i<h:=by
   by_cases hih:i<h
   ·exact hih
   ·exfalso
    obtain ⟨_,oi,hoi,_⟩:=mem_ready.1 hi;have hilt:i<ops.length:=by
     have:=(ZH.1 hoi).1;simpa using this
    rcases Zl .. ▸ htail with ht|ht
    ·have:h=ops.length:=by simpa using ht
     omega
    ·rw [i9] at ht
     exact tail_waits ht.1 ht.2 (by simp;omega) hinv (h - i0) i0 rfl hi0 (getD_in (by omega) hu0) i (by omega) hi
  have hui:=(mem_ready.1 hi).1;have FQ:=getD_both hui;obtain ⟨oi,hoi,Nh⟩:=(mem_ready.1 hi).2;have hoi' : ops[i]? = some oi:=by simpa using hoi
  obtain ⟨x,hx,hg,hop,hdst,hdn⟩:=hget i oi hoi';have hxt:(mi.take h)[i]? = some x:=by rw [ON,if_pos hih];exact hx
  obtain ⟨v,hv,hok⟩:=hch.at i x hxt
  -- what it looks at is there
  have un:∀t∈x.tmps,look s.regs t=look (after st ((mi.take h).take i) (vs.take i)).regs t:=by
   intro t ht;by_cases hex:∃(j:Nat) (y:MI),j<h/\j≠i/\mi[j]? = some y/\y.dst=some t
   ·obtain ⟨j,y,hj,hji,hy,hyt⟩:=hex
    rcases (sees i j hih hj (Ne.symm hji) x y hx hy t hyt).2 ht with ⟨hlt,hwf⟩|⟨hlt,hwf⟩
    ·-- j ahead of i,and i waits for it
     obtain ⟨o',ho',e,he,hb,hon⟩:=Region.waitsFor_spec hwf;have:o' = oi:=aax (ho'.symm.trans hoi);subst this;have hlj:listed.getD j false=true:=by rw [<- hon];exact Nh e he hb
     have hvj:vs[j]? = some vs[j]:=AN (by omega);rw [hst.one j y t hj hy hlj hyt,hvj]
     symm
     refine nK _ _ st t j y _ ?_ ?_ hyt ?_ ?_
     ·rw [ON,if_pos hlt,ON,if_pos hj];exact hy
     ·rw [ON,if_pos hlt];exact hvj
     ·intro j' y' hj' Eb
      rw [ON] at hj'
      split at hj'
      ·rename_i V6
       rw [ON] at hj'
       split at hj'
       ·rename_i Ec
        by_cases hjj:j' = j
        ·exact hjj
        ·exact ((sees j' j Ec hj hjj y' y hj' hy t hyt).1 Eb).elim
       ·simp at hj'
      ·simp at hj'
     ·simp;omega
    ·-- i ahead of j,which waits for it: it has not come
     have hlj:listed.getD j false=false:=by
      cases hb:listed.getD j false with
      | false=>rfl
      | true=>
       obtain ⟨o',ho',e,he,hbb,hon⟩:=Region.waitsFor_spec hwf;have:=hinv.closed j o' ho' hb e he hbb;rw [hon,FQ] at this;cases this
     rw [hst.none t]
     ·symm
      refine fD _ _ st t ?_;intro j' y' hj' Eb;rw [ON] at hj'
      split at hj'
      ·rename_i V6
       rw [ON] at hj'
       split at hj'
       ·rename_i Ec
        exact ((sees j' j Ec hj (by omega) y' y hj' hy t hyt).1 Eb).elim
       ·simp at hj'
      ·simp at hj'
     ·intro j' y' Ec hj' hl' Eb
      by_cases hjj:j' = j
      ·subst hjj;rw [hlj] at hl';cases hl'
      ·exact ((sees j' j Ec hj hjj y' y hj' hy t hyt).1 Eb).elim
   ·rw [hst.none t]
    ·symm
     refine fD _ _ st t ?_;intro j' y' hj' Eb;rw [ON] at hj'
     split at hj'
     ·rename_i V6
      rw [ON] at hj'
      split at hj'
      ·rename_i Ec
       exact hex ⟨j',y',Ec,by omega,hj',Eb⟩
      ·simp at hj'
     ·simp at hj'
    ·intro j' y' Ec hj' hl' Eb
     by_cases hjj:j' = i
     ·subst hjj;rw [FQ] at hl';cases hl'
     ·exact hex ⟨j',y',Ec,hjj,hj',Eb⟩
  have hheap:s.heap=(after st ((mi.take h).take i) (vs.take i)).heap:=by
   rw [hst.heap,(uk _ _ _).1]
  have hleft:left (listed.setIfInBounds i true) h=d:=by
   have:=zp (listed:=listed) (i:=i) (by omega) FQ (h:=h) hih;omega
  have hinv':=hinv.set hi hih;have hst' : ∀u,vs[i]? = some u->S9 mi h vs st (listed.setIfInBounds i true) (put x.dst u s):=by
   intro u hu;have qD:∀j,(listed.setIfInBounds i true).getD j false=true->j=i\/listed.getD j false=true:=by
    intro j hj;by_cases hji:j=i
    ·exact .inl hji
    ·rw [getD_set_ne false (Ne.symm hji)] at hj;exact .inr hj
   have hput:(put x.dst u s).heap=s.heap/\(put x.dst u s).next=s.next/\(put x.dst u s).defers=s.defers/\(put x.dst u s).base=s.base:=by
    cases x.dst<;>simp [Uw.put]
   have hii:(listed.setIfInBounds i true).getD i false=true:=by simp [show i<listed.size by omega]
   refine ⟨?_,?_,by rw [hput.1,hst.heap],by rw [hput.2.1,hst.next],by rw [hput.2.2.1,hst.defers],by rw [hput.2.2.2,hst.base]⟩
   ·intro t ht
    have hnx:x.dst≠some t:=ht i x hih hx hii;have hs' : look (put x.dst u s).regs t=look s.regs t:=by
     cases hxd:x.dst with
     | none=>simp [Uw.put]
     | some dd=>
      simp only [Uw.put,aE];rw [if_neg];intro e;subst e;exact hnx hxd
    rw [hs'];refine hst.none t (fun j y hj hy hl'=>ht j y hj hy ?_);exact getD_set_true hl'
   ·intro j y t hj hy hl' hyt
    rcases qD j hl' with rfl|hl''
    ·rw [hx] at hy;injection hy with hy;subst hy
     rw [hyt,hu];simp [Uw.put,aE]
    ·by_cases hji:j=i
     ·subst hji;rw [FQ] at hl'';cases hl''
     ·have hne:=(sees i j hih hj (Ne.symm hji) x y hx hy t hyt).1
      have hs' : look (put x.dst u s).regs t=look s.regs t:=by
       cases hxd:x.dst with
       | none=>simp [Uw.put]
       | some dd=>
        simp only [Uw.put,aE];rw [if_neg];intro e;subst e;exact hne hxd
      rw [hs'];exact hst.one j y t hj hy hl'' hyt
  unfold wpOp;simp only [hoi]
  rcases hok s un hheap with ⟨hgr,hstep⟩|⟨hgr,rfl⟩
  ·rw [kY r hg hgr]
   simp only [if_true];left;have hW:=hstep (fun _ z=>z=put (some 0) v s) (fun v' s'=>Tree.done .normal (put (some 0) v' s')) (fun _ _=>.fail) rfl;refine step_ok (xx:=fun _ _=>Tree.fail) r hop ?_ (fun c' st' d ch _ _ _ _ _ hq=>False.elim hq) hW;intro c' s' a' v' gv hB' hJ' htm r' xZ hv' hq;simp only [WT,Uw.put,St.mk.injEq,Zu,ZM,true_and] at hq;obtain ⟨⟨rfl,e1⟩,e2,e3,e4,e5⟩:=hq;have hss:s' = s:=by cases s';cases s;simp_all
   subst hss;refine ih _ c' _ (put x.dst v' s') hleft hinv' (hst' v' hv) (hB'.trans hB) (hJ'.trans hJ) ?_;rw [hdst];exact r'.put hdn hv'
  ·rw [kY r hg hgr]
   simp only [Y4,if_false];refine ih _ c _ (put x.dst (.tuple []) s) hleft hinv' (hst' (.tuple []) hv) hB hJ ?_;rw [hdst];exact r.put hdn (by simp [aD,aC,undef])
theorem Ni (S:WPS P) {id:Nat} {c:Cx} {a:Act} (hdf:S.dfr=true\/ops.all uV=true) (hm:P.follows .mixedOrders=true) (hc:da P n pol ops ops=some mi) (hd:Fq ops mi h=true) (r:Rel c w0 n gs st a) (hw:WT P Q (cN mi none st q)) :
  S.W (Code.region id ops.toArray true) (Came P Q q c w0 n gs) a c.w:=by
 have hd':=hd;simp only [Fq,i9,decide_eq_true_eq] at hd';obtain ⟨⟨⟨⟨⟨hle,hquiet⟩,_⟩,_⟩,_⟩,_⟩:=hd';rw [<- ZT h mi] at hw;obtain ⟨vs,sf,mode,g1,g2,g3⟩:=tL (mi.take h) none st (fun i hi=>YW.1 hquiet i hi) (by intro t w' h' hh;simp at hh) hw;refine S.any hm D8 (by simpa using hdf) ?_;have hbel:Below c.w.heap.size c.w { c.w with drawn:=c.w.drawn+1 }:=⟨rfl,rfl,rfl,Ls _,fun _ _=>rfl⟩
 have r1:=r.grow hbel;have hnone:∀j,(Array.replicate ops.toArray.size false).getD j false=false:=fun j=>getD_replicate_false _ j;have hl:∀k,left (Array.replicate ops.toArray.size false) k=k:=by
  intro k
  induction k with
  | zero=>rfl
  | succ k ih=>simp only [left,ih,hnone,Y4,if_false]
 have:=KN (c0:=c) (gs:=gs) (w0:=w0) hc hd g1 g2 g3 h (Array.replicate ops.toArray.size false) { c with w:={ c.w with drawn:=c.w.drawn+1 } } a st (hl h)
  ⟨by simp,fun j oj _ hl'=>(by rw [hnone] at hl';cases hl'),fun t _ ht=>getD_in (by simpa using ht) (hnone t)⟩
  ⟨fun _ _=>rfl,fun j i t _ _ hl'=>(by rw [hnone] at hl';cases hl'),rfl,rfl,rfl,rfl⟩ rfl rfl r1
 rw [show h+(ops.length - h)=ops.toArray.size by simp;omega] at this;exact this
end
end Uw
namespace Uw
open Go Go.RowKit
variable [Glob]
def St.tM (st s:St):St:={ st with heap:=s.heap,next:=s.next,defers:=s.defers,base:=s.base }
theorem Ib {op:MOp} {st s:St} (ha:∀t∈op.tmps,look s.regs t=look st.regs t) (hh:s.heap=st.heap) (hn:s.next=st.next) (hd:s.defers=st.defers) (hb:s.base=st.base) (q:V->St->Tree) (x:az->St->Tree) :
  step op s (fun v s'=>q v (st.tM s')) (fun e s'=>x e (st.tM s'))=step op st q x:=by
 obtain ⟨r,h,n,d,b⟩:=st;obtain ⟨r',h',n',d',b'⟩:=s;simp only at hh hn hd hb ha;subst hh hn hd hb
 cases op with
 | mm mx1 x1 y1=>
  have e0:Opd.ev ⟨r',h',n',d',b'⟩ x1=Opd.ev ⟨r,h',n',d',b'⟩ x1:=ap fun t ht=>ha t (by simp [MOp.tmps,ht]);have e1:Opd.ev ⟨r',h',n',d',b'⟩ y1=Opd.ev ⟨r,h',n',d',b'⟩ y1:=ap fun t ht=>ha t (by simp [MOp.tmps,ht]);simp only [step,al,ay,aA,e0,e1];rfl
 | xT a1=>
  have e0:Opd.ev ⟨r',h',n',d',b'⟩ a1=Opd.ev ⟨r,h',n',d',b'⟩ a1:=ap fun t ht=>ha t (by simp [MOp.tmps,ht]);simp only [step,al,ay,aA,e0];rfl
 | yY a1 x1=>
  have e0:Opd.ev ⟨r',h',n',d',b'⟩ a1=Opd.ev ⟨r,h',n',d',b'⟩ a1:=ap fun t ht=>ha t (by simp [MOp.tmps,ht]);have e1:Opd.ev ⟨r',h',n',d',b'⟩ x1=Opd.ev ⟨r,h',n',d',b'⟩ x1:=ap fun t ht=>ha t (by simp [MOp.tmps,ht]);simp only [step,al,ay,aA,e0,e1];rfl
 | Fb b1 z1 l1 c1=>
  have e0:Opd.ev ⟨r',h',n',d',b'⟩ l1=Opd.ev ⟨r,h',n',d',b'⟩ l1:=ap fun t ht=>ha t (by simp [MOp.tmps,ht]);have e1:Opd.ev ⟨r',h',n',d',b'⟩ c1=Opd.ev ⟨r,h',n',d',b'⟩ c1:=ap fun t ht=>ha t (by simp [MOp.tmps,ht]);simp only [step,al,ay,aA,e0,e1];rfl
 | MC k1 b1 s1 x1=>
  have e0:Opd.ev ⟨r',h',n',d',b'⟩ s1=Opd.ev ⟨r,h',n',d',b'⟩ s1:=ap fun t ht=>ha t (by simp [MOp.tmps,ht]);have e1:Opd.ev ⟨r',h',n',d',b'⟩ x1=Opd.ev ⟨r,h',n',d',b'⟩ x1:=ap fun t ht=>ha t (by simp [MOp.tmps,ht]);simp only [step,al,ay,aA,e0,e1];rfl
 | Fe ok1 kk1 z1 m1 x1=>
  have e0:Opd.ev ⟨r',h',n',d',b'⟩ m1=Opd.ev ⟨r,h',n',d',b'⟩ m1:=ap fun t ht=>ha t (by simp [MOp.tmps,ht]);have e1:Opd.ev ⟨r',h',n',d',b'⟩ x1=Opd.ev ⟨r,h',n',d',b'⟩ x1:=ap fun t ht=>ha t (by simp [MOp.tmps,ht]);simp only [step,al,ay,aA,e0,e1];rfl
 | Ff kk1 m1 x1 v1=>
  have e0:Opd.ev ⟨r',h',n',d',b'⟩ m1=Opd.ev ⟨r,h',n',d',b'⟩ m1:=ap fun t ht=>ha t (by simp [MOp.tmps,ht]);have e1:Opd.ev ⟨r',h',n',d',b'⟩ x1=Opd.ev ⟨r,h',n',d',b'⟩ x1:=ap fun t ht=>ha t (by simp [MOp.tmps,ht]);have e2:Opd.ev ⟨r',h',n',d',b'⟩ v1=Opd.ev ⟨r,h',n',d',b'⟩ v1:=ap fun t ht=>ha t (by simp [MOp.tmps,ht]);simp only [step,al,ay,aA,e0,e1,e2];rfl
 | yZ n1 zs1 ps1=>
  have e0:∀z,ei ⟨r',h',n',d',b'⟩ z ps1=ei ⟨r,h',n',d',b'⟩ z ps1:=fun z=>iD z fun t ht=>ha t (by simp [MOp.tmps,ht]);simp only [step,al,ay,aA,e0];rfl
 | Fg k1 n1 zs1 ps1=>
  have e0:∀k z,gy ⟨r',h',n',d',b'⟩ k z ps1=gy ⟨r,h',n',d',b'⟩ k z ps1:=fun k z=>kM (st:=⟨r,h',n',d',b'⟩) (st':=⟨r',h',n',d',b'⟩) rfl fun t ht=>ha t (by simp [MOp.tmps,ht]);simp only [step,al,ay,aA,e0];rfl
 | E6 kk1=>
  simp only [step,al,ay,aA];rfl
 | lkp ok1 kk1 z1 m1 x1=>
  have e0:Opd.ev ⟨r',h',n',d',b'⟩ m1=Opd.ev ⟨r,h',n',d',b'⟩ m1:=ap fun t ht=>ha t (by simp [MOp.tmps,ht]);have e1:Opd.ev ⟨r',h',n',d',b'⟩ x1=Opd.ev ⟨r,h',n',d',b'⟩ x1:=ap fun t ht=>ha t (by simp [MOp.tmps,ht]);simp only [step,al,ay,aA,e0,e1];rfl
 | Kz kk1 m1 x1 v1=>
  have e0:Opd.ev ⟨r',h',n',d',b'⟩ m1=Opd.ev ⟨r,h',n',d',b'⟩ m1:=ap fun t ht=>ha t (by simp [MOp.tmps,ht]);have e1:Opd.ev ⟨r',h',n',d',b'⟩ x1=Opd.ev ⟨r,h',n',d',b'⟩ x1:=ap fun t ht=>ha t (by simp [MOp.tmps,ht]);have e2:Opd.ev ⟨r',h',n',d',b'⟩ v1=Opd.ev ⟨r,h',n',d',b'⟩ v1:=ap fun t ht=>ha t (by simp [MOp.tmps,ht]);simp only [step,al,ay,aA,e0,e1,e2];rfl
 | E7 m1=>
  have e0:Opd.ev ⟨r',h',n',d',b'⟩ m1=Opd.ev ⟨r,h',n',d',b'⟩ m1:=ap fun t ht=>ha t (by simp [MOp.tmps,ht]);simp only [step,al,ay,aA,e0];rfl
 | rng x1=>
  have e0:Opd.ev ⟨r',h',n',d',b'⟩ x1=Opd.ev ⟨r,h',n',d',b'⟩ x1:=ap fun t ht=>ha t (by simp [MOp.tmps,ht]);simp only [step,al,ay,aA,e0];rfl
 | nxt x1=>
  have e0:Opd.ev ⟨r',h',n',d',b'⟩ x1=Opd.ev ⟨r,h',n',d',b'⟩ x1:=ap fun t ht=>ha t (by simp [MOp.tmps,ht]);simp only [step,al,ay,aA,e0];rfl
 | E8 g1 n1 k1 x1 i1=>
  have e0:Opd.ev ⟨r',h',n',d',b'⟩ x1=Opd.ev ⟨r,h',n',d',b'⟩ x1:=ap fun t ht=>ha t (by simp [MOp.tmps,ht]);have e1:Opd.ev ⟨r',h',n',d',b'⟩ i1=Opd.ev ⟨r,h',n',d',b'⟩ i1:=ap fun t ht=>ha t (by simp [MOp.tmps,ht]);simp only [step,al,ay,aA,e0,e1];rfl
 | b2s x1=>
  have e0:Opd.ev ⟨r',h',n',d',b'⟩ x1=Opd.ev ⟨r,h',n',d',b'⟩ x1:=ap fun t ht=>ha t (by simp [MOp.tmps,ht]);simp only [step,al,ay,aA,e0];rfl
 | mov x1=>
  have e0:Opd.ev ⟨r',h',n',d',b'⟩ x1=Opd.ev ⟨r,h',n',d',b'⟩ x1:=ap fun t ht=>ha t (by simp [MOp.tmps,ht]);simp only [step,al,ay,aA,e0];rfl
 | pick c1 a1 b1=>
  have e0:Opd.ev ⟨r',h',n',d',b'⟩ c1=Opd.ev ⟨r,h',n',d',b'⟩ c1:=ap fun t ht=>ha t (by simp [MOp.tmps,ht]);have e1:Opd.ev ⟨r',h',n',d',b'⟩ a1=Opd.ev ⟨r,h',n',d',b'⟩ a1:=ap fun t ht=>ha t (by simp [MOp.tmps,ht]);have e2:Opd.ev ⟨r',h',n',d',b'⟩ b1=Opd.ev ⟨r,h',n',d',b'⟩ b1:=ap fun t ht=>ha t (by simp [MOp.tmps,ht]);simp only [step,al,ay,aA,e0,e1,e2];rfl
 | box x1=>
  have e0:Opd.ev ⟨r',h',n',d',b'⟩ x1=Opd.ev ⟨r,h',n',d',b'⟩ x1:=ap fun t ht=>ha t (by simp [MOp.tmps,ht]);simp only [step,al,ay,aA,e0];rfl
 | alloc zs1=>
  simp only [step,al,ay,aA];rfl
 | build zs1 ps1=>
  have e0:∀z,ei ⟨r',h',n',d',b'⟩ z ps1=ei ⟨r,h',n',d',b'⟩ z ps1:=fun z=>iD z fun t ht=>ha t (by simp [MOp.tmps,ht]);simp only [step,al,ay,aA,e0];rfl
 | load g1 n1 a1=>
  have e0:Opd.ev ⟨r',h',n',d',b'⟩ a1=Opd.ev ⟨r,h',n',d',b'⟩ a1:=ap fun t ht=>ha t (by simp [MOp.tmps,ht]);simp only [step,al,ay,aA,e0];rfl
 | store n1 a1 x1=>
  have e0:Opd.ev ⟨r',h',n',d',b'⟩ a1=Opd.ev ⟨r,h',n',d',b'⟩ a1:=ap fun t ht=>ha t (by simp [MOp.tmps,ht]);have e1:Opd.ev ⟨r',h',n',d',b'⟩ x1=Opd.ev ⟨r,h',n',d',b'⟩ x1:=ap fun t ht=>ha t (by simp [MOp.tmps,ht]);simp only [step,al,ay,aA,e0,e1];rfl
 | fld off1 a1=>
  have e0:Opd.ev ⟨r',h',n',d',b'⟩ a1=Opd.ev ⟨r,h',n',d',b'⟩ a1:=ap fun t ht=>ha t (by simp [MOp.tmps,ht]);simp only [step,al,ay,aA,e0];rfl
 | xQ x1=>
  have e0:Opd.ev ⟨r',h',n',d',b'⟩ x1=Opd.ev ⟨r,h',n',d',b'⟩ x1:=ap fun t ht=>ha t (by simp [MOp.tmps,ht]);simp only [step,al,ay,aA,e0];rfl
 | idx k1 s1 i1=>
  have e0:Opd.ev ⟨r',h',n',d',b'⟩ s1=Opd.ev ⟨r,h',n',d',b'⟩ s1:=ap fun t ht=>ha t (by simp [MOp.tmps,ht]);have e1:Opd.ev ⟨r',h',n',d',b'⟩ i1=Opd.ev ⟨r,h',n',d',b'⟩ i1:=ap fun t ht=>ha t (by simp [MOp.tmps,ht]);simp only [step,al,ay,aA,e0,e1];rfl
 | idxs s1 i1=>
  have e0:Opd.ev ⟨r',h',n',d',b'⟩ s1=Opd.ev ⟨r,h',n',d',b'⟩ s1:=ap fun t ht=>ha t (by simp [MOp.tmps,ht]);have e1:Opd.ev ⟨r',h',n',d',b'⟩ i1=Opd.ev ⟨r,h',n',d',b'⟩ i1:=ap fun t ht=>ha t (by simp [MOp.tmps,ht]);simp only [step,al,ay,aA,e0,e1];rfl
 | len b1 s1=>
  have e0:Opd.ev ⟨r',h',n',d',b'⟩ s1=Opd.ev ⟨r,h',n',d',b'⟩ s1:=ap fun t ht=>ha t (by simp [MOp.tmps,ht])
  cases b1
  all_goals
   simp only [step,al,ay,aA,e0];rfl
 | bin op1 x1 y1=>
  have e0:Opd.ev ⟨r',h',n',d',b'⟩ x1=Opd.ev ⟨r,h',n',d',b'⟩ x1:=ap fun t ht=>ha t (by simp [MOp.tmps,ht]);have e1:Opd.ev ⟨r',h',n',d',b'⟩ y1=Opd.ev ⟨r,h',n',d',b'⟩ y1:=ap fun t ht=>ha t (by simp [MOp.tmps,ht]);simp only [step,al,ay,aA,e0,e1];rfl
 | eqb UL x1 y1=>
  have e0:Opd.ev ⟨r',h',n',d',b'⟩ x1=Opd.ev ⟨r,h',n',d',b'⟩ x1:=ap fun t ht=>ha t (by simp [MOp.tmps,ht]);have e1:Opd.ev ⟨r',h',n',d',b'⟩ y1=Opd.ev ⟨r,h',n',d',b'⟩ y1:=ap fun t ht=>ha t (by simp [MOp.tmps,ht]);simp only [step,al,ay,aA,e0,e1];rfl
 | not x1=>
  have e0:Opd.ev ⟨r',h',n',d',b'⟩ x1=Opd.ev ⟨r,h',n',d',b'⟩ x1:=ap fun t ht=>ha t (by simp [MOp.tmps,ht]);simp only [step,al,ay,aA,e0];rfl
 | conv k1 x1=>
  have e0:Opd.ev ⟨r',h',n',d',b'⟩ x1=Opd.ev ⟨r,h',n',d',b'⟩ x1:=ap fun t ht=>ha t (by simp [MOp.tmps,ht]);simp only [step,al,ay,aA,e0];rfl
 | call f1 args1=>
  have e0:dT ⟨r',h',n',d',b'⟩ args1=dT ⟨r,h',n',d',b'⟩ args1:=eI fun t ht=>ha t (by simp [MOp.tmps,ht]);simp only [step,al,ay,aA,e0];rfl
 | ext x1 i1=>
  have e0:Opd.ev ⟨r',h',n',d',b'⟩ x1=Opd.ev ⟨r,h',n',d',b'⟩ x1:=ap fun t ht=>ha t (by simp [MOp.tmps,ht]);simp only [step,al,ay,aA,e0];rfl
 | rI k1 n1 zs1 ps1=>
  have e0:∀k z,gy ⟨r',h',n',d',b'⟩ k z ps1=gy ⟨r,h',n',d',b'⟩ k z ps1:=fun k z=>kM (st:=⟨r,h',n',d',b'⟩) (st':=⟨r',h',n',d',b'⟩) rfl fun t ht=>ha t (by simp [MOp.tmps,ht]);simp only [step,al,ay,aA,e0];rfl
 | app m1 k1 UM s1 x1=>
  have e0:Opd.ev ⟨r',h',n',d',b'⟩ s1=Opd.ev ⟨r,h',n',d',b'⟩ s1:=ap fun t ht=>ha t (by simp [MOp.tmps,ht]);have e1:Opd.ev ⟨r',h',n',d',b'⟩ x1=Opd.ev ⟨r,h',n',d',b'⟩ x1:=ap fun t ht=>ha t (by simp [MOp.tmps,ht]);simp only [step,al,ay,aA,e0,e1];rfl
 | MA m1 k1 UM zs1 l1 c1=>
  have e0:Opd.ev ⟨r',h',n',d',b'⟩ l1=Opd.ev ⟨r,h',n',d',b'⟩ l1:=ap fun t ht=>ha t (by simp [MOp.tmps,ht]);have e1:Opd.ev ⟨r',h',n',d',b'⟩ c1=Opd.ev ⟨r,h',n',d',b'⟩ c1:=ap fun t ht=>ha t (by simp [MOp.tmps,ht]);simp only [step,al,ay,aA,e0,e1];rfl
 | E9 g1 n1 off1 x1=>
  have e0:Opd.ev ⟨r',h',n',d',b'⟩ x1=Opd.ev ⟨r,h',n',d',b'⟩ x1:=ap fun t ht=>ha t (by simp [MOp.tmps,ht]);simp only [step,al,ay,aA,e0];rfl
 | sl3 k1 x1 lo1 hi1 mx1=>
  have e0:Opd.ev ⟨r',h',n',d',b'⟩ x1=Opd.ev ⟨r,h',n',d',b'⟩ x1:=ap fun t ht=>ha t (by simp [MOp.tmps,ht]);have e1:∀z,bY ⟨r',h',n',d',b'⟩ z lo1=bY ⟨r,h',n',d',b'⟩ z lo1:=fun z=>cg fun t ht=>ha t (by simp [MOp.tmps,ht]);have e2:∀z,bY ⟨r',h',n',d',b'⟩ z (some hi1)=bY ⟨r,h',n',d',b'⟩ z (some hi1):=fun z=>cg fun t ht=>ha t (by simp only [kL] at ht;simp [MOp.tmps,ht]);have e3:∀z,bY ⟨r',h',n',d',b'⟩ z (some mx1)=bY ⟨r,h',n',d',b'⟩ z (some mx1):=fun z=>cg fun t ht=>ha t (by simp only [kL] at ht;simp [MOp.tmps,ht]);simp only [step,al,ay,aA,e0,e1,e2,e3];rfl
 | sl k1 x1 lo1 hi1=>
  have e0:Opd.ev ⟨r',h',n',d',b'⟩ x1=Opd.ev ⟨r,h',n',d',b'⟩ x1:=ap fun t ht=>ha t (by simp [MOp.tmps,ht]);have e1:∀z,bY ⟨r',h',n',d',b'⟩ z lo1=bY ⟨r,h',n',d',b'⟩ z lo1:=fun z=>cg fun t ht=>ha t (by simp [MOp.tmps,ht]);have e2:∀z,bY ⟨r',h',n',d',b'⟩ z hi1=bY ⟨r,h',n',d',b'⟩ z hi1:=fun z=>cg fun t ht=>ha t (by simp [MOp.tmps,ht]);simp only [step,al,ay,aA,e0,e1,e2];rfl
 | xR x1 lo1 hi1=>
  have e0:Opd.ev ⟨r',h',n',d',b'⟩ x1=Opd.ev ⟨r,h',n',d',b'⟩ x1:=ap fun t ht=>ha t (by simp [MOp.tmps,ht]);have e1:∀z,bY ⟨r',h',n',d',b'⟩ z lo1=bY ⟨r,h',n',d',b'⟩ z lo1:=fun z=>cg fun t ht=>ha t (by simp [MOp.tmps,ht]);have e2:∀z,bY ⟨r',h',n',d',b'⟩ z hi1=bY ⟨r,h',n',d',b'⟩ z hi1:=fun z=>cg fun t ht=>ha t (by simp [MOp.tmps,ht]);simp only [step,al,ay,aA,e0,e1,e2];rfl
 | DY n1 k1 a1 i1=>
  have e0:Opd.ev ⟨r',h',n',d',b'⟩ a1=Opd.ev ⟨r,h',n',d',b'⟩ a1:=ap fun t ht=>ha t (by simp [MOp.tmps,ht]);have e1:Opd.ev ⟨r',h',n',d',b'⟩ i1=Opd.ev ⟨r,h',n',d',b'⟩ i1:=ap fun t ht=>ha t (by simp [MOp.tmps,ht]);simp only [step,al,ay,aA,e0,e1];rfl
 | eqn UL x1=>
  have e0:Opd.ev ⟨r',h',n',d',b'⟩ x1=Opd.ev ⟨r,h',n',d',b'⟩ x1:=ap fun t ht=>ha t (by simp [MOp.tmps,ht]);simp only [step,al,ay,aA,e0];rfl
 | eqi UL x1=>
  have e0:Opd.ev ⟨r',h',n',d',b'⟩ x1=Opd.ev ⟨r,h',n',d',b'⟩ x1:=ap fun t ht=>ha t (by simp [MOp.tmps,ht]);simp only [step,al,ay,aA,e0];rfl
 | eqs UL ks1 x1 y1=>
  have e0:Opd.ev ⟨r',h',n',d',b'⟩ x1=Opd.ev ⟨r,h',n',d',b'⟩ x1:=ap fun t ht=>ha t (by simp [MOp.tmps,ht]);have e1:Opd.ev ⟨r',h',n',d',b'⟩ y1=Opd.ev ⟨r,h',n',d',b'⟩ y1:=ap fun t ht=>ha t (by simp [MOp.tmps,ht]);simp only [step,al,ay,aA,e0,e1];rfl
 | sub f1 args1=>
  have e0:dT ⟨r',h',n',d',b'⟩ args1=dT ⟨r,h',n',d',b'⟩ args1:=eI fun t ht=>ha t (by simp [MOp.tmps,ht]);simp only [step,al,ay,aA,e0];rfl
 | Kx x1 args1=>
  have e0:Opd.ev ⟨r',h',n',d',b'⟩ x1=Opd.ev ⟨r,h',n',d',b'⟩ x1:=ap fun t ht=>ha t (by simp [MOp.tmps,ht]);have e1:dT ⟨r',h',n',d',b'⟩ args1=dT ⟨r,h',n',d',b'⟩ args1:=eI fun t ht=>ha t (by simp [MOp.tmps,ht]);simp only [step,al,ay,aA,e0,e1];rfl
 | MB f1 xs1 ys1=>
  have e0:dT ⟨r',h',n',d',b'⟩ xs1=dT ⟨r,h',n',d',b'⟩ xs1:=eI fun t ht=>ha t (by simp [MOp.tmps,ht]);have e1:dT ⟨r',h',n',d',b'⟩ ys1=dT ⟨r,h',n',d',b'⟩ ys1:=eI fun t ht=>ha t (by simp [MOp.tmps,ht]);simp only [step,al,ay,aA,e0,e1];rfl
 | defer x1 args1=>
  have e0:Opd.ev ⟨r',h',n',d',b'⟩ x1=Opd.ev ⟨r,h',n',d',b'⟩ x1:=ap fun t ht=>ha t (by simp [MOp.tmps,ht]);have e1:dT ⟨r',h',n',d',b'⟩ args1=dT ⟨r,h',n',d',b'⟩ args1:=eI fun t ht=>ha t (by simp [MOp.tmps,ht]);simp only [step,al,ay,aA,e0,e1];rfl
 | panic x1=>
  have e0:Opd.ev ⟨r',h',n',d',b'⟩ x1=Opd.ev ⟨r,h',n',d',b'⟩ x1:=ap fun t ht=>ha t (by simp [MOp.tmps,ht]);simp only [step,al,ay,aA,e0];rfl
 | Ky t1 x1=>
  have e0:Opd.ev ⟨r',h',n',d',b'⟩ x1=Opd.ev ⟨r,h',n',d',b'⟩ x1:=ap fun t ht=>ha t (by simp [MOp.tmps,ht]);simp only [step,al,ay,aA,e0];rfl
 | tas t1 z1 x1=>
  have e0:Opd.ev ⟨r',h',n',d',b'⟩ x1=Opd.ev ⟨r,h',n',d',b'⟩ x1:=ap fun t ht=>ha t (by simp [MOp.tmps,ht]);simp only [step,al,ay,aA,e0];rfl
 | copy k1 d1 s1=>
  have e0:Opd.ev ⟨r',h',n',d',b'⟩ d1=Opd.ev ⟨r,h',n',d',b'⟩ d1:=ap fun t ht=>ha t (by simp [MOp.tmps,ht]);have e1:Opd.ev ⟨r',h',n',d',b'⟩ s1=Opd.ev ⟨r,h',n',d',b'⟩ s1:=ap fun t ht=>ha t (by simp [MOp.tmps,ht]);simp only [step,al,ay,aA,e0,e1];rfl
end Uw
namespace Uw
open Go Go.RowKit
variable [Glob]
theorem KO {x i:Nat} {r:List Nat}:pR (x::r) i=true<->x=i\/pR r i=true:=by
 rw [pR]
 cases h:Nat.beq x i with
 | true=>simp [wt h]
 | false=>
  have:x≠i:=by rintro rfl;simp at h
  simp [this]
theorem fU {i:Nat}:∀{l:List Nat},pR l i=true<->i∈l
 | []=>by simp [pR]
 | x::r=>by rw [KO,fU,Zj];constructor<;>rintro (h|h)<;>simp [h]
theorem qF {E D:List Nat}:∀{l:List Nat},qx l E D=true<->∀j∈l,j∈E\/j∈D
 | []=>by simp [qx]
 | x::r=>by
  rw [qx,i9,Zl,fU,fU,qF];simp
theorem zq {all:List DOp} {i:Nat}:∀{D:List Nat},waited all D i=true<->∃n∈D,∃o,all[n]? = some o/\i∈o.dep
 | []=>by simp [waited]
 | n::D=>by
  rw [waited,Zl,zq];constructor
  ·rintro (h|⟨m,hm,o,h1,h2⟩)
   ·split at h
    ·rename_i o ho;exact ⟨n,by simp,o,ho,fU.1 h⟩
    ·cases h
   ·exact ⟨m,by simp [hm],o,h1,h2⟩
  ·rintro ⟨m,hm,o,h1,h2⟩
   simp at hm
   rcases hm with rfl|hm
   ·left;rw [h1];exact fU.2 h2
   ·right;exact ⟨m,hm,o,h1,h2⟩
structure Ic (l:List DOp):Prop where
 self:∀(i:Nat) (o:DOp),l[i]? = some o->∀t,o.mi.dst=some t->t∉o.mi.tmps
 QK:∀(i:Nat) (o:DOp),l[i]? = some o->∀j∈o.dep,j<i
 noG:∀(i:Nat) (o:DOp),l[i]? = some o->o.loud=true->o.mi.g=none
 sees:∀(i j:Nat) (x y:DOp),i≠j->l[i]? = some x->l[j]? = some y->∀t,y.mi.dst=some t->x.mi.dst≠some t/\(t∈x.mi.tmps->j<i/\j∈x.dep)
theorem KP {l:List DOp} (h:y9 l=true):Ic l:=by
 unfold y9 at h;rw [i9] at h;have key:∀(i:Nat) (o:DOp),l[i]? = some o->(o.dep.all (fun j=>decide (j<i))&&(!o.loud||o.mi.g.isNone)&&MF o)=true:=by
  intro i o ho;have hi:i<l.length:=by
   by_cases hh:i<l.length
   ·exact hh
   ·rw [Y2 (by omega)] at ho;cases ho
  have:=YW.1 h.1 i (Z8.2 hi)
  rwa [ho] at this
 refine ⟨?_,?_,?_,?_⟩
 ·intro i o ho t ht hm
  have:=key i o ho;rw [i9] at this;have h2:=this.2;simp only [MF,ht] at h2;have:o.mi.tmps.contains t=true:=by simpa using hm
  rw [this] at h2;simp at h2
 ·intro i o ho j hj
  have:=key i o ho;rw [i9,i9] at this;simpa using YW.1 this.1.1 j hj
 ·intro i o ho hl
  have:=key i o ho;rw [i9,i9,hl] at this;simpa using this.1.2
 ·intro i j x y hij hx hy t ht
  have hi:i<l.length:=by
   by_cases hh:i<l.length
   ·exact hh
   ·rw [Y2 (by omega)] at hx;cases hx
  have hj:j<l.length:=by
   by_cases hh:j<l.length
   ·exact hh
   ·rw [Y2 (by omega)] at hy;cases hy
  have h1:=YW.1 (YW.1 h.2 i (Z8.2 hi)) j (Z8.2 hj);simp only [Zl,beq_iff_eq] at h1
  rcases h1 with h1|h1
  ·exact (hij h1).elim
  ·simp only [S5,hx,hy,ht,i9,Zl] at h1
   refine ⟨by simpa using h1.1,fun hm=>?_⟩
   rcases h1.2 with h2|h2
   ·have:x.mi.tmps.contains t=true:=by simpa using hm
    rw [this] at h2;simp at h2
   ·exact ⟨by simpa using h2.1,fU.1 h2.2⟩
theorem FR {P:Program} {Q:az->St->Prop} {i:MI} {st:St} {q:az->St->Tree} (hq:gA i.op=true) (h:WT P Q (cN [i] none st q)):∃v sf,pG P i st v/\db (put i.dst v st) sf/\WT P Q (q .normal sf):=by
 obtain ⟨vs,sf,ke,h1,h2,h3⟩:=tL (l2:=[]) [i] none st (by simpa using hq) (by intro t w' h' hh;simp at hh) (by simpa using h);obtain ⟨v,vs',rfl,g1,g2⟩:=h1;obtain ⟨rfl,g2⟩:=g2;exact ⟨v,sf,g1,g2,h3⟩
theorem pG.agree {P:Program} {i:MI} {st st1:St} {v:V} (ha:∀t∈i.tmps,look st1.regs t=look st.regs t) (hh:st1.heap=st.heap) (h:pG P i st v):pG P i st1 v:=
 fun st' g1 g2=>h st' (fun t ht=>(g1 t ht).trans (ha t ht)) (g2.trans hh)
theorem jz {dst:Option Nat} {v:V} {st:St} {t:Nat}:look (put dst v st).regs t=if dst=some t then some v else look st.regs t:=by
 cases dst with
 | none=>simp [Uw.put]
 | some d=>simp only [Uw.put,aE,Y8]
structure QL (P:Program) (all:List DOp) (D E:List Nat) (S:St) (k:Nat):Prop where
 op:∀(i:Nat) (o:DOp),i<k->all[i]? = some o->o.loud=false->i∈E->waited all D i=false->∃v,pG P o.mi S v/\∀d,o.mi.dst=some d->look S.regs d=some v
 sat:∀(i:Nat) (o:DOp),i<k->all[i]? = some o->o.loud=false->(∀j∈o.dep,j∈E\/j∈D)->i∈E
structure Ext (all:List DOp) (D E E' : List Nat) (st st' : St):Prop where
 sub:∀i,i∈E->i∈E'
 quiet:∀(i:Nat) (o:DOp),all[i]? = some o->o.loud=true->i∈E'->i∈E
 same:∀t,(∀(i:Nat) (o:DOp),all[i]? = some o->o.mi.dst=some t->i∈E'->i∈E)->look st'.regs t=look st.regs t
 heap:st'.heap=st.heap
 next:st'.next=st.next
 defers:st'.defers=st.defers
 base:st'.base=st.base
theorem FT {P:Program} {Q:az->St->Prop} {all:List DOp} (hd:Ic all) (hquiet:∀(i:Nat) (o:DOp),all[i]? = some o->o.loud=false->gA o.mi.op=true) {D:List Nat} {q:List Nat->St->Tree} :
  ∀(l:List DOp) (i:Nat) (E:List Nat) (st:St),l=all.drop i->(∀j∈E,j<i\/True)->QL P all D E st i->WT P Q (pC all D l i E st q)->
   ∃E' st',QL P all D E' st' all.length/\Ext all D E E' st st'/\WT P Q (q E' st'):=by
 intro l
 induction l with
 | nil=>
  intro i E st hl _ hp h;have hi:all.length<=i:=by
   have:=congrArg List.length hl;simp at this;omega
  exact ⟨E,st,⟨fun j o hj=>hp.op j o (by omega),fun j o hj=>hp.sat j o (by omega)⟩,⟨fun _ h=>h,fun _ _ _ _ h=>h,fun _ _=>rfl,rfl,rfl,rfl,rfl⟩,h⟩
 | cons o r ih=>
  intro i E st hl _ hp h;have ho:all[i]? = some o:=by
   have:(all.drop i)[0]? = some o:=by rw [<- hl];rfl
   rw [Y1] at this;simpa using this
  have hr:r=all.drop (i+1):=by
   rw [<- aa1,<- hl];rfl
  have V7:=hd.QK i o ho;simp only [pC] at h
  split at h
  ·-- a loud one
   rename_i B5;refine ih (i+1) E st hr (fun _ _=>.inr trivial) ⟨?_,?_⟩ h
   ·intro j oj hj hoj hlj
    by_cases hji:j=i
    ·subst hji;rw [ho] at hoj;injection hoj with hoj;subst hoj;rw [B5] at hlj;cases hlj
    ·exact hp.op j oj (by omega) hoj hlj
   ·intro j oj hj hoj hlj
    by_cases hji:j=i
    ·subst hji;rw [ho] at hoj;injection hoj with hoj;subst hoj;rw [B5] at hlj;cases hlj
    ·exact hp.sat j oj (by omega) hoj hlj
  ·rename_i B5
   have hqo:=hquiet i o ho B5
   split at h
   ·rename_i hmem
    have hmem:=fU.1 hmem
    split at h
    ·rename_i hw
     refine ih (i+1) E st hr (fun _ _=>.inr trivial) ⟨?_,?_⟩ h
     ·intro j oj hj hoj hlj hje hwj
      by_cases hji:j=i
      ·subst hji;rw [hw] at hwj;cases hwj
      ·exact hp.op j oj (by omega) hoj hlj hje hwj
     ·intro j oj hj hoj hlj hdj
      by_cases hji:j=i
      ·subst hji;exact hmem
      ·exact hp.sat j oj (by omega) hoj hlj hdj
    ·rename_i hw
     obtain ⟨v,sf,g1,g2,g3⟩:=FR hqo h;obtain ⟨g4,g5⟩:=g3;refine ih (i+1) E st hr (fun _ _=>.inr trivial) ⟨?_,?_⟩ g5
     ·intro j oj hj hoj hlj hje hwj
      by_cases hji:j=i
      ·subst hji;rw [ho] at hoj;injection hoj with hoj;subst hoj
       refine ⟨v,g1,fun d hdst=>?_⟩;rw [hdst] at g4;simp only at g4;rw [<- g4,g2.regs d,jz,if_pos hdst]
      ·exact hp.op j oj (by omega) hoj hlj hje hwj
     ·intro j oj hj hoj hlj hdj
      by_cases hji:j=i
      ·subst hji;exact hmem
      ·exact hp.sat j oj (by omega) hoj hlj hdj
   ·rename_i hmem
    have hmem:i∉E:=fun hh=>by rw [fU.2 hh] at hmem;cases hmem
    split at h
    ·rename_i hall
     have hall:=qF.1 hall;obtain ⟨v,sf,g1,g2,g3⟩:=FR hqo h
     -- what the new value does not touch
     have hlook:∀t,o.mi.dst≠some t->look sf.regs t=look st.regs t:=fun t ht=>by rw [g2.regs t,jz,if_neg ht]
     have un:∀(j:Nat) (oj:DOp),all[j]? = some oj->j<=i->∀t∈oj.mi.tmps,look sf.regs t=look st.regs t:=by
      intro j oj hoj hji t ht;refine hlook t (fun hdst=>?_);by_cases hij:j=i
      ·subst hij
       rw [ho] at hoj;injection hoj with hoj;subst hoj
       -- an operation that reads what it writes: its own temporary;then agreement is asked of the state ahead of it
       exact absurd ht (hd.self j o ho t hdst)
      ·have:=(hd.sees j i oj o hij hoj ho t hdst).2 ht
       omega
     have hph:QL P all D (i::E) sf (i+1):=by
      refine ⟨?_,?_⟩
      ·intro j oj hj hoj hlj hje hwj
       have hheap:sf.heap=st.heap:=by rw [g2.heap];cases o.mi.dst<;>rfl
       by_cases hji:j=i
       ·subst hji;rw [ho] at hoj;injection hoj with hoj;subst hoj
        exact ⟨v,g1.agree (un j o ho (Ls _)) hheap,fun d hdst=>by rw [g2.regs d,jz,if_pos hdst]⟩
       ·have XO : j∈E:=by simpa [hji] using hje
        obtain ⟨u,u1,u2⟩:=hp.op j oj (by omega) hoj hlj XO hwj;refine ⟨u,u1.agree (un j oj hoj (by omega)) hheap,fun d hdst=>?_⟩;rw [hlook d (fun V8=>(hd.sees j i oj o hji hoj ho d V8).1 hdst)];exact u2 d hdst
      ·intro j oj hj hoj hlj hdj
       by_cases hji:j=i
       ·simp [hji]
       ·have:=hp.sat j oj (by omega) hoj hlj (fun m hm=>by
         have hmj:=hd.QK j oj hoj m hm
         rcases hdj m hm with h1|h1
         ·simp at h1
          rcases h1 with rfl|h1
          ·omega
          ·exact .inl h1
         ·exact .inr h1)
        simp [this]
     obtain ⟨E',st',p1,p2,p3⟩:=ih (i+1) (i::E) sf hr (fun _ _=>.inr trivial) hph g3
     ·refine ⟨E',st',p1,⟨fun j hj=>p2.sub j (by simp [hj]),fun j oj hoj hlj hje=>by
       have:=p2.quiet j oj hoj hlj hje;simp at this
       rcases this with rfl|this
       ·rw [ho] at hoj;injection hoj with hoj;subst hoj;rw [B5] at hlj;cases hlj
       ·exact this,?_,?_,?_,?_,?_⟩,p3⟩
      ·intro t ht
       rw [p2.same t (fun j oj hoj hdst hje=>by simp [ht j oj hoj hdst hje])];refine hlook t (fun hdst=>hmem (ht i o ho hdst (p2.sub i (by simp))))
      ·rw [p2.heap,g2.heap];cases o.mi.dst<;>rfl
      ·rw [p2.next,g2.next];cases o.mi.dst<;>rfl
      ·rw [p2.defers,g2.defers];cases o.mi.dst<;>rfl
      ·rw [p2.base,g2.base];cases o.mi.dst<;>rfl
    ·rename_i hall
     refine ih (i+1) E st hr (fun _ _=>.inr trivial) ⟨?_,?_⟩ h
     ·intro j oj hj hoj hlj hje hwj
      by_cases hji:j=i
      ·subst hji;exact (hmem hje).elim
      ·exact hp.op j oj (by omega) hoj hlj hje hwj
     ·intro j oj hj hoj hlj hdj
      by_cases hji:j=i
      ·subst hji;rw [ho] at hoj;injection hoj with hoj;subst hoj
       rw [qF.2 hdj] at hall;cases hall
      ·exact hp.sat j oj (by omega) hoj hlj hdj
end Uw
namespace Uw
open Go Go.RowKit
variable [Glob]
theorem uo:∀(ops:List Oper) (mi:List MI),mi.length=ops.length->(dx ops mi).length=ops.length/\∀(i:Nat) (o:DOp),(dx ops mi)[i]? = some o->∃oi,ops[i]? = some oi/\mi[i]? = some o.mi/\o.dep=D2 oi/\o.loud = !gA o.mi.op
 | [],[],_=>⟨rfl,fun i o h=>by simp [dx] at h⟩
 | [],_::_,h=>by simp at h
 | _::_,[],h=>by simp at h
 | x::ops,y::mi,h=>by
  obtain ⟨h1,h2⟩:=uo ops mi (by simpa using h);refine ⟨by simp [dx,h1],fun i o ho=>?_⟩
  cases i with
  | zero=>simp [dx] at ho;subst ho;exact ⟨x,rfl,rfl,rfl,rfl⟩
  | succ i=>simp [dx] at ho;simpa using h2 i o ho
theorem uq {o:Oper} {j:Nat}:j∈D2 o<->∃e∈o.after,Region.binds .any e=true/\e.on=j:=by
 simp only [D2,aaQ,List.mem_filter,Array.mem_toList_iff];constructor
 ·rintro ⟨e,⟨h1,h2⟩,h3⟩;exact ⟨e,h1,h2,h3⟩
 ·rintro ⟨e,h1,h2,h3⟩;exact ⟨e,⟨h1,h2⟩,h3⟩
theorem zr {P:Program} {Q:az->St->Prop}:∀{l:List Tree},WT P Q (Jj l)->l≠[]/\∀t∈l,WT P Q t
 | [],h=>h.elim
 | [t],h=>⟨by simp,fun u hu=>by simp at hu;subst hu;exact h⟩
 | t::t'::r,h=>by
  obtain ⟨h1,h2⟩:=h;obtain ⟨_,h3⟩:=zr h2;refine ⟨by simp,fun u hu=>?_⟩;rw [Zj] at hu
  rcases hu with rfl|hu
  ·exact h1
  ·exact h3 u hu
theorem wP {E D:List Nat} {f:Nat->DOp->Tree}:∀{l:List DOp} {k:Nat} {T:Tree},T∈xU E D l k f<->∃i o,l[i]? = some o/\o.loud=true/\pR D (k+i)=false/\qx o.dep E D=true/\T=f (k+i) o
 | [],k,T=>by simp [xU]
 | x::l,k,T=>by
  have ih:=@wP E D f l (k+1) T;have shift:(∃i o,l[i]? = some o/\o.loud=true/\pR D (k+1+i)=false/\qx o.dep E D=true/\T=f (k+1+i) o)->∃i o,(x::l)[i]? = some o/\o.loud=true/\pR D (k+i)=false/\qx o.dep E D=true/\T=f (k+i) o:=by
   rintro ⟨i,o,h1,h2,h3,h4,h5⟩;exact ⟨i+1,o,by simpa using h1,h2,by rw [show k+(i+1)=k+1+i by omega];exact h3,h4,by rw [show k+(i+1)=k+1+i by omega];exact h5⟩
  rw [xU];constructor
  ·intro h
   split at h
   ·rename_i hb
    simp only [i9,ZC] at hb;rw [Zj] at h
    rcases h with rfl|h
    ·exact ⟨0,x,rfl,hb.1.1,by simpa using hb.1.2,hb.2,rfl⟩
    ·exact shift (ih.1 h)
   ·exact shift (ih.1 h)
  ·rintro ⟨i,o,h1,h2,h3,h4,h5⟩
   cases i with
   | zero=>
    simp at h1;subst h1;simp only [ZR] at h3 h5;rw [h2,h3,h4];simp [h5]
   | succ i=>
    have:T∈xU E D l (k+1) f:=ih.2 ⟨i,o,by simpa using h1,h2,by rw [show k+1+i=k+(i+1) by omega];exact h3,h4,by rw [show k+1+i=k+(i+1) by omega];exact h5⟩
    split
    ·exact aaD _ this
    ·exact this
theorem B6 {D:List Nat}:∀{l:List DOp} {k:Nat},y5 D l k=true->∀(i:Nat) (o:DOp),l[i]? = some o->o.loud=true->k+i∈D
 | [],k,_,i,o,h,_=>by simp at h
 | x::l,k,hn,i,o,h,hl=>by
  rw [y5,i9] at hn
  cases i with
  | zero=>
   simp at h;subst h;rw [hl] at hn;simpa using fU.1 (by simpa using hn.1)
  | succ i=>
   have:=B6 hn.2 i o (by simpa using h) hl
   rwa [show k+1+i=k+(i+1) by omega] at this
theorem ut {all:List DOp}:∀{r:jm} {t:Nat} {v:V},look (keepR all r) t=some v->look r t=some v/\∀(i:Nat) (o:DOp),all[i]? = some o->o.mi.dst≠some t
 | [],t,v,h=>by simp [keepR,look] at h
 | (t0,u)::r,t,v,h=>by
  rw [keepR] at h
  split at h
  ·rename_i hb
   obtain ⟨h1,h2⟩:=ut h;refine ⟨?_,h2⟩;rw [aE];by_cases ht:t0=t
   ·subst ht
    exfalso;obtain ⟨o,ho,hd⟩:=aad.1 hb;obtain ⟨i,hi⟩:=aae ho;unfold Jk at hd
    split at hd
    ·rename_i d hdst
     have:=wt hd;subst this;exact h2 i o hi hdst
    ·cases hd
   ·rw [if_neg ht];exact h1
  ·rename_i hb
   rw [aE] at h;by_cases ht:t0=t
   ·subst ht
    rw [if_pos rfl] at h;refine ⟨by rw [aE,if_pos rfl];exact h,fun i o ho hdst=>?_⟩;have:all.any (Jk t0)=true:=by
     refine aad.2 ⟨o,Zf ho,?_⟩;unfold Jk;rw [hdst];exact ZQ _
    rw [hb] at this;cases this
   ·rw [if_neg ht] at h
    obtain ⟨h1,h2⟩:=ut h;exact ⟨by rw [aE,if_neg ht];exact h1,h2⟩
noncomputable def B7 (all:List DOp) (r0:jm) (m:Nat) (E D:List Nat) (st:St) (q:az->St->Tree):Tree:=
 match m with
 | 0=>match y5 D all 0 with
  | true=>q .normal st
  | false=>.fail
 | m+1=>Jj (xU E D all 0 fun i o=>cN [o.mi] none st fun e uU=>match e with
  | .normal=>tI all r0 m E (i::D) uU q
  | e=>q e { uU with regs:=r0 })
theorem FU (all:List DOp) (r0:jm) (m:Nat) (E D:List Nat) (st:St) (q:az->St->Tree):tI all r0 m E D st q=pC all D all 0 E st fun E' st'=>B7 all r0 m E' D st' q:=by
 cases m<;>rfl
structure QM (all:List DOp) (st0:St) (listed:Array Bool) (E D:List Nat) (S s:St):Prop where
 none:∀t,(∀(j:Nat) (o:DOp),all[j]? = some o->listed.getD j false=true->o.mi.dst≠some t)->look s.regs t=look st0.regs t
 one:∀(j:Nat) (o:DOp) (t:Nat),all[j]? = some o->listed.getD j false=true->o.mi.dst=some t->look s.regs t=look S.regs t
 other:∀t,(∀(j:Nat) (o:DOp),all[j]? = some o->o.mi.dst≠some t)->look S.regs t=look st0.regs t
 qE:∀(j:Nat) (o:DOp),all[j]? = some o->o.loud=false->listed.getD j false=true->j∈E
 lD:∀(j:Nat) (o:DOp),all[j]? = some o->o.loud=true->(listed.getD j false=true<->j∈D)
 Dl:∀j∈D,∃o:DOp,all[j]? = some o/\o.loud=true
 heap:s.heap=S.heap
 next:s.next=S.next
 defers:s.defers=S.defers
 base:s.base=S.base
section
variable {P : Program} {n : Nat} {pol : Pol} {ops : List Oper} {mi : List MI} {Q : az -> St -> Prop} {q : az -> St -> Tree} {w0 : World} {gs : Fr} {st0 : St} {c0 : Cx}
theorem Ie (hc:da P n pol ops ops=some mi) (hd:Ic (dx ops mi)) :
  ∀(d m:Nat) (listed:Array Bool) (E D:List Nat) (S s:St) (c:Cx) (a:Act),left listed ops.length=d->HeadInv .any ops.toArray ops.length listed->QL P (dx ops mi) D E S (dx ops mi).length->QM (dx ops mi) st0 listed E D S s->c.B=c0.B->c.J0=c0.J0->Rel c w0 n gs s a->
   WT P Q (B7 (dx ops mi) (keepR (dx ops mi) st0.regs) m E D S q)->wpAny P .any ops.toArray (Came P Q q c0 w0 n gs) d listed a c.w:=by
 obtain ⟨hlen,hget⟩:=rR hc;obtain ⟨hall,hmk⟩:=uo ops mi hlen;generalize hA:dx ops mi=all at hd hall hmk;have hex:∀i,i<ops.length->∃o,all[i]? = some o:=fun i hi=>⟨all[i]'(by omega),AN (by omega)⟩
 have hquiet:∀(i:Nat) (o:DOp),all[i]? = some o->o.loud=false->gA o.mi.op=true:=by
  intro i o ho hl;obtain ⟨oi,h1,h2,h3,h4⟩:=hmk i o ho;rw [hl] at h4;simpa using h4.symm
 intro d
 induction d with
 | zero=>
  intro m listed E D S s c a hl hinv hph hact hB hJ r hW;have hlist:=sY hl;have um:Region.ready .any ops.toArray listed=[]:=by
   rw [aaT];intro i hi;obtain ⟨h1,oi,hoi,_⟩:=mem_ready.1 hi;have hilt:i<ops.length:=by simpa using (ZH.1 hoi).1
   have h2:=hlist i hilt;rw [getD_both h1] at h2;cases h2
  refine ⟨um,?_⟩
  cases m with
  | zero=>
   simp only [B7] at hW
   split at hW
   ·have hsame:db s S:=by
     refine ⟨fun t=>?_,hact.heap.symm,hact.next.symm,hact.defers.symm,hact.base.symm⟩;by_cases hdst:∃(j:Nat) (o:DOp),all[j]? = some o/\o.mi.dst=some t
     ·obtain ⟨j,o,ho,ht⟩:=hdst
      have hj:j<ops.length:=by
       by_cases hh:j<all.length
       ·omega
       ·rw [Y2 (by omega)] at ho;cases ho
      exact (hact.one j o t ho (hlist j hj) ht).symm
     ·rw [hact.none t (fun j o ho _ ht=>hdst ⟨j,o,ho,ht⟩),hact.other t (fun j o ho ht=>hdst ⟨j,o,ho,ht⟩)]
    exact ⟨c,.normal,S,hB,hJ,rfl,trivial,r.same hsame,hW⟩
   ·exact hW.elim
  | succ m=>
   exfalso;simp only [B7] at hW;obtain ⟨hne,_⟩:=zr hW;apply hne;rw [aaT];intro T hT;obtain ⟨i,o,ho,hlo,hnd,_⟩:=wP.1 hT;rw [Y9] at hnd;have hi:i<ops.length:=by
    by_cases hh:i<all.length
    ·omega
    ·rw [Y2 (by omega)] at ho;cases ho
   have:=fU.2 ((hact.lD i o ho hlo).1 (hlist i hi));rw [hnd] at this;cases this
 | succ d ih=>
  intro m listed E D S s c a hl hinv hph hact hB hJ r hW;obtain ⟨i0,hi0,hu0,hlo0⟩:=kf (listed:=listed) (h:=ops.length) (by omega);have hsz:=hinv.size;have XM:listed.size=ops.length:=by simpa using hsz
  have um:i0∈Region.ready .any ops.toArray listed:=by
   rw [mem_ready];refine ⟨getD_in (by omega) hu0,?_⟩;obtain ⟨o0,ho0⟩:=hex i0 hi0;obtain ⟨oi,h1,h2,h3,h4⟩:=hmk i0 o0 ho0;refine ⟨oi,by simpa using h1,fun e he hb=>?_⟩;exact hlo0 _ (hd.QK i0 o0 ho0 e.on (by rw [h3];exact uq.2 ⟨e,he,hb,rfl⟩))
  refine ⟨fun h0=>(by rw [h0] at um;cases um),?_⟩;intro i hi;obtain ⟨hui,oi,hoi,Nh⟩:=mem_ready.1 hi;have FQ:=getD_both hui;have hoi' : ops[i]? = some oi:=by simpa using hoi
  have hilt:i<ops.length:=by
   by_cases hh:i<ops.length
   ·exact hh
   ·rw [Y2 (by omega)] at hoi';cases hoi'
  obtain ⟨o,ho⟩:=hex i hilt;obtain ⟨oi2,h1,hmi,V7,B5⟩:=hmk i o ho;have:oi2=oi:=aax (h1.symm.trans hoi');subst this;obtain ⟨x,hx,hg,hop,hdst,hdn⟩:=hget i oi2 hoi';have hxo:x=o.mi:=aax (hx.symm.trans hmi);subst hxo;have hdl:∀j∈o.dep,listed.getD j false=true:=by
   intro j hj;rw [V7] at hj;obtain ⟨e,he,hb,rfl⟩:=uq.1 hj;exact Nh e he hb
  have Nj:∀j∈o.dep,j∈E\/j∈D:=by
   intro j hj;have hji:=hd.QK i o ho j hj;obtain ⟨oj,hoj⟩:=hex j (by omega)
   cases hlj:oj.loud with
   | true=>exact .inr ((hact.lD j oj hoj hlj).1 (hdl j hj))
   | false=>exact .inl (hact.qE j oj hoj hlj (hdl j hj))
  have un:∀t∈o.mi.tmps,look s.regs t=look S.regs t:=by
   intro t ht;by_cases hdst:∃(j:Nat) (oj:DOp),all[j]? = some oj/\oj.mi.dst=some t
   ·obtain ⟨j,oj,hoj,htj⟩:=hdst
    by_cases hji:j=i
    ·subst hji
     rw [ho] at hoj;injection hoj with hoj;subst hoj
     exact absurd ht (hd.self j o ho t htj)
    ·have:=(hd.sees i j o oj (Ne.symm hji) ho hoj t htj).2 ht
     exact hact.one j oj t hoj (hdl j this.2) htj
   ·rw [hact.none t (fun j oj hoj _ htj=>hdst ⟨j,oj,hoj,htj⟩),hact.other t (fun j oj hoj htj=>hdst ⟨j,oj,hoj,htj⟩)]
  have hleft:left (listed.setIfInBounds i true) ops.length=d:=by
   have:=zp (listed:=listed) (i:=i) (by omega) FQ (h:=ops.length) hilt;omega
  have hinv':=hinv.set hi hilt;have hii:(listed.setIfInBounds i true).getD i false=true:=by simp [show i<listed.size by omega]
  have qD:∀j,(listed.setIfInBounds i true).getD j false=true->j=i\/listed.getD j false=true:=by
   intro j hj;by_cases hji:j=i
   ·exact .inl hji
   ·rw [getD_set_ne false (Ne.symm hji)] at hj;exact .inr hj
  cases hlo:o.loud with
  | false=>
   have hiE:=hph.sat i o (by omega) ho hlo Nj;have hwd:waited all D i=false:=by
    cases hw:waited all D i with
    | false=>rfl
    | true=>
     obtain ⟨nn,hn,on,hon,hin⟩:=zq.1 hw;obtain ⟨on',XP,XQ⟩:=hact.Dl nn hn;have:on' = on:=aax (XP.symm.trans hon);subst this;have hnl:=(hact.lD nn on' hon XQ).2 hn;obtain ⟨oo,k1,k2,k3,k4⟩:=hmk nn on' hon;rw [k3] at hin;obtain ⟨e,he,hb,heq⟩:=uq.1 hin;have:=hinv.closed nn oo (by simpa using k1) hnl e he hb;rw [heq,FQ] at this;cases this
   obtain ⟨v,hok,hvS⟩:=hph.op i o (by omega) ho hlo hiE hwd;have Jt : ∀u,(∀dd,o.mi.dst=some dd->look S.regs dd=some u)->QM all st0 (listed.setIfInBounds i true) E D S (put o.mi.dst u s):=by
    intro u hu;have hput:(put o.mi.dst u s).heap=s.heap/\(put o.mi.dst u s).next=s.next/\(put o.mi.dst u s).defers=s.defers/\(put o.mi.dst u s).base=s.base:=by
     cases o.mi.dst<;>simp [Uw.put]
    refine ⟨?_,?_,hact.other,?_,?_,hact.Dl,by rw [hput.1,hact.heap],by rw [hput.2.1,hact.next],by rw [hput.2.2.1,hact.defers],by rw [hput.2.2.2,hact.base]⟩
    ·intro t ht
     rw [jz,if_neg (ht i o ho hii)];exact hact.none t (fun j oj hoj hlj=>ht j oj hoj (getD_set_true hlj))
    ·intro j oj t hoj hlj htj
     by_cases hji:j=i
     ·subst hji
      rw [ho] at hoj;injection hoj with hoj;subst hoj
      rw [jz,if_pos htj,hu t htj]
     ·rw [jz,if_neg (hd.sees i j o oj (Ne.symm hji) ho hoj t htj).1]
      exact hact.one j oj t hoj ((qD j hlj).resolve_left hji) htj
    ·intro j oj hoj hlj hl'
     by_cases hji:j=i
     ·subst hji;exact hiE
     ·exact hact.qE j oj hoj hlj ((qD j hl').resolve_left hji)
    ·intro j oj hoj hlj
     have hji:j≠i:=by rintro rfl;rw [ho] at hoj;injection hoj with hoj;subst hoj;rw [hlo] at hlj;cases hlj
     rw [getD_set_ne false (Ne.symm hji)];exact hact.lD j oj hoj hlj
   unfold wpOp;simp only [hoi]
   rcases hok s un hact.heap with ⟨hgr,hstep⟩|⟨hgr,rfl⟩
   ·rw [kY r hg hgr]
    simp only [if_true];left;have hW2:=hstep (fun _ z=>z=put (some 0) v s) (fun v' s'=>Tree.done .normal (put (some 0) v' s')) (fun _ _=>.fail) rfl;refine step_ok (xx:=fun _ _=>Tree.fail) r hop ?_ (fun c' st' d ch _ _ _ _ _ hq=>False.elim hq) hW2;intro c' s' a' v' gv hB' hJ' htm r' xZ hv' hq;simp only [WT,Uw.put,St.mk.injEq,Zu,ZM,true_and] at hq;obtain ⟨⟨rfl,e1⟩,e2,e3,e4,e5⟩:=hq;have hss:s' = s:=by cases s';cases s;simp_all
    subst hss;refine ih m _ E D S (put o.mi.dst v' s') c' _ hleft hinv' hph (Jt v' hvS) (hB'.trans hB) (hJ'.trans hJ) ?_ hW;rw [hdst];exact r'.put hdn hv'
   ·rw [kY r hg hgr]
    simp only [Y4,if_false];refine ih m _ E D S (put o.mi.dst (.tuple []) s) c _ hleft hinv' hph (Jt (.tuple []) hvS) hB hJ ?_ hW;rw [hdst];exact r.put hdn (by simp [aD,aC,undef])
  | true=>
   have hnG:=hd.noG i o ho hlo;have hiD:i∉D:=fun hh=>by
    have:=(hact.lD i o ho hlo).2 hh;rw [FQ] at this;cases this
   cases m with
   | zero=>
    exfalso;simp only [B7] at hW
    split at hW
    ·rename_i hn
     have:=B6 hn i o ho hlo;rw [Y9] at this;exact hiD this
    ·exact hW
   | succ m=>
    simp only [B7] at hW;have hmem:=(zr hW).2 _ (wP.2 ⟨i,o,ho,hlo,by
     rw [Y9]
     cases hh:pR D i with
     | false=>rfl
     | true=>exact (hiD (fU.1 hh)).elim,qF.2 Nj,rfl⟩)
    rw [Y9] at hmem;simp only [rJ,qw,DZ,hnG] at hmem;have QN:∀t∈o.mi.op.tmps,look s.regs t=look S.regs t:=fun t ht=>un t (by simp [MI.tmps,ht]);rw [<- Ib QN hact.heap hact.next hact.defers hact.base] at hmem;unfold wpOp;simp only [hoi];have hwant:Region.wanted oi2 (yielded ops.toArray a.tmps)=true:=kY r hg (by simp [tn,hnG]);rw [hwant];simp only [if_true];left;refine step_ok r hop ?_ ?_ hmem
    ·intro c' s' a' v gv hB' hJ' htm r' xZ hv hq
     simp only [] at hq;rw [FU] at hq;obtain ⟨E',S',p1,p2,p3⟩:=FT hd hquiet all 0 E (put o.mi.dst v (S.tM s')) rfl (fun _ _=>.inr trivial) ⟨fun j _ hj=>by omega,fun j _ hj=>by omega⟩ hq;have Ta:∀t,look (put o.mi.dst v (S.tM s')).regs t=if o.mi.dst=some t then some v else look S.regs t:=fun t=>by rw [jz];rfl
     have hold:∀(j:Nat) (oj:DOp) (t:Nat),all[j]? = some oj->(listed.setIfInBounds i true).getD j false=true->oj.mi.dst=some t->look S'.regs t=look (put o.mi.dst v (S.tM s')).regs t:=by
      intro j oj t hoj hlj htj;refine p2.same t (fun j' oj' Nk XR hjE=>?_);have hjj:j' = j:=by
       by_cases hjj:j' = j
       ·exact hjj
       ·exact ((hd.sees j' j oj' oj hjj Nk hoj t htj).1 XR).elim
      subst hjj;rw [hoj] at Nk;injection Nk with Nk;subst Nk
      by_cases hji:j' = i
      ·subst hji
       exact p2.quiet j' oj hoj (by rw [ho] at hoj;injection hoj with hoj;subst hoj;exact hlo) hjE
      ·cases V9 : oj.loud with
       | false=>exact hact.qE j' oj hoj V9 ((qD j' hlj).resolve_left hji)
       | true=>exact p2.quiet j' oj hoj V9 hjE
     have hput:(put o.mi.dst v s').heap=s'.heap/\(put o.mi.dst v s').next=s'.next/\(put o.mi.dst v s').defers=s'.defers/\(put o.mi.dst v s').base=s'.base:=by
      cases o.mi.dst<;>simp [Uw.put]
     have Ju:(put o.mi.dst v (S.tM s')).heap=s'.heap/\(put o.mi.dst v (S.tM s')).next=s'.next/\(put o.mi.dst v (S.tM s')).defers=s'.defers/\(put o.mi.dst v (S.tM s')).base=s'.base:=by
      cases o.mi.dst<;>simp [Uw.put,St.tM]
     have Jt : QM all st0 (listed.setIfInBounds i true) E' (i::D) S' (put o.mi.dst v s'):=by
      refine ⟨?_,?_,?_,?_,?_,?_,by rw [hput.1,p2.heap,Ju.1],by rw [hput.2.1,p2.next,Ju.2.1],by rw [hput.2.2.1,p2.defers,Ju.2.2.1],by rw [hput.2.2.2,p2.base,Ju.2.2.2]⟩
      ·intro t ht
       rw [jz,if_neg (ht i o ho hii),xZ];exact hact.none t (fun j oj hoj hlj=>ht j oj hoj (getD_set_true hlj))
      ·intro j oj t hoj hlj htj
       rw [hold j oj t hoj hlj htj,Ta,jz,xZ];by_cases hji:j=i
       ·subst hji
        rw [ho] at hoj;injection hoj with hoj;subst hoj
        rw [if_pos htj,if_pos htj]
       ·have hne:=(hd.sees i j o oj (Ne.symm hji) ho hoj t htj).1
        rw [if_neg hne,if_neg hne];exact hact.one j oj t hoj ((qD j hlj).resolve_left hji) htj
      ·intro t ht
       rw [p2.same t (fun j oj hoj htj _=>(ht j oj hoj htj).elim),Ta,if_neg (ht i o ho)];exact hact.other t ht
      ·intro j oj hoj hlj hl'
       have hji:j≠i:=by rintro rfl;rw [ho] at hoj;injection hoj with hoj;subst hoj;rw [hlo] at hlj;cases hlj
       exact p2.sub j (hact.qE j oj hoj hlj ((qD j hl').resolve_left hji))
      ·intro j oj hoj hlj
       by_cases hji:j=i
       ·subst hji;simp [hii]
       ·rw [getD_set_ne false (Ne.symm hji),hact.lD j oj hoj hlj]
        simp [hji]
      ·intro j hj
       simp at hj
       rcases hj with rfl|hj
       ·exact ⟨o,ho,hlo⟩
       ·exact hact.Dl j hj
     refine ih m _ E' (i::D) S' (put o.mi.dst v s') c' _ hleft hinv' p1 Jt (hB'.trans hB) (hJ'.trans hJ) ?_ p3;rw [hdst];exact r'.put hdn hv
    ·intro c' s' dd ch hB' hJ' r' xZ hex' hq
     simp only [] at hq;refine ⟨c',.panic dd,_,hB'.trans hB,hJ'.trans hJ,rfl,hex',?_,hq⟩;refine ⟨r'.heap,r'.hrel,r'.size,?_,r'.frames,r'.nD,r'.base,r'.defers⟩;intro t v hv;obtain ⟨k1,k2⟩:=ut hv;rw [<- hact.none t (fun j oj hoj _=>k2 j oj hoj)] at k1;exact r'.regs t v (by rw [xZ];exact k1)
theorem KQ (W:WPS P) {id fuel:Nat} {c:Cx} {a:Act} (hdf:W.dfr=true\/ops.all uV=true) (hm:P.follows .mixedOrders=true) (hc:da P n pol ops ops=some mi) (hd:y9 (dx ops mi)=true) (r:Rel c w0 n gs st0 a)
  (hw:WT P Q (tI (dx ops mi) (keepR (dx ops mi) st0.regs) fuel [] [] st0 q)):W.W (Code.region id ops.toArray true) (Came P Q q c w0 n gs) a c.w:=by
 have hd:=KP hd;obtain ⟨hlen,hget⟩:=rR hc;obtain ⟨hall,hmk⟩:=uo ops mi hlen;have hquiet:∀(i:Nat) (o:DOp),(dx ops mi)[i]? = some o->o.loud=false->gA o.mi.op=true:=by
  intro i o ho hl;obtain ⟨oi,h1,h2,h3,h4⟩:=hmk i o ho;rw [hl] at h4;simpa using h4.symm
 refine W.any hm D8 (by simpa using hdf) ?_;have hbel:Below c.w.heap.size c.w { c.w with drawn:=c.w.drawn+1 }:=⟨rfl,rfl,rfl,Ls _,fun _ _=>rfl⟩
 have r1:=r.grow hbel;have hnone:∀j,(Array.replicate ops.toArray.size false).getD j false=false:=fun j=>getD_replicate_false _ j;have hl:∀k,left (Array.replicate ops.toArray.size false) k=k:=by
  intro k
  induction k with
  | zero=>rfl
  | succ k ih=>simp only [left,ih,hnone,Y4,if_false]
 rw [FU] at hw;obtain ⟨E',S',p1,p2,p3⟩:=FT hd hquiet (dx ops mi) 0 [] st0 rfl (fun _ _=>.inr trivial) ⟨fun j _ hj=>by omega,fun j _ hj=>by omega⟩ hw;have hact:QM (dx ops mi) st0 (Array.replicate ops.toArray.size false) E' [] S' st0:=
  ⟨fun _ _=>rfl,fun j o t _ hl'=>(by rw [hnone] at hl';cases hl'),fun t ht=>p2.same t (fun j o ho hdst _=>(ht j o ho hdst).elim),fun j o _ _ hl'=>(by rw [hnone] at hl';cases hl'),fun j o _ _=>⟨fun hl'=>(by rw [hnone] at hl';cases hl'),fun h=>(by cases h)⟩,fun j hj=>(by cases hj),p2.heap.symm,p2.next.symm,p2.defers.symm,p2.base.symm⟩
 have:=Ie (c0:=c) (gs:=gs) (w0:=w0) (st0:=st0) hc hd ops.length fuel (Array.replicate ops.toArray.size false) E' [] S' st0 { c with w:={ c.w with drawn:=c.w.drawn+1 } } a (hl _)
  ⟨by simp,fun j oj _ hl'=>(by rw [hnone] at hl';cases hl'),fun t _ ht=>getD_in (by simpa using ht) (hnone t)⟩ p1 hact rfl rfl r1 p3
 rw [show ops.toArray.size=ops.length by simp];exact this
end
end Uw
