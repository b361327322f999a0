/-
slices.Insert, Delete and Clone at lists of bars, of cells, of dynamics, among a score's blocks.
Conditions: none but those that each statement names.
-/
import Derived.Test.YtoaofjhadfihjaaGreatDoorC10a
import Derived.Test.YtoaofjhadfihjaaGreatDoorC09l
set_option linter.unusedVariables false
set_option linter.unusedSimpArgs false
set_option maxRecDepth 100000
set_option maxHeartbeats 16000000
namespace Go.Proofs.Pv
open Go Go.Proofs
def insL {α:Type} (l es:List α) (a:Nat):List α:=l.take a++es++l.drop a
def gJ {α:Type} (l:List α) (a d:Nat):List α:=l.take a++l.drop (a+d)
theorem rO {α:Type} {l es:List α} {a:Nat} (h:a<=l.length):(insL l es a).length=l.length+es.length:=by simp only[insL,List.length_append,List.length_take,List.length_drop];omega
theorem yH {α:Type} {l:List α} {a d:Nat} (h:a+d<=l.length):(gJ l a d).length=l.length - d:=by simp only[gJ,List.length_append,List.length_take,List.length_drop];omega
theorem Rd.call {P:Program} {G:Nat->Option (List AV)} {F:Fence} (hF:Free F) {W:World} {f:FuncId} {args:List AV} {hr:Hp} {v:AV} (rd:Rd P G f args hr v) {st:St} {K:AV->St->Prop} (hs: ∀k b,hr k=some b->st.hp k=some b) (hK:K v st):aP F P G W f args K st:=by
 intro M w vs inv hargs
 obtain⟨h1,h2⟩:=rd F hF W _ _ M w vs st.nx (fun k hk=>hk) hs inv hargs
 refine⟨h1,fun n=>(h2 n).mono ?_⟩
 rintro e w' ⟨M',u,rfl,h3,h4,h5⟩
 exact⟨M',u,v,st,rfl,h3,h4,h5,hK⟩
section
variable {F:Fence} {W:World} {f:FuncId} {n n' k m q r nx n0 a:Nat} {C0 C1 C2:List AV} {rest:List AV}
theorem Ei (hF:Free F) (hro:F.round=none) (wd:dD Tryz.prog gl f [.msl 0 0 n k,.int .i64 (a:Nat),.msl 1 0 m k] [(0,.cells C0),(1,.cells C1)] 2 (.msl 0 0 n' k) [(0,C2)] 1) (hqr:q≠r) (r0: ∀f,C0.map (AV.ren f)=C0) (r1: ∀f,C1.map (AV.ren f)=C1) (r2: ∀f,C2.map (AV.ren f)=C2):
  aP F Tryz.prog gl W f [.msl q 0 n k,.int .i64 (a:Nat),.msl r 0 m k] (fun u su=>u= .msl nx 0 n' k/\su=⟨[(nx,.cells C2)],nx+1⟩) ⟨[(q,.cells C0),(r,.cells C1)],nx⟩:=by
 refine wd.call hF hro (fun k=>if k=q then some 0 else if k=r then some 1 else none) (fun k=>if k=0 then some q else if k=1 then some r else none) ?_ (fun k hk=>by show(if k=0 then some q else if k=1 then some r else none)=none;rw[if_neg (by omega),if_neg (by omega)]) (st:=⟨[(q,.cells C0),(r,.cells C1)],nx⟩)
  (aG.cons q (by simp [hget]) (by simp) (r0 _) (aG.cons r (by simp [hget,Ne.symm hqr]) (by simp [Ne.symm hqr]) (r1 _) aG.nil)) (by simp [AV.ren,Ne.symm hqr]) ⟨?_,?_⟩
 ·intro k k' h
  split at h
  ·rename_i e;subst e;cases h;rfl
  ·split at h
   ·rename_i e;subst e;cases h;rfl
   ·cases h
 ·simp [AV.ren,up]
 ·simp only[eX,fH,aK,aN,r2,Nat.zero_add]
theorem uJ (hF:Free F) (hro:F.round=none) (wd:dD Tryz.prog gl f (.msl 0 0 n k::rest) [(0,.cells C0)] n0 (.msl 0 0 n' k) [(0,C2)] 1) (h0:0<n0) (hr: ∀f,rest.map (AV.ren f)=rest) (r0: ∀f,C0.map (AV.ren f)=C0) (r2: ∀f,C2.map (AV.ren f)=C2):
  aP F Tryz.prog gl W f (.msl q 0 n k::rest) (fun u su=>u= .msl nx 0 n' k/\su=⟨[(nx,.cells C2)],nx+1⟩) ⟨[(q,.cells C0)],nx⟩:=by
 refine wd.call hF hro (fun k=>if k=q then some 0 else none) (fun k=>if k=0 then some q else none) ?_ (fun k hk=>by show(if k=0 then some q else none)=none;rw[if_neg (by omega)]) (st:=⟨[(q,.cells C0)],nx⟩)
  (aG.cons q (by simp [hget]) (by simp) (r0 _) aG.nil) (by rw[List.map_cons,hr];simp [AV.ren]) ⟨?_,?_⟩
 ·intro k k' h
  split at h
  ·rename_i e;subst e;cases h;rfl
  ·cases h
 ·simp [AV.ren,up]
 ·simp only[eX,fH,aK,aN,r2,Nat.zero_add]
end
theorem Ro: ∀l:List (Ba),(l.flatMap Ba.cells).length=l.length*14:=flat_length (k:=14) fun _=>rfl
theorem Xh (l:List (Ba)):(l.flatMap Ba.cells).all AV.one=true:=Am (fun _=>rfl) l
theorem aLy (l es:List (Ba)) (a:Nat) (ha:a<=l.length) (hs:l.length+es.length<=1000000):dD Tryz.prog gl 53 [.msl 0 0 l.length 14,.int .i64 (a:Nat),iR 1 14 es.length] (hC ((0,l.flatMap Ba.cells)::jH 1 (es.flatMap Ba.cells) es.length)) 2 (.msl 0 0 (insL l es a).length 14) [(0,(insL l es a).flatMap Ba.cells)] 1:=by
 have:=aD2 ((l.take a).flatMap Ba.cells) ((l.drop a).flatMap Ba.cells) (es.flatMap Ba.cells) a (l.length - a) es.length (by rw[Ro,List.length_take];congr 1<;>omega) (by rw[Ro,List.length_drop]) (by rw[Ro]) (Xh _) (Xh _) (Xh _) (fun f=>nT _) (fun f=>nT _) (fun f=>nT _) (by omega)
 have e1:a+(l.length - a)=l.length:=by omega
 have e2:(insL l es a).length=a+es.length+(l.length - a):=by rw[rO ha];omega
 have e3:(l.take a).flatMap Ba.cells++(l.drop a).flatMap Ba.cells=l.flatMap Ba.cells:=by rw[<-List.flatMap_append,List.take_append_drop]
 have e4:(l.take a).flatMap Ba.cells++es.flatMap Ba.cells++(l.drop a).flatMap Ba.cells=(insL l es a).flatMap Ba.cells:=by simp only[insL,List.flatMap_append]
 rw[e1,e3,e4,<-e2] at this
 exact this
theorem aSm {F:Fence} (hF:Free F) (hro:F.round=none) {W:World} (l es:List (Ba)) (a:Nat) (ha:a<=l.length) (hs:l.length+es.length<=1000000) (m:Nat) (hm:es.length=m+1) {q r nx:Nat} (hqr:q≠r):
  aP F Tryz.prog gl W 53 [.msl q 0 l.length 14,.int .i64 (a:Nat),.msl r 0 (m+1) 14] (fun u su=>u= .msl nx 0 (insL l es a).length 14/\su=⟨[(nx,.cells ((insL l es a).flatMap Ba.cells))],nx+1⟩) ⟨[(q,.cells (l.flatMap Ba.cells)),(r,.cells (es.flatMap Ba.cells))],nx⟩:=by
 have:=aLy l es a ha hs
 rw[hm] at this
 simp only[dY,bJ,aK,aN] at this
 exact Ei hF hro this hqr (fun f=>nT _) (fun f=>nT _) (fun f=>nT _)
theorem aSn {F:Fence} (hF:Free F) (hro:F.round=none) {W:World} (l es:List (Ba)) (a:Nat) (ha:a<=l.length) (hs:l.length+es.length<=1000000) (hm:es.length=0) {q nx:Nat}:
  aP F Tryz.prog gl W 53 [.msl q 0 l.length 14,.int .i64 (a:Nat),.sl 14 [] .mut] (fun u su=>u= .msl nx 0 (insL l es a).length 14/\su=⟨[(nx,.cells ((insL l es a).flatMap Ba.cells))],nx+1⟩) ⟨[(q,.cells (l.flatMap Ba.cells))],nx⟩:=by
 have:=aLy l es a ha hs
 rw[hm] at this
 simp only[aX,aY,aK,aN] at this
 exact uJ hF hro this (by decide) (fun f=>rfl) (fun f=>nT _) (fun f=>nT _)
theorem aSo {F:Fence} (hF:Free F) (hro:F.round=none) {W:World} (l:List (Ba)) (a d:Nat) (ha:a+d<=l.length) (hs:l.length<=1000000) {q nx:Nat}:
  aP F Tryz.prog gl W 57 [.msl q 0 l.length 14,.int .i64 (a:Nat),.int .i64 ((a+d:Nat):Int)] (fun u su=>u= .msl nx 0 (gJ l a d).length 14/\su=⟨[(nx,.cells ((gJ l a d).flatMap Ba.cells))],nx+1⟩) ⟨[(q,.cells (l.flatMap Ba.cells))],nx⟩:=by
 have:=aDy ((l.take a).flatMap Ba.cells) (((l.drop a).take d).flatMap Ba.cells) ((l.drop (a+d)).flatMap Ba.cells) a d (l.length - (a+d)) (by rw[Ro,List.length_take];congr 1<;>omega) (by rw[Ro,List.length_take,List.length_drop];congr 1<;>omega) (by rw[Ro,List.length_drop]) (Xh _) (Xh _) (Xh _) (fun f=>nT _) (fun f=>nT _) (by omega)
 have e1:a+d+(l.length - (a+d))=l.length:=by omega
 have e2:(gJ l a d).length=a+(l.length - (a+d)):=by rw[yH ha];omega
 have e3:(l.take a).flatMap Ba.cells++((l.drop a).take d).flatMap Ba.cells++(l.drop (a+d)).flatMap Ba.cells=l.flatMap Ba.cells:=by
  rw[<-List.flatMap_append,<-List.flatMap_append,<-List.drop_drop,List.append_assoc,List.take_append_drop,List.take_append_drop]
 have e4:(l.take a).flatMap Ba.cells++(l.drop (a+d)).flatMap Ba.cells=(gJ l a d).flatMap Ba.cells:=by simp only[gJ,List.flatMap_append]
 rw[e1,e3,e4,<-e2] at this
 exact uJ hF hro this (by decide) (fun f=>rfl) (fun f=>nT _) (fun f=>nT _)
theorem Rq: ∀l:List (List Vo),(l.flatMap fF).length=l.length:=fun l=>by rw[flat_length (k:=1) fun _=>rfl,Nat.mul_one]
theorem Xi (l:List (List Vo)):(l.flatMap fF).all AV.one=true:=Am (fun _=>rfl) l
theorem aLz (l es:List (List Vo)) (a:Nat) (ha:a<=l.length) (hs:l.length+es.length<=1000000):dD Tryz.prog gl 54 [.msl 0 0 l.length 1,.int .i64 (a:Nat),iR 1 1 es.length] (hC ((0,l.flatMap fF)::jH 1 (es.flatMap fF) es.length)) 2 (.msl 0 0 (insL l es a).length 1) [(0,(insL l es a).flatMap fF)] 1:=by
 have:=Ht (.inl ⟨rfl,rfl⟩) ((l.take a).flatMap fF) ((l.drop a).flatMap fF) (es.flatMap fF) a (l.length - a) es.length (by rw[Rq,List.length_take];congr 1<;>omega) (by rw[Rq,List.length_drop]) (by rw[Rq]) (Xi _) (Xi _) (Xi _) (fun f=>uT _) (fun f=>uT _) (fun f=>uT _) (by omega)
 have e1:a+(l.length - a)=l.length:=by omega
 have e2:(insL l es a).length=a+es.length+(l.length - a):=by rw[rO ha];omega
 have e3:(l.take a).flatMap fF++(l.drop a).flatMap fF=l.flatMap fF:=by rw[<-List.flatMap_append,List.take_append_drop]
 have e4:(l.take a).flatMap fF++es.flatMap fF++(l.drop a).flatMap fF=(insL l es a).flatMap fF:=by simp only[insL,List.flatMap_append]
 rw[e1,e3,e4,<-e2] at this
 exact this
theorem aSp {F:Fence} (hF:Free F) (hro:F.round=none) {W:World} (l es:List (List Vo)) (a:Nat) (ha:a<=l.length) (hs:l.length+es.length<=1000000) (m:Nat) (hm:es.length=m+1) {q r nx:Nat} (hqr:q≠r):
  aP F Tryz.prog gl W 54 [.msl q 0 l.length 1,.int .i64 (a:Nat),.msl r 0 (m+1) 1] (fun u su=>u= .msl nx 0 (insL l es a).length 1/\su=⟨[(nx,.cells ((insL l es a).flatMap fF))],nx+1⟩) ⟨[(q,.cells (l.flatMap fF)),(r,.cells (es.flatMap fF))],nx⟩:=by
 have:=aLz l es a ha hs
 rw[hm] at this
 simp only[dY,bJ,aK,aN] at this
 exact Ei hF hro this hqr (fun f=>uT _) (fun f=>uT _) (fun f=>uT _)
theorem aSq {F:Fence} (hF:Free F) (hro:F.round=none) {W:World} (l es:List (List Vo)) (a:Nat) (ha:a<=l.length) (hs:l.length+es.length<=1000000) (hm:es.length=0) {q nx:Nat}:
  aP F Tryz.prog gl W 54 [.msl q 0 l.length 1,.int .i64 (a:Nat),.sl 1 [] .mut] (fun u su=>u= .msl nx 0 (insL l es a).length 1/\su=⟨[(nx,.cells ((insL l es a).flatMap fF))],nx+1⟩) ⟨[(q,.cells (l.flatMap fF))],nx⟩:=by
 have:=aLz l es a ha hs
 rw[hm] at this
 simp only[aX,aY,aK,aN] at this
 exact uJ hF hro this (by decide) (fun f=>rfl) (fun f=>uT _) (fun f=>uT _)
theorem aSr {F:Fence} (hF:Free F) (hro:F.round=none) {W:World} (l:List (List Vo)) (a d:Nat) (ha:a+d<=l.length) (hs:l.length<=1000000) {q nx:Nat}:
  aP F Tryz.prog gl W 60 [.msl q 0 l.length 1,.int .i64 (a:Nat),.int .i64 ((a+d:Nat):Int)] (fun u su=>u= .msl nx 0 (gJ l a d).length 1/\su=⟨[(nx,.cells ((gJ l a d).flatMap fF))],nx+1⟩) ⟨[(q,.cells (l.flatMap fF))],nx⟩:=by
 have:=Hf (.inl ⟨rfl,rfl⟩) ((l.take a).flatMap fF) (((l.drop a).take d).flatMap fF) ((l.drop (a+d)).flatMap fF) a d (l.length - (a+d)) (by rw[Rq,List.length_take];congr 1<;>omega) (by rw[Rq,List.length_take,List.length_drop];congr 1<;>omega) (by rw[Rq,List.length_drop]) (Xi _) (Xi _) (Xi _) (fun f=>uT _) (fun f=>uT _) (by omega)
 have e1:a+d+(l.length - (a+d))=l.length:=by omega
 have e2:(gJ l a d).length=a+(l.length - (a+d)):=by rw[yH ha];omega
 have e3:(l.take a).flatMap fF++((l.drop a).take d).flatMap fF++(l.drop (a+d)).flatMap fF=l.flatMap fF:=by
  rw[<-List.flatMap_append,<-List.flatMap_append,<-List.drop_drop,List.append_assoc,List.take_append_drop,List.take_append_drop]
 have e4:(l.take a).flatMap fF++(l.drop (a+d)).flatMap fF=(gJ l a d).flatMap fF:=by simp only[gJ,List.flatMap_append]
 rw[e1,e3,e4,<-e2] at this
 exact uJ hF hro this (by decide) (fun f=>rfl) (fun f=>uT _) (fun f=>uT _)
theorem Rt: ∀l:List (List Dy),(l.flatMap fP).length=l.length:=fun l=>by rw[flat_length (k:=1) fun _=>rfl,Nat.mul_one]
theorem Xj (l:List (List Dy)):(l.flatMap fP).all AV.one=true:=Am (fun _=>rfl) l
theorem aL0 (l es:List (List Dy)) (a:Nat) (ha:a<=l.length) (hs:l.length+es.length<=1000000):dD Tryz.prog gl 55 [.msl 0 0 l.length 1,.int .i64 (a:Nat),iR 1 1 es.length] (hC ((0,l.flatMap fP)::jH 1 (es.flatMap fP) es.length)) 2 (.msl 0 0 (insL l es a).length 1) [(0,(insL l es a).flatMap fP)] 1:=by
 have:=Ht (.inr (.inl ⟨rfl,rfl⟩)) ((l.take a).flatMap fP) ((l.drop a).flatMap fP) (es.flatMap fP) a (l.length - a) es.length (by rw[Rt,List.length_take];congr 1<;>omega) (by rw[Rt,List.length_drop]) (by rw[Rt]) (Xj _) (Xj _) (Xj _) (fun f=>nS _) (fun f=>nS _) (fun f=>nS _) (by omega)
 have e1:a+(l.length - a)=l.length:=by omega
 have e2:(insL l es a).length=a+es.length+(l.length - a):=by rw[rO ha];omega
 have e3:(l.take a).flatMap fP++(l.drop a).flatMap fP=l.flatMap fP:=by rw[<-List.flatMap_append,List.take_append_drop]
 have e4:(l.take a).flatMap fP++es.flatMap fP++(l.drop a).flatMap fP=(insL l es a).flatMap fP:=by simp only[insL,List.flatMap_append]
 rw[e1,e3,e4,<-e2] at this
 exact this
theorem aSs {F:Fence} (hF:Free F) (hro:F.round=none) {W:World} (l es:List (List Dy)) (a:Nat) (ha:a<=l.length) (hs:l.length+es.length<=1000000) (m:Nat) (hm:es.length=m+1) {q r nx:Nat} (hqr:q≠r):
  aP F Tryz.prog gl W 55 [.msl q 0 l.length 1,.int .i64 (a:Nat),.msl r 0 (m+1) 1] (fun u su=>u= .msl nx 0 (insL l es a).length 1/\su=⟨[(nx,.cells ((insL l es a).flatMap fP))],nx+1⟩) ⟨[(q,.cells (l.flatMap fP)),(r,.cells (es.flatMap fP))],nx⟩:=by
 have:=aL0 l es a ha hs
 rw[hm] at this
 simp only[dY,bJ,aK,aN] at this
 exact Ei hF hro this hqr (fun f=>nS _) (fun f=>nS _) (fun f=>nS _)
theorem aSt {F:Fence} (hF:Free F) (hro:F.round=none) {W:World} (l es:List (List Dy)) (a:Nat) (ha:a<=l.length) (hs:l.length+es.length<=1000000) (hm:es.length=0) {q nx:Nat}:
  aP F Tryz.prog gl W 55 [.msl q 0 l.length 1,.int .i64 (a:Nat),.sl 1 [] .mut] (fun u su=>u= .msl nx 0 (insL l es a).length 1/\su=⟨[(nx,.cells ((insL l es a).flatMap fP))],nx+1⟩) ⟨[(q,.cells (l.flatMap fP))],nx⟩:=by
 have:=aL0 l es a ha hs
 rw[hm] at this
 simp only[aX,aY,aK,aN] at this
 exact uJ hF hro this (by decide) (fun f=>rfl) (fun f=>nS _) (fun f=>nS _)
theorem aSu {F:Fence} (hF:Free F) (hro:F.round=none) {W:World} (l:List (List Dy)) (a d:Nat) (ha:a+d<=l.length) (hs:l.length<=1000000) {q nx:Nat}:
  aP F Tryz.prog gl W 61 [.msl q 0 l.length 1,.int .i64 (a:Nat),.int .i64 ((a+d:Nat):Int)] (fun u su=>u= .msl nx 0 (gJ l a d).length 1/\su=⟨[(nx,.cells ((gJ l a d).flatMap fP))],nx+1⟩) ⟨[(q,.cells (l.flatMap fP))],nx⟩:=by
 have:=Hf (.inr (.inl ⟨rfl,rfl⟩)) ((l.take a).flatMap fP) (((l.drop a).take d).flatMap fP) ((l.drop (a+d)).flatMap fP) a d (l.length - (a+d)) (by rw[Rt,List.length_take];congr 1<;>omega) (by rw[Rt,List.length_take,List.length_drop];congr 1<;>omega) (by rw[Rt,List.length_drop]) (Xj _) (Xj _) (Xj _) (fun f=>nS _) (fun f=>nS _) (by omega)
 have e1:a+d+(l.length - (a+d))=l.length:=by omega
 have e2:(gJ l a d).length=a+(l.length - (a+d)):=by rw[yH ha];omega
 have e3:(l.take a).flatMap fP++((l.drop a).take d).flatMap fP++(l.drop (a+d)).flatMap fP=l.flatMap fP:=by
  rw[<-List.flatMap_append,<-List.flatMap_append,<-List.drop_drop,List.append_assoc,List.take_append_drop,List.take_append_drop]
 have e4:(l.take a).flatMap fP++(l.drop (a+d)).flatMap fP=(gJ l a d).flatMap fP:=by simp only[gJ,List.flatMap_append]
 rw[e1,e3,e4,<-e2] at this
 exact uJ hF hro this (by decide) (fun f=>rfl) (fun f=>nS _) (fun f=>nS _)
end Go.Proofs.Pv
namespace Go.Proofs.Pv
open Go Go.Proofs
theorem rdSub {h:List (Nat×aI)} {nx q:Nat} {X:aI} (e:hget h q=some X): ∀k b,hget [(q,X)] k=some b->(⟨h,nx⟩:St).hp k=some b:=by
 intro k b h1
 simp only[hget] at h1
 split at h1
 ·rename_i e1
  subst e1
  exact e.trans h1
 ·cases h1
def Pa.ins (p:Pa) (c:List (List Vo)) (d:List (List Dy)) (b:Nat):Pa:=⟨p.name,p.clef,p.channel,insL p.cells c b,insL p.dyns d b⟩
def Pa.del (p:Pa) (b c:Nat):Pa:=⟨p.name,p.clef,p.channel,gJ p.cells b c,gJ p.dyns b c⟩
theorem Wn {P:Program} {G:Nat->Option (List AV)} {F:Fence} {W:World} {rng:Bool} {d:Nat} {c:Code} {K:dU Prop} {fr:Fr} {st:St} (g:(OZ F P G W rng (d+1)).loop c K fr st):(OZ F P G W rng (d+1)).loop c K fr st:=g
structure Box (p:Prop):Prop where
 out:p
def hk0 (q:Nat):List (Nat×aI)->List (Nat×aI)
 |[]=>[]
 |(k,b)::h=>if k=q then hk0 q h else(k,b)::hk0 q h
theorem aJa {q:Nat}:hk0 q []=[]:=rfl
theorem aF8 {q k:Nat} {b:aI} {h:List (Nat×aI)}:hk0 q ((k,b)::h)=if k=q then hk0 q h else(k,b)::hk0 q h:=rfl
theorem aBz {q k:Nat} {b:aI}: ∀ {h:List (Nat×aI)},hget (hk0 q h) k=some b->hget h k=some b/\k≠q
 |[],h1=>by simp [hk0,hget] at h1
 | (k',b')::h,h1=>by
  simp only[hk0] at h1
  by_cases e:k'=q
  ·rw[if_pos e] at h1
   obtain⟨g1,g2⟩:=aBz h1
   refine⟨?_,g2⟩
   simp only[hget]
   rw[if_neg (fun e2=>g2 (e2.trans e))];exact g1
  ·rw[if_neg e] at h1
   simp only[hget] at h1 ⊢
   split at h1
   ·rename_i e2
    rw[if_pos e2]
    exact⟨h1,fun e3=>e (e2.symm.trans e3)⟩
   ·rename_i e2
    rw[if_neg e2]
    exact aBz h1
theorem Um {P:Program} {G:Nat->Option (List AV)} {F:Fence} {W:World} {rng:Bool} {d:Nat} {f:FuncId} {args:List AV} {v:AV} {q nx:Nat} {X Y:aI} {h:List (Nat×aI)} {K:AV->St->Prop} (e:hget h q=some X)
  (hc:aP F P G W f args (fun u su=>u=v/\su=⟨[(nx,Y)],nx+1⟩) ⟨[(q,X)],nx⟩) (hK:K v ⟨hk0 q h++[(nx,Y)],nx+1⟩):(OZ F P G W rng d).call f args K ⟨h,nx⟩:=by
 refine nG ?_
 intro M w vs inv hargs
 obtain⟨F1,inv1,hback⟩:=inv.hide (fun k=>decide (k=q)) (hp1:=hget [(q,X)]) (al1:=(· <nx)) (fun k b hk=>⟨rdSub (nx:=nx) e k b hk,by
  simp only[hget] at hk
  split at hk
  ·rename_i e1;simpa using e1
  ·cases hk⟩) (fun k hk=>hk)
 obtain⟨g,hcall⟩:=hc {M with F:=F1} w vs inv1 hargs
 refine⟨g,fun n=>(hcall n).mono ?_⟩
 rintro e w' ⟨M',v',av,st2,rfl,r1,r2,r3,rfl,rfl⟩
 obtain⟨hle2,hinv2⟩:=hback M' w' _ _ r1 r2
 refine⟨{M' with F:=M.F},v',_,⟨hk0 q h++[(nx,Y)],nx+1⟩,rfl,hle2,hinv2 _ fun k b hk=>?_,r3,hK⟩
 simp only[St.hp,bV] at hk
 split at hk
 ·rename_i x hx
  simp only[Option.some.injEq] at hk
  subst hk
  obtain⟨g1,g2⟩:=aBz hx
  exact .inl ⟨g1,by simpa using g2⟩
 ·exact .inr hk
theorem aRr (l:List (Ba)) (a n:Nat) (hl:l.length<=1000000) (ha:a+n<=l.length) (hn:0<n) (q:Nat) (hq:q<2000):Rd Tryz.prog gl 56 [.msl q (a*14) n 14] (hget [(q,.cells (l.flatMap Ba.cells))]) (.sl 14 (((l.drop a).take n).map Ba.av) .none):=by
 have hfl:=Ro l
 have hcut:List.take (n*14) (List.drop (a*14) (l.flatMap Ba.cells))=((l.drop a).take n).flatMap Ba.cells:=by rw[Cf (c:=Ba.cells) (k:=14) (fun _=>rfl),Ce (c:=Ba.cells) (k:=14) (fun _=>rfl)]
 have hone:(((l.drop a).take n).flatMap Ba.cells).all AV.one=true:=Xh _
 have hpure:(((l.drop a).take n).flatMap Ba.cells).all AV.pure=true:=kX (fun _=>rfl) _
 have hlen:((l.drop a).take n).length=n:=by rw[List.length_take,List.length_drop];omega
 have hfl2:(((l.drop a).take n).flatMap Ba.cells).length=n*14:=by rw[Ro,hlen]
 have hch:chunks (!(Nat.beq 14 1)) 14 n (((l.drop a).take n).flatMap Ba.cells)=((l.drop a).take n).map Ba.av:=by
  have:=lH (c:=Ba.cells) (k:=14) (fun _=>rfl) ((l.drop a).take n)
  rw[hlen] at this;exact this
 have hne: ∀m r:Nat,(q=m+2000+r)=False:=fun m r=>by simp only[eq_iff_iff,iff_false];omega
 have hne0: ∀m:Nat,(q=m+2000)=False:=fun m=>by simp only[eq_iff_iff,iff_false];omega
 refine Rd.introF 2 2000 mix names (fn:=Tryz.f56) Tryz.func56 rfl (fun f hf=>rfl) fun m F hF hro W=>?_
 simp only[Tryz.ntmps56,Tryz.results56,aJ,Nat.reduceAdd,Nat.reduceSub]
 repeat' (first
  |simp -implicitDefEqProofs (maxSteps:=9999999) only[↓reduceIte,aA,aC,facts,Nat.reduceAdd,Nat.reduceLT,Nat.reduceMul,kR,kS,aAh,lY,Option.map_none,gI,cO,List.flatMap_nil,or_true,Nat.add_assoc, *]
  |simp -implicitDefEqProofs (maxSteps:=9999999) (disch:=first|assumption|omega) only[aA,aC,if_pos,if_neg,Nat.reduceAdd,Nat.reduceLT,lK,Gv,Rh,Nat.add_assoc, *])
 exact fun k b h=>h
theorem aGt (hl:List (Nat×aI)):Rd Tryz.prog gl 56 [.sl 14 [] .none] (hget hl) (.sl 14 [] .none):=by
 refine Rd.introF 2 200 mix names (fn:=Tryz.f56) Tryz.func56 rfl (fun f hf=>rfl) fun m F hF hro W=>?_
 simp only[Tryz.ntmps56,Tryz.results56,aJ,Nat.reduceAdd,Nat.reduceSub]
 repeat' (first
  |simp -implicitDefEqProofs (maxSteps:=9999999) only[↓reduceIte,aA,aC,facts,kR,kS,zX,uY,nY,lY,Option.map_none, *]
  |with_reducible refine kT ?_)
 refine xK ?_ ?_
 all_goals repeat' (simp -implicitDefEqProofs (maxSteps:=9999999) only[↓reduceIte,aA,aC,facts,Nat.reduceAdd,Nat.reduceMul,lK,Gv,Rh, *])
 all_goals exact fun k b h=>h
theorem aLr (l:List (Ba)) (a n:Nat) (hl:l.length<=1000000) (ha:a+n<=l.length) (q:Nat) (hq:q<2000):Rd Tryz.prog gl 56 [.msl q (a*14) n 14] (hget [(q,.cells (l.flatMap Ba.cells))]) (.sl 14 (((l.drop a).take n).map Ba.av) .none):=by
 rcases Nat.eq_zero_or_pos n with hn|hn
 ·subst hn
  exact(aGt _).nilMsl
 ·exact aRr l a n hl ha hn q hq
theorem aRs (l:List (List Vo)) (a n:Nat) (hl:l.length<=1000000) (ha:a+n<=l.length) (hn:0<n) (q:Nat) (hq:q<2000):Rd Tryz.prog gl 58 [.msl q (a) n 1] (hget [(q,.cells (l.flatMap fF))]) (.sl 1 (((l.drop a).take n).map bU) .none):=by
 have hfl:=Rq l
 have hcut:List.take (n) (List.drop (a) (l.flatMap fF))=((l.drop a).take n).flatMap fF:=by have:=Cf (c:=fF) (k:=1) (fun _=>rfl) l a;have h2:=Ce (c:=fF) (k:=1) (fun _=>rfl) (l.drop a) n;rw[Nat.mul_one] at this h2;rw[this,h2]
 have hone:(((l.drop a).take n).flatMap fF).all AV.one=true:=Xi _
 have hpure:(((l.drop a).take n).flatMap fF).all AV.pure=true:=kX (fun _=>rfl) _
 have hlen:((l.drop a).take n).length=n:=by rw[List.length_take,List.length_drop];omega
 have hfl2:(((l.drop a).take n).flatMap fF).length=n:=by rw[Rq,hlen]
 have hch:chunks (!(Nat.beq 1 1)) 1 n (((l.drop a).take n).flatMap fF)=((l.drop a).take n).map bU:=by
  have:=zD (c:=bU) ((l.drop a).take n)
  rw[hlen] at this
  rw[show((l.drop a).take n).flatMap fF=((l.drop a).take n).map bU from nV _]
  exact this
 have hne: ∀m r:Nat,(q=m+2000+r)=False:=fun m r=>by simp only[eq_iff_iff,iff_false];omega
 have hne0: ∀m:Nat,(q=m+2000)=False:=fun m=>by simp only[eq_iff_iff,iff_false];omega
 refine Rd.introF 2 2000 mix names (fn:=Tryz.f58) Tryz.func58 rfl (fun f hf=>rfl) fun m F hF hro W=>?_
 simp only[Tryz.ntmps58,Tryz.results58,aJ,Nat.reduceAdd,Nat.reduceSub]
 repeat' (first
  |simp -implicitDefEqProofs (maxSteps:=9999999) only[↓reduceIte,aA,aC,facts,Nat.reduceAdd,Nat.reduceLT,kR,kS,aAh,lY,Option.map_none,gI,cO,List.flatMap_nil,or_true,Nat.add_assoc, *]
  |simp -implicitDefEqProofs (maxSteps:=9999999) (disch:=first|assumption|omega) only[aA,aC,if_pos,if_neg,Nat.reduceAdd,Nat.reduceLT,lK,Gv,Rh,Nat.add_assoc, *])
 exact fun k b h=>h
theorem aGu (hl:List (Nat×aI)):Rd Tryz.prog gl 58 [.sl 1 [] .none] (hget hl) (.sl 1 [] .none):=by
 refine Rd.introF 2 200 mix names (fn:=Tryz.f58) Tryz.func58 rfl (fun f hf=>rfl) fun m F hF hro W=>?_
 simp only[Tryz.ntmps58,Tryz.results58,aJ,Nat.reduceAdd,Nat.reduceSub]
 repeat' (first
  |simp -implicitDefEqProofs (maxSteps:=9999999) only[↓reduceIte,aA,aC,facts,kR,kS,zX,uY,nY,lY,Option.map_none, *]
  |with_reducible refine kT ?_)
 refine xK ?_ ?_
 all_goals repeat' (simp -implicitDefEqProofs (maxSteps:=9999999) only[↓reduceIte,aA,aC,facts,Nat.reduceAdd,lK,Gv,Rh, *])
 all_goals exact fun k b h=>h
theorem aLs (l:List (List Vo)) (a n:Nat) (hl:l.length<=1000000) (ha:a+n<=l.length) (q:Nat) (hq:q<2000):Rd Tryz.prog gl 58 [.msl q (a) n 1] (hget [(q,.cells (l.flatMap fF))]) (.sl 1 (((l.drop a).take n).map bU) .none):=by
 rcases Nat.eq_zero_or_pos n with hn|hn
 ·subst hn
  exact(aGu _).nilMsl
 ·exact aRs l a n hl ha hn q hq
theorem aRt (l:List (List Dy)) (a n:Nat) (hl:l.length<=1000000) (ha:a+n<=l.length) (hn:0<n) (q:Nat) (hq:q<2000):Rd Tryz.prog gl 59 [.msl q (a) n 1] (hget [(q,.cells (l.flatMap fP))]) (.sl 1 (((l.drop a).take n).map eP) .none):=by
 have hfl:=Rt l
 have hcut:List.take (n) (List.drop (a) (l.flatMap fP))=((l.drop a).take n).flatMap fP:=by have:=Cf (c:=fP) (k:=1) (fun _=>rfl) l a;have h2:=Ce (c:=fP) (k:=1) (fun _=>rfl) (l.drop a) n;rw[Nat.mul_one] at this h2;rw[this,h2]
 have hone:(((l.drop a).take n).flatMap fP).all AV.one=true:=Xj _
 have hpure:(((l.drop a).take n).flatMap fP).all AV.pure=true:=kX (fun _=>rfl) _
 have hlen:((l.drop a).take n).length=n:=by rw[List.length_take,List.length_drop];omega
 have hfl2:(((l.drop a).take n).flatMap fP).length=n:=by rw[Rt,hlen]
 have hch:chunks (!(Nat.beq 1 1)) 1 n (((l.drop a).take n).flatMap fP)=((l.drop a).take n).map eP:=by
  have:=zD (c:=eP) ((l.drop a).take n)
  rw[hlen] at this
  rw[show((l.drop a).take n).flatMap fP=((l.drop a).take n).map eP from nV _]
  exact this
 have hne: ∀m r:Nat,(q=m+2000+r)=False:=fun m r=>by simp only[eq_iff_iff,iff_false];omega
 have hne0: ∀m:Nat,(q=m+2000)=False:=fun m=>by simp only[eq_iff_iff,iff_false];omega
 refine Rd.introF 2 2000 mix names (fn:=Tryz.f59) Tryz.func59 rfl (fun f hf=>rfl) fun m F hF hro W=>?_
 simp only[Tryz.ntmps59,Tryz.results59,aJ,Nat.reduceAdd,Nat.reduceSub]
 repeat' (first
  |simp -implicitDefEqProofs (maxSteps:=9999999) only[↓reduceIte,aA,aC,facts,Nat.reduceAdd,Nat.reduceLT,kR,kS,aAh,lY,Option.map_none,gI,cO,List.flatMap_nil,or_true,Nat.add_assoc, *]
  |simp -implicitDefEqProofs (maxSteps:=9999999) (disch:=first|assumption|omega) only[aA,aC,if_pos,if_neg,Nat.reduceAdd,Nat.reduceLT,lK,Gv,Rh,Nat.add_assoc, *])
 exact fun k b h=>h
theorem aGv (hl:List (Nat×aI)):Rd Tryz.prog gl 59 [.sl 1 [] .none] (hget hl) (.sl 1 [] .none):=by
 refine Rd.introF 2 200 mix names (fn:=Tryz.f59) Tryz.func59 rfl (fun f hf=>rfl) fun m F hF hro W=>?_
 simp only[Tryz.ntmps59,Tryz.results59,aJ,Nat.reduceAdd,Nat.reduceSub]
 repeat' (first
  |simp -implicitDefEqProofs (maxSteps:=9999999) only[↓reduceIte,aA,aC,facts,kR,kS,zX,uY,nY,lY,Option.map_none, *]
  |with_reducible refine kT ?_)
 refine xK ?_ ?_
 all_goals repeat' (simp -implicitDefEqProofs (maxSteps:=9999999) only[↓reduceIte,aA,aC,facts,Nat.reduceAdd,lK,Gv,Rh, *])
 all_goals exact fun k b h=>h
theorem aLt (l:List (List Dy)) (a n:Nat) (hl:l.length<=1000000) (ha:a+n<=l.length) (q:Nat) (hq:q<2000):Rd Tryz.prog gl 59 [.msl q (a) n 1] (hget [(q,.cells (l.flatMap fP))]) (.sl 1 (((l.drop a).take n).map eP) .none):=by
 rcases Nat.eq_zero_or_pos n with hn|hn
 ·subst hn
  exact(aGv _).nilMsl
 ·exact aRt l a n hl ha hn q hq
end Go.Proofs.Pv
