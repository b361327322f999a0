/-
  slices.Insert, Delete and Clone at lists of bars, of cells, of dynamics, among a score's blocks.
  Small lemmas on the keys of blocks, and on calls that look.
  slices.Clone at a part of a list of bars, of cells, of dynamics, as a call that looks.
  Conditions: none but those that each statement names.
-/
import Derived.Test.YtpapgaocjhnoiaaGreatDoorC10a
import Derived.Test.YtpapgaocjhnoiaaGreatDoorC09l
set_option linter.unusedVariables false
set_option linter.unusedSimpArgs false
namespace Go.Proofs.Pv
open Go Go.Proofs
def insL {α:Type} (l es:List α) (a:Nat):List α:=l.take a++es++l.drop a
def jP {α:Type} (l:List α) (a d:Nat):List α:=l.take a++l.drop (a+d)
theorem xM {α:Type} {l es:List α} {a:Nat} (h:a≤l.length):(insL l es a).length=l.length+es.length:=by simp only[insL,List.length_append,List.length_take,List.length_drop];omega
theorem xN {α:Type} {l:List α} {a d:Nat} (h:a+d≤l.length):(jP l a d).length=l.length - d:=by simp only[jP,List.length_append,List.length_take,List.length_drop];omega
theorem Rd.call {P:Program} {G:Nat→Option (List AV)} {F:Fence} (hF:Free F) {W:World} {f:FuncId} {args:List AV} {hr:Hp} {v:AV} (rd:Rd P G f args hr v) {st:St} {K:AV→St→Prop} (hs: ∀k b,hr k=some b→st.hp k=some b) (hK:K v st):aO F P G W f args K st:=by
 intro M w vs inv hargs
 obtain⟨h1,h2⟩:=rd F hF W _ _ M w vs st.nx (fun k hk=>hk) hs inv hargs
 refine⟨h1,fun n=>(h2 n).mono ?_⟩
 rintro e w' ⟨M',u,rfl,h3,h4,h5⟩
 exact⟨M',u,v,st,rfl,h3,h4,h5,hK⟩
section
variable {F:Fence} {W:World} {f:FuncId} {n n' k m q r nx n0 a:Nat} {C0 C1 C2:List AV} {rest:List AV}
theorem Di (hF:Free F) (hro:F.round=none) (wd:cZ Tryz.prog gl f [.msl 0 0 n k,.int .i64 (a:Nat),.msl 1 0 m k] [(0,.cells C0),(1,.cells C1)] 2 (.msl 0 0 n' k) [(0,C2)] 1) (hqr:q≠r) (r0: ∀f,C0.map (AV.ren f)=C0) (r1: ∀f,C1.map (AV.ren f)=C1) (r2: ∀f,C2.map (AV.ren f)=C2):
  aO F Tryz.prog gl W f [.msl q 0 n k,.int .i64 (a:Nat),.msl r 0 m k] (fun u su=>u= .msl nx 0 n' k∧su=⟨[(nx,.cells C2)],nx+1⟩) ⟨[(q,.cells C0),(r,.cells C1)],nx⟩:=by
 refine wd.call hF hro (fun k=>if k=q then some 0 else if k=r then some 1 else none) (fun k=>if k=0 then some q else if k=1 then some r else none) ?_ (fun k hk=>by show(if k=0 then some q else if k=1 then some r else none)=none;rw[if_neg (by omega),if_neg (by omega)]) (st:=⟨[(q,.cells C0),(r,.cells C1)],nx⟩)
  (aF.cons q (by simp [hget]) (by simp) (r0 _) (aF.cons r (by simp [hget,Ne.symm hqr]) (by simp [Ne.symm hqr]) (r1 _) aF.nil)) (by simp [AV.ren,Ne.symm hqr]) ⟨?_,?_⟩
 ·intro k k' h
  split at h
  ·rename_i e;subst e;cases h;rfl
  ·split at h
   ·rename_i e;subst e;cases h;rfl
   ·cases h
 ·simp [AV.ren,up]
 ·simp only[eU,fC,aJ,aN,r2,Nat.zero_add]
theorem tH (hF:Free F) (hro:F.round=none) (wd:cZ Tryz.prog gl f (.msl 0 0 n k::rest) [(0,.cells C0)] n0 (.msl 0 0 n' k) [(0,C2)] 1) (h0:0<n0) (hr: ∀f,rest.map (AV.ren f)=rest) (r0: ∀f,C0.map (AV.ren f)=C0) (r2: ∀f,C2.map (AV.ren f)=C2):
  aO F Tryz.prog gl W f (.msl q 0 n k::rest) (fun u su=>u= .msl nx 0 n' k∧su=⟨[(nx,.cells C2)],nx+1⟩) ⟨[(q,.cells C0)],nx⟩:=by
 refine wd.call hF hro (fun k=>if k=q then some 0 else none) (fun k=>if k=0 then some q else none) ?_ (fun k hk=>by show(if k=0 then some q else none)=none;rw[if_neg (by omega)]) (st:=⟨[(q,.cells C0)],nx⟩)
  (aF.cons q (by simp [hget]) (by simp) (r0 _) aF.nil) (by rw[List.map_cons,hr];simp [AV.ren]) ⟨?_,?_⟩
 ·intro k k' h
  split at h
  ·rename_i e;subst e;cases h;rfl
  ·cases h
 ·simp [AV.ren,up]
 ·simp only[eU,fC,aJ,aN,r2,Nat.zero_add]
end
theorem Qn: ∀l:List (Ba),(l.flatMap Ba.cells).length=l.length*14:=flat_length (k:=14) fun _=>rfl
theorem Wh (l:List (Ba)):(l.flatMap Ba.cells).all AV.one=true:=zO (fun _=>rfl) l
theorem aLk (l es:List (Ba)) (a:Nat) (ha:a≤l.length) (hs:l.length+es.length≤1000000):cZ Tryz.prog gl 52 [.msl 0 0 l.length 14,.int .i64 (a:Nat),iR 1 14 es.length] (hC ((0,l.flatMap Ba.cells)::jF 1 (es.flatMap Ba.cells) es.length)) 2 (.msl 0 0 (insL l es a).length 14) [(0,(insL l es a).flatMap Ba.cells)] 1:=by
 have:=aDr ((l.take a).flatMap Ba.cells) ((l.drop a).flatMap Ba.cells) (es.flatMap Ba.cells) a (l.length - a) es.length (by rw[Qn,List.length_take];congr 1<;>omega) (by rw[Qn,List.length_drop]) (by rw[Qn]) (Wh _) (Wh _) (Wh _) (fun f=>nD _) (fun f=>nD _) (fun f=>nD _) (by omega)
 have e1:a+(l.length - a)=l.length:=by omega
 have e2:(insL l es a).length=a+es.length+(l.length - a):=by rw[xM ha];omega
 have e3:(l.take a).flatMap Ba.cells++(l.drop a).flatMap Ba.cells=l.flatMap Ba.cells:=by rw[←List.flatMap_append,List.take_append_drop]
 have e4:(l.take a).flatMap Ba.cells++es.flatMap Ba.cells++(l.drop a).flatMap Ba.cells=(insL l es a).flatMap Ba.cells:=by simp only[insL,List.flatMap_append]
 rw[e1,e3,e4,←e2] at this
 exact this
theorem aRm {F:Fence} (hF:Free F) (hro:F.round=none) {W:World} (l es:List (Ba)) (a:Nat) (ha:a≤l.length) (hs:l.length+es.length≤1000000) (m:Nat) (hm:es.length=m+1) {q r nx:Nat} (hqr:q≠r):
  aO F Tryz.prog gl W 52 [.msl q 0 l.length 14,.int .i64 (a:Nat),.msl r 0 (m+1) 14] (fun u su=>u= .msl nx 0 (insL l es a).length 14∧su=⟨[(nx,.cells ((insL l es a).flatMap Ba.cells))],nx+1⟩) ⟨[(q,.cells (l.flatMap Ba.cells)),(r,.cells (es.flatMap Ba.cells))],nx⟩:=by
 have:=aLk l es a ha hs
 rw[hm] at this
 simp only[eH,bM,aJ,aN] at this
 exact Di hF hro this hqr (fun f=>nD _) (fun f=>nD _) (fun f=>nD _)
theorem aRn {F:Fence} (hF:Free F) (hro:F.round=none) {W:World} (l es:List (Ba)) (a:Nat) (ha:a≤l.length) (hs:l.length+es.length≤1000000) (hm:es.length=0) {q nx:Nat}:
  aO F Tryz.prog gl W 52 [.msl q 0 l.length 14,.int .i64 (a:Nat),.sl 14 [] .mut] (fun u su=>u= .msl nx 0 (insL l es a).length 14∧su=⟨[(nx,.cells ((insL l es a).flatMap Ba.cells))],nx+1⟩) ⟨[(q,.cells (l.flatMap Ba.cells))],nx⟩:=by
 have:=aLk l es a ha hs
 rw[hm] at this
 simp only[aU,aV,aJ,aN] at this
 exact tH hF hro this (by decide) (fun f=>rfl) (fun f=>nD _) (fun f=>nD _)
theorem aRo {F:Fence} (hF:Free F) (hro:F.round=none) {W:World} (l:List (Ba)) (a d:Nat) (ha:a+d≤l.length) (hs:l.length≤1000000) {q nx:Nat}:
  aO F Tryz.prog gl W 56 [.msl q 0 l.length 14,.int .i64 (a:Nat),.int .i64 ((a+d:Nat):Int)] (fun u su=>u= .msl nx 0 (jP l a d).length 14∧su=⟨[(nx,.cells ((jP l a d).flatMap Ba.cells))],nx+1⟩) ⟨[(q,.cells (l.flatMap Ba.cells))],nx⟩:=by
 have:=aDn ((l.take a).flatMap Ba.cells) (((l.drop a).take d).flatMap Ba.cells) ((l.drop (a+d)).flatMap Ba.cells) a d (l.length - (a+d)) (by rw[Qn,List.length_take];congr 1<;>omega) (by rw[Qn,List.length_take,List.length_drop];congr 1<;>omega) (by rw[Qn,List.length_drop]) (Wh _) (Wh _) (Wh _) (fun f=>nD _) (fun f=>nD _) (by omega)
 have e1:a+d+(l.length - (a+d))=l.length:=by omega
 have e2:(jP l a d).length=a+(l.length - (a+d)):=by rw[xN ha];omega
 have e3:(l.take a).flatMap Ba.cells++((l.drop a).take d).flatMap Ba.cells++(l.drop (a+d)).flatMap Ba.cells=l.flatMap Ba.cells:=by
  rw[←List.flatMap_append,←List.flatMap_append,←List.drop_drop,List.append_assoc,List.take_append_drop,List.take_append_drop]
 have e4:(l.take a).flatMap Ba.cells++(l.drop (a+d)).flatMap Ba.cells=(jP l a d).flatMap Ba.cells:=by simp only[jP,List.flatMap_append]
 rw[e1,e3,e4,←e2] at this
 exact tH hF hro this (by decide) (fun f=>rfl) (fun f=>nD _) (fun f=>nD _)
theorem Qo: ∀l:List (List Vo),(l.flatMap eY).length=l.length:=fun l=>by rw[flat_length (k:=1) fun _=>rfl,Nat.mul_one]
theorem Wi (l:List (List Vo)):(l.flatMap eY).all AV.one=true:=zO (fun _=>rfl) l
theorem aLl (l es:List (List Vo)) (a:Nat) (ha:a≤l.length) (hs:l.length+es.length≤1000000):cZ Tryz.prog gl 53 [.msl 0 0 l.length 1,.int .i64 (a:Nat),iR 1 1 es.length] (hC ((0,l.flatMap eY)::jF 1 (es.flatMap eY) es.length)) 2 (.msl 0 0 (insL l es a).length 1) [(0,(insL l es a).flatMap eY)] 1:=by
 have:=Gp (.inl ⟨rfl,rfl⟩) ((l.take a).flatMap eY) ((l.drop a).flatMap eY) (es.flatMap eY) a (l.length - a) es.length (by rw[Qo,List.length_take];congr 1<;>omega) (by rw[Qo,List.length_drop]) (by rw[Qo]) (Wi _) (Wi _) (Wi _) (fun f=>uA _) (fun f=>uA _) (fun f=>uA _) (by omega)
 have e1:a+(l.length - a)=l.length:=by omega
 have e2:(insL l es a).length=a+es.length+(l.length - a):=by rw[xM ha];omega
 have e3:(l.take a).flatMap eY++(l.drop a).flatMap eY=l.flatMap eY:=by rw[←List.flatMap_append,List.take_append_drop]
 have e4:(l.take a).flatMap eY++es.flatMap eY++(l.drop a).flatMap eY=(insL l es a).flatMap eY:=by simp only[insL,List.flatMap_append]
 rw[e1,e3,e4,←e2] at this
 exact this
theorem aRp {F:Fence} (hF:Free F) (hro:F.round=none) {W:World} (l es:List (List Vo)) (a:Nat) (ha:a≤l.length) (hs:l.length+es.length≤1000000) (m:Nat) (hm:es.length=m+1) {q r nx:Nat} (hqr:q≠r):
  aO F Tryz.prog gl W 53 [.msl q 0 l.length 1,.int .i64 (a:Nat),.msl r 0 (m+1) 1] (fun u su=>u= .msl nx 0 (insL l es a).length 1∧su=⟨[(nx,.cells ((insL l es a).flatMap eY))],nx+1⟩) ⟨[(q,.cells (l.flatMap eY)),(r,.cells (es.flatMap eY))],nx⟩:=by
 have:=aLl l es a ha hs
 rw[hm] at this
 simp only[eH,bM,aJ,aN] at this
 exact Di hF hro this hqr (fun f=>uA _) (fun f=>uA _) (fun f=>uA _)
theorem aRq {F:Fence} (hF:Free F) (hro:F.round=none) {W:World} (l es:List (List Vo)) (a:Nat) (ha:a≤l.length) (hs:l.length+es.length≤1000000) (hm:es.length=0) {q nx:Nat}:
  aO F Tryz.prog gl W 53 [.msl q 0 l.length 1,.int .i64 (a:Nat),.sl 1 [] .mut] (fun u su=>u= .msl nx 0 (insL l es a).length 1∧su=⟨[(nx,.cells ((insL l es a).flatMap eY))],nx+1⟩) ⟨[(q,.cells (l.flatMap eY))],nx⟩:=by
 have:=aLl l es a ha hs
 rw[hm] at this
 simp only[aU,aV,aJ,aN] at this
 exact tH hF hro this (by decide) (fun f=>rfl) (fun f=>uA _) (fun f=>uA _)
theorem aRr {F:Fence} (hF:Free F) (hro:F.round=none) {W:World} (l:List (List Vo)) (a d:Nat) (ha:a+d≤l.length) (hs:l.length≤1000000) {q nx:Nat}:
  aO F Tryz.prog gl W 59 [.msl q 0 l.length 1,.int .i64 (a:Nat),.int .i64 ((a+d:Nat):Int)] (fun u su=>u= .msl nx 0 (jP l a d).length 1∧su=⟨[(nx,.cells ((jP l a d).flatMap eY))],nx+1⟩) ⟨[(q,.cells (l.flatMap eY))],nx⟩:=by
 have:=Gf (.inl ⟨rfl,rfl⟩) ((l.take a).flatMap eY) (((l.drop a).take d).flatMap eY) ((l.drop (a+d)).flatMap eY) a d (l.length - (a+d)) (by rw[Qo,List.length_take];congr 1<;>omega) (by rw[Qo,List.length_take,List.length_drop];congr 1<;>omega) (by rw[Qo,List.length_drop]) (Wi _) (Wi _) (Wi _) (fun f=>uA _) (fun f=>uA _) (by omega)
 have e1:a+d+(l.length - (a+d))=l.length:=by omega
 have e2:(jP l a d).length=a+(l.length - (a+d)):=by rw[xN ha];omega
 have e3:(l.take a).flatMap eY++((l.drop a).take d).flatMap eY++(l.drop (a+d)).flatMap eY=l.flatMap eY:=by
  rw[←List.flatMap_append,←List.flatMap_append,←List.drop_drop,List.append_assoc,List.take_append_drop,List.take_append_drop]
 have e4:(l.take a).flatMap eY++(l.drop (a+d)).flatMap eY=(jP l a d).flatMap eY:=by simp only[jP,List.flatMap_append]
 rw[e1,e3,e4,←e2] at this
 exact tH hF hro this (by decide) (fun f=>rfl) (fun f=>uA _) (fun f=>uA _)
theorem Qp: ∀l:List (List Dy),(l.flatMap fG).length=l.length:=fun l=>by rw[flat_length (k:=1) fun _=>rfl,Nat.mul_one]
theorem Wj (l:List (List Dy)):(l.flatMap fG).all AV.one=true:=zO (fun _=>rfl) l
theorem aLm (l es:List (List Dy)) (a:Nat) (ha:a≤l.length) (hs:l.length+es.length≤1000000):cZ Tryz.prog gl 54 [.msl 0 0 l.length 1,.int .i64 (a:Nat),iR 1 1 es.length] (hC ((0,l.flatMap fG)::jF 1 (es.flatMap fG) es.length)) 2 (.msl 0 0 (insL l es a).length 1) [(0,(insL l es a).flatMap fG)] 1:=by
 have:=Gp (.inr (.inl ⟨rfl,rfl⟩)) ((l.take a).flatMap fG) ((l.drop a).flatMap fG) (es.flatMap fG) a (l.length - a) es.length (by rw[Qp,List.length_take];congr 1<;>omega) (by rw[Qp,List.length_drop]) (by rw[Qp]) (Wj _) (Wj _) (Wj _) (fun f=>mQ _) (fun f=>mQ _) (fun f=>mQ _) (by omega)
 have e1:a+(l.length - a)=l.length:=by omega
 have e2:(insL l es a).length=a+es.length+(l.length - a):=by rw[xM ha];omega
 have e3:(l.take a).flatMap fG++(l.drop a).flatMap fG=l.flatMap fG:=by rw[←List.flatMap_append,List.take_append_drop]
 have e4:(l.take a).flatMap fG++es.flatMap fG++(l.drop a).flatMap fG=(insL l es a).flatMap fG:=by simp only[insL,List.flatMap_append]
 rw[e1,e3,e4,←e2] at this
 exact this
theorem aRs {F:Fence} (hF:Free F) (hro:F.round=none) {W:World} (l es:List (List Dy)) (a:Nat) (ha:a≤l.length) (hs:l.length+es.length≤1000000) (m:Nat) (hm:es.length=m+1) {q r nx:Nat} (hqr:q≠r):
  aO F Tryz.prog gl W 54 [.msl q 0 l.length 1,.int .i64 (a:Nat),.msl r 0 (m+1) 1] (fun u su=>u= .msl nx 0 (insL l es a).length 1∧su=⟨[(nx,.cells ((insL l es a).flatMap fG))],nx+1⟩) ⟨[(q,.cells (l.flatMap fG)),(r,.cells (es.flatMap fG))],nx⟩:=by
 have:=aLm l es a ha hs
 rw[hm] at this
 simp only[eH,bM,aJ,aN] at this
 exact Di hF hro this hqr (fun f=>mQ _) (fun f=>mQ _) (fun f=>mQ _)
theorem aRt {F:Fence} (hF:Free F) (hro:F.round=none) {W:World} (l es:List (List Dy)) (a:Nat) (ha:a≤l.length) (hs:l.length+es.length≤1000000) (hm:es.length=0) {q nx:Nat}:
  aO F Tryz.prog gl W 54 [.msl q 0 l.length 1,.int .i64 (a:Nat),.sl 1 [] .mut] (fun u su=>u= .msl nx 0 (insL l es a).length 1∧su=⟨[(nx,.cells ((insL l es a).flatMap fG))],nx+1⟩) ⟨[(q,.cells (l.flatMap fG))],nx⟩:=by
 have:=aLm l es a ha hs
 rw[hm] at this
 simp only[aU,aV,aJ,aN] at this
 exact tH hF hro this (by decide) (fun f=>rfl) (fun f=>mQ _) (fun f=>mQ _)
theorem aRu {F:Fence} (hF:Free F) (hro:F.round=none) {W:World} (l:List (List Dy)) (a d:Nat) (ha:a+d≤l.length) (hs:l.length≤1000000) {q nx:Nat}:
  aO F Tryz.prog gl W 60 [.msl q 0 l.length 1,.int .i64 (a:Nat),.int .i64 ((a+d:Nat):Int)] (fun u su=>u= .msl nx 0 (jP l a d).length 1∧su=⟨[(nx,.cells ((jP l a d).flatMap fG))],nx+1⟩) ⟨[(q,.cells (l.flatMap fG))],nx⟩:=by
 have:=Gf (.inr (.inl ⟨rfl,rfl⟩)) ((l.take a).flatMap fG) (((l.drop a).take d).flatMap fG) ((l.drop (a+d)).flatMap fG) a d (l.length - (a+d)) (by rw[Qp,List.length_take];congr 1<;>omega) (by rw[Qp,List.length_take,List.length_drop];congr 1<;>omega) (by rw[Qp,List.length_drop]) (Wj _) (Wj _) (Wj _) (fun f=>mQ _) (fun f=>mQ _) (by omega)
 have e1:a+d+(l.length - (a+d))=l.length:=by omega
 have e2:(jP l a d).length=a+(l.length - (a+d)):=by rw[xN ha];omega
 have e3:(l.take a).flatMap fG++((l.drop a).take d).flatMap fG++(l.drop (a+d)).flatMap fG=l.flatMap fG:=by
  rw[←List.flatMap_append,←List.flatMap_append,←List.drop_drop,List.append_assoc,List.take_append_drop,List.take_append_drop]
 have e4:(l.take a).flatMap fG++(l.drop (a+d)).flatMap fG=(jP l a d).flatMap fG:=by simp only[jP,List.flatMap_append]
 rw[e1,e3,e4,←e2] at this
 exact tH hF hro this (by decide) (fun f=>rfl) (fun f=>mQ _) (fun f=>mQ _)
end Go.Proofs.Pv
namespace Go.Proofs.Pv
open Go Go.Proofs
theorem rdSub {h:List (Nat×aG)} {nx q:Nat} {X:aG} (e:hget h q=some X): ∀k b,hget [(q,X)] k=some b→(⟨h,nx⟩:St).hp k=some b:=by
 intro k b h1
 simp only[hget] at h1
 split at h1
 ·rename_i e1
  subst e1
  exact e.trans h1
 ·cases h1
def Pa.ins (p:Pa) (c:List (List Vo)) (d:List (List Dy)) (b:Nat):Pa:=⟨p.name,p.clef,p.channel,insL p.cells c b,insL p.dyns d b⟩
def Pa.del (p:Pa) (b c:Nat):Pa:=⟨p.name,p.clef,p.channel,jP p.cells b c,jP p.dyns b c⟩
structure Box (p:Prop):Prop where
 out:p
def hk0 (q:Nat):List (Nat×aG)→List (Nat×aG)
 |[]=>[]
 |(k,b)::h=>if k=q then hk0 q h else(k,b)::hk0 q h
theorem aS7 {q:Nat}:hk0 q []=[]:=rfl
theorem aF1 {q k:Nat} {b:aG} {h:List (Nat×aG)}:hk0 q ((k,b)::h)=if k=q then hk0 q h else(k,b)::hk0 q h:=rfl
theorem aBn {q k:Nat} {b:aG}: ∀ {h:List (Nat×aG)},hget (hk0 q h) k=some b→hget h k=some b∧k≠q
 |[],h1=>by simp [hk0,hget] at h1
 | (k',b')::h,h1=>by
  simp only[hk0] at h1
  by_cases e:k'=q
  ·rw[if_pos e] at h1
   obtain⟨g1,g2⟩:=aBn h1
   refine⟨?_,g2⟩
   simp only[hget]
   rw[if_neg (fun e2=>g2 (e2.trans e))];exact g1
  ·rw[if_neg e] at h1
   simp only[hget] at h1 ⊢
   split at h1
   ·rename_i e2
    rw[if_pos e2]
    exact⟨h1,fun e3=>e (e2.symm.trans e3)⟩
   ·rename_i e2
    rw[if_neg e2]
    exact aBn h1
theorem Tq {P:Program} {G:Nat→Option (List AV)} {F:Fence} {W:World} {rng:Bool} {d:Nat} {f:FuncId} {args:List AV} {v:AV} {q nx:Nat} {X Y:aG} {h:List (Nat×aG)} {K:AV→St→Prop} (e:hget h q=some X)
  (hc:aO F P G W f args (fun u su=>u=v∧su=⟨[(nx,Y)],nx+1⟩) ⟨[(q,X)],nx⟩) (hK:K v ⟨hk0 q h++[(nx,Y)],nx+1⟩):(OZ F P G W rng d).call f args K ⟨h,nx⟩:=by
 refine lX ?_
 intro M w vs inv hargs
 obtain⟨F1,inv1,hback⟩:=inv.hide (fun k=>decide (k=q)) (hp1:=hget [(q,X)]) (al1:=(· <nx)) (fun k b hk=>⟨rdSub (nx:=nx) e k b hk,by
  simp only[hget] at hk
  split at hk
  ·rename_i e1;simpa using e1
  ·cases hk⟩) (fun k hk=>hk)
 obtain⟨g,hcall⟩:=hc {M with F:=F1} w vs inv1 hargs
 refine⟨g,fun n=>(hcall n).mono ?_⟩
 rintro e w' ⟨M',v',av,st2,rfl,r1,r2,r3,rfl,rfl⟩
 obtain⟨hle2,hinv2⟩:=hback M' w' _ _ r1 r2
 refine⟨{M' with F:=M.F},v',_,⟨hk0 q h++[(nx,Y)],nx+1⟩,rfl,hle2,hinv2 _ fun k b hk=>?_,r3,hK⟩
 simp only[St.hp,bJ] at hk
 split at hk
 ·rename_i x hx
  simp only[Option.some.injEq] at hk
  subst hk
  obtain⟨g1,g2⟩:=aBn hx
  exact .inl ⟨g1,by simpa using g2⟩
 ·exact .inr hk
end Go.Proofs.Pv
namespace Go.Proofs.Pv
open Go Go.Proofs
set_option maxRecDepth 100000 in
set_option maxHeartbeats 1000000 in
theorem aQx (l:List (Ba)) (a n:Nat) (hl:l.length≤1000000) (ha:a+n≤l.length) (hn:0<n) (q:Nat) (hq:q<2000):Rd Tryz.prog gl 55 [.msl q (a*14) n 14] (hget [(q,.cells (l.flatMap Ba.cells))]) (.sl 14 (((l.drop a).take n).map Ba.av) .none):=by
 have hfl:=Qn l
 have hcut:List.take (n*14) (List.drop (a*14) (l.flatMap Ba.cells))=((l.drop a).take n).flatMap Ba.cells:=by rw[Bc (c:=Ba.cells) (k:=14) (fun _=>rfl),Az (c:=Ba.cells) (k:=14) (fun _=>rfl)]
 have hone:(((l.drop a).take n).flatMap Ba.cells).all AV.one=true:=Wh _
 have hpure:(((l.drop a).take n).flatMap Ba.cells).all AV.pure=true:=lC (fun _=>rfl) _
 have hlen:((l.drop a).take n).length=n:=by rw[List.length_take,List.length_drop];omega
 have hfl2:(((l.drop a).take n).flatMap Ba.cells).length=n*14:=by rw[Qn,hlen]
 have hch:chunks (!(Nat.beq 14 1)) 14 n (((l.drop a).take n).flatMap Ba.cells)=((l.drop a).take n).map Ba.av:=by
  have:=lM (c:=Ba.cells) (k:=14) (fun _=>rfl) ((l.drop a).take n)
  rw[hlen] at this;exact this
 have hne: ∀m r:Nat,(q=m+2000+r)=False:=fun m r=>by simp only[eq_iff_iff,iff_false];omega
 have hne0: ∀m:Nat,(q=m+2000)=False:=fun m=>by simp only[eq_iff_iff,iff_false];omega
 refine Rd.introF 2 2000 mix names (fn:=Tryz.f55) Tryz.func55 rfl (fun f hf=>rfl) fun m F hF hro W=>?_
 simp -implicitDefEqProofs only[Tryz.ntmps55,Tryz.results55,aI,Nat.reduceAdd,Nat.reduceSub]
 repeat' (first
  |simp -implicitDefEqProofs (maxSteps:=9999999) only[↓reduceIte,aB,aC,facts,Nat.reduceAdd,Nat.reduceLT,Nat.reduceMul,kE,kF,Zx,lI,Option.map_none,fZ,dB,List.flatMap_nil,or_true,Nat.add_assoc, *]
  |simp -implicitDefEqProofs (maxSteps:=9999999) (disch:=first|assumption|omega) only[aB,aC,if_pos,if_neg,Nat.reduceAdd,Nat.reduceLT,kV,Ff,Jo,Nat.add_assoc, *])
 exact fun k b h=>h
set_option maxRecDepth 100000 in
theorem aGo (hl:List (Nat×aG)):Rd Tryz.prog gl 55 [.sl 14 [] .none] (hget hl) (.sl 14 [] .none):=by
 refine Rd.introF 2 200 mix names (fn:=Tryz.f55) Tryz.func55 rfl (fun f hf=>rfl) fun m F hF hro W=>?_
 simp -implicitDefEqProofs only[Tryz.ntmps55,Tryz.results55,aI,Nat.reduceAdd,Nat.reduceSub]
 repeat' (first
  |simp -implicitDefEqProofs (maxSteps:=9999999) only[↓reduceIte,aB,aC,facts,kE,kF,yZ,uF,nG,lI,Option.map_none, *]
  |with_reducible refine kG ?_)
 refine wV ?_ ?_
 all_goals repeat' (simp -implicitDefEqProofs (maxSteps:=9999999) only[↓reduceIte,aB,aC,facts,Nat.reduceAdd,Nat.reduceMul,kV,Ff,Jo, *])
 all_goals exact fun k b h=>h
theorem aLa (l:List (Ba)) (a n:Nat) (hl:l.length≤1000000) (ha:a+n≤l.length) (q:Nat) (hq:q<2000):Rd Tryz.prog gl 55 [.msl q (a*14) n 14] (hget [(q,.cells (l.flatMap Ba.cells))]) (.sl 14 (((l.drop a).take n).map Ba.av) .none):=by
 rcases Nat.eq_zero_or_pos n with hn|hn
 ·subst hn
  exact(aGo _).nilMsl
 ·exact aQx l a n hl ha hn q hq
set_option maxRecDepth 100000 in
set_option maxHeartbeats 1000000 in
theorem aQy (l:List (List Vo)) (a n:Nat) (hl:l.length≤1000000) (ha:a+n≤l.length) (hn:0<n) (q:Nat) (hq:q<2000):Rd Tryz.prog gl 57 [.msl q (a) n 1] (hget [(q,.cells (l.flatMap eY))]) (.sl 1 (((l.drop a).take n).map bW) .none):=by
 have hfl:=Qo l
 have hcut:List.take (n) (List.drop (a) (l.flatMap eY))=((l.drop a).take n).flatMap eY:=by have:=Bc (c:=eY) (k:=1) (fun _=>rfl) l a;have h2:=Az (c:=eY) (k:=1) (fun _=>rfl) (l.drop a) n;rw[Nat.mul_one] at this h2;rw[this,h2]
 have hone:(((l.drop a).take n).flatMap eY).all AV.one=true:=Wi _
 have hpure:(((l.drop a).take n).flatMap eY).all AV.pure=true:=lC (fun _=>rfl) _
 have hlen:((l.drop a).take n).length=n:=by rw[List.length_take,List.length_drop];omega
 have hfl2:(((l.drop a).take n).flatMap eY).length=n:=by rw[Qo,hlen]
 have hch:chunks (!(Nat.beq 1 1)) 1 n (((l.drop a).take n).flatMap eY)=((l.drop a).take n).map bW:=by
  have:=yJ (c:=bW) ((l.drop a).take n)
  rw[hlen] at this
  rw[show((l.drop a).take n).flatMap eY=((l.drop a).take n).map bW from mZ _]
  exact this
 have hne: ∀m r:Nat,(q=m+2000+r)=False:=fun m r=>by simp only[eq_iff_iff,iff_false];omega
 have hne0: ∀m:Nat,(q=m+2000)=False:=fun m=>by simp only[eq_iff_iff,iff_false];omega
 refine Rd.introF 2 2000 mix names (fn:=Tryz.f57) Tryz.func57 rfl (fun f hf=>rfl) fun m F hF hro W=>?_
 simp -implicitDefEqProofs only[Tryz.ntmps57,Tryz.results57,aI,Nat.reduceAdd,Nat.reduceSub]
 repeat' (first
  |simp -implicitDefEqProofs (maxSteps:=9999999) only[↓reduceIte,aB,aC,facts,Nat.reduceAdd,Nat.reduceLT,kE,kF,Zx,lI,Option.map_none,fZ,dB,List.flatMap_nil,or_true,Nat.add_assoc, *]
  |simp -implicitDefEqProofs (maxSteps:=9999999) (disch:=first|assumption|omega) only[aB,aC,if_pos,if_neg,Nat.reduceAdd,Nat.reduceLT,kV,Ff,Jo,Nat.add_assoc, *])
 exact fun k b h=>h
set_option maxRecDepth 100000 in
theorem aGp (hl:List (Nat×aG)):Rd Tryz.prog gl 57 [.sl 1 [] .none] (hget hl) (.sl 1 [] .none):=by
 refine Rd.introF 2 200 mix names (fn:=Tryz.f57) Tryz.func57 rfl (fun f hf=>rfl) fun m F hF hro W=>?_
 simp -implicitDefEqProofs only[Tryz.ntmps57,Tryz.results57,aI,Nat.reduceAdd,Nat.reduceSub]
 repeat' (first
  |simp -implicitDefEqProofs (maxSteps:=9999999) only[↓reduceIte,aB,aC,facts,kE,kF,yZ,uF,nG,lI,Option.map_none, *]
  |with_reducible refine kG ?_)
 refine wV ?_ ?_
 all_goals repeat' (simp -implicitDefEqProofs (maxSteps:=9999999) only[↓reduceIte,aB,aC,facts,Nat.reduceAdd,kV,Ff,Jo, *])
 all_goals exact fun k b h=>h
theorem aLb (l:List (List Vo)) (a n:Nat) (hl:l.length≤1000000) (ha:a+n≤l.length) (q:Nat) (hq:q<2000):Rd Tryz.prog gl 57 [.msl q (a) n 1] (hget [(q,.cells (l.flatMap eY))]) (.sl 1 (((l.drop a).take n).map bW) .none):=by
 rcases Nat.eq_zero_or_pos n with hn|hn
 ·subst hn
  exact(aGp _).nilMsl
 ·exact aQy l a n hl ha hn q hq
set_option maxRecDepth 100000 in
set_option maxHeartbeats 1000000 in
theorem aQz (l:List (List Dy)) (a n:Nat) (hl:l.length≤1000000) (ha:a+n≤l.length) (hn:0<n) (q:Nat) (hq:q<2000):Rd Tryz.prog gl 58 [.msl q (a) n 1] (hget [(q,.cells (l.flatMap fG))]) (.sl 1 (((l.drop a).take n).map fF) .none):=by
 have hfl:=Qp l
 have hcut:List.take (n) (List.drop (a) (l.flatMap fG))=((l.drop a).take n).flatMap fG:=by have:=Bc (c:=fG) (k:=1) (fun _=>rfl) l a;have h2:=Az (c:=fG) (k:=1) (fun _=>rfl) (l.drop a) n;rw[Nat.mul_one] at this h2;rw[this,h2]
 have hone:(((l.drop a).take n).flatMap fG).all AV.one=true:=Wj _
 have hpure:(((l.drop a).take n).flatMap fG).all AV.pure=true:=lC (fun _=>rfl) _
 have hlen:((l.drop a).take n).length=n:=by rw[List.length_take,List.length_drop];omega
 have hfl2:(((l.drop a).take n).flatMap fG).length=n:=by rw[Qp,hlen]
 have hch:chunks (!(Nat.beq 1 1)) 1 n (((l.drop a).take n).flatMap fG)=((l.drop a).take n).map fF:=by
  have:=yJ (c:=fF) ((l.drop a).take n)
  rw[hlen] at this
  rw[show((l.drop a).take n).flatMap fG=((l.drop a).take n).map fF from mZ _]
  exact this
 have hne: ∀m r:Nat,(q=m+2000+r)=False:=fun m r=>by simp only[eq_iff_iff,iff_false];omega
 have hne0: ∀m:Nat,(q=m+2000)=False:=fun m=>by simp only[eq_iff_iff,iff_false];omega
 refine Rd.introF 2 2000 mix names (fn:=Tryz.f58) Tryz.func58 rfl (fun f hf=>rfl) fun m F hF hro W=>?_
 simp -implicitDefEqProofs only[Tryz.ntmps58,Tryz.results58,aI,Nat.reduceAdd,Nat.reduceSub]
 repeat' (first
  |simp -implicitDefEqProofs (maxSteps:=9999999) only[↓reduceIte,aB,aC,facts,Nat.reduceAdd,Nat.reduceLT,kE,kF,Zx,lI,Option.map_none,fZ,dB,List.flatMap_nil,or_true,Nat.add_assoc, *]
  |simp -implicitDefEqProofs (maxSteps:=9999999) (disch:=first|assumption|omega) only[aB,aC,if_pos,if_neg,Nat.reduceAdd,Nat.reduceLT,kV,Ff,Jo,Nat.add_assoc, *])
 exact fun k b h=>h
set_option maxRecDepth 100000 in
theorem aGq (hl:List (Nat×aG)):Rd Tryz.prog gl 58 [.sl 1 [] .none] (hget hl) (.sl 1 [] .none):=by
 refine Rd.introF 2 200 mix names (fn:=Tryz.f58) Tryz.func58 rfl (fun f hf=>rfl) fun m F hF hro W=>?_
 simp -implicitDefEqProofs only[Tryz.ntmps58,Tryz.results58,aI,Nat.reduceAdd,Nat.reduceSub]
 repeat' (first
  |simp -implicitDefEqProofs (maxSteps:=9999999) only[↓reduceIte,aB,aC,facts,kE,kF,yZ,uF,nG,lI,Option.map_none, *]
  |with_reducible refine kG ?_)
 refine wV ?_ ?_
 all_goals repeat' (simp -implicitDefEqProofs (maxSteps:=9999999) only[↓reduceIte,aB,aC,facts,Nat.reduceAdd,kV,Ff,Jo, *])
 all_goals exact fun k b h=>h
theorem aLc (l:List (List Dy)) (a n:Nat) (hl:l.length≤1000000) (ha:a+n≤l.length) (q:Nat) (hq:q<2000):Rd Tryz.prog gl 58 [.msl q (a) n 1] (hget [(q,.cells (l.flatMap fG))]) (.sl 1 (((l.drop a).take n).map fF) .none):=by
 rcases Nat.eq_zero_or_pos n with hn|hn
 ·subst hn
  exact(aGq _).nilMsl
 ·exact aQz l a n hl ha hn q hq
end Go.Proofs.Pv
