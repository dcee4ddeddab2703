/-
ResyncReturns returns true for every input. Conditions: none.
-/
import Derived.Test.YtpleflcfaecojaaGreatM21
import Derived.Test.YtpleflcfaecojaaGreatRows
namespace Go.Proofs.YtpleflcfaecojaaGreat
set_option linter.unusedVariables false
set_option linter.unusedSimpArgs false
set_option maxRecDepth 100000
open Go.RowKit Go.WideShapes Go.ChangeShapes Go.ChangeAt
theorem opH25:Opens Tryz.prog 25 (Cd.ty (.p (.i .i64) (.p (.i .i64) (.p (.i .i64) (.i .i64))))) (fun _=>True):=by
 intro H enc w base spare held fuel cs d pl h hw
 obtain ⟨hlen,hf⟩:=struct_fields Tryz.underlying25 h hw
 rw [show Tryz.prog.cellsOf 25=4 by kernel_rfl] at hlen
 match cs,hlen with
 | [c0,c1,c2,c3],_ =>
  obtain ⟨n0,d0,p0,h0,w0⟩:=hf 0 _ rfl
  simp [show Tryz.prog.cellsOf 2=1 by kernel_rfl] at h0
  obtain ⟨x0,r0,_⟩:=(opIR Tryz.underlying2) h0 w0
  obtain ⟨n1,d1,p1,h1,w1⟩:=hf 1 _ rfl
  simp [show Tryz.prog.cellsOf 2=1 by kernel_rfl] at h1
  obtain ⟨x1,r1,_⟩:=(opIR Tryz.underlying2) h1 w1
  obtain ⟨n2,d2,p2,h2,w2⟩:=hf 2 _ rfl
  simp [show Tryz.prog.cellsOf 2=1 by kernel_rfl] at h2
  obtain ⟨x2,r2,_⟩:=(opIR Tryz.underlying2) h2 w2
  obtain ⟨n3,d3,p3,h3,w3⟩:=hf 3 _ rfl
  simp [show Tryz.prog.cellsOf 2=1 by kernel_rfl] at h3
  obtain ⟨x3,r3,_⟩:=(opIR Tryz.underlying2) h3 w3
  exact ⟨(x0,x1,x2,x3),⟨[c0],[c1]++[c2]++[c3],rfl,r0,⟨[c1],[c2]++[c3],rfl,r1,⟨[c2],[c3],rfl,r2,r3⟩⟩⟩,trivial⟩
theorem opH34:Opens Tryz.prog 34 (Cd.ty (.p .b .b)) (fun _=>True):=by
 intro H enc w base spare held fuel cs d pl h hw
 obtain ⟨hlen,hf⟩:=array_fields Tryz.underlying34 h hw
 rw [show Tryz.prog.cellsOf 34=2 by kernel_rfl] at hlen
 match cs,hlen with
 | [c0,c1],_ =>
  obtain ⟨n0,d0,p0,h0,w0⟩:=hf 0 (by decide)
  simp [show Tryz.prog.cellsOf 4=1 by kernel_rfl] at h0
  obtain ⟨x0,r0,_⟩:=(opBR Tryz.underlying4) h0 w0
  obtain ⟨n1,d1,p1,h1,w1⟩:=hf 1 (by decide)
  simp [show Tryz.prog.cellsOf 4=1 by kernel_rfl] at h1
  obtain ⟨x1,r1,_⟩:=(opBR Tryz.underlying4) h1 w1
  exact ⟨(x0,x1),⟨[c0],[c1],rfl,r0,r1⟩,trivial⟩
theorem opH35:Opens Tryz.prog 35 (Cd.ty (.p (.i .i64) (.i .i64))) (fun _=>True):=by
 intro H enc w base spare held fuel cs d pl h hw
 obtain ⟨hlen,hf⟩:=array_fields Tryz.underlying35 h hw
 rw [show Tryz.prog.cellsOf 35=2 by kernel_rfl] at hlen
 match cs,hlen with
 | [c0,c1],_ =>
  obtain ⟨n0,d0,p0,h0,w0⟩:=hf 0 (by decide)
  simp [show Tryz.prog.cellsOf 2=1 by kernel_rfl] at h0
  obtain ⟨x0,r0,_⟩:=(opIR Tryz.underlying2) h0 w0
  obtain ⟨n1,d1,p1,h1,w1⟩:=hf 1 (by decide)
  simp [show Tryz.prog.cellsOf 2=1 by kernel_rfl] at h1
  obtain ⟨x1,r1,_⟩:=(opIR Tryz.underlying2) h1 w1
  exact ⟨(x0,x1),⟨[c0],[c1],rfl,r0,r1⟩,trivial⟩
theorem opH38:Opens Tryz.prog 38 (Cd.ty (.p .b (.p (.i .i64) (.i .u32)))) (fun _=>True):=by
 intro H enc w base spare held fuel cs d pl h hw
 obtain ⟨hlen,hf⟩:=struct_fields Tryz.underlying38 h hw
 rw [show Tryz.prog.cellsOf 38=3 by kernel_rfl] at hlen
 match cs,hlen with
 | [c0,c1,c2],_ =>
  obtain ⟨n0,d0,p0,h0,w0⟩:=hf 0 _ rfl
  simp [show Tryz.prog.cellsOf 4=1 by kernel_rfl] at h0
  obtain ⟨x0,r0,_⟩:=(opBR Tryz.underlying4) h0 w0
  obtain ⟨n1,d1,p1,h1,w1⟩:=hf 1 _ rfl
  simp [show Tryz.prog.cellsOf 3=1 by kernel_rfl] at h1
  obtain ⟨x1,r1,_⟩:=(opIR Tryz.underlying3) h1 w1
  obtain ⟨n2,d2,p2,h2,w2⟩:=hf 2 _ rfl
  simp [show Tryz.prog.cellsOf 36=1 by kernel_rfl] at h2
  obtain ⟨x2,r2,_⟩:=(opIR Tryz.underlying36) h2 w2
  exact ⟨(x0,x1,x2),⟨[c0],[c1]++[c2],rfl,r0,⟨[c1],[c2],rfl,r1,r2⟩⟩,trivial⟩
theorem opH39:Opens Tryz.prog 39 (Cd.ty (.p (.p .b (.p (.i .i64) (.i .u32))) (.p (.p .b (.p (.i .i64) (.i .u32))) (.p (.p .b (.p (.i .i64) (.i .u32))) (.p .b (.p (.i .i64) (.i .u32))))))) (fun _=>True):=by
 intro H enc w base spare held fuel cs d pl h hw
 obtain ⟨hlen,hf⟩:=array_fields Tryz.underlying39 h hw
 rw [show Tryz.prog.cellsOf 39=12 by kernel_rfl] at hlen
 match cs,hlen with
 | [c0,c1,c2,c3,c4,c5,c6,c7,c8,c9,c10,c11],_ =>
  obtain ⟨n0,d0,p0,h0,w0⟩:=hf 0 (by decide)
  simp [show Tryz.prog.cellsOf 38=3 by kernel_rfl] at h0
  obtain ⟨x0,r0,_⟩:=opH38 h0 w0
  obtain ⟨n1,d1,p1,h1,w1⟩:=hf 1 (by decide)
  simp [show Tryz.prog.cellsOf 38=3 by kernel_rfl] at h1
  obtain ⟨x1,r1,_⟩:=opH38 h1 w1
  obtain ⟨n2,d2,p2,h2,w2⟩:=hf 2 (by decide)
  simp [show Tryz.prog.cellsOf 38=3 by kernel_rfl] at h2
  obtain ⟨x2,r2,_⟩:=opH38 h2 w2
  obtain ⟨n3,d3,p3,h3,w3⟩:=hf 3 (by decide)
  simp [show Tryz.prog.cellsOf 38=3 by kernel_rfl] at h3
  obtain ⟨x3,r3,_⟩:=opH38 h3 w3
  exact ⟨(x0,x1,x2,x3),⟨[c0,c1,c2],[c3,c4,c5]++[c6,c7,c8]++[c9,c10,c11],rfl,r0,⟨[c3,c4,c5],[c6,c7,c8]++[c9,c10,c11],rfl,r1,⟨[c6,c7,c8],[c9,c10,c11],rfl,r2,r3⟩⟩⟩,trivial⟩
theorem opH40:Opens Tryz.prog 40 (Cd.ty (.p (.p (.p .b (.p (.i .i64) (.i .u32))) (.p (.p .b (.p (.i .i64) (.i .u32))) (.p (.p .b (.p (.i .i64) (.i .u32))) (.p .b (.p (.i .i64) (.i .u32)))))) (.p (.p .b (.p (.i .i64) (.i .u32))) (.p (.p .b (.p (.i .i64) (.i .u32))) (.p (.p .b (.p (.i .i64) (.i .u32))) (.p .b (.p (.i .i64) (.i .u32)))))))) (fun _=>True):=by
 intro H enc w base spare held fuel cs d pl h hw
 obtain ⟨hlen,hf⟩:=array_fields Tryz.underlying40 h hw
 rw [show Tryz.prog.cellsOf 40=24 by kernel_rfl] at hlen
 match cs,hlen with
 | [c0,c1,c2,c3,c4,c5,c6,c7,c8,c9,c10,c11,c12,c13,c14,c15,c16,c17,c18,c19,c20,c21,c22,c23],_ =>
  obtain ⟨n0,d0,p0,h0,w0⟩:=hf 0 (by decide)
  simp [show Tryz.prog.cellsOf 39=12 by kernel_rfl] at h0
  obtain ⟨x0,r0,_⟩:=opH39 h0 w0
  obtain ⟨n1,d1,p1,h1,w1⟩:=hf 1 (by decide)
  simp [show Tryz.prog.cellsOf 39=12 by kernel_rfl] at h1
  obtain ⟨x1,r1,_⟩:=opH39 h1 w1
  exact ⟨(x0,x1),⟨[c0,c1,c2,c3,c4,c5,c6,c7,c8,c9,c10,c11],[c12,c13,c14,c15,c16,c17,c18,c19,c20,c21,c22,c23],rfl,r0,r1⟩,trivial⟩
theorem opH42:Opens Tryz.prog 42 (Cd.ty (.p (.p .b .b) (.p (.p .b .b) (.p (.p .b .b) (.p (.p (.i .i64) (.i .i64)) (.p (.p (.p .b (.p (.i .i64) (.i .u32))) (.p (.p .b (.p (.i .i64) (.i .u32))) (.p (.p .b (.p (.i .i64) (.i .u32))) (.p .b (.p (.i .i64) (.i .u32)))))) (.p (.p .b (.p (.i .i64) (.i .u32))) (.p (.p .b (.p (.i .i64) (.i .u32))) (.p (.p .b (.p (.i .i64) (.i .u32))) (.p .b (.p (.i .i64) (.i .u32)))))))))))) (fun _=>True):=by
 intro H enc w base spare held fuel cs d pl h hw
 obtain ⟨hlen,hf⟩:=struct_fields Tryz.underlying42 h hw
 rw [show Tryz.prog.cellsOf 42=32 by kernel_rfl] at hlen
 match cs,hlen with
 | [c0,c1,c2,c3,c4,c5,c6,c7,c8,c9,c10,c11,c12,c13,c14,c15,c16,c17,c18,c19,c20,c21,c22,c23,c24,c25,c26,c27,c28,c29,c30,c31],_ =>
  obtain ⟨n0,d0,p0,h0,w0⟩:=hf 0 _ rfl
  simp [show Tryz.prog.cellsOf 34=2 by kernel_rfl] at h0
  obtain ⟨x0,r0,_⟩:=opH34 h0 w0
  obtain ⟨n1,d1,p1,h1,w1⟩:=hf 1 _ rfl
  simp [show Tryz.prog.cellsOf 34=2 by kernel_rfl] at h1
  obtain ⟨x1,r1,_⟩:=opH34 h1 w1
  obtain ⟨n2,d2,p2,h2,w2⟩:=hf 2 _ rfl
  simp [show Tryz.prog.cellsOf 34=2 by kernel_rfl] at h2
  obtain ⟨x2,r2,_⟩:=opH34 h2 w2
  obtain ⟨n3,d3,p3,h3,w3⟩:=hf 3 _ rfl
  simp [show Tryz.prog.cellsOf 35=2 by kernel_rfl] at h3
  obtain ⟨x3,r3,_⟩:=opH35 h3 w3
  obtain ⟨n4,d4,p4,h4,w4⟩:=hf 4 _ rfl
  simp [show Tryz.prog.cellsOf 40=24 by kernel_rfl] at h4
  obtain ⟨x4,r4,_⟩:=opH40 h4 w4
  exact ⟨(x0,x1,x2,x3,x4),⟨[c0,c1],[c2,c3]++[c4,c5]++[c6,c7]++[c8,c9,c10,c11,c12,c13,c14,c15,c16,c17,c18,c19,c20,c21,c22,c23,c24,c25,c26,c27,c28,c29,c30,c31],rfl,r0,⟨[c2,c3],[c4,c5]++[c6,c7]++[c8,c9,c10,c11,c12,c13,c14,c15,c16,c17,c18,c19,c20,c21,c22,c23,c24,c25,c26,c27,c28,c29,c30,c31],rfl,r1,⟨[c4,c5],[c6,c7]++[c8,c9,c10,c11,c12,c13,c14,c15,c16,c17,c18,c19,c20,c21,c22,c23,c24,c25,c26,c27,c28,c29,c30,c31],rfl,r2,⟨[c6,c7],[c8,c9,c10,c11,c12,c13,c14,c15,c16,c17,c18,c19,c20,c21,c22,c23,c24,c25,c26,c27,c28,c29,c30,c31],rfl,r3,r4⟩⟩⟩⟩,trivial⟩
theorem split_len {α:Type} {cs:List α} (n m:Nat) (h:cs.length=n+m):∃ a b,cs=a++b∧a.length=n∧b.length=m:=⟨cs.take n,cs.drop n,(List.take_append_drop n cs).symm,by rw [List.length_take];omega,by rw [List.length_drop];omega⟩
theorem opH44:Opens Tryz.prog 44 (Cd.ty (.p (.a .y) (.p (.a .y) (.p (.p .b .b) (.p (.p .b .b) (.p (.p .b .b) (.p (.p (.i .i64) (.i .i64)) (.p (.p (.p .b (.p (.i .i64) (.i .u32))) (.p (.p .b (.p (.i .i64) (.i .u32))) (.p (.p .b (.p (.i .i64) (.i .u32))) (.p .b (.p (.i .i64) (.i .u32)))))) (.p (.p .b (.p (.i .i64) (.i .u32))) (.p (.p .b (.p (.i .i64) (.i .u32))) (.p (.p .b (.p (.i .i64) (.i .u32))) (.p .b (.p (.i .i64) (.i .u32)))))))))))))) (fun _=>True):=by
 intro H enc w base spare held fuel cs d pl h hw
 obtain ⟨hlen,hf⟩:=struct_fields Tryz.underlying44 h hw
 rw [show Tryz.prog.cellsOf 44=34 by kernel_rfl] at hlen
 obtain ⟨ca,cb,rfl,ha,hb⟩:=split_len 4 30 hlen
 match ca,ha,cb,hb with
 | [c0,c1,c2,c3],_,[c4,c5,c6,c7,c8,c9,c10,c11,c12,c13,c14,c15,c16,c17,c18,c19,c20,c21,c22,c23,c24,c25,c26,c27,c28,c29,c30,c31,c32,c33],_ =>
  obtain ⟨n0,d0,p0,h0,w0⟩:=hf 0 _ rfl
  simp [show Tryz.prog.cellsOf 33=1 by kernel_rfl] at h0
  obtain ⟨x0,r0,_⟩:=(opens_sized 1 (by kernel_rfl) (opens_u8 Tryz.underlying5) Tryz.underlying33 (by kernel_rfl) (by kernel_rfl)) h0 w0
  obtain ⟨n1,d1,p1,h1,w1⟩:=hf 1 _ rfl
  simp [show Tryz.prog.cellsOf 33=1 by kernel_rfl] at h1
  obtain ⟨x1,r1,_⟩:=(opens_sized 1 (by kernel_rfl) (opens_u8 Tryz.underlying5) Tryz.underlying33 (by kernel_rfl) (by kernel_rfl)) h1 w1
  obtain ⟨n2,d2,p2,h2,w2⟩:=hf 2 _ rfl
  simp [show Tryz.prog.cellsOf 42=32 by kernel_rfl] at h2
  obtain ⟨x2,r2,_⟩:=opH42 h2 w2
  exact ⟨(x0,x1,x2),⟨[c0],[c1]++[c2,c3,c4,c5,c6,c7,c8,c9,c10,c11,c12,c13,c14,c15,c16,c17,c18,c19,c20,c21,c22,c23,c24,c25,c26,c27,c28,c29,c30,c31,c32,c33],rfl,r0,⟨[c1],[c2,c3,c4,c5,c6,c7,c8,c9,c10,c11,c12,c13,c14,c15,c16,c17,c18,c19,c20,c21,c22,c23,c24,c25,c26,c27,c28,c29,c30,c31,c32,c33],rfl,r1,r2⟩⟩,trivial⟩
theorem opH28:Opens Tryz.prog 28 (Cd.ty (.p (.i .u64) (.p (.i .u16) (.p (.p (.i .i64) (.p (.i .i64) (.p (.i .i64) (.i .i64)))) (.a (.p (.a .y) (.p (.a .y) (.p (.p .b .b) (.p (.p .b .b) (.p (.p .b .b) (.p (.p (.i .i64) (.i .i64)) (.p (.p (.p .b (.p (.i .i64) (.i .u32))) (.p (.p .b (.p (.i .i64) (.i .u32))) (.p (.p .b (.p (.i .i64) (.i .u32))) (.p .b (.p (.i .i64) (.i .u32)))))) (.p (.p .b (.p (.i .i64) (.i .u32))) (.p (.p .b (.p (.i .i64) (.i .u32))) (.p (.p .b (.p (.i .i64) (.i .u32))) (.p .b (.p (.i .i64) (.i .u32)))))))))))))))))) (fun _=>True):=by
 intro H enc w base spare held fuel cs d pl h hw
 obtain ⟨hlen,hf⟩:=struct_fields Tryz.underlying28 h hw
 rw [show Tryz.prog.cellsOf 28=7 by kernel_rfl] at hlen
 match cs,hlen with
 | [c0,c1,c2,c3,c4,c5,c6],_ =>
  obtain ⟨n0,d0,p0,h0,w0⟩:=hf 0 _ rfl
  simp [show Tryz.prog.cellsOf 22=1 by kernel_rfl] at h0
  obtain ⟨x0,r0,_⟩:=(opIR Tryz.underlying22) h0 w0
  obtain ⟨n1,d1,p1,h1,w1⟩:=hf 1 _ rfl
  simp [show Tryz.prog.cellsOf 23=1 by kernel_rfl] at h1
  obtain ⟨x1,r1,_⟩:=(opIR Tryz.underlying23) h1 w1
  obtain ⟨n2,d2,p2,h2,w2⟩:=hf 2 _ rfl
  simp [show Tryz.prog.cellsOf 25=4 by kernel_rfl] at h2
  obtain ⟨x2,r2,_⟩:=opH25 h2 w2
  obtain ⟨n3,d3,p3,h3,w3⟩:=hf 3 _ rfl
  simp [show Tryz.prog.cellsOf 26=1 by kernel_rfl] at h3
  obtain ⟨x3,r3,_⟩:=(opens_sized 264 (by kernel_rfl) opH44 Tryz.underlying26 (by kernel_rfl) (by kernel_rfl)) h3 w3
  exact ⟨(x0,x1,x2,x3),⟨[c0],[c1]++[c2,c3,c4,c5]++[c6],rfl,r0,⟨[c1],[c2,c3,c4,c5]++[c6],rfl,r1,⟨[c2,c3,c4,c5],[c6],rfl,r2,r3⟩⟩⟩,trivial⟩
theorem resyncReturns_lifted (os:Os) (started:os.Started) (H:Type) (enc:TypeId×Value→H) :
  ReturnsInHanded {} Tryz.checked os 4 .any (Rows.resyncReturnsSpec.pre6 enc Tryz.prog Tryz.f4 Rows.resyncReturnsRow.domain false) (Rows.resyncReturnsSpec.post enc Tryz.prog Tryz.f4 false true false false):=by
 refine returnsInHanded_of_change_sized (C:=Tryz.checked) Tryz.own started (by kernel_rfl) Tryz.func4
  (ChangeSpec.witness6 (enc:=enc) (C:=Tryz.checked) false ⟨#[],#[.agg #[.int .u64 0,.int .u16 0,.int .i64 0,.int .i64 0,.int .i64 0,.int .i64 0,.slice none 0 0]],[]⟩ 8 (by kernel_rfl) (by kernel_rfl) (by kernel_rfl) (by kernel_rfl)) ?_
 intro W base args ds gs before hval0 hW hcnd hsz0 _
 have hval:∀ (j:Nat) t v,Tryz.f4.params[j]? = some t→args[j]? = some v→Value.okWide Tryz.prog W .any base t v:=hval0
 have hW':=hW
 obtain ⟨p,q,hA0,hV,rfl,hfz,hnd⟩:=hW
 have hA:DataW.TrodAll enc Tryz.prog W 0 (fun _=>true) true Tryz.f4.params.toList args.toList ds p:=hA0
 have hA1:=hA
 rw [Tryz.params4] at hA hval
 obtain ⟨v0,vs0,d0,ds0,p0,q0,hargs,rfl,rfl,h0,r0⟩:=trodAll_cons hA
 obtain ⟨rfl,rfl,rfl⟩:=trodAll_nil r0
 obtain rfl:args = #[v0]:=by cases args;simp_all
 obtain ⟨rfl,rfl⟩:=trodVars_none hV
 have hsz:∀ m∈DataW.weightsEach Tryz.prog [28] [d0],m≤reachBytes:=fun m hm=>by
  have h9:(DataW.weightsEach Tryz.prog (Tryz.f4.params.toList++[]) ([d0]++[])).all (·≤reachBytes)=true:=hsz0
  rw [Tryz.params4,List.append_nil,List.append_nil] at h9
  have:=List.all_eq_true.1 h9 m hm
  simpa using this
 obtain ⟨u0,rfl,_⟩:=okWide_struct Tryz.underlying28 (hval 0 28 v0 rfl rfl)
 obtain ⟨f0,g0⟩:=h0
 obtain ⟨x0,z0,k0⟩:=opH28 g0 (fun m hm=>hsz m (DataW.weights_mem_each (j:=0) rfl rfl m hm))
 simp only [List.append_nil] at hW' hA1
 have hrun:=law_of_fok fo4 (t:=((x0.1,(x0.2.1,x0.2.2.1.1)),((x0.2.2.1.2.1,x0.2.2.1.2.2.1),(x0.2.2.1.2.2.2,x0.2.2.2)))) ((returns_law z0)) [.v (.agg (Cd.cv (.p (.i .u64) (.p (.i .u16) (.p (.p (.i .i64) (.p (.i .i64) (.p (.i .i64) (.i .i64)))) (.a (.p (.a .y) (.p (.a .y) (.p (.p .b .b) (.p (.p .b .b) (.p (.p .b .b) (.p (.p (.i .i64) (.i .i64)) (.p (.p (.p .b (.p (.i .i64) (.i .u32))) (.p (.p .b (.p (.i .i64) (.i .u32))) (.p (.p .b (.p (.i .i64) (.i .u32))) (.p .b (.p (.i .i64) (.i .u32)))))) (.p (.p .b (.p (.i .i64) (.i .u32))) (.p (.p .b (.p (.i .i64) (.i .u32))) (.p (.p .b (.p (.i .i64) (.i .u32))) (.p .b (.p (.i .i64) (.i .u32))))))))))))))))) x0))] rfl (W:=W) (gi_of W) (vs:=[.agg u0]) (⟨⟨u0.toList,by simp,Cd.cv_real (.p (.i .u64) (.p (.i .u16) (.p (.p (.i .i64) (.p (.i .i64) (.p (.i .i64) (.i .i64)))) (.a (.p (.a .y) (.p (.a .y) (.p (.p .b .b) (.p (.p .b .b) (.p (.p .b .b) (.p (.p (.i .i64) (.i .i64)) (.p (.p (.p .b (.p (.i .i64) (.i .u32))) (.p (.p .b (.p (.i .i64) (.i .u32))) (.p (.p .b (.p (.i .i64) (.i .u32))) (.p .b (.p (.i .i64) (.i .u32)))))) (.p (.p .b (.p (.i .i64) (.i .u32))) (.p (.p .b (.p (.i .i64) (.i .u32))) (.p (.p .b (.p (.i .i64) (.i .u32))) (.p .b (.p (.i .i64) (.i .u32))))))))))))))))) z0⟩,trivial⟩) rfl
 refine hrun.mono fun e W' ⟨he,hg⟩=>?_
 subst he
 exact ⟨_,rfl,law_post Tryz.laidOut (by intro t ht;simp only [Tryz.params4] at ht;revert t;decide +kernel) rfl rfl Tryz.underlying4 rfl hW' hA1 hg⟩
theorem resyncReturns_holds:Rows.ResyncReturnsSaid :=
 OpenClaim.holds_of_wide 4 Tryz.f4 rfl rfl rfl rfl rfl rfl rfl ⟨rfl,rfl,rfl,rfl,rfl⟩ rfl rfl rfl rfl rfl (by kernel_rfl) Tryz.func4 (by kernel_rfl)
  (of_decide_eq_true (by kernel_rfl)) (by unfold Func.isWrapper;first | (rw [if_pos (by decide +kernel)];kernel_rfl) | (rw [if_neg (by decide +kernel)];exact ⟨rfl,rfl⟩))
  (fun os started H enc _=>resyncReturns_lifted os started H enc)
end Go.Proofs.YtpleflcfaecojaaGreat
